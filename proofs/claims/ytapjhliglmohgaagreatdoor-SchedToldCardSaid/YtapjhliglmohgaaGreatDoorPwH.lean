/- ErrF, LogB, LogC, LogD, LogE, LogF: laid together. -/
import Derived.Test.YtapjhliglmohgaaGreatDoorPwB
import Derived.Test.YtapjhliglmohgaaGreatDoorPwG
/- errors.As of a *api.Fault, by walks; of nil. -/
namespace Go.Proofs.YtapjhliglmohgaaGreatDoor
open Go.RowKit Go.Extern.Stop Go.Stop Go.Extern
end Go.Proofs.YtapjhliglmohgaaGreatDoor
/- Records on a disk: fault, Blocks, head, block of the program. -/
namespace Go.Proofs.YtapjhliglmohgaaGreatDoor
open Go.RowKit Go.Sort
end Go.Proofs.YtapjhliglmohgaaGreatDoor
/- Records on a disk: block of the program. -/
namespace Go.Proofs.YtapjhliglmohgaaGreatDoor
open Go.RowKit Go.Sort
end Go.Proofs.YtapjhliglmohgaaGreatDoor
/- Records on a disk: the log in memory; Gone, Left. -/
namespace Go.Proofs.YtapjhliglmohgaaGreatDoor
open Go.RowKit Go.Sort
/-- The log: its block; the life of its disk when it was opened, how many records there are, the block behind them. -/
def LogAt (w : World) (lb db life n next : Nat) : Prop := Bk w lb 244 #[.pointer (some ⟨db, 0, none⟩), .int .i64 (life : Nat), .int .i64 (n : Nat), .int .i64 (next : Nat)]
section
variable {B db lb life n next : Nat} {R : Nat → Prop} {d : DiskD}
theorem DiskIs.drewN {w : World} (h : DiskIs B db R d w) (k : Nat) : DiskIs B db R d (w.drewN k) := h.ext (below_drewN (Below.refl _ _) k)
end
end Go.Proofs.YtapjhliglmohgaaGreatDoor
/- Records on a disk: Open of the program. -/
namespace Go.Proofs.YtapjhliglmohgaaGreatDoor
open Go.RowKit Go.Sort
/-- A slice of bytes, of its own. -/
structure By where
 A : Option Addr
 c : Nat
 l : List Nat
/-- A record that was read whole: in a block of bytes below b0. -/
def Fin_ (w : World) (b0 : Nat) (x : By) : Prop := Rd w 0 5 1 x.A x.l.length (x.l.flatMap byC) ∧ (0 < x.l.length → ∃ ad, x.A = some ad ∧ ad.block < b0)
theorem Fin_.ext {w w' : World} {b0 : Nat} {x : By} (h : Fin_ w b0 x) (hb : Below w.heap.size w w') : Fin_ w' b0 x := ⟨h.1.ext hb, h.2⟩
theorem Fin_.mono {w : World} {b0 b1 : Nat} {x : By} (h : Fin_ w b0 x) (hb : b0 ≤ b1) : Fin_ w b1 x := ⟨h.1, fun h0 => by obtain ⟨ad, h1, h2⟩ := h.2 h0; exact ⟨ad, h1, by omega⟩⟩
theorem Fin_.grown {w w' : World} {b0 : Nat} {x : By} {row : Option Nat} (h : Fin_ w b0 x) (hg : w.grownBy w' row) (hr : ∀ k, row = some k → b0 ≤ k) : Fin_ w' b0 x :=
 ⟨h.1.same fun h0 ad hA hl => by
   obtain ⟨ad', hA', hb⟩ := h.2 h0
   rw [hA] at hA'
   injection hA' with hA'
   subst hA'
   exact hg.block _ hl (fun e => by have := hr _ e.symm; omega), h.2⟩
theorem Fin_.grownOwn {w w' : World} {b0 base z m : Nat} {x : By} {e : TypeId} {v : Value} {ys : List Value} (h : Fin_ w b0 x) (hown : w.ownsRow base e z v m ys) (hne : e ≠ 5) (hg : w.grownBy w' v.ownBlock) : Fin_ w' b0 x := ⟨h.1.grownOwn hown hne (Nat.zero_le _) hg, h.2⟩
section
variable {B db : Nat} {R : Nat → Prop} {d : DiskD}
end
end Go.Proofs.YtapjhliglmohgaaGreatDoor
/- Records on a disk: Append of the program. -/
namespace Go.Proofs.YtapjhliglmohgaaGreatDoor
open Go.RowKit Go.Sort
theorem TypeVar.fr {S : Nat → Prop} {w w' : World} (h : TypeVar w) (hf : Fr S w w') (hn : ¬ S 0) : TypeVar w' := by
 have hl := World.block_lt_of_cell? w _ h
 exact (World.cell?_of_block (a := ⟨0, 0, none⟩) (hf.block _ hl hn)).trans h
theorem RdS.sub {w : World} {S : Nat → Prop} {ad : Addr} {n u m : Nat} {xs : List Value} (h : RdS w S 1 (some ad) n xs) (hu : u + m ≤ n) : RdS w S 1 (some (ad.add (u * 1))) m ((xs.drop u).take m) := by
 have hl := h.1
 refine ⟨by rw [List.length_take, List.length_drop]; omega, fun h0 => ?_⟩
 obtain ⟨ad', hA, hS, hlt, hc⟩ := h.2 (by omega)
 injection hA with hA
 subst hA
 refine ⟨_, rfl, by rw [block_of_add]; exact hS, by rw [block_of_add]; exact hlt, fun j v hv => ?_⟩
 rw [List.getElem?_take] at hv
 split at hv
 · rw [List.getElem?_drop] at hv
   have := hc (u + j) v hv
   rw [add_of_add, Nat.mul_one]
   exact this
 · cases hv
section
variable {B db lb life n next : Nat} {R : Nat → Prop} {d : DiskD}
end
end Go.Proofs.YtapjhliglmohgaaGreatDoor
