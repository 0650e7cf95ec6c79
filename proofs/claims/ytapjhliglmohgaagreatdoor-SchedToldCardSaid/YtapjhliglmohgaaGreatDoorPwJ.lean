/- WalC, WalD, WalE, WalF, Sched: laid together. -/
import Derived.Test.YtapjhliglmohgaaGreatDoorPwI
import Derived.Test.YtapjhliglmohgaaGreatDoorPwB
import Derived.Test.YtapjhliglmohgaaGreatDoorPwF
/- The journal in memory: append. (Printed by mkwalapp.py.) -/
namespace Go.Proofs.YtapjhliglmohgaaGreatDoor
open Go.RowKit Go.Sort
/-- The journal, with its log. -/
def WalIs (B wb lb db life : Nat) (R : Nat → Prop) (x : WalD) (n next : Nat) (w : World) : Prop := (∃ bv cv xs, WalAt B wb lb R x bv cv xs w) ∧ LogAt w lb db life n next ∧ ¬ R lb ∧ B ≤ lb
section
variable {B wb lb db life n next : Nat} {R S : Nat → Prop} {x : WalD} {w w' : World}
theorem WalIs.fr (h : WalIs B wb lb db life R x n next w) (hf : Fr S w w') (hR : ∀ k, R k → ¬ S k) (hl : ¬ S lb) : WalIs B wb lb db life R x n next w' := by
 obtain ⟨⟨bv, cv, xs, h1⟩, h2, h3⟩ := h
 exact ⟨⟨bv, cv, xs, h1.fr hf hR⟩, h2.fr hf hl, h3⟩
theorem WalIs.ext (h : WalIs B wb lb db life R x n next w) (hb : Below w.heap.size w w') : WalIs B wb lb db life R x n next w' := h.fr (S := No) (Fr.of_below hb) (fun _ _ h => h) (fun h => h)
theorem WalIs.bd (h : WalIs B wb lb db life R x n next w) : (∀ k, R k → B ≤ k ∧ k < w.heap.size) ∧ B ≤ lb ∧ lb < w.heap.size := by
 obtain ⟨⟨bv, cv, xs, h1⟩, h2, h3, h4⟩ := h
 exact ⟨h1.bd, h4, h2.lt⟩
theorem WalIs.inn (h : WalIs B wb lb db life R x n next w) : WalIn x := by
 obtain ⟨⟨bv, cv, xs, h1⟩, _⟩ := h
 exact h1.inn
theorem WalIs.rw_ (h : WalIs B wb lb db life R x n next w) : R wb := by
 obtain ⟨⟨bv, cv, xs, h1⟩, _⟩ := h
 exact h1.rw_
end
/-- What a turn of the journal leaves: the error's number, the journal behind it, the disk. -/
def WTurn (B wb lb db life : Nat) (R Rq : Nat → Prop) (w w' : World) (x' : WalD) (n' next' : Nat) (d' : DiskD) : Prop :=
 ∃ R' Rq' : Nat → Prop, WalIs B wb lb db life R' x' n' next' w' ∧ DiskIs B db Rq' d' w' ∧ (∀ k, R' k → R k ∨ w.heap.size ≤ k) ∧ (∀ k, Rq' k → Rq k ∨ w.heap.size ≤ k) ∧ (∀ k, R' k → ¬ Rq' k) ∧ ¬ Rq' lb ∧ Fr (fun k => R k ∨ Rq k ∨ k = lb) w w'
structure WalPre (B wb lb db life : Nat) (R Rq : Nat → Prop) (x : WalD) (n next : Nat) (d : DiskD) (w : World) : Prop where
 wal : WalIs B wb lb db life R x n next w
 disk : DiskIs B db Rq d w
 apart : ∀ k, R k → ¬ Rq k
 lbd : ¬ Rq lb
 tv : TypeVar w
 tb : 0 < B
 ok : WalOk d x n next
 life : d.life + 1 ≤ 1000000
section
variable {B wb lb db life n next : Nat} {R Rq : Nat → Prop} {x : WalD} {d : DiskD}
theorem WalPre.ext {w w' : World} (h : WalPre B wb lb db life R Rq x n next d w) (hb : Below w.heap.size w w') : WalPre B wb lb db life R Rq x n next d w' :=
 ⟨h.wal.ext hb, h.disk.ext hb, h.apart, h.lbd, TypeVar.fr (S := No) h.tv (Fr.of_below hb) (fun h => h), h.tb, h.ok, h.life⟩
end
end Go.Proofs.YtapjhliglmohgaaGreatDoor
/- The journal: Block, Cut, Mark of the program. (Printed by mkwalpub.py.) -/
namespace Go.Proofs.YtapjhliglmohgaaGreatDoor
open Go.RowKit Go.Sort
section
variable {B wb lb db life n next : Nat} {R Rq : Nat → Prop} {x : WalD} {d : DiskD}
theorem WalPre.turn {w w' : World} (hp : WalPre B wb lb db life R Rq x n next d w) (hb : Below w.heap.size w w') : WTurn B wb lb db life R Rq w w' x n next d :=
 ⟨R, Rq, hp.wal.ext hb, hp.disk.ext hb, fun _ hk => .inl hk, fun _ hk => .inl hk, hp.apart, hp.lbd, Fr.of_below hb⟩
theorem WTurn.blk {w w' : World} {x' : WalD} {n' next' : Nat} {d' : DiskD} (h : WTurn B wb lb db life R Rq w w' x' n' next' d') : ∃ A c, w'.cell? ⟨wb, 1, none⟩ = some (.slice A x'.blocks.length c) ∧ wb < w'.heap.size := by
 obtain ⟨R', Rq', ⟨⟨bv, cv, xs, h1⟩, _⟩, _⟩ := h
 obtain ⟨A, c, _, h2, _⟩ := wBlocks_n _ h1
 exact ⟨A, c, h2, h1.bk.lt⟩
theorem WTurn.cut {w w' : World} {x' : WalD} {n' next' : Nat} {d' : DiskD} (h : WTurn B wb lb db life R Rq w w' x' n' next' d') : ∃ A c, w'.cell? ⟨wb, 2, none⟩ = some (.slice A x'.cuts.length c) ∧ wb < w'.heap.size := by
 obtain ⟨R', Rq', ⟨⟨bv, cv, xs, h1⟩, _⟩, _⟩ := h
 obtain ⟨A, c, rfl, _⟩ := own_shape h1.oc
 exact ⟨A, c, (h1.bk.cell 2).trans rfl, h1.bk.lt⟩
end
end Go.Proofs.YtapjhliglmohgaaGreatDoor
/- The journal: takes of the program, of a record of its own. (Printed by mkwaltakes.py.) -/
namespace Go.Proofs.YtapjhliglmohgaaGreatDoor
open Go.RowKit Go.Sort
section
variable {B wb lb : Nat} {R : Nat → Prop} {x : WalD} {bv cv : Value} {xs : List Ro}
end
end Go.Proofs.YtapjhliglmohgaaGreatDoor
/- The journal: Open of the program. -/
namespace Go.Proofs.YtapjhliglmohgaaGreatDoor
open Go.RowKit Go.Sort
section
variable {B wb lb : Nat} {R : Nat → Prop} {x : WalD} {bv cv : Value} {xs : List Ro}
end
section
variable {B db n next : Nat} {Rq : Nat → Prop} {d : DiskD} {x : WalD}
end
end Go.Proofs.YtapjhliglmohgaaGreatDoor
/- Who holds what, in memory: the Sched; Number, Known, Due. -/
namespace Go.Proofs.YtapjhliglmohgaaGreatDoor
open Go.RowKit Go.Sort
structure SchedD where
 every : Nat
 known : Int
 holds : List (Id3 × List Int)
 saved : List Id3
/-- Where a Sched's pieces lie. -/
structure SchX where
 wyb : Nat
 K : Option Addr
 kc : Nat
 Rw : Nat → Prop
 sA : Option Addr
 sc : Nat
 hb : Nat
 hm : List (Id3 × Nat × List Int)
 vb : Nat
def SchX.blk (X : SchX) (k : Nat) : Prop := k = X.hb ∨ k = X.vb ∨ ∃ y ∈ X.hm, k = y.2.1
structure SchedAt (B sb : Nat) (R : Nat → Prop) (p : PlanD) (A : Option Addr) (c : Nat) (X : SchX) (s : SchedD) (w : World) : Prop where
 bk : Bk w sb 112 #[.int .i64 p.parts, .slice A p.ops.length c, .pointer (some ⟨X.wyb, 0, none⟩), .slice X.sA (statesL p.ops).length X.sc, .int .i64 (s.every : Nat), .map (some X.hb), .map (some X.vb), .int .i64 s.known]
 ways : WaysIs B X.wyb X.Rw p A X.K c X.kc w
 st : w.ownsRow B 3 1 (.slice X.sA (statesL p.ops).length X.sc) (statesL p.ops).length (intsC (statesL p.ops))
 hold : MapIs idV w X.hb (X.hm.map fun y => (y.1, .map (some y.2.1)))
 hl : s.holds = X.hm.map fun y => (y.1, y.2.2)
 inn : ∀ y ∈ X.hm, MapIs inV w y.2.1 (y.2.2.map fun n => (n, .int .i64 1))
 nd : (X.hm.map (·.2.1)).Nodup
 sv : MapIs idV w X.vb (s.saved.map fun x => (x, .int .i64 1))
 hv : X.hb ≠ X.vb
 hi : ∀ y ∈ X.hm, y.2.1 ≠ X.hb ∧ y.2.1 ≠ X.vb
 rs : R sb ∧ ¬ X.Rw sb
 rb : ∀ k, X.blk k → R k ∧ ¬ X.Rw k
 rw_ : ∀ k, X.Rw k → R k
 rt : ∀ k, (Value.slice X.sA (statesL p.ops).length X.sc).ownBlock = some k → R k ∧ ¬ X.Rw k
 bd : ∀ k, R k → B ≤ k ∧ k < w.heap.size
 known : 0 ≤ s.known ∧ s.known ≤ 9223372036854775807
 every : 1 ≤ s.every ∧ s.every ≤ 8
 plan : checkD p = none
def SchedIs (B sb : Nat) (R : Nat → Prop) (p : PlanD) (A : Option Addr) (c : Nat) (s : SchedD) (w : World) : Prop := ∃ X, SchedAt B sb R p A c X s w
section
variable {B sb : Nat} {R S : Nat → Prop} {p : PlanD} {A : Option Addr} {c : Nat} {X : SchX} {s : SchedD} {w w' : World}
theorem SchedAt.fr (h : SchedAt B sb R p A c X s w) (hf : Fr S w w') (hR : ∀ k, R k → ¬ S k) (hB : ∀ k, k < B → ¬ S k) : SchedAt B sb R p A c X s w' :=
 ⟨h.bk.fr hf (hR _ h.rs.1), h.ways.fr hf (fun k hk => hR k (h.rw_ k hk)) hB, own_fr h.st hf (fun k hk => hR k (h.rt k hk).1), h.hold.fr hf (hR _ (h.rb _ (.inl rfl)).1), h.hl, fun y hy => (h.inn y hy).fr hf (hR _ (h.rb _ (.inr (.inr ⟨y, hy, rfl⟩))).1), h.nd, h.sv.fr hf (hR _ (h.rb _ (.inr (.inl rfl))).1), h.hv, h.hi, h.rs, h.rb, h.rw_, h.rt, fun k hk => ⟨(h.bd k hk).1, Nat.lt_of_lt_of_le (h.bd k hk).2 hf.size⟩, h.known, h.every, h.plan⟩
theorem SchedIs.fr (h : SchedIs B sb R p A c s w) (hf : Fr S w w') (hR : ∀ k, R k → ¬ S k) (hB : ∀ k, k < B → ¬ S k) : SchedIs B sb R p A c s w' := by
 obtain ⟨X, h⟩ := h
 exact ⟨X, h.fr hf hR hB⟩
theorem SchedIs.ext (h : SchedIs B sb R p A c s w) (hb : Below w.heap.size w w') : SchedIs B sb R p A c s w' := h.fr (S := No) (Fr.of_below hb) (fun _ _ h => h) (fun _ _ h => h)
theorem SchedAt.ext (h : SchedAt B sb R p A c X s w) (hb : Below w.heap.size w w') : SchedAt B sb R p A c X s w' := h.fr (S := No) (Fr.of_below hb) (fun _ _ h => h) (fun _ _ h => h)
/-- A cell of the Sched's own block is set: what else it holds stays. -/
theorem SchedAt.put (h : SchedAt B sb R p A c X s w) (n : Int) (hn : 0 ≤ n ∧ n ≤ 9223372036854775807) : SchedAt B sb R p A c X ⟨s.every, n, s.holds, s.saved⟩ (w.setCell ⟨sb, 7, none⟩ (.int .i64 n)) := by
 have hf := Fr.one w sb 7 (.int .i64 n)
 have hBs := (h.bd _ h.rs.1).1
 refine ⟨h.bk.set_ 7 _, h.ways.fr hf (fun k hk e => h.rs.2 (e ▸ hk)) (fun k hk e => by omega), own_far h.bk h.st (by decide) 7 _, h.hold.setCell _ _, h.hl, fun y hy => (h.inn y hy).setCell _ _, h.nd, h.sv.setCell _ _, h.hv, h.hi, h.rs, h.rb, h.rw_, h.rt, fun k hk => ?_, hn, h.every, h.plan⟩
 simpa using h.bd k hk
end
def STurn (B sb : Nat) (R : Nat → Prop) (p : PlanD) (A : Option Addr) (c : Nat) (s' : SchedD) (w : World) (e : Ending) (w' : World) : Prop :=
 e = .returned (.tuple #[]) ∧ ∃ R' : Nat → Prop, SchedIs B sb R' p A c s' w' ∧ Fr R w w' ∧ ∀ k, R' k → R k ∨ w.heap.size ≤ k
section
variable {B sb : Nat} {R : Nat → Prop} {p : PlanD} {A : Option Addr} {c : Nat} {s : SchedD}
set_option maxHeartbeats 4000000 in
theorem known_c (n : Int) (w : World) (h : SchedIs B sb R p A c s w) (hn : n ≤ 9223372036854775807) : Calls Tryz.prog 12 #[.pointer (some ⟨sb, 0, none⟩), .int .i64 n] w (STurn B sb R p A c ⟨s.every, max s.known n, s.holds, s.saved⟩ w) := by
 obtain ⟨X, h⟩ := h
 have z7 : w.cell? ⟨sb, 7, none⟩ = some (.int .i64 s.known) := (h.bk.cell 7).trans rfl
 have f7 := h.bk.frozen 7
 have hl := h.bk.lt
 have hk := h.known
 have H := Lib.hid h
 clear h
 by_cases hm : s.known < n
 · have HM := Lib.hid (show max s.known n = n by omega)
   go_enter Tryz.func12, Tryz.ntmps12
   go_wp2_with fail
   go_returns
   rw [HM.out]
   exact ⟨rfl, R, ⟨X, H.out.put n (by omega)⟩, Fr.refl.set_ (.inl H.out.rs.1) _, fun k hk => .inl hk⟩
 · have HM := Lib.hid (show max s.known n = s.known by omega)
   go_enter Tryz.func12, Tryz.ntmps12
   go_wp2_with fail
   go_returns
   rw [HM.out]
   exact ⟨rfl, R, ⟨X, H.out.put s.known hk⟩, Fr.refl.set_ (.inl H.out.rs.1) _, fun k hk => .inl hk⟩
end
def dueD (every : Nat) (known : Int) (mark : Nat) : Nat := if known < ((mark + every - mark % every : Nat) : Int) ∨ 60 < mark + every - mark % every then 0 else mark + every - mark % every
section
variable {B sb : Nat} {R : Nat → Prop} {p : PlanD} {A : Option Addr} {c : Nat} {s : SchedD}
end
end Go.Proofs.YtapjhliglmohgaaGreatDoor
