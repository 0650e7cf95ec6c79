/- A worker's memory (mem.Mem) in the heap: its struct, its map of held pieces, their rows; and what its methods may change. -/
import Derived.Test.YtgigdhfdpabmoaaDoorWords
import Derived.Deep.QuietTactic
import Derived.BigQuiet
import Derived.Outline
import Derived.Deep.RegionHeld3
import Derived.Deep.RegionLaw
import Derived.WalkLawsBesides
import Derived.WalkSpells
import Derived.Deep.LoopGhost
import Derived.Deep.DeepCutAuto
import Derived.Deep.DeepFit
import Derived.Deep.DeepMust
import Derived.Deep.CutBlock
import Derived.Deep.RegionWith
namespace Go.Proofs.YtgigdhfdpabmoaaDoor
open Go.RowKit

/-- A held piece: its name, its block, its rows (where they lie), its pins. -/
structure Pc where
  id : Id3
  hb : Nat
  A : Option Addr
  cap : Nat
  rows : List Rw
  pins : Nat

/-- What methods of a memory may change: their own struct, held pieces, maps and iterators. -/
def muM : Obj → Bool
  | .cells _ e _ => e == 64 || e == 70
  | .map _ _ => true
  | .mapIter _ _ _ _ => true
  | _ => false

def pcK (p : Pc) : Id3 := p.id
def pcV (p : Pc) : Value := .pointer (some ⟨p.hb, 0, none⟩)

structure PcAt (B : Nat) (w : World) (p : Pc) : Prop where
  base : B ≤ p.hb
  blk : Bk w p.hb 70 #[.slice p.A p.rows.length p.cap, .int .i64 p.pins]
  cap : p.rows.length ≤ p.cap
  rows : Rd w B 58 2 p.A p.rows.length (rwsC p.rows)

structure MemAt (B : Nat) (w : World) (mb pb : Nat) (A : Option Addr) (cap : Nat) (max : Int) (ages : List Id3) (ps : List Pc) : Prop where
  bm : B ≤ mb
  bp : B ≤ pb
  blk : Bk w mb 64 #[.int .i64 max, .map (some pb), .slice A ages.length cap]
  cap : ages.length ≤ cap
  ages : Rd w B 24 3 A ages.length (idsC ages)
  map : MapIs idV w pb (ps.map fun p => (pcK p, pcV p))
  pcs : ∀ p ∈ ps, PcAt B w p
  nd : (ps.map (·.hb)).Nodup

section
variable {B : Nat} {w w' : World} {mb pb : Nat} {A : Option Addr} {cap : Nat} {max : Int} {ages : List Id3} {ps : List Pc} {p : Pc}
theorem PcAt.ext (h : PcAt B w p) (hb : Below w.heap.size w w') : PcAt B w' p := ⟨h.base, h.blk.ext hb, h.cap, h.rows.ext hb⟩
theorem MemAt.ext (h : MemAt B w mb pb A cap max ages ps) (hb : Below w.heap.size w w') : MemAt B w' mb pb A cap max ages ps :=
  ⟨h.bm, h.bp, h.blk.ext hb, h.cap, h.ages.ext hb, h.map.ext hb, fun p hp => (h.pcs p hp).ext hb, h.nd⟩
theorem MemAt.alloc (h : MemAt B w mb pb A cap max ages ps) (o : Obj) : MemAt B (w.alloc o) mb pb A cap max ages ps := h.ext ((Below.refl _ _).alloc (Nat.le_refl _) o)
theorem MemAt.drew (h : MemAt B w mb pb A cap max ages ps) : MemAt B w.drew mb pb A cap max ages ps := h.ext (Below.refl _ _).drew
theorem MemAt.drewN (h : MemAt B w mb pb A cap max ages ps) (n : Nat) : MemAt B (w.drewN n) mb pb A cap max ages ps := h.ext (below_drewN (Below.refl _ _) n)
theorem MemAt.c0 (h : MemAt B w mb pb A cap max ages ps) : w.cell? ⟨mb, 0, none⟩ = some (.int .i64 max) := by rw [h.blk.cell]; rfl
theorem MemAt.c1 (h : MemAt B w mb pb A cap max ages ps) : w.cell? ⟨mb, 1, none⟩ = some (.map (some pb)) := by rw [h.blk.cell]; rfl
theorem MemAt.c2 (h : MemAt B w mb pb A cap max ages ps) : w.cell? ⟨mb, 2, none⟩ = some (.slice A ages.length cap) := by rw [h.blk.cell]; rfl
theorem PcAt.c0 (h : PcAt B w p) : w.cell? ⟨p.hb, 0, none⟩ = some (.slice p.A p.rows.length p.cap) := by rw [h.blk.cell]; rfl
theorem PcAt.c1 (h : PcAt B w p) : w.cell? ⟨p.hb, 1, none⟩ = some (.int .i64 p.pins) := by rw [h.blk.cell]; rfl
theorem MemAt.keys (h : MemAt B w mb pb A cap max ages ps) : (ps.map pcK).Nodup := by simpa [List.map_map, Function.comp_def] using h.map.nodup
end

theorem MemAt.setAges {B : Nat} {w : World} {mb pb : Nat} {A : Option Addr} {cap : Nat} {max : Int} {ages : List Id3} {ps : List Pc} (h : MemAt B w mb pb A cap max ages ps) {A2 : Option Addr} {c2 : Nat} {l : List Id3} (hl : l.length ≤ c2) (hr : Rd w B 24 3 A2 l.length (idsC l)) :
    MemAt B (w.setCell ⟨mb, 2, none⟩ (.slice A2 l.length c2)) mb pb A2 c2 max l ps where
  bm := h.bm
  bp := h.bp
  blk := h.blk.set_ 2 _
  cap := hl
  ages := hr.farBk (p := ⟨mb, 2, none⟩) h.bm h.blk (by decide) _
  map := h.map.setCell _ _
  pcs p hp := ⟨(h.pcs p hp).base, (h.pcs p hp).blk.far (p := ⟨mb, 2, none⟩) ((h.pcs p hp).blk.ne_ h.blk (by decide)) _, (h.pcs p hp).cap, (h.pcs p hp).rows.farBk (p := ⟨mb, 2, none⟩) h.bm h.blk (by decide) _⟩
  nd := h.nd

/-- The piece of a name. -/
def pget (ps : List Pc) (x : Id3) : Option Pc := ps.find? (fun p => decide (p.id = x))
theorem mget_ps (ps : List Pc) (x : Id3) : mget (ps.map fun p => (pcK p, pcV p)) x = (pget ps x).map pcV := by
  unfold mget pget
  rw [List.find?_map, Option.map_map]
  rfl

theorem zero_held (w : World) : (zeroValue 65).run Tryd.prog w = .ok (.pointer none) w := by kernel_rfl

/-! ### small functions -/
set_option maxHeartbeats 400000 in
theorem size_c (A : Option Addr) (n c : Nat) (w : World) (hn : n ≤ 140737488351232) :
    Calls Tryd.prog 17 #[.slice A n c] w fun e w' => e = .returned (.int .i64 (8 + 16 * n)) ∧ w = w' := by
  go_enter Tryd.func17, Tryd.ntmps17
  go_wp2
  go_ret
  exact ⟨rfl, rfl⟩

/-- A fault of this package. -/
def ErrV (w : World) (v : Value) (at_ code : Int) : Prop := ∃ fb, v = .iface 79 (.pointer (some ⟨fb, 0, none⟩)) ∧ Bk w fb 82 #[.string ⟨#[109, 101, 109]⟩, .int .i64 at_, .iface 61 (.int .i64 code)]

def FaultPost (w : World) (at_ code : Int) (e : Ending) (w' : World) : Prop := ∃ v, e = .returned v ∧ ErrV w' v at_ code ∧ Below w.heap.size w w'
set_option maxHeartbeats 400000 in
theorem fault_c (at_ code : Int) (w : World) : Calls Tryd.prog 38 #[.int .i64 at_, .int .i64 code] w (FaultPost w at_ code) := by
  go_enter Tryd.func38, Tryd.ntmps38
  go_wp2
  go_ret
  exact ⟨_, rfl, ⟨_, rfl, Bk.new _ _ _⟩, ext_alloc (Below.refl _ _) _⟩

/-! ### Has -/
def BoolPost (w : World) (b : Bool) (e : Ending) (w' : World) : Prop := e = .returned (.bool b) ∧ Below w.heap.size w w'
set_option maxHeartbeats 400000 in
theorem has_c (B : Nat) (w : World) (mb pb : Nat) (A : Option Addr) (cap : Nat) (max : Int) (ages : List Id3) (ps : List Pc) (x : Id3) (h : MemAt B w mb pb A cap max ages ps) :
    Calls Tryd.prog 11 #[.pointer (some ⟨mb, 0, none⟩), idV x] w (BoolPost w (pget ps x).isSome) := by
  have h1 := h.c1
  have hlt := World.block_lt_of_cell? w _ h1
  have hl := fun n => ((h.map.alloc (.cells #[.int .i64 x.b, .int .i64 x.s, .int .i64 x.p] 24)).drewN n).lookup_ok idKey (t := 62) (e := 65) (by kernel_rfl) (zero_held _) x
  rw [mget_ps] at hl
  simp only [idV, Option.isSome_map] at hl
  generalize (pget ps x).isSome = ok at hl ⊢
  generalize ((Option.map pcV (pget ps x)).getD (.pointer none)) = v at hl
  clear h
  go_enter Tryd.func11, Tryd.ntmps11
  go_wp2
  go_quiet (fail)
  go_wp2
  go_ret
  exact ⟨rfl, below_drewN (ext_alloc (Below.refl _ _) _) _⟩
end Go.Proofs.YtgigdhfdpabmoaaDoor
