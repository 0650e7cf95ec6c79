/- Get, Pin, Unpin. -/
import Derived.Test.YtgigdhfdpabmoaaDoorMemC
namespace Go.Proofs.YtgigdhfdpabmoaaDoor
open Go.RowKit
attribute [local go_sem high] id_eqI

theorem pget_mem {ps : List Pc} {x : Id3} {p : Pc} (h : pget ps x = some p) : p ∈ ps ∧ p.id = x := by
  unfold pget at h
  exact ⟨List.mem_of_find?_eq_some h, by simpa using List.find?_some h⟩

def MissPost (w : World) (v : Value) (e : Ending) (w' : World) : Prop := e = .returned v ∧ Below w.heap.size w w'
def GetPost (B : Nat) (w : World) (mb pb : Nat) (max : Int) (ages : List Id3) (ps : List Pc) (rows : List Rw) (e : Ending) (w' : World) : Prop :=
  ∃ A c, e = .returned (.tuple #[.slice A rows.length c, .bool true]) ∧ (∃ A' cap', MemAt B w' mb pb A' cap' max ages ps) ∧
    w'.ownsRow w.heap.size 58 2 (.slice A rows.length c) rows.length (rwsC rows) ∧ rows.length ≤ c ∧ Chg muM B w w'

section
variable (B : Nat) (w : World) (mb pb : Nat) (A : Option Addr) (cap : Nat) (max : Int) (ages : List Id3) (ps : List Pc) (x : Id3)

/-- The look-up of a name, behind the box that holds it. -/
theorem look_at (h : MemAt B w mb pb A cap max ages ps) : ∀ n, (Instr.lookup 62 (.map (some pb)) (.agg #[.int .i64 x.b, .int .i64 x.s, .int .i64 x.p]) true).run Tryd.prog ((w.alloc (.cells #[.int .i64 x.b, .int .i64 x.s, .int .i64 x.p] 24)).drewN n)
    = .ok (.tuple #[((pget ps x).map pcV).getD (.pointer none), .bool (pget ps x).isSome]) ((w.alloc (.cells #[.int .i64 x.b, .int .i64 x.s, .int .i64 x.p] 24)).drewN n) := by
  intro n
  have hl := ((h.map.alloc (.cells #[.int .i64 x.b, .int .i64 x.s, .int .i64 x.p] 24)).drewN n).lookup_ok idKey (t := 62) (e := 65) (by kernel_rfl) (zero_held _) x
  rw [mget_ps] at hl
  simpa only [idV, Option.isSome_map] using hl

set_option maxHeartbeats 1000000 in
theorem get_miss (h : MemAt B w mb pb A cap max ages ps) (hp : pget ps x = none) :
    Calls Tryd.prog 7 #[.pointer (some ⟨mb, 0, none⟩), idV x] w (MissPost w (.tuple #[.slice none 0 0, .bool false])) := by
  have h1 := h.c1
  have hlt := h.blk.lt
  have hl := look_at B w mb pb A cap max ages ps x h
  rw [hp] at hl
  simp only [Option.map_none, Option.getD_none, Option.isSome_none] at hl
  clear h hp
  go_enter Tryd.func7, Tryd.ntmps7
  go_wp2
  go_quiet (fail)
  go_wp2
  go_ret2
  exact ⟨rfl, below_drewN (ext_alloc (Below.refl _ _) _) _⟩

set_option maxHeartbeats 1000000 in
theorem get_hit (h : MemAt B w mb pb A cap max ages ps) (hs : ages.length ≤ 1000000) (p : Pc) (hp : pget ps x = some p) (hr : p.rows.length ≤ 2147483648) :
    Calls Tryd.prog 7 #[.pointer (some ⟨mb, 0, none⟩), idV x] w (GetPost B w mb pb max (wo ages x ++ [x]) ps p.rows) := by
  have h1 := h.c1
  have hlt := h.blk.lt
  have hl := look_at B w mb pb A cap max ages ps x h
  rw [hp] at hl
  simp only [Option.map_some, Option.getD_some, Option.isSome_some, pcV] at hl
  have HM := Lib.hid h
  have hmem := (pget_mem hp).1
  clear h hp
  go_enter Tryd.func7, Tryd.ntmps7
  go_wp2
  go_quiet (fail)
  clear hl
  go_wp2_with (first
    | (go_at_call 39; refine (use_c B _ mb pb A cap max ages ps x ((HM.out.alloc _).drewN _) hs).mono ?_; rintro e w1 ⟨rfl, ⟨A1, cap1, hM1⟩, hC1⟩; have hP := hM1.pcs p hmem; have d0 := hP.c0)
    | (go_at_call 40; refine (clone_row_c B _ p.A p.cap p.rows hP.rows hr).mono ?_; rintro e w2 ⟨A2, c2, rfl, hown, hc2, hb⟩))
  go_ret2
  have hC : Chg muM B w w1 := (((Chg.refl _ _ _).alloc _).drewN _).trans hC1
  exact ⟨_, _, rfl, ⟨_, _, hM1.ext hb⟩, own_mono hown hC.size, hc2, hC.trans (Chg.of_below hb)⟩
end

/-! ### pins -/
def setPins (ps : List Pc) (x : Id3) (n : Nat) : List Pc := ps.map fun q => if q.id = x then { q with pins := n } else q
theorem setPins_keys (ps : List Pc) (x : Id3) (n : Nat) : (setPins ps x n).map (fun p => (pcK p, pcV p)) = ps.map fun p => (pcK p, pcV p) := by
  unfold setPins
  rw [List.map_map]
  refine List.map_congr_left fun q _ => ?_
  simp only [Function.comp_def]
  split <;> rfl
theorem setPins_hb (ps : List Pc) (x : Id3) (n : Nat) : (setPins ps x n).map (·.hb) = ps.map (·.hb) := by
  unfold setPins
  rw [List.map_map]
  refine List.map_congr_left fun q _ => ?_
  simp only [Function.comp_def]
  split <;> rfl
theorem nodup_inj {α β : Type} {f : α → β} : ∀ {l : List α}, (l.map f).Nodup → ∀ {a b : α}, a ∈ l → b ∈ l → f a = f b → a = b
  | [], _, _, _, h, _, _ => by cases h
  | c :: l, hn, a, b, ha, hb, he => by
    simp only [List.map_cons, List.nodup_cons] at hn
    rcases List.mem_cons.1 ha with e1 | ha' <;> rcases List.mem_cons.1 hb with e2 | hb'
    · rw [e1, e2]
    · exact absurd (by rw [← e1, he]; exact List.mem_map_of_mem hb') hn.1
    · exact absurd (by rw [← e2, ← he]; exact List.mem_map_of_mem ha') hn.1
    · exact nodup_inj hn.2 ha' hb' he

theorem MemAt.setPins {B : Nat} {w : World} {mb pb : Nat} {A : Option Addr} {cap : Nat} {max : Int} {ages : List Id3} {ps : List Pc} (h : MemAt B w mb pb A cap max ages ps) {p : Pc} (hp : p ∈ ps) (n : Nat) :
    MemAt B (w.setCell ⟨p.hb, 1, none⟩ (.int .i64 n)) mb pb A cap max ages (setPins ps p.id n) where
  bm := h.bm
  bp := h.bp
  blk := h.blk.far (p := ⟨p.hb, 1, none⟩) (h.blk.ne_ (h.pcs p hp).blk (by decide)) _
  cap := h.cap
  ages := h.ages.farBk (p := ⟨p.hb, 1, none⟩) (h.pcs p hp).base (h.pcs p hp).blk (by decide) _
  map := by rw [setPins_keys]; exact h.map.setCell _ _
  pcs q hq := by
    obtain ⟨q0, hq0, rfl⟩ := List.mem_map.1 hq
    have hr := (h.pcs q0 hq0).rows.farBk (p := ⟨p.hb, 1, none⟩) (h.pcs p hp).base (h.pcs p hp).blk (by decide) (.int .i64 n)
    by_cases he : q0.id = p.id
    · have : q0 = p := nodup_inj (f := pcK) h.keys hq0 hp he
      subst this
      rw [if_pos rfl]
      exact ⟨(h.pcs q0 hq0).base, (h.pcs q0 hq0).blk.set_ 1 _, (h.pcs q0 hq0).cap, hr⟩
    · rw [if_neg he]
      have hne : q0.hb ≠ p.hb := fun e => he (by rw [nodup_inj (f := fun p : Pc => p.hb) h.nd hq0 hp e])
      exact ⟨(h.pcs q0 hq0).base, (h.pcs q0 hq0).blk.far (p := ⟨p.hb, 1, none⟩) hne _, (h.pcs q0 hq0).cap, hr⟩
  nd := by rw [setPins_hb]; exact h.nd

section
variable (B : Nat) (w : World) (mb pb : Nat) (A : Option Addr) (cap : Nat) (max : Int) (ages : List Id3) (ps : List Pc) (x : Id3)
set_option maxHeartbeats 1000000 in
theorem pin_miss (h : MemAt B w mb pb A cap max ages ps) (hp : pget ps x = none) :
    Calls Tryd.prog 8 #[.pointer (some ⟨mb, 0, none⟩), idV x] w (MissPost w (.bool false)) := by
  have h1 := h.c1
  have hlt := h.blk.lt
  have hl := look_at B w mb pb A cap max ages ps x h
  rw [hp] at hl
  simp only [Option.map_none, Option.getD_none, Option.isSome_none] at hl
  clear h hp
  go_enter Tryd.func8, Tryd.ntmps8
  go_wp2
  go_quiet (fail)
  go_wp2
  go_ret
  exact ⟨rfl, below_drewN (ext_alloc (Below.refl _ _) _) _⟩

set_option maxHeartbeats 1000000 in
theorem pin_hit (h : MemAt B w mb pb A cap max ages ps) (hs : ages.length ≤ 1000000) (p : Pc) (hp : pget ps x = some p) (hr : p.pins ≤ 1000000) :
    Calls Tryd.prog 8 #[.pointer (some ⟨mb, 0, none⟩), idV x] w (MPost B w mb pb max (wo ages x ++ [x]) (setPins ps x (p.pins + 1)) (.bool true)) := by
  have h1 := h.c1
  have hlt := h.blk.lt
  have hl := look_at B w mb pb A cap max ages ps x h
  rw [hp] at hl
  simp only [Option.map_some, Option.getD_some, Option.isSome_some, pcV] at hl
  have HM := Lib.hid h
  obtain ⟨hmem, hid⟩ := pget_mem hp
  have hP := h.pcs p hmem
  have d1 := hP.c1
  have f1 := hP.blk.frozen 1
  have hpl := hP.blk.lt
  have HI := Lib.hid hid
  have HP := Lib.hid hP
  clear h hp hid hP
  go_enter Tryd.func8, Tryd.ntmps8
  go_wp2
  go_quiet (fail)
  clear hl
  go_wp2_with (first
    | (go_at_call 39; refine (use_c B _ mb pb A cap max ages (setPins ps x (p.pins + 1)) x (by rw [← HI.out]; exact ((HM.out.alloc _).drewN _).setPins hmem (p.pins + 1)) hs).mono ?_; rintro e w1 ⟨rfl, ⟨A1, cap1, hM1⟩, hC1⟩))
  go_ret
  exact ⟨rfl, ⟨_, _, hM1⟩, ((((Chg.refl _ _ _).alloc _).drewN _).set_ (p := ⟨p.hb, 1, none⟩) ((HP.out.blk.alloc _).drewN _) rfl HP.out.base _).trans hC1⟩

set_option maxHeartbeats 1000000 in
theorem unpin_miss (h : MemAt B w mb pb A cap max ages ps) (hp : pget ps x = none) :
    Calls Tryd.prog 27 #[.pointer (some ⟨mb, 0, none⟩), idV x] w (MissPost w (.bool false)) := by
  have h1 := h.c1
  have hlt := h.blk.lt
  have hl := look_at B w mb pb A cap max ages ps x h
  rw [hp] at hl
  simp only [Option.map_none, Option.getD_none, Option.isSome_none] at hl
  clear h hp
  go_enter Tryd.func27, Tryd.ntmps27
  go_wp2
  go_quiet (fail)
  go_wp2
  go_ret
  exact ⟨rfl, below_drewN (ext_alloc (Below.refl _ _) _) _⟩

set_option maxHeartbeats 1000000 in
theorem unpin_none (h : MemAt B w mb pb A cap max ages ps) (p : Pc) (hp : pget ps x = some p) (h0 : p.pins = 0) :
    Calls Tryd.prog 27 #[.pointer (some ⟨mb, 0, none⟩), idV x] w (MissPost w (.bool false)) := by
  have h1 := h.c1
  have hlt := h.blk.lt
  have hl := look_at B w mb pb A cap max ages ps x h
  rw [hp] at hl
  simp only [Option.map_some, Option.getD_some, Option.isSome_some, pcV] at hl
  obtain ⟨hmem, hid⟩ := pget_mem hp
  have hP := h.pcs p hmem
  have d1 := hP.c1
  rw [h0] at d1
  have hpl := hP.blk.lt
  clear h hp hid hP h0
  go_enter Tryd.func27, Tryd.ntmps27
  go_wp2
  go_quiet (fail)
  go_wp2
  go_ret
  exact ⟨rfl, below_drewN (ext_alloc (Below.refl _ _) _) _⟩

set_option maxHeartbeats 1000000 in
theorem unpin_hit (h : MemAt B w mb pb A cap max ages ps) (p : Pc) (hp : pget ps x = some p) (h0 : 0 < p.pins) (hr : p.pins ≤ 1000000) :
    Calls Tryd.prog 27 #[.pointer (some ⟨mb, 0, none⟩), idV x] w (MPost B w mb pb max ages (setPins ps x (p.pins - 1)) (.bool true)) := by
  have h1 := h.c1
  have hlt := h.blk.lt
  have hl := look_at B w mb pb A cap max ages ps x h
  rw [hp] at hl
  simp only [Option.map_some, Option.getD_some, Option.isSome_some, pcV] at hl
  have HM := Lib.hid h
  obtain ⟨hmem, hid⟩ := pget_mem hp
  have hP := h.pcs p hmem
  have d1 := hP.c1
  have f1 := hP.blk.frozen 1
  have hpl := hP.blk.lt
  have HI := Lib.hid hid
  have HP := Lib.hid hP
  have hz : ((p.pins : Int) == 0) = false := by simp; omega
  clear h hp hid hP
  go_enter Tryd.func27, Tryd.ntmps27
  go_wp2
  go_quiet (fail)
  clear hl
  go_wp2
  go_ret
  have hS := ((HM.out.alloc (.cells #[.int .i64 x.b, .int .i64 x.s, .int .i64 x.p] 24)).drewN nq).setPins hmem (p.pins - 1)
  rw [HI.out] at hS
  have hc : ((p.pins - 1 : Nat) : Int) = (p.pins : Int) - 1 := by omega
  rw [hc] at hS
  exact ⟨rfl, ⟨_, _, hS⟩, (((Chg.refl _ _ _).alloc _).drewN _).set_ (p := ⟨p.hb, 1, none⟩) ((HP.out.blk.alloc _).drewN _) rfl HP.out.base _⟩
end
end Go.Proofs.YtgigdhfdpabmoaaDoor
