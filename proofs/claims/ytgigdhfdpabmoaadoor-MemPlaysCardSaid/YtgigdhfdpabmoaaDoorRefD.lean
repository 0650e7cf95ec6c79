/- The document's memory: Get, Pin, Unpin, Drop, Ages. -/
import Derived.Test.YtgigdhfdpabmoaaDoorRefC
namespace Go.Proofs.YtgigdhfdpabmoaaDoor
open Go.RowKit Go.Sort
attribute [local go_sem high] id_eqI

theorem rix_cases (l : List Rc) (x : Id3) : (rix l x = -1 ∧ ∀ c ∈ l, c.id ≠ x) ∨ ∃ i y, rix l x = (i : Nat) ∧ l[i]? = some y ∧ y.id = x ∧ ∀ j c, j < i → l[j]? = some c → c.id ≠ x := by
  cases h : l.findIdx? (fun c => decide (c.id = x)) with
  | none =>
    left
    have h1 := List.findIdx?_eq_none_iff.1 h
    have h2 : ∀ c ∈ l, c.id ≠ x := fun c hc => by simpa using h1 c hc
    exact ⟨rix_miss h2, h2⟩
  | some i =>
    right
    obtain ⟨hi, h1, h2⟩ := List.findIdx?_eq_some_iff_getElem.1 h
    have h3 : ∀ j c, j < i → l[j]? = some c → c.id ≠ x := fun j c hj hc => by
      have h4 := h2 j hj
      have h5 := List.getElem?_eq_some_iff.1 hc
      rw [h5.2] at h4
      simpa using h4
    refine ⟨i, l[i], rix_hit (List.getElem?_eq_getElem hi) (by simpa using h1) h3, List.getElem?_eq_getElem hi, by simpa using h1, h3⟩

set_option maxHeartbeats 1000000 in
theorem rdrop_miss (B : Nat) (w : World) (rb : Nat) (A : Option Addr) (cap : Nat) (max : Int) (l : List Rc) (x : Id3) (h : RAt B w rb A cap max l) (hl : l.length ≤ 1000000) (hx : rix l x = -1) :
    Calls Tryd.prog 30 #[.pointer (some ⟨rb, 0, none⟩), idV x] w (BoolPost w false) := by
  have hat := at_c B (w.alloc (.cells #[.int .i64 x.b, .int .i64 x.s, .int .i64 x.p] 24)) rb A cap max l x (h.alloc _) hl
  rw [hx] at hat
  have HA := Lib.hid hat
  clear hat hx h
  go_enter Tryd.func30, Tryd.ntmps30
  go_wp2_with (first | (go_at_call 45; refine HA.out.mono ?_; rintro e w1 ⟨rfl, hb1⟩))
  go_ret
  exact ⟨rfl, ext_trans (ext_alloc (Below.refl _ _) _) hb1⟩
set_option maxHeartbeats 1000000 in
theorem rdrop_hit (B : Nat) (w : World) (rb : Nat) (A : Option Addr) (cap : Nat) (max : Int) (l : List Rc) (x : Id3) (i : Nat) (h : RAt B w rb A cap max l) (hl : l.length ≤ 1000000) (hx : rix l x = (i : Nat)) (hi : i < l.length) :
    Calls Tryd.prog 30 #[.pointer (some ⟨rb, 0, none⟩), idV x] w (RPost muS B w rb max (cut l i) (.bool true)) := by
  have hat := at_c B (w.alloc (.cells #[.int .i64 x.b, .int .i64 x.s, .int .i64 x.p] 24)) rb A cap max l x (h.alloc _) hl
  rw [hx] at hat
  have HA := Lib.hid hat
  have HR := Lib.hid h
  have hi0 : ¬ ((i : Nat) : Int) < 0 := by omega
  clear hat hx h
  go_enter Tryd.func30, Tryd.ntmps30
  go_wp2_with (first
    | (go_at_call 45; refine HA.out.mono ?_; rintro e w1 ⟨rfl, hb1⟩; have HB1 := Lib.hid hb1; clear hb1)
    | (go_at_call 47; refine (take_c B _ rb A cap max l i ((HR.out.alloc _).ext HB1.out) hl hi).mono ?_; rintro e w2 ⟨rfl, ⟨A2, c2, hR2, _⟩, hC2⟩))
  go_ret
  exact ⟨rfl, ⟨A2, c2, hR2⟩, (Chg.of_below (ext_trans (ext_alloc (Below.refl _ _) _) HB1.out)).trans hC2⟩

def RGetPost (B : Nat) (w : World) (rb : Nat) (max : Int) (l : List Rc) (y : Rc) (e : Ending) (w' : World) : Prop :=
  e = .returned (.tuple #[.slice y.A y.rows.length y.cap, .bool true]) ∧ (∃ A cap, RAt B w' rb A cap max l) ∧ Chg muS B w w'
set_option maxHeartbeats 1000000 in
theorem rget_miss (B : Nat) (w : World) (rb : Nat) (A : Option Addr) (cap : Nat) (max : Int) (l : List Rc) (x : Id3) (h : RAt B w rb A cap max l) (hl : l.length ≤ 1000000) (hx : rix l x = -1) :
    Calls Tryd.prog 24 #[.pointer (some ⟨rb, 0, none⟩), idV x] w (MissPost w (.tuple #[.slice none 0 0, .bool false])) := by
  have hat := at_c B (w.alloc (.cells #[.int .i64 x.b, .int .i64 x.s, .int .i64 x.p] 24)) rb A cap max l x (h.alloc _) hl
  rw [hx] at hat
  have HA := Lib.hid hat
  clear hat hx h
  go_enter Tryd.func24, Tryd.ntmps24
  go_wp2_with (first | (go_at_call 45; refine HA.out.mono ?_; rintro e w1 ⟨rfl, hb1⟩))
  go_ret2
  exact ⟨rfl, ext_trans (ext_alloc (Below.refl _ _) _) hb1⟩
set_option maxHeartbeats 1000000 in
theorem rget_hit (B : Nat) (w : World) (rb : Nat) (A : Option Addr) (cap : Nat) (max : Int) (l : List Rc) (x : Id3) (i : Nat) (y : Rc) (h : RAt B w rb A cap max l) (hl : l.length ≤ 1000000) (hx : rix l x = (i : Nat)) (hy : l[i]? = some y) :
    Calls Tryd.prog 24 #[.pointer (some ⟨rb, 0, none⟩), idV x] w (RGetPost B w rb max (cut l i ++ [y]) y) := by
  have hi : i < l.length := (List.getElem?_eq_some_iff.1 hy).1
  have hcl : (cut l i).length + 1 = l.length := by simp [cut]; omega
  have hlast : (cut l i ++ [y])[(cut l i).length]? = some y := by simp
  have hat := at_c B (w.alloc (.cells #[.int .i64 x.b, .int .i64 x.s, .int .i64 x.p] 24)) rb A cap max l x (h.alloc _) hl
  rw [hx] at hat
  have HA := Lib.hid hat
  have HR := Lib.hid h
  have HY := Lib.hid hy
  have hi0 : ¬ ((i : Nat) : Int) < 0 := by omega
  have hlen : (cut l i ++ [y]).length = l.length := by rw [List.length_append, List.length_singleton]; exact hcl
  have HLEN := Lib.hid hlen
  have HLAST := Lib.hid hlast
  generalize hN : (cut l i).length = N at hcl hlast
  have hW : IntKind.i64.wrap ((l.length : Int) - 1) = (N : Nat) := by rw [show (l.length : Int) - 1 = (N : Nat) by omega]; exact IntWalk.i64_in _ (by omega)
  have hNl : N < l.length := by omega
  have HN := Lib.hid hN
  have HCL := Lib.hid hcl
  clear hat hx h hy hlast hlen hN hcl
  go_enter Tryd.func24, Tryd.ntmps24
  go_upto_region 5 with (first
    | (go_at_call 45; refine HA.out.mono ?_; rintro e w1 ⟨rfl, hb1⟩; have HB1 := Lib.hid hb1; clear hb1)
    | (go_at_call 46; refine (ruse_c B _ rb A cap max l i y ((HR.out.alloc _).ext HB1.out) hl HY.out).mono ?_; rintro e w2 ⟨rfl, ⟨A2, c2, hR2, _⟩, hC2⟩; have HR2 := Lib.hid hR2; have HC2 := Lib.hid hC2; have r2 := hR2.c1; rw [HLEN.out] at r2; clear hR2 hC2))
  obtain ⟨ad, rfl, d0, d1, d2, d3, d4⟩ := (Rd.of_own (B := B) HR2.out.own).rcs (by have h := HLAST.out; rw [HN.out] at h; exact h) (by rw [HLEN.out]; exact hNl)
  go_quiet (fail)
  go_wp2
  go_ret2
  exact ⟨rfl, ⟨_, c2, HR2.out.drewN _⟩, ((Chg.of_below (ext_trans (ext_alloc (Below.refl _ _) _) HB1.out)).trans HC2.out).drewN _⟩
end Go.Proofs.YtgigdhfdpabmoaaDoor
