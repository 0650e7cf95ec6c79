/- The document's memory: what only reads: Size, Used, Pins, Has, Ages. -/
import Derived.Test.YtgigdhfdpabmoaaDoorRefB
namespace Go.Proofs.YtgigdhfdpabmoaaDoor
open Go.RowKit Go.Sort
attribute [local go_sem high] id_eqI

def rcT (c : Rc) : Id3 × List Rw := (c.id, c.rows)
theorem rsize_c (A : Option Addr) (n c : Nat) (w : World) (hn : n ≤ 140737488351232) :
    Calls Tryd.prog 23 #[.slice A n c] w fun e w' => e = .returned (.int .i64 (8 + 16 * n)) ∧ w = w' := by
  go_enter Tryd.func23, Tryd.ntmps23
  go_wp2
  go_ret
  exact ⟨by go_num, rfl⟩

set_option maxHeartbeats 1000000 in
theorem rused_c (B : Nat) (w : World) (rb : Nat) (A : Option Addr) (cap : Nat) (max : Int) (l : List Rc) (h : RAt B w rb A cap max l) (hl : l.length ≤ 1000000) (hu : usedT (l.map rcT) ≤ 140737488351232) :
    Calls Tryd.prog 32 #[.pointer (some ⟨rb, 0, none⟩)] w (IntPost w (usedT (l.map rcT) : Nat)) := by
  have c1 := h.c1
  have hlt := h.blk.lt
  have HR := Lib.hid h
  obtain ⟨S, HS0, HSN, HSS, HSL⟩ : ∃ S : Nat → Nat, Hid (S 0 = 0) ∧ Hid (S l.length = usedT (l.map rcT)) ∧ Hid (∀ (j : Nat) (z : Rc), l[j]? = some z → S (j + 1) = S j + szR z.rows) ∧ Hid (∀ j, S j ≤ usedT (l.map rcT)) :=
    ⟨fun j => usedT ((l.take j).map rcT), Lib.hid rfl, Lib.hid (by simp only [List.take_length]), Lib.hid (fun j z hz => by simp only [take_succ_of hz, List.map_append, usedT_append]; simp [usedT, rcT]), Lib.hid (fun j => by
      show usedT ((l.take j).map rcT) ≤ _
      have h := usedT_append ((l.take j).map rcT) ((l.drop j).map rcT)
      rw [← List.map_append, List.take_append_drop] at h
      omega)⟩
  clear h
  go_enter Tryd.func32, Tryd.ntmps32
  go_wp2
  go_loopg [3, 4] l.length (fun k v3 v4 wr => ∃ j, j + k = l.length ∧ v4 = .int .i64 (j : Nat) ∧ v3 = .int .i64 (S j : Nat) ∧ wr = w)
  case atStart => exact ⟨0, by simp, rfl, by rw [HS0.out]; rfl, rfl⟩
  case round =>
    obtain ⟨j, hk, rfl, rfl, rfl⟩ := hrel
    by_cases hj : j < l.length
    · have hz : l[j]? = some (l[j]) := List.getElem?_eq_getElem hj
      generalize l[j] = z at hz
      obtain ⟨ad, rfl, d0, d1, d2, d3, d4⟩ := (Rd.of_own (B := B) HR.out.own).rcs hz hj
      have hsum := HSS.out j z hz
      have hle := HSL.out (j + 1)
      have hszz : szR z.rows = 8 + 16 * z.rows.length := rfl
      have hzl : z.rows.length ≤ 140737488351232 := by omega
      have hW2 : wrap64 ((S j : Int) + (8 + 16 * (z.rows.length : Int))) = (S (j + 1) : Nat) := by rw [show ((S j : Int) + (8 + 16 * (z.rows.length : Int))) = (S (j + 1) : Nat) by omega]; exact IntWalk.wrap64_in _ (by omega)
      clear hz hsum hle hszz
      go_wp2_with (first | (go_at_call 23; refine (rsize_c _ _ _ _ hzl).mono ?_; rintro e w' ⟨rfl, rfl⟩))
      go_roundg (gk - 1)
      case measure => omega
      case rel => exact ⟨j + 1, by omega, by go_num, by first | rfl | exact congrArg _ hW2, rfl⟩
    · have hjl : j = l.length := by omega
      subst hjl
      go_wp2
      go_ret
      exact ⟨by rw [← HSN.out]; rfl, Below.refl _ _⟩

set_option maxHeartbeats 1000000 in
theorem rhas_c (B : Nat) (w : World) (rb : Nat) (A : Option Addr) (cap : Nat) (max : Int) (l : List Rc) (x : Id3) (h : RAt B w rb A cap max l) (hl : l.length ≤ 1000000) :
    Calls Tryd.prog 25 #[.pointer (some ⟨rb, 0, none⟩), idV x] w (BoolPost w (decide (0 ≤ rix l x))) := by
  go_enter Tryd.func25, Tryd.ntmps25
  go_wp2_with (first | (go_at_call 45; refine (at_c B _ rb A cap max l x (h.alloc _) hl).mono ?_; rintro e w1 ⟨rfl, hb1⟩))
  go_ret
  exact ⟨by simp, ext_trans (ext_alloc (Below.refl _ _) _) hb1⟩

def pinsR (l : List Rc) : Nat := (l.filter fun c => decide (0 < c.pins)).length
theorem pinsR_take {l : List Rc} {i : Nat} {y : Rc} (h : l[i]? = some y) : pinsR (l.take (i + 1)) = pinsR (l.take i) + if 0 < y.pins then 1 else 0 := by
  unfold pinsR
  rw [take_succ_of h, List.filter_append, List.length_append]
  congr 1
  by_cases hp : 0 < y.pins <;> simp [hp]
set_option maxHeartbeats 1000000 in
theorem rpins_c (B : Nat) (w : World) (rb : Nat) (A : Option Addr) (cap : Nat) (max : Int) (l : List Rc) (h : RAt B w rb A cap max l) (hl : l.length ≤ 1000000) :
    Calls Tryd.prog 34 #[.pointer (some ⟨rb, 0, none⟩)] w (IntPost w (pinsR l : Nat)) := by
  have c1 := h.c1
  have hlt := h.blk.lt
  have HR := Lib.hid h
  clear h
  go_enter Tryd.func34, Tryd.ntmps34
  go_wp2
  go_loopg [3, 4] l.length (fun k v3 v4 wr => ∃ j s, j + k = l.length ∧ v4 = .int .i64 (j : Nat) ∧ v3 = .int .i64 (s : Nat) ∧ Hid (s = pinsR (l.take j)) ∧ s ≤ j ∧ wr = w)
  case atStart => exact ⟨0, 0, by simp, rfl, rfl, rfl, Nat.le_refl _, rfl⟩
  case round =>
    obtain ⟨j, s, hk, rfl, rfl, hs, hsj, rfl⟩ := hrel
    by_cases hj : j < l.length
    · have hz : l[j]? = some (l[j]) := List.getElem?_eq_getElem hj
      generalize l[j] = z at hz
      obtain ⟨ad, rfl, d0, d1, d2, d3, d4⟩ := (Rd.of_own (B := B) HR.out.own).rcs hz hj
      have HZ := Lib.hid (pinsR_take hz)
      clear hz
      by_cases hp : 0 < z.pins
      · have hp' : (0 : Int) < ((z.pins : Nat) : Int) := by omega
        have HP := Lib.hid hp
        clear hp
        go_wp2
        go_roundg (gk - 1)
        case measure => omega
        case rel => exact ⟨j + 1, s + 1, by omega, by go_num, by go_num, Lib.hid (by rw [HZ.out, if_pos HP.out, hs.out]), by omega, rfl⟩
      · have hp' : ¬ (0 : Int) < ((z.pins : Nat) : Int) := by omega
        have HP := Lib.hid hp
        clear hp
        go_wp2
        go_roundg (gk - 1)
        case measure => omega
        case rel => exact ⟨j + 1, s, by omega, by go_num, rfl, Lib.hid (by rw [HZ.out, if_neg HP.out, hs.out]; rfl), by omega, rfl⟩
    · have hjl : j = l.length := by omega
      subst hjl
      go_wp2
      go_ret
      exact ⟨by have h := hs.out; rw [List.take_length] at h; rw [← h]; rfl, Below.refl _ _⟩
end Go.Proofs.YtgigdhfdpabmoaaDoor
