/- Loops over a memory: Used, Pins, without. -/
import Derived.Test.YtgigdhfdpabmoaaDoorMem
namespace Go.Proofs.YtgigdhfdpabmoaaDoor
open Go.RowKit

def szR (l : List Rw) : Nat := 8 + 16 * l.length
def usedN (ps : List Pc) : Nat := (ps.map fun p => szR p.rows).foldr (· + ·) 0
theorem usedN_nil : usedN [] = 0 := rfl
theorem usedN_cons (p : Pc) (ps : List Pc) : usedN (p :: ps) = szR p.rows + usedN ps := rfl
theorem usedN_append (a b : List Pc) : usedN (a ++ b) = usedN a + usedN b := by
  induction a with
  | nil => simp [usedN_nil]
  | cons p a ih => simp only [List.cons_append, usedN_cons, ih]; omega
theorem usedN_mem {p : Pc} {ps : List Pc} (h : p ∈ ps) : szR p.rows ≤ usedN ps := by
  induction ps with
  | nil => cases h
  | cons q ps ih =>
    rw [usedN_cons]
    rcases List.mem_cons.1 h with rfl | h
    · omega
    · have := ih h; omega

def UsedPost (w : World) (n : Int) (e : Ending) (w' : World) : Prop := e = .returned (.int .i64 n) ∧ Below w.heap.size w w'

set_option maxHeartbeats 1000000 in
theorem used_c (B : Nat) (w : World) (mb pb : Nat) (A : Option Addr) (cap : Nat) (max : Int) (ages : List Id3) (ps : List Pc) (h : MemAt B w mb pb A cap max ages ps) (hs : usedN ps ≤ 140737488351232) :
    Calls Tryd.prog 13 #[.pointer (some ⟨mb, 0, none⟩)] w (UsedPost w (usedN ps)) := by
  have h1 := h.c1
  have hlt := World.block_lt_of_cell? w _ h1
  have hm := h.map
  have HP := Lib.hid h.pcs
  clear h
  go_enter Tryd.func13, Tryd.ntmps13
  go_wp2_with (first | (at_range; refine wpList_range_is _ rfl _ 62 rfl 65 Tryd.underlying62 pb _ rfl hm ?_; intro ob hi; go_frame))
  go_loopg [3] ps.length (fun k v3 wr => ∃ left : List Pc, left.length = k ∧ (∀ p ∈ left, p ∈ ps) ∧ IterIs idV wr w.heap.size pb (ps.map fun p => (pcK p, pcV p)) (left.map fun p => (pcK p, pcV p)) ∧ usedN left ≤ usedN ps ∧ v3 = .int .i64 ((usedN ps : Int) - usedN left) ∧ Below w.heap.size w wr)
  case atStart => exact ⟨ps, rfl, fun _ h => h, hi, Nat.le_refl _, by simp, ext_alloc (Below.refl _ _) _⟩
  case round =>
    obtain ⟨left, hk, hin, hit, hle, rfl, hb⟩ := hrel
    clear hi
    go_wp2_with (first | (at_next; refine wpList_next_is _ rfl _ rfl pcK pcV pb w.heap.size _ left rfl hit ?_ ?_))
    · intro hl
      subst hl
      go_wp2
      go_ret
      exact ⟨by simp [usedN_nil], hb⟩
    · intro q l1 l2 w1 hl hi1 hg1 hs1 hen
      have hq : q ∈ ps := hin q (by rw [hl]; simp)
      have hP := HP.out q hq
      have hbw1 : Below w.heap.size w w1 := hb.grown hg1 hb.size (fun k hk => by cases hk; exact Nat.le_refl _)
      have hPw := hP.ext hbw1
      have c0 := hPw.c0
      have hu1 := usedN_append l1 (q :: l2)
      have hu2 := usedN_cons q l2
      have hu3 := usedN_append l1 l2
      have hqs : szR q.rows = 8 + 16 * q.rows.length := rfl
      have hlen : q.rows.length ≤ 140737488351232 := by rw [hl] at hle; omega
      have hnew : (usedN ps : Int) - usedN left + (8 + 16 * q.rows.length) = (usedN ps : Int) - usedN (l1 ++ l2) := by rw [hl]; omega
      have hle2 : usedN (l1 ++ l2) ≤ usedN ps := by rw [hl] at hle; omega
      have hlel : usedN left ≤ 140737488351232 := by omega
      have hk1 : (l1 ++ l2).length < gk := by rw [← hk, hl]; simp
      have hin' : ∀ p ∈ l1 ++ l2, p ∈ ps := fun p hp => hin p (by rw [hl]; rcases List.mem_append.1 hp with h | h <;> simp [h])
      have HN := Lib.hid hnew
      clear hu1 hu2 hu3 hqs hnew hk hl
      simp only [pcV] at hen ⊢
      go_wp2_with (first | (go_at_call 17; refine (size_c _ _ _ _ hlen).mono ?_; rintro e w' ⟨rfl, rfl⟩))
      go_roundg (l1 ++ l2).length
      case measure => exact hk1
      case rel => exact ⟨l1 ++ l2, rfl, hin', by rw [List.map_append]; exact hi1, hle2, by rw [HN.out], hbw1⟩

def pinsN (ps : List Pc) : Nat := (ps.filter fun p => decide (0 < p.pins)).length
theorem pinsN_append (a b : List Pc) : pinsN (a ++ b) = pinsN a + pinsN b := by simp [pinsN]
theorem pinsN_cons (p : Pc) (ps : List Pc) : pinsN (p :: ps) = (if 0 < p.pins then 1 else 0) + pinsN ps := by
  by_cases h : 0 < p.pins
  · simp [pinsN, h]; omega
  · simp [pinsN, h]
theorem pinsN_le (ps : List Pc) : pinsN ps ≤ ps.length := List.length_filter_le _ _

set_option maxHeartbeats 1000000 in
theorem pins_c (B : Nat) (w : World) (mb pb : Nat) (A : Option Addr) (cap : Nat) (max : Int) (ages : List Id3) (ps : List Pc) (h : MemAt B w mb pb A cap max ages ps) (hs : ps.length ≤ 140737488351232) :
    Calls Tryd.prog 12 #[.pointer (some ⟨mb, 0, none⟩)] w (UsedPost w (pinsN ps)) := by
  have h1 := h.c1
  have hlt := World.block_lt_of_cell? w _ h1
  have hm := h.map
  have HP := Lib.hid h.pcs
  clear h
  have hpl := pinsN_le ps
  go_enter Tryd.func12, Tryd.ntmps12
  go_wp2_with (first | (at_range; refine wpList_range_is _ rfl _ 62 rfl 65 Tryd.underlying62 pb _ rfl hm ?_; intro ob hi; go_frame))
  go_loopg [3] ps.length (fun k v3 wr => ∃ left : List Pc, left.length = k ∧ (∀ p ∈ left, p ∈ ps) ∧ IterIs idV wr w.heap.size pb (ps.map fun p => (pcK p, pcV p)) (left.map fun p => (pcK p, pcV p)) ∧ pinsN left ≤ pinsN ps ∧ v3 = .int .i64 ((pinsN ps : Int) - pinsN left) ∧ Below w.heap.size w wr)
  case atStart => exact ⟨ps, rfl, fun _ h => h, hi, Nat.le_refl _, by simp, ext_alloc (Below.refl _ _) _⟩
  case round =>
    obtain ⟨left, hk, hin, hit, hle, rfl, hb⟩ := hrel
    clear hi
    go_wp2_with (first | (at_next; refine wpList_next_is _ rfl _ rfl pcK pcV pb w.heap.size _ left rfl hit ?_ ?_))
    · intro hl
      subst hl
      go_wp2
      go_ret
      exact ⟨by simp [pinsN], hb⟩
    · intro q l1 l2 w1 hl hi1 hg1 hs1 hen
      have hq : q ∈ ps := hin q (by rw [hl]; simp)
      have hP := HP.out q hq
      have hbw1 : Below w.heap.size w w1 := hb.grown hg1 hb.size (fun k hk => by cases hk; exact Nat.le_refl _)
      have hPw := hP.ext hbw1
      have c1 := hPw.c1
      have hu1 := pinsN_append l1 (q :: l2)
      have hu2 := pinsN_cons q l2
      have hu3 := pinsN_append l1 l2
      have hle2 : pinsN (l1 ++ l2) ≤ pinsN ps := by rw [hl] at hle; omega
      have hk1 : (l1 ++ l2).length < gk := by rw [← hk, hl]; simp
      have hin' : ∀ p ∈ l1 ++ l2, p ∈ ps := fun p hp => hin p (by rw [hl]; rcases List.mem_append.1 hp with h | h <;> simp [h])
      have hiL : IterIs idV w1 w.heap.size pb (ps.map fun p => (pcK p, pcV p)) ((l1 ++ l2).map fun p => (pcK p, pcV p)) := by rw [List.map_append]; exact hi1
      have HE := Lib.hid hl
      simp only [pcV] at hen ⊢
      by_cases hp : 0 < q.pins
      · have HN := Lib.hid (show (pinsN ps : Int) - pinsN left + 1 = (pinsN ps : Int) - pinsN (l1 ++ l2) by rw [hl]; rw [if_pos hp] at hu2; omega)
        have hpb : decide ((0 : Int) < (q.pins : Int)) = true := by simpa using hp
        clear hu1 hu2 hu3 hk hl
        go_wp2
        go_roundg (l1 ++ l2).length
        case measure => exact hk1
        case rel => exact ⟨l1 ++ l2, rfl, hin', hiL, hle2, by rw [HN.out], hbw1⟩
      · have HN := Lib.hid (show (pinsN ps : Int) - pinsN left = (pinsN ps : Int) - pinsN (l1 ++ l2) by rw [hl]; rw [if_neg hp] at hu2; omega)
        have hpb : decide ((0 : Int) < (q.pins : Int)) = false := by simpa using hp
        clear hu1 hu2 hu3 hk hl
        go_wp2
        go_roundg (l1 ++ l2).length
        case measure => exact hk1
        case rel => exact ⟨l1 ++ l2, rfl, hin', hiL, hle2, by rw [HN.out], hbw1⟩
end Go.Proofs.YtgigdhfdpabmoaaDoor
