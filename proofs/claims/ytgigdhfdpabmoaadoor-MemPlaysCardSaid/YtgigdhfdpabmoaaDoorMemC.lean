/- slices.Clone of rows and of names; Ages, New, Get, Pin, Drop. -/
import Derived.Test.YtgigdhfdpabmoaaDoorMemB
namespace Go.Proofs.YtgigdhfdpabmoaaDoor
open Go.RowKit
attribute [local go_sem high] id_eqI

def ClonePost (w : World) (e : TypeId) (size n : Nat) (xs : List Value) (en : Ending) (w' : World) : Prop :=
  ∃ A c, en = .returned (.slice A n c) ∧ w'.ownsRow w.heap.size e size (.slice A n c) n xs ∧ n ≤ c ∧ Below w.heap.size w w'

theorem Rd.news {w : World} {B : Nat} {e : TypeId} {size n : Nat} {ad : Addr} {xs : List Value} (h : Rd w B e size (some ad) n xs) : ∀ j u, xs[j]? = some u → w.cell? (ad.add j) = some u := by
  intro j u hu
  rcases Nat.eq_zero_or_pos n with h0 | h0
  · have : xs = [] := List.eq_nil_of_length_eq_zero (by rw [h.1, h0]; simp)
    subst this
    simp at hu
  · obtain ⟨ad', he, hc⟩ := h.cell h0
    cases he
    exact hc j u hu

set_option maxHeartbeats 1000000 in
theorem clone_row_c (B : Nat) (w : World) (A : Option Addr) (c : Nat) (l : List Rw) (h : Rd w B 58 2 A l.length (rwsC l)) (hl : l.length ≤ 2147483648) :
    Calls Tryd.prog 40 #[.slice A l.length c] w (ClonePost w 58 2 l.length (rwsC l)) := by
  have hnil := fun (W : World) (A : Option Addr) (n c : Nat) => Lib.run_eql_slice_nil (P := Tryd.prog) W 25 58 A n c 0 0 Tryd.underlying25
  obtain ⟨i0, hi0, hz0, hz1, hz2⟩ := info_parts row_info
  cases A with
  | none =>
    have h0 : l.length = 0 := by
      rcases Nat.eq_zero_or_pos l.length with h0 | h0
      · exact h0
      · obtain ⟨_, hc, _⟩ := h.2 h0; cases hc
    have : l = [] := List.eq_nil_of_length_eq_zero h0
    subst this
    clear h0
    go_enter Tryd.func40, Tryd.ntmps40
    go_wp2
    go_ret
    exact ⟨_, _, rfl, World.ownsRow_nil _ _ _ _, Nat.le_refl _, Below.refl _ _⟩
  | some ad =>
    have HR := Lib.hid h
    clear h
    go_enter Tryd.func40, Tryd.ntmps40
    go_wp2_with (first | (at_builtin; refine wpList_append_own_at _ rfl (.tmp 5) (.tmp 6) 25 rfl w.heap.size 58 i0 _ 2 16 Tryd.underlying25 hi0 hz0 hz1 hz2 rfl (by omega) _ 0 [] rfl ?_ ad l.length c (rwsC l) rfl (rwsC_len l) ?_ (one_rws l) ?_ ?_ ?_ ?_))
    · exact ⟨by simp, .inr ⟨w.heap.size, 0, #[], rfl, Nat.le_refl _, heap_alloc_new w _, Nat.le_refl _, by simp [maxLen], by simp, by simp⟩⟩
    · exact (HR.out.alloc _).news
    · simp only [maxLen]; omega
    · omega
    · simp
    · intro v' w1 hown hg _ hloc
      try simp only [Nat.zero_add, List.nil_append] at hown
      obtain ⟨A2, c2, rfl, hc2⟩ := own_shape hown
      go_wp2
      go_ret
      exact ⟨_, _, rfl, hown, hc2, (ext_alloc (Below.refl _ _) _).grown hg (by simp) (fun k hk => by simp [Value.ownBlock] at hk; omega)⟩

set_option maxHeartbeats 1000000 in
theorem clone_id_c (B : Nat) (w : World) (A : Option Addr) (c : Nat) (l : List Id3) (h : Rd w B 24 3 A l.length (idsC l)) (hl : l.length ≤ 2147483648) :
    Calls Tryd.prog 41 #[.slice A l.length c] w (ClonePost w 24 3 l.length (idsC l)) := by
  have hnil := fun (W : World) (A : Option Addr) (n c : Nat) => Lib.run_eql_slice_nil (P := Tryd.prog) W 37 24 A n c 0 0 Tryd.underlying37
  obtain ⟨i0, hi0, hz0, hz1, hz2⟩ := info_parts id_info
  cases A with
  | none =>
    have h0 : l.length = 0 := by
      rcases Nat.eq_zero_or_pos l.length with h0 | h0
      · exact h0
      · obtain ⟨_, hc, _⟩ := h.2 h0; cases hc
    have : l = [] := List.eq_nil_of_length_eq_zero h0
    subst this
    clear h0
    go_enter Tryd.func41, Tryd.ntmps41
    go_wp2
    go_ret
    exact ⟨_, _, rfl, World.ownsRow_nil _ _ _ _, Nat.le_refl _, Below.refl _ _⟩
  | some ad =>
    have HR := Lib.hid h
    clear h
    go_enter Tryd.func41, Tryd.ntmps41
    go_wp2_with (first | (at_builtin; refine wpList_append_own_at _ rfl (.tmp 5) (.tmp 6) 37 rfl w.heap.size 24 i0 _ 3 24 Tryd.underlying37 hi0 hz0 hz1 hz2 rfl (by omega) _ 0 [] rfl ?_ ad l.length c (idsC l) rfl (idsC_len l) ?_ (one_ids l) ?_ ?_ ?_ ?_))
    · exact ⟨by simp, .inr ⟨w.heap.size, 0, #[], rfl, Nat.le_refl _, heap_alloc_new w _, Nat.le_refl _, by simp [maxLen], by simp, by simp⟩⟩
    · exact (HR.out.alloc _).news
    · simp only [maxLen]; omega
    · omega
    · simp
    · intro v' w1 hown hg _ hloc
      try simp only [Nat.zero_add, List.nil_append] at hown
      obtain ⟨A2, c2, rfl, hc2⟩ := own_shape hown
      go_wp2
      go_ret
      exact ⟨_, _, rfl, hown, hc2, (ext_alloc (Below.refl _ _) _).grown hg (by simp) (fun k hk => by simp [Value.ownBlock] at hk; omega)⟩

/-! ### Ages -/
set_option maxHeartbeats 400000 in
theorem ages_c (B : Nat) (w : World) (mb pb : Nat) (A : Option Addr) (cap : Nat) (max : Int) (ages : List Id3) (ps : List Pc) (h : MemAt B w mb pb A cap max ages ps) (hs : ages.length ≤ 1000000) :
    Calls Tryd.prog 10 #[.pointer (some ⟨mb, 0, none⟩)] w (ClonePost w 24 3 ages.length (idsC ages)) := by
  have h2 := h.c2
  have hr := h.ages
  have hlt := h.blk.lt
  clear h
  go_enter Tryd.func10, Tryd.ntmps10
  go_wp2_with (first | (go_at_call 41; refine (clone_id_c B _ A cap ages hr (by omega)).mono ?_; rintro e w' ⟨A2, c2, rfl, hown, hc2, hb⟩))
  go_ret
  exact ⟨_, _, rfl, hown, hc2, hb⟩

/-! ### New -/
def NewPost (B : Nat) (w : World) (max : Int) (e : Ending) (w' : World) : Prop :=
  ∃ mb pb A cap, e = .returned (.tuple #[.pointer (some ⟨mb, 0, none⟩), .nilIface]) ∧ MemAt B w' mb pb A cap max [] [] ∧ Below w.heap.size w w' ∧ w.heap.size ≤ mb
def NewBad (w : World) (e : Ending) (w' : World) : Prop := ∃ v, e = .returned (.tuple #[.pointer none, v]) ∧ ErrV w' v 0 1 ∧ Below w.heap.size w w'

set_option maxHeartbeats 400000 in
theorem new_c (B : Nat) (w : World) (max : Int) (hB : B ≤ w.heap.size) (h0 : 0 ≤ max) (h1 : max ≤ 1048576) :
    Calls Tryd.prog 6 #[.int .i64 max] w (NewPost B w max) := by
  have hmm := @run_makeMap Tryd.prog
  go_enter Tryd.func6, Tryd.ntmps6
  go_wp2
  go_ret2
  refine ⟨w.heap.size + 1, w.heap.size, none, 0, rfl, ⟨by omega, by omega, Bk.newAt (by simp), by simp, Rd.none_, (MapIs.made idV w).alloc _, by simp, by simp⟩, ext_alloc (ext_alloc (Below.refl _ _) _) _, by omega⟩

set_option maxHeartbeats 400000 in
theorem new_bad (w : World) (max : Int) (h : max < 0 ∨ 1048576 < max) :
    Calls Tryd.prog 6 #[.int .i64 max] w (NewBad w) := by
  rcases h with h | h
  · go_enter Tryd.func6, Tryd.ntmps6
    go_wp2_with (first | (go_at_call 38; refine (fault_c _ _ _).mono ?_; rintro e w' ⟨v, rfl, he, hb⟩))
    go_ret2
    exact ⟨_, rfl, he, hb⟩
  · have h' : ¬ max < 0 := by omega
    go_enter Tryd.func6, Tryd.ntmps6
    go_wp2_with (first | (go_at_call 38; refine (fault_c _ _ _).mono ?_; rintro e w' ⟨v, rfl, he, hb⟩))
    go_ret2
    exact ⟨_, rfl, he, hb⟩
end Go.Proofs.YtgigdhfdpabmoaaDoor
