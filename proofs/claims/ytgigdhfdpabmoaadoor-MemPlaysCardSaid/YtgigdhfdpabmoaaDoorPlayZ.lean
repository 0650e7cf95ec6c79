/- tributarylaw10.MemPlays at a bound that no memory may have. -/
import Derived.Test.YtgigdhfdpabmoaaDoorPlayA
namespace Go.Proofs.YtgigdhfdpabmoaaDoor
open Go.RowKit Go.Sort
attribute [local go_sem high] id_eqI

set_option maxRecDepth 100000 in
set_option maxHeartbeats 2000000 in
theorem plays_bad (W : World) (max : Int) (Aa : Option Addr) (na ca : Nat) (hg : TypeVar W) (hm : max < 0 ∨ 1048576 < max) :
    Calls Tryd.prog 5 #[.int .i64 max, .slice Aa na ca] W (BoolPost W true) := by
  have hg0 : 0 < W.heap.size := World.block_lt_of_cell? W _ hg
  have HG := Lib.hid hg
  have HM := Lib.hid hm
  clear hg hm
  by_cases h0 : max < 0
  · go_enter Tryd.func5, Tryd.ntmps5
    go_wp2_with (first
      | (go_at_call 6; refine (new_bad _ max HM.out).mono ?_; rintro e w2 ⟨v2, rfl, hE2, hb2⟩; have HE2 := Lib.hid hE2; have HB2 := Lib.hid hb2; have HG2 := Lib.hid (TypeVar.chg HG.out hg0 (Chg.of_below (mu := muM) hb2)); clear hE2 hb2)
      | (go_at_call 15; refine (code_c 1 _ 1 _ (by obtain ⟨fb, rfl, hbk⟩ := HE2.out; exact ⟨fb, _, _, _, rfl, hbk, rfl⟩) HG2.out).mono ?_; rintro e w3 ⟨rfl, hb3⟩; have HB3 := Lib.hid (ext_trans HB2.out hb3); have HG3 := Lib.hid (TypeVar.chg HG.out hg0 (Chg.of_below (mu := muM) HB3.out)); clear hb3)
      | (go_at_call 14; refine (told_c _ HG3.out).mono ?_; rintro e w9 ⟨rfl, hb9⟩))
    go_ret
    exact ⟨rfl, ext_trans HB3.out hb9⟩
  · have h1 : 1048576 < max := by have := HM.out; omega
    go_enter Tryd.func5, Tryd.ntmps5
    go_wp2_with (first
      | (go_at_call 6; refine (new_bad _ max HM.out).mono ?_; rintro e w2 ⟨v2, rfl, hE2, hb2⟩; have HE2 := Lib.hid hE2; have HB2 := Lib.hid hb2; have HG2 := Lib.hid (TypeVar.chg HG.out hg0 (Chg.of_below (mu := muM) hb2)); clear hE2 hb2)
      | (go_at_call 15; refine (code_c 1 _ 1 _ (by obtain ⟨fb, rfl, hbk⟩ := HE2.out; exact ⟨fb, _, _, _, rfl, hbk, rfl⟩) HG2.out).mono ?_; rintro e w3 ⟨rfl, hb3⟩; have HB3 := Lib.hid (ext_trans HB2.out hb3); have HG3 := Lib.hid (TypeVar.chg HG.out hg0 (Chg.of_below (mu := muM) HB3.out)); clear hb3)
      | (go_at_call 14; refine (told_c _ HG3.out).mono ?_; rintro e w9 ⟨rfl, hb9⟩))
    go_ret
    exact ⟨rfl, ext_trans HB3.out hb9⟩

end Go.Proofs.YtgigdhfdpabmoaaDoor
