/- tributarylaw10.MemPlays returns true whatever the input (any bound, any acts), and its arguments read behind the call as they read before: the tied card. Conditions: none beyond the row's own (errors.errorType is laid as the program's text lays it). -/
import Derived.Test.YtgigdhfdpabmoaaDoorPlayB
import Derived.Test.YtgigdhfdpabmoaaDoorPlayZ
import Derived.Test.YtgigdhfdpabmoaaDoorSortD
import Derived.Test.YtgigdhfdpabmoaaDoorArgs
import Derived.Test.YtgigdhfdpabmoaaDoorCards
import Derived.Test.YtgigdhfdpabmoaaDoorTie
namespace Go.Proofs.YtgigdhfdpabmoaaDoor
open Go.ChangeShapes Go.WideShapes Go.RowKit

/-! ### tributarylaw10.MemPlays -/
set_option maxRecDepth 100000 in
theorem plays_lifted (os : Os) (started : os.Started) (H : Type) (enc : TypeId × Value → H) :
    ReturnsInHanded {} Tryd.checked os 5 .any (fun w args => (Rows.memPlaysSpec.pre enc Tryd.prog Tryd.f5 [] false w args ∧ laidMetH Tryd.prog [("errors.errorType", Rows.laid_errors_errorType)] w) ∧ sizedMet enc Tryd.prog Tryd.f5 (OpenSpec.ofChange Rows.memPlaysSpec) false w args)
      (Rows.memPlaysSpec.post enc Tryd.prog Tryd.f5 false true false false) := by
  refine lift_ os started 5 Tryd.f5 Rows.memPlaysSpec #[.int .i64 0, .slice none 0 0] 8 rfl (by kernel_rfl) Tryd.func5 (by kernel_rfl) (by kernel_rfl) (by kernel_rfl) (by kernel_rfl) ?_ ?_ ?_
  · intro ds hl
    rw [Tryd.params5] at hl
    obtain ⟨a, b, rfl⟩ : ∃ a b, ds = [a, b] := by
      match ds, hl with
      | [a, b], _ => exact ⟨a, b, rfl⟩
    rfl
  · rw [Tryd.params5]
    intro t ht
    simp only [List.mem_cons, List.not_mem_nil, or_false] at ht
    rcases ht with rfl | rfl <;> exact ⟨by kernel_rfl, of_decide_eq_true (by kernel_rfl)⟩
  · intro W base args ds p hval hA hg
    rw [Tryd.params5] at hA hval
    obtain ⟨v0, v1, d0, d1, p0, p1, rfl, rfl, rfl, h0, h1⟩ := trodAll_two hA
    obtain ⟨mx, rfl, _⟩ := arg_int (hval 0 _ v0 rfl rfl) h0
    obtain ⟨s1, rfl, k1⟩ := arg_slice Tryd.underlying22 opens_acts (hval 1 _ v1 rfl rfl) h1
    by_cases hb : mx < 0 ∨ 1048576 < mx
    · exact plays_bad W mx s1.A s1.l.length s1.cap hg hb
    · obtain ⟨n, rfl⟩ : ∃ n : Nat, mx = (n : Int) := ⟨mx.toNat, by omega⟩
      exact plays_c sort_c W n (by omega) s1.A s1.cap s1.l hg k1.2.2.1 (fun a ha => (k1.2.2.2 a ha).2) (fun a ha => (k1.2.2.2 a ha).1)

theorem plays_row : Rows.MemPlaysSaid :=
  OpenClaim.holds_of_wide 5 Tryd.f5 rfl rfl rfl rfl rfl rfl rfl ⟨rfl, rfl, rfl, rfl, rfl⟩ rfl rfl rfl rfl rfl (by kernel_rfl) Tryd.func5 (by kernel_rfl)
    (of_decide_eq_true (by kernel_rfl)) (by unfold Func.isWrapper; rw [if_neg (of_decide_eq_false (by kernel_rfl))]; exact ⟨rfl, rfl⟩)
    (fun os started H enc _ => plays_lifted os started H enc)

theorem memPlays_holds : Rows.MemPlaysCardSaid :=
  Claim7.holds_tied_plain_at .later [] [.handle] true (true, "878139fba64ab9adbb6915fe68ab55baf5daefb533b0a3adff105abd5f51ebd2") true
    plays_row (fun _ h => by cases h) (by kernel_rfl) (fun _ h => by cases h) memPlays_row_tie rfl ⟨rfl, rfl⟩ (by kernel_rfl) rfl
    (fun f fn hf hfn => by
      obtain rfl : f = 5 := Option.some.inj ((show Tryd.prog.funcNamed "tributary/tributarylaw10.MemPlays" = some 5 by kernel_rfl).symm.trans hf) |>.symm
      obtain rfl : fn = Tryd.f5 := (Option.some.inj (Tryd.func5.symm.trans hfn)).symm
      exact ⟨by kernel_rfl, fun j t ht => by
        rw [Tryd.params5] at ht
        have hm : t ∈ [3, 22] := by
          have := List.mem_of_getElem? (by simpa using ht : ([3, 22] : List TypeId)[j]? = some t)
          exact this
        simp only [List.mem_cons, List.not_mem_nil, or_false] at hm
        rcases hm with rfl | rfl
        · exact (show Tryd.prog.wantsStandIn 3 = false by kernel_rfl)
        · exact (show Tryd.prog.wantsStandIn 22 = false by kernel_rfl)⟩)
    (by kernel_rfl)
#print axioms memPlays_holds
end Go.Proofs.YtgigdhfdpabmoaaDoor
