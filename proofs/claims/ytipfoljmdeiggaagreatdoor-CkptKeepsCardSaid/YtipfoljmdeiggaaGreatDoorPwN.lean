/- tributarylaw14.CkptKeeps returns true whatever the input (any plan, any acts), and its arguments read behind the call as they read before: the tied card. Conditions: none beyond the row's own (errors.errorType is laid as the program's text lays it). -/
import Derived.Test.YtipfoljmdeiggaaGreatDoorPwL
import Derived.Test.YtipfoljmdeiggaaGreatDoorPwM
import Derived.Test.YtipfoljmdeiggaaGreatDoorCards
import Derived.Test.YtipfoljmdeiggaaGreatDoorTie

namespace Go.Proofs.YtipfoljmdeiggaaGreatDoor
open Go.ChangeShapes Go.WideShapes Go.RowKit

set_option maxRecDepth 100000 in
theorem ckptKeeps_lifted (os : Os) (started : os.Started) (H : Type) (enc : TypeId × Value → H) :
    ReturnsInHanded {} Tryz.checked os 6 .any (fun w args => (Rows.ckptKeepsSpec.pre enc Tryz.prog Tryz.f6 [] false w args ∧ laidMetH Tryz.prog [("errors.errorType", Rows.laid_errors_errorType)] w) ∧ sizedMet enc Tryz.prog Tryz.f6 (OpenSpec.ofChange Rows.ckptKeepsSpec) false w args)
      (Rows.ckptKeepsSpec.post enc Tryz.prog Tryz.f6 false true false false) := by
  refine lift_ os started 6 Tryz.f6 Rows.ckptKeepsSpec #[.agg #[.int .i64 0, .slice none 0 0], .slice none 0 0] 8 rfl (by kernel_rfl) Tryz.func6 (by kernel_rfl) (by kernel_rfl) (by kernel_rfl) (by kernel_rfl) ?_ ?_ ?_
  · intro ds hl
    rw [Tryz.params6] at hl
    obtain ⟨a, b, rfl⟩ : ∃ a b, ds = [a, b] := by
      match ds, hl with
      | [a, b], _ => exact ⟨a, b, rfl⟩
    rfl
  · rw [Tryz.params6]
    intro t ht
    simp only [List.mem_cons, List.not_mem_nil, or_false] at ht
    rcases ht with rfl | rfl <;> exact ⟨by kernel_rfl, of_decide_eq_true (by kernel_rfl)⟩
  · intro W base args ds p hval hA hg
    rw [Tryz.params6] at hA hval
    obtain ⟨v0, v1, d0, d1, p0, p1, rfl, rfl, rfl, h0, h1⟩ := trodAll_two hA
    obtain ⟨q, A, c, rfl, k0⟩ := arg_plan (hval 0 _ v0 rfl rfl) h0
    obtain ⟨s1, rfl, k1⟩ := arg_slice Tryz.underlying69 opens_actsC (hval 1 _ v1 rfl rfl) h1
    exact ckKeeps_c sort_c W ⟨k0, k1.2.2.1, k1.2.2.2, hg⟩

theorem ckptKeeps_name : Tryz.prog.funcNamed Rows.ckptKeepsRow.func = some 6 := by kernel_rfl
set_option maxHeartbeats 16000000 in
theorem ckptKeeps_facts : joinedFacts Tryz.prog 6 Tryz.f6 Rows.ckptKeepsSpec Rows.ckptKeepsRow = true := by
  simp only [joinedFacts, Bool.and_eq_true]
  repeat' refine And.intro ?_ ?_
  all_goals as_aux_lemma => kernel_rfl
theorem ckptKeeps_main : Tryz.prog.mainIs = some (true, "faf9f5651c680a9cddf2865c2bc5c6111d9c6a666e41d47610c264fe618eec71".toList) := by kernel_rfl
theorem ckptKeeps_looks : true = Tryz.prog.looks [] := by kernel_rfl
theorem ckptKeeps_goes : false = Rows.ckptKeepsRow.goesBy Tryz.prog := by kernel_rfl
theorem ckptKeeps_wrap : Tryz.f6.isWrapper Tryz.prog Rows.ckptKeepsRow.wrapper Rows.ckptKeepsRow.mainSum := by
  unfold Func.isWrapper; rw [if_neg (of_decide_eq_false (by kernel_rfl))]; exact ⟨rfl, rfl⟩
theorem ckptKeeps_row : Rows.CkptKeepsSaid :=
  OpenClaim.holds_of_wide 6 Tryz.f6 rfl rfl rfl rfl rfl rfl rfl ⟨rfl, rfl, rfl, rfl, rfl⟩ rfl rfl rfl rfl rfl ckptKeeps_name Tryz.func6 ckptKeeps_facts
    (of_decide_eq_true (by kernel_rfl)) ckptKeeps_wrap
    (fun os started H enc _ => ckptKeeps_lifted os started H enc)

theorem ckptKeeps_want1 : Tryz.prog.wantsStandIn 69 = false := by kernel_rfl
theorem ckptKeeps_want0 : Tryz.prog.wantsStandIn 24 = false := by kernel_rfl
theorem ckptKeeps_holds : Rows.CkptKeepsCardSaid :=
  Claim7.holds_tied_plain_at .later [] [.handle] true (true, "faf9f5651c680a9cddf2865c2bc5c6111d9c6a666e41d47610c264fe618eec71") true
    ckptKeeps_row (fun _ h => by cases h) (by kernel_rfl) (fun _ h => by cases h) ckptKeeps_row_tie rfl ⟨rfl, rfl⟩ ckptKeeps_main rfl
    (fun f fn hf hfn => by
      obtain rfl : f = 6 := (Option.some.inj (ckptKeeps_name.symm.trans hf)).symm
      obtain rfl : fn = Tryz.f6 := (Option.some.inj (Tryz.func6.symm.trans hfn)).symm
      exact ⟨ckptKeeps_looks, fun j t ht => by
        rw [Tryz.params6] at ht
        have hm : t ∈ [24, 69] := by
          have := List.mem_of_getElem? (by simpa using ht : ([24, 69] : List TypeId)[j]? = some t)
          exact this
        simp only [List.mem_cons, List.not_mem_nil, or_false] at hm
        rcases hm with rfl | rfl
        · exact ckptKeeps_want0
        · exact ckptKeeps_want1⟩)
    ckptKeeps_goes
#print axioms ckptKeeps_holds
end Go.Proofs.YtipfoljmdeiggaaGreatDoor
