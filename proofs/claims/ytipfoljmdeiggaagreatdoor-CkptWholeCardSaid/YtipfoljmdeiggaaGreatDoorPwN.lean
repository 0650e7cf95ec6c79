/- tributarylaw14.CkptWhole returns true whatever the input (any plan, any batch, any order, any rows), and its arguments read behind the call as they read before: the tied card. Conditions: none beyond the row's own (errors.errorType is laid as the program's text lays it). -/
import Derived.Test.YtipfoljmdeiggaaGreatDoorPwL
import Derived.Test.YtipfoljmdeiggaaGreatDoorPwM
import Derived.Test.YtipfoljmdeiggaaGreatDoorCards
import Derived.Test.YtipfoljmdeiggaaGreatDoorTie
import Derived.Carry

namespace Go.Proofs.YtipfoljmdeiggaaGreatDoor
open Go.ChangeShapes Go.WideShapes Go.RowKit

set_option maxRecDepth 100000 in
theorem ckptWhole_lifted (os : Os) (started : os.Started) (H : Type) (enc : TypeId × Value → H) :
    ReturnsInHanded {} Tryz.checked os 4 .any (fun w args => (Rows.ckptWholeSpec.pre enc Tryz.prog Tryz.f4 [] false w args ∧ laidMetH Tryz.prog [("errors.errorType", Rows.laid_errors_errorType)] w) ∧ sizedMet enc Tryz.prog Tryz.f4 (OpenSpec.ofChange Rows.ckptWholeSpec) false w args)
      (Rows.ckptWholeSpec.post enc Tryz.prog Tryz.f4 false true false false) := by
  refine lift_ os started 4 Tryz.f4 Rows.ckptWholeSpec #[.agg #[.int .i64 0, .slice none 0 0], .int .i64 0, .slice none 0 0, .slice none 0 0] 8 rfl (by kernel_rfl) Tryz.func4 (by kernel_rfl) (by kernel_rfl) (by kernel_rfl) (by kernel_rfl) ?_ ?_ ?_
  · intro ds hl
    rw [Tryz.params4] at hl
    obtain ⟨a, b, c, d, rfl⟩ : ∃ a b c d, ds = [a, b, c, d] := by
      match ds, hl with
      | [a, b, c, d], _ => exact ⟨a, b, c, d, rfl⟩
    rfl
  · rw [Tryz.params4]
    intro t ht
    simp only [List.mem_cons, List.not_mem_nil, or_false] at ht
    rcases ht with rfl | rfl | rfl | rfl <;> exact ⟨by kernel_rfl, of_decide_eq_true (by kernel_rfl)⟩
  · intro W base args ds p hval hA hg
    rw [Tryz.params4] at hA hval
    obtain ⟨v0, v1, v2, v3, d0, d1, d2, d3, p0, p1, p2, p3, rfl, rfl, rfl, h0, h1, h2, h3⟩ := trodAll_four hA
    obtain ⟨q, A, c, rfl, k0⟩ := arg_plan (hval 0 _ v0 rfl rfl) h0
    obtain ⟨n, rfl, _⟩ := arg_int (hval 1 _ v1 rfl rfl) h1
    obtain ⟨s2, rfl, k2⟩ := arg_slice Tryz.underlying55 opens_ints (hval 2 _ v2 rfl rfl) h2
    obtain ⟨s3, rfl, k3⟩ := arg_slice Tryz.underlying56 opens_rows (hval 3 _ v3 rfl rfl) h3
    exact ckWholeL_c sort_c W ⟨k0, RdS.of_rd (by have h5 := k2.2.2.1; rw [show s2.l.flatMap (fun n : Int => [(.int .i64 n : Value)]) = ordC s2.l from by unfold ordC; induction s2.l with | nil => rfl | cons a l ih => rw [List.flatMap_cons, ih]; rfl] at h5; exact h5) (by decide), RdS.of_rd k3.2.2.1 (by decide), k3.1, k3.2.2.2, hg⟩

theorem ckptWhole_name : Tryz.prog.funcNamed Rows.ckptWholeRow.func = some 4 := by kernel_rfl
set_option maxHeartbeats 16000000 in
theorem ckptWhole_facts : joinedFacts Tryz.prog 4 Tryz.f4 Rows.ckptWholeSpec Rows.ckptWholeRow = true := by
  simp only [joinedFacts, Bool.and_eq_true]
  repeat' refine And.intro ?_ ?_
  all_goals as_aux_lemma => kernel_rfl
theorem ckptWhole_main : Tryz.prog.mainIs = some (true, "faf9f5651c680a9cddf2865c2bc5c6111d9c6a666e41d47610c264fe618eec71".toList) := by kernel_rfl
theorem ckptWhole_looks : true = Tryz.prog.looks [] := by kernel_rfl
theorem ckptWhole_goes : false = Rows.ckptWholeRow.goesBy Tryz.prog := by kernel_rfl
theorem ckptWhole_wrap : Tryz.f4.isWrapper Tryz.prog Rows.ckptWholeRow.wrapper Rows.ckptWholeRow.mainSum := by
  unfold Func.isWrapper; rw [if_neg (of_decide_eq_false (by kernel_rfl))]; exact ⟨rfl, rfl⟩
theorem ckptWhole_row : Rows.CkptWholeSaid :=
  OpenClaim.holds_of_wide 4 Tryz.f4 rfl rfl rfl rfl rfl rfl rfl ⟨rfl, rfl, rfl, rfl, rfl⟩ rfl rfl rfl rfl rfl ckptWhole_name Tryz.func4 ckptWhole_facts
    (of_decide_eq_true (by kernel_rfl)) ckptWhole_wrap
    (fun os started H enc _ => ckptWhole_lifted os started H enc)

theorem ckptWhole_want3 : Tryz.prog.wantsStandIn 56 = false := by kernel_rfl
theorem ckptWhole_want2 : Tryz.prog.wantsStandIn 55 = false := by kernel_rfl
theorem ckptWhole_want0 : Tryz.prog.wantsStandIn 24 = false := by kernel_rfl
theorem ckptWhole_want1 : Tryz.prog.wantsStandIn 3 = false := by kernel_rfl
theorem ckptWhole_holds : Rows.CkptWholeCardSaid :=
  Claim7.holds_tied_plain_at .later [] [.handle] true (true, "faf9f5651c680a9cddf2865c2bc5c6111d9c6a666e41d47610c264fe618eec71") true
    ckptWhole_row (fun _ h => by cases h) (by kernel_rfl) (fun _ h => by cases h) ckptWhole_row_tie rfl ⟨rfl, rfl⟩ ckptWhole_main rfl
    (fun f fn hf hfn => by
      obtain rfl : f = 4 := (Option.some.inj (ckptWhole_name.symm.trans hf)).symm
      obtain rfl : fn = Tryz.f4 := (Option.some.inj (Tryz.func4.symm.trans hfn)).symm
      exact ⟨ckptWhole_looks, fun j t ht => by
        rw [Tryz.params4] at ht
        have hm : t ∈ [24, 3, 55, 56] := by
          have := List.mem_of_getElem? (by simpa using ht : ([24, 3, 55, 56] : List TypeId)[j]? = some t)
          exact this
        simp only [List.mem_cons, List.not_mem_nil, or_false] at hm
        rcases hm with rfl | rfl | rfl | rfl
        · exact ckptWhole_want0
        · exact ckptWhole_want1
        · exact ckptWhole_want2
        · exact ckptWhole_want3⟩)
    ckptWhole_goes
#print axioms ckptWhole_holds
end Go.Proofs.YtipfoljmdeiggaaGreatDoor
