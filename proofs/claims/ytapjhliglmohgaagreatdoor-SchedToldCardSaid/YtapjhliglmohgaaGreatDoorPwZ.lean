/- tributarylaw16.SchedTold returns true whatever the input (any plan, any Every, any acts, any piece, any worker), and its arguments read behind the call as they read before: the tied card. Conditions: none beyond the row's own (errors.errorType is laid as the program's text lays it). -/
import Derived.Test.YtapjhliglmohgaaGreatDoorPwX
import Derived.Test.YtapjhliglmohgaaGreatDoorPwY
import Derived.Test.YtapjhliglmohgaaGreatDoorCards
import Derived.Test.YtapjhliglmohgaaGreatDoorTie
namespace Go.Proofs.YtapjhliglmohgaaGreatDoor
open Go.ChangeShapes Go.WideShapes Go.RowKit
set_option maxRecDepth 100000 in
theorem schedTold_lifted (os : Os) (started : os.Started) (H : Type) (enc : TypeId × Value → H) :
 ReturnsInHanded {} Tryz.checked os 4 .any (fun w args => (Rows.schedToldSpec.pre enc Tryz.prog Tryz.f4 [] false w args ∧ laidMetH Tryz.prog [("errors.errorType", Rows.laid_errors_errorType)] w) ∧ sizedMet enc Tryz.prog Tryz.f4 (OpenSpec.ofChange Rows.schedToldSpec) false w args)
  (Rows.schedToldSpec.post enc Tryz.prog Tryz.f4 false true false false) := by
 refine lift_ os started 4 Tryz.f4 Rows.schedToldSpec #[.agg #[.int .i64 0, .slice none 0 0], .int .i64 0, .slice none 0 0, .agg #[.int .i64 0, .int .i64 0, .int .i64 0], .int .i64 0] 8 rfl (by kernel_rfl) Tryz.func4 (by kernel_rfl) (by kernel_rfl) (by kernel_rfl) (by kernel_rfl) ?_ ?_ ?_
 · intro ds hl
   rw [Tryz.params4] at hl
   obtain ⟨a, b, c, d, e, rfl⟩ : ∃ a b c d e, ds = [a, b, c, d, e] := by
    match ds, hl with
    | [a, b, c, d, e], _ => exact ⟨a, b, c, d, e, rfl⟩
   rfl
 · rw [Tryz.params4]
   intro t ht
   simp only [List.mem_cons, List.not_mem_nil, or_false] at ht
   rcases ht with rfl | rfl | rfl | rfl | rfl <;> exact ⟨by kernel_rfl, of_decide_eq_true (by kernel_rfl)⟩
 · intro W base args ds p hval hA hg
   rw [Tryz.params4] at hA hval
   obtain ⟨v0, v1, v2, v3, v4, d0, d1, d2, d3, d4, p0, p1, p2, p3, p4, rfl, rfl, rfl, h0, h1, h2, h3, h4⟩ := trodAll_five hA
   obtain ⟨q, A, c, rfl, k0⟩ := arg_plan (hval 0 _ v0 rfl rfl) h0
   obtain ⟨n, rfl, _⟩ := arg_int (hval 1 _ v1 rfl rfl) h1
   obtain ⟨s2, rfl, k2⟩ := arg_slice Tryz.underlying25 opens_actsS (hval 2 _ v2 rfl rfl) h2
   obtain ⟨x, rfl, _⟩ := arg_id (hval 3 _ v3 rfl rfl) h3
   obtain ⟨m, rfl, _⟩ := arg_int (hval 4 _ v4 rfl rfl) h4
   exact schedTold_c sortH_c W ⟨k0, k2.2.2.1, k2.2.2.2, hg⟩
theorem schedTold_name : Tryz.prog.funcNamed Rows.schedToldRow.func = some 4 := by kernel_rfl
set_option maxHeartbeats 16000000 in
theorem schedTold_facts : joinedFacts Tryz.prog 4 Tryz.f4 Rows.schedToldSpec Rows.schedToldRow = true := by
 simp only [joinedFacts, Bool.and_eq_true]
 repeat' refine And.intro ?_ ?_
 all_goals as_aux_lemma => kernel_rfl
theorem schedTold_main : Tryz.prog.mainIs = some (true, "605f0f98a7e658ec61a22c2b777b2cc64d833c6c05f20d2c4ed314916f57b52d".toList) := by kernel_rfl
theorem schedTold_looks : true = Tryz.prog.looks [] := by kernel_rfl
theorem schedTold_goes : false = Rows.schedToldRow.goesBy Tryz.prog := by kernel_rfl
theorem schedTold_wrap : Tryz.f4.isWrapper Tryz.prog Rows.schedToldRow.wrapper Rows.schedToldRow.mainSum := by
 unfold Func.isWrapper; rw [if_neg (of_decide_eq_false (by kernel_rfl))]; exact ⟨rfl, rfl⟩
theorem schedTold_row : Rows.SchedToldSaid :=
 OpenClaim.holds_of_wide 4 Tryz.f4 rfl rfl rfl rfl rfl rfl rfl ⟨rfl, rfl, rfl, rfl, rfl⟩ rfl rfl rfl rfl rfl schedTold_name Tryz.func4 schedTold_facts
  (of_decide_eq_true (by kernel_rfl)) schedTold_wrap
  (fun os started H enc _ => schedTold_lifted os started H enc)
theorem schedTold_want2 : Tryz.prog.wantsStandIn 25 = false := by kernel_rfl
theorem schedTold_want3 : Tryz.prog.wantsStandIn 35 = false := by kernel_rfl
theorem schedTold_want0 : Tryz.prog.wantsStandIn 24 = false := by kernel_rfl
theorem schedTold_want1 : Tryz.prog.wantsStandIn 3 = false := by kernel_rfl
theorem schedTold_holds : Rows.SchedToldCardSaid :=
 Claim7.holds_tied_plain_at .later [] [.handle] true (true, "605f0f98a7e658ec61a22c2b777b2cc64d833c6c05f20d2c4ed314916f57b52d") true
  schedTold_row (fun _ h => by cases h) (by kernel_rfl) (fun _ h => by cases h) schedTold_row_tie rfl ⟨rfl, rfl⟩ schedTold_main rfl
  (fun f fn hf hfn => by
    obtain rfl : f = 4 := (Option.some.inj (schedTold_name.symm.trans hf)).symm
    obtain rfl : fn = Tryz.f4 := (Option.some.inj (Tryz.func4.symm.trans hfn)).symm
    exact ⟨schedTold_looks, fun j t ht => by
      rw [Tryz.params4] at ht
      have hm : t ∈ [24, 3, 25, 35, 3] := by
       have := List.mem_of_getElem? (by simpa using ht : ([24, 3, 25, 35, 3] : List TypeId)[j]? = some t)
       exact this
      simp only [List.mem_cons, List.not_mem_nil, or_false] at hm
      rcases hm with rfl | rfl | rfl | rfl | rfl
      · exact schedTold_want0
      · exact schedTold_want1
      · exact schedTold_want2
      · exact schedTold_want3
      · exact schedTold_want1⟩)
  schedTold_goes
#print axioms schedTold_holds
end Go.Proofs.YtapjhliglmohgaaGreatDoor
