/- tributarylaw10.MemOldest returns true whatever the input (any bound, any acts, any name, any rows), and its arguments read behind the call as they read before: the tied card. Conditions: none beyond the row's own (errors.errorType is laid as the program's text lays it). -/
import Derived.Test.YtgigdhfdpabmoaaDoorMemJ
import Derived.Test.YtgigdhfdpabmoaaDoorLift
import Derived.Test.YtgigdhfdpabmoaaDoorCards
import Derived.Test.YtgigdhfdpabmoaaDoorTie
namespace Go.Proofs.YtgigdhfdpabmoaaDoor
open Go.ChangeShapes Go.WideShapes Go.RowKit

set_option maxRecDepth 100000 in
theorem opens_id {H : Type} {enc : TypeId × Value → H} {W : World} : Opens enc Tryd.prog W 24 idC (fun _ => True) :=
  (Opens.struct Tryd.underlying24 (by kernel_rfl) (FOpens.cons (Opens.int Tryd.underlying3) (by kernel_rfl) (FOpens.cons (Opens.int Tryd.underlying3) (by kernel_rfl) (FOpens.cons (Opens.int Tryd.underlying3) (by kernel_rfl) (FOpens.nil _))))).map (fun a => (⟨a.1, a.2.1, a.2.2.1⟩ : Id3)) (fun _ => rfl) (fun _ _ => trivial)
set_option maxRecDepth 100000 in
theorem opens_row {H : Type} {enc : TypeId × Value → H} {W : World} : Opens enc Tryd.prog W 58 rwC (fun _ => True) :=
  (Opens.struct Tryd.underlying58 (by kernel_rfl) (FOpens.cons (Opens.int Tryd.underlying3) (by kernel_rfl) (FOpens.cons (Opens.int Tryd.underlying3) (by kernel_rfl) (FOpens.nil _)))).map (fun a => (⟨a.1, a.2.1⟩ : Rw)) (fun _ => rfl) (fun _ _ => trivial)
def slC {α : Type} (s : Sl α) : List Value := [.slice s.A s.l.length s.cap]
def slOk {α : Type} (W : World) (e : TypeId) (z : Nat) (cells : α → List Value) (ok : α → Prop) (s : Sl α) : Prop := s.l.length ≤ s.cap ∧ s.cap ≤ maxLen ∧ Rd W W.heap.size e z s.A s.l.length (s.l.flatMap cells) ∧ ∀ a ∈ s.l, ok a
theorem opens_rows {H : Type} {enc : TypeId × Value → H} {W : World} : Opens enc Tryd.prog W 25 slC (slOk W 58 2 rwC (fun _ => True)) :=
  Opens.slice Tryd.underlying25 (by kernel_rfl) (by decide) (fun _ => rfl) opens_row
set_option maxRecDepth 100000 in
theorem opens_act {H : Type} {enc : TypeId × Value → H} {W : World} : Opens enc Tryd.prog W 32 actC (fun a => a.rows.length ≤ a.cap ∧ Rd W W.heap.size 58 2 a.A a.rows.length (rwsC a.rows)) :=
  (Opens.struct Tryd.underlying32 (by kernel_rfl) (FOpens.cons (Opens.int Tryd.underlying3) (by kernel_rfl) (FOpens.cons opens_id (by kernel_rfl) (FOpens.cons opens_rows (by kernel_rfl) (FOpens.nil _))))).map
    (fun a => (⟨a.1, a.2.1, a.2.2.1.A, a.2.2.1.cap, a.2.2.1.l⟩ : ActC)) (fun _ => rfl) (fun _ h => ⟨h.2.2.1.1, h.2.2.1.2.2.1⟩)
theorem opens_acts {H : Type} {enc : TypeId × Value → H} {W : World} : Opens enc Tryd.prog W 22 slC (slOk W 32 5 actC (fun a => a.rows.length ≤ a.cap ∧ Rd W W.heap.size 58 2 a.A a.rows.length (rwsC a.rows))) :=
  Opens.slice Tryd.underlying22 (by kernel_rfl) (by decide) (fun _ => rfl) opens_act

set_option maxRecDepth 100000 in
theorem arg_slice {H : Type} {enc : TypeId × Value → H} {W : World} {base : Nat} {t e : TypeId} {α : Type} {ok : Sl α → Prop} {v : Value} {d : DataW H} {p : List MemPlace} (ht : Tryd.prog.underlying t = some (.slice e)) (ho : Opens enc Tryd.prog W t slC ok)
    (hv : Value.okWide Tryd.prog W .any base t v) (hd : DataW.Trod enc Tryd.prog W 0 (fun _ => true) true t v d p) : ∃ s : Sl α, v = .slice s.A s.l.length s.cap ∧ ok s := by
  obtain ⟨A, n, c, rfl⟩ := okWide_slice ht hv
  obtain ⟨s, hs, hk⟩ := ho.Trod hd
  refine ⟨s, ?_, hk⟩
  simpa [Value.cells, slC] using hs
set_option maxRecDepth 100000 in
theorem arg_id {H : Type} {enc : TypeId × Value → H} {W : World} {base : Nat} {v : Value} {d : DataW H} {p : List MemPlace} (hv : Value.okWide Tryd.prog W .any base 24 v) (hd : DataW.Trod enc Tryd.prog W 0 (fun _ => true) true 24 v d p) : ∃ x : Id3, v = idV x := by
  obtain ⟨cs, rfl, _⟩ := okWide_struct Tryd.underlying24 hv
  obtain ⟨x, hx, _⟩ := opens_id.Trod hd
  refine ⟨x, ?_⟩
  have hx' : cs.toList = idC x := hx
  congr 1
  exact Array.ext' (by rw [hx']; rfl)
set_option maxRecDepth 100000 in
theorem arg_int {H : Type} {enc : TypeId × Value → H} {W : World} {base : Nat} {v : Value} {d : DataW H} {p : List MemPlace} (hv : Value.okWide Tryd.prog W .any base 3 v) (hd : DataW.Trod enc Tryd.prog W 0 (fun _ => true) true 3 v d p) : ∃ n : Int, v = .int .i64 n ∧ (Lit.int .i64 n).wf = true := by
  obtain ⟨n, rfl, _, _, hw⟩ := open_int Tryd.underlying3 hv hd
  exact ⟨n, rfl, hw⟩

/-! ### tributarylaw10.MemOldest -/
set_option maxRecDepth 100000 in
theorem oldest_lifted (os : Os) (started : os.Started) (H : Type) (enc : TypeId × Value → H) :
    ReturnsInHanded {} Tryd.checked os 3 .any (fun w args => (Rows.memOldestSpec.pre enc Tryd.prog Tryd.f3 [] false w args ∧ laidMetH Tryd.prog [("errors.errorType", Rows.laid_errors_errorType)] w) ∧ sizedMet enc Tryd.prog Tryd.f3 (OpenSpec.ofChange Rows.memOldestSpec) false w args)
      (Rows.memOldestSpec.post enc Tryd.prog Tryd.f3 false true false false) := by
  refine lift_ os started 3 Tryd.f3 Rows.memOldestSpec #[.int .i64 0, .slice none 0 0, .agg #[.int .i64 0, .int .i64 0, .int .i64 0], .slice none 0 0] 8 rfl (by kernel_rfl) Tryd.func3 (by kernel_rfl) (by kernel_rfl) (by kernel_rfl) (by kernel_rfl) ?_ ?_ ?_
  · intro ds hl
    rw [Tryd.params3] at hl
    obtain ⟨a, b, c, d, rfl⟩ : ∃ a b c d, ds = [a, b, c, d] := by
      match ds, hl with
      | [a, b, c, d], _ => exact ⟨a, b, c, d, rfl⟩
    rfl
  · rw [Tryd.params3]
    intro t ht
    simp only [List.mem_cons, List.not_mem_nil, or_false] at ht
    rcases ht with rfl | rfl | rfl | rfl <;> exact ⟨by kernel_rfl, of_decide_eq_true (by kernel_rfl)⟩
  · intro W base args ds p hval hA hg
    rw [Tryd.params3] at hA hval
    obtain ⟨v0, v1, v2, v3, d0, d1, d2, d3, p0, p1, p2, p3, rfl, rfl, rfl, h0, h1, h2, h3⟩ := trodAll_four hA
    obtain ⟨mx, rfl, _⟩ := arg_int (hval 0 _ v0 rfl rfl) h0
    obtain ⟨s1, rfl, k1⟩ := arg_slice Tryd.underlying22 opens_acts (hval 1 _ v1 rfl rfl) h1
    obtain ⟨x, rfl⟩ := arg_id (hval 2 _ v2 rfl rfl) h2
    obtain ⟨s3, rfl, k3⟩ := arg_slice Tryd.underlying25 opens_rows (hval 3 _ v3 rfl rfl) h3
    exact oldest_c W mx s1.A s1.cap s1.l x s3.A s3.cap s3.l hg k1.2.2.1 (fun a ha => (k1.2.2.2 a ha).2) (fun a ha => (k1.2.2.2 a ha).1) k3.2.2.1 k3.1

theorem oldest_row : Rows.MemOldestSaid :=
  OpenClaim.holds_of_wide 3 Tryd.f3 rfl rfl rfl rfl rfl rfl rfl ⟨rfl, rfl, rfl, rfl, rfl⟩ rfl rfl rfl rfl rfl (by kernel_rfl) Tryd.func3 (by kernel_rfl)
    (of_decide_eq_true (by kernel_rfl)) (by unfold Func.isWrapper; rw [if_neg (of_decide_eq_false (by kernel_rfl))]; exact ⟨rfl, rfl⟩)
    (fun os started H enc _ => oldest_lifted os started H enc)

theorem memOldest_holds : Rows.MemOldestCardSaid :=
  Claim7.holds_tied_plain_at .later [] [.handle] true (true, "878139fba64ab9adbb6915fe68ab55baf5daefb533b0a3adff105abd5f51ebd2") true
    oldest_row (fun _ h => by cases h) (by kernel_rfl) (fun _ h => by cases h) memOldest_row_tie rfl ⟨rfl, rfl⟩ (by kernel_rfl) rfl
    (fun f fn hf hfn => by
      obtain rfl : f = 3 := Option.some.inj ((show Tryd.prog.funcNamed "tributary/tributarylaw10.MemOldest" = some 3 by kernel_rfl).symm.trans hf) |>.symm
      obtain rfl : fn = Tryd.f3 := (Option.some.inj (Tryd.func3.symm.trans hfn)).symm
      exact ⟨by kernel_rfl, fun j t ht => by
        rw [Tryd.params3] at ht
        have hm : t ∈ [3, 22, 24, 25] := by
          have := List.mem_of_getElem? (by simpa using ht : ([3, 22, 24, 25] : List TypeId)[j]? = some t)
          exact this
        simp only [List.mem_cons, List.not_mem_nil, or_false] at hm
        rcases hm with rfl | rfl | rfl | rfl
        · exact (show Tryd.prog.wantsStandIn 3 = false by kernel_rfl)
        · exact (show Tryd.prog.wantsStandIn 22 = false by kernel_rfl)
        · exact (show Tryd.prog.wantsStandIn 24 = false by kernel_rfl)
        · exact (show Tryd.prog.wantsStandIn 25 = false by kernel_rfl)⟩)
    (by kernel_rfl)
#print axioms memOldest_holds
end Go.Proofs.YtgigdhfdpabmoaaDoor
