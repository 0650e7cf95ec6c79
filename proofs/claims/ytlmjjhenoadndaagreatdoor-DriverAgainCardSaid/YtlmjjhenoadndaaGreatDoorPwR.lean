/- tributarylaw17.DriverAgain returns true whatever the input (any plan, any Every, any acts), and its arguments read behind the call as they read before: the tied card. Conditions: none beyond the row's own (errors.errorType is laid as the program's text lays it). -/
import Derived.Test.YtlmjjhenoadndaaGreatDoorPwQ
import Derived.Test.YtlmjjhenoadndaaGreatDoorPwI
import Derived.Test.YtlmjjhenoadndaaGreatDoorCards
import Derived.Test.YtlmjjhenoadndaaGreatDoorTie

/- From a walk to a law's row, with what the reach says of each slice. -/
namespace Go.Proofs.YtlmjjhenoadndaaGreatDoor
open Go.ChangeShapes Go.WideShapes Go.RowKit

section
variable {H : Type} {enc : TypeId × Value → H}
set_option maxRecDepth 100000 in
/-- The row's step, whatever the law. -/
theorem lift_w (os : Os) (started : os.Started) (f : FuncId) (fn : Func) (s : ChangeSpec) (ws : Array Value) (fuel : Nat) (hvars : s.vars = []) (hvt : s.plain.varTypes Tryz.prog = [])
    (noInit : Tryz.prog.inits.idxOf? f = none) (hfn : Tryz.prog.funcs[f]? = some fn) (hres : fn.resultTypes = #[4])
    (hok : Input.okWideB Tryz.prog ((laidWorld os).forCall (fun _ _ => 0) ⟨#[], ws, []⟩) f ⟨#[], ws, []⟩ = true)
    (hpre : s.preB enc Tryz.prog fn [] false ((laidWorld os).forCall (fun _ _ => 0) ⟨#[], ws, []⟩).memory ws fuel = true)
    (hsz : s.sizedB enc Tryz.prog fn false ((laidWorld os).forCall (fun _ _ => 0) ⟨#[], ws, []⟩).memory ws fuel = true)
    (hspec : ∀ ds : List (DataW H), ds.length = fn.params.toList.length → s.fn H (ds ++ []) = { results := [.lit (.bool true)], args := ds })
    (hread : ∀ t ∈ fn.params.toList, Tryz.prog.readableRec t = true ∧ t < Tryz.prog.types.size)
    (walk : ∀ (W : World) (base : Nat) (args : Array Value) (ds : List (DataW H)) (p : List MemPlace), (∀ (j : Nat) t v, fn.params[j]? = some t → args[j]? = some v → Value.okWide Tryz.prog W .any base t v) →
      DataW.TrodAll enc Tryz.prog W 0 (fun _ => true) true fn.params.toList args.toList ds p → (∀ n ∈ DataW.weightsEach Tryz.prog fn.params.toList ds, n ≤ reachBytes) → TypeVar W → Calls Tryz.prog f args W (BoolPost W true)) :
    ReturnsInHanded {} Tryz.checked os f .any (fun w args => (s.pre enc Tryz.prog fn [] false w args ∧ laidMetH Tryz.prog [("errors.errorType", Rows.laid_errors_errorType)] w) ∧ sizedMet enc Tryz.prog fn (OpenSpec.ofChange s) false w args)
      (s.post enc Tryz.prog fn false true false false) := by
  refine returnsInHanded_of_change_and (C := Tryz.checked) (X := fun w _ => laidMetH Tryz.prog [("errors.errorType", Rows.laid_errors_errorType)] w) (fun _ _ _ hh h => h.of_heap hh) own_ started noInit hfn
    (ChangeSpec.witness_at (enc := enc) (C := Tryz.checked) (os := os) (X := fun w _ => laidMetH Tryz.prog [("errors.errorType", Rows.laid_errors_errorType)] w) false (laidWorld os) ws fuel rfl (by kernel_rfl) (by kernel_rfl) hok hpre hsz (laidWorld_met os _)) ?_
  intro W base args ds gs before hval hW _ hwt hL _
  have hW' := hW
  obtain ⟨p, q, hA, hV, rfl, hfz, hnd⟩ := hW
  rw [hvars] at hV
  have hg0 : gs = [] ∧ q = [] := by
    cases gs with
    | nil => exact ⟨rfl, hV⟩
    | cons g r => exact absurd hV (by intro h; cases h)
  obtain ⟨rfl, rfl⟩ := hg0
  have hlen : ds.length = fn.params.toList.length := trodAll_len hA
  rw [show s.plain.varTypes (Tryz.checked).prog = [] from hvt, List.append_nil, List.append_nil] at hwt
  refine (walk W base args ds p hval hA (fun n hn => by simpa using List.all_eq_true.1 hwt n hn) (typeVar_of_laid hL)).mono fun e W' ⟨he, hb⟩ => ?_
  subst he
  refine ⟨_, rfl, _, _, _, [], p, [], hW', ?_, ?_, ?_, hb.frame _, fun h => by cases h⟩
  · rw [hspec ds hlen, hres]
    exact trodAll_mk1 (shut_bool Tryz.underlying4 true)
  · rw [hspec ds hlen]
    exact trodAll_below hb hread hA
  · rw [hspec ds hlen, hvars]
    rfl
end
end Go.Proofs.YtlmjjhenoadndaaGreatDoor

/- The arguments of this seat's laws, opened. -/
namespace Go.Proofs.YtlmjjhenoadndaaGreatDoor
open Go.ChangeShapes Go.WideShapes Go.RowKit

theorem i64_wf {n : Int} (h : (Lit.int .i64 n).wf = true) : I64 n := by
  have h' : (decide (IntKind.i64.min ≤ n) && decide (n ≤ IntKind.i64.max)) = true := h
  rw [Bool.and_eq_true, decide_eq_true_eq, decide_eq_true_eq] at h'
  have e1 : IntKind.i64.min = -9223372036854775808 := by decide
  have e2 : IntKind.i64.max = 9223372036854775807 := by decide
  unfold I64
  omega
set_option maxRecDepth 100000 in
theorem opens_row {H : Type} {enc : TypeId × Value → H} {W : World} : Opens enc Tryz.prog W 74 rwC (fun r => I64 r.k ∧ I64 r.v) :=
  (Opens.struct Tryz.underlying74 (by kernel_rfl) (FOpens.cons (Opens.int Tryz.underlying3) (by kernel_rfl) (FOpens.cons (Opens.int Tryz.underlying3) (by kernel_rfl) (FOpens.nil _)))).map (fun a => (⟨a.1, a.2.1⟩ : Rw)) (fun _ => rfl) (fun _ h => ⟨i64_wf h.1, i64_wf h.2.1⟩)
def slC {α : Type} (s : Sl α) : List Value := [.slice s.A s.l.length s.cap]
def slOk {α : Type} (W : World) (e : TypeId) (z : Nat) (cells : α → List Value) (ok : α → Prop) (s : Sl α) : Prop := s.l.length ≤ s.cap ∧ s.cap ≤ maxLen ∧ Rd W W.heap.size e z s.A s.l.length (s.l.flatMap cells) ∧ ∀ a ∈ s.l, ok a
theorem opens_rows {H : Type} {enc : TypeId × Value → H} {W : World} : Opens enc Tryz.prog W 56 slC (slOk W 74 2 rwC (fun r => I64 r.k ∧ I64 r.v)) :=
  Opens.slice Tryz.underlying56 (by kernel_rfl) (by decide) (fun _ => rfl) opens_row
set_option maxRecDepth 100000 in
theorem opens_op {H : Type} {enc : TypeId × Value → H} {W : World} : Opens enc Tryz.prog W 168 opC (fun _ => True) :=
  (Opens.struct Tryz.underlying168 (by kernel_rfl) (FOpens.cons (Opens.int Tryz.underlying3) (by kernel_rfl) (FOpens.cons (Opens.int Tryz.underlying3) (by kernel_rfl) (FOpens.cons (Opens.int Tryz.underlying3) (by kernel_rfl) (FOpens.cons (Opens.int Tryz.underlying3) (by kernel_rfl) (FOpens.cons (Opens.int Tryz.underlying3) (by kernel_rfl) (FOpens.nil _))))))).map
    (fun a => (⟨a.1, a.2.1, a.2.2.1, a.2.2.2.1, a.2.2.2.2.1⟩ : OpD)) (fun _ => rfl) (fun _ _ => trivial)
theorem opens_ops {H : Type} {enc : TypeId × Value → H} {W : World} : Opens enc Tryz.prog W 22 slC (slOk W 168 5 opC (fun _ => True)) :=
  Opens.slice Tryz.underlying22 (by kernel_rfl) (by decide) (fun _ => rfl) opens_op
theorem opens_ints {H : Type} {enc : TypeId × Value → H} {W : World} : Opens enc Tryz.prog W 55 slC (slOk W 3 1 (fun n : Int => [.int .i64 n]) (fun n => (Lit.int .i64 n).wf = true)) :=
  Opens.slice Tryz.underlying55 (by kernel_rfl) (by decide) (fun _ => rfl) (Opens.int Tryz.underlying3)
structure PlC where
  parts : Int
  s : Sl OpD
set_option maxRecDepth 100000 in
theorem opens_plan {H : Type} {enc : TypeId × Value → H} {W : World} : Opens enc Tryz.prog W 24 (fun a : PlC => [.int .i64 a.parts] ++ slC a.s) (fun a => slOk W 168 5 opC (fun _ => True) a.s) :=
  (Opens.struct Tryz.underlying24 (by kernel_rfl) (FOpens.cons (Opens.int Tryz.underlying3) (by kernel_rfl) (FOpens.cons opens_ops (by kernel_rfl) (FOpens.nil _)))).map (fun a => (⟨a.1, a.2.1⟩ : PlC)) (fun _ => rfl) (fun _ h => h.2.1)
set_option maxRecDepth 100000 in
theorem arg_slice {H : Type} {enc : TypeId × Value → H} {W : World} {base : Nat} {t e : TypeId} {α : Type} {ok : Sl α → Prop} {v : Value} {d : DataW H} {p : List MemPlace} (ht : Tryz.prog.underlying t = some (.slice e)) (ho : Opens enc Tryz.prog W t slC ok)
    (hv : Value.okWide Tryz.prog W .any base t v) (hd : DataW.Trod enc Tryz.prog W 0 (fun _ => true) true t v d p) : ∃ s : Sl α, v = .slice s.A s.l.length s.cap ∧ ok s := by
  obtain ⟨A, n, c, rfl⟩ := okWide_slice ht hv
  obtain ⟨s, hs, hk⟩ := ho.Trod hd
  refine ⟨s, ?_, hk⟩
  simpa [Value.cells, slC] using hs
set_option maxRecDepth 100000 in
theorem arg_plan {H : Type} {enc : TypeId × Value → H} {W : World} {base : Nat} {v : Value} {d : DataW H} {p : List MemPlace} (hv : Value.okWide Tryz.prog W .any base 24 v) (hd : DataW.Trod enc Tryz.prog W 0 (fun _ => true) true 24 v d p) :
    ∃ (q : PlanD) (A : Option Addr) (c : Nat), v = planV q A c ∧ RdS W (· < W.heap.size) 5 A q.ops.length (opsC q.ops) := by
  obtain ⟨cs, rfl, _⟩ := okWide_struct Tryz.underlying24 hv
  obtain ⟨x, hx, h1, h2, h3, _⟩ := opens_plan.Trod hd
  refine ⟨⟨x.parts, x.s.l⟩, x.s.A, x.s.cap, ?_, RdS.of_rd h3 (by decide)⟩
  have hx' : cs.toList = [.int .i64 x.parts, .slice x.s.A x.s.l.length x.s.cap] := hx
  congr 1
  exact Array.ext' (by rw [hx'])
set_option maxRecDepth 100000 in
theorem arg_int {H : Type} {enc : TypeId × Value → H} {W : World} {base : Nat} {v : Value} {d : DataW H} {p : List MemPlace} (hv : Value.okWide Tryz.prog W .any base 3 v) (hd : DataW.Trod enc Tryz.prog W 0 (fun _ => true) true 3 v d p) : ∃ n : Int, v = .int .i64 n ∧ I64 n := by
  obtain ⟨n, rfl, _, _, hw⟩ := open_int Tryz.underlying3 hv hd
  exact ⟨n, rfl, i64_wf hw⟩
end Go.Proofs.YtlmjjhenoadndaaGreatDoor

/- The arguments of the driver's laws, opened, with what the reach says. -/
namespace Go.Proofs.YtlmjjhenoadndaaGreatDoor
open Go.ChangeShapes Go.WideShapes Go.RowKit

def slOkW {α : Type} (W : World) (e : TypeId) (z : Nat) (cells : α → List Value) (ok : α → Prop) (s : Sl α) : Prop := (s.cap * (Tryz.prog).bytesOf e ≤ reachBytes ∧ s.l.length ≤ s.cap) ∧ s.cap ≤ maxLen ∧ Rd W W.heap.size e z s.A s.l.length (s.l.flatMap cells) ∧ ∀ a ∈ s.l, ok a
set_option maxRecDepth 100000 in
theorem opensW_row {H : Type} {enc : TypeId × Value → H} {W : World} : OpensW enc Tryz.prog W 74 rwC (fun r => I64 r.k ∧ I64 r.v) :=
  (OpensW.struct Tryz.underlying74 (by kernel_rfl) (FOpensW.cons (OpensW.int Tryz.underlying3) (by kernel_rfl) (FOpensW.cons (OpensW.int Tryz.underlying3) (by kernel_rfl) (FOpensW.nil _)))).map (fun a => (⟨a.1, a.2.1⟩ : Rw)) (fun _ => rfl) (fun _ h => ⟨i64_wf h.1, i64_wf h.2.1⟩)
theorem opensW_rows {H : Type} {enc : TypeId × Value → H} {W : World} : OpensW enc Tryz.prog W 56 slC (slOkW W 74 2 rwC (fun r => I64 r.k ∧ I64 r.v)) :=
  OpensW.slice Tryz.underlying56 (by kernel_rfl) (by decide) (fun _ => rfl) opensW_row
set_option maxRecDepth 100000 in
theorem opensW_id {H : Type} {enc : TypeId × Value → H} {W : World} : OpensW enc Tryz.prog W 61 idC (fun _ => True) :=
  (OpensW.struct Tryz.underlying61 (by kernel_rfl) (FOpensW.cons (OpensW.int Tryz.underlying3) (by kernel_rfl) (FOpensW.cons (OpensW.int Tryz.underlying3) (by kernel_rfl) (FOpensW.cons (OpensW.int Tryz.underlying3) (by kernel_rfl) (FOpensW.nil _))))).map (fun a => (⟨a.1, a.2.1, a.2.2.1⟩ : Id3)) (fun _ => rfl) (fun _ _ => trivial)
set_option maxRecDepth 100000 in
theorem opensW_hold {H : Type} {enc : TypeId × Value → H} {W : World} : OpensW enc Tryz.prog W 92 hdC (fun _ => True) :=
  (OpensW.struct Tryz.underlying92 (by kernel_rfl) (FOpensW.cons opensW_id (by kernel_rfl) (FOpensW.cons (OpensW.int Tryz.underlying3) (by kernel_rfl) (FOpensW.nil _)))).map (fun a => (⟨a.1, a.2.1⟩ : Hd)) (fun _ => rfl) (fun _ _ => trivial)
theorem opensW_holds {H : Type} {enc : TypeId × Value → H} {W : World} : OpensW enc Tryz.prog W 89 slC (slOkW W 92 4 hdC (fun _ => True)) :=
  OpensW.slice Tryz.underlying89 (by kernel_rfl) (by decide) (fun _ => rfl) opensW_hold
structure MsgOk (W : World) (m : MsgC) : Prop where
  n : I64 m.n
  h : slOkW W 92 4 hdC (fun _ => True) m.h
  r : slOkW W 74 2 rwC (fun r => I64 r.k ∧ I64 r.v) m.r
set_option maxRecDepth 100000 in
theorem opensW_msg {H : Type} {enc : TypeId × Value → H} {W : World} : OpensW enc Tryz.prog W 94 msgCs (MsgOk W) :=
  (OpensW.struct Tryz.underlying94 (by kernel_rfl) (FOpensW.cons (OpensW.int Tryz.underlying3) (by kernel_rfl) (FOpensW.cons (OpensW.int Tryz.underlying3) (by kernel_rfl) (FOpensW.cons opensW_id (by kernel_rfl) (FOpensW.cons (OpensW.bool Tryz.underlying4) (by kernel_rfl)
    (FOpensW.cons opensW_holds (by kernel_rfl) (FOpensW.cons (OpensW.int Tryz.underlying90) (by kernel_rfl) (FOpensW.cons opensW_hold (by kernel_rfl) (FOpensW.cons opensW_rows (by kernel_rfl) (FOpensW.cons (OpensW.int Tryz.underlying3) (by kernel_rfl) (FOpensW.nil _))))))))))).map
    (fun a => (⟨a.1, a.2.1, a.2.2.1, a.2.2.2.1, a.2.2.2.2.1, a.2.2.2.2.2.1, a.2.2.2.2.2.2.1, a.2.2.2.2.2.2.2.1, a.2.2.2.2.2.2.2.2.1⟩ : MsgC)) (fun _ => rfl) (fun _ h => ⟨i64_wf h.2.2.2.2.2.2.2.2.1, h.2.2.2.2.1, h.2.2.2.2.2.2.2.1⟩)
theorem bytes_hold : (Tryz.prog).bytesOf 92 = 32 := by kernel_rfl
theorem bytes_row : (Tryz.prog).bytesOf 74 = 16 := by kernel_rfl
set_option maxRecDepth 100000 in
theorem opensW_act {H : Type} {enc : TypeId × Value → H} {W : World} : OpensW enc Tryz.prog W 96 actK (ActOk W) :=
  (OpensW.struct Tryz.underlying96 (by kernel_rfl) (FOpensW.cons (OpensW.int Tryz.underlying3) (by kernel_rfl) (FOpensW.cons (OpensW.int Tryz.underlying3) (by kernel_rfl) (FOpensW.cons (OpensW.int Tryz.underlying3) (by kernel_rfl) (FOpensW.cons (OpensW.bool Tryz.underlying4) (by kernel_rfl)
    (FOpensW.cons opensW_rows (by kernel_rfl) (FOpensW.cons opensW_msg (by kernel_rfl) (FOpensW.nil _)))))))).map
    (fun a => (⟨a.1, a.2.1, a.2.2.1, a.2.2.2.1, a.2.2.2.2.1, a.2.2.2.2.2.1⟩ : ActK)) (fun _ => rfl) (fun a h => by
      obtain ⟨_, hn, _, _, hr, hm, _⟩ := h
      have h1 := hm.h.1
      have h2 := hm.r.1
      rw [bytes_hold] at h1
      rw [bytes_row] at h2
      simp only [reachBytes] at h1 h2
      have h3 : a.2.2.2.2.2.1.h.l.length * 32 ≤ 140737488355328 := by omega
      have h4 : a.2.2.2.2.2.1.r.l.length * 16 ≤ 140737488355328 := by omega
      exact ⟨i64_wf hn, hr.1.2, RdS.of_rd hr.2.2.1 (by decide), hr.2.2.2, hm.n, hm.h.2.2.1, h3, hm.r.2.2.1, h4⟩)
theorem opensW_acts {H : Type} {enc : TypeId × Value → H} {W : World} : OpensW enc Tryz.prog W 85 slC (slOkW W 96 19 actK (ActOk W)) :=
  OpensW.slice Tryz.underlying85 (by kernel_rfl) (by decide) (fun _ => rfl) opensW_act
set_option maxRecDepth 100000 in
theorem arg_sliceW {H : Type} {enc : TypeId × Value → H} {W : World} {base : Nat} {t e : TypeId} {α : Type} {ok : Sl α → Prop} {v : Value} {d : DataW H} {p : List MemPlace} (ht : Tryz.prog.underlying t = some (.slice e)) (ho : OpensW enc Tryz.prog W t slC ok)
    (hv : Value.okWide Tryz.prog W .any base t v) (hd : DataW.Trod enc Tryz.prog W 0 (fun _ => true) true t v d p) (hwt : ∀ n ∈ d.weights Tryz.prog t, n ≤ reachBytes) : ∃ s : Sl α, v = .slice s.A s.l.length s.cap ∧ ok s := by
  obtain ⟨A, n, c, rfl⟩ := okWide_slice ht hv
  obtain ⟨s, hs, hk⟩ := ho.Trod hd hwt
  refine ⟨s, ?_, hk⟩
  simpa [Value.cells, slC] using hs
end Go.Proofs.YtlmjjhenoadndaaGreatDoor

namespace Go.Proofs.YtlmjjhenoadndaaGreatDoor
open Go.ChangeShapes Go.WideShapes Go.RowKit

set_option maxRecDepth 100000 in
theorem driverAgain_lifted (os : Os) (started : os.Started) (H : Type) (enc : TypeId × Value → H) :
    ReturnsInHanded {} Tryz.checked os 7 .any (fun w args => (Rows.driverAgainSpec.pre enc Tryz.prog Tryz.f7 [] false w args ∧ laidMetH Tryz.prog [("errors.errorType", Rows.laid_errors_errorType)] w) ∧ sizedMet enc Tryz.prog Tryz.f7 (OpenSpec.ofChange Rows.driverAgainSpec) false w args)
      (Rows.driverAgainSpec.post enc Tryz.prog Tryz.f7 false true false false) := by
  refine lift_w os started 7 Tryz.f7 Rows.driverAgainSpec #[.agg #[.int .i64 0, .slice none 0 0], .int .i64 0, .slice none 0 0] 8 rfl (by kernel_rfl) (by kernel_rfl) Tryz.func7 (by kernel_rfl) (by kernel_rfl) (by kernel_rfl) (by kernel_rfl) ?_ ?_ ?_
  · intro ds hl
    rw [Tryz.params7] at hl
    obtain ⟨a, b, c, rfl⟩ : ∃ a b c, ds = [a, b, c] := by
      match ds, hl with
      | [a, b, c], _ => exact ⟨a, b, c, rfl⟩
    rfl
  · rw [Tryz.params7]
    intro t ht
    simp only [List.mem_cons, List.not_mem_nil, or_false] at ht
    rcases ht with rfl | rfl | rfl <;> exact ⟨by kernel_rfl, of_decide_eq_true (by kernel_rfl)⟩
  · intro W base args ds p hval hA hwt hg
    rw [Tryz.params7] at hA hval hwt
    obtain ⟨v0, v1, v2, d0, d1, d2, p0, p1, p2, rfl, rfl, rfl, h0, h1, h2⟩ := trodAll_three hA
    obtain ⟨q, A, c, rfl, k0⟩ := arg_plan (hval 0 _ v0 rfl rfl) h0
    obtain ⟨n, rfl, _⟩ := arg_int (hval 1 _ v1 rfl rfl) h1
    obtain ⟨s2, rfl, k2⟩ := arg_sliceW Tryz.underlying85 opensW_acts (hval 2 _ v2 rfl rfl) h2 (fun m hm => hwt m (weightsEach_mem _ _ 2 _ _ rfl rfl hm))
    exact again_c W ⟨k0, k2.2.2.1, k2.2.2.2, hg⟩

theorem driverAgain_row : Rows.DriverAgainSaid :=
  OpenClaim.holds_of_wide 7 Tryz.f7 rfl rfl rfl rfl rfl rfl rfl ⟨rfl, rfl, rfl, rfl, rfl⟩ rfl rfl rfl rfl rfl (by kernel_rfl) Tryz.func7 (by kernel_rfl)
    (of_decide_eq_true (by kernel_rfl)) (by unfold Func.isWrapper; rw [if_neg (of_decide_eq_false (by kernel_rfl))]; exact ⟨rfl, rfl⟩)
    (fun os started H enc _ => driverAgain_lifted os started H enc)

theorem driverAgain_holds : Rows.DriverAgainCardSaid :=
  Claim7.holds_tied_plain_at .later [] [.handle] true (true, "a7a6c43296a8032da50a050a17ac17b4dd9b5e90ee02a3e6c2b4ef6f776052c7") true
    driverAgain_row (fun _ h => by cases h) (by kernel_rfl) (fun _ h => by cases h) driverAgain_row_tie rfl ⟨rfl, rfl⟩ (by kernel_rfl) rfl
    (fun f fn hf hfn => by
      obtain rfl : f = 7 := Option.some.inj ((show Tryz.prog.funcNamed "tributary/tributarylaw17.DriverAgain" = some 7 by kernel_rfl).symm.trans hf) |>.symm
      obtain rfl : fn = Tryz.f7 := (Option.some.inj (Tryz.func7.symm.trans hfn)).symm
      exact ⟨by kernel_rfl, fun j t ht => by
        rw [Tryz.params7] at ht
        have hm : t ∈ [24, 3, 85] := by
          have := List.mem_of_getElem? (by simpa using ht : ([24, 3, 85] : List TypeId)[j]? = some t)
          exact this
        simp only [List.mem_cons, List.not_mem_nil, or_false] at hm
        rcases hm with rfl | rfl | rfl
        · exact (show Tryz.prog.wantsStandIn 24 = false by kernel_rfl)
        · exact (show Tryz.prog.wantsStandIn 3 = false by kernel_rfl)
        · exact (show Tryz.prog.wantsStandIn 85 = false by kernel_rfl)⟩)
    (by kernel_rfl)
#print axioms driverAgain_holds
end Go.Proofs.YtlmjjhenoadndaaGreatDoor
