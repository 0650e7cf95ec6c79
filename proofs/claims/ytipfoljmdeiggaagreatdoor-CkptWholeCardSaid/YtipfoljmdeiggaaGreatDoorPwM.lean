/- SortT, SortD, Lift, Args: laid together. -/
import Derived.Test.YtipfoljmdeiggaaGreatDoorProg
import Derived.Test.YtipfoljmdeiggaaGreatDoorPwH
import Derived.Test.YtipfoljmdeiggaaGreatDoorRows
import Derived.Test.YtipfoljmdeiggaaGreatDoorPwK
import Derived.Test.YtipfoljmdeiggaaGreatDoorPwB
import Derived.Shelf.SlSortCmp.WholeK
import Derived.Shelf.SlSortCmp.NoneTotal
import Derived.ChangeSame
import Derived.ChangeVars
import Derived.JoinedOf
import Derived.LaidLaws
import Derived.LaidHandle
import Derived.Stop.Joined
import Derived.ChangeOld

/- slices.SortFunc at this seat: the layout of its functions and types, written by the kit tool lay-plain.mjs. -/
namespace Go.Proofs
open Go.Shelf
def Tryz.sortPz_ren : Go.Shelf.Ren := ⟨fun | 6 => 122 | 15 => 203 | 14 => 202 | 28 => 264 | 29 => 265 | 20 => 256 | 21 => 257 | 22 => 258 | 23 => 259 | 24 => 260 | 25 => 261 | 26 => 262 | 27 => 263 | 46 => 297 | 47 => 298 | 48 => 299 | 49 => 300 | 50 => 301 | 57 => 320 | n => n, fun | 22 => 52 | 24 => 83 | 25 => 203 | 3 => 3 | 39 => 270 | 0 => 0 | 53 => 358 | 55 => 269 | 4 => 4 | 46 => 351 | 45 => 350 | 50 => 355 | 5 => 5 | 9 => 9 | 66 => 385 | 70 => 346 | 76 => 398 | 77 => 89 | n => n, fun | n => n⟩
theorem Tryz.sortPz : Go.Proofs.SlLaysF0.n6 Tryz.prog Tryz.sortPz_ren := {
  mixed := by kernel_rfl
  f6 := ⟨Tryz.f122.name, by decide, Tryz.func122.trans (congrArg some (by kernel_rfl))⟩
  f14 := ⟨Tryz.f202.name, by decide, Tryz.func202.trans (congrArg some (by kernel_rfl))⟩
  f15 := Tryz.func203.trans (congrArg some (by kernel_rfl))
  f20 := ⟨Tryz.f256.name, by decide, Tryz.func256.trans (congrArg some (by kernel_rfl))⟩
  f21 := ⟨Tryz.f257.name, by decide, Tryz.func257.trans (congrArg some (by kernel_rfl))⟩
  f22 := ⟨Tryz.f258.name, by decide, Tryz.func258.trans (congrArg some (by kernel_rfl))⟩
  f23 := ⟨Tryz.f259.name, by decide, Tryz.func259.trans (congrArg some (by kernel_rfl))⟩
  f24 := ⟨Tryz.f260.name, by decide, Tryz.func260.trans (congrArg some (by kernel_rfl))⟩
  f25 := ⟨Tryz.f261.name, by decide, Tryz.func261.trans (congrArg some (by kernel_rfl))⟩
  f26 := ⟨Tryz.f262.name, by decide, Tryz.func262.trans (congrArg some (by kernel_rfl))⟩
  f27 := ⟨Tryz.f263.name, by decide, Tryz.func263.trans (congrArg some (by kernel_rfl))⟩
  f28 := Tryz.func264.trans (congrArg some (by kernel_rfl))
  f29 := Tryz.func265.trans (congrArg some (by kernel_rfl))
  f46 := ⟨Tryz.f297.name, by decide, Tryz.func297.trans (congrArg some (by kernel_rfl))⟩
  f47 := Tryz.func298.trans (congrArg some (by kernel_rfl))
  f48 := Tryz.func299.trans (congrArg some (by kernel_rfl))
  f49 := ⟨Tryz.f300.name, by decide, Tryz.func300.trans (congrArg some (by kernel_rfl))⟩
  f50 := ⟨Tryz.f301.name, by decide, Tryz.func301.trans (congrArg some (by kernel_rfl))⟩
  f57 := ⟨Tryz.f320.name, by decide, Tryz.func320.trans (congrArg some (by kernel_rfl))⟩
  t0 := Tryz.underlying0
  a0 := Tryz.isAgg0
  z0 := Tryz.sizeOf0
  v0 := Tryz.zeroValue0
  t3 := Tryz.underlying3
  a3 := Tryz.isAgg3
  z3 := Tryz.sizeOf3
  v3 := Tryz.zeroValue3
  t4 := Tryz.underlying4
  a4 := Tryz.isAgg4
  z4 := Tryz.sizeOf4
  v4 := Tryz.zeroValue4
  t5 := Tryz.underlying5
  a5 := Tryz.isAgg5
  z5 := Tryz.sizeOf5
  v5 := Tryz.zeroValue5
  t9 := Tryz.underlying9
  a9 := Tryz.isAgg9
  z9 := Tryz.sizeOf9
  v9 := Tryz.zeroValue9
  t22 := Tryz.underlying52
  a22 := Tryz.isAgg52
  z22 := Tryz.sizeOf52
  v22 := Tryz.zeroValue52
  t25 := Tryz.underlying203
  a25 := Tryz.isAgg203
  z25 := Tryz.sizeOf203
  v25 := Tryz.zeroValue203
  t39 := Tryz.underlying270
  a39 := Tryz.isAgg270
  z39 := Tryz.sizeOf270
  v39 := Tryz.zeroValue270
  t45 := Tryz.underlying350
  a45 := Tryz.isAgg350
  z45 := Tryz.sizeOf350
  v45 := Tryz.zeroValue350
  t46 := Tryz.underlying351
  a46 := Tryz.isAgg351
  z46 := Tryz.sizeOf351
  v46 := Tryz.zeroValue351
  t50 := Tryz.underlying355
  a50 := Tryz.isAgg355
  z50 := Tryz.sizeOf355
  v50 := Tryz.zeroValue355
  t53 := Tryz.underlying358
  a53 := Tryz.isAgg358
  z53 := Tryz.sizeOf358
  v53 := Tryz.zeroValue358
  t55 := Tryz.underlying269
  a55 := Tryz.isAgg269
  z55 := Tryz.sizeOf269
  v55 := Tryz.zeroValue269
  t66 := Tryz.underlying385
  a66 := Tryz.isAgg385
  z66 := Tryz.sizeOf385
  v66 := Tryz.zeroValue385
  t70 := Tryz.underlying346
  a70 := Tryz.isAgg346
  z70 := Tryz.sizeOf346
  v70 := Tryz.zeroValue346
  t76 := Tryz.underlying398
  a76 := Tryz.isAgg398
  z76 := Tryz.sizeOf398
  v76 := Tryz.zeroValue398
  t77 := Tryz.underlying89
  a77 := Tryz.isAgg89
  z77 := Tryz.sizeOf89
  v77 := Tryz.zeroValue89 }
end Go.Proofs

/- The sort of pieces does what is asked of it: by the library's law of slices.SortFunc. -/
namespace Go.Proofs.YtipfoljmdeiggaaGreatDoor
open Go.RowKit Go.Sort Go.Shelf

instance : Inhabited Pz := ⟨⟨⟨0, 0, 0⟩, none, 0, []⟩⟩
theorem bef_iff (x y : Id3) : bef x y = true ↔ x.b < y.b ∨ (x.b = y.b ∧ (x.s < y.s ∨ (x.s = y.s ∧ x.p < y.p))) := by
  unfold bef
  by_cases h1 : x.b = y.b
  · by_cases h2 : x.s = y.s
    · rw [if_neg (by simp [h1]), if_neg (by simp [h2]), decide_eq_true_eq]; omega
    · rw [if_neg (by simp [h1]), if_pos h2, decide_eq_true_eq]; omega
  · rw [if_pos h1, decide_eq_true_eq]; omega
def lessI (x y : Pz) : Int := if bef x.id y.id then -1 else 1
theorem ltOf_less (x y : Pz) : ltOf lessI x y = bef x.id y.id := by
  unfold ltOf lessI
  cases bef x.id y.id <;> rfl
theorem less_swo : SWO (ltOf lessI) where
  irrefl x := by rw [ltOf_less, ← Bool.not_eq_true, bef_iff]; omega
  trans x y z h1 h2 := by rw [ltOf_less, bef_iff] at *; omega
  ntrans x y z h1 h2 := by rw [ltOf_less, ← Bool.not_eq_true, bef_iff] at *; omega
theorem flatK_pz (l : List Pz) : (flatK pzC 4 l.toArray).toList = pzsC l := by
  apply List.ext_getElem?
  intro t
  have hlen : (pzsC l).length = l.length * 4 := flat_len pz_app l
  by_cases ht : t < l.length * 4
  · have hi : t / 4 < l.length := by omega
    have hy : l[t / 4]? = some l[t / 4] := List.getElem?_eq_getElem hi
    have h1 := flat_at pzC 4 (fun _ => rfl) l (t / 4) _ hy (t % 4) (Nat.mod_lt _ (by omega))
    rw [show t / 4 * 4 + t % 4 = t by omega] at h1
    have h2 : (flatK pzC 4 l.toArray).toList[t]? = some ((flatK pzC 4 l.toArray)[t]!) := by
      rw [Array.getElem?_toList, getElem!_pos _ t (by simp; exact ht), Array.getElem?_eq_getElem]
    rw [h2, get_flatK _ _ _ _ (by simpa using ht)]
    show _ = (l.flatMap pzC)[t]?
    rw [h1]
    have h3 : l.toArray[t / 4]! = l[t / 4] := by rw [getElem!_pos _ _ (by simpa using hi)]; simp
    rw [h3]
    have h4 : t % 4 < (pzC l[t / 4]).length := by show t % 4 < 4; omega
    rw [List.getElem?_eq_getElem h4, getElem!_pos (pzC l[t / 4]) (t % 4) h4]
  · rw [List.getElem?_eq_none (l := (flatK pzC 4 l.toArray).toList) (by simp; omega), List.getElem?_eq_none (l := pzsC l) (by rw [hlen]; omega)]

theorem sort_c : SortC := by
  intro W base A c l hown hbase hlen
  rcases List.eq_nil_or_concat l with rfl | hne
  · have h := AnyF.slices_SortFunc_none Tryz.sortPz A c (.func (.func 123) #[] #[]) W
    refine Calls.mono (show Calls Tryz.prog 122 _ _ _ from h) ?_
    rintro e w' ⟨rfl, rfl⟩
    exact ⟨rfl, [], List.Perm.refl _, List.Pairwise.nil, hown, ⟨rfl, rfl, rfl, Nat.le_refl _, fun _ _ _ => rfl⟩⟩
  · have hpos : 0 < l.length := by obtain ⟨_, _, rfl⟩ := hne; simp
    have hown' := hown
    rcases hown.2 with ⟨_, h0⟩ | ⟨g, cap, cur, hv, hb, hgg, hnc, hcm, hcs, htake⟩
    · omega
    · injection hv with hA _ hc
      subst hA hc
      have eg : ∀ args w, (callFunc 123 args).run Tryz.prog w = .ok (.enter 123 args) w := enters_of Tryz.func123 (by kernel_rfl) rfl
      have hH : HoldsK pzC 4 W g 0 l.toArray := by
        intro j hj
        have hj' : j < l.length * 4 := by simpa using hj
        rw [Nat.zero_add]
        refine ⟨?_, hown'.frozenAt j⟩
        rw [hown'.cellAt j hj', ← flatK_pz, Array.getElem?_toList, Array.getElem?_eq_getElem hj, getElem!_pos _ j hj]
        rfl
      have hcon := AnyQ.slices_SortFunc Tryz.sortPz 4 Tryz.isAgg83 Tryz.sizeOf83 pzC (fun _ => rfl) pz_app.one lessI less_swo 123 #[] g 0 c l.toArray W eg (fun _ _ _ _ x y => less_c x y _) hH (lt_of_some hgg) (by simp; omega)
      have hsz : l.toArray.size = l.length := by simp
      rw [hsz] at hcon
      refine Calls.mono (show Calls Tryz.prog 122 _ _ _ from hcon) ?_
      rintro e w' ⟨rfl, d', n, os, ⟨hd1, _, hd3⟩, hsrt, rfl⟩
      have hdl : d'.toList.length = l.length := by rw [Array.length_toList, hd1]; simp
      have hF : (flatK pzC 4 d').toList = pzsC d'.toList := by have := flatK_pz d'.toList; simpa using this
      have hFs : (flatK pzC 4 d').size = l.length * 4 := by rw [size_flatK, hd1]; simp
      have hheap : (sortWorldK pzC 4 W g 0 n d' os).heap = W.heap.modify g (onCells (putCells id 0 (flatK pzC 4 d'))) ++ os := rfl
      refine ⟨rfl, d'.toList, ?_, ?_, ?_, ⟨rfl, rfl, rfl, ?_, ?_⟩⟩
      · have h1 : (d'.extract 0 l.length).toList = d'.toList := by rw [← hdl, Array.length_toList]; simp
        have h2 : (l.toArray.extract 0 l.length).toList = l := by simp
        rw [h1, h2] at hd3
        exact hd3
      · rw [List.pairwise_iff_getElem]
        intro i j hi hj hij
        have h1 := hsrt i j (Nat.zero_le _) hij (by rw [hdl] at hj; exact hj)
        rw [ltOf_less, getElem!_pos _ _ (by simpa using hj), getElem!_pos _ _ (by simpa using hi)] at h1
        simpa using h1
      · rw [hdl]
        refine ⟨by rw [← hdl]; exact flat_len pz_app _, .inr ⟨g, c, putCells id 0 (flatK pzC 4 d') cur, rfl, hb, ?_, hnc, hcm, by simp [putCells, hcs], ?_⟩⟩
        · rw [hheap, Array.getElem?_append_left (by simp; exact lt_of_some hgg), Array.getElem?_modify, if_pos rfl, hgg]
          rfl
        · apply List.ext_getElem?
          intro t
          rw [List.getElem?_take, ← hF]
          by_cases ht : t < l.length * 4
          · have htc : t < cur.size := by rw [hcs]; have := Nat.mul_le_mul_right 4 hnc; omega
            rw [if_pos ht, Array.getElem?_toList, Array.getElem?_toList]
            unfold putCells
            rw [Array.getElem?_mapIdx, Array.getElem?_eq_getElem htc, Array.getElem?_eq_getElem (by rw [hFs]; exact ht)]
            simp [hFs, ht]
          · rw [if_neg ht, List.getElem?_eq_none (by rw [Array.length_toList, hFs]; omega)]
      · rw [hheap]; simp
      · intro k hk hne'
        rw [hheap, Array.getElem?_append_left (by simpa using hk), Array.getElem?_modify]
        rw [if_neg]
        intro he
        subst he
        exact hne' rfl
end Go.Proofs.YtipfoljmdeiggaaGreatDoor

/- From a walk that leaves what it found to a law's row, with errors.errorType laid. -/
namespace Go.Proofs.YtipfoljmdeiggaaGreatDoor
open Go.ChangeShapes Go.WideShapes Go.RowKit

theorem own_ : ownKnob Tryz.prog.godebug = none := by kernel_rfl
theorem laidOut_ : laidOutB Tryz.prog = true := by kernel_rfl
theorem et_ : Tryz.prog.globalNamed "errors.errorType" = some 0 := by kernel_rfl
theorem rt_ : (Tryz.prog.cutTypes.find? (·.1 == "internal/reflectlite.rtype")).map (·.2) = some 334 := by kernel_rfl
theorem oneRow_ : ((List.range Tryz.prog.types.size).filter fun t => Tryz.prog.rowNamed t [101, 114, 114, 111, 114]) = [28] := by kernel_rfl

theorem typeVar_of_laid {W : World} (h : laidMetH Tryz.prog [("errors.errorType", Rows.laid_errors_errorType)] W) : TypeVar W := by
  have h' : laidMet Tryz.prog [] W ∧ handlesMet Tryz.prog [("errors.errorType", Rows.laid_errors_errorType)] W := h
  obtain ⟨name, u, ty, e1, e2, e3, e4, e5⟩ := h'.2 _ (List.mem_singleton.2 rfl)
  have en : name = [101, 114, 114, 111, 114] := (Option.some.inj e1).symm
  subst en
  obtain rfl := Option.some.inj (rt_.symm.trans e2)
  have hm : ty ∈ (List.range Tryz.prog.types.size).filter fun t => Tryz.prog.rowNamed t [101, 114, 114, 111, 114] := List.mem_filter.2 ⟨List.mem_range.2 e3, e4⟩
  rw [oneRow_] at hm
  obtain rfl := List.mem_singleton.1 hm
  have hh : typeHandle Tryz.prog 28 = .pointer (some ⟨1, 28, none⟩) := by kernel_rfl
  rw [hh] at e5
  unfold TypeVar
  simpa using World.var?_cell et_ e5 0

/-- A world that meets the condition. -/
noncomputable def laidWorld (os : Os) : World :=
  let w0 := World.holding Tryz.prog os ⟨#[], #[], []⟩
  { w0 with heap := w0.heap.modify 0 fun
      | .cells _ t frozen => .cells #[.iface 334 (.agg #[.pointer (some ⟨1, 28, none⟩)])] t frozen
      | o => o }
theorem laidWorld_met (os : Os) (args : Array Value) : laidMetH Tryz.prog [("errors.errorType", Rows.laid_errors_errorType)] ((laidWorld os).forCall (fun _ _ => 0) ⟨#[], args, []⟩).memory :=
  laidMetH_of_parts (laidMet_nil _ _) (by kernel_rfl)

theorem trodAll_below {H : Type} {enc : TypeId × Value → H} {W W' : World} (hb : Below W.heap.size W W') : ∀ {ts : List TypeId} {vs : List Value} {ds : List (DataW H)} {ps : List MemPlace},
    (∀ t ∈ ts, Tryz.prog.readableRec t = true ∧ t < Tryz.prog.types.size) → DataW.TrodAll enc Tryz.prog W 0 (fun _ => true) true ts vs ds ps → DataW.TrodAll enc Tryz.prog W' 0 (fun b => decide (b < W.heap.size)) true ts vs ds ps
  | [], [], [], _, _, h => h
  | [], _ :: _, _, _, _, h => h.elim
  | [], [], _ :: _, _, _, h => h.elim
  | _ :: _, [], _, _, _, h => h.elim
  | _ :: _, _ :: _, [], _, _, h => h.elim
  | t :: ts, v :: vs, d :: ds, ps, ht, h => by
    obtain ⟨p, q, h1, h2, rfl⟩ := h
    have hlt : ∀ x ∈ p, x.block < W.heap.size := by obtain ⟨m, hm⟩ := h1; exact DataW.trod_lt m _ _ _ hm
    exact ⟨p, q, Below.trod laidOut_ (ht t (by simp)).1 (ht t (by simp)).2 h1 hb hlt, trodAll_below hb (fun t' h' => ht t' (List.mem_cons_of_mem _ h')) h2, rfl⟩

theorem trodAll_len {H : Type} {enc : TypeId × Value → H} {W : World} : ∀ {ts : List TypeId} {vs : List Value} {ds : List (DataW H)} {ps : List MemPlace},
    DataW.TrodAll enc Tryz.prog W 0 (fun _ => true) true ts vs ds ps → ds.length = ts.length
  | [], [], [], _, _ => rfl
  | [], _ :: _, _, _, h => h.elim
  | [], [], _ :: _, _, h => h.elim
  | _ :: _, [], _, _, h => h.elim
  | _ :: _, _ :: _, [], _, h => h.elim
  | t :: ts, v :: vs, d :: ds, ps, h => by
    obtain ⟨p, q, _, h2, _⟩ := h
    simp [trodAll_len h2]
section
variable {H : Type} {enc : TypeId × Value → H}
set_option maxRecDepth 100000 in
/-- The row's step, whatever the law. -/
theorem lift_ (os : Os) (started : os.Started) (f : FuncId) (fn : Func) (s : ChangeSpec) (ws : Array Value) (fuel : Nat) (hvars : s.vars = [])
    (noInit : Tryz.prog.inits.idxOf? f = none) (hfn : Tryz.prog.funcs[f]? = some fn) (hres : fn.resultTypes = #[4])
    (hok : Input.okWideB Tryz.prog ((laidWorld os).forCall (fun _ _ => 0) ⟨#[], ws, []⟩) f ⟨#[], ws, []⟩ = true)
    (hpre : s.preB enc Tryz.prog fn [] false ((laidWorld os).forCall (fun _ _ => 0) ⟨#[], ws, []⟩).memory ws fuel = true)
    (hsz : s.sizedB enc Tryz.prog fn false ((laidWorld os).forCall (fun _ _ => 0) ⟨#[], ws, []⟩).memory ws fuel = true)
    (hspec : ∀ ds : List (DataW H), ds.length = fn.params.toList.length → s.fn H (ds ++ []) = { results := [.lit (.bool true)], args := ds })
    (hread : ∀ t ∈ fn.params.toList, Tryz.prog.readableRec t = true ∧ t < Tryz.prog.types.size)
    (walk : ∀ (W : World) (base : Nat) (args : Array Value) (ds : List (DataW H)) (p : List MemPlace), (∀ (j : Nat) t v, fn.params[j]? = some t → args[j]? = some v → Value.okWide Tryz.prog W .any base t v) →
      DataW.TrodAll enc Tryz.prog W 0 (fun _ => true) true fn.params.toList args.toList ds p → TypeVar W → Calls Tryz.prog f args W (BoolPost W true)) :
    ReturnsInHanded {} Tryz.checked os f .any (fun w args => (s.pre enc Tryz.prog fn [] false w args ∧ laidMetH Tryz.prog [("errors.errorType", Rows.laid_errors_errorType)] w) ∧ sizedMet enc Tryz.prog fn (OpenSpec.ofChange s) false w args)
      (s.post enc Tryz.prog fn false true false false) := by
  refine returnsInHanded_of_change_and (C := Tryz.checked) (X := fun w _ => laidMetH Tryz.prog [("errors.errorType", Rows.laid_errors_errorType)] w) (fun _ _ _ hh h => h.of_heap hh) own_ started noInit hfn
    (ChangeSpec.witness_at (enc := enc) (C := Tryz.checked) (os := os) (X := fun w _ => laidMetH Tryz.prog [("errors.errorType", Rows.laid_errors_errorType)] w) false (laidWorld os) ws fuel rfl (by kernel_rfl) (by kernel_rfl) hok hpre hsz (laidWorld_met os _)) ?_
  intro W base args ds gs before hval hW _ _ hL _
  have hW' := hW
  obtain ⟨p, q, hA, hV, rfl, hfz, hnd⟩ := hW
  rw [hvars] at hV
  have hg0 : gs = [] ∧ q = [] := by
    cases gs with
    | nil => exact ⟨rfl, hV⟩
    | cons g r => exact absurd hV (by intro h; cases h)
  obtain ⟨rfl, rfl⟩ := hg0
  have hlen : ds.length = fn.params.toList.length := trodAll_len hA
  refine (walk W base args ds p hval hA (typeVar_of_laid hL)).mono fun e W' ⟨he, hb⟩ => ?_
  subst he
  refine ⟨_, rfl, _, _, _, [], p, [], hW', ?_, ?_, ?_, hb.frame _, fun h => by cases h⟩
  · rw [hspec ds hlen, hres]
    exact trodAll_mk1 (shut_bool Tryz.underlying4 true)
  · rw [hspec ds hlen]
    exact trodAll_below hb hread hA
  · rw [hspec ds hlen, hvars]
    rfl
end
end Go.Proofs.YtipfoljmdeiggaaGreatDoor

/- The arguments of this seat's laws, opened. -/
namespace Go.Proofs.YtipfoljmdeiggaaGreatDoor
open Go.ChangeShapes Go.WideShapes Go.RowKit

theorem i64_wf {n : Int} (h : (Lit.int .i64 n).wf = true) : I64 n := by
  have h' : (decide (IntKind.i64.min ≤ n) && decide (n ≤ IntKind.i64.max)) = true := h
  rw [Bool.and_eq_true, decide_eq_true_eq, decide_eq_true_eq] at h'
  have e1 : IntKind.i64.min = -9223372036854775808 := by decide
  have e2 : IntKind.i64.max = 9223372036854775807 := by decide
  unfold I64
  omega
set_option maxRecDepth 100000 in
theorem opens_row {H : Type} {enc : TypeId × Value → H} {W : World} : Opens enc Tryz.prog W 74 rwC (fun r => I64 r.k ∧ I64 r.v) :=
  (Opens.struct Tryz.underlying74 (by kernel_rfl) (FOpens.cons (Opens.int Tryz.underlying3) (by kernel_rfl) (FOpens.cons (Opens.int Tryz.underlying3) (by kernel_rfl) (FOpens.nil _)))).map (fun a => (⟨a.1, a.2.1⟩ : Rw)) (fun _ => rfl) (fun _ h => ⟨i64_wf h.1, i64_wf h.2.1⟩)
def slC {α : Type} (s : Sl α) : List Value := [.slice s.A s.l.length s.cap]
def slOk {α : Type} (W : World) (e : TypeId) (z : Nat) (cells : α → List Value) (ok : α → Prop) (s : Sl α) : Prop := s.l.length ≤ s.cap ∧ s.cap ≤ maxLen ∧ Rd W W.heap.size e z s.A s.l.length (s.l.flatMap cells) ∧ ∀ a ∈ s.l, ok a
theorem opens_rows {H : Type} {enc : TypeId × Value → H} {W : World} : Opens enc Tryz.prog W 56 slC (slOk W 74 2 rwC (fun r => I64 r.k ∧ I64 r.v)) :=
  Opens.slice Tryz.underlying56 (by kernel_rfl) (by decide) (fun _ => rfl) opens_row
set_option maxRecDepth 100000 in
theorem opens_op {H : Type} {enc : TypeId × Value → H} {W : World} : Opens enc Tryz.prog W 138 opC (fun _ => True) :=
  (Opens.struct Tryz.underlying138 (by kernel_rfl) (FOpens.cons (Opens.int Tryz.underlying3) (by kernel_rfl) (FOpens.cons (Opens.int Tryz.underlying3) (by kernel_rfl) (FOpens.cons (Opens.int Tryz.underlying3) (by kernel_rfl) (FOpens.cons (Opens.int Tryz.underlying3) (by kernel_rfl) (FOpens.cons (Opens.int Tryz.underlying3) (by kernel_rfl) (FOpens.nil _))))))).map
    (fun a => (⟨a.1, a.2.1, a.2.2.1, a.2.2.2.1, a.2.2.2.2.1⟩ : OpD)) (fun _ => rfl) (fun _ _ => trivial)
theorem opens_ops {H : Type} {enc : TypeId × Value → H} {W : World} : Opens enc Tryz.prog W 22 slC (slOk W 138 5 opC (fun _ => True)) :=
  Opens.slice Tryz.underlying22 (by kernel_rfl) (by decide) (fun _ => rfl) opens_op
theorem opens_ints {H : Type} {enc : TypeId × Value → H} {W : World} : Opens enc Tryz.prog W 55 slC (slOk W 3 1 (fun n : Int => [.int .i64 n]) (fun n => (Lit.int .i64 n).wf = true)) :=
  Opens.slice Tryz.underlying55 (by kernel_rfl) (by decide) (fun _ => rfl) (Opens.int Tryz.underlying3)
structure PlC where
  parts : Int
  s : Sl OpD
set_option maxRecDepth 100000 in
theorem opens_plan {H : Type} {enc : TypeId × Value → H} {W : World} : Opens enc Tryz.prog W 24 (fun a : PlC => [.int .i64 a.parts] ++ slC a.s) (fun a => slOk W 138 5 opC (fun _ => True) a.s) :=
  (Opens.struct Tryz.underlying24 (by kernel_rfl) (FOpens.cons (Opens.int Tryz.underlying3) (by kernel_rfl) (FOpens.cons opens_ops (by kernel_rfl) (FOpens.nil _)))).map (fun a => (⟨a.1, a.2.1⟩ : PlC)) (fun _ => rfl) (fun _ h => h.2.1)
set_option maxRecDepth 100000 in
theorem arg_slice {H : Type} {enc : TypeId × Value → H} {W : World} {base : Nat} {t e : TypeId} {α : Type} {ok : Sl α → Prop} {v : Value} {d : DataW H} {p : List MemPlace} (ht : Tryz.prog.underlying t = some (.slice e)) (ho : Opens enc Tryz.prog W t slC ok)
    (hv : Value.okWide Tryz.prog W .any base t v) (hd : DataW.Trod enc Tryz.prog W 0 (fun _ => true) true t v d p) : ∃ s : Sl α, v = .slice s.A s.l.length s.cap ∧ ok s := by
  obtain ⟨A, n, c, rfl⟩ := okWide_slice ht hv
  obtain ⟨s, hs, hk⟩ := ho.Trod hd
  refine ⟨s, ?_, hk⟩
  simpa [Value.cells, slC] using hs
set_option maxRecDepth 100000 in
theorem arg_plan {H : Type} {enc : TypeId × Value → H} {W : World} {base : Nat} {v : Value} {d : DataW H} {p : List MemPlace} (hv : Value.okWide Tryz.prog W .any base 24 v) (hd : DataW.Trod enc Tryz.prog W 0 (fun _ => true) true 24 v d p) :
    ∃ (q : PlanD) (A : Option Addr) (c : Nat), v = planV q A c ∧ RdS W (· < W.heap.size) 5 A q.ops.length (opsC q.ops) := by
  obtain ⟨cs, rfl, _⟩ := okWide_struct Tryz.underlying24 hv
  obtain ⟨x, hx, h1, h2, h3, _⟩ := opens_plan.Trod hd
  refine ⟨⟨x.parts, x.s.l⟩, x.s.A, x.s.cap, ?_, RdS.of_rd h3 (by decide)⟩
  have hx' : cs.toList = [.int .i64 x.parts, .slice x.s.A x.s.l.length x.s.cap] := hx
  congr 1
  exact Array.ext' (by rw [hx'])
set_option maxRecDepth 100000 in
theorem arg_int {H : Type} {enc : TypeId × Value → H} {W : World} {base : Nat} {v : Value} {d : DataW H} {p : List MemPlace} (hv : Value.okWide Tryz.prog W .any base 3 v) (hd : DataW.Trod enc Tryz.prog W 0 (fun _ => true) true 3 v d p) : ∃ n : Int, v = .int .i64 n ∧ I64 n := by
  obtain ⟨n, rfl, _, _, hw⟩ := open_int Tryz.underlying3 hv hd
  exact ⟨n, rfl, i64_wf hw⟩
end Go.Proofs.YtipfoljmdeiggaaGreatDoor
