/- SchedF: laid together. -/
import Derived.Test.YtapjhliglmohgaaGreatDoorPwL
/- Who holds what: New of the program. (Printed by mknew.py.) -/
namespace Go.Proofs.YtapjhliglmohgaaGreatDoor
open Go.RowKit Go.Sort
theorem step_makeMap {α : Type} {enc : α → Value} {P : Program} {ops : Array Oper} {o : Oper} {a : Act} {K : Act → World → Prop} {Q : Exit → Act → World → Prop} {E : Prop} (w : World) (hgd : o.guard = none) (t : TypeId) (ho : o.op = .makeMap t none)
 (hrun : (Instr.makeMap t none).run P w = .ok (.map (some w.heap.size)) (w.alloc (.map #[] 0)))
 (h : ∀ w' b, MapIs enc w' b ([] : List (α × Value)) → Below w.heap.size w w' → b = w.heap.size → w'.heap.size = w.heap.size + 1 → K (a.put o.dst (.map (some b))) w') :
 if Region.wanted o (yielded ops a.tmps) = true then Oper.wp P o a w K Q else E := by
 rw [if_pos (by simp [Region.wanted, hgd])]
 have h1 := h _ _ (MapIs.made enc w) (ext_alloc (Below.refl _ _) _) rfl (by simp)
 unfold Oper.wp
 simp [execOp, ho, hrun, Result.andThen]
 exact h1
def SNewPost (B : Nat) (p : PlanD) (A : Option Addr) (c : Nat) (every : Int) (w : World) (e : Ending) (w' : World) : Prop :=
 (∀ a code, checkD p = some (a, code) → ∃ v at_, e = .returned (.tuple #[.pointer none, v]) ∧ ErrAt w' v at_ code ∧ Below w.heap.size w w') ∧
 (checkD p = none → every < 1 ∨ 8 < every → ∃ v at_, e = .returned (.tuple #[.pointer none, v]) ∧ ErrAt w' v at_ 1 ∧ Below w.heap.size w w') ∧
 (checkD p = none → 1 ≤ every → every ≤ 8 → ∃ (sb : Nat) (R : Nat → Prop), e = .returned (.tuple #[.pointer (some ⟨sb, 0, none⟩), .nilIface]) ∧ SchedIs B sb R p A c ⟨every.toNat, 0, [], []⟩ w' ∧ Below w.heap.size w w' ∧ ∀ k, R k → w.heap.size ≤ k)
theorem snew_end {B : Nat} {p : PlanD} {A sA Kq : Option Addr} {c sc kc ev wyb hb_ vb_ bS : Nat} {Rw : Nat → Prop} {w wl : World} (hc : checkD p = none) (he : 1 ≤ ev ∧ ev ≤ 8) (hC : Below w.heap.size w wl) (hW : WaysIs B wyb Rw p A Kq c kc wl) (hS : wl.ownsRow bS 3 1 (.slice sA (statesL p.ops).length sc) (statesL p.ops).length (intsC (statesL p.ops)))
 (hH : MapIs idV wl hb_ ([] : List (Id3 × Value))) (hV : MapIs idV wl vb_ ([] : List (Id3 × Value))) (hne : hb_ ≠ vb_) (hRw : ∀ k, Rw k → w.heap.size ≤ k) (h1 : ¬ Rw hb_) (h2 : ¬ Rw vb_) (h3 : w.heap.size ≤ hb_) (h4 : w.heap.size ≤ vb_) (h5 : w.heap.size ≤ bS) (hB : B ≤ w.heap.size) (h7 : ∀ k, (Value.slice sA (statesL p.ops).length sc).ownBlock = some k → ¬ Rw k) :
 SNewPost B p A c (ev : Nat) w (.returned (.tuple #[.pointer (some ⟨wl.heap.size, 0, none⟩), .nilIface])) (wl.alloc (.cells #[.int .i64 p.parts, .slice A p.ops.length c, .pointer (some ⟨wyb, 0, none⟩), .slice sA (statesL p.ops).length sc, .int .i64 (ev : Nat), .map (some hb_), .map (some vb_), .int .i64 0] 112 (0, 0))) := by
 refine ⟨(fun a' c' h' => by rw [hc] at h'; cases h'), (fun _ h' => by omega), fun _ _ _ => ⟨wl.heap.size, fun k => w.heap.size ≤ k ∧ k < wl.heap.size + 1, rfl, ⟨⟨wyb, Kq, kc, Rw, sA, sc, hb_, [], vb_⟩, ?_⟩, ext_alloc hC _, fun k hk => hk.1⟩⟩
 have hsz := hC.size
 have hWb := hW.bd
 have hHl := hH.lt
 have hVl := hV.lt
 have hb := ext_alloc (Below.refl wl.heap.size wl) (.cells #[.int .i64 p.parts, .slice A p.ops.length c, .pointer (some ⟨wyb, 0, none⟩), .slice sA (statesL p.ops).length sc, .int .i64 (ev : Nat), .map (some hb_), .map (some vb_), .int .i64 0] 112 (0, 0))
 refine ⟨Bk.new _ _ _, hW.ext hb, own_mono (own_ext hS hb) (by omega), hH.ext hb, rfl, (fun y hy => by cases hy), by simp, hV.ext hb, hne, (fun y hy => by cases hy), ⟨⟨by omega, by omega⟩, fun hk => by have := (hWb _ hk).2; omega⟩, ?_, fun k hk => ⟨hRw k hk, by have := (hWb _ hk).2; omega⟩, fun k hk => ?_, fun k hk => ⟨by have := hk.1; omega, by simpa using hk.2⟩, by simp, he, hc⟩
 · rintro k (rfl | rfl | ⟨y, hy, _⟩)
   · exact ⟨⟨h3, by omega⟩, h1⟩
   · exact ⟨⟨h4, by omega⟩, h2⟩
   · cases hy
 · have h6 := hS.lt k hk
   exact ⟨⟨by omega, by omega⟩, h7 k hk⟩
theorem schFault_c (at_ : Int) (n : Nat) (v : Value) (code : Int) (w : World) (h : ErrN w n v code) : Calls Tryz.prog 55 #[.int .i64 at_, v] w (FaultPost w at_ code) := by
 obtain ⟨T, y, rfl⟩ := h.iface
 have HE := Lib.hid h
 clear h
 go_enter Tryz.func55, Tryz.ntmps55
 go_wp2
 go_ret
 exact ⟨_, rfl, ⟨_, _, _, n, rfl, Bk.new _ _ _, HE.out.ext (ext_alloc (Below.refl _ _) _)⟩, ext_alloc (Below.refl _ _) _⟩
set_option maxRecDepth 100000 in
set_option maxHeartbeats 8000000 in
theorem snew_c (B : Nat) (p : PlanD) (A : Option Addr) (c : Nat) (every : Int) (w : World) (h : RdS w (· < B) 5 A p.ops.length (opsC p.ops)) (hB : B ≤ w.heap.size) :
 Calls Tryz.prog 8 #[planV p A c, .int .i64 every] w (SNewPost B p A c every w) := by
 have HO := Lib.hid h
 clear h
 cases hc : checkD p with
 | some x =>
   obtain ⟨a, code⟩ := x
   have HCk := Lib.hid hc
   clear hc
   go_enter Tryz.func8, Tryz.ntmps8
   go_wp2_with (first
    | (go_at_call 54; refine (check_c B p A c _ (HO.out.ext (ext_alloc (Below.refl _ _) _)) (by simp only [World.size_alloc]; omega)).mono ?_
       rintro e w1 hpost
       obtain ⟨v, rfl, hE, hb⟩ := hpost.2 a code HCk.out
       obtain ⟨n7, hn7⟩ := hE.errN
       obtain ⟨T7, y7, rfl⟩ := hn7.iface
       have HE := Lib.hid hn7
       have HB := Lib.hid (ext_trans (ext_alloc (Below.refl w.heap.size w) _) hb)
       clear hpost hE hb hn7)
    | (go_at_call 55; refine (schFault_c 0 n7 _ code _ HE.out).mono ?_; rintro e w8 ⟨v8, rfl, hE8, hb8⟩; have HE8 := Lib.hid hE8; have HB8 := Lib.hid (ext_trans HB.out hb8); clear hE8 hb8))
   go_ret2
   exact ⟨fun a' c' h' => by rw [HCk.out] at h'; cases h'; exact ⟨v8, 0, rfl, HE8.out, HB8.out⟩, (fun h' => by rw [HCk.out] at h'; cases h'), fun h' => by rw [HCk.out] at h'; cases h'⟩
 | none =>
   have HCk := Lib.hid hc
   clear hc
   by_cases hbad : every < 1 ∨ 8 < every
   · have HBad := Lib.hid hbad
     rcases hbad with hbad | hbad
     all_goals
       go_enter Tryz.func8, Tryz.ntmps8
       go_wp2_with (first
        | (go_at_call 54; refine (check_c B p A c _ (HO.out.ext (ext_alloc (Below.refl _ _) _)) (by simp only [World.size_alloc]; omega)).mono ?_
           rintro e w1 hpost
           obtain ⟨rfl, hb⟩ := hpost.1 HCk.out
           have HB := Lib.hid (ext_trans (ext_alloc (Below.refl w.heap.size w) _) hb)
           clear hpost hb)
        | (go_at_call 55; refine (schFault_c _ 0 _ 1 _ rfl).mono ?_; rintro e w8 ⟨v8, rfl, hE8, hb8⟩; have HE8 := Lib.hid hE8; have HB8 := Lib.hid (ext_trans HB.out hb8); clear hE8 hb8))
       go_ret2
       exact ⟨(fun a' c' h' => by rw [HCk.out] at h'; cases h'), fun _ _ => ⟨v8, _, rfl, HE8.out, HB8.out⟩, fun _ h1 h2 => by have := HBad.out; omega⟩
   · obtain ⟨ev, hev⟩ : ∃ ev : Nat, every = (ev : Nat) := ⟨every.toNat, by omega⟩
     subst hev
     have h1 : ¬ ((ev : Nat) : Int) < 1 := by omega
     have h8 : ¬ (8 : Int) < ((ev : Nat) : Int) := by omega
     have he1 : 1 ≤ ev := by omega
     have he8 : ev ≤ 8 := by omega
     clear hbad
     have HSh := Lib.hid (shaped_check HCk.out)
     have hmm := @run_makeMap Tryz.prog
     go_enter Tryz.func8, Tryz.ntmps8
     go_wp2_with (first
      | (go_at_call 54; refine (check_c B p A c _ (HO.out.ext (ext_alloc (Below.refl _ _) _)) (by simp only [World.size_alloc]; omega)).mono ?_
         rintro e w1 hpost
         obtain ⟨rfl, hb⟩ := hpost.1 HCk.out
         have HC := Lib.hid (show Below w.heap.size w w1.drew from (ext_trans (ext_alloc (Below.refl w.heap.size w) _) hb).drew)
         have HX := Lib.hid (show Bk w1.drew w.heap.size 24 #[.int .i64 p.parts, .slice A p.ops.length c] from ((Bk.new _ _ _).ext hb).drew)
         have hsz := HX.out.lt
         clear hpost hb))
     refine wp_region_held_drew (S := (fun w' => w'.cell? ⟨w.heap.size, 0, none⟩ = some (.int .i64 p.parts) ∧ w'.cell? ⟨w.heap.size, 1, none⟩ = some (.slice A p.ops.length c))) (by kernel_rfl) ?_ (fun hHeld => ?_)
     · (first | exact ⟨(HX.out.cell 0).trans rfl, (HX.out.cell 1).trans rfl⟩ | go_keep)
     refine wpAnyH_take (i := 0) (oi := ⟨some 22, .load 24 (.tmp 2), 24, "sched.go:37", #[], none⟩) (v := ?v1z0) rfl (by kernel_rfl) (by kernel_rfl) (by kernel_rfl) (fun _ _ _ h => h) (Or.inl ⟨by rfl, ?hy1z0⟩) (by assumption) ?rest1z0
     case hy1z0 => (intro w hSw; (try dsimp only at hSw); go_simp; try (with_reducible rfl))
     simp only [Act.put, List.setIfInBounds_toArray, List.set_cons_zero, List.set_cons_succ]
     refine wpAnyH_take (i := 1) (oi := ⟨some 23, .load 24 (.tmp 2), 24, "sched.go:37", #[], none⟩) (v := ?v1z1) rfl (by kernel_rfl) (by kernel_rfl) (by kernel_rfl) (fun _ _ _ h => h) (Or.inl ⟨by rfl, ?hy1z1⟩) (by assumption) ?rest1z1
     case hy1z1 => (intro w hSw; (try dsimp only at hSw); go_simp; try (with_reducible rfl))
     simp only [Act.put, List.setIfInBounds_toArray, List.set_cons_zero, List.set_cons_succ]
     refine wpAnyH_take (i := 3) (oi := ⟨some 25, .load 24 (.tmp 2), 24, "sched.go:37", #[], none⟩) (v := ?v1z3) rfl (by kernel_rfl) (by kernel_rfl) (by kernel_rfl) (fun _ _ _ h => h) (Or.inl ⟨by rfl, ?hy1z3⟩) (by assumption) ?rest1z3
     case hy1z3 => (intro w hSw; (try dsimp only at hSw); go_simp; try (with_reducible rfl))
     simp only [Act.put, List.setIfInBounds_toArray, List.set_cons_zero, List.set_cons_succ]
     refine wpAnyH_take (i := 5) (oi := ⟨some 27, .move (.tmp 1), 3, "sched.go:37", #[], none⟩) (v := ?v1z5) rfl (by kernel_rfl) (by kernel_rfl) (by kernel_rfl) (fun _ _ _ h => h) (Or.inl ⟨by rfl, ?hy1z5⟩) (by assumption) ?rest1z5
     case hy1z5 => (intro w hSw; (try dsimp only at hSw); go_simp; try (with_reducible rfl))
     simp only [Act.put, List.setIfInBounds_toArray, List.set_cons_zero, List.set_cons_succ]
     refine wpAnyH_ready (rs := [2, 6, 7]) (by kernel_rfl) (by simp) ?_
     refine AllReadyH.cons (o := ⟨some 24, .call { callee := .value (.func 56), args := #[.tmp 23], argTypes := #[24] }, 107, "sched.go:37", #[⟨1, .data⟩], none⟩) rfl (fun K hK => ?_) ?_
     ·
       go_simp
       go_at_call 56
       refine (new_c B p A c _ (HO.out.ext HC.out) HSh.out (by have := HC.out.size; omega)).mono ?_
       rintro e wN ⟨wyb, Kq, kc, Rw, rfl, hW, hb, hR⟩
       have hszN := hb.size
       have HRw := Lib.hid hR
       have HWy := Lib.hid hW
       have HWb := Lib.hid hW.bd
       have HC := Lib.hid (ext_trans HC.out hb)
       have HX := Lib.hid (HX.out.ext hb)
       try (have HHm := Lib.hid (HHm.out.ext hb))
       try (have HVm := Lib.hid (HVm.out.ext hb))
       try (have HSt := Lib.hid (own_ext HSt.out hb))
       clear hW hb hR
       refine hK.out _ _ ?_ (fun hHeld => ?_)
       · (first | exact ⟨(HX.out.cell 0).trans rfl, (HX.out.cell 1).trans rfl⟩ | go_keep)
       clear hK K
       try simp only [Act.put, List.setIfInBounds_toArray, List.set_cons_zero, List.set_cons_succ]
       refine wpAnyH_ready (rs := [4, 6, 7]) (by kernel_rfl) (by simp) ?_
       refine AllReadyH.cons (o := ⟨some 26, .call { callee := .value (.func 19), args := #[.tmp 25], argTypes := #[24] }, 50, "sched.go:37", #[⟨3, .data⟩, ⟨2, .chain⟩], none⟩) rfl (fun K hK => ?_) ?_
       ·
         go_simp
         go_at_call 19
         refine (states_c B p A c _ (HO.out.ext HC.out) (by have := HC.out.size; omega) HCk.out).mono ?_
         rintro e wS ⟨sA, sc, rfl, hown, hb⟩
         have hszS := hb.size
         have HC := Lib.hid (ext_trans HC.out hb)
         have HX := Lib.hid (HX.out.ext hb)
         have HSt := Lib.hid hown
         have HStb := Lib.hid hszS
         have HStL := Lib.hid hown.lt
         try (have HHm := Lib.hid (HHm.out.ext hb))
         try (have HVm := Lib.hid (HVm.out.ext hb))
         try (have HWy := Lib.hid (HWy.out.ext hb))
         clear hown hb
         refine hK.out _ _ ?_ (fun hHeld => ?_)
         · (first | exact ⟨(HX.out.cell 0).trans rfl, (HX.out.cell 1).trans rfl⟩ | go_keep)
         clear hK K
         try simp only [Act.put, List.setIfInBounds_toArray, List.set_cons_zero, List.set_cons_succ]
         refine wpAnyH_ready (rs := [6, 7]) (by kernel_rfl) (by simp) ?_
         refine AllReadyH.cons (o := ⟨some 28, .makeMap 109 none, 109, "sched.go:37", #[], none⟩) rfl (fun K hK => ?_) ?_
         ·
           refine step_makeMap (enc := idV) _ rfl 109 rfl (by first | exact hmm _ _ | simp [hmm]) ?_
           intro wH hb_ hmH hb hbH hszH
           have HC := Lib.hid (ext_trans HC.out hb)
           have HX := Lib.hid (HX.out.ext hb)
           have HHm := Lib.hid hmH
           try (have HVm := Lib.hid (HVm.out.ext hb))
           try (have HWy := Lib.hid (HWy.out.ext hb))
           try (have HSt := Lib.hid (own_ext HSt.out hb))
           have HbH := Lib.hid hbH
           have HsH := Lib.hid hszH
           clear hmH hb hbH hszH
           refine hK.out _ _ ?_ (fun hHeld => ?_)
           · (first | exact ⟨(HX.out.cell 0).trans rfl, (HX.out.cell 1).trans rfl⟩ | go_keep)
           clear hK K
           try simp only [Act.put, List.setIfInBounds_toArray, List.set_cons_zero, List.set_cons_succ]
           refine wpAnyH_ready (rs := [7]) (by kernel_rfl) (by simp) ?_
           refine AllReadyH.cons (o := ⟨some 29, .makeMap 110 none, 110, "sched.go:37", #[], none⟩) rfl (fun K hK => ?_) ?_
           ·
             refine step_makeMap (enc := idV) _ rfl 110 rfl (by first | exact hmm _ _ | simp [hmm]) ?_
             intro wV vb_ hmV hb hbV hszV
             have HC := Lib.hid (ext_trans HC.out hb)
             have HX := Lib.hid (HX.out.ext hb)
             have HVm := Lib.hid hmV
             try (have HHm := Lib.hid (HHm.out.ext hb))
             try (have HWy := Lib.hid (HWy.out.ext hb))
             try (have HSt := Lib.hid (own_ext HSt.out hb))
             have HbV := Lib.hid hbV
             have HsV := Lib.hid hszV
             clear hmV hb hbV hszV
             refine hK.out _ _ ?_ (fun hHeld => ?_)
             · (first | exact ⟨(HX.out.cell 0).trans rfl, (HX.out.cell 1).trans rfl⟩ | go_keep)
             clear hK K
             try simp only [Act.put, List.setIfInBounds_toArray, List.set_cons_zero, List.set_cons_succ]
             refine wpAnyH_take (i := 8) (oi := ⟨some 30, .build 112 #[(0, .tmp 22), (1, .tmp 24), (2, .tmp 26), (3, .tmp 27), (4, .tmp 28), (5, .tmp 29)], 112, "sched.go:37", #[⟨0, .data⟩, ⟨2, .data⟩, ⟨4, .data⟩, ⟨5, .data⟩, ⟨6, .data⟩, ⟨7, .data⟩], none⟩) (v := ?v1z8) rfl (by kernel_rfl) (by kernel_rfl) (by kernel_rfl) (fun _ _ _ h => h) (Or.inl ⟨by rfl, ?hy1z8⟩) (by assumption) ?rest1z8
             case hy1z8 => (intro w hSw; (try dsimp only at hSw); go_simp; try (with_reducible rfl))
             simp only [Act.put, List.setIfInBounds_toArray, List.set_cons_zero, List.set_cons_succ]
             refine wpAnyH_ready (rs := [9]) (by kernel_rfl) (by simp) ?_
             refine AllReadyH.cons (o := ⟨some 31, .box 112 (.tmp 30), 26, "sched.go:37", #[⟨8, .data⟩], none⟩) rfl (fun K hK => ?_) ?_
             ·
               go_simp
               refine hK.out _ _ ?_ (fun hHeld => ?_)
               · (first | exact ⟨(HX.out.cell 0).trans rfl, (HX.out.cell 1).trans rfl⟩ | go_keep)
               clear hK K
               try simp only [Act.put, List.setIfInBounds_toArray, List.set_cons_zero, List.set_cons_succ]
               refine wpAnyH_take (i := 10) (oi := ⟨some 4, .assign (.tmp 31), 26, "sched.go:37", #[⟨9, .data⟩, ⟨4, .chain⟩, ⟨0, .phase⟩, ⟨1, .phase⟩, ⟨2, .phase⟩, ⟨3, .phase⟩, ⟨4, .phase⟩, ⟨5, .phase⟩, ⟨6, .phase⟩, ⟨7, .phase⟩, ⟨8, .phase⟩, ⟨9, .phase⟩], none⟩) (v := ?v1z10) rfl (by kernel_rfl) (by kernel_rfl) (by kernel_rfl) (fun _ _ _ h => h) (Or.inl ⟨by rfl, ?hy1z10⟩) (by assumption) ?rest1z10
               case hy1z10 => (intro w hSw; (try dsimp only at hSw); go_simp; try (with_reducible rfl))
               simp only [Act.put, List.setIfInBounds_toArray, List.set_cons_zero, List.set_cons_succ]
               refine wpAnyH_take (i := 11) (oi := ⟨some 5, .assign (.const .nilIface), 28, "sched.go:37", #[⟨10, .chain⟩, ⟨0, .phase⟩, ⟨1, .phase⟩, ⟨2, .phase⟩, ⟨3, .phase⟩, ⟨4, .phase⟩, ⟨5, .phase⟩, ⟨6, .phase⟩, ⟨7, .phase⟩, ⟨8, .phase⟩, ⟨9, .phase⟩, ⟨10, .phase⟩], none⟩) (v := ?v1z11) rfl (by kernel_rfl) (by kernel_rfl) (by kernel_rfl) (fun _ _ _ h => h) (Or.inl ⟨by rfl, ?hy1z11⟩) (by assumption) ?rest1z11
               case hy1z11 => (intro w hSw; (try dsimp only at hSw); go_simp; try (with_reducible rfl))
               simp only [Act.put, List.setIfInBounds_toArray, List.set_cons_zero, List.set_cons_succ]
               refine wpAnyH_done (by kernel_rfl) ?_ _
               go_wp2_with fail
               go_ret2
               have e1 := HbH.out
               have e2 := HbV.out
               have e3 := HsH.out
               have e4 := HsV.out
               have e5 := HStb.out
               exact snew_end HCk.out ⟨he1, he8⟩ HC.out HWy.out HSt.out HHm.out HVm.out (by omega) (fun k hk => by have a1 := HRw.out k hk; omega) (fun hk => by have a1 := HRw.out _ hk; have a2 := (HWb.out _ hk).2; omega) (fun hk => by have a1 := HRw.out _ hk; have a2 := (HWb.out _ hk).2; omega) (by omega) (by omega) (by omega) hB (fun k hk hr => by have a1 := HRw.out k hr; have a2 := (HWb.out k hr).2; have a3 := HStL.out k hk; omega)
             exact AllReadyH.nil
           exact AllReadyH.nil
         refine AllReadyH.cons (o := ⟨some 29, .makeMap 110 none, 110, "sched.go:37", #[], none⟩) rfl (fun K hK => ?_) ?_
         ·
           refine step_makeMap (enc := idV) _ rfl 110 rfl (by first | exact hmm _ _ | simp [hmm]) ?_
           intro wV vb_ hmV hb hbV hszV
           have HC := Lib.hid (ext_trans HC.out hb)
           have HX := Lib.hid (HX.out.ext hb)
           have HVm := Lib.hid hmV
           try (have HHm := Lib.hid (HHm.out.ext hb))
           try (have HWy := Lib.hid (HWy.out.ext hb))
           try (have HSt := Lib.hid (own_ext HSt.out hb))
           have HbV := Lib.hid hbV
           have HsV := Lib.hid hszV
           clear hmV hb hbV hszV
           refine hK.out _ _ ?_ (fun hHeld => ?_)
           · (first | exact ⟨(HX.out.cell 0).trans rfl, (HX.out.cell 1).trans rfl⟩ | go_keep)
           clear hK K
           try simp only [Act.put, List.setIfInBounds_toArray, List.set_cons_zero, List.set_cons_succ]
           refine wpAnyH_ready (rs := [6]) (by kernel_rfl) (by simp) ?_
           refine AllReadyH.cons (o := ⟨some 28, .makeMap 109 none, 109, "sched.go:37", #[], none⟩) rfl (fun K hK => ?_) ?_
           ·
             refine step_makeMap (enc := idV) _ rfl 109 rfl (by first | exact hmm _ _ | simp [hmm]) ?_
             intro wH hb_ hmH hb hbH hszH
             have HC := Lib.hid (ext_trans HC.out hb)
             have HX := Lib.hid (HX.out.ext hb)
             have HHm := Lib.hid hmH
             try (have HVm := Lib.hid (HVm.out.ext hb))
             try (have HWy := Lib.hid (HWy.out.ext hb))
             try (have HSt := Lib.hid (own_ext HSt.out hb))
             have HbH := Lib.hid hbH
             have HsH := Lib.hid hszH
             clear hmH hb hbH hszH
             refine hK.out _ _ ?_ (fun hHeld => ?_)
             · (first | exact ⟨(HX.out.cell 0).trans rfl, (HX.out.cell 1).trans rfl⟩ | go_keep)
             clear hK K
             try simp only [Act.put, List.setIfInBounds_toArray, List.set_cons_zero, List.set_cons_succ]
             refine wpAnyH_take (i := 8) (oi := ⟨some 30, .build 112 #[(0, .tmp 22), (1, .tmp 24), (2, .tmp 26), (3, .tmp 27), (4, .tmp 28), (5, .tmp 29)], 112, "sched.go:37", #[⟨0, .data⟩, ⟨2, .data⟩, ⟨4, .data⟩, ⟨5, .data⟩, ⟨6, .data⟩, ⟨7, .data⟩], none⟩) (v := ?v1z8x1) rfl (by kernel_rfl) (by kernel_rfl) (by kernel_rfl) (fun _ _ _ h => h) (Or.inl ⟨by rfl, ?hy1z8x1⟩) (by assumption) ?rest1z8x1
             case hy1z8x1 => (intro w hSw; (try dsimp only at hSw); go_simp; try (with_reducible rfl))
             simp only [Act.put, List.setIfInBounds_toArray, List.set_cons_zero, List.set_cons_succ]
             refine wpAnyH_ready (rs := [9]) (by kernel_rfl) (by simp) ?_
             refine AllReadyH.cons (o := ⟨some 31, .box 112 (.tmp 30), 26, "sched.go:37", #[⟨8, .data⟩], none⟩) rfl (fun K hK => ?_) ?_
             ·
               go_simp
               refine hK.out _ _ ?_ (fun hHeld => ?_)
               · (first | exact ⟨(HX.out.cell 0).trans rfl, (HX.out.cell 1).trans rfl⟩ | go_keep)
               clear hK K
               try simp only [Act.put, List.setIfInBounds_toArray, List.set_cons_zero, List.set_cons_succ]
               refine wpAnyH_take (i := 10) (oi := ⟨some 4, .assign (.tmp 31), 26, "sched.go:37", #[⟨9, .data⟩, ⟨4, .chain⟩, ⟨0, .phase⟩, ⟨1, .phase⟩, ⟨2, .phase⟩, ⟨3, .phase⟩, ⟨4, .phase⟩, ⟨5, .phase⟩, ⟨6, .phase⟩, ⟨7, .phase⟩, ⟨8, .phase⟩, ⟨9, .phase⟩], none⟩) (v := ?v1z10x1) rfl (by kernel_rfl) (by kernel_rfl) (by kernel_rfl) (fun _ _ _ h => h) (Or.inl ⟨by rfl, ?hy1z10x1⟩) (by assumption) ?rest1z10x1
               case hy1z10x1 => (intro w hSw; (try dsimp only at hSw); go_simp; try (with_reducible rfl))
               simp only [Act.put, List.setIfInBounds_toArray, List.set_cons_zero, List.set_cons_succ]
               refine wpAnyH_take (i := 11) (oi := ⟨some 5, .assign (.const .nilIface), 28, "sched.go:37", #[⟨10, .chain⟩, ⟨0, .phase⟩, ⟨1, .phase⟩, ⟨2, .phase⟩, ⟨3, .phase⟩, ⟨4, .phase⟩, ⟨5, .phase⟩, ⟨6, .phase⟩, ⟨7, .phase⟩, ⟨8, .phase⟩, ⟨9, .phase⟩, ⟨10, .phase⟩], none⟩) (v := ?v1z11x1) rfl (by kernel_rfl) (by kernel_rfl) (by kernel_rfl) (fun _ _ _ h => h) (Or.inl ⟨by rfl, ?hy1z11x1⟩) (by assumption) ?rest1z11x1
               case hy1z11x1 => (intro w hSw; (try dsimp only at hSw); go_simp; try (with_reducible rfl))
               simp only [Act.put, List.setIfInBounds_toArray, List.set_cons_zero, List.set_cons_succ]
               refine wpAnyH_done (by kernel_rfl) ?_ _
               go_wp2_with fail
               go_ret2
               have e1 := HbH.out
               have e2 := HbV.out
               have e3 := HsH.out
               have e4 := HsV.out
               have e5 := HStb.out
               exact snew_end HCk.out ⟨he1, he8⟩ HC.out HWy.out HSt.out HHm.out HVm.out (by omega) (fun k hk => by have a1 := HRw.out k hk; omega) (fun hk => by have a1 := HRw.out _ hk; have a2 := (HWb.out _ hk).2; omega) (fun hk => by have a1 := HRw.out _ hk; have a2 := (HWb.out _ hk).2; omega) (by omega) (by omega) (by omega) hB (fun k hk hr => by have a1 := HRw.out k hr; have a2 := (HWb.out k hr).2; have a3 := HStL.out k hk; omega)
             exact AllReadyH.nil
           exact AllReadyH.nil
         exact AllReadyH.nil
       refine AllReadyH.cons (o := ⟨some 28, .makeMap 109 none, 109, "sched.go:37", #[], none⟩) rfl (fun K hK => ?_) ?_
       ·
         refine step_makeMap (enc := idV) _ rfl 109 rfl (by first | exact hmm _ _ | simp [hmm]) ?_
         intro wH hb_ hmH hb hbH hszH
         have HC := Lib.hid (ext_trans HC.out hb)
         have HX := Lib.hid (HX.out.ext hb)
         have HHm := Lib.hid hmH
         try (have HVm := Lib.hid (HVm.out.ext hb))
         try (have HWy := Lib.hid (HWy.out.ext hb))
         try (have HSt := Lib.hid (own_ext HSt.out hb))
         have HbH := Lib.hid hbH
         have HsH := Lib.hid hszH
         clear hmH hb hbH hszH
         refine hK.out _ _ ?_ (fun hHeld => ?_)
         · (first | exact ⟨(HX.out.cell 0).trans rfl, (HX.out.cell 1).trans rfl⟩ | go_keep)
         clear hK K
         try simp only [Act.put, List.setIfInBounds_toArray, List.set_cons_zero, List.set_cons_succ]
         refine wpAnyH_ready (rs := [4, 7]) (by kernel_rfl) (by simp) ?_
         refine AllReadyH.cons (o := ⟨some 26, .call { callee := .value (.func 19), args := #[.tmp 25], argTypes := #[24] }, 50, "sched.go:37", #[⟨3, .data⟩, ⟨2, .chain⟩], none⟩) rfl (fun K hK => ?_) ?_
         ·
           go_simp
           go_at_call 19
           refine (states_c B p A c _ (HO.out.ext HC.out) (by have := HC.out.size; omega) HCk.out).mono ?_
           rintro e wS ⟨sA, sc, rfl, hown, hb⟩
           have hszS := hb.size
           have HC := Lib.hid (ext_trans HC.out hb)
           have HX := Lib.hid (HX.out.ext hb)
           have HSt := Lib.hid hown
           have HStb := Lib.hid hszS
           have HStL := Lib.hid hown.lt
           try (have HHm := Lib.hid (HHm.out.ext hb))
           try (have HVm := Lib.hid (HVm.out.ext hb))
           try (have HWy := Lib.hid (HWy.out.ext hb))
           clear hown hb
           refine hK.out _ _ ?_ (fun hHeld => ?_)
           · (first | exact ⟨(HX.out.cell 0).trans rfl, (HX.out.cell 1).trans rfl⟩ | go_keep)
           clear hK K
           try simp only [Act.put, List.setIfInBounds_toArray, List.set_cons_zero, List.set_cons_succ]
           refine wpAnyH_ready (rs := [7]) (by kernel_rfl) (by simp) ?_
           refine AllReadyH.cons (o := ⟨some 29, .makeMap 110 none, 110, "sched.go:37", #[], none⟩) rfl (fun K hK => ?_) ?_
           ·
             refine step_makeMap (enc := idV) _ rfl 110 rfl (by first | exact hmm _ _ | simp [hmm]) ?_
             intro wV vb_ hmV hb hbV hszV
             have HC := Lib.hid (ext_trans HC.out hb)
             have HX := Lib.hid (HX.out.ext hb)
             have HVm := Lib.hid hmV
             try (have HHm := Lib.hid (HHm.out.ext hb))
             try (have HWy := Lib.hid (HWy.out.ext hb))
             try (have HSt := Lib.hid (own_ext HSt.out hb))
             have HbV := Lib.hid hbV
             have HsV := Lib.hid hszV
             clear hmV hb hbV hszV
             refine hK.out _ _ ?_ (fun hHeld => ?_)
             · (first | exact ⟨(HX.out.cell 0).trans rfl, (HX.out.cell 1).trans rfl⟩ | go_keep)
             clear hK K
             try simp only [Act.put, List.setIfInBounds_toArray, List.set_cons_zero, List.set_cons_succ]
             refine wpAnyH_take (i := 8) (oi := ⟨some 30, .build 112 #[(0, .tmp 22), (1, .tmp 24), (2, .tmp 26), (3, .tmp 27), (4, .tmp 28), (5, .tmp 29)], 112, "sched.go:37", #[⟨0, .data⟩, ⟨2, .data⟩, ⟨4, .data⟩, ⟨5, .data⟩, ⟨6, .data⟩, ⟨7, .data⟩], none⟩) (v := ?v1z8x2) rfl (by kernel_rfl) (by kernel_rfl) (by kernel_rfl) (fun _ _ _ h => h) (Or.inl ⟨by rfl, ?hy1z8x2⟩) (by assumption) ?rest1z8x2
             case hy1z8x2 => (intro w hSw; (try dsimp only at hSw); go_simp; try (with_reducible rfl))
             simp only [Act.put, List.setIfInBounds_toArray, List.set_cons_zero, List.set_cons_succ]
             refine wpAnyH_ready (rs := [9]) (by kernel_rfl) (by simp) ?_
             refine AllReadyH.cons (o := ⟨some 31, .box 112 (.tmp 30), 26, "sched.go:37", #[⟨8, .data⟩], none⟩) rfl (fun K hK => ?_) ?_
             ·
               go_simp
               refine hK.out _ _ ?_ (fun hHeld => ?_)
               · (first | exact ⟨(HX.out.cell 0).trans rfl, (HX.out.cell 1).trans rfl⟩ | go_keep)
               clear hK K
               try simp only [Act.put, List.setIfInBounds_toArray, List.set_cons_zero, List.set_cons_succ]
               refine wpAnyH_take (i := 10) (oi := ⟨some 4, .assign (.tmp 31), 26, "sched.go:37", #[⟨9, .data⟩, ⟨4, .chain⟩, ⟨0, .phase⟩, ⟨1, .phase⟩, ⟨2, .phase⟩, ⟨3, .phase⟩, ⟨4, .phase⟩, ⟨5, .phase⟩, ⟨6, .phase⟩, ⟨7, .phase⟩, ⟨8, .phase⟩, ⟨9, .phase⟩], none⟩) (v := ?v1z10x2) rfl (by kernel_rfl) (by kernel_rfl) (by kernel_rfl) (fun _ _ _ h => h) (Or.inl ⟨by rfl, ?hy1z10x2⟩) (by assumption) ?rest1z10x2
               case hy1z10x2 => (intro w hSw; (try dsimp only at hSw); go_simp; try (with_reducible rfl))
               simp only [Act.put, List.setIfInBounds_toArray, List.set_cons_zero, List.set_cons_succ]
               refine wpAnyH_take (i := 11) (oi := ⟨some 5, .assign (.const .nilIface), 28, "sched.go:37", #[⟨10, .chain⟩, ⟨0, .phase⟩, ⟨1, .phase⟩, ⟨2, .phase⟩, ⟨3, .phase⟩, ⟨4, .phase⟩, ⟨5, .phase⟩, ⟨6, .phase⟩, ⟨7, .phase⟩, ⟨8, .phase⟩, ⟨9, .phase⟩, ⟨10, .phase⟩], none⟩) (v := ?v1z11x2) rfl (by kernel_rfl) (by kernel_rfl) (by kernel_rfl) (fun _ _ _ h => h) (Or.inl ⟨by rfl, ?hy1z11x2⟩) (by assumption) ?rest1z11x2
               case hy1z11x2 => (intro w hSw; (try dsimp only at hSw); go_simp; try (with_reducible rfl))
               simp only [Act.put, List.setIfInBounds_toArray, List.set_cons_zero, List.set_cons_succ]
               refine wpAnyH_done (by kernel_rfl) ?_ _
               go_wp2_with fail
               go_ret2
               have e1 := HbH.out
               have e2 := HbV.out
               have e3 := HsH.out
               have e4 := HsV.out
               have e5 := HStb.out
               exact snew_end HCk.out ⟨he1, he8⟩ HC.out HWy.out HSt.out HHm.out HVm.out (by omega) (fun k hk => by have a1 := HRw.out k hk; omega) (fun hk => by have a1 := HRw.out _ hk; have a2 := (HWb.out _ hk).2; omega) (fun hk => by have a1 := HRw.out _ hk; have a2 := (HWb.out _ hk).2; omega) (by omega) (by omega) (by omega) hB (fun k hk hr => by have a1 := HRw.out k hr; have a2 := (HWb.out k hr).2; have a3 := HStL.out k hk; omega)
             exact AllReadyH.nil
           exact AllReadyH.nil
         refine AllReadyH.cons (o := ⟨some 29, .makeMap 110 none, 110, "sched.go:37", #[], none⟩) rfl (fun K hK => ?_) ?_
         ·
           refine step_makeMap (enc := idV) _ rfl 110 rfl (by first | exact hmm _ _ | simp [hmm]) ?_
           intro wV vb_ hmV hb hbV hszV
           have HC := Lib.hid (ext_trans HC.out hb)
           have HX := Lib.hid (HX.out.ext hb)
           have HVm := Lib.hid hmV
           try (have HHm := Lib.hid (HHm.out.ext hb))
           try (have HWy := Lib.hid (HWy.out.ext hb))
           try (have HSt := Lib.hid (own_ext HSt.out hb))
           have HbV := Lib.hid hbV
           have HsV := Lib.hid hszV
           clear hmV hb hbV hszV
           refine hK.out _ _ ?_ (fun hHeld => ?_)
           · (first | exact ⟨(HX.out.cell 0).trans rfl, (HX.out.cell 1).trans rfl⟩ | go_keep)
           clear hK K
           try simp only [Act.put, List.setIfInBounds_toArray, List.set_cons_zero, List.set_cons_succ]
           refine wpAnyH_ready (rs := [4]) (by kernel_rfl) (by simp) ?_
           refine AllReadyH.cons (o := ⟨some 26, .call { callee := .value (.func 19), args := #[.tmp 25], argTypes := #[24] }, 50, "sched.go:37", #[⟨3, .data⟩, ⟨2, .chain⟩], none⟩) rfl (fun K hK => ?_) ?_
           ·
             go_simp
             go_at_call 19
             refine (states_c B p A c _ (HO.out.ext HC.out) (by have := HC.out.size; omega) HCk.out).mono ?_
             rintro e wS ⟨sA, sc, rfl, hown, hb⟩
             have hszS := hb.size
             have HC := Lib.hid (ext_trans HC.out hb)
             have HX := Lib.hid (HX.out.ext hb)
             have HSt := Lib.hid hown
             have HStb := Lib.hid hszS
             have HStL := Lib.hid hown.lt
             try (have HHm := Lib.hid (HHm.out.ext hb))
             try (have HVm := Lib.hid (HVm.out.ext hb))
             try (have HWy := Lib.hid (HWy.out.ext hb))
             clear hown hb
             refine hK.out _ _ ?_ (fun hHeld => ?_)
             · (first | exact ⟨(HX.out.cell 0).trans rfl, (HX.out.cell 1).trans rfl⟩ | go_keep)
             clear hK K
             try simp only [Act.put, List.setIfInBounds_toArray, List.set_cons_zero, List.set_cons_succ]
             refine wpAnyH_take (i := 8) (oi := ⟨some 30, .build 112 #[(0, .tmp 22), (1, .tmp 24), (2, .tmp 26), (3, .tmp 27), (4, .tmp 28), (5, .tmp 29)], 112, "sched.go:37", #[⟨0, .data⟩, ⟨2, .data⟩, ⟨4, .data⟩, ⟨5, .data⟩, ⟨6, .data⟩, ⟨7, .data⟩], none⟩) (v := ?v1z8x3) rfl (by kernel_rfl) (by kernel_rfl) (by kernel_rfl) (fun _ _ _ h => h) (Or.inl ⟨by rfl, ?hy1z8x3⟩) (by assumption) ?rest1z8x3
             case hy1z8x3 => (intro w hSw; (try dsimp only at hSw); go_simp; try (with_reducible rfl))
             simp only [Act.put, List.setIfInBounds_toArray, List.set_cons_zero, List.set_cons_succ]
             refine wpAnyH_ready (rs := [9]) (by kernel_rfl) (by simp) ?_
             refine AllReadyH.cons (o := ⟨some 31, .box 112 (.tmp 30), 26, "sched.go:37", #[⟨8, .data⟩], none⟩) rfl (fun K hK => ?_) ?_
             ·
               go_simp
               refine hK.out _ _ ?_ (fun hHeld => ?_)
               · (first | exact ⟨(HX.out.cell 0).trans rfl, (HX.out.cell 1).trans rfl⟩ | go_keep)
               clear hK K
               try simp only [Act.put, List.setIfInBounds_toArray, List.set_cons_zero, List.set_cons_succ]
               refine wpAnyH_take (i := 10) (oi := ⟨some 4, .assign (.tmp 31), 26, "sched.go:37", #[⟨9, .data⟩, ⟨4, .chain⟩, ⟨0, .phase⟩, ⟨1, .phase⟩, ⟨2, .phase⟩, ⟨3, .phase⟩, ⟨4, .phase⟩, ⟨5, .phase⟩, ⟨6, .phase⟩, ⟨7, .phase⟩, ⟨8, .phase⟩, ⟨9, .phase⟩], none⟩) (v := ?v1z10x3) rfl (by kernel_rfl) (by kernel_rfl) (by kernel_rfl) (fun _ _ _ h => h) (Or.inl ⟨by rfl, ?hy1z10x3⟩) (by assumption) ?rest1z10x3
               case hy1z10x3 => (intro w hSw; (try dsimp only at hSw); go_simp; try (with_reducible rfl))
               simp only [Act.put, List.setIfInBounds_toArray, List.set_cons_zero, List.set_cons_succ]
               refine wpAnyH_take (i := 11) (oi := ⟨some 5, .assign (.const .nilIface), 28, "sched.go:37", #[⟨10, .chain⟩, ⟨0, .phase⟩, ⟨1, .phase⟩, ⟨2, .phase⟩, ⟨3, .phase⟩, ⟨4, .phase⟩, ⟨5, .phase⟩, ⟨6, .phase⟩, ⟨7, .phase⟩, ⟨8, .phase⟩, ⟨9, .phase⟩, ⟨10, .phase⟩], none⟩) (v := ?v1z11x3) rfl (by kernel_rfl) (by kernel_rfl) (by kernel_rfl) (fun _ _ _ h => h) (Or.inl ⟨by rfl, ?hy1z11x3⟩) (by assumption) ?rest1z11x3
               case hy1z11x3 => (intro w hSw; (try dsimp only at hSw); go_simp; try (with_reducible rfl))
               simp only [Act.put, List.setIfInBounds_toArray, List.set_cons_zero, List.set_cons_succ]
               refine wpAnyH_done (by kernel_rfl) ?_ _
               go_wp2_with fail
               go_ret2
               have e1 := HbH.out
               have e2 := HbV.out
               have e3 := HsH.out
               have e4 := HsV.out
               have e5 := HStb.out
               exact snew_end HCk.out ⟨he1, he8⟩ HC.out HWy.out HSt.out HHm.out HVm.out (by omega) (fun k hk => by have a1 := HRw.out k hk; omega) (fun hk => by have a1 := HRw.out _ hk; have a2 := (HWb.out _ hk).2; omega) (fun hk => by have a1 := HRw.out _ hk; have a2 := (HWb.out _ hk).2; omega) (by omega) (by omega) (by omega) hB (fun k hk hr => by have a1 := HRw.out k hr; have a2 := (HWb.out k hr).2; have a3 := HStL.out k hk; omega)
             exact AllReadyH.nil
           exact AllReadyH.nil
         exact AllReadyH.nil
       refine AllReadyH.cons (o := ⟨some 29, .makeMap 110 none, 110, "sched.go:37", #[], none⟩) rfl (fun K hK => ?_) ?_
       ·
         refine step_makeMap (enc := idV) _ rfl 110 rfl (by first | exact hmm _ _ | simp [hmm]) ?_
         intro wV vb_ hmV hb hbV hszV
         have HC := Lib.hid (ext_trans HC.out hb)
         have HX := Lib.hid (HX.out.ext hb)
         have HVm := Lib.hid hmV
         try (have HHm := Lib.hid (HHm.out.ext hb))
         try (have HWy := Lib.hid (HWy.out.ext hb))
         try (have HSt := Lib.hid (own_ext HSt.out hb))
         have HbV := Lib.hid hbV
         have HsV := Lib.hid hszV
         clear hmV hb hbV hszV
         refine hK.out _ _ ?_ (fun hHeld => ?_)
         · (first | exact ⟨(HX.out.cell 0).trans rfl, (HX.out.cell 1).trans rfl⟩ | go_keep)
         clear hK K
         try simp only [Act.put, List.setIfInBounds_toArray, List.set_cons_zero, List.set_cons_succ]
         refine wpAnyH_ready (rs := [4, 6]) (by kernel_rfl) (by simp) ?_
         refine AllReadyH.cons (o := ⟨some 26, .call { callee := .value (.func 19), args := #[.tmp 25], argTypes := #[24] }, 50, "sched.go:37", #[⟨3, .data⟩, ⟨2, .chain⟩], none⟩) rfl (fun K hK => ?_) ?_
         ·
           go_simp
           go_at_call 19
           refine (states_c B p A c _ (HO.out.ext HC.out) (by have := HC.out.size; omega) HCk.out).mono ?_
           rintro e wS ⟨sA, sc, rfl, hown, hb⟩
           have hszS := hb.size
           have HC := Lib.hid (ext_trans HC.out hb)
           have HX := Lib.hid (HX.out.ext hb)
           have HSt := Lib.hid hown
           have HStb := Lib.hid hszS
           have HStL := Lib.hid hown.lt
           try (have HHm := Lib.hid (HHm.out.ext hb))
           try (have HVm := Lib.hid (HVm.out.ext hb))
           try (have HWy := Lib.hid (HWy.out.ext hb))
           clear hown hb
           refine hK.out _ _ ?_ (fun hHeld => ?_)
           · (first | exact ⟨(HX.out.cell 0).trans rfl, (HX.out.cell 1).trans rfl⟩ | go_keep)
           clear hK K
           try simp only [Act.put, List.setIfInBounds_toArray, List.set_cons_zero, List.set_cons_succ]
           refine wpAnyH_ready (rs := [6]) (by kernel_rfl) (by simp) ?_
           refine AllReadyH.cons (o := ⟨some 28, .makeMap 109 none, 109, "sched.go:37", #[], none⟩) rfl (fun K hK => ?_) ?_
           ·
             refine step_makeMap (enc := idV) _ rfl 109 rfl (by first | exact hmm _ _ | simp [hmm]) ?_
             intro wH hb_ hmH hb hbH hszH
             have HC := Lib.hid (ext_trans HC.out hb)
             have HX := Lib.hid (HX.out.ext hb)
             have HHm := Lib.hid hmH
             try (have HVm := Lib.hid (HVm.out.ext hb))
             try (have HWy := Lib.hid (HWy.out.ext hb))
             try (have HSt := Lib.hid (own_ext HSt.out hb))
             have HbH := Lib.hid hbH
             have HsH := Lib.hid hszH
             clear hmH hb hbH hszH
             refine hK.out _ _ ?_ (fun hHeld => ?_)
             · (first | exact ⟨(HX.out.cell 0).trans rfl, (HX.out.cell 1).trans rfl⟩ | go_keep)
             clear hK K
             try simp only [Act.put, List.setIfInBounds_toArray, List.set_cons_zero, List.set_cons_succ]
             refine wpAnyH_take (i := 8) (oi := ⟨some 30, .build 112 #[(0, .tmp 22), (1, .tmp 24), (2, .tmp 26), (3, .tmp 27), (4, .tmp 28), (5, .tmp 29)], 112, "sched.go:37", #[⟨0, .data⟩, ⟨2, .data⟩, ⟨4, .data⟩, ⟨5, .data⟩, ⟨6, .data⟩, ⟨7, .data⟩], none⟩) (v := ?v1z8x4) rfl (by kernel_rfl) (by kernel_rfl) (by kernel_rfl) (fun _ _ _ h => h) (Or.inl ⟨by rfl, ?hy1z8x4⟩) (by assumption) ?rest1z8x4
             case hy1z8x4 => (intro w hSw; (try dsimp only at hSw); go_simp; try (with_reducible rfl))
             simp only [Act.put, List.setIfInBounds_toArray, List.set_cons_zero, List.set_cons_succ]
             refine wpAnyH_ready (rs := [9]) (by kernel_rfl) (by simp) ?_
             refine AllReadyH.cons (o := ⟨some 31, .box 112 (.tmp 30), 26, "sched.go:37", #[⟨8, .data⟩], none⟩) rfl (fun K hK => ?_) ?_
             ·
               go_simp
               refine hK.out _ _ ?_ (fun hHeld => ?_)
               · (first | exact ⟨(HX.out.cell 0).trans rfl, (HX.out.cell 1).trans rfl⟩ | go_keep)
               clear hK K
               try simp only [Act.put, List.setIfInBounds_toArray, List.set_cons_zero, List.set_cons_succ]
               refine wpAnyH_take (i := 10) (oi := ⟨some 4, .assign (.tmp 31), 26, "sched.go:37", #[⟨9, .data⟩, ⟨4, .chain⟩, ⟨0, .phase⟩, ⟨1, .phase⟩, ⟨2, .phase⟩, ⟨3, .phase⟩, ⟨4, .phase⟩, ⟨5, .phase⟩, ⟨6, .phase⟩, ⟨7, .phase⟩, ⟨8, .phase⟩, ⟨9, .phase⟩], none⟩) (v := ?v1z10x4) rfl (by kernel_rfl) (by kernel_rfl) (by kernel_rfl) (fun _ _ _ h => h) (Or.inl ⟨by rfl, ?hy1z10x4⟩) (by assumption) ?rest1z10x4
               case hy1z10x4 => (intro w hSw; (try dsimp only at hSw); go_simp; try (with_reducible rfl))
               simp only [Act.put, List.setIfInBounds_toArray, List.set_cons_zero, List.set_cons_succ]
               refine wpAnyH_take (i := 11) (oi := ⟨some 5, .assign (.const .nilIface), 28, "sched.go:37", #[⟨10, .chain⟩, ⟨0, .phase⟩, ⟨1, .phase⟩, ⟨2, .phase⟩, ⟨3, .phase⟩, ⟨4, .phase⟩, ⟨5, .phase⟩, ⟨6, .phase⟩, ⟨7, .phase⟩, ⟨8, .phase⟩, ⟨9, .phase⟩, ⟨10, .phase⟩], none⟩) (v := ?v1z11x4) rfl (by kernel_rfl) (by kernel_rfl) (by kernel_rfl) (fun _ _ _ h => h) (Or.inl ⟨by rfl, ?hy1z11x4⟩) (by assumption) ?rest1z11x4
               case hy1z11x4 => (intro w hSw; (try dsimp only at hSw); go_simp; try (with_reducible rfl))
               simp only [Act.put, List.setIfInBounds_toArray, List.set_cons_zero, List.set_cons_succ]
               refine wpAnyH_done (by kernel_rfl) ?_ _
               go_wp2_with fail
               go_ret2
               have e1 := HbH.out
               have e2 := HbV.out
               have e3 := HsH.out
               have e4 := HsV.out
               have e5 := HStb.out
               exact snew_end HCk.out ⟨he1, he8⟩ HC.out HWy.out HSt.out HHm.out HVm.out (by omega) (fun k hk => by have a1 := HRw.out k hk; omega) (fun hk => by have a1 := HRw.out _ hk; have a2 := (HWb.out _ hk).2; omega) (fun hk => by have a1 := HRw.out _ hk; have a2 := (HWb.out _ hk).2; omega) (by omega) (by omega) (by omega) hB (fun k hk hr => by have a1 := HRw.out k hr; have a2 := (HWb.out k hr).2; have a3 := HStL.out k hk; omega)
             exact AllReadyH.nil
           exact AllReadyH.nil
         refine AllReadyH.cons (o := ⟨some 28, .makeMap 109 none, 109, "sched.go:37", #[], none⟩) rfl (fun K hK => ?_) ?_
         ·
           refine step_makeMap (enc := idV) _ rfl 109 rfl (by first | exact hmm _ _ | simp [hmm]) ?_
           intro wH hb_ hmH hb hbH hszH
           have HC := Lib.hid (ext_trans HC.out hb)
           have HX := Lib.hid (HX.out.ext hb)
           have HHm := Lib.hid hmH
           try (have HVm := Lib.hid (HVm.out.ext hb))
           try (have HWy := Lib.hid (HWy.out.ext hb))
           try (have HSt := Lib.hid (own_ext HSt.out hb))
           have HbH := Lib.hid hbH
           have HsH := Lib.hid hszH
           clear hmH hb hbH hszH
           refine hK.out _ _ ?_ (fun hHeld => ?_)
           · (first | exact ⟨(HX.out.cell 0).trans rfl, (HX.out.cell 1).trans rfl⟩ | go_keep)
           clear hK K
           try simp only [Act.put, List.setIfInBounds_toArray, List.set_cons_zero, List.set_cons_succ]
           refine wpAnyH_ready (rs := [4]) (by kernel_rfl) (by simp) ?_
           refine AllReadyH.cons (o := ⟨some 26, .call { callee := .value (.func 19), args := #[.tmp 25], argTypes := #[24] }, 50, "sched.go:37", #[⟨3, .data⟩, ⟨2, .chain⟩], none⟩) rfl (fun K hK => ?_) ?_
           ·
             go_simp
             go_at_call 19
             refine (states_c B p A c _ (HO.out.ext HC.out) (by have := HC.out.size; omega) HCk.out).mono ?_
             rintro e wS ⟨sA, sc, rfl, hown, hb⟩
             have hszS := hb.size
             have HC := Lib.hid (ext_trans HC.out hb)
             have HX := Lib.hid (HX.out.ext hb)
             have HSt := Lib.hid hown
             have HStb := Lib.hid hszS
             have HStL := Lib.hid hown.lt
             try (have HHm := Lib.hid (HHm.out.ext hb))
             try (have HVm := Lib.hid (HVm.out.ext hb))
             try (have HWy := Lib.hid (HWy.out.ext hb))
             clear hown hb
             refine hK.out _ _ ?_ (fun hHeld => ?_)
             · (first | exact ⟨(HX.out.cell 0).trans rfl, (HX.out.cell 1).trans rfl⟩ | go_keep)
             clear hK K
             try simp only [Act.put, List.setIfInBounds_toArray, List.set_cons_zero, List.set_cons_succ]
             refine wpAnyH_take (i := 8) (oi := ⟨some 30, .build 112 #[(0, .tmp 22), (1, .tmp 24), (2, .tmp 26), (3, .tmp 27), (4, .tmp 28), (5, .tmp 29)], 112, "sched.go:37", #[⟨0, .data⟩, ⟨2, .data⟩, ⟨4, .data⟩, ⟨5, .data⟩, ⟨6, .data⟩, ⟨7, .data⟩], none⟩) (v := ?v1z8x5) rfl (by kernel_rfl) (by kernel_rfl) (by kernel_rfl) (fun _ _ _ h => h) (Or.inl ⟨by rfl, ?hy1z8x5⟩) (by assumption) ?rest1z8x5
             case hy1z8x5 => (intro w hSw; (try dsimp only at hSw); go_simp; try (with_reducible rfl))
             simp only [Act.put, List.setIfInBounds_toArray, List.set_cons_zero, List.set_cons_succ]
             refine wpAnyH_ready (rs := [9]) (by kernel_rfl) (by simp) ?_
             refine AllReadyH.cons (o := ⟨some 31, .box 112 (.tmp 30), 26, "sched.go:37", #[⟨8, .data⟩], none⟩) rfl (fun K hK => ?_) ?_
             ·
               go_simp
               refine hK.out _ _ ?_ (fun hHeld => ?_)
               · (first | exact ⟨(HX.out.cell 0).trans rfl, (HX.out.cell 1).trans rfl⟩ | go_keep)
               clear hK K
               try simp only [Act.put, List.setIfInBounds_toArray, List.set_cons_zero, List.set_cons_succ]
               refine wpAnyH_take (i := 10) (oi := ⟨some 4, .assign (.tmp 31), 26, "sched.go:37", #[⟨9, .data⟩, ⟨4, .chain⟩, ⟨0, .phase⟩, ⟨1, .phase⟩, ⟨2, .phase⟩, ⟨3, .phase⟩, ⟨4, .phase⟩, ⟨5, .phase⟩, ⟨6, .phase⟩, ⟨7, .phase⟩, ⟨8, .phase⟩, ⟨9, .phase⟩], none⟩) (v := ?v1z10x5) rfl (by kernel_rfl) (by kernel_rfl) (by kernel_rfl) (fun _ _ _ h => h) (Or.inl ⟨by rfl, ?hy1z10x5⟩) (by assumption) ?rest1z10x5
               case hy1z10x5 => (intro w hSw; (try dsimp only at hSw); go_simp; try (with_reducible rfl))
               simp only [Act.put, List.setIfInBounds_toArray, List.set_cons_zero, List.set_cons_succ]
               refine wpAnyH_take (i := 11) (oi := ⟨some 5, .assign (.const .nilIface), 28, "sched.go:37", #[⟨10, .chain⟩, ⟨0, .phase⟩, ⟨1, .phase⟩, ⟨2, .phase⟩, ⟨3, .phase⟩, ⟨4, .phase⟩, ⟨5, .phase⟩, ⟨6, .phase⟩, ⟨7, .phase⟩, ⟨8, .phase⟩, ⟨9, .phase⟩, ⟨10, .phase⟩], none⟩) (v := ?v1z11x5) rfl (by kernel_rfl) (by kernel_rfl) (by kernel_rfl) (fun _ _ _ h => h) (Or.inl ⟨by rfl, ?hy1z11x5⟩) (by assumption) ?rest1z11x5
               case hy1z11x5 => (intro w hSw; (try dsimp only at hSw); go_simp; try (with_reducible rfl))
               simp only [Act.put, List.setIfInBounds_toArray, List.set_cons_zero, List.set_cons_succ]
               refine wpAnyH_done (by kernel_rfl) ?_ _
               go_wp2_with fail
               go_ret2
               have e1 := HbH.out
               have e2 := HbV.out
               have e3 := HsH.out
               have e4 := HsV.out
               have e5 := HStb.out
               exact snew_end HCk.out ⟨he1, he8⟩ HC.out HWy.out HSt.out HHm.out HVm.out (by omega) (fun k hk => by have a1 := HRw.out k hk; omega) (fun hk => by have a1 := HRw.out _ hk; have a2 := (HWb.out _ hk).2; omega) (fun hk => by have a1 := HRw.out _ hk; have a2 := (HWb.out _ hk).2; omega) (by omega) (by omega) (by omega) hB (fun k hk hr => by have a1 := HRw.out k hr; have a2 := (HWb.out k hr).2; have a3 := HStL.out k hk; omega)
             exact AllReadyH.nil
           exact AllReadyH.nil
         exact AllReadyH.nil
       exact AllReadyH.nil
     refine AllReadyH.cons (o := ⟨some 28, .makeMap 109 none, 109, "sched.go:37", #[], none⟩) rfl (fun K hK => ?_) ?_
     ·
       refine step_makeMap (enc := idV) _ rfl 109 rfl (by first | exact hmm _ _ | simp [hmm]) ?_
       intro wH hb_ hmH hb hbH hszH
       have HC := Lib.hid (ext_trans HC.out hb)
       have HX := Lib.hid (HX.out.ext hb)
       have HHm := Lib.hid hmH
       try (have HVm := Lib.hid (HVm.out.ext hb))
       try (have HWy := Lib.hid (HWy.out.ext hb))
       try (have HSt := Lib.hid (own_ext HSt.out hb))
       have HbH := Lib.hid hbH
       have HsH := Lib.hid hszH
       clear hmH hb hbH hszH
       refine hK.out _ _ ?_ (fun hHeld => ?_)
       · (first | exact ⟨(HX.out.cell 0).trans rfl, (HX.out.cell 1).trans rfl⟩ | go_keep)
       clear hK K
       try simp only [Act.put, List.setIfInBounds_toArray, List.set_cons_zero, List.set_cons_succ]
       refine wpAnyH_ready (rs := [2, 7]) (by kernel_rfl) (by simp) ?_
       refine AllReadyH.cons (o := ⟨some 24, .call { callee := .value (.func 56), args := #[.tmp 23], argTypes := #[24] }, 107, "sched.go:37", #[⟨1, .data⟩], none⟩) rfl (fun K hK => ?_) ?_
       ·
         go_simp
         go_at_call 56
         refine (new_c B p A c _ (HO.out.ext HC.out) HSh.out (by have := HC.out.size; omega)).mono ?_
         rintro e wN ⟨wyb, Kq, kc, Rw, rfl, hW, hb, hR⟩
         have hszN := hb.size
         have HRw := Lib.hid hR
         have HWy := Lib.hid hW
         have HWb := Lib.hid hW.bd
         have HC := Lib.hid (ext_trans HC.out hb)
         have HX := Lib.hid (HX.out.ext hb)
         try (have HHm := Lib.hid (HHm.out.ext hb))
         try (have HVm := Lib.hid (HVm.out.ext hb))
         try (have HSt := Lib.hid (own_ext HSt.out hb))
         clear hW hb hR
         refine hK.out _ _ ?_ (fun hHeld => ?_)
         · (first | exact ⟨(HX.out.cell 0).trans rfl, (HX.out.cell 1).trans rfl⟩ | go_keep)
         clear hK K
         try simp only [Act.put, List.setIfInBounds_toArray, List.set_cons_zero, List.set_cons_succ]
         refine wpAnyH_ready (rs := [4, 7]) (by kernel_rfl) (by simp) ?_
         refine AllReadyH.cons (o := ⟨some 26, .call { callee := .value (.func 19), args := #[.tmp 25], argTypes := #[24] }, 50, "sched.go:37", #[⟨3, .data⟩, ⟨2, .chain⟩], none⟩) rfl (fun K hK => ?_) ?_
         ·
           go_simp
           go_at_call 19
           refine (states_c B p A c _ (HO.out.ext HC.out) (by have := HC.out.size; omega) HCk.out).mono ?_
           rintro e wS ⟨sA, sc, rfl, hown, hb⟩
           have hszS := hb.size
           have HC := Lib.hid (ext_trans HC.out hb)
           have HX := Lib.hid (HX.out.ext hb)
           have HSt := Lib.hid hown
           have HStb := Lib.hid hszS
           have HStL := Lib.hid hown.lt
           try (have HHm := Lib.hid (HHm.out.ext hb))
           try (have HVm := Lib.hid (HVm.out.ext hb))
           try (have HWy := Lib.hid (HWy.out.ext hb))
           clear hown hb
           refine hK.out _ _ ?_ (fun hHeld => ?_)
           · (first | exact ⟨(HX.out.cell 0).trans rfl, (HX.out.cell 1).trans rfl⟩ | go_keep)
           clear hK K
           try simp only [Act.put, List.setIfInBounds_toArray, List.set_cons_zero, List.set_cons_succ]
           refine wpAnyH_ready (rs := [7]) (by kernel_rfl) (by simp) ?_
           refine AllReadyH.cons (o := ⟨some 29, .makeMap 110 none, 110, "sched.go:37", #[], none⟩) rfl (fun K hK => ?_) ?_
           ·
             refine step_makeMap (enc := idV) _ rfl 110 rfl (by first | exact hmm _ _ | simp [hmm]) ?_
             intro wV vb_ hmV hb hbV hszV
             have HC := Lib.hid (ext_trans HC.out hb)
             have HX := Lib.hid (HX.out.ext hb)
             have HVm := Lib.hid hmV
             try (have HHm := Lib.hid (HHm.out.ext hb))
             try (have HWy := Lib.hid (HWy.out.ext hb))
             try (have HSt := Lib.hid (own_ext HSt.out hb))
             have HbV := Lib.hid hbV
             have HsV := Lib.hid hszV
             clear hmV hb hbV hszV
             refine hK.out _ _ ?_ (fun hHeld => ?_)
             · (first | exact ⟨(HX.out.cell 0).trans rfl, (HX.out.cell 1).trans rfl⟩ | go_keep)
             clear hK K
             try simp only [Act.put, List.setIfInBounds_toArray, List.set_cons_zero, List.set_cons_succ]
             refine wpAnyH_take (i := 8) (oi := ⟨some 30, .build 112 #[(0, .tmp 22), (1, .tmp 24), (2, .tmp 26), (3, .tmp 27), (4, .tmp 28), (5, .tmp 29)], 112, "sched.go:37", #[⟨0, .data⟩, ⟨2, .data⟩, ⟨4, .data⟩, ⟨5, .data⟩, ⟨6, .data⟩, ⟨7, .data⟩], none⟩) (v := ?v1z8x6) rfl (by kernel_rfl) (by kernel_rfl) (by kernel_rfl) (fun _ _ _ h => h) (Or.inl ⟨by rfl, ?hy1z8x6⟩) (by assumption) ?rest1z8x6
             case hy1z8x6 => (intro w hSw; (try dsimp only at hSw); go_simp; try (with_reducible rfl))
             simp only [Act.put, List.setIfInBounds_toArray, List.set_cons_zero, List.set_cons_succ]
             refine wpAnyH_ready (rs := [9]) (by kernel_rfl) (by simp) ?_
             refine AllReadyH.cons (o := ⟨some 31, .box 112 (.tmp 30), 26, "sched.go:37", #[⟨8, .data⟩], none⟩) rfl (fun K hK => ?_) ?_
             ·
               go_simp
               refine hK.out _ _ ?_ (fun hHeld => ?_)
               · (first | exact ⟨(HX.out.cell 0).trans rfl, (HX.out.cell 1).trans rfl⟩ | go_keep)
               clear hK K
               try simp only [Act.put, List.setIfInBounds_toArray, List.set_cons_zero, List.set_cons_succ]
               refine wpAnyH_take (i := 10) (oi := ⟨some 4, .assign (.tmp 31), 26, "sched.go:37", #[⟨9, .data⟩, ⟨4, .chain⟩, ⟨0, .phase⟩, ⟨1, .phase⟩, ⟨2, .phase⟩, ⟨3, .phase⟩, ⟨4, .phase⟩, ⟨5, .phase⟩, ⟨6, .phase⟩, ⟨7, .phase⟩, ⟨8, .phase⟩, ⟨9, .phase⟩], none⟩) (v := ?v1z10x6) rfl (by kernel_rfl) (by kernel_rfl) (by kernel_rfl) (fun _ _ _ h => h) (Or.inl ⟨by rfl, ?hy1z10x6⟩) (by assumption) ?rest1z10x6
               case hy1z10x6 => (intro w hSw; (try dsimp only at hSw); go_simp; try (with_reducible rfl))
               simp only [Act.put, List.setIfInBounds_toArray, List.set_cons_zero, List.set_cons_succ]
               refine wpAnyH_take (i := 11) (oi := ⟨some 5, .assign (.const .nilIface), 28, "sched.go:37", #[⟨10, .chain⟩, ⟨0, .phase⟩, ⟨1, .phase⟩, ⟨2, .phase⟩, ⟨3, .phase⟩, ⟨4, .phase⟩, ⟨5, .phase⟩, ⟨6, .phase⟩, ⟨7, .phase⟩, ⟨8, .phase⟩, ⟨9, .phase⟩, ⟨10, .phase⟩], none⟩) (v := ?v1z11x6) rfl (by kernel_rfl) (by kernel_rfl) (by kernel_rfl) (fun _ _ _ h => h) (Or.inl ⟨by rfl, ?hy1z11x6⟩) (by assumption) ?rest1z11x6
               case hy1z11x6 => (intro w hSw; (try dsimp only at hSw); go_simp; try (with_reducible rfl))
               simp only [Act.put, List.setIfInBounds_toArray, List.set_cons_zero, List.set_cons_succ]
               refine wpAnyH_done (by kernel_rfl) ?_ _
               go_wp2_with fail
               go_ret2
               have e1 := HbH.out
               have e2 := HbV.out
               have e3 := HsH.out
               have e4 := HsV.out
               have e5 := HStb.out
               exact snew_end HCk.out ⟨he1, he8⟩ HC.out HWy.out HSt.out HHm.out HVm.out (by omega) (fun k hk => by have a1 := HRw.out k hk; omega) (fun hk => by have a1 := HRw.out _ hk; have a2 := (HWb.out _ hk).2; omega) (fun hk => by have a1 := HRw.out _ hk; have a2 := (HWb.out _ hk).2; omega) (by omega) (by omega) (by omega) hB (fun k hk hr => by have a1 := HRw.out k hr; have a2 := (HWb.out k hr).2; have a3 := HStL.out k hk; omega)
             exact AllReadyH.nil
           exact AllReadyH.nil
         refine AllReadyH.cons (o := ⟨some 29, .makeMap 110 none, 110, "sched.go:37", #[], none⟩) rfl (fun K hK => ?_) ?_
         ·
           refine step_makeMap (enc := idV) _ rfl 110 rfl (by first | exact hmm _ _ | simp [hmm]) ?_
           intro wV vb_ hmV hb hbV hszV
           have HC := Lib.hid (ext_trans HC.out hb)
           have HX := Lib.hid (HX.out.ext hb)
           have HVm := Lib.hid hmV
           try (have HHm := Lib.hid (HHm.out.ext hb))
           try (have HWy := Lib.hid (HWy.out.ext hb))
           try (have HSt := Lib.hid (own_ext HSt.out hb))
           have HbV := Lib.hid hbV
           have HsV := Lib.hid hszV
           clear hmV hb hbV hszV
           refine hK.out _ _ ?_ (fun hHeld => ?_)
           · (first | exact ⟨(HX.out.cell 0).trans rfl, (HX.out.cell 1).trans rfl⟩ | go_keep)
           clear hK K
           try simp only [Act.put, List.setIfInBounds_toArray, List.set_cons_zero, List.set_cons_succ]
           refine wpAnyH_ready (rs := [4]) (by kernel_rfl) (by simp) ?_
           refine AllReadyH.cons (o := ⟨some 26, .call { callee := .value (.func 19), args := #[.tmp 25], argTypes := #[24] }, 50, "sched.go:37", #[⟨3, .data⟩, ⟨2, .chain⟩], none⟩) rfl (fun K hK => ?_) ?_
           ·
             go_simp
             go_at_call 19
             refine (states_c B p A c _ (HO.out.ext HC.out) (by have := HC.out.size; omega) HCk.out).mono ?_
             rintro e wS ⟨sA, sc, rfl, hown, hb⟩
             have hszS := hb.size
             have HC := Lib.hid (ext_trans HC.out hb)
             have HX := Lib.hid (HX.out.ext hb)
             have HSt := Lib.hid hown
             have HStb := Lib.hid hszS
             have HStL := Lib.hid hown.lt
             try (have HHm := Lib.hid (HHm.out.ext hb))
             try (have HVm := Lib.hid (HVm.out.ext hb))
             try (have HWy := Lib.hid (HWy.out.ext hb))
             clear hown hb
             refine hK.out _ _ ?_ (fun hHeld => ?_)
             · (first | exact ⟨(HX.out.cell 0).trans rfl, (HX.out.cell 1).trans rfl⟩ | go_keep)
             clear hK K
             try simp only [Act.put, List.setIfInBounds_toArray, List.set_cons_zero, List.set_cons_succ]
             refine wpAnyH_take (i := 8) (oi := ⟨some 30, .build 112 #[(0, .tmp 22), (1, .tmp 24), (2, .tmp 26), (3, .tmp 27), (4, .tmp 28), (5, .tmp 29)], 112, "sched.go:37", #[⟨0, .data⟩, ⟨2, .data⟩, ⟨4, .data⟩, ⟨5, .data⟩, ⟨6, .data⟩, ⟨7, .data⟩], none⟩) (v := ?v1z8x7) rfl (by kernel_rfl) (by kernel_rfl) (by kernel_rfl) (fun _ _ _ h => h) (Or.inl ⟨by rfl, ?hy1z8x7⟩) (by assumption) ?rest1z8x7
             case hy1z8x7 => (intro w hSw; (try dsimp only at hSw); go_simp; try (with_reducible rfl))
             simp only [Act.put, List.setIfInBounds_toArray, List.set_cons_zero, List.set_cons_succ]
             refine wpAnyH_ready (rs := [9]) (by kernel_rfl) (by simp) ?_
             refine AllReadyH.cons (o := ⟨some 31, .box 112 (.tmp 30), 26, "sched.go:37", #[⟨8, .data⟩], none⟩) rfl (fun K hK => ?_) ?_
             ·
               go_simp
               refine hK.out _ _ ?_ (fun hHeld => ?_)
               · (first | exact ⟨(HX.out.cell 0).trans rfl, (HX.out.cell 1).trans rfl⟩ | go_keep)
               clear hK K
               try simp only [Act.put, List.setIfInBounds_toArray, List.set_cons_zero, List.set_cons_succ]
               refine wpAnyH_take (i := 10) (oi := ⟨some 4, .assign (.tmp 31), 26, "sched.go:37", #[⟨9, .data⟩, ⟨4, .chain⟩, ⟨0, .phase⟩, ⟨1, .phase⟩, ⟨2, .phase⟩, ⟨3, .phase⟩, ⟨4, .phase⟩, ⟨5, .phase⟩, ⟨6, .phase⟩, ⟨7, .phase⟩, ⟨8, .phase⟩, ⟨9, .phase⟩], none⟩) (v := ?v1z10x7) rfl (by kernel_rfl) (by kernel_rfl) (by kernel_rfl) (fun _ _ _ h => h) (Or.inl ⟨by rfl, ?hy1z10x7⟩) (by assumption) ?rest1z10x7
               case hy1z10x7 => (intro w hSw; (try dsimp only at hSw); go_simp; try (with_reducible rfl))
               simp only [Act.put, List.setIfInBounds_toArray, List.set_cons_zero, List.set_cons_succ]
               refine wpAnyH_take (i := 11) (oi := ⟨some 5, .assign (.const .nilIface), 28, "sched.go:37", #[⟨10, .chain⟩, ⟨0, .phase⟩, ⟨1, .phase⟩, ⟨2, .phase⟩, ⟨3, .phase⟩, ⟨4, .phase⟩, ⟨5, .phase⟩, ⟨6, .phase⟩, ⟨7, .phase⟩, ⟨8, .phase⟩, ⟨9, .phase⟩, ⟨10, .phase⟩], none⟩) (v := ?v1z11x7) rfl (by kernel_rfl) (by kernel_rfl) (by kernel_rfl) (fun _ _ _ h => h) (Or.inl ⟨by rfl, ?hy1z11x7⟩) (by assumption) ?rest1z11x7
               case hy1z11x7 => (intro w hSw; (try dsimp only at hSw); go_simp; try (with_reducible rfl))
               simp only [Act.put, List.setIfInBounds_toArray, List.set_cons_zero, List.set_cons_succ]
               refine wpAnyH_done (by kernel_rfl) ?_ _
               go_wp2_with fail
               go_ret2
               have e1 := HbH.out
               have e2 := HbV.out
               have e3 := HsH.out
               have e4 := HsV.out
               have e5 := HStb.out
               exact snew_end HCk.out ⟨he1, he8⟩ HC.out HWy.out HSt.out HHm.out HVm.out (by omega) (fun k hk => by have a1 := HRw.out k hk; omega) (fun hk => by have a1 := HRw.out _ hk; have a2 := (HWb.out _ hk).2; omega) (fun hk => by have a1 := HRw.out _ hk; have a2 := (HWb.out _ hk).2; omega) (by omega) (by omega) (by omega) hB (fun k hk hr => by have a1 := HRw.out k hr; have a2 := (HWb.out k hr).2; have a3 := HStL.out k hk; omega)
             exact AllReadyH.nil
           exact AllReadyH.nil
         exact AllReadyH.nil
       refine AllReadyH.cons (o := ⟨some 29, .makeMap 110 none, 110, "sched.go:37", #[], none⟩) rfl (fun K hK => ?_) ?_
       ·
         refine step_makeMap (enc := idV) _ rfl 110 rfl (by first | exact hmm _ _ | simp [hmm]) ?_
         intro wV vb_ hmV hb hbV hszV
         have HC := Lib.hid (ext_trans HC.out hb)
         have HX := Lib.hid (HX.out.ext hb)
         have HVm := Lib.hid hmV
         try (have HHm := Lib.hid (HHm.out.ext hb))
         try (have HWy := Lib.hid (HWy.out.ext hb))
         try (have HSt := Lib.hid (own_ext HSt.out hb))
         have HbV := Lib.hid hbV
         have HsV := Lib.hid hszV
         clear hmV hb hbV hszV
         refine hK.out _ _ ?_ (fun hHeld => ?_)
         · (first | exact ⟨(HX.out.cell 0).trans rfl, (HX.out.cell 1).trans rfl⟩ | go_keep)
         clear hK K
         try simp only [Act.put, List.setIfInBounds_toArray, List.set_cons_zero, List.set_cons_succ]
         refine wpAnyH_ready (rs := [2]) (by kernel_rfl) (by simp) ?_
         refine AllReadyH.cons (o := ⟨some 24, .call { callee := .value (.func 56), args := #[.tmp 23], argTypes := #[24] }, 107, "sched.go:37", #[⟨1, .data⟩], none⟩) rfl (fun K hK => ?_) ?_
         ·
           go_simp
           go_at_call 56
           refine (new_c B p A c _ (HO.out.ext HC.out) HSh.out (by have := HC.out.size; omega)).mono ?_
           rintro e wN ⟨wyb, Kq, kc, Rw, rfl, hW, hb, hR⟩
           have hszN := hb.size
           have HRw := Lib.hid hR
           have HWy := Lib.hid hW
           have HWb := Lib.hid hW.bd
           have HC := Lib.hid (ext_trans HC.out hb)
           have HX := Lib.hid (HX.out.ext hb)
           try (have HHm := Lib.hid (HHm.out.ext hb))
           try (have HVm := Lib.hid (HVm.out.ext hb))
           try (have HSt := Lib.hid (own_ext HSt.out hb))
           clear hW hb hR
           refine hK.out _ _ ?_ (fun hHeld => ?_)
           · (first | exact ⟨(HX.out.cell 0).trans rfl, (HX.out.cell 1).trans rfl⟩ | go_keep)
           clear hK K
           try simp only [Act.put, List.setIfInBounds_toArray, List.set_cons_zero, List.set_cons_succ]
           refine wpAnyH_ready (rs := [4]) (by kernel_rfl) (by simp) ?_
           refine AllReadyH.cons (o := ⟨some 26, .call { callee := .value (.func 19), args := #[.tmp 25], argTypes := #[24] }, 50, "sched.go:37", #[⟨3, .data⟩, ⟨2, .chain⟩], none⟩) rfl (fun K hK => ?_) ?_
           ·
             go_simp
             go_at_call 19
             refine (states_c B p A c _ (HO.out.ext HC.out) (by have := HC.out.size; omega) HCk.out).mono ?_
             rintro e wS ⟨sA, sc, rfl, hown, hb⟩
             have hszS := hb.size
             have HC := Lib.hid (ext_trans HC.out hb)
             have HX := Lib.hid (HX.out.ext hb)
             have HSt := Lib.hid hown
             have HStb := Lib.hid hszS
             have HStL := Lib.hid hown.lt
             try (have HHm := Lib.hid (HHm.out.ext hb))
             try (have HVm := Lib.hid (HVm.out.ext hb))
             try (have HWy := Lib.hid (HWy.out.ext hb))
             clear hown hb
             refine hK.out _ _ ?_ (fun hHeld => ?_)
             · (first | exact ⟨(HX.out.cell 0).trans rfl, (HX.out.cell 1).trans rfl⟩ | go_keep)
             clear hK K
             try simp only [Act.put, List.setIfInBounds_toArray, List.set_cons_zero, List.set_cons_succ]
             refine wpAnyH_take (i := 8) (oi := ⟨some 30, .build 112 #[(0, .tmp 22), (1, .tmp 24), (2, .tmp 26), (3, .tmp 27), (4, .tmp 28), (5, .tmp 29)], 112, "sched.go:37", #[⟨0, .data⟩, ⟨2, .data⟩, ⟨4, .data⟩, ⟨5, .data⟩, ⟨6, .data⟩, ⟨7, .data⟩], none⟩) (v := ?v1z8x8) rfl (by kernel_rfl) (by kernel_rfl) (by kernel_rfl) (fun _ _ _ h => h) (Or.inl ⟨by rfl, ?hy1z8x8⟩) (by assumption) ?rest1z8x8
             case hy1z8x8 => (intro w hSw; (try dsimp only at hSw); go_simp; try (with_reducible rfl))
             simp only [Act.put, List.setIfInBounds_toArray, List.set_cons_zero, List.set_cons_succ]
             refine wpAnyH_ready (rs := [9]) (by kernel_rfl) (by simp) ?_
             refine AllReadyH.cons (o := ⟨some 31, .box 112 (.tmp 30), 26, "sched.go:37", #[⟨8, .data⟩], none⟩) rfl (fun K hK => ?_) ?_
             ·
               go_simp
               refine hK.out _ _ ?_ (fun hHeld => ?_)
               · (first | exact ⟨(HX.out.cell 0).trans rfl, (HX.out.cell 1).trans rfl⟩ | go_keep)
               clear hK K
               try simp only [Act.put, List.setIfInBounds_toArray, List.set_cons_zero, List.set_cons_succ]
               refine wpAnyH_take (i := 10) (oi := ⟨some 4, .assign (.tmp 31), 26, "sched.go:37", #[⟨9, .data⟩, ⟨4, .chain⟩, ⟨0, .phase⟩, ⟨1, .phase⟩, ⟨2, .phase⟩, ⟨3, .phase⟩, ⟨4, .phase⟩, ⟨5, .phase⟩, ⟨6, .phase⟩, ⟨7, .phase⟩, ⟨8, .phase⟩, ⟨9, .phase⟩], none⟩) (v := ?v1z10x8) rfl (by kernel_rfl) (by kernel_rfl) (by kernel_rfl) (fun _ _ _ h => h) (Or.inl ⟨by rfl, ?hy1z10x8⟩) (by assumption) ?rest1z10x8
               case hy1z10x8 => (intro w hSw; (try dsimp only at hSw); go_simp; try (with_reducible rfl))
               simp only [Act.put, List.setIfInBounds_toArray, List.set_cons_zero, List.set_cons_succ]
               refine wpAnyH_take (i := 11) (oi := ⟨some 5, .assign (.const .nilIface), 28, "sched.go:37", #[⟨10, .chain⟩, ⟨0, .phase⟩, ⟨1, .phase⟩, ⟨2, .phase⟩, ⟨3, .phase⟩, ⟨4, .phase⟩, ⟨5, .phase⟩, ⟨6, .phase⟩, ⟨7, .phase⟩, ⟨8, .phase⟩, ⟨9, .phase⟩, ⟨10, .phase⟩], none⟩) (v := ?v1z11x8) rfl (by kernel_rfl) (by kernel_rfl) (by kernel_rfl) (fun _ _ _ h => h) (Or.inl ⟨by rfl, ?hy1z11x8⟩) (by assumption) ?rest1z11x8
               case hy1z11x8 => (intro w hSw; (try dsimp only at hSw); go_simp; try (with_reducible rfl))
               simp only [Act.put, List.setIfInBounds_toArray, List.set_cons_zero, List.set_cons_succ]
               refine wpAnyH_done (by kernel_rfl) ?_ _
               go_wp2_with fail
               go_ret2
               have e1 := HbH.out
               have e2 := HbV.out
               have e3 := HsH.out
               have e4 := HsV.out
               have e5 := HStb.out
               exact snew_end HCk.out ⟨he1, he8⟩ HC.out HWy.out HSt.out HHm.out HVm.out (by omega) (fun k hk => by have a1 := HRw.out k hk; omega) (fun hk => by have a1 := HRw.out _ hk; have a2 := (HWb.out _ hk).2; omega) (fun hk => by have a1 := HRw.out _ hk; have a2 := (HWb.out _ hk).2; omega) (by omega) (by omega) (by omega) hB (fun k hk hr => by have a1 := HRw.out k hr; have a2 := (HWb.out k hr).2; have a3 := HStL.out k hk; omega)
             exact AllReadyH.nil
           exact AllReadyH.nil
         exact AllReadyH.nil
       exact AllReadyH.nil
     refine AllReadyH.cons (o := ⟨some 29, .makeMap 110 none, 110, "sched.go:37", #[], none⟩) rfl (fun K hK => ?_) ?_
     ·
       refine step_makeMap (enc := idV) _ rfl 110 rfl (by first | exact hmm _ _ | simp [hmm]) ?_
       intro wV vb_ hmV hb hbV hszV
       have HC := Lib.hid (ext_trans HC.out hb)
       have HX := Lib.hid (HX.out.ext hb)
       have HVm := Lib.hid hmV
       try (have HHm := Lib.hid (HHm.out.ext hb))
       try (have HWy := Lib.hid (HWy.out.ext hb))
       try (have HSt := Lib.hid (own_ext HSt.out hb))
       have HbV := Lib.hid hbV
       have HsV := Lib.hid hszV
       clear hmV hb hbV hszV
       refine hK.out _ _ ?_ (fun hHeld => ?_)
       · (first | exact ⟨(HX.out.cell 0).trans rfl, (HX.out.cell 1).trans rfl⟩ | go_keep)
       clear hK K
       try simp only [Act.put, List.setIfInBounds_toArray, List.set_cons_zero, List.set_cons_succ]
       refine wpAnyH_ready (rs := [2, 6]) (by kernel_rfl) (by simp) ?_
       refine AllReadyH.cons (o := ⟨some 24, .call { callee := .value (.func 56), args := #[.tmp 23], argTypes := #[24] }, 107, "sched.go:37", #[⟨1, .data⟩], none⟩) rfl (fun K hK => ?_) ?_
       ·
         go_simp
         go_at_call 56
         refine (new_c B p A c _ (HO.out.ext HC.out) HSh.out (by have := HC.out.size; omega)).mono ?_
         rintro e wN ⟨wyb, Kq, kc, Rw, rfl, hW, hb, hR⟩
         have hszN := hb.size
         have HRw := Lib.hid hR
         have HWy := Lib.hid hW
         have HWb := Lib.hid hW.bd
         have HC := Lib.hid (ext_trans HC.out hb)
         have HX := Lib.hid (HX.out.ext hb)
         try (have HHm := Lib.hid (HHm.out.ext hb))
         try (have HVm := Lib.hid (HVm.out.ext hb))
         try (have HSt := Lib.hid (own_ext HSt.out hb))
         clear hW hb hR
         refine hK.out _ _ ?_ (fun hHeld => ?_)
         · (first | exact ⟨(HX.out.cell 0).trans rfl, (HX.out.cell 1).trans rfl⟩ | go_keep)
         clear hK K
         try simp only [Act.put, List.setIfInBounds_toArray, List.set_cons_zero, List.set_cons_succ]
         refine wpAnyH_ready (rs := [4, 6]) (by kernel_rfl) (by simp) ?_
         refine AllReadyH.cons (o := ⟨some 26, .call { callee := .value (.func 19), args := #[.tmp 25], argTypes := #[24] }, 50, "sched.go:37", #[⟨3, .data⟩, ⟨2, .chain⟩], none⟩) rfl (fun K hK => ?_) ?_
         ·
           go_simp
           go_at_call 19
           refine (states_c B p A c _ (HO.out.ext HC.out) (by have := HC.out.size; omega) HCk.out).mono ?_
           rintro e wS ⟨sA, sc, rfl, hown, hb⟩
           have hszS := hb.size
           have HC := Lib.hid (ext_trans HC.out hb)
           have HX := Lib.hid (HX.out.ext hb)
           have HSt := Lib.hid hown
           have HStb := Lib.hid hszS
           have HStL := Lib.hid hown.lt
           try (have HHm := Lib.hid (HHm.out.ext hb))
           try (have HVm := Lib.hid (HVm.out.ext hb))
           try (have HWy := Lib.hid (HWy.out.ext hb))
           clear hown hb
           refine hK.out _ _ ?_ (fun hHeld => ?_)
           · (first | exact ⟨(HX.out.cell 0).trans rfl, (HX.out.cell 1).trans rfl⟩ | go_keep)
           clear hK K
           try simp only [Act.put, List.setIfInBounds_toArray, List.set_cons_zero, List.set_cons_succ]
           refine wpAnyH_ready (rs := [6]) (by kernel_rfl) (by simp) ?_
           refine AllReadyH.cons (o := ⟨some 28, .makeMap 109 none, 109, "sched.go:37", #[], none⟩) rfl (fun K hK => ?_) ?_
           ·
             refine step_makeMap (enc := idV) _ rfl 109 rfl (by first | exact hmm _ _ | simp [hmm]) ?_
             intro wH hb_ hmH hb hbH hszH
             have HC := Lib.hid (ext_trans HC.out hb)
             have HX := Lib.hid (HX.out.ext hb)
             have HHm := Lib.hid hmH
             try (have HVm := Lib.hid (HVm.out.ext hb))
             try (have HWy := Lib.hid (HWy.out.ext hb))
             try (have HSt := Lib.hid (own_ext HSt.out hb))
             have HbH := Lib.hid hbH
             have HsH := Lib.hid hszH
             clear hmH hb hbH hszH
             refine hK.out _ _ ?_ (fun hHeld => ?_)
             · (first | exact ⟨(HX.out.cell 0).trans rfl, (HX.out.cell 1).trans rfl⟩ | go_keep)
             clear hK K
             try simp only [Act.put, List.setIfInBounds_toArray, List.set_cons_zero, List.set_cons_succ]
             refine wpAnyH_take (i := 8) (oi := ⟨some 30, .build 112 #[(0, .tmp 22), (1, .tmp 24), (2, .tmp 26), (3, .tmp 27), (4, .tmp 28), (5, .tmp 29)], 112, "sched.go:37", #[⟨0, .data⟩, ⟨2, .data⟩, ⟨4, .data⟩, ⟨5, .data⟩, ⟨6, .data⟩, ⟨7, .data⟩], none⟩) (v := ?v1z8x9) rfl (by kernel_rfl) (by kernel_rfl) (by kernel_rfl) (fun _ _ _ h => h) (Or.inl ⟨by rfl, ?hy1z8x9⟩) (by assumption) ?rest1z8x9
             case hy1z8x9 => (intro w hSw; (try dsimp only at hSw); go_simp; try (with_reducible rfl))
             simp only [Act.put, List.setIfInBounds_toArray, List.set_cons_zero, List.set_cons_succ]
             refine wpAnyH_ready (rs := [9]) (by kernel_rfl) (by simp) ?_
             refine AllReadyH.cons (o := ⟨some 31, .box 112 (.tmp 30), 26, "sched.go:37", #[⟨8, .data⟩], none⟩) rfl (fun K hK => ?_) ?_
             ·
               go_simp
               refine hK.out _ _ ?_ (fun hHeld => ?_)
               · (first | exact ⟨(HX.out.cell 0).trans rfl, (HX.out.cell 1).trans rfl⟩ | go_keep)
               clear hK K
               try simp only [Act.put, List.setIfInBounds_toArray, List.set_cons_zero, List.set_cons_succ]
               refine wpAnyH_take (i := 10) (oi := ⟨some 4, .assign (.tmp 31), 26, "sched.go:37", #[⟨9, .data⟩, ⟨4, .chain⟩, ⟨0, .phase⟩, ⟨1, .phase⟩, ⟨2, .phase⟩, ⟨3, .phase⟩, ⟨4, .phase⟩, ⟨5, .phase⟩, ⟨6, .phase⟩, ⟨7, .phase⟩, ⟨8, .phase⟩, ⟨9, .phase⟩], none⟩) (v := ?v1z10x9) rfl (by kernel_rfl) (by kernel_rfl) (by kernel_rfl) (fun _ _ _ h => h) (Or.inl ⟨by rfl, ?hy1z10x9⟩) (by assumption) ?rest1z10x9
               case hy1z10x9 => (intro w hSw; (try dsimp only at hSw); go_simp; try (with_reducible rfl))
               simp only [Act.put, List.setIfInBounds_toArray, List.set_cons_zero, List.set_cons_succ]
               refine wpAnyH_take (i := 11) (oi := ⟨some 5, .assign (.const .nilIface), 28, "sched.go:37", #[⟨10, .chain⟩, ⟨0, .phase⟩, ⟨1, .phase⟩, ⟨2, .phase⟩, ⟨3, .phase⟩, ⟨4, .phase⟩, ⟨5, .phase⟩, ⟨6, .phase⟩, ⟨7, .phase⟩, ⟨8, .phase⟩, ⟨9, .phase⟩, ⟨10, .phase⟩], none⟩) (v := ?v1z11x9) rfl (by kernel_rfl) (by kernel_rfl) (by kernel_rfl) (fun _ _ _ h => h) (Or.inl ⟨by rfl, ?hy1z11x9⟩) (by assumption) ?rest1z11x9
               case hy1z11x9 => (intro w hSw; (try dsimp only at hSw); go_simp; try (with_reducible rfl))
               simp only [Act.put, List.setIfInBounds_toArray, List.set_cons_zero, List.set_cons_succ]
               refine wpAnyH_done (by kernel_rfl) ?_ _
               go_wp2_with fail
               go_ret2
               have e1 := HbH.out
               have e2 := HbV.out
               have e3 := HsH.out
               have e4 := HsV.out
               have e5 := HStb.out
               exact snew_end HCk.out ⟨he1, he8⟩ HC.out HWy.out HSt.out HHm.out HVm.out (by omega) (fun k hk => by have a1 := HRw.out k hk; omega) (fun hk => by have a1 := HRw.out _ hk; have a2 := (HWb.out _ hk).2; omega) (fun hk => by have a1 := HRw.out _ hk; have a2 := (HWb.out _ hk).2; omega) (by omega) (by omega) (by omega) hB (fun k hk hr => by have a1 := HRw.out k hr; have a2 := (HWb.out k hr).2; have a3 := HStL.out k hk; omega)
             exact AllReadyH.nil
           exact AllReadyH.nil
         refine AllReadyH.cons (o := ⟨some 28, .makeMap 109 none, 109, "sched.go:37", #[], none⟩) rfl (fun K hK => ?_) ?_
         ·
           refine step_makeMap (enc := idV) _ rfl 109 rfl (by first | exact hmm _ _ | simp [hmm]) ?_
           intro wH hb_ hmH hb hbH hszH
           have HC := Lib.hid (ext_trans HC.out hb)
           have HX := Lib.hid (HX.out.ext hb)
           have HHm := Lib.hid hmH
           try (have HVm := Lib.hid (HVm.out.ext hb))
           try (have HWy := Lib.hid (HWy.out.ext hb))
           try (have HSt := Lib.hid (own_ext HSt.out hb))
           have HbH := Lib.hid hbH
           have HsH := Lib.hid hszH
           clear hmH hb hbH hszH
           refine hK.out _ _ ?_ (fun hHeld => ?_)
           · (first | exact ⟨(HX.out.cell 0).trans rfl, (HX.out.cell 1).trans rfl⟩ | go_keep)
           clear hK K
           try simp only [Act.put, List.setIfInBounds_toArray, List.set_cons_zero, List.set_cons_succ]
           refine wpAnyH_ready (rs := [4]) (by kernel_rfl) (by simp) ?_
           refine AllReadyH.cons (o := ⟨some 26, .call { callee := .value (.func 19), args := #[.tmp 25], argTypes := #[24] }, 50, "sched.go:37", #[⟨3, .data⟩, ⟨2, .chain⟩], none⟩) rfl (fun K hK => ?_) ?_
           ·
             go_simp
             go_at_call 19
             refine (states_c B p A c _ (HO.out.ext HC.out) (by have := HC.out.size; omega) HCk.out).mono ?_
             rintro e wS ⟨sA, sc, rfl, hown, hb⟩
             have hszS := hb.size
             have HC := Lib.hid (ext_trans HC.out hb)
             have HX := Lib.hid (HX.out.ext hb)
             have HSt := Lib.hid hown
             have HStb := Lib.hid hszS
             have HStL := Lib.hid hown.lt
             try (have HHm := Lib.hid (HHm.out.ext hb))
             try (have HVm := Lib.hid (HVm.out.ext hb))
             try (have HWy := Lib.hid (HWy.out.ext hb))
             clear hown hb
             refine hK.out _ _ ?_ (fun hHeld => ?_)
             · (first | exact ⟨(HX.out.cell 0).trans rfl, (HX.out.cell 1).trans rfl⟩ | go_keep)
             clear hK K
             try simp only [Act.put, List.setIfInBounds_toArray, List.set_cons_zero, List.set_cons_succ]
             refine wpAnyH_take (i := 8) (oi := ⟨some 30, .build 112 #[(0, .tmp 22), (1, .tmp 24), (2, .tmp 26), (3, .tmp 27), (4, .tmp 28), (5, .tmp 29)], 112, "sched.go:37", #[⟨0, .data⟩, ⟨2, .data⟩, ⟨4, .data⟩, ⟨5, .data⟩, ⟨6, .data⟩, ⟨7, .data⟩], none⟩) (v := ?v1z8x10) rfl (by kernel_rfl) (by kernel_rfl) (by kernel_rfl) (fun _ _ _ h => h) (Or.inl ⟨by rfl, ?hy1z8x10⟩) (by assumption) ?rest1z8x10
             case hy1z8x10 => (intro w hSw; (try dsimp only at hSw); go_simp; try (with_reducible rfl))
             simp only [Act.put, List.setIfInBounds_toArray, List.set_cons_zero, List.set_cons_succ]
             refine wpAnyH_ready (rs := [9]) (by kernel_rfl) (by simp) ?_
             refine AllReadyH.cons (o := ⟨some 31, .box 112 (.tmp 30), 26, "sched.go:37", #[⟨8, .data⟩], none⟩) rfl (fun K hK => ?_) ?_
             ·
               go_simp
               refine hK.out _ _ ?_ (fun hHeld => ?_)
               · (first | exact ⟨(HX.out.cell 0).trans rfl, (HX.out.cell 1).trans rfl⟩ | go_keep)
               clear hK K
               try simp only [Act.put, List.setIfInBounds_toArray, List.set_cons_zero, List.set_cons_succ]
               refine wpAnyH_take (i := 10) (oi := ⟨some 4, .assign (.tmp 31), 26, "sched.go:37", #[⟨9, .data⟩, ⟨4, .chain⟩, ⟨0, .phase⟩, ⟨1, .phase⟩, ⟨2, .phase⟩, ⟨3, .phase⟩, ⟨4, .phase⟩, ⟨5, .phase⟩, ⟨6, .phase⟩, ⟨7, .phase⟩, ⟨8, .phase⟩, ⟨9, .phase⟩], none⟩) (v := ?v1z10x10) rfl (by kernel_rfl) (by kernel_rfl) (by kernel_rfl) (fun _ _ _ h => h) (Or.inl ⟨by rfl, ?hy1z10x10⟩) (by assumption) ?rest1z10x10
               case hy1z10x10 => (intro w hSw; (try dsimp only at hSw); go_simp; try (with_reducible rfl))
               simp only [Act.put, List.setIfInBounds_toArray, List.set_cons_zero, List.set_cons_succ]
               refine wpAnyH_take (i := 11) (oi := ⟨some 5, .assign (.const .nilIface), 28, "sched.go:37", #[⟨10, .chain⟩, ⟨0, .phase⟩, ⟨1, .phase⟩, ⟨2, .phase⟩, ⟨3, .phase⟩, ⟨4, .phase⟩, ⟨5, .phase⟩, ⟨6, .phase⟩, ⟨7, .phase⟩, ⟨8, .phase⟩, ⟨9, .phase⟩, ⟨10, .phase⟩], none⟩) (v := ?v1z11x10) rfl (by kernel_rfl) (by kernel_rfl) (by kernel_rfl) (fun _ _ _ h => h) (Or.inl ⟨by rfl, ?hy1z11x10⟩) (by assumption) ?rest1z11x10
               case hy1z11x10 => (intro w hSw; (try dsimp only at hSw); go_simp; try (with_reducible rfl))
               simp only [Act.put, List.setIfInBounds_toArray, List.set_cons_zero, List.set_cons_succ]
               refine wpAnyH_done (by kernel_rfl) ?_ _
               go_wp2_with fail
               go_ret2
               have e1 := HbH.out
               have e2 := HbV.out
               have e3 := HsH.out
               have e4 := HsV.out
               have e5 := HStb.out
               exact snew_end HCk.out ⟨he1, he8⟩ HC.out HWy.out HSt.out HHm.out HVm.out (by omega) (fun k hk => by have a1 := HRw.out k hk; omega) (fun hk => by have a1 := HRw.out _ hk; have a2 := (HWb.out _ hk).2; omega) (fun hk => by have a1 := HRw.out _ hk; have a2 := (HWb.out _ hk).2; omega) (by omega) (by omega) (by omega) hB (fun k hk hr => by have a1 := HRw.out k hr; have a2 := (HWb.out k hr).2; have a3 := HStL.out k hk; omega)
             exact AllReadyH.nil
           exact AllReadyH.nil
         exact AllReadyH.nil
       refine AllReadyH.cons (o := ⟨some 28, .makeMap 109 none, 109, "sched.go:37", #[], none⟩) rfl (fun K hK => ?_) ?_
       ·
         refine step_makeMap (enc := idV) _ rfl 109 rfl (by first | exact hmm _ _ | simp [hmm]) ?_
         intro wH hb_ hmH hb hbH hszH
         have HC := Lib.hid (ext_trans HC.out hb)
         have HX := Lib.hid (HX.out.ext hb)
         have HHm := Lib.hid hmH
         try (have HVm := Lib.hid (HVm.out.ext hb))
         try (have HWy := Lib.hid (HWy.out.ext hb))
         try (have HSt := Lib.hid (own_ext HSt.out hb))
         have HbH := Lib.hid hbH
         have HsH := Lib.hid hszH
         clear hmH hb hbH hszH
         refine hK.out _ _ ?_ (fun hHeld => ?_)
         · (first | exact ⟨(HX.out.cell 0).trans rfl, (HX.out.cell 1).trans rfl⟩ | go_keep)
         clear hK K
         try simp only [Act.put, List.setIfInBounds_toArray, List.set_cons_zero, List.set_cons_succ]
         refine wpAnyH_ready (rs := [2]) (by kernel_rfl) (by simp) ?_
         refine AllReadyH.cons (o := ⟨some 24, .call { callee := .value (.func 56), args := #[.tmp 23], argTypes := #[24] }, 107, "sched.go:37", #[⟨1, .data⟩], none⟩) rfl (fun K hK => ?_) ?_
         ·
           go_simp
           go_at_call 56
           refine (new_c B p A c _ (HO.out.ext HC.out) HSh.out (by have := HC.out.size; omega)).mono ?_
           rintro e wN ⟨wyb, Kq, kc, Rw, rfl, hW, hb, hR⟩
           have hszN := hb.size
           have HRw := Lib.hid hR
           have HWy := Lib.hid hW
           have HWb := Lib.hid hW.bd
           have HC := Lib.hid (ext_trans HC.out hb)
           have HX := Lib.hid (HX.out.ext hb)
           try (have HHm := Lib.hid (HHm.out.ext hb))
           try (have HVm := Lib.hid (HVm.out.ext hb))
           try (have HSt := Lib.hid (own_ext HSt.out hb))
           clear hW hb hR
           refine hK.out _ _ ?_ (fun hHeld => ?_)
           · (first | exact ⟨(HX.out.cell 0).trans rfl, (HX.out.cell 1).trans rfl⟩ | go_keep)
           clear hK K
           try simp only [Act.put, List.setIfInBounds_toArray, List.set_cons_zero, List.set_cons_succ]
           refine wpAnyH_ready (rs := [4]) (by kernel_rfl) (by simp) ?_
           refine AllReadyH.cons (o := ⟨some 26, .call { callee := .value (.func 19), args := #[.tmp 25], argTypes := #[24] }, 50, "sched.go:37", #[⟨3, .data⟩, ⟨2, .chain⟩], none⟩) rfl (fun K hK => ?_) ?_
           ·
             go_simp
             go_at_call 19
             refine (states_c B p A c _ (HO.out.ext HC.out) (by have := HC.out.size; omega) HCk.out).mono ?_
             rintro e wS ⟨sA, sc, rfl, hown, hb⟩
             have hszS := hb.size
             have HC := Lib.hid (ext_trans HC.out hb)
             have HX := Lib.hid (HX.out.ext hb)
             have HSt := Lib.hid hown
             have HStb := Lib.hid hszS
             have HStL := Lib.hid hown.lt
             try (have HHm := Lib.hid (HHm.out.ext hb))
             try (have HVm := Lib.hid (HVm.out.ext hb))
             try (have HWy := Lib.hid (HWy.out.ext hb))
             clear hown hb
             refine hK.out _ _ ?_ (fun hHeld => ?_)
             · (first | exact ⟨(HX.out.cell 0).trans rfl, (HX.out.cell 1).trans rfl⟩ | go_keep)
             clear hK K
             try simp only [Act.put, List.setIfInBounds_toArray, List.set_cons_zero, List.set_cons_succ]
             refine wpAnyH_take (i := 8) (oi := ⟨some 30, .build 112 #[(0, .tmp 22), (1, .tmp 24), (2, .tmp 26), (3, .tmp 27), (4, .tmp 28), (5, .tmp 29)], 112, "sched.go:37", #[⟨0, .data⟩, ⟨2, .data⟩, ⟨4, .data⟩, ⟨5, .data⟩, ⟨6, .data⟩, ⟨7, .data⟩], none⟩) (v := ?v1z8x11) rfl (by kernel_rfl) (by kernel_rfl) (by kernel_rfl) (fun _ _ _ h => h) (Or.inl ⟨by rfl, ?hy1z8x11⟩) (by assumption) ?rest1z8x11
             case hy1z8x11 => (intro w hSw; (try dsimp only at hSw); go_simp; try (with_reducible rfl))
             simp only [Act.put, List.setIfInBounds_toArray, List.set_cons_zero, List.set_cons_succ]
             refine wpAnyH_ready (rs := [9]) (by kernel_rfl) (by simp) ?_
             refine AllReadyH.cons (o := ⟨some 31, .box 112 (.tmp 30), 26, "sched.go:37", #[⟨8, .data⟩], none⟩) rfl (fun K hK => ?_) ?_
             ·
               go_simp
               refine hK.out _ _ ?_ (fun hHeld => ?_)
               · (first | exact ⟨(HX.out.cell 0).trans rfl, (HX.out.cell 1).trans rfl⟩ | go_keep)
               clear hK K
               try simp only [Act.put, List.setIfInBounds_toArray, List.set_cons_zero, List.set_cons_succ]
               refine wpAnyH_take (i := 10) (oi := ⟨some 4, .assign (.tmp 31), 26, "sched.go:37", #[⟨9, .data⟩, ⟨4, .chain⟩, ⟨0, .phase⟩, ⟨1, .phase⟩, ⟨2, .phase⟩, ⟨3, .phase⟩, ⟨4, .phase⟩, ⟨5, .phase⟩, ⟨6, .phase⟩, ⟨7, .phase⟩, ⟨8, .phase⟩, ⟨9, .phase⟩], none⟩) (v := ?v1z10x11) rfl (by kernel_rfl) (by kernel_rfl) (by kernel_rfl) (fun _ _ _ h => h) (Or.inl ⟨by rfl, ?hy1z10x11⟩) (by assumption) ?rest1z10x11
               case hy1z10x11 => (intro w hSw; (try dsimp only at hSw); go_simp; try (with_reducible rfl))
               simp only [Act.put, List.setIfInBounds_toArray, List.set_cons_zero, List.set_cons_succ]
               refine wpAnyH_take (i := 11) (oi := ⟨some 5, .assign (.const .nilIface), 28, "sched.go:37", #[⟨10, .chain⟩, ⟨0, .phase⟩, ⟨1, .phase⟩, ⟨2, .phase⟩, ⟨3, .phase⟩, ⟨4, .phase⟩, ⟨5, .phase⟩, ⟨6, .phase⟩, ⟨7, .phase⟩, ⟨8, .phase⟩, ⟨9, .phase⟩, ⟨10, .phase⟩], none⟩) (v := ?v1z11x11) rfl (by kernel_rfl) (by kernel_rfl) (by kernel_rfl) (fun _ _ _ h => h) (Or.inl ⟨by rfl, ?hy1z11x11⟩) (by assumption) ?rest1z11x11
               case hy1z11x11 => (intro w hSw; (try dsimp only at hSw); go_simp; try (with_reducible rfl))
               simp only [Act.put, List.setIfInBounds_toArray, List.set_cons_zero, List.set_cons_succ]
               refine wpAnyH_done (by kernel_rfl) ?_ _
               go_wp2_with fail
               go_ret2
               have e1 := HbH.out
               have e2 := HbV.out
               have e3 := HsH.out
               have e4 := HsV.out
               have e5 := HStb.out
               exact snew_end HCk.out ⟨he1, he8⟩ HC.out HWy.out HSt.out HHm.out HVm.out (by omega) (fun k hk => by have a1 := HRw.out k hk; omega) (fun hk => by have a1 := HRw.out _ hk; have a2 := (HWb.out _ hk).2; omega) (fun hk => by have a1 := HRw.out _ hk; have a2 := (HWb.out _ hk).2; omega) (by omega) (by omega) (by omega) hB (fun k hk hr => by have a1 := HRw.out k hr; have a2 := (HWb.out k hr).2; have a3 := HStL.out k hk; omega)
             exact AllReadyH.nil
           exact AllReadyH.nil
         exact AllReadyH.nil
       exact AllReadyH.nil
     exact AllReadyH.nil
end Go.Proofs.YtapjhliglmohgaaGreatDoor
