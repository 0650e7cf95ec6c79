/- SchedB, SchedC, SchedD: laid together. -/
import Derived.Test.YtapjhliglmohgaaGreatDoorPwJ
/- Who holds what: right of the program. (Printed by mkright.py.) -/
namespace Go.Proofs.YtapjhliglmohgaaGreatDoor
open Go.RowKit Go.Sort
def rightB (p : PlanD) (x : Id3) : Bool := hasB p x && (keptAt p.ops x.s.toNat && decide (x.b ≤ 60))
theorem hasB_spec {p : PlanD} {x : Id3} (h : hasB p x = true) : 1 ≤ x.b ∧ ∃ s q : Nat, x.s = (s : Nat) ∧ x.p = (q : Nat) ∧ s < p.ops.length ∧ (q : Int) < p.parts := by
 unfold hasB at h
 simp only [Bool.and_eq_true, decide_eq_true_eq] at h
 obtain ⟨h1, h2, h3, h4, h5⟩ := h
 exact ⟨h1, x.s.toNat, x.p.toNat, by omega, by omega, by omega, by omega⟩
section
variable {B sb : Nat} {R : Nat → Prop} {p : PlanD} {A : Option Addr} {c : Nat} {s : SchedD}
set_option maxRecDepth 100000 in
set_option maxHeartbeats 8000000 in
theorem sright_c (x : Id3) (w : World) (h : SchedIs B sb R p A c s w) : Calls Tryz.prog 59 #[.pointer (some ⟨sb, 0, none⟩), idV x] w (BoolPost w (rightB p x)) := by
 obtain ⟨X, h⟩ := h
 have hp := shaped_check h.plan
 have HP := Lib.hid hp
 obtain ⟨xb, xs, xp⟩ := x
 obtain ⟨W, hW⟩ : ∃ W, W = w.alloc (.cells #[.int .i64 xb, .int .i64 xs, .int .i64 xp] 35 (0, 0)) := ⟨_, rfl⟩
 have HBW := Lib.hid (show Below w.heap.size w W from by rw [hW]; exact ext_alloc (Below.refl _ _) _)
 have HXW := Lib.hid (show Bk W w.heap.size 35 #[.int .i64 xb, .int .i64 xs, .int .i64 xp] from by rw [hW]; exact Bk.new _ _ _)
 have H := Lib.hid (h.ext HBW.out)
 have HWW := Lib.hid hW
 clear h hp hW
 obtain ⟨mb, es, hY⟩ := H.out.ways
 have HY := Lib.hid hY
 clear hY
 have c0 : W.cell? ⟨w.heap.size, 0, none⟩ = some (.int .i64 xb) := (HXW.out.cell 0).trans rfl
 have c1 : W.cell? ⟨w.heap.size, 1, none⟩ = some (.int .i64 xs) := (HXW.out.cell 1).trans rfl
 have c2 : W.cell? ⟨w.heap.size, 2, none⟩ = some (.int .i64 xp) := (HXW.out.cell 2).trans rfl
 have c3 : W.cell? ⟨sb, 2, none⟩ = some (.pointer (some ⟨X.wyb, 0, none⟩)) := (H.out.bk.cell 2).trans rfl
 have c4 : W.cell? ⟨X.wyb, 0, none⟩ = some (.slice X.K p.ops.length X.kc) := (HY.out.bk.cell 0).trans rfl
 have l0 := HXW.out.lt
 have l1 := H.out.bk.lt
 have l2 := HY.out.bk.lt
 cases hh : hasB p ⟨xb, xs, xp⟩ with
 | false =>
   have HH := Lib.hid hh
   have HV := Lib.hid (show rightB p ⟨xb, xs, xp⟩ = false from by unfold rightB; rw [hh]; rfl)
   clear hh
   go_enter Tryz.func59, Tryz.ntmps59
   go_wp2_with fail
   rw [← HWW.out]
   refine wp_region_held_drew (S := (fun w' => w'.cell? ⟨w.heap.size, 0, none⟩ = some (.int .i64 xb) ∧ w'.cell? ⟨w.heap.size, 1, none⟩ = some (.int .i64 xs) ∧ w'.cell? ⟨w.heap.size, 2, none⟩ = some (.int .i64 xp) ∧ w'.cell? ⟨sb, 2, none⟩ = some (.pointer (some ⟨X.wyb, 0, none⟩)) ∧ w'.cell? ⟨X.wyb, 0, none⟩ = some (.slice X.K p.ops.length X.kc))) (by kernel_rfl) ?_ (fun hHeld => ?_)
   · (first | exact ⟨q0, q1, q2, q3, q4⟩ | exact ⟨c0, c1, c2, c3, c4⟩ | go_keep)
   refine wpAnyH_take (i := 0) (oi := ⟨some 5, .move (.tmp 0), 26, "sched.go:42", #[], none⟩) (v := ?v1z0) rfl (by kernel_rfl) (by kernel_rfl) (by kernel_rfl) (fun _ _ _ h => h) (Or.inl ⟨by rfl, ?hy1z0⟩) (by assumption) ?rest1z0
   case hy1z0 => (intro w hSw; (try dsimp only at hSw); go_simp; try (with_reducible rfl))
   simp only [Act.put, List.setIfInBounds_toArray, List.set_cons_zero, List.set_cons_succ]
   refine wpAnyH_take (i := 1) (oi := ⟨some 6, .nilCheck (.tmp 5), 0, "sched.go:42", #[⟨0, .data⟩], none⟩) (v := ?v1z1) rfl (by kernel_rfl) (by kernel_rfl) (by kernel_rfl) (fun _ _ _ h => h) (Or.inl ⟨by rfl, ?hy1z1⟩) (by assumption) ?rest1z1
   case hy1z1 => (intro w hSw; (try dsimp only at hSw); go_simp; try (with_reducible rfl))
   simp only [Act.put, List.setIfInBounds_toArray, List.set_cons_zero, List.set_cons_succ]
   refine wpAnyH_take (i := 2) (oi := ⟨some 7, .fieldAddr 112 (.tmp 6) 1, 0, "sched.go:42", #[⟨1, .data⟩], none⟩) (v := ?v1z2) rfl (by kernel_rfl) (by kernel_rfl) (by kernel_rfl) (fun _ _ _ h => h) (Or.inl ⟨by rfl, ?hy1z2⟩) (by assumption) ?rest1z2
   case hy1z2 => (intro w hSw; (try dsimp only at hSw); go_simp; try (with_reducible rfl))
   simp only [Act.put, List.setIfInBounds_toArray, List.set_cons_zero, List.set_cons_succ]
   refine wpAnyH_take (i := 3) (oi := ⟨some 8, .load 107 (.tmp 7), 107, "sched.go:42", #[⟨2, .data⟩], none⟩) (v := ?v1z3) rfl (by kernel_rfl) (by kernel_rfl) (by kernel_rfl) (fun _ _ _ h => h) (Or.inl ⟨by rfl, ?hy1z3⟩) (by assumption) ?rest1z3
   case hy1z3 => (intro w hSw; (try dsimp only at hSw); go_simp; try (with_reducible rfl))
   simp only [Act.put, List.setIfInBounds_toArray, List.set_cons_zero, List.set_cons_succ]
   refine wpAnyH_take (i := 4) (oi := ⟨some 9, .load 35 (.tmp 3), 35, "sched.go:42", #[], none⟩) (v := ?v1z4) rfl (by kernel_rfl) (by kernel_rfl) (by kernel_rfl) (fun _ _ _ h => h) (Or.inl ⟨by rfl, ?hy1z4⟩) (by assumption) ?rest1z4
   case hy1z4 => (intro w hSw; (try dsimp only at hSw); go_simp; try (with_reducible rfl))
   simp only [Act.put, List.setIfInBounds_toArray, List.set_cons_zero, List.set_cons_succ]
   refine wpAnyH_ready (rs := [5]) (by kernel_rfl) (by simp) ?_
   refine AllReadyH.cons (o := ⟨some 10, .call { callee := .value (.func 112), args := #[.tmp 8, .tmp 9], argTypes := #[107, 35] }, 4, "sched.go:42", #[⟨3, .data⟩, ⟨4, .data⟩], none⟩) rfl (fun K hK => ?_) ?_
   ·
     go_simp
     go_at_call 112
     refine (has_c B X.wyb X.Rw p A X.K c X.kc ⟨xb, xs, xp⟩ _ (H.out.ways.ext (below_drewN (Below.refl _ _) 1)) HP.out).mono ?_
     rw [HH.out]
     rintro e w1 ⟨rfl, hb⟩
     have HB1 := Lib.hid (show Below W.heap.size W w1 from ext_trans (below_drewN (Below.refl _ _) 1) hb)
     have q0 := (World.cell?_of_block (a := ⟨w.heap.size, 0, none⟩) (HB1.out.block _ l0)).trans c0
     have q1 := (World.cell?_of_block (a := ⟨w.heap.size, 1, none⟩) (HB1.out.block _ l0)).trans c1
     have q2 := (World.cell?_of_block (a := ⟨w.heap.size, 2, none⟩) (HB1.out.block _ l0)).trans c2
     have q3 := (World.cell?_of_block (a := ⟨sb, 2, none⟩) (HB1.out.block _ l1)).trans c3
     have q4 := (World.cell?_of_block (a := ⟨X.wyb, 0, none⟩) (HB1.out.block _ l2)).trans c4
     clear hb
     refine hK.out _ _ ?_ (fun hHeld => ?_)
     · (first | exact ⟨q0, q1, q2, q3, q4⟩ | exact ⟨c0, c1, c2, c3, c4⟩ | go_keep)
     clear hK K
     try simp only [Act.put, List.setIfInBounds_toArray, List.set_cons_zero, List.set_cons_succ]
     refine wpAnyH_take (i := 6) (oi := ⟨some 11, .move (.tmp 10), 4, "sched.go:42", #[⟨5, .data⟩, ⟨5, .chain⟩], none⟩) (v := ?v1z6) rfl (by kernel_rfl) (by kernel_rfl) (by kernel_rfl) (fun _ _ _ h => h) (Or.inl ⟨by rfl, ?hy1z6⟩) (by assumption) ?rest1z6
     case hy1z6 => (intro w hSw; (try dsimp only at hSw); go_simp; try (with_reducible rfl))
     simp only [Act.put, List.setIfInBounds_toArray, List.set_cons_zero, List.set_cons_succ]
     refine wpAnyH_take (i := 7) (oi := ⟨some 12, .move (.tmp 0), 26, "sched.go:42", #[⟨6, .guard⟩], some (6, true)⟩) (v := undef) rfl (by kernel_rfl) (by kernel_rfl) (by kernel_rfl) (fun _ _ _ h => h) (Or.inr ⟨by rfl, rfl⟩) (by assumption) ?_
     simp only [Act.put, List.setIfInBounds_toArray, List.set_cons_zero, List.set_cons_succ]
     refine wpAnyH_take (i := 8) (oi := ⟨some 13, .nilCheck (.tmp 12), 0, "sched.go:42", #[⟨7, .data⟩, ⟨6, .guard⟩], some (6, true)⟩) (v := undef) rfl (by kernel_rfl) (by kernel_rfl) (by kernel_rfl) (fun _ _ _ h => h) (Or.inr ⟨by rfl, rfl⟩) (by assumption) ?_
     simp only [Act.put, List.setIfInBounds_toArray, List.set_cons_zero, List.set_cons_succ]
     refine wpAnyH_take (i := 9) (oi := ⟨some 14, .fieldAddr 112 (.tmp 13) 1, 0, "sched.go:42", #[⟨8, .data⟩, ⟨6, .guard⟩], some (6, true)⟩) (v := undef) rfl (by kernel_rfl) (by kernel_rfl) (by kernel_rfl) (fun _ _ _ h => h) (Or.inr ⟨by rfl, rfl⟩) (by assumption) ?_
     simp only [Act.put, List.setIfInBounds_toArray, List.set_cons_zero, List.set_cons_succ]
     refine wpAnyH_take (i := 10) (oi := ⟨some 15, .load 107 (.tmp 14), 107, "sched.go:42", #[⟨9, .data⟩, ⟨6, .guard⟩], some (6, true)⟩) (v := undef) rfl (by kernel_rfl) (by kernel_rfl) (by kernel_rfl) (fun _ _ _ h => h) (Or.inr ⟨by rfl, rfl⟩) (by assumption) ?_
     simp only [Act.put, List.setIfInBounds_toArray, List.set_cons_zero, List.set_cons_succ]
     refine wpAnyH_take (i := 11) (oi := ⟨some 16, .nilCheck (.tmp 15), 0, "sched.go:42", #[⟨10, .data⟩, ⟨6, .guard⟩], some (6, true)⟩) (v := undef) rfl (by kernel_rfl) (by kernel_rfl) (by kernel_rfl) (fun _ _ _ h => h) (Or.inr ⟨by rfl, rfl⟩) (by assumption) ?_
     simp only [Act.put, List.setIfInBounds_toArray, List.set_cons_zero, List.set_cons_succ]
     refine wpAnyH_take (i := 12) (oi := ⟨some 17, .fieldAddr 174 (.tmp 16) 0, 0, "sched.go:42", #[⟨11, .data⟩, ⟨6, .guard⟩], some (6, true)⟩) (v := undef) rfl (by kernel_rfl) (by kernel_rfl) (by kernel_rfl) (fun _ _ _ h => h) (Or.inr ⟨by rfl, rfl⟩) (by assumption) ?_
     simp only [Act.put, List.setIfInBounds_toArray, List.set_cons_zero, List.set_cons_succ]
     refine wpAnyH_take (i := 13) (oi := ⟨some 18, .load 139 (.tmp 17), 139, "sched.go:42", #[⟨12, .data⟩, ⟨6, .guard⟩], some (6, true)⟩) (v := undef) rfl (by kernel_rfl) (by kernel_rfl) (by kernel_rfl) (fun _ _ _ h => h) (Or.inr ⟨by rfl, rfl⟩) (by assumption) ?_
     simp only [Act.put, List.setIfInBounds_toArray, List.set_cons_zero, List.set_cons_succ]
     refine wpAnyH_take (i := 14) (oi := ⟨some 19, .fieldAddr 35 (.tmp 3) 1, 0, "sched.go:42", #[⟨6, .guard⟩], some (6, true)⟩) (v := undef) rfl (by kernel_rfl) (by kernel_rfl) (by kernel_rfl) (fun _ _ _ h => h) (Or.inr ⟨by rfl, rfl⟩) (by assumption) ?_
     simp only [Act.put, List.setIfInBounds_toArray, List.set_cons_zero, List.set_cons_succ]
     refine wpAnyH_take (i := 15) (oi := ⟨some 20, .load 3 (.tmp 19), 3, "sched.go:42", #[⟨14, .data⟩, ⟨6, .guard⟩], some (6, true)⟩) (v := undef) rfl (by kernel_rfl) (by kernel_rfl) (by kernel_rfl) (fun _ _ _ h => h) (Or.inr ⟨by rfl, rfl⟩) (by assumption) ?_
     simp only [Act.put, List.setIfInBounds_toArray, List.set_cons_zero, List.set_cons_succ]
     refine wpAnyH_take (i := 16) (oi := ⟨some 21, .indexAddr 139 (.tmp 18) (.tmp 20), 0, "sched.go:42", #[⟨13, .data⟩, ⟨15, .data⟩, ⟨6, .guard⟩], some (6, true)⟩) (v := undef) rfl (by kernel_rfl) (by kernel_rfl) (by kernel_rfl) (fun _ _ _ h => h) (Or.inr ⟨by rfl, rfl⟩) (by assumption) ?_
     simp only [Act.put, List.setIfInBounds_toArray, List.set_cons_zero, List.set_cons_succ]
     refine wpAnyH_take (i := 17) (oi := ⟨some 22, .load 4 (.tmp 21), 4, "sched.go:42", #[⟨16, .data⟩, ⟨6, .guard⟩], some (6, true)⟩) (v := undef) rfl (by kernel_rfl) (by kernel_rfl) (by kernel_rfl) (fun _ _ _ h => h) (Or.inr ⟨by rfl, rfl⟩) (by assumption) ?_
     simp only [Act.put, List.setIfInBounds_toArray, List.set_cons_zero, List.set_cons_succ]
     refine wpAnyH_take (i := 18) (oi := ⟨some 23, .pick (.tmp 11) (.tmp 22) (.const (.bool false)), 4, "sched.go:42", #[⟨6, .data⟩, ⟨17, .data⟩], none⟩) (v := ?v1z18) rfl (by kernel_rfl) (by kernel_rfl) (by kernel_rfl) (fun _ _ _ h => h) (Or.inl ⟨by rfl, ?hy1z18⟩) (by assumption) ?rest1z18
     case hy1z18 => (intro w hSw; (try dsimp only at hSw); go_simp; try (with_reducible rfl))
     simp only [Act.put, List.setIfInBounds_toArray, List.set_cons_zero, List.set_cons_succ]
     refine wpAnyH_take (i := 19) (oi := ⟨some 24, .move (.tmp 23), 4, "sched.go:42", #[⟨18, .data⟩, ⟨6, .chain⟩], none⟩) (v := ?v1z19) rfl (by kernel_rfl) (by kernel_rfl) (by kernel_rfl) (fun _ _ _ h => h) (Or.inl ⟨by rfl, ?hy1z19⟩) (by assumption) ?rest1z19
     case hy1z19 => (intro w hSw; (try dsimp only at hSw); go_simp; try (with_reducible rfl))
     simp only [Act.put, List.setIfInBounds_toArray, List.set_cons_zero, List.set_cons_succ]
     refine wpAnyH_take (i := 20) (oi := ⟨some 25, .fieldAddr 35 (.tmp 3) 0, 0, "sched.go:42", #[⟨19, .guard⟩], some (19, true)⟩) (v := undef) rfl (by kernel_rfl) (by kernel_rfl) (by kernel_rfl) (fun _ _ _ h => h) (Or.inr ⟨by rfl, rfl⟩) (by assumption) ?_
     simp only [Act.put, List.setIfInBounds_toArray, List.set_cons_zero, List.set_cons_succ]
     refine wpAnyH_take (i := 21) (oi := ⟨some 26, .load 3 (.tmp 25), 3, "sched.go:42", #[⟨20, .data⟩, ⟨19, .guard⟩], some (19, true)⟩) (v := undef) rfl (by kernel_rfl) (by kernel_rfl) (by kernel_rfl) (fun _ _ _ h => h) (Or.inr ⟨by rfl, rfl⟩) (by assumption) ?_
     simp only [Act.put, List.setIfInBounds_toArray, List.set_cons_zero, List.set_cons_succ]
     refine wpAnyH_take (i := 22) (oi := ⟨some 27, .binOp .leq 3 (.tmp 26) (.const (.int .i64 60)) 3, 4, "sched.go:42", #[⟨21, .data⟩, ⟨19, .guard⟩], some (19, true)⟩) (v := undef) rfl (by kernel_rfl) (by kernel_rfl) (by kernel_rfl) (fun _ _ _ h => h) (Or.inr ⟨by rfl, rfl⟩) (by assumption) ?_
     simp only [Act.put, List.setIfInBounds_toArray, List.set_cons_zero, List.set_cons_succ]
     refine wpAnyH_take (i := 23) (oi := ⟨some 28, .pick (.tmp 24) (.tmp 27) (.const (.bool false)), 4, "sched.go:42", #[⟨19, .data⟩, ⟨22, .data⟩], none⟩) (v := ?v1z23) rfl (by kernel_rfl) (by kernel_rfl) (by kernel_rfl) (fun _ _ _ h => h) (Or.inl ⟨by rfl, ?hy1z23⟩) (by assumption) ?rest1z23
     case hy1z23 => (intro w hSw; (try dsimp only at hSw); go_simp; try (with_reducible rfl))
     simp only [Act.put, List.setIfInBounds_toArray, List.set_cons_zero, List.set_cons_succ]
     refine wpAnyH_take (i := 24) (oi := ⟨some 4, .assign (.tmp 28), 4, "sched.go:42", #[⟨23, .data⟩, ⟨19, .chain⟩, ⟨0, .phase⟩, ⟨1, .phase⟩, ⟨2, .phase⟩, ⟨3, .phase⟩, ⟨4, .phase⟩, ⟨5, .phase⟩, ⟨6, .phase⟩, ⟨7, .phase⟩, ⟨8, .phase⟩, ⟨9, .phase⟩, ⟨10, .phase⟩, ⟨11, .phase⟩, ⟨12, .phase⟩, ⟨13, .phase⟩, ⟨14, .phase⟩, ⟨15, .phase⟩, ⟨16, .phase⟩, ⟨17, .phase⟩, ⟨18, .phase⟩, ⟨19, .phase⟩, ⟨20, .phase⟩, ⟨21, .phase⟩, ⟨22, .phase⟩, ⟨23, .phase⟩], none⟩) (v := ?v1z24) rfl (by kernel_rfl) (by kernel_rfl) (by kernel_rfl) (fun _ _ _ h => h) (Or.inl ⟨by rfl, ?hy1z24⟩) (by assumption) ?rest1z24
     case hy1z24 => (intro w hSw; (try dsimp only at hSw); go_simp; try (with_reducible rfl))
     simp only [Act.put, List.setIfInBounds_toArray, List.set_cons_zero, List.set_cons_succ]
     refine wpAnyH_done (by kernel_rfl) ?_ _
     go_wp2_with fail
     go_ret
     rw [HV.out]
     exact ⟨rfl, ext_trans HBW.out HB1.out⟩
   exact AllReadyH.nil
 | true =>
   have HH := Lib.hid hh
   obtain ⟨hb1, s', q', hs', hq', hsl, hql⟩ := hasB_spec hh
   simp only at hs' hq' hb1
   subst hs' hq'
   obtain ⟨kad, hkad, hkc⟩ := HY.out.kept.cell (by omega)
   have c5 := hkc s' (.bool (keptAt p.ops s')) (by unfold boolsC; rw [List.getElem?_map, keptL_get hsl]; rfl)
   have l3 := World.block_lt_of_cell? W _ c5
   rw [hkad] at c4
   have HVE := Lib.hid (show rightB p ⟨xb, (s' : Nat), (q' : Nat)⟩ = (keptAt p.ops s' && decide (xb ≤ 60)) from by unfold rightB; rw [hh]; simp)
   have hsI : (s' : Int) < (p.ops.length : Nat) := by omega
   clear hh hkc
   cases hk : keptAt p.ops s' with
   | false =>
     rw [hk] at c5
     have HV := Lib.hid (show rightB p ⟨xb, (s' : Nat), (q' : Nat)⟩ = false from by rw [HVE.out, hk]; rfl)
     clear hk
     go_enter Tryz.func59, Tryz.ntmps59
     go_wp2_with fail
     rw [← HWW.out]
     refine wp_region_held_drew (S := (fun w' => w'.cell? ⟨w.heap.size, 0, none⟩ = some (.int .i64 xb) ∧ w'.cell? ⟨w.heap.size, 1, none⟩ = some (.int .i64 (s' : Nat)) ∧ w'.cell? ⟨w.heap.size, 2, none⟩ = some (.int .i64 (q' : Nat)) ∧ w'.cell? ⟨sb, 2, none⟩ = some (.pointer (some ⟨X.wyb, 0, none⟩)) ∧ w'.cell? ⟨X.wyb, 0, none⟩ = some (.slice (some kad) p.ops.length X.kc) ∧ w'.cell? (kad.add s') = some (.bool false))) (by kernel_rfl) ?_ (fun hHeld => ?_)
     · (first | exact ⟨q0, q1, q2, q3, q4, q5⟩ | exact ⟨c0, c1, c2, c3, c4, c5⟩ | go_keep)
     refine wpAnyH_take (i := 0) (oi := ⟨some 5, .move (.tmp 0), 26, "sched.go:42", #[], none⟩) (v := ?v2z0) rfl (by kernel_rfl) (by kernel_rfl) (by kernel_rfl) (fun _ _ _ h => h) (Or.inl ⟨by rfl, ?hy2z0⟩) (by assumption) ?rest2z0
     case hy2z0 => (intro w hSw; (try dsimp only at hSw); go_simp; try (with_reducible rfl))
     simp only [Act.put, List.setIfInBounds_toArray, List.set_cons_zero, List.set_cons_succ]
     refine wpAnyH_take (i := 1) (oi := ⟨some 6, .nilCheck (.tmp 5), 0, "sched.go:42", #[⟨0, .data⟩], none⟩) (v := ?v2z1) rfl (by kernel_rfl) (by kernel_rfl) (by kernel_rfl) (fun _ _ _ h => h) (Or.inl ⟨by rfl, ?hy2z1⟩) (by assumption) ?rest2z1
     case hy2z1 => (intro w hSw; (try dsimp only at hSw); go_simp; try (with_reducible rfl))
     simp only [Act.put, List.setIfInBounds_toArray, List.set_cons_zero, List.set_cons_succ]
     refine wpAnyH_take (i := 2) (oi := ⟨some 7, .fieldAddr 112 (.tmp 6) 1, 0, "sched.go:42", #[⟨1, .data⟩], none⟩) (v := ?v2z2) rfl (by kernel_rfl) (by kernel_rfl) (by kernel_rfl) (fun _ _ _ h => h) (Or.inl ⟨by rfl, ?hy2z2⟩) (by assumption) ?rest2z2
     case hy2z2 => (intro w hSw; (try dsimp only at hSw); go_simp; try (with_reducible rfl))
     simp only [Act.put, List.setIfInBounds_toArray, List.set_cons_zero, List.set_cons_succ]
     refine wpAnyH_take (i := 3) (oi := ⟨some 8, .load 107 (.tmp 7), 107, "sched.go:42", #[⟨2, .data⟩], none⟩) (v := ?v2z3) rfl (by kernel_rfl) (by kernel_rfl) (by kernel_rfl) (fun _ _ _ h => h) (Or.inl ⟨by rfl, ?hy2z3⟩) (by assumption) ?rest2z3
     case hy2z3 => (intro w hSw; (try dsimp only at hSw); go_simp; try (with_reducible rfl))
     simp only [Act.put, List.setIfInBounds_toArray, List.set_cons_zero, List.set_cons_succ]
     refine wpAnyH_take (i := 4) (oi := ⟨some 9, .load 35 (.tmp 3), 35, "sched.go:42", #[], none⟩) (v := ?v2z4) rfl (by kernel_rfl) (by kernel_rfl) (by kernel_rfl) (fun _ _ _ h => h) (Or.inl ⟨by rfl, ?hy2z4⟩) (by assumption) ?rest2z4
     case hy2z4 => (intro w hSw; (try dsimp only at hSw); go_simp; try (with_reducible rfl))
     simp only [Act.put, List.setIfInBounds_toArray, List.set_cons_zero, List.set_cons_succ]
     refine wpAnyH_ready (rs := [5]) (by kernel_rfl) (by simp) ?_
     refine AllReadyH.cons (o := ⟨some 10, .call { callee := .value (.func 112), args := #[.tmp 8, .tmp 9], argTypes := #[107, 35] }, 4, "sched.go:42", #[⟨3, .data⟩, ⟨4, .data⟩], none⟩) rfl (fun K hK => ?_) ?_
     ·
       go_simp
       go_at_call 112
       refine (has_c B X.wyb X.Rw p A X.K c X.kc ⟨xb, (s' : Nat), (q' : Nat)⟩ _ (H.out.ways.ext (below_drewN (Below.refl _ _) 1)) HP.out).mono ?_
       rw [HH.out]
       rintro e w1 ⟨rfl, hb⟩
       have HB1 := Lib.hid (show Below W.heap.size W w1 from ext_trans (below_drewN (Below.refl _ _) 1) hb)
       have q0 := (World.cell?_of_block (a := ⟨w.heap.size, 0, none⟩) (HB1.out.block _ l0)).trans c0
       have q1 := (World.cell?_of_block (a := ⟨w.heap.size, 1, none⟩) (HB1.out.block _ l0)).trans c1
       have q2 := (World.cell?_of_block (a := ⟨w.heap.size, 2, none⟩) (HB1.out.block _ l0)).trans c2
       have q3 := (World.cell?_of_block (a := ⟨sb, 2, none⟩) (HB1.out.block _ l1)).trans c3
       have q4 := (World.cell?_of_block (a := ⟨X.wyb, 0, none⟩) (HB1.out.block _ l2)).trans c4
       have q5 := (World.cell?_of_block (a := kad.add s') (HB1.out.block _ l3)).trans c5
       clear hb
       refine hK.out _ _ ?_ (fun hHeld => ?_)
       · (first | exact ⟨q0, q1, q2, q3, q4, q5⟩ | exact ⟨c0, c1, c2, c3, c4, c5⟩ | go_keep)
       clear hK K
       try simp only [Act.put, List.setIfInBounds_toArray, List.set_cons_zero, List.set_cons_succ]
       refine wpAnyH_take (i := 6) (oi := ⟨some 11, .move (.tmp 10), 4, "sched.go:42", #[⟨5, .data⟩, ⟨5, .chain⟩], none⟩) (v := ?v2z6) rfl (by kernel_rfl) (by kernel_rfl) (by kernel_rfl) (fun _ _ _ h => h) (Or.inl ⟨by rfl, ?hy2z6⟩) (by assumption) ?rest2z6
       case hy2z6 => (intro w hSw; (try dsimp only at hSw); go_simp; try (with_reducible rfl))
       simp only [Act.put, List.setIfInBounds_toArray, List.set_cons_zero, List.set_cons_succ]
       refine wpAnyH_take (i := 7) (oi := ⟨some 12, .move (.tmp 0), 26, "sched.go:42", #[⟨6, .guard⟩], some (6, true)⟩) (v := ?v2z7) rfl (by kernel_rfl) (by kernel_rfl) (by kernel_rfl) (fun _ _ _ h => h) (Or.inl ⟨by rfl, ?hy2z7⟩) (by assumption) ?rest2z7
       case hy2z7 => (intro w hSw; (try dsimp only at hSw); go_simp; try (with_reducible rfl))
       simp only [Act.put, List.setIfInBounds_toArray, List.set_cons_zero, List.set_cons_succ]
       refine wpAnyH_take (i := 8) (oi := ⟨some 13, .nilCheck (.tmp 12), 0, "sched.go:42", #[⟨7, .data⟩, ⟨6, .guard⟩], some (6, true)⟩) (v := ?v2z8) rfl (by kernel_rfl) (by kernel_rfl) (by kernel_rfl) (fun _ _ _ h => h) (Or.inl ⟨by rfl, ?hy2z8⟩) (by assumption) ?rest2z8
       case hy2z8 => (intro w hSw; (try dsimp only at hSw); go_simp; try (with_reducible rfl))
       simp only [Act.put, List.setIfInBounds_toArray, List.set_cons_zero, List.set_cons_succ]
       refine wpAnyH_take (i := 9) (oi := ⟨some 14, .fieldAddr 112 (.tmp 13) 1, 0, "sched.go:42", #[⟨8, .data⟩, ⟨6, .guard⟩], some (6, true)⟩) (v := ?v2z9) rfl (by kernel_rfl) (by kernel_rfl) (by kernel_rfl) (fun _ _ _ h => h) (Or.inl ⟨by rfl, ?hy2z9⟩) (by assumption) ?rest2z9
       case hy2z9 => (intro w hSw; (try dsimp only at hSw); go_simp; try (with_reducible rfl))
       simp only [Act.put, List.setIfInBounds_toArray, List.set_cons_zero, List.set_cons_succ]
       refine wpAnyH_take (i := 10) (oi := ⟨some 15, .load 107 (.tmp 14), 107, "sched.go:42", #[⟨9, .data⟩, ⟨6, .guard⟩], some (6, true)⟩) (v := ?v2z10) rfl (by kernel_rfl) (by kernel_rfl) (by kernel_rfl) (fun _ _ _ h => h) (Or.inl ⟨by rfl, ?hy2z10⟩) (by assumption) ?rest2z10
       case hy2z10 => (intro w hSw; (try dsimp only at hSw); go_simp; try (with_reducible rfl))
       simp only [Act.put, List.setIfInBounds_toArray, List.set_cons_zero, List.set_cons_succ]
       refine wpAnyH_take (i := 11) (oi := ⟨some 16, .nilCheck (.tmp 15), 0, "sched.go:42", #[⟨10, .data⟩, ⟨6, .guard⟩], some (6, true)⟩) (v := ?v2z11) rfl (by kernel_rfl) (by kernel_rfl) (by kernel_rfl) (fun _ _ _ h => h) (Or.inl ⟨by rfl, ?hy2z11⟩) (by assumption) ?rest2z11
       case hy2z11 => (intro w hSw; (try dsimp only at hSw); go_simp; try (with_reducible rfl))
       simp only [Act.put, List.setIfInBounds_toArray, List.set_cons_zero, List.set_cons_succ]
       refine wpAnyH_take (i := 12) (oi := ⟨some 17, .fieldAddr 174 (.tmp 16) 0, 0, "sched.go:42", #[⟨11, .data⟩, ⟨6, .guard⟩], some (6, true)⟩) (v := ?v2z12) rfl (by kernel_rfl) (by kernel_rfl) (by kernel_rfl) (fun _ _ _ h => h) (Or.inl ⟨by rfl, ?hy2z12⟩) (by assumption) ?rest2z12
       case hy2z12 => (intro w hSw; (try dsimp only at hSw); go_simp; try (with_reducible rfl))
       simp only [Act.put, List.setIfInBounds_toArray, List.set_cons_zero, List.set_cons_succ]
       refine wpAnyH_take (i := 13) (oi := ⟨some 18, .load 139 (.tmp 17), 139, "sched.go:42", #[⟨12, .data⟩, ⟨6, .guard⟩], some (6, true)⟩) (v := ?v2z13) rfl (by kernel_rfl) (by kernel_rfl) (by kernel_rfl) (fun _ _ _ h => h) (Or.inl ⟨by rfl, ?hy2z13⟩) (by assumption) ?rest2z13
       case hy2z13 => (intro w hSw; (try dsimp only at hSw); go_simp; try (with_reducible rfl))
       simp only [Act.put, List.setIfInBounds_toArray, List.set_cons_zero, List.set_cons_succ]
       refine wpAnyH_take (i := 14) (oi := ⟨some 19, .fieldAddr 35 (.tmp 3) 1, 0, "sched.go:42", #[⟨6, .guard⟩], some (6, true)⟩) (v := ?v2z14) rfl (by kernel_rfl) (by kernel_rfl) (by kernel_rfl) (fun _ _ _ h => h) (Or.inl ⟨by rfl, ?hy2z14⟩) (by assumption) ?rest2z14
       case hy2z14 => (intro w hSw; (try dsimp only at hSw); go_simp; try (with_reducible rfl))
       simp only [Act.put, List.setIfInBounds_toArray, List.set_cons_zero, List.set_cons_succ]
       refine wpAnyH_take (i := 15) (oi := ⟨some 20, .load 3 (.tmp 19), 3, "sched.go:42", #[⟨14, .data⟩, ⟨6, .guard⟩], some (6, true)⟩) (v := ?v2z15) rfl (by kernel_rfl) (by kernel_rfl) (by kernel_rfl) (fun _ _ _ h => h) (Or.inl ⟨by rfl, ?hy2z15⟩) (by assumption) ?rest2z15
       case hy2z15 => (intro w hSw; (try dsimp only at hSw); go_simp; try (with_reducible rfl))
       simp only [Act.put, List.setIfInBounds_toArray, List.set_cons_zero, List.set_cons_succ]
       refine wpAnyH_take (i := 16) (oi := ⟨some 21, .indexAddr 139 (.tmp 18) (.tmp 20), 0, "sched.go:42", #[⟨13, .data⟩, ⟨15, .data⟩, ⟨6, .guard⟩], some (6, true)⟩) (v := ?v2z16) rfl (by kernel_rfl) (by kernel_rfl) (by kernel_rfl) (fun _ _ _ h => h) (Or.inl ⟨by rfl, ?hy2z16⟩) (by assumption) ?rest2z16
       case hy2z16 => (intro w hSw; (try dsimp only at hSw); go_simp; try (with_reducible rfl))
       simp only [Act.put, List.setIfInBounds_toArray, List.set_cons_zero, List.set_cons_succ]
       refine wpAnyH_take (i := 17) (oi := ⟨some 22, .load 4 (.tmp 21), 4, "sched.go:42", #[⟨16, .data⟩, ⟨6, .guard⟩], some (6, true)⟩) (v := ?v2z17) rfl (by kernel_rfl) (by kernel_rfl) (by kernel_rfl) (fun _ _ _ h => h) (Or.inl ⟨by rfl, ?hy2z17⟩) (by assumption) ?rest2z17
       case hy2z17 => (intro w hSw; (try dsimp only at hSw); go_simp; try (with_reducible rfl))
       simp only [Act.put, List.setIfInBounds_toArray, List.set_cons_zero, List.set_cons_succ]
       refine wpAnyH_take (i := 18) (oi := ⟨some 23, .pick (.tmp 11) (.tmp 22) (.const (.bool false)), 4, "sched.go:42", #[⟨6, .data⟩, ⟨17, .data⟩], none⟩) (v := ?v2z18) rfl (by kernel_rfl) (by kernel_rfl) (by kernel_rfl) (fun _ _ _ h => h) (Or.inl ⟨by rfl, ?hy2z18⟩) (by assumption) ?rest2z18
       case hy2z18 => (intro w hSw; (try dsimp only at hSw); go_simp; try (with_reducible rfl))
       simp only [Act.put, List.setIfInBounds_toArray, List.set_cons_zero, List.set_cons_succ]
       refine wpAnyH_take (i := 19) (oi := ⟨some 24, .move (.tmp 23), 4, "sched.go:42", #[⟨18, .data⟩, ⟨6, .chain⟩], none⟩) (v := ?v2z19) rfl (by kernel_rfl) (by kernel_rfl) (by kernel_rfl) (fun _ _ _ h => h) (Or.inl ⟨by rfl, ?hy2z19⟩) (by assumption) ?rest2z19
       case hy2z19 => (intro w hSw; (try dsimp only at hSw); go_simp; try (with_reducible rfl))
       simp only [Act.put, List.setIfInBounds_toArray, List.set_cons_zero, List.set_cons_succ]
       refine wpAnyH_take (i := 20) (oi := ⟨some 25, .fieldAddr 35 (.tmp 3) 0, 0, "sched.go:42", #[⟨19, .guard⟩], some (19, true)⟩) (v := undef) rfl (by kernel_rfl) (by kernel_rfl) (by kernel_rfl) (fun _ _ _ h => h) (Or.inr ⟨by rfl, rfl⟩) (by assumption) ?_
       simp only [Act.put, List.setIfInBounds_toArray, List.set_cons_zero, List.set_cons_succ]
       refine wpAnyH_take (i := 21) (oi := ⟨some 26, .load 3 (.tmp 25), 3, "sched.go:42", #[⟨20, .data⟩, ⟨19, .guard⟩], some (19, true)⟩) (v := undef) rfl (by kernel_rfl) (by kernel_rfl) (by kernel_rfl) (fun _ _ _ h => h) (Or.inr ⟨by rfl, rfl⟩) (by assumption) ?_
       simp only [Act.put, List.setIfInBounds_toArray, List.set_cons_zero, List.set_cons_succ]
       refine wpAnyH_take (i := 22) (oi := ⟨some 27, .binOp .leq 3 (.tmp 26) (.const (.int .i64 60)) 3, 4, "sched.go:42", #[⟨21, .data⟩, ⟨19, .guard⟩], some (19, true)⟩) (v := undef) rfl (by kernel_rfl) (by kernel_rfl) (by kernel_rfl) (fun _ _ _ h => h) (Or.inr ⟨by rfl, rfl⟩) (by assumption) ?_
       simp only [Act.put, List.setIfInBounds_toArray, List.set_cons_zero, List.set_cons_succ]
       refine wpAnyH_take (i := 23) (oi := ⟨some 28, .pick (.tmp 24) (.tmp 27) (.const (.bool false)), 4, "sched.go:42", #[⟨19, .data⟩, ⟨22, .data⟩], none⟩) (v := ?v2z23) rfl (by kernel_rfl) (by kernel_rfl) (by kernel_rfl) (fun _ _ _ h => h) (Or.inl ⟨by rfl, ?hy2z23⟩) (by assumption) ?rest2z23
       case hy2z23 => (intro w hSw; (try dsimp only at hSw); go_simp; try (with_reducible rfl))
       simp only [Act.put, List.setIfInBounds_toArray, List.set_cons_zero, List.set_cons_succ]
       refine wpAnyH_take (i := 24) (oi := ⟨some 4, .assign (.tmp 28), 4, "sched.go:42", #[⟨23, .data⟩, ⟨19, .chain⟩, ⟨0, .phase⟩, ⟨1, .phase⟩, ⟨2, .phase⟩, ⟨3, .phase⟩, ⟨4, .phase⟩, ⟨5, .phase⟩, ⟨6, .phase⟩, ⟨7, .phase⟩, ⟨8, .phase⟩, ⟨9, .phase⟩, ⟨10, .phase⟩, ⟨11, .phase⟩, ⟨12, .phase⟩, ⟨13, .phase⟩, ⟨14, .phase⟩, ⟨15, .phase⟩, ⟨16, .phase⟩, ⟨17, .phase⟩, ⟨18, .phase⟩, ⟨19, .phase⟩, ⟨20, .phase⟩, ⟨21, .phase⟩, ⟨22, .phase⟩, ⟨23, .phase⟩], none⟩) (v := ?v2z24) rfl (by kernel_rfl) (by kernel_rfl) (by kernel_rfl) (fun _ _ _ h => h) (Or.inl ⟨by rfl, ?hy2z24⟩) (by assumption) ?rest2z24
       case hy2z24 => (intro w hSw; (try dsimp only at hSw); go_simp; try (with_reducible rfl))
       simp only [Act.put, List.setIfInBounds_toArray, List.set_cons_zero, List.set_cons_succ]
       refine wpAnyH_done (by kernel_rfl) ?_ _
       go_wp2_with fail
       go_ret
       rw [HV.out]
       exact ⟨rfl, ext_trans HBW.out HB1.out⟩
     exact AllReadyH.nil
   | true =>
     rw [hk] at c5
     obtain ⟨u, hu⟩ : ∃ u, u = decide (xb ≤ 60) := ⟨_, rfl⟩
     have HV := Lib.hid (show rightB p ⟨xb, (s' : Nat), (q' : Nat)⟩ = u from by rw [HVE.out, hk, hu]; rfl)
     have hu' : decide (xb ≤ 60) = u := hu.symm
     clear hk hu
     go_enter Tryz.func59, Tryz.ntmps59
     go_wp2_with fail
     rw [← HWW.out]
     refine wp_region_held_drew (S := (fun w' => w'.cell? ⟨w.heap.size, 0, none⟩ = some (.int .i64 xb) ∧ w'.cell? ⟨w.heap.size, 1, none⟩ = some (.int .i64 (s' : Nat)) ∧ w'.cell? ⟨w.heap.size, 2, none⟩ = some (.int .i64 (q' : Nat)) ∧ w'.cell? ⟨sb, 2, none⟩ = some (.pointer (some ⟨X.wyb, 0, none⟩)) ∧ w'.cell? ⟨X.wyb, 0, none⟩ = some (.slice (some kad) p.ops.length X.kc) ∧ w'.cell? (kad.add s') = some (.bool true))) (by kernel_rfl) ?_ (fun hHeld => ?_)
     · (first | exact ⟨q0, q1, q2, q3, q4, q5⟩ | exact ⟨c0, c1, c2, c3, c4, c5⟩ | go_keep)
     refine wpAnyH_take (i := 0) (oi := ⟨some 5, .move (.tmp 0), 26, "sched.go:42", #[], none⟩) (v := ?v3z0) rfl (by kernel_rfl) (by kernel_rfl) (by kernel_rfl) (fun _ _ _ h => h) (Or.inl ⟨by rfl, ?hy3z0⟩) (by assumption) ?rest3z0
     case hy3z0 => (intro w hSw; (try dsimp only at hSw); go_simp; try (with_reducible rfl))
     simp only [Act.put, List.setIfInBounds_toArray, List.set_cons_zero, List.set_cons_succ]
     refine wpAnyH_take (i := 1) (oi := ⟨some 6, .nilCheck (.tmp 5), 0, "sched.go:42", #[⟨0, .data⟩], none⟩) (v := ?v3z1) rfl (by kernel_rfl) (by kernel_rfl) (by kernel_rfl) (fun _ _ _ h => h) (Or.inl ⟨by rfl, ?hy3z1⟩) (by assumption) ?rest3z1
     case hy3z1 => (intro w hSw; (try dsimp only at hSw); go_simp; try (with_reducible rfl))
     simp only [Act.put, List.setIfInBounds_toArray, List.set_cons_zero, List.set_cons_succ]
     refine wpAnyH_take (i := 2) (oi := ⟨some 7, .fieldAddr 112 (.tmp 6) 1, 0, "sched.go:42", #[⟨1, .data⟩], none⟩) (v := ?v3z2) rfl (by kernel_rfl) (by kernel_rfl) (by kernel_rfl) (fun _ _ _ h => h) (Or.inl ⟨by rfl, ?hy3z2⟩) (by assumption) ?rest3z2
     case hy3z2 => (intro w hSw; (try dsimp only at hSw); go_simp; try (with_reducible rfl))
     simp only [Act.put, List.setIfInBounds_toArray, List.set_cons_zero, List.set_cons_succ]
     refine wpAnyH_take (i := 3) (oi := ⟨some 8, .load 107 (.tmp 7), 107, "sched.go:42", #[⟨2, .data⟩], none⟩) (v := ?v3z3) rfl (by kernel_rfl) (by kernel_rfl) (by kernel_rfl) (fun _ _ _ h => h) (Or.inl ⟨by rfl, ?hy3z3⟩) (by assumption) ?rest3z3
     case hy3z3 => (intro w hSw; (try dsimp only at hSw); go_simp; try (with_reducible rfl))
     simp only [Act.put, List.setIfInBounds_toArray, List.set_cons_zero, List.set_cons_succ]
     refine wpAnyH_take (i := 4) (oi := ⟨some 9, .load 35 (.tmp 3), 35, "sched.go:42", #[], none⟩) (v := ?v3z4) rfl (by kernel_rfl) (by kernel_rfl) (by kernel_rfl) (fun _ _ _ h => h) (Or.inl ⟨by rfl, ?hy3z4⟩) (by assumption) ?rest3z4
     case hy3z4 => (intro w hSw; (try dsimp only at hSw); go_simp; try (with_reducible rfl))
     simp only [Act.put, List.setIfInBounds_toArray, List.set_cons_zero, List.set_cons_succ]
     refine wpAnyH_ready (rs := [5]) (by kernel_rfl) (by simp) ?_
     refine AllReadyH.cons (o := ⟨some 10, .call { callee := .value (.func 112), args := #[.tmp 8, .tmp 9], argTypes := #[107, 35] }, 4, "sched.go:42", #[⟨3, .data⟩, ⟨4, .data⟩], none⟩) rfl (fun K hK => ?_) ?_
     ·
       go_simp
       go_at_call 112
       refine (has_c B X.wyb X.Rw p A X.K c X.kc ⟨xb, (s' : Nat), (q' : Nat)⟩ _ (H.out.ways.ext (below_drewN (Below.refl _ _) 1)) HP.out).mono ?_
       rw [HH.out]
       rintro e w1 ⟨rfl, hb⟩
       have HB1 := Lib.hid (show Below W.heap.size W w1 from ext_trans (below_drewN (Below.refl _ _) 1) hb)
       have q0 := (World.cell?_of_block (a := ⟨w.heap.size, 0, none⟩) (HB1.out.block _ l0)).trans c0
       have q1 := (World.cell?_of_block (a := ⟨w.heap.size, 1, none⟩) (HB1.out.block _ l0)).trans c1
       have q2 := (World.cell?_of_block (a := ⟨w.heap.size, 2, none⟩) (HB1.out.block _ l0)).trans c2
       have q3 := (World.cell?_of_block (a := ⟨sb, 2, none⟩) (HB1.out.block _ l1)).trans c3
       have q4 := (World.cell?_of_block (a := ⟨X.wyb, 0, none⟩) (HB1.out.block _ l2)).trans c4
       have q5 := (World.cell?_of_block (a := kad.add s') (HB1.out.block _ l3)).trans c5
       clear hb
       refine hK.out _ _ ?_ (fun hHeld => ?_)
       · (first | exact ⟨q0, q1, q2, q3, q4, q5⟩ | exact ⟨c0, c1, c2, c3, c4, c5⟩ | go_keep)
       clear hK K
       try simp only [Act.put, List.setIfInBounds_toArray, List.set_cons_zero, List.set_cons_succ]
       refine wpAnyH_take (i := 6) (oi := ⟨some 11, .move (.tmp 10), 4, "sched.go:42", #[⟨5, .data⟩, ⟨5, .chain⟩], none⟩) (v := ?v3z6) rfl (by kernel_rfl) (by kernel_rfl) (by kernel_rfl) (fun _ _ _ h => h) (Or.inl ⟨by rfl, ?hy3z6⟩) (by assumption) ?rest3z6
       case hy3z6 => (intro w hSw; (try dsimp only at hSw); go_simp; try (with_reducible rfl))
       simp only [Act.put, List.setIfInBounds_toArray, List.set_cons_zero, List.set_cons_succ]
       refine wpAnyH_take (i := 7) (oi := ⟨some 12, .move (.tmp 0), 26, "sched.go:42", #[⟨6, .guard⟩], some (6, true)⟩) (v := ?v3z7) rfl (by kernel_rfl) (by kernel_rfl) (by kernel_rfl) (fun _ _ _ h => h) (Or.inl ⟨by rfl, ?hy3z7⟩) (by assumption) ?rest3z7
       case hy3z7 => (intro w hSw; (try dsimp only at hSw); go_simp; try (with_reducible rfl))
       simp only [Act.put, List.setIfInBounds_toArray, List.set_cons_zero, List.set_cons_succ]
       refine wpAnyH_take (i := 8) (oi := ⟨some 13, .nilCheck (.tmp 12), 0, "sched.go:42", #[⟨7, .data⟩, ⟨6, .guard⟩], some (6, true)⟩) (v := ?v3z8) rfl (by kernel_rfl) (by kernel_rfl) (by kernel_rfl) (fun _ _ _ h => h) (Or.inl ⟨by rfl, ?hy3z8⟩) (by assumption) ?rest3z8
       case hy3z8 => (intro w hSw; (try dsimp only at hSw); go_simp; try (with_reducible rfl))
       simp only [Act.put, List.setIfInBounds_toArray, List.set_cons_zero, List.set_cons_succ]
       refine wpAnyH_take (i := 9) (oi := ⟨some 14, .fieldAddr 112 (.tmp 13) 1, 0, "sched.go:42", #[⟨8, .data⟩, ⟨6, .guard⟩], some (6, true)⟩) (v := ?v3z9) rfl (by kernel_rfl) (by kernel_rfl) (by kernel_rfl) (fun _ _ _ h => h) (Or.inl ⟨by rfl, ?hy3z9⟩) (by assumption) ?rest3z9
       case hy3z9 => (intro w hSw; (try dsimp only at hSw); go_simp; try (with_reducible rfl))
       simp only [Act.put, List.setIfInBounds_toArray, List.set_cons_zero, List.set_cons_succ]
       refine wpAnyH_take (i := 10) (oi := ⟨some 15, .load 107 (.tmp 14), 107, "sched.go:42", #[⟨9, .data⟩, ⟨6, .guard⟩], some (6, true)⟩) (v := ?v3z10) rfl (by kernel_rfl) (by kernel_rfl) (by kernel_rfl) (fun _ _ _ h => h) (Or.inl ⟨by rfl, ?hy3z10⟩) (by assumption) ?rest3z10
       case hy3z10 => (intro w hSw; (try dsimp only at hSw); go_simp; try (with_reducible rfl))
       simp only [Act.put, List.setIfInBounds_toArray, List.set_cons_zero, List.set_cons_succ]
       refine wpAnyH_take (i := 11) (oi := ⟨some 16, .nilCheck (.tmp 15), 0, "sched.go:42", #[⟨10, .data⟩, ⟨6, .guard⟩], some (6, true)⟩) (v := ?v3z11) rfl (by kernel_rfl) (by kernel_rfl) (by kernel_rfl) (fun _ _ _ h => h) (Or.inl ⟨by rfl, ?hy3z11⟩) (by assumption) ?rest3z11
       case hy3z11 => (intro w hSw; (try dsimp only at hSw); go_simp; try (with_reducible rfl))
       simp only [Act.put, List.setIfInBounds_toArray, List.set_cons_zero, List.set_cons_succ]
       refine wpAnyH_take (i := 12) (oi := ⟨some 17, .fieldAddr 174 (.tmp 16) 0, 0, "sched.go:42", #[⟨11, .data⟩, ⟨6, .guard⟩], some (6, true)⟩) (v := ?v3z12) rfl (by kernel_rfl) (by kernel_rfl) (by kernel_rfl) (fun _ _ _ h => h) (Or.inl ⟨by rfl, ?hy3z12⟩) (by assumption) ?rest3z12
       case hy3z12 => (intro w hSw; (try dsimp only at hSw); go_simp; try (with_reducible rfl))
       simp only [Act.put, List.setIfInBounds_toArray, List.set_cons_zero, List.set_cons_succ]
       refine wpAnyH_take (i := 13) (oi := ⟨some 18, .load 139 (.tmp 17), 139, "sched.go:42", #[⟨12, .data⟩, ⟨6, .guard⟩], some (6, true)⟩) (v := ?v3z13) rfl (by kernel_rfl) (by kernel_rfl) (by kernel_rfl) (fun _ _ _ h => h) (Or.inl ⟨by rfl, ?hy3z13⟩) (by assumption) ?rest3z13
       case hy3z13 => (intro w hSw; (try dsimp only at hSw); go_simp; try (with_reducible rfl))
       simp only [Act.put, List.setIfInBounds_toArray, List.set_cons_zero, List.set_cons_succ]
       refine wpAnyH_take (i := 14) (oi := ⟨some 19, .fieldAddr 35 (.tmp 3) 1, 0, "sched.go:42", #[⟨6, .guard⟩], some (6, true)⟩) (v := ?v3z14) rfl (by kernel_rfl) (by kernel_rfl) (by kernel_rfl) (fun _ _ _ h => h) (Or.inl ⟨by rfl, ?hy3z14⟩) (by assumption) ?rest3z14
       case hy3z14 => (intro w hSw; (try dsimp only at hSw); go_simp; try (with_reducible rfl))
       simp only [Act.put, List.setIfInBounds_toArray, List.set_cons_zero, List.set_cons_succ]
       refine wpAnyH_take (i := 15) (oi := ⟨some 20, .load 3 (.tmp 19), 3, "sched.go:42", #[⟨14, .data⟩, ⟨6, .guard⟩], some (6, true)⟩) (v := ?v3z15) rfl (by kernel_rfl) (by kernel_rfl) (by kernel_rfl) (fun _ _ _ h => h) (Or.inl ⟨by rfl, ?hy3z15⟩) (by assumption) ?rest3z15
       case hy3z15 => (intro w hSw; (try dsimp only at hSw); go_simp; try (with_reducible rfl))
       simp only [Act.put, List.setIfInBounds_toArray, List.set_cons_zero, List.set_cons_succ]
       refine wpAnyH_take (i := 16) (oi := ⟨some 21, .indexAddr 139 (.tmp 18) (.tmp 20), 0, "sched.go:42", #[⟨13, .data⟩, ⟨15, .data⟩, ⟨6, .guard⟩], some (6, true)⟩) (v := ?v3z16) rfl (by kernel_rfl) (by kernel_rfl) (by kernel_rfl) (fun _ _ _ h => h) (Or.inl ⟨by rfl, ?hy3z16⟩) (by assumption) ?rest3z16
       case hy3z16 => (intro w hSw; (try dsimp only at hSw); go_simp; try (with_reducible rfl))
       simp only [Act.put, List.setIfInBounds_toArray, List.set_cons_zero, List.set_cons_succ]
       refine wpAnyH_take (i := 17) (oi := ⟨some 22, .load 4 (.tmp 21), 4, "sched.go:42", #[⟨16, .data⟩, ⟨6, .guard⟩], some (6, true)⟩) (v := ?v3z17) rfl (by kernel_rfl) (by kernel_rfl) (by kernel_rfl) (fun _ _ _ h => h) (Or.inl ⟨by rfl, ?hy3z17⟩) (by assumption) ?rest3z17
       case hy3z17 => (intro w hSw; (try dsimp only at hSw); go_simp; try (with_reducible rfl))
       simp only [Act.put, List.setIfInBounds_toArray, List.set_cons_zero, List.set_cons_succ]
       refine wpAnyH_take (i := 18) (oi := ⟨some 23, .pick (.tmp 11) (.tmp 22) (.const (.bool false)), 4, "sched.go:42", #[⟨6, .data⟩, ⟨17, .data⟩], none⟩) (v := ?v3z18) rfl (by kernel_rfl) (by kernel_rfl) (by kernel_rfl) (fun _ _ _ h => h) (Or.inl ⟨by rfl, ?hy3z18⟩) (by assumption) ?rest3z18
       case hy3z18 => (intro w hSw; (try dsimp only at hSw); go_simp; try (with_reducible rfl))
       simp only [Act.put, List.setIfInBounds_toArray, List.set_cons_zero, List.set_cons_succ]
       refine wpAnyH_take (i := 19) (oi := ⟨some 24, .move (.tmp 23), 4, "sched.go:42", #[⟨18, .data⟩, ⟨6, .chain⟩], none⟩) (v := ?v3z19) rfl (by kernel_rfl) (by kernel_rfl) (by kernel_rfl) (fun _ _ _ h => h) (Or.inl ⟨by rfl, ?hy3z19⟩) (by assumption) ?rest3z19
       case hy3z19 => (intro w hSw; (try dsimp only at hSw); go_simp; try (with_reducible rfl))
       simp only [Act.put, List.setIfInBounds_toArray, List.set_cons_zero, List.set_cons_succ]
       refine wpAnyH_take (i := 20) (oi := ⟨some 25, .fieldAddr 35 (.tmp 3) 0, 0, "sched.go:42", #[⟨19, .guard⟩], some (19, true)⟩) (v := ?v3z20) rfl (by kernel_rfl) (by kernel_rfl) (by kernel_rfl) (fun _ _ _ h => h) (Or.inl ⟨by rfl, ?hy3z20⟩) (by assumption) ?rest3z20
       case hy3z20 => (intro w hSw; (try dsimp only at hSw); go_simp; try (with_reducible rfl))
       simp only [Act.put, List.setIfInBounds_toArray, List.set_cons_zero, List.set_cons_succ]
       refine wpAnyH_take (i := 21) (oi := ⟨some 26, .load 3 (.tmp 25), 3, "sched.go:42", #[⟨20, .data⟩, ⟨19, .guard⟩], some (19, true)⟩) (v := ?v3z21) rfl (by kernel_rfl) (by kernel_rfl) (by kernel_rfl) (fun _ _ _ h => h) (Or.inl ⟨by rfl, ?hy3z21⟩) (by assumption) ?rest3z21
       case hy3z21 => (intro w hSw; (try dsimp only at hSw); go_simp; try (with_reducible rfl))
       simp only [Act.put, List.setIfInBounds_toArray, List.set_cons_zero, List.set_cons_succ]
       refine wpAnyH_take (i := 22) (oi := ⟨some 27, .binOp .leq 3 (.tmp 26) (.const (.int .i64 60)) 3, 4, "sched.go:42", #[⟨21, .data⟩, ⟨19, .guard⟩], some (19, true)⟩) (v := ?v3z22) rfl (by kernel_rfl) (by kernel_rfl) (by kernel_rfl) (fun _ _ _ h => h) (Or.inl ⟨by rfl, ?hy3z22⟩) (by assumption) ?rest3z22
       case hy3z22 => (intro w hSw; (try dsimp only at hSw); go_simp; try (with_reducible rfl))
       simp only [Act.put, List.setIfInBounds_toArray, List.set_cons_zero, List.set_cons_succ]
       refine wpAnyH_take (i := 23) (oi := ⟨some 28, .pick (.tmp 24) (.tmp 27) (.const (.bool false)), 4, "sched.go:42", #[⟨19, .data⟩, ⟨22, .data⟩], none⟩) (v := ?v3z23) rfl (by kernel_rfl) (by kernel_rfl) (by kernel_rfl) (fun _ _ _ h => h) (Or.inl ⟨by rfl, ?hy3z23⟩) (by assumption) ?rest3z23
       case hy3z23 => (intro w hSw; (try dsimp only at hSw); go_simp; try (with_reducible rfl))
       simp only [Act.put, List.setIfInBounds_toArray, List.set_cons_zero, List.set_cons_succ]
       refine wpAnyH_take (i := 24) (oi := ⟨some 4, .assign (.tmp 28), 4, "sched.go:42", #[⟨23, .data⟩, ⟨19, .chain⟩, ⟨0, .phase⟩, ⟨1, .phase⟩, ⟨2, .phase⟩, ⟨3, .phase⟩, ⟨4, .phase⟩, ⟨5, .phase⟩, ⟨6, .phase⟩, ⟨7, .phase⟩, ⟨8, .phase⟩, ⟨9, .phase⟩, ⟨10, .phase⟩, ⟨11, .phase⟩, ⟨12, .phase⟩, ⟨13, .phase⟩, ⟨14, .phase⟩, ⟨15, .phase⟩, ⟨16, .phase⟩, ⟨17, .phase⟩, ⟨18, .phase⟩, ⟨19, .phase⟩, ⟨20, .phase⟩, ⟨21, .phase⟩, ⟨22, .phase⟩, ⟨23, .phase⟩], none⟩) (v := ?v3z24) rfl (by kernel_rfl) (by kernel_rfl) (by kernel_rfl) (fun _ _ _ h => h) (Or.inl ⟨by rfl, ?hy3z24⟩) (by assumption) ?rest3z24
       case hy3z24 => (intro w hSw; (try dsimp only at hSw); go_simp; try (with_reducible rfl))
       simp only [Act.put, List.setIfInBounds_toArray, List.set_cons_zero, List.set_cons_succ]
       refine wpAnyH_done (by kernel_rfl) ?_ _
       go_wp2_with fail
       go_ret
       rw [HV.out]
       exact ⟨rfl, ext_trans HBW.out HB1.out⟩
     exact AllReadyH.nil
end
end Go.Proofs.YtapjhliglmohgaaGreatDoor
/- Who holds what: slices.Contains of ints; Saved of the program. -/
namespace Go.Proofs.YtapjhliglmohgaaGreatDoor
open Go.RowKit Go.Sort
section
variable {B sb : Nat} {R : Nat → Prop} {p : PlanD} {A : Option Addr} {c : Nat} {X : SchX} {s : SchedD} {w w' : World}
theorem statesL_len (ops : List OpD) : (statesL ops).length ≤ ops.length := by
 unfold statesL
 refine Nat.le_trans (List.length_filter_le _ _) ?_
 simp
end
end Go.Proofs.YtapjhliglmohgaaGreatDoor
/- Who holds what: Saved of the program. -/
namespace Go.Proofs.YtapjhliglmohgaaGreatDoor
open Go.RowKit Go.Sort
section
variable {B sb : Nat} {R : Nat → Prop} {p : PlanD} {A : Option Addr} {c : Nat} {s : SchedD}
end
end Go.Proofs.YtapjhliglmohgaaGreatDoor
