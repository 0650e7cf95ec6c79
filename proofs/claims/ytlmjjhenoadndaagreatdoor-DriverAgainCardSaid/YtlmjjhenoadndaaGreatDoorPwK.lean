/- SchedB, SchedC, SchedD: laid together. -/
import Derived.Test.YtlmjjhenoadndaaGreatDoorPwJ

/- Who holds what: right of the program. (Printed by mkright.py.) -/
namespace Go.Proofs.YtlmjjhenoadndaaGreatDoor
open Go.RowKit Go.Sort

def rightB (p : PlanD) (x : Id3) : Bool := hasB p x && (keptAt p.ops x.s.toNat && decide (x.b ≤ 60))
theorem hasB_spec {p : PlanD} {x : Id3} (h : hasB p x = true) : 1 ≤ x.b ∧ ∃ s q : Nat, x.s = (s : Nat) ∧ x.p = (q : Nat) ∧ s < p.ops.length ∧ (q : Int) < p.parts := by
  unfold hasB at h
  simp only [Bool.and_eq_true, decide_eq_true_eq] at h
  obtain ⟨h1, h2, h3, h4, h5⟩ := h
  exact ⟨h1, x.s.toNat, x.p.toNat, by omega, by omega, by omega, by omega⟩
section
variable {B sb : Nat} {R : Nat → Prop} {p : PlanD} {A : Option Addr} {c : Nat} {s : SchedD}
set_option maxRecDepth 100000 in
set_option maxHeartbeats 8000000 in
theorem sright_c (x : Id3) (w : World) (h : SchedIs B sb R p A c s w) : Calls Tryz.prog 161 #[.pointer (some ⟨sb, 0, none⟩), idV x] w (BoolPost w (rightB p x)) := by
  obtain ⟨X, h⟩ := h
  have hp := shaped_check h.plan
  have HP := Lib.hid hp
  obtain ⟨xb, xs, xp⟩ := x
  obtain ⟨W, hW⟩ : ∃ W, W = w.alloc (.cells #[.int .i64 xb, .int .i64 xs, .int .i64 xp] 61 (0, 0)) := ⟨_, rfl⟩
  have HBW := Lib.hid (show Below w.heap.size w W from by rw [hW]; exact ext_alloc (Below.refl _ _) _)
  have HXW := Lib.hid (show Bk W w.heap.size 61 #[.int .i64 xb, .int .i64 xs, .int .i64 xp] from by rw [hW]; exact Bk.new _ _ _)
  have H := Lib.hid (h.ext HBW.out)
  have HWW := Lib.hid hW
  clear h hp hW
  obtain ⟨mb, es, hY⟩ := H.out.ways
  have HY := Lib.hid hY
  clear hY
  have c0 : W.cell? ⟨w.heap.size, 0, none⟩ = some (.int .i64 xb) := (HXW.out.cell 0).trans rfl
  have c1 : W.cell? ⟨w.heap.size, 1, none⟩ = some (.int .i64 xs) := (HXW.out.cell 1).trans rfl
  have c2 : W.cell? ⟨w.heap.size, 2, none⟩ = some (.int .i64 xp) := (HXW.out.cell 2).trans rfl
  have c3 : W.cell? ⟨sb, 2, none⟩ = some (.pointer (some ⟨X.wyb, 0, none⟩)) := (H.out.bk.cell 2).trans rfl
  have c4 : W.cell? ⟨X.wyb, 0, none⟩ = some (.slice X.K p.ops.length X.kc) := (HY.out.bk.cell 0).trans rfl
  have l0 := HXW.out.lt
  have l1 := H.out.bk.lt
  have l2 := HY.out.bk.lt
  cases hh : hasB p ⟨xb, xs, xp⟩ with
  | false =>
    have HH := Lib.hid hh
    have HV := Lib.hid (show rightB p ⟨xb, xs, xp⟩ = false from by unfold rightB; rw [hh]; rfl)
    clear hh
    go_enter Tryz.func161, Tryz.ntmps161
    go_wp2_with fail
    rw [← HWW.out]
    refine wp_region_held_drew (S := (fun w' => w'.cell? ⟨w.heap.size, 0, none⟩ = some (.int .i64 xb) ∧ w'.cell? ⟨w.heap.size, 1, none⟩ = some (.int .i64 xs) ∧ w'.cell? ⟨w.heap.size, 2, none⟩ = some (.int .i64 xp) ∧ w'.cell? ⟨sb, 2, none⟩ = some (.pointer (some ⟨X.wyb, 0, none⟩)) ∧ w'.cell? ⟨X.wyb, 0, none⟩ = some (.slice X.K p.ops.length X.kc))) (by kernel_rfl) ?_ (fun hHeld => ?_)
    · (first | exact ⟨q0, q1, q2, q3, q4⟩ | exact ⟨c0, c1, c2, c3, c4⟩ | go_keep)
    refine wpAnyH_take (i := 0) (oi := { dst := some 5, op := Go.Op.move (Go.Operand.tmp 0), type := 104, pos := "sched.go:42", after := #[], guard := none }) (v := ?v1z0) rfl (by kernel_rfl) (by kernel_rfl) (by kernel_rfl) (fun _ _ _ h => h) (Or.inl ⟨by rfl, ?hy1z0⟩) (by assumption) ?rest1z0
    case hy1z0 => (intro w hSw; (try dsimp only at hSw); go_simp; try (with_reducible rfl))
    simp only [Act.put, List.setIfInBounds_toArray, List.set_cons_zero, List.set_cons_succ]
    refine wpAnyH_take (i := 1) (oi := { dst := some 6, op := Go.Op.nilCheck (Go.Operand.tmp 5), type := 0, pos := "sched.go:42", after := #[{ on := 0, ground := Go.Ground.data }], guard := none }) (v := ?v1z1) rfl (by kernel_rfl) (by kernel_rfl) (by kernel_rfl) (fun _ _ _ h => h) (Or.inl ⟨by rfl, ?hy1z1⟩) (by assumption) ?rest1z1
    case hy1z1 => (intro w hSw; (try dsimp only at hSw); go_simp; try (with_reducible rfl))
    simp only [Act.put, List.setIfInBounds_toArray, List.set_cons_zero, List.set_cons_succ]
    refine wpAnyH_take (i := 2) (oi := { dst := some 7, op := Go.Op.fieldAddr 196 (Go.Operand.tmp 6) 1, type := 0, pos := "sched.go:42", after := #[{ on := 1, ground := Go.Ground.data }], guard := none }) (v := ?v1z2) rfl (by kernel_rfl) (by kernel_rfl) (by kernel_rfl) (fun _ _ _ h => h) (Or.inl ⟨by rfl, ?hy1z2⟩) (by assumption) ?rest1z2
    case hy1z2 => (intro w hSw; (try dsimp only at hSw); go_simp; try (with_reducible rfl))
    simp only [Act.put, List.setIfInBounds_toArray, List.set_cons_zero, List.set_cons_succ]
    refine wpAnyH_take (i := 3) (oi := { dst := some 8, op := Go.Op.load 192 (Go.Operand.tmp 7), type := 192, pos := "sched.go:42", after := #[{ on := 2, ground := Go.Ground.data }], guard := none }) (v := ?v1z3) rfl (by kernel_rfl) (by kernel_rfl) (by kernel_rfl) (fun _ _ _ h => h) (Or.inl ⟨by rfl, ?hy1z3⟩) (by assumption) ?rest1z3
    case hy1z3 => (intro w hSw; (try dsimp only at hSw); go_simp; try (with_reducible rfl))
    simp only [Act.put, List.setIfInBounds_toArray, List.set_cons_zero, List.set_cons_succ]
    refine wpAnyH_take (i := 4) (oi := { dst := some 9, op := Go.Op.load 61 (Go.Operand.tmp 3), type := 61, pos := "sched.go:42", after := #[], guard := none }) (v := ?v1z4) rfl (by kernel_rfl) (by kernel_rfl) (by kernel_rfl) (fun _ _ _ h => h) (Or.inl ⟨by rfl, ?hy1z4⟩) (by assumption) ?rest1z4
    case hy1z4 => (intro w hSw; (try dsimp only at hSw); go_simp; try (with_reducible rfl))
    simp only [Act.put, List.setIfInBounds_toArray, List.set_cons_zero, List.set_cons_succ]
    refine wpAnyH_ready (rs := [5]) (by kernel_rfl) (by simp) ?_
    refine AllReadyH.cons (o := { dst := some 10, op := Go.Op.call { callee := Go.Callee.value (Go.Operand.func 209), args := #[Go.Operand.tmp 8, Go.Operand.tmp 9], argTypes := #[192, 61] }, type := 4, pos := "sched.go:42", after := #[{ on := 3, ground := Go.Ground.data }, { on := 4, ground := Go.Ground.data }], guard := none }) rfl (fun K hK => ?_) ?_
    ·
      go_simp
      go_at_call 209
      refine (has_c B X.wyb X.Rw p A X.K c X.kc ⟨xb, xs, xp⟩ _ (H.out.ways.ext (below_drewN (Below.refl _ _) 1)) HP.out).mono ?_
      rw [HH.out]
      rintro e w1 ⟨rfl, hb⟩
      have HB1 := Lib.hid (show Below W.heap.size W w1 from ext_trans (below_drewN (Below.refl _ _) 1) hb)
      have q0 := (World.cell?_of_block (a := ⟨w.heap.size, 0, none⟩) (HB1.out.block _ l0)).trans c0
      have q1 := (World.cell?_of_block (a := ⟨w.heap.size, 1, none⟩) (HB1.out.block _ l0)).trans c1
      have q2 := (World.cell?_of_block (a := ⟨w.heap.size, 2, none⟩) (HB1.out.block _ l0)).trans c2
      have q3 := (World.cell?_of_block (a := ⟨sb, 2, none⟩) (HB1.out.block _ l1)).trans c3
      have q4 := (World.cell?_of_block (a := ⟨X.wyb, 0, none⟩) (HB1.out.block _ l2)).trans c4
      clear hb
      refine hK.out _ _ ?_ (fun hHeld => ?_)
      · (first | exact ⟨q0, q1, q2, q3, q4⟩ | exact ⟨c0, c1, c2, c3, c4⟩ | go_keep)
      clear hK K
      try simp only [Act.put, List.setIfInBounds_toArray, List.set_cons_zero, List.set_cons_succ]
      refine wpAnyH_take (i := 6) (oi := { dst := some 11, op := Go.Op.move (Go.Operand.tmp 10), type := 4, pos := "sched.go:42", after := #[{ on := 5, ground := Go.Ground.data }, { on := 5, ground := Go.Ground.chain }], guard := none }) (v := ?v1z6) rfl (by kernel_rfl) (by kernel_rfl) (by kernel_rfl) (fun _ _ _ h => h) (Or.inl ⟨by rfl, ?hy1z6⟩) (by assumption) ?rest1z6
      case hy1z6 => (intro w hSw; (try dsimp only at hSw); go_simp; try (with_reducible rfl))
      simp only [Act.put, List.setIfInBounds_toArray, List.set_cons_zero, List.set_cons_succ]
      refine wpAnyH_take (i := 7) (oi := { dst := some 12, op := Go.Op.move (Go.Operand.tmp 0), type := 104, pos := "sched.go:42", after := #[{ on := 6, ground := Go.Ground.guard }], guard := some (6, true) }) (v := undef) rfl (by kernel_rfl) (by kernel_rfl) (by kernel_rfl) (fun _ _ _ h => h) (Or.inr ⟨by rfl, rfl⟩) (by assumption) ?_
      simp only [Act.put, List.setIfInBounds_toArray, List.set_cons_zero, List.set_cons_succ]
      refine wpAnyH_take (i := 8) (oi := { dst := some 13, op := Go.Op.nilCheck (Go.Operand.tmp 12), type := 0, pos := "sched.go:42", after := #[{ on := 7, ground := Go.Ground.data }, { on := 6, ground := Go.Ground.guard }], guard := some (6, true) }) (v := undef) rfl (by kernel_rfl) (by kernel_rfl) (by kernel_rfl) (fun _ _ _ h => h) (Or.inr ⟨by rfl, rfl⟩) (by assumption) ?_
      simp only [Act.put, List.setIfInBounds_toArray, List.set_cons_zero, List.set_cons_succ]
      refine wpAnyH_take (i := 9) (oi := { dst := some 14, op := Go.Op.fieldAddr 196 (Go.Operand.tmp 13) 1, type := 0, pos := "sched.go:42", after := #[{ on := 8, ground := Go.Ground.data }, { on := 6, ground := Go.Ground.guard }], guard := some (6, true) }) (v := undef) rfl (by kernel_rfl) (by kernel_rfl) (by kernel_rfl) (fun _ _ _ h => h) (Or.inr ⟨by rfl, rfl⟩) (by assumption) ?_
      simp only [Act.put, List.setIfInBounds_toArray, List.set_cons_zero, List.set_cons_succ]
      refine wpAnyH_take (i := 10) (oi := { dst := some 15, op := Go.Op.load 192 (Go.Operand.tmp 14), type := 192, pos := "sched.go:42", after := #[{ on := 9, ground := Go.Ground.data }, { on := 6, ground := Go.Ground.guard }], guard := some (6, true) }) (v := undef) rfl (by kernel_rfl) (by kernel_rfl) (by kernel_rfl) (fun _ _ _ h => h) (Or.inr ⟨by rfl, rfl⟩) (by assumption) ?_
      simp only [Act.put, List.setIfInBounds_toArray, List.set_cons_zero, List.set_cons_succ]
      refine wpAnyH_take (i := 11) (oi := { dst := some 16, op := Go.Op.nilCheck (Go.Operand.tmp 15), type := 0, pos := "sched.go:42", after := #[{ on := 10, ground := Go.Ground.data }, { on := 6, ground := Go.Ground.guard }], guard := some (6, true) }) (v := undef) rfl (by kernel_rfl) (by kernel_rfl) (by kernel_rfl) (fun _ _ _ h => h) (Or.inr ⟨by rfl, rfl⟩) (by assumption) ?_
      simp only [Act.put, List.setIfInBounds_toArray, List.set_cons_zero, List.set_cons_succ]
      refine wpAnyH_take (i := 12) (oi := { dst := some 17, op := Go.Op.fieldAddr 303 (Go.Operand.tmp 16) 0, type := 0, pos := "sched.go:42", after := #[{ on := 11, ground := Go.Ground.data }, { on := 6, ground := Go.Ground.guard }], guard := some (6, true) }) (v := undef) rfl (by kernel_rfl) (by kernel_rfl) (by kernel_rfl) (fun _ _ _ h => h) (Or.inr ⟨by rfl, rfl⟩) (by assumption) ?_
      simp only [Act.put, List.setIfInBounds_toArray, List.set_cons_zero, List.set_cons_succ]
      refine wpAnyH_take (i := 13) (oi := { dst := some 18, op := Go.Op.load 132 (Go.Operand.tmp 17), type := 132, pos := "sched.go:42", after := #[{ on := 12, ground := Go.Ground.data }, { on := 6, ground := Go.Ground.guard }], guard := some (6, true) }) (v := undef) rfl (by kernel_rfl) (by kernel_rfl) (by kernel_rfl) (fun _ _ _ h => h) (Or.inr ⟨by rfl, rfl⟩) (by assumption) ?_
      simp only [Act.put, List.setIfInBounds_toArray, List.set_cons_zero, List.set_cons_succ]
      refine wpAnyH_take (i := 14) (oi := { dst := some 19, op := Go.Op.fieldAddr 61 (Go.Operand.tmp 3) 1, type := 0, pos := "sched.go:42", after := #[{ on := 6, ground := Go.Ground.guard }], guard := some (6, true) }) (v := undef) rfl (by kernel_rfl) (by kernel_rfl) (by kernel_rfl) (fun _ _ _ h => h) (Or.inr ⟨by rfl, rfl⟩) (by assumption) ?_
      simp only [Act.put, List.setIfInBounds_toArray, List.set_cons_zero, List.set_cons_succ]
      refine wpAnyH_take (i := 15) (oi := { dst := some 20, op := Go.Op.load 3 (Go.Operand.tmp 19), type := 3, pos := "sched.go:42", after := #[{ on := 14, ground := Go.Ground.data }, { on := 6, ground := Go.Ground.guard }], guard := some (6, true) }) (v := undef) rfl (by kernel_rfl) (by kernel_rfl) (by kernel_rfl) (fun _ _ _ h => h) (Or.inr ⟨by rfl, rfl⟩) (by assumption) ?_
      simp only [Act.put, List.setIfInBounds_toArray, List.set_cons_zero, List.set_cons_succ]
      refine wpAnyH_take (i := 16) (oi := { dst := some 21, op := Go.Op.indexAddr 132 (Go.Operand.tmp 18) (Go.Operand.tmp 20), type := 0, pos := "sched.go:42", after := #[{ on := 13, ground := Go.Ground.data }, { on := 15, ground := Go.Ground.data }, { on := 6, ground := Go.Ground.guard }], guard := some (6, true) }) (v := undef) rfl (by kernel_rfl) (by kernel_rfl) (by kernel_rfl) (fun _ _ _ h => h) (Or.inr ⟨by rfl, rfl⟩) (by assumption) ?_
      simp only [Act.put, List.setIfInBounds_toArray, List.set_cons_zero, List.set_cons_succ]
      refine wpAnyH_take (i := 17) (oi := { dst := some 22, op := Go.Op.load 4 (Go.Operand.tmp 21), type := 4, pos := "sched.go:42", after := #[{ on := 16, ground := Go.Ground.data }, { on := 6, ground := Go.Ground.guard }], guard := some (6, true) }) (v := undef) rfl (by kernel_rfl) (by kernel_rfl) (by kernel_rfl) (fun _ _ _ h => h) (Or.inr ⟨by rfl, rfl⟩) (by assumption) ?_
      simp only [Act.put, List.setIfInBounds_toArray, List.set_cons_zero, List.set_cons_succ]
      refine wpAnyH_take (i := 18) (oi := { dst := some 23, op := Go.Op.pick (Go.Operand.tmp 11) (Go.Operand.tmp 22) (Go.Operand.const (Go.Value.bool false)), type := 4, pos := "sched.go:42", after := #[{ on := 6, ground := Go.Ground.data }, { on := 17, ground := Go.Ground.data }], guard := none }) (v := ?v1z18) rfl (by kernel_rfl) (by kernel_rfl) (by kernel_rfl) (fun _ _ _ h => h) (Or.inl ⟨by rfl, ?hy1z18⟩) (by assumption) ?rest1z18
      case hy1z18 => (intro w hSw; (try dsimp only at hSw); go_simp; try (with_reducible rfl))
      simp only [Act.put, List.setIfInBounds_toArray, List.set_cons_zero, List.set_cons_succ]
      refine wpAnyH_take (i := 19) (oi := { dst := some 24, op := Go.Op.move (Go.Operand.tmp 23), type := 4, pos := "sched.go:42", after := #[{ on := 18, ground := Go.Ground.data }, { on := 6, ground := Go.Ground.chain }], guard := none }) (v := ?v1z19) rfl (by kernel_rfl) (by kernel_rfl) (by kernel_rfl) (fun _ _ _ h => h) (Or.inl ⟨by rfl, ?hy1z19⟩) (by assumption) ?rest1z19
      case hy1z19 => (intro w hSw; (try dsimp only at hSw); go_simp; try (with_reducible rfl))
      simp only [Act.put, List.setIfInBounds_toArray, List.set_cons_zero, List.set_cons_succ]
      refine wpAnyH_take (i := 20) (oi := { dst := some 25, op := Go.Op.fieldAddr 61 (Go.Operand.tmp 3) 0, type := 0, pos := "sched.go:42", after := #[{ on := 19, ground := Go.Ground.guard }], guard := some (19, true) }) (v := undef) rfl (by kernel_rfl) (by kernel_rfl) (by kernel_rfl) (fun _ _ _ h => h) (Or.inr ⟨by rfl, rfl⟩) (by assumption) ?_
      simp only [Act.put, List.setIfInBounds_toArray, List.set_cons_zero, List.set_cons_succ]
      refine wpAnyH_take (i := 21) (oi := { dst := some 26, op := Go.Op.load 3 (Go.Operand.tmp 25), type := 3, pos := "sched.go:42", after := #[{ on := 20, ground := Go.Ground.data }, { on := 19, ground := Go.Ground.guard }], guard := some (19, true) }) (v := undef) rfl (by kernel_rfl) (by kernel_rfl) (by kernel_rfl) (fun _ _ _ h => h) (Or.inr ⟨by rfl, rfl⟩) (by assumption) ?_
      simp only [Act.put, List.setIfInBounds_toArray, List.set_cons_zero, List.set_cons_succ]
      refine wpAnyH_take (i := 22) (oi := { dst := some 27, op := Go.Op.binOp Go.BinOp.leq 3 (Go.Operand.tmp 26) (Go.Operand.const (Go.Value.int Go.IntKind.i64 60)) 3, type := 4, pos := "sched.go:42", after := #[{ on := 21, ground := Go.Ground.data }, { on := 19, ground := Go.Ground.guard }], guard := some (19, true) }) (v := undef) rfl (by kernel_rfl) (by kernel_rfl) (by kernel_rfl) (fun _ _ _ h => h) (Or.inr ⟨by rfl, rfl⟩) (by assumption) ?_
      simp only [Act.put, List.setIfInBounds_toArray, List.set_cons_zero, List.set_cons_succ]
      refine wpAnyH_take (i := 23) (oi := { dst := some 28, op := Go.Op.pick (Go.Operand.tmp 24) (Go.Operand.tmp 27) (Go.Operand.const (Go.Value.bool false)), type := 4, pos := "sched.go:42", after := #[{ on := 19, ground := Go.Ground.data }, { on := 22, ground := Go.Ground.data }], guard := none }) (v := ?v1z23) rfl (by kernel_rfl) (by kernel_rfl) (by kernel_rfl) (fun _ _ _ h => h) (Or.inl ⟨by rfl, ?hy1z23⟩) (by assumption) ?rest1z23
      case hy1z23 => (intro w hSw; (try dsimp only at hSw); go_simp; try (with_reducible rfl))
      simp only [Act.put, List.setIfInBounds_toArray, List.set_cons_zero, List.set_cons_succ]
      refine wpAnyH_take (i := 24) (oi := { dst := some 4, op := Go.Op.assign (Go.Operand.tmp 28), type := 4, pos := "sched.go:42", after := #[{ on := 23, ground := Go.Ground.data }, { on := 19, ground := Go.Ground.chain }, { on := 0, ground := Go.Ground.phase }, { on := 1, ground := Go.Ground.phase }, { on := 2, ground := Go.Ground.phase }, { on := 3, ground := Go.Ground.phase }, { on := 4, ground := Go.Ground.phase }, { on := 5, ground := Go.Ground.phase }, { on := 6, ground := Go.Ground.phase }, { on := 7, ground := Go.Ground.phase }, { on := 8, ground := Go.Ground.phase }, { on := 9, ground := Go.Ground.phase }, { on := 10, ground := Go.Ground.phase }, { on := 11, ground := Go.Ground.phase }, { on := 12, ground := Go.Ground.phase }, { on := 13, ground := Go.Ground.phase }, { on := 14, ground := Go.Ground.phase }, { on := 15, ground := Go.Ground.phase }, { on := 16, ground := Go.Ground.phase }, { on := 17, ground := Go.Ground.phase }, { on := 18, ground := Go.Ground.phase }, { on := 19, ground := Go.Ground.phase }, { on := 20, ground := Go.Ground.phase }, { on := 21, ground := Go.Ground.phase }, { on := 22, ground := Go.Ground.phase }, { on := 23, ground := Go.Ground.phase }], guard := none }) (v := ?v1z24) rfl (by kernel_rfl) (by kernel_rfl) (by kernel_rfl) (fun _ _ _ h => h) (Or.inl ⟨by rfl, ?hy1z24⟩) (by assumption) ?rest1z24
      case hy1z24 => (intro w hSw; (try dsimp only at hSw); go_simp; try (with_reducible rfl))
      simp only [Act.put, List.setIfInBounds_toArray, List.set_cons_zero, List.set_cons_succ]
      refine wpAnyH_done (by kernel_rfl) ?_ _
      go_wp2_with fail
      go_ret
      rw [HV.out]
      exact ⟨rfl, ext_trans HBW.out HB1.out⟩
    exact AllReadyH.nil
  | true =>
    have HH := Lib.hid hh
    obtain ⟨hb1, s', q', hs', hq', hsl, hql⟩ := hasB_spec hh
    simp only at hs' hq' hb1
    subst hs' hq'
    obtain ⟨kad, hkad, hkc⟩ := HY.out.kept.cell (by omega)
    have c5 := hkc s' (.bool (keptAt p.ops s')) (by unfold boolsC; rw [List.getElem?_map, keptL_get hsl]; rfl)
    have l3 := World.block_lt_of_cell? W _ c5
    rw [hkad] at c4
    have HVE := Lib.hid (show rightB p ⟨xb, (s' : Nat), (q' : Nat)⟩ = (keptAt p.ops s' && decide (xb ≤ 60)) from by unfold rightB; rw [hh]; simp)
    have hsI : (s' : Int) < (p.ops.length : Nat) := by omega
    clear hh hkc
    cases hk : keptAt p.ops s' with
    | false =>
      rw [hk] at c5
      have HV := Lib.hid (show rightB p ⟨xb, (s' : Nat), (q' : Nat)⟩ = false from by rw [HVE.out, hk]; rfl)
      clear hk
      go_enter Tryz.func161, Tryz.ntmps161
      go_wp2_with fail
      rw [← HWW.out]
      refine wp_region_held_drew (S := (fun w' => w'.cell? ⟨w.heap.size, 0, none⟩ = some (.int .i64 xb) ∧ w'.cell? ⟨w.heap.size, 1, none⟩ = some (.int .i64 (s' : Nat)) ∧ w'.cell? ⟨w.heap.size, 2, none⟩ = some (.int .i64 (q' : Nat)) ∧ w'.cell? ⟨sb, 2, none⟩ = some (.pointer (some ⟨X.wyb, 0, none⟩)) ∧ w'.cell? ⟨X.wyb, 0, none⟩ = some (.slice (some kad) p.ops.length X.kc) ∧ w'.cell? (kad.add s') = some (.bool false))) (by kernel_rfl) ?_ (fun hHeld => ?_)
      · (first | exact ⟨q0, q1, q2, q3, q4, q5⟩ | exact ⟨c0, c1, c2, c3, c4, c5⟩ | go_keep)
      refine wpAnyH_take (i := 0) (oi := { dst := some 5, op := Go.Op.move (Go.Operand.tmp 0), type := 104, pos := "sched.go:42", after := #[], guard := none }) (v := ?v2z0) rfl (by kernel_rfl) (by kernel_rfl) (by kernel_rfl) (fun _ _ _ h => h) (Or.inl ⟨by rfl, ?hy2z0⟩) (by assumption) ?rest2z0
      case hy2z0 => (intro w hSw; (try dsimp only at hSw); go_simp; try (with_reducible rfl))
      simp only [Act.put, List.setIfInBounds_toArray, List.set_cons_zero, List.set_cons_succ]
      refine wpAnyH_take (i := 1) (oi := { dst := some 6, op := Go.Op.nilCheck (Go.Operand.tmp 5), type := 0, pos := "sched.go:42", after := #[{ on := 0, ground := Go.Ground.data }], guard := none }) (v := ?v2z1) rfl (by kernel_rfl) (by kernel_rfl) (by kernel_rfl) (fun _ _ _ h => h) (Or.inl ⟨by rfl, ?hy2z1⟩) (by assumption) ?rest2z1
      case hy2z1 => (intro w hSw; (try dsimp only at hSw); go_simp; try (with_reducible rfl))
      simp only [Act.put, List.setIfInBounds_toArray, List.set_cons_zero, List.set_cons_succ]
      refine wpAnyH_take (i := 2) (oi := { dst := some 7, op := Go.Op.fieldAddr 196 (Go.Operand.tmp 6) 1, type := 0, pos := "sched.go:42", after := #[{ on := 1, ground := Go.Ground.data }], guard := none }) (v := ?v2z2) rfl (by kernel_rfl) (by kernel_rfl) (by kernel_rfl) (fun _ _ _ h => h) (Or.inl ⟨by rfl, ?hy2z2⟩) (by assumption) ?rest2z2
      case hy2z2 => (intro w hSw; (try dsimp only at hSw); go_simp; try (with_reducible rfl))
      simp only [Act.put, List.setIfInBounds_toArray, List.set_cons_zero, List.set_cons_succ]
      refine wpAnyH_take (i := 3) (oi := { dst := some 8, op := Go.Op.load 192 (Go.Operand.tmp 7), type := 192, pos := "sched.go:42", after := #[{ on := 2, ground := Go.Ground.data }], guard := none }) (v := ?v2z3) rfl (by kernel_rfl) (by kernel_rfl) (by kernel_rfl) (fun _ _ _ h => h) (Or.inl ⟨by rfl, ?hy2z3⟩) (by assumption) ?rest2z3
      case hy2z3 => (intro w hSw; (try dsimp only at hSw); go_simp; try (with_reducible rfl))
      simp only [Act.put, List.setIfInBounds_toArray, List.set_cons_zero, List.set_cons_succ]
      refine wpAnyH_take (i := 4) (oi := { dst := some 9, op := Go.Op.load 61 (Go.Operand.tmp 3), type := 61, pos := "sched.go:42", after := #[], guard := none }) (v := ?v2z4) rfl (by kernel_rfl) (by kernel_rfl) (by kernel_rfl) (fun _ _ _ h => h) (Or.inl ⟨by rfl, ?hy2z4⟩) (by assumption) ?rest2z4
      case hy2z4 => (intro w hSw; (try dsimp only at hSw); go_simp; try (with_reducible rfl))
      simp only [Act.put, List.setIfInBounds_toArray, List.set_cons_zero, List.set_cons_succ]
      refine wpAnyH_ready (rs := [5]) (by kernel_rfl) (by simp) ?_
      refine AllReadyH.cons (o := { dst := some 10, op := Go.Op.call { callee := Go.Callee.value (Go.Operand.func 209), args := #[Go.Operand.tmp 8, Go.Operand.tmp 9], argTypes := #[192, 61] }, type := 4, pos := "sched.go:42", after := #[{ on := 3, ground := Go.Ground.data }, { on := 4, ground := Go.Ground.data }], guard := none }) rfl (fun K hK => ?_) ?_
      ·
        go_simp
        go_at_call 209
        refine (has_c B X.wyb X.Rw p A X.K c X.kc ⟨xb, (s' : Nat), (q' : Nat)⟩ _ (H.out.ways.ext (below_drewN (Below.refl _ _) 1)) HP.out).mono ?_
        rw [HH.out]
        rintro e w1 ⟨rfl, hb⟩
        have HB1 := Lib.hid (show Below W.heap.size W w1 from ext_trans (below_drewN (Below.refl _ _) 1) hb)
        have q0 := (World.cell?_of_block (a := ⟨w.heap.size, 0, none⟩) (HB1.out.block _ l0)).trans c0
        have q1 := (World.cell?_of_block (a := ⟨w.heap.size, 1, none⟩) (HB1.out.block _ l0)).trans c1
        have q2 := (World.cell?_of_block (a := ⟨w.heap.size, 2, none⟩) (HB1.out.block _ l0)).trans c2
        have q3 := (World.cell?_of_block (a := ⟨sb, 2, none⟩) (HB1.out.block _ l1)).trans c3
        have q4 := (World.cell?_of_block (a := ⟨X.wyb, 0, none⟩) (HB1.out.block _ l2)).trans c4
        have q5 := (World.cell?_of_block (a := kad.add s') (HB1.out.block _ l3)).trans c5
        clear hb
        refine hK.out _ _ ?_ (fun hHeld => ?_)
        · (first | exact ⟨q0, q1, q2, q3, q4, q5⟩ | exact ⟨c0, c1, c2, c3, c4, c5⟩ | go_keep)
        clear hK K
        try simp only [Act.put, List.setIfInBounds_toArray, List.set_cons_zero, List.set_cons_succ]
        refine wpAnyH_take (i := 6) (oi := { dst := some 11, op := Go.Op.move (Go.Operand.tmp 10), type := 4, pos := "sched.go:42", after := #[{ on := 5, ground := Go.Ground.data }, { on := 5, ground := Go.Ground.chain }], guard := none }) (v := ?v2z6) rfl (by kernel_rfl) (by kernel_rfl) (by kernel_rfl) (fun _ _ _ h => h) (Or.inl ⟨by rfl, ?hy2z6⟩) (by assumption) ?rest2z6
        case hy2z6 => (intro w hSw; (try dsimp only at hSw); go_simp; try (with_reducible rfl))
        simp only [Act.put, List.setIfInBounds_toArray, List.set_cons_zero, List.set_cons_succ]
        refine wpAnyH_take (i := 7) (oi := { dst := some 12, op := Go.Op.move (Go.Operand.tmp 0), type := 104, pos := "sched.go:42", after := #[{ on := 6, ground := Go.Ground.guard }], guard := some (6, true) }) (v := ?v2z7) rfl (by kernel_rfl) (by kernel_rfl) (by kernel_rfl) (fun _ _ _ h => h) (Or.inl ⟨by rfl, ?hy2z7⟩) (by assumption) ?rest2z7
        case hy2z7 => (intro w hSw; (try dsimp only at hSw); go_simp; try (with_reducible rfl))
        simp only [Act.put, List.setIfInBounds_toArray, List.set_cons_zero, List.set_cons_succ]
        refine wpAnyH_take (i := 8) (oi := { dst := some 13, op := Go.Op.nilCheck (Go.Operand.tmp 12), type := 0, pos := "sched.go:42", after := #[{ on := 7, ground := Go.Ground.data }, { on := 6, ground := Go.Ground.guard }], guard := some (6, true) }) (v := ?v2z8) rfl (by kernel_rfl) (by kernel_rfl) (by kernel_rfl) (fun _ _ _ h => h) (Or.inl ⟨by rfl, ?hy2z8⟩) (by assumption) ?rest2z8
        case hy2z8 => (intro w hSw; (try dsimp only at hSw); go_simp; try (with_reducible rfl))
        simp only [Act.put, List.setIfInBounds_toArray, List.set_cons_zero, List.set_cons_succ]
        refine wpAnyH_take (i := 9) (oi := { dst := some 14, op := Go.Op.fieldAddr 196 (Go.Operand.tmp 13) 1, type := 0, pos := "sched.go:42", after := #[{ on := 8, ground := Go.Ground.data }, { on := 6, ground := Go.Ground.guard }], guard := some (6, true) }) (v := ?v2z9) rfl (by kernel_rfl) (by kernel_rfl) (by kernel_rfl) (fun _ _ _ h => h) (Or.inl ⟨by rfl, ?hy2z9⟩) (by assumption) ?rest2z9
        case hy2z9 => (intro w hSw; (try dsimp only at hSw); go_simp; try (with_reducible rfl))
        simp only [Act.put, List.setIfInBounds_toArray, List.set_cons_zero, List.set_cons_succ]
        refine wpAnyH_take (i := 10) (oi := { dst := some 15, op := Go.Op.load 192 (Go.Operand.tmp 14), type := 192, pos := "sched.go:42", after := #[{ on := 9, ground := Go.Ground.data }, { on := 6, ground := Go.Ground.guard }], guard := some (6, true) }) (v := ?v2z10) rfl (by kernel_rfl) (by kernel_rfl) (by kernel_rfl) (fun _ _ _ h => h) (Or.inl ⟨by rfl, ?hy2z10⟩) (by assumption) ?rest2z10
        case hy2z10 => (intro w hSw; (try dsimp only at hSw); go_simp; try (with_reducible rfl))
        simp only [Act.put, List.setIfInBounds_toArray, List.set_cons_zero, List.set_cons_succ]
        refine wpAnyH_take (i := 11) (oi := { dst := some 16, op := Go.Op.nilCheck (Go.Operand.tmp 15), type := 0, pos := "sched.go:42", after := #[{ on := 10, ground := Go.Ground.data }, { on := 6, ground := Go.Ground.guard }], guard := some (6, true) }) (v := ?v2z11) rfl (by kernel_rfl) (by kernel_rfl) (by kernel_rfl) (fun _ _ _ h => h) (Or.inl ⟨by rfl, ?hy2z11⟩) (by assumption) ?rest2z11
        case hy2z11 => (intro w hSw; (try dsimp only at hSw); go_simp; try (with_reducible rfl))
        simp only [Act.put, List.setIfInBounds_toArray, List.set_cons_zero, List.set_cons_succ]
        refine wpAnyH_take (i := 12) (oi := { dst := some 17, op := Go.Op.fieldAddr 303 (Go.Operand.tmp 16) 0, type := 0, pos := "sched.go:42", after := #[{ on := 11, ground := Go.Ground.data }, { on := 6, ground := Go.Ground.guard }], guard := some (6, true) }) (v := ?v2z12) rfl (by kernel_rfl) (by kernel_rfl) (by kernel_rfl) (fun _ _ _ h => h) (Or.inl ⟨by rfl, ?hy2z12⟩) (by assumption) ?rest2z12
        case hy2z12 => (intro w hSw; (try dsimp only at hSw); go_simp; try (with_reducible rfl))
        simp only [Act.put, List.setIfInBounds_toArray, List.set_cons_zero, List.set_cons_succ]
        refine wpAnyH_take (i := 13) (oi := { dst := some 18, op := Go.Op.load 132 (Go.Operand.tmp 17), type := 132, pos := "sched.go:42", after := #[{ on := 12, ground := Go.Ground.data }, { on := 6, ground := Go.Ground.guard }], guard := some (6, true) }) (v := ?v2z13) rfl (by kernel_rfl) (by kernel_rfl) (by kernel_rfl) (fun _ _ _ h => h) (Or.inl ⟨by rfl, ?hy2z13⟩) (by assumption) ?rest2z13
        case hy2z13 => (intro w hSw; (try dsimp only at hSw); go_simp; try (with_reducible rfl))
        simp only [Act.put, List.setIfInBounds_toArray, List.set_cons_zero, List.set_cons_succ]
        refine wpAnyH_take (i := 14) (oi := { dst := some 19, op := Go.Op.fieldAddr 61 (Go.Operand.tmp 3) 1, type := 0, pos := "sched.go:42", after := #[{ on := 6, ground := Go.Ground.guard }], guard := some (6, true) }) (v := ?v2z14) rfl (by kernel_rfl) (by kernel_rfl) (by kernel_rfl) (fun _ _ _ h => h) (Or.inl ⟨by rfl, ?hy2z14⟩) (by assumption) ?rest2z14
        case hy2z14 => (intro w hSw; (try dsimp only at hSw); go_simp; try (with_reducible rfl))
        simp only [Act.put, List.setIfInBounds_toArray, List.set_cons_zero, List.set_cons_succ]
        refine wpAnyH_take (i := 15) (oi := { dst := some 20, op := Go.Op.load 3 (Go.Operand.tmp 19), type := 3, pos := "sched.go:42", after := #[{ on := 14, ground := Go.Ground.data }, { on := 6, ground := Go.Ground.guard }], guard := some (6, true) }) (v := ?v2z15) rfl (by kernel_rfl) (by kernel_rfl) (by kernel_rfl) (fun _ _ _ h => h) (Or.inl ⟨by rfl, ?hy2z15⟩) (by assumption) ?rest2z15
        case hy2z15 => (intro w hSw; (try dsimp only at hSw); go_simp; try (with_reducible rfl))
        simp only [Act.put, List.setIfInBounds_toArray, List.set_cons_zero, List.set_cons_succ]
        refine wpAnyH_take (i := 16) (oi := { dst := some 21, op := Go.Op.indexAddr 132 (Go.Operand.tmp 18) (Go.Operand.tmp 20), type := 0, pos := "sched.go:42", after := #[{ on := 13, ground := Go.Ground.data }, { on := 15, ground := Go.Ground.data }, { on := 6, ground := Go.Ground.guard }], guard := some (6, true) }) (v := ?v2z16) rfl (by kernel_rfl) (by kernel_rfl) (by kernel_rfl) (fun _ _ _ h => h) (Or.inl ⟨by rfl, ?hy2z16⟩) (by assumption) ?rest2z16
        case hy2z16 => (intro w hSw; (try dsimp only at hSw); go_simp; try (with_reducible rfl))
        simp only [Act.put, List.setIfInBounds_toArray, List.set_cons_zero, List.set_cons_succ]
        refine wpAnyH_take (i := 17) (oi := { dst := some 22, op := Go.Op.load 4 (Go.Operand.tmp 21), type := 4, pos := "sched.go:42", after := #[{ on := 16, ground := Go.Ground.data }, { on := 6, ground := Go.Ground.guard }], guard := some (6, true) }) (v := ?v2z17) rfl (by kernel_rfl) (by kernel_rfl) (by kernel_rfl) (fun _ _ _ h => h) (Or.inl ⟨by rfl, ?hy2z17⟩) (by assumption) ?rest2z17
        case hy2z17 => (intro w hSw; (try dsimp only at hSw); go_simp; try (with_reducible rfl))
        simp only [Act.put, List.setIfInBounds_toArray, List.set_cons_zero, List.set_cons_succ]
        refine wpAnyH_take (i := 18) (oi := { dst := some 23, op := Go.Op.pick (Go.Operand.tmp 11) (Go.Operand.tmp 22) (Go.Operand.const (Go.Value.bool false)), type := 4, pos := "sched.go:42", after := #[{ on := 6, ground := Go.Ground.data }, { on := 17, ground := Go.Ground.data }], guard := none }) (v := ?v2z18) rfl (by kernel_rfl) (by kernel_rfl) (by kernel_rfl) (fun _ _ _ h => h) (Or.inl ⟨by rfl, ?hy2z18⟩) (by assumption) ?rest2z18
        case hy2z18 => (intro w hSw; (try dsimp only at hSw); go_simp; try (with_reducible rfl))
        simp only [Act.put, List.setIfInBounds_toArray, List.set_cons_zero, List.set_cons_succ]
        refine wpAnyH_take (i := 19) (oi := { dst := some 24, op := Go.Op.move (Go.Operand.tmp 23), type := 4, pos := "sched.go:42", after := #[{ on := 18, ground := Go.Ground.data }, { on := 6, ground := Go.Ground.chain }], guard := none }) (v := ?v2z19) rfl (by kernel_rfl) (by kernel_rfl) (by kernel_rfl) (fun _ _ _ h => h) (Or.inl ⟨by rfl, ?hy2z19⟩) (by assumption) ?rest2z19
        case hy2z19 => (intro w hSw; (try dsimp only at hSw); go_simp; try (with_reducible rfl))
        simp only [Act.put, List.setIfInBounds_toArray, List.set_cons_zero, List.set_cons_succ]
        refine wpAnyH_take (i := 20) (oi := { dst := some 25, op := Go.Op.fieldAddr 61 (Go.Operand.tmp 3) 0, type := 0, pos := "sched.go:42", after := #[{ on := 19, ground := Go.Ground.guard }], guard := some (19, true) }) (v := undef) rfl (by kernel_rfl) (by kernel_rfl) (by kernel_rfl) (fun _ _ _ h => h) (Or.inr ⟨by rfl, rfl⟩) (by assumption) ?_
        simp only [Act.put, List.setIfInBounds_toArray, List.set_cons_zero, List.set_cons_succ]
        refine wpAnyH_take (i := 21) (oi := { dst := some 26, op := Go.Op.load 3 (Go.Operand.tmp 25), type := 3, pos := "sched.go:42", after := #[{ on := 20, ground := Go.Ground.data }, { on := 19, ground := Go.Ground.guard }], guard := some (19, true) }) (v := undef) rfl (by kernel_rfl) (by kernel_rfl) (by kernel_rfl) (fun _ _ _ h => h) (Or.inr ⟨by rfl, rfl⟩) (by assumption) ?_
        simp only [Act.put, List.setIfInBounds_toArray, List.set_cons_zero, List.set_cons_succ]
        refine wpAnyH_take (i := 22) (oi := { dst := some 27, op := Go.Op.binOp Go.BinOp.leq 3 (Go.Operand.tmp 26) (Go.Operand.const (Go.Value.int Go.IntKind.i64 60)) 3, type := 4, pos := "sched.go:42", after := #[{ on := 21, ground := Go.Ground.data }, { on := 19, ground := Go.Ground.guard }], guard := some (19, true) }) (v := undef) rfl (by kernel_rfl) (by kernel_rfl) (by kernel_rfl) (fun _ _ _ h => h) (Or.inr ⟨by rfl, rfl⟩) (by assumption) ?_
        simp only [Act.put, List.setIfInBounds_toArray, List.set_cons_zero, List.set_cons_succ]
        refine wpAnyH_take (i := 23) (oi := { dst := some 28, op := Go.Op.pick (Go.Operand.tmp 24) (Go.Operand.tmp 27) (Go.Operand.const (Go.Value.bool false)), type := 4, pos := "sched.go:42", after := #[{ on := 19, ground := Go.Ground.data }, { on := 22, ground := Go.Ground.data }], guard := none }) (v := ?v2z23) rfl (by kernel_rfl) (by kernel_rfl) (by kernel_rfl) (fun _ _ _ h => h) (Or.inl ⟨by rfl, ?hy2z23⟩) (by assumption) ?rest2z23
        case hy2z23 => (intro w hSw; (try dsimp only at hSw); go_simp; try (with_reducible rfl))
        simp only [Act.put, List.setIfInBounds_toArray, List.set_cons_zero, List.set_cons_succ]
        refine wpAnyH_take (i := 24) (oi := { dst := some 4, op := Go.Op.assign (Go.Operand.tmp 28), type := 4, pos := "sched.go:42", after := #[{ on := 23, ground := Go.Ground.data }, { on := 19, ground := Go.Ground.chain }, { on := 0, ground := Go.Ground.phase }, { on := 1, ground := Go.Ground.phase }, { on := 2, ground := Go.Ground.phase }, { on := 3, ground := Go.Ground.phase }, { on := 4, ground := Go.Ground.phase }, { on := 5, ground := Go.Ground.phase }, { on := 6, ground := Go.Ground.phase }, { on := 7, ground := Go.Ground.phase }, { on := 8, ground := Go.Ground.phase }, { on := 9, ground := Go.Ground.phase }, { on := 10, ground := Go.Ground.phase }, { on := 11, ground := Go.Ground.phase }, { on := 12, ground := Go.Ground.phase }, { on := 13, ground := Go.Ground.phase }, { on := 14, ground := Go.Ground.phase }, { on := 15, ground := Go.Ground.phase }, { on := 16, ground := Go.Ground.phase }, { on := 17, ground := Go.Ground.phase }, { on := 18, ground := Go.Ground.phase }, { on := 19, ground := Go.Ground.phase }, { on := 20, ground := Go.Ground.phase }, { on := 21, ground := Go.Ground.phase }, { on := 22, ground := Go.Ground.phase }, { on := 23, ground := Go.Ground.phase }], guard := none }) (v := ?v2z24) rfl (by kernel_rfl) (by kernel_rfl) (by kernel_rfl) (fun _ _ _ h => h) (Or.inl ⟨by rfl, ?hy2z24⟩) (by assumption) ?rest2z24
        case hy2z24 => (intro w hSw; (try dsimp only at hSw); go_simp; try (with_reducible rfl))
        simp only [Act.put, List.setIfInBounds_toArray, List.set_cons_zero, List.set_cons_succ]
        refine wpAnyH_done (by kernel_rfl) ?_ _
        go_wp2_with fail
        go_ret
        rw [HV.out]
        exact ⟨rfl, ext_trans HBW.out HB1.out⟩
      exact AllReadyH.nil
    | true =>
      rw [hk] at c5
      obtain ⟨u, hu⟩ : ∃ u, u = decide (xb ≤ 60) := ⟨_, rfl⟩
      have HV := Lib.hid (show rightB p ⟨xb, (s' : Nat), (q' : Nat)⟩ = u from by rw [HVE.out, hk, hu]; rfl)
      have hu' : decide (xb ≤ 60) = u := hu.symm
      clear hk hu
      go_enter Tryz.func161, Tryz.ntmps161
      go_wp2_with fail
      rw [← HWW.out]
      refine wp_region_held_drew (S := (fun w' => w'.cell? ⟨w.heap.size, 0, none⟩ = some (.int .i64 xb) ∧ w'.cell? ⟨w.heap.size, 1, none⟩ = some (.int .i64 (s' : Nat)) ∧ w'.cell? ⟨w.heap.size, 2, none⟩ = some (.int .i64 (q' : Nat)) ∧ w'.cell? ⟨sb, 2, none⟩ = some (.pointer (some ⟨X.wyb, 0, none⟩)) ∧ w'.cell? ⟨X.wyb, 0, none⟩ = some (.slice (some kad) p.ops.length X.kc) ∧ w'.cell? (kad.add s') = some (.bool true))) (by kernel_rfl) ?_ (fun hHeld => ?_)
      · (first | exact ⟨q0, q1, q2, q3, q4, q5⟩ | exact ⟨c0, c1, c2, c3, c4, c5⟩ | go_keep)
      refine wpAnyH_take (i := 0) (oi := { dst := some 5, op := Go.Op.move (Go.Operand.tmp 0), type := 104, pos := "sched.go:42", after := #[], guard := none }) (v := ?v3z0) rfl (by kernel_rfl) (by kernel_rfl) (by kernel_rfl) (fun _ _ _ h => h) (Or.inl ⟨by rfl, ?hy3z0⟩) (by assumption) ?rest3z0
      case hy3z0 => (intro w hSw; (try dsimp only at hSw); go_simp; try (with_reducible rfl))
      simp only [Act.put, List.setIfInBounds_toArray, List.set_cons_zero, List.set_cons_succ]
      refine wpAnyH_take (i := 1) (oi := { dst := some 6, op := Go.Op.nilCheck (Go.Operand.tmp 5), type := 0, pos := "sched.go:42", after := #[{ on := 0, ground := Go.Ground.data }], guard := none }) (v := ?v3z1) rfl (by kernel_rfl) (by kernel_rfl) (by kernel_rfl) (fun _ _ _ h => h) (Or.inl ⟨by rfl, ?hy3z1⟩) (by assumption) ?rest3z1
      case hy3z1 => (intro w hSw; (try dsimp only at hSw); go_simp; try (with_reducible rfl))
      simp only [Act.put, List.setIfInBounds_toArray, List.set_cons_zero, List.set_cons_succ]
      refine wpAnyH_take (i := 2) (oi := { dst := some 7, op := Go.Op.fieldAddr 196 (Go.Operand.tmp 6) 1, type := 0, pos := "sched.go:42", after := #[{ on := 1, ground := Go.Ground.data }], guard := none }) (v := ?v3z2) rfl (by kernel_rfl) (by kernel_rfl) (by kernel_rfl) (fun _ _ _ h => h) (Or.inl ⟨by rfl, ?hy3z2⟩) (by assumption) ?rest3z2
      case hy3z2 => (intro w hSw; (try dsimp only at hSw); go_simp; try (with_reducible rfl))
      simp only [Act.put, List.setIfInBounds_toArray, List.set_cons_zero, List.set_cons_succ]
      refine wpAnyH_take (i := 3) (oi := { dst := some 8, op := Go.Op.load 192 (Go.Operand.tmp 7), type := 192, pos := "sched.go:42", after := #[{ on := 2, ground := Go.Ground.data }], guard := none }) (v := ?v3z3) rfl (by kernel_rfl) (by kernel_rfl) (by kernel_rfl) (fun _ _ _ h => h) (Or.inl ⟨by rfl, ?hy3z3⟩) (by assumption) ?rest3z3
      case hy3z3 => (intro w hSw; (try dsimp only at hSw); go_simp; try (with_reducible rfl))
      simp only [Act.put, List.setIfInBounds_toArray, List.set_cons_zero, List.set_cons_succ]
      refine wpAnyH_take (i := 4) (oi := { dst := some 9, op := Go.Op.load 61 (Go.Operand.tmp 3), type := 61, pos := "sched.go:42", after := #[], guard := none }) (v := ?v3z4) rfl (by kernel_rfl) (by kernel_rfl) (by kernel_rfl) (fun _ _ _ h => h) (Or.inl ⟨by rfl, ?hy3z4⟩) (by assumption) ?rest3z4
      case hy3z4 => (intro w hSw; (try dsimp only at hSw); go_simp; try (with_reducible rfl))
      simp only [Act.put, List.setIfInBounds_toArray, List.set_cons_zero, List.set_cons_succ]
      refine wpAnyH_ready (rs := [5]) (by kernel_rfl) (by simp) ?_
      refine AllReadyH.cons (o := { dst := some 10, op := Go.Op.call { callee := Go.Callee.value (Go.Operand.func 209), args := #[Go.Operand.tmp 8, Go.Operand.tmp 9], argTypes := #[192, 61] }, type := 4, pos := "sched.go:42", after := #[{ on := 3, ground := Go.Ground.data }, { on := 4, ground := Go.Ground.data }], guard := none }) rfl (fun K hK => ?_) ?_
      ·
        go_simp
        go_at_call 209
        refine (has_c B X.wyb X.Rw p A X.K c X.kc ⟨xb, (s' : Nat), (q' : Nat)⟩ _ (H.out.ways.ext (below_drewN (Below.refl _ _) 1)) HP.out).mono ?_
        rw [HH.out]
        rintro e w1 ⟨rfl, hb⟩
        have HB1 := Lib.hid (show Below W.heap.size W w1 from ext_trans (below_drewN (Below.refl _ _) 1) hb)
        have q0 := (World.cell?_of_block (a := ⟨w.heap.size, 0, none⟩) (HB1.out.block _ l0)).trans c0
        have q1 := (World.cell?_of_block (a := ⟨w.heap.size, 1, none⟩) (HB1.out.block _ l0)).trans c1
        have q2 := (World.cell?_of_block (a := ⟨w.heap.size, 2, none⟩) (HB1.out.block _ l0)).trans c2
        have q3 := (World.cell?_of_block (a := ⟨sb, 2, none⟩) (HB1.out.block _ l1)).trans c3
        have q4 := (World.cell?_of_block (a := ⟨X.wyb, 0, none⟩) (HB1.out.block _ l2)).trans c4
        have q5 := (World.cell?_of_block (a := kad.add s') (HB1.out.block _ l3)).trans c5
        clear hb
        refine hK.out _ _ ?_ (fun hHeld => ?_)
        · (first | exact ⟨q0, q1, q2, q3, q4, q5⟩ | exact ⟨c0, c1, c2, c3, c4, c5⟩ | go_keep)
        clear hK K
        try simp only [Act.put, List.setIfInBounds_toArray, List.set_cons_zero, List.set_cons_succ]
        refine wpAnyH_take (i := 6) (oi := { dst := some 11, op := Go.Op.move (Go.Operand.tmp 10), type := 4, pos := "sched.go:42", after := #[{ on := 5, ground := Go.Ground.data }, { on := 5, ground := Go.Ground.chain }], guard := none }) (v := ?v3z6) rfl (by kernel_rfl) (by kernel_rfl) (by kernel_rfl) (fun _ _ _ h => h) (Or.inl ⟨by rfl, ?hy3z6⟩) (by assumption) ?rest3z6
        case hy3z6 => (intro w hSw; (try dsimp only at hSw); go_simp; try (with_reducible rfl))
        simp only [Act.put, List.setIfInBounds_toArray, List.set_cons_zero, List.set_cons_succ]
        refine wpAnyH_take (i := 7) (oi := { dst := some 12, op := Go.Op.move (Go.Operand.tmp 0), type := 104, pos := "sched.go:42", after := #[{ on := 6, ground := Go.Ground.guard }], guard := some (6, true) }) (v := ?v3z7) rfl (by kernel_rfl) (by kernel_rfl) (by kernel_rfl) (fun _ _ _ h => h) (Or.inl ⟨by rfl, ?hy3z7⟩) (by assumption) ?rest3z7
        case hy3z7 => (intro w hSw; (try dsimp only at hSw); go_simp; try (with_reducible rfl))
        simp only [Act.put, List.setIfInBounds_toArray, List.set_cons_zero, List.set_cons_succ]
        refine wpAnyH_take (i := 8) (oi := { dst := some 13, op := Go.Op.nilCheck (Go.Operand.tmp 12), type := 0, pos := "sched.go:42", after := #[{ on := 7, ground := Go.Ground.data }, { on := 6, ground := Go.Ground.guard }], guard := some (6, true) }) (v := ?v3z8) rfl (by kernel_rfl) (by kernel_rfl) (by kernel_rfl) (fun _ _ _ h => h) (Or.inl ⟨by rfl, ?hy3z8⟩) (by assumption) ?rest3z8
        case hy3z8 => (intro w hSw; (try dsimp only at hSw); go_simp; try (with_reducible rfl))
        simp only [Act.put, List.setIfInBounds_toArray, List.set_cons_zero, List.set_cons_succ]
        refine wpAnyH_take (i := 9) (oi := { dst := some 14, op := Go.Op.fieldAddr 196 (Go.Operand.tmp 13) 1, type := 0, pos := "sched.go:42", after := #[{ on := 8, ground := Go.Ground.data }, { on := 6, ground := Go.Ground.guard }], guard := some (6, true) }) (v := ?v3z9) rfl (by kernel_rfl) (by kernel_rfl) (by kernel_rfl) (fun _ _ _ h => h) (Or.inl ⟨by rfl, ?hy3z9⟩) (by assumption) ?rest3z9
        case hy3z9 => (intro w hSw; (try dsimp only at hSw); go_simp; try (with_reducible rfl))
        simp only [Act.put, List.setIfInBounds_toArray, List.set_cons_zero, List.set_cons_succ]
        refine wpAnyH_take (i := 10) (oi := { dst := some 15, op := Go.Op.load 192 (Go.Operand.tmp 14), type := 192, pos := "sched.go:42", after := #[{ on := 9, ground := Go.Ground.data }, { on := 6, ground := Go.Ground.guard }], guard := some (6, true) }) (v := ?v3z10) rfl (by kernel_rfl) (by kernel_rfl) (by kernel_rfl) (fun _ _ _ h => h) (Or.inl ⟨by rfl, ?hy3z10⟩) (by assumption) ?rest3z10
        case hy3z10 => (intro w hSw; (try dsimp only at hSw); go_simp; try (with_reducible rfl))
        simp only [Act.put, List.setIfInBounds_toArray, List.set_cons_zero, List.set_cons_succ]
        refine wpAnyH_take (i := 11) (oi := { dst := some 16, op := Go.Op.nilCheck (Go.Operand.tmp 15), type := 0, pos := "sched.go:42", after := #[{ on := 10, ground := Go.Ground.data }, { on := 6, ground := Go.Ground.guard }], guard := some (6, true) }) (v := ?v3z11) rfl (by kernel_rfl) (by kernel_rfl) (by kernel_rfl) (fun _ _ _ h => h) (Or.inl ⟨by rfl, ?hy3z11⟩) (by assumption) ?rest3z11
        case hy3z11 => (intro w hSw; (try dsimp only at hSw); go_simp; try (with_reducible rfl))
        simp only [Act.put, List.setIfInBounds_toArray, List.set_cons_zero, List.set_cons_succ]
        refine wpAnyH_take (i := 12) (oi := { dst := some 17, op := Go.Op.fieldAddr 303 (Go.Operand.tmp 16) 0, type := 0, pos := "sched.go:42", after := #[{ on := 11, ground := Go.Ground.data }, { on := 6, ground := Go.Ground.guard }], guard := some (6, true) }) (v := ?v3z12) rfl (by kernel_rfl) (by kernel_rfl) (by kernel_rfl) (fun _ _ _ h => h) (Or.inl ⟨by rfl, ?hy3z12⟩) (by assumption) ?rest3z12
        case hy3z12 => (intro w hSw; (try dsimp only at hSw); go_simp; try (with_reducible rfl))
        simp only [Act.put, List.setIfInBounds_toArray, List.set_cons_zero, List.set_cons_succ]
        refine wpAnyH_take (i := 13) (oi := { dst := some 18, op := Go.Op.load 132 (Go.Operand.tmp 17), type := 132, pos := "sched.go:42", after := #[{ on := 12, ground := Go.Ground.data }, { on := 6, ground := Go.Ground.guard }], guard := some (6, true) }) (v := ?v3z13) rfl (by kernel_rfl) (by kernel_rfl) (by kernel_rfl) (fun _ _ _ h => h) (Or.inl ⟨by rfl, ?hy3z13⟩) (by assumption) ?rest3z13
        case hy3z13 => (intro w hSw; (try dsimp only at hSw); go_simp; try (with_reducible rfl))
        simp only [Act.put, List.setIfInBounds_toArray, List.set_cons_zero, List.set_cons_succ]
        refine wpAnyH_take (i := 14) (oi := { dst := some 19, op := Go.Op.fieldAddr 61 (Go.Operand.tmp 3) 1, type := 0, pos := "sched.go:42", after := #[{ on := 6, ground := Go.Ground.guard }], guard := some (6, true) }) (v := ?v3z14) rfl (by kernel_rfl) (by kernel_rfl) (by kernel_rfl) (fun _ _ _ h => h) (Or.inl ⟨by rfl, ?hy3z14⟩) (by assumption) ?rest3z14
        case hy3z14 => (intro w hSw; (try dsimp only at hSw); go_simp; try (with_reducible rfl))
        simp only [Act.put, List.setIfInBounds_toArray, List.set_cons_zero, List.set_cons_succ]
        refine wpAnyH_take (i := 15) (oi := { dst := some 20, op := Go.Op.load 3 (Go.Operand.tmp 19), type := 3, pos := "sched.go:42", after := #[{ on := 14, ground := Go.Ground.data }, { on := 6, ground := Go.Ground.guard }], guard := some (6, true) }) (v := ?v3z15) rfl (by kernel_rfl) (by kernel_rfl) (by kernel_rfl) (fun _ _ _ h => h) (Or.inl ⟨by rfl, ?hy3z15⟩) (by assumption) ?rest3z15
        case hy3z15 => (intro w hSw; (try dsimp only at hSw); go_simp; try (with_reducible rfl))
        simp only [Act.put, List.setIfInBounds_toArray, List.set_cons_zero, List.set_cons_succ]
        refine wpAnyH_take (i := 16) (oi := { dst := some 21, op := Go.Op.indexAddr 132 (Go.Operand.tmp 18) (Go.Operand.tmp 20), type := 0, pos := "sched.go:42", after := #[{ on := 13, ground := Go.Ground.data }, { on := 15, ground := Go.Ground.data }, { on := 6, ground := Go.Ground.guard }], guard := some (6, true) }) (v := ?v3z16) rfl (by kernel_rfl) (by kernel_rfl) (by kernel_rfl) (fun _ _ _ h => h) (Or.inl ⟨by rfl, ?hy3z16⟩) (by assumption) ?rest3z16
        case hy3z16 => (intro w hSw; (try dsimp only at hSw); go_simp; try (with_reducible rfl))
        simp only [Act.put, List.setIfInBounds_toArray, List.set_cons_zero, List.set_cons_succ]
        refine wpAnyH_take (i := 17) (oi := { dst := some 22, op := Go.Op.load 4 (Go.Operand.tmp 21), type := 4, pos := "sched.go:42", after := #[{ on := 16, ground := Go.Ground.data }, { on := 6, ground := Go.Ground.guard }], guard := some (6, true) }) (v := ?v3z17) rfl (by kernel_rfl) (by kernel_rfl) (by kernel_rfl) (fun _ _ _ h => h) (Or.inl ⟨by rfl, ?hy3z17⟩) (by assumption) ?rest3z17
        case hy3z17 => (intro w hSw; (try dsimp only at hSw); go_simp; try (with_reducible rfl))
        simp only [Act.put, List.setIfInBounds_toArray, List.set_cons_zero, List.set_cons_succ]
        refine wpAnyH_take (i := 18) (oi := { dst := some 23, op := Go.Op.pick (Go.Operand.tmp 11) (Go.Operand.tmp 22) (Go.Operand.const (Go.Value.bool false)), type := 4, pos := "sched.go:42", after := #[{ on := 6, ground := Go.Ground.data }, { on := 17, ground := Go.Ground.data }], guard := none }) (v := ?v3z18) rfl (by kernel_rfl) (by kernel_rfl) (by kernel_rfl) (fun _ _ _ h => h) (Or.inl ⟨by rfl, ?hy3z18⟩) (by assumption) ?rest3z18
        case hy3z18 => (intro w hSw; (try dsimp only at hSw); go_simp; try (with_reducible rfl))
        simp only [Act.put, List.setIfInBounds_toArray, List.set_cons_zero, List.set_cons_succ]
        refine wpAnyH_take (i := 19) (oi := { dst := some 24, op := Go.Op.move (Go.Operand.tmp 23), type := 4, pos := "sched.go:42", after := #[{ on := 18, ground := Go.Ground.data }, { on := 6, ground := Go.Ground.chain }], guard := none }) (v := ?v3z19) rfl (by kernel_rfl) (by kernel_rfl) (by kernel_rfl) (fun _ _ _ h => h) (Or.inl ⟨by rfl, ?hy3z19⟩) (by assumption) ?rest3z19
        case hy3z19 => (intro w hSw; (try dsimp only at hSw); go_simp; try (with_reducible rfl))
        simp only [Act.put, List.setIfInBounds_toArray, List.set_cons_zero, List.set_cons_succ]
        refine wpAnyH_take (i := 20) (oi := { dst := some 25, op := Go.Op.fieldAddr 61 (Go.Operand.tmp 3) 0, type := 0, pos := "sched.go:42", after := #[{ on := 19, ground := Go.Ground.guard }], guard := some (19, true) }) (v := ?v3z20) rfl (by kernel_rfl) (by kernel_rfl) (by kernel_rfl) (fun _ _ _ h => h) (Or.inl ⟨by rfl, ?hy3z20⟩) (by assumption) ?rest3z20
        case hy3z20 => (intro w hSw; (try dsimp only at hSw); go_simp; try (with_reducible rfl))
        simp only [Act.put, List.setIfInBounds_toArray, List.set_cons_zero, List.set_cons_succ]
        refine wpAnyH_take (i := 21) (oi := { dst := some 26, op := Go.Op.load 3 (Go.Operand.tmp 25), type := 3, pos := "sched.go:42", after := #[{ on := 20, ground := Go.Ground.data }, { on := 19, ground := Go.Ground.guard }], guard := some (19, true) }) (v := ?v3z21) rfl (by kernel_rfl) (by kernel_rfl) (by kernel_rfl) (fun _ _ _ h => h) (Or.inl ⟨by rfl, ?hy3z21⟩) (by assumption) ?rest3z21
        case hy3z21 => (intro w hSw; (try dsimp only at hSw); go_simp; try (with_reducible rfl))
        simp only [Act.put, List.setIfInBounds_toArray, List.set_cons_zero, List.set_cons_succ]
        refine wpAnyH_take (i := 22) (oi := { dst := some 27, op := Go.Op.binOp Go.BinOp.leq 3 (Go.Operand.tmp 26) (Go.Operand.const (Go.Value.int Go.IntKind.i64 60)) 3, type := 4, pos := "sched.go:42", after := #[{ on := 21, ground := Go.Ground.data }, { on := 19, ground := Go.Ground.guard }], guard := some (19, true) }) (v := ?v3z22) rfl (by kernel_rfl) (by kernel_rfl) (by kernel_rfl) (fun _ _ _ h => h) (Or.inl ⟨by rfl, ?hy3z22⟩) (by assumption) ?rest3z22
        case hy3z22 => (intro w hSw; (try dsimp only at hSw); go_simp; try (with_reducible rfl))
        simp only [Act.put, List.setIfInBounds_toArray, List.set_cons_zero, List.set_cons_succ]
        refine wpAnyH_take (i := 23) (oi := { dst := some 28, op := Go.Op.pick (Go.Operand.tmp 24) (Go.Operand.tmp 27) (Go.Operand.const (Go.Value.bool false)), type := 4, pos := "sched.go:42", after := #[{ on := 19, ground := Go.Ground.data }, { on := 22, ground := Go.Ground.data }], guard := none }) (v := ?v3z23) rfl (by kernel_rfl) (by kernel_rfl) (by kernel_rfl) (fun _ _ _ h => h) (Or.inl ⟨by rfl, ?hy3z23⟩) (by assumption) ?rest3z23
        case hy3z23 => (intro w hSw; (try dsimp only at hSw); go_simp; try (with_reducible rfl))
        simp only [Act.put, List.setIfInBounds_toArray, List.set_cons_zero, List.set_cons_succ]
        refine wpAnyH_take (i := 24) (oi := { dst := some 4, op := Go.Op.assign (Go.Operand.tmp 28), type := 4, pos := "sched.go:42", after := #[{ on := 23, ground := Go.Ground.data }, { on := 19, ground := Go.Ground.chain }, { on := 0, ground := Go.Ground.phase }, { on := 1, ground := Go.Ground.phase }, { on := 2, ground := Go.Ground.phase }, { on := 3, ground := Go.Ground.phase }, { on := 4, ground := Go.Ground.phase }, { on := 5, ground := Go.Ground.phase }, { on := 6, ground := Go.Ground.phase }, { on := 7, ground := Go.Ground.phase }, { on := 8, ground := Go.Ground.phase }, { on := 9, ground := Go.Ground.phase }, { on := 10, ground := Go.Ground.phase }, { on := 11, ground := Go.Ground.phase }, { on := 12, ground := Go.Ground.phase }, { on := 13, ground := Go.Ground.phase }, { on := 14, ground := Go.Ground.phase }, { on := 15, ground := Go.Ground.phase }, { on := 16, ground := Go.Ground.phase }, { on := 17, ground := Go.Ground.phase }, { on := 18, ground := Go.Ground.phase }, { on := 19, ground := Go.Ground.phase }, { on := 20, ground := Go.Ground.phase }, { on := 21, ground := Go.Ground.phase }, { on := 22, ground := Go.Ground.phase }, { on := 23, ground := Go.Ground.phase }], guard := none }) (v := ?v3z24) rfl (by kernel_rfl) (by kernel_rfl) (by kernel_rfl) (fun _ _ _ h => h) (Or.inl ⟨by rfl, ?hy3z24⟩) (by assumption) ?rest3z24
        case hy3z24 => (intro w hSw; (try dsimp only at hSw); go_simp; try (with_reducible rfl))
        simp only [Act.put, List.setIfInBounds_toArray, List.set_cons_zero, List.set_cons_succ]
        refine wpAnyH_done (by kernel_rfl) ?_ _
        go_wp2_with fail
        go_ret
        rw [HV.out]
        exact ⟨rfl, ext_trans HBW.out HB1.out⟩
      exact AllReadyH.nil
end
end Go.Proofs.YtlmjjhenoadndaaGreatDoor

/- Who holds what: slices.Contains of ints; Saved of the program. -/
namespace Go.Proofs.YtlmjjhenoadndaaGreatDoor
open Go.RowKit Go.Sort

set_option maxRecDepth 100000 in
set_option maxHeartbeats 2000000 in
theorem indexI_c (B : Nat) (l : List Nat) (A : Option Addr) (c : Nat) (x : Int) (w : World) (h : Rd w B 3 1 A l.length (intsC l)) (hl : l.length ≤ 1000000) :
    Calls Tryz.prog 194 #[.slice A l.length c, .int .i64 x] w (fun e w' => (∃ n : Int, e = .returned (.int .i64 n) ∧ ((0 ≤ n) ↔ ∃ m ∈ l, x = ((m : Nat) : Int))) ∧ w = w') := by
  have HL := Lib.hid h
  clear h
  go_enter Tryz.func194, Tryz.ntmps194
  go_wp2_with fail
  go_loopg [8] l.length (fun gk v8 wr => ∃ i : Nat, i + gk = l.length ∧ v8 = .int .i64 (i : Nat) ∧ Hid (∀ m ∈ l.take i, x ≠ ((m : Nat) : Int)) ∧ w = wr)
  case atStart => exact ⟨0, by simp, rfl, Lib.hid (by simp), rfl⟩
  case round =>
    obtain ⟨i, hik, rfl, hnot, rfl⟩ := hrel
    by_cases hi : i < l.length
    · have hy : l[i]? = some (l[i]) := List.getElem?_eq_getElem hi
      generalize l[i] = y at hy
      obtain ⟨ad, hA, hc⟩ := HL.out.cell (by omega)
      subst hA
      have d0 := hc i (.int .i64 (y : Nat)) (by unfold intsC; rw [List.getElem?_map, hy]; rfl)
      have hiI : (i : Int) < (l.length : Nat) := by omega
      have HY := Lib.hid hy
      clear hy hc
      cases hyx : (x == ((y : Nat) : Int)) with
      | true =>
        have HE := Lib.hid (show ∃ m ∈ l, x = ((m : Nat) : Int) from ⟨y, List.mem_of_getElem? HY.out, beq_iff_eq.1 hyx⟩)
        go_wp2_with fail
        go_ret
        exact ⟨⟨_, rfl, ⟨fun _ => HE.out, fun _ => by omega⟩⟩, rfl⟩
      | false =>
        have HE := Lib.hid (beq_eq_false_iff_ne.1 hyx)
        go_wp2_with fail
        go_roundg (gk - 1)
        case measure => omega
        case rel => exact ⟨i + 1, by omega, by go_num, Lib.hid (by rw [take_succ_of HY.out]; intro m hm; rcases List.mem_append.1 hm with h1 | h1; exact hnot.out m h1; rw [List.mem_singleton] at h1; rw [h1]; exact HE.out), rfl⟩
    · have hil : i = l.length := by omega
      subst hil
      have hn := hnot.out
      rw [List.take_length] at hn
      have HN := Lib.hid hn
      clear hn
      go_wp2_with fail
      go_ret
      exact ⟨⟨_, rfl, ⟨fun h => by omega, fun ⟨m, hm, e⟩ => absurd e (HN.out m hm)⟩⟩, rfl⟩
theorem idx_not {n : Int} {l : List Nat} {s : Nat} (hn : (0 ≤ n) ↔ ∃ m ∈ l, ((s : Nat) : Int) = ((m : Nat) : Int)) (hm : s ∉ l) : ¬ 0 ≤ n := fun h => by
  obtain ⟨m, h1, h2⟩ := hn.1 h
  exact hm ((show s = m by omega) ▸ h1)
set_option maxHeartbeats 2000000 in
theorem containsI_c (B : Nat) (l : List Nat) (A : Option Addr) (c : Nat) (s : Nat) (w : World) (h : Rd w B 3 1 A l.length (intsC l)) (hl : l.length ≤ 1000000) :
    Calls Tryz.prog 149 #[.slice A l.length c, .int .i64 (s : Nat)] w (Val w (.bool (decide (s ∈ l)))) := by
  have HL := Lib.hid h
  clear h
  by_cases hm : s ∈ l
  · have HM := Lib.hid hm
    have HD := Lib.hid (show decide (s ∈ l) = true from decide_eq_true hm)
    clear hm
    go_enter Tryz.func149, Tryz.ntmps149
    go_wp2_with (first
      | (go_at_call 194; refine (indexI_c B l A c _ _ HL.out hl).mono ?_; rintro e w1 ⟨⟨n, rfl, hn⟩, rfl⟩; have hn0 : 0 ≤ n := hn.2 ⟨s, HM.out, rfl⟩; clear hn))
    go_ret
    rw [HD.out]
    exact ⟨rfl, rfl⟩
  · have HM := Lib.hid hm
    have HD := Lib.hid (show decide (s ∈ l) = false from decide_eq_false hm)
    clear hm
    go_enter Tryz.func149, Tryz.ntmps149
    go_wp2_with (first
      | (go_at_call 194; refine (indexI_c B l A c _ _ HL.out hl).mono ?_; rintro e w1 ⟨⟨n, rfl, hn⟩, rfl⟩; have hn0 : ¬ 0 ≤ n := idx_not hn HM.out; have HN := Lib.hid (show decide (0 ≤ n) = false from decide_eq_false hn0); clear hn hn0))
    go_ret
    rw [HD.out]
    exact ⟨by rw [← HN.out]; rfl, rfl⟩
def savedIns (l : List Id3) (x : Id3) : List Id3 := if x ∈ l then l else l ++ [x]
theorem savedIns_mset (l : List Id3) (x : Id3) : (savedIns l x).map (fun y => (y, (.int .i64 1 : Value))) = mset (l.map fun y => (y, (.int .i64 1 : Value))) x (.int .i64 1) := by
  unfold savedIns mset
  rw [List.map_map]
  have e : l.map ((·.1) ∘ fun y : Id3 => (y, (.int .i64 1 : Value))) = l := by
    rw [show ((·.1) ∘ fun y : Id3 => (y, (.int .i64 1 : Value))) = id from rfl, List.map_id]
  rw [e]
  split
  · rw [List.map_map]
    apply List.map_congr_left
    intro y _
    simp only [Function.comp]
    split
    · next h => rw [h]
    · rfl
  · rw [List.map_append]; rfl
def SchedD.save (s : SchedD) (p : PlanD) (x : Id3) : SchedD := if rightB p x = true ∧ x.s.toNat ∈ statesL p.ops then ⟨s.every, s.known, s.holds, savedIns s.saved x⟩ else s
section
variable {B sb : Nat} {R : Nat → Prop} {p : PlanD} {A : Option Addr} {c : Nat} {X : SchX} {s : SchedD} {w w' : World}
theorem SchedAt.saves (h : SchedAt B sb R p A c X s w) {x : Id3} (hm : MapIs idV w' X.vb (mset (s.saved.map fun y => (y, (.int .i64 1 : Value))) x (.int .i64 1))) (hg : w.grownBy w' (some X.vb)) (hs : w'.heap.size = w.heap.size) : SchedAt B sb R p A c X ⟨s.every, s.known, s.holds, savedIns s.saved x⟩ w' := by
  have hf := Fr.map_ hg
  have hvR := h.rb X.vb (.inr (.inl rfl))
  have hBs := (h.bd _ hvR.1).1
  have hne : ∀ {cs t}, ∀ g, Bk w g t cs → ¬ g = X.vb := fun g hb e => h.sv.ne_cells hb e.symm
  exact ⟨h.bk.fr hf (hne _ h.bk), h.ways.fr hf (fun k hk e => hvR.2 (e ▸ hk)) (fun k hk e => by omega), own_fr h.st hf (fun k hk e => by
      obtain ⟨cs, hb⟩ : ∃ cs, Bk w k 3 cs := by
        rcases h.st.2 with ⟨hv, _⟩ | ⟨g, cp, cur, hv, _, hh, _⟩
        · rw [hv] at hk; cases hk
        · rw [hv] at hk; injection hk with hk; subst hk; exact ⟨cur, hh⟩
      exact hne _ hb e), h.hold.fr hf (fun e => h.hv e), h.hl, fun y hy => (h.inn y hy).fr hf (h.hi y hy).2, h.nd, by rw [savedIns_mset]; exact hm, h.hv, h.hi, h.rs, h.rb, h.rw_, h.rt, fun k hk => by rw [hs]; exact h.bd k hk, h.known, h.every, h.plan⟩
theorem statesL_len (ops : List OpD) : (statesL ops).length ≤ ops.length := by
  unfold statesL
  refine Nat.le_trans (List.length_filter_le _ _) ?_
  simp
end
end Go.Proofs.YtlmjjhenoadndaaGreatDoor

/- Who holds what: Saved of the program. -/
namespace Go.Proofs.YtlmjjhenoadndaaGreatDoor
open Go.RowKit Go.Sort

section
variable {B sb : Nat} {R : Nat → Prop} {p : PlanD} {A : Option Addr} {c : Nat} {s : SchedD}
set_option maxRecDepth 100000 in
set_option maxHeartbeats 8000000 in
theorem saved_c (x : Id3) (w : World) (h : SchedIs B sb R p A c s w) : Calls Tryz.prog 111 #[.pointer (some ⟨sb, 0, none⟩), idV x] w (STurn B sb R p A c (s.save p x) w) := by
  obtain ⟨X, h⟩ := h
  have hn12 := (shaped_check h.plan).n12
  have hsl := statesL_len p.ops
  obtain ⟨xb, xs, xp⟩ := x
  obtain ⟨W, hW⟩ : ∃ W, W = w.alloc (.cells #[.int .i64 xb, .int .i64 xs, .int .i64 xp] 61 (0, 0)) := ⟨_, rfl⟩
  have HBW := Lib.hid (show Below w.heap.size w W from by rw [hW]; exact ext_alloc (Below.refl _ _) _)
  have HXW := Lib.hid (show Bk W w.heap.size 61 #[.int .i64 xb, .int .i64 xs, .int .i64 xp] from by rw [hW]; exact Bk.new _ _ _)
  have H := Lib.hid (h.ext HBW.out)
  have HWW := Lib.hid hW
  have hhl : (statesL p.ops).length ≤ 1000000 := by omega
  clear h hW
  have c0 : W.cell? ⟨w.heap.size, 0, none⟩ = some (.int .i64 xb) := (HXW.out.cell 0).trans rfl
  have c1 : W.cell? ⟨w.heap.size, 1, none⟩ = some (.int .i64 xs) := (HXW.out.cell 1).trans rfl
  have c2 : W.cell? ⟨w.heap.size, 2, none⟩ = some (.int .i64 xp) := (HXW.out.cell 2).trans rfl
  have c3 : W.cell? ⟨sb, 3, none⟩ = some (.slice X.sA (statesL p.ops).length X.sc) := (H.out.bk.cell 3).trans rfl
  have c4 : W.cell? ⟨sb, 6, none⟩ = some (.map (some X.vb)) := (H.out.bk.cell 6).trans rfl
  have l0 := HXW.out.lt
  have l1 := H.out.bk.lt
  cases hh : rightB p ⟨xb, xs, xp⟩ with
  | false =>
    have HH := Lib.hid hh
    have HV := Lib.hid (show s.save p ⟨xb, xs, xp⟩ = s from by unfold SchedD.save; rw [hh]; simp)
    clear hh
    go_enter Tryz.func111, Tryz.ntmps111
    go_wp2_with fail
    rw [← HWW.out]
    refine wp_region_held_drew (S := (fun w' => w'.cell? ⟨w.heap.size, 0, none⟩ = some (.int .i64 xb) ∧ w'.cell? ⟨w.heap.size, 1, none⟩ = some (.int .i64 xs) ∧ w'.cell? ⟨w.heap.size, 2, none⟩ = some (.int .i64 xp))) (by kernel_rfl) ?_ (fun hHeld => ?_)
    · (first | exact ⟨q0, q1, q2⟩ | exact ⟨c0, c1, c2⟩ | go_keep)
    refine wpAnyH_take (i := 0) (oi := { dst := some 4, op := Go.Op.move (Go.Operand.tmp 0), type := 104, pos := "sched.go:78", after := #[], guard := none }) (v := ?v1z0) rfl (by kernel_rfl) (by kernel_rfl) (by kernel_rfl) (fun _ _ _ h => h) (Or.inl ⟨by rfl, ?hy1z0⟩) (by assumption) ?rest1z0
    case hy1z0 => (intro w hSw; (try dsimp only at hSw); go_simp; try (with_reducible rfl))
    simp only [Act.put, List.setIfInBounds_toArray, List.set_cons_zero, List.set_cons_succ]
    refine wpAnyH_take (i := 1) (oi := { dst := some 5, op := Go.Op.load 61 (Go.Operand.tmp 3), type := 61, pos := "sched.go:78", after := #[], guard := none }) (v := ?v1z1) rfl (by kernel_rfl) (by kernel_rfl) (by kernel_rfl) (fun _ _ _ h => h) (Or.inl ⟨by rfl, ?hy1z1⟩) (by assumption) ?rest1z1
    case hy1z1 => (intro w hSw; (try dsimp only at hSw); go_simp; try (with_reducible rfl))
    simp only [Act.put, List.setIfInBounds_toArray, List.set_cons_zero, List.set_cons_succ]
    refine wpAnyH_ready (rs := [2]) (by kernel_rfl) (by simp) ?_
    refine AllReadyH.cons (o := { dst := some 6, op := Go.Op.call { callee := Go.Callee.value (Go.Operand.func 161), args := #[Go.Operand.tmp 4, Go.Operand.tmp 5], argTypes := #[104, 61] }, type := 4, pos := "sched.go:78", after := #[{ on := 0, ground := Go.Ground.data }, { on := 1, ground := Go.Ground.data }], guard := none }) rfl (fun K hK => ?_) ?_
    ·
      go_simp
      go_at_call 161
      refine (sright_c (B := B) (R := R) (p := p) (A := A) (c := c) (s := s) ⟨xb, xs, xp⟩ _ ⟨X, H.out.ext (below_drewN (Below.refl _ _) 1)⟩).mono ?_
      rw [HH.out]
      rintro e w1 ⟨rfl, hb⟩
      have HB1 := Lib.hid (show Below W.heap.size W w1 from ext_trans (below_drewN (Below.refl _ _) 1) hb)
      have q0 := (World.cell?_of_block (a := ⟨w.heap.size, 0, none⟩) (HB1.out.block _ l0)).trans c0
      have q1 := (World.cell?_of_block (a := ⟨w.heap.size, 1, none⟩) (HB1.out.block _ l0)).trans c1
      have q2 := (World.cell?_of_block (a := ⟨w.heap.size, 2, none⟩) (HB1.out.block _ l0)).trans c2
      clear hb
      refine hK.out _ _ ?_ (fun hHeld => ?_)
      · (first | exact ⟨q0, q1, q2⟩ | exact ⟨c0, c1, c2⟩ | go_keep)
      clear hK K
      try simp only [Act.put, List.setIfInBounds_toArray, List.set_cons_zero, List.set_cons_succ]
      refine wpAnyH_take (i := 3) (oi := { dst := some 7, op := Go.Op.move (Go.Operand.tmp 6), type := 4, pos := "sched.go:78", after := #[{ on := 2, ground := Go.Ground.data }, { on := 2, ground := Go.Ground.chain }], guard := none }) (v := ?v1z3) rfl (by kernel_rfl) (by kernel_rfl) (by kernel_rfl) (fun _ _ _ h => h) (Or.inl ⟨by rfl, ?hy1z3⟩) (by assumption) ?rest1z3
      case hy1z3 => (intro w hSw; (try dsimp only at hSw); go_simp; try (with_reducible rfl))
      simp only [Act.put, List.setIfInBounds_toArray, List.set_cons_zero, List.set_cons_succ]
      refine wpAnyH_take (i := 4) (oi := { dst := some 8, op := Go.Op.move (Go.Operand.tmp 0), type := 104, pos := "sched.go:78", after := #[{ on := 3, ground := Go.Ground.guard }], guard := some (3, true) }) (v := undef) rfl (by kernel_rfl) (by kernel_rfl) (by kernel_rfl) (fun _ _ _ h => h) (Or.inr ⟨by rfl, rfl⟩) (by assumption) ?_
      simp only [Act.put, List.setIfInBounds_toArray, List.set_cons_zero, List.set_cons_succ]
      refine wpAnyH_take (i := 5) (oi := { dst := some 9, op := Go.Op.nilCheck (Go.Operand.tmp 8), type := 0, pos := "sched.go:78", after := #[{ on := 4, ground := Go.Ground.data }, { on := 3, ground := Go.Ground.guard }], guard := some (3, true) }) (v := undef) rfl (by kernel_rfl) (by kernel_rfl) (by kernel_rfl) (fun _ _ _ h => h) (Or.inr ⟨by rfl, rfl⟩) (by assumption) ?_
      simp only [Act.put, List.setIfInBounds_toArray, List.set_cons_zero, List.set_cons_succ]
      refine wpAnyH_take (i := 6) (oi := { dst := some 10, op := Go.Op.fieldAddr 196 (Go.Operand.tmp 9) 2, type := 0, pos := "sched.go:78", after := #[{ on := 5, ground := Go.Ground.data }, { on := 3, ground := Go.Ground.guard }], guard := some (3, true) }) (v := undef) rfl (by kernel_rfl) (by kernel_rfl) (by kernel_rfl) (fun _ _ _ h => h) (Or.inr ⟨by rfl, rfl⟩) (by assumption) ?_
      simp only [Act.put, List.setIfInBounds_toArray, List.set_cons_zero, List.set_cons_succ]
      refine wpAnyH_take (i := 7) (oi := { dst := some 11, op := Go.Op.load 55 (Go.Operand.tmp 10), type := 55, pos := "sched.go:78", after := #[{ on := 6, ground := Go.Ground.data }, { on := 3, ground := Go.Ground.guard }], guard := some (3, true) }) (v := undef) rfl (by kernel_rfl) (by kernel_rfl) (by kernel_rfl) (fun _ _ _ h => h) (Or.inr ⟨by rfl, rfl⟩) (by assumption) ?_
      simp only [Act.put, List.setIfInBounds_toArray, List.set_cons_zero, List.set_cons_succ]
      refine wpAnyH_take (i := 8) (oi := { dst := some 12, op := Go.Op.fieldAddr 61 (Go.Operand.tmp 3) 1, type := 0, pos := "sched.go:78", after := #[{ on := 3, ground := Go.Ground.guard }], guard := some (3, true) }) (v := undef) rfl (by kernel_rfl) (by kernel_rfl) (by kernel_rfl) (fun _ _ _ h => h) (Or.inr ⟨by rfl, rfl⟩) (by assumption) ?_
      simp only [Act.put, List.setIfInBounds_toArray, List.set_cons_zero, List.set_cons_succ]
      refine wpAnyH_take (i := 9) (oi := { dst := some 13, op := Go.Op.load 3 (Go.Operand.tmp 12), type := 3, pos := "sched.go:78", after := #[{ on := 8, ground := Go.Ground.data }, { on := 3, ground := Go.Ground.guard }], guard := some (3, true) }) (v := undef) rfl (by kernel_rfl) (by kernel_rfl) (by kernel_rfl) (fun _ _ _ h => h) (Or.inr ⟨by rfl, rfl⟩) (by assumption) ?_
      simp only [Act.put, List.setIfInBounds_toArray, List.set_cons_zero, List.set_cons_succ]
      refine wpAnyH_ready (rs := [10]) (by kernel_rfl) (by simp) ?_
      refine AllReadyH.cons (o := { dst := some 14, op := Go.Op.call { callee := Go.Callee.value (Go.Operand.func 149), args := #[Go.Operand.tmp 11, Go.Operand.tmp 13], argTypes := #[55, 3] }, type := 4, pos := "sched.go:78", after := #[{ on := 7, ground := Go.Ground.data }, { on := 9, ground := Go.Ground.data }, { on := 3, ground := Go.Ground.chain }, { on := 3, ground := Go.Ground.guard }], guard := some (3, true) }) rfl (fun K hK => ?_) ?_
      ·
        rw [if_neg (by rw [show Region.wanted _ _ = false from rfl]; simp)]
        refine hK.out _ _ ?_ (fun hHeld => ?_)
        · (first | exact ⟨q0, q1, q2⟩ | exact ⟨c0, c1, c2⟩ | go_keep)
        clear hK K
        try simp only [Act.put, List.setIfInBounds_toArray, List.set_cons_zero, List.set_cons_succ]
        refine wpAnyH_take (i := 11) (oi := { dst := some 15, op := Go.Op.pick (Go.Operand.tmp 7) (Go.Operand.tmp 14) (Go.Operand.const (Go.Value.bool false)), type := 4, pos := "sched.go:78", after := #[{ on := 3, ground := Go.Ground.data }, { on := 10, ground := Go.Ground.data }], guard := none }) (v := ?v1z11) rfl (by kernel_rfl) (by kernel_rfl) (by kernel_rfl) (fun _ _ _ h => h) (Or.inl ⟨by rfl, ?hy1z11⟩) (by assumption) ?rest1z11
        case hy1z11 => (intro w hSw; (try dsimp only at hSw); go_simp; try (with_reducible rfl))
        simp only [Act.put, List.setIfInBounds_toArray, List.set_cons_zero, List.set_cons_succ]
        refine wpAnyH_done (by kernel_rfl) ?_ _
        go_wp2_with fail
        go_returns
        rw [HV.out]
        exact ⟨rfl, R, ⟨X, H.out.ext HB1.out⟩, Fr.of_below (ext_trans HBW.out HB1.out), fun k hk => .inl hk⟩
      exact AllReadyH.nil
    exact AllReadyH.nil
  | true =>
    have HH := Lib.hid hh
    have hhas : hasB p ⟨xb, xs, xp⟩ = true := by unfold rightB at hh; simp only [Bool.and_eq_true] at hh; exact hh.1
    obtain ⟨hb1, s', q', hs', hq', hsl', hql⟩ := hasB_spec hhas
    simp only at hs' hq' hb1
    subst hs' hq'
    obtain ⟨u, hu⟩ : ∃ u, u = decide (s' ∈ statesL p.ops) := ⟨_, rfl⟩
    have HU := Lib.hid hu
    have HSv := Lib.hid (show s.save p ⟨xb, (s' : Nat), (q' : Nat)⟩ = if u = true then ⟨s.every, s.known, s.holds, savedIns s.saved ⟨xb, (s' : Nat), (q' : Nat)⟩⟩ else s from by
      unfold SchedD.save
      rw [hh, hu]
      simp)
    clear hh hhas hu
    cases hu : u with
    | true =>
      rw [hu] at HSv HU
      clear hu
      go_enter Tryz.func111, Tryz.ntmps111
      go_wp2_with fail
      rw [← HWW.out]
      refine wp_region_held_drew (S := (fun w' => w'.cell? ⟨w.heap.size, 0, none⟩ = some (.int .i64 xb) ∧ w'.cell? ⟨w.heap.size, 1, none⟩ = some (.int .i64 (s' : Nat)) ∧ w'.cell? ⟨w.heap.size, 2, none⟩ = some (.int .i64 (q' : Nat)) ∧ w'.cell? ⟨sb, 3, none⟩ = some (.slice X.sA (statesL p.ops).length X.sc))) (by kernel_rfl) ?_ (fun hHeld => ?_)
      · (first | exact ⟨q0, q1, q2, q3⟩ | exact ⟨c0, c1, c2, c3⟩ | go_keep)
      refine wpAnyH_take (i := 0) (oi := { dst := some 4, op := Go.Op.move (Go.Operand.tmp 0), type := 104, pos := "sched.go:78", after := #[], guard := none }) (v := ?v2z0) rfl (by kernel_rfl) (by kernel_rfl) (by kernel_rfl) (fun _ _ _ h => h) (Or.inl ⟨by rfl, ?hy2z0⟩) (by assumption) ?rest2z0
      case hy2z0 => (intro w hSw; (try dsimp only at hSw); go_simp; try (with_reducible rfl))
      simp only [Act.put, List.setIfInBounds_toArray, List.set_cons_zero, List.set_cons_succ]
      refine wpAnyH_take (i := 1) (oi := { dst := some 5, op := Go.Op.load 61 (Go.Operand.tmp 3), type := 61, pos := "sched.go:78", after := #[], guard := none }) (v := ?v2z1) rfl (by kernel_rfl) (by kernel_rfl) (by kernel_rfl) (fun _ _ _ h => h) (Or.inl ⟨by rfl, ?hy2z1⟩) (by assumption) ?rest2z1
      case hy2z1 => (intro w hSw; (try dsimp only at hSw); go_simp; try (with_reducible rfl))
      simp only [Act.put, List.setIfInBounds_toArray, List.set_cons_zero, List.set_cons_succ]
      refine wpAnyH_ready (rs := [2]) (by kernel_rfl) (by simp) ?_
      refine AllReadyH.cons (o := { dst := some 6, op := Go.Op.call { callee := Go.Callee.value (Go.Operand.func 161), args := #[Go.Operand.tmp 4, Go.Operand.tmp 5], argTypes := #[104, 61] }, type := 4, pos := "sched.go:78", after := #[{ on := 0, ground := Go.Ground.data }, { on := 1, ground := Go.Ground.data }], guard := none }) rfl (fun K hK => ?_) ?_
      ·
        go_simp
        go_at_call 161
        refine (sright_c (B := B) (R := R) (p := p) (A := A) (c := c) (s := s) ⟨xb, (s' : Nat), (q' : Nat)⟩ _ ⟨X, H.out.ext (below_drewN (Below.refl _ _) 1)⟩).mono ?_
        rw [HH.out]
        rintro e w1 ⟨rfl, hb⟩
        have HB1 := Lib.hid (show Below W.heap.size W w1 from ext_trans (below_drewN (Below.refl _ _) 1) hb)
        have q0 := (World.cell?_of_block (a := ⟨w.heap.size, 0, none⟩) (HB1.out.block _ l0)).trans c0
        have q1 := (World.cell?_of_block (a := ⟨w.heap.size, 1, none⟩) (HB1.out.block _ l0)).trans c1
        have q2 := (World.cell?_of_block (a := ⟨w.heap.size, 2, none⟩) (HB1.out.block _ l0)).trans c2
        have q3 := (World.cell?_of_block (a := ⟨sb, 3, none⟩) (HB1.out.block _ l1)).trans c3
        have H1 := Lib.hid (H.out.ext HB1.out)
        clear hb
        refine hK.out _ _ ?_ (fun hHeld => ?_)
        · (first | exact ⟨q0, q1, q2, q3⟩ | exact ⟨c0, c1, c2, c3⟩ | go_keep)
        clear hK K
        try simp only [Act.put, List.setIfInBounds_toArray, List.set_cons_zero, List.set_cons_succ]
        refine wpAnyH_take (i := 3) (oi := { dst := some 7, op := Go.Op.move (Go.Operand.tmp 6), type := 4, pos := "sched.go:78", after := #[{ on := 2, ground := Go.Ground.data }, { on := 2, ground := Go.Ground.chain }], guard := none }) (v := ?v2z3) rfl (by kernel_rfl) (by kernel_rfl) (by kernel_rfl) (fun _ _ _ h => h) (Or.inl ⟨by rfl, ?hy2z3⟩) (by assumption) ?rest2z3
        case hy2z3 => (intro w hSw; (try dsimp only at hSw); go_simp; try (with_reducible rfl))
        simp only [Act.put, List.setIfInBounds_toArray, List.set_cons_zero, List.set_cons_succ]
        refine wpAnyH_take (i := 4) (oi := { dst := some 8, op := Go.Op.move (Go.Operand.tmp 0), type := 104, pos := "sched.go:78", after := #[{ on := 3, ground := Go.Ground.guard }], guard := some (3, true) }) (v := ?v2z4) rfl (by kernel_rfl) (by kernel_rfl) (by kernel_rfl) (fun _ _ _ h => h) (Or.inl ⟨by rfl, ?hy2z4⟩) (by assumption) ?rest2z4
        case hy2z4 => (intro w hSw; (try dsimp only at hSw); go_simp; try (with_reducible rfl))
        simp only [Act.put, List.setIfInBounds_toArray, List.set_cons_zero, List.set_cons_succ]
        refine wpAnyH_take (i := 5) (oi := { dst := some 9, op := Go.Op.nilCheck (Go.Operand.tmp 8), type := 0, pos := "sched.go:78", after := #[{ on := 4, ground := Go.Ground.data }, { on := 3, ground := Go.Ground.guard }], guard := some (3, true) }) (v := ?v2z5) rfl (by kernel_rfl) (by kernel_rfl) (by kernel_rfl) (fun _ _ _ h => h) (Or.inl ⟨by rfl, ?hy2z5⟩) (by assumption) ?rest2z5
        case hy2z5 => (intro w hSw; (try dsimp only at hSw); go_simp; try (with_reducible rfl))
        simp only [Act.put, List.setIfInBounds_toArray, List.set_cons_zero, List.set_cons_succ]
        refine wpAnyH_take (i := 6) (oi := { dst := some 10, op := Go.Op.fieldAddr 196 (Go.Operand.tmp 9) 2, type := 0, pos := "sched.go:78", after := #[{ on := 5, ground := Go.Ground.data }, { on := 3, ground := Go.Ground.guard }], guard := some (3, true) }) (v := ?v2z6) rfl (by kernel_rfl) (by kernel_rfl) (by kernel_rfl) (fun _ _ _ h => h) (Or.inl ⟨by rfl, ?hy2z6⟩) (by assumption) ?rest2z6
        case hy2z6 => (intro w hSw; (try dsimp only at hSw); go_simp; try (with_reducible rfl))
        simp only [Act.put, List.setIfInBounds_toArray, List.set_cons_zero, List.set_cons_succ]
        refine wpAnyH_take (i := 7) (oi := { dst := some 11, op := Go.Op.load 55 (Go.Operand.tmp 10), type := 55, pos := "sched.go:78", after := #[{ on := 6, ground := Go.Ground.data }, { on := 3, ground := Go.Ground.guard }], guard := some (3, true) }) (v := ?v2z7) rfl (by kernel_rfl) (by kernel_rfl) (by kernel_rfl) (fun _ _ _ h => h) (Or.inl ⟨by rfl, ?hy2z7⟩) (by assumption) ?rest2z7
        case hy2z7 => (intro w hSw; (try dsimp only at hSw); go_simp; try (with_reducible rfl))
        simp only [Act.put, List.setIfInBounds_toArray, List.set_cons_zero, List.set_cons_succ]
        refine wpAnyH_take (i := 8) (oi := { dst := some 12, op := Go.Op.fieldAddr 61 (Go.Operand.tmp 3) 1, type := 0, pos := "sched.go:78", after := #[{ on := 3, ground := Go.Ground.guard }], guard := some (3, true) }) (v := ?v2z8) rfl (by kernel_rfl) (by kernel_rfl) (by kernel_rfl) (fun _ _ _ h => h) (Or.inl ⟨by rfl, ?hy2z8⟩) (by assumption) ?rest2z8
        case hy2z8 => (intro w hSw; (try dsimp only at hSw); go_simp; try (with_reducible rfl))
        simp only [Act.put, List.setIfInBounds_toArray, List.set_cons_zero, List.set_cons_succ]
        refine wpAnyH_take (i := 9) (oi := { dst := some 13, op := Go.Op.load 3 (Go.Operand.tmp 12), type := 3, pos := "sched.go:78", after := #[{ on := 8, ground := Go.Ground.data }, { on := 3, ground := Go.Ground.guard }], guard := some (3, true) }) (v := ?v2z9) rfl (by kernel_rfl) (by kernel_rfl) (by kernel_rfl) (fun _ _ _ h => h) (Or.inl ⟨by rfl, ?hy2z9⟩) (by assumption) ?rest2z9
        case hy2z9 => (intro w hSw; (try dsimp only at hSw); go_simp; try (with_reducible rfl))
        simp only [Act.put, List.setIfInBounds_toArray, List.set_cons_zero, List.set_cons_succ]
        refine wpAnyH_ready (rs := [10]) (by kernel_rfl) (by simp) ?_
        refine AllReadyH.cons (o := { dst := some 14, op := Go.Op.call { callee := Go.Callee.value (Go.Operand.func 149), args := #[Go.Operand.tmp 11, Go.Operand.tmp 13], argTypes := #[55, 3] }, type := 4, pos := "sched.go:78", after := #[{ on := 7, ground := Go.Ground.data }, { on := 9, ground := Go.Ground.data }, { on := 3, ground := Go.Ground.chain }, { on := 3, ground := Go.Ground.guard }], guard := some (3, true) }) rfl (fun K hK => ?_) ?_
        ·
          go_simp
          go_at_call 149
          refine (containsI_c B (statesL p.ops) X.sA X.sc s' _ (Rd.of_own H1.out.st) hhl).mono ?_
          rw [← HU.out]
          rintro e w2 ⟨rfl, rfl⟩
          refine hK.out _ _ ?_ (fun hHeld => ?_)
          · (first | exact ⟨q0, q1, q2, q3⟩ | exact ⟨c0, c1, c2, c3⟩ | go_keep)
          clear hK K
          try simp only [Act.put, List.setIfInBounds_toArray, List.set_cons_zero, List.set_cons_succ]
          refine wpAnyH_take (i := 11) (oi := { dst := some 15, op := Go.Op.pick (Go.Operand.tmp 7) (Go.Operand.tmp 14) (Go.Operand.const (Go.Value.bool false)), type := 4, pos := "sched.go:78", after := #[{ on := 3, ground := Go.Ground.data }, { on := 10, ground := Go.Ground.data }], guard := none }) (v := ?v2z11) rfl (by kernel_rfl) (by kernel_rfl) (by kernel_rfl) (fun _ _ _ h => h) (Or.inl ⟨by rfl, ?hy2z11⟩) (by assumption) ?rest2z11
          case hy2z11 => (intro w hSw; (try dsimp only at hSw); go_simp; try (with_reducible rfl))
          simp only [Act.put, List.setIfInBounds_toArray, List.set_cons_zero, List.set_cons_succ]
          refine wpAnyH_done (by kernel_rfl) ?_ _
          obtain ⟨w3, hrun3, hm3, hg3, hs3⟩ := (H1.out.sv.drew).store idKey Tryz.underlying194 (⟨xb, (s' : Nat), (q' : Nat)⟩ : Id3) (.int .i64 1)
          have HM3 := Lib.hid hm3
          have HG3 := Lib.hid hg3
          have HZ3 := Lib.hid hs3
          have q6 : w1.cell? ⟨sb, 6, none⟩ = some (.map (some X.vb)) := (H1.out.bk.cell 6).trans rfl
          have l6 := H1.out.bk.lt
          have l7 := Nat.lt_of_lt_of_le l0 HB1.out.size
          simp only [idV] at hrun3
          clear hm3 hg3 hs3
          go_wp2_with fail
          go_region
          go_wp2_with fail
          go_returns
          rw [HSv.out]; simp only [if_true]
          exact ⟨rfl, R, ⟨X, SchedAt.saves (w := w1.drew) (H1.out.ext (below_drewN (Below.refl _ _) 1)) HM3.out HG3.out HZ3.out⟩, ((Fr.of_below (ext_trans HBW.out HB1.out)).drew).grown HG3.out (fun k hk => .inl (by injection hk with hk; rw [← hk]; exact (H.out.rb _ (.inr (.inl rfl))).1)), fun k hk => .inl hk⟩
        exact AllReadyH.nil
      exact AllReadyH.nil
    | false =>
      rw [hu] at HSv HU
      clear hu
      go_enter Tryz.func111, Tryz.ntmps111
      go_wp2_with fail
      rw [← HWW.out]
      refine wp_region_held_drew (S := (fun w' => w'.cell? ⟨w.heap.size, 0, none⟩ = some (.int .i64 xb) ∧ w'.cell? ⟨w.heap.size, 1, none⟩ = some (.int .i64 (s' : Nat)) ∧ w'.cell? ⟨w.heap.size, 2, none⟩ = some (.int .i64 (q' : Nat)) ∧ w'.cell? ⟨sb, 3, none⟩ = some (.slice X.sA (statesL p.ops).length X.sc))) (by kernel_rfl) ?_ (fun hHeld => ?_)
      · (first | exact ⟨q0, q1, q2, q3⟩ | exact ⟨c0, c1, c2, c3⟩ | go_keep)
      refine wpAnyH_take (i := 0) (oi := { dst := some 4, op := Go.Op.move (Go.Operand.tmp 0), type := 104, pos := "sched.go:78", after := #[], guard := none }) (v := ?v3z0) rfl (by kernel_rfl) (by kernel_rfl) (by kernel_rfl) (fun _ _ _ h => h) (Or.inl ⟨by rfl, ?hy3z0⟩) (by assumption) ?rest3z0
      case hy3z0 => (intro w hSw; (try dsimp only at hSw); go_simp; try (with_reducible rfl))
      simp only [Act.put, List.setIfInBounds_toArray, List.set_cons_zero, List.set_cons_succ]
      refine wpAnyH_take (i := 1) (oi := { dst := some 5, op := Go.Op.load 61 (Go.Operand.tmp 3), type := 61, pos := "sched.go:78", after := #[], guard := none }) (v := ?v3z1) rfl (by kernel_rfl) (by kernel_rfl) (by kernel_rfl) (fun _ _ _ h => h) (Or.inl ⟨by rfl, ?hy3z1⟩) (by assumption) ?rest3z1
      case hy3z1 => (intro w hSw; (try dsimp only at hSw); go_simp; try (with_reducible rfl))
      simp only [Act.put, List.setIfInBounds_toArray, List.set_cons_zero, List.set_cons_succ]
      refine wpAnyH_ready (rs := [2]) (by kernel_rfl) (by simp) ?_
      refine AllReadyH.cons (o := { dst := some 6, op := Go.Op.call { callee := Go.Callee.value (Go.Operand.func 161), args := #[Go.Operand.tmp 4, Go.Operand.tmp 5], argTypes := #[104, 61] }, type := 4, pos := "sched.go:78", after := #[{ on := 0, ground := Go.Ground.data }, { on := 1, ground := Go.Ground.data }], guard := none }) rfl (fun K hK => ?_) ?_
      ·
        go_simp
        go_at_call 161
        refine (sright_c (B := B) (R := R) (p := p) (A := A) (c := c) (s := s) ⟨xb, (s' : Nat), (q' : Nat)⟩ _ ⟨X, H.out.ext (below_drewN (Below.refl _ _) 1)⟩).mono ?_
        rw [HH.out]
        rintro e w1 ⟨rfl, hb⟩
        have HB1 := Lib.hid (show Below W.heap.size W w1 from ext_trans (below_drewN (Below.refl _ _) 1) hb)
        have q0 := (World.cell?_of_block (a := ⟨w.heap.size, 0, none⟩) (HB1.out.block _ l0)).trans c0
        have q1 := (World.cell?_of_block (a := ⟨w.heap.size, 1, none⟩) (HB1.out.block _ l0)).trans c1
        have q2 := (World.cell?_of_block (a := ⟨w.heap.size, 2, none⟩) (HB1.out.block _ l0)).trans c2
        have q3 := (World.cell?_of_block (a := ⟨sb, 3, none⟩) (HB1.out.block _ l1)).trans c3
        have H1 := Lib.hid (H.out.ext HB1.out)
        clear hb
        refine hK.out _ _ ?_ (fun hHeld => ?_)
        · (first | exact ⟨q0, q1, q2, q3⟩ | exact ⟨c0, c1, c2, c3⟩ | go_keep)
        clear hK K
        try simp only [Act.put, List.setIfInBounds_toArray, List.set_cons_zero, List.set_cons_succ]
        refine wpAnyH_take (i := 3) (oi := { dst := some 7, op := Go.Op.move (Go.Operand.tmp 6), type := 4, pos := "sched.go:78", after := #[{ on := 2, ground := Go.Ground.data }, { on := 2, ground := Go.Ground.chain }], guard := none }) (v := ?v3z3) rfl (by kernel_rfl) (by kernel_rfl) (by kernel_rfl) (fun _ _ _ h => h) (Or.inl ⟨by rfl, ?hy3z3⟩) (by assumption) ?rest3z3
        case hy3z3 => (intro w hSw; (try dsimp only at hSw); go_simp; try (with_reducible rfl))
        simp only [Act.put, List.setIfInBounds_toArray, List.set_cons_zero, List.set_cons_succ]
        refine wpAnyH_take (i := 4) (oi := { dst := some 8, op := Go.Op.move (Go.Operand.tmp 0), type := 104, pos := "sched.go:78", after := #[{ on := 3, ground := Go.Ground.guard }], guard := some (3, true) }) (v := ?v3z4) rfl (by kernel_rfl) (by kernel_rfl) (by kernel_rfl) (fun _ _ _ h => h) (Or.inl ⟨by rfl, ?hy3z4⟩) (by assumption) ?rest3z4
        case hy3z4 => (intro w hSw; (try dsimp only at hSw); go_simp; try (with_reducible rfl))
        simp only [Act.put, List.setIfInBounds_toArray, List.set_cons_zero, List.set_cons_succ]
        refine wpAnyH_take (i := 5) (oi := { dst := some 9, op := Go.Op.nilCheck (Go.Operand.tmp 8), type := 0, pos := "sched.go:78", after := #[{ on := 4, ground := Go.Ground.data }, { on := 3, ground := Go.Ground.guard }], guard := some (3, true) }) (v := ?v3z5) rfl (by kernel_rfl) (by kernel_rfl) (by kernel_rfl) (fun _ _ _ h => h) (Or.inl ⟨by rfl, ?hy3z5⟩) (by assumption) ?rest3z5
        case hy3z5 => (intro w hSw; (try dsimp only at hSw); go_simp; try (with_reducible rfl))
        simp only [Act.put, List.setIfInBounds_toArray, List.set_cons_zero, List.set_cons_succ]
        refine wpAnyH_take (i := 6) (oi := { dst := some 10, op := Go.Op.fieldAddr 196 (Go.Operand.tmp 9) 2, type := 0, pos := "sched.go:78", after := #[{ on := 5, ground := Go.Ground.data }, { on := 3, ground := Go.Ground.guard }], guard := some (3, true) }) (v := ?v3z6) rfl (by kernel_rfl) (by kernel_rfl) (by kernel_rfl) (fun _ _ _ h => h) (Or.inl ⟨by rfl, ?hy3z6⟩) (by assumption) ?rest3z6
        case hy3z6 => (intro w hSw; (try dsimp only at hSw); go_simp; try (with_reducible rfl))
        simp only [Act.put, List.setIfInBounds_toArray, List.set_cons_zero, List.set_cons_succ]
        refine wpAnyH_take (i := 7) (oi := { dst := some 11, op := Go.Op.load 55 (Go.Operand.tmp 10), type := 55, pos := "sched.go:78", after := #[{ on := 6, ground := Go.Ground.data }, { on := 3, ground := Go.Ground.guard }], guard := some (3, true) }) (v := ?v3z7) rfl (by kernel_rfl) (by kernel_rfl) (by kernel_rfl) (fun _ _ _ h => h) (Or.inl ⟨by rfl, ?hy3z7⟩) (by assumption) ?rest3z7
        case hy3z7 => (intro w hSw; (try dsimp only at hSw); go_simp; try (with_reducible rfl))
        simp only [Act.put, List.setIfInBounds_toArray, List.set_cons_zero, List.set_cons_succ]
        refine wpAnyH_take (i := 8) (oi := { dst := some 12, op := Go.Op.fieldAddr 61 (Go.Operand.tmp 3) 1, type := 0, pos := "sched.go:78", after := #[{ on := 3, ground := Go.Ground.guard }], guard := some (3, true) }) (v := ?v3z8) rfl (by kernel_rfl) (by kernel_rfl) (by kernel_rfl) (fun _ _ _ h => h) (Or.inl ⟨by rfl, ?hy3z8⟩) (by assumption) ?rest3z8
        case hy3z8 => (intro w hSw; (try dsimp only at hSw); go_simp; try (with_reducible rfl))
        simp only [Act.put, List.setIfInBounds_toArray, List.set_cons_zero, List.set_cons_succ]
        refine wpAnyH_take (i := 9) (oi := { dst := some 13, op := Go.Op.load 3 (Go.Operand.tmp 12), type := 3, pos := "sched.go:78", after := #[{ on := 8, ground := Go.Ground.data }, { on := 3, ground := Go.Ground.guard }], guard := some (3, true) }) (v := ?v3z9) rfl (by kernel_rfl) (by kernel_rfl) (by kernel_rfl) (fun _ _ _ h => h) (Or.inl ⟨by rfl, ?hy3z9⟩) (by assumption) ?rest3z9
        case hy3z9 => (intro w hSw; (try dsimp only at hSw); go_simp; try (with_reducible rfl))
        simp only [Act.put, List.setIfInBounds_toArray, List.set_cons_zero, List.set_cons_succ]
        refine wpAnyH_ready (rs := [10]) (by kernel_rfl) (by simp) ?_
        refine AllReadyH.cons (o := { dst := some 14, op := Go.Op.call { callee := Go.Callee.value (Go.Operand.func 149), args := #[Go.Operand.tmp 11, Go.Operand.tmp 13], argTypes := #[55, 3] }, type := 4, pos := "sched.go:78", after := #[{ on := 7, ground := Go.Ground.data }, { on := 9, ground := Go.Ground.data }, { on := 3, ground := Go.Ground.chain }, { on := 3, ground := Go.Ground.guard }], guard := some (3, true) }) rfl (fun K hK => ?_) ?_
        ·
          go_simp
          go_at_call 149
          refine (containsI_c B (statesL p.ops) X.sA X.sc s' _ (Rd.of_own H1.out.st) hhl).mono ?_
          rw [← HU.out]
          rintro e w2 ⟨rfl, rfl⟩
          refine hK.out _ _ ?_ (fun hHeld => ?_)
          · (first | exact ⟨q0, q1, q2, q3⟩ | exact ⟨c0, c1, c2, c3⟩ | go_keep)
          clear hK K
          try simp only [Act.put, List.setIfInBounds_toArray, List.set_cons_zero, List.set_cons_succ]
          refine wpAnyH_take (i := 11) (oi := { dst := some 15, op := Go.Op.pick (Go.Operand.tmp 7) (Go.Operand.tmp 14) (Go.Operand.const (Go.Value.bool false)), type := 4, pos := "sched.go:78", after := #[{ on := 3, ground := Go.Ground.data }, { on := 10, ground := Go.Ground.data }], guard := none }) (v := ?v3z11) rfl (by kernel_rfl) (by kernel_rfl) (by kernel_rfl) (fun _ _ _ h => h) (Or.inl ⟨by rfl, ?hy3z11⟩) (by assumption) ?rest3z11
          case hy3z11 => (intro w hSw; (try dsimp only at hSw); go_simp; try (with_reducible rfl))
          simp only [Act.put, List.setIfInBounds_toArray, List.set_cons_zero, List.set_cons_succ]
          refine wpAnyH_done (by kernel_rfl) ?_ _
          go_wp2_with fail
          go_returns
          rw [HSv.out]; simp only [Bool.false_eq_true, if_false]
          exact ⟨rfl, R, ⟨X, H1.out⟩, Fr.of_below (ext_trans HBW.out HB1.out), fun k hk => .inl hk⟩
        exact AllReadyH.nil
      exact AllReadyH.nil
end
end Go.Proofs.YtlmjjhenoadndaaGreatDoor
