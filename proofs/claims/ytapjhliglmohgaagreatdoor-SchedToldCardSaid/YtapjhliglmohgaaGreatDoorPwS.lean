/- LineF: laid together. -/
import Derived.Test.YtapjhliglmohgaaGreatDoorPwR
import Derived.Test.YtapjhliglmohgaaGreatDoorPwK
import Derived.WalkLawsBesides
/- The walk through a lineage: the whole recursion; where a walk may begin. -/
namespace Go.Proofs.YtapjhliglmohgaaGreatDoor
open Go.RowKit Go.Sort
theorem come_c {B : Nat} {p : PlanD} {A : Option Addr} {c : Nat} {mark : Int} {held : List Id3} (hp : Shaped p) : ∀ (n : Nat) (X : LnX) (R : Nat → Prop) (d : LnD) (x : Id3) (steps : Int) (w : World), LnAt B X R p A c mark held d d.seen w → LnOk p mark d → CanD p mark x → (leafD p x mark = true ∧ 0 < n ∨ deepD mark x + 1 < n) → 0 ≤ steps → steps + n ≤ 100000 →
 Calls Tryz.prog 117 #[.pointer (some ⟨X.lb, 0, none⟩), idV x, .int .i64 steps] w (ComePost B X.lb R p A c mark held (comeD p mark held n d x steps) w)
 | 0, X, R, d, x, steps, w, h, hok, hc, hd, h0, hn => by
   rcases hd with hd | hd <;> omega
 | n + 1, X, R, d, x, steps, w, h, hok, hc, hd, h0, hn => by
   cases ht : thereD p mark held x with
   | true => exact come_there hp n X R d x steps w h hok h0 hn ht
   | false => exact come_not hp n (come_c hp n) X R d x steps w h hok hc hd h0 hn ht
/-- A walk may not begin there. -/
def noneB (p : PlanD) (mark : Int) (x : Id3) : Bool := !hasB p x || (!keptAt p.ops x.s.toNat || (decide (x.b ≤ mark) && !leafD p x mark))
def beginD (p : PlanD) (mark : Int) (x : Id3) : Int := if noneB p mark x then 3 else if max mark 0 < x.b - 16 then 2 else 0
def BeginPost (w : World) (r : Int) (e : Ending) (w' : World) : Prop :=
 (r = 0 → e = .returned (.tuple #[]) ∧ Below w.heap.size w w') ∧ (r ≠ 0 → ∃ (at_ : Int) (v : Value), e = .panicked [{ v := v, recovered := false }] ∧ ErrAt w' v at_ r ∧ Below w.heap.size w w')
theorem begin_can {p : PlanD} {mark : Int} {x : Id3} (h : beginD p mark x = 0) (ht : x.b ≤ 9223372036854775807) : CanD p mark x := by
 unfold beginD at h
 split at h
 · cases h
 · next h1 =>
   split at h
   · cases h
   · next h2 =>
     unfold noneB at h1
     cases h3 : hasB p x with
     | false => rw [h3] at h1; exact absurd rfl h1
     | true =>
       cases h4 : keptAt p.ops x.s.toNat with
       | false => rw [h3, h4] at h1; exact absurd rfl h1
       | true =>
         rw [h3, h4] at h1
         obtain ⟨h5, _⟩ := hasB_parts h3
         refine ⟨h3, ht, ?_, by omega⟩
         cases h6 : leafD p x mark with
         | true => exact .inr rfl
         | false =>
           rw [h6] at h1
           simp at h1
           exact .inl (by omega)
theorem lnFault_c (at_ : Int) (n : Nat) (v : Value) (code : Int) (w : World) (h : ErrN w n v code) : Calls Tryz.prog 114 #[.int .i64 at_, v] w (FaultPost w at_ code) := by
 obtain ⟨T, y, rfl⟩ := h.iface
 have HE := Lib.hid h
 clear h
 go_enter Tryz.func114, Tryz.ntmps114
 go_wp2
 go_ret
 exact ⟨_, rfl, ⟨_, _, _, n, rfl, Bk.new _ _ _, HE.out.ext (ext_alloc (Below.refl _ _) _)⟩, ext_alloc (Below.refl _ _) _⟩
section
variable {B : Nat} {X : LnX} {R : Nat → Prop} {p : PlanD} {A : Option Addr} {c : Nat} {mark : Int} {held : List Id3} {d : LnD} {ks : List Id3}
set_option maxRecDepth 100000 in
set_option maxHeartbeats 16000000 in
theorem begin_c (hp : Shaped p) (i : Int) (x : Id3) (hx : x.b ≤ 9223372036854775807) (w : World) (h : LnAt B X R p A c mark held d ks w) :
 Calls Tryz.prog 116 #[.pointer (some ⟨X.lb, 0, none⟩), .int .i64 i, idV x] w (BeginPost w (beginD p mark x)) := by
 have HP := Lib.hid hp
 obtain ⟨xb, xs, xp⟩ := x
 obtain ⟨W, hW⟩ : ∃ W, W = w.alloc (.cells #[.int .i64 xb, .int .i64 xs, .int .i64 xp] 35 (0, 0)) := ⟨_, rfl⟩
 have HBW := Lib.hid (show Below w.heap.size w W from by rw [hW]; exact ext_alloc (Below.refl _ _) _)
 have HXW := Lib.hid (show Bk W w.heap.size 35 #[.int .i64 xb, .int .i64 xs, .int .i64 xp] from by rw [hW]; exact Bk.new _ _ _)
 have H := Lib.hid (h.ext HBW.out)
 have HWW := Lib.hid hW
 clear h hp hW
 obtain ⟨mb, es, hY⟩ := H.out.ways
 have HY := Lib.hid hY
 clear hY
 have c0 : W.cell? ⟨w.heap.size, 0, none⟩ = some (.int .i64 xb) := (HXW.out.cell 0).trans rfl
 have c1 : W.cell? ⟨w.heap.size, 1, none⟩ = some (.int .i64 xs) := (HXW.out.cell 1).trans rfl
 have c2 : W.cell? ⟨w.heap.size, 2, none⟩ = some (.int .i64 xp) := (HXW.out.cell 2).trans rfl
 have c3 : W.cell? ⟨X.lb, 2, none⟩ = some (.pointer (some ⟨X.wyb, 0, none⟩)) := (H.out.bk.cell 2).trans rfl
 have c4 : W.cell? ⟨X.wyb, 0, none⟩ = some (.slice X.K p.ops.length X.kc) := (HY.out.bk.cell 0).trans rfl
 have c6 : W.cell? ⟨X.lb, 3, none⟩ = some (.int .i64 mark) := (H.out.bk.cell 3).trans rfl
 have c7 : W.cell? ⟨X.lb, 0, none⟩ = some (.int .i64 p.parts) := (H.out.bk.cell 0).trans rfl
 have c8 : W.cell? ⟨X.lb, 1, none⟩ = some (.slice A p.ops.length c) := (H.out.bk.cell 1).trans rfl
 have l0 := HXW.out.lt
 have l1 := H.out.bk.lt
 have l2 := HY.out.bk.lt
 go_enter Tryz.func116, Tryz.ntmps116
 go_upto_region 1 with fail
 rw [← HWW.out]
 go_cut [48] (fun v48 wx => v48 = .bool (noneB p mark ⟨xb, xs, xp⟩) ∧ Hid (Below W.heap.size W wx))
 case first =>
  cases hh : hasB p ⟨xb, xs, xp⟩ with
  | false =>
    have HH := Lib.hid hh
    have HV := Lib.hid (show noneB p mark ⟨xb, xs, xp⟩ = true from by unfold noneB; rw [hh]; rfl)
    clear hh
    refine wp_region_held_drew (S := (fun w' => w'.cell? ⟨w.heap.size, 0, none⟩ = some (.int .i64 xb) ∧ w'.cell? ⟨w.heap.size, 1, none⟩ = some (.int .i64 xs) ∧ w'.cell? ⟨w.heap.size, 2, none⟩ = some (.int .i64 xp) ∧ w'.cell? ⟨X.lb, 2, none⟩ = some (.pointer (some ⟨X.wyb, 0, none⟩)) ∧ w'.cell? ⟨X.wyb, 0, none⟩ = some (.slice X.K p.ops.length X.kc) ∧ w'.cell? ⟨X.lb, 3, none⟩ = some (.int .i64 mark) ∧ w'.cell? ⟨X.lb, 0, none⟩ = some (.int .i64 p.parts) ∧ w'.cell? ⟨X.lb, 1, none⟩ = some (.slice A p.ops.length c))) (by kernel_rfl) ?_ (fun hHeld => ?_)
    · (first | exact ⟨r0, r1, r2, r3, r4, r6, r7, r8⟩ | exact ⟨q0, q1, q2, q3, q4, q6, q7, q8⟩ | exact ⟨c0, c1, c2, c3, c4, c6, c7, c8⟩ | go_keep)
    refine wpAnyH_take (i := 0) (oi := ⟨some 6, .move (.tmp 0), 179, "line.go:67", #[], none⟩) (v := ?v1z0) rfl (by kernel_rfl) (by kernel_rfl) (by kernel_rfl) (fun _ _ _ h => h) (Or.inl ⟨by rfl, ?hy1z0⟩) (by assumption) ?rest1z0
    case hy1z0 => (intro w hSw; (try dsimp only at hSw); go_simp; try (with_reducible rfl))
    simp only [Act.put, List.setIfInBounds_toArray, List.set_cons_zero, List.set_cons_succ]
    refine wpAnyH_take (i := 1) (oi := ⟨some 7, .nilCheck (.tmp 6), 0, "line.go:67", #[⟨0, .data⟩], none⟩) (v := ?v1z1) rfl (by kernel_rfl) (by kernel_rfl) (by kernel_rfl) (fun _ _ _ h => h) (Or.inl ⟨by rfl, ?hy1z1⟩) (by assumption) ?rest1z1
    case hy1z1 => (intro w hSw; (try dsimp only at hSw); go_simp; try (with_reducible rfl))
    simp only [Act.put, List.setIfInBounds_toArray, List.set_cons_zero, List.set_cons_succ]
    refine wpAnyH_take (i := 2) (oi := ⟨some 8, .fieldAddr 181 (.tmp 7) 1, 0, "line.go:67", #[⟨1, .data⟩], none⟩) (v := ?v1z2) rfl (by kernel_rfl) (by kernel_rfl) (by kernel_rfl) (fun _ _ _ h => h) (Or.inl ⟨by rfl, ?hy1z2⟩) (by assumption) ?rest1z2
    case hy1z2 => (intro w hSw; (try dsimp only at hSw); go_simp; try (with_reducible rfl))
    simp only [Act.put, List.setIfInBounds_toArray, List.set_cons_zero, List.set_cons_succ]
    refine wpAnyH_take (i := 3) (oi := ⟨some 9, .load 107 (.tmp 8), 107, "line.go:67", #[⟨2, .data⟩], none⟩) (v := ?v1z3) rfl (by kernel_rfl) (by kernel_rfl) (by kernel_rfl) (fun _ _ _ h => h) (Or.inl ⟨by rfl, ?hy1z3⟩) (by assumption) ?rest1z3
    case hy1z3 => (intro w hSw; (try dsimp only at hSw); go_simp; try (with_reducible rfl))
    simp only [Act.put, List.setIfInBounds_toArray, List.set_cons_zero, List.set_cons_succ]
    refine wpAnyH_take (i := 4) (oi := ⟨some 10, .load 35 (.tmp 5), 35, "line.go:67", #[], none⟩) (v := ?v1z4) rfl (by kernel_rfl) (by kernel_rfl) (by kernel_rfl) (fun _ _ _ h => h) (Or.inl ⟨by rfl, ?hy1z4⟩) (by assumption) ?rest1z4
    case hy1z4 => (intro w hSw; (try dsimp only at hSw); go_simp; try (with_reducible rfl))
    simp only [Act.put, List.setIfInBounds_toArray, List.set_cons_zero, List.set_cons_succ]
    refine wpAnyH_ready (rs := [5]) (by kernel_rfl) (by simp) ?_
    refine AllReadyH.cons (o := ⟨some 11, .call { callee := .value (.func 112), args := #[.tmp 9, .tmp 10], argTypes := #[107, 35] }, 4, "line.go:67", #[⟨3, .data⟩, ⟨4, .data⟩], none⟩) rfl (fun K hK => ?_) ?_
    ·
      go_simp
      go_at_call 112
      refine (has_c B X.wyb X.Rw p A X.K c X.kc ⟨xb, xs, xp⟩ _ (H.out.ways.ext (below_drewN (Below.refl _ _) 1)) HP.out).mono ?_
      rw [HH.out]
      rintro e w1 ⟨rfl, hb⟩
      have HB1 := Lib.hid (show Below W.heap.size W w1 from ext_trans (below_drewN (Below.refl _ _) 1) hb)
      have q0 := (World.cell?_of_block (a := ⟨w.heap.size, 0, none⟩) (HB1.out.block _ l0)).trans c0
      have q1 := (World.cell?_of_block (a := ⟨w.heap.size, 1, none⟩) (HB1.out.block _ l0)).trans c1
      have q2 := (World.cell?_of_block (a := ⟨w.heap.size, 2, none⟩) (HB1.out.block _ l0)).trans c2
      have q3 := (World.cell?_of_block (a := ⟨X.lb, 2, none⟩) (HB1.out.block _ l1)).trans c3
      have q4 := (World.cell?_of_block (a := ⟨X.wyb, 0, none⟩) (HB1.out.block _ l2)).trans c4
      have q6 := (World.cell?_of_block (a := ⟨X.lb, 3, none⟩) (HB1.out.block _ l1)).trans c6
      have q7 := (World.cell?_of_block (a := ⟨X.lb, 0, none⟩) (HB1.out.block _ l1)).trans c7
      have q8 := (World.cell?_of_block (a := ⟨X.lb, 1, none⟩) (HB1.out.block _ l1)).trans c8
      clear hb
      refine hK.out _ _ ?_ (fun hHeld => ?_)
      · (first | exact ⟨r0, r1, r2, r3, r4, r6, r7, r8⟩ | exact ⟨q0, q1, q2, q3, q4, q6, q7, q8⟩ | exact ⟨c0, c1, c2, c3, c4, c6, c7, c8⟩ | go_keep)
      clear hK K
      try simp only [Act.put, List.setIfInBounds_toArray, List.set_cons_zero, List.set_cons_succ]
      refine wpAnyH_take (i := 6) (oi := ⟨some 12, .unOp .not 4 (.tmp 11), 4, "line.go:67", #[⟨5, .data⟩], none⟩) (v := ?v1z6) rfl (by kernel_rfl) (by kernel_rfl) (by kernel_rfl) (fun _ _ _ h => h) (Or.inl ⟨by rfl, ?hy1z6⟩) (by assumption) ?rest1z6
      case hy1z6 => (intro w hSw; (try dsimp only at hSw); go_simp; try (with_reducible rfl))
      simp only [Act.put, List.setIfInBounds_toArray, List.set_cons_zero, List.set_cons_succ]
      refine wpAnyH_take (i := 7) (oi := ⟨some 13, .move (.tmp 12), 4, "line.go:67", #[⟨6, .data⟩, ⟨5, .chain⟩], none⟩) (v := ?v1z7) rfl (by kernel_rfl) (by kernel_rfl) (by kernel_rfl) (fun _ _ _ h => h) (Or.inl ⟨by rfl, ?hy1z7⟩) (by assumption) ?rest1z7
      case hy1z7 => (intro w hSw; (try dsimp only at hSw); go_simp; try (with_reducible rfl))
      simp only [Act.put, List.setIfInBounds_toArray, List.set_cons_zero, List.set_cons_succ]
      refine wpAnyH_take (i := 8) (oi := ⟨some 14, .move (.tmp 0), 179, "line.go:67", #[⟨7, .guard⟩], some (7, false)⟩) (v := undef) rfl (by kernel_rfl) (by kernel_rfl) (by kernel_rfl) (fun _ _ _ h => h) (Or.inr ⟨by rfl, rfl⟩) (by assumption) ?_
      simp only [Act.put, List.setIfInBounds_toArray, List.set_cons_zero, List.set_cons_succ]
      refine wpAnyH_take (i := 9) (oi := ⟨some 15, .nilCheck (.tmp 14), 0, "line.go:67", #[⟨8, .data⟩, ⟨7, .guard⟩], some (7, false)⟩) (v := undef) rfl (by kernel_rfl) (by kernel_rfl) (by kernel_rfl) (fun _ _ _ h => h) (Or.inr ⟨by rfl, rfl⟩) (by assumption) ?_
      simp only [Act.put, List.setIfInBounds_toArray, List.set_cons_zero, List.set_cons_succ]
      refine wpAnyH_take (i := 10) (oi := ⟨some 16, .fieldAddr 181 (.tmp 15) 1, 0, "line.go:67", #[⟨9, .data⟩, ⟨7, .guard⟩], some (7, false)⟩) (v := undef) rfl (by kernel_rfl) (by kernel_rfl) (by kernel_rfl) (fun _ _ _ h => h) (Or.inr ⟨by rfl, rfl⟩) (by assumption) ?_
      simp only [Act.put, List.setIfInBounds_toArray, List.set_cons_zero, List.set_cons_succ]
      refine wpAnyH_take (i := 11) (oi := ⟨some 17, .load 107 (.tmp 16), 107, "line.go:67", #[⟨10, .data⟩, ⟨7, .guard⟩], some (7, false)⟩) (v := undef) rfl (by kernel_rfl) (by kernel_rfl) (by kernel_rfl) (fun _ _ _ h => h) (Or.inr ⟨by rfl, rfl⟩) (by assumption) ?_
      simp only [Act.put, List.setIfInBounds_toArray, List.set_cons_zero, List.set_cons_succ]
      refine wpAnyH_take (i := 12) (oi := ⟨some 18, .nilCheck (.tmp 17), 0, "line.go:67", #[⟨11, .data⟩, ⟨7, .guard⟩], some (7, false)⟩) (v := undef) rfl (by kernel_rfl) (by kernel_rfl) (by kernel_rfl) (fun _ _ _ h => h) (Or.inr ⟨by rfl, rfl⟩) (by assumption) ?_
      simp only [Act.put, List.setIfInBounds_toArray, List.set_cons_zero, List.set_cons_succ]
      refine wpAnyH_take (i := 13) (oi := ⟨some 19, .fieldAddr 174 (.tmp 18) 0, 0, "line.go:67", #[⟨12, .data⟩, ⟨7, .guard⟩], some (7, false)⟩) (v := undef) rfl (by kernel_rfl) (by kernel_rfl) (by kernel_rfl) (fun _ _ _ h => h) (Or.inr ⟨by rfl, rfl⟩) (by assumption) ?_
      simp only [Act.put, List.setIfInBounds_toArray, List.set_cons_zero, List.set_cons_succ]
      refine wpAnyH_take (i := 14) (oi := ⟨some 20, .load 139 (.tmp 19), 139, "line.go:67", #[⟨13, .data⟩, ⟨7, .guard⟩], some (7, false)⟩) (v := undef) rfl (by kernel_rfl) (by kernel_rfl) (by kernel_rfl) (fun _ _ _ h => h) (Or.inr ⟨by rfl, rfl⟩) (by assumption) ?_
      simp only [Act.put, List.setIfInBounds_toArray, List.set_cons_zero, List.set_cons_succ]
      refine wpAnyH_take (i := 15) (oi := ⟨some 21, .fieldAddr 35 (.tmp 5) 1, 0, "line.go:67", #[⟨7, .guard⟩], some (7, false)⟩) (v := undef) rfl (by kernel_rfl) (by kernel_rfl) (by kernel_rfl) (fun _ _ _ h => h) (Or.inr ⟨by rfl, rfl⟩) (by assumption) ?_
      simp only [Act.put, List.setIfInBounds_toArray, List.set_cons_zero, List.set_cons_succ]
      refine wpAnyH_take (i := 16) (oi := ⟨some 22, .load 3 (.tmp 21), 3, "line.go:67", #[⟨15, .data⟩, ⟨7, .guard⟩], some (7, false)⟩) (v := undef) rfl (by kernel_rfl) (by kernel_rfl) (by kernel_rfl) (fun _ _ _ h => h) (Or.inr ⟨by rfl, rfl⟩) (by assumption) ?_
      simp only [Act.put, List.setIfInBounds_toArray, List.set_cons_zero, List.set_cons_succ]
      refine wpAnyH_take (i := 17) (oi := ⟨some 23, .indexAddr 139 (.tmp 20) (.tmp 22), 0, "line.go:67", #[⟨14, .data⟩, ⟨16, .data⟩, ⟨7, .guard⟩], some (7, false)⟩) (v := undef) rfl (by kernel_rfl) (by kernel_rfl) (by kernel_rfl) (fun _ _ _ h => h) (Or.inr ⟨by rfl, rfl⟩) (by assumption) ?_
      simp only [Act.put, List.setIfInBounds_toArray, List.set_cons_zero, List.set_cons_succ]
      refine wpAnyH_take (i := 18) (oi := ⟨some 24, .load 4 (.tmp 23), 4, "line.go:67", #[⟨17, .data⟩, ⟨7, .guard⟩], some (7, false)⟩) (v := undef) rfl (by kernel_rfl) (by kernel_rfl) (by kernel_rfl) (fun _ _ _ h => h) (Or.inr ⟨by rfl, rfl⟩) (by assumption) ?_
      simp only [Act.put, List.setIfInBounds_toArray, List.set_cons_zero, List.set_cons_succ]
      refine wpAnyH_take (i := 19) (oi := ⟨some 25, .unOp .not 4 (.tmp 24), 4, "line.go:67", #[⟨18, .data⟩, ⟨7, .guard⟩], some (7, false)⟩) (v := undef) rfl (by kernel_rfl) (by kernel_rfl) (by kernel_rfl) (fun _ _ _ h => h) (Or.inr ⟨by rfl, rfl⟩) (by assumption) ?_
      simp only [Act.put, List.setIfInBounds_toArray, List.set_cons_zero, List.set_cons_succ]
      refine wpAnyH_take (i := 20) (oi := ⟨some 26, .pick (.tmp 13) (.const (.bool true)) (.tmp 25), 4, "line.go:67", #[⟨7, .data⟩, ⟨19, .data⟩], none⟩) (v := ?v1z20) rfl (by kernel_rfl) (by kernel_rfl) (by kernel_rfl) (fun _ _ _ h => h) (Or.inl ⟨by rfl, ?hy1z20⟩) (by assumption) ?rest1z20
      case hy1z20 => (intro w hSw; (try dsimp only at hSw); go_simp; try (with_reducible rfl))
      simp only [Act.put, List.setIfInBounds_toArray, List.set_cons_zero, List.set_cons_succ]
      refine wpAnyH_take (i := 21) (oi := ⟨some 27, .move (.tmp 26), 4, "line.go:67", #[⟨20, .data⟩, ⟨7, .chain⟩], none⟩) (v := ?v1z21) rfl (by kernel_rfl) (by kernel_rfl) (by kernel_rfl) (fun _ _ _ h => h) (Or.inl ⟨by rfl, ?hy1z21⟩) (by assumption) ?rest1z21
      case hy1z21 => (intro w hSw; (try dsimp only at hSw); go_simp; try (with_reducible rfl))
      simp only [Act.put, List.setIfInBounds_toArray, List.set_cons_zero, List.set_cons_succ]
      refine wpAnyH_take (i := 22) (oi := ⟨some 28, .fieldAddr 35 (.tmp 5) 0, 0, "line.go:67", #[⟨21, .guard⟩], some (21, false)⟩) (v := undef) rfl (by kernel_rfl) (by kernel_rfl) (by kernel_rfl) (fun _ _ _ h => h) (Or.inr ⟨by rfl, rfl⟩) (by assumption) ?_
      simp only [Act.put, List.setIfInBounds_toArray, List.set_cons_zero, List.set_cons_succ]
      refine wpAnyH_take (i := 23) (oi := ⟨some 29, .load 3 (.tmp 28), 3, "line.go:67", #[⟨22, .data⟩, ⟨21, .guard⟩], some (21, false)⟩) (v := undef) rfl (by kernel_rfl) (by kernel_rfl) (by kernel_rfl) (fun _ _ _ h => h) (Or.inr ⟨by rfl, rfl⟩) (by assumption) ?_
      simp only [Act.put, List.setIfInBounds_toArray, List.set_cons_zero, List.set_cons_succ]
      refine wpAnyH_take (i := 24) (oi := ⟨some 30, .move (.tmp 0), 179, "line.go:67", #[⟨21, .guard⟩], some (21, false)⟩) (v := undef) rfl (by kernel_rfl) (by kernel_rfl) (by kernel_rfl) (fun _ _ _ h => h) (Or.inr ⟨by rfl, rfl⟩) (by assumption) ?_
      simp only [Act.put, List.setIfInBounds_toArray, List.set_cons_zero, List.set_cons_succ]
      refine wpAnyH_take (i := 25) (oi := ⟨some 31, .nilCheck (.tmp 30), 0, "line.go:67", #[⟨24, .data⟩, ⟨21, .guard⟩], some (21, false)⟩) (v := undef) rfl (by kernel_rfl) (by kernel_rfl) (by kernel_rfl) (fun _ _ _ h => h) (Or.inr ⟨by rfl, rfl⟩) (by assumption) ?_
      simp only [Act.put, List.setIfInBounds_toArray, List.set_cons_zero, List.set_cons_succ]
      refine wpAnyH_take (i := 26) (oi := ⟨some 32, .fieldAddr 181 (.tmp 31) 2, 0, "line.go:67", #[⟨25, .data⟩, ⟨21, .guard⟩], some (21, false)⟩) (v := undef) rfl (by kernel_rfl) (by kernel_rfl) (by kernel_rfl) (fun _ _ _ h => h) (Or.inr ⟨by rfl, rfl⟩) (by assumption) ?_
      simp only [Act.put, List.setIfInBounds_toArray, List.set_cons_zero, List.set_cons_succ]
      refine wpAnyH_take (i := 27) (oi := ⟨some 33, .load 3 (.tmp 32), 3, "line.go:67", #[⟨26, .data⟩, ⟨21, .guard⟩], some (21, false)⟩) (v := undef) rfl (by kernel_rfl) (by kernel_rfl) (by kernel_rfl) (fun _ _ _ h => h) (Or.inr ⟨by rfl, rfl⟩) (by assumption) ?_
      simp only [Act.put, List.setIfInBounds_toArray, List.set_cons_zero, List.set_cons_succ]
      refine wpAnyH_take (i := 28) (oi := ⟨some 34, .binOp .leq 3 (.tmp 29) (.tmp 33) 3, 4, "line.go:67", #[⟨23, .data⟩, ⟨27, .data⟩, ⟨21, .guard⟩], some (21, false)⟩) (v := undef) rfl (by kernel_rfl) (by kernel_rfl) (by kernel_rfl) (fun _ _ _ h => h) (Or.inr ⟨by rfl, rfl⟩) (by assumption) ?_
      simp only [Act.put, List.setIfInBounds_toArray, List.set_cons_zero, List.set_cons_succ]
      refine wpAnyH_take (i := 29) (oi := ⟨some 35, .move (.tmp 34), 4, "line.go:67", #[⟨28, .data⟩, ⟨21, .chain⟩, ⟨21, .guard⟩], some (21, false)⟩) (v := undef) rfl (by kernel_rfl) (by kernel_rfl) (by kernel_rfl) (fun _ _ _ h => h) (Or.inr ⟨by rfl, rfl⟩) (by assumption) ?_
      simp only [Act.put, List.setIfInBounds_toArray, List.set_cons_zero, List.set_cons_succ]
      refine wpAnyH_take (i := 30) (oi := ⟨some 36, .move (.tmp 0), 179, "line.go:67", #[⟨29, .guard⟩], some (29, true)⟩) (v := undef) rfl (by kernel_rfl) (by kernel_rfl) (by kernel_rfl) (fun _ _ _ h => h) (Or.inr ⟨by rfl, rfl⟩) (by assumption) ?_
      simp only [Act.put, List.setIfInBounds_toArray, List.set_cons_zero, List.set_cons_succ]
      refine wpAnyH_take (i := 31) (oi := ⟨some 37, .nilCheck (.tmp 36), 0, "line.go:67", #[⟨30, .data⟩, ⟨29, .guard⟩], some (29, true)⟩) (v := undef) rfl (by kernel_rfl) (by kernel_rfl) (by kernel_rfl) (fun _ _ _ h => h) (Or.inr ⟨by rfl, rfl⟩) (by assumption) ?_
      simp only [Act.put, List.setIfInBounds_toArray, List.set_cons_zero, List.set_cons_succ]
      refine wpAnyH_take (i := 32) (oi := ⟨some 38, .fieldAddr 181 (.tmp 37) 0, 0, "line.go:67", #[⟨31, .data⟩, ⟨29, .guard⟩], some (29, true)⟩) (v := undef) rfl (by kernel_rfl) (by kernel_rfl) (by kernel_rfl) (fun _ _ _ h => h) (Or.inr ⟨by rfl, rfl⟩) (by assumption) ?_
      simp only [Act.put, List.setIfInBounds_toArray, List.set_cons_zero, List.set_cons_succ]
      refine wpAnyH_take (i := 33) (oi := ⟨some 39, .load 24 (.tmp 38), 24, "line.go:67", #[⟨32, .data⟩, ⟨29, .guard⟩], some (29, true)⟩) (v := undef) rfl (by kernel_rfl) (by kernel_rfl) (by kernel_rfl) (fun _ _ _ h => h) (Or.inr ⟨by rfl, rfl⟩) (by assumption) ?_
      simp only [Act.put, List.setIfInBounds_toArray, List.set_cons_zero, List.set_cons_succ]
      refine wpAnyH_take (i := 34) (oi := ⟨some 40, .load 35 (.tmp 5), 35, "line.go:67", #[⟨29, .guard⟩], some (29, true)⟩) (v := undef) rfl (by kernel_rfl) (by kernel_rfl) (by kernel_rfl) (fun _ _ _ h => h) (Or.inr ⟨by rfl, rfl⟩) (by assumption) ?_
      simp only [Act.put, List.setIfInBounds_toArray, List.set_cons_zero, List.set_cons_succ]
      refine wpAnyH_take (i := 35) (oi := ⟨some 41, .move (.tmp 0), 179, "line.go:67", #[⟨29, .guard⟩], some (29, true)⟩) (v := undef) rfl (by kernel_rfl) (by kernel_rfl) (by kernel_rfl) (fun _ _ _ h => h) (Or.inr ⟨by rfl, rfl⟩) (by assumption) ?_
      simp only [Act.put, List.setIfInBounds_toArray, List.set_cons_zero, List.set_cons_succ]
      refine wpAnyH_take (i := 36) (oi := ⟨some 42, .nilCheck (.tmp 41), 0, "line.go:67", #[⟨35, .data⟩, ⟨29, .guard⟩], some (29, true)⟩) (v := undef) rfl (by kernel_rfl) (by kernel_rfl) (by kernel_rfl) (fun _ _ _ h => h) (Or.inr ⟨by rfl, rfl⟩) (by assumption) ?_
      simp only [Act.put, List.setIfInBounds_toArray, List.set_cons_zero, List.set_cons_succ]
      refine wpAnyH_take (i := 37) (oi := ⟨some 43, .fieldAddr 181 (.tmp 42) 2, 0, "line.go:67", #[⟨36, .data⟩, ⟨29, .guard⟩], some (29, true)⟩) (v := undef) rfl (by kernel_rfl) (by kernel_rfl) (by kernel_rfl) (fun _ _ _ h => h) (Or.inr ⟨by rfl, rfl⟩) (by assumption) ?_
      simp only [Act.put, List.setIfInBounds_toArray, List.set_cons_zero, List.set_cons_succ]
      refine wpAnyH_take (i := 38) (oi := ⟨some 44, .load 3 (.tmp 43), 3, "line.go:67", #[⟨37, .data⟩, ⟨29, .guard⟩], some (29, true)⟩) (v := undef) rfl (by kernel_rfl) (by kernel_rfl) (by kernel_rfl) (fun _ _ _ h => h) (Or.inr ⟨by rfl, rfl⟩) (by assumption) ?_
      simp only [Act.put, List.setIfInBounds_toArray, List.set_cons_zero, List.set_cons_succ]
      refine wpAnyH_ready (rs := [39]) (by kernel_rfl) (by simp) ?_
      refine AllReadyH.cons (o := ⟨some 45, .call { callee := .value (.func 31), args := #[.tmp 39, .tmp 40, .tmp 44], argTypes := #[24, 35, 3] }, 4, "line.go:67", #[⟨33, .data⟩, ⟨34, .data⟩, ⟨38, .data⟩, ⟨29, .chain⟩, ⟨29, .guard⟩], some (29, true)⟩) rfl (fun K hK => ?_) ?_
      ·
        rw [if_neg (by rw [show Region.wanted _ _ = false from rfl]; simp)]
        refine hK.out _ _ ?_ (fun hHeld => ?_)
        · (first | exact ⟨r0, r1, r2, r3, r4, r6, r7, r8⟩ | exact ⟨q0, q1, q2, q3, q4, q6, q7, q8⟩ | exact ⟨c0, c1, c2, c3, c4, c6, c7, c8⟩ | go_keep)
        clear hK K
        try simp only [Act.put, List.setIfInBounds_toArray, List.set_cons_zero, List.set_cons_succ]
        refine wpAnyH_take (i := 40) (oi := ⟨some 46, .unOp .not 4 (.tmp 45), 4, "line.go:67", #[⟨39, .data⟩, ⟨29, .guard⟩], some (29, true)⟩) (v := undef) rfl (by kernel_rfl) (by kernel_rfl) (by kernel_rfl) (fun _ _ _ h => h) (Or.inr ⟨by rfl, rfl⟩) (by assumption) ?_
        simp only [Act.put, List.setIfInBounds_toArray, List.set_cons_zero, List.set_cons_succ]
        refine wpAnyH_take (i := 41) (oi := ⟨some 47, .pick (.tmp 35) (.tmp 46) (.const (.bool false)), 4, "line.go:67", #[⟨29, .data⟩, ⟨40, .data⟩, ⟨21, .guard⟩], some (21, false)⟩) (v := undef) rfl (by kernel_rfl) (by kernel_rfl) (by kernel_rfl) (fun _ _ _ h => h) (Or.inr ⟨by rfl, rfl⟩) (by assumption) ?_
        simp only [Act.put, List.setIfInBounds_toArray, List.set_cons_zero, List.set_cons_succ]
        refine wpAnyH_take (i := 42) (oi := ⟨some 48, .pick (.tmp 27) (.const (.bool true)) (.tmp 47), 4, "line.go:67", #[⟨21, .data⟩, ⟨41, .data⟩], none⟩) (v := ?v1z42) rfl (by kernel_rfl) (by kernel_rfl) (by kernel_rfl) (fun _ _ _ h => h) (Or.inl ⟨by rfl, ?hy1z42⟩) (by assumption) ?rest1z42
        case hy1z42 => (intro w hSw; (try dsimp only at hSw); go_simp; try (with_reducible rfl))
        simp only [Act.put, List.setIfInBounds_toArray, List.set_cons_zero, List.set_cons_succ]
        refine wpAnyH_done (by kernel_rfl) ?_ _
        go_wp2_with fail
        go_meet
        exact ⟨by rw [HV.out], HB1⟩
      exact AllReadyH.nil
    exact AllReadyH.nil
  | true =>
    have HH := Lib.hid hh
    obtain ⟨hb1, s', q', hs', hq', hsl, hql⟩ := hasB_spec hh
    simp only at hs' hq' hb1
    subst hs' hq'
    obtain ⟨kad, hkad, hkc⟩ := HY.out.kept.cell (by omega)
    have c5 := hkc s' (.bool (keptAt p.ops s')) (by unfold boolsC; rw [List.getElem?_map, keptL_get hsl]; rfl)
    have l3 := World.block_lt_of_cell? W _ c5
    rw [hkad] at c4
    have HVE := Lib.hid (show noneB p mark ⟨xb, (s' : Nat), (q' : Nat)⟩ = (!keptAt p.ops s' || (decide (xb ≤ mark) && !leafD p ⟨xb, (s' : Nat), (q' : Nat)⟩ mark)) from by unfold noneB; rw [hh]; rfl)
    have hsI : (s' : Int) < (p.ops.length : Nat) := by omega
    clear hh hkc hb1
    cases hk : keptAt p.ops s' with
    | false =>
      rw [hk] at c5
      have HV := Lib.hid (show noneB p mark ⟨xb, (s' : Nat), (q' : Nat)⟩ = true from by rw [HVE.out, hk]; rfl)
      clear hk
      refine wp_region_held_drew (S := (fun w' => w'.cell? ⟨w.heap.size, 0, none⟩ = some (.int .i64 xb) ∧ w'.cell? ⟨w.heap.size, 1, none⟩ = some (.int .i64 (s' : Nat)) ∧ w'.cell? ⟨w.heap.size, 2, none⟩ = some (.int .i64 (q' : Nat)) ∧ w'.cell? ⟨X.lb, 2, none⟩ = some (.pointer (some ⟨X.wyb, 0, none⟩)) ∧ w'.cell? ⟨X.wyb, 0, none⟩ = some (.slice (some kad) p.ops.length X.kc) ∧ w'.cell? ⟨X.lb, 3, none⟩ = some (.int .i64 mark) ∧ w'.cell? ⟨X.lb, 0, none⟩ = some (.int .i64 p.parts) ∧ w'.cell? ⟨X.lb, 1, none⟩ = some (.slice A p.ops.length c) ∧ w'.cell? (kad.add s') = some (.bool false))) (by kernel_rfl) ?_ (fun hHeld => ?_)
      · (first | exact ⟨r0, r1, r2, r3, r4, r6, r7, r8, r5⟩ | exact ⟨q0, q1, q2, q3, q4, q6, q7, q8, q5⟩ | exact ⟨c0, c1, c2, c3, c4, c6, c7, c8, c5⟩ | go_keep)
      refine wpAnyH_take (i := 0) (oi := ⟨some 6, .move (.tmp 0), 179, "line.go:67", #[], none⟩) (v := ?v2z0) rfl (by kernel_rfl) (by kernel_rfl) (by kernel_rfl) (fun _ _ _ h => h) (Or.inl ⟨by rfl, ?hy2z0⟩) (by assumption) ?rest2z0
      case hy2z0 => (intro w hSw; (try dsimp only at hSw); go_simp; try (with_reducible rfl))
      simp only [Act.put, List.setIfInBounds_toArray, List.set_cons_zero, List.set_cons_succ]
      refine wpAnyH_take (i := 1) (oi := ⟨some 7, .nilCheck (.tmp 6), 0, "line.go:67", #[⟨0, .data⟩], none⟩) (v := ?v2z1) rfl (by kernel_rfl) (by kernel_rfl) (by kernel_rfl) (fun _ _ _ h => h) (Or.inl ⟨by rfl, ?hy2z1⟩) (by assumption) ?rest2z1
      case hy2z1 => (intro w hSw; (try dsimp only at hSw); go_simp; try (with_reducible rfl))
      simp only [Act.put, List.setIfInBounds_toArray, List.set_cons_zero, List.set_cons_succ]
      refine wpAnyH_take (i := 2) (oi := ⟨some 8, .fieldAddr 181 (.tmp 7) 1, 0, "line.go:67", #[⟨1, .data⟩], none⟩) (v := ?v2z2) rfl (by kernel_rfl) (by kernel_rfl) (by kernel_rfl) (fun _ _ _ h => h) (Or.inl ⟨by rfl, ?hy2z2⟩) (by assumption) ?rest2z2
      case hy2z2 => (intro w hSw; (try dsimp only at hSw); go_simp; try (with_reducible rfl))
      simp only [Act.put, List.setIfInBounds_toArray, List.set_cons_zero, List.set_cons_succ]
      refine wpAnyH_take (i := 3) (oi := ⟨some 9, .load 107 (.tmp 8), 107, "line.go:67", #[⟨2, .data⟩], none⟩) (v := ?v2z3) rfl (by kernel_rfl) (by kernel_rfl) (by kernel_rfl) (fun _ _ _ h => h) (Or.inl ⟨by rfl, ?hy2z3⟩) (by assumption) ?rest2z3
      case hy2z3 => (intro w hSw; (try dsimp only at hSw); go_simp; try (with_reducible rfl))
      simp only [Act.put, List.setIfInBounds_toArray, List.set_cons_zero, List.set_cons_succ]
      refine wpAnyH_take (i := 4) (oi := ⟨some 10, .load 35 (.tmp 5), 35, "line.go:67", #[], none⟩) (v := ?v2z4) rfl (by kernel_rfl) (by kernel_rfl) (by kernel_rfl) (fun _ _ _ h => h) (Or.inl ⟨by rfl, ?hy2z4⟩) (by assumption) ?rest2z4
      case hy2z4 => (intro w hSw; (try dsimp only at hSw); go_simp; try (with_reducible rfl))
      simp only [Act.put, List.setIfInBounds_toArray, List.set_cons_zero, List.set_cons_succ]
      refine wpAnyH_ready (rs := [5]) (by kernel_rfl) (by simp) ?_
      refine AllReadyH.cons (o := ⟨some 11, .call { callee := .value (.func 112), args := #[.tmp 9, .tmp 10], argTypes := #[107, 35] }, 4, "line.go:67", #[⟨3, .data⟩, ⟨4, .data⟩], none⟩) rfl (fun K hK => ?_) ?_
      ·
        go_simp
        go_at_call 112
        refine (has_c B X.wyb X.Rw p A X.K c X.kc ⟨xb, (s' : Nat), (q' : Nat)⟩ _ (H.out.ways.ext (below_drewN (Below.refl _ _) 1)) HP.out).mono ?_
        rw [HH.out]
        rintro e w1 ⟨rfl, hb⟩
        have HB1 := Lib.hid (show Below W.heap.size W w1 from ext_trans (below_drewN (Below.refl _ _) 1) hb)
        have q0 := (World.cell?_of_block (a := ⟨w.heap.size, 0, none⟩) (HB1.out.block _ l0)).trans c0
        have q1 := (World.cell?_of_block (a := ⟨w.heap.size, 1, none⟩) (HB1.out.block _ l0)).trans c1
        have q2 := (World.cell?_of_block (a := ⟨w.heap.size, 2, none⟩) (HB1.out.block _ l0)).trans c2
        have q3 := (World.cell?_of_block (a := ⟨X.lb, 2, none⟩) (HB1.out.block _ l1)).trans c3
        have q4 := (World.cell?_of_block (a := ⟨X.wyb, 0, none⟩) (HB1.out.block _ l2)).trans c4
        have q5 := (World.cell?_of_block (a := kad.add s') (HB1.out.block _ l3)).trans c5
        have q6 := (World.cell?_of_block (a := ⟨X.lb, 3, none⟩) (HB1.out.block _ l1)).trans c6
        have q7 := (World.cell?_of_block (a := ⟨X.lb, 0, none⟩) (HB1.out.block _ l1)).trans c7
        have q8 := (World.cell?_of_block (a := ⟨X.lb, 1, none⟩) (HB1.out.block _ l1)).trans c8
        clear hb
        refine hK.out _ _ ?_ (fun hHeld => ?_)
        · (first | exact ⟨r0, r1, r2, r3, r4, r6, r7, r8, r5⟩ | exact ⟨q0, q1, q2, q3, q4, q6, q7, q8, q5⟩ | exact ⟨c0, c1, c2, c3, c4, c6, c7, c8, c5⟩ | go_keep)
        clear hK K
        try simp only [Act.put, List.setIfInBounds_toArray, List.set_cons_zero, List.set_cons_succ]
        refine wpAnyH_take (i := 6) (oi := ⟨some 12, .unOp .not 4 (.tmp 11), 4, "line.go:67", #[⟨5, .data⟩], none⟩) (v := ?v2z6) rfl (by kernel_rfl) (by kernel_rfl) (by kernel_rfl) (fun _ _ _ h => h) (Or.inl ⟨by rfl, ?hy2z6⟩) (by assumption) ?rest2z6
        case hy2z6 => (intro w hSw; (try dsimp only at hSw); go_simp; try (with_reducible rfl))
        simp only [Act.put, List.setIfInBounds_toArray, List.set_cons_zero, List.set_cons_succ]
        refine wpAnyH_take (i := 7) (oi := ⟨some 13, .move (.tmp 12), 4, "line.go:67", #[⟨6, .data⟩, ⟨5, .chain⟩], none⟩) (v := ?v2z7) rfl (by kernel_rfl) (by kernel_rfl) (by kernel_rfl) (fun _ _ _ h => h) (Or.inl ⟨by rfl, ?hy2z7⟩) (by assumption) ?rest2z7
        case hy2z7 => (intro w hSw; (try dsimp only at hSw); go_simp; try (with_reducible rfl))
        simp only [Act.put, List.setIfInBounds_toArray, List.set_cons_zero, List.set_cons_succ]
        refine wpAnyH_take (i := 8) (oi := ⟨some 14, .move (.tmp 0), 179, "line.go:67", #[⟨7, .guard⟩], some (7, false)⟩) (v := ?v2z8) rfl (by kernel_rfl) (by kernel_rfl) (by kernel_rfl) (fun _ _ _ h => h) (Or.inl ⟨by rfl, ?hy2z8⟩) (by assumption) ?rest2z8
        case hy2z8 => (intro w hSw; (try dsimp only at hSw); go_simp; try (with_reducible rfl))
        simp only [Act.put, List.setIfInBounds_toArray, List.set_cons_zero, List.set_cons_succ]
        refine wpAnyH_take (i := 9) (oi := ⟨some 15, .nilCheck (.tmp 14), 0, "line.go:67", #[⟨8, .data⟩, ⟨7, .guard⟩], some (7, false)⟩) (v := ?v2z9) rfl (by kernel_rfl) (by kernel_rfl) (by kernel_rfl) (fun _ _ _ h => h) (Or.inl ⟨by rfl, ?hy2z9⟩) (by assumption) ?rest2z9
        case hy2z9 => (intro w hSw; (try dsimp only at hSw); go_simp; try (with_reducible rfl))
        simp only [Act.put, List.setIfInBounds_toArray, List.set_cons_zero, List.set_cons_succ]
        refine wpAnyH_take (i := 10) (oi := ⟨some 16, .fieldAddr 181 (.tmp 15) 1, 0, "line.go:67", #[⟨9, .data⟩, ⟨7, .guard⟩], some (7, false)⟩) (v := ?v2z10) rfl (by kernel_rfl) (by kernel_rfl) (by kernel_rfl) (fun _ _ _ h => h) (Or.inl ⟨by rfl, ?hy2z10⟩) (by assumption) ?rest2z10
        case hy2z10 => (intro w hSw; (try dsimp only at hSw); go_simp; try (with_reducible rfl))
        simp only [Act.put, List.setIfInBounds_toArray, List.set_cons_zero, List.set_cons_succ]
        refine wpAnyH_take (i := 11) (oi := ⟨some 17, .load 107 (.tmp 16), 107, "line.go:67", #[⟨10, .data⟩, ⟨7, .guard⟩], some (7, false)⟩) (v := ?v2z11) rfl (by kernel_rfl) (by kernel_rfl) (by kernel_rfl) (fun _ _ _ h => h) (Or.inl ⟨by rfl, ?hy2z11⟩) (by assumption) ?rest2z11
        case hy2z11 => (intro w hSw; (try dsimp only at hSw); go_simp; try (with_reducible rfl))
        simp only [Act.put, List.setIfInBounds_toArray, List.set_cons_zero, List.set_cons_succ]
        refine wpAnyH_take (i := 12) (oi := ⟨some 18, .nilCheck (.tmp 17), 0, "line.go:67", #[⟨11, .data⟩, ⟨7, .guard⟩], some (7, false)⟩) (v := ?v2z12) rfl (by kernel_rfl) (by kernel_rfl) (by kernel_rfl) (fun _ _ _ h => h) (Or.inl ⟨by rfl, ?hy2z12⟩) (by assumption) ?rest2z12
        case hy2z12 => (intro w hSw; (try dsimp only at hSw); go_simp; try (with_reducible rfl))
        simp only [Act.put, List.setIfInBounds_toArray, List.set_cons_zero, List.set_cons_succ]
        refine wpAnyH_take (i := 13) (oi := ⟨some 19, .fieldAddr 174 (.tmp 18) 0, 0, "line.go:67", #[⟨12, .data⟩, ⟨7, .guard⟩], some (7, false)⟩) (v := ?v2z13) rfl (by kernel_rfl) (by kernel_rfl) (by kernel_rfl) (fun _ _ _ h => h) (Or.inl ⟨by rfl, ?hy2z13⟩) (by assumption) ?rest2z13
        case hy2z13 => (intro w hSw; (try dsimp only at hSw); go_simp; try (with_reducible rfl))
        simp only [Act.put, List.setIfInBounds_toArray, List.set_cons_zero, List.set_cons_succ]
        refine wpAnyH_take (i := 14) (oi := ⟨some 20, .load 139 (.tmp 19), 139, "line.go:67", #[⟨13, .data⟩, ⟨7, .guard⟩], some (7, false)⟩) (v := ?v2z14) rfl (by kernel_rfl) (by kernel_rfl) (by kernel_rfl) (fun _ _ _ h => h) (Or.inl ⟨by rfl, ?hy2z14⟩) (by assumption) ?rest2z14
        case hy2z14 => (intro w hSw; (try dsimp only at hSw); go_simp; try (with_reducible rfl))
        simp only [Act.put, List.setIfInBounds_toArray, List.set_cons_zero, List.set_cons_succ]
        refine wpAnyH_take (i := 15) (oi := ⟨some 21, .fieldAddr 35 (.tmp 5) 1, 0, "line.go:67", #[⟨7, .guard⟩], some (7, false)⟩) (v := ?v2z15) rfl (by kernel_rfl) (by kernel_rfl) (by kernel_rfl) (fun _ _ _ h => h) (Or.inl ⟨by rfl, ?hy2z15⟩) (by assumption) ?rest2z15
        case hy2z15 => (intro w hSw; (try dsimp only at hSw); go_simp; try (with_reducible rfl))
        simp only [Act.put, List.setIfInBounds_toArray, List.set_cons_zero, List.set_cons_succ]
        refine wpAnyH_take (i := 16) (oi := ⟨some 22, .load 3 (.tmp 21), 3, "line.go:67", #[⟨15, .data⟩, ⟨7, .guard⟩], some (7, false)⟩) (v := ?v2z16) rfl (by kernel_rfl) (by kernel_rfl) (by kernel_rfl) (fun _ _ _ h => h) (Or.inl ⟨by rfl, ?hy2z16⟩) (by assumption) ?rest2z16
        case hy2z16 => (intro w hSw; (try dsimp only at hSw); go_simp; try (with_reducible rfl))
        simp only [Act.put, List.setIfInBounds_toArray, List.set_cons_zero, List.set_cons_succ]
        refine wpAnyH_take (i := 17) (oi := ⟨some 23, .indexAddr 139 (.tmp 20) (.tmp 22), 0, "line.go:67", #[⟨14, .data⟩, ⟨16, .data⟩, ⟨7, .guard⟩], some (7, false)⟩) (v := ?v2z17) rfl (by kernel_rfl) (by kernel_rfl) (by kernel_rfl) (fun _ _ _ h => h) (Or.inl ⟨by rfl, ?hy2z17⟩) (by assumption) ?rest2z17
        case hy2z17 => (intro w hSw; (try dsimp only at hSw); go_simp; try (with_reducible rfl))
        simp only [Act.put, List.setIfInBounds_toArray, List.set_cons_zero, List.set_cons_succ]
        refine wpAnyH_take (i := 18) (oi := ⟨some 24, .load 4 (.tmp 23), 4, "line.go:67", #[⟨17, .data⟩, ⟨7, .guard⟩], some (7, false)⟩) (v := ?v2z18) rfl (by kernel_rfl) (by kernel_rfl) (by kernel_rfl) (fun _ _ _ h => h) (Or.inl ⟨by rfl, ?hy2z18⟩) (by assumption) ?rest2z18
        case hy2z18 => (intro w hSw; (try dsimp only at hSw); go_simp; try (with_reducible rfl))
        simp only [Act.put, List.setIfInBounds_toArray, List.set_cons_zero, List.set_cons_succ]
        refine wpAnyH_take (i := 19) (oi := ⟨some 25, .unOp .not 4 (.tmp 24), 4, "line.go:67", #[⟨18, .data⟩, ⟨7, .guard⟩], some (7, false)⟩) (v := ?v2z19) rfl (by kernel_rfl) (by kernel_rfl) (by kernel_rfl) (fun _ _ _ h => h) (Or.inl ⟨by rfl, ?hy2z19⟩) (by assumption) ?rest2z19
        case hy2z19 => (intro w hSw; (try dsimp only at hSw); go_simp; try (with_reducible rfl))
        simp only [Act.put, List.setIfInBounds_toArray, List.set_cons_zero, List.set_cons_succ]
        refine wpAnyH_take (i := 20) (oi := ⟨some 26, .pick (.tmp 13) (.const (.bool true)) (.tmp 25), 4, "line.go:67", #[⟨7, .data⟩, ⟨19, .data⟩], none⟩) (v := ?v2z20) rfl (by kernel_rfl) (by kernel_rfl) (by kernel_rfl) (fun _ _ _ h => h) (Or.inl ⟨by rfl, ?hy2z20⟩) (by assumption) ?rest2z20
        case hy2z20 => (intro w hSw; (try dsimp only at hSw); go_simp; try (with_reducible rfl))
        simp only [Act.put, List.setIfInBounds_toArray, List.set_cons_zero, List.set_cons_succ]
        refine wpAnyH_take (i := 21) (oi := ⟨some 27, .move (.tmp 26), 4, "line.go:67", #[⟨20, .data⟩, ⟨7, .chain⟩], none⟩) (v := ?v2z21) rfl (by kernel_rfl) (by kernel_rfl) (by kernel_rfl) (fun _ _ _ h => h) (Or.inl ⟨by rfl, ?hy2z21⟩) (by assumption) ?rest2z21
        case hy2z21 => (intro w hSw; (try dsimp only at hSw); go_simp; try (with_reducible rfl))
        simp only [Act.put, List.setIfInBounds_toArray, List.set_cons_zero, List.set_cons_succ]
        refine wpAnyH_take (i := 22) (oi := ⟨some 28, .fieldAddr 35 (.tmp 5) 0, 0, "line.go:67", #[⟨21, .guard⟩], some (21, false)⟩) (v := undef) rfl (by kernel_rfl) (by kernel_rfl) (by kernel_rfl) (fun _ _ _ h => h) (Or.inr ⟨by rfl, rfl⟩) (by assumption) ?_
        simp only [Act.put, List.setIfInBounds_toArray, List.set_cons_zero, List.set_cons_succ]
        refine wpAnyH_take (i := 23) (oi := ⟨some 29, .load 3 (.tmp 28), 3, "line.go:67", #[⟨22, .data⟩, ⟨21, .guard⟩], some (21, false)⟩) (v := undef) rfl (by kernel_rfl) (by kernel_rfl) (by kernel_rfl) (fun _ _ _ h => h) (Or.inr ⟨by rfl, rfl⟩) (by assumption) ?_
        simp only [Act.put, List.setIfInBounds_toArray, List.set_cons_zero, List.set_cons_succ]
        refine wpAnyH_take (i := 24) (oi := ⟨some 30, .move (.tmp 0), 179, "line.go:67", #[⟨21, .guard⟩], some (21, false)⟩) (v := undef) rfl (by kernel_rfl) (by kernel_rfl) (by kernel_rfl) (fun _ _ _ h => h) (Or.inr ⟨by rfl, rfl⟩) (by assumption) ?_
        simp only [Act.put, List.setIfInBounds_toArray, List.set_cons_zero, List.set_cons_succ]
        refine wpAnyH_take (i := 25) (oi := ⟨some 31, .nilCheck (.tmp 30), 0, "line.go:67", #[⟨24, .data⟩, ⟨21, .guard⟩], some (21, false)⟩) (v := undef) rfl (by kernel_rfl) (by kernel_rfl) (by kernel_rfl) (fun _ _ _ h => h) (Or.inr ⟨by rfl, rfl⟩) (by assumption) ?_
        simp only [Act.put, List.setIfInBounds_toArray, List.set_cons_zero, List.set_cons_succ]
        refine wpAnyH_take (i := 26) (oi := ⟨some 32, .fieldAddr 181 (.tmp 31) 2, 0, "line.go:67", #[⟨25, .data⟩, ⟨21, .guard⟩], some (21, false)⟩) (v := undef) rfl (by kernel_rfl) (by kernel_rfl) (by kernel_rfl) (fun _ _ _ h => h) (Or.inr ⟨by rfl, rfl⟩) (by assumption) ?_
        simp only [Act.put, List.setIfInBounds_toArray, List.set_cons_zero, List.set_cons_succ]
        refine wpAnyH_take (i := 27) (oi := ⟨some 33, .load 3 (.tmp 32), 3, "line.go:67", #[⟨26, .data⟩, ⟨21, .guard⟩], some (21, false)⟩) (v := undef) rfl (by kernel_rfl) (by kernel_rfl) (by kernel_rfl) (fun _ _ _ h => h) (Or.inr ⟨by rfl, rfl⟩) (by assumption) ?_
        simp only [Act.put, List.setIfInBounds_toArray, List.set_cons_zero, List.set_cons_succ]
        refine wpAnyH_take (i := 28) (oi := ⟨some 34, .binOp .leq 3 (.tmp 29) (.tmp 33) 3, 4, "line.go:67", #[⟨23, .data⟩, ⟨27, .data⟩, ⟨21, .guard⟩], some (21, false)⟩) (v := undef) rfl (by kernel_rfl) (by kernel_rfl) (by kernel_rfl) (fun _ _ _ h => h) (Or.inr ⟨by rfl, rfl⟩) (by assumption) ?_
        simp only [Act.put, List.setIfInBounds_toArray, List.set_cons_zero, List.set_cons_succ]
        refine wpAnyH_take (i := 29) (oi := ⟨some 35, .move (.tmp 34), 4, "line.go:67", #[⟨28, .data⟩, ⟨21, .chain⟩, ⟨21, .guard⟩], some (21, false)⟩) (v := undef) rfl (by kernel_rfl) (by kernel_rfl) (by kernel_rfl) (fun _ _ _ h => h) (Or.inr ⟨by rfl, rfl⟩) (by assumption) ?_
        simp only [Act.put, List.setIfInBounds_toArray, List.set_cons_zero, List.set_cons_succ]
        refine wpAnyH_take (i := 30) (oi := ⟨some 36, .move (.tmp 0), 179, "line.go:67", #[⟨29, .guard⟩], some (29, true)⟩) (v := undef) rfl (by kernel_rfl) (by kernel_rfl) (by kernel_rfl) (fun _ _ _ h => h) (Or.inr ⟨by rfl, rfl⟩) (by assumption) ?_
        simp only [Act.put, List.setIfInBounds_toArray, List.set_cons_zero, List.set_cons_succ]
        refine wpAnyH_take (i := 31) (oi := ⟨some 37, .nilCheck (.tmp 36), 0, "line.go:67", #[⟨30, .data⟩, ⟨29, .guard⟩], some (29, true)⟩) (v := undef) rfl (by kernel_rfl) (by kernel_rfl) (by kernel_rfl) (fun _ _ _ h => h) (Or.inr ⟨by rfl, rfl⟩) (by assumption) ?_
        simp only [Act.put, List.setIfInBounds_toArray, List.set_cons_zero, List.set_cons_succ]
        refine wpAnyH_take (i := 32) (oi := ⟨some 38, .fieldAddr 181 (.tmp 37) 0, 0, "line.go:67", #[⟨31, .data⟩, ⟨29, .guard⟩], some (29, true)⟩) (v := undef) rfl (by kernel_rfl) (by kernel_rfl) (by kernel_rfl) (fun _ _ _ h => h) (Or.inr ⟨by rfl, rfl⟩) (by assumption) ?_
        simp only [Act.put, List.setIfInBounds_toArray, List.set_cons_zero, List.set_cons_succ]
        refine wpAnyH_take (i := 33) (oi := ⟨some 39, .load 24 (.tmp 38), 24, "line.go:67", #[⟨32, .data⟩, ⟨29, .guard⟩], some (29, true)⟩) (v := undef) rfl (by kernel_rfl) (by kernel_rfl) (by kernel_rfl) (fun _ _ _ h => h) (Or.inr ⟨by rfl, rfl⟩) (by assumption) ?_
        simp only [Act.put, List.setIfInBounds_toArray, List.set_cons_zero, List.set_cons_succ]
        refine wpAnyH_take (i := 34) (oi := ⟨some 40, .load 35 (.tmp 5), 35, "line.go:67", #[⟨29, .guard⟩], some (29, true)⟩) (v := undef) rfl (by kernel_rfl) (by kernel_rfl) (by kernel_rfl) (fun _ _ _ h => h) (Or.inr ⟨by rfl, rfl⟩) (by assumption) ?_
        simp only [Act.put, List.setIfInBounds_toArray, List.set_cons_zero, List.set_cons_succ]
        refine wpAnyH_take (i := 35) (oi := ⟨some 41, .move (.tmp 0), 179, "line.go:67", #[⟨29, .guard⟩], some (29, true)⟩) (v := undef) rfl (by kernel_rfl) (by kernel_rfl) (by kernel_rfl) (fun _ _ _ h => h) (Or.inr ⟨by rfl, rfl⟩) (by assumption) ?_
        simp only [Act.put, List.setIfInBounds_toArray, List.set_cons_zero, List.set_cons_succ]
        refine wpAnyH_take (i := 36) (oi := ⟨some 42, .nilCheck (.tmp 41), 0, "line.go:67", #[⟨35, .data⟩, ⟨29, .guard⟩], some (29, true)⟩) (v := undef) rfl (by kernel_rfl) (by kernel_rfl) (by kernel_rfl) (fun _ _ _ h => h) (Or.inr ⟨by rfl, rfl⟩) (by assumption) ?_
        simp only [Act.put, List.setIfInBounds_toArray, List.set_cons_zero, List.set_cons_succ]
        refine wpAnyH_take (i := 37) (oi := ⟨some 43, .fieldAddr 181 (.tmp 42) 2, 0, "line.go:67", #[⟨36, .data⟩, ⟨29, .guard⟩], some (29, true)⟩) (v := undef) rfl (by kernel_rfl) (by kernel_rfl) (by kernel_rfl) (fun _ _ _ h => h) (Or.inr ⟨by rfl, rfl⟩) (by assumption) ?_
        simp only [Act.put, List.setIfInBounds_toArray, List.set_cons_zero, List.set_cons_succ]
        refine wpAnyH_take (i := 38) (oi := ⟨some 44, .load 3 (.tmp 43), 3, "line.go:67", #[⟨37, .data⟩, ⟨29, .guard⟩], some (29, true)⟩) (v := undef) rfl (by kernel_rfl) (by kernel_rfl) (by kernel_rfl) (fun _ _ _ h => h) (Or.inr ⟨by rfl, rfl⟩) (by assumption) ?_
        simp only [Act.put, List.setIfInBounds_toArray, List.set_cons_zero, List.set_cons_succ]
        refine wpAnyH_ready (rs := [39]) (by kernel_rfl) (by simp) ?_
        refine AllReadyH.cons (o := ⟨some 45, .call { callee := .value (.func 31), args := #[.tmp 39, .tmp 40, .tmp 44], argTypes := #[24, 35, 3] }, 4, "line.go:67", #[⟨33, .data⟩, ⟨34, .data⟩, ⟨38, .data⟩, ⟨29, .chain⟩, ⟨29, .guard⟩], some (29, true)⟩) rfl (fun K hK => ?_) ?_
        ·
          rw [if_neg (by rw [show Region.wanted _ _ = false from rfl]; simp)]
          refine hK.out _ _ ?_ (fun hHeld => ?_)
          · (first | exact ⟨r0, r1, r2, r3, r4, r6, r7, r8, r5⟩ | exact ⟨q0, q1, q2, q3, q4, q6, q7, q8, q5⟩ | exact ⟨c0, c1, c2, c3, c4, c6, c7, c8, c5⟩ | go_keep)
          clear hK K
          try simp only [Act.put, List.setIfInBounds_toArray, List.set_cons_zero, List.set_cons_succ]
          refine wpAnyH_take (i := 40) (oi := ⟨some 46, .unOp .not 4 (.tmp 45), 4, "line.go:67", #[⟨39, .data⟩, ⟨29, .guard⟩], some (29, true)⟩) (v := undef) rfl (by kernel_rfl) (by kernel_rfl) (by kernel_rfl) (fun _ _ _ h => h) (Or.inr ⟨by rfl, rfl⟩) (by assumption) ?_
          simp only [Act.put, List.setIfInBounds_toArray, List.set_cons_zero, List.set_cons_succ]
          refine wpAnyH_take (i := 41) (oi := ⟨some 47, .pick (.tmp 35) (.tmp 46) (.const (.bool false)), 4, "line.go:67", #[⟨29, .data⟩, ⟨40, .data⟩, ⟨21, .guard⟩], some (21, false)⟩) (v := undef) rfl (by kernel_rfl) (by kernel_rfl) (by kernel_rfl) (fun _ _ _ h => h) (Or.inr ⟨by rfl, rfl⟩) (by assumption) ?_
          simp only [Act.put, List.setIfInBounds_toArray, List.set_cons_zero, List.set_cons_succ]
          refine wpAnyH_take (i := 42) (oi := ⟨some 48, .pick (.tmp 27) (.const (.bool true)) (.tmp 47), 4, "line.go:67", #[⟨21, .data⟩, ⟨41, .data⟩], none⟩) (v := ?v2z42) rfl (by kernel_rfl) (by kernel_rfl) (by kernel_rfl) (fun _ _ _ h => h) (Or.inl ⟨by rfl, ?hy2z42⟩) (by assumption) ?rest2z42
          case hy2z42 => (intro w hSw; (try dsimp only at hSw); go_simp; try (with_reducible rfl))
          simp only [Act.put, List.setIfInBounds_toArray, List.set_cons_zero, List.set_cons_succ]
          refine wpAnyH_done (by kernel_rfl) ?_ _
          go_wp2_with fail
          go_meet
          exact ⟨by rw [HV.out], HB1⟩
        exact AllReadyH.nil
      exact AllReadyH.nil
    | true =>
      rw [hk] at c5
      have HV2 := Lib.hid (show noneB p mark ⟨xb, (s' : Nat), (q' : Nat)⟩ = (decide (xb ≤ mark) && !leafD p ⟨xb, (s' : Nat), (q' : Nat)⟩ mark) from by rw [HVE.out, hk]; rfl)
      clear hk
      by_cases hm : xb ≤ mark
      · have hmd : decide (xb ≤ mark) = true := decide_eq_true hm
        cases hlf : leafD p ⟨xb, (s' : Nat), (q' : Nat)⟩ mark with
        | true =>
          have HLf := Lib.hid hlf
          have HV := Lib.hid (show noneB p mark ⟨xb, (s' : Nat), (q' : Nat)⟩ = false from by rw [HV2.out, hlf, Bool.not_true, Bool.and_false])
          clear hlf hm
          refine wp_region_held_drew (S := (fun w' => w'.cell? ⟨w.heap.size, 0, none⟩ = some (.int .i64 xb) ∧ w'.cell? ⟨w.heap.size, 1, none⟩ = some (.int .i64 (s' : Nat)) ∧ w'.cell? ⟨w.heap.size, 2, none⟩ = some (.int .i64 (q' : Nat)) ∧ w'.cell? ⟨X.lb, 2, none⟩ = some (.pointer (some ⟨X.wyb, 0, none⟩)) ∧ w'.cell? ⟨X.wyb, 0, none⟩ = some (.slice (some kad) p.ops.length X.kc) ∧ w'.cell? ⟨X.lb, 3, none⟩ = some (.int .i64 mark) ∧ w'.cell? ⟨X.lb, 0, none⟩ = some (.int .i64 p.parts) ∧ w'.cell? ⟨X.lb, 1, none⟩ = some (.slice A p.ops.length c) ∧ w'.cell? (kad.add s') = some (.bool true))) (by kernel_rfl) ?_ (fun hHeld => ?_)
          · (first | exact ⟨r0, r1, r2, r3, r4, r6, r7, r8, r5⟩ | exact ⟨q0, q1, q2, q3, q4, q6, q7, q8, q5⟩ | exact ⟨c0, c1, c2, c3, c4, c6, c7, c8, c5⟩ | go_keep)
          refine wpAnyH_take (i := 0) (oi := ⟨some 6, .move (.tmp 0), 179, "line.go:67", #[], none⟩) (v := ?v3z0) rfl (by kernel_rfl) (by kernel_rfl) (by kernel_rfl) (fun _ _ _ h => h) (Or.inl ⟨by rfl, ?hy3z0⟩) (by assumption) ?rest3z0
          case hy3z0 => (intro w hSw; (try dsimp only at hSw); go_simp; try (with_reducible rfl))
          simp only [Act.put, List.setIfInBounds_toArray, List.set_cons_zero, List.set_cons_succ]
          refine wpAnyH_take (i := 1) (oi := ⟨some 7, .nilCheck (.tmp 6), 0, "line.go:67", #[⟨0, .data⟩], none⟩) (v := ?v3z1) rfl (by kernel_rfl) (by kernel_rfl) (by kernel_rfl) (fun _ _ _ h => h) (Or.inl ⟨by rfl, ?hy3z1⟩) (by assumption) ?rest3z1
          case hy3z1 => (intro w hSw; (try dsimp only at hSw); go_simp; try (with_reducible rfl))
          simp only [Act.put, List.setIfInBounds_toArray, List.set_cons_zero, List.set_cons_succ]
          refine wpAnyH_take (i := 2) (oi := ⟨some 8, .fieldAddr 181 (.tmp 7) 1, 0, "line.go:67", #[⟨1, .data⟩], none⟩) (v := ?v3z2) rfl (by kernel_rfl) (by kernel_rfl) (by kernel_rfl) (fun _ _ _ h => h) (Or.inl ⟨by rfl, ?hy3z2⟩) (by assumption) ?rest3z2
          case hy3z2 => (intro w hSw; (try dsimp only at hSw); go_simp; try (with_reducible rfl))
          simp only [Act.put, List.setIfInBounds_toArray, List.set_cons_zero, List.set_cons_succ]
          refine wpAnyH_take (i := 3) (oi := ⟨some 9, .load 107 (.tmp 8), 107, "line.go:67", #[⟨2, .data⟩], none⟩) (v := ?v3z3) rfl (by kernel_rfl) (by kernel_rfl) (by kernel_rfl) (fun _ _ _ h => h) (Or.inl ⟨by rfl, ?hy3z3⟩) (by assumption) ?rest3z3
          case hy3z3 => (intro w hSw; (try dsimp only at hSw); go_simp; try (with_reducible rfl))
          simp only [Act.put, List.setIfInBounds_toArray, List.set_cons_zero, List.set_cons_succ]
          refine wpAnyH_take (i := 4) (oi := ⟨some 10, .load 35 (.tmp 5), 35, "line.go:67", #[], none⟩) (v := ?v3z4) rfl (by kernel_rfl) (by kernel_rfl) (by kernel_rfl) (fun _ _ _ h => h) (Or.inl ⟨by rfl, ?hy3z4⟩) (by assumption) ?rest3z4
          case hy3z4 => (intro w hSw; (try dsimp only at hSw); go_simp; try (with_reducible rfl))
          simp only [Act.put, List.setIfInBounds_toArray, List.set_cons_zero, List.set_cons_succ]
          refine wpAnyH_ready (rs := [5]) (by kernel_rfl) (by simp) ?_
          refine AllReadyH.cons (o := ⟨some 11, .call { callee := .value (.func 112), args := #[.tmp 9, .tmp 10], argTypes := #[107, 35] }, 4, "line.go:67", #[⟨3, .data⟩, ⟨4, .data⟩], none⟩) rfl (fun K hK => ?_) ?_
          ·
            go_simp
            go_at_call 112
            refine (has_c B X.wyb X.Rw p A X.K c X.kc ⟨xb, (s' : Nat), (q' : Nat)⟩ _ (H.out.ways.ext (below_drewN (Below.refl _ _) 1)) HP.out).mono ?_
            rw [HH.out]
            rintro e w1 ⟨rfl, hb⟩
            have HB1 := Lib.hid (show Below W.heap.size W w1 from ext_trans (below_drewN (Below.refl _ _) 1) hb)
            have q0 := (World.cell?_of_block (a := ⟨w.heap.size, 0, none⟩) (HB1.out.block _ l0)).trans c0
            have q1 := (World.cell?_of_block (a := ⟨w.heap.size, 1, none⟩) (HB1.out.block _ l0)).trans c1
            have q2 := (World.cell?_of_block (a := ⟨w.heap.size, 2, none⟩) (HB1.out.block _ l0)).trans c2
            have q3 := (World.cell?_of_block (a := ⟨X.lb, 2, none⟩) (HB1.out.block _ l1)).trans c3
            have q4 := (World.cell?_of_block (a := ⟨X.wyb, 0, none⟩) (HB1.out.block _ l2)).trans c4
            have q5 := (World.cell?_of_block (a := kad.add s') (HB1.out.block _ l3)).trans c5
            have q6 := (World.cell?_of_block (a := ⟨X.lb, 3, none⟩) (HB1.out.block _ l1)).trans c6
            have q7 := (World.cell?_of_block (a := ⟨X.lb, 0, none⟩) (HB1.out.block _ l1)).trans c7
            have q8 := (World.cell?_of_block (a := ⟨X.lb, 1, none⟩) (HB1.out.block _ l1)).trans c8
            clear hb
            refine hK.out _ _ ?_ (fun hHeld => ?_)
            · (first | exact ⟨r0, r1, r2, r3, r4, r6, r7, r8, r5⟩ | exact ⟨q0, q1, q2, q3, q4, q6, q7, q8, q5⟩ | exact ⟨c0, c1, c2, c3, c4, c6, c7, c8, c5⟩ | go_keep)
            clear hK K
            try simp only [Act.put, List.setIfInBounds_toArray, List.set_cons_zero, List.set_cons_succ]
            refine wpAnyH_take (i := 6) (oi := ⟨some 12, .unOp .not 4 (.tmp 11), 4, "line.go:67", #[⟨5, .data⟩], none⟩) (v := ?v3z6) rfl (by kernel_rfl) (by kernel_rfl) (by kernel_rfl) (fun _ _ _ h => h) (Or.inl ⟨by rfl, ?hy3z6⟩) (by assumption) ?rest3z6
            case hy3z6 => (intro w hSw; (try dsimp only at hSw); go_simp; try (with_reducible rfl))
            simp only [Act.put, List.setIfInBounds_toArray, List.set_cons_zero, List.set_cons_succ]
            refine wpAnyH_take (i := 7) (oi := ⟨some 13, .move (.tmp 12), 4, "line.go:67", #[⟨6, .data⟩, ⟨5, .chain⟩], none⟩) (v := ?v3z7) rfl (by kernel_rfl) (by kernel_rfl) (by kernel_rfl) (fun _ _ _ h => h) (Or.inl ⟨by rfl, ?hy3z7⟩) (by assumption) ?rest3z7
            case hy3z7 => (intro w hSw; (try dsimp only at hSw); go_simp; try (with_reducible rfl))
            simp only [Act.put, List.setIfInBounds_toArray, List.set_cons_zero, List.set_cons_succ]
            refine wpAnyH_take (i := 8) (oi := ⟨some 14, .move (.tmp 0), 179, "line.go:67", #[⟨7, .guard⟩], some (7, false)⟩) (v := ?v3z8) rfl (by kernel_rfl) (by kernel_rfl) (by kernel_rfl) (fun _ _ _ h => h) (Or.inl ⟨by rfl, ?hy3z8⟩) (by assumption) ?rest3z8
            case hy3z8 => (intro w hSw; (try dsimp only at hSw); go_simp; try (with_reducible rfl))
            simp only [Act.put, List.setIfInBounds_toArray, List.set_cons_zero, List.set_cons_succ]
            refine wpAnyH_take (i := 9) (oi := ⟨some 15, .nilCheck (.tmp 14), 0, "line.go:67", #[⟨8, .data⟩, ⟨7, .guard⟩], some (7, false)⟩) (v := ?v3z9) rfl (by kernel_rfl) (by kernel_rfl) (by kernel_rfl) (fun _ _ _ h => h) (Or.inl ⟨by rfl, ?hy3z9⟩) (by assumption) ?rest3z9
            case hy3z9 => (intro w hSw; (try dsimp only at hSw); go_simp; try (with_reducible rfl))
            simp only [Act.put, List.setIfInBounds_toArray, List.set_cons_zero, List.set_cons_succ]
            refine wpAnyH_take (i := 10) (oi := ⟨some 16, .fieldAddr 181 (.tmp 15) 1, 0, "line.go:67", #[⟨9, .data⟩, ⟨7, .guard⟩], some (7, false)⟩) (v := ?v3z10) rfl (by kernel_rfl) (by kernel_rfl) (by kernel_rfl) (fun _ _ _ h => h) (Or.inl ⟨by rfl, ?hy3z10⟩) (by assumption) ?rest3z10
            case hy3z10 => (intro w hSw; (try dsimp only at hSw); go_simp; try (with_reducible rfl))
            simp only [Act.put, List.setIfInBounds_toArray, List.set_cons_zero, List.set_cons_succ]
            refine wpAnyH_take (i := 11) (oi := ⟨some 17, .load 107 (.tmp 16), 107, "line.go:67", #[⟨10, .data⟩, ⟨7, .guard⟩], some (7, false)⟩) (v := ?v3z11) rfl (by kernel_rfl) (by kernel_rfl) (by kernel_rfl) (fun _ _ _ h => h) (Or.inl ⟨by rfl, ?hy3z11⟩) (by assumption) ?rest3z11
            case hy3z11 => (intro w hSw; (try dsimp only at hSw); go_simp; try (with_reducible rfl))
            simp only [Act.put, List.setIfInBounds_toArray, List.set_cons_zero, List.set_cons_succ]
            refine wpAnyH_take (i := 12) (oi := ⟨some 18, .nilCheck (.tmp 17), 0, "line.go:67", #[⟨11, .data⟩, ⟨7, .guard⟩], some (7, false)⟩) (v := ?v3z12) rfl (by kernel_rfl) (by kernel_rfl) (by kernel_rfl) (fun _ _ _ h => h) (Or.inl ⟨by rfl, ?hy3z12⟩) (by assumption) ?rest3z12
            case hy3z12 => (intro w hSw; (try dsimp only at hSw); go_simp; try (with_reducible rfl))
            simp only [Act.put, List.setIfInBounds_toArray, List.set_cons_zero, List.set_cons_succ]
            refine wpAnyH_take (i := 13) (oi := ⟨some 19, .fieldAddr 174 (.tmp 18) 0, 0, "line.go:67", #[⟨12, .data⟩, ⟨7, .guard⟩], some (7, false)⟩) (v := ?v3z13) rfl (by kernel_rfl) (by kernel_rfl) (by kernel_rfl) (fun _ _ _ h => h) (Or.inl ⟨by rfl, ?hy3z13⟩) (by assumption) ?rest3z13
            case hy3z13 => (intro w hSw; (try dsimp only at hSw); go_simp; try (with_reducible rfl))
            simp only [Act.put, List.setIfInBounds_toArray, List.set_cons_zero, List.set_cons_succ]
            refine wpAnyH_take (i := 14) (oi := ⟨some 20, .load 139 (.tmp 19), 139, "line.go:67", #[⟨13, .data⟩, ⟨7, .guard⟩], some (7, false)⟩) (v := ?v3z14) rfl (by kernel_rfl) (by kernel_rfl) (by kernel_rfl) (fun _ _ _ h => h) (Or.inl ⟨by rfl, ?hy3z14⟩) (by assumption) ?rest3z14
            case hy3z14 => (intro w hSw; (try dsimp only at hSw); go_simp; try (with_reducible rfl))
            simp only [Act.put, List.setIfInBounds_toArray, List.set_cons_zero, List.set_cons_succ]
            refine wpAnyH_take (i := 15) (oi := ⟨some 21, .fieldAddr 35 (.tmp 5) 1, 0, "line.go:67", #[⟨7, .guard⟩], some (7, false)⟩) (v := ?v3z15) rfl (by kernel_rfl) (by kernel_rfl) (by kernel_rfl) (fun _ _ _ h => h) (Or.inl ⟨by rfl, ?hy3z15⟩) (by assumption) ?rest3z15
            case hy3z15 => (intro w hSw; (try dsimp only at hSw); go_simp; try (with_reducible rfl))
            simp only [Act.put, List.setIfInBounds_toArray, List.set_cons_zero, List.set_cons_succ]
            refine wpAnyH_take (i := 16) (oi := ⟨some 22, .load 3 (.tmp 21), 3, "line.go:67", #[⟨15, .data⟩, ⟨7, .guard⟩], some (7, false)⟩) (v := ?v3z16) rfl (by kernel_rfl) (by kernel_rfl) (by kernel_rfl) (fun _ _ _ h => h) (Or.inl ⟨by rfl, ?hy3z16⟩) (by assumption) ?rest3z16
            case hy3z16 => (intro w hSw; (try dsimp only at hSw); go_simp; try (with_reducible rfl))
            simp only [Act.put, List.setIfInBounds_toArray, List.set_cons_zero, List.set_cons_succ]
            refine wpAnyH_take (i := 17) (oi := ⟨some 23, .indexAddr 139 (.tmp 20) (.tmp 22), 0, "line.go:67", #[⟨14, .data⟩, ⟨16, .data⟩, ⟨7, .guard⟩], some (7, false)⟩) (v := ?v3z17) rfl (by kernel_rfl) (by kernel_rfl) (by kernel_rfl) (fun _ _ _ h => h) (Or.inl ⟨by rfl, ?hy3z17⟩) (by assumption) ?rest3z17
            case hy3z17 => (intro w hSw; (try dsimp only at hSw); go_simp; try (with_reducible rfl))
            simp only [Act.put, List.setIfInBounds_toArray, List.set_cons_zero, List.set_cons_succ]
            refine wpAnyH_take (i := 18) (oi := ⟨some 24, .load 4 (.tmp 23), 4, "line.go:67", #[⟨17, .data⟩, ⟨7, .guard⟩], some (7, false)⟩) (v := ?v3z18) rfl (by kernel_rfl) (by kernel_rfl) (by kernel_rfl) (fun _ _ _ h => h) (Or.inl ⟨by rfl, ?hy3z18⟩) (by assumption) ?rest3z18
            case hy3z18 => (intro w hSw; (try dsimp only at hSw); go_simp; try (with_reducible rfl))
            simp only [Act.put, List.setIfInBounds_toArray, List.set_cons_zero, List.set_cons_succ]
            refine wpAnyH_take (i := 19) (oi := ⟨some 25, .unOp .not 4 (.tmp 24), 4, "line.go:67", #[⟨18, .data⟩, ⟨7, .guard⟩], some (7, false)⟩) (v := ?v3z19) rfl (by kernel_rfl) (by kernel_rfl) (by kernel_rfl) (fun _ _ _ h => h) (Or.inl ⟨by rfl, ?hy3z19⟩) (by assumption) ?rest3z19
            case hy3z19 => (intro w hSw; (try dsimp only at hSw); go_simp; try (with_reducible rfl))
            simp only [Act.put, List.setIfInBounds_toArray, List.set_cons_zero, List.set_cons_succ]
            refine wpAnyH_take (i := 20) (oi := ⟨some 26, .pick (.tmp 13) (.const (.bool true)) (.tmp 25), 4, "line.go:67", #[⟨7, .data⟩, ⟨19, .data⟩], none⟩) (v := ?v3z20) rfl (by kernel_rfl) (by kernel_rfl) (by kernel_rfl) (fun _ _ _ h => h) (Or.inl ⟨by rfl, ?hy3z20⟩) (by assumption) ?rest3z20
            case hy3z20 => (intro w hSw; (try dsimp only at hSw); go_simp; try (with_reducible rfl))
            simp only [Act.put, List.setIfInBounds_toArray, List.set_cons_zero, List.set_cons_succ]
            refine wpAnyH_take (i := 21) (oi := ⟨some 27, .move (.tmp 26), 4, "line.go:67", #[⟨20, .data⟩, ⟨7, .chain⟩], none⟩) (v := ?v3z21) rfl (by kernel_rfl) (by kernel_rfl) (by kernel_rfl) (fun _ _ _ h => h) (Or.inl ⟨by rfl, ?hy3z21⟩) (by assumption) ?rest3z21
            case hy3z21 => (intro w hSw; (try dsimp only at hSw); go_simp; try (with_reducible rfl))
            simp only [Act.put, List.setIfInBounds_toArray, List.set_cons_zero, List.set_cons_succ]
            refine wpAnyH_take (i := 22) (oi := ⟨some 28, .fieldAddr 35 (.tmp 5) 0, 0, "line.go:67", #[⟨21, .guard⟩], some (21, false)⟩) (v := ?v3z22) rfl (by kernel_rfl) (by kernel_rfl) (by kernel_rfl) (fun _ _ _ h => h) (Or.inl ⟨by rfl, ?hy3z22⟩) (by assumption) ?rest3z22
            case hy3z22 => (intro w hSw; (try dsimp only at hSw); go_simp; try (with_reducible rfl))
            simp only [Act.put, List.setIfInBounds_toArray, List.set_cons_zero, List.set_cons_succ]
            refine wpAnyH_take (i := 23) (oi := ⟨some 29, .load 3 (.tmp 28), 3, "line.go:67", #[⟨22, .data⟩, ⟨21, .guard⟩], some (21, false)⟩) (v := ?v3z23) rfl (by kernel_rfl) (by kernel_rfl) (by kernel_rfl) (fun _ _ _ h => h) (Or.inl ⟨by rfl, ?hy3z23⟩) (by assumption) ?rest3z23
            case hy3z23 => (intro w hSw; (try dsimp only at hSw); go_simp; try (with_reducible rfl))
            simp only [Act.put, List.setIfInBounds_toArray, List.set_cons_zero, List.set_cons_succ]
            refine wpAnyH_take (i := 24) (oi := ⟨some 30, .move (.tmp 0), 179, "line.go:67", #[⟨21, .guard⟩], some (21, false)⟩) (v := ?v3z24) rfl (by kernel_rfl) (by kernel_rfl) (by kernel_rfl) (fun _ _ _ h => h) (Or.inl ⟨by rfl, ?hy3z24⟩) (by assumption) ?rest3z24
            case hy3z24 => (intro w hSw; (try dsimp only at hSw); go_simp; try (with_reducible rfl))
            simp only [Act.put, List.setIfInBounds_toArray, List.set_cons_zero, List.set_cons_succ]
            refine wpAnyH_take (i := 25) (oi := ⟨some 31, .nilCheck (.tmp 30), 0, "line.go:67", #[⟨24, .data⟩, ⟨21, .guard⟩], some (21, false)⟩) (v := ?v3z25) rfl (by kernel_rfl) (by kernel_rfl) (by kernel_rfl) (fun _ _ _ h => h) (Or.inl ⟨by rfl, ?hy3z25⟩) (by assumption) ?rest3z25
            case hy3z25 => (intro w hSw; (try dsimp only at hSw); go_simp; try (with_reducible rfl))
            simp only [Act.put, List.setIfInBounds_toArray, List.set_cons_zero, List.set_cons_succ]
            refine wpAnyH_take (i := 26) (oi := ⟨some 32, .fieldAddr 181 (.tmp 31) 2, 0, "line.go:67", #[⟨25, .data⟩, ⟨21, .guard⟩], some (21, false)⟩) (v := ?v3z26) rfl (by kernel_rfl) (by kernel_rfl) (by kernel_rfl) (fun _ _ _ h => h) (Or.inl ⟨by rfl, ?hy3z26⟩) (by assumption) ?rest3z26
            case hy3z26 => (intro w hSw; (try dsimp only at hSw); go_simp; try (with_reducible rfl))
            simp only [Act.put, List.setIfInBounds_toArray, List.set_cons_zero, List.set_cons_succ]
            refine wpAnyH_take (i := 27) (oi := ⟨some 33, .load 3 (.tmp 32), 3, "line.go:67", #[⟨26, .data⟩, ⟨21, .guard⟩], some (21, false)⟩) (v := ?v3z27) rfl (by kernel_rfl) (by kernel_rfl) (by kernel_rfl) (fun _ _ _ h => h) (Or.inl ⟨by rfl, ?hy3z27⟩) (by assumption) ?rest3z27
            case hy3z27 => (intro w hSw; (try dsimp only at hSw); go_simp; try (with_reducible rfl))
            simp only [Act.put, List.setIfInBounds_toArray, List.set_cons_zero, List.set_cons_succ]
            refine wpAnyH_take (i := 28) (oi := ⟨some 34, .binOp .leq 3 (.tmp 29) (.tmp 33) 3, 4, "line.go:67", #[⟨23, .data⟩, ⟨27, .data⟩, ⟨21, .guard⟩], some (21, false)⟩) (v := ?v3z28) rfl (by kernel_rfl) (by kernel_rfl) (by kernel_rfl) (fun _ _ _ h => h) (Or.inl ⟨by rfl, ?hy3z28⟩) (by assumption) ?rest3z28
            case hy3z28 => (intro w hSw; (try dsimp only at hSw); go_simp; try (with_reducible rfl))
            simp only [Act.put, List.setIfInBounds_toArray, List.set_cons_zero, List.set_cons_succ]
            refine wpAnyH_take (i := 29) (oi := ⟨some 35, .move (.tmp 34), 4, "line.go:67", #[⟨28, .data⟩, ⟨21, .chain⟩, ⟨21, .guard⟩], some (21, false)⟩) (v := ?v3z29) rfl (by kernel_rfl) (by kernel_rfl) (by kernel_rfl) (fun _ _ _ h => h) (Or.inl ⟨by rfl, ?hy3z29⟩) (by assumption) ?rest3z29
            case hy3z29 => (intro w hSw; (try dsimp only at hSw); go_simp; try (with_reducible rfl))
            simp only [Act.put, List.setIfInBounds_toArray, List.set_cons_zero, List.set_cons_succ]
            refine wpAnyH_take (i := 30) (oi := ⟨some 36, .move (.tmp 0), 179, "line.go:67", #[⟨29, .guard⟩], some (29, true)⟩) (v := ?v3z30) rfl (by kernel_rfl) (by kernel_rfl) (by kernel_rfl) (fun _ _ _ h => h) (Or.inl ⟨by rfl, ?hy3z30⟩) (by assumption) ?rest3z30
            case hy3z30 => (intro w hSw; (try dsimp only at hSw); go_simp; try (with_reducible rfl))
            simp only [Act.put, List.setIfInBounds_toArray, List.set_cons_zero, List.set_cons_succ]
            refine wpAnyH_take (i := 31) (oi := ⟨some 37, .nilCheck (.tmp 36), 0, "line.go:67", #[⟨30, .data⟩, ⟨29, .guard⟩], some (29, true)⟩) (v := ?v3z31) rfl (by kernel_rfl) (by kernel_rfl) (by kernel_rfl) (fun _ _ _ h => h) (Or.inl ⟨by rfl, ?hy3z31⟩) (by assumption) ?rest3z31
            case hy3z31 => (intro w hSw; (try dsimp only at hSw); go_simp; try (with_reducible rfl))
            simp only [Act.put, List.setIfInBounds_toArray, List.set_cons_zero, List.set_cons_succ]
            refine wpAnyH_take (i := 32) (oi := ⟨some 38, .fieldAddr 181 (.tmp 37) 0, 0, "line.go:67", #[⟨31, .data⟩, ⟨29, .guard⟩], some (29, true)⟩) (v := ?v3z32) rfl (by kernel_rfl) (by kernel_rfl) (by kernel_rfl) (fun _ _ _ h => h) (Or.inl ⟨by rfl, ?hy3z32⟩) (by assumption) ?rest3z32
            case hy3z32 => (intro w hSw; (try dsimp only at hSw); go_simp; try (with_reducible rfl))
            simp only [Act.put, List.setIfInBounds_toArray, List.set_cons_zero, List.set_cons_succ]
            refine wpAnyH_take (i := 33) (oi := ⟨some 39, .load 24 (.tmp 38), 24, "line.go:67", #[⟨32, .data⟩, ⟨29, .guard⟩], some (29, true)⟩) (v := ?v3z33) rfl (by kernel_rfl) (by kernel_rfl) (by kernel_rfl) (fun _ _ _ h => h) (Or.inl ⟨by rfl, ?hy3z33⟩) (by assumption) ?rest3z33
            case hy3z33 => (intro w hSw; (try dsimp only at hSw); go_simp; try (with_reducible rfl))
            simp only [Act.put, List.setIfInBounds_toArray, List.set_cons_zero, List.set_cons_succ]
            refine wpAnyH_take (i := 34) (oi := ⟨some 40, .load 35 (.tmp 5), 35, "line.go:67", #[⟨29, .guard⟩], some (29, true)⟩) (v := ?v3z34) rfl (by kernel_rfl) (by kernel_rfl) (by kernel_rfl) (fun _ _ _ h => h) (Or.inl ⟨by rfl, ?hy3z34⟩) (by assumption) ?rest3z34
            case hy3z34 => (intro w hSw; (try dsimp only at hSw); go_simp; try (with_reducible rfl))
            simp only [Act.put, List.setIfInBounds_toArray, List.set_cons_zero, List.set_cons_succ]
            refine wpAnyH_take (i := 35) (oi := ⟨some 41, .move (.tmp 0), 179, "line.go:67", #[⟨29, .guard⟩], some (29, true)⟩) (v := ?v3z35) rfl (by kernel_rfl) (by kernel_rfl) (by kernel_rfl) (fun _ _ _ h => h) (Or.inl ⟨by rfl, ?hy3z35⟩) (by assumption) ?rest3z35
            case hy3z35 => (intro w hSw; (try dsimp only at hSw); go_simp; try (with_reducible rfl))
            simp only [Act.put, List.setIfInBounds_toArray, List.set_cons_zero, List.set_cons_succ]
            refine wpAnyH_take (i := 36) (oi := ⟨some 42, .nilCheck (.tmp 41), 0, "line.go:67", #[⟨35, .data⟩, ⟨29, .guard⟩], some (29, true)⟩) (v := ?v3z36) rfl (by kernel_rfl) (by kernel_rfl) (by kernel_rfl) (fun _ _ _ h => h) (Or.inl ⟨by rfl, ?hy3z36⟩) (by assumption) ?rest3z36
            case hy3z36 => (intro w hSw; (try dsimp only at hSw); go_simp; try (with_reducible rfl))
            simp only [Act.put, List.setIfInBounds_toArray, List.set_cons_zero, List.set_cons_succ]
            refine wpAnyH_take (i := 37) (oi := ⟨some 43, .fieldAddr 181 (.tmp 42) 2, 0, "line.go:67", #[⟨36, .data⟩, ⟨29, .guard⟩], some (29, true)⟩) (v := ?v3z37) rfl (by kernel_rfl) (by kernel_rfl) (by kernel_rfl) (fun _ _ _ h => h) (Or.inl ⟨by rfl, ?hy3z37⟩) (by assumption) ?rest3z37
            case hy3z37 => (intro w hSw; (try dsimp only at hSw); go_simp; try (with_reducible rfl))
            simp only [Act.put, List.setIfInBounds_toArray, List.set_cons_zero, List.set_cons_succ]
            refine wpAnyH_take (i := 38) (oi := ⟨some 44, .load 3 (.tmp 43), 3, "line.go:67", #[⟨37, .data⟩, ⟨29, .guard⟩], some (29, true)⟩) (v := ?v3z38) rfl (by kernel_rfl) (by kernel_rfl) (by kernel_rfl) (fun _ _ _ h => h) (Or.inl ⟨by rfl, ?hy3z38⟩) (by assumption) ?rest3z38
            case hy3z38 => (intro w hSw; (try dsimp only at hSw); go_simp; try (with_reducible rfl))
            simp only [Act.put, List.setIfInBounds_toArray, List.set_cons_zero, List.set_cons_succ]
            refine wpAnyH_ready (rs := [39]) (by kernel_rfl) (by simp) ?_
            refine AllReadyH.cons (o := ⟨some 45, .call { callee := .value (.func 31), args := #[.tmp 39, .tmp 40, .tmp 44], argTypes := #[24, 35, 3] }, 4, "line.go:67", #[⟨33, .data⟩, ⟨34, .data⟩, ⟨38, .data⟩, ⟨29, .chain⟩, ⟨29, .guard⟩], some (29, true)⟩) rfl (fun K hK => ?_) ?_
            ·
              go_simp
              go_at_call 31
              refine (leaf_c B p A c ⟨xb, (s' : Nat), (q' : Nat)⟩ mark _ (H.out.opsR.ext HB1.out) (Nat.le_trans H.out.hB HB1.out.size)).mono ?_
              rw [HLf.out]
              rintro e w2 ⟨rfl, hb⟩
              have HB2 := Lib.hid (ext_trans HB1.out hb)
              have r0 := (World.cell?_of_block (a := ⟨w.heap.size, 0, none⟩) (HB2.out.block _ l0)).trans c0
              have r1 := (World.cell?_of_block (a := ⟨w.heap.size, 1, none⟩) (HB2.out.block _ l0)).trans c1
              have r2 := (World.cell?_of_block (a := ⟨w.heap.size, 2, none⟩) (HB2.out.block _ l0)).trans c2
              have r3 := (World.cell?_of_block (a := ⟨X.lb, 2, none⟩) (HB2.out.block _ l1)).trans c3
              have r4 := (World.cell?_of_block (a := ⟨X.wyb, 0, none⟩) (HB2.out.block _ l2)).trans c4
              have r5 := (World.cell?_of_block (a := kad.add s') (HB2.out.block _ l3)).trans c5
              have r6 := (World.cell?_of_block (a := ⟨X.lb, 3, none⟩) (HB2.out.block _ l1)).trans c6
              have r7 := (World.cell?_of_block (a := ⟨X.lb, 0, none⟩) (HB2.out.block _ l1)).trans c7
              have r8 := (World.cell?_of_block (a := ⟨X.lb, 1, none⟩) (HB2.out.block _ l1)).trans c8
              clear hb
              refine hK.out _ _ ?_ (fun hHeld => ?_)
              · (first | exact ⟨r0, r1, r2, r3, r4, r6, r7, r8, r5⟩ | exact ⟨q0, q1, q2, q3, q4, q6, q7, q8, q5⟩ | exact ⟨c0, c1, c2, c3, c4, c6, c7, c8, c5⟩ | go_keep)
              clear hK K
              try simp only [Act.put, List.setIfInBounds_toArray, List.set_cons_zero, List.set_cons_succ]
              refine wpAnyH_take (i := 40) (oi := ⟨some 46, .unOp .not 4 (.tmp 45), 4, "line.go:67", #[⟨39, .data⟩, ⟨29, .guard⟩], some (29, true)⟩) (v := ?v3z40) rfl (by kernel_rfl) (by kernel_rfl) (by kernel_rfl) (fun _ _ _ h => h) (Or.inl ⟨by rfl, ?hy3z40⟩) (by assumption) ?rest3z40
              case hy3z40 => (intro w hSw; (try dsimp only at hSw); go_simp; try (with_reducible rfl))
              simp only [Act.put, List.setIfInBounds_toArray, List.set_cons_zero, List.set_cons_succ]
              refine wpAnyH_take (i := 41) (oi := ⟨some 47, .pick (.tmp 35) (.tmp 46) (.const (.bool false)), 4, "line.go:67", #[⟨29, .data⟩, ⟨40, .data⟩, ⟨21, .guard⟩], some (21, false)⟩) (v := ?v3z41) rfl (by kernel_rfl) (by kernel_rfl) (by kernel_rfl) (fun _ _ _ h => h) (Or.inl ⟨by rfl, ?hy3z41⟩) (by assumption) ?rest3z41
              case hy3z41 => (intro w hSw; (try dsimp only at hSw); go_simp; try (with_reducible rfl))
              simp only [Act.put, List.setIfInBounds_toArray, List.set_cons_zero, List.set_cons_succ]
              refine wpAnyH_take (i := 42) (oi := ⟨some 48, .pick (.tmp 27) (.const (.bool true)) (.tmp 47), 4, "line.go:67", #[⟨21, .data⟩, ⟨41, .data⟩], none⟩) (v := ?v3z42) rfl (by kernel_rfl) (by kernel_rfl) (by kernel_rfl) (fun _ _ _ h => h) (Or.inl ⟨by rfl, ?hy3z42⟩) (by assumption) ?rest3z42
              case hy3z42 => (intro w hSw; (try dsimp only at hSw); go_simp; try (with_reducible rfl))
              simp only [Act.put, List.setIfInBounds_toArray, List.set_cons_zero, List.set_cons_succ]
              refine wpAnyH_done (by kernel_rfl) ?_ _
              go_wp2_with fail
              go_meet
              exact ⟨by rw [HV.out], HB2⟩
            exact AllReadyH.nil
          exact AllReadyH.nil
        | false =>
          have HLf := Lib.hid hlf
          have HV := Lib.hid (show noneB p mark ⟨xb, (s' : Nat), (q' : Nat)⟩ = true from by rw [HV2.out, hlf, hmd]; rfl)
          clear hlf hm
          refine wp_region_held_drew (S := (fun w' => w'.cell? ⟨w.heap.size, 0, none⟩ = some (.int .i64 xb) ∧ w'.cell? ⟨w.heap.size, 1, none⟩ = some (.int .i64 (s' : Nat)) ∧ w'.cell? ⟨w.heap.size, 2, none⟩ = some (.int .i64 (q' : Nat)) ∧ w'.cell? ⟨X.lb, 2, none⟩ = some (.pointer (some ⟨X.wyb, 0, none⟩)) ∧ w'.cell? ⟨X.wyb, 0, none⟩ = some (.slice (some kad) p.ops.length X.kc) ∧ w'.cell? ⟨X.lb, 3, none⟩ = some (.int .i64 mark) ∧ w'.cell? ⟨X.lb, 0, none⟩ = some (.int .i64 p.parts) ∧ w'.cell? ⟨X.lb, 1, none⟩ = some (.slice A p.ops.length c) ∧ w'.cell? (kad.add s') = some (.bool true))) (by kernel_rfl) ?_ (fun hHeld => ?_)
          · (first | exact ⟨r0, r1, r2, r3, r4, r6, r7, r8, r5⟩ | exact ⟨q0, q1, q2, q3, q4, q6, q7, q8, q5⟩ | exact ⟨c0, c1, c2, c3, c4, c6, c7, c8, c5⟩ | go_keep)
          refine wpAnyH_take (i := 0) (oi := ⟨some 6, .move (.tmp 0), 179, "line.go:67", #[], none⟩) (v := ?v4z0) rfl (by kernel_rfl) (by kernel_rfl) (by kernel_rfl) (fun _ _ _ h => h) (Or.inl ⟨by rfl, ?hy4z0⟩) (by assumption) ?rest4z0
          case hy4z0 => (intro w hSw; (try dsimp only at hSw); go_simp; try (with_reducible rfl))
          simp only [Act.put, List.setIfInBounds_toArray, List.set_cons_zero, List.set_cons_succ]
          refine wpAnyH_take (i := 1) (oi := ⟨some 7, .nilCheck (.tmp 6), 0, "line.go:67", #[⟨0, .data⟩], none⟩) (v := ?v4z1) rfl (by kernel_rfl) (by kernel_rfl) (by kernel_rfl) (fun _ _ _ h => h) (Or.inl ⟨by rfl, ?hy4z1⟩) (by assumption) ?rest4z1
          case hy4z1 => (intro w hSw; (try dsimp only at hSw); go_simp; try (with_reducible rfl))
          simp only [Act.put, List.setIfInBounds_toArray, List.set_cons_zero, List.set_cons_succ]
          refine wpAnyH_take (i := 2) (oi := ⟨some 8, .fieldAddr 181 (.tmp 7) 1, 0, "line.go:67", #[⟨1, .data⟩], none⟩) (v := ?v4z2) rfl (by kernel_rfl) (by kernel_rfl) (by kernel_rfl) (fun _ _ _ h => h) (Or.inl ⟨by rfl, ?hy4z2⟩) (by assumption) ?rest4z2
          case hy4z2 => (intro w hSw; (try dsimp only at hSw); go_simp; try (with_reducible rfl))
          simp only [Act.put, List.setIfInBounds_toArray, List.set_cons_zero, List.set_cons_succ]
          refine wpAnyH_take (i := 3) (oi := ⟨some 9, .load 107 (.tmp 8), 107, "line.go:67", #[⟨2, .data⟩], none⟩) (v := ?v4z3) rfl (by kernel_rfl) (by kernel_rfl) (by kernel_rfl) (fun _ _ _ h => h) (Or.inl ⟨by rfl, ?hy4z3⟩) (by assumption) ?rest4z3
          case hy4z3 => (intro w hSw; (try dsimp only at hSw); go_simp; try (with_reducible rfl))
          simp only [Act.put, List.setIfInBounds_toArray, List.set_cons_zero, List.set_cons_succ]
          refine wpAnyH_take (i := 4) (oi := ⟨some 10, .load 35 (.tmp 5), 35, "line.go:67", #[], none⟩) (v := ?v4z4) rfl (by kernel_rfl) (by kernel_rfl) (by kernel_rfl) (fun _ _ _ h => h) (Or.inl ⟨by rfl, ?hy4z4⟩) (by assumption) ?rest4z4
          case hy4z4 => (intro w hSw; (try dsimp only at hSw); go_simp; try (with_reducible rfl))
          simp only [Act.put, List.setIfInBounds_toArray, List.set_cons_zero, List.set_cons_succ]
          refine wpAnyH_ready (rs := [5]) (by kernel_rfl) (by simp) ?_
          refine AllReadyH.cons (o := ⟨some 11, .call { callee := .value (.func 112), args := #[.tmp 9, .tmp 10], argTypes := #[107, 35] }, 4, "line.go:67", #[⟨3, .data⟩, ⟨4, .data⟩], none⟩) rfl (fun K hK => ?_) ?_
          ·
            go_simp
            go_at_call 112
            refine (has_c B X.wyb X.Rw p A X.K c X.kc ⟨xb, (s' : Nat), (q' : Nat)⟩ _ (H.out.ways.ext (below_drewN (Below.refl _ _) 1)) HP.out).mono ?_
            rw [HH.out]
            rintro e w1 ⟨rfl, hb⟩
            have HB1 := Lib.hid (show Below W.heap.size W w1 from ext_trans (below_drewN (Below.refl _ _) 1) hb)
            have q0 := (World.cell?_of_block (a := ⟨w.heap.size, 0, none⟩) (HB1.out.block _ l0)).trans c0
            have q1 := (World.cell?_of_block (a := ⟨w.heap.size, 1, none⟩) (HB1.out.block _ l0)).trans c1
            have q2 := (World.cell?_of_block (a := ⟨w.heap.size, 2, none⟩) (HB1.out.block _ l0)).trans c2
            have q3 := (World.cell?_of_block (a := ⟨X.lb, 2, none⟩) (HB1.out.block _ l1)).trans c3
            have q4 := (World.cell?_of_block (a := ⟨X.wyb, 0, none⟩) (HB1.out.block _ l2)).trans c4
            have q5 := (World.cell?_of_block (a := kad.add s') (HB1.out.block _ l3)).trans c5
            have q6 := (World.cell?_of_block (a := ⟨X.lb, 3, none⟩) (HB1.out.block _ l1)).trans c6
            have q7 := (World.cell?_of_block (a := ⟨X.lb, 0, none⟩) (HB1.out.block _ l1)).trans c7
            have q8 := (World.cell?_of_block (a := ⟨X.lb, 1, none⟩) (HB1.out.block _ l1)).trans c8
            clear hb
            refine hK.out _ _ ?_ (fun hHeld => ?_)
            · (first | exact ⟨r0, r1, r2, r3, r4, r6, r7, r8, r5⟩ | exact ⟨q0, q1, q2, q3, q4, q6, q7, q8, q5⟩ | exact ⟨c0, c1, c2, c3, c4, c6, c7, c8, c5⟩ | go_keep)
            clear hK K
            try simp only [Act.put, List.setIfInBounds_toArray, List.set_cons_zero, List.set_cons_succ]
            refine wpAnyH_take (i := 6) (oi := ⟨some 12, .unOp .not 4 (.tmp 11), 4, "line.go:67", #[⟨5, .data⟩], none⟩) (v := ?v4z6) rfl (by kernel_rfl) (by kernel_rfl) (by kernel_rfl) (fun _ _ _ h => h) (Or.inl ⟨by rfl, ?hy4z6⟩) (by assumption) ?rest4z6
            case hy4z6 => (intro w hSw; (try dsimp only at hSw); go_simp; try (with_reducible rfl))
            simp only [Act.put, List.setIfInBounds_toArray, List.set_cons_zero, List.set_cons_succ]
            refine wpAnyH_take (i := 7) (oi := ⟨some 13, .move (.tmp 12), 4, "line.go:67", #[⟨6, .data⟩, ⟨5, .chain⟩], none⟩) (v := ?v4z7) rfl (by kernel_rfl) (by kernel_rfl) (by kernel_rfl) (fun _ _ _ h => h) (Or.inl ⟨by rfl, ?hy4z7⟩) (by assumption) ?rest4z7
            case hy4z7 => (intro w hSw; (try dsimp only at hSw); go_simp; try (with_reducible rfl))
            simp only [Act.put, List.setIfInBounds_toArray, List.set_cons_zero, List.set_cons_succ]
            refine wpAnyH_take (i := 8) (oi := ⟨some 14, .move (.tmp 0), 179, "line.go:67", #[⟨7, .guard⟩], some (7, false)⟩) (v := ?v4z8) rfl (by kernel_rfl) (by kernel_rfl) (by kernel_rfl) (fun _ _ _ h => h) (Or.inl ⟨by rfl, ?hy4z8⟩) (by assumption) ?rest4z8
            case hy4z8 => (intro w hSw; (try dsimp only at hSw); go_simp; try (with_reducible rfl))
            simp only [Act.put, List.setIfInBounds_toArray, List.set_cons_zero, List.set_cons_succ]
            refine wpAnyH_take (i := 9) (oi := ⟨some 15, .nilCheck (.tmp 14), 0, "line.go:67", #[⟨8, .data⟩, ⟨7, .guard⟩], some (7, false)⟩) (v := ?v4z9) rfl (by kernel_rfl) (by kernel_rfl) (by kernel_rfl) (fun _ _ _ h => h) (Or.inl ⟨by rfl, ?hy4z9⟩) (by assumption) ?rest4z9
            case hy4z9 => (intro w hSw; (try dsimp only at hSw); go_simp; try (with_reducible rfl))
            simp only [Act.put, List.setIfInBounds_toArray, List.set_cons_zero, List.set_cons_succ]
            refine wpAnyH_take (i := 10) (oi := ⟨some 16, .fieldAddr 181 (.tmp 15) 1, 0, "line.go:67", #[⟨9, .data⟩, ⟨7, .guard⟩], some (7, false)⟩) (v := ?v4z10) rfl (by kernel_rfl) (by kernel_rfl) (by kernel_rfl) (fun _ _ _ h => h) (Or.inl ⟨by rfl, ?hy4z10⟩) (by assumption) ?rest4z10
            case hy4z10 => (intro w hSw; (try dsimp only at hSw); go_simp; try (with_reducible rfl))
            simp only [Act.put, List.setIfInBounds_toArray, List.set_cons_zero, List.set_cons_succ]
            refine wpAnyH_take (i := 11) (oi := ⟨some 17, .load 107 (.tmp 16), 107, "line.go:67", #[⟨10, .data⟩, ⟨7, .guard⟩], some (7, false)⟩) (v := ?v4z11) rfl (by kernel_rfl) (by kernel_rfl) (by kernel_rfl) (fun _ _ _ h => h) (Or.inl ⟨by rfl, ?hy4z11⟩) (by assumption) ?rest4z11
            case hy4z11 => (intro w hSw; (try dsimp only at hSw); go_simp; try (with_reducible rfl))
            simp only [Act.put, List.setIfInBounds_toArray, List.set_cons_zero, List.set_cons_succ]
            refine wpAnyH_take (i := 12) (oi := ⟨some 18, .nilCheck (.tmp 17), 0, "line.go:67", #[⟨11, .data⟩, ⟨7, .guard⟩], some (7, false)⟩) (v := ?v4z12) rfl (by kernel_rfl) (by kernel_rfl) (by kernel_rfl) (fun _ _ _ h => h) (Or.inl ⟨by rfl, ?hy4z12⟩) (by assumption) ?rest4z12
            case hy4z12 => (intro w hSw; (try dsimp only at hSw); go_simp; try (with_reducible rfl))
            simp only [Act.put, List.setIfInBounds_toArray, List.set_cons_zero, List.set_cons_succ]
            refine wpAnyH_take (i := 13) (oi := ⟨some 19, .fieldAddr 174 (.tmp 18) 0, 0, "line.go:67", #[⟨12, .data⟩, ⟨7, .guard⟩], some (7, false)⟩) (v := ?v4z13) rfl (by kernel_rfl) (by kernel_rfl) (by kernel_rfl) (fun _ _ _ h => h) (Or.inl ⟨by rfl, ?hy4z13⟩) (by assumption) ?rest4z13
            case hy4z13 => (intro w hSw; (try dsimp only at hSw); go_simp; try (with_reducible rfl))
            simp only [Act.put, List.setIfInBounds_toArray, List.set_cons_zero, List.set_cons_succ]
            refine wpAnyH_take (i := 14) (oi := ⟨some 20, .load 139 (.tmp 19), 139, "line.go:67", #[⟨13, .data⟩, ⟨7, .guard⟩], some (7, false)⟩) (v := ?v4z14) rfl (by kernel_rfl) (by kernel_rfl) (by kernel_rfl) (fun _ _ _ h => h) (Or.inl ⟨by rfl, ?hy4z14⟩) (by assumption) ?rest4z14
            case hy4z14 => (intro w hSw; (try dsimp only at hSw); go_simp; try (with_reducible rfl))
            simp only [Act.put, List.setIfInBounds_toArray, List.set_cons_zero, List.set_cons_succ]
            refine wpAnyH_take (i := 15) (oi := ⟨some 21, .fieldAddr 35 (.tmp 5) 1, 0, "line.go:67", #[⟨7, .guard⟩], some (7, false)⟩) (v := ?v4z15) rfl (by kernel_rfl) (by kernel_rfl) (by kernel_rfl) (fun _ _ _ h => h) (Or.inl ⟨by rfl, ?hy4z15⟩) (by assumption) ?rest4z15
            case hy4z15 => (intro w hSw; (try dsimp only at hSw); go_simp; try (with_reducible rfl))
            simp only [Act.put, List.setIfInBounds_toArray, List.set_cons_zero, List.set_cons_succ]
            refine wpAnyH_take (i := 16) (oi := ⟨some 22, .load 3 (.tmp 21), 3, "line.go:67", #[⟨15, .data⟩, ⟨7, .guard⟩], some (7, false)⟩) (v := ?v4z16) rfl (by kernel_rfl) (by kernel_rfl) (by kernel_rfl) (fun _ _ _ h => h) (Or.inl ⟨by rfl, ?hy4z16⟩) (by assumption) ?rest4z16
            case hy4z16 => (intro w hSw; (try dsimp only at hSw); go_simp; try (with_reducible rfl))
            simp only [Act.put, List.setIfInBounds_toArray, List.set_cons_zero, List.set_cons_succ]
            refine wpAnyH_take (i := 17) (oi := ⟨some 23, .indexAddr 139 (.tmp 20) (.tmp 22), 0, "line.go:67", #[⟨14, .data⟩, ⟨16, .data⟩, ⟨7, .guard⟩], some (7, false)⟩) (v := ?v4z17) rfl (by kernel_rfl) (by kernel_rfl) (by kernel_rfl) (fun _ _ _ h => h) (Or.inl ⟨by rfl, ?hy4z17⟩) (by assumption) ?rest4z17
            case hy4z17 => (intro w hSw; (try dsimp only at hSw); go_simp; try (with_reducible rfl))
            simp only [Act.put, List.setIfInBounds_toArray, List.set_cons_zero, List.set_cons_succ]
            refine wpAnyH_take (i := 18) (oi := ⟨some 24, .load 4 (.tmp 23), 4, "line.go:67", #[⟨17, .data⟩, ⟨7, .guard⟩], some (7, false)⟩) (v := ?v4z18) rfl (by kernel_rfl) (by kernel_rfl) (by kernel_rfl) (fun _ _ _ h => h) (Or.inl ⟨by rfl, ?hy4z18⟩) (by assumption) ?rest4z18
            case hy4z18 => (intro w hSw; (try dsimp only at hSw); go_simp; try (with_reducible rfl))
            simp only [Act.put, List.setIfInBounds_toArray, List.set_cons_zero, List.set_cons_succ]
            refine wpAnyH_take (i := 19) (oi := ⟨some 25, .unOp .not 4 (.tmp 24), 4, "line.go:67", #[⟨18, .data⟩, ⟨7, .guard⟩], some (7, false)⟩) (v := ?v4z19) rfl (by kernel_rfl) (by kernel_rfl) (by kernel_rfl) (fun _ _ _ h => h) (Or.inl ⟨by rfl, ?hy4z19⟩) (by assumption) ?rest4z19
            case hy4z19 => (intro w hSw; (try dsimp only at hSw); go_simp; try (with_reducible rfl))
            simp only [Act.put, List.setIfInBounds_toArray, List.set_cons_zero, List.set_cons_succ]
            refine wpAnyH_take (i := 20) (oi := ⟨some 26, .pick (.tmp 13) (.const (.bool true)) (.tmp 25), 4, "line.go:67", #[⟨7, .data⟩, ⟨19, .data⟩], none⟩) (v := ?v4z20) rfl (by kernel_rfl) (by kernel_rfl) (by kernel_rfl) (fun _ _ _ h => h) (Or.inl ⟨by rfl, ?hy4z20⟩) (by assumption) ?rest4z20
            case hy4z20 => (intro w hSw; (try dsimp only at hSw); go_simp; try (with_reducible rfl))
            simp only [Act.put, List.setIfInBounds_toArray, List.set_cons_zero, List.set_cons_succ]
            refine wpAnyH_take (i := 21) (oi := ⟨some 27, .move (.tmp 26), 4, "line.go:67", #[⟨20, .data⟩, ⟨7, .chain⟩], none⟩) (v := ?v4z21) rfl (by kernel_rfl) (by kernel_rfl) (by kernel_rfl) (fun _ _ _ h => h) (Or.inl ⟨by rfl, ?hy4z21⟩) (by assumption) ?rest4z21
            case hy4z21 => (intro w hSw; (try dsimp only at hSw); go_simp; try (with_reducible rfl))
            simp only [Act.put, List.setIfInBounds_toArray, List.set_cons_zero, List.set_cons_succ]
            refine wpAnyH_take (i := 22) (oi := ⟨some 28, .fieldAddr 35 (.tmp 5) 0, 0, "line.go:67", #[⟨21, .guard⟩], some (21, false)⟩) (v := ?v4z22) rfl (by kernel_rfl) (by kernel_rfl) (by kernel_rfl) (fun _ _ _ h => h) (Or.inl ⟨by rfl, ?hy4z22⟩) (by assumption) ?rest4z22
            case hy4z22 => (intro w hSw; (try dsimp only at hSw); go_simp; try (with_reducible rfl))
            simp only [Act.put, List.setIfInBounds_toArray, List.set_cons_zero, List.set_cons_succ]
            refine wpAnyH_take (i := 23) (oi := ⟨some 29, .load 3 (.tmp 28), 3, "line.go:67", #[⟨22, .data⟩, ⟨21, .guard⟩], some (21, false)⟩) (v := ?v4z23) rfl (by kernel_rfl) (by kernel_rfl) (by kernel_rfl) (fun _ _ _ h => h) (Or.inl ⟨by rfl, ?hy4z23⟩) (by assumption) ?rest4z23
            case hy4z23 => (intro w hSw; (try dsimp only at hSw); go_simp; try (with_reducible rfl))
            simp only [Act.put, List.setIfInBounds_toArray, List.set_cons_zero, List.set_cons_succ]
            refine wpAnyH_take (i := 24) (oi := ⟨some 30, .move (.tmp 0), 179, "line.go:67", #[⟨21, .guard⟩], some (21, false)⟩) (v := ?v4z24) rfl (by kernel_rfl) (by kernel_rfl) (by kernel_rfl) (fun _ _ _ h => h) (Or.inl ⟨by rfl, ?hy4z24⟩) (by assumption) ?rest4z24
            case hy4z24 => (intro w hSw; (try dsimp only at hSw); go_simp; try (with_reducible rfl))
            simp only [Act.put, List.setIfInBounds_toArray, List.set_cons_zero, List.set_cons_succ]
            refine wpAnyH_take (i := 25) (oi := ⟨some 31, .nilCheck (.tmp 30), 0, "line.go:67", #[⟨24, .data⟩, ⟨21, .guard⟩], some (21, false)⟩) (v := ?v4z25) rfl (by kernel_rfl) (by kernel_rfl) (by kernel_rfl) (fun _ _ _ h => h) (Or.inl ⟨by rfl, ?hy4z25⟩) (by assumption) ?rest4z25
            case hy4z25 => (intro w hSw; (try dsimp only at hSw); go_simp; try (with_reducible rfl))
            simp only [Act.put, List.setIfInBounds_toArray, List.set_cons_zero, List.set_cons_succ]
            refine wpAnyH_take (i := 26) (oi := ⟨some 32, .fieldAddr 181 (.tmp 31) 2, 0, "line.go:67", #[⟨25, .data⟩, ⟨21, .guard⟩], some (21, false)⟩) (v := ?v4z26) rfl (by kernel_rfl) (by kernel_rfl) (by kernel_rfl) (fun _ _ _ h => h) (Or.inl ⟨by rfl, ?hy4z26⟩) (by assumption) ?rest4z26
            case hy4z26 => (intro w hSw; (try dsimp only at hSw); go_simp; try (with_reducible rfl))
            simp only [Act.put, List.setIfInBounds_toArray, List.set_cons_zero, List.set_cons_succ]
            refine wpAnyH_take (i := 27) (oi := ⟨some 33, .load 3 (.tmp 32), 3, "line.go:67", #[⟨26, .data⟩, ⟨21, .guard⟩], some (21, false)⟩) (v := ?v4z27) rfl (by kernel_rfl) (by kernel_rfl) (by kernel_rfl) (fun _ _ _ h => h) (Or.inl ⟨by rfl, ?hy4z27⟩) (by assumption) ?rest4z27
            case hy4z27 => (intro w hSw; (try dsimp only at hSw); go_simp; try (with_reducible rfl))
            simp only [Act.put, List.setIfInBounds_toArray, List.set_cons_zero, List.set_cons_succ]
            refine wpAnyH_take (i := 28) (oi := ⟨some 34, .binOp .leq 3 (.tmp 29) (.tmp 33) 3, 4, "line.go:67", #[⟨23, .data⟩, ⟨27, .data⟩, ⟨21, .guard⟩], some (21, false)⟩) (v := ?v4z28) rfl (by kernel_rfl) (by kernel_rfl) (by kernel_rfl) (fun _ _ _ h => h) (Or.inl ⟨by rfl, ?hy4z28⟩) (by assumption) ?rest4z28
            case hy4z28 => (intro w hSw; (try dsimp only at hSw); go_simp; try (with_reducible rfl))
            simp only [Act.put, List.setIfInBounds_toArray, List.set_cons_zero, List.set_cons_succ]
            refine wpAnyH_take (i := 29) (oi := ⟨some 35, .move (.tmp 34), 4, "line.go:67", #[⟨28, .data⟩, ⟨21, .chain⟩, ⟨21, .guard⟩], some (21, false)⟩) (v := ?v4z29) rfl (by kernel_rfl) (by kernel_rfl) (by kernel_rfl) (fun _ _ _ h => h) (Or.inl ⟨by rfl, ?hy4z29⟩) (by assumption) ?rest4z29
            case hy4z29 => (intro w hSw; (try dsimp only at hSw); go_simp; try (with_reducible rfl))
            simp only [Act.put, List.setIfInBounds_toArray, List.set_cons_zero, List.set_cons_succ]
            refine wpAnyH_take (i := 30) (oi := ⟨some 36, .move (.tmp 0), 179, "line.go:67", #[⟨29, .guard⟩], some (29, true)⟩) (v := ?v4z30) rfl (by kernel_rfl) (by kernel_rfl) (by kernel_rfl) (fun _ _ _ h => h) (Or.inl ⟨by rfl, ?hy4z30⟩) (by assumption) ?rest4z30
            case hy4z30 => (intro w hSw; (try dsimp only at hSw); go_simp; try (with_reducible rfl))
            simp only [Act.put, List.setIfInBounds_toArray, List.set_cons_zero, List.set_cons_succ]
            refine wpAnyH_take (i := 31) (oi := ⟨some 37, .nilCheck (.tmp 36), 0, "line.go:67", #[⟨30, .data⟩, ⟨29, .guard⟩], some (29, true)⟩) (v := ?v4z31) rfl (by kernel_rfl) (by kernel_rfl) (by kernel_rfl) (fun _ _ _ h => h) (Or.inl ⟨by rfl, ?hy4z31⟩) (by assumption) ?rest4z31
            case hy4z31 => (intro w hSw; (try dsimp only at hSw); go_simp; try (with_reducible rfl))
            simp only [Act.put, List.setIfInBounds_toArray, List.set_cons_zero, List.set_cons_succ]
            refine wpAnyH_take (i := 32) (oi := ⟨some 38, .fieldAddr 181 (.tmp 37) 0, 0, "line.go:67", #[⟨31, .data⟩, ⟨29, .guard⟩], some (29, true)⟩) (v := ?v4z32) rfl (by kernel_rfl) (by kernel_rfl) (by kernel_rfl) (fun _ _ _ h => h) (Or.inl ⟨by rfl, ?hy4z32⟩) (by assumption) ?rest4z32
            case hy4z32 => (intro w hSw; (try dsimp only at hSw); go_simp; try (with_reducible rfl))
            simp only [Act.put, List.setIfInBounds_toArray, List.set_cons_zero, List.set_cons_succ]
            refine wpAnyH_take (i := 33) (oi := ⟨some 39, .load 24 (.tmp 38), 24, "line.go:67", #[⟨32, .data⟩, ⟨29, .guard⟩], some (29, true)⟩) (v := ?v4z33) rfl (by kernel_rfl) (by kernel_rfl) (by kernel_rfl) (fun _ _ _ h => h) (Or.inl ⟨by rfl, ?hy4z33⟩) (by assumption) ?rest4z33
            case hy4z33 => (intro w hSw; (try dsimp only at hSw); go_simp; try (with_reducible rfl))
            simp only [Act.put, List.setIfInBounds_toArray, List.set_cons_zero, List.set_cons_succ]
            refine wpAnyH_take (i := 34) (oi := ⟨some 40, .load 35 (.tmp 5), 35, "line.go:67", #[⟨29, .guard⟩], some (29, true)⟩) (v := ?v4z34) rfl (by kernel_rfl) (by kernel_rfl) (by kernel_rfl) (fun _ _ _ h => h) (Or.inl ⟨by rfl, ?hy4z34⟩) (by assumption) ?rest4z34
            case hy4z34 => (intro w hSw; (try dsimp only at hSw); go_simp; try (with_reducible rfl))
            simp only [Act.put, List.setIfInBounds_toArray, List.set_cons_zero, List.set_cons_succ]
            refine wpAnyH_take (i := 35) (oi := ⟨some 41, .move (.tmp 0), 179, "line.go:67", #[⟨29, .guard⟩], some (29, true)⟩) (v := ?v4z35) rfl (by kernel_rfl) (by kernel_rfl) (by kernel_rfl) (fun _ _ _ h => h) (Or.inl ⟨by rfl, ?hy4z35⟩) (by assumption) ?rest4z35
            case hy4z35 => (intro w hSw; (try dsimp only at hSw); go_simp; try (with_reducible rfl))
            simp only [Act.put, List.setIfInBounds_toArray, List.set_cons_zero, List.set_cons_succ]
            refine wpAnyH_take (i := 36) (oi := ⟨some 42, .nilCheck (.tmp 41), 0, "line.go:67", #[⟨35, .data⟩, ⟨29, .guard⟩], some (29, true)⟩) (v := ?v4z36) rfl (by kernel_rfl) (by kernel_rfl) (by kernel_rfl) (fun _ _ _ h => h) (Or.inl ⟨by rfl, ?hy4z36⟩) (by assumption) ?rest4z36
            case hy4z36 => (intro w hSw; (try dsimp only at hSw); go_simp; try (with_reducible rfl))
            simp only [Act.put, List.setIfInBounds_toArray, List.set_cons_zero, List.set_cons_succ]
            refine wpAnyH_take (i := 37) (oi := ⟨some 43, .fieldAddr 181 (.tmp 42) 2, 0, "line.go:67", #[⟨36, .data⟩, ⟨29, .guard⟩], some (29, true)⟩) (v := ?v4z37) rfl (by kernel_rfl) (by kernel_rfl) (by kernel_rfl) (fun _ _ _ h => h) (Or.inl ⟨by rfl, ?hy4z37⟩) (by assumption) ?rest4z37
            case hy4z37 => (intro w hSw; (try dsimp only at hSw); go_simp; try (with_reducible rfl))
            simp only [Act.put, List.setIfInBounds_toArray, List.set_cons_zero, List.set_cons_succ]
            refine wpAnyH_take (i := 38) (oi := ⟨some 44, .load 3 (.tmp 43), 3, "line.go:67", #[⟨37, .data⟩, ⟨29, .guard⟩], some (29, true)⟩) (v := ?v4z38) rfl (by kernel_rfl) (by kernel_rfl) (by kernel_rfl) (fun _ _ _ h => h) (Or.inl ⟨by rfl, ?hy4z38⟩) (by assumption) ?rest4z38
            case hy4z38 => (intro w hSw; (try dsimp only at hSw); go_simp; try (with_reducible rfl))
            simp only [Act.put, List.setIfInBounds_toArray, List.set_cons_zero, List.set_cons_succ]
            refine wpAnyH_ready (rs := [39]) (by kernel_rfl) (by simp) ?_
            refine AllReadyH.cons (o := ⟨some 45, .call { callee := .value (.func 31), args := #[.tmp 39, .tmp 40, .tmp 44], argTypes := #[24, 35, 3] }, 4, "line.go:67", #[⟨33, .data⟩, ⟨34, .data⟩, ⟨38, .data⟩, ⟨29, .chain⟩, ⟨29, .guard⟩], some (29, true)⟩) rfl (fun K hK => ?_) ?_
            ·
              go_simp
              go_at_call 31
              refine (leaf_c B p A c ⟨xb, (s' : Nat), (q' : Nat)⟩ mark _ (H.out.opsR.ext HB1.out) (Nat.le_trans H.out.hB HB1.out.size)).mono ?_
              rw [HLf.out]
              rintro e w2 ⟨rfl, hb⟩
              have HB2 := Lib.hid (ext_trans HB1.out hb)
              have r0 := (World.cell?_of_block (a := ⟨w.heap.size, 0, none⟩) (HB2.out.block _ l0)).trans c0
              have r1 := (World.cell?_of_block (a := ⟨w.heap.size, 1, none⟩) (HB2.out.block _ l0)).trans c1
              have r2 := (World.cell?_of_block (a := ⟨w.heap.size, 2, none⟩) (HB2.out.block _ l0)).trans c2
              have r3 := (World.cell?_of_block (a := ⟨X.lb, 2, none⟩) (HB2.out.block _ l1)).trans c3
              have r4 := (World.cell?_of_block (a := ⟨X.wyb, 0, none⟩) (HB2.out.block _ l2)).trans c4
              have r5 := (World.cell?_of_block (a := kad.add s') (HB2.out.block _ l3)).trans c5
              have r6 := (World.cell?_of_block (a := ⟨X.lb, 3, none⟩) (HB2.out.block _ l1)).trans c6
              have r7 := (World.cell?_of_block (a := ⟨X.lb, 0, none⟩) (HB2.out.block _ l1)).trans c7
              have r8 := (World.cell?_of_block (a := ⟨X.lb, 1, none⟩) (HB2.out.block _ l1)).trans c8
              clear hb
              refine hK.out _ _ ?_ (fun hHeld => ?_)
              · (first | exact ⟨r0, r1, r2, r3, r4, r6, r7, r8, r5⟩ | exact ⟨q0, q1, q2, q3, q4, q6, q7, q8, q5⟩ | exact ⟨c0, c1, c2, c3, c4, c6, c7, c8, c5⟩ | go_keep)
              clear hK K
              try simp only [Act.put, List.setIfInBounds_toArray, List.set_cons_zero, List.set_cons_succ]
              refine wpAnyH_take (i := 40) (oi := ⟨some 46, .unOp .not 4 (.tmp 45), 4, "line.go:67", #[⟨39, .data⟩, ⟨29, .guard⟩], some (29, true)⟩) (v := ?v4z40) rfl (by kernel_rfl) (by kernel_rfl) (by kernel_rfl) (fun _ _ _ h => h) (Or.inl ⟨by rfl, ?hy4z40⟩) (by assumption) ?rest4z40
              case hy4z40 => (intro w hSw; (try dsimp only at hSw); go_simp; try (with_reducible rfl))
              simp only [Act.put, List.setIfInBounds_toArray, List.set_cons_zero, List.set_cons_succ]
              refine wpAnyH_take (i := 41) (oi := ⟨some 47, .pick (.tmp 35) (.tmp 46) (.const (.bool false)), 4, "line.go:67", #[⟨29, .data⟩, ⟨40, .data⟩, ⟨21, .guard⟩], some (21, false)⟩) (v := ?v4z41) rfl (by kernel_rfl) (by kernel_rfl) (by kernel_rfl) (fun _ _ _ h => h) (Or.inl ⟨by rfl, ?hy4z41⟩) (by assumption) ?rest4z41
              case hy4z41 => (intro w hSw; (try dsimp only at hSw); go_simp; try (with_reducible rfl))
              simp only [Act.put, List.setIfInBounds_toArray, List.set_cons_zero, List.set_cons_succ]
              refine wpAnyH_take (i := 42) (oi := ⟨some 48, .pick (.tmp 27) (.const (.bool true)) (.tmp 47), 4, "line.go:67", #[⟨21, .data⟩, ⟨41, .data⟩], none⟩) (v := ?v4z42) rfl (by kernel_rfl) (by kernel_rfl) (by kernel_rfl) (fun _ _ _ h => h) (Or.inl ⟨by rfl, ?hy4z42⟩) (by assumption) ?rest4z42
              case hy4z42 => (intro w hSw; (try dsimp only at hSw); go_simp; try (with_reducible rfl))
              simp only [Act.put, List.setIfInBounds_toArray, List.set_cons_zero, List.set_cons_succ]
              refine wpAnyH_done (by kernel_rfl) ?_ _
              go_wp2_with fail
              go_meet
              exact ⟨by rw [HV.out], HB2⟩
            exact AllReadyH.nil
          exact AllReadyH.nil
      · have hmd : decide (xb ≤ mark) = false := decide_eq_false hm
        have HV := Lib.hid (show noneB p mark ⟨xb, (s' : Nat), (q' : Nat)⟩ = false from by rw [HV2.out, hmd]; rfl)
        clear hm
        refine wp_region_held_drew (S := (fun w' => w'.cell? ⟨w.heap.size, 0, none⟩ = some (.int .i64 xb) ∧ w'.cell? ⟨w.heap.size, 1, none⟩ = some (.int .i64 (s' : Nat)) ∧ w'.cell? ⟨w.heap.size, 2, none⟩ = some (.int .i64 (q' : Nat)) ∧ w'.cell? ⟨X.lb, 2, none⟩ = some (.pointer (some ⟨X.wyb, 0, none⟩)) ∧ w'.cell? ⟨X.wyb, 0, none⟩ = some (.slice (some kad) p.ops.length X.kc) ∧ w'.cell? ⟨X.lb, 3, none⟩ = some (.int .i64 mark) ∧ w'.cell? ⟨X.lb, 0, none⟩ = some (.int .i64 p.parts) ∧ w'.cell? ⟨X.lb, 1, none⟩ = some (.slice A p.ops.length c) ∧ w'.cell? (kad.add s') = some (.bool true))) (by kernel_rfl) ?_ (fun hHeld => ?_)
        · (first | exact ⟨r0, r1, r2, r3, r4, r6, r7, r8, r5⟩ | exact ⟨q0, q1, q2, q3, q4, q6, q7, q8, q5⟩ | exact ⟨c0, c1, c2, c3, c4, c6, c7, c8, c5⟩ | go_keep)
        refine wpAnyH_take (i := 0) (oi := ⟨some 6, .move (.tmp 0), 179, "line.go:67", #[], none⟩) (v := ?v5z0) rfl (by kernel_rfl) (by kernel_rfl) (by kernel_rfl) (fun _ _ _ h => h) (Or.inl ⟨by rfl, ?hy5z0⟩) (by assumption) ?rest5z0
        case hy5z0 => (intro w hSw; (try dsimp only at hSw); go_simp; try (with_reducible rfl))
        simp only [Act.put, List.setIfInBounds_toArray, List.set_cons_zero, List.set_cons_succ]
        refine wpAnyH_take (i := 1) (oi := ⟨some 7, .nilCheck (.tmp 6), 0, "line.go:67", #[⟨0, .data⟩], none⟩) (v := ?v5z1) rfl (by kernel_rfl) (by kernel_rfl) (by kernel_rfl) (fun _ _ _ h => h) (Or.inl ⟨by rfl, ?hy5z1⟩) (by assumption) ?rest5z1
        case hy5z1 => (intro w hSw; (try dsimp only at hSw); go_simp; try (with_reducible rfl))
        simp only [Act.put, List.setIfInBounds_toArray, List.set_cons_zero, List.set_cons_succ]
        refine wpAnyH_take (i := 2) (oi := ⟨some 8, .fieldAddr 181 (.tmp 7) 1, 0, "line.go:67", #[⟨1, .data⟩], none⟩) (v := ?v5z2) rfl (by kernel_rfl) (by kernel_rfl) (by kernel_rfl) (fun _ _ _ h => h) (Or.inl ⟨by rfl, ?hy5z2⟩) (by assumption) ?rest5z2
        case hy5z2 => (intro w hSw; (try dsimp only at hSw); go_simp; try (with_reducible rfl))
        simp only [Act.put, List.setIfInBounds_toArray, List.set_cons_zero, List.set_cons_succ]
        refine wpAnyH_take (i := 3) (oi := ⟨some 9, .load 107 (.tmp 8), 107, "line.go:67", #[⟨2, .data⟩], none⟩) (v := ?v5z3) rfl (by kernel_rfl) (by kernel_rfl) (by kernel_rfl) (fun _ _ _ h => h) (Or.inl ⟨by rfl, ?hy5z3⟩) (by assumption) ?rest5z3
        case hy5z3 => (intro w hSw; (try dsimp only at hSw); go_simp; try (with_reducible rfl))
        simp only [Act.put, List.setIfInBounds_toArray, List.set_cons_zero, List.set_cons_succ]
        refine wpAnyH_take (i := 4) (oi := ⟨some 10, .load 35 (.tmp 5), 35, "line.go:67", #[], none⟩) (v := ?v5z4) rfl (by kernel_rfl) (by kernel_rfl) (by kernel_rfl) (fun _ _ _ h => h) (Or.inl ⟨by rfl, ?hy5z4⟩) (by assumption) ?rest5z4
        case hy5z4 => (intro w hSw; (try dsimp only at hSw); go_simp; try (with_reducible rfl))
        simp only [Act.put, List.setIfInBounds_toArray, List.set_cons_zero, List.set_cons_succ]
        refine wpAnyH_ready (rs := [5]) (by kernel_rfl) (by simp) ?_
        refine AllReadyH.cons (o := ⟨some 11, .call { callee := .value (.func 112), args := #[.tmp 9, .tmp 10], argTypes := #[107, 35] }, 4, "line.go:67", #[⟨3, .data⟩, ⟨4, .data⟩], none⟩) rfl (fun K hK => ?_) ?_
        ·
          go_simp
          go_at_call 112
          refine (has_c B X.wyb X.Rw p A X.K c X.kc ⟨xb, (s' : Nat), (q' : Nat)⟩ _ (H.out.ways.ext (below_drewN (Below.refl _ _) 1)) HP.out).mono ?_
          rw [HH.out]
          rintro e w1 ⟨rfl, hb⟩
          have HB1 := Lib.hid (show Below W.heap.size W w1 from ext_trans (below_drewN (Below.refl _ _) 1) hb)
          have q0 := (World.cell?_of_block (a := ⟨w.heap.size, 0, none⟩) (HB1.out.block _ l0)).trans c0
          have q1 := (World.cell?_of_block (a := ⟨w.heap.size, 1, none⟩) (HB1.out.block _ l0)).trans c1
          have q2 := (World.cell?_of_block (a := ⟨w.heap.size, 2, none⟩) (HB1.out.block _ l0)).trans c2
          have q3 := (World.cell?_of_block (a := ⟨X.lb, 2, none⟩) (HB1.out.block _ l1)).trans c3
          have q4 := (World.cell?_of_block (a := ⟨X.wyb, 0, none⟩) (HB1.out.block _ l2)).trans c4
          have q5 := (World.cell?_of_block (a := kad.add s') (HB1.out.block _ l3)).trans c5
          have q6 := (World.cell?_of_block (a := ⟨X.lb, 3, none⟩) (HB1.out.block _ l1)).trans c6
          have q7 := (World.cell?_of_block (a := ⟨X.lb, 0, none⟩) (HB1.out.block _ l1)).trans c7
          have q8 := (World.cell?_of_block (a := ⟨X.lb, 1, none⟩) (HB1.out.block _ l1)).trans c8
          clear hb
          refine hK.out _ _ ?_ (fun hHeld => ?_)
          · (first | exact ⟨r0, r1, r2, r3, r4, r6, r7, r8, r5⟩ | exact ⟨q0, q1, q2, q3, q4, q6, q7, q8, q5⟩ | exact ⟨c0, c1, c2, c3, c4, c6, c7, c8, c5⟩ | go_keep)
          clear hK K
          try simp only [Act.put, List.setIfInBounds_toArray, List.set_cons_zero, List.set_cons_succ]
          refine wpAnyH_take (i := 6) (oi := ⟨some 12, .unOp .not 4 (.tmp 11), 4, "line.go:67", #[⟨5, .data⟩], none⟩) (v := ?v5z6) rfl (by kernel_rfl) (by kernel_rfl) (by kernel_rfl) (fun _ _ _ h => h) (Or.inl ⟨by rfl, ?hy5z6⟩) (by assumption) ?rest5z6
          case hy5z6 => (intro w hSw; (try dsimp only at hSw); go_simp; try (with_reducible rfl))
          simp only [Act.put, List.setIfInBounds_toArray, List.set_cons_zero, List.set_cons_succ]
          refine wpAnyH_take (i := 7) (oi := ⟨some 13, .move (.tmp 12), 4, "line.go:67", #[⟨6, .data⟩, ⟨5, .chain⟩], none⟩) (v := ?v5z7) rfl (by kernel_rfl) (by kernel_rfl) (by kernel_rfl) (fun _ _ _ h => h) (Or.inl ⟨by rfl, ?hy5z7⟩) (by assumption) ?rest5z7
          case hy5z7 => (intro w hSw; (try dsimp only at hSw); go_simp; try (with_reducible rfl))
          simp only [Act.put, List.setIfInBounds_toArray, List.set_cons_zero, List.set_cons_succ]
          refine wpAnyH_take (i := 8) (oi := ⟨some 14, .move (.tmp 0), 179, "line.go:67", #[⟨7, .guard⟩], some (7, false)⟩) (v := ?v5z8) rfl (by kernel_rfl) (by kernel_rfl) (by kernel_rfl) (fun _ _ _ h => h) (Or.inl ⟨by rfl, ?hy5z8⟩) (by assumption) ?rest5z8
          case hy5z8 => (intro w hSw; (try dsimp only at hSw); go_simp; try (with_reducible rfl))
          simp only [Act.put, List.setIfInBounds_toArray, List.set_cons_zero, List.set_cons_succ]
          refine wpAnyH_take (i := 9) (oi := ⟨some 15, .nilCheck (.tmp 14), 0, "line.go:67", #[⟨8, .data⟩, ⟨7, .guard⟩], some (7, false)⟩) (v := ?v5z9) rfl (by kernel_rfl) (by kernel_rfl) (by kernel_rfl) (fun _ _ _ h => h) (Or.inl ⟨by rfl, ?hy5z9⟩) (by assumption) ?rest5z9
          case hy5z9 => (intro w hSw; (try dsimp only at hSw); go_simp; try (with_reducible rfl))
          simp only [Act.put, List.setIfInBounds_toArray, List.set_cons_zero, List.set_cons_succ]
          refine wpAnyH_take (i := 10) (oi := ⟨some 16, .fieldAddr 181 (.tmp 15) 1, 0, "line.go:67", #[⟨9, .data⟩, ⟨7, .guard⟩], some (7, false)⟩) (v := ?v5z10) rfl (by kernel_rfl) (by kernel_rfl) (by kernel_rfl) (fun _ _ _ h => h) (Or.inl ⟨by rfl, ?hy5z10⟩) (by assumption) ?rest5z10
          case hy5z10 => (intro w hSw; (try dsimp only at hSw); go_simp; try (with_reducible rfl))
          simp only [Act.put, List.setIfInBounds_toArray, List.set_cons_zero, List.set_cons_succ]
          refine wpAnyH_take (i := 11) (oi := ⟨some 17, .load 107 (.tmp 16), 107, "line.go:67", #[⟨10, .data⟩, ⟨7, .guard⟩], some (7, false)⟩) (v := ?v5z11) rfl (by kernel_rfl) (by kernel_rfl) (by kernel_rfl) (fun _ _ _ h => h) (Or.inl ⟨by rfl, ?hy5z11⟩) (by assumption) ?rest5z11
          case hy5z11 => (intro w hSw; (try dsimp only at hSw); go_simp; try (with_reducible rfl))
          simp only [Act.put, List.setIfInBounds_toArray, List.set_cons_zero, List.set_cons_succ]
          refine wpAnyH_take (i := 12) (oi := ⟨some 18, .nilCheck (.tmp 17), 0, "line.go:67", #[⟨11, .data⟩, ⟨7, .guard⟩], some (7, false)⟩) (v := ?v5z12) rfl (by kernel_rfl) (by kernel_rfl) (by kernel_rfl) (fun _ _ _ h => h) (Or.inl ⟨by rfl, ?hy5z12⟩) (by assumption) ?rest5z12
          case hy5z12 => (intro w hSw; (try dsimp only at hSw); go_simp; try (with_reducible rfl))
          simp only [Act.put, List.setIfInBounds_toArray, List.set_cons_zero, List.set_cons_succ]
          refine wpAnyH_take (i := 13) (oi := ⟨some 19, .fieldAddr 174 (.tmp 18) 0, 0, "line.go:67", #[⟨12, .data⟩, ⟨7, .guard⟩], some (7, false)⟩) (v := ?v5z13) rfl (by kernel_rfl) (by kernel_rfl) (by kernel_rfl) (fun _ _ _ h => h) (Or.inl ⟨by rfl, ?hy5z13⟩) (by assumption) ?rest5z13
          case hy5z13 => (intro w hSw; (try dsimp only at hSw); go_simp; try (with_reducible rfl))
          simp only [Act.put, List.setIfInBounds_toArray, List.set_cons_zero, List.set_cons_succ]
          refine wpAnyH_take (i := 14) (oi := ⟨some 20, .load 139 (.tmp 19), 139, "line.go:67", #[⟨13, .data⟩, ⟨7, .guard⟩], some (7, false)⟩) (v := ?v5z14) rfl (by kernel_rfl) (by kernel_rfl) (by kernel_rfl) (fun _ _ _ h => h) (Or.inl ⟨by rfl, ?hy5z14⟩) (by assumption) ?rest5z14
          case hy5z14 => (intro w hSw; (try dsimp only at hSw); go_simp; try (with_reducible rfl))
          simp only [Act.put, List.setIfInBounds_toArray, List.set_cons_zero, List.set_cons_succ]
          refine wpAnyH_take (i := 15) (oi := ⟨some 21, .fieldAddr 35 (.tmp 5) 1, 0, "line.go:67", #[⟨7, .guard⟩], some (7, false)⟩) (v := ?v5z15) rfl (by kernel_rfl) (by kernel_rfl) (by kernel_rfl) (fun _ _ _ h => h) (Or.inl ⟨by rfl, ?hy5z15⟩) (by assumption) ?rest5z15
          case hy5z15 => (intro w hSw; (try dsimp only at hSw); go_simp; try (with_reducible rfl))
          simp only [Act.put, List.setIfInBounds_toArray, List.set_cons_zero, List.set_cons_succ]
          refine wpAnyH_take (i := 16) (oi := ⟨some 22, .load 3 (.tmp 21), 3, "line.go:67", #[⟨15, .data⟩, ⟨7, .guard⟩], some (7, false)⟩) (v := ?v5z16) rfl (by kernel_rfl) (by kernel_rfl) (by kernel_rfl) (fun _ _ _ h => h) (Or.inl ⟨by rfl, ?hy5z16⟩) (by assumption) ?rest5z16
          case hy5z16 => (intro w hSw; (try dsimp only at hSw); go_simp; try (with_reducible rfl))
          simp only [Act.put, List.setIfInBounds_toArray, List.set_cons_zero, List.set_cons_succ]
          refine wpAnyH_take (i := 17) (oi := ⟨some 23, .indexAddr 139 (.tmp 20) (.tmp 22), 0, "line.go:67", #[⟨14, .data⟩, ⟨16, .data⟩, ⟨7, .guard⟩], some (7, false)⟩) (v := ?v5z17) rfl (by kernel_rfl) (by kernel_rfl) (by kernel_rfl) (fun _ _ _ h => h) (Or.inl ⟨by rfl, ?hy5z17⟩) (by assumption) ?rest5z17
          case hy5z17 => (intro w hSw; (try dsimp only at hSw); go_simp; try (with_reducible rfl))
          simp only [Act.put, List.setIfInBounds_toArray, List.set_cons_zero, List.set_cons_succ]
          refine wpAnyH_take (i := 18) (oi := ⟨some 24, .load 4 (.tmp 23), 4, "line.go:67", #[⟨17, .data⟩, ⟨7, .guard⟩], some (7, false)⟩) (v := ?v5z18) rfl (by kernel_rfl) (by kernel_rfl) (by kernel_rfl) (fun _ _ _ h => h) (Or.inl ⟨by rfl, ?hy5z18⟩) (by assumption) ?rest5z18
          case hy5z18 => (intro w hSw; (try dsimp only at hSw); go_simp; try (with_reducible rfl))
          simp only [Act.put, List.setIfInBounds_toArray, List.set_cons_zero, List.set_cons_succ]
          refine wpAnyH_take (i := 19) (oi := ⟨some 25, .unOp .not 4 (.tmp 24), 4, "line.go:67", #[⟨18, .data⟩, ⟨7, .guard⟩], some (7, false)⟩) (v := ?v5z19) rfl (by kernel_rfl) (by kernel_rfl) (by kernel_rfl) (fun _ _ _ h => h) (Or.inl ⟨by rfl, ?hy5z19⟩) (by assumption) ?rest5z19
          case hy5z19 => (intro w hSw; (try dsimp only at hSw); go_simp; try (with_reducible rfl))
          simp only [Act.put, List.setIfInBounds_toArray, List.set_cons_zero, List.set_cons_succ]
          refine wpAnyH_take (i := 20) (oi := ⟨some 26, .pick (.tmp 13) (.const (.bool true)) (.tmp 25), 4, "line.go:67", #[⟨7, .data⟩, ⟨19, .data⟩], none⟩) (v := ?v5z20) rfl (by kernel_rfl) (by kernel_rfl) (by kernel_rfl) (fun _ _ _ h => h) (Or.inl ⟨by rfl, ?hy5z20⟩) (by assumption) ?rest5z20
          case hy5z20 => (intro w hSw; (try dsimp only at hSw); go_simp; try (with_reducible rfl))
          simp only [Act.put, List.setIfInBounds_toArray, List.set_cons_zero, List.set_cons_succ]
          refine wpAnyH_take (i := 21) (oi := ⟨some 27, .move (.tmp 26), 4, "line.go:67", #[⟨20, .data⟩, ⟨7, .chain⟩], none⟩) (v := ?v5z21) rfl (by kernel_rfl) (by kernel_rfl) (by kernel_rfl) (fun _ _ _ h => h) (Or.inl ⟨by rfl, ?hy5z21⟩) (by assumption) ?rest5z21
          case hy5z21 => (intro w hSw; (try dsimp only at hSw); go_simp; try (with_reducible rfl))
          simp only [Act.put, List.setIfInBounds_toArray, List.set_cons_zero, List.set_cons_succ]
          refine wpAnyH_take (i := 22) (oi := ⟨some 28, .fieldAddr 35 (.tmp 5) 0, 0, "line.go:67", #[⟨21, .guard⟩], some (21, false)⟩) (v := ?v5z22) rfl (by kernel_rfl) (by kernel_rfl) (by kernel_rfl) (fun _ _ _ h => h) (Or.inl ⟨by rfl, ?hy5z22⟩) (by assumption) ?rest5z22
          case hy5z22 => (intro w hSw; (try dsimp only at hSw); go_simp; try (with_reducible rfl))
          simp only [Act.put, List.setIfInBounds_toArray, List.set_cons_zero, List.set_cons_succ]
          refine wpAnyH_take (i := 23) (oi := ⟨some 29, .load 3 (.tmp 28), 3, "line.go:67", #[⟨22, .data⟩, ⟨21, .guard⟩], some (21, false)⟩) (v := ?v5z23) rfl (by kernel_rfl) (by kernel_rfl) (by kernel_rfl) (fun _ _ _ h => h) (Or.inl ⟨by rfl, ?hy5z23⟩) (by assumption) ?rest5z23
          case hy5z23 => (intro w hSw; (try dsimp only at hSw); go_simp; try (with_reducible rfl))
          simp only [Act.put, List.setIfInBounds_toArray, List.set_cons_zero, List.set_cons_succ]
          refine wpAnyH_take (i := 24) (oi := ⟨some 30, .move (.tmp 0), 179, "line.go:67", #[⟨21, .guard⟩], some (21, false)⟩) (v := ?v5z24) rfl (by kernel_rfl) (by kernel_rfl) (by kernel_rfl) (fun _ _ _ h => h) (Or.inl ⟨by rfl, ?hy5z24⟩) (by assumption) ?rest5z24
          case hy5z24 => (intro w hSw; (try dsimp only at hSw); go_simp; try (with_reducible rfl))
          simp only [Act.put, List.setIfInBounds_toArray, List.set_cons_zero, List.set_cons_succ]
          refine wpAnyH_take (i := 25) (oi := ⟨some 31, .nilCheck (.tmp 30), 0, "line.go:67", #[⟨24, .data⟩, ⟨21, .guard⟩], some (21, false)⟩) (v := ?v5z25) rfl (by kernel_rfl) (by kernel_rfl) (by kernel_rfl) (fun _ _ _ h => h) (Or.inl ⟨by rfl, ?hy5z25⟩) (by assumption) ?rest5z25
          case hy5z25 => (intro w hSw; (try dsimp only at hSw); go_simp; try (with_reducible rfl))
          simp only [Act.put, List.setIfInBounds_toArray, List.set_cons_zero, List.set_cons_succ]
          refine wpAnyH_take (i := 26) (oi := ⟨some 32, .fieldAddr 181 (.tmp 31) 2, 0, "line.go:67", #[⟨25, .data⟩, ⟨21, .guard⟩], some (21, false)⟩) (v := ?v5z26) rfl (by kernel_rfl) (by kernel_rfl) (by kernel_rfl) (fun _ _ _ h => h) (Or.inl ⟨by rfl, ?hy5z26⟩) (by assumption) ?rest5z26
          case hy5z26 => (intro w hSw; (try dsimp only at hSw); go_simp; try (with_reducible rfl))
          simp only [Act.put, List.setIfInBounds_toArray, List.set_cons_zero, List.set_cons_succ]
          refine wpAnyH_take (i := 27) (oi := ⟨some 33, .load 3 (.tmp 32), 3, "line.go:67", #[⟨26, .data⟩, ⟨21, .guard⟩], some (21, false)⟩) (v := ?v5z27) rfl (by kernel_rfl) (by kernel_rfl) (by kernel_rfl) (fun _ _ _ h => h) (Or.inl ⟨by rfl, ?hy5z27⟩) (by assumption) ?rest5z27
          case hy5z27 => (intro w hSw; (try dsimp only at hSw); go_simp; try (with_reducible rfl))
          simp only [Act.put, List.setIfInBounds_toArray, List.set_cons_zero, List.set_cons_succ]
          refine wpAnyH_take (i := 28) (oi := ⟨some 34, .binOp .leq 3 (.tmp 29) (.tmp 33) 3, 4, "line.go:67", #[⟨23, .data⟩, ⟨27, .data⟩, ⟨21, .guard⟩], some (21, false)⟩) (v := ?v5z28) rfl (by kernel_rfl) (by kernel_rfl) (by kernel_rfl) (fun _ _ _ h => h) (Or.inl ⟨by rfl, ?hy5z28⟩) (by assumption) ?rest5z28
          case hy5z28 => (intro w hSw; (try dsimp only at hSw); go_simp; try (with_reducible rfl))
          simp only [Act.put, List.setIfInBounds_toArray, List.set_cons_zero, List.set_cons_succ]
          refine wpAnyH_take (i := 29) (oi := ⟨some 35, .move (.tmp 34), 4, "line.go:67", #[⟨28, .data⟩, ⟨21, .chain⟩, ⟨21, .guard⟩], some (21, false)⟩) (v := ?v5z29) rfl (by kernel_rfl) (by kernel_rfl) (by kernel_rfl) (fun _ _ _ h => h) (Or.inl ⟨by rfl, ?hy5z29⟩) (by assumption) ?rest5z29
          case hy5z29 => (intro w hSw; (try dsimp only at hSw); go_simp; try (with_reducible rfl))
          simp only [Act.put, List.setIfInBounds_toArray, List.set_cons_zero, List.set_cons_succ]
          refine wpAnyH_take (i := 30) (oi := ⟨some 36, .move (.tmp 0), 179, "line.go:67", #[⟨29, .guard⟩], some (29, true)⟩) (v := undef) rfl (by kernel_rfl) (by kernel_rfl) (by kernel_rfl) (fun _ _ _ h => h) (Or.inr ⟨by rfl, rfl⟩) (by assumption) ?_
          simp only [Act.put, List.setIfInBounds_toArray, List.set_cons_zero, List.set_cons_succ]
          refine wpAnyH_take (i := 31) (oi := ⟨some 37, .nilCheck (.tmp 36), 0, "line.go:67", #[⟨30, .data⟩, ⟨29, .guard⟩], some (29, true)⟩) (v := undef) rfl (by kernel_rfl) (by kernel_rfl) (by kernel_rfl) (fun _ _ _ h => h) (Or.inr ⟨by rfl, rfl⟩) (by assumption) ?_
          simp only [Act.put, List.setIfInBounds_toArray, List.set_cons_zero, List.set_cons_succ]
          refine wpAnyH_take (i := 32) (oi := ⟨some 38, .fieldAddr 181 (.tmp 37) 0, 0, "line.go:67", #[⟨31, .data⟩, ⟨29, .guard⟩], some (29, true)⟩) (v := undef) rfl (by kernel_rfl) (by kernel_rfl) (by kernel_rfl) (fun _ _ _ h => h) (Or.inr ⟨by rfl, rfl⟩) (by assumption) ?_
          simp only [Act.put, List.setIfInBounds_toArray, List.set_cons_zero, List.set_cons_succ]
          refine wpAnyH_take (i := 33) (oi := ⟨some 39, .load 24 (.tmp 38), 24, "line.go:67", #[⟨32, .data⟩, ⟨29, .guard⟩], some (29, true)⟩) (v := undef) rfl (by kernel_rfl) (by kernel_rfl) (by kernel_rfl) (fun _ _ _ h => h) (Or.inr ⟨by rfl, rfl⟩) (by assumption) ?_
          simp only [Act.put, List.setIfInBounds_toArray, List.set_cons_zero, List.set_cons_succ]
          refine wpAnyH_take (i := 34) (oi := ⟨some 40, .load 35 (.tmp 5), 35, "line.go:67", #[⟨29, .guard⟩], some (29, true)⟩) (v := undef) rfl (by kernel_rfl) (by kernel_rfl) (by kernel_rfl) (fun _ _ _ h => h) (Or.inr ⟨by rfl, rfl⟩) (by assumption) ?_
          simp only [Act.put, List.setIfInBounds_toArray, List.set_cons_zero, List.set_cons_succ]
          refine wpAnyH_take (i := 35) (oi := ⟨some 41, .move (.tmp 0), 179, "line.go:67", #[⟨29, .guard⟩], some (29, true)⟩) (v := undef) rfl (by kernel_rfl) (by kernel_rfl) (by kernel_rfl) (fun _ _ _ h => h) (Or.inr ⟨by rfl, rfl⟩) (by assumption) ?_
          simp only [Act.put, List.setIfInBounds_toArray, List.set_cons_zero, List.set_cons_succ]
          refine wpAnyH_take (i := 36) (oi := ⟨some 42, .nilCheck (.tmp 41), 0, "line.go:67", #[⟨35, .data⟩, ⟨29, .guard⟩], some (29, true)⟩) (v := undef) rfl (by kernel_rfl) (by kernel_rfl) (by kernel_rfl) (fun _ _ _ h => h) (Or.inr ⟨by rfl, rfl⟩) (by assumption) ?_
          simp only [Act.put, List.setIfInBounds_toArray, List.set_cons_zero, List.set_cons_succ]
          refine wpAnyH_take (i := 37) (oi := ⟨some 43, .fieldAddr 181 (.tmp 42) 2, 0, "line.go:67", #[⟨36, .data⟩, ⟨29, .guard⟩], some (29, true)⟩) (v := undef) rfl (by kernel_rfl) (by kernel_rfl) (by kernel_rfl) (fun _ _ _ h => h) (Or.inr ⟨by rfl, rfl⟩) (by assumption) ?_
          simp only [Act.put, List.setIfInBounds_toArray, List.set_cons_zero, List.set_cons_succ]
          refine wpAnyH_take (i := 38) (oi := ⟨some 44, .load 3 (.tmp 43), 3, "line.go:67", #[⟨37, .data⟩, ⟨29, .guard⟩], some (29, true)⟩) (v := undef) rfl (by kernel_rfl) (by kernel_rfl) (by kernel_rfl) (fun _ _ _ h => h) (Or.inr ⟨by rfl, rfl⟩) (by assumption) ?_
          simp only [Act.put, List.setIfInBounds_toArray, List.set_cons_zero, List.set_cons_succ]
          refine wpAnyH_ready (rs := [39]) (by kernel_rfl) (by simp) ?_
          refine AllReadyH.cons (o := ⟨some 45, .call { callee := .value (.func 31), args := #[.tmp 39, .tmp 40, .tmp 44], argTypes := #[24, 35, 3] }, 4, "line.go:67", #[⟨33, .data⟩, ⟨34, .data⟩, ⟨38, .data⟩, ⟨29, .chain⟩, ⟨29, .guard⟩], some (29, true)⟩) rfl (fun K hK => ?_) ?_
          ·
            rw [if_neg (by rw [show Region.wanted _ _ = false from rfl]; simp)]
            refine hK.out _ _ ?_ (fun hHeld => ?_)
            · (first | exact ⟨r0, r1, r2, r3, r4, r6, r7, r8, r5⟩ | exact ⟨q0, q1, q2, q3, q4, q6, q7, q8, q5⟩ | exact ⟨c0, c1, c2, c3, c4, c6, c7, c8, c5⟩ | go_keep)
            clear hK K
            try simp only [Act.put, List.setIfInBounds_toArray, List.set_cons_zero, List.set_cons_succ]
            refine wpAnyH_take (i := 40) (oi := ⟨some 46, .unOp .not 4 (.tmp 45), 4, "line.go:67", #[⟨39, .data⟩, ⟨29, .guard⟩], some (29, true)⟩) (v := undef) rfl (by kernel_rfl) (by kernel_rfl) (by kernel_rfl) (fun _ _ _ h => h) (Or.inr ⟨by rfl, rfl⟩) (by assumption) ?_
            simp only [Act.put, List.setIfInBounds_toArray, List.set_cons_zero, List.set_cons_succ]
            refine wpAnyH_take (i := 41) (oi := ⟨some 47, .pick (.tmp 35) (.tmp 46) (.const (.bool false)), 4, "line.go:67", #[⟨29, .data⟩, ⟨40, .data⟩, ⟨21, .guard⟩], some (21, false)⟩) (v := ?v5z41) rfl (by kernel_rfl) (by kernel_rfl) (by kernel_rfl) (fun _ _ _ h => h) (Or.inl ⟨by rfl, ?hy5z41⟩) (by assumption) ?rest5z41
            case hy5z41 => (intro w hSw; (try dsimp only at hSw); go_simp; try (with_reducible rfl))
            simp only [Act.put, List.setIfInBounds_toArray, List.set_cons_zero, List.set_cons_succ]
            refine wpAnyH_take (i := 42) (oi := ⟨some 48, .pick (.tmp 27) (.const (.bool true)) (.tmp 47), 4, "line.go:67", #[⟨21, .data⟩, ⟨41, .data⟩], none⟩) (v := ?v5z42) rfl (by kernel_rfl) (by kernel_rfl) (by kernel_rfl) (fun _ _ _ h => h) (Or.inl ⟨by rfl, ?hy5z42⟩) (by assumption) ?rest5z42
            case hy5z42 => (intro w hSw; (try dsimp only at hSw); go_simp; try (with_reducible rfl))
            simp only [Act.put, List.setIfInBounds_toArray, List.set_cons_zero, List.set_cons_succ]
            refine wpAnyH_done (by kernel_rfl) ?_ _
            go_wp2_with fail
            go_meet
            exact ⟨by rw [HV.out], HB1⟩
          exact AllReadyH.nil
        exact AllReadyH.nil
 case rest =>
  obtain ⟨rfl, HB3⟩ := hcut
  obtain ⟨w3, rfl⟩ : ∃ w3 : World, w3 = wc := ⟨_, rfl⟩
  obtain ⟨g, hg⟩ : ∃ g, g = noneB p mark ⟨xb, xs, xp⟩ := ⟨_, rfl⟩
  rw [← hg]
  clear c0 c1 c2 c3 c4 c6 c7 c8
  cases g with
  | true =>
    have HR := Lib.hid (show beginD p mark ⟨xb, xs, xp⟩ = 3 from by unfold beginD; rw [← hg]; rfl)
    clear hg
    go_wp2_with (first
     | (go_at_call 114; refine (lnFault_c i 0 _ 3 w3 rfl).mono ?_; rintro e w4 ⟨v, rfl, hE, hb⟩
        obtain ⟨fb, s1, v', n', rfl, hE1, hE2⟩ := hE
        have HE4 := Lib.hid (show ErrAt w4 _ i 3 from ⟨fb, s1, v', n', rfl, hE1, hE2⟩)
        have HB4 := Lib.hid (ext_trans (ext_trans HBW.out HB3.out) hb)
        clear hE1 hE2 hb))
    rw [HR.out]
    refine ⟨rfl, ?_⟩
    exact (show BeginPost w 3 _ _ from ⟨fun h => absurd h (by decide), fun _ => ⟨i, _, rfl, HE4.out, HB4.out⟩⟩)
  | false =>
    have HN := Lib.hid hg.symm
    clear hg
    obtain ⟨hb1, _⟩ := hasB_parts (show hasB p ⟨xb, xs, xp⟩ = true from by
     cases h3 : hasB p ⟨xb, xs, xp⟩ with
     | true => rfl
     | false => have h4 := HN.out; unfold noneB at h4; rw [h3] at h4; cases h4)
    simp only at hb1
    have e16 : IntKind.i64.wrap (xb - 16) = xb - 16 := IntWalk.i64_in _ (by simp only at hx; omega)
    have HX3 := Lib.hid (HXW.out.ext HB3.out)
    have H3 := Lib.hid (H.out.ext HB3.out)
    have x0 : w3.cell? ⟨w.heap.size, 0, none⟩ = some (.int .i64 xb) := (HX3.out.cell 0).trans rfl
    have c3 : w3.cell? ⟨X.lb, 3, none⟩ = some (.int .i64 mark) := (H3.out.bk.cell 3).trans rfl
    have xl := HX3.out.lt
    have zl := H3.out.bk.lt
    go_upto_region 3 with fail
    go_cut [60] (fun v60 wx => v60 = .bool (decide (max mark 0 < xb - 16)) ∧ Hid (Below w3.heap.size w3 wx))
    case first =>
     by_cases hm : mark < 0
     · have hM : max mark 0 = 0 := by omega
       go_region
       all_goals
         go_wp2_with fail
         go_meet
         exact ⟨congrArg Value.bool (decide_eq_decide.2 (by omega)), Lib.hid (below_drewN (Below.refl _ _) _)⟩
     · have hM : max mark 0 = mark := by omega
       go_region
       all_goals
         go_wp2_with fail
         go_meet
         exact ⟨congrArg Value.bool (decide_eq_decide.2 (by omega)), Lib.hid (below_drewN (Below.refl _ _) _)⟩
    case rest =>
     obtain ⟨rfl, HB5⟩ := hcut
     obtain ⟨w5, rfl⟩ : ∃ w5 : World, w5 = wc := ⟨_, rfl⟩
     clear x0 c3 xl zl
     obtain ⟨g, hg⟩ : ∃ g, g = decide (max mark 0 < xb - 16) := ⟨_, rfl⟩
     rw [← hg]
     cases g with
     | true =>
       have HR := Lib.hid (show beginD p mark ⟨xb, xs, xp⟩ = 2 from by unfold beginD; rw [HN.out, if_neg (by simp), if_pos (of_decide_eq_true hg.symm)])
       clear hg
       go_wp2_with (first
        | (go_at_call 114; refine (lnFault_c i 0 _ 2 w5 rfl).mono ?_; rintro e w6 ⟨v, rfl, hE, hb⟩
           obtain ⟨fb, s1, v', n', rfl, hE1, hE2⟩ := hE
           have HE4 := Lib.hid (show ErrAt w6 _ i 2 from ⟨fb, s1, v', n', rfl, hE1, hE2⟩)
           have HB4 := Lib.hid (ext_trans (ext_trans (ext_trans HBW.out HB3.out) HB5.out) hb)
           clear hE1 hE2 hb))
       rw [HR.out]
       refine ⟨rfl, ?_⟩
       exact (show BeginPost w 2 _ _ from ⟨fun h => absurd h (by decide), fun _ => ⟨i, _, rfl, HE4.out, HB4.out⟩⟩)
     | false =>
       have HR := Lib.hid (show beginD p mark ⟨xb, xs, xp⟩ = 0 from by unfold beginD; rw [HN.out, if_neg (by simp), if_neg (of_decide_eq_false hg.symm)])
       clear hg
       go_wp2_with fail
       go_returns
       rw [HR.out]
       exact ⟨fun _ => ⟨rfl, ext_trans (ext_trans HBW.out HB3.out) HB5.out⟩, fun h => absurd rfl h⟩
end
end Go.Proofs.YtapjhliglmohgaaGreatDoor
