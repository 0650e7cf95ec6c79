/- LineD: laid together. -/
import Derived.Test.YtapjhliglmohgaaGreatDoorPwP
import Derived.Test.YtapjhliglmohgaaGreatDoorPwD
/- The walk through a lineage: come of the program. -/
namespace Go.Proofs.YtapjhliglmohgaaGreatDoor
open Go.RowKit Go.Sort
def ComePost (B lb : Nat) (R : Nat → Prop) (p : PlanD) (A : Option Addr) (c : Nat) (mark : Int) (held : List Id3) (d : LnD) (w : World) (e : Ending) (w' : World) : Prop := e = .returned (.tuple #[]) ∧ LnTurn B lb R p A c mark held d w w'
section
variable {B : Nat} {p : PlanD} {A : Option Addr} {c : Nat} {mark : Int} {held : List Id3}
set_option maxRecDepth 100000 in
set_option maxHeartbeats 64000000 in
theorem come_there (hp : Shaped p) (n : Nat)
 (X : LnX) (R : Nat → Prop) (d : LnD) (x : Id3) (steps : Int) (w : World) (h : LnAt B X R p A c mark held d d.seen w) (hok : LnOk p mark d) (h0 : 0 ≤ steps) (hn : steps + (n + 1 : Nat) ≤ 100000) (hth : thereD p mark held x = true) :
 Calls Tryz.prog 117 #[.pointer (some ⟨X.lb, 0, none⟩), idV x, .int .i64 steps] w (ComePost B X.lb R p A c mark held (comeD p mark held (n + 1) d x steps) w) := by
 obtain ⟨xb, xs, xp⟩ := x
 obtain ⟨W, hW⟩ : ∃ W, W = w.alloc (.cells #[.int .i64 xb, .int .i64 xs, .int .i64 xp] 35 (0, 0)) := ⟨_, rfl⟩
 have HBW := Lib.hid (show Below w.heap.size w W from by rw [hW]; exact ext_alloc (Below.refl _ _) _)
 have HXW := Lib.hid (show Bk W w.heap.size 35 #[.int .i64 xb, .int .i64 xs, .int .i64 xp] from by rw [hW]; exact Bk.new _ _ _)
 have H := Lib.hid (h.ext HBW.out)
 have HWW := Lib.hid hW
 have hnb : ∀ k, R k → k < w.heap.size := fun k hk => (h.bd k hk).2
 have HNb := Lib.hid hnb
 have HOk := Lib.hid hok
 have l9 : W.cell? ⟨X.lb, 9, none⟩ = some (.int .i64 d.depth) := (H.out.bk.cell 9).trans rfl
 have f9 := H.out.bk.frozen 9
 have z1 := H.out.bk.lt
 have HTt0 := Lib.hid hth
 clear h hW hnb hok hth
 go_enter Tryz.func117, Tryz.ntmps117
 go_upto_region 1 with fail
 rw [← HWW.out]
 go_cut [16] (fun _ wx => Hid (LnAt B X R p A c mark held (d.at_ steps) d.seen wx) ∧ Hid (Fr R W wx) ∧ Hid (Bk wx w.heap.size 35 #[.int .i64 xb, .int .i64 xs, .int .i64 xp]))
 case first =>
  by_cases hm : d.depth < steps
  · have HM := Lib.hid (show steps = max d.depth steps by omega)
    go_wp2_with fail
    go_meet
    exact ⟨Lib.hid (H.out.deep HM.out), Lib.hid (Fr.refl.set_ (.inl H.out.rl.1) _), Lib.hid (HXW.out.far (p := ⟨X.lb, 9, none⟩) (fun e => by have := HNb.out _ H.out.rl.1; have e' : w.heap.size = X.lb := e; omega) _)⟩
  · have HM := Lib.hid (show d.depth = max d.depth steps by omega)
    go_wp2_with fail
    go_meet
    exact ⟨Lib.hid (H.out.deep HM.out), Lib.hid (Fr.refl.set_ (.inl H.out.rl.1) _), Lib.hid (HXW.out.far (p := ⟨X.lb, 9, none⟩) (fun e => by have := HNb.out _ H.out.rl.1; have e' : w.heap.size = X.lb := e; omega) _)⟩
 case rest =>
  obtain ⟨H1, HF1, HX1⟩ := hcut
  obtain ⟨w1, rfl⟩ : ∃ w1 : World, w1 = wc := ⟨_, rfl⟩
  have x0 : w1.cell? ⟨w.heap.size, 0, none⟩ = some (.int .i64 xb) := (HX1.out.cell 0).trans rfl
  have x1 : w1.cell? ⟨w.heap.size, 1, none⟩ = some (.int .i64 xs) := (HX1.out.cell 1).trans rfl
  have x2 : w1.cell? ⟨w.heap.size, 2, none⟩ = some (.int .i64 xp) := (HX1.out.cell 2).trans rfl
  have xl := HX1.out.lt
  have hlen := (HOk.out.at_ h0 (by omega)).lens hp
  have hul : d.used.length ≤ 816 := hlen.2.2
  have hsl : d.seen.length ≤ 816 := hlen.1
  have hrl : d.ready.length ≤ 816 := hlen.2.1
  clear hlen
  have HTh := Lib.hid (there_c (⟨xb, xs, xp⟩ : Id3) w1 H1.out)
  have HLb := Lib.hid (show X.lb < w.heap.size from HNb.out _ H.out.rl.1)
  have HFa := Lib.hid (show w.heap.size ≠ X.lb from fun e => by have := HLb.out; omega)
  clear l9 f9 z1
  have hth := HTt0.out
  rw [hth] at HTh
  have HTt := Lib.hid hth
  clear hth
  go_upto_region 3 with (first
   | (go_at_call 156; refine HTh.out.mono ?_; rintro e w2 ⟨rfl, hb⟩
      have H2 := Lib.hid (H1.out.ext hb)
      have HX2 := Lib.hid (HX1.out.ext hb)
      have HB2 := Lib.hid hb
      clear hb x0 x1 x2))
  have x0 : w2.cell? ⟨w.heap.size, 0, none⟩ = some (.int .i64 xb) := (HX2.out.cell 0).trans rfl
  have x1 : w2.cell? ⟨w.heap.size, 1, none⟩ = some (.int .i64 xs) := (HX2.out.cell 1).trans rfl
  have x2 : w2.cell? ⟨w.heap.size, 2, none⟩ = some (.int .i64 xp) := (HX2.out.cell 2).trans rfl
  have l0 : w2.cell? ⟨X.lb, 0, none⟩ = some (.int .i64 p.parts) := (H2.out.bk.cell 0).trans rfl
  have l1 : w2.cell? ⟨X.lb, 1, none⟩ = some (.slice A p.ops.length c) := (H2.out.bk.cell 1).trans rfl
  have l3 : w2.cell? ⟨X.lb, 3, none⟩ = some (.int .i64 mark) := (H2.out.bk.cell 3).trans rfl
  have l8 : w2.cell? ⟨X.lb, 8, none⟩ = some (.slice X.A3 d.used.length X.c3) := (H2.out.bk.cell 8).trans rfl
  go_cut [43] (fun v43 wx => v43 = .bool (!leafD p ⟨xb, xs, xp⟩ mark && !decide ((⟨xb, xs, xp⟩ : Id3) ∈ d.used)) ∧ Hid (LnAt B X R p A c mark held (d.at_ steps) d.seen wx) ∧ Hid (Bk wx w.heap.size 35 #[.int .i64 xb, .int .i64 xs, .int .i64 xp]) ∧ Hid (Below w2.heap.size w2 wx))
  case first =>
   obtain ⟨lf, hlf⟩ : ∃ lf, lf = leafD p ⟨xb, xs, xp⟩ mark := ⟨_, rfl⟩
   obtain ⟨us, hus⟩ : ∃ us, us = decide ((⟨xb, xs, xp⟩ : Id3) ∈ d.used) := ⟨_, rfl⟩
   have HL := Lib.hid hlf.symm
   have HU := Lib.hid hus.symm
   clear hlf hus
   cases lf with
   | true =>
     refine wp_region_held_drew (S := (fun w' => w'.cell? ⟨w.heap.size, 0, none⟩ = some (.int .i64 xb) ∧ w'.cell? ⟨w.heap.size, 1, none⟩ = some (.int .i64 xs) ∧ w'.cell? ⟨w.heap.size, 2, none⟩ = some (.int .i64 xp) ∧ w'.cell? ⟨X.lb, 0, none⟩ = some (.int .i64 p.parts) ∧ w'.cell? ⟨X.lb, 1, none⟩ = some (.slice A p.ops.length c) ∧ w'.cell? ⟨X.lb, 3, none⟩ = some (.int .i64 mark) ∧ w'.cell? ⟨X.lb, 8, none⟩ = some (.slice X.A3 d.used.length X.c3))) (by kernel_rfl) ?_ (fun hHeld => ?_)
     · (first | exact ⟨(HX4.out.cell 0).trans rfl, (HX4.out.cell 1).trans rfl, (HX4.out.cell 2).trans rfl, (H4.out.bk.cell 0).trans rfl, (H4.out.bk.cell 1).trans rfl, (H4.out.bk.cell 3).trans rfl, (H4.out.bk.cell 8).trans rfl⟩ | exact ⟨(HX3.out.cell 0).trans rfl, (HX3.out.cell 1).trans rfl, (HX3.out.cell 2).trans rfl, (H3.out.bk.cell 0).trans rfl, (H3.out.bk.cell 1).trans rfl, (H3.out.bk.cell 3).trans rfl, (H3.out.bk.cell 8).trans rfl⟩ | exact ⟨x0, x1, x2, l0, l1, l3, l8⟩ | go_keep)
     refine wpAnyH_take (i := 0) (oi := ⟨some 23, .move (.tmp 0), 179, "line.go:45", #[], none⟩) (v := ?v1z0) rfl (by kernel_rfl) (by kernel_rfl) (by kernel_rfl) (fun _ _ _ h => h) (Or.inl ⟨by rfl, ?hy1z0⟩) (by assumption) ?rest1z0
     case hy1z0 => (intro w hSw; (try dsimp only at hSw); go_simp; try (with_reducible rfl))
     simp only [Act.put, List.setIfInBounds_toArray, List.set_cons_zero, List.set_cons_succ]
     refine wpAnyH_take (i := 1) (oi := ⟨some 24, .nilCheck (.tmp 23), 0, "line.go:45", #[⟨0, .data⟩], none⟩) (v := ?v1z1) rfl (by kernel_rfl) (by kernel_rfl) (by kernel_rfl) (fun _ _ _ h => h) (Or.inl ⟨by rfl, ?hy1z1⟩) (by assumption) ?rest1z1
     case hy1z1 => (intro w hSw; (try dsimp only at hSw); go_simp; try (with_reducible rfl))
     simp only [Act.put, List.setIfInBounds_toArray, List.set_cons_zero, List.set_cons_succ]
     refine wpAnyH_take (i := 2) (oi := ⟨some 25, .fieldAddr 181 (.tmp 24) 0, 0, "line.go:45", #[⟨1, .data⟩], none⟩) (v := ?v1z2) rfl (by kernel_rfl) (by kernel_rfl) (by kernel_rfl) (fun _ _ _ h => h) (Or.inl ⟨by rfl, ?hy1z2⟩) (by assumption) ?rest1z2
     case hy1z2 => (intro w hSw; (try dsimp only at hSw); go_simp; try (with_reducible rfl))
     simp only [Act.put, List.setIfInBounds_toArray, List.set_cons_zero, List.set_cons_succ]
     refine wpAnyH_take (i := 3) (oi := ⟨some 26, .load 24 (.tmp 25), 24, "line.go:45", #[⟨2, .data⟩], none⟩) (v := ?v1z3) rfl (by kernel_rfl) (by kernel_rfl) (by kernel_rfl) (fun _ _ _ h => h) (Or.inl ⟨by rfl, ?hy1z3⟩) (by assumption) ?rest1z3
     case hy1z3 => (intro w hSw; (try dsimp only at hSw); go_simp; try (with_reducible rfl))
     simp only [Act.put, List.setIfInBounds_toArray, List.set_cons_zero, List.set_cons_succ]
     refine wpAnyH_take (i := 4) (oi := ⟨some 27, .load 35 (.tmp 4), 35, "line.go:45", #[], none⟩) (v := ?v1z4) rfl (by kernel_rfl) (by kernel_rfl) (by kernel_rfl) (fun _ _ _ h => h) (Or.inl ⟨by rfl, ?hy1z4⟩) (by assumption) ?rest1z4
     case hy1z4 => (intro w hSw; (try dsimp only at hSw); go_simp; try (with_reducible rfl))
     simp only [Act.put, List.setIfInBounds_toArray, List.set_cons_zero, List.set_cons_succ]
     refine wpAnyH_take (i := 5) (oi := ⟨some 28, .move (.tmp 0), 179, "line.go:45", #[], none⟩) (v := ?v1z5) rfl (by kernel_rfl) (by kernel_rfl) (by kernel_rfl) (fun _ _ _ h => h) (Or.inl ⟨by rfl, ?hy1z5⟩) (by assumption) ?rest1z5
     case hy1z5 => (intro w hSw; (try dsimp only at hSw); go_simp; try (with_reducible rfl))
     simp only [Act.put, List.setIfInBounds_toArray, List.set_cons_zero, List.set_cons_succ]
     refine wpAnyH_take (i := 6) (oi := ⟨some 29, .nilCheck (.tmp 28), 0, "line.go:45", #[⟨5, .data⟩], none⟩) (v := ?v1z6) rfl (by kernel_rfl) (by kernel_rfl) (by kernel_rfl) (fun _ _ _ h => h) (Or.inl ⟨by rfl, ?hy1z6⟩) (by assumption) ?rest1z6
     case hy1z6 => (intro w hSw; (try dsimp only at hSw); go_simp; try (with_reducible rfl))
     simp only [Act.put, List.setIfInBounds_toArray, List.set_cons_zero, List.set_cons_succ]
     refine wpAnyH_take (i := 7) (oi := ⟨some 30, .fieldAddr 181 (.tmp 29) 2, 0, "line.go:45", #[⟨6, .data⟩], none⟩) (v := ?v1z7) rfl (by kernel_rfl) (by kernel_rfl) (by kernel_rfl) (fun _ _ _ h => h) (Or.inl ⟨by rfl, ?hy1z7⟩) (by assumption) ?rest1z7
     case hy1z7 => (intro w hSw; (try dsimp only at hSw); go_simp; try (with_reducible rfl))
     simp only [Act.put, List.setIfInBounds_toArray, List.set_cons_zero, List.set_cons_succ]
     refine wpAnyH_take (i := 8) (oi := ⟨some 31, .load 3 (.tmp 30), 3, "line.go:45", #[⟨7, .data⟩], none⟩) (v := ?v1z8) rfl (by kernel_rfl) (by kernel_rfl) (by kernel_rfl) (fun _ _ _ h => h) (Or.inl ⟨by rfl, ?hy1z8⟩) (by assumption) ?rest1z8
     case hy1z8 => (intro w hSw; (try dsimp only at hSw); go_simp; try (with_reducible rfl))
     simp only [Act.put, List.setIfInBounds_toArray, List.set_cons_zero, List.set_cons_succ]
     refine wpAnyH_ready (rs := [9]) (by kernel_rfl) (by simp) ?_
     refine AllReadyH.cons (o := ⟨some 32, .call { callee := .value (.func 31), args := #[.tmp 26, .tmp 27, .tmp 31], argTypes := #[24, 35, 3] }, 4, "line.go:45", #[⟨3, .data⟩, ⟨4, .data⟩, ⟨8, .data⟩], none⟩) rfl (fun K hK => ?_) ?_
     ·
       go_simp
       go_at_call 31
       refine (leaf_c B p A c ⟨xb, xs, xp⟩ mark _ (H2.out.opsR.ext (below_drewN (Below.refl _ _) 1)) (Nat.le_trans H2.out.hB (Nat.le_refl _))).mono ?_
       rw [HL.out]
       rintro e w3 ⟨rfl, hb⟩
       have HB3 := Lib.hid (show Below w2.heap.size w2 w3 from ext_trans (below_drewN (Below.refl _ _) 1) hb)
       have H3 := Lib.hid (H2.out.ext HB3.out)
       have HX3 := Lib.hid (HX2.out.ext HB3.out)
       clear hb
       refine hK.out _ _ ?_ (fun hHeld => ?_)
       · (first | exact ⟨(HX4.out.cell 0).trans rfl, (HX4.out.cell 1).trans rfl, (HX4.out.cell 2).trans rfl, (H4.out.bk.cell 0).trans rfl, (H4.out.bk.cell 1).trans rfl, (H4.out.bk.cell 3).trans rfl, (H4.out.bk.cell 8).trans rfl⟩ | exact ⟨(HX3.out.cell 0).trans rfl, (HX3.out.cell 1).trans rfl, (HX3.out.cell 2).trans rfl, (H3.out.bk.cell 0).trans rfl, (H3.out.bk.cell 1).trans rfl, (H3.out.bk.cell 3).trans rfl, (H3.out.bk.cell 8).trans rfl⟩ | exact ⟨x0, x1, x2, l0, l1, l3, l8⟩ | go_keep)
       clear hK K
       try simp only [Act.put, List.setIfInBounds_toArray, List.set_cons_zero, List.set_cons_succ]
       refine wpAnyH_take (i := 10) (oi := ⟨some 33, .unOp .not 4 (.tmp 32), 4, "line.go:45", #[⟨9, .data⟩], none⟩) (v := ?v1z10) rfl (by kernel_rfl) (by kernel_rfl) (by kernel_rfl) (fun _ _ _ h => h) (Or.inl ⟨by rfl, ?hy1z10⟩) (by assumption) ?rest1z10
       case hy1z10 => (intro w hSw; (try dsimp only at hSw); go_simp; try (with_reducible rfl))
       simp only [Act.put, List.setIfInBounds_toArray, List.set_cons_zero, List.set_cons_succ]
       refine wpAnyH_take (i := 11) (oi := ⟨some 34, .move (.tmp 33), 4, "line.go:45", #[⟨10, .data⟩, ⟨9, .chain⟩], none⟩) (v := ?v1z11) rfl (by kernel_rfl) (by kernel_rfl) (by kernel_rfl) (fun _ _ _ h => h) (Or.inl ⟨by rfl, ?hy1z11⟩) (by assumption) ?rest1z11
       case hy1z11 => (intro w hSw; (try dsimp only at hSw); go_simp; try (with_reducible rfl))
       simp only [Act.put, List.setIfInBounds_toArray, List.set_cons_zero, List.set_cons_succ]
       refine wpAnyH_take (i := 12) (oi := ⟨some 35, .move (.tmp 0), 179, "line.go:45", #[⟨11, .guard⟩], some (11, true)⟩) (v := undef) rfl (by kernel_rfl) (by kernel_rfl) (by kernel_rfl) (fun _ _ _ h => h) (Or.inr ⟨by rfl, rfl⟩) (by assumption) ?_
       simp only [Act.put, List.setIfInBounds_toArray, List.set_cons_zero, List.set_cons_succ]
       refine wpAnyH_take (i := 13) (oi := ⟨some 36, .nilCheck (.tmp 35), 0, "line.go:45", #[⟨12, .data⟩, ⟨11, .guard⟩], some (11, true)⟩) (v := undef) rfl (by kernel_rfl) (by kernel_rfl) (by kernel_rfl) (fun _ _ _ h => h) (Or.inr ⟨by rfl, rfl⟩) (by assumption) ?_
       simp only [Act.put, List.setIfInBounds_toArray, List.set_cons_zero, List.set_cons_succ]
       refine wpAnyH_take (i := 14) (oi := ⟨some 37, .fieldAddr 181 (.tmp 36) 5, 0, "line.go:45", #[⟨13, .data⟩, ⟨11, .guard⟩], some (11, true)⟩) (v := undef) rfl (by kernel_rfl) (by kernel_rfl) (by kernel_rfl) (fun _ _ _ h => h) (Or.inr ⟨by rfl, rfl⟩) (by assumption) ?_
       simp only [Act.put, List.setIfInBounds_toArray, List.set_cons_zero, List.set_cons_succ]
       refine wpAnyH_take (i := 15) (oi := ⟨some 38, .fieldAddr 120 (.tmp 37) 2, 0, "line.go:45", #[⟨14, .data⟩, ⟨11, .guard⟩], some (11, true)⟩) (v := undef) rfl (by kernel_rfl) (by kernel_rfl) (by kernel_rfl) (fun _ _ _ h => h) (Or.inr ⟨by rfl, rfl⟩) (by assumption) ?_
       simp only [Act.put, List.setIfInBounds_toArray, List.set_cons_zero, List.set_cons_succ]
       refine wpAnyH_take (i := 16) (oi := ⟨some 39, .load 33 (.tmp 38), 33, "line.go:45", #[⟨15, .data⟩, ⟨11, .guard⟩], some (11, true)⟩) (v := undef) rfl (by kernel_rfl) (by kernel_rfl) (by kernel_rfl) (fun _ _ _ h => h) (Or.inr ⟨by rfl, rfl⟩) (by assumption) ?_
       simp only [Act.put, List.setIfInBounds_toArray, List.set_cons_zero, List.set_cons_succ]
       refine wpAnyH_take (i := 17) (oi := ⟨some 40, .load 35 (.tmp 4), 35, "line.go:45", #[⟨11, .guard⟩], some (11, true)⟩) (v := undef) rfl (by kernel_rfl) (by kernel_rfl) (by kernel_rfl) (fun _ _ _ h => h) (Or.inr ⟨by rfl, rfl⟩) (by assumption) ?_
       simp only [Act.put, List.setIfInBounds_toArray, List.set_cons_zero, List.set_cons_succ]
       refine wpAnyH_ready (rs := [18]) (by kernel_rfl) (by simp) ?_
       refine AllReadyH.cons (o := ⟨some 41, .call { callee := .value (.func 64), args := #[.tmp 39, .tmp 40], argTypes := #[33, 35] }, 4, "line.go:45", #[⟨16, .data⟩, ⟨17, .data⟩, ⟨11, .chain⟩, ⟨11, .guard⟩], some (11, true)⟩) rfl (fun K hK => ?_) ?_
       ·
         rw [if_neg (by rw [show Region.wanted _ _ = false from rfl]; simp)]
         refine hK.out _ _ ?_ (fun hHeld => ?_)
         · (first | exact ⟨(HX4.out.cell 0).trans rfl, (HX4.out.cell 1).trans rfl, (HX4.out.cell 2).trans rfl, (H4.out.bk.cell 0).trans rfl, (H4.out.bk.cell 1).trans rfl, (H4.out.bk.cell 3).trans rfl, (H4.out.bk.cell 8).trans rfl⟩ | exact ⟨(HX3.out.cell 0).trans rfl, (HX3.out.cell 1).trans rfl, (HX3.out.cell 2).trans rfl, (H3.out.bk.cell 0).trans rfl, (H3.out.bk.cell 1).trans rfl, (H3.out.bk.cell 3).trans rfl, (H3.out.bk.cell 8).trans rfl⟩ | exact ⟨x0, x1, x2, l0, l1, l3, l8⟩ | go_keep)
         clear hK K
         try simp only [Act.put, List.setIfInBounds_toArray, List.set_cons_zero, List.set_cons_succ]
         refine wpAnyH_take (i := 19) (oi := ⟨some 42, .unOp .not 4 (.tmp 41), 4, "line.go:45", #[⟨18, .data⟩, ⟨11, .guard⟩], some (11, true)⟩) (v := undef) rfl (by kernel_rfl) (by kernel_rfl) (by kernel_rfl) (fun _ _ _ h => h) (Or.inr ⟨by rfl, rfl⟩) (by assumption) ?_
         simp only [Act.put, List.setIfInBounds_toArray, List.set_cons_zero, List.set_cons_succ]
         refine wpAnyH_take (i := 20) (oi := ⟨some 43, .pick (.tmp 34) (.tmp 42) (.const (.bool false)), 4, "line.go:45", #[⟨11, .data⟩, ⟨19, .data⟩], none⟩) (v := ?v1z20) rfl (by kernel_rfl) (by kernel_rfl) (by kernel_rfl) (fun _ _ _ h => h) (Or.inl ⟨by rfl, ?hy1z20⟩) (by assumption) ?rest1z20
         case hy1z20 => (intro w hSw; (try dsimp only at hSw); go_simp; try (with_reducible rfl))
         simp only [Act.put, List.setIfInBounds_toArray, List.set_cons_zero, List.set_cons_succ]
         refine wpAnyH_done (by kernel_rfl) ?_ _
         go_wp2_with fail
         go_meet
         exact ⟨by rw [HL.out]; rfl, H3, HX3, HB3⟩
       exact AllReadyH.nil
     exact AllReadyH.nil
   | false =>
     cases us with
     | true =>
       refine wp_region_held_drew (S := (fun w' => w'.cell? ⟨w.heap.size, 0, none⟩ = some (.int .i64 xb) ∧ w'.cell? ⟨w.heap.size, 1, none⟩ = some (.int .i64 xs) ∧ w'.cell? ⟨w.heap.size, 2, none⟩ = some (.int .i64 xp) ∧ w'.cell? ⟨X.lb, 0, none⟩ = some (.int .i64 p.parts) ∧ w'.cell? ⟨X.lb, 1, none⟩ = some (.slice A p.ops.length c) ∧ w'.cell? ⟨X.lb, 3, none⟩ = some (.int .i64 mark) ∧ w'.cell? ⟨X.lb, 8, none⟩ = some (.slice X.A3 d.used.length X.c3))) (by kernel_rfl) ?_ (fun hHeld => ?_)
       · (first | exact ⟨(HX4.out.cell 0).trans rfl, (HX4.out.cell 1).trans rfl, (HX4.out.cell 2).trans rfl, (H4.out.bk.cell 0).trans rfl, (H4.out.bk.cell 1).trans rfl, (H4.out.bk.cell 3).trans rfl, (H4.out.bk.cell 8).trans rfl⟩ | exact ⟨(HX3.out.cell 0).trans rfl, (HX3.out.cell 1).trans rfl, (HX3.out.cell 2).trans rfl, (H3.out.bk.cell 0).trans rfl, (H3.out.bk.cell 1).trans rfl, (H3.out.bk.cell 3).trans rfl, (H3.out.bk.cell 8).trans rfl⟩ | exact ⟨x0, x1, x2, l0, l1, l3, l8⟩ | go_keep)
       refine wpAnyH_take (i := 0) (oi := ⟨some 23, .move (.tmp 0), 179, "line.go:45", #[], none⟩) (v := ?v2z0) rfl (by kernel_rfl) (by kernel_rfl) (by kernel_rfl) (fun _ _ _ h => h) (Or.inl ⟨by rfl, ?hy2z0⟩) (by assumption) ?rest2z0
       case hy2z0 => (intro w hSw; (try dsimp only at hSw); go_simp; try (with_reducible rfl))
       simp only [Act.put, List.setIfInBounds_toArray, List.set_cons_zero, List.set_cons_succ]
       refine wpAnyH_take (i := 1) (oi := ⟨some 24, .nilCheck (.tmp 23), 0, "line.go:45", #[⟨0, .data⟩], none⟩) (v := ?v2z1) rfl (by kernel_rfl) (by kernel_rfl) (by kernel_rfl) (fun _ _ _ h => h) (Or.inl ⟨by rfl, ?hy2z1⟩) (by assumption) ?rest2z1
       case hy2z1 => (intro w hSw; (try dsimp only at hSw); go_simp; try (with_reducible rfl))
       simp only [Act.put, List.setIfInBounds_toArray, List.set_cons_zero, List.set_cons_succ]
       refine wpAnyH_take (i := 2) (oi := ⟨some 25, .fieldAddr 181 (.tmp 24) 0, 0, "line.go:45", #[⟨1, .data⟩], none⟩) (v := ?v2z2) rfl (by kernel_rfl) (by kernel_rfl) (by kernel_rfl) (fun _ _ _ h => h) (Or.inl ⟨by rfl, ?hy2z2⟩) (by assumption) ?rest2z2
       case hy2z2 => (intro w hSw; (try dsimp only at hSw); go_simp; try (with_reducible rfl))
       simp only [Act.put, List.setIfInBounds_toArray, List.set_cons_zero, List.set_cons_succ]
       refine wpAnyH_take (i := 3) (oi := ⟨some 26, .load 24 (.tmp 25), 24, "line.go:45", #[⟨2, .data⟩], none⟩) (v := ?v2z3) rfl (by kernel_rfl) (by kernel_rfl) (by kernel_rfl) (fun _ _ _ h => h) (Or.inl ⟨by rfl, ?hy2z3⟩) (by assumption) ?rest2z3
       case hy2z3 => (intro w hSw; (try dsimp only at hSw); go_simp; try (with_reducible rfl))
       simp only [Act.put, List.setIfInBounds_toArray, List.set_cons_zero, List.set_cons_succ]
       refine wpAnyH_take (i := 4) (oi := ⟨some 27, .load 35 (.tmp 4), 35, "line.go:45", #[], none⟩) (v := ?v2z4) rfl (by kernel_rfl) (by kernel_rfl) (by kernel_rfl) (fun _ _ _ h => h) (Or.inl ⟨by rfl, ?hy2z4⟩) (by assumption) ?rest2z4
       case hy2z4 => (intro w hSw; (try dsimp only at hSw); go_simp; try (with_reducible rfl))
       simp only [Act.put, List.setIfInBounds_toArray, List.set_cons_zero, List.set_cons_succ]
       refine wpAnyH_take (i := 5) (oi := ⟨some 28, .move (.tmp 0), 179, "line.go:45", #[], none⟩) (v := ?v2z5) rfl (by kernel_rfl) (by kernel_rfl) (by kernel_rfl) (fun _ _ _ h => h) (Or.inl ⟨by rfl, ?hy2z5⟩) (by assumption) ?rest2z5
       case hy2z5 => (intro w hSw; (try dsimp only at hSw); go_simp; try (with_reducible rfl))
       simp only [Act.put, List.setIfInBounds_toArray, List.set_cons_zero, List.set_cons_succ]
       refine wpAnyH_take (i := 6) (oi := ⟨some 29, .nilCheck (.tmp 28), 0, "line.go:45", #[⟨5, .data⟩], none⟩) (v := ?v2z6) rfl (by kernel_rfl) (by kernel_rfl) (by kernel_rfl) (fun _ _ _ h => h) (Or.inl ⟨by rfl, ?hy2z6⟩) (by assumption) ?rest2z6
       case hy2z6 => (intro w hSw; (try dsimp only at hSw); go_simp; try (with_reducible rfl))
       simp only [Act.put, List.setIfInBounds_toArray, List.set_cons_zero, List.set_cons_succ]
       refine wpAnyH_take (i := 7) (oi := ⟨some 30, .fieldAddr 181 (.tmp 29) 2, 0, "line.go:45", #[⟨6, .data⟩], none⟩) (v := ?v2z7) rfl (by kernel_rfl) (by kernel_rfl) (by kernel_rfl) (fun _ _ _ h => h) (Or.inl ⟨by rfl, ?hy2z7⟩) (by assumption) ?rest2z7
       case hy2z7 => (intro w hSw; (try dsimp only at hSw); go_simp; try (with_reducible rfl))
       simp only [Act.put, List.setIfInBounds_toArray, List.set_cons_zero, List.set_cons_succ]
       refine wpAnyH_take (i := 8) (oi := ⟨some 31, .load 3 (.tmp 30), 3, "line.go:45", #[⟨7, .data⟩], none⟩) (v := ?v2z8) rfl (by kernel_rfl) (by kernel_rfl) (by kernel_rfl) (fun _ _ _ h => h) (Or.inl ⟨by rfl, ?hy2z8⟩) (by assumption) ?rest2z8
       case hy2z8 => (intro w hSw; (try dsimp only at hSw); go_simp; try (with_reducible rfl))
       simp only [Act.put, List.setIfInBounds_toArray, List.set_cons_zero, List.set_cons_succ]
       refine wpAnyH_ready (rs := [9]) (by kernel_rfl) (by simp) ?_
       refine AllReadyH.cons (o := ⟨some 32, .call { callee := .value (.func 31), args := #[.tmp 26, .tmp 27, .tmp 31], argTypes := #[24, 35, 3] }, 4, "line.go:45", #[⟨3, .data⟩, ⟨4, .data⟩, ⟨8, .data⟩], none⟩) rfl (fun K hK => ?_) ?_
       ·
         go_simp
         go_at_call 31
         refine (leaf_c B p A c ⟨xb, xs, xp⟩ mark _ (H2.out.opsR.ext (below_drewN (Below.refl _ _) 1)) (Nat.le_trans H2.out.hB (Nat.le_refl _))).mono ?_
         rw [HL.out]
         rintro e w3 ⟨rfl, hb⟩
         have HB3 := Lib.hid (show Below w2.heap.size w2 w3 from ext_trans (below_drewN (Below.refl _ _) 1) hb)
         have H3 := Lib.hid (H2.out.ext HB3.out)
         have HX3 := Lib.hid (HX2.out.ext HB3.out)
         clear hb
         refine hK.out _ _ ?_ (fun hHeld => ?_)
         · (first | exact ⟨(HX4.out.cell 0).trans rfl, (HX4.out.cell 1).trans rfl, (HX4.out.cell 2).trans rfl, (H4.out.bk.cell 0).trans rfl, (H4.out.bk.cell 1).trans rfl, (H4.out.bk.cell 3).trans rfl, (H4.out.bk.cell 8).trans rfl⟩ | exact ⟨(HX3.out.cell 0).trans rfl, (HX3.out.cell 1).trans rfl, (HX3.out.cell 2).trans rfl, (H3.out.bk.cell 0).trans rfl, (H3.out.bk.cell 1).trans rfl, (H3.out.bk.cell 3).trans rfl, (H3.out.bk.cell 8).trans rfl⟩ | exact ⟨x0, x1, x2, l0, l1, l3, l8⟩ | go_keep)
         clear hK K
         try simp only [Act.put, List.setIfInBounds_toArray, List.set_cons_zero, List.set_cons_succ]
         refine wpAnyH_take (i := 10) (oi := ⟨some 33, .unOp .not 4 (.tmp 32), 4, "line.go:45", #[⟨9, .data⟩], none⟩) (v := ?v2z10) rfl (by kernel_rfl) (by kernel_rfl) (by kernel_rfl) (fun _ _ _ h => h) (Or.inl ⟨by rfl, ?hy2z10⟩) (by assumption) ?rest2z10
         case hy2z10 => (intro w hSw; (try dsimp only at hSw); go_simp; try (with_reducible rfl))
         simp only [Act.put, List.setIfInBounds_toArray, List.set_cons_zero, List.set_cons_succ]
         refine wpAnyH_take (i := 11) (oi := ⟨some 34, .move (.tmp 33), 4, "line.go:45", #[⟨10, .data⟩, ⟨9, .chain⟩], none⟩) (v := ?v2z11) rfl (by kernel_rfl) (by kernel_rfl) (by kernel_rfl) (fun _ _ _ h => h) (Or.inl ⟨by rfl, ?hy2z11⟩) (by assumption) ?rest2z11
         case hy2z11 => (intro w hSw; (try dsimp only at hSw); go_simp; try (with_reducible rfl))
         simp only [Act.put, List.setIfInBounds_toArray, List.set_cons_zero, List.set_cons_succ]
         refine wpAnyH_take (i := 12) (oi := ⟨some 35, .move (.tmp 0), 179, "line.go:45", #[⟨11, .guard⟩], some (11, true)⟩) (v := ?v2z12) rfl (by kernel_rfl) (by kernel_rfl) (by kernel_rfl) (fun _ _ _ h => h) (Or.inl ⟨by rfl, ?hy2z12⟩) (by assumption) ?rest2z12
         case hy2z12 => (intro w hSw; (try dsimp only at hSw); go_simp; try (with_reducible rfl))
         simp only [Act.put, List.setIfInBounds_toArray, List.set_cons_zero, List.set_cons_succ]
         refine wpAnyH_take (i := 13) (oi := ⟨some 36, .nilCheck (.tmp 35), 0, "line.go:45", #[⟨12, .data⟩, ⟨11, .guard⟩], some (11, true)⟩) (v := ?v2z13) rfl (by kernel_rfl) (by kernel_rfl) (by kernel_rfl) (fun _ _ _ h => h) (Or.inl ⟨by rfl, ?hy2z13⟩) (by assumption) ?rest2z13
         case hy2z13 => (intro w hSw; (try dsimp only at hSw); go_simp; try (with_reducible rfl))
         simp only [Act.put, List.setIfInBounds_toArray, List.set_cons_zero, List.set_cons_succ]
         refine wpAnyH_take (i := 14) (oi := ⟨some 37, .fieldAddr 181 (.tmp 36) 5, 0, "line.go:45", #[⟨13, .data⟩, ⟨11, .guard⟩], some (11, true)⟩) (v := ?v2z14) rfl (by kernel_rfl) (by kernel_rfl) (by kernel_rfl) (fun _ _ _ h => h) (Or.inl ⟨by rfl, ?hy2z14⟩) (by assumption) ?rest2z14
         case hy2z14 => (intro w hSw; (try dsimp only at hSw); go_simp; try (with_reducible rfl))
         simp only [Act.put, List.setIfInBounds_toArray, List.set_cons_zero, List.set_cons_succ]
         refine wpAnyH_take (i := 15) (oi := ⟨some 38, .fieldAddr 120 (.tmp 37) 2, 0, "line.go:45", #[⟨14, .data⟩, ⟨11, .guard⟩], some (11, true)⟩) (v := ?v2z15) rfl (by kernel_rfl) (by kernel_rfl) (by kernel_rfl) (fun _ _ _ h => h) (Or.inl ⟨by rfl, ?hy2z15⟩) (by assumption) ?rest2z15
         case hy2z15 => (intro w hSw; (try dsimp only at hSw); go_simp; try (with_reducible rfl))
         simp only [Act.put, List.setIfInBounds_toArray, List.set_cons_zero, List.set_cons_succ]
         refine wpAnyH_take (i := 16) (oi := ⟨some 39, .load 33 (.tmp 38), 33, "line.go:45", #[⟨15, .data⟩, ⟨11, .guard⟩], some (11, true)⟩) (v := ?v2z16) rfl (by kernel_rfl) (by kernel_rfl) (by kernel_rfl) (fun _ _ _ h => h) (Or.inl ⟨by rfl, ?hy2z16⟩) (by assumption) ?rest2z16
         case hy2z16 => (intro w hSw; (try dsimp only at hSw); go_simp; try (with_reducible rfl))
         simp only [Act.put, List.setIfInBounds_toArray, List.set_cons_zero, List.set_cons_succ]
         refine wpAnyH_take (i := 17) (oi := ⟨some 40, .load 35 (.tmp 4), 35, "line.go:45", #[⟨11, .guard⟩], some (11, true)⟩) (v := ?v2z17) rfl (by kernel_rfl) (by kernel_rfl) (by kernel_rfl) (fun _ _ _ h => h) (Or.inl ⟨by rfl, ?hy2z17⟩) (by assumption) ?rest2z17
         case hy2z17 => (intro w hSw; (try dsimp only at hSw); go_simp; try (with_reducible rfl))
         simp only [Act.put, List.setIfInBounds_toArray, List.set_cons_zero, List.set_cons_succ]
         refine wpAnyH_ready (rs := [18]) (by kernel_rfl) (by simp) ?_
         refine AllReadyH.cons (o := ⟨some 41, .call { callee := .value (.func 64), args := #[.tmp 39, .tmp 40], argTypes := #[33, 35] }, 4, "line.go:45", #[⟨16, .data⟩, ⟨17, .data⟩, ⟨11, .chain⟩, ⟨11, .guard⟩], some (11, true)⟩) rfl (fun K hK => ?_) ?_
         ·
           go_simp
           go_at_call 64
           refine (contains_c 0 d.used X.A3 X.c3 (⟨xb, xs, xp⟩ : Id3) _ (Rd.of_own (show w3.ownsRow B 35 3 (.slice X.A3 d.used.length X.c3) d.used.length (idsC d.used) from H3.out.s3)) (by omega)).mono ?_
           rw [HU.out]
           rintro e w4 ⟨rfl, hb⟩
           have HB4 := Lib.hid (ext_trans HB3.out hb)
           have H4 := Lib.hid (H3.out.ext hb)
           have HX4 := Lib.hid (HX3.out.ext hb)
           clear hb
           refine hK.out _ _ ?_ (fun hHeld => ?_)
           · (first | exact ⟨(HX4.out.cell 0).trans rfl, (HX4.out.cell 1).trans rfl, (HX4.out.cell 2).trans rfl, (H4.out.bk.cell 0).trans rfl, (H4.out.bk.cell 1).trans rfl, (H4.out.bk.cell 3).trans rfl, (H4.out.bk.cell 8).trans rfl⟩ | exact ⟨(HX3.out.cell 0).trans rfl, (HX3.out.cell 1).trans rfl, (HX3.out.cell 2).trans rfl, (H3.out.bk.cell 0).trans rfl, (H3.out.bk.cell 1).trans rfl, (H3.out.bk.cell 3).trans rfl, (H3.out.bk.cell 8).trans rfl⟩ | exact ⟨x0, x1, x2, l0, l1, l3, l8⟩ | go_keep)
           clear hK K
           try simp only [Act.put, List.setIfInBounds_toArray, List.set_cons_zero, List.set_cons_succ]
           refine wpAnyH_take (i := 19) (oi := ⟨some 42, .unOp .not 4 (.tmp 41), 4, "line.go:45", #[⟨18, .data⟩, ⟨11, .guard⟩], some (11, true)⟩) (v := ?v2z19) rfl (by kernel_rfl) (by kernel_rfl) (by kernel_rfl) (fun _ _ _ h => h) (Or.inl ⟨by rfl, ?hy2z19⟩) (by assumption) ?rest2z19
           case hy2z19 => (intro w hSw; (try dsimp only at hSw); go_simp; try (with_reducible rfl))
           simp only [Act.put, List.setIfInBounds_toArray, List.set_cons_zero, List.set_cons_succ]
           refine wpAnyH_take (i := 20) (oi := ⟨some 43, .pick (.tmp 34) (.tmp 42) (.const (.bool false)), 4, "line.go:45", #[⟨11, .data⟩, ⟨19, .data⟩], none⟩) (v := ?v2z20) rfl (by kernel_rfl) (by kernel_rfl) (by kernel_rfl) (fun _ _ _ h => h) (Or.inl ⟨by rfl, ?hy2z20⟩) (by assumption) ?rest2z20
           case hy2z20 => (intro w hSw; (try dsimp only at hSw); go_simp; try (with_reducible rfl))
           simp only [Act.put, List.setIfInBounds_toArray, List.set_cons_zero, List.set_cons_succ]
           refine wpAnyH_done (by kernel_rfl) ?_ _
           go_wp2_with fail
           go_meet
           exact ⟨by rw [HL.out, HU.out]; rfl, H4, HX4, HB4⟩
         exact AllReadyH.nil
       exact AllReadyH.nil
     | false =>
       refine wp_region_held_drew (S := (fun w' => w'.cell? ⟨w.heap.size, 0, none⟩ = some (.int .i64 xb) ∧ w'.cell? ⟨w.heap.size, 1, none⟩ = some (.int .i64 xs) ∧ w'.cell? ⟨w.heap.size, 2, none⟩ = some (.int .i64 xp) ∧ w'.cell? ⟨X.lb, 0, none⟩ = some (.int .i64 p.parts) ∧ w'.cell? ⟨X.lb, 1, none⟩ = some (.slice A p.ops.length c) ∧ w'.cell? ⟨X.lb, 3, none⟩ = some (.int .i64 mark) ∧ w'.cell? ⟨X.lb, 8, none⟩ = some (.slice X.A3 d.used.length X.c3))) (by kernel_rfl) ?_ (fun hHeld => ?_)
       · (first | exact ⟨(HX4.out.cell 0).trans rfl, (HX4.out.cell 1).trans rfl, (HX4.out.cell 2).trans rfl, (H4.out.bk.cell 0).trans rfl, (H4.out.bk.cell 1).trans rfl, (H4.out.bk.cell 3).trans rfl, (H4.out.bk.cell 8).trans rfl⟩ | exact ⟨(HX3.out.cell 0).trans rfl, (HX3.out.cell 1).trans rfl, (HX3.out.cell 2).trans rfl, (H3.out.bk.cell 0).trans rfl, (H3.out.bk.cell 1).trans rfl, (H3.out.bk.cell 3).trans rfl, (H3.out.bk.cell 8).trans rfl⟩ | exact ⟨x0, x1, x2, l0, l1, l3, l8⟩ | go_keep)
       refine wpAnyH_take (i := 0) (oi := ⟨some 23, .move (.tmp 0), 179, "line.go:45", #[], none⟩) (v := ?v3z0) rfl (by kernel_rfl) (by kernel_rfl) (by kernel_rfl) (fun _ _ _ h => h) (Or.inl ⟨by rfl, ?hy3z0⟩) (by assumption) ?rest3z0
       case hy3z0 => (intro w hSw; (try dsimp only at hSw); go_simp; try (with_reducible rfl))
       simp only [Act.put, List.setIfInBounds_toArray, List.set_cons_zero, List.set_cons_succ]
       refine wpAnyH_take (i := 1) (oi := ⟨some 24, .nilCheck (.tmp 23), 0, "line.go:45", #[⟨0, .data⟩], none⟩) (v := ?v3z1) rfl (by kernel_rfl) (by kernel_rfl) (by kernel_rfl) (fun _ _ _ h => h) (Or.inl ⟨by rfl, ?hy3z1⟩) (by assumption) ?rest3z1
       case hy3z1 => (intro w hSw; (try dsimp only at hSw); go_simp; try (with_reducible rfl))
       simp only [Act.put, List.setIfInBounds_toArray, List.set_cons_zero, List.set_cons_succ]
       refine wpAnyH_take (i := 2) (oi := ⟨some 25, .fieldAddr 181 (.tmp 24) 0, 0, "line.go:45", #[⟨1, .data⟩], none⟩) (v := ?v3z2) rfl (by kernel_rfl) (by kernel_rfl) (by kernel_rfl) (fun _ _ _ h => h) (Or.inl ⟨by rfl, ?hy3z2⟩) (by assumption) ?rest3z2
       case hy3z2 => (intro w hSw; (try dsimp only at hSw); go_simp; try (with_reducible rfl))
       simp only [Act.put, List.setIfInBounds_toArray, List.set_cons_zero, List.set_cons_succ]
       refine wpAnyH_take (i := 3) (oi := ⟨some 26, .load 24 (.tmp 25), 24, "line.go:45", #[⟨2, .data⟩], none⟩) (v := ?v3z3) rfl (by kernel_rfl) (by kernel_rfl) (by kernel_rfl) (fun _ _ _ h => h) (Or.inl ⟨by rfl, ?hy3z3⟩) (by assumption) ?rest3z3
       case hy3z3 => (intro w hSw; (try dsimp only at hSw); go_simp; try (with_reducible rfl))
       simp only [Act.put, List.setIfInBounds_toArray, List.set_cons_zero, List.set_cons_succ]
       refine wpAnyH_take (i := 4) (oi := ⟨some 27, .load 35 (.tmp 4), 35, "line.go:45", #[], none⟩) (v := ?v3z4) rfl (by kernel_rfl) (by kernel_rfl) (by kernel_rfl) (fun _ _ _ h => h) (Or.inl ⟨by rfl, ?hy3z4⟩) (by assumption) ?rest3z4
       case hy3z4 => (intro w hSw; (try dsimp only at hSw); go_simp; try (with_reducible rfl))
       simp only [Act.put, List.setIfInBounds_toArray, List.set_cons_zero, List.set_cons_succ]
       refine wpAnyH_take (i := 5) (oi := ⟨some 28, .move (.tmp 0), 179, "line.go:45", #[], none⟩) (v := ?v3z5) rfl (by kernel_rfl) (by kernel_rfl) (by kernel_rfl) (fun _ _ _ h => h) (Or.inl ⟨by rfl, ?hy3z5⟩) (by assumption) ?rest3z5
       case hy3z5 => (intro w hSw; (try dsimp only at hSw); go_simp; try (with_reducible rfl))
       simp only [Act.put, List.setIfInBounds_toArray, List.set_cons_zero, List.set_cons_succ]
       refine wpAnyH_take (i := 6) (oi := ⟨some 29, .nilCheck (.tmp 28), 0, "line.go:45", #[⟨5, .data⟩], none⟩) (v := ?v3z6) rfl (by kernel_rfl) (by kernel_rfl) (by kernel_rfl) (fun _ _ _ h => h) (Or.inl ⟨by rfl, ?hy3z6⟩) (by assumption) ?rest3z6
       case hy3z6 => (intro w hSw; (try dsimp only at hSw); go_simp; try (with_reducible rfl))
       simp only [Act.put, List.setIfInBounds_toArray, List.set_cons_zero, List.set_cons_succ]
       refine wpAnyH_take (i := 7) (oi := ⟨some 30, .fieldAddr 181 (.tmp 29) 2, 0, "line.go:45", #[⟨6, .data⟩], none⟩) (v := ?v3z7) rfl (by kernel_rfl) (by kernel_rfl) (by kernel_rfl) (fun _ _ _ h => h) (Or.inl ⟨by rfl, ?hy3z7⟩) (by assumption) ?rest3z7
       case hy3z7 => (intro w hSw; (try dsimp only at hSw); go_simp; try (with_reducible rfl))
       simp only [Act.put, List.setIfInBounds_toArray, List.set_cons_zero, List.set_cons_succ]
       refine wpAnyH_take (i := 8) (oi := ⟨some 31, .load 3 (.tmp 30), 3, "line.go:45", #[⟨7, .data⟩], none⟩) (v := ?v3z8) rfl (by kernel_rfl) (by kernel_rfl) (by kernel_rfl) (fun _ _ _ h => h) (Or.inl ⟨by rfl, ?hy3z8⟩) (by assumption) ?rest3z8
       case hy3z8 => (intro w hSw; (try dsimp only at hSw); go_simp; try (with_reducible rfl))
       simp only [Act.put, List.setIfInBounds_toArray, List.set_cons_zero, List.set_cons_succ]
       refine wpAnyH_ready (rs := [9]) (by kernel_rfl) (by simp) ?_
       refine AllReadyH.cons (o := ⟨some 32, .call { callee := .value (.func 31), args := #[.tmp 26, .tmp 27, .tmp 31], argTypes := #[24, 35, 3] }, 4, "line.go:45", #[⟨3, .data⟩, ⟨4, .data⟩, ⟨8, .data⟩], none⟩) rfl (fun K hK => ?_) ?_
       ·
         go_simp
         go_at_call 31
         refine (leaf_c B p A c ⟨xb, xs, xp⟩ mark _ (H2.out.opsR.ext (below_drewN (Below.refl _ _) 1)) (Nat.le_trans H2.out.hB (Nat.le_refl _))).mono ?_
         rw [HL.out]
         rintro e w3 ⟨rfl, hb⟩
         have HB3 := Lib.hid (show Below w2.heap.size w2 w3 from ext_trans (below_drewN (Below.refl _ _) 1) hb)
         have H3 := Lib.hid (H2.out.ext HB3.out)
         have HX3 := Lib.hid (HX2.out.ext HB3.out)
         clear hb
         refine hK.out _ _ ?_ (fun hHeld => ?_)
         · (first | exact ⟨(HX4.out.cell 0).trans rfl, (HX4.out.cell 1).trans rfl, (HX4.out.cell 2).trans rfl, (H4.out.bk.cell 0).trans rfl, (H4.out.bk.cell 1).trans rfl, (H4.out.bk.cell 3).trans rfl, (H4.out.bk.cell 8).trans rfl⟩ | exact ⟨(HX3.out.cell 0).trans rfl, (HX3.out.cell 1).trans rfl, (HX3.out.cell 2).trans rfl, (H3.out.bk.cell 0).trans rfl, (H3.out.bk.cell 1).trans rfl, (H3.out.bk.cell 3).trans rfl, (H3.out.bk.cell 8).trans rfl⟩ | exact ⟨x0, x1, x2, l0, l1, l3, l8⟩ | go_keep)
         clear hK K
         try simp only [Act.put, List.setIfInBounds_toArray, List.set_cons_zero, List.set_cons_succ]
         refine wpAnyH_take (i := 10) (oi := ⟨some 33, .unOp .not 4 (.tmp 32), 4, "line.go:45", #[⟨9, .data⟩], none⟩) (v := ?v3z10) rfl (by kernel_rfl) (by kernel_rfl) (by kernel_rfl) (fun _ _ _ h => h) (Or.inl ⟨by rfl, ?hy3z10⟩) (by assumption) ?rest3z10
         case hy3z10 => (intro w hSw; (try dsimp only at hSw); go_simp; try (with_reducible rfl))
         simp only [Act.put, List.setIfInBounds_toArray, List.set_cons_zero, List.set_cons_succ]
         refine wpAnyH_take (i := 11) (oi := ⟨some 34, .move (.tmp 33), 4, "line.go:45", #[⟨10, .data⟩, ⟨9, .chain⟩], none⟩) (v := ?v3z11) rfl (by kernel_rfl) (by kernel_rfl) (by kernel_rfl) (fun _ _ _ h => h) (Or.inl ⟨by rfl, ?hy3z11⟩) (by assumption) ?rest3z11
         case hy3z11 => (intro w hSw; (try dsimp only at hSw); go_simp; try (with_reducible rfl))
         simp only [Act.put, List.setIfInBounds_toArray, List.set_cons_zero, List.set_cons_succ]
         refine wpAnyH_take (i := 12) (oi := ⟨some 35, .move (.tmp 0), 179, "line.go:45", #[⟨11, .guard⟩], some (11, true)⟩) (v := ?v3z12) rfl (by kernel_rfl) (by kernel_rfl) (by kernel_rfl) (fun _ _ _ h => h) (Or.inl ⟨by rfl, ?hy3z12⟩) (by assumption) ?rest3z12
         case hy3z12 => (intro w hSw; (try dsimp only at hSw); go_simp; try (with_reducible rfl))
         simp only [Act.put, List.setIfInBounds_toArray, List.set_cons_zero, List.set_cons_succ]
         refine wpAnyH_take (i := 13) (oi := ⟨some 36, .nilCheck (.tmp 35), 0, "line.go:45", #[⟨12, .data⟩, ⟨11, .guard⟩], some (11, true)⟩) (v := ?v3z13) rfl (by kernel_rfl) (by kernel_rfl) (by kernel_rfl) (fun _ _ _ h => h) (Or.inl ⟨by rfl, ?hy3z13⟩) (by assumption) ?rest3z13
         case hy3z13 => (intro w hSw; (try dsimp only at hSw); go_simp; try (with_reducible rfl))
         simp only [Act.put, List.setIfInBounds_toArray, List.set_cons_zero, List.set_cons_succ]
         refine wpAnyH_take (i := 14) (oi := ⟨some 37, .fieldAddr 181 (.tmp 36) 5, 0, "line.go:45", #[⟨13, .data⟩, ⟨11, .guard⟩], some (11, true)⟩) (v := ?v3z14) rfl (by kernel_rfl) (by kernel_rfl) (by kernel_rfl) (fun _ _ _ h => h) (Or.inl ⟨by rfl, ?hy3z14⟩) (by assumption) ?rest3z14
         case hy3z14 => (intro w hSw; (try dsimp only at hSw); go_simp; try (with_reducible rfl))
         simp only [Act.put, List.setIfInBounds_toArray, List.set_cons_zero, List.set_cons_succ]
         refine wpAnyH_take (i := 15) (oi := ⟨some 38, .fieldAddr 120 (.tmp 37) 2, 0, "line.go:45", #[⟨14, .data⟩, ⟨11, .guard⟩], some (11, true)⟩) (v := ?v3z15) rfl (by kernel_rfl) (by kernel_rfl) (by kernel_rfl) (fun _ _ _ h => h) (Or.inl ⟨by rfl, ?hy3z15⟩) (by assumption) ?rest3z15
         case hy3z15 => (intro w hSw; (try dsimp only at hSw); go_simp; try (with_reducible rfl))
         simp only [Act.put, List.setIfInBounds_toArray, List.set_cons_zero, List.set_cons_succ]
         refine wpAnyH_take (i := 16) (oi := ⟨some 39, .load 33 (.tmp 38), 33, "line.go:45", #[⟨15, .data⟩, ⟨11, .guard⟩], some (11, true)⟩) (v := ?v3z16) rfl (by kernel_rfl) (by kernel_rfl) (by kernel_rfl) (fun _ _ _ h => h) (Or.inl ⟨by rfl, ?hy3z16⟩) (by assumption) ?rest3z16
         case hy3z16 => (intro w hSw; (try dsimp only at hSw); go_simp; try (with_reducible rfl))
         simp only [Act.put, List.setIfInBounds_toArray, List.set_cons_zero, List.set_cons_succ]
         refine wpAnyH_take (i := 17) (oi := ⟨some 40, .load 35 (.tmp 4), 35, "line.go:45", #[⟨11, .guard⟩], some (11, true)⟩) (v := ?v3z17) rfl (by kernel_rfl) (by kernel_rfl) (by kernel_rfl) (fun _ _ _ h => h) (Or.inl ⟨by rfl, ?hy3z17⟩) (by assumption) ?rest3z17
         case hy3z17 => (intro w hSw; (try dsimp only at hSw); go_simp; try (with_reducible rfl))
         simp only [Act.put, List.setIfInBounds_toArray, List.set_cons_zero, List.set_cons_succ]
         refine wpAnyH_ready (rs := [18]) (by kernel_rfl) (by simp) ?_
         refine AllReadyH.cons (o := ⟨some 41, .call { callee := .value (.func 64), args := #[.tmp 39, .tmp 40], argTypes := #[33, 35] }, 4, "line.go:45", #[⟨16, .data⟩, ⟨17, .data⟩, ⟨11, .chain⟩, ⟨11, .guard⟩], some (11, true)⟩) rfl (fun K hK => ?_) ?_
         ·
           go_simp
           go_at_call 64
           refine (contains_c 0 d.used X.A3 X.c3 (⟨xb, xs, xp⟩ : Id3) _ (Rd.of_own (show w3.ownsRow B 35 3 (.slice X.A3 d.used.length X.c3) d.used.length (idsC d.used) from H3.out.s3)) (by omega)).mono ?_
           rw [HU.out]
           rintro e w4 ⟨rfl, hb⟩
           have HB4 := Lib.hid (ext_trans HB3.out hb)
           have H4 := Lib.hid (H3.out.ext hb)
           have HX4 := Lib.hid (HX3.out.ext hb)
           clear hb
           refine hK.out _ _ ?_ (fun hHeld => ?_)
           · (first | exact ⟨(HX4.out.cell 0).trans rfl, (HX4.out.cell 1).trans rfl, (HX4.out.cell 2).trans rfl, (H4.out.bk.cell 0).trans rfl, (H4.out.bk.cell 1).trans rfl, (H4.out.bk.cell 3).trans rfl, (H4.out.bk.cell 8).trans rfl⟩ | exact ⟨(HX3.out.cell 0).trans rfl, (HX3.out.cell 1).trans rfl, (HX3.out.cell 2).trans rfl, (H3.out.bk.cell 0).trans rfl, (H3.out.bk.cell 1).trans rfl, (H3.out.bk.cell 3).trans rfl, (H3.out.bk.cell 8).trans rfl⟩ | exact ⟨x0, x1, x2, l0, l1, l3, l8⟩ | go_keep)
           clear hK K
           try simp only [Act.put, List.setIfInBounds_toArray, List.set_cons_zero, List.set_cons_succ]
           refine wpAnyH_take (i := 19) (oi := ⟨some 42, .unOp .not 4 (.tmp 41), 4, "line.go:45", #[⟨18, .data⟩, ⟨11, .guard⟩], some (11, true)⟩) (v := ?v3z19) rfl (by kernel_rfl) (by kernel_rfl) (by kernel_rfl) (fun _ _ _ h => h) (Or.inl ⟨by rfl, ?hy3z19⟩) (by assumption) ?rest3z19
           case hy3z19 => (intro w hSw; (try dsimp only at hSw); go_simp; try (with_reducible rfl))
           simp only [Act.put, List.setIfInBounds_toArray, List.set_cons_zero, List.set_cons_succ]
           refine wpAnyH_take (i := 20) (oi := ⟨some 43, .pick (.tmp 34) (.tmp 42) (.const (.bool false)), 4, "line.go:45", #[⟨11, .data⟩, ⟨19, .data⟩], none⟩) (v := ?v3z20) rfl (by kernel_rfl) (by kernel_rfl) (by kernel_rfl) (fun _ _ _ h => h) (Or.inl ⟨by rfl, ?hy3z20⟩) (by assumption) ?rest3z20
           case hy3z20 => (intro w hSw; (try dsimp only at hSw); go_simp; try (with_reducible rfl))
           simp only [Act.put, List.setIfInBounds_toArray, List.set_cons_zero, List.set_cons_succ]
           refine wpAnyH_done (by kernel_rfl) ?_ _
           go_wp2_with fail
           go_meet
           exact ⟨by rw [HL.out, HU.out]; rfl, H4, HX4, HB4⟩
         exact AllReadyH.nil
       exact AllReadyH.nil
  case rest =>
   obtain ⟨rfl, H3, HX3, HB3⟩ := hcut
   obtain ⟨w3, rfl⟩ : ∃ w3 : World, w3 = wc := ⟨_, rfl⟩
   clear x0 x1 x2 l0 l1 l3 l8
   have HD := Lib.hid (show comeD p mark held (n + 1) d ⟨xb, xs, xp⟩ steps = if leafD p ⟨xb, xs, xp⟩ mark then d.at_ steps else if (⟨xb, xs, xp⟩ : Id3) ∈ d.used then d.at_ steps else (d.at_ steps).use ⟨xb, xs, xp⟩ from by unfold comeD; rw [if_pos HTt.out])
   obtain ⟨g, hg⟩ : ∃ g, g = (!leafD p ⟨xb, xs, xp⟩ mark && !decide ((⟨xb, xs, xp⟩ : Id3) ∈ d.used)) := ⟨_, rfl⟩
   rw [← hg]
   cases g with
   | false =>
     have HE := Lib.hid (show comeD p mark held (n + 1) d ⟨xb, xs, xp⟩ steps = d.at_ steps from by
      rw [HD.out]
      split
      · rfl
      · next h1 =>
        split
        · rfl
        · next h2 =>
          exfalso
          rw [Bool.not_eq_true] at h1
          rw [h1, decide_eq_false h2] at hg
          cases hg)
     clear hg
     go_wp2_with fail
     go_returns
     rw [HE.out]
     exact ⟨rfl, LnTurn.below HBW.out ⟨X, R, H3.out, rfl, fun k hk => .inl hk, (HF1.out.ext HB2.out).ext HB3.out⟩⟩
   | true =>
     have HE := Lib.hid (show comeD p mark held (n + 1) d ⟨xb, xs, xp⟩ steps = (d.at_ steps).use ⟨xb, xs, xp⟩ from by
      have h1 := hg.symm
      rw [Bool.and_eq_true, Bool.not_eq_true', Bool.not_eq_true'] at h1
      rw [HD.out, h1.1, if_neg (by simp), if_neg (of_decide_eq_false h1.2)])
     clear hg
     have x0 : w3.cell? ⟨w.heap.size, 0, none⟩ = some (.int .i64 xb) := (HX3.out.cell 0).trans rfl
     have x1 : w3.cell? ⟨w.heap.size, 1, none⟩ = some (.int .i64 xs) := (HX3.out.cell 1).trans rfl
     have x2 : w3.cell? ⟨w.heap.size, 2, none⟩ = some (.int .i64 xp) := (HX3.out.cell 2).trans rfl
     have xl := HX3.out.lt
     have l8 : w3.cell? ⟨X.lb, 8, none⟩ = some (.slice X.A3 d.used.length X.c3) := (H3.out.bk.cell 8).trans rfl
     have zl := H3.out.bk.lt
     have HE4 := Lib.hid (show Below w3.heap.size w3 (w3.drew.alloc (.cells #[.int .i64 xb, .int .i64 xs, .int .i64 xp] 35 (0, 0))) from ext_alloc (Below.refl _ _).drew _)
     have HN4 := Lib.hid (show Bk (w3.drew.alloc (.cells #[.int .i64 xb, .int .i64 xs, .int .i64 xp] 35 (0, 0))) w3.heap.size 35 #[.int .i64 xb, .int .i64 xs, .int .i64 xp] from Bk.new w3.drew _ _)
     have H4 := Lib.hid (H3.out.ext HE4.out)
     go_upto_region 4 with fail
     refine wp_region_held_drew (S := (fun w' => w'.cell? ⟨w.heap.size, 0, none⟩ = some (.int .i64 xb) ∧ w'.cell? ⟨w.heap.size, 1, none⟩ = some (.int .i64 xs) ∧ w'.cell? ⟨w.heap.size, 2, none⟩ = some (.int .i64 xp))) (by kernel_rfl) ?_ (fun hHeld => ?_)
     · (first | exact ⟨(HX5.out.cell 0).trans rfl, (HX5.out.cell 1).trans rfl, (HX5.out.cell 2).trans rfl⟩ | exact ⟨((HX5.out.far (p := ⟨X.lb, 8, none⟩) HFa.out _).cell 0).trans rfl, ((HX5.out.far (p := ⟨X.lb, 8, none⟩) HFa.out _).cell 1).trans rfl, ((HX5.out.far (p := ⟨X.lb, 8, none⟩) HFa.out _).cell 2).trans rfl⟩ | exact ⟨x0, x1, x2⟩ | exact ⟨((HX3.out.ext HE4.out).cell 0).trans rfl, ((HX3.out.ext HE4.out).cell 1).trans rfl, ((HX3.out.ext HE4.out).cell 2).trans rfl⟩ | go_keep)
     refine wpAnyH_take (i := 0) (oi := ⟨some 44, .move (.tmp 0), 179, "line.go:46", #[], none⟩) (v := ?v4z0) rfl (by kernel_rfl) (by kernel_rfl) (by kernel_rfl) (fun _ _ _ h => h) (Or.inl ⟨by rfl, ?hy4z0⟩) (by assumption) ?rest4z0
     case hy4z0 => (intro w hSw; (try dsimp only at hSw); go_simp; try (with_reducible rfl))
     simp only [Act.put, List.setIfInBounds_toArray, List.set_cons_zero, List.set_cons_succ]
     refine wpAnyH_take (i := 1) (oi := ⟨some 45, .move (.tmp 0), 179, "line.go:46", #[], none⟩) (v := ?v4z1) rfl (by kernel_rfl) (by kernel_rfl) (by kernel_rfl) (fun _ _ _ h => h) (Or.inl ⟨by rfl, ?hy4z1⟩) (by assumption) ?rest4z1
     case hy4z1 => (intro w hSw; (try dsimp only at hSw); go_simp; try (with_reducible rfl))
     simp only [Act.put, List.setIfInBounds_toArray, List.set_cons_zero, List.set_cons_succ]
     refine wpAnyH_take (i := 2) (oi := ⟨some 46, .nilCheck (.tmp 45), 0, "line.go:46", #[⟨1, .data⟩], none⟩) (v := ?v4z2) rfl (by kernel_rfl) (by kernel_rfl) (by kernel_rfl) (fun _ _ _ h => h) (Or.inl ⟨by rfl, ?hy4z2⟩) (by assumption) ?rest4z2
     case hy4z2 => (intro w hSw; (try dsimp only at hSw); go_simp; try (with_reducible rfl))
     simp only [Act.put, List.setIfInBounds_toArray, List.set_cons_zero, List.set_cons_succ]
     refine wpAnyH_take (i := 3) (oi := ⟨some 47, .fieldAddr 181 (.tmp 46) 5, 0, "line.go:46", #[⟨2, .data⟩], none⟩) (v := ?v4z3) rfl (by kernel_rfl) (by kernel_rfl) (by kernel_rfl) (fun _ _ _ h => h) (Or.inl ⟨by rfl, ?hy4z3⟩) (by assumption) ?rest4z3
     case hy4z3 => (intro w hSw; (try dsimp only at hSw); go_simp; try (with_reducible rfl))
     simp only [Act.put, List.setIfInBounds_toArray, List.set_cons_zero, List.set_cons_succ]
     refine wpAnyH_take (i := 4) (oi := ⟨some 48, .fieldAddr 120 (.tmp 47) 2, 0, "line.go:46", #[⟨3, .data⟩], none⟩) (v := ?v4z4) rfl (by kernel_rfl) (by kernel_rfl) (by kernel_rfl) (fun _ _ _ h => h) (Or.inl ⟨by rfl, ?hy4z4⟩) (by assumption) ?rest4z4
     case hy4z4 => (intro w hSw; (try dsimp only at hSw); go_simp; try (with_reducible rfl))
     simp only [Act.put, List.setIfInBounds_toArray, List.set_cons_zero, List.set_cons_succ]
     refine wpAnyH_take (i := 6) (oi := ⟨some 50, .load 35 (.tmp 4), 35, "line.go:46", #[], none⟩) (v := ?v4z6) rfl (by kernel_rfl) (by kernel_rfl) (by kernel_rfl) (fun _ _ _ h => h) (Or.inl ⟨by rfl, ?hy4z6⟩) (by assumption) ?rest4z6
     case hy4z6 => (intro w hSw; (try dsimp only at hSw); go_simp; try (with_reducible rfl))
     simp only [Act.put, List.setIfInBounds_toArray, List.set_cons_zero, List.set_cons_succ]
     refine wpAnyH_ready (rs := [5, 7]) (by kernel_rfl) (by simp) ?_
     refine AllReadyH.cons (o := ⟨some 49, .load 33 (.tmp 48), 33, "line.go:46", #[⟨4, .data⟩], none⟩) rfl (fun K hK => ?_) ?_
     ·
       go_simp
       refine hK.out _ _ ?_ (fun hHeld => ?_)
       · (first | exact ⟨(HX5.out.cell 0).trans rfl, (HX5.out.cell 1).trans rfl, (HX5.out.cell 2).trans rfl⟩ | exact ⟨((HX5.out.far (p := ⟨X.lb, 8, none⟩) HFa.out _).cell 0).trans rfl, ((HX5.out.far (p := ⟨X.lb, 8, none⟩) HFa.out _).cell 1).trans rfl, ((HX5.out.far (p := ⟨X.lb, 8, none⟩) HFa.out _).cell 2).trans rfl⟩ | exact ⟨x0, x1, x2⟩ | exact ⟨((HX3.out.ext HE4.out).cell 0).trans rfl, ((HX3.out.ext HE4.out).cell 1).trans rfl, ((HX3.out.ext HE4.out).cell 2).trans rfl⟩ | go_keep)
       clear hK K
       try simp only [Act.put, List.setIfInBounds_toArray, List.set_cons_zero, List.set_cons_succ]
       refine wpAnyH_ready (rs := [7]) (by kernel_rfl) (by simp) ?_
       refine AllReadyH.cons (o := ⟨some 51, .buildSlice 33 1 #[(0, .tmp 50)], 33, "line.go:46", #[⟨6, .data⟩], none⟩) rfl (fun K hK => ?_) ?_
       ·
         go_simp
         refine hK.out _ _ ?_ (fun hHeld => ?_)
         · (first | exact ⟨(HX5.out.cell 0).trans rfl, (HX5.out.cell 1).trans rfl, (HX5.out.cell 2).trans rfl⟩ | exact ⟨((HX5.out.far (p := ⟨X.lb, 8, none⟩) HFa.out _).cell 0).trans rfl, ((HX5.out.far (p := ⟨X.lb, 8, none⟩) HFa.out _).cell 1).trans rfl, ((HX5.out.far (p := ⟨X.lb, 8, none⟩) HFa.out _).cell 2).trans rfl⟩ | exact ⟨x0, x1, x2⟩ | exact ⟨((HX3.out.ext HE4.out).cell 0).trans rfl, ((HX3.out.ext HE4.out).cell 1).trans rfl, ((HX3.out.ext HE4.out).cell 2).trans rfl⟩ | go_keep)
         clear hK K
         try simp only [Act.put, List.setIfInBounds_toArray, List.set_cons_zero, List.set_cons_succ]
         refine wpAnyH_ready (rs := [8]) (by kernel_rfl) (by simp) ?_
         refine AllReadyH.cons (o := ⟨some 52, .call { callee := .builtin .append, args := #[.tmp 49, .tmp 51], argTypes := #[33, 33] }, 33, "line.go:46", #[⟨5, .data⟩, ⟨7, .data⟩], none⟩) rfl (fun K hK => ?_) ?_
         ·
           refine step_appG id_app _ rfl (.tmp 49) (.tmp 51) rfl B (.slice X.A3 d.used.length X.c3) d.used (by rfl) H4.out.s3 (⟨xb, xs, xp⟩ : Id3) w3.heap.size (by rfl) HN4.out (by omega) (by have h5 := H4.out.hB; exact h5) ?_
           intro A5 c5 w5 hown5 hg5 hc5 hn5
           have HO5 := Lib.hid hown5
           have HG5 := Lib.hid hg5
           have HN5 := Lib.hid hn5
           have HX5 := Lib.hid ((HX3.out.ext HE4.out).grown hg5 (fun e => by
            have h6 := own_ext H3.out.s3 HE4.out
            rcases H3.out.s3.2 with ⟨hv, _⟩ | ⟨g, c', cur, hv, _, hgg, _⟩
            · have hv' : X.v3 (d.at_ steps) = .slice X.A3 d.used.length X.c3 := rfl
              rw [← hv', hv] at e; cases e
            · have hv' : X.v3 (d.at_ steps) = .slice X.A3 d.used.length X.c3 := rfl
              have h7 := (H3.out.r3 g (by rw [hv]; rfl)).1
              have h8 := HNb.out g h7
              rw [← hv', hv] at e
              injection e with e
              have e' : w.heap.size = g := e
              omega))
           have HK5 := Lib.hid (H4.out.bk.grown hg5 (fun e => own_ne_bk H4.out.s3 H4.out.bk (by decide) e.symm))
           have r1 := HK5.out.frozen 8
           have r2 : w5.cell? ⟨X.lb, 8, none⟩ = some (.slice X.A3 d.used.length X.c3) := (HK5.out.cell 8).trans rfl
           have r3 := HK5.out.lt
           clear hown5 hg5 hn5
           refine hK.out _ _ ?_ (fun hHeld => ?_)
           · (first | exact ⟨(HX5.out.cell 0).trans rfl, (HX5.out.cell 1).trans rfl, (HX5.out.cell 2).trans rfl⟩ | exact ⟨((HX5.out.far (p := ⟨X.lb, 8, none⟩) HFa.out _).cell 0).trans rfl, ((HX5.out.far (p := ⟨X.lb, 8, none⟩) HFa.out _).cell 1).trans rfl, ((HX5.out.far (p := ⟨X.lb, 8, none⟩) HFa.out _).cell 2).trans rfl⟩ | exact ⟨x0, x1, x2⟩ | exact ⟨((HX3.out.ext HE4.out).cell 0).trans rfl, ((HX3.out.ext HE4.out).cell 1).trans rfl, ((HX3.out.ext HE4.out).cell 2).trans rfl⟩ | go_keep)
           clear hK K
           try simp only [Act.put, List.setIfInBounds_toArray, List.set_cons_zero, List.set_cons_succ]
           refine wpAnyH_take (i := 9) (oi := ⟨some 53, .nilCheck (.tmp 44), 0, "line.go:46", #[⟨0, .data⟩, ⟨0, .phase⟩, ⟨1, .phase⟩, ⟨2, .phase⟩, ⟨3, .phase⟩, ⟨4, .phase⟩, ⟨5, .phase⟩, ⟨6, .phase⟩, ⟨7, .phase⟩, ⟨8, .phase⟩], none⟩) (v := ?v4z9) rfl (by kernel_rfl) (by kernel_rfl) (by kernel_rfl) (fun _ _ _ h => h) (Or.inl ⟨by rfl, ?hy4z9⟩) (by assumption) ?rest4z9
           case hy4z9 => (intro w hSw; (try dsimp only at hSw); go_simp; try (with_reducible rfl))
           simp only [Act.put, List.setIfInBounds_toArray, List.set_cons_zero, List.set_cons_succ]
           refine wpAnyH_take (i := 10) (oi := ⟨some 54, .fieldAddr 181 (.tmp 53) 5, 0, "line.go:46", #[⟨9, .data⟩, ⟨0, .phase⟩, ⟨1, .phase⟩, ⟨2, .phase⟩, ⟨3, .phase⟩, ⟨4, .phase⟩, ⟨5, .phase⟩, ⟨6, .phase⟩, ⟨7, .phase⟩, ⟨8, .phase⟩], none⟩) (v := ?v4z10) rfl (by kernel_rfl) (by kernel_rfl) (by kernel_rfl) (fun _ _ _ h => h) (Or.inl ⟨by rfl, ?hy4z10⟩) (by assumption) ?rest4z10
           case hy4z10 => (intro w hSw; (try dsimp only at hSw); go_simp; try (with_reducible rfl))
           simp only [Act.put, List.setIfInBounds_toArray, List.set_cons_zero, List.set_cons_succ]
           refine wpAnyH_take (i := 11) (oi := ⟨some 55, .fieldAddr 120 (.tmp 54) 2, 0, "line.go:46", #[⟨10, .data⟩, ⟨0, .phase⟩, ⟨1, .phase⟩, ⟨2, .phase⟩, ⟨3, .phase⟩, ⟨4, .phase⟩, ⟨5, .phase⟩, ⟨6, .phase⟩, ⟨7, .phase⟩, ⟨8, .phase⟩], none⟩) (v := ?v4z11) rfl (by kernel_rfl) (by kernel_rfl) (by kernel_rfl) (fun _ _ _ h => h) (Or.inl ⟨by rfl, ?hy4z11⟩) (by assumption) ?rest4z11
           case hy4z11 => (intro w hSw; (try dsimp only at hSw); go_simp; try (with_reducible rfl))
           simp only [Act.put, List.setIfInBounds_toArray, List.set_cons_zero, List.set_cons_succ]
           refine wpAnyH_ready (rs := [12]) (by kernel_rfl) (by simp) ?_
           refine AllReadyH.cons (o := ⟨none, .store 33 (.tmp 55) (.tmp 52), 0, "line.go:46", #[⟨11, .data⟩, ⟨8, .data⟩, ⟨8, .chain⟩, ⟨0, .phase⟩, ⟨1, .phase⟩, ⟨2, .phase⟩, ⟨3, .phase⟩, ⟨4, .phase⟩, ⟨5, .phase⟩, ⟨6, .phase⟩, ⟨7, .phase⟩, ⟨8, .phase⟩], none⟩) rfl (fun K hK => ?_) ?_
           ·
             go_simp
             refine hK.out _ _ ?_ (fun hHeld => ?_)
             · (first | exact ⟨(HX5.out.cell 0).trans rfl, (HX5.out.cell 1).trans rfl, (HX5.out.cell 2).trans rfl⟩ | exact ⟨((HX5.out.far (p := ⟨X.lb, 8, none⟩) HFa.out _).cell 0).trans rfl, ((HX5.out.far (p := ⟨X.lb, 8, none⟩) HFa.out _).cell 1).trans rfl, ((HX5.out.far (p := ⟨X.lb, 8, none⟩) HFa.out _).cell 2).trans rfl⟩ | exact ⟨x0, x1, x2⟩ | exact ⟨((HX3.out.ext HE4.out).cell 0).trans rfl, ((HX3.out.ext HE4.out).cell 1).trans rfl, ((HX3.out.ext HE4.out).cell 2).trans rfl⟩ | go_keep)
             clear hK K
             try simp only [Act.put]
             refine wpAnyH_done (by kernel_rfl) ?_ _
             go_wp2_with fail
             go_returns
             rw [HE.out]
             refine ⟨rfl, LnTurn.below HBW.out (LnTurn.trans (R1 := R) (fun k hk => .inl hk) ((HF1.out.ext HB2.out).ext HB3.out) ?_)⟩
             rw [show d.used.length + 1 = ((d.at_ steps).used ++ [(⟨xb, xs, xp⟩ : Id3)]).length from by rw [List.length_append]; rfl]
             exact LnAt.use_ H3.out HE4.out HO5.out HG5.out HN5.out
           exact AllReadyH.nil
         exact AllReadyH.nil
       exact AllReadyH.nil
     refine AllReadyH.cons (o := ⟨some 51, .buildSlice 33 1 #[(0, .tmp 50)], 33, "line.go:46", #[⟨6, .data⟩], none⟩) rfl (fun K hK => ?_) ?_
     ·
       go_simp
       refine hK.out _ _ ?_ (fun hHeld => ?_)
       · (first | exact ⟨(HX5.out.cell 0).trans rfl, (HX5.out.cell 1).trans rfl, (HX5.out.cell 2).trans rfl⟩ | exact ⟨((HX5.out.far (p := ⟨X.lb, 8, none⟩) HFa.out _).cell 0).trans rfl, ((HX5.out.far (p := ⟨X.lb, 8, none⟩) HFa.out _).cell 1).trans rfl, ((HX5.out.far (p := ⟨X.lb, 8, none⟩) HFa.out _).cell 2).trans rfl⟩ | exact ⟨x0, x1, x2⟩ | exact ⟨((HX3.out.ext HE4.out).cell 0).trans rfl, ((HX3.out.ext HE4.out).cell 1).trans rfl, ((HX3.out.ext HE4.out).cell 2).trans rfl⟩ | go_keep)
       clear hK K
       try simp only [Act.put, List.setIfInBounds_toArray, List.set_cons_zero, List.set_cons_succ]
       refine wpAnyH_ready (rs := [5]) (by kernel_rfl) (by simp) ?_
       refine AllReadyH.cons (o := ⟨some 49, .load 33 (.tmp 48), 33, "line.go:46", #[⟨4, .data⟩], none⟩) rfl (fun K hK => ?_) ?_
       ·
         go_simp
         refine hK.out _ _ ?_ (fun hHeld => ?_)
         · (first | exact ⟨(HX5.out.cell 0).trans rfl, (HX5.out.cell 1).trans rfl, (HX5.out.cell 2).trans rfl⟩ | exact ⟨((HX5.out.far (p := ⟨X.lb, 8, none⟩) HFa.out _).cell 0).trans rfl, ((HX5.out.far (p := ⟨X.lb, 8, none⟩) HFa.out _).cell 1).trans rfl, ((HX5.out.far (p := ⟨X.lb, 8, none⟩) HFa.out _).cell 2).trans rfl⟩ | exact ⟨x0, x1, x2⟩ | exact ⟨((HX3.out.ext HE4.out).cell 0).trans rfl, ((HX3.out.ext HE4.out).cell 1).trans rfl, ((HX3.out.ext HE4.out).cell 2).trans rfl⟩ | go_keep)
         clear hK K
         try simp only [Act.put, List.setIfInBounds_toArray, List.set_cons_zero, List.set_cons_succ]
         refine wpAnyH_ready (rs := [8]) (by kernel_rfl) (by simp) ?_
         refine AllReadyH.cons (o := ⟨some 52, .call { callee := .builtin .append, args := #[.tmp 49, .tmp 51], argTypes := #[33, 33] }, 33, "line.go:46", #[⟨5, .data⟩, ⟨7, .data⟩], none⟩) rfl (fun K hK => ?_) ?_
         ·
           refine step_appG id_app _ rfl (.tmp 49) (.tmp 51) rfl B (.slice X.A3 d.used.length X.c3) d.used (by rfl) H4.out.s3 (⟨xb, xs, xp⟩ : Id3) w3.heap.size (by rfl) HN4.out (by omega) (by have h5 := H4.out.hB; exact h5) ?_
           intro A5 c5 w5 hown5 hg5 hc5 hn5
           have HO5 := Lib.hid hown5
           have HG5 := Lib.hid hg5
           have HN5 := Lib.hid hn5
           have HX5 := Lib.hid ((HX3.out.ext HE4.out).grown hg5 (fun e => by
            have h6 := own_ext H3.out.s3 HE4.out
            rcases H3.out.s3.2 with ⟨hv, _⟩ | ⟨g, c', cur, hv, _, hgg, _⟩
            · have hv' : X.v3 (d.at_ steps) = .slice X.A3 d.used.length X.c3 := rfl
              rw [← hv', hv] at e; cases e
            · have hv' : X.v3 (d.at_ steps) = .slice X.A3 d.used.length X.c3 := rfl
              have h7 := (H3.out.r3 g (by rw [hv]; rfl)).1
              have h8 := HNb.out g h7
              rw [← hv', hv] at e
              injection e with e
              have e' : w.heap.size = g := e
              omega))
           have HK5 := Lib.hid (H4.out.bk.grown hg5 (fun e => own_ne_bk H4.out.s3 H4.out.bk (by decide) e.symm))
           have r1 := HK5.out.frozen 8
           have r2 : w5.cell? ⟨X.lb, 8, none⟩ = some (.slice X.A3 d.used.length X.c3) := (HK5.out.cell 8).trans rfl
           have r3 := HK5.out.lt
           clear hown5 hg5 hn5
           refine hK.out _ _ ?_ (fun hHeld => ?_)
           · (first | exact ⟨(HX5.out.cell 0).trans rfl, (HX5.out.cell 1).trans rfl, (HX5.out.cell 2).trans rfl⟩ | exact ⟨((HX5.out.far (p := ⟨X.lb, 8, none⟩) HFa.out _).cell 0).trans rfl, ((HX5.out.far (p := ⟨X.lb, 8, none⟩) HFa.out _).cell 1).trans rfl, ((HX5.out.far (p := ⟨X.lb, 8, none⟩) HFa.out _).cell 2).trans rfl⟩ | exact ⟨x0, x1, x2⟩ | exact ⟨((HX3.out.ext HE4.out).cell 0).trans rfl, ((HX3.out.ext HE4.out).cell 1).trans rfl, ((HX3.out.ext HE4.out).cell 2).trans rfl⟩ | go_keep)
           clear hK K
           try simp only [Act.put, List.setIfInBounds_toArray, List.set_cons_zero, List.set_cons_succ]
           refine wpAnyH_take (i := 9) (oi := ⟨some 53, .nilCheck (.tmp 44), 0, "line.go:46", #[⟨0, .data⟩, ⟨0, .phase⟩, ⟨1, .phase⟩, ⟨2, .phase⟩, ⟨3, .phase⟩, ⟨4, .phase⟩, ⟨5, .phase⟩, ⟨6, .phase⟩, ⟨7, .phase⟩, ⟨8, .phase⟩], none⟩) (v := ?v4z9x1) rfl (by kernel_rfl) (by kernel_rfl) (by kernel_rfl) (fun _ _ _ h => h) (Or.inl ⟨by rfl, ?hy4z9x1⟩) (by assumption) ?rest4z9x1
           case hy4z9x1 => (intro w hSw; (try dsimp only at hSw); go_simp; try (with_reducible rfl))
           simp only [Act.put, List.setIfInBounds_toArray, List.set_cons_zero, List.set_cons_succ]
           refine wpAnyH_take (i := 10) (oi := ⟨some 54, .fieldAddr 181 (.tmp 53) 5, 0, "line.go:46", #[⟨9, .data⟩, ⟨0, .phase⟩, ⟨1, .phase⟩, ⟨2, .phase⟩, ⟨3, .phase⟩, ⟨4, .phase⟩, ⟨5, .phase⟩, ⟨6, .phase⟩, ⟨7, .phase⟩, ⟨8, .phase⟩], none⟩) (v := ?v4z10x1) rfl (by kernel_rfl) (by kernel_rfl) (by kernel_rfl) (fun _ _ _ h => h) (Or.inl ⟨by rfl, ?hy4z10x1⟩) (by assumption) ?rest4z10x1
           case hy4z10x1 => (intro w hSw; (try dsimp only at hSw); go_simp; try (with_reducible rfl))
           simp only [Act.put, List.setIfInBounds_toArray, List.set_cons_zero, List.set_cons_succ]
           refine wpAnyH_take (i := 11) (oi := ⟨some 55, .fieldAddr 120 (.tmp 54) 2, 0, "line.go:46", #[⟨10, .data⟩, ⟨0, .phase⟩, ⟨1, .phase⟩, ⟨2, .phase⟩, ⟨3, .phase⟩, ⟨4, .phase⟩, ⟨5, .phase⟩, ⟨6, .phase⟩, ⟨7, .phase⟩, ⟨8, .phase⟩], none⟩) (v := ?v4z11x1) rfl (by kernel_rfl) (by kernel_rfl) (by kernel_rfl) (fun _ _ _ h => h) (Or.inl ⟨by rfl, ?hy4z11x1⟩) (by assumption) ?rest4z11x1
           case hy4z11x1 => (intro w hSw; (try dsimp only at hSw); go_simp; try (with_reducible rfl))
           simp only [Act.put, List.setIfInBounds_toArray, List.set_cons_zero, List.set_cons_succ]
           refine wpAnyH_ready (rs := [12]) (by kernel_rfl) (by simp) ?_
           refine AllReadyH.cons (o := ⟨none, .store 33 (.tmp 55) (.tmp 52), 0, "line.go:46", #[⟨11, .data⟩, ⟨8, .data⟩, ⟨8, .chain⟩, ⟨0, .phase⟩, ⟨1, .phase⟩, ⟨2, .phase⟩, ⟨3, .phase⟩, ⟨4, .phase⟩, ⟨5, .phase⟩, ⟨6, .phase⟩, ⟨7, .phase⟩, ⟨8, .phase⟩], none⟩) rfl (fun K hK => ?_) ?_
           ·
             go_simp
             refine hK.out _ _ ?_ (fun hHeld => ?_)
             · (first | exact ⟨(HX5.out.cell 0).trans rfl, (HX5.out.cell 1).trans rfl, (HX5.out.cell 2).trans rfl⟩ | exact ⟨((HX5.out.far (p := ⟨X.lb, 8, none⟩) HFa.out _).cell 0).trans rfl, ((HX5.out.far (p := ⟨X.lb, 8, none⟩) HFa.out _).cell 1).trans rfl, ((HX5.out.far (p := ⟨X.lb, 8, none⟩) HFa.out _).cell 2).trans rfl⟩ | exact ⟨x0, x1, x2⟩ | exact ⟨((HX3.out.ext HE4.out).cell 0).trans rfl, ((HX3.out.ext HE4.out).cell 1).trans rfl, ((HX3.out.ext HE4.out).cell 2).trans rfl⟩ | go_keep)
             clear hK K
             try simp only [Act.put]
             refine wpAnyH_done (by kernel_rfl) ?_ _
             go_wp2_with fail
             go_returns
             rw [HE.out]
             refine ⟨rfl, LnTurn.below HBW.out (LnTurn.trans (R1 := R) (fun k hk => .inl hk) ((HF1.out.ext HB2.out).ext HB3.out) ?_)⟩
             rw [show d.used.length + 1 = ((d.at_ steps).used ++ [(⟨xb, xs, xp⟩ : Id3)]).length from by rw [List.length_append]; rfl]
             exact LnAt.use_ H3.out HE4.out HO5.out HG5.out HN5.out
           exact AllReadyH.nil
         exact AllReadyH.nil
       exact AllReadyH.nil
     exact AllReadyH.nil
end
end Go.Proofs.YtapjhliglmohgaaGreatDoor
