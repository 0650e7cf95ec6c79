/- WayC, WayD, WayE, Fr, Ways, WayO, WayN: laid together. -/
import Derived.Test.YtapjhliglmohgaaGreatDoorPwD
import Derived.Handy
/- The way down, in the program: come. -/
namespace Go.Proofs.YtapjhliglmohgaaGreatDoor
open Go.RowKit Go.Sort
theorem WKeep.set_ {base kb : Nat} {w w' : World} (h : WKeep base kb w w') (i : Nat) (u : Value) : WKeep base kb w (w'.setCell ⟨kb, i, none⟩ u) :=
 ⟨h.os, h.tape, h.output, by simpa using h.size, fun k o ho hn hc => (Below.heap_setCell w' ⟨kb, i, none⟩ u k hn).trans (h.block k o ho hn hc)⟩
theorem contains_pt (B : Nat) (out : List Pt) (A : Option Addr) (c s q : Nat) (w : World) (h : Rd w B 35 3 A out.length (ptsC out)) (hl : out.length ≤ 1000000) :
 Calls Tryz.prog 64 #[.slice A out.length c, .agg #[.int .i64 0, .int .i64 (s : Nat), .int .i64 (q : Nat)]] w (BoolPost w (decide ((s, q) ∈ out))) := by
 have h1 := contains_c B (out.map pid) A c (pid (s, q)) w (by rw [List.length_map]; exact h) (by rw [List.length_map]; exact hl)
 rw [List.length_map] at h1
 have hm : pid (s, q) ∈ out.map pid ↔ (s, q) ∈ out := ⟨fun h => by obtain ⟨y, hy, e⟩ := List.mem_map.1 h; rw [← pid_inj e]; exact hy, fun h => List.mem_map_of_mem h⟩
 rw [decide_eq_decide.2 hm] at h1
 exact h1
def PDown (f : Nat) : Prop := ∀ (B base kb wb : Nat) (p : PlanD) (A K : Option Addr) (c kc s q : Nat) (m : Value) (out : List Pt) (v : Value) (w : World), Shaped p → WPre B base kb wb p A K c kc m w v out → s < f → s < p.ops.length → q < p.parts.toNat →
 Calls Tryz.prog 175 #[.pointer (some ⟨kb, 0, none⟩), .int .i64 (s : Nat), .int .i64 (q : Nat)] w (WPost base kb wb w (down p.ops p.parts.toNat f s q out))
def PCome (f : Nat) : Prop := ∀ (B base kb wb : Nat) (p : PlanD) (A K : Option Addr) (c kc s q : Nat) (m : Value) (out : List Pt) (v : Value) (w : World), Shaped p → WPre B base kb wb p A K c kc m w v out → s < f → s < p.ops.length → q < p.parts.toNat →
 Calls Tryz.prog 210 #[.pointer (some ⟨kb, 0, none⟩), .int .i64 (s : Nat), .int .i64 (q : Nat)] w (WPost base kb wb w (comeL p.ops p.parts.toNat f s q out))
set_option maxRecDepth 100000 in
set_option maxHeartbeats 4000000 in
theorem pcome_c (f : Nat) (hd : PDown f) : PCome f := by
 intro B base kb wb p A K c kc s q m out v w hp hpre hsf hsn hq
 obtain ⟨kad, rfl, k0⟩ := kept_cell hpre.kept hsn hsn
 have hkl := World.block_lt_of_cell? w _ k0
 have y0 : w.cell? ⟨kb, 0, none⟩ = some (.pointer (some ⟨wb, 0, none⟩)) := (hpre.walk.cell 0).trans rfl
 have y1 : w.cell? ⟨kb, 1, none⟩ = some v := (hpre.walk.cell 1).trans rfl
 have z0 : w.cell? ⟨wb, 0, none⟩ = some (.slice (some kad) p.ops.length kc) := (hpre.ways.cell 0).trans rfl
 have hkbl := hpre.walk.lt
 have hwbl := hpre.ways.lt
 have HP := Lib.hid hp
 have HPre := Lib.hid hpre
 cases hk : keptAt p.ops s with
 | false =>
   rw [hk] at k0
   have HC := Lib.hid (show comeL p.ops p.parts.toNat f s q out = down p.ops p.parts.toNat f s q out from (by unfold comeL; rw [if_neg (by rw [hk]; simp)]))
   have HD := Lib.hid hd
   clear hp hpre hk hd
   go_enter Tryz.func210, Tryz.ntmps210
   go_wp2_with (first | (go_at_call 175; refine (HD.out B base kb wb p A (some kad) c kc s q m out v _ HP.out HPre.out hsf hsn hq).mono ?_; rintro e w1 ⟨A5, c5, rfl, hown, hw, hkp⟩))
   go_returns
   rw [HC.out]
   exact ⟨A5, c5, rfl, hown, hw, hkp⟩
 | true =>
   rw [hk] at k0
   obtain ⟨A4, c4, rfl, hc4⟩ := own_shape hpre.own
   have HC := Lib.hid (show comeL p.ops p.parts.toNat f s q out = (if (s, q) ∈ out then out else out ++ [(s, q)]) from (by unfold comeL; rw [if_pos hk]))
   have hlen := hpre.good.len
   have hmem : pid (s, q) ∈ out.map pid ↔ (s, q) ∈ out := ⟨fun h => by obtain ⟨y, hy, e⟩ := List.mem_map.1 h; rw [← pid_inj e]; exact hy, fun h => List.mem_map_of_mem h⟩
   have HM := Lib.hid hmem
   clear hp hpre hk hd hmem
   go_enter Tryz.func210, Tryz.ntmps210
   go_wp2_with fail
   have hne1 : kb ≠ w.heap.size := by omega
   have hne2 : w.heap.size ≠ kb := by omega
   by_cases hin : (s, q) ∈ out
   · have HIN := Lib.hid (show decide ((s, q) ∈ out) = true from decide_eq_true hin)
     have HE := Lib.hid (show comeL p.ops p.parts.toNat f s q out = out from (by rw [HC.out, if_pos hin]))
     clear hin
     go_region_held3 (fun w' => w'.cell? ⟨kb, 1, none⟩ = some (.slice A4 out.length c4) ∧ w'.cell? ⟨w.heap.size, 0, none⟩ = some (.int .i64 0) ∧ w'.cell? ⟨w.heap.size, 1, none⟩ = some (.int .i64 (s : Nat)) ∧ w'.cell? ⟨w.heap.size, 2, none⟩ = some (.int .i64 (q : Nat)))
      (go_keep)
      (first
        | (go_at_call 64; refine (contains_pt B out A4 c4 s q _ (Rd.of_own (own_ext HPre.out.own (by repeat (first | exact Below.refl _ _ | refine ext_alloc ?_ _ | refine Below.drew ?_)))) (by omega)).mono ?_
           rw [HIN.out]
           rintro e w1 ⟨rfl, hb⟩
           have HB1 := Lib.hid (show Below w.heap.size w w1 from ext_trans (by repeat (first | exact Below.refl _ _ | refine ext_alloc ?_ _ | refine Below.drew ?_)) hb)
           have HX1 := Lib.hid (show Bk w1 w.heap.size 35 #[.int .i64 0, .int .i64 (s : Nat), .int .i64 (q : Nat)] from (Bk.new _ _ _).drew.ext hb)
           have q0 : w1.cell? ⟨w.heap.size, 0, none⟩ = some (.int .i64 0) := (HX1.out.cell 0).trans rfl
           have q1 : w1.cell? ⟨w.heap.size, 1, none⟩ = some (.int .i64 (s : Nat)) := (HX1.out.cell 1).trans rfl
           have q2 : w1.cell? ⟨w.heap.size, 2, none⟩ = some (.int .i64 (q : Nat)) := (HX1.out.cell 2).trans rfl
           have q3 : w1.cell? ⟨kb, 1, none⟩ = some (.slice A4 out.length c4) := ((HPre.out.walk.ext HB1.out).cell 1).trans rfl
           have hk1 := (HPre.out.walk.ext HB1.out).lt
           have hx1 := HX1.out.lt
           clear hb))
     all_goals
       go_wp2_with fail
       go_returns
       rw [HE.out]
       have HP1 := HPre.out.ext HB1.out
       exact ⟨A4, c4, rfl, HP1.own, HP1.walk, WKeep.of_below HB1.out⟩
   · have HIN := Lib.hid (show decide ((s, q) ∈ out) = false from decide_eq_false hin)
     have HE := Lib.hid (show comeL p.ops p.parts.toNat f s q out = out ++ [(s, q)] from (by rw [HC.out, if_neg hin]))
     clear hin
     go_region_held3 (fun w' => w'.cell? ⟨kb, 1, none⟩ = some (.slice A4 out.length c4) ∧ w'.cell? ⟨w.heap.size, 0, none⟩ = some (.int .i64 0) ∧ w'.cell? ⟨w.heap.size, 1, none⟩ = some (.int .i64 (s : Nat)) ∧ w'.cell? ⟨w.heap.size, 2, none⟩ = some (.int .i64 (q : Nat)))
      (go_keep)
      (first
        | (go_at_call 64; refine (contains_pt B out A4 c4 s q _ (Rd.of_own (own_ext HPre.out.own (by repeat (first | exact Below.refl _ _ | refine ext_alloc ?_ _ | refine Below.drew ?_)))) (by omega)).mono ?_
           rw [HIN.out]
           rintro e w1 ⟨rfl, hb⟩
           have HB1 := Lib.hid (show Below w.heap.size w w1 from ext_trans (by repeat (first | exact Below.refl _ _ | refine ext_alloc ?_ _ | refine Below.drew ?_)) hb)
           have HX1 := Lib.hid (show Bk w1 w.heap.size 35 #[.int .i64 0, .int .i64 (s : Nat), .int .i64 (q : Nat)] from (Bk.new _ _ _).drew.ext hb)
           have q0 : w1.cell? ⟨w.heap.size, 0, none⟩ = some (.int .i64 0) := (HX1.out.cell 0).trans rfl
           have q1 : w1.cell? ⟨w.heap.size, 1, none⟩ = some (.int .i64 (s : Nat)) := (HX1.out.cell 1).trans rfl
           have q2 : w1.cell? ⟨w.heap.size, 2, none⟩ = some (.int .i64 (q : Nat)) := (HX1.out.cell 2).trans rfl
           have q3 : w1.cell? ⟨kb, 1, none⟩ = some (.slice A4 out.length c4) := ((HPre.out.walk.ext HB1.out).cell 1).trans rfl
           have hk1 := (HPre.out.walk.ext HB1.out).lt
           have hx1 := HX1.out.lt
           clear hb))
     all_goals
       go_wp2_with fail
       have HO1 := Lib.hid (show w1.ownsRow base 35 3 (.slice A4 out.length c4) out.length (out.flatMap ptC) from (by rw [← ptsC_eq]; exact own_ext HPre.out.own HB1.out))
       refine wp_region_held_drew (S := (fun w' => w'.cell? ⟨w.heap.size, 0, none⟩ = some (.int .i64 0) ∧ w'.cell? ⟨w.heap.size, 1, none⟩ = some (.int .i64 (s : Nat)) ∧ w'.cell? ⟨w.heap.size, 2, none⟩ = some (.int .i64 (q : Nat)))) (by kernel_rfl) ?_ (fun hHeld => ?_)
       · go_keep
       refine wpAnyH_take (i := 0) (oi := ⟨some 32, .move (.tmp 0), 236, "way.go:56", #[], none⟩) (v := ?v1z0) rfl (by kernel_rfl) (by kernel_rfl) (by kernel_rfl) (fun _ _ _ h => h) (Or.inl ⟨by rfl, ?hy1z0⟩) (by assumption) ?rest1z0
       case hy1z0 => (intro w hSw; (try dsimp only at hSw); go_simp; try (with_reducible rfl))
       simp only [Act.put, List.setIfInBounds_toArray, List.set_cons_zero, List.set_cons_succ]
       refine wpAnyH_take (i := 1) (oi := ⟨some 33, .move (.tmp 0), 236, "way.go:56", #[], none⟩) (v := ?v1z1) rfl (by kernel_rfl) (by kernel_rfl) (by kernel_rfl) (fun _ _ _ h => h) (Or.inl ⟨by rfl, ?hy1z1⟩) (by assumption) ?rest1z1
       case hy1z1 => (intro w hSw; (try dsimp only at hSw); go_simp; try (with_reducible rfl))
       simp only [Act.put, List.setIfInBounds_toArray, List.set_cons_zero, List.set_cons_succ]
       refine wpAnyH_take (i := 2) (oi := ⟨some 34, .nilCheck (.tmp 33), 0, "way.go:56", #[⟨1, .data⟩], none⟩) (v := ?v1z2) rfl (by kernel_rfl) (by kernel_rfl) (by kernel_rfl) (fun _ _ _ h => h) (Or.inl ⟨by rfl, ?hy1z2⟩) (by assumption) ?rest1z2
       case hy1z2 => (intro w hSw; (try dsimp only at hSw); go_simp; try (with_reducible rfl))
       simp only [Act.put, List.setIfInBounds_toArray, List.set_cons_zero, List.set_cons_succ]
       refine wpAnyH_take (i := 3) (oi := ⟨some 35, .fieldAddr 238 (.tmp 34) 1, 0, "way.go:56", #[⟨2, .data⟩], none⟩) (v := ?v1z3) rfl (by kernel_rfl) (by kernel_rfl) (by kernel_rfl) (fun _ _ _ h => h) (Or.inl ⟨by rfl, ?hy1z3⟩) (by assumption) ?rest1z3
       case hy1z3 => (intro w hSw; (try dsimp only at hSw); go_simp; try (with_reducible rfl))
       simp only [Act.put, List.setIfInBounds_toArray, List.set_cons_zero, List.set_cons_succ]
       refine wpAnyH_take (i := 5) (oi := ⟨some 37, .load 35 (.tmp 6), 35, "way.go:56", #[], none⟩) (v := ?v1z5) rfl (by kernel_rfl) (by kernel_rfl) (by kernel_rfl) (fun _ _ _ h => h) (Or.inl ⟨by rfl, ?hy1z5⟩) (by assumption) ?rest1z5
       case hy1z5 => (intro w hSw; (try dsimp only at hSw); go_simp; try (with_reducible rfl))
       simp only [Act.put, List.setIfInBounds_toArray, List.set_cons_zero, List.set_cons_succ]
       refine wpAnyH_ready (rs := [4, 6]) (by kernel_rfl) (by simp) ?_
       refine AllReadyH.cons (o := ⟨some 36, .load 33 (.tmp 35), 33, "way.go:56", #[⟨3, .data⟩], none⟩) rfl (fun K hK => ?_) ?_
       ·
         go_simp
         refine hK.out _ _ ?_ (fun hHeld => ?_)
         · go_keep
         clear hK K
         try simp only [Act.put, List.setIfInBounds_toArray, List.set_cons_zero, List.set_cons_succ]
         refine wpAnyH_ready (rs := [6]) (by kernel_rfl) (by simp) ?_
         refine AllReadyH.cons (o := ⟨some 38, .buildSlice 33 1 #[(0, .tmp 37)], 33, "way.go:56", #[⟨5, .data⟩], none⟩) rfl (fun K hK => ?_) ?_
         ·
           go_simp
           refine hK.out _ _ ?_ (fun hHeld => ?_)
           · go_keep
           clear hK K
           try simp only [Act.put, List.setIfInBounds_toArray, List.set_cons_zero, List.set_cons_succ]
           refine wpAnyH_ready (rs := [7]) (by kernel_rfl) (by simp) ?_
           refine AllReadyH.cons (o := ⟨some 39, .call { callee := .builtin .append, args := #[.tmp 36, .tmp 38], argTypes := #[33, 33] }, 33, "way.go:56", #[⟨4, .data⟩, ⟨6, .data⟩], none⟩) rfl (fun K hK => ?_) ?_
           ·
             refine step_appE pt_app _ rfl (.tmp 36) (.tmp 38) rfl base _ out (by rfl) (own_ext HO1.out (by repeat (first | exact Below.refl _ _ | refine ext_alloc ?_ _ | refine Below.drew ?_))) (s, q) _ (by rfl) (by first | exact Bk.new _ _ _ | exact (Bk.newAt (by simp))) (by omega) (by have h1 := HPre.out.bs; have h2 := HB1.out.size; simp only [World.size_alloc, World.size_drew]; omega) ?_
             intro A2 c2 w2 hown2 hg2 hc2
             have HG := Lib.hid (show WKeep base kb w w2 from (WKeep.of_below (ext_trans HB1.out (by repeat (first | exact Below.refl _ _ | refine ext_alloc ?_ _ | refine Below.drew ?_)))).trans (WKeep.of_grown (own_ext HO1.out (by repeat (first | exact Below.refl _ _ | refine ext_alloc ?_ _ | refine Below.drew ?_))) hg2))
             have HX2 := Lib.hid (show Bk w2 w.heap.size 35 #[.int .i64 0, .int .i64 (s : Nat), .int .i64 (q : Nat)] from ((HX1.out.ext (by repeat (first | exact Below.refl _ _ | refine ext_alloc ?_ _ | refine Below.drew ?_))).grown hg2 (fun e => by have := (HPre.out.own.lt _ e.symm).2; omega)))
             have HW2 := Lib.hid (show Bk w2 kb 238 #[.pointer (some ⟨wb, 0, none⟩), .slice A4 out.length c4] from ((HPre.out.walk.ext (ext_trans HB1.out (by repeat (first | exact Below.refl _ _ | refine ext_alloc ?_ _ | refine Below.drew ?_)))).grown hg2 (fun e => by have := (HPre.out.own.lt _ e.symm).1; have := HPre.out.kb; omega)))
             have r0 : w2.cell? ⟨w.heap.size, 0, none⟩ = some (.int .i64 0) := (HX2.out.cell 0).trans rfl
             have r1 : w2.cell? ⟨w.heap.size, 1, none⟩ = some (.int .i64 (s : Nat)) := (HX2.out.cell 1).trans rfl
             have r2 : w2.cell? ⟨w.heap.size, 2, none⟩ = some (.int .i64 (q : Nat)) := (HX2.out.cell 2).trans rfl
             have r3 : w2.cell? ⟨kb, 1, none⟩ = some (.slice A4 out.length c4) := (HW2.out.cell 1).trans rfl
             have r4 := HW2.out.frozen 1
             have HO2 := Lib.hid hown2
             clear hown2 hg2
             refine hK.out _ _ ?_ (fun hHeld => ?_)
             · go_keep
             clear hK K
             try simp only [Act.put, List.setIfInBounds_toArray, List.set_cons_zero, List.set_cons_succ]
             refine wpAnyH_take (i := 8) (oi := ⟨some 40, .nilCheck (.tmp 32), 0, "way.go:56", #[⟨0, .data⟩, ⟨0, .phase⟩, ⟨1, .phase⟩, ⟨2, .phase⟩, ⟨3, .phase⟩, ⟨4, .phase⟩, ⟨5, .phase⟩, ⟨6, .phase⟩, ⟨7, .phase⟩], none⟩) (v := ?v1z8) rfl (by kernel_rfl) (by kernel_rfl) (by kernel_rfl) (fun _ _ _ h => h) (Or.inl ⟨by rfl, ?hy1z8⟩) (by assumption) ?rest1z8
             case hy1z8 => (intro w hSw; (try dsimp only at hSw); go_simp; try (with_reducible rfl))
             simp only [Act.put, List.setIfInBounds_toArray, List.set_cons_zero, List.set_cons_succ]
             refine wpAnyH_take (i := 9) (oi := ⟨some 41, .fieldAddr 238 (.tmp 40) 1, 0, "way.go:56", #[⟨8, .data⟩, ⟨0, .phase⟩, ⟨1, .phase⟩, ⟨2, .phase⟩, ⟨3, .phase⟩, ⟨4, .phase⟩, ⟨5, .phase⟩, ⟨6, .phase⟩, ⟨7, .phase⟩], none⟩) (v := ?v1z9) rfl (by kernel_rfl) (by kernel_rfl) (by kernel_rfl) (fun _ _ _ h => h) (Or.inl ⟨by rfl, ?hy1z9⟩) (by assumption) ?rest1z9
             case hy1z9 => (intro w hSw; (try dsimp only at hSw); go_simp; try (with_reducible rfl))
             simp only [Act.put, List.setIfInBounds_toArray, List.set_cons_zero, List.set_cons_succ]
             refine wpAnyH_ready (rs := [10]) (by kernel_rfl) (by simp) ?_
             refine AllReadyH.cons (o := ⟨none, .store 33 (.tmp 41) (.tmp 39), 0, "way.go:56", #[⟨9, .data⟩, ⟨7, .data⟩, ⟨7, .chain⟩, ⟨0, .phase⟩, ⟨1, .phase⟩, ⟨2, .phase⟩, ⟨3, .phase⟩, ⟨4, .phase⟩, ⟨5, .phase⟩, ⟨6, .phase⟩, ⟨7, .phase⟩], none⟩) rfl (fun K hK => ?_) ?_
             ·
               go_simp
               refine hK.out _ _ ?_ (fun hHeld => ?_)
               · go_keep
               clear hK K
               try simp only [Act.put]
               refine wpAnyH_done (by kernel_rfl) ?_ _
               go_wp2_with fail
               go_returns
               rw [HE.out, show out.length + 1 = (out ++ [(s, q)]).length from by simp]
               refine ⟨A2, c2, rfl, ?_, HW2.out.set_ 1 _, HG.out.set_ 1 _⟩
               rw [ptsC_eq]
               exact own_far HW2.out HO2.out (by decide) 1 _
             exact AllReadyH.nil
           exact AllReadyH.nil
         exact AllReadyH.nil
       refine AllReadyH.cons (o := ⟨some 38, .buildSlice 33 1 #[(0, .tmp 37)], 33, "way.go:56", #[⟨5, .data⟩], none⟩) rfl (fun K hK => ?_) ?_
       ·
         go_simp
         refine hK.out _ _ ?_ (fun hHeld => ?_)
         · go_keep
         clear hK K
         try simp only [Act.put, List.setIfInBounds_toArray, List.set_cons_zero, List.set_cons_succ]
         refine wpAnyH_ready (rs := [4]) (by kernel_rfl) (by simp) ?_
         refine AllReadyH.cons (o := ⟨some 36, .load 33 (.tmp 35), 33, "way.go:56", #[⟨3, .data⟩], none⟩) rfl (fun K hK => ?_) ?_
         ·
           go_simp
           refine hK.out _ _ ?_ (fun hHeld => ?_)
           · go_keep
           clear hK K
           try simp only [Act.put, List.setIfInBounds_toArray, List.set_cons_zero, List.set_cons_succ]
           refine wpAnyH_ready (rs := [7]) (by kernel_rfl) (by simp) ?_
           refine AllReadyH.cons (o := ⟨some 39, .call { callee := .builtin .append, args := #[.tmp 36, .tmp 38], argTypes := #[33, 33] }, 33, "way.go:56", #[⟨4, .data⟩, ⟨6, .data⟩], none⟩) rfl (fun K hK => ?_) ?_
           ·
             refine step_appE pt_app _ rfl (.tmp 36) (.tmp 38) rfl base _ out (by rfl) (own_ext HO1.out (by repeat (first | exact Below.refl _ _ | refine ext_alloc ?_ _ | refine Below.drew ?_))) (s, q) _ (by rfl) (by first | exact Bk.new _ _ _ | exact (Bk.newAt (by simp))) (by omega) (by have h1 := HPre.out.bs; have h2 := HB1.out.size; simp only [World.size_alloc, World.size_drew]; omega) ?_
             intro A2 c2 w2 hown2 hg2 hc2
             have HG := Lib.hid (show WKeep base kb w w2 from (WKeep.of_below (ext_trans HB1.out (by repeat (first | exact Below.refl _ _ | refine ext_alloc ?_ _ | refine Below.drew ?_)))).trans (WKeep.of_grown (own_ext HO1.out (by repeat (first | exact Below.refl _ _ | refine ext_alloc ?_ _ | refine Below.drew ?_))) hg2))
             have HX2 := Lib.hid (show Bk w2 w.heap.size 35 #[.int .i64 0, .int .i64 (s : Nat), .int .i64 (q : Nat)] from ((HX1.out.ext (by repeat (first | exact Below.refl _ _ | refine ext_alloc ?_ _ | refine Below.drew ?_))).grown hg2 (fun e => by have := (HPre.out.own.lt _ e.symm).2; omega)))
             have HW2 := Lib.hid (show Bk w2 kb 238 #[.pointer (some ⟨wb, 0, none⟩), .slice A4 out.length c4] from ((HPre.out.walk.ext (ext_trans HB1.out (by repeat (first | exact Below.refl _ _ | refine ext_alloc ?_ _ | refine Below.drew ?_)))).grown hg2 (fun e => by have := (HPre.out.own.lt _ e.symm).1; have := HPre.out.kb; omega)))
             have r0 : w2.cell? ⟨w.heap.size, 0, none⟩ = some (.int .i64 0) := (HX2.out.cell 0).trans rfl
             have r1 : w2.cell? ⟨w.heap.size, 1, none⟩ = some (.int .i64 (s : Nat)) := (HX2.out.cell 1).trans rfl
             have r2 : w2.cell? ⟨w.heap.size, 2, none⟩ = some (.int .i64 (q : Nat)) := (HX2.out.cell 2).trans rfl
             have r3 : w2.cell? ⟨kb, 1, none⟩ = some (.slice A4 out.length c4) := (HW2.out.cell 1).trans rfl
             have r4 := HW2.out.frozen 1
             have HO2 := Lib.hid hown2
             clear hown2 hg2
             refine hK.out _ _ ?_ (fun hHeld => ?_)
             · go_keep
             clear hK K
             try simp only [Act.put, List.setIfInBounds_toArray, List.set_cons_zero, List.set_cons_succ]
             refine wpAnyH_take (i := 8) (oi := ⟨some 40, .nilCheck (.tmp 32), 0, "way.go:56", #[⟨0, .data⟩, ⟨0, .phase⟩, ⟨1, .phase⟩, ⟨2, .phase⟩, ⟨3, .phase⟩, ⟨4, .phase⟩, ⟨5, .phase⟩, ⟨6, .phase⟩, ⟨7, .phase⟩], none⟩) (v := ?v1z8x1) rfl (by kernel_rfl) (by kernel_rfl) (by kernel_rfl) (fun _ _ _ h => h) (Or.inl ⟨by rfl, ?hy1z8x1⟩) (by assumption) ?rest1z8x1
             case hy1z8x1 => (intro w hSw; (try dsimp only at hSw); go_simp; try (with_reducible rfl))
             simp only [Act.put, List.setIfInBounds_toArray, List.set_cons_zero, List.set_cons_succ]
             refine wpAnyH_take (i := 9) (oi := ⟨some 41, .fieldAddr 238 (.tmp 40) 1, 0, "way.go:56", #[⟨8, .data⟩, ⟨0, .phase⟩, ⟨1, .phase⟩, ⟨2, .phase⟩, ⟨3, .phase⟩, ⟨4, .phase⟩, ⟨5, .phase⟩, ⟨6, .phase⟩, ⟨7, .phase⟩], none⟩) (v := ?v1z9x1) rfl (by kernel_rfl) (by kernel_rfl) (by kernel_rfl) (fun _ _ _ h => h) (Or.inl ⟨by rfl, ?hy1z9x1⟩) (by assumption) ?rest1z9x1
             case hy1z9x1 => (intro w hSw; (try dsimp only at hSw); go_simp; try (with_reducible rfl))
             simp only [Act.put, List.setIfInBounds_toArray, List.set_cons_zero, List.set_cons_succ]
             refine wpAnyH_ready (rs := [10]) (by kernel_rfl) (by simp) ?_
             refine AllReadyH.cons (o := ⟨none, .store 33 (.tmp 41) (.tmp 39), 0, "way.go:56", #[⟨9, .data⟩, ⟨7, .data⟩, ⟨7, .chain⟩, ⟨0, .phase⟩, ⟨1, .phase⟩, ⟨2, .phase⟩, ⟨3, .phase⟩, ⟨4, .phase⟩, ⟨5, .phase⟩, ⟨6, .phase⟩, ⟨7, .phase⟩], none⟩) rfl (fun K hK => ?_) ?_
             ·
               go_simp
               refine hK.out _ _ ?_ (fun hHeld => ?_)
               · go_keep
               clear hK K
               try simp only [Act.put]
               refine wpAnyH_done (by kernel_rfl) ?_ _
               go_wp2_with fail
               go_returns
               rw [HE.out, show out.length + 1 = (out ++ [(s, q)]).length from by simp]
               refine ⟨A2, c2, rfl, ?_, HW2.out.set_ 1 _, HG.out.set_ 1 _⟩
               rw [ptsC_eq]
               exact own_far HW2.out HO2.out (by decide) 1 _
             exact AllReadyH.nil
           exact AllReadyH.nil
         exact AllReadyH.nil
       exact AllReadyH.nil
end Go.Proofs.YtapjhliglmohgaaGreatDoor
/- The way down, in the program: down. -/
namespace Go.Proofs.YtapjhliglmohgaaGreatDoor
open Go.RowKit Go.Sort
section
variable {ops : List OpD} {parts f : Nat}
/-- Where the way goes on from one input. -/
def stepsOf (parts : Nat) (o : OpD) (q x : Nat) : List Pt := if wide o.k then (List.range parts).map fun n => (x, n) else if narrow o.k then [(x, q)] else []
def goOf (ops : List OpD) (parts f : Nat) (o : OpD) (q x : Nat) (out : List Pt) : List Pt := (stepsOf parts o q x).foldl (fun out y => comeL ops parts f y.1 y.2 out) out
theorem steps_of (o : OpD) (q : Nat) : steps parts o q = (froms o).flatMap (stepsOf parts o q) := by
 unfold steps stepsOf
 split
 · rfl
 · split
   · rw [List.map_eq_flatMap]
   · simp
def goL (ops : List OpD) (parts f : Nat) (o : OpD) (q : Nat) (l : List Nat) (out : List Pt) : List Pt := l.foldl (fun out x => goOf ops parts f o q x out) out
theorem foldl_flat {α β γ : Type} (g : α → List β) (h : γ → β → γ) : ∀ (l : List α) (z : γ), (l.flatMap g).foldl h z = l.foldl (fun z x => (g x).foldl h z) z
 | [], _ => rfl
 | x :: l, z => by rw [List.flatMap_cons, List.foldl_append, List.foldl_cons, foldl_flat g h l]
theorem down_go {s q : Nat} {out : List Pt} {o : OpD} (ho : ops[s]? = some o) : down ops parts (f + 1) s q out = goL ops parts f o q (froms o) out := by
 rw [down_eq ho, steps_of, foldl_flat]
 rfl
theorem goL_snoc {o : OpD} {q i x : Nat} {l : List Nat} {out : List Pt} (h : l[i]? = some x) : goL ops parts f o q (l.take (i + 1)) out = goOf ops parts f o q x (goL ops parts f o q (l.take i) out) := by
 unfold goL
 rw [take_succ_of h, List.foldl_append]
 rfl
theorem goOf_wide {o : OpD} {q x : Nat} {out : List Pt} (h : wide o.k = true) : goOf ops parts f o q x out = goN ops parts f x parts out := by
 unfold goOf stepsOf goN
 rw [if_pos h]
theorem goOf_narrow {o : OpD} {q x : Nat} {out : List Pt} (h : wide o.k = false) (hn : narrow o.k = true) : goOf ops parts f o q x out = comeL ops parts f x q out := by
 unfold goOf stepsOf
 rw [if_neg (by rw [h]; simp), if_pos hn]
 rfl
theorem goOf_none {o : OpD} {q x : Nat} {out : List Pt} (h : wide o.k = false) (hn : narrow o.k = false) : goOf ops parts f o q x out = out := by
 unfold goOf stepsOf
 rw [if_neg (by rw [h]; simp), if_neg (by rw [hn]; simp)]
 rfl
theorem good_of {p : PlanD} {o : OpD} {q x : Nat} {out : List Pt} (hp : Shaped p) (h : Good out) (hx : wide o.k = true ∨ narrow o.k = true → x < f ∧ x < p.ops.length) (hq : q < p.parts.toNat) : Good (goOf p.ops p.parts.toNat f o q x out) := by
 cases hw : wide o.k with
 | true =>
   rw [goOf_wide hw]
   have h1 := hx (.inl hw)
   exact good_goN hp h1.1 h1.2 _ (Nat.le_refl _) h
 | false =>
   cases hn : narrow o.k with
   | true =>
     rw [goOf_narrow hw hn]
     have h1 := hx (.inr hn)
     exact good_come hp h h1.1 h1.2 hq
   | false =>
     rw [goOf_none hw hn]
     exact h
end
def intC (n : Nat) : List Value := [.int .i64 (n : Nat)]
theorem int_app : AppC intC 50 3 1 8 (.int .i64 0) :=
 ⟨Tryz.underlying50, by kernel_rfl, rfl, by decide, fun _ => rfl, fun x u hu => by simp only [intC, List.mem_cons, List.not_mem_nil, or_false] at hu; subst hu; rfl, by decide⟩
theorem intsC_flat (l : List Nat) : l.flatMap intC = intsC l := by
 induction l with
 | nil => rfl
 | cons x l ih => rw [List.flatMap_cons, ih]; rfl
/-- Where a walk stands that has come to l. -/
structure WInv (B base kb wb : Nat) (p : PlanD) (A K : Option Addr) (c kc : Nat) (m : Value) (w0 : World) (bx : Nat) (o : OpD) (A7 : Option Addr) (w : World) (v : Value) (out : List Pt) : Prop where
 pre : WPre B base kb wb p A K c kc m w v out
 keep : WKeep base kb w0 w
 box : Bk w bx 48 #[.int .i64 o.k, .int .i64 o.a, .int .i64 o.b, .int .i64 o.f, .int .i64 o.c]
 frm : Rd w B 3 1 A7 (froms o).length (intsC (froms o))
section
variable {B base kb wb : Nat} {p : PlanD} {A K : Option Addr} {c kc : Nat} {m : Value} {w0 w w' : World} {bx : Nat} {o : OpD} {A7 : Option Addr} {v : Value} {out : List Pt} {r : List Pt} {e : Ending}
theorem WInv.next (h : WInv B base kb wb p A K c kc m w0 bx o A7 w v out) (hg : Good r) (hp : WPost base kb wb w r e w') : ∃ A2 c2, e = .returned (.tuple #[]) ∧ WInv B base kb wb p A K c kc m w0 bx o A7 w' (.slice A2 r.length c2) r := by
 obtain ⟨A2, c2, rfl, ho, hw, hk⟩ := hp
 exact ⟨A2, c2, rfl, h.pre.next hk hw ho hg, h.keep.trans hk, hk.bk h.box (h.box.ne_ h.pre.walk (by decide)) (.inr (by decide)), hk.rd h.frm h.pre.walk h.pre.bB h.pre.kb (by decide) (by decide)⟩
theorem WInv.post {A1 : Option Addr} {c1 : Nat} (h : WInv B base kb wb p A K c kc m w0 bx o A7 w (.slice A1 out.length c1) out) : WPost base kb wb w0 out (.returned (.tuple #[])) w := ⟨A1, c1, rfl, h.pre.own, h.pre.walk, h.keep⟩
end
end Go.Proofs.YtapjhliglmohgaaGreatDoor
/- The way down, in the program: down, the walk. -/
namespace Go.Proofs.YtapjhliglmohgaaGreatDoor
open Go.RowKit Go.Sort
set_option maxRecDepth 100000 in
set_option maxHeartbeats 4000000 in
theorem pdown_step (f : Nat) (hc : PCome f) : PDown (f + 1) := by
 intro B base kb wb p A K c kc s q m out v w hp hpre hsf hsn hq
 have hy : p.ops[s]? = some (p.ops[s]) := List.getElem?_eq_getElem hsn
 have hok := hp.op s _ hy
 generalize p.ops[s] = o at hy hok
 obtain ⟨ad, rfl, d0, d1, d2, d3, d4⟩ := hpre.ops.ops hy hsn
 have hdl := World.block_lt_of_cell? w _ d0
 have y0 : w.cell? ⟨kb, 0, none⟩ = some (.pointer (some ⟨wb, 0, none⟩)) := (hpre.walk.cell 0).trans rfl
 have z1 : w.cell? ⟨wb, 1, none⟩ = some (.int .i64 p.parts) := (hpre.ways.cell 1).trans rfl
 have z2 : w.cell? ⟨wb, 2, none⟩ = some (.slice (some ad) p.ops.length c) := (hpre.ways.cell 2).trans rfl
 have hkbl := hpre.walk.lt
 have hwbl := hpre.ways.lt
 have hp1 := hp.p1
 have hp4 := hp.p4
 have hbB := hpre.bB
 have hkb := hpre.kb
 have hbs := hpre.bs
 have hne1 : kb ≠ w.heap.size := by omega
 have hne2 : wb ≠ w.heap.size := by omega
 have HPre := Lib.hid hpre
 have HP := Lib.hid hp
 have HC := Lib.hid hc
 have HR := Lib.hid (down_go (parts := p.parts.toNat) (f := f) (q := q) (out := out) hy)
 have hlt : ∀ x ∈ froms o, wide o.k = true ∨ narrow o.k = true → x < f ∧ x < p.ops.length := fun x hx hk => by
  have h1 : o.k ≠ 1 := by intro e; rw [e] at hk; revert hk; decide
  have := froms_lt hok.2 h1 hx
  omega
 have HLT := Lib.hid hlt
 have hne : o.k = 1 ∨ 0 ≤ o.a := by
  by_cases h : o.k = 1
  · exact .inl h
  · exact .inr (inputsD_a hok.2 h).1
 have ha0 : 0 ≤ o.a := by
  rcases hne with h | h
  · have h1 := hok.2
    unfold inputsD at h1
    split at h1
    · cases h1
    · simp only [Bool.and_eq_true, decide_eq_true_eq] at h1
      omega
  · exact h
 have HB := Lib.hid (show two o.k = true → 0 ≤ o.b from fun h => (inputsD_b hok.2 h).1)
 clear hp hpre hc hy hok hlt hne
 go_enter Tryz.func175, Tryz.ntmps175
 go_upto_if 27 with (first | (go_at_call 110; refine (two_c o.k _).mono ?_; rintro e w' ⟨rfl, rfl⟩))
 go_cut [7] (fun v7 wx => ∃ A7 c7, v7 = .slice A7 (froms o).length c7 ∧ (froms o).length ≤ c7 ∧ WInv B base kb wb p (some ad) K c kc m w w.heap.size o A7 wx v out)
 case first =>
  have HW := Lib.hid (WKeep.of_below (base := base) (kb := kb) (ext_alloc (ext_alloc (Below.refl w.heap.size w) (.cells #[.int .i64 o.k, .int .i64 o.a, .int .i64 o.b, .int .i64 o.f, .int .i64 o.c] 48)) (.cells #[.int .i64 o.a] 3)))
  have HX := Lib.hid ((Bk.new w 48 #[.int .i64 o.k, .int .i64 o.a, .int .i64 o.b, .int .i64 o.f, .int .i64 o.c]).alloc (.cells #[.int .i64 o.a] 3))
  obtain ⟨a, ha⟩ : ∃ a : Nat, o.a = (a : Nat) := ⟨o.a.toNat, by omega⟩
  have HO := Lib.hid (show ((w.alloc (.cells #[.int .i64 o.k, .int .i64 o.a, .int .i64 o.b, .int .i64 o.f, .int .i64 o.c] 48)).alloc (.cells #[.int .i64 o.a] 3)).ownsRow w.heap.size 3 1 (.slice (some ⟨w.heap.size + 1, 0, none⟩) 1 1) [a].length ([a].flatMap intC) from (by
   have h1 := World.ownsRow_lit (w.alloc (.cells #[.int .i64 o.k, .int .i64 o.a, .int .i64 o.b, .int .i64 o.f, .int .i64 o.c] 48)) (base := w.heap.size) (e := 3) (size := 1) #[.int .i64 o.a] 1 (by simp only [World.size_alloc]; omega) (by decide) (by simp)
   simpa [intC, ha] using h1))
  have HA := Lib.hid ha
  clear ha
  cases ht : two o.k with
  | true =>
    obtain ⟨b, hb⟩ : ∃ b : Nat, o.b = (b : Nat) := ⟨o.b.toNat, by have := HB.out ht; omega⟩
    have HF := Lib.hid (show froms o = [a] ++ [b] from (by unfold froms; rw [if_pos ht, HA.out, hb]; rfl))
    have HBb := Lib.hid hb
    clear ht hb
    go_wp2_with (first
     | (at_builtin; refine wpList_appE int_app _ rfl (.tmp 28) (.tmp 31) rfl w.heap.size (.slice (some ⟨w.heap.size + 1, 0, none⟩) 1 1) [a] rfl (HO.out.alloc _) b (w.heap.size + 2) rfl (by rw [show (intC b).toArray = #[.int .i64 o.b] from by rw [HBb.out]; rfl]; exact Bk.newAt (by simp)) (by simp) (by simp only [World.size_alloc]; omega) ?_; intro A2 c2 w2 hown2 hg2 hc2
        have HB2 := Lib.hid (below_grownOwn (ext_alloc (ext_alloc (ext_alloc (Below.refl _ _) _) _) _) (HO.out.alloc _) (Nat.le_refl _) hg2)
        have HX2 := Lib.hid ((HX.out.alloc _).grown hg2 (by simp [Value.ownBlock]))
        have HO2 := Lib.hid hown2; clear hown2 hg2))
    go_meet
    refine ⟨A2, c2, by rw [HF.out]; rfl, by rw [HF.out]; exact hc2, HPre.out.ext HB2.out, WKeep.of_below HB2.out, HX2.out, ?_⟩
    rw [HF.out, ← intsC_flat]
    exact Rd.of_own HO2.out
  | false =>
    have HF := Lib.hid (show froms o = [a] from (by unfold froms; rw [if_neg (by rw [ht]; simp), HA.out]; rfl))
    clear ht
    go_wp2_with fail
    go_meet
    refine ⟨some ⟨w.heap.size + 1, 0, none⟩, 1, by rw [HF.out]; rfl, by rw [HF.out]; simp, HPre.out.ext (ext_alloc (ext_alloc (Below.refl _ _) _) _), HW.out, HX.out, ?_⟩
    rw [HF.out, ← intsC_flat]
    exact Rd.of_own HO.out
 case rest =>
  obtain ⟨A7, c7, rfl, hc7, hI⟩ := hcut
  have HI := Lib.hid hI
  obtain ⟨bx, hbx⟩ : ∃ bx, bx = w.heap.size := ⟨_, rfl⟩
  have hbxl := hI.box.lt
  rw [← hbx] at HI hbxl ⊢
  have hfl : (froms o).length ≤ 2 := by unfold froms; split <;> simp
  clear hI hbx d0 d1 d2 d3 d4 y0 z1 z2 hne1 hne2
  go_wp2_with fail
  go_loopg [35] (froms o).length (fun gk v35 wr => ∃ (i : Nat) (l : List Pt) (v1 : Value), i + gk = (froms o).length ∧ v35 = .int .i64 (i : Nat) ∧ Hid (l = goL p.ops p.parts.toNat f o q ((froms o).take i) out) ∧ WInv B base kb wb p (some ad) K c kc m w bx o A7 wr v1 l)
  case atStart => exact ⟨0, out, v, by omega, rfl, Lib.hid rfl, HI.out⟩
  case round =>
   obtain ⟨i, l, v1, hik, rfl, hl, hI⟩ := hrel
   have HIw := Lib.hid hI
   have y0 : wr.cell? ⟨kb, 0, none⟩ = some (.pointer (some ⟨wb, 0, none⟩)) := (hI.pre.walk.cell 0).trans rfl
   have z1 : wr.cell? ⟨wb, 1, none⟩ = some (.int .i64 p.parts) := (hI.pre.ways.cell 1).trans rfl
   have x0 : wr.cell? ⟨bx, 0, none⟩ = some (.int .i64 o.k) := (hI.box.cell 0).trans rfl
   have hkbl := hI.pre.walk.lt
   have hwbl := hI.pre.ways.lt
   have hbxl := hI.box.lt
   have hg := hI.pre.good
   clear hI
   by_cases hi : i < (froms o).length
   · have hx : (froms o)[i]? = some ((froms o)[i]) := List.getElem?_eq_getElem hi
     generalize (froms o)[i] = x at hx
     obtain ⟨ad7, rfl, c7⟩ := HIw.out.frm.cell (by omega)
     have f0 : wr.cell? (ad7.add i) = some (.int .i64 (x : Nat)) := c7 i _ (by unfold intsC; rw [List.getElem?_map, hx]; rfl)
     have HX := Lib.hid (HLT.out x (List.mem_of_getElem? hx))
     have HS := Lib.hid (show goL p.ops p.parts.toNat f o q ((froms o).take (i + 1)) out = goOf p.ops p.parts.toNat f o q x l from (by rw [goL_snoc hx, ← hl.out]))
     have HG := Lib.hid (good_of (f := f) (o := o) (x := x) HP.out hg HX.out hq)
     have hfl := World.block_lt_of_cell? wr _ f0
     have HGl := Lib.hid hg
     clear hx c7 hg
     cases hw : wide o.k with
     | true =>
       have HW := Lib.hid hw
       obtain ⟨hxf, hxn⟩ := HX.out (.inl hw)
       have HE := Lib.hid (goOf_wide (ops := p.ops) (parts := p.parts.toNat) (f := f) (q := q) (x := x) (out := l) hw)
       obtain ⟨wo, rfl⟩ : ∃ wo : World, wo = wr := ⟨_, rfl⟩
       obtain ⟨go, rfl⟩ : ∃ go : Nat, go = gk := ⟨_, rfl⟩
       clear hw
       go_wp2_with (first
        | (go_at_call 109; refine (wide_c o.k _).mono ?_; rw [HW.out]; rintro e w' ⟨rfl, rfl⟩))
       clear y0 z1 x0 f0 hkbl hwbl hbxl hfl
       go_loopg [51] p.parts.toNat (fun gk v51 wr => ∃ (m1 : Nat) (l1 : List Pt) (v2 : Value), m1 + gk = p.parts.toNat ∧ v51 = .int .i64 (m1 : Nat) ∧ Hid (l1 = goN p.ops p.parts.toNat f x m1 l) ∧ WInv B base kb wb p (some ad) K c kc m w bx o (some ad7) wr v2 l1)
       case atStart => exact ⟨0, l, v1, by omega, rfl, Lib.hid rfl, HIw.out⟩
       case round =>
        obtain ⟨m1, l1, v2, hmk, rfl, hl1, hI⟩ := hrel
        have HIv := Lib.hid hI
        have y0 : wr.cell? ⟨kb, 0, none⟩ = some (.pointer (some ⟨wb, 0, none⟩)) := (hI.pre.walk.cell 0).trans rfl
        have z1 : wr.cell? ⟨wb, 1, none⟩ = some (.int .i64 p.parts) := (hI.pre.ways.cell 1).trans rfl
        have x0 : wr.cell? ⟨bx, 0, none⟩ = some (.int .i64 o.k) := (hI.box.cell 0).trans rfl
        have hkbl := hI.pre.walk.lt
        have hwbl := hI.pre.ways.lt
        have hbxl := hI.box.lt
        clear hI
        by_cases hm : m1 < p.parts.toNat
        · have hmi : (m1 : Int) < p.parts := by omega
          have um : decide ((m1 : Int) < p.parts) = true := decide_eq_true hmi
          have HG1 := Lib.hid (show Good (goN p.ops p.parts.toNat f x (m1 + 1) l) from good_goN HP.out hxf hxn (m1 + 1) hm HGl.out)
          have HN := Lib.hid (show goN p.ops p.parts.toNat f x (m1 + 1) l = comeL p.ops p.parts.toNat f x m1 l1 from (by rw [goN_succ, ← hl1.out]))
          go_wp2_with (first
           | (go_at_call 210; refine (HC.out B base kb wb p (some ad) K c kc x m1 m l1 v2 _ HP.out HIv.out.pre hxf hxn hm).mono ?_; rw [← HN.out]; rintro e w2 hpost; obtain ⟨A2, c2, rfl, hI2⟩ := HIv.out.next HG1.out hpost; have HI2 := Lib.hid hI2; clear hI2 hpost))
          go_roundg (gk - 1)
          case measure => omega
          case rel => exact ⟨m1 + 1, _, _, by omega, by go_num, Lib.hid rfl, HI2.out⟩
        · have hme : m1 = p.parts.toNat := by omega
          subst hme
          have hmi : ¬ ((p.parts.toNat : Nat) : Int) < p.parts := by omega
          have um : decide (((p.parts.toNat : Nat) : Int) < p.parts) = false := decide_eq_false hmi
          go_wp2_with fail
          go_roundg (go - 1)
          case measure => omega
          case rel => exact ⟨i + 1, l1, v2, by omega, by go_num, Lib.hid (by rw [HS.out, HE.out, hl1.out]), HIv.out⟩
     | false =>
       have HW := Lib.hid hw
       cases hn : narrow o.k with
       | true =>
         have HN := Lib.hid hn
         obtain ⟨hxf, hxn⟩ := HX.out (.inr hn)
         rw [goOf_narrow hw hn] at HS HG
         clear hw hn
         go_wp2_with (first
          | (go_at_call 109; refine (wide_c o.k _).mono ?_; rw [HW.out]; rintro e w' ⟨rfl, rfl⟩)
          | (go_at_call 211; refine (narrow_c o.k _).mono ?_; rw [HN.out]; rintro e w' ⟨rfl, rfl⟩)
          | (go_at_call 210; refine (HC.out B base kb wb p (some ad) K c kc x q m l v1 _ HP.out HIw.out.pre hxf hxn hq).mono ?_; rintro e w2 hpost; obtain ⟨A2, c2, rfl, hI2⟩ := HIw.out.next HG.out hpost; have HI2 := Lib.hid hI2; clear hI2 hpost))
         go_roundg (gk - 1)
         case measure => omega
         case rel => exact ⟨i + 1, _, _, by omega, by go_num, Lib.hid HS.out.symm, HI2.out⟩
       | false =>
         have HN := Lib.hid hn
         rw [goOf_none hw hn] at HS
         clear hw hn
         go_wp2_with (first
          | (go_at_call 109; refine (wide_c o.k _).mono ?_; rw [HW.out]; rintro e w' ⟨rfl, rfl⟩)
          | (go_at_call 211; refine (narrow_c o.k _).mono ?_; rw [HN.out]; rintro e w' ⟨rfl, rfl⟩))
         go_roundg (gk - 1)
         case measure => omega
         case rel => exact ⟨i + 1, _, _, by omega, by go_num, Lib.hid HS.out.symm, HIw.out⟩
   · have hil : i = (froms o).length := by omega
     have HD := Lib.hid (show down p.ops p.parts.toNat (f + 1) s q out = l from (by rw [HR.out, hl.out, hil, List.take_length]))
     obtain ⟨A1, c1, rfl, _⟩ := own_shape HIw.out.pre.own
     clear hil
     go_wp2_with fail
     go_returns
     rw [HD.out]
     exact HIw.out.post
theorem pdown_all : ∀ f, PDown f
 | 0 => fun _ _ _ _ _ _ _ _ _ _ _ _ _ _ _ _ _ h => absurd h (Nat.not_lt_zero _)
 | f + 1 => pdown_step f (pcome_c f (pdown_all f))
end Go.Proofs.YtapjhliglmohgaaGreatDoor
/- Footprints: what a call may have changed is a set of blocks; what reads memory says which blocks it leans on. -/
namespace Go.Proofs.YtapjhliglmohgaaGreatDoor
open Go.RowKit Go.Sort
/-- Of what there was only the blocks of S may have changed. -/
structure Fr (S : Nat → Prop) (w w' : World) : Prop where
 os : w'.os = w.os
 tape : w'.tape = w.tape
 output : w'.output = w.output
 size : w.heap.size ≤ w'.heap.size
 block : ∀ k, k < w.heap.size → ¬ S k → w'.heap[k]? = w.heap[k]?
abbrev No : Nat → Prop := fun _ => False
section
variable {S S' T : Nat → Prop} {a b c w w' : World} {B : Nat}
theorem Fr.refl : Fr S w w := ⟨rfl, rfl, rfl, Nat.le_refl _, fun _ _ _ => rfl⟩
theorem Fr.of_below (h : Below w.heap.size w w') : Fr S w w' := ⟨h.os, h.tape, h.output, h.size, fun k hk _ => h.block k hk⟩
theorem Fr.below (h : Fr S w w') (hS : ∀ k, S k → B ≤ k) (hB : B ≤ w.heap.size) : Below B w w' :=
 ⟨h.os, h.tape, h.output, h.size, fun k hk => h.block k (Nat.lt_of_lt_of_le hk hB) (fun hs => by have := hS k hs; omega)⟩
theorem Fr.trans (h : Fr S a b) (k : Fr S' b c) (hs : ∀ k, S' k → S k ∨ a.heap.size ≤ k) : Fr S a c :=
 ⟨k.os.trans h.os, k.tape.trans h.tape, k.output.trans h.output, Nat.le_trans h.size k.size, fun i hi hn => (k.block i (Nat.lt_of_lt_of_le hi h.size) (fun hs' => by
   rcases hs i hs' with h1 | h1
   · exact hn h1
   · omega)).trans (h.block i hi hn)⟩
theorem Fr.mono (h : Fr S w w') (hs : ∀ k, k < w.heap.size → S k → S' k) : Fr S' w w' := ⟨h.os, h.tape, h.output, h.size, fun k hk hn => h.block k hk (fun h1 => hn (hs k hk h1))⟩
theorem Fr.ext (h : Fr S a b) (k : Below b.heap.size b c) : Fr S a c := h.trans (S' := No) (Fr.of_below k) (fun _ h => h.elim)
theorem Fr.drewN (h : Fr S a w) (n : Nat) : Fr S a (w.drewN n) := h.ext (below_drewN (Below.refl _ _) n)
theorem Fr.drew (h : Fr S a w) : Fr S a w.drew := h.drewN 1
theorem Fr.alloc (h : Fr S a w) (o : Obj) : Fr S a (w.alloc o) := h.ext (ext_alloc (Below.refl _ _) o)
theorem Fr.set_ (h : Fr S a w) {p : Addr} (hp : S p.block ∨ a.heap.size ≤ p.block) (u : Value) : Fr S a (w.setCell p u) :=
 ⟨h.os, h.tape, h.output, by simpa [World.setCell] using h.size, fun k hk hn => (Below.heap_setCell w p u k (fun e => by
   subst e
   rcases hp with h1 | h1
   · exact hn h1
   · omega)).trans (h.block k hk hn)⟩
theorem Fr.grown {row : Option Nat} (h : Fr S a w) (hg : w.grownBy w' row) (hr : ∀ k, row = some k → S k ∨ a.heap.size ≤ k) : Fr S a w' :=
 ⟨hg.os.trans h.os, hg.tape.trans h.tape, hg.output.trans h.output, Nat.le_trans h.size hg.size, fun k hk hn => (hg.block k (Nat.lt_of_lt_of_le hk h.size) (fun e => by
   rcases hr k e.symm with h1 | h1
   · exact hn h1
   · omega)).trans (h.block k hk hn)⟩
theorem Fr.one (w : World) (g j : Nat) (u : Value) : Fr (fun k => k = g) w (w.setCell ⟨g, j, none⟩ u) := Fr.set_ (S := fun k => k = g) (p := ⟨g, j, none⟩) Fr.refl (Or.inl (show g = g from rfl)) u
theorem Fr.map_ {m : Nat} (hg : w.grownBy w' (some m)) : Fr (fun k => k = m) w w' := Fr.grown (S := fun k => k = m) Fr.refl hg (fun k hk => Or.inl (by injection hk with hk; exact hk.symm))
theorem Bk.fr {g : Nat} {t : TypeId} {cs : Array Value} (h : Bk w g t cs) (hf : Fr S w w') (hn : ¬ S g) : Bk w' g t cs := (hf.block g h.lt hn).trans h
theorem MapIs.fr {α : Type} {enc : α → Value} {g : Nat} {m : List (α × Value)} (h : MapIs enc w g m) (hf : Fr S w w') (hn : ¬ S g) : MapIs enc w' g m := h.keep (hf.block g h.lt hn)
theorem own_fr {base n z : Nat} {e : TypeId} {v : Value} {xs : List Value} (h : w.ownsRow base e z v n xs) (hf : Fr S w w') (hn : ∀ k, v.ownBlock = some k → ¬ S k) : w'.ownsRow base e z v n xs := by
 refine ⟨h.1, ?_⟩
 rcases h.2 with h2 | ⟨g, c, cur, hv, hb, hg, r⟩
 · exact .inl h2
 · exact .inr ⟨g, c, cur, hv, hb, (hf.block g (lt_of_some hg) (hn g (by rw [hv]; rfl))).trans hg, r⟩
end
/-- A slice that reads as a list, out of a block of S. -/
def RdS (w : World) (S : Nat → Prop) (size : Nat) (A : Option Addr) (n : Nat) (xs : List Value) : Prop :=
 xs.length = n * size ∧ (0 < n → ∃ ad, A = some ad ∧ S ad.block ∧ ad.block < w.heap.size ∧ ∀ j u, xs[j]? = some u → w.cell? (ad.add j) = some u)
section
variable {S S' T : Nat → Prop} {w w' : World} {size n B : Nat} {e : TypeId} {A : Option Addr} {xs : List Value}
theorem RdS.fr (h : RdS w S size A n xs) (hf : Fr T w w') (hd : ∀ k, S k → ¬ T k) : RdS w' S size A n xs :=
 ⟨h.1, fun hn => by
   obtain ⟨ad, hA, hS, hl, hc⟩ := h.2 hn
   refine ⟨ad, hA, hS, Nat.lt_of_lt_of_le hl hf.size, fun j u hu => ?_⟩
   rw [World.cell?_of_block (w := w) (by rw [block_of_add]; exact hf.block _ hl (hd _ hS))]
   exact hc j u hu⟩
theorem RdS.ext (h : RdS w S size A n xs) (hb : Below w.heap.size w w') : RdS w' S size A n xs := h.fr (T := No) (Fr.of_below hb) (fun _ _ h => h)
theorem RdS.mono (h : RdS w S size A n xs) (hs : ∀ k, S k → S' k) : RdS w S' size A n xs :=
 ⟨h.1, fun hn => by
   obtain ⟨ad, hA, hS, r⟩ := h.2 hn
   exact ⟨ad, hA, hs _ hS, r⟩⟩
theorem RdS.rd (h : RdS w S size A n xs) (hB : w.heap.size ≤ B) : Rd w B e size A n xs :=
 ⟨h.1, fun hn => by
   obtain ⟨ad, hA, _, hl, hc⟩ := h.2 hn
   exact ⟨ad, hA, .inl (Nat.lt_of_lt_of_le hl hB), hc⟩⟩
theorem RdS.rdS (h : RdS w S size A n xs) (hS : ∀ k, S k → k < B) : Rd w B e size A n xs :=
 ⟨h.1, fun hn => by
   obtain ⟨ad, hA, hs, _, hc⟩ := h.2 hn
   exact ⟨ad, hA, .inl (hS _ hs), hc⟩⟩
theorem RdS.of_rd (h : Rd w B e size A n xs) (h0 : 0 < size) : RdS w (· < w.heap.size) size A n xs :=
 ⟨h.1, fun hn => by
   obtain ⟨ad, hA, hc⟩ := h.cell hn
   have hp : 0 < xs.length := by rw [h.1]; exact Nat.mul_pos hn h0
   have hl := World.block_lt_of_cell? w _ (hc 0 _ (List.getElem?_eq_getElem hp))
   rw [block_of_add] at hl
   exact ⟨ad, hA, hl, hl, hc⟩⟩
theorem RdS.of_own {base c : Nat} {z : Nat} (h : w.ownsRow base e z (.slice A n c) n xs) (hs : ∀ k, (Value.slice A n c).ownBlock = some k → S k) : RdS w S z A n xs := by
 refine ⟨h.1, fun hn => ?_⟩
 have h' := h
 rcases h'.2 with ⟨hv, h0⟩ | ⟨b, cp, cur, hv, _, hh, _⟩
 · omega
 · have hA : A = some ⟨b, 0, none⟩ := by injection hv
   subst hA
   exact ⟨_, rfl, hs b rfl, lt_of_some hh, h.cells (g := b) rfl⟩
theorem RdS.cell (h : RdS w S size A n xs) (hn : 0 < n) : ∃ ad, A = some ad ∧ ∀ j u, xs[j]? = some u → w.cell? (ad.add j) = some u := by
 obtain ⟨ad, he, _, _, hc⟩ := h.2 hn
 exact ⟨ad, he, hc⟩
theorem RdS.none_ : RdS w S size A 0 [] := ⟨by simp, fun h => absurd h (by omega)⟩
end
end Go.Proofs.YtapjhliglmohgaaGreatDoor
/- The ways of a plan, in the program: what they are in memory; Has. -/
namespace Go.Proofs.YtapjhliglmohgaaGreatDoor
open Go.RowKit Go.Sort
structure WaysAt (B wb mb : Nat) (R : Nat → Prop) (p : PlanD) (A K : Option Addr) (c kc : Nat) (es : List (Id3 × Value)) (w : World) : Prop where
 bk : Bk w wb 174 #[.slice K p.ops.length kc, .int .i64 p.parts, .slice A p.ops.length c, .map (some mb)]
 ops : RdS w (· < B) 5 A p.ops.length (opsC p.ops)
 kept : RdS w R 1 K p.ops.length (boolsC (keptL p.ops))
 map : MapIs idV w mb es
 ent : ∀ x v, (x, v) ∈ es → ∃ (s q : Nat) (A' : Option Addr) (c' : Nat), x = ⟨1, (s : Nat), (q : Nat)⟩ ∧ v = .slice A' (ownL p.ops p.parts.toNat s q).length c' ∧ RdS w R 3 A' (ownL p.ops p.parts.toNat s q).length (ptsC (ownL p.ops p.parts.toNat s q))
 rw : R wb
 rm : R mb
 bd : ∀ k, R k → B ≤ k ∧ k < w.heap.size
def WaysIs (B wb : Nat) (R : Nat → Prop) (p : PlanD) (A K : Option Addr) (c kc : Nat) (w : World) : Prop := ∃ mb es, WaysAt B wb mb R p A K c kc es w
section
variable {B wb mb : Nat} {R S : Nat → Prop} {p : PlanD} {A K : Option Addr} {c kc : Nat} {es : List (Id3 × Value)} {w w' : World}
theorem WaysAt.fr (h : WaysAt B wb mb R p A K c kc es w) (hf : Fr S w w') (hR : ∀ k, R k → ¬ S k) (hB : ∀ k, k < B → ¬ S k) : WaysAt B wb mb R p A K c kc es w' :=
 ⟨h.bk.fr hf (hR _ h.rw), h.ops.fr hf hB, h.kept.fr hf hR, h.map.fr hf (hR _ h.rm), fun x v hx => by
   obtain ⟨s, q, A', c', h1, h2, h3⟩ := h.ent x v hx
   exact ⟨s, q, A', c', h1, h2, h3.fr hf hR⟩, h.rw, h.rm, fun k hk => ⟨(h.bd k hk).1, Nat.lt_of_lt_of_le (h.bd k hk).2 hf.size⟩⟩
theorem WaysIs.fr (h : WaysIs B wb R p A K c kc w) (hf : Fr S w w') (hR : ∀ k, R k → ¬ S k) (hB : ∀ k, k < B → ¬ S k) : WaysIs B wb R p A K c kc w' := by
 obtain ⟨mb, es, h⟩ := h
 exact ⟨mb, es, h.fr hf hR hB⟩
theorem WaysIs.ext (h : WaysIs B wb R p A K c kc w) (hb : Below w.heap.size w w') : WaysIs B wb R p A K c kc w' := h.fr (S := No) (Fr.of_below hb) (fun _ _ h => h) (fun _ _ h => h)
theorem WaysIs.bd (h : WaysIs B wb R p A K c kc w) : ∀ k, R k → B ≤ k ∧ k < w.heap.size := by
 obtain ⟨mb, es, h⟩ := h
 exact h.bd
end
def hasB (p : PlanD) (x : Id3) : Bool := decide (1 ≤ x.b) && (decide (0 ≤ x.s) && (decide (x.s < p.ops.length) && (decide (0 ≤ x.p) && decide (x.p < p.parts))))
set_option maxRecDepth 100000 in
set_option maxHeartbeats 4000000 in
theorem has_c (B wb : Nat) (R : Nat → Prop) (p : PlanD) (A K : Option Addr) (c kc : Nat) (x : Id3) (w : World) (h : WaysIs B wb R p A K c kc w) (hp : Shaped p) :
 Calls Tryz.prog 112 #[.pointer (some ⟨wb, 0, none⟩), idV x] w (BoolPost w (hasB p x)) := by
 obtain ⟨mb, es, h⟩ := h
 have z1 : w.cell? ⟨wb, 1, none⟩ = some (.int .i64 p.parts) := (h.bk.cell 1).trans rfl
 have z2 : w.cell? ⟨wb, 2, none⟩ = some (.slice A p.ops.length c) := (h.bk.cell 2).trans rfl
 have hwl := h.bk.lt
 have hn12 := hp.n12
 have hne : wb ≠ w.heap.size := by omega
 obtain ⟨xb, xs, xp⟩ := x
 have hc : (∃ r : Bool, hasB p ⟨xb, xs, xp⟩ = r ∧ ((r = false ∧ decide (1 ≤ xb) = false) ∨ (r = false ∧ decide (1 ≤ xb) = true ∧ decide (0 ≤ xs) = false) ∨ (r = false ∧ decide (1 ≤ xb) = true ∧ decide (0 ≤ xs) = true ∧ decide (xs < p.ops.length) = false)
  ∨ (r = false ∧ decide (1 ≤ xb) = true ∧ decide (0 ≤ xs) = true ∧ decide (xs < p.ops.length) = true ∧ decide (0 ≤ xp) = false) ∨ (r = false ∧ decide (1 ≤ xb) = true ∧ decide (0 ≤ xs) = true ∧ decide (xs < p.ops.length) = true ∧ decide (0 ≤ xp) = true ∧ decide (xp < p.parts) = false)
  ∨ (r = true ∧ decide (1 ≤ xb) = true ∧ decide (0 ≤ xs) = true ∧ decide (xs < p.ops.length) = true ∧ decide (0 ≤ xp) = true ∧ decide (xp < p.parts) = true))) := by
  refine ⟨_, rfl, ?_⟩
  unfold hasB
  cases decide (1 ≤ xb) <;> cases decide (0 ≤ xs) <;> cases decide (xs < (p.ops.length : Int)) <;> cases decide (0 ≤ xp) <;> cases decide (xp < p.parts) <;> simp
 obtain ⟨r, hr, hc⟩ := hc
 have HR := Lib.hid hr
 clear hr h hp
 rcases hc with ⟨rfl, u1⟩ | ⟨rfl, u1, u2⟩ | ⟨rfl, u1, u2, u3⟩ | ⟨rfl, u1, u2, u3, u4⟩ | ⟨rfl, u1, u2, u3, u4, u5⟩ | ⟨rfl, u1, u2, u3, u4, u5⟩
 all_goals
   go_enter Tryz.func112, Tryz.ntmps112
   go_wp2_with fail
   go_quiet (fail)
   go_wp2_with fail
   go_ret
   rw [HR.out]
   exact ⟨rfl, below_drewN (ext_alloc (Below.refl _ _) _) _⟩
end Go.Proofs.YtapjhliglmohgaaGreatDoor
/- The ways of a plan, in the program: Own. -/
namespace Go.Proofs.YtapjhliglmohgaaGreatDoor
open Go.RowKit Go.Sort
theorem mget_mem {α : Type} [DecidableEq α] {m : List (α × Value)} {x : α} {v : Value} (h : mget m x = some v) : (x, v) ∈ m := by
 unfold mget at h
 rw [Option.map_eq_some_iff] at h
 obtain ⟨p, hp, hv⟩ := h
 have h1 := List.mem_of_find?_eq_some hp
 have h2 := List.find?_some hp
 simp only [decide_eq_true_eq] at h2
 rw [← h2, ← hv]
 exact h1
theorem mem_mset {α : Type} [DecidableEq α] {m : List (α × Value)} {x y : α} {v u : Value} (h : (y, u) ∈ mset m x v) : (y = x ∧ u = v) ∨ (y, u) ∈ m := by
 unfold mset at h
 split at h
 · obtain ⟨p, hp, he⟩ := List.mem_map.1 h
   split at he
   · cases he; exact .inl ⟨rfl, rfl⟩
   · rw [← he]; exact .inr hp
 · rcases List.mem_append.1 h with h | h
   · exact .inr h
   · rw [List.mem_singleton] at h; cases h; exact .inl ⟨rfl, rfl⟩
theorem zero_ids (w : World) : (zeroValue 33).run Tryz.prog w = .ok (.slice none 0 0) w := by kernel_rfl
def ptV (s q : Nat) : Id3 := ⟨1, (s : Nat), (q : Nat)⟩
/-- What Own tells. -/
def OwnPost (B wb : Nat) (R : Nat → Prop) (p : PlanD) (A K : Option Addr) (c kc : Nat) (l : List Pt) (w : World) (e : Ending) (w' : World) : Prop :=
 ∃ (A1 : Option Addr) (c1 : Nat) (R' : Nat → Prop), e = .returned (.slice A1 l.length c1) ∧ w'.ownsRow w.heap.size 35 3 (.slice A1 l.length c1) l.length (ptsC l) ∧ Fr R w w' ∧ WaysIs B wb R' p A K c kc w' ∧ (∀ k, R' k → R k ∨ w.heap.size ≤ k) ∧ (∀ k, (Value.slice A1 l.length c1).ownBlock = some k → ¬ R' k)
theorem good_own {p : PlanD} (hp : Shaped p) {s q : Nat} (hs : s < p.ops.length) (hq : q < p.parts.toNat) : Good (ownL p.ops p.parts.toNat s q) := by
 have hok : OpsOk p.ops := fun i o h => (hp.op i o h).2
 refine ⟨own_nodup s q, fun y hy => ?_⟩
 have h1 := ((own_mem hok s q y).1 hy).lt hok
 have := hp.n12
 have := hp.p4
 omega
set_option maxRecDepth 100000 in
set_option maxHeartbeats 4000000 in
theorem own_hit_c (B wb mb : Nat) (R : Nat → Prop) (p : PlanD) (A K : Option Addr) (c kc : Nat) (es : List (Id3 × Value)) (s q : Nat) (v : Value) (w : World) (h : WaysAt B wb mb R p A K c kc es w) (hp : Shaped p) (hs : s < p.ops.length) (hq : q < p.parts.toNat) (hv : mget es (ptV s q) = some v) :
 Calls Tryz.prog 139 #[.pointer (some ⟨wb, 0, none⟩), .int .i64 (s : Nat), .int .i64 (q : Nat)] w (OwnPost B wb R p A K c kc (ownL p.ops p.parts.toNat s q) w) := by
 obtain ⟨s', q', A1, c1, e1, rfl, hR1⟩ := h.ent _ _ (mget_mem hv)
 have es' : s' = s := by simp only [ptV, Id3.mk.injEq] at e1; omega
 have eq' : q' = q := by simp only [ptV, Id3.mk.injEq] at e1; omega
 subst es' eq'
 have HH := Lib.hid (show hasB p (ptV s' q') = true from (by unfold hasB ptV; simp only [Bool.and_eq_true, decide_eq_true_eq]; omega))
 have hg := good_own hp hs hq
 have hgl := hg.len
 have HW := Lib.hid h
 have HP := Lib.hid hp
 have HV := Lib.hid hv
 have HR1 := Lib.hid hR1
 generalize ownL p.ops p.parts.toNat s' q' = l at hg hgl HV HR1 ⊢
 clear h hp hv hR1 e1 hg
 go_enter Tryz.func139, Tryz.ntmps139
 go_wp2_with (first
  | (go_at_call 112; refine (has_c B wb R p A K c kc (ptV s' q') _ (WaysIs.ext ⟨mb, es, HW.out⟩ (ext_alloc (Below.refl _ _) _)) HP.out).mono ?_; rw [HH.out]; rintro e w1 ⟨rfl, hb⟩
     have HB1 := Lib.hid (ext_trans (ext_alloc (Below.refl _ _) _) hb)
     have HX1 := Lib.hid ((Bk.new w 35 #[.int .i64 1, .int .i64 (s' : Nat), .int .i64 (q' : Nat)]).ext hb)
     have HW1 := Lib.hid (HW.out.fr (S := No) (Fr.of_below HB1.out) (fun _ _ h => h) (fun _ _ h => h))
     have x0 : w1.cell? ⟨w.heap.size, 0, none⟩ = some (.int .i64 1) := (HX1.out.cell 0).trans rfl
     have x1 : w1.cell? ⟨w.heap.size, 1, none⟩ = some (.int .i64 (s' : Nat)) := (HX1.out.cell 1).trans rfl
     have x2 : w1.cell? ⟨w.heap.size, 2, none⟩ = some (.int .i64 (q' : Nat)) := (HX1.out.cell 2).trans rfl
     have z3 : w1.cell? ⟨wb, 3, none⟩ = some (.map (some mb)) := (HW1.out.bk.cell 3).trans rfl
     have hxl := HX1.out.lt
     have hwl := HW1.out.bk.lt
     clear hb))
 have hl := fun n => (HW1.out.map.drewN n).lookup_ok idKey (t := 172) (e := 33) (by kernel_rfl) (zero_ids _) (ptV s' q')
 rw [HV.out] at hl
 simp only [ptV, Option.isSome_some, Option.getD_some] at hl
 go_quiet (fail)
 clear hl
 go_wp2_with (first
  | (at_builtin; refine wpList_appR pt_app _ rfl (.const (.slice none 0 0)) (.tmp 46) rfl w.heap.size (.slice none 0 0) [] rfl (World.ownsRow_nil _ _ _ _) l w1.heap.size A1 l.length c1 rfl rfl (by rw [← ptsC_eq]; exact ((HR1.out.ext HB1.out).ext (below_drewN (Below.refl _ _) _)).rd (by simp)) (by simp only [List.length_nil]; omega) (by have := HB1.out.size; simp only [World.heap_drewN]; omega) ?_; intro A2 c2 w2 hown2 hg2 hc2; have HO2 := Lib.hid hown2; have HG2 := Lib.hid hg2; clear hown2 hg2))
 go_ret
 have HB2 : Below w.heap.size w w2 := (below_drewN HB1.out _).grown HG2.out (by have := HB1.out.size; simpa using this) (fun k hk => by cases hk)
 refine ⟨A2, c2, R, rfl, by rw [ptsC_eq]; exact HO2.out, Fr.of_below HB2, WaysIs.ext ⟨mb, es, HW.out⟩ HB2, fun k hk => .inl hk, fun k hk hR => ?_⟩
 have h1 := (HO2.out.lt k hk).1
 have h2 := (HW.out.bd k hR).2
 omega
theorem WKeep.below {base kb B : Nat} {w w' : World} (h : WKeep base kb w w') (hk : B ≤ kb) (hb : B ≤ base) (hB : B ≤ w.heap.size) : Below B w w' :=
 ⟨h.os, h.tape, h.output, h.size, fun k hlt => by
   have h1 : k < w.heap.size := by omega
   rw [Array.getElem?_eq_getElem h1]
   exact h.block k _ (Array.getElem?_eq_getElem h1) (by omega) (.inl (by omega))⟩
theorem WPre.start {B wb mb : Nat} {R : Nat → Prop} {p : PlanD} {A K : Option Addr} {c kc : Nat} {es : List (Id3 × Value)} {w : World} (h : WaysAt B wb mb R p A K c kc es w) :
 WPre w.heap.size (w.heap.size + 1) w.heap.size wb p A K c kc (.map (some mb)) (w.alloc (.cells #[.pointer (some ⟨wb, 0, none⟩), .slice none 0 0] 238)) (.slice none 0 0) [] :=
 ⟨h.bk.alloc _, Bk.new _ _ _, (h.ops.rd (Nat.le_refl _)).alloc _, (h.kept.rd (Nat.le_refl _)).alloc _, World.ownsRow_nil _ _ _ _, ⟨List.nodup_nil, fun y hy => by cases hy⟩, Nat.le_refl _, Nat.lt_succ_self _, Nat.lt_succ_of_lt h.bk.lt, by simp⟩
theorem WaysAt.ext {B wb mb : Nat} {R : Nat → Prop} {p : PlanD} {A K : Option Addr} {c kc : Nat} {es : List (Id3 × Value)} {w w' : World} (h : WaysAt B wb mb R p A K c kc es w) (hb : Below w.heap.size w w') : WaysAt B wb mb R p A K c kc es w' := h.fr (S := No) (Fr.of_below hb) (fun _ _ h => h) (fun _ _ h => h)
/-- A new entry is laid. -/
theorem WaysAt.lay {B wb mb : Nat} {R : Nat → Prop} {p : PlanD} {A K : Option Addr} {c kc : Nat} {es : List (Id3 × Value)} {w w' : World} {s q : Nat} {A1 : Option Addr} {c1 base : Nat} (h : WaysAt B wb mb R p A K c kc es w) (hg : w.grownBy w' (some mb)) (hm : MapIs idV w' mb (mset es (ptV s q) (.slice A1 (ownL p.ops p.parts.toNat s q).length c1)))
 (hown : w.ownsRow base 35 3 (.slice A1 (ownL p.ops p.parts.toNat s q).length c1) (ownL p.ops p.parts.toNat s q).length (ptsC (ownL p.ops p.parts.toNat s q))) (hB : B ≤ base) :
 WaysAt B wb mb (fun k => R k ∨ (Value.slice A1 (ownL p.ops p.parts.toNat s q).length c1).ownBlock = some k) p A K c kc (mset es (ptV s q) (.slice A1 (ownL p.ops p.parts.toNat s q).length c1)) w' := by
 have hf : Fr (fun k => k = mb) w w' := Fr.refl.grown hg (fun k hk => .inl (by injection hk with hk; exact hk.symm))
 obtain ⟨es0, cl0, hmo⟩ := h.map.obj
 have hnm : ∀ {k : Nat} {cs : Array Value} {t : TypeId} {f : Nat × Nat}, w.heap[k]? = some (.cells cs t f) → k ≠ mb := by
  intro k cs t f hk e
  subst e
  rw [hmo] at hk
  cases hk
 have rds : ∀ {S : Nat → Prop} {z n : Nat} {A0 : Option Addr} {xs : List Value}, RdS w S z A0 n xs → 0 < z → RdS w' S z A0 n xs := by
  intro S z n A0 xs hr hz
  refine ⟨hr.1, fun hn => ?_⟩
  obtain ⟨ad, hA, hS, hl, hc⟩ := hr.2 hn
  refine ⟨ad, hA, hS, Nat.lt_of_lt_of_le hl hf.size, fun j u hu => ?_⟩
  have hp : 0 < xs.length := by rw [hr.1]; exact Nat.mul_pos hn hz
  have h0 := hc 0 _ (List.getElem?_eq_getElem hp)
  have hne : ad.block ≠ mb := by
   intro e
   rw [World.cell?] at h0
   rw [block_of_add, e, hmo] at h0
   cases h0
  rw [World.cell?_of_block (w := w) (by rw [block_of_add]; exact hf.block _ hl hne)]
  exact hc j u hu
 refine ⟨h.bk.fr hf (hnm h.bk), rds h.ops (by omega), (rds h.kept (by omega)).mono fun _ hk => .inl hk, hm, fun x v hx => ?_, .inl h.rw, .inl h.rm, fun k hk => ?_⟩
 · rcases mem_mset hx with ⟨rfl, rfl⟩ | hx
   · exact ⟨s, q, A1, c1, rfl, rfl, rds (RdS.of_own hown fun k hk => .inr hk) (by omega)⟩
   · obtain ⟨s', q', A', c', h1, h2, h3⟩ := h.ent x v hx
     exact ⟨s', q', A', c', h1, h2, (rds h3 (by omega)).mono fun _ hk => .inl hk⟩
 · rcases hk with hk | hk
   · exact ⟨(h.bd k hk).1, Nat.lt_of_lt_of_le (h.bd k hk).2 hf.size⟩
   · have := hown.lt k hk
     exact ⟨by omega, Nat.lt_of_lt_of_le this.2 hf.size⟩
set_option maxRecDepth 100000 in
set_option maxHeartbeats 4000000 in
theorem own_miss_c (B wb mb : Nat) (R : Nat → Prop) (p : PlanD) (A K : Option Addr) (c kc : Nat) (es : List (Id3 × Value)) (s q : Nat) (w : World) (h : WaysAt B wb mb R p A K c kc es w) (hp : Shaped p) (hs : s < p.ops.length) (hq : q < p.parts.toNat) (hv : mget es (ptV s q) = none) :
 Calls Tryz.prog 139 #[.pointer (some ⟨wb, 0, none⟩), .int .i64 (s : Nat), .int .i64 (q : Nat)] w (OwnPost B wb R p A K c kc (ownL p.ops p.parts.toNat s q) w) := by
 have HH := Lib.hid (show hasB p (ptV s q) = true from (by unfold hasB ptV; simp only [Bool.and_eq_true, decide_eq_true_eq]; omega))
 have hg := good_own hp hs hq
 have hgl := hg.len
 have HW := Lib.hid h
 have HP := Lib.hid hp
 have HV := Lib.hid hv
 have HD := Lib.hid (pdown_all (s + 1))
 have HL := Lib.hid (show down p.ops p.parts.toNat (s + 1) s q [] = ownL p.ops p.parts.toNat s q from rfl)
 have HS := Lib.hid (show ownL p.ops p.parts.toNat s q = ownL p.ops p.parts.toNat s q from rfl)
 obtain ⟨l, hl⟩ : ∃ l, l = ownL p.ops p.parts.toNat s q := ⟨_, rfl⟩
 rw [← hl] at hgl HL ⊢
 have HLl := Lib.hid hl
 clear h hp hv hg hl HS
 go_enter Tryz.func139, Tryz.ntmps139
 go_wp2_with (first
  | (go_at_call 112; refine (has_c B wb R p A K c kc (ptV s q) _ (WaysIs.ext ⟨mb, es, HW.out⟩ (ext_alloc (Below.refl _ _) _)) HP.out).mono ?_; rw [HH.out]; rintro e w1 ⟨rfl, hb⟩
     have HB1 := Lib.hid (ext_trans (ext_alloc (Below.refl _ _) _) hb)
     have HX1 := Lib.hid ((Bk.new w 35 #[.int .i64 1, .int .i64 (s : Nat), .int .i64 (q : Nat)]).ext hb)
     have HW1 := Lib.hid (HW.out.fr (S := No) (Fr.of_below HB1.out) (fun _ _ h => h) (fun _ _ h => h))
     have x0 : w1.cell? ⟨w.heap.size, 0, none⟩ = some (.int .i64 1) := (HX1.out.cell 0).trans rfl
     have x1 : w1.cell? ⟨w.heap.size, 1, none⟩ = some (.int .i64 (s : Nat)) := (HX1.out.cell 1).trans rfl
     have x2 : w1.cell? ⟨w.heap.size, 2, none⟩ = some (.int .i64 (q : Nat)) := (HX1.out.cell 2).trans rfl
     have z3 : w1.cell? ⟨wb, 3, none⟩ = some (.map (some mb)) := (HW1.out.bk.cell 3).trans rfl
     have hxl := HX1.out.lt
     have hwl := HW1.out.bk.lt
     clear hb))
 have hl := fun n => (HW1.out.map.drewN n).lookup_ok idKey (t := 172) (e := 33) (by kernel_rfl) (zero_ids _) (ptV s q)
 rw [HV.out] at hl
 simp only [ptV, Option.isSome_none, Option.getD_none] at hl
 go_quiet (fail)
 clear hl
 go_upto_region 9 with (first
  | (go_at_call 175; refine (HD.out _ _ _ wb p A K c kc s q _ [] _ _ HP.out (WPre.start (HW1.out.ext (below_drewN (Below.refl _ _) _))) (Nat.lt_succ_self _) hs hq).mono ?_; rw [HL.out]; rintro e w2 ⟨A5, c5, rfl, hown, hw, hkp⟩
     have HB2 := Lib.hid (show Below w.heap.size w w2 from (ext_alloc (below_drewN HB1.out _) _).trans (hkp.below HB1.out.size (Nat.le_succ_of_le HB1.out.size) (Nat.le_trans HB1.out.size (by simp))))
     have HW2 := Lib.hid (HW.out.ext HB2.out)
     have HX2 := Lib.hid (hkp.bk (((HX1.out.drewN _).alloc _)) (Nat.ne_of_lt HX1.out.lt) (.inl (Nat.lt_succ_of_lt HX1.out.lt)))
     have HK2 := Lib.hid hw
     have HO2 := Lib.hid hown
     have x0 : w2.cell? ⟨w.heap.size, 0, none⟩ = some (.int .i64 1) := (HX2.out.cell 0).trans rfl
     have x1 : w2.cell? ⟨w.heap.size, 1, none⟩ = some (.int .i64 (s : Nat)) := (HX2.out.cell 1).trans rfl
     have x2 : w2.cell? ⟨w.heap.size, 2, none⟩ = some (.int .i64 (q : Nat)) := (HX2.out.cell 2).trans rfl
     have z3 : w2.cell? ⟨wb, 3, none⟩ = some (.map (some mb)) := (HW2.out.bk.cell 3).trans rfl
     have k1 : w2.cell? ⟨w1.heap.size, 1, none⟩ = some (.slice A5 l.length c5) := (HK2.out.cell 1).trans rfl
     have hxl := HX2.out.lt
     have hwl := HW2.out.bk.lt
     have hkl := HK2.out.lt
     clear hown hw hkp))
 obtain ⟨w3, hrun3, hm3, hg3, hs3⟩ := (HW2.out.map.drew).store idKey Tryz.underlying172 (ptV s q) (.slice A5 l.length c5)
 have HM3 := Lib.hid hm3
 have HG3 := Lib.hid hg3
 have HS3 := Lib.hid hs3
 simp only [idV, ptV] at hrun3
 have HX3 := Lib.hid (HX2.out.drew.grown hg3 (fun e => HW2.out.map.ne_cells HX2.out (by injection e with e; exact e.symm)))
 have HV3 := Lib.hid (HW2.out.bk.drew.grown hg3 (fun e => HW2.out.map.ne_cells HW2.out.bk (by injection e with e; exact e.symm)))
 have w0 : w3.cell? ⟨w.heap.size, 0, none⟩ = some (.int .i64 1) := (HX3.out.cell 0).trans rfl
 have w1' : w3.cell? ⟨w.heap.size, 1, none⟩ = some (.int .i64 (s : Nat)) := (HX3.out.cell 1).trans rfl
 have w2' : w3.cell? ⟨w.heap.size, 2, none⟩ = some (.int .i64 (q : Nat)) := (HX3.out.cell 2).trans rfl
 have w3' : w3.cell? ⟨wb, 3, none⟩ = some (.map (some mb)) := (HV3.out.cell 3).trans rfl
 clear hm3 hg3 hs3
 go_region_held3 (fun w' => w'.cell? ⟨w.heap.size, 0, none⟩ = some (.int .i64 1) ∧ w'.cell? ⟨w.heap.size, 1, none⟩ = some (.int .i64 (s : Nat)) ∧ w'.cell? ⟨w.heap.size, 2, none⟩ = some (.int .i64 (q : Nat)) ∧ w'.cell? ⟨wb, 3, none⟩ = some (.map (some mb)))
  (go_keep) (fail)
 clear hrun3 w0 w1' w2' w3'
 have HO2' := Lib.hid (show w2.drew.ownsRow (w1.heap.size + 1) 35 3 (.slice A5 l.length c5) l.length (ptsC l) from HO2.out)
 have HW3 := Lib.hid (show WaysAt B wb mb (fun k => R k ∨ (Value.slice A5 l.length c5).ownBlock = some k) p A K c kc (mset es (ptV s q) (.slice A5 l.length c5)) w3 from (by
  have h1 := WaysAt.lay (w := w2.drew) (w' := w3) (s := s) (q := q) (A1 := A5) (c1 := c5) (base := w1.heap.size + 1) (HW2.out.ext (below_drewN (Below.refl _ _) 1))
  rw [← HLl.out] at h1
  exact h1 HG3.out HM3.out HO2'.out (by have := HW1.out.bd _ HW1.out.rw; omega)))
 have HO3 := Lib.hid (show w3.ownsRow (w1.heap.size + 1) 35 3 (.slice A5 l.length c5) l.length (ptsC l) from own_fr (S := fun k => k = mb) HO2'.out (Fr.refl.grown HG3.out (fun k hk => .inl (by injection hk with hk; exact hk.symm))) (fun k hk e => by
  subst e
  obtain ⟨es0, cl0, hmo⟩ := HW2.out.map.obj
  rcases HO2'.out.2 with ⟨hv, _⟩ | ⟨g, c, cur, hv, hb, hg, _⟩
  · rw [hv] at hk; cases hk
  · rw [hv] at hk
    injection hk with hk
    subst hk
    rw [show w2.drew.heap = w2.heap from rfl, hmo] at hg
    cases hg))
 go_wp2_with (first
  | (at_builtin; refine wpList_appR pt_app _ rfl (.const (.slice none 0 0)) (.tmp 46) rfl w3.heap.size (.slice none 0 0) [] rfl (World.ownsRow_nil _ _ _ _) l 0 A5 l.length c5 rfl rfl (by rw [← ptsC_eq]; exact Rd.of_own HO3.out) (by simp only [List.length_nil]; omega) (Nat.le_refl _) ?_; intro A2 c2 w4 hown2 hg2 hc2; have HO4 := Lib.hid hown2; have HG4 := Lib.hid hg2; clear hown2 hg2))
 go_ret
 have hB4 : Below w3.heap.size w3 w4 := (Below.refl _ _).grown HG4.out (Nat.le_refl _) (fun k hk => by cases hk)
 refine ⟨A2, c2, _, rfl, by rw [ptsC_eq]; exact own_mono HO4.out (by have h1 := HB2.out.size; have h2 := HS3.out; simp only [World.size_drew] at h2; omega), ?_, ⟨mb, _, HW3.out.ext hB4⟩, fun k hk => ?_, fun k hk hR => ?_⟩
 · refine Fr.ext ((Fr.of_below (S := R) HB2.out).drew.grown HG3.out (fun k hk => .inl ?_)) hB4
   injection hk with hk
   rw [← hk]
   exact HW.out.rm
 · rcases hk with hk | hk
   · exact .inl hk
   · refine .inr ?_
     have h1 := (HO2'.out.lt k hk).1
     have h2 := HB1.out.size
     omega
 · have h1 := (HO4.out.lt k hk).1
   have h2 := (HW3.out.bd k hR).2
   omega
theorem own_c (B wb : Nat) (R : Nat → Prop) (p : PlanD) (A K : Option Addr) (c kc : Nat) (s q : Nat) (w : World) (h : WaysIs B wb R p A K c kc w) (hp : Shaped p) (hs : s < p.ops.length) (hq : q < p.parts.toNat) :
 Calls Tryz.prog 139 #[.pointer (some ⟨wb, 0, none⟩), .int .i64 (s : Nat), .int .i64 (q : Nat)] w (OwnPost B wb R p A K c kc (ownL p.ops p.parts.toNat s q) w) := by
 obtain ⟨mb, es, h⟩ := h
 cases hv : mget es (ptV s q) with
 | some v => exact own_hit_c B wb mb R p A K c kc es s q v w h hp hs hq hv
 | none => exact own_miss_c B wb mb R p A K c kc es s q w h hp hs hq hv
end Go.Proofs.YtapjhliglmohgaaGreatDoor
/- The ways of a plan, in the program: Needs. -/
namespace Go.Proofs.YtapjhliglmohgaaGreatDoor
open Go.RowKit Go.Sort
def pb (b : Int) (y : Pt) : Id3 := ⟨b, (y.1 : Nat), (y.2 : Nat)⟩
def isSt (ops : List OpD) (s : Nat) : Bool := ((ops[s]?).map fun o => decide (o.k = 8)).getD false
/-- What a piece needs. -/
def needsL (p : PlanD) (b : Int) (s q : Nat) : List Id3 := (ownL p.ops p.parts.toNat s q).map (pb b) ++ (if isSt p.ops s && decide (1 < b) then [⟨b - 1, (s : Nat), (q : Nat)⟩] else [])
/-- The first i of them bear the batch's number. -/
def mixL (b : Int) (i : Nat) (l : List Pt) : List Id3 := (l.take i).map (pb b) ++ (l.drop i).map pid
theorem mixL_zero (b : Int) (l : List Pt) : mixL b 0 l = l.map pid := by simp [mixL]
theorem mixL_full (b : Int) (l : List Pt) : mixL b l.length l = l.map (pb b) := by simp [mixL]
theorem mixL_len (b : Int) (i : Nat) (l : List Pt) : (mixL b i l).length = l.length := by simp [mixL]; omega
theorem flat_set {α : Type} (f : α → List Value) (z : Nat) (hz : ∀ x, (f x).length = z) (u : Value) (j : Nat) (hj : j < z) : ∀ (l1 : List α) (x y : α) (l2 : List α), (f x).set j u = f y → ((l1 ++ x :: l2).flatMap f).set (l1.length * z + j) u = (l1 ++ y :: l2).flatMap f
 | [], x, y, l2, h => by
   simp only [List.nil_append, List.flatMap_cons, List.length_nil, Nat.zero_mul, Nat.zero_add]
   rw [List.set_append_left _ _ (by rw [hz]; exact hj), h]
 | a :: l1, x, y, l2, h => by
   have ih := flat_set f z hz u j hj l1 x y l2 h
   simp only [List.cons_append, List.flatMap_cons, List.length_cons]
   rw [List.set_append_right _ _ (by rw [hz, Nat.add_mul]; omega), hz]
   congr 1
   rw [← ih]
   congr 1
   rw [Nat.add_mul]; omega
theorem mixL_set {b : Int} {i : Nat} {l : List Pt} (hi : i < l.length) : (idsC (mixL b i l)).set (i * 3) (.int .i64 b) = idsC (mixL b (i + 1) l) := by
 have h1 : mixL b i l = (l.take i).map (pb b) ++ pid l[i] :: (l.drop (i + 1)).map pid := by
  unfold mixL
  rw [List.drop_eq_getElem_cons hi]
  rfl
 have h2 : mixL b (i + 1) l = (l.take i).map (pb b) ++ pb b l[i] :: (l.drop (i + 1)).map pid := by
  unfold mixL
  rw [List.take_succ_eq_append_getElem hi, List.map_append, List.append_assoc]
  rfl
 have h3 : ((l.take i).map (pb b)).length = i := by simp; omega
 have h4 := flat_set idC 3 (fun _ => rfl) (.int .i64 b) 0 (by omega) ((l.take i).map (pb b)) (pid l[i]) (pb b l[i]) ((l.drop (i + 1)).map pid) rfl
 rw [h3] at h4
 rw [h1, h2]
 exact h4
def NeedsPost (B wb : Nat) (R : Nat → Prop) (p : PlanD) (A K : Option Addr) (c kc : Nat) (l : List Id3) (w : World) (e : Ending) (w' : World) : Prop :=
 ∃ (A1 : Option Addr) (c1 : Nat) (R' : Nat → Prop), e = .returned (.slice A1 l.length c1) ∧ w'.ownsRow w.heap.size 35 3 (.slice A1 l.length c1) l.length (idsC l) ∧ Fr R w w' ∧ WaysIs B wb R' p A K c kc w' ∧ (∀ k, R' k → R k ∨ w.heap.size ≤ k) ∧ (∀ k, (Value.slice A1 l.length c1).ownBlock = some k → ¬ R' k)
structure NInv (B wb : Nat) (R R' : Nat → Prop) (p : PlanD) (A K : Option Addr) (c kc : Nat) (b : Int) (s q : Nat) (w0 : World) (base n : Nat) (v : Value) (l : List Id3) (w : World) : Prop where
 own : w.ownsRow base 35 3 v n (idsC l)
 fr : Fr R w0 w
 ways : WaysIs B wb R' p A K c kc w
 box : Bk w w0.heap.size 35 #[.int .i64 b, .int .i64 (s : Nat), .int .i64 (q : Nat)]
theorem NInv.set_ {B wb : Nat} {R R' : Nat → Prop} {p : PlanD} {A K : Option Addr} {c kc : Nat} {b : Int} {s q : Nat} {w0 : World} {base : Nat} {l l' : List Id3} {w : World} {g cap j n : Nat} {u : Value} (h : NInv B wb R R' p A K c kc b s q w0 base n (.slice (some ⟨g, 0, none⟩) n cap) l w) (hb : w0.heap.size < base) (hl : (idsC l).set j u = idsC l') (hR : ¬ R' g) (hB : B ≤ w0.heap.size) :
 NInv B wb R R' p A K c kc b s q w0 base n (.slice (some ⟨g, 0, none⟩) n cap) l' (w.setCell ⟨g, j, none⟩ u) := by
 have hg : base ≤ g := (h.own.lt g rfl).1
 refine ⟨?_, h.fr.set_ (.inr (by show w0.heap.size ≤ g; omega)) u, h.ways.fr (Fr.one w g j u) (fun k hk e => hR (e ▸ hk)) (fun k hk e => by omega), h.box.far (by show w0.heap.size ≠ g; omega) u⟩
 rw [← hl]
 exact own_set h.own j u
set_option maxRecDepth 100000 in
set_option maxHeartbeats 4000000 in
theorem needs_yes (B wb : Nat) (R : Nat → Prop) (p : PlanD) (A K : Option Addr) (c kc : Nat) (b : Int) (s q : Nat) (w : World) (h : WaysIs B wb R p A K c kc w) (hp : Shaped p) (hb1 : 1 ≤ b) (hb2 : b ≤ 9223372036854775807) (hs : s < p.ops.length) (hq : q < p.parts.toNat) :
 Calls Tryz.prog 82 #[.pointer (some ⟨wb, 0, none⟩), idV ⟨b, (s : Nat), (q : Nat)⟩] w (NeedsPost B wb R p A K c kc (needsL p b s q) w) := by
 have hn12 := hp.n12
 have HH := Lib.hid (show hasB p ⟨b, (s : Nat), (q : Nat)⟩ = true from (by unfold hasB; simp only [Bool.and_eq_true, decide_eq_true_eq]; omega))
 have hgl := (good_own hp hs hq).len
 have hy : p.ops[s]? = some (p.ops[s]) := List.getElem?_eq_getElem hs
 generalize p.ops[s] = o at hy
 have HN := Lib.hid (show needsL p b s q = (ownL p.ops p.parts.toNat s q).map (pb b) ++ (if decide (o.k = 8) && decide (1 < b) then [⟨b - 1, (s : Nat), (q : Nat)⟩] else []) from (by unfold needsL isSt; rw [hy]; rfl))
 have HW := Lib.hid h
 have HP := Lib.hid hp
 have HY := Lib.hid hy
 have HO := Lib.hid (own_c B wb R p A K c kc s q)
 obtain ⟨l, hl⟩ : ∃ l, l = ownL p.ops p.parts.toNat s q := ⟨_, rfl⟩
 rw [← hl] at hgl HN HO
 clear h hp hy hl
 go_enter Tryz.func82, Tryz.ntmps82
 go_wp2_with (first
  | (go_at_call 112; refine (has_c B wb R p A K c kc ⟨b, (s : Nat), (q : Nat)⟩ _ (HW.out.ext (ext_alloc (Below.refl _ _) _)) HP.out).mono ?_; rw [HH.out]; rintro e w1 ⟨rfl, hb⟩
     have HB1 := Lib.hid (ext_trans (ext_alloc (Below.refl _ _) _) hb)
     have HX1 := Lib.hid ((Bk.new w 35 #[.int .i64 b, .int .i64 (s : Nat), .int .i64 (q : Nat)]).ext hb)
     have HW1 := Lib.hid (HW.out.ext HB1.out)
     have x0 : w1.cell? ⟨w.heap.size, 0, none⟩ = some (.int .i64 b) := (HX1.out.cell 0).trans rfl
     have x1 : w1.cell? ⟨w.heap.size, 1, none⟩ = some (.int .i64 (s : Nat)) := (HX1.out.cell 1).trans rfl
     have x2 : w1.cell? ⟨w.heap.size, 2, none⟩ = some (.int .i64 (q : Nat)) := (HX1.out.cell 2).trans rfl
     have hxl := HX1.out.lt
     clear hb)
  | (go_at_call 139; refine (HO.out _ HW1.out HP.out hs hq).mono ?_; rintro e w2 ⟨A1, c1, R', rfl, hown, hfr, hW, hR, hd⟩
     have HO2 := Lib.hid hown
     have HF2 := Lib.hid hfr
     have HW2 := Lib.hid hW
     have HR2 := Lib.hid hR
     have HD2 := Lib.hid hd
     have HX2 := Lib.hid (HX1.out.fr hfr (fun hR => by have := (HW.out.bd _ hR).2; omega))
     clear hown hfr hW hR hd))
 have hBw := (HW.out.bd)
 obtain ⟨mb0, es0, hw0⟩ := HW.out
 have hBl : B ≤ w.heap.size := by have := hw0.bd _ hw0.rw; omega
 have hwl1 : w.heap.size < w1.heap.size := HX1.out.lt
 have HI := Lib.hid (show NInv B wb R R' p A K c kc b s q w w1.heap.size l.length (.slice A1 l.length c1) (mixL b 0 l) w2 from ⟨by rw [mixL_zero]; exact HO2.out, (Fr.of_below HB1.out).trans HF2.out (fun k hk => .inl hk), HW2.out, HX2.out⟩)
 clear x0 x1 x2 hxl hBw hw0
 go_loopg [19] l.length (fun gk v19 wr => ∃ i : Nat, i + gk = l.length ∧ v19 = .int .i64 (i : Nat) ∧ NInv B wb R R' p A K c kc b s q w w1.heap.size l.length (.slice A1 l.length c1) (mixL b i l) wr)
 case atStart => exact ⟨0, by omega, rfl, HI.out⟩
 case round =>
  obtain ⟨i, hik, rfl, hI⟩ := hrel
  have HIw := Lib.hid hI
  have x0 : wr.cell? ⟨w.heap.size, 0, none⟩ = some (.int .i64 b) := (hI.box.cell 0).trans rfl
  have x1 : wr.cell? ⟨w.heap.size, 1, none⟩ = some (.int .i64 (s : Nat)) := (hI.box.cell 1).trans rfl
  have x2 : wr.cell? ⟨w.heap.size, 2, none⟩ = some (.int .i64 (q : Nat)) := (hI.box.cell 2).trans rfl
  have hxl := hI.box.lt
  clear hI
  by_cases hi : i < l.length
  · obtain ⟨g, rfl, hgb, hgc⟩ := own_some HIw.out.own (by omega)
    have c0 := HIw.out.own.cellAt (i * 3) (by omega)
    have f0 := own_frozen HIw.out.own (i * 3)
    obtain ⟨u0, hu0⟩ : ∃ u0, (idsC (mixL b i l))[i * 3]? = some u0 := ⟨_, List.getElem?_eq_getElem (by rw [idsC_len, mixL_len]; omega)⟩
    rw [hu0] at c0
    obtain ⟨ad, had⟩ : ∃ ad : Addr, ad = ⟨g, 0, none⟩ := ⟨_, rfl⟩
    have HN2 := Lib.hid ((HIw.out.set_ (j := i * 3) (u := .int .i64 b) hwl1 (mixL_set hi) (HD2.out g rfl) hBl))
    rw [← adr1 (i := i * 3) had] at c0 f0
    rw [← adr1 (i := i * 3) had, ← had] at HN2
    rw [← had] at ⊢
    have hgl : g < wr.heap.size := (HIw.out.own.lt g rfl).2
    have hadl : (ad.add (i * 3)).block = g := by rw [adr1 had]
    have HAD := Lib.hid had
    clear hu0 had
    go_wp2_with fail
    have had := HAD.out
    subst had
    go_roundg (gk - 1)
    case measure => omega
    case rel => exact ⟨i + 1, by omega, by go_num, HN2.out⟩
  · have hil : i = l.length := by omega
    subst hil
    rw [mixL_full] at HIw
    obtain ⟨mb, es, hw⟩ := HIw.out.ways
    have z2 : wr.cell? ⟨wb, 2, none⟩ = some (.slice A p.ops.length c) := (hw.bk.cell 2).trans rfl
    obtain ⟨ado, rfl, d0, d1, d2, d3, d4⟩ := (hw.ops.rd (e := 48) (Nat.le_refl _)).ops HY.out hs
    have hdl := World.block_lt_of_cell? wr _ d0
    have hwl := hw.bk.lt
    have HAU := Lib.hid HIw.out.own
    clear hw
    cases hk : decide (o.k = 8) && decide (1 < b) with
    | false =>
      rw [hk, if_neg (by simp), List.append_nil] at HN
      by_cases h8 : o.k = 8
      · have hb3 : decide (1 < b) = false := by simpa [h8] using hk
        have e8 : (o.k == 8) = true := by simp [h8]
        rw [h8] at d0
        clear hk h8 e8
        go_wp2_with fail
        go_quiet (fail)
        go_wp2_with fail
        go_ret
        rw [HN.out]
        have HIq := HIw.out
        refine ⟨A1, c1, R', by rw [List.length_map]; rfl, ?_, HIq.fr.drewN _, HIq.ways.ext (below_drewN (Below.refl _ _) _), fun k hk => ?_, by rw [List.length_map]; exact HD2.out⟩
        · rw [List.length_map]
          exact own_mono HIq.own (Nat.le_of_lt hwl1)
        · rcases HR2.out k hk with h | h
          · exact .inl h
          · exact .inr (by omega)
      · have e8 : (o.k == 8) = false := by simp [h8]
        clear hk h8
        go_wp2_with fail
        go_quiet (fail)
        go_wp2_with fail
        go_ret
        rw [HN.out]
        have HIq := HIw.out
        refine ⟨A1, c1, R', by rw [List.length_map]; rfl, ?_, HIq.fr.drewN _, HIq.ways.ext (below_drewN (Below.refl _ _) _), fun k hk => ?_, by rw [List.length_map]; exact HD2.out⟩
        · rw [List.length_map]
          exact own_mono HIq.own (Nat.le_of_lt hwl1)
        · rcases HR2.out k hk with h | h
          · exact .inl h
          · exact .inr (by omega)
    | true =>
      rw [hk, if_pos rfl] at HN
      simp only [Bool.and_eq_true, decide_eq_true_eq] at hk
      obtain ⟨h8, hb3⟩ := hk
      have u3 : decide (1 < b) = true := decide_eq_true hb3
      rw [h8] at d0
      have e3 : IntKind.i64.wrap (b - 1) = b - 1 := IntWalk.i64_in _ (by omega)
      go_wp2_with fail
      go_quiet (fail)
      go_wp2_with (first
       | (at_builtin; refine wpList_appF id_app _ rfl (.tmp 45) (.tmp 54) rfl w.heap.size (.slice A1 l.length c1) (l.map (pb b)) (by rfl) ((by rw [List.length_map]; exact (own_ext (own_mono HAU.out (Nat.le_of_lt hwl1)) (below_drewN (Below.refl _ _) _)).alloc _)) ⟨b - 1, (s : Nat), (q : Nat)⟩ _ rfl (Bk.new _ _ _) (by rw [List.length_map]; omega) (by have := HIw.out.fr.size; simp only [World.size_alloc, World.heap_drewN]; omega) ?_; intro A2 c2 w3 hown2 hg2 hc2 hj2
          have HO3 := Lib.hid hown2; have HG3 := Lib.hid hg2; have HJ3 := Lib.hid hj2; clear hown2 hg2 hj2))
      go_ret
      rw [HN.out]
      have HIq := HIw.out
      have hsz : w.heap.size ≤ wr.heap.size := HIq.fr.size
      have hW3 : WaysIs B wb R' p (some ado) K c kc w3 := (HIq.ways.ext (ext_alloc (below_drewN (Below.refl _ _) _) _)).fr (S := fun k => (Value.slice A1 l.length c1).ownBlock = some k) (Fr.refl.grown HG3.out (fun k hk => .inl hk)) (fun k hk he => HD2.out k he hk) (fun k hk he => by have := (HIq.own.lt k he).1; omega)
      refine ⟨A2, c2, R', by rw [List.length_append, List.length_map]; rfl, HO3.out, ((HIq.fr.drewN _).alloc _).grown HG3.out (fun k hk => .inr (by have := (HIq.own.lt k hk).1; omega)), hW3, fun k hk => ?_, fun k hk hR => ?_⟩
      · rcases HR2.out k hk with h | h
        · exact .inl h
        · exact .inr (by omega)
      · rcases HJ3.out with h | h
        · rw [h] at hk
          exact HD2.out k hk hR
        · rw [h] at hk
          injection hk with hk
          have := (HIq.ways.bd k hR).2
          simp only [World.size_alloc, World.heap_drewN] at hk
          omega
end Go.Proofs.YtapjhliglmohgaaGreatDoor
