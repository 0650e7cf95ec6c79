/- WayC, WayD, WayE, Fr, WireP, Wire, WireB, WireC: laid together. -/
import Derived.Test.YtipfoljmdeiggaaGreatDoorPwD
import Derived.Handy
import Derived.Laws.BitsAllLaws

/- The way down, in the program: come. -/
namespace Go.Proofs.YtipfoljmdeiggaaGreatDoor
open Go.RowKit Go.Sort

theorem WKeep.set_ {base kb : Nat} {w w' : World} (h : WKeep base kb w w') (i : Nat) (u : Value) : WKeep base kb w (w'.setCell ⟨kb, i, none⟩ u) :=
  ⟨h.os, h.tape, h.output, by simpa using h.size, fun k o ho hn hc => (Below.heap_setCell w' ⟨kb, i, none⟩ u k hn).trans (h.block k o ho hn hc)⟩
theorem contains_pt (B : Nat) (out : List Pt) (A : Option Addr) (c s q : Nat) (w : World) (h : Rd w B 61 3 A out.length (ptsC out)) (hl : out.length ≤ 1000000) :
    Calls Tryz.prog 165 #[.slice A out.length c, .agg #[.int .i64 0, .int .i64 (s : Nat), .int .i64 (q : Nat)]] w (BoolPost w (decide ((s, q) ∈ out))) := by
  have h1 := contains_c B (out.map pid) A c (pid (s, q)) w (by rw [List.length_map]; exact h) (by rw [List.length_map]; exact hl)
  rw [List.length_map] at h1
  have hm : pid (s, q) ∈ out.map pid ↔ (s, q) ∈ out := ⟨fun h => by obtain ⟨y, hy, e⟩ := List.mem_map.1 h; rw [← pid_inj e]; exact hy, fun h => List.mem_map_of_mem h⟩
  rw [decide_eq_decide.2 hm] at h1
  exact h1
def PDown (f : Nat) : Prop := ∀ (B base kb wb : Nat) (p : PlanD) (A K : Option Addr) (c kc s q : Nat) (m : Value) (out : List Pt) (v : Value) (w : World), Shaped p → WPre B base kb wb p A K c kc m w v out → s < f → s < p.ops.length → q < p.parts.toNat →
  Calls Tryz.prog 284 #[.pointer (some ⟨kb, 0, none⟩), .int .i64 (s : Nat), .int .i64 (q : Nat)] w (WPost base kb wb w (down p.ops p.parts.toNat f s q out))
def PCome (f : Nat) : Prop := ∀ (B base kb wb : Nat) (p : PlanD) (A K : Option Addr) (c kc s q : Nat) (m : Value) (out : List Pt) (v : Value) (w : World), Shaped p → WPre B base kb wb p A K c kc m w v out → s < f → s < p.ops.length → q < p.parts.toNat →
  Calls Tryz.prog 313 #[.pointer (some ⟨kb, 0, none⟩), .int .i64 (s : Nat), .int .i64 (q : Nat)] w (WPost base kb wb w (comeL p.ops p.parts.toNat f s q out))
set_option maxRecDepth 100000 in
set_option maxHeartbeats 4000000 in
theorem pcome_c (f : Nat) (hd : PDown f) : PCome f := by
  intro B base kb wb p A K c kc s q m out v w hp hpre hsf hsn hq
  obtain ⟨kad, rfl, k0⟩ := kept_cell hpre.kept hsn hsn
  have hkl := World.block_lt_of_cell? w _ k0
  have y0 : w.cell? ⟨kb, 0, none⟩ = some (.pointer (some ⟨wb, 0, none⟩)) := (hpre.walk.cell 0).trans rfl
  have y1 : w.cell? ⟨kb, 1, none⟩ = some v := (hpre.walk.cell 1).trans rfl
  have z0 : w.cell? ⟨wb, 0, none⟩ = some (.slice (some kad) p.ops.length kc) := (hpre.ways.cell 0).trans rfl
  have hkbl := hpre.walk.lt
  have hwbl := hpre.ways.lt
  have HP := Lib.hid hp
  have HPre := Lib.hid hpre
  cases hk : keptAt p.ops s with
  | false =>
    rw [hk] at k0
    have HC := Lib.hid (show comeL p.ops p.parts.toNat f s q out = down p.ops p.parts.toNat f s q out from (by unfold comeL; rw [if_neg (by rw [hk]; simp)]))
    have HD := Lib.hid hd
    clear hp hpre hk hd
    go_enter Tryz.func313, Tryz.ntmps313
    go_wp2_with (first | (go_at_call 284; refine (HD.out B base kb wb p A (some kad) c kc s q m out v _ HP.out HPre.out hsf hsn hq).mono ?_; rintro e w1 ⟨A5, c5, rfl, hown, hw, hkp⟩))
    go_returns
    rw [HC.out]
    exact ⟨A5, c5, rfl, hown, hw, hkp⟩
  | true =>
    rw [hk] at k0
    obtain ⟨A4, c4, rfl, hc4⟩ := own_shape hpre.own
    have HC := Lib.hid (show comeL p.ops p.parts.toNat f s q out = (if (s, q) ∈ out then out else out ++ [(s, q)]) from (by unfold comeL; rw [if_pos hk]))
    have hlen := hpre.good.len
    have hmem : pid (s, q) ∈ out.map pid ↔ (s, q) ∈ out := ⟨fun h => by obtain ⟨y, hy, e⟩ := List.mem_map.1 h; rw [← pid_inj e]; exact hy, fun h => List.mem_map_of_mem h⟩
    have HM := Lib.hid hmem
    clear hp hpre hk hd hmem
    go_enter Tryz.func313, Tryz.ntmps313
    go_wp2_with fail
    have hne1 : kb ≠ w.heap.size := by omega
    have hne2 : w.heap.size ≠ kb := by omega
    by_cases hin : (s, q) ∈ out
    · have HIN := Lib.hid (show decide ((s, q) ∈ out) = true from decide_eq_true hin)
      have HE := Lib.hid (show comeL p.ops p.parts.toNat f s q out = out from (by rw [HC.out, if_pos hin]))
      clear hin
      go_region_held3 (fun w' => w'.cell? ⟨kb, 1, none⟩ = some (.slice A4 out.length c4) ∧ w'.cell? ⟨w.heap.size, 0, none⟩ = some (.int .i64 0) ∧ w'.cell? ⟨w.heap.size, 1, none⟩ = some (.int .i64 (s : Nat)) ∧ w'.cell? ⟨w.heap.size, 2, none⟩ = some (.int .i64 (q : Nat)))
        (go_keep)
        (first
          | (go_at_call 165; refine (contains_pt B out A4 c4 s q _ (Rd.of_own (own_ext HPre.out.own (by repeat (first | exact Below.refl _ _ | refine ext_alloc ?_ _ | refine Below.drew ?_)))) (by omega)).mono ?_
             rw [HIN.out]
             rintro e w1 ⟨rfl, hb⟩
             have HB1 := Lib.hid (show Below w.heap.size w w1 from ext_trans (by repeat (first | exact Below.refl _ _ | refine ext_alloc ?_ _ | refine Below.drew ?_)) hb)
             have HX1 := Lib.hid (show Bk w1 w.heap.size 61 #[.int .i64 0, .int .i64 (s : Nat), .int .i64 (q : Nat)] from (Bk.new _ _ _).drew.ext hb)
             have q0 : w1.cell? ⟨w.heap.size, 0, none⟩ = some (.int .i64 0) := (HX1.out.cell 0).trans rfl
             have q1 : w1.cell? ⟨w.heap.size, 1, none⟩ = some (.int .i64 (s : Nat)) := (HX1.out.cell 1).trans rfl
             have q2 : w1.cell? ⟨w.heap.size, 2, none⟩ = some (.int .i64 (q : Nat)) := (HX1.out.cell 2).trans rfl
             have q3 : w1.cell? ⟨kb, 1, none⟩ = some (.slice A4 out.length c4) := ((HPre.out.walk.ext HB1.out).cell 1).trans rfl
             have hk1 := (HPre.out.walk.ext HB1.out).lt
             have hx1 := HX1.out.lt
             clear hb))
      all_goals
        go_wp2_with fail
        go_returns
        rw [HE.out]
        have HP1 := HPre.out.ext HB1.out
        exact ⟨A4, c4, rfl, HP1.own, HP1.walk, WKeep.of_below HB1.out⟩
    · have HIN := Lib.hid (show decide ((s, q) ∈ out) = false from decide_eq_false hin)
      have HE := Lib.hid (show comeL p.ops p.parts.toNat f s q out = out ++ [(s, q)] from (by rw [HC.out, if_neg hin]))
      clear hin
      go_region_held3 (fun w' => w'.cell? ⟨kb, 1, none⟩ = some (.slice A4 out.length c4) ∧ w'.cell? ⟨w.heap.size, 0, none⟩ = some (.int .i64 0) ∧ w'.cell? ⟨w.heap.size, 1, none⟩ = some (.int .i64 (s : Nat)) ∧ w'.cell? ⟨w.heap.size, 2, none⟩ = some (.int .i64 (q : Nat)))
        (go_keep)
        (first
          | (go_at_call 165; refine (contains_pt B out A4 c4 s q _ (Rd.of_own (own_ext HPre.out.own (by repeat (first | exact Below.refl _ _ | refine ext_alloc ?_ _ | refine Below.drew ?_)))) (by omega)).mono ?_
             rw [HIN.out]
             rintro e w1 ⟨rfl, hb⟩
             have HB1 := Lib.hid (show Below w.heap.size w w1 from ext_trans (by repeat (first | exact Below.refl _ _ | refine ext_alloc ?_ _ | refine Below.drew ?_)) hb)
             have HX1 := Lib.hid (show Bk w1 w.heap.size 61 #[.int .i64 0, .int .i64 (s : Nat), .int .i64 (q : Nat)] from (Bk.new _ _ _).drew.ext hb)
             have q0 : w1.cell? ⟨w.heap.size, 0, none⟩ = some (.int .i64 0) := (HX1.out.cell 0).trans rfl
             have q1 : w1.cell? ⟨w.heap.size, 1, none⟩ = some (.int .i64 (s : Nat)) := (HX1.out.cell 1).trans rfl
             have q2 : w1.cell? ⟨w.heap.size, 2, none⟩ = some (.int .i64 (q : Nat)) := (HX1.out.cell 2).trans rfl
             have q3 : w1.cell? ⟨kb, 1, none⟩ = some (.slice A4 out.length c4) := ((HPre.out.walk.ext HB1.out).cell 1).trans rfl
             have hk1 := (HPre.out.walk.ext HB1.out).lt
             have hx1 := HX1.out.lt
             clear hb))
      all_goals
        go_wp2_with fail
        have HO1 := Lib.hid (show w1.ownsRow base 61 3 (.slice A4 out.length c4) out.length (out.flatMap ptC) from (by rw [← ptsC_eq]; exact own_ext HPre.out.own HB1.out))
        refine wp_region_held_drew (S := (fun w' => w'.cell? ⟨w.heap.size, 0, none⟩ = some (.int .i64 0) ∧ w'.cell? ⟨w.heap.size, 1, none⟩ = some (.int .i64 (s : Nat)) ∧ w'.cell? ⟨w.heap.size, 2, none⟩ = some (.int .i64 (q : Nat)))) (by kernel_rfl) ?_ (fun hHeld => ?_)
        · go_keep
        refine wpAnyH_take (i := 0) (oi := { dst := some 32, op := Go.Op.move (Go.Operand.tmp 0), type := 370, pos := "way.go:56", after := #[], guard := none }) (v := ?v1z0) rfl (by kernel_rfl) (by kernel_rfl) (by kernel_rfl) (fun _ _ _ h => h) (Or.inl ⟨by rfl, ?hy1z0⟩) (by assumption) ?rest1z0
        case hy1z0 => (intro w hSw; (try dsimp only at hSw); go_simp; try (with_reducible rfl))
        simp only [Act.put, List.setIfInBounds_toArray, List.set_cons_zero, List.set_cons_succ]
        refine wpAnyH_take (i := 1) (oi := { dst := some 33, op := Go.Op.move (Go.Operand.tmp 0), type := 370, pos := "way.go:56", after := #[], guard := none }) (v := ?v1z1) rfl (by kernel_rfl) (by kernel_rfl) (by kernel_rfl) (fun _ _ _ h => h) (Or.inl ⟨by rfl, ?hy1z1⟩) (by assumption) ?rest1z1
        case hy1z1 => (intro w hSw; (try dsimp only at hSw); go_simp; try (with_reducible rfl))
        simp only [Act.put, List.setIfInBounds_toArray, List.set_cons_zero, List.set_cons_succ]
        refine wpAnyH_take (i := 2) (oi := { dst := some 34, op := Go.Op.nilCheck (Go.Operand.tmp 33), type := 0, pos := "way.go:56", after := #[{ on := 1, ground := Go.Ground.data }], guard := none }) (v := ?v1z2) rfl (by kernel_rfl) (by kernel_rfl) (by kernel_rfl) (fun _ _ _ h => h) (Or.inl ⟨by rfl, ?hy1z2⟩) (by assumption) ?rest1z2
        case hy1z2 => (intro w hSw; (try dsimp only at hSw); go_simp; try (with_reducible rfl))
        simp only [Act.put, List.setIfInBounds_toArray, List.set_cons_zero, List.set_cons_succ]
        refine wpAnyH_take (i := 3) (oi := { dst := some 35, op := Go.Op.fieldAddr 372 (Go.Operand.tmp 34) 1, type := 0, pos := "way.go:56", after := #[{ on := 2, ground := Go.Ground.data }], guard := none }) (v := ?v1z3) rfl (by kernel_rfl) (by kernel_rfl) (by kernel_rfl) (fun _ _ _ h => h) (Or.inl ⟨by rfl, ?hy1z3⟩) (by assumption) ?rest1z3
        case hy1z3 => (intro w hSw; (try dsimp only at hSw); go_simp; try (with_reducible rfl))
        simp only [Act.put, List.setIfInBounds_toArray, List.set_cons_zero, List.set_cons_succ]
        refine wpAnyH_take (i := 5) (oi := { dst := some 37, op := Go.Op.load 61 (Go.Operand.tmp 6), type := 61, pos := "way.go:56", after := #[], guard := none }) (v := ?v1z5) rfl (by kernel_rfl) (by kernel_rfl) (by kernel_rfl) (fun _ _ _ h => h) (Or.inl ⟨by rfl, ?hy1z5⟩) (by assumption) ?rest1z5
        case hy1z5 => (intro w hSw; (try dsimp only at hSw); go_simp; try (with_reducible rfl))
        simp only [Act.put, List.setIfInBounds_toArray, List.set_cons_zero, List.set_cons_succ]
        refine wpAnyH_ready (rs := [4, 6]) (by kernel_rfl) (by simp) ?_
        refine AllReadyH.cons (o := { dst := some 36, op := Go.Op.load 59 (Go.Operand.tmp 35), type := 59, pos := "way.go:56", after := #[{ on := 3, ground := Go.Ground.data }], guard := none }) rfl (fun K hK => ?_) ?_
        ·
          go_simp
          refine hK.out _ _ ?_ (fun hHeld => ?_)
          · go_keep
          clear hK K
          try simp only [Act.put, List.setIfInBounds_toArray, List.set_cons_zero, List.set_cons_succ]
          refine wpAnyH_ready (rs := [6]) (by kernel_rfl) (by simp) ?_
          refine AllReadyH.cons (o := { dst := some 38, op := Go.Op.buildSlice 59 1 #[(0, Go.Operand.tmp 37)], type := 59, pos := "way.go:56", after := #[{ on := 5, ground := Go.Ground.data }], guard := none }) rfl (fun K hK => ?_) ?_
          ·
            go_simp
            refine hK.out _ _ ?_ (fun hHeld => ?_)
            · go_keep
            clear hK K
            try simp only [Act.put, List.setIfInBounds_toArray, List.set_cons_zero, List.set_cons_succ]
            refine wpAnyH_ready (rs := [7]) (by kernel_rfl) (by simp) ?_
            refine AllReadyH.cons (o := { dst := some 39, op := Go.Op.call { callee := Go.Callee.builtin Go.Builtin.append, args := #[Go.Operand.tmp 36, Go.Operand.tmp 38], argTypes := #[59, 59] }, type := 59, pos := "way.go:56", after := #[{ on := 4, ground := Go.Ground.data }, { on := 6, ground := Go.Ground.data }], guard := none }) rfl (fun K hK => ?_) ?_
            ·
              refine step_appE pt_app _ rfl (.tmp 36) (.tmp 38) rfl base _ out (by rfl) (own_ext HO1.out (by repeat (first | exact Below.refl _ _ | refine ext_alloc ?_ _ | refine Below.drew ?_))) (s, q) _ (by rfl) (by first | exact Bk.new _ _ _ | exact (Bk.newAt (by simp))) (by omega) (by have h1 := HPre.out.bs; have h2 := HB1.out.size; simp only [World.size_alloc, World.size_drew]; omega) ?_
              intro A2 c2 w2 hown2 hg2 hc2
              have HG := Lib.hid (show WKeep base kb w w2 from (WKeep.of_below (ext_trans HB1.out (by repeat (first | exact Below.refl _ _ | refine ext_alloc ?_ _ | refine Below.drew ?_)))).trans (WKeep.of_grown (own_ext HO1.out (by repeat (first | exact Below.refl _ _ | refine ext_alloc ?_ _ | refine Below.drew ?_))) hg2))
              have HX2 := Lib.hid (show Bk w2 w.heap.size 61 #[.int .i64 0, .int .i64 (s : Nat), .int .i64 (q : Nat)] from ((HX1.out.ext (by repeat (first | exact Below.refl _ _ | refine ext_alloc ?_ _ | refine Below.drew ?_))).grown hg2 (fun e => by have := (HPre.out.own.lt _ e.symm).2; omega)))
              have HW2 := Lib.hid (show Bk w2 kb 372 #[.pointer (some ⟨wb, 0, none⟩), .slice A4 out.length c4] from ((HPre.out.walk.ext (ext_trans HB1.out (by repeat (first | exact Below.refl _ _ | refine ext_alloc ?_ _ | refine Below.drew ?_)))).grown hg2 (fun e => by have := (HPre.out.own.lt _ e.symm).1; have := HPre.out.kb; omega)))
              have r0 : w2.cell? ⟨w.heap.size, 0, none⟩ = some (.int .i64 0) := (HX2.out.cell 0).trans rfl
              have r1 : w2.cell? ⟨w.heap.size, 1, none⟩ = some (.int .i64 (s : Nat)) := (HX2.out.cell 1).trans rfl
              have r2 : w2.cell? ⟨w.heap.size, 2, none⟩ = some (.int .i64 (q : Nat)) := (HX2.out.cell 2).trans rfl
              have r3 : w2.cell? ⟨kb, 1, none⟩ = some (.slice A4 out.length c4) := (HW2.out.cell 1).trans rfl
              have r4 := HW2.out.frozen 1
              have HO2 := Lib.hid hown2
              clear hown2 hg2
              refine hK.out _ _ ?_ (fun hHeld => ?_)
              · go_keep
              clear hK K
              try simp only [Act.put, List.setIfInBounds_toArray, List.set_cons_zero, List.set_cons_succ]
              refine wpAnyH_take (i := 8) (oi := { dst := some 40, op := Go.Op.nilCheck (Go.Operand.tmp 32), type := 0, pos := "way.go:56", after := #[{ on := 0, ground := Go.Ground.data }, { on := 0, ground := Go.Ground.phase }, { on := 1, ground := Go.Ground.phase }, { on := 2, ground := Go.Ground.phase }, { on := 3, ground := Go.Ground.phase }, { on := 4, ground := Go.Ground.phase }, { on := 5, ground := Go.Ground.phase }, { on := 6, ground := Go.Ground.phase }, { on := 7, ground := Go.Ground.phase }], guard := none }) (v := ?v1z8) rfl (by kernel_rfl) (by kernel_rfl) (by kernel_rfl) (fun _ _ _ h => h) (Or.inl ⟨by rfl, ?hy1z8⟩) (by assumption) ?rest1z8
              case hy1z8 => (intro w hSw; (try dsimp only at hSw); go_simp; try (with_reducible rfl))
              simp only [Act.put, List.setIfInBounds_toArray, List.set_cons_zero, List.set_cons_succ]
              refine wpAnyH_take (i := 9) (oi := { dst := some 41, op := Go.Op.fieldAddr 372 (Go.Operand.tmp 40) 1, type := 0, pos := "way.go:56", after := #[{ on := 8, ground := Go.Ground.data }, { on := 0, ground := Go.Ground.phase }, { on := 1, ground := Go.Ground.phase }, { on := 2, ground := Go.Ground.phase }, { on := 3, ground := Go.Ground.phase }, { on := 4, ground := Go.Ground.phase }, { on := 5, ground := Go.Ground.phase }, { on := 6, ground := Go.Ground.phase }, { on := 7, ground := Go.Ground.phase }], guard := none }) (v := ?v1z9) rfl (by kernel_rfl) (by kernel_rfl) (by kernel_rfl) (fun _ _ _ h => h) (Or.inl ⟨by rfl, ?hy1z9⟩) (by assumption) ?rest1z9
              case hy1z9 => (intro w hSw; (try dsimp only at hSw); go_simp; try (with_reducible rfl))
              simp only [Act.put, List.setIfInBounds_toArray, List.set_cons_zero, List.set_cons_succ]
              refine wpAnyH_ready (rs := [10]) (by kernel_rfl) (by simp) ?_
              refine AllReadyH.cons (o := { dst := none, op := Go.Op.store 59 (Go.Operand.tmp 41) (Go.Operand.tmp 39), type := 0, pos := "way.go:56", after := #[{ on := 9, ground := Go.Ground.data }, { on := 7, ground := Go.Ground.data }, { on := 7, ground := Go.Ground.chain }, { on := 0, ground := Go.Ground.phase }, { on := 1, ground := Go.Ground.phase }, { on := 2, ground := Go.Ground.phase }, { on := 3, ground := Go.Ground.phase }, { on := 4, ground := Go.Ground.phase }, { on := 5, ground := Go.Ground.phase }, { on := 6, ground := Go.Ground.phase }, { on := 7, ground := Go.Ground.phase }], guard := none }) rfl (fun K hK => ?_) ?_
              ·
                go_simp
                refine hK.out _ _ ?_ (fun hHeld => ?_)
                · go_keep
                clear hK K
                try simp only [Act.put]
                refine wpAnyH_done (by kernel_rfl) ?_ _
                go_wp2_with fail
                go_returns
                rw [HE.out, show out.length + 1 = (out ++ [(s, q)]).length from by simp]
                refine ⟨A2, c2, rfl, ?_, HW2.out.set_ 1 _, HG.out.set_ 1 _⟩
                rw [ptsC_eq]
                exact own_far HW2.out HO2.out (by decide) 1 _
              exact AllReadyH.nil
            exact AllReadyH.nil
          exact AllReadyH.nil
        refine AllReadyH.cons (o := { dst := some 38, op := Go.Op.buildSlice 59 1 #[(0, Go.Operand.tmp 37)], type := 59, pos := "way.go:56", after := #[{ on := 5, ground := Go.Ground.data }], guard := none }) rfl (fun K hK => ?_) ?_
        ·
          go_simp
          refine hK.out _ _ ?_ (fun hHeld => ?_)
          · go_keep
          clear hK K
          try simp only [Act.put, List.setIfInBounds_toArray, List.set_cons_zero, List.set_cons_succ]
          refine wpAnyH_ready (rs := [4]) (by kernel_rfl) (by simp) ?_
          refine AllReadyH.cons (o := { dst := some 36, op := Go.Op.load 59 (Go.Operand.tmp 35), type := 59, pos := "way.go:56", after := #[{ on := 3, ground := Go.Ground.data }], guard := none }) rfl (fun K hK => ?_) ?_
          ·
            go_simp
            refine hK.out _ _ ?_ (fun hHeld => ?_)
            · go_keep
            clear hK K
            try simp only [Act.put, List.setIfInBounds_toArray, List.set_cons_zero, List.set_cons_succ]
            refine wpAnyH_ready (rs := [7]) (by kernel_rfl) (by simp) ?_
            refine AllReadyH.cons (o := { dst := some 39, op := Go.Op.call { callee := Go.Callee.builtin Go.Builtin.append, args := #[Go.Operand.tmp 36, Go.Operand.tmp 38], argTypes := #[59, 59] }, type := 59, pos := "way.go:56", after := #[{ on := 4, ground := Go.Ground.data }, { on := 6, ground := Go.Ground.data }], guard := none }) rfl (fun K hK => ?_) ?_
            ·
              refine step_appE pt_app _ rfl (.tmp 36) (.tmp 38) rfl base _ out (by rfl) (own_ext HO1.out (by repeat (first | exact Below.refl _ _ | refine ext_alloc ?_ _ | refine Below.drew ?_))) (s, q) _ (by rfl) (by first | exact Bk.new _ _ _ | exact (Bk.newAt (by simp))) (by omega) (by have h1 := HPre.out.bs; have h2 := HB1.out.size; simp only [World.size_alloc, World.size_drew]; omega) ?_
              intro A2 c2 w2 hown2 hg2 hc2
              have HG := Lib.hid (show WKeep base kb w w2 from (WKeep.of_below (ext_trans HB1.out (by repeat (first | exact Below.refl _ _ | refine ext_alloc ?_ _ | refine Below.drew ?_)))).trans (WKeep.of_grown (own_ext HO1.out (by repeat (first | exact Below.refl _ _ | refine ext_alloc ?_ _ | refine Below.drew ?_))) hg2))
              have HX2 := Lib.hid (show Bk w2 w.heap.size 61 #[.int .i64 0, .int .i64 (s : Nat), .int .i64 (q : Nat)] from ((HX1.out.ext (by repeat (first | exact Below.refl _ _ | refine ext_alloc ?_ _ | refine Below.drew ?_))).grown hg2 (fun e => by have := (HPre.out.own.lt _ e.symm).2; omega)))
              have HW2 := Lib.hid (show Bk w2 kb 372 #[.pointer (some ⟨wb, 0, none⟩), .slice A4 out.length c4] from ((HPre.out.walk.ext (ext_trans HB1.out (by repeat (first | exact Below.refl _ _ | refine ext_alloc ?_ _ | refine Below.drew ?_)))).grown hg2 (fun e => by have := (HPre.out.own.lt _ e.symm).1; have := HPre.out.kb; omega)))
              have r0 : w2.cell? ⟨w.heap.size, 0, none⟩ = some (.int .i64 0) := (HX2.out.cell 0).trans rfl
              have r1 : w2.cell? ⟨w.heap.size, 1, none⟩ = some (.int .i64 (s : Nat)) := (HX2.out.cell 1).trans rfl
              have r2 : w2.cell? ⟨w.heap.size, 2, none⟩ = some (.int .i64 (q : Nat)) := (HX2.out.cell 2).trans rfl
              have r3 : w2.cell? ⟨kb, 1, none⟩ = some (.slice A4 out.length c4) := (HW2.out.cell 1).trans rfl
              have r4 := HW2.out.frozen 1
              have HO2 := Lib.hid hown2
              clear hown2 hg2
              refine hK.out _ _ ?_ (fun hHeld => ?_)
              · go_keep
              clear hK K
              try simp only [Act.put, List.setIfInBounds_toArray, List.set_cons_zero, List.set_cons_succ]
              refine wpAnyH_take (i := 8) (oi := { dst := some 40, op := Go.Op.nilCheck (Go.Operand.tmp 32), type := 0, pos := "way.go:56", after := #[{ on := 0, ground := Go.Ground.data }, { on := 0, ground := Go.Ground.phase }, { on := 1, ground := Go.Ground.phase }, { on := 2, ground := Go.Ground.phase }, { on := 3, ground := Go.Ground.phase }, { on := 4, ground := Go.Ground.phase }, { on := 5, ground := Go.Ground.phase }, { on := 6, ground := Go.Ground.phase }, { on := 7, ground := Go.Ground.phase }], guard := none }) (v := ?v1z8x1) rfl (by kernel_rfl) (by kernel_rfl) (by kernel_rfl) (fun _ _ _ h => h) (Or.inl ⟨by rfl, ?hy1z8x1⟩) (by assumption) ?rest1z8x1
              case hy1z8x1 => (intro w hSw; (try dsimp only at hSw); go_simp; try (with_reducible rfl))
              simp only [Act.put, List.setIfInBounds_toArray, List.set_cons_zero, List.set_cons_succ]
              refine wpAnyH_take (i := 9) (oi := { dst := some 41, op := Go.Op.fieldAddr 372 (Go.Operand.tmp 40) 1, type := 0, pos := "way.go:56", after := #[{ on := 8, ground := Go.Ground.data }, { on := 0, ground := Go.Ground.phase }, { on := 1, ground := Go.Ground.phase }, { on := 2, ground := Go.Ground.phase }, { on := 3, ground := Go.Ground.phase }, { on := 4, ground := Go.Ground.phase }, { on := 5, ground := Go.Ground.phase }, { on := 6, ground := Go.Ground.phase }, { on := 7, ground := Go.Ground.phase }], guard := none }) (v := ?v1z9x1) rfl (by kernel_rfl) (by kernel_rfl) (by kernel_rfl) (fun _ _ _ h => h) (Or.inl ⟨by rfl, ?hy1z9x1⟩) (by assumption) ?rest1z9x1
              case hy1z9x1 => (intro w hSw; (try dsimp only at hSw); go_simp; try (with_reducible rfl))
              simp only [Act.put, List.setIfInBounds_toArray, List.set_cons_zero, List.set_cons_succ]
              refine wpAnyH_ready (rs := [10]) (by kernel_rfl) (by simp) ?_
              refine AllReadyH.cons (o := { dst := none, op := Go.Op.store 59 (Go.Operand.tmp 41) (Go.Operand.tmp 39), type := 0, pos := "way.go:56", after := #[{ on := 9, ground := Go.Ground.data }, { on := 7, ground := Go.Ground.data }, { on := 7, ground := Go.Ground.chain }, { on := 0, ground := Go.Ground.phase }, { on := 1, ground := Go.Ground.phase }, { on := 2, ground := Go.Ground.phase }, { on := 3, ground := Go.Ground.phase }, { on := 4, ground := Go.Ground.phase }, { on := 5, ground := Go.Ground.phase }, { on := 6, ground := Go.Ground.phase }, { on := 7, ground := Go.Ground.phase }], guard := none }) rfl (fun K hK => ?_) ?_
              ·
                go_simp
                refine hK.out _ _ ?_ (fun hHeld => ?_)
                · go_keep
                clear hK K
                try simp only [Act.put]
                refine wpAnyH_done (by kernel_rfl) ?_ _
                go_wp2_with fail
                go_returns
                rw [HE.out, show out.length + 1 = (out ++ [(s, q)]).length from by simp]
                refine ⟨A2, c2, rfl, ?_, HW2.out.set_ 1 _, HG.out.set_ 1 _⟩
                rw [ptsC_eq]
                exact own_far HW2.out HO2.out (by decide) 1 _
              exact AllReadyH.nil
            exact AllReadyH.nil
          exact AllReadyH.nil
        exact AllReadyH.nil
end Go.Proofs.YtipfoljmdeiggaaGreatDoor

/- The way down, in the program: down. -/
namespace Go.Proofs.YtipfoljmdeiggaaGreatDoor
open Go.RowKit Go.Sort

section
variable {ops : List OpD} {parts f : Nat}
/-- Where the way goes on from one input. -/
def stepsOf (parts : Nat) (o : OpD) (q x : Nat) : List Pt := if wide o.k then (List.range parts).map fun n => (x, n) else if narrow o.k then [(x, q)] else []
def goOf (ops : List OpD) (parts f : Nat) (o : OpD) (q x : Nat) (out : List Pt) : List Pt := (stepsOf parts o q x).foldl (fun out y => comeL ops parts f y.1 y.2 out) out
theorem steps_of (o : OpD) (q : Nat) : steps parts o q = (froms o).flatMap (stepsOf parts o q) := by
  unfold steps stepsOf
  split
  · rfl
  · split
    · rw [List.map_eq_flatMap]
    · simp
def goL (ops : List OpD) (parts f : Nat) (o : OpD) (q : Nat) (l : List Nat) (out : List Pt) : List Pt := l.foldl (fun out x => goOf ops parts f o q x out) out
theorem foldl_flat {α β γ : Type} (g : α → List β) (h : γ → β → γ) : ∀ (l : List α) (z : γ), (l.flatMap g).foldl h z = l.foldl (fun z x => (g x).foldl h z) z
  | [], _ => rfl
  | x :: l, z => by rw [List.flatMap_cons, List.foldl_append, List.foldl_cons, foldl_flat g h l]
theorem down_go {s q : Nat} {out : List Pt} {o : OpD} (ho : ops[s]? = some o) : down ops parts (f + 1) s q out = goL ops parts f o q (froms o) out := by
  rw [down_eq ho, steps_of, foldl_flat]
  rfl
theorem goL_snoc {o : OpD} {q i x : Nat} {l : List Nat} {out : List Pt} (h : l[i]? = some x) : goL ops parts f o q (l.take (i + 1)) out = goOf ops parts f o q x (goL ops parts f o q (l.take i) out) := by
  unfold goL
  rw [take_succ_of h, List.foldl_append]
  rfl
theorem goOf_wide {o : OpD} {q x : Nat} {out : List Pt} (h : wide o.k = true) : goOf ops parts f o q x out = goN ops parts f x parts out := by
  unfold goOf stepsOf goN
  rw [if_pos h]
theorem goOf_narrow {o : OpD} {q x : Nat} {out : List Pt} (h : wide o.k = false) (hn : narrow o.k = true) : goOf ops parts f o q x out = comeL ops parts f x q out := by
  unfold goOf stepsOf
  rw [if_neg (by rw [h]; simp), if_pos hn]
  rfl
theorem goOf_none {o : OpD} {q x : Nat} {out : List Pt} (h : wide o.k = false) (hn : narrow o.k = false) : goOf ops parts f o q x out = out := by
  unfold goOf stepsOf
  rw [if_neg (by rw [h]; simp), if_neg (by rw [hn]; simp)]
  rfl
theorem good_of {p : PlanD} {o : OpD} {q x : Nat} {out : List Pt} (hp : Shaped p) (h : Good out) (hx : wide o.k = true ∨ narrow o.k = true → x < f ∧ x < p.ops.length) (hq : q < p.parts.toNat) : Good (goOf p.ops p.parts.toNat f o q x out) := by
  cases hw : wide o.k with
  | true =>
    rw [goOf_wide hw]
    have h1 := hx (.inl hw)
    exact good_goN hp h1.1 h1.2 _ (Nat.le_refl _) h
  | false =>
    cases hn : narrow o.k with
    | true =>
      rw [goOf_narrow hw hn]
      have h1 := hx (.inr hn)
      exact good_come hp h h1.1 h1.2 hq
    | false =>
      rw [goOf_none hw hn]
      exact h
end
theorem one_info : (Tryz.prog.info? 3).map (fun i => (i.zero, i.size, i.bytes)) = some (some (.int .i64 0), 1, 8) := by kernel_rfl
def intC (n : Nat) : List Value := [.int .i64 (n : Nat)]
theorem int_app : AppC intC 55 3 1 8 (.int .i64 0) :=
  ⟨Tryz.underlying55, by kernel_rfl, rfl, by decide, fun _ => rfl, fun x u hu => by simp only [intC, List.mem_cons, List.not_mem_nil, or_false] at hu; subst hu; rfl, by decide⟩
theorem intsC_flat (l : List Nat) : l.flatMap intC = intsC l := by
  induction l with
  | nil => rfl
  | cons x l ih => rw [List.flatMap_cons, ih]; rfl
/-- Where a walk stands that has come to l. -/
structure WInv (B base kb wb : Nat) (p : PlanD) (A K : Option Addr) (c kc : Nat) (m : Value) (w0 : World) (bx : Nat) (o : OpD) (A7 : Option Addr) (w : World) (v : Value) (out : List Pt) : Prop where
  pre : WPre B base kb wb p A K c kc m w v out
  keep : WKeep base kb w0 w
  box : Bk w bx 138 #[.int .i64 o.k, .int .i64 o.a, .int .i64 o.b, .int .i64 o.f, .int .i64 o.c]
  frm : Rd w B 3 1 A7 (froms o).length (intsC (froms o))
section
variable {B base kb wb : Nat} {p : PlanD} {A K : Option Addr} {c kc : Nat} {m : Value} {w0 w w' : World} {bx : Nat} {o : OpD} {A7 : Option Addr} {v : Value} {out : List Pt} {r : List Pt} {e : Ending}
theorem WInv.next (h : WInv B base kb wb p A K c kc m w0 bx o A7 w v out) (hg : Good r) (hp : WPost base kb wb w r e w') : ∃ A2 c2, e = .returned (.tuple #[]) ∧ WInv B base kb wb p A K c kc m w0 bx o A7 w' (.slice A2 r.length c2) r := by
  obtain ⟨A2, c2, rfl, ho, hw, hk⟩ := hp
  exact ⟨A2, c2, rfl, h.pre.next hk hw ho hg, h.keep.trans hk, hk.bk h.box (h.box.ne_ h.pre.walk (by decide)) (.inr (by decide)), hk.rd h.frm h.pre.walk h.pre.bB h.pre.kb (by decide) (by decide)⟩
theorem WInv.post {A1 : Option Addr} {c1 : Nat} (h : WInv B base kb wb p A K c kc m w0 bx o A7 w (.slice A1 out.length c1) out) : WPost base kb wb w0 out (.returned (.tuple #[])) w := ⟨A1, c1, rfl, h.pre.own, h.pre.walk, h.keep⟩
end
end Go.Proofs.YtipfoljmdeiggaaGreatDoor

/- The way down, in the program: down, the walk. -/
namespace Go.Proofs.YtipfoljmdeiggaaGreatDoor
open Go.RowKit Go.Sort

set_option maxRecDepth 100000 in
set_option maxHeartbeats 4000000 in
theorem pdown_step (f : Nat) (hc : PCome f) : PDown (f + 1) := by
  intro B base kb wb p A K c kc s q m out v w hp hpre hsf hsn hq
  have hy : p.ops[s]? = some (p.ops[s]) := List.getElem?_eq_getElem hsn
  have hok := hp.op s _ hy
  generalize p.ops[s] = o at hy hok
  obtain ⟨ad, rfl, d0, d1, d2, d3, d4⟩ := hpre.ops.ops hy hsn
  have hdl := World.block_lt_of_cell? w _ d0
  have y0 : w.cell? ⟨kb, 0, none⟩ = some (.pointer (some ⟨wb, 0, none⟩)) := (hpre.walk.cell 0).trans rfl
  have z1 : w.cell? ⟨wb, 1, none⟩ = some (.int .i64 p.parts) := (hpre.ways.cell 1).trans rfl
  have z2 : w.cell? ⟨wb, 2, none⟩ = some (.slice (some ad) p.ops.length c) := (hpre.ways.cell 2).trans rfl
  have hkbl := hpre.walk.lt
  have hwbl := hpre.ways.lt
  have hp1 := hp.p1
  have hp4 := hp.p4
  have hbB := hpre.bB
  have hkb := hpre.kb
  have hbs := hpre.bs
  have hne1 : kb ≠ w.heap.size := by omega
  have hne2 : wb ≠ w.heap.size := by omega
  have HPre := Lib.hid hpre
  have HP := Lib.hid hp
  have HC := Lib.hid hc
  have HR := Lib.hid (down_go (parts := p.parts.toNat) (f := f) (q := q) (out := out) hy)
  have hlt : ∀ x ∈ froms o, wide o.k = true ∨ narrow o.k = true → x < f ∧ x < p.ops.length := fun x hx hk => by
    have h1 : o.k ≠ 1 := by intro e; rw [e] at hk; revert hk; decide
    have := froms_lt hok.2 h1 hx
    omega
  have HLT := Lib.hid hlt
  have hne : o.k = 1 ∨ 0 ≤ o.a := by
    by_cases h : o.k = 1
    · exact .inl h
    · exact .inr (inputsD_a hok.2 h).1
  have ha0 : 0 ≤ o.a := by
    rcases hne with h | h
    · have h1 := hok.2
      unfold inputsD at h1
      split at h1
      · cases h1
      · simp only [Bool.and_eq_true, decide_eq_true_eq] at h1
        omega
    · exact h
  have HB := Lib.hid (show two o.k = true → 0 ≤ o.b from fun h => (inputsD_b hok.2 h).1)
  clear hp hpre hc hy hok hlt hne
  go_enter Tryz.func284, Tryz.ntmps284
  go_upto_if 27 with (first | (go_at_call 222; refine (two_c o.k _).mono ?_; rintro e w' ⟨rfl, rfl⟩))
  go_cut [7] (fun v7 wx => ∃ A7 c7, v7 = .slice A7 (froms o).length c7 ∧ (froms o).length ≤ c7 ∧ WInv B base kb wb p (some ad) K c kc m w w.heap.size o A7 wx v out)
  case first =>
    have HW := Lib.hid (WKeep.of_below (base := base) (kb := kb) (ext_alloc (ext_alloc (Below.refl w.heap.size w) (.cells #[.int .i64 o.k, .int .i64 o.a, .int .i64 o.b, .int .i64 o.f, .int .i64 o.c] 138)) (.cells #[.int .i64 o.a] 3)))
    have HX := Lib.hid ((Bk.new w 138 #[.int .i64 o.k, .int .i64 o.a, .int .i64 o.b, .int .i64 o.f, .int .i64 o.c]).alloc (.cells #[.int .i64 o.a] 3))
    obtain ⟨a, ha⟩ : ∃ a : Nat, o.a = (a : Nat) := ⟨o.a.toNat, by omega⟩
    have HO := Lib.hid (show ((w.alloc (.cells #[.int .i64 o.k, .int .i64 o.a, .int .i64 o.b, .int .i64 o.f, .int .i64 o.c] 138)).alloc (.cells #[.int .i64 o.a] 3)).ownsRow w.heap.size 3 1 (.slice (some ⟨w.heap.size + 1, 0, none⟩) 1 1) [a].length ([a].flatMap intC) from (by
      have h1 := World.ownsRow_lit (w.alloc (.cells #[.int .i64 o.k, .int .i64 o.a, .int .i64 o.b, .int .i64 o.f, .int .i64 o.c] 138)) (base := w.heap.size) (e := 3) (size := 1) #[.int .i64 o.a] 1 (by simp only [World.size_alloc]; omega) (by decide) (by simp)
      simpa [intC, ha] using h1))
    have HA := Lib.hid ha
    clear ha
    cases ht : two o.k with
    | true =>
      obtain ⟨b, hb⟩ : ∃ b : Nat, o.b = (b : Nat) := ⟨o.b.toNat, by have := HB.out ht; omega⟩
      have HF := Lib.hid (show froms o = [a] ++ [b] from (by unfold froms; rw [if_pos ht, HA.out, hb]; rfl))
      have HBb := Lib.hid hb
      clear ht hb
      go_wp2_with (first
        | (at_builtin; refine wpList_appE int_app _ rfl (.tmp 28) (.tmp 31) rfl w.heap.size (.slice (some ⟨w.heap.size + 1, 0, none⟩) 1 1) [a] rfl (HO.out.alloc _) b (w.heap.size + 2) rfl (by rw [show (intC b).toArray = #[.int .i64 o.b] from by rw [HBb.out]; rfl]; exact Bk.newAt (by simp)) (by simp) (by simp only [World.size_alloc]; omega) ?_; intro A2 c2 w2 hown2 hg2 hc2
           have HB2 := Lib.hid (below_grownOwn (ext_alloc (ext_alloc (ext_alloc (Below.refl _ _) _) _) _) (HO.out.alloc _) (Nat.le_refl _) hg2)
           have HX2 := Lib.hid ((HX.out.alloc _).grown hg2 (by simp [Value.ownBlock]))
           have HO2 := Lib.hid hown2; clear hown2 hg2))
      go_meet
      refine ⟨A2, c2, by rw [HF.out]; rfl, by rw [HF.out]; exact hc2, HPre.out.ext HB2.out, WKeep.of_below HB2.out, HX2.out, ?_⟩
      rw [HF.out, ← intsC_flat]
      exact Rd.of_own HO2.out
    | false =>
      have HF := Lib.hid (show froms o = [a] from (by unfold froms; rw [if_neg (by rw [ht]; simp), HA.out]; rfl))
      clear ht
      go_wp2_with fail
      go_meet
      refine ⟨some ⟨w.heap.size + 1, 0, none⟩, 1, by rw [HF.out]; rfl, by rw [HF.out]; simp, HPre.out.ext (ext_alloc (ext_alloc (Below.refl _ _) _) _), HW.out, HX.out, ?_⟩
      rw [HF.out, ← intsC_flat]
      exact Rd.of_own HO.out
  case rest =>
    obtain ⟨A7, c7, rfl, hc7, hI⟩ := hcut
    have HI := Lib.hid hI
    obtain ⟨bx, hbx⟩ : ∃ bx, bx = w.heap.size := ⟨_, rfl⟩
    have hbxl := hI.box.lt
    rw [← hbx] at HI hbxl ⊢
    have hfl : (froms o).length ≤ 2 := by unfold froms; split <;> simp
    clear hI hbx d0 d1 d2 d3 d4 y0 z1 z2 hne1 hne2
    go_wp2_with fail
    go_loopg [35] (froms o).length (fun gk v35 wr => ∃ (i : Nat) (l : List Pt) (v1 : Value), i + gk = (froms o).length ∧ v35 = .int .i64 (i : Nat) ∧ Hid (l = goL p.ops p.parts.toNat f o q ((froms o).take i) out) ∧ WInv B base kb wb p (some ad) K c kc m w bx o A7 wr v1 l)
    case atStart => exact ⟨0, out, v, by omega, rfl, Lib.hid rfl, HI.out⟩
    case round =>
      obtain ⟨i, l, v1, hik, rfl, hl, hI⟩ := hrel
      have HIw := Lib.hid hI
      have y0 : wr.cell? ⟨kb, 0, none⟩ = some (.pointer (some ⟨wb, 0, none⟩)) := (hI.pre.walk.cell 0).trans rfl
      have z1 : wr.cell? ⟨wb, 1, none⟩ = some (.int .i64 p.parts) := (hI.pre.ways.cell 1).trans rfl
      have x0 : wr.cell? ⟨bx, 0, none⟩ = some (.int .i64 o.k) := (hI.box.cell 0).trans rfl
      have hkbl := hI.pre.walk.lt
      have hwbl := hI.pre.ways.lt
      have hbxl := hI.box.lt
      have hg := hI.pre.good
      clear hI
      by_cases hi : i < (froms o).length
      · have hx : (froms o)[i]? = some ((froms o)[i]) := List.getElem?_eq_getElem hi
        generalize (froms o)[i] = x at hx
        obtain ⟨ad7, rfl, c7⟩ := HIw.out.frm.cell (by omega)
        have f0 : wr.cell? (ad7.add i) = some (.int .i64 (x : Nat)) := c7 i _ (by unfold intsC; rw [List.getElem?_map, hx]; rfl)
        have HX := Lib.hid (HLT.out x (List.mem_of_getElem? hx))
        have HS := Lib.hid (show goL p.ops p.parts.toNat f o q ((froms o).take (i + 1)) out = goOf p.ops p.parts.toNat f o q x l from (by rw [goL_snoc hx, ← hl.out]))
        have HG := Lib.hid (good_of (f := f) (o := o) (x := x) HP.out hg HX.out hq)
        have hfl := World.block_lt_of_cell? wr _ f0
        have HGl := Lib.hid hg
        clear hx c7 hg
        cases hw : wide o.k with
        | true =>
          have HW := Lib.hid hw
          obtain ⟨hxf, hxn⟩ := HX.out (.inl hw)
          have HE := Lib.hid (goOf_wide (ops := p.ops) (parts := p.parts.toNat) (f := f) (q := q) (x := x) (out := l) hw)
          obtain ⟨wo, rfl⟩ : ∃ wo : World, wo = wr := ⟨_, rfl⟩
          obtain ⟨go, rfl⟩ : ∃ go : Nat, go = gk := ⟨_, rfl⟩
          clear hw
          go_wp2_with (first
            | (go_at_call 92; refine (wide_c o.k _).mono ?_; rw [HW.out]; rintro e w' ⟨rfl, rfl⟩))
          clear y0 z1 x0 f0 hkbl hwbl hbxl hfl
          go_loopg [51] p.parts.toNat (fun gk v51 wr => ∃ (m1 : Nat) (l1 : List Pt) (v2 : Value), m1 + gk = p.parts.toNat ∧ v51 = .int .i64 (m1 : Nat) ∧ Hid (l1 = goN p.ops p.parts.toNat f x m1 l) ∧ WInv B base kb wb p (some ad) K c kc m w bx o (some ad7) wr v2 l1)
          case atStart => exact ⟨0, l, v1, by omega, rfl, Lib.hid rfl, HIw.out⟩
          case round =>
            obtain ⟨m1, l1, v2, hmk, rfl, hl1, hI⟩ := hrel
            have HIv := Lib.hid hI
            have y0 : wr.cell? ⟨kb, 0, none⟩ = some (.pointer (some ⟨wb, 0, none⟩)) := (hI.pre.walk.cell 0).trans rfl
            have z1 : wr.cell? ⟨wb, 1, none⟩ = some (.int .i64 p.parts) := (hI.pre.ways.cell 1).trans rfl
            have x0 : wr.cell? ⟨bx, 0, none⟩ = some (.int .i64 o.k) := (hI.box.cell 0).trans rfl
            have hkbl := hI.pre.walk.lt
            have hwbl := hI.pre.ways.lt
            have hbxl := hI.box.lt
            clear hI
            by_cases hm : m1 < p.parts.toNat
            · have hmi : (m1 : Int) < p.parts := by omega
              have um : decide ((m1 : Int) < p.parts) = true := decide_eq_true hmi
              have HG1 := Lib.hid (show Good (goN p.ops p.parts.toNat f x (m1 + 1) l) from good_goN HP.out hxf hxn (m1 + 1) hm HGl.out)
              have HN := Lib.hid (show goN p.ops p.parts.toNat f x (m1 + 1) l = comeL p.ops p.parts.toNat f x m1 l1 from (by rw [goN_succ, ← hl1.out]))
              go_wp2_with (first
                | (go_at_call 313; refine (HC.out B base kb wb p (some ad) K c kc x m1 m l1 v2 _ HP.out HIv.out.pre hxf hxn hm).mono ?_; rw [← HN.out]; rintro e w2 hpost; obtain ⟨A2, c2, rfl, hI2⟩ := HIv.out.next HG1.out hpost; have HI2 := Lib.hid hI2; clear hI2 hpost))
              go_roundg (gk - 1)
              case measure => omega
              case rel => exact ⟨m1 + 1, _, _, by omega, by go_num, Lib.hid rfl, HI2.out⟩
            · have hme : m1 = p.parts.toNat := by omega
              subst hme
              have hmi : ¬ ((p.parts.toNat : Nat) : Int) < p.parts := by omega
              have um : decide (((p.parts.toNat : Nat) : Int) < p.parts) = false := decide_eq_false hmi
              go_wp2_with fail
              go_roundg (go - 1)
              case measure => omega
              case rel => exact ⟨i + 1, l1, v2, by omega, by go_num, Lib.hid (by rw [HS.out, HE.out, hl1.out]), HIv.out⟩
        | false =>
          have HW := Lib.hid hw
          cases hn : narrow o.k with
          | true =>
            have HN := Lib.hid hn
            obtain ⟨hxf, hxn⟩ := HX.out (.inr hn)
            rw [goOf_narrow hw hn] at HS HG
            clear hw hn
            go_wp2_with (first
              | (go_at_call 92; refine (wide_c o.k _).mono ?_; rw [HW.out]; rintro e w' ⟨rfl, rfl⟩)
              | (go_at_call 314; refine (narrow_c o.k _).mono ?_; rw [HN.out]; rintro e w' ⟨rfl, rfl⟩)
              | (go_at_call 313; refine (HC.out B base kb wb p (some ad) K c kc x q m l v1 _ HP.out HIw.out.pre hxf hxn hq).mono ?_; rintro e w2 hpost; obtain ⟨A2, c2, rfl, hI2⟩ := HIw.out.next HG.out hpost; have HI2 := Lib.hid hI2; clear hI2 hpost))
            go_roundg (gk - 1)
            case measure => omega
            case rel => exact ⟨i + 1, _, _, by omega, by go_num, Lib.hid HS.out.symm, HI2.out⟩
          | false =>
            have HN := Lib.hid hn
            rw [goOf_none hw hn] at HS
            clear hw hn
            go_wp2_with (first
              | (go_at_call 92; refine (wide_c o.k _).mono ?_; rw [HW.out]; rintro e w' ⟨rfl, rfl⟩)
              | (go_at_call 314; refine (narrow_c o.k _).mono ?_; rw [HN.out]; rintro e w' ⟨rfl, rfl⟩))
            go_roundg (gk - 1)
            case measure => omega
            case rel => exact ⟨i + 1, _, _, by omega, by go_num, Lib.hid HS.out.symm, HIw.out⟩
      · have hil : i = (froms o).length := by omega
        have HD := Lib.hid (show down p.ops p.parts.toNat (f + 1) s q out = l from (by rw [HR.out, hl.out, hil, List.take_length]))
        obtain ⟨A1, c1, rfl, _⟩ := own_shape HIw.out.pre.own
        clear hil
        go_wp2_with fail
        go_returns
        rw [HD.out]
        exact HIw.out.post
theorem pdown_all : ∀ f, PDown f
  | 0 => fun _ _ _ _ _ _ _ _ _ _ _ _ _ _ _ _ _ h => absurd h (Nat.not_lt_zero _)
  | f + 1 => pdown_step f (pcome_c f (pdown_all f))
end Go.Proofs.YtipfoljmdeiggaaGreatDoor

/- Footprints: what a call may have changed is a set of blocks; what reads memory says which blocks it leans on. -/
namespace Go.Proofs.YtipfoljmdeiggaaGreatDoor
open Go.RowKit Go.Sort

/-- Of what there was only the blocks of S may have changed. -/
structure Fr (S : Nat → Prop) (w w' : World) : Prop where
  os : w'.os = w.os
  tape : w'.tape = w.tape
  output : w'.output = w.output
  size : w.heap.size ≤ w'.heap.size
  block : ∀ k, k < w.heap.size → ¬ S k → w'.heap[k]? = w.heap[k]?
abbrev No : Nat → Prop := fun _ => False
section
variable {S S' T : Nat → Prop} {a b c w w' : World} {B : Nat}
theorem Fr.refl : Fr S w w := ⟨rfl, rfl, rfl, Nat.le_refl _, fun _ _ _ => rfl⟩
theorem Fr.of_below (h : Below w.heap.size w w') : Fr S w w' := ⟨h.os, h.tape, h.output, h.size, fun k hk _ => h.block k hk⟩
theorem Fr.below (h : Fr S w w') (hS : ∀ k, S k → B ≤ k) (hB : B ≤ w.heap.size) : Below B w w' :=
  ⟨h.os, h.tape, h.output, h.size, fun k hk => h.block k (Nat.lt_of_lt_of_le hk hB) (fun hs => by have := hS k hs; omega)⟩
theorem Fr.belowN (h : Fr S w w') (hS : ∀ k, k < w.heap.size → ¬ S k) : Below w.heap.size w w' := ⟨h.os, h.tape, h.output, h.size, fun k hk => h.block k hk (hS k hk)⟩
theorem Fr.trans (h : Fr S a b) (k : Fr S' b c) (hs : ∀ k, S' k → S k ∨ a.heap.size ≤ k) : Fr S a c :=
  ⟨k.os.trans h.os, k.tape.trans h.tape, k.output.trans h.output, Nat.le_trans h.size k.size, fun i hi hn => (k.block i (Nat.lt_of_lt_of_le hi h.size) (fun hs' => by
    rcases hs i hs' with h1 | h1
    · exact hn h1
    · omega)).trans (h.block i hi hn)⟩
theorem Fr.mono (h : Fr S w w') (hs : ∀ k, k < w.heap.size → S k → S' k) : Fr S' w w' := ⟨h.os, h.tape, h.output, h.size, fun k hk hn => h.block k hk (fun h1 => hn (hs k hk h1))⟩
theorem Fr.ext (h : Fr S a b) (k : Below b.heap.size b c) : Fr S a c := h.trans (S' := No) (Fr.of_below k) (fun _ h => h.elim)
theorem Fr.drewN (h : Fr S a w) (n : Nat) : Fr S a (w.drewN n) := h.ext (below_drewN (Below.refl _ _) n)
theorem Fr.drew (h : Fr S a w) : Fr S a w.drew := h.drewN 1
theorem Fr.alloc (h : Fr S a w) (o : Obj) : Fr S a (w.alloc o) := h.ext (ext_alloc (Below.refl _ _) o)
theorem Fr.set_ (h : Fr S a w) {p : Addr} (hp : S p.block ∨ a.heap.size ≤ p.block) (u : Value) : Fr S a (w.setCell p u) :=
  ⟨h.os, h.tape, h.output, by simpa [World.setCell] using h.size, fun k hk hn => (Below.heap_setCell w p u k (fun e => by
    subst e
    rcases hp with h1 | h1
    · exact hn h1
    · omega)).trans (h.block k hk hn)⟩
theorem Fr.grown {row : Option Nat} (h : Fr S a w) (hg : w.grownBy w' row) (hr : ∀ k, row = some k → S k ∨ a.heap.size ≤ k) : Fr S a w' :=
  ⟨hg.os.trans h.os, hg.tape.trans h.tape, hg.output.trans h.output, Nat.le_trans h.size hg.size, fun k hk hn => (hg.block k (Nat.lt_of_lt_of_le hk h.size) (fun e => by
    rcases hr k e.symm with h1 | h1
    · exact hn h1
    · omega)).trans (h.block k hk hn)⟩
theorem Fr.one (w : World) (g j : Nat) (u : Value) : Fr (fun k => k = g) w (w.setCell ⟨g, j, none⟩ u) := Fr.set_ (S := fun k => k = g) (p := ⟨g, j, none⟩) Fr.refl (Or.inl (show g = g from rfl)) u
theorem Fr.map_ {m : Nat} (hg : w.grownBy w' (some m)) : Fr (fun k => k = m) w w' := Fr.grown (S := fun k => k = m) Fr.refl hg (fun k hk => Or.inl (by injection hk with hk; exact hk.symm))
theorem Bk.fr {g : Nat} {t : TypeId} {cs : Array Value} (h : Bk w g t cs) (hf : Fr S w w') (hn : ¬ S g) : Bk w' g t cs := (hf.block g h.lt hn).trans h
theorem MapIs.fr {α : Type} {enc : α → Value} {g : Nat} {m : List (α × Value)} (h : MapIs enc w g m) (hf : Fr S w w') (hn : ¬ S g) : MapIs enc w' g m := h.keep (hf.block g h.lt hn)
theorem own_fr {base n z : Nat} {e : TypeId} {v : Value} {xs : List Value} (h : w.ownsRow base e z v n xs) (hf : Fr S w w') (hn : ∀ k, v.ownBlock = some k → ¬ S k) : w'.ownsRow base e z v n xs := by
  refine ⟨h.1, ?_⟩
  rcases h.2 with h2 | ⟨g, c, cur, hv, hb, hg, r⟩
  · exact .inl h2
  · exact .inr ⟨g, c, cur, hv, hb, (hf.block g (lt_of_some hg) (hn g (by rw [hv]; rfl))).trans hg, r⟩
end
/-- A slice that reads as a list, out of a block of S. -/
def RdS (w : World) (S : Nat → Prop) (size : Nat) (A : Option Addr) (n : Nat) (xs : List Value) : Prop :=
  xs.length = n * size ∧ (0 < n → ∃ ad, A = some ad ∧ S ad.block ∧ ad.block < w.heap.size ∧ ∀ j u, xs[j]? = some u → w.cell? (ad.add j) = some u)
section
variable {S S' T : Nat → Prop} {w w' : World} {size n B : Nat} {e : TypeId} {A : Option Addr} {xs : List Value}
theorem RdS.fr (h : RdS w S size A n xs) (hf : Fr T w w') (hd : ∀ k, S k → ¬ T k) : RdS w' S size A n xs :=
  ⟨h.1, fun hn => by
    obtain ⟨ad, hA, hS, hl, hc⟩ := h.2 hn
    refine ⟨ad, hA, hS, Nat.lt_of_lt_of_le hl hf.size, fun j u hu => ?_⟩
    rw [World.cell?_of_block (w := w) (by rw [block_of_add]; exact hf.block _ hl (hd _ hS))]
    exact hc j u hu⟩
theorem RdS.ext (h : RdS w S size A n xs) (hb : Below w.heap.size w w') : RdS w' S size A n xs := h.fr (T := No) (Fr.of_below hb) (fun _ _ h => h)
theorem RdS.mono (h : RdS w S size A n xs) (hs : ∀ k, S k → S' k) : RdS w S' size A n xs :=
  ⟨h.1, fun hn => by
    obtain ⟨ad, hA, hS, r⟩ := h.2 hn
    exact ⟨ad, hA, hs _ hS, r⟩⟩
theorem RdS.rd (h : RdS w S size A n xs) (hB : w.heap.size ≤ B) : Rd w B e size A n xs :=
  ⟨h.1, fun hn => by
    obtain ⟨ad, hA, _, hl, hc⟩ := h.2 hn
    exact ⟨ad, hA, .inl (Nat.lt_of_lt_of_le hl hB), hc⟩⟩
theorem RdS.rdS (h : RdS w S size A n xs) (hS : ∀ k, S k → k < B) : Rd w B e size A n xs :=
  ⟨h.1, fun hn => by
    obtain ⟨ad, hA, hs, _, hc⟩ := h.2 hn
    exact ⟨ad, hA, .inl (hS _ hs), hc⟩⟩
theorem RdS.of_rd (h : Rd w B e size A n xs) (h0 : 0 < size) : RdS w (· < w.heap.size) size A n xs :=
  ⟨h.1, fun hn => by
    obtain ⟨ad, hA, hc⟩ := h.cell hn
    have hp : 0 < xs.length := by rw [h.1]; exact Nat.mul_pos hn h0
    have hl := World.block_lt_of_cell? w _ (hc 0 _ (List.getElem?_eq_getElem hp))
    rw [block_of_add] at hl
    exact ⟨ad, hA, hl, hl, hc⟩⟩
theorem RdS.of_own {base c : Nat} {z : Nat} (h : w.ownsRow base e z (.slice A n c) n xs) (hs : ∀ k, (Value.slice A n c).ownBlock = some k → S k) : RdS w S z A n xs := by
  refine ⟨h.1, fun hn => ?_⟩
  have h' := h
  rcases h'.2 with ⟨hv, h0⟩ | ⟨b, cp, cur, hv, _, hh, _⟩
  · omega
  · have hA : A = some ⟨b, 0, none⟩ := by injection hv
    subst hA
    exact ⟨_, rfl, hs b rfl, lt_of_some hh, h.cells (g := b) rfl⟩
theorem RdS.cell (h : RdS w S size A n xs) (hn : 0 < n) : ∃ ad, A = some ad ∧ ∀ j u, xs[j]? = some u → w.cell? (ad.add j) = some u := by
  obtain ⟨ad, he, _, _, hc⟩ := h.2 hn
  exact ⟨ad, he, hc⟩
theorem RdS.none_ : RdS w S size A 0 [] := ⟨by simp, fun h => absurd h (by omega)⟩
end
end Go.Proofs.YtipfoljmdeiggaaGreatDoor

/- Numbers and rows as bytes, in plain Lean. -/
namespace Go.Proofs.YtipfoljmdeiggaaGreatDoor
open Go.RowKit Go.Sort

/-! ### numbers -/
def zig (n : Int) : Nat := if 0 ≤ n then (2 * n).toNat else (-2 * n - 1).toNat
def zag (u : Nat) : Int := if u % 2 = 0 then ((u / 2 : Nat) : Int) else -((u / 2 : Nat) : Int) - 1
theorem zag_zig (n : Int) : zag (zig n) = n := by
  unfold zag zig
  split <;> split <;> omega
theorem zig_lt {n : Int} (h1 : -9223372036854775808 ≤ n) (h2 : n ≤ 9223372036854775807) : zig n < 18446744073709551616 := by
  unfold zig
  split <;> omega
def vB (u : Nat) : List Nat := if u < 128 then [u] else (u % 128 + 128) :: vB (u / 128)
def intB (n : Int) : List Nat := vB (zig n)
theorem vB_last {u : Nat} (h : u < 128) : vB u = [u] := by rw [vB, if_pos h]
theorem vB_more {u : Nat} (h : ¬ u < 128) : vB u = (u % 128 + 128) :: vB (u / 128) := by rw [vB, if_neg h]
theorem vB_len : ∀ (k u : Nat), u < 128 ^ (k + 1) → (vB u).length ≤ k + 1
  | 0, u, h => by rw [vB_last (by omega)]; simp
  | k + 1, u, h => by
    by_cases hu : u < 128
    · rw [vB_last hu]; simp
    · rw [vB_more hu, List.length_cons]
      have h1 : u / 128 < 128 ^ (k + 1) := by
        rw [Nat.div_lt_iff_lt_mul (by omega)]
        rw [Nat.pow_succ] at h
        exact h
      have := vB_len k (u / 128) h1
      omega
theorem vB_len10 {u : Nat} (h : u < 18446744073709551616) : (vB u).length ≤ 10 := vB_len 9 u (by omega)
theorem vB_pos (u : Nat) : 0 < (vB u).length := by
  rw [vB]
  split <;> simp
theorem vB_byte (u : Nat) : ∀ x ∈ vB u, x < 256 := by
  induction u using vB.induct with
  | case1 u h => rw [vB_last h]; intro x hx; rw [List.mem_singleton] at hx; omega
  | case2 u h ih =>
    rw [vB_more h]
    intro x hx
    rcases List.mem_cons.1 hx with h1 | h1
    · omega
    · exact ih x h1
theorem intB_byte (n : Int) : ∀ x ∈ intB n, x < 256 := vB_byte _
theorem intB_len {n : Int} (h1 : -9223372036854775808 ≤ n) (h2 : n ≤ 9223372036854775807) : (intB n).length ≤ 10 := vB_len10 (zig_lt h1 h2)
/-- What is told of a number: the number and the place behind it, or the error's number. -/
inductive RdI
  | ok (n : Int) (next : Nat)
  | bad (code : Int)
deriving DecidableEq
/-- The number whose first i bytes have come to u; the rest is l. -/
def readU (at_ : Nat) : Nat → Nat → List Nat → RdI
  | _, _, [] => .bad 10
  | i, u, c :: l =>
    if i = 9 ∧ 1 < c then .bad 11
    else if c = 0 ∧ 0 < i then .bad 12
    else if c < 128 then .ok (zag (u + c * 2 ^ (7 * i))) (at_ + i + 1)
    else readU at_ (i + 1) (u + (c % 128) * 2 ^ (7 * i)) l
def readI (b : List Nat) (at_ : Int) : RdI := if at_ < 0 ∨ (b.length : Int) < at_ then .bad 1 else readU at_.toNat 0 0 (b.drop at_.toNat)
theorem readU_vB (at_ : Nat) : ∀ (v i u : Nat) (r : List Nat), v * 2 ^ (7 * i) < 18446744073709551616 → i ≤ 9 → (0 < i → 0 < v) → readU at_ i u (vB v ++ r) = .ok (zag (u + v * 2 ^ (7 * i))) (at_ + i + (vB v).length) := by
  intro v
  induction v using vB.induct with
  | case1 v h =>
    intro i u r hv hi h0
    rw [vB_last h]
    show readU at_ i u (v :: r) = _
    have h9 : ¬ (i = 9 ∧ 1 < v) := by
      rintro ⟨rfl, h1⟩
      omega
    have h00 : ¬ (v = 0 ∧ 0 < i) := fun ⟨a, b⟩ => by have := h0 b; omega
    rw [readU, if_neg h9, if_neg h00, if_pos h]
    rfl
  | case2 v h ih =>
    intro i u r hv hi h0
    rw [vB_more h]
    show readU at_ i u ((v % 128 + 128) :: (vB (v / 128) ++ r)) = _
    have h9 : i ≠ 9 := by
      rintro rfl
      omega
    rw [readU, if_neg (fun hh => h9 hh.1), if_neg (fun hh => by omega), if_neg (by omega)]
    have e1 : (v % 128 + 128) % 128 = v % 128 := by omega
    have e2 : 2 ^ (7 * (i + 1)) = 128 * 2 ^ (7 * i) := by rw [Nat.mul_add, Nat.pow_add, Nat.mul_comm]
    have hp : 0 < 2 ^ (7 * i) := Nat.pow_pos (by omega)
    have e3 : v / 128 * (128 * 2 ^ (7 * i)) + v % 128 * 2 ^ (7 * i) = v * 2 ^ (7 * i) := by
      rw [← Nat.mul_assoc, ← Nat.add_mul]
      congr 1
      omega
    rw [e1, ih (i + 1) _ r (by rw [e2]; omega) (by omega) (fun _ => by omega), e2]
    congr 1
    · congr 1
      omega
    · rw [List.length_cons]; omega
/-- A number that was written is read as it was. -/
theorem readI_intB (p r : List Nat) {n : Int} (h1 : -9223372036854775808 ≤ n) (h2 : n ≤ 9223372036854775807) : readI (p ++ (intB n ++ r)) (p.length : Nat) = .ok n (p.length + (intB n).length) := by
  unfold readI
  rw [if_neg (by rw [List.length_append]; omega)]
  rw [Int.toNat_natCast, List.drop_left]
  unfold intB
  have hz := zig_lt h1 h2
  rw [readU_vB p.length (zig n) 0 0 r (by omega) (by omega) (fun h => by omega)]
  simp [zag_zig]

/-! ### rows -/
def rowB (r : Rw) : List Nat := intB r.k ++ intB r.v
def rowsB (l : List Rw) : List Nat := intB l.length ++ l.flatMap rowB
inductive RdR
  | ok (l : List Rw) (next : Nat)
  | bad (code : Int)
deriving DecidableEq
/-- m rows more, from a place on; what came ahead is acc. -/
def readN (b : List Nat) : Nat → Nat → List Rw → RdR
  | 0, at_, acc => .ok acc at_
  | m + 1, at_, acc => match readI b (at_ : Nat) with
    | .bad e => .bad e
    | .ok k a1 => match readI b (a1 : Nat) with
      | .bad e => .bad e
      | .ok v a2 => readN b m a2 (acc ++ [⟨k, v⟩])
def readR (b : List Nat) (at_ : Int) : RdR := match readI b at_ with
  | .bad e => .bad e
  | .ok n next => if n < 0 then .bad 12 else if 64 < n then .bad 2 else readN b n.toNat next []
def I64 (n : Int) : Prop := -9223372036854775808 ≤ n ∧ n ≤ 9223372036854775807
theorem readN_rows : ∀ (l : List Rw) (p r : List Nat) (acc : List Rw), (∀ x ∈ l, I64 x.k ∧ I64 x.v) → readN (p ++ (l.flatMap rowB ++ r)) l.length p.length acc = .ok (acc ++ l) (p.length + (l.flatMap rowB).length)
  | [], p, r, acc, _ => by simp [readN]
  | x :: l, p, r, acc, h => by
    obtain ⟨⟨k1, k2⟩, v1, v2⟩ := h x (by simp)
    have e : p ++ ((x :: l).flatMap rowB ++ r) = p ++ (intB x.k ++ (intB x.v ++ (l.flatMap rowB ++ r))) := by
      rw [List.flatMap_cons, rowB]
      simp [List.append_assoc]
    have e' : p ++ (intB x.k ++ (intB x.v ++ (l.flatMap rowB ++ r))) = (p ++ intB x.k) ++ (intB x.v ++ (l.flatMap rowB ++ r)) := by simp [List.append_assoc]
    have e'' : p ++ (intB x.k ++ (intB x.v ++ (l.flatMap rowB ++ r))) = (p ++ intB x.k ++ intB x.v) ++ (l.flatMap rowB ++ r) := by simp [List.append_assoc]
    rw [List.length_cons, readN, e, readI_intB p _ k1 k2]
    simp only
    have h2 := readI_intB (p ++ intB x.k) (l.flatMap rowB ++ r) v1 v2
    rw [← e', List.length_append] at h2
    rw [h2]
    simp only
    have ih := readN_rows l (p ++ intB x.k ++ intB x.v) r (acc ++ [⟨x.k, x.v⟩]) (fun y hy => h y (List.mem_cons_of_mem _ hy))
    rw [← e'', List.length_append, List.length_append] at ih
    rw [ih]
    simp [rowB, List.append_assoc, Nat.add_assoc]
/-- Rows that were written are read as they were. -/
theorem readR_rowsB (p r : List Nat) (l : List Rw) (hl : l.length ≤ 64) (h : ∀ x ∈ l, I64 x.k ∧ I64 x.v) : readR (p ++ (rowsB l ++ r)) (p.length : Nat) = .ok l (p.length + (rowsB l).length) := by
  unfold readR rowsB
  have e : p ++ (intB l.length ++ l.flatMap rowB ++ r) = p ++ (intB l.length ++ (l.flatMap rowB ++ r)) := by simp [List.append_assoc]
  rw [e, readI_intB p _ (by omega) (by omega)]
  simp only
  rw [if_neg (by omega), if_neg (by omega), Int.toNat_natCast]
  have e' : p ++ (intB l.length ++ (l.flatMap rowB ++ r)) = (p ++ intB l.length) ++ (l.flatMap rowB ++ r) := by simp [List.append_assoc]
  have h2 := readN_rows l (p ++ intB l.length) r [] h
  rw [← e', List.length_append] at h2
  rw [h2]
  simp [Nat.add_assoc]
theorem readI_behind {b : List Nat} {at_ : Int} {n : Int} {next : Nat} (h : readI b at_ = .ok n next) : at_ < next ∧ 0 ≤ at_ ∧ next ≤ b.length := by
  unfold readI at h
  split at h
  · cases h
  · next h0 =>
    have key : ∀ (l : List Nat) (i u : Nat), readU at_.toNat i u l = .ok n next → at_.toNat + i < next ∧ next ≤ at_.toNat + i + l.length := by
      intro l
      induction l with
      | nil => intro i u h; cases h
      | cons c l ih =>
        intro i u h
        rw [readU] at h
        split at h
        · cases h
        · split at h
          · cases h
          · split at h
            · cases h
              simp only [List.length_cons]
              omega
            · have := ih _ _ h
              simp only [List.length_cons]
              omega
    have := key _ _ _ h
    rw [List.length_drop] at this
    omega
end Go.Proofs.YtipfoljmdeiggaaGreatDoor

/- Numbers as bytes: wire.Int of the program. -/
namespace Go.Proofs.YtipfoljmdeiggaaGreatDoor
open Go.RowKit Go.Sort

def byC (b : Nat) : List Value := [.int .u8 (b : Nat)]
def bytesC (l : List Nat) : List Value := l.map fun b => .int .u8 (b : Nat)
theorem bytesC_flat (l : List Nat) : l.flatMap byC = bytesC l := by
  induction l with
  | nil => rfl
  | cons x l ih => rw [List.flatMap_cons, ih]; rfl
theorem byte_app : AppC byC 39 5 1 1 (.int .u8 0) :=
  ⟨Tryz.underlying39, by kernel_rfl, rfl, by decide, fun _ => rfl, fun x u hu => by simp only [byC, List.mem_cons, List.not_mem_nil, or_false] at hu; subst hu; rfl, by decide⟩
def BytesPost (w : World) (l : List Nat) (e : Ending) (w' : World) : Prop :=
  ∃ A c, e = .returned (.slice A l.length c) ∧ w'.ownsRow w.heap.size 5 1 (.slice A l.length c) l.length (l.flatMap byC) ∧ Below w.heap.size w w'
theorem zig_xor {n : Int} (h1 : -9223372036854775808 ≤ n) (h2 : n ≤ 9223372036854775807) :
    bits .xor .u64 (IntKind.u64.wrap (IntKind.u64.wrap n * 2)) (IntKind.u64.wrap (n / 9223372036854775808)) = (zig n : Nat) := by
  simp only [IntKind.wrap_u64]
  by_cases h : 0 ≤ n
  · have e1 : n % 18446744073709551616 * 2 % 18446744073709551616 = ((2 * n).toNat : Nat) := by omega
    have e2 : n / 9223372036854775808 % 18446744073709551616 = ((0 : Nat) : Int) := by omega
    rw [e1, e2, u64_xor_nat _ _ (by omega) (by omega), Nat.xor_zero]
    unfold zig
    rw [if_pos h]
  · have e1 : n % 18446744073709551616 * 2 % 18446744073709551616 = ((2 * n + 18446744073709551616).toNat : Nat) := by omega
    have e2 : n / 9223372036854775808 % 18446744073709551616 = ((18446744073709551615 : Nat) : Int) := by omega
    rw [e1, e2, u64_xor_nat _ _ (by omega) (by omega)]
    have hx : (2 * n + 18446744073709551616).toNat < 2 ^ 64 := by omega
    generalize hm : (2 * n + 18446744073709551616).toNat = m at hx ⊢
    have h3 : m ^^^ 18446744073709551615 = 18446744073709551615 - m := by
      have h4 := congrArg BitVec.toNat (BitVec.xor_allOnes (x := BitVec.ofNat 64 m))
      rw [BitVec.toNat_xor, BitVec.toNat_not, BitVec.toNat_allOnes, BitVec.toNat_ofNat, Nat.mod_eq_of_lt hx] at h4
      have : (2 : Nat) ^ 64 - 1 = 18446744073709551615 := by decide
      rw [this] at h4
      exact h4
    rw [h3]
    unfold zig
    rw [if_neg h]
    omega
theorem and127 {u : Nat} (h : u < 18446744073709551616) : bits .and .u64 (u : Int) 127 = ((u % 128 : Nat) : Int) := by
  have h1 := u64_and_nat u 127 h (by omega)
  rw [show ((127 : Nat) : Int) = 127 from rfl] at h1
  rw [h1]
  congr 1
  exact Nat.and_two_pow_sub_one_eq_mod u 7
theorem or128 {u : Nat} (h : u < 128) : bits .or .u64 (u : Int) 128 = ((u + 128 : Nat) : Int) := by
  have h1 := u64_or_nat u 128 (by omega) (by omega)
  rw [show ((128 : Nat) : Int) = 128 from rfl] at h1
  rw [h1]
  congr 1
  rw [Nat.or_comm]
  have h2 := Nat.two_pow_add_eq_or_of_lt (i := 7) (b := u) (by omega) 1
  rw [show 2 ^ 7 * 1 = 128 from rfl] at h2
  omega
theorem ErrAt.farBk {w : World} {v : Value} {at_ code : Int} {g i : Nat} {t : TypeId} {cs : Array Value} {u : Value} (h : ErrAt w v at_ code) (hb : Bk w g t cs) (ht : t ≠ 199) : ErrAt (w.setCell ⟨g, i, none⟩ u) v at_ code := by
  obtain ⟨fb, s, v', n, rfl, h1, h2⟩ := h
  have key : ∀ g' t' cs', Bk w g' t' cs' → t' = 199 → Bk (w.setCell ⟨g, i, none⟩ u) g' t' cs' := fun g' t' cs' hk e => hk.far (hk.ne_ hb (by rw [e]; exact ht.symm)) u
  exact ⟨fb, s, v', n, rfl, key _ _ _ h1 rfl, ErrN.bk key h2⟩
theorem wFault_c (at_ code : Int) (w : World) : Calls Tryz.prog 251 #[.int .i64 at_, .int .i64 code] w (FaultPost w at_ code) := by
  go_enter Tryz.func251, Tryz.ntmps251
  go_wp2
  go_ret
  exact ⟨_, rfl, ⟨_, _, _, 0, rfl, Bk.new _ _ _, rfl⟩, ext_alloc (Below.refl _ _) _⟩
set_option maxRecDepth 100000 in
set_option maxHeartbeats 4000000 in
theorem wInt_c (n : Int) (w : World) (h1 : -9223372036854775808 ≤ n) (h2 : n ≤ 9223372036854775807) : Calls Tryz.prog 194 #[.int .i64 n] w (BytesPost w (intB n)) := by
  have hz := zig_xor h1 h2
  have hzl := zig_lt h1 h2
  have hl10 := intB_len h1 h2
  have HI := Lib.hid (show intB n = vB (zig n) from rfl)
  go_enter Tryz.func194, Tryz.ntmps194
  go_wp2_with fail
  clear hz
  go_loopg [3, 4] (zig n) (fun gk v3 v4 wr => ∃ (u : Nat) (l : List Nat), u = gk ∧ v3 = .int .u64 (u : Nat) ∧ u < 18446744073709551616 ∧ Hid (l ++ vB u = intB n) ∧ l.length ≤ 10 ∧ wr.ownsRow w.heap.size 5 1 v4 l.length (l.flatMap byC) ∧ Below w.heap.size w wr)
  case atStart => exact ⟨zig n, [], rfl, rfl, hzl, Lib.hid rfl, by simp, World.ownsRow_nil _ _ _ _, Below.refl _ _⟩
  case round =>
    obtain ⟨u, l, rfl, rfl, hu, hlu, hll, hown, hb⟩ := hrel
    obtain ⟨A4, c4, rfl, hc4⟩ := own_shape hown
    have HO := Lib.hid hown
    have HB := Lib.hid hb
    clear hown hb
    by_cases h128 : u < 128
    · have ug : decide ((128 : Int) ≤ (u : Nat)) = false := decide_eq_false (by omega)
      have uw : IntKind.u8.wrap (u : Nat) = (u : Nat) := by rw [IntKind.wrap_u8]; omega
      rw [vB_last h128] at hlu
      have HL := Lib.hid hlu.out
      go_wp2_with (first
        | (at_builtin; refine wpList_appE byte_app _ rfl (.tmp 23) (.tmp 26) rfl w.heap.size (.slice A4 l.length c4) l (by rfl) (HO.out.alloc _) u _ rfl (Bk.new _ _ _) (by omega) (by have := HB.out.size; simp only [World.size_alloc]; omega) ?_; intro A5 c5 w5 hown5 hg5 hc5
           have HO5 := Lib.hid hown5
           have HB5 := Lib.hid (below_grownOwn (ext_alloc HB.out _) (HO.out.alloc _) (Nat.le_refl _) hg5)
           clear hown5 hg5))
      go_ret
      rw [HL.out] at HO5
      rw [show l.length + 1 = (intB n).length from by rw [← HL.out]; simp]
      exact ⟨A5, c5, rfl, HO5.out, HB5.out⟩
    · have ug : decide ((128 : Int) ≤ (u : Nat)) = true := decide_eq_true (by omega)
      rw [vB_more h128] at hlu
      obtain ⟨t, ht⟩ : ∃ t, t = u % 128 := ⟨_, rfl⟩
      have htl : t < 128 := by omega
      have e1 := and127 hu
      have e2 := or128 htl
      have e3 : IntKind.u8.wrap ((t : Int) + 128) = (t : Int) + 128 := by rw [IntKind.wrap_u8]; omega
      obtain ⟨q, hq⟩ : ∃ q, q = u / 128 := ⟨_, rfl⟩
      have e4 : (u : Int) / 128 = (q : Nat) := by omega
      have hlt : q < u := by omega
      have hu2 : q < 18446744073709551616 := by omega
      rw [← ht] at e1 hlu
      rw [← hq] at hlu
      have HL := Lib.hid (show (l ++ [t + 128]) ++ vB q = intB n from (by rw [← hlu.out]; simp))
      have hll2 : (l ++ [t + 128]).length ≤ 10 := by have := congrArg List.length HL.out; rw [List.length_append] at this; omega
      clear ht h128 hq
      simp only [Int.natCast_add, Int.cast_ofNat_Int] at e2
      go_wp2_with (first
        | (at_builtin; refine wpList_appE byte_app _ rfl (.tmp 14) (.tmp 19) rfl w.heap.size (.slice A4 l.length c4) l (by rfl) (HO.out.alloc _) (t + 128) _ rfl (Bk.new _ _ _) (by omega) (by have := HB.out.size; simp only [World.size_alloc]; omega) ?_; intro A5 c5 w5 hown5 hg5 hc5
           have HO5 := Lib.hid hown5
           have HB5 := Lib.hid (below_grownOwn (ext_alloc HB.out _) (HO.out.alloc _) (Nat.le_refl _) hg5)
           clear hown5 hg5))
      go_roundg q
      case measure => exact hlt
      case rel => exact ⟨q, l ++ [t + 128], rfl, rfl, hu2, HL, hll2, by have h := HO5.out; rw [show (l ++ [t + 128]).length = l.length + 1 from by simp] at h ⊢; exact h, HB5.out⟩
end Go.Proofs.YtipfoljmdeiggaaGreatDoor

/- Numbers as bytes: wire.kind, wire.ReadInt of the program. -/
namespace Go.Proofs.YtipfoljmdeiggaaGreatDoor
open Go.RowKit Go.Sort

def kindD (c i : Nat) : Nat := if i = 9 ∧ 1 < c then 0 else if c = 0 ∧ 0 < i then 1 else if c < 128 then 2 else 3
set_option maxRecDepth 100000 in
set_option maxHeartbeats 4000000 in
theorem kind_c (c i : Nat) (w : World) (hc : c < 256) (_hi : i ≤ 9) : Calls Tryz.prog 252 #[.int .u8 (c : Nat), .int .i64 (i : Nat)] w (Val w (.int .i64 (kindD c i : Nat))) := by
  by_cases h9 : i = 9
  · have u9 : ((i : Int) == 9) = true := by rw [beq_iff_eq]; omega
    by_cases h1 : 1 < c
    · have u1 : decide ((1 : Int) < (c : Nat)) = true := decide_eq_true (by omega)
      have HV := Lib.hid (show kindD c i = 0 from by unfold kindD; rw [if_pos ⟨h9, h1⟩])
      clear h9 h1
      go_enter Tryz.func252, Tryz.ntmps252
      go_wp2_with fail
      go_ret
      exact ⟨by rw [HV.out]; rfl, rfl⟩
    · have u1 : decide ((1 : Int) < (c : Nat)) = false := decide_eq_false (by omega)
      have v1 : decide (0 < i) = true := decide_eq_true (by omega)
      by_cases h0 : c = 0
      · have u0 : ((c : Int) == 0) = true := by rw [beq_iff_eq]; omega
        have HV := Lib.hid (show kindD c i = 1 from by unfold kindD; rw [if_neg (fun h => h1 h.2), if_pos ⟨h0, by omega⟩])
        clear h9 h1 h0
        go_enter Tryz.func252, Tryz.ntmps252
        go_wp2_with fail
        go_ret
        exact ⟨by rw [HV.out]; rfl, rfl⟩
      · have u0 : ((c : Int) == 0) = false := by rw [beq_eq_false_iff_ne]; omega
        have v2 : decide ((c : Int) < 128) = true := decide_eq_true (by omega)
        have HV := Lib.hid (show kindD c i = 2 from by unfold kindD; rw [if_neg (fun h => h1 h.2), if_neg (fun h => h0 h.1), if_pos (by omega)])
        clear h9 h1 h0
        go_enter Tryz.func252, Tryz.ntmps252
        go_wp2_with fail
        go_ret
        exact ⟨by rw [HV.out]; rfl, rfl⟩
  · have u9 : ((i : Int) == 9) = false := by rw [beq_eq_false_iff_ne]; omega
    by_cases h0 : c = 0
    · have u0 : ((c : Int) == 0) = true := by rw [beq_iff_eq]; omega
      by_cases hi0 : 0 < i
      · have v1 : decide (0 < i) = true := decide_eq_true (by omega)
        have HV := Lib.hid (show kindD c i = 1 from by unfold kindD; rw [if_neg (fun h => h9 h.1), if_pos ⟨h0, hi0⟩])
        clear h9 h0 hi0
        go_enter Tryz.func252, Tryz.ntmps252
        go_wp2_with fail
        go_ret
        exact ⟨by rw [HV.out]; rfl, rfl⟩
      · have v1 : decide (0 < i) = false := decide_eq_false (by omega)
        have v2 : decide ((c : Int) < 128) = true := decide_eq_true (by omega)
        have HV := Lib.hid (show kindD c i = 2 from by unfold kindD; rw [if_neg (fun h => h9 h.1), if_neg (fun h => hi0 h.2), if_pos (by omega)])
        clear h9 h0 hi0
        go_enter Tryz.func252, Tryz.ntmps252
        go_wp2_with fail
        go_ret
        exact ⟨by rw [HV.out]; rfl, rfl⟩
    · have u0 : ((c : Int) == 0) = false := by rw [beq_eq_false_iff_ne]; omega
      by_cases h128 : c < 128
      · have v2 : decide ((c : Int) < 128) = true := decide_eq_true (by omega)
        have HV := Lib.hid (show kindD c i = 2 from by unfold kindD; rw [if_neg (fun h => h9 h.1), if_neg (fun h => h0 h.1), if_pos h128])
        clear h9 h0 h128
        go_enter Tryz.func252, Tryz.ntmps252
        go_wp2_with fail
        go_ret
        exact ⟨by rw [HV.out]; rfl, rfl⟩
      · have v2 : decide ((c : Int) < 128) = false := decide_eq_false (by omega)
        have HV := Lib.hid (show kindD c i = 3 from by unfold kindD; rw [if_neg (fun h => h9 h.1), if_neg (fun h => h0 h.1), if_neg h128])
        clear h9 h0 h128
        go_enter Tryz.func252, Tryz.ntmps252
        go_wp2_with fail
        go_ret
        exact ⟨by rw [HV.out]; rfl, rfl⟩
theorem readU_step (at_ i u c : Nat) (l : List Nat) : readU at_ i u (c :: l) = (match kindD c i with
    | 0 => .bad 11
    | 1 => .bad 12
    | 2 => .ok (zag (u + c * 2 ^ (7 * i))) (at_ + i + 1)
    | _ => readU at_ (i + 1) (u + (c % 128) * 2 ^ (7 * i)) l) := by
  rw [readU]
  unfold kindD
  split
  · rfl
  · split
    · rfl
    · split <;> rfl
theorem shl_wrap {c i m : Nat} (hm : m = c * 2 ^ (7 * i)) (hl : m < 18446744073709551616) : IntKind.u64.wrap ((c : Int) * 2 ^ (7 * i)) = (m : Nat) := by
  rw [IntKind.wrap_u64]
  have : (c : Int) * 2 ^ (7 * i) = ((c * 2 ^ (7 * i) : Nat) : Int) := by rw [Int.natCast_mul, Int.natCast_pow]; rfl
  rw [this, ← hm]
  omega
theorem or_join {u c i : Nat} (hu : u < 2 ^ (7 * i)) (hl : c * 2 ^ (7 * i) < 18446744073709551616) (hu2 : u < 18446744073709551616) : bits .or .u64 (u : Int) ((c * 2 ^ (7 * i) : Nat) : Int) = ((u + c * 2 ^ (7 * i) : Nat) : Int) := by
  rw [u64_or_nat u _ hu2 hl]
  congr 1
  have h2 := Nat.two_pow_add_eq_or_of_lt hu c
  rw [Nat.or_comm, Nat.mul_comm c, ← h2]
  omega
theorem and1 {u : Nat} (h : u < 18446744073709551616) : bits .and .u64 (u : Int) 1 = ((u % 2 : Nat) : Int) := by
  have h1 := u64_and_nat u 1 h (by omega)
  rw [show ((1 : Nat) : Int) = 1 from rfl] at h1
  rw [h1]
  congr 1
  exact Nat.and_two_pow_sub_one_eq_mod u 1
theorem and127b {c : Nat} (h : c < 256) : bits .and .u8 (c : Int) 127 = ((c % 128 : Nat) : Int) := by
  show IntKind.u8.wrap ((BitVec.ofInt 8 (c : Int) &&& BitVec.ofInt 8 127).toNat : Int) = _
  rw [BitVec.toNat_and]
  have e1 : (BitVec.ofInt 8 (c : Int)).toNat = c := by rw [BitVec.ofInt_natCast, BitVec.toNat_ofNat]; omega
  have e2 : (BitVec.ofInt 8 127).toNat = 127 := by decide
  rw [e1, e2]
  have e3 : c &&& 127 = c % 128 := Nat.and_two_pow_sub_one_eq_mod c 7
  rw [e3, IntKind.wrap_u8]
  omega
theorem zag_xor {u : Nat} (h : u < 18446744073709551616) : bits .xor .i64 ((u / 2 : Nat) : Int) (-((u % 2 : Nat) : Int)) = zag u := by
  show IntKind.i64.wrap ((BitVec.ofInt 64 ((u / 2 : Nat) : Int) ^^^ BitVec.ofInt 64 (-((u % 2 : Nat) : Int))).toNat : Int) = _
  have e1 : (BitVec.ofInt 64 ((u / 2 : Nat) : Int)).toNat = u / 2 := by rw [BitVec.ofInt_natCast, BitVec.toNat_ofNat]; omega
  unfold zag
  by_cases h2 : u % 2 = 0
  · rw [if_pos h2, h2]
    rw [BitVec.toNat_xor, e1]
    have e2 : (BitVec.ofInt 64 (-((0 : Nat) : Int))).toNat = 0 := by decide
    rw [e2, Nat.xor_zero, IntKind.wrap_i64]
    omega
  · rw [if_neg h2, show u % 2 = 1 by omega]
    have e2 : BitVec.ofInt 64 (-((1 : Nat) : Int)) = BitVec.allOnes 64 := by decide
    rw [e2, BitVec.xor_allOnes, BitVec.toNat_not, e1, IntKind.wrap_i64]
    omega
theorem wrap_half {u : Nat} (h : u < 18446744073709551616) : IntKind.i64.wrap ((u : Int) / 2) = ((u / 2 : Nat) : Int) := by
  rw [IntKind.wrap_i64]
  omega
/-- What a reading tells. -/
def ReadPost (w : World) (at_ : Int) (r : RdI) (e : Ending) (w' : World) : Prop :=
  (∀ n next, r = .ok n next → e = .returned (.tuple #[.int .i64 n, .int .i64 (next : Nat), .nilIface]) ∧ Below w.heap.size w w') ∧
  (∀ code, r = .bad code → ∃ v, e = .returned (.tuple #[.int .i64 0, .int .i64 0, v]) ∧ ErrAt w' v at_ code ∧ Below w.heap.size w w')
theorem readPost_bad {w w' : World} {at_ code : Int} {r : RdI} {e : Ending} (hr : r = .bad code) (h : ∃ v, e = .returned (.tuple #[.int .i64 0, .int .i64 0, v]) ∧ ErrAt w' v at_ code ∧ Below w.heap.size w w') : ReadPost w at_ r e w' :=
  ⟨(fun n next h' => by rw [hr] at h'; cases h'), (fun c h' => by rw [hr] at h'; cases h'; exact h)⟩
theorem readPost_ok {w w' : World} {at_ n : Int} {next : Nat} {r : RdI} {e : Ending} (hr : r = .ok n next) (h : e = .returned (.tuple #[.int .i64 n, .int .i64 (next : Nat), .nilIface]) ∧ Below w.heap.size w w') : ReadPost w at_ r e w' :=
  ⟨(fun n' next' h' => by rw [hr] at h'; cases h'; exact h), (fun c h' => by rw [hr] at h'; cases h')⟩
end Go.Proofs.YtipfoljmdeiggaaGreatDoor

/- Numbers as bytes: wire.ReadInt of the program. -/
namespace Go.Proofs.YtipfoljmdeiggaaGreatDoor
open Go.RowKit Go.Sort

theorem own_blk_ne' {w : World} {base g n z : Nat} {e t : TypeId} {v : Value} {xs : List Value} {cs : Array Value} (h : w.ownsRow base e z v n xs) (hg : Bk w g t cs) (hne : e ≠ t) : v.ownBlock ≠ some g := by
  rcases h.2 with ⟨rfl, _⟩ | ⟨g', cap, cur, rfl, _, hh, _⟩
  · simp [Value.ownBlock]
  · intro he
    have : g' = g := by simpa [Value.ownBlock] using he
    subst this
    exact Bk.ne_ (t := e) hh hg hne rfl
theorem own_off2 {w w' : World} {base z n : Nat} {e : TypeId} {v v' : Value} {xs : List Value} (h : w.ownsRow base e z v n xs) (hg : w.grownBy w' v'.ownBlock) (hn : ∀ k, v'.ownBlock = some k → k < base) : w'.ownsRow base e z v n xs :=
  own_fr (S := fun k => v'.ownBlock = some k) h (Fr.refl.grown hg (fun k hk => .inl hk)) (fun k hk hk' => by have := (h.lt k hk).1; have := hn k hk'; omega)
set_option maxRecDepth 100000 in
set_option maxHeartbeats 8000000 in
theorem readInt_c (S : Nat → Prop) (b : List Nat) (A : Option Addr) (c : Nat) (at_ : Int) (w : World) (h : RdS w S 1 A b.length (bytesC b)) (hb : ∀ x ∈ b, x < 256) (hl : b.length ≤ 1000000) :
    Calls Tryz.prog 192 #[.slice A b.length c, .int .i64 at_] w (ReadPost w at_ (readI b at_)) := by
  by_cases h0 : at_ < 0
  · have u0 : decide (at_ < 0) = true := decide_eq_true h0
    have HR := Lib.hid (show readI b at_ = .bad 1 from by unfold readI; rw [if_pos (.inl h0)])
    clear h0 h
    go_enter Tryz.func192, Tryz.ntmps192
    go_wp2_with (first | (go_at_call 251; refine (wFault_c _ _ _).mono ?_; rintro e w1 ⟨v, rfl, hE, hb⟩; have HE := Lib.hid hE; have HB := Lib.hid hb; clear hE hb))
    go_ret3
    exact readPost_bad HR.out ⟨v, rfl, HE.out, HB.out⟩
  · have u0 : decide (at_ < 0) = false := decide_eq_false h0
    obtain ⟨k, rfl⟩ : ∃ k : Nat, at_ = (k : Nat) := ⟨at_.toNat, by omega⟩
    by_cases h1 : b.length < k
    · have u1 : decide (b.length < k) = true := decide_eq_true h1
      have HR := Lib.hid (show readI b (k : Nat) = .bad 1 from by unfold readI; rw [if_pos (.inr (by omega))])
      clear h0 h1 h
      go_enter Tryz.func192, Tryz.ntmps192
      go_wp2_with (first | (go_at_call 251; refine (wFault_c _ _ _).mono ?_; rintro e w1 ⟨v, rfl, hE, hb⟩; have HE := Lib.hid hE; have HB := Lib.hid hb; clear hE hb))
      go_ret3
      exact readPost_bad HR.out ⟨v, rfl, HE.out, HB.out⟩
    · have u1 : decide (b.length < k) = false := decide_eq_false h1
      have hkl : k ≤ b.length := by omega
      have HR := Lib.hid (show readI b (k : Nat) = readU k 0 0 (b.drop k) from by unfold readI; rw [if_neg (by omega), Int.toNat_natCast])
      have HO := Lib.hid h
      have HBy := Lib.hid hb
      clear h0 h1 h hb
      go_enter Tryz.func192, Tryz.ntmps192
      go_wp2_with fail
      go_loopg [7, 8] b.length (fun gk v7 v8 wr => ∃ (i u : Nat), k + i + gk = b.length + k ∧ v8 = .int .i64 (i : Nat) ∧ v7 = .int .u64 (u : Nat) ∧ i ≤ 9 ∧ k + i ≤ b.length ∧ u < 2 ^ (7 * i) ∧ Hid (readI b (k : Nat) = readU k i u (b.drop (k + i))) ∧ wr = w)
      case atStart => exact ⟨0, 0, by omega, rfl, rfl, by omega, by omega, by omega, Lib.hid HR.out, rfl⟩
      case round =>
        obtain ⟨i, u, hik, rfl, rfl, hi9, hki, hu, hrd, rfl⟩ := hrel
        by_cases hlt : k + i < b.length
        · have hy : b[k + i]? = some (b[k + i]) := List.getElem?_eq_getElem hlt
          generalize b[k + i] = cb at hy
          have hcb : cb < 256 := HBy.out cb (List.mem_of_getElem? hy)
          obtain ⟨ad, rfl, hcell⟩ := HO.out.cell (by omega)
          have d0 : wr.cell? (ad.add (k + i)) = some (.int .u8 (cb : Nat)) := hcell _ _ (by unfold bytesC; rw [List.getElem?_map, hy]; rfl)
          have hdl := World.block_lt_of_cell? wr _ d0
          have hdr : b.drop (k + i) = cb :: b.drop (k + i + 1) := by
            rw [List.drop_eq_getElem_cons hlt]
            congr 1
            have := (List.getElem?_eq_some_iff.1 hy).2
            exact this
          have HST := Lib.hid (show readI b (k : Nat) = _ from (by rw [hrd.out, hdr, readU_step k i u cb]))
          clear hy hcell hdr
          have hk4 : kindD cb i = 0 ∨ kindD cb i = 1 ∨ kindD cb i = 2 ∨ kindD cb i = 3 := by unfold kindD; split <;> (try split) <;> (try split) <;> simp
          rcases hk4 with hk | hk | hk | hk
          · have HK := Lib.hid hk
            have HF := Lib.hid (show readI b (k : Nat) = .bad 11 from by rw [HST.out, hk]; rfl)
            clear hk HST
            go_wp2_with (first | (go_at_call 252; refine (kind_c cb i _ hcb hi9).mono ?_; rw [HK.out]; rintro e w' ⟨rfl, rfl⟩) | (go_at_call 251; refine (wFault_c _ _ _).mono ?_; rintro e w1 ⟨v, rfl, hE, hb⟩; have HE := Lib.hid hE; have HB := Lib.hid hb; clear hE hb))
            go_ret3
            exact readPost_bad HF.out ⟨v, rfl, HE.out, HB.out⟩
          · have HK := Lib.hid hk
            have HF := Lib.hid (show readI b (k : Nat) = .bad 12 from by rw [HST.out, hk]; rfl)
            clear hk HST
            go_wp2_with (first | (go_at_call 252; refine (kind_c cb i _ hcb hi9).mono ?_; rw [HK.out]; rintro e w' ⟨rfl, rfl⟩) | (go_at_call 251; refine (wFault_c _ _ _).mono ?_; rintro e w1 ⟨v, rfl, hE, hb⟩; have HE := Lib.hid hE; have HB := Lib.hid hb; clear hE hb))
            go_ret3
            exact readPost_bad HF.out ⟨v, rfl, HE.out, HB.out⟩
          · have HK := Lib.hid hk
            have hml : cb * 2 ^ (7 * i) < 9223372036854775809 ∧ u + cb * 2 ^ (7 * i) < 18446744073709551616 := by
              have hc1 : cb < 128 ∧ (i = 9 → cb ≤ 1) := by
                unfold kindD at hk
                split at hk
                · cases hk
                · split at hk
                  · cases hk
                  · split at hk
                    · refine ⟨by assumption, fun h => ?_⟩
                      omega
                    · cases hk
              have hi : i = 0 ∨ i = 1 ∨ i = 2 ∨ i = 3 ∨ i = 4 ∨ i = 5 ∨ i = 6 ∨ i = 7 ∨ i = 8 ∨ i = 9 := by omega
              rcases hi with rfl | rfl | rfl | rfl | rfl | rfl | rfl | rfl | rfl | rfl <;> simp only [Nat.reduceMul, Nat.reducePow] at hu ⊢ <;> omega
            obtain ⟨m, hm⟩ : ∃ m, m = cb * 2 ^ (7 * i) := ⟨_, rfl⟩
            have e1 : IntKind.u64.wrap ((cb : Int) * 2 ^ (7 * i)) = (m : Nat) := shl_wrap hm (by omega)
            have e2 : bits .or .u64 (u : Int) (m : Nat) = ((u + m : Nat) : Int) := by rw [hm]; exact or_join hu (by omega) (by omega)
            obtain ⟨t, ht⟩ : ∃ t, t = u + m := ⟨_, rfl⟩
            rw [← ht] at e2
            have htl : t < 18446744073709551616 := by omega
            have HF := Lib.hid (show readI b (k : Nat) = .ok (zag t) (k + i + 1) from by rw [HST.out, hk, ht, hm]; rfl)
            have e3 := wrap_half htl
            have e4 := and1 htl
            have e5 := zag_xor htl
            obtain ⟨t1, ht1⟩ : ∃ t1, t1 = t / 2 := ⟨_, rfl⟩
            obtain ⟨t2, ht2⟩ : ∃ t2, t2 = t % 2 := ⟨_, rfl⟩
            rw [← ht1] at e3 e5
            rw [← ht2] at e4 e5
            have e6 : IntKind.i64.wrap (t2 : Nat) = (t2 : Nat) := by rw [IntKind.wrap_i64]; omega
            have e7 : IntKind.i64.wrap (-(t2 : Nat)) = -(t2 : Nat) := by rw [IntKind.wrap_i64]; omega
            have e8 : ((7 : Int) * (i : Nat)).toNat = 7 * i := by omega
            have ht2l : t2 ≤ 1 := by omega
            have hi64 : (7 : Int) * (i : Nat) ≤ 64 := by omega
            clear hk HST hml hm ht ht1 ht2
            go_wp2_with (first | (go_at_call 252; refine (kind_c cb i _ hcb hi9).mono ?_; rw [HK.out]; rintro e w' ⟨rfl, rfl⟩))
            go_ret3
            exact readPost_ok HF.out ⟨rfl, Below.refl _ _⟩
          · have HK := Lib.hid hk
            have hi8 : i ≤ 8 := by
              unfold kindD at hk
              split at hk
              · cases hk
              · split at hk
                · cases hk
                · split at hk
                  · cases hk
                  · omega
            have hc128 : ¬ cb < 128 := by
              unfold kindD at hk
              split at hk
              · cases hk
              · split at hk
                · cases hk
                · split at hk
                  · cases hk
                  · assumption
            obtain ⟨c7, hc7⟩ : ∃ c7, c7 = cb % 128 := ⟨_, rfl⟩
            have hml : c7 * 2 ^ (7 * i) < 9223372036854775809 ∧ u + c7 * 2 ^ (7 * i) < 2 ^ (7 * (i + 1)) ∧ 2 ^ (7 * (i + 1)) ≤ 9223372036854775808 := by
              have hi : i = 0 ∨ i = 1 ∨ i = 2 ∨ i = 3 ∨ i = 4 ∨ i = 5 ∨ i = 6 ∨ i = 7 ∨ i = 8 := by omega
              rcases hi with rfl | rfl | rfl | rfl | rfl | rfl | rfl | rfl | rfl <;> simp only [Nat.reduceMul, Nat.reducePow, Nat.reduceAdd] at hu ⊢ <;> omega
            obtain ⟨m, hm⟩ : ∃ m, m = c7 * 2 ^ (7 * i) := ⟨_, rfl⟩
            have e0 := and127b hcb
            rw [← hc7] at e0
            have e1 : IntKind.u64.wrap ((c7 : Int) * 2 ^ (7 * i)) = (m : Nat) := shl_wrap hm (by omega)
            have e2 : bits .or .u64 (u : Int) (m : Nat) = ((u + m : Nat) : Int) := by rw [hm]; exact or_join hu (by omega) (by omega)
            obtain ⟨t, ht⟩ : ∃ t, t = u + m := ⟨_, rfl⟩
            rw [← ht] at e2
            have HT := Lib.hid (show t < 2 ^ (7 * (i + 1)) from by omega)
            have HF := Lib.hid (show readI b (k : Nat) = readU k (i + 1) t (b.drop (k + (i + 1))) from by rw [HST.out, hk, ht, hm, hc7]; rfl)
            have e8 : ((7 : Int) * (i : Nat)).toNat = 7 * i := by omega
            have hi64 : (7 : Int) * (i : Nat) ≤ 64 := by omega
            have hc7l : c7 < 128 := by omega
            clear hk HST hml hm ht hc7 hc128
            go_wp2_with (first | (go_at_call 252; refine (kind_c cb i _ hcb hi9).mono ?_; rw [HK.out]; rintro e w' ⟨rfl, rfl⟩))
            go_roundg (gk - 1)
            case measure => omega
            case rel => exact ⟨i + 1, t, by omega, by go_num, rfl, by omega, by omega, HT.out, HF, rfl⟩
        · have hke : b.drop (k + i) = [] := List.drop_eq_nil_of_le (by omega)
          have HF := Lib.hid (show readI b (k : Nat) = .bad 10 from by rw [hrd.out, hke]; rfl)
          clear hke
          go_wp2_with (first | (go_at_call 251; refine (wFault_c _ _ _).mono ?_; rintro e w1 ⟨v, rfl, hE, hb⟩; have HE := Lib.hid hE; have HB := Lib.hid hb; clear hE hb))
          go_ret3
          exact readPost_bad HF.out ⟨v, rfl, HE.out, HB.out⟩
end Go.Proofs.YtipfoljmdeiggaaGreatDoor
