/- DrvI, LawA, LawB, LawC, LawD, LawE, LawF, LawG: laid together. -/
import Derived.Test.YtlmjjhenoadndaaGreatDoorPwN

/- The driver: Hear of the program, MCommitted and MSaved. (Printed by mkhear.py.) -/
namespace Go.Proofs.YtlmjjhenoadndaaGreatDoor
open Go.RowKit Go.Sort

def DrvD.known (v : DrvD) (n : Int) : DrvD := ⟨⟨v.s.every, max v.s.known n, v.s.holds, v.s.saved⟩, v.x, v.n, v.next, v.life, v.gone⟩
def DrvD.saves (v : DrvD) (p : PlanD) (x : Id3) : DrvD := ⟨v.s.save p x, v.x, v.n, v.next, v.life, v.gone⟩
def hearD (p : PlanD) (v v1 : DrvD) (d : DiskD) : Option Int × DrvD × DiskD := if v.down d then (some 70, v, d) else marksD p 61 v1 d
theorem save_every (s : SchedD) (p : PlanD) (x : Id3) : (s.save p x).every = s.every := by unfold SchedD.save; split <;> rfl
theorem stepW_life {d : DiskD} {t : Option Int} {r : Rec} {x : WalD} {n next life : Nat} (h : WalOk d x n next) (hroom : d.room ≤ 65536) (hr : t = none → x.ok r) (hy : (stepW d life n next t r).2 = none) : (stepW d life n next t r).1.life = d.life := by
  cases t with
  | some c => cases hy
  | none => exact ((h.app (life := life) hroom (hr rfl)).1 hy).2.2.2
section
variable {B : Nat} {X : DrvX} {p : PlanD} {A : Option Addr} {c : Nat} {v : DrvD} {d : DiskD}
theorem VTurn.trans2 {w0 w1 w2 : World} {v1 v2 : DrvD} {d1 d2 : DiskD} {X1 : DrvX} (_ : VTurn B X p A c v1 d1 w0 w1) (_ : DrvAt B X1 p A c v1 d1 w1) (hx : X1.vb = X.vb ∧ X1.db = X.db ∧ (∀ k, X1.all k → X.all k ∨ w0.heap.size ≤ k) ∧ (∀ k, X1.Rd k → X.Rd k ∨ w0.heap.size ≤ k) ∧ Fr X.all w0 w1) (k : VTurn B X1 p A c v2 d2 w1 w2) : VTurn B X p A c v2 d2 w0 w2 := by
  obtain ⟨X2, k1, k2, k3, k4, k4', k5⟩ := k
  obtain ⟨h2, h3, h4, h4', h5⟩ := hx
  have hs := h5.size
  exact ⟨X2, k1, k2.trans h2, k3.trans h3, fun j hj => (k4 j hj).elim (h4 j) (fun h => .inr (by omega)), fun j hj => (k4' j hj).elim (h4' j) (fun h => .inr (by omega)), h5.trans k5 (fun j hj => h4 j hj)⟩
set_option maxRecDepth 100000 in
set_option maxHeartbeats 16000000 in
theorem hear_known (m : MsgD) (w : World) (h : DrvAt B X p A c v d w) (hk : m.kind = 5) (hlf : d.life + 2 ≤ 1000000) (hn : m.n ≤ 9223372036854775807) :
    Calls Tryz.prog 45 #[.pointer (some ⟨X.vb, 0, none⟩), .agg m.cs] w (HPost B X p A c (hearD p v (v.known m.n) d) w) := by
  have HX := Lib.hid (Bk.new w 94 m.cs)
  have HU := Lib.hid (vup_c _ (h.ext (ext_alloc (Below.refl w.heap.size w) (.cells m.cs 94 (0, 0)))))
  have H := Lib.hid h
  have hvl := h.bk.lt
  obtain ⟨mk, mw, mid, mdp, mh, my, ml, mlw, mr, mn⟩ := m
  simp only at hk
  subst hk
  cases hd : v.down d with
  | true =>
    have HD := Lib.hid hd
    have HV := Lib.hid (show hearD p v (v.known mn) d = (some 70, v, d) from by unfold hearD; rw [hd]; rfl)
    clear h hd
    go_enter Tryz.func45, Tryz.ntmps45
    go_wp2_with (first
      | (go_at_call 105; refine HU.out.mono ?_; rintro e w1 hpost; obtain ⟨ve, rfl, hE, hb⟩ := hpost.2 HD.out; obtain ⟨n7, hn7⟩ := hE.errN; obtain ⟨T7, y7, rfl⟩ := hn7.iface; have HE := Lib.hid hE; have HB := Lib.hid (ext_trans (ext_alloc (Below.refl w.heap.size w) _) hb); clear hpost hE hb hn7))
    go_ret
    rw [HV.out]
    exact ⟨(fun h => by cases h), fun code h => by cases h; exact ⟨_, _, rfl, HE.out⟩, H.out.turn HB.out⟩
  | false =>
    have HD := Lib.hid hd
    have HV := Lib.hid (show hearD p v (v.known mn) d = marksD p 61 (v.known mn) d from by unfold hearD; rw [hd]; rfl)
    have hvw := h.vo.1
    clear h hd
    go_enter Tryz.func45, Tryz.ntmps45
    go_upto_region 11 with (first
      | (go_at_call 105; refine HU.out.mono ?_; rintro e w1 hpost; obtain ⟨rfl, hb⟩ := hpost.1 HD.out
         have HX1 := Lib.hid (HX.out.ext hb)
         have H1 := Lib.hid ((H.out.ext (ext_alloc (Below.refl w.heap.size w) (.cells _ 94 (0, 0)))).ext hb)
         have q0 : w1.cell? ⟨w.heap.size, 0, none⟩ = some (.int .i64 5) := (HX1.out.cell 0).trans rfl
         have q1a : w1.cell? ⟨w.heap.size, 13, none⟩ = some (.int .i64 mn) := (HX1.out.cell 13).trans rfl
         have q2 : w1.cell? ⟨X.vb, 0, none⟩ = some (.pointer (some ⟨X.sb, 0, none⟩)) := (H1.out.bk.cell 0).trans rfl
         have ql := HX1.out.lt
         have qv := H1.out.bk.lt
         have HB := Lib.hid (ext_trans (ext_alloc (Below.refl w.heap.size w) _) hb); clear hpost hb))
    refine wp_region_held_drew (S := (fun w' => w'.cell? ⟨X.vb, 0, none⟩ = some (.pointer (some ⟨X.sb, 0, none⟩)) ∧ w'.cell? ⟨w.heap.size, 0, none⟩ = some (.int .i64 5) ∧ w'.cell? ⟨w.heap.size, 13, none⟩ = some (.int .i64 mn))) (by kernel_rfl) ?_ (fun hHeld => ?_)
    · (first | exact ⟨r2, r0, r1a⟩ | exact ⟨q2, q0, q1a⟩ | go_keep)
    refine wpAnyH_take (i := 0) (oi := { dst := some 40, op := Go.Op.move (Go.Operand.tmp 0), type := 86, pos := "driver.go:121", after := #[], guard := none }) (v := ?v1z0) rfl (by kernel_rfl) (by kernel_rfl) (by kernel_rfl) (fun _ _ _ h => h) (Or.inl ⟨by rfl, ?hy1z0⟩) (by assumption) ?rest1z0
    case hy1z0 => (intro w hSw; (try dsimp only at hSw); go_simp; try (with_reducible rfl))
    simp only [Act.put, List.setIfInBounds_toArray, List.set_cons_zero, List.set_cons_succ]
    refine wpAnyH_take (i := 1) (oi := { dst := some 41, op := Go.Op.nilCheck (Go.Operand.tmp 40), type := 0, pos := "driver.go:121", after := #[{ on := 0, ground := Go.Ground.data }], guard := none }) (v := ?v1z1) rfl (by kernel_rfl) (by kernel_rfl) (by kernel_rfl) (fun _ _ _ h => h) (Or.inl ⟨by rfl, ?hy1z1⟩) (by assumption) ?rest1z1
    case hy1z1 => (intro w hSw; (try dsimp only at hSw); go_simp; try (with_reducible rfl))
    simp only [Act.put, List.setIfInBounds_toArray, List.set_cons_zero, List.set_cons_succ]
    refine wpAnyH_take (i := 2) (oi := { dst := some 42, op := Go.Op.fieldAddr 106 (Go.Operand.tmp 41) 0, type := 0, pos := "driver.go:121", after := #[{ on := 1, ground := Go.Ground.data }], guard := none }) (v := ?v1z2) rfl (by kernel_rfl) (by kernel_rfl) (by kernel_rfl) (fun _ _ _ h => h) (Or.inl ⟨by rfl, ?hy1z2⟩) (by assumption) ?rest1z2
    case hy1z2 => (intro w hSw; (try dsimp only at hSw); go_simp; try (with_reducible rfl))
    simp only [Act.put, List.setIfInBounds_toArray, List.set_cons_zero, List.set_cons_succ]
    refine wpAnyH_take (i := 3) (oi := { dst := some 43, op := Go.Op.load 104 (Go.Operand.tmp 42), type := 104, pos := "driver.go:121", after := #[{ on := 2, ground := Go.Ground.data }], guard := none }) (v := ?v1z3) rfl (by kernel_rfl) (by kernel_rfl) (by kernel_rfl) (fun _ _ _ h => h) (Or.inl ⟨by rfl, ?hy1z3⟩) (by assumption) ?rest1z3
    case hy1z3 => (intro w hSw; (try dsimp only at hSw); go_simp; try (with_reducible rfl))
    simp only [Act.put, List.setIfInBounds_toArray, List.set_cons_zero, List.set_cons_succ]
    refine wpAnyH_take (i := 4) (oi := { dst := some 44, op := Go.Op.fieldAddr 94 (Go.Operand.tmp 3) 8, type := 0, pos := "driver.go:121", after := #[], guard := none }) (v := ?v1z4) rfl (by kernel_rfl) (by kernel_rfl) (by kernel_rfl) (fun _ _ _ h => h) (Or.inl ⟨by rfl, ?hy1z4⟩) (by assumption) ?rest1z4
    case hy1z4 => (intro w hSw; (try dsimp only at hSw); go_simp; try (with_reducible rfl))
    simp only [Act.put, List.setIfInBounds_toArray, List.set_cons_zero, List.set_cons_succ]
    refine wpAnyH_take (i := 5) (oi := { dst := some 45, op := Go.Op.load 3 (Go.Operand.tmp 44), type := 3, pos := "driver.go:121", after := #[{ on := 4, ground := Go.Ground.data }], guard := none }) (v := ?v1z5) rfl (by kernel_rfl) (by kernel_rfl) (by kernel_rfl) (fun _ _ _ h => h) (Or.inl ⟨by rfl, ?hy1z5⟩) (by assumption) ?rest1z5
    case hy1z5 => (intro w hSw; (try dsimp only at hSw); go_simp; try (with_reducible rfl))
    simp only [Act.put, List.setIfInBounds_toArray, List.set_cons_zero, List.set_cons_succ]
    refine wpAnyH_ready (rs := [6]) (by kernel_rfl) (by simp) ?_
    refine AllReadyH.cons (o := { dst := some 46, op := Go.Op.call { callee := Go.Callee.value (Go.Operand.func 102), args := #[Go.Operand.tmp 43, Go.Operand.tmp 45], argTypes := #[104, 3] }, type := 0, pos := "driver.go:121", after := #[{ on := 3, ground := Go.Ground.data }, { on := 5, ground := Go.Ground.data }], guard := none }) rfl (fun K hK => ?_) ?_
    ·
      go_simp
      go_at_call 102
      refine (known_c mn _ (H1.out.ext (below_drewN (Below.refl _ _) 1)).sched hn).mono ?_
      rintro e w2 hT
      obtain rfl := hT.1
      have HTu := Lib.hid (((H1.out.ext (below_drewN (Below.refl _ _) 1)).sturn hT rfl))
      obtain ⟨_, R9, _, hF9, _⟩ := hT
      have hs9 : w1.heap.size ≤ w2.heap.size := hF9.size
      have hnb : ¬ X.Rs w.heap.size := fun hk => by have := (H.out.sched.bd _ hk).2; omega
      have r2 := (World.cell?_of_block (a := ⟨X.vb, 0, none⟩) (hF9.block X.vb qv hvw)).trans q2
      have r0 := (World.cell?_of_block (a := ⟨w.heap.size, 0, none⟩) (hF9.block w.heap.size ql hnb)).trans q0
      have r1a := (World.cell?_of_block (a := ⟨w.heap.size, 13, none⟩) (hF9.block w.heap.size ql hnb)).trans q1a
      clear hF9
      refine hK.out _ _ ?_ (fun hHeld => ?_)
      · (first | exact ⟨r2, r0, r1a⟩ | exact ⟨q2, q0, q1a⟩ | go_keep)
      clear hK K
      try simp only [Act.put, List.setIfInBounds_toArray, List.set_cons_zero, List.set_cons_succ]
      refine wpAnyH_done (by kernel_rfl) ?_ _
      obtain ⟨X2, hX2, hXv, hXr⟩ := (VTurn.pre (HTu.out) (below_drewN (Below.refl w1.heap.size w1) 1))
      have H2 := Lib.hid hX2
      have HT2 := Lib.hid (VTurn.pre (show VTurn B X p A c _ d w1 w2 from ⟨X2, hX2, hXv, hXr⟩) HB.out)
      have s0 : w2.cell? ⟨X.vb, 0, none⟩ = some (.pointer (some ⟨X2.sb, 0, none⟩)) := by rw [← hXv]; exact (hX2.bk.cell 0).trans rfl
      have sl : X.vb < w2.heap.size := by rw [← hXv]; exact hX2.bk.lt
      have hm60 : v.x.marked ≤ 60 := by have := H.out.pre.wal.inn.mkd; have := H.out.pre.wal.inn.nc; omega
      have HMk := Lib.hid (fun q => (show Calls Tryz.prog 46 #[.pointer (some ⟨X.vb, 0, none⟩)] (w2.drewN q) (Val (w2.drewN q) (.int .i64 (v.x.marked : Nat))) from by rw [← hXv]; exact vMark_c (v := v.known mn) _ (H2.out.ext (below_drewN (Below.refl _ _) q))))
      obtain ⟨du, hdu⟩ : ∃ du, du = dueD (v.known mn).s.every (v.known mn).s.known (v.known mn).x.marked := ⟨_, rfl⟩
      have HDu := Lib.hid (fun q => (show Calls Tryz.prog 112 #[.pointer (some ⟨X2.sb, 0, none⟩), .int .i64 (v.x.marked : Nat)] (w2.drewN q) (fun e w' => e = .returned (.int .i64 (du : Nat)) ∧ ∃ q', w' = w2.drewN q') from by rw [hdu]; exact (due_c v.x.marked (w2.drewN q) (H2.out.sched.ext (below_drewN (Below.refl _ _) q)) (by omega)).mono (fun e w' ⟨h1, q', h2⟩ => ⟨h1, q + q', by rw [h2]; simp⟩)))
      clear r2 hHeld hX2 hXr hXv HTu r1a
      go_wp2_with fail
      clear r0
      go_quiet (first
        | (go_at_call 46; exact quiet_val (HMk.out _))
        | (go_at_call 112; exact HDu.out _))
      go_wp2_with fail
      rw [hdu]
      have HT3 := Lib.hid (HT2.out.ext (below_drewN (Below.refl w2.heap.size w2) nq))
      clear HMk HDu hdu s0 sl
      go_loopg [4, 6, 7, 8] 61 (fun gk v4 v6 v7 v8 wr => ∃ (v1 : DrvD) (d1 : DiskD), v4 = .nilIface ∧ v6 = .int .i64 (dueD v1.s.every v1.s.known v1.x.marked : Nat) ∧ Hid (VTurn B X p A c v1 d1 w wr) ∧ Hid (hearD p v (v.known mn) d = marksD p gk v1 d1) ∧ 61 ≤ gk + v1.x.marked ∧ d1.life = d.life)
      case atStart => exact ⟨v.known mn, d, rfl, rfl, HT3, HV, by omega, rfl⟩
      case round =>
        obtain ⟨v1, d1, rfl, rfl, hT, hM, hge, hlf1⟩ := hrel
        obtain ⟨X1, hX1, hXv, hXr⟩ := hT.out
        have H4 := Lib.hid hX1
        have HXv := Lib.hid hXv
        have HXr := Lib.hid hXr
        have s0 : wr.cell? ⟨X.vb, 0, none⟩ = some (.pointer (some ⟨X1.sb, 0, none⟩)) := by rw [← hXv]; exact (hX1.bk.cell 0).trans rfl
        have s4 : wr.cell? ⟨X.vb, 4, none⟩ = some (.pointer (some ⟨X1.wb, 0, none⟩)) := by rw [← hXv]; exact (hX1.bk.cell 4).trans rfl
        have sl : X.vb < wr.heap.size := by rw [← hXv]; exact hX1.bk.lt
        have hin := hX1.pre.wal.inn
        have hm1 : v1.x.marked ≤ 60 := by have := hin.mkd; have := hin.nc; omega
        have hev1 : 1 ≤ v1.s.every := by obtain ⟨Y, hY⟩ := hX1.sched; exact hY.every.1
        have hgk : 0 < gk := by omega
        obtain ⟨g, rfl⟩ : ∃ g, gk = g + 1 := ⟨gk - 1, by omega⟩
        have hDG := Lib.hid (fun h0 => due_gt (m := v1.x.marked) (known := v1.s.known) hev1 h0)
        obtain ⟨b, hb⟩ : ∃ b, b = dueD v1.s.every v1.s.known v1.x.marked := ⟨_, rfl⟩
        have HMs := Lib.hid (show marksD p (g + 1) v1 d1 = (if b = 0 ∨ unsavedL p v1.s.saved (b : Nat) ≠ [] then (none, v1, d1) else match (v1.step d1 (markE v1.x (b : Nat)) (.mark b)).1 with
          | none => marksD p g (v1.step d1 (markE v1.x (b : Nat)) (.mark b)).2.1 (v1.step d1 (markE v1.x (b : Nat)) (.mark b)).2.2
          | some _ => v1.step d1 (markE v1.x (b : Nat)) (.mark b)) from by rw [hb]; rfl)
        rw [← hb] at hDG ⊢
        clear hb hX1 hXv hXr hin
        by_cases hb0 : b = 0
        · subst hb0
          have HE := Lib.hid (hM.out.trans (HMs.out.trans (if_pos (.inl rfl))))
          go_wp2_with fail
          go_ret
          rw [HE.out]
          exact ⟨fun _ => rfl, (fun code h => by cases h), hT.out⟩
        · have hbI : ((b : Nat) : Int) ≠ 0 := by omega
          have hbn : (((b : Nat) : Int) != 0) = true := by rw [bne_iff_ne]; exact hbI
          obtain ⟨hb1, hb60, hb2, hb3, hb4⟩ := hDG.out hb0
          have HWh := Lib.hid (whole_c (b : Nat) wr H4.out.sched)
          cases hun : decide (unsavedL p v1.s.saved (b : Nat) = []) with
          | false =>
            rw [hun] at HWh
            have HE := Lib.hid (hM.out.trans (HMs.out.trans (if_pos (.inr (of_decide_eq_false hun)))))
            clear hun
            go_wp2_with (first
              | (go_at_call 113; refine HWh.out.mono ?_; rintro e w5 ⟨rfl, hb5⟩; have HB5 := Lib.hid hb5; clear hb5))
            go_ret
            rw [HE.out]
            exact ⟨fun _ => rfl, (fun code h => by cases h), hT.out.ext HB5.out⟩
          | true =>
            rw [hun] at HWh
            have hor : ¬ (b = 0 ∨ unsavedL p v1.s.saved (b : Nat) ≠ []) := fun h => h.elim hb0 (fun h => h (of_decide_eq_true hun))
            cases hy : (stepW d1 v1.life v1.n v1.next (markE v1.x (b : Nat)) (.mark b)).2 with
            | none =>
              have HY := Lib.hid hy
              have HP2 := (show v1.step d1 (markE v1.x (b : Nat)) (.mark b) = (none, v1.app (.mark b), (stepW d1 v1.life v1.n v1.next (markE v1.x (b : Nat)) (.mark b)).1) from by unfold DrvD.step; simp only [hy])
              have HE := Lib.hid (show hearD p v (v.known mn) d = marksD p g (v1.app (.mark b)) (stepW d1 v1.life v1.n v1.next (markE v1.x (b : Nat)) (.mark b)).1 from by rw [hM.out, HMs.out, if_neg hor, HP2])
              have HLf := Lib.hid (stepW_life (life := v1.life) H4.out.pre.ok H4.out.pre.disk.room_le.2.1 (fun h0 => markE_ok h0) hy)
              clear hun hy hor HP2
              go_wp2_with (first
                | (go_at_call 113; refine HWh.out.mono ?_; rintro e w5 ⟨rfl, hb5⟩; have HB5 := Lib.hid hb5
                   have H5 := Lib.hid (H4.out.ext hb5)
                   have q4 := (World.cell?_of_block (a := ⟨X.vb, 4, none⟩) (hb5.block _ sl)).trans s4
                   clear hb5)
                | (go_at_call 114; refine (wMark_c b _ H5.out.pre).mono ?_; rintro e w6 hs; obtain ⟨rfl, _⟩ := hs.1 HY.out; have HT6 := Lib.hid (H5.out.yes (fun h0 => markE_ok h0) (by omega) HY.out hs); clear hs)
                | (go_at_call 106; refine (told_ok (X := X) _ _).mono ?_; rintro e w7 ⟨rfl, hb7⟩; have HB7 := Lib.hid hb7; clear hb7))
              obtain ⟨X7, hX7, h7v, h7r⟩ := (HT6.out.pre HB5.out).ext HB7.out
              have hX7v : X7.vb = X.vb := h7v.trans HXv.out
              have H7 := Lib.hid hX7
              have HT7 := Lib.hid (hT.out.trans2 H4.out ⟨HXv.out, HXr.out⟩ ⟨X7, hX7, h7v, h7r⟩)
              have t0 : w7.cell? ⟨X.vb, 0, none⟩ = some (.pointer (some ⟨X7.sb, 0, none⟩)) := by rw [← hX7v]; exact (hX7.bk.cell 0).trans rfl
              have tl : X.vb < w7.heap.size := by rw [← hX7v]; exact hX7.bk.lt
              have HMk := Lib.hid (fun q => (show Calls Tryz.prog 46 #[.pointer (some ⟨X.vb, 0, none⟩)] (w7.drewN q) (Val (w7.drewN q) (.int .i64 (b : Nat))) from by rw [← hX7v]; exact vMark_c (v := v1.app (.mark b)) _ (H7.out.ext (below_drewN (Below.refl _ _) q))))
              obtain ⟨du, hdu⟩ : ∃ du, du = dueD v1.s.every v1.s.known b := ⟨_, rfl⟩
              have HDu := Lib.hid (fun q => (show Calls Tryz.prog 112 #[.pointer (some ⟨X7.sb, 0, none⟩), .int .i64 (b : Nat)] (w7.drewN q) (fun e w' => e = .returned (.int .i64 (du : Nat)) ∧ ∃ q', w' = w7.drewN q') from by rw [hdu]; exact (due_c b (w7.drewN q) (H7.out.sched.ext (below_drewN (Below.refl _ _) q)) (by omega)).mono (fun e w' ⟨h1, q', h2⟩ => ⟨h1, q + q', by rw [h2]; simp⟩)))
              clear hX7 h7v h7r hX7v
              go_quiet (first
                | (go_at_call 46; exact quiet_val (HMk.out _))
                | (go_at_call 112; exact HDu.out _))
              go_wp2_with fail
              rw [hdu]
              go_roundg g
              case measure => omega
              case rel => exact ⟨v1.app (.mark b), _, rfl, rfl, Lib.hid (HT7.out.ext (below_drewN (Below.refl _ _) _)), HE, by show 61 ≤ g + b; omega, HLf.out.trans hlf1⟩
            | some code =>
              have HY := Lib.hid hy
              have HP2 := (show v1.step d1 (markE v1.x (b : Nat)) (.mark b) = (some code, v1.no code, (stepW d1 v1.life v1.n v1.next (markE v1.x (b : Nat)) (.mark b)).1) from by unfold DrvD.step; simp only [hy])
              have HE := Lib.hid (show hearD p v (v.known mn) d = (some code, v1.no code, (stepW d1 v1.life v1.n v1.next (markE v1.x (b : Nat)) (.mark b)).1) from by rw [hM.out, HMs.out, if_neg hor, HP2])
              clear hun hy hor HP2
              go_wp2_with (first
                | (go_at_call 113; refine HWh.out.mono ?_; rintro e w5 ⟨rfl, hb5⟩; have HB5 := Lib.hid hb5
                   have H5 := Lib.hid (H4.out.ext hb5)
                   have q4 := (World.cell?_of_block (a := ⟨X.vb, 4, none⟩) (hb5.block _ sl)).trans s4
                   clear hb5)
                | (go_at_call 114; refine (wMark_c b _ H5.out.pre).mono ?_; rintro e w6 hs; obtain ⟨v7, a7, rfl, hE, _⟩ := hs.2 code HY.out
                   obtain ⟨n7, hn7⟩ := hE.errN; obtain ⟨T7, y7, rfl⟩ := hn7.iface
                   obtain ⟨X6, hX6, h6v, h6r⟩ := H5.out.noo (fun h0 => markE_ok h0) (by omega) HY.out hs
                   have HX6 := Lib.hid hX6; have H6v := Lib.hid (h6v.trans HXv.out); have H6w := Lib.hid h6v; have H6r := Lib.hid h6r; have HN7 := Lib.hid hn7
                   clear hs hE hn7 hX6 h6v h6r)
                | (go_at_call 106; rw [← H6v.out]; refine (told_no _ _ _ n7 code _ HX6.out HN7.out).mono ?_; rintro e w8 ⟨ve, rfl, hE, hT8⟩; obtain ⟨n9, hn9⟩ := hE.errN; obtain ⟨T9, y9, rfl⟩ := hn9.iface; clear hn9; have HE8 := Lib.hid hE; have HT8 := Lib.hid hT8; clear hE hT8))
              go_ret
              rw [HE.out]
              exact ⟨(fun h => by cases h), fun code' h => by cases h; exact ⟨_, 0, rfl, HE8.out⟩, hT.out.trans2 H4.out ⟨HXv.out, HXr.out⟩ (noo_turn HB5.out ⟨H6w.out, H6r.out⟩ HX6.out HT8.out)⟩
    exact AllReadyH.nil
set_option maxRecDepth 100000 in
set_option maxHeartbeats 16000000 in
theorem hear_saved (m : MsgD) (w : World) (h : DrvAt B X p A c v d w) (hk : m.kind = 8) (hlf : d.life + 2 ≤ 1000000) :
    Calls Tryz.prog 45 #[.pointer (some ⟨X.vb, 0, none⟩), .agg m.cs] w (HPost B X p A c (hearD p v (v.saves p m.id) d) w) := by
  have HX := Lib.hid (Bk.new w 94 m.cs)
  have HU := Lib.hid (vup_c _ (h.ext (ext_alloc (Below.refl w.heap.size w) (.cells m.cs 94 (0, 0)))))
  have H := Lib.hid h
  have hvl := h.bk.lt
  obtain ⟨mk, mw, mid, mdp, mh, my, ml, mlw, mr, mn⟩ := m
  simp only at hk
  subst hk
  cases hd : v.down d with
  | true =>
    have HD := Lib.hid hd
    have HV := Lib.hid (show hearD p v (v.saves p mid) d = (some 70, v, d) from by unfold hearD; rw [hd]; rfl)
    clear h hd
    go_enter Tryz.func45, Tryz.ntmps45
    go_wp2_with (first
      | (go_at_call 105; refine HU.out.mono ?_; rintro e w1 hpost; obtain ⟨ve, rfl, hE, hb⟩ := hpost.2 HD.out; obtain ⟨n7, hn7⟩ := hE.errN; obtain ⟨T7, y7, rfl⟩ := hn7.iface; have HE := Lib.hid hE; have HB := Lib.hid (ext_trans (ext_alloc (Below.refl w.heap.size w) _) hb); clear hpost hE hb hn7))
    go_ret
    rw [HV.out]
    exact ⟨(fun h => by cases h), fun code h => by cases h; exact ⟨_, _, rfl, HE.out⟩, H.out.turn HB.out⟩
  | false =>
    have HD := Lib.hid hd
    have HV := Lib.hid (show hearD p v (v.saves p mid) d = marksD p 61 (v.saves p mid) d from by unfold hearD; rw [hd]; rfl)
    have hvw := h.vo.1
    clear h hd
    go_enter Tryz.func45, Tryz.ntmps45
    go_upto_region 12 with (first
      | (go_at_call 105; refine HU.out.mono ?_; rintro e w1 hpost; obtain ⟨rfl, hb⟩ := hpost.1 HD.out
         have HX1 := Lib.hid (HX.out.ext hb)
         have H1 := Lib.hid ((H.out.ext (ext_alloc (Below.refl w.heap.size w) (.cells _ 94 (0, 0)))).ext hb)
         have q0 : w1.cell? ⟨w.heap.size, 0, none⟩ = some (.int .i64 8) := (HX1.out.cell 0).trans rfl
         have q1a : w1.cell? ⟨w.heap.size, 2, none⟩ = some (.int .i64 mid.b) := (HX1.out.cell 2).trans rfl
         have q1b : w1.cell? ⟨w.heap.size, 3, none⟩ = some (.int .i64 mid.s) := (HX1.out.cell 3).trans rfl
         have q1c : w1.cell? ⟨w.heap.size, 4, none⟩ = some (.int .i64 mid.p) := (HX1.out.cell 4).trans rfl
         have q2 : w1.cell? ⟨X.vb, 0, none⟩ = some (.pointer (some ⟨X.sb, 0, none⟩)) := (H1.out.bk.cell 0).trans rfl
         have ql := HX1.out.lt
         have qv := H1.out.bk.lt
         have HB := Lib.hid (ext_trans (ext_alloc (Below.refl w.heap.size w) _) hb); clear hpost hb))
    refine wp_region_held_drew (S := (fun w' => w'.cell? ⟨X.vb, 0, none⟩ = some (.pointer (some ⟨X.sb, 0, none⟩)) ∧ w'.cell? ⟨w.heap.size, 0, none⟩ = some (.int .i64 8) ∧ w'.cell? ⟨w.heap.size, 2, none⟩ = some (.int .i64 mid.b) ∧ w'.cell? ⟨w.heap.size, 3, none⟩ = some (.int .i64 mid.s) ∧ w'.cell? ⟨w.heap.size, 4, none⟩ = some (.int .i64 mid.p))) (by kernel_rfl) ?_ (fun hHeld => ?_)
    · (first | exact ⟨r2, r0, r1a, r1b, r1c⟩ | exact ⟨q2, q0, q1a, q1b, q1c⟩ | go_keep)
    refine wpAnyH_take (i := 0) (oi := { dst := some 47, op := Go.Op.move (Go.Operand.tmp 0), type := 86, pos := "driver.go:123", after := #[], guard := none }) (v := ?v2z0) rfl (by kernel_rfl) (by kernel_rfl) (by kernel_rfl) (fun _ _ _ h => h) (Or.inl ⟨by rfl, ?hy2z0⟩) (by assumption) ?rest2z0
    case hy2z0 => (intro w hSw; (try dsimp only at hSw); go_simp; try (with_reducible rfl))
    simp only [Act.put, List.setIfInBounds_toArray, List.set_cons_zero, List.set_cons_succ]
    refine wpAnyH_take (i := 1) (oi := { dst := some 48, op := Go.Op.nilCheck (Go.Operand.tmp 47), type := 0, pos := "driver.go:123", after := #[{ on := 0, ground := Go.Ground.data }], guard := none }) (v := ?v2z1) rfl (by kernel_rfl) (by kernel_rfl) (by kernel_rfl) (fun _ _ _ h => h) (Or.inl ⟨by rfl, ?hy2z1⟩) (by assumption) ?rest2z1
    case hy2z1 => (intro w hSw; (try dsimp only at hSw); go_simp; try (with_reducible rfl))
    simp only [Act.put, List.setIfInBounds_toArray, List.set_cons_zero, List.set_cons_succ]
    refine wpAnyH_take (i := 2) (oi := { dst := some 49, op := Go.Op.fieldAddr 106 (Go.Operand.tmp 48) 0, type := 0, pos := "driver.go:123", after := #[{ on := 1, ground := Go.Ground.data }], guard := none }) (v := ?v2z2) rfl (by kernel_rfl) (by kernel_rfl) (by kernel_rfl) (fun _ _ _ h => h) (Or.inl ⟨by rfl, ?hy2z2⟩) (by assumption) ?rest2z2
    case hy2z2 => (intro w hSw; (try dsimp only at hSw); go_simp; try (with_reducible rfl))
    simp only [Act.put, List.setIfInBounds_toArray, List.set_cons_zero, List.set_cons_succ]
    refine wpAnyH_take (i := 3) (oi := { dst := some 50, op := Go.Op.load 104 (Go.Operand.tmp 49), type := 104, pos := "driver.go:123", after := #[{ on := 2, ground := Go.Ground.data }], guard := none }) (v := ?v2z3) rfl (by kernel_rfl) (by kernel_rfl) (by kernel_rfl) (fun _ _ _ h => h) (Or.inl ⟨by rfl, ?hy2z3⟩) (by assumption) ?rest2z3
    case hy2z3 => (intro w hSw; (try dsimp only at hSw); go_simp; try (with_reducible rfl))
    simp only [Act.put, List.setIfInBounds_toArray, List.set_cons_zero, List.set_cons_succ]
    refine wpAnyH_take (i := 4) (oi := { dst := some 51, op := Go.Op.fieldAddr 94 (Go.Operand.tmp 3) 2, type := 0, pos := "driver.go:123", after := #[], guard := none }) (v := ?v2z4) rfl (by kernel_rfl) (by kernel_rfl) (by kernel_rfl) (fun _ _ _ h => h) (Or.inl ⟨by rfl, ?hy2z4⟩) (by assumption) ?rest2z4
    case hy2z4 => (intro w hSw; (try dsimp only at hSw); go_simp; try (with_reducible rfl))
    simp only [Act.put, List.setIfInBounds_toArray, List.set_cons_zero, List.set_cons_succ]
    refine wpAnyH_take (i := 5) (oi := { dst := some 52, op := Go.Op.load 61 (Go.Operand.tmp 51), type := 61, pos := "driver.go:123", after := #[{ on := 4, ground := Go.Ground.data }], guard := none }) (v := ?v2z5) rfl (by kernel_rfl) (by kernel_rfl) (by kernel_rfl) (fun _ _ _ h => h) (Or.inl ⟨by rfl, ?hy2z5⟩) (by assumption) ?rest2z5
    case hy2z5 => (intro w hSw; (try dsimp only at hSw); go_simp; try (with_reducible rfl))
    simp only [Act.put, List.setIfInBounds_toArray, List.set_cons_zero, List.set_cons_succ]
    refine wpAnyH_ready (rs := [6]) (by kernel_rfl) (by simp) ?_
    refine AllReadyH.cons (o := { dst := some 53, op := Go.Op.call { callee := Go.Callee.value (Go.Operand.func 111), args := #[Go.Operand.tmp 50, Go.Operand.tmp 52], argTypes := #[104, 61] }, type := 0, pos := "driver.go:123", after := #[{ on := 3, ground := Go.Ground.data }, { on := 5, ground := Go.Ground.data }], guard := none }) rfl (fun K hK => ?_) ?_
    ·
      go_simp
      go_at_call 111
      refine (saved_c mid _ (H1.out.ext (below_drewN (Below.refl _ _) 1)).sched).mono ?_
      rintro e w2 hT
      obtain rfl := hT.1
      have HTu := Lib.hid (((H1.out.ext (below_drewN (Below.refl _ _) 1)).sturn hT (save_every _ _ _)))
      obtain ⟨_, R9, _, hF9, _⟩ := hT
      have hs9 : w1.heap.size ≤ w2.heap.size := hF9.size
      have hnb : ¬ X.Rs w.heap.size := fun hk => by have := (H.out.sched.bd _ hk).2; omega
      have r2 := (World.cell?_of_block (a := ⟨X.vb, 0, none⟩) (hF9.block X.vb qv hvw)).trans q2
      have r0 := (World.cell?_of_block (a := ⟨w.heap.size, 0, none⟩) (hF9.block w.heap.size ql hnb)).trans q0
      have r1a := (World.cell?_of_block (a := ⟨w.heap.size, 2, none⟩) (hF9.block w.heap.size ql hnb)).trans q1a
      have r1b := (World.cell?_of_block (a := ⟨w.heap.size, 3, none⟩) (hF9.block w.heap.size ql hnb)).trans q1b
      have r1c := (World.cell?_of_block (a := ⟨w.heap.size, 4, none⟩) (hF9.block w.heap.size ql hnb)).trans q1c
      clear hF9
      refine hK.out _ _ ?_ (fun hHeld => ?_)
      · (first | exact ⟨r2, r0, r1a, r1b, r1c⟩ | exact ⟨q2, q0, q1a, q1b, q1c⟩ | go_keep)
      clear hK K
      try simp only [Act.put, List.setIfInBounds_toArray, List.set_cons_zero, List.set_cons_succ]
      refine wpAnyH_done (by kernel_rfl) ?_ _
      obtain ⟨X2, hX2, hXv, hXr⟩ := (VTurn.pre (HTu.out) (below_drewN (Below.refl w1.heap.size w1) 1))
      have H2 := Lib.hid hX2
      have HT2 := Lib.hid (VTurn.pre (show VTurn B X p A c _ d w1 w2 from ⟨X2, hX2, hXv, hXr⟩) HB.out)
      have s0 : w2.cell? ⟨X.vb, 0, none⟩ = some (.pointer (some ⟨X2.sb, 0, none⟩)) := by rw [← hXv]; exact (hX2.bk.cell 0).trans rfl
      have sl : X.vb < w2.heap.size := by rw [← hXv]; exact hX2.bk.lt
      have hm60 : v.x.marked ≤ 60 := by have := H.out.pre.wal.inn.mkd; have := H.out.pre.wal.inn.nc; omega
      have HMk := Lib.hid (fun q => (show Calls Tryz.prog 46 #[.pointer (some ⟨X.vb, 0, none⟩)] (w2.drewN q) (Val (w2.drewN q) (.int .i64 (v.x.marked : Nat))) from by rw [← hXv]; exact vMark_c (v := v.saves p mid) _ (H2.out.ext (below_drewN (Below.refl _ _) q))))
      obtain ⟨du, hdu⟩ : ∃ du, du = dueD (v.saves p mid).s.every (v.saves p mid).s.known (v.saves p mid).x.marked := ⟨_, rfl⟩
      have HDu := Lib.hid (fun q => (show Calls Tryz.prog 112 #[.pointer (some ⟨X2.sb, 0, none⟩), .int .i64 (v.x.marked : Nat)] (w2.drewN q) (fun e w' => e = .returned (.int .i64 (du : Nat)) ∧ ∃ q', w' = w2.drewN q') from by rw [hdu]; exact (due_c v.x.marked (w2.drewN q) (H2.out.sched.ext (below_drewN (Below.refl _ _) q)) (by omega)).mono (fun e w' ⟨h1, q', h2⟩ => ⟨h1, q + q', by rw [h2]; simp⟩)))
      clear r2 hHeld hX2 hXr hXv HTu r1a r1b r1c
      go_wp2_with fail
      clear r0
      go_quiet (first
        | (go_at_call 46; exact quiet_val (HMk.out _))
        | (go_at_call 112; exact HDu.out _))
      go_wp2_with fail
      rw [hdu]
      have HT3 := Lib.hid (HT2.out.ext (below_drewN (Below.refl w2.heap.size w2) nq))
      clear HMk HDu hdu s0 sl
      go_loopg [4, 6, 7, 8] 61 (fun gk v4 v6 v7 v8 wr => ∃ (v1 : DrvD) (d1 : DiskD), v4 = .nilIface ∧ v6 = .int .i64 (dueD v1.s.every v1.s.known v1.x.marked : Nat) ∧ Hid (VTurn B X p A c v1 d1 w wr) ∧ Hid (hearD p v (v.saves p mid) d = marksD p gk v1 d1) ∧ 61 ≤ gk + v1.x.marked ∧ d1.life = d.life)
      case atStart => exact ⟨v.saves p mid, d, rfl, rfl, HT3, HV, by omega, rfl⟩
      case round =>
        obtain ⟨v1, d1, rfl, rfl, hT, hM, hge, hlf1⟩ := hrel
        obtain ⟨X1, hX1, hXv, hXr⟩ := hT.out
        have H4 := Lib.hid hX1
        have HXv := Lib.hid hXv
        have HXr := Lib.hid hXr
        have s0 : wr.cell? ⟨X.vb, 0, none⟩ = some (.pointer (some ⟨X1.sb, 0, none⟩)) := by rw [← hXv]; exact (hX1.bk.cell 0).trans rfl
        have s4 : wr.cell? ⟨X.vb, 4, none⟩ = some (.pointer (some ⟨X1.wb, 0, none⟩)) := by rw [← hXv]; exact (hX1.bk.cell 4).trans rfl
        have sl : X.vb < wr.heap.size := by rw [← hXv]; exact hX1.bk.lt
        have hin := hX1.pre.wal.inn
        have hm1 : v1.x.marked ≤ 60 := by have := hin.mkd; have := hin.nc; omega
        have hev1 : 1 ≤ v1.s.every := by obtain ⟨Y, hY⟩ := hX1.sched; exact hY.every.1
        have hgk : 0 < gk := by omega
        obtain ⟨g, rfl⟩ : ∃ g, gk = g + 1 := ⟨gk - 1, by omega⟩
        have hDG := Lib.hid (fun h0 => due_gt (m := v1.x.marked) (known := v1.s.known) hev1 h0)
        obtain ⟨b, hb⟩ : ∃ b, b = dueD v1.s.every v1.s.known v1.x.marked := ⟨_, rfl⟩
        have HMs := Lib.hid (show marksD p (g + 1) v1 d1 = (if b = 0 ∨ unsavedL p v1.s.saved (b : Nat) ≠ [] then (none, v1, d1) else match (v1.step d1 (markE v1.x (b : Nat)) (.mark b)).1 with
          | none => marksD p g (v1.step d1 (markE v1.x (b : Nat)) (.mark b)).2.1 (v1.step d1 (markE v1.x (b : Nat)) (.mark b)).2.2
          | some _ => v1.step d1 (markE v1.x (b : Nat)) (.mark b)) from by rw [hb]; rfl)
        rw [← hb] at hDG ⊢
        clear hb hX1 hXv hXr hin
        by_cases hb0 : b = 0
        · subst hb0
          have HE := Lib.hid (hM.out.trans (HMs.out.trans (if_pos (.inl rfl))))
          go_wp2_with fail
          go_ret
          rw [HE.out]
          exact ⟨fun _ => rfl, (fun code h => by cases h), hT.out⟩
        · have hbI : ((b : Nat) : Int) ≠ 0 := by omega
          have hbn : (((b : Nat) : Int) != 0) = true := by rw [bne_iff_ne]; exact hbI
          obtain ⟨hb1, hb60, hb2, hb3, hb4⟩ := hDG.out hb0
          have HWh := Lib.hid (whole_c (b : Nat) wr H4.out.sched)
          cases hun : decide (unsavedL p v1.s.saved (b : Nat) = []) with
          | false =>
            rw [hun] at HWh
            have HE := Lib.hid (hM.out.trans (HMs.out.trans (if_pos (.inr (of_decide_eq_false hun)))))
            clear hun
            go_wp2_with (first
              | (go_at_call 113; refine HWh.out.mono ?_; rintro e w5 ⟨rfl, hb5⟩; have HB5 := Lib.hid hb5; clear hb5))
            go_ret
            rw [HE.out]
            exact ⟨fun _ => rfl, (fun code h => by cases h), hT.out.ext HB5.out⟩
          | true =>
            rw [hun] at HWh
            have hor : ¬ (b = 0 ∨ unsavedL p v1.s.saved (b : Nat) ≠ []) := fun h => h.elim hb0 (fun h => h (of_decide_eq_true hun))
            cases hy : (stepW d1 v1.life v1.n v1.next (markE v1.x (b : Nat)) (.mark b)).2 with
            | none =>
              have HY := Lib.hid hy
              have HP2 := (show v1.step d1 (markE v1.x (b : Nat)) (.mark b) = (none, v1.app (.mark b), (stepW d1 v1.life v1.n v1.next (markE v1.x (b : Nat)) (.mark b)).1) from by unfold DrvD.step; simp only [hy])
              have HE := Lib.hid (show hearD p v (v.saves p mid) d = marksD p g (v1.app (.mark b)) (stepW d1 v1.life v1.n v1.next (markE v1.x (b : Nat)) (.mark b)).1 from by rw [hM.out, HMs.out, if_neg hor, HP2])
              have HLf := Lib.hid (stepW_life (life := v1.life) H4.out.pre.ok H4.out.pre.disk.room_le.2.1 (fun h0 => markE_ok h0) hy)
              clear hun hy hor HP2
              go_wp2_with (first
                | (go_at_call 113; refine HWh.out.mono ?_; rintro e w5 ⟨rfl, hb5⟩; have HB5 := Lib.hid hb5
                   have H5 := Lib.hid (H4.out.ext hb5)
                   have q4 := (World.cell?_of_block (a := ⟨X.vb, 4, none⟩) (hb5.block _ sl)).trans s4
                   clear hb5)
                | (go_at_call 114; refine (wMark_c b _ H5.out.pre).mono ?_; rintro e w6 hs; obtain ⟨rfl, _⟩ := hs.1 HY.out; have HT6 := Lib.hid (H5.out.yes (fun h0 => markE_ok h0) (by omega) HY.out hs); clear hs)
                | (go_at_call 106; refine (told_ok (X := X) _ _).mono ?_; rintro e w7 ⟨rfl, hb7⟩; have HB7 := Lib.hid hb7; clear hb7))
              obtain ⟨X7, hX7, h7v, h7r⟩ := (HT6.out.pre HB5.out).ext HB7.out
              have hX7v : X7.vb = X.vb := h7v.trans HXv.out
              have H7 := Lib.hid hX7
              have HT7 := Lib.hid (hT.out.trans2 H4.out ⟨HXv.out, HXr.out⟩ ⟨X7, hX7, h7v, h7r⟩)
              have t0 : w7.cell? ⟨X.vb, 0, none⟩ = some (.pointer (some ⟨X7.sb, 0, none⟩)) := by rw [← hX7v]; exact (hX7.bk.cell 0).trans rfl
              have tl : X.vb < w7.heap.size := by rw [← hX7v]; exact hX7.bk.lt
              have HMk := Lib.hid (fun q => (show Calls Tryz.prog 46 #[.pointer (some ⟨X.vb, 0, none⟩)] (w7.drewN q) (Val (w7.drewN q) (.int .i64 (b : Nat))) from by rw [← hX7v]; exact vMark_c (v := v1.app (.mark b)) _ (H7.out.ext (below_drewN (Below.refl _ _) q))))
              obtain ⟨du, hdu⟩ : ∃ du, du = dueD v1.s.every v1.s.known b := ⟨_, rfl⟩
              have HDu := Lib.hid (fun q => (show Calls Tryz.prog 112 #[.pointer (some ⟨X7.sb, 0, none⟩), .int .i64 (b : Nat)] (w7.drewN q) (fun e w' => e = .returned (.int .i64 (du : Nat)) ∧ ∃ q', w' = w7.drewN q') from by rw [hdu]; exact (due_c b (w7.drewN q) (H7.out.sched.ext (below_drewN (Below.refl _ _) q)) (by omega)).mono (fun e w' ⟨h1, q', h2⟩ => ⟨h1, q + q', by rw [h2]; simp⟩)))
              clear hX7 h7v h7r hX7v
              go_quiet (first
                | (go_at_call 46; exact quiet_val (HMk.out _))
                | (go_at_call 112; exact HDu.out _))
              go_wp2_with fail
              rw [hdu]
              go_roundg g
              case measure => omega
              case rel => exact ⟨v1.app (.mark b), _, rfl, rfl, Lib.hid (HT7.out.ext (below_drewN (Below.refl _ _) _)), HE, by show 61 ≤ g + b; omega, HLf.out.trans hlf1⟩
            | some code =>
              have HY := Lib.hid hy
              have HP2 := (show v1.step d1 (markE v1.x (b : Nat)) (.mark b) = (some code, v1.no code, (stepW d1 v1.life v1.n v1.next (markE v1.x (b : Nat)) (.mark b)).1) from by unfold DrvD.step; simp only [hy])
              have HE := Lib.hid (show hearD p v (v.saves p mid) d = (some code, v1.no code, (stepW d1 v1.life v1.n v1.next (markE v1.x (b : Nat)) (.mark b)).1) from by rw [hM.out, HMs.out, if_neg hor, HP2])
              clear hun hy hor HP2
              go_wp2_with (first
                | (go_at_call 113; refine HWh.out.mono ?_; rintro e w5 ⟨rfl, hb5⟩; have HB5 := Lib.hid hb5
                   have H5 := Lib.hid (H4.out.ext hb5)
                   have q4 := (World.cell?_of_block (a := ⟨X.vb, 4, none⟩) (hb5.block _ sl)).trans s4
                   clear hb5)
                | (go_at_call 114; refine (wMark_c b _ H5.out.pre).mono ?_; rintro e w6 hs; obtain ⟨v7, a7, rfl, hE, _⟩ := hs.2 code HY.out
                   obtain ⟨n7, hn7⟩ := hE.errN; obtain ⟨T7, y7, rfl⟩ := hn7.iface
                   obtain ⟨X6, hX6, h6v, h6r⟩ := H5.out.noo (fun h0 => markE_ok h0) (by omega) HY.out hs
                   have HX6 := Lib.hid hX6; have H6v := Lib.hid (h6v.trans HXv.out); have H6w := Lib.hid h6v; have H6r := Lib.hid h6r; have HN7 := Lib.hid hn7
                   clear hs hE hn7 hX6 h6v h6r)
                | (go_at_call 106; rw [← H6v.out]; refine (told_no _ _ _ n7 code _ HX6.out HN7.out).mono ?_; rintro e w8 ⟨ve, rfl, hE, hT8⟩; obtain ⟨n9, hn9⟩ := hE.errN; obtain ⟨T9, y9, rfl⟩ := hn9.iface; clear hn9; have HE8 := Lib.hid hE; have HT8 := Lib.hid hT8; clear hE hT8))
              go_ret
              rw [HE.out]
              exact ⟨(fun h => by cases h), fun code' h => by cases h; exact ⟨_, 0, rfl, HE8.out⟩, hT.out.trans2 H4.out ⟨HXv.out, HXr.out⟩ (noo_turn HB5.out ⟨H6w.out, H6r.out⟩ HX6.out HT8.out)⟩
    exact AllReadyH.nil
end
end Go.Proofs.YtlmjjhenoadndaaGreatDoor

/- The law's own functions: code, at, the little plan. -/
namespace Go.Proofs.YtlmjjhenoadndaaGreatDoor
open Go.RowKit Go.Sort

theorem lcode_nil (w : World) : Calls Tryz.prog 54 #[.nilIface] w (IntPost w 0) := by
  go_enter Tryz.func54, Tryz.ntmps54
  go_wp2_with (first | (go_at_call 88; refine (Code_nil _).mono ?_; rintro e w1 ⟨rfl, hb⟩; have HB := Lib.hid hb; clear hb))
  go_ret
  exact ⟨rfl, HB.out⟩
theorem lcode_c (n : Nat) (T : TypeId) (y : Value) (c : Int) (w : World) (h : ErrN w n (.iface T y) c) (hg : TypeVar w) : Calls Tryz.prog 54 #[.iface T y] w (IntPost w c) := by
  have HE := Lib.hid (Code_c n _ c w h hg)
  clear h hg
  go_enter Tryz.func54, Tryz.ntmps54
  go_wp2_with (first | (go_at_call 88; refine HE.out.mono ?_; rintro e w1 ⟨rfl, hb⟩; have HB := Lib.hid hb; clear hb))
  go_ret
  exact ⟨rfl, HB.out⟩
set_option maxRecDepth 100000 in
theorem lat_c (v : Value) (a c : Int) (w : World) (h : ErrAt w v a c) : Calls Tryz.prog 104 #[v] w (IntPost w a) := by
  obtain ⟨fb, s, v', n, rfl, hb, _⟩ := h
  have z1 : w.cell? ⟨fb, 1, none⟩ = some (.int .i64 a) := (hb.cell 1).trans rfl
  have hl := hb.lt
  have hta : ∀ w : World, (Instr.typeAssert (.iface 149 (.pointer (some ⟨fb, 0, none⟩))) 28 149 true).run Tryz.prog w = .ok (.tuple #[.pointer (some ⟨fb, 0, none⟩), .bool true]) w := fun w => by kernel_rfl
  clear hb
  go_enter Tryz.func104, Tryz.ntmps104
  go_wp2_with fail
  go_ret
  exact ⟨rfl, Below.refl _ _⟩
def littleP : PlanD := ⟨2, [⟨1, 0, 0, 0, 0⟩, ⟨2, 0, 0, 4, 2⟩, ⟨8, 1, 0, 0, 0⟩, ⟨3, 2, 0, 1, 3⟩]⟩
theorem little_c (w : World) : Calls Tryz.prog 17 #[] w (fun e w' => ∃ A, e = .returned (planV littleP A 4) ∧ RdS w' (fun k => w.heap.size ≤ k ∧ k < w'.heap.size) 5 A 4 (opsC littleP.ops) ∧ Below w.heap.size w w') := by
  go_enter Tryz.func17, Tryz.ntmps17
  go_wp2_with fail
  obtain ⟨W, hW⟩ : ∃ W, W = w.alloc (.cells #[.int .i64 2, .slice (some ⟨w.heap.size + 1, 0, none⟩) 4 4] 24 (0, 0)) := ⟨_, rfl⟩
  have hsz : W.heap.size = w.heap.size + 1 := by rw [hW]; simp
  have hb1 : Below w.heap.size w W := by rw [hW]; exact ext_alloc (Below.refl _ _) _
  have hk1 : Bk W w.heap.size 24 #[.int .i64 2, .slice (some ⟨w.heap.size + 1, 0, none⟩) 4 4] := by rw [hW]; exact Bk.new _ _ _
  rw [← hW]
  have hk2 := Bk.new W 168 (opsC littleP.ops).toArray
  have hb2 := ext_alloc (Below.refl W.heap.size W) (.cells (opsC littleP.ops).toArray 168 (0, 0))
  rw [hsz] at hk2
  refine bodyPost_ret (results_cell_row (g := w.heap.size) (t := 24) (cs := #[.int .i64 2, .slice (some ⟨w.heap.size + 1, 0, none⟩) 4 4]) (fr := (0, 0)) rfl _ _ _ rfl (hk1.ext hb2) Tryz.underlying24 rfl (by kernel_rfl)) rfl ?_
  refine ⟨some ⟨w.heap.size + 1, 0, none⟩, rfl, ⟨rfl, fun _ => ⟨_, rfl, ⟨by show w.heap.size ≤ w.heap.size + 1; omega, by show w.heap.size + 1 < _; rw [World.size_alloc, hsz]; omega⟩, by show w.heap.size + 1 < _; rw [World.size_alloc, hsz]; omega, fun j u hu => ?_⟩⟩, ext_trans hb1 hb2⟩
  exact World.news_of_block hk2 j u hu
end Go.Proofs.YtlmjjhenoadndaaGreatDoor

/- The law's told: what a fresh driver does, in plain Lean. -/
namespace Go.Proofs.YtlmjjhenoadndaaGreatDoor
open Go.RowKit Go.Sort

theorem writeAll_free {r p : Nat} {b : List Nat} : ∀ (m k : Nat) (d : DiskD), d.down = false → d.armed = 0 → (writeAll r p b m k d).2 = true ∧ (writeAll r p b m k d).1.down = false ∧ (writeAll r p b m k d).1.armed = 0 ∧ (writeAll r p b m k d).1.room = d.room ∧ (writeAll r p b m k d).1.life = d.life
  | 0, k, d, h1, h2 => ⟨rfl, h1, h2, rfl, rfl⟩
  | m + 1, k, d, h1, h2 => by
    have hw : d.write (p + k) (blockB r b k) = (⟨d.room, fun n => if n = p + k then some (blockB r b k) else d.blk n, false, d.armed - 1, d.life⟩, true) := by
      unfold DiskD.write
      rw [if_neg (by rw [h1]; simp), if_neg (by omega)]
    rw [writeAll, hw, if_pos rfl]
    exact writeAll_free m (k + 1) _ rfl (by show d.armed - 1 = 0; omega)
/-- Nothing hinders a record on a disk with power that is not armed, where there is room. -/
theorem append_free {d : DiskD} {n next : Nat} {b : List Nat} (h1 : d.down = false) (h2 : d.armed = 0) (h3 : blocksN b.length ≤ d.room - next) : (appendD d d.life n next b).2 = none ∧ (appendD d d.life n next b).1.down = false ∧ (appendD d d.life n next b).1.armed = 0 ∧ (appendD d d.life n next b).1.room = d.room ∧ (appendD d d.life n next b).1.life = d.life := by
  have hg : goneD d d.life = false := by unfold goneD; rw [h1]; simp
  unfold appendD
  rw [hg, if_neg (by simp), if_neg (by omega)]
  obtain ⟨i1, i2, i3⟩ := writeAll_free (r := n + 1) (p := next) (b := b) (blocksN b.length) 0 d h1 h2
  simp only [i1, if_true]
  exact ⟨trivial, i2, i3⟩
/-- A disk with power, not armed. -/
def Free (d : DiskD) (room life : Nat) : Prop := d.down = false ∧ d.armed = 0 ∧ d.room = room ∧ d.life = life
theorem step_free {v : DrvD} {d : DiskD} {r : Rec} {t : Option Int} {room : Nat} (hF : Free d room v.life) (ht : t = none) (hr : blocksN r.bytes.length ≤ room - v.next) : ∃ d', v.step d t r = (none, v.app r, d') ∧ Free d' room v.life := by
  obtain ⟨f1, f2, f3, f4⟩ := hF
  subst ht
  have h := append_free (d := d) (n := v.n) (next := v.next) (b := r.bytes) f1 f2 (by rw [f3]; exact hr)
  rw [f4] at h
  obtain ⟨h1, h2, h3, h4, h5⟩ := h
  refine ⟨(appendD d v.life v.n v.next r.bytes).1, ?_, h2, h3, h4.trans f3, h5⟩
  unfold DrvD.step stepW
  simp only [h1]
theorem free_down {v : DrvD} {d : DiskD} {room : Nat} (hF : Free d room v.life) (hg : v.gone = false) : v.down d = false := by
  unfold DrvD.down goneD
  rw [hg, hF.1, hF.2.2.2]
  simp
theorem little_check : checkD littleP = none := by decide
theorem little_states : statesL littleP.ops = [2] := by decide
theorem little_right0 : rightB littleP ⟨1, 2, 0⟩ = true := by decide
theorem little_right1 : rightB littleP ⟨1, 2, 1⟩ = true := by decide
end Go.Proofs.YtlmjjhenoadndaaGreatDoor

/- What a driver over a disk with power does, in plain Lean. -/
namespace Go.Proofs.YtlmjjhenoadndaaGreatDoor
open Go.RowKit Go.Sort

theorem blocks_small {n : Nat} (h : n ≤ 56) : blocksN n = 1 := by
  unfold blocksN
  omega
theorem cut_blocks : blocksN (Rec.bytes .cut).length = 1 := by
  have h := intB_len (n := 2) (by omega) (by omega)
  exact blocks_small (by show (intB 2).length ≤ 56; omega)
theorem mark_blocks {n : Nat} (hn : n ≤ 1000) : blocksN (Rec.bytes (.mark n)).length = 1 := by
  have h := intB_len (n := 3) (by omega) (by omega)
  have h2 := intB_len (n := (n : Nat)) (by omega) (by omega)
  refine blocks_small ?_
  show (intB 3 ++ intB (n : Nat)).length ≤ 56
  rw [List.length_append]
  omega
theorem cutD_lag {v : DrvD} {d : DiskD} {room : Nat} (hF : Free d room v.life) (hg : v.gone = false) (h : v.x.marked + 2 * v.s.every < v.x.cuts.length + 1) : cutD v d = (some 90, v, d) := by
  unfold cutD
  rw [free_down hF hg, if_neg (by simp), if_pos h]
theorem cutD_free {v : DrvD} {d : DiskD} {room : Nat} (hF : Free d room v.life) (hg : v.gone = false) (h : ¬ v.x.marked + 2 * v.s.every < v.x.cuts.length + 1) (h60 : v.x.cuts.length < 60) (hr : v.next < room) : ∃ d', cutD v d = (none, v.app .cut, d') ∧ Free d' room v.life := by
  unfold cutD
  rw [free_down hF hg, if_neg (by simp), if_neg h]
  exact step_free hF (by unfold cutE; rw [if_neg (by omega)]) (by rw [cut_blocks]; omega)
theorem marks_none {p : PlanD} {v : DrvD} {d : DiskD} {f : Nat} (h : dueD v.s.every v.s.known v.x.marked = 0 ∨ unsavedL p v.s.saved (dueD v.s.every v.s.known v.x.marked : Nat) ≠ []) : marksD p f v d = (none, v, d) := by
  cases f with
  | zero => rfl
  | succ f => rw [marksD, if_pos h]
theorem marks_step {p : PlanD} {v : DrvD} {d : DiskD} {room b f : Nat} (hF : Free d room v.life) (hb : dueD v.s.every v.s.known v.x.marked = b) (h0 : b ≠ 0) (hu : unsavedL p v.s.saved (b : Nat) = []) (hc : v.x.marked < b ∧ b ≤ v.x.cuts.length) (h60 : b ≤ 60) (hr : v.next < room) : ∃ d', marksD p (f + 1) v d = marksD p f (v.app (.mark b)) d' ∧ Free d' room v.life := by
  obtain ⟨d', h1, h2⟩ := step_free (t := markE v.x (b : Nat)) (r := .mark b) hF (by unfold markE; rw [if_neg (by omega)]) (by rw [mark_blocks (by omega)]; omega)
  refine ⟨d', ?_, h2⟩
  rw [marksD, hb, if_neg (by rw [hu]; simp [h0]), h1]
def t0 (life : Nat) : DrvD := ⟨⟨1, 0, [], []⟩, WalD.new, 0, 0, life, false⟩
def t2 (life : Nat) : DrvD := ((t0 life).app .cut).app .cut
theorem told_cuts {d : DiskD} {life : Nat} (hF : Free d 50 life) : ∃ d1 d2, cutD (t0 life) d = (none, (t0 life).app .cut, d1) ∧ Free d1 50 life ∧ cutD ((t0 life).app .cut) d1 = (none, t2 life, d2) ∧ Free d2 50 life ∧ cutD (t2 life) d2 = (some 90, t2 life, d2) := by
  obtain ⟨d1, h1, f1⟩ := cutD_free (v := t0 life) hF rfl (by show ¬ 2 < 1; omega) (by show 0 < 60; omega) (by show 0 < 50; omega)
  obtain ⟨d2, h2, f2⟩ := cutD_free (v := (t0 life).app .cut) f1 rfl (by show ¬ 2 < 2; omega) (by show 1 < 60; omega) (by show 0 + blocksN (Rec.bytes .cut).length < 50; rw [cut_blocks]; omega)
  exact ⟨d1, d2, h1, f1, h2, f2, cutD_lag (v := t2 life) f2 rfl (by show 2 < 3; omega)⟩
theorem save0 (life : Nat) : (((t2 life).known 1).saves littleP ⟨1, 2, 0⟩).s = ⟨1, 1, [], [⟨1, 2, 0⟩]⟩ := by
  show SchedD.save ⟨1, 1, [], []⟩ littleP ⟨1, 2, 0⟩ = _
  unfold SchedD.save
  rw [little_right0, little_states]
  rfl
theorem save1 (life : Nat) : ((((t2 life).known 1).saves littleP ⟨1, 2, 0⟩).saves littleP ⟨1, 2, 1⟩).s = ⟨1, 1, [], [⟨1, 2, 0⟩, ⟨1, 2, 1⟩]⟩ := by
  show SchedD.save ((((t2 life).known 1).saves littleP ⟨1, 2, 0⟩).s) littleP ⟨1, 2, 1⟩ = _
  rw [save0]
  unfold SchedD.save
  rw [little_right1, little_states]
  rfl
def t5 (life : Nat) : DrvD := (((t2 life).known 1).saves littleP ⟨1, 2, 0⟩).saves littleP ⟨1, 2, 1⟩
theorem told_hears {d : DiskD} {life : Nat} (hF : Free d 50 life) : ∃ d3, hearD littleP (t2 life) ((t2 life).known 1) d = (none, (t2 life).known 1, d) ∧ hearD littleP ((t2 life).known 1) (((t2 life).known 1).saves littleP ⟨1, 2, 0⟩) d = (none, ((t2 life).known 1).saves littleP ⟨1, 2, 0⟩, d) ∧
    hearD littleP (((t2 life).known 1).saves littleP ⟨1, 2, 0⟩) (t5 life) d = (none, (t5 life).app (.mark 1), d3) ∧ Free d3 50 life := by
  have hL : statesL littleP.ops = [2] := little_states
  obtain ⟨d3, h3, f3⟩ := marks_step (p := littleP) (v := t5 life) (b := 1) (f := 60) hF (by show dueD ((t5 life).s.every) ((t5 life).s.known) 0 = 1; unfold t5; rw [save1]; decide) (by decide) (by unfold t5; rw [save1]; unfold unsavedL; rw [hL]; decide) (by show 0 < 1 ∧ 1 ≤ 2; omega) (by omega) (by show 0 + blocksN (Rec.bytes .cut).length + blocksN (Rec.bytes .cut).length < 50; rw [cut_blocks]; omega)
  refine ⟨d3, ?_, ?_, ?_, f3⟩
  · unfold hearD
    rw [free_down (v := t2 life) hF rfl, if_neg (by simp)]
    exact marks_none (.inr (by show unsavedL littleP [] ((dueD 1 1 0 : Nat) : Int) ≠ []; unfold unsavedL; rw [hL]; decide))
  · unfold hearD
    rw [free_down (v := (t2 life).known 1) hF rfl, if_neg (by simp)]
    refine marks_none (.inr ?_)
    rw [save0]
    show unsavedL littleP [⟨1, 2, 0⟩] ((dueD 1 1 0 : Nat) : Int) ≠ []
    unfold unsavedL
    rw [hL]
    decide
  · unfold hearD
    rw [free_down (v := ((t2 life).known 1).saves littleP ⟨1, 2, 0⟩) hF rfl, if_neg (by simp), h3]
    refine marks_none (.inl ?_)
    show dueD (t5 life).s.every (t5 life).s.known 1 = 0
    unfold t5
    rw [save1]
    decide
end Go.Proofs.YtlmjjhenoadndaaGreatDoor

/- A driver that was opened behind a world: what its calls leave. -/
namespace Go.Proofs.YtlmjjhenoadndaaGreatDoor
open Go.RowKit Go.Sort

/-- A driver and its disk, made behind the world w0, and none of the blocks of K. -/
def VIs (B vb db : Nat) (p : PlanD) (A : Option Addr) (c : Nat) (v : DrvD) (d : DiskD) (K : Nat → Prop) (w0 w : World) : Prop := ∃ X : DrvX, DrvAt B X p A c v d w ∧ X.vb = vb ∧ X.db = db ∧ (∀ k, X.all k → w0.heap.size ≤ k) ∧ Below w0.heap.size w0 w ∧ ∀ g, K g → ¬ X.all g ∧ g < w.heap.size
/-- The blocks of K are as they were. -/
def Kept (K : Nat → Prop) (w w' : World) : Prop := ∀ g, K g → w'.heap[g]? = w.heap[g]?
theorem Kept.bk {K : Nat → Prop} {w w' : World} {g : Nat} {t : TypeId} {cs : Array Value} (h : Kept K w w') (hg : K g) (hb : Bk w g t cs) : Bk w' g t cs := (h g hg).trans hb
section
variable {B vb db : Nat} {p : PlanD} {A : Option Addr} {c : Nat} {v v' : DrvD} {d d' : DiskD} {K : Nat → Prop} {w0 w w' : World}
theorem VIs.ext (h : VIs B vb db p A c v d K w0 w) (hb : Below w.heap.size w w') : VIs B vb db p A c v d K w0 w' := by
  obtain ⟨X, h1, h2, h3, h4, h5, h6⟩ := h
  exact ⟨X, h1.ext hb, h2, h3, h4, ext_trans h5 hb, fun g hg => ⟨(h6 g hg).1, Nat.lt_of_lt_of_le (h6 g hg).2 hb.size⟩⟩
theorem VIs.more {K' : Nat → Prop} (h : VIs B vb db p A c v d K w0 w) (hb : Below w.heap.size w w') (hk : ∀ g, K' g → (K g ∨ w.heap.size ≤ g) ∧ g < w'.heap.size) : VIs B vb db p A c v d K' w0 w' := by
  obtain ⟨X, h1, h2, h3, h4, h5, h6⟩ := h
  exact ⟨X, h1.ext hb, h2, h3, h4, ext_trans h5 hb, fun g hg => ⟨fun ha => (hk g hg).1.elim (fun h => (h6 g h).1 ha) (fun h => by have := h1.lt g ha; omega), (hk g hg).2⟩⟩
theorem VIs.below (h : VIs B vb db p A c v d K w0 w) : Below w0.heap.size w0 w := by
  obtain ⟨X, h1, h2, h3, h4, h5, h6⟩ := h
  exact h5
theorem VIs.tv (h : VIs B vb db p A c v d K w0 w) : TypeVar w := by
  obtain ⟨X, h1, h2, h3, h4, h5, h6⟩ := h
  exact h1.pre.tv
theorem VIs.life (h : VIs B vb db p A c v d K w0 w) : d.life + 1 ≤ 1000000 := by
  obtain ⟨X, h1, h2, h3, h4, h5, h6⟩ := h
  exact h1.pre.life
theorem VIs.ok (h : VIs B vb db p A c v d K w0 w) : WalOk d v.x v.n v.next := by
  obtain ⟨X, h1, h2, h3, h4, h5, h6⟩ := h
  exact h1.pre.ok
theorem VIs.lt (h : VIs B vb db p A c v d K w0 w) : vb < w.heap.size ∧ w0.heap.size ≤ vb := by
  obtain ⟨X, h1, rfl, h3, h4, h5, h6⟩ := h
  exact ⟨h1.lt _ (.inl rfl), h4 _ (.inl rfl)⟩
theorem VIs.sched (h : VIs B vb db p A c v d K w0 w) : ∃ sb, w.cell? ⟨vb, 0, none⟩ = some (.pointer (some ⟨sb, 0, none⟩)) ∧ ∃ R, SchedIs B sb R p A c v.s w := by
  obtain ⟨X, h1, rfl, h3, h4, h5, h6⟩ := h
  exact ⟨X.sb, (h1.bk.cell 0).trans rfl, X.Rs, h1.sched⟩
theorem VIs.turn {X : DrvX} (hv : X.vb = vb) (hd : X.db = db) (h4 : ∀ k, X.all k → w0.heap.size ≤ k) (h5 : Below w0.heap.size w0 w) (h6 : ∀ g, K g → ¬ X.all g ∧ g < w.heap.size) (ht : VTurn B X p A c v' d' w w') : VIs B vb db p A c v' d' K w0 w' ∧ Kept K w w' := by
  obtain ⟨X', k1, k2, k3, k4, k4', k5⟩ := ht
  have hs := h5.size
  exact ⟨⟨X', k1, k2.trans hv, k3.trans hd, fun k hk => (k4 k hk).elim (h4 k) (fun h => by omega), h5.trans (k5.below h4 hs), fun g hg => ⟨fun ha => (k4 g ha).elim (h6 g hg).1 (fun h => by have := (h6 g hg).2; omega), Nat.lt_of_lt_of_le (h6 g hg).2 k5.size⟩⟩, fun g hg => k5.block g (h6 g hg).2 (h6 g hg).1⟩
theorem VIs.free (h : VIs B vb db p A c v d K w0 w) (hd : d' = d) : VIs B vb db p A c v d' K w0 w := hd ▸ h
theorem cut_v (w : World) (h : VIs B vb db p A c v d K w0 w) (hlf : d.life + 2 ≤ 1000000) (hz : cutD v d = (none, v', d')) :
    Calls Tryz.prog 44 #[.pointer (some ⟨vb, 0, none⟩)] w (fun e w' => e = .returned (.tuple #[.int .i64 ((v.x.cuts.length + 1 : Nat) : Int), .nilIface]) ∧ VIs B vb db p A c v' d' K w0 w' ∧ Kept K w w') := by
  obtain ⟨X, h1, h2, h3, h4, h5, h6⟩ := h
  rw [← h2]
  refine (vCut_c w h1 hlf).mono ?_
  rw [hz]
  rintro e w' ⟨k1, _, k3⟩
  exact ⟨k1 rfl, VIs.turn rfl h3 h4 h5 h6 k3⟩
theorem cut_no {code : Int} (w : World) (h : VIs B vb db p A c v d K w0 w) (hlf : d.life + 2 ≤ 1000000) (hz : cutD v d = (some code, v', d')) :
    Calls Tryz.prog 44 #[.pointer (some ⟨vb, 0, none⟩)] w (fun e w' => ∃ ve a, e = .returned (.tuple #[.int .i64 0, ve]) ∧ ErrAt w' ve a code ∧ (code = 90 → a = ((v.x.cuts.length + 1 : Nat) : Int)) ∧ VIs B vb db p A c v' d' K w0 w' ∧ Kept K w w') := by
  obtain ⟨X, h1, h2, h3, h4, h5, h6⟩ := h
  rw [← h2]
  refine (vCut_c w h1 hlf).mono ?_
  rw [hz]
  rintro e w' ⟨_, k2, k3⟩
  obtain ⟨ve, a, e1, e2, e3⟩ := k2 code rfl
  exact ⟨ve, a, e1, e2, e3, VIs.turn rfl h3 h4 h5 h6 k3⟩
theorem push_v (S : Nat → Prop) (l : List Rw) (A0 : Option Addr) (c0 : Nat) (w : World) (h : VIs B vb db p A c v d K w0 w) (hr : RdS w S 2 A0 l.length (l.flatMap rwC)) (hS : ∀ k, S k → k < w0.heap.size) (h64 : ∀ r ∈ l, I64 r.k ∧ I64 r.v) (hlf : d.life + 2 ≤ 1000000) (hz : pushD v d l = (none, v', d')) :
    Calls Tryz.prog 43 #[.pointer (some ⟨vb, 0, none⟩), .slice A0 l.length c0] w (fun e w' => e = .returned (.tuple #[.int .i64 ((v.x.blocks.length + 1 : Nat) : Int), .nilIface]) ∧ VIs B vb db p A c v' d' K w0 w' ∧ Kept K w w') := by
  obtain ⟨X, h1, h2, h3, h4, h5, h6⟩ := h
  rw [← h2]
  refine (vPush_c S l A0 c0 w h1 hr (fun k hk => ⟨fun hd => ?_, fun e => ?_⟩) h64 hlf).mono ?_
  · have := hS k hk; have := h4 k (.inr (.inr (.inr (.inl hd)))); omega
  · have := hS k hk; have := h4 k (.inr (.inr (.inr (.inr e)))); omega
  rw [hz]
  rintro e w' ⟨k1, _, k3⟩
  exact ⟨k1 rfl, VIs.turn rfl h3 h4 h5 h6 k3⟩
theorem push_no {code : Int} (S : Nat → Prop) (l : List Rw) (A0 : Option Addr) (c0 : Nat) (w : World) (h : VIs B vb db p A c v d K w0 w) (hr : RdS w S 2 A0 l.length (l.flatMap rwC)) (hS : ∀ k, S k → k < w0.heap.size) (h64 : ∀ r ∈ l, I64 r.k ∧ I64 r.v) (hlf : d.life + 2 ≤ 1000000) (hz : pushD v d l = (some code, v', d')) :
    Calls Tryz.prog 43 #[.pointer (some ⟨vb, 0, none⟩), .slice A0 l.length c0] w (fun e w' => ∃ ve a, e = .returned (.tuple #[.int .i64 0, ve]) ∧ ErrAt w' ve a code ∧ VIs B vb db p A c v' d' K w0 w' ∧ Kept K w w') := by
  obtain ⟨X, h1, h2, h3, h4, h5, h6⟩ := h
  rw [← h2]
  refine (vPush_c S l A0 c0 w h1 hr (fun k hk => ⟨fun hd => ?_, fun e => ?_⟩) h64 hlf).mono ?_
  · have := hS k hk; have := h4 k (.inr (.inr (.inr (.inl hd)))); omega
  · have := hS k hk; have := h4 k (.inr (.inr (.inr (.inr e)))); omega
  rw [hz]
  rintro e w' ⟨_, k2, k3⟩
  obtain ⟨ve, a, e1, e2, e3⟩ := k2 code rfl
  exact ⟨ve, a, e1, e2, VIs.turn rfl h3 h4 h5 h6 k3⟩
theorem HPost.go {X : DrvX} {z : Option Int × DrvD × DiskD} {e : Ending} (hv : X.vb = vb) (hd : X.db = db) (h4 : ∀ k, X.all k → w0.heap.size ≤ k) (h5 : Below w0.heap.size w0 w) (h6 : ∀ g, K g → ¬ X.all g ∧ g < w.heap.size) (hp : HPost B X p A c z w e w') : (z.1 = none → e = .returned .nilIface) ∧ (∀ code, z.1 = some code → ∃ ve a, e = .returned ve ∧ ErrAt w' ve a code) ∧ VIs B vb db p A c z.2.1 z.2.2 K w0 w' ∧ Kept K w w' :=
  ⟨hp.1, hp.2.1, VIs.turn hv hd h4 h5 h6 hp.2.2⟩
theorem bad_v (m : MsgD) (w : World) (h : VIs B vb db p A c v d K w0 w) (hk : m.kind ≠ 2 ∧ m.kind ≠ 3 ∧ m.kind ≠ 5 ∧ m.kind ≠ 8) (hg : v.down d = false) :
    Calls Tryz.prog 45 #[.pointer (some ⟨vb, 0, none⟩), .agg m.cs] w (fun e w' => ∃ ve a, e = .returned ve ∧ ErrAt w' ve a 1 ∧ VIs B vb db p A c v d K w0 w' ∧ Kept K w w') := by
  obtain ⟨X, h1, h2, h3, h4, h5, h6⟩ := h
  rw [← h2]
  refine (hear_bad m w h1 hk).mono ?_
  rw [hg]
  intro e w' hp
  obtain ⟨_, k2, k3⟩ := HPost.go rfl h3 h4 h5 h6 hp
  obtain ⟨ve, a, e1, e2⟩ := k2 1 rfl
  exact ⟨ve, a, e1, e2, k3⟩
theorem known_v (m : MsgD) (w : World) (h : VIs B vb db p A c v d K w0 w) (hk : m.kind = 5) (hlf : d.life + 2 ≤ 1000000) (hn : m.n ≤ 9223372036854775807) (hz : hearD p v (v.known m.n) d = (none, v', d')) :
    Calls Tryz.prog 45 #[.pointer (some ⟨vb, 0, none⟩), .agg m.cs] w (fun e w' => e = .returned .nilIface ∧ VIs B vb db p A c v' d' K w0 w' ∧ Kept K w w') := by
  obtain ⟨X, h1, h2, h3, h4, h5, h6⟩ := h
  rw [← h2]
  refine (hear_known m w h1 hk hlf hn).mono ?_
  rw [hz]
  intro e w' hp
  obtain ⟨k1, _, k3⟩ := HPost.go rfl h3 h4 h5 h6 hp
  exact ⟨k1 rfl, k3⟩
theorem saved_v (m : MsgD) (w : World) (h : VIs B vb db p A c v d K w0 w) (hk : m.kind = 8) (hlf : d.life + 2 ≤ 1000000) (hz : hearD p v (v.saves p m.id) d = (none, v', d')) :
    Calls Tryz.prog 45 #[.pointer (some ⟨vb, 0, none⟩), .agg m.cs] w (fun e w' => e = .returned .nilIface ∧ VIs B vb db p A c v' d' K w0 w' ∧ Kept K w w') := by
  obtain ⟨X, h1, h2, h3, h4, h5, h6⟩ := h
  rw [← h2]
  refine (hear_saved m w h1 hk hlf).mono ?_
  rw [hz]
  intro e w' hp
  obtain ⟨k1, _, k3⟩ := HPost.go rfl h3 h4 h5 h6 hp
  exact ⟨k1 rfl, k3⟩
theorem mark_v (w : World) (h : VIs B vb db p A c v d K w0 w) : Calls Tryz.prog 46 #[.pointer (some ⟨vb, 0, none⟩)] w (Val w (.int .i64 (v.x.marked : Nat))) := by
  obtain ⟨X, h1, h2, h3, h4, h5, h6⟩ := h
  rw [← h2]
  exact vMark_c w h1
theorem newest_v (w : World) (h : VIs B vb db p A c v d K w0 w) : Calls Tryz.prog 47 #[.pointer (some ⟨vb, 0, none⟩)] w (Val w (.int .i64 (v.x.cuts.length : Nat))) := by
  obtain ⟨X, h1, h2, h3, h4, h5, h6⟩ := h
  rw [← h2]
  exact vNewest_c w h1
theorem down_v (w : World) (h : VIs B vb db p A c v d K w0 w) : Calls Tryz.prog 52 #[.pointer (some ⟨vb, 0, none⟩)] w (BoolPost w (v.down d)) := by
  obtain ⟨X, h1, h2, h3, h4, h5, h6⟩ := h
  rw [← h2]
  exact vDown_c w h1
theorem ddown_v (w : World) (h : VIs B vb db p A c v d K w0 w) : Calls Tryz.prog 64 #[.pointer (some ⟨db, 0, none⟩)] w (Val w (.bool d.down)) := by
  obtain ⟨X, h1, h2, h3, h4, h5, h6⟩ := h
  rw [← h3]
  exact dDown_c w h1.pre.disk
theorem VIs.disk {X : DrvX} {e : Ending} (h1 : DrvAt B X p A c v d w) (hv : X.vb = vb) (hd : X.db = db) (h4 : ∀ k, X.all k → w0.heap.size ≤ k) (h5 : Below w0.heap.size w0 w) (h6 : ∀ g, K g → ¬ X.all g ∧ g < w.heap.size) (ht : DTurn X.bd X.db X.Rd d' w e w') (hb : d'.blk = d.blk) (hr : d'.room = d.room) (hl : d'.life + 1 ≤ 1000000) : VIs B vb db p A c v d' K w0 w' ∧ Kept K w w' := by
  have hs := h5.size
  exact ⟨⟨X, h1.disk ht hb hr hl, hv, hd, h4, h5.trans (ht.2.2.below (fun k hk => h4 k (.inr (.inr (.inr (.inl hk))))) hs), fun g hg => ⟨(h6 g hg).1, Nat.lt_of_lt_of_le (h6 g hg).2 ht.2.2.size⟩⟩, fun g hg => ht.2.2.block g (h6 g hg).2 (fun hk => (h6 g hg).1 (.inr (.inr (.inr (.inl hk)))))⟩
theorem arm_v (n : Int) (w : World) (h : VIs B vb db p A c v d K w0 w) (hn : n ≤ 9223372036854775807) : Calls Tryz.prog 33 #[.pointer (some ⟨db, 0, none⟩), .int .i64 n] w (fun e w' => e = .returned (.tuple #[]) ∧ VIs B vb db p A c v (d.arm n) K w0 w' ∧ Kept K w w') := by
  have hl := h.life
  obtain ⟨X, h1, h2, h3, h4, h5, h6⟩ := h
  rw [← h3]
  obtain ⟨a1, a2, a3⟩ := arm_same d n
  exact (dArm_c n w h1.pre.disk hn).mono fun e w' ht => ⟨ht.1, VIs.disk h1 h2 rfl h4 h5 h6 ht a1 a2 (by omega)⟩
theorem dcut_v (w : World) (h : VIs B vb db p A c v d K w0 w) (hl : d.life + 2 ≤ 1000000) : Calls Tryz.prog 35 #[.pointer (some ⟨db, 0, none⟩)] w (fun e w' => e = .returned (.tuple #[]) ∧ VIs B vb db p A c v d.cut K w0 w' ∧ Kept K w w') := by
  obtain ⟨X, h1, h2, h3, h4, h5, h6⟩ := h
  rw [← h3]
  obtain ⟨a1, a2, a3⟩ := cut_same d
  exact (dCut_c w h1.pre.disk (by omega)).mono fun e w' ht => ⟨ht.1, VIs.disk h1 h2 rfl h4 h5 h6 ht a1 a2 (by omega)⟩
theorem restart_v (w : World) (h : VIs B vb db p A c v d K w0 w) : Calls Tryz.prog 37 #[.pointer (some ⟨db, 0, none⟩)] w (fun e w' => e = .returned (.tuple #[]) ∧ VIs B vb db p A c v d.restart K w0 w' ∧ Kept K w w') := by
  have hl := h.life
  obtain ⟨X, h1, h2, h3, h4, h5, h6⟩ := h
  rw [← h3]
  exact (dRestart_c w h1.pre.disk).mono fun e w' ht => ⟨ht.1, VIs.disk h1 h2 rfl h4 h5 h6 ht rfl rfl hl⟩
/-- A new error of that number, told at a place. -/
def ErrNew (base : Nat) (w : World) (ve : Value) (a code : Int) : Prop := ∃ fb s, ve = .iface 149 (.pointer (some ⟨fb, 0, none⟩)) ∧ base ≤ fb ∧ Bk w fb 172 #[s, .int .i64 a, .iface 90 (.int .i64 code)]
theorem drvFault_new (at_ code : Int) (w : World) : Calls Tryz.prog 100 #[.int .i64 at_, .iface 90 (.int .i64 code)] w (fun e w' => ∃ v, e = .returned v ∧ ErrNew w.heap.size w' v at_ code ∧ Below w.heap.size w w') := by
  go_enter Tryz.func100, Tryz.ntmps100
  go_wp2
  go_ret
  exact ⟨_, rfl, ⟨_, _, rfl, Nat.le_refl _, Bk.new _ _ _⟩, ext_alloc (Below.refl _ _) _⟩
set_option maxRecDepth 100000 in
set_option maxHeartbeats 8000000 in
theorem cut_lag {X : DrvX} (w : World) (h : DrvAt B X p A c v d w) (hd : v.down d = false) (hlag : v.x.marked + 2 * v.s.every < v.x.cuts.length + 1) :
    Calls Tryz.prog 44 #[.pointer (some ⟨X.vb, 0, none⟩)] w (fun e w' => ∃ ve, e = .returned (.tuple #[.int .i64 0, ve]) ∧ ErrNew w.heap.size w' ve ((v.x.cuts.length + 1 : Nat) : Int) 90 ∧ Below w.heap.size w w') := by
  have HU := Lib.hid (vup_c w h)
  have H := Lib.hid h
  have hin := h.pre.wal.inn
  have hev : 1 ≤ v.s.every ∧ v.s.every ≤ 8 := by obtain ⟨Y, hY⟩ := h.sched; exact hY.every
  have HD := Lib.hid hd
  have z5 : w.cell? ⟨X.vb, 5, none⟩ = some (.int .i64 (v.s.every : Nat)) := (h.bk.cell 5).trans rfl
  have hvl := h.bk.lt
  obtain ⟨nc, hnc⟩ : ∃ nc, nc = v.x.cuts.length := ⟨_, rfl⟩
  obtain ⟨mk, hmk⟩ : ∃ mk, mk = v.x.marked := ⟨_, rfl⟩
  obtain ⟨ev, hevv⟩ : ∃ ev, ev = v.s.every := ⟨_, rfl⟩
  obtain ⟨n1, hn1⟩ : ∃ n1, n1 = nc + 1 := ⟨_, rfl⟩
  obtain ⟨rh, hrh⟩ : ∃ rh, rh = mk + 2 * ev := ⟨_, rfl⟩
  have hnc60 : nc ≤ 60 := by rw [hnc]; exact hin.nc
  have hmk60 : mk ≤ 60 := by have := hin.mkd; have := hin.nc; omega
  have hev8 : ev ≤ 8 := by rw [hevv]; exact hev.2
  have HMk := Lib.hid (fun W h => (show Calls Tryz.prog 46 #[.pointer (some ⟨X.vb, 0, none⟩)] W (Val W (.int .i64 (mk : Nat))) from by rw [hmk]; exact vMark_c (B := B) (p := p) (A := A) (c := c) (v := v) (d := d) W h))
  have HNw := Lib.hid (fun W h => (show Calls Tryz.prog 47 #[.pointer (some ⟨X.vb, 0, none⟩)] W (Val W (.int .i64 (nc : Nat))) from by rw [hnc]; exact vNewest_c (B := B) (p := p) (A := A) (c := c) (v := v) (d := d) W h))
  have e1 : IntKind.i64.wrap ((nc : Int) + 1) = (n1 : Nat) := by rw [show (nc : Int) + 1 = (n1 : Nat) by omega]; exact IntWalk.i64_in _ (by omega)
  have e1' : (nc : Int) + 1 = (n1 : Nat) := by omega
  have e2 : IntKind.i64.wrap (2 * (ev : Int)) = 2 * (ev : Int) := IntWalk.i64_in _ (by omega)
  have e3 : IntKind.i64.wrap ((mk : Int) + 2 * (ev : Int)) = (rh : Nat) := by rw [show (mk : Int) + 2 * (ev : Int) = (rh : Nat) by omega]; exact IntWalk.i64_in _ (by omega)
  rw [← hevv] at z5 hlag
  rw [← hmk, ← hnc, ← hn1, ← hrh] at hlag
  rw [← hnc, ← hn1]
  have hn1l : n1 ≤ 61 := by omega
  have hrhl : rh ≤ 76 := by omega
  have u1 : (rh : Int) < (n1 : Nat) := by omega
  clear h hd hin hev hnc hmk hevv hn1 hrh hlag
  go_enter Tryz.func44, Tryz.ntmps44
  go_wp2_with (first
    | (go_at_call 105; refine HU.out.mono ?_; rintro e w1 hpost; obtain ⟨rfl, hb⟩ := hpost.1 HD.out; have HB := Lib.hid hb
       have q5 := (World.cell?_of_block (a := ⟨X.vb, 5, none⟩) (hb.block _ hvl)).trans z5
       have ql := Nat.lt_of_lt_of_le hvl hb.size
       have HH := Lib.hid (H.out.ext hb)
       clear hpost hb)
    | (go_at_call 47; refine (HNw.out _ HH.out).mono ?_; rintro e w2 ⟨rfl, rfl⟩))
  go_quiet ((go_at_call 46; exact quiet_val (HMk.out _ (HH.out.ext (below_drewN (Below.refl _ _) _)))))
  have HBq := Lib.hid (below_drewN HB.out nq)
  go_wp2_with (first
    | (go_at_call 100; refine (drvFault_new _ 90 _).mono ?_; rintro e w3 ⟨ve, rfl, hE, hb⟩; have HE := Lib.hid hE; have HB3 := Lib.hid (ext_trans HBq.out hb); clear hE hb))
  go_ret2
  obtain ⟨fb, s, e7, e8, e9⟩ := HE.out
  exact ⟨_, rfl, ⟨fb, s, e7, Nat.le_trans HBq.out.size e8, e9⟩, HB3.out⟩
/-- Opened anew over the same disk. -/
theorem reopen_v (every : Int) (w : World) (h : VIs B vb db p A c v d K w0 w) (hd : d.down = false) (hr : RdS w (· < B) 5 A p.ops.length (opsC p.ops)) (hB : B ≤ w.heap.size) (h1 : 1 ≤ every) (h8 : every ≤ 8) (hc : checkD p = none) :
    Calls Tryz.prog 41 #[.pointer (some ⟨db, 0, none⟩), planV p A c, .int .i64 every] w (fun e w' => ∃ vb', e = .returned (.tuple #[.pointer (some ⟨vb', 0, none⟩), .nilIface]) ∧ VIs B vb' db p A c ⟨⟨every.toNat, (v.x.marked : Nat), [], []⟩, v.x, v.n, v.next, d.life, false⟩ d K w0 w' ∧ Kept K w w') := by
  have hl := h.life
  obtain ⟨X, k1, k2, k3, k4, k5, k6⟩ := h
  rw [← k3]
  have hs := k5.size
  have hlt := k1.lt
  refine (dOpen_c every w k1.pre.disk (fun _ ad hA => ⟨fun hk => (k1.ho ad hA).1 (.inr (.inr (.inr (.inl hk)))), (k1.ho ad hA).2⟩) k1.pre.tb (Nat.le_trans k1.vB (Nat.le_of_lt (hlt _ (.inl rfl)))) hd k1.pre.ok k1.pre.tv k1.tB hl hr hB).mono ?_
  intro e w' hp
  obtain ⟨X', e1, e2, e3, e4, e5, e6⟩ := hp.2.2 hc h1 h8
  exact ⟨X'.vb, e1, ⟨X', e2, rfl, e3, fun k hk => (e5 k hk).elim (fun hk => k4 k (.inr (.inr (.inr (.inl hk))))) (fun hk => by omega), ext_trans k5 e6, fun g hg => ⟨fun ha => (e5 g ha).elim (fun hk => (k6 g hg).1 (.inr (.inr (.inr (.inl hk))))) (fun h => by have := (k6 g hg).2; omega), Nat.lt_of_lt_of_le (k6 g hg).2 e6.size⟩⟩, fun g hg => e6.block g (k6 g hg).2⟩
/-- Opened over a new disk. -/
theorem open_v {room : Nat} {Rd : Nat → Prop} (every : Int) (hD : DiskIs w0.heap.size db Rd (DiskD.new room) w) (hb : Below w0.heap.size w0 w) (hA : checkD p = none → ∀ ad, A = some ad → ¬ Rd ad.block ∧ ad.block < w.heap.size) (htd : 0 < w0.heap.size) (htv : TypeVar w0) (htB : 0 < B) (hr : RdS w (· < B) 5 A p.ops.length (opsC p.ops)) (hB : B ≤ w.heap.size) :
    Calls Tryz.prog 41 #[.pointer (some ⟨db, 0, none⟩), planV p A c, .int .i64 every] w (fun e w' =>
      (∀ a code, checkD p = some (a, code) → ∃ v at_, e = .returned (.tuple #[.pointer none, v]) ∧ ErrAt w' v at_ code ∧ Below w0.heap.size w0 w') ∧
      (checkD p = none → every < 1 ∨ 8 < every → ∃ v at_, e = .returned (.tuple #[.pointer none, v]) ∧ ErrAt w' v at_ 1 ∧ Below w0.heap.size w0 w') ∧
      (checkD p = none → 1 ≤ every → every ≤ 8 → ∃ vb, e = .returned (.tuple #[.pointer (some ⟨vb, 0, none⟩), .nilIface]) ∧ VIs B vb db p A c ⟨⟨every.toNat, 0, [], []⟩, WalD.new, 0, 0, 0, false⟩ (DiskD.new room) No w0 w')) := by
  have hs := hb.size
  refine (dOpen_c every w hD hA htd hs rfl (walOk_new room) (TypeVar.fr (S := No) htv (Fr.of_below hb) (fun h => h)) htB (by show 0 + 1 ≤ 1000000; omega) hr hB).mono ?_
  rintro e w' ⟨h1, h2, h3⟩
  refine ⟨fun a code hc => ?_, fun hc hk => ?_, fun hc hk h8 => ?_⟩
  · obtain ⟨v, a_, e1, e2, e3⟩ := h1 a code hc
    exact ⟨v, a_, e1, e2, ext_trans hb e3⟩
  · obtain ⟨v, a_, e1, e2, e3⟩ := h2 hc hk
    exact ⟨v, a_, e1, e2, ext_trans hb e3⟩
  · obtain ⟨X', e1, e2, e3, e4, e5, e6⟩ := h3 hc hk h8
    exact ⟨X'.vb, e1, X', e2, rfl, e3, fun k hk => (e5 k hk).elim (fun hk => (hD.bd k hk).1) (fun hk => by omega), ext_trans hb e6, fun g hg => hg.elim⟩
end
end Go.Proofs.YtlmjjhenoadndaaGreatDoor

/- The law's told. -/
namespace Go.Proofs.YtlmjjhenoadndaaGreatDoor
open Go.RowKit Go.Sort

def ToldIs (B vb db : Nat) (A : Option Addr) (v : DrvD) (d : DiskD) (K : Nat → Prop) (w0 w : World) : Prop := VIs B vb db littleP A 4 v d K w0 w ∧ Free d 50 0
section
variable {B vb db fb : Nat} {A : Option Addr} {K : Nat → Prop} {w0 w w1 w2 : World}
theorem told_open {Rd : Nat → Prop} (hD : DiskIs w.heap.size db Rd (DiskD.new 50) w1) (hb : Below w.heap.size w w1) (htv : TypeVar w) (hty : 0 < w.heap.size) (hr : RdS w2 (fun k => w1.heap.size ≤ k ∧ k < w2.heap.size) 5 A 4 (opsC littleP.ops)) (hb2 : Below w1.heap.size w1 w2) :
    Calls Tryz.prog 41 #[.pointer (some ⟨db, 0, none⟩), planV littleP A 4, .int .i64 1] w2 (fun e w' => ∃ vb, e = .returned (.tuple #[.pointer (some ⟨vb, 0, none⟩), .nilIface]) ∧ ToldIs w2.heap.size vb db A (t0 0) (DiskD.new 50) No w w') := by
  have s1 := hb.size
  have s2 := hb2.size
  have hA : ∀ ad, A = some ad → ¬ Rd ad.block ∧ ad.block < w2.heap.size := by
    intro ad hA
    obtain ⟨ad', hA', hS, _⟩ := hr.2 (by decide)
    rw [hA] at hA'
    injection hA' with hA'
    subst hA'
    exact ⟨fun hk => by have := (hD.bd _ hk).2; have := hS.1; omega, hS.2⟩
  refine (open_v (B := w2.heap.size) (p := littleP) (A := A) (c := 4) 1 (hD.ext hb2) (ext_trans hb hb2) (fun _ => hA) hty htv (by omega) ⟨hr.1, fun hn => by obtain ⟨ad, h1, h2, h3, h4⟩ := hr.2 hn; exact ⟨ad, h1, h2.2, h3, h4⟩⟩ (Nat.le_refl _)).mono ?_
  rintro e w' ⟨_, _, h3⟩
  obtain ⟨vb, e1, e2⟩ := h3 little_check (by omega) (by omega)
  exact ⟨vb, e1, e2, rfl, rfl, rfl, rfl⟩
theorem Free.ok {d : DiskD} (h : Free d 50 0) : d.life + 2 ≤ 1000000 := by
  rw [h.2.2.2]
  omega
theorem told_c1 {d d1 : DiskD} (w : World) (h : ToldIs B vb db A (t0 0) d K w0 w) (hz : cutD (t0 0) d = (none, (t0 0).app .cut, d1)) (hf : Free d1 50 0) :
    Calls Tryz.prog 44 #[.pointer (some ⟨vb, 0, none⟩)] w (fun e w' => e = .returned (.tuple #[.int .i64 1, .nilIface]) ∧ ToldIs B vb db A ((t0 0).app .cut) d1 K w0 w') :=
  (cut_v w h.1 h.2.ok hz).mono fun _ _ h => ⟨h.1, h.2.1, hf⟩
theorem told_c2 {d d1 : DiskD} (w : World) (h : ToldIs B vb db A ((t0 0).app .cut) d K w0 w) (hz : cutD ((t0 0).app .cut) d = (none, t2 0, d1)) (hf : Free d1 50 0) :
    Calls Tryz.prog 44 #[.pointer (some ⟨vb, 0, none⟩)] w (fun e w' => e = .returned (.tuple #[.int .i64 2, .nilIface]) ∧ ToldIs B vb db A (t2 0) d1 K w0 w') :=
  (cut_v w h.1 h.2.ok hz).mono fun _ _ h => ⟨h.1, h.2.1, hf⟩
/-- An error that was told is where it was. -/
def ErrHere (w : World) (fb : Nat) (ve : Value) : Prop := ∃ s, ve = .iface 149 (.pointer (some ⟨fb, 0, none⟩)) ∧ Bk w fb 172 #[s, .int .i64 3, .iface 90 (.int .i64 90)]
theorem ErrHere.kept {ve : Value} (h : ErrHere w fb ve) (hk : Kept (fun k => k = fb) w w1) : ErrHere w1 fb ve := by
  obtain ⟨s, e, hb⟩ := h
  exact ⟨s, e, hk.bk rfl hb⟩
theorem ErrHere.at_ {ve : Value} (h : ErrHere w fb ve) : ErrAt w ve 3 90 := by
  obtain ⟨s, e, hb⟩ := h
  exact ⟨fb, s, _, 0, e, hb, rfl⟩
theorem told_c3 {d : DiskD} (w : World) (h : ToldIs B vb db A (t2 0) d No w0 w) :
    Calls Tryz.prog 44 #[.pointer (some ⟨vb, 0, none⟩)] w (fun e w' => ∃ fb, e = .returned (.tuple #[.int .i64 0, .iface 149 (.pointer (some ⟨fb, 0, none⟩))]) ∧ ErrHere w' fb (.iface 149 (.pointer (some ⟨fb, 0, none⟩))) ∧ ToldIs B vb db A (t2 0) d (fun k => k = fb) w0 w') := by
  obtain ⟨hv, hf⟩ := h
  have hv' := hv
  obtain ⟨X, h1, rfl, h3, h4, h5, h6⟩ := hv
  refine (cut_lag w h1 (free_down (v := t2 0) hf rfl) (by show 2 < 3; omega)).mono ?_
  rintro e w' ⟨ve, rfl, ⟨fb, s, rfl, hfb, hbk⟩, hb⟩
  exact ⟨fb, rfl, ⟨s, rfl, hbk⟩, hv'.more hb (fun g hg => by subst hg; exact ⟨.inr hfb, hbk.lt⟩), hf⟩
def msgK : MsgD := ⟨5, 0, ⟨0, 0, 0⟩, false, .slice none 0 0, 0, ⟨0, 0, 0⟩, 0, .slice none 0 0, 1⟩
def msgS (q : Int) : MsgD := ⟨8, 0, ⟨1, 2, q⟩, false, .slice none 0 0, 0, ⟨0, 0, 0⟩, 0, .slice none 0 0, 0⟩
def msg0 : MsgD := ⟨0, 0, ⟨0, 0, 0⟩, false, .slice none 0 0, 0, ⟨0, 0, 0⟩, 0, .slice none 0 0, 0⟩
def msgV (k : Int) (b s q : Int) (n : Int) : Value := .agg #[.int .i64 k, .int .i64 0, .int .i64 b, .int .i64 s, .int .i64 q, .bool false, .slice none 0 0, .int .i64 0, .int .i64 0, .int .i64 0, .int .i64 0, .int .i64 0, .slice none 0 0, .int .i64 n]
theorem told_k {d : DiskD} (w : World) (h : ToldIs B vb db A (t2 0) d K w0 w) (hz : hearD littleP (t2 0) ((t2 0).known 1) d = (none, (t2 0).known 1, d)) :
    Calls Tryz.prog 45 #[.pointer (some ⟨vb, 0, none⟩), msgV 5 0 0 0 1] w (fun e w' => e = .returned .nilIface ∧ ToldIs B vb db A ((t2 0).known 1) d K w0 w' ∧ Kept K w w') :=
  (known_v msgK w h.1 rfl h.2.ok (by show (1 : Int) ≤ _; omega) hz).mono fun _ _ k => ⟨k.1, ⟨k.2.1, h.2⟩, k.2.2⟩
theorem told_s {v v' : DrvD} {d d' : DiskD} (q : Int) (w : World) (h : ToldIs B vb db A v d K w0 w) (hz : hearD littleP v (v.saves littleP ⟨1, 2, q⟩) d = (none, v', d')) (hf : Free d' 50 0) :
    Calls Tryz.prog 45 #[.pointer (some ⟨vb, 0, none⟩), msgV 8 1 2 q 0] w (fun e w' => e = .returned .nilIface ∧ ToldIs B vb db A v' d' K w0 w' ∧ Kept K w w') :=
  (saved_v (msgS q) w h.1 rfl h.2.ok hz).mono fun _ _ k => ⟨k.1, ⟨k.2.1, hf⟩, k.2.2⟩
theorem told_0 {v : DrvD} {d : DiskD} (w : World) (h : ToldIs B vb db A v d K w0 w) (hg : v.down d = false) :
    Calls Tryz.prog 45 #[.pointer (some ⟨vb, 0, none⟩), msgV 0 0 0 0 0] w (fun e w' => ∃ ve a, e = .returned ve ∧ ErrAt w' ve a 1 ∧ VIs B vb db littleP A 4 v d K w0 w') :=
  (bad_v msg0 w h.1 (by decide) hg).mono fun _ _ ⟨ve, a, k1, k2, k3⟩ => ⟨ve, a, k1, k2, k3.1⟩
end
end Go.Proofs.YtlmjjhenoadndaaGreatDoor

/- The law's told: the walk. -/
namespace Go.Proofs.YtlmjjhenoadndaaGreatDoor
open Go.RowKit Go.Sort

set_option maxRecDepth 100000 in
set_option maxHeartbeats 16000000 in
theorem told17_c (w : World) (htv : TypeVar w) (hty : 0 < w.heap.size) : Calls Tryz.prog 42 #[] w (BoolPost w true) := by
  have HTv := Lib.hid htv
  obtain ⟨d1, d2, z1, f1, z2, f2, z3⟩ := told_cuts (d := DiskD.new 50) (life := 0) ⟨rfl, rfl, rfl, rfl⟩
  obtain ⟨d3, y1, y2, y3, f3⟩ := told_hears f2
  have Z1 := Lib.hid z1
  have Z2 := Lib.hid z2
  have F1 := Lib.hid f1
  have F2 := Lib.hid f2
  have F3 := Lib.hid f3
  have Y1 := Lib.hid y1
  have Y2 := Lib.hid y2
  have Y3 := Lib.hid y3
  have HDn := Lib.hid (show ((t5 0).app (.mark 1)).down d3 = false from free_down (v := (t5 0).app (.mark 1)) f3 rfl)
  clear htv z1 f1 z2 f2 z3 y1 y2 y3 f3
  go_enter Tryz.func42, Tryz.ntmps42
  go_wp2_with (first
    | (go_at_call 54; refine (lcode_c n13 _ _ 1 _ E13.out H13.out.tv).mono ?_; rintro e w14 ⟨rfl, hb⟩; have HB14 := Lib.hid (ext_trans H13.out.below hb); clear hb)
    | (go_at_call 45; refine (told_0 _ ⟨H10.out.1.ext HB11.out, H10.out.2⟩ HDn.out).mono ?_; rintro e w13 ⟨ve, a, rfl, he, h⟩; obtain ⟨n13, hn13⟩ := he.errN; obtain ⟨T13, y13, rfl⟩ := hn13.iface; have H13 := Lib.hid h; have E13 := Lib.hid hn13; clear he h hn13)
    | (go_at_call 50; refine (number_c _ (HS.out.ext HB11.out)).mono ?_; rintro e w12 ⟨rfl, rfl⟩)
    | (go_at_call 47; refine (newest_v _ (H10.out.1.ext HB11.out)).mono ?_; rintro e w12 ⟨rfl, rfl⟩)
    | (go_at_call 46; refine (mark_v _ (H10.out.1.ext HB11.out)).mono ?_; rintro e w12 ⟨rfl, rfl⟩)
    | (go_at_call 104; refine (lat_c _ 3 90 _ E10.out).mono ?_; rintro e w11 ⟨rfl, hb⟩; have HB11 := Lib.hid hb
       have r0 := (World.cell?_of_block (a := ⟨vb, 0, none⟩) (hb.block _ q0)).trans hsb
       have rl := Nat.lt_of_lt_of_le q0 hb.size; clear hb)
    | (go_at_call 54; obtain ⟨n9, hn9⟩ := E9.out.at_.errN; refine (lcode_c n9 _ _ 90 _ hn9 H9.out.1.tv).mono ?_; rintro e w10 ⟨rfl, hb⟩; clear hn9 n9
       have H10 := Lib.hid (show ToldIs _ _ _ _ _ _ _ _ w10 from ⟨H9.out.1.ext hb, H9.out.2⟩); have E10 := Lib.hid (E9.out.at_.ext hb)
       have q0 := H10.out.1.lt.1
       obtain ⟨sb, hsb, R, hS⟩ := H10.out.1.sched
       have HS := Lib.hid hS; clear hb hS)
    | (go_at_call 45; refine (told_s 1 _ H8.out Y3.out F3.out).mono ?_; rintro e w9 ⟨rfl, h, hk⟩; have H9 := Lib.hid h; have E9 := Lib.hid (E8.out.kept hk); clear h hk)
    | (go_at_call 45; refine (told_s 0 _ H7.out Y2.out F2.out).mono ?_; rintro e w8 ⟨rfl, h, hk⟩; have H8 := Lib.hid h; have E8 := Lib.hid (E7.out.kept hk); clear h hk)
    | (go_at_call 45; refine (told_k _ H6.out Y1.out).mono ?_; rintro e w7 ⟨rfl, h, hk⟩; have H7 := Lib.hid h; have E7 := Lib.hid (E6.out.kept hk); clear h hk)
    | (go_at_call 44; refine (told_c3 _ H5.out).mono ?_; rintro e w6 ⟨fb, rfl, he, h⟩; have H6 := Lib.hid h; have E6 := Lib.hid he; clear he h)
    | (go_at_call 44; refine (told_c2 _ H4.out Z2.out F2.out).mono ?_; rintro e w5 ⟨rfl, h⟩; have H5 := Lib.hid h; clear h)
    | (go_at_call 44; refine (told_c1 _ H3.out Z1.out F1.out).mono ?_; rintro e w4 ⟨rfl, h⟩; have H4 := Lib.hid h; clear h)
    | (go_at_call 41; refine (told_open HD.out HB.out HTv.out hty HR.out HB2.out).mono ?_; rintro e w3 ⟨vb, rfl, h⟩; have H3 := Lib.hid h; clear h)
    | (go_at_call 17; refine (little_c _).mono ?_; rintro e w2 ⟨A, rfl, hr, hb⟩; have HR := Lib.hid hr; have HB2 := Lib.hid hb; clear hr hb)
    | (go_at_call 9; refine (dNew_c 50 _ (by omega) (by omega)).mono ?_; rintro e w1 ⟨db, Rd, rfl, hD, hb⟩; have HD := Lib.hid hD; have HB := Lib.hid hb; clear hD hb))
  go_ret
  exact ⟨rfl, HB14.out⟩
end Go.Proofs.YtlmjjhenoadndaaGreatDoor

/- tributarylaw17.DriverPower: the walk. -/
namespace Go.Proofs.YtlmjjhenoadndaaGreatDoor
open Go.RowKit Go.Sort

theorem writeAll_pow {r p : Nat} {b : List Nat} : ∀ (m k : Nat) (d : DiskD), d.down = false → ((writeAll r p b m k d).2 = true → (writeAll r p b m k d).1.down = false ∧ (writeAll r p b m k d).1.life = d.life) ∧ ((writeAll r p b m k d).2 = false → (writeAll r p b m k d).1.down = true)
  | 0, k, d, h1 => ⟨fun _ => ⟨h1, rfl⟩, fun h => by cases h⟩
  | m + 1, k, d, h1 => by
    by_cases ha : d.armed = 1
    · have hw : d.write (p + k) (blockB r b k) = (d.cut, false) := by
        unfold DiskD.write
        rw [if_neg (by rw [h1]; simp), if_pos ha]
      rw [writeAll, hw, if_neg (by simp)]
      exact ⟨(fun h => by cases h), fun _ => rfl⟩
    · have hw : d.write (p + k) (blockB r b k) = (⟨d.room, fun n => if n = p + k then some (blockB r b k) else d.blk n, false, d.armed - 1, d.life⟩, true) := by
        unfold DiskD.write
        rw [if_neg (by rw [h1]; simp), if_neg ha]
      rw [writeAll, hw, if_pos rfl]
      exact writeAll_pow m (k + 1) _ rfl
theorem push_pow {v : DrvD} {d : DiskD} {l : List Rw} (hd : d.down = false) (hl : d.life = v.life) (hg : v.gone = false) (h16 : l.length ≤ 16) (hb : v.x.blocks.length < 400) (hr : blocksN (Rec.bytes (.block l)).length ≤ d.room - v.next) :
    ∃ v' d', (pushD v d l = (none, v', d') ∧ d'.down = false ∧ v'.down d' = false) ∨ (pushD v d l = (some 70, v', d') ∧ d'.down = true ∧ v'.down d' = true) := by
  have hdn : v.down d = false := by unfold DrvD.down goneD; rw [hg, hd, hl]; simp
  have hgo : goneD d v.life = false := by unfold goneD; rw [hd, hl]; simp
  have hE : blockE v.x l.length = none := by unfold blockE; rw [if_neg (by omega)]
  have hA : appendD d v.life v.n v.next (Rec.bytes (.block l)) = ((writeAll (v.n + 1) v.next (Rec.bytes (.block l)) (blocksN (Rec.bytes (.block l)).length) 0 d).1, if (writeAll (v.n + 1) v.next (Rec.bytes (.block l)) (blocksN (Rec.bytes (.block l)).length) 0 d).2 then none else some 70) := by
    unfold appendD
    rw [hgo, if_neg (by simp), if_neg (by omega)]
  obtain ⟨w1, w2⟩ := writeAll_pow (r := v.n + 1) (p := v.next) (b := Rec.bytes (.block l)) (blocksN (Rec.bytes (.block l)).length) 0 d hd
  have hP : pushD v d l = v.step d none (.block l) := by unfold pushD; rw [hdn, if_neg (by simp), hE]
  cases hw : (writeAll (v.n + 1) v.next (Rec.bytes (.block l)) (blocksN (Rec.bytes (.block l)).length) 0 d).2 with
  | true =>
    obtain ⟨k1, k2⟩ := w1 hw
    rw [hw, if_pos rfl] at hA
    refine ⟨v.app (.block l), (writeAll (v.n + 1) v.next (Rec.bytes (.block l)) (blocksN (Rec.bytes (.block l)).length) 0 d).1, .inl ⟨?_, k1, ?_⟩⟩
    · rw [hP]
      unfold DrvD.step stepW
      simp only [hA]
    · show (v.gone || goneD _ v.life) = false
      unfold goneD
      rw [hg, k1, k2, hl]
      simp
  | false =>
    have k1 := w2 hw
    rw [hw, if_neg (by simp)] at hA
    refine ⟨v.no 70, (writeAll (v.n + 1) v.next (Rec.bytes (.block l)) (blocksN (Rec.bytes (.block l)).length) 0 d).1, .inr ⟨?_, k1, ?_⟩⟩
    · rw [hP]
      unfold DrvD.step stepW
      simp only [hA]
    · show ((v.gone || decide ((70 : Int) = 70)) || goneD _ v.life) = true
      simp
theorem block_blocks {l : List Rw} (hl : l.length ≤ 16) (h : ∀ x ∈ l, I64 x.k ∧ I64 x.v) : blocksN (Rec.bytes (.block l)).length ≤ 7 := by
  have h1 := intB_len (n := 1) (by omega) (by omega)
  have h2 := rowsB_len (l := l) (by omega) h
  have h3 : (Rec.bytes (.block l)).length = (intB 1).length + (rowsB l).length := by show (intB 1 ++ rowsB l).length = _; rw [List.length_append]
  unfold blocksN
  omega
theorem RdS.pre {S : Nat → Prop} {w : World} {z n m : Nat} {A : Option Addr} {xs : List Value} (h : RdS w S z A n xs) (hm : m ≤ n) : RdS w S z A m (xs.take (m * z)) := by
  refine ⟨?_, fun h0 => ?_⟩
  · rw [List.length_take, h.1]
    exact Nat.min_eq_left (Nat.mul_le_mul_right z hm)
  · obtain ⟨ad, h1, h2, h3, h4⟩ := h.2 (by omega)
    refine ⟨ad, h1, h2, h3, fun j u hu => h4 j u ?_⟩
    rw [List.getElem?_take] at hu
    split at hu
    · exact hu
    · cases hu
theorem take_rows {l : List Rw} {m : Nat} (hm : m ≤ l.length) : (l.flatMap rwC).take (m * 2) = (l.take m).flatMap rwC := by
  induction l generalizing m with
  | nil => simp
  | cons a l ih =>
    cases m with
    | zero => simp
    | succ m =>
      rw [List.flatMap_cons, List.take_succ_cons, List.flatMap_cons, ← ih (by simpa using hm), show (m + 1) * 2 = m * 2 + 2 by omega, show m * 2 + 2 = (rwC a).length + m * 2 by show m * 2 + 2 = 2 + m * 2; omega, List.take_length_add_append]
theorem mask_i64 (x : Int) (m : Nat) (hm : m < 9223372036854775808) : ∃ n : Nat, bits .and .i64 x (m : Int) = n ∧ n ≤ m := by
  unfold bits
  simp only
  have h : (BitVec.ofInt 64 x &&& BitVec.ofInt 64 (m : Int)).toNat ≤ m := by
    rw [BitVec.toNat_and]
    refine Nat.le_trans Nat.and_le_right ?_
    simp
    omega
  exact ⟨(BitVec.ofInt 64 x &&& BitVec.ofInt 64 m).toNat, IntWalk.i64_in (((BitVec.ofInt 64 x &&& BitVec.ofInt 64 (m : Int)).toNat : Nat) : Int) (by omega), h⟩
end Go.Proofs.YtlmjjhenoadndaaGreatDoor
