/- KpW: laid together. -/
import Derived.Test.YtipfoljmdeiggaaGreatDoorPwK
import Derived.Test.YtipfoljmdeiggaaGreatDoorPwD

/- tributarylaw14.CkptKeeps: the walk. -/
namespace Go.Proofs.YtipfoljmdeiggaaGreatDoor
open Go.RowKit Go.Sort

/-- What the arguments' cells hold. -/
structure KpIn (p : PlanD) (A : Option Addr) (acts : List ActC) (A1 : Option Addr) (W : World) : Prop where
  ops : RdS W (· < W.heap.size) 5 A p.ops.length (opsC p.ops)
  actsR : Rd W W.heap.size 71 6 A1 acts.length (acts.flatMap actC)
  ok : ∀ a ∈ acts, ActCOk W a
  tv : TypeVar W
set_option maxRecDepth 100000 in
set_option maxHeartbeats 64000000 in
theorem ckKeeps_c (hsort : SortC) {p : PlanD} {A : Option Addr} {c : Nat} {acts : List ActC} {A1 : Option Addr} {c1 : Nat} (W : World) (h : KpIn p A acts A1 W) : Calls Tryz.prog 6 #[planV p A c, .slice A1 acts.length c1] W (BoolPost W true) := by
  have H := Lib.hid h
  have HSo := Lib.hid hsort
  have hty : 0 < W.heap.size := World.block_lt_of_cell? W _ h.tv
  obtain ⟨T, hT1, hT2, hT3⟩ : ∃ T, T ≤ acts.length ∧ T ≤ 60 ∧ (T = acts.length ∨ T = 60) := ⟨Nat.min acts.length 60, Nat.min_le_left _ _, Nat.min_le_right _ _, by simp only [Nat.min_def]; split <;> simp⟩
  have HT := Lib.hid hT3
  clear hT3 hsort
  obtain ⟨W1, hW1⟩ : ∃ W1, W1 = W.alloc (.cells #[.int .i64 p.parts, .slice A p.ops.length c] 24 (0, 0)) := ⟨_, rfl⟩
  have HB1 := Lib.hid (show Below W.heap.size W W1 from by rw [hW1]; exact ext_alloc (Below.refl _ _) _)
  have HK1 := Lib.hid (show Bk W1 W.heap.size 24 #[.int .i64 p.parts, .slice A p.ops.length c] from by rw [hW1]; exact Bk.new _ _ _)
  have hs1 : W1.heap.size = W.heap.size + 1 := by rw [hW1]; simp
  have HTv := Lib.hid (show TypeVar W1 from TypeVar.fr (S := No) h.tv (Fr.of_below HB1.out) (fun h => h))
  have c0 : W1.cell? ⟨W.heap.size, 0, none⟩ = some (.int .i64 p.parts) := (HK1.out.cell 0).trans rfl
  have c1' : W1.cell? ⟨W.heap.size, 1, none⟩ = some (.slice A p.ops.length c) := (HK1.out.cell 1).trans rfl
  have HW1 := Lib.hid hW1
  clear h hW1
  cases hc : checkD p with
  | some x =>
    obtain ⟨a, code⟩ := x
    have HC := Lib.hid hc
    have HR := Lib.hid (fun W' (hb : Below W.heap.size W W') => rRight_c W.heap.size p A c W' ((H.out.ops.ext hb).rdS (fun _ hk => hk)) hb.size)
    rw [hc] at HR
    clear hc
    go_enter Tryz.func6, Tryz.ntmps6
    go_upto_region 1 with fail
    rw [← HW1.out]
    go_wp2_with (first
      | (go_at_call 30; refine (HR.out _ HB4.out).mono ?_; rintro e w5 ⟨rfl, hb⟩; have HB5 := Lib.hid (ext_trans HB4.out hb); clear hb)
      | (go_at_call 24; refine (told14_c _ HT3.out).mono ?_; rintro e w4 ⟨rfl, hb⟩; have HB4 := Lib.hid (ext_trans HB3.out hb)
         have r0 := (World.cell?_of_block (a := ⟨W.heap.size, 0, none⟩) (hb.block _ ql)).trans q0; have r1 := (World.cell?_of_block (a := ⟨W.heap.size, 1, none⟩) (hb.block _ ql)).trans q1; clear hb)
      | (go_at_call 21
         refine (ckOpen_bad W.heap.size p A c _ a code _ HC.out ((H.out.ops.ext HB1.out).ext HB2.out) (by have := HB2.out.size; omega)).mono ?_
         rintro e w3 ⟨ve, at_, rfl, hE, hb⟩
         obtain ⟨n7, hn7⟩ := hE.errN; obtain ⟨T7, y7, rfl⟩ := hn7.iface
         have HB3 := Lib.hid (ext_trans HB1.out (ext_trans HB2.out hb))
         have HT3 := Lib.hid (TypeVar.fr (S := No) HTv.out (Fr.of_below (ext_trans HB2.out hb)) (fun h => h))
         have ql : W.heap.size < w3.heap.size := Nat.lt_of_lt_of_le dl hb.size
         have q0 := (World.cell?_of_block (a := ⟨W.heap.size, 0, none⟩) (hb.block _ dl)).trans d0; have q1 := (World.cell?_of_block (a := ⟨W.heap.size, 1, none⟩) (hb.block _ dl)).trans d1
         clear hE hb hn7)
      | (go_at_call 15; refine (dNew_c 100 _ (by omega) (by omega)).mono ?_; rintro e w2 ⟨db, Rq, rfl, hD, hb⟩; have HD := Lib.hid hD; have HB2 := Lib.hid hb
         have d0 := (World.cell?_of_block (a := ⟨W.heap.size, 0, none⟩) (hb.block W.heap.size (by omega))).trans c0; have d1 := (World.cell?_of_block (a := ⟨W.heap.size, 1, none⟩) (hb.block W.heap.size (by omega))).trans c1'
         have dl : W.heap.size < w2.heap.size := Nat.lt_of_lt_of_le (by omega) hb.size; clear hD hb))
    go_ret
    exact ⟨rfl, HB5.out⟩
  | none =>
    have HC := Lib.hid hc
    clear hc
    go_enter Tryz.func6, Tryz.ntmps6
    go_upto_region 1 with fail
    rw [← HW1.out]
    go_upto_block 0 with (first
      | (go_at_call 21
         refine (open_s (w0 := W1) W.heap.size _ HD.out HB2.out HC.out ((H.out.ops.ext HB1.out).ext HB2.out) (by have := HB2.out.size; omega)).mono ?_
         rintro e w3 ⟨sb, rfl, hV, hb⟩
         have HV := Lib.hid hV
         clear hV hb)
      | (go_at_call 15; refine (dNew_c 100 _ (by omega) (by omega)).mono ?_; rintro e w2 ⟨db, Rq, rfl, hD, hb⟩; have HD := Lib.hid hD; have HB2 := Lib.hid hb
         have d0 := (World.cell?_of_block (a := ⟨W.heap.size, 0, none⟩) (hb.block W.heap.size (by omega))).trans c0; have d1 := (World.cell?_of_block (a := ⟨W.heap.size, 1, none⟩) (hb.block W.heap.size (by omega))).trans c1'
         have dl : W.heap.size < w2.heap.size := Nat.lt_of_lt_of_le (by omega) hb.size; clear hD hb))
    go_cut [4, 9] (fun v4 v9 wx => v4 = .bool false ∧ Hid (∃ sb, KpIs sb db p A c 60 v9 W1 wx))
    case first =>
      go_wp2_with fail
      go_loopg [4, 7, 8, 9, 10, 11, 12, 13, 14] T (fun gk v4 v7 _ v9 v10 _ _ _ _ wr => ∃ i sb : Nat, i + gk = T ∧ v4 = .bool false ∧ v10 = .int .i64 (i : Nat) ∧ v7 = .pointer (some ⟨sb, 0, none⟩) ∧ Hid (KpIs sb db p A c i v9 W1 wr))
      case atStart => exact ⟨0, sb, by omega, rfl, rfl, rfl, Lib.hid ⟨0, _, [], HV.out.less (fun g hg => by rcases hg with hg | ⟨z, hz, _⟩; cases hg; cases hz), World.ownsRow_nil _ _ _ _, (fun z hz => by cases hz), Nat.le_refl _, Nat.le_refl _⟩⟩
      case round =>
        obtain ⟨i, sb, hik, rfl, rfl, rfl, hG⟩ := hrel
        by_cases hi : i < acts.length
        · have hiI : (i : Int) < (acts.length : Nat) := by omega
          by_cases h60 : i < 60
          · have h60I : (i : Int) < 60 := by omega
            have hiT : i < T := by have := HT.out; omega
            obtain ⟨life, d, L, hC, hO, hRo, hdl, hLl⟩ := hG.out
            obtain ⟨y, hy⟩ : ∃ y, acts[i]? = some y := ⟨_, List.getElem?_eq_getElem hi⟩
            obtain ⟨ad, hA1, hcl⟩ := Rd.actsC ((H.out.actsR.ext HB1.out).ext hC.below) hy hi
            subst hA1
            have HCl := Lib.hid hcl
            have HY := Lib.hid (H.out.ok y (List.mem_of_getElem? hy))
            have HC0 := Lib.hid hC
            have HO0 := Lib.hid hO
            have HR0 := Lib.hid hRo
            obtain ⟨v9, rfl⟩ : ∃ v9 : Value, v9 = u9 := ⟨_, rfl⟩
            clear hy hcl hC hO hRo hG
            go_upto_region 12 with (first
              | (refine wpList_load_any rfl 71 (.tmp 54) rfl (ad.add (i * 6)) (by rfl) #[.int .i64 y.kind, .int .i64 y.n, .int .i64 y.id.b, .int .i64 y.id.s, .int .i64 y.id.p, .slice y.r.A y.r.l.length y.r.cap] _ HCl.out Tryz.underlying71 (by kernel_rfl) ?_)
              | (refine wpList_store_row rfl 71 (.tmp 11) (.tmp 55) rfl wr.heap.size #[.int .i64 y.kind, .int .i64 y.n, .int .i64 y.id.b, .int .i64 y.id.s, .int .i64 y.id.p, .slice y.r.A y.r.l.length y.r.cap] (by rfl) (by rfl) 71 _ (Bk.new _ _ _) (by kernel_rfl) rfl (by kernel_rfl) ?_; rw [World.setRow_alloc_new]; simp only [Act.put]))
            obtain ⟨wa, hwa⟩ : ∃ wa, wa = wr.alloc (.cells #[.int .i64 y.kind, .int .i64 y.n, .int .i64 y.id.b, .int .i64 y.id.s, .int .i64 y.id.p, .slice y.r.A y.r.l.length y.r.cap] 71 (0, 0)) := ⟨_, rfl⟩
            rw [← hwa]
            have HXa := Lib.hid (show Bk wa wr.heap.size 71 #[.int .i64 y.kind, .int .i64 y.n, .int .i64 y.id.b, .int .i64 y.id.s, .int .i64 y.id.p, .slice y.r.A y.r.l.length y.r.cap] from by rw [hwa]; exact Bk.new _ _ _)
            have HBa := Lib.hid (show Below wr.heap.size wr wa from by rw [hwa]; exact ext_alloc (Below.refl _ _) _)
            have hwas : wa.heap.size = wr.heap.size + 1 := by rw [hwa]; simp
            clear hwa
            obtain ⟨nb, hnb⟩ : ∃ nb, nb = wr.heap.size := ⟨_, rfl⟩
            have HCa := Lib.hid (HC0.out.more (K' := fun k => KL v9 L k ∨ k = nb) HBa.out (fun g hg => ⟨hg.imp id (fun e => by omega), hg.elim (fun hg => by have := HC0.out.klt g hg; omega) (fun e => by omega)⟩))
            have HOw := Lib.hid (own_ext HO0.out HBa.out)
            have HRo := Lib.hid (fun z (hz : z ∈ L) => own_ext (HR0.out z hz) HBa.out)
            rw [← hnb] at HXa ⊢
            clear hnb hwas HC0 HO0 HR0
            have a0 : wa.cell? ⟨nb, 0, none⟩ = some (.int .i64 y.kind) := (HXa.out.cell 0).trans rfl
            have a1 : wa.cell? ⟨nb, 1, none⟩ = some (.int .i64 y.n) := (HXa.out.cell 1).trans rfl
            have a2 : wa.cell? ⟨nb, 2, none⟩ = some (.int .i64 y.id.b) := (HXa.out.cell 2).trans rfl
            have a3 : wa.cell? ⟨nb, 3, none⟩ = some (.int .i64 y.id.s) := (HXa.out.cell 3).trans rfl
            have a4 : wa.cell? ⟨nb, 4, none⟩ = some (.int .i64 y.id.p) := (HXa.out.cell 4).trans rfl
            have a5 : wa.cell? ⟨nb, 5, none⟩ = some (.slice y.r.A y.r.l.length y.r.cap) := (HXa.out.cell 5).trans rfl
            have al := HXa.out.lt
            by_cases k0 : y.kind = 0
            · as_aux_lemma =>
                have e0 : (y.kind == 0) = true := by simp [k0]
                clear k0
                obtain ⟨rl, hrl⟩ : ∃ rl, rl = y.r.l.take (min y.r.l.length 64) := ⟨_, rfl⟩
                have hrll : rl.length = min y.r.l.length 64 := by rw [hrl, List.length_take]; omega
                have hmin : (if (64 : Int) < (y.r.l.length : Nat) then (64 : Int) else (y.r.l.length : Nat)) = (rl.length : Nat) := by rw [hrll]; split <;> omega
                have hl64 : rl.length ≤ 64 := by omega
                have hlm : rl.length ≤ y.r.l.length := by omega
                have hcap := HY.out.rl
                have HRl := Lib.hid (show RdS W (· < W.heap.size) 2 y.r.A rl.length (rwsC rl) from by
                  have h1 := HY.out.rr.pre (m := rl.length) hlm
                  rw [show (rwsC y.r.l).take (rl.length * 2) = rwsC rl from by
                    rw [hrll, hrl]
                    exact take_rows (Nat.min_le_left _ _)] at h1
                  exact h1)
                have H64 := Lib.hid (show RowsOk rl from fun r hr => HY.out.r64 r (by rw [hrl] at hr; exact List.mem_of_mem_take hr))
                clear hrl hrll
                have HPl := Lib.hid (putD_life (p := p) (life := life) (q := (y.id, rl)) HCa.out.ok HCa.out.room.2.1)
                have HHas := Lib.hid (has_s y.id _ HCa.out)
                go_upto_region 20 with fail
                all_goals try rw [hmin]
                all_goals
                  clear hmin
                  obtain ⟨hd, hhd⟩ : ∃ hd, hd = decide (y.id ∈ (L.map pzT).map (·.1)) := ⟨_, rfl⟩
                  rw [← hhd] at HHas
                  have HHd := Lib.hid hhd
                  clear hhd
                  cases hz : (putD p life d (L.map pzT) (y.id, rl)).1 with
                  | some code =>
                    have HZ := Lib.hid hz
                    clear hz
                    go_wp2_with (first
                      | (go_at_call 32; refine (put_s (K := fun k => KL v9 L k ∨ k = nb) (· < W1.heap.size) y.id rl rl.length rfl y.r.A y.r.cap _ HC4.out ((RdS.mono (S' := (· < W1.heap.size)) HRl.out (fun k hk => by have h2 : k < W.heap.size := hk; show k < W1.heap.size; omega)).ext (ext_trans HB1.out HC4.out.below)) (fun k hk => .inl hk) H64.out HTv.out (by omega)).mono ?_
                         rintro e w5 ⟨k1, k2, hC5, hk5⟩
                         obtain ⟨ve, rfl, hE⟩ := k2 code HZ.out
                         obtain ⟨n5, hn5⟩ := hE.errN
                         obtain ⟨T5, y5, rfl⟩ := hn5.iface
                         clear hE hn5
                         obtain ⟨hO5, hR5⟩ := kp_kept (K := fun k => KL v9 L k ∨ k = nb) (fun g hg => .inl hg) hk5 HO4.out HK4.out
                         have HC5 := Lib.hid hC5
                         have HO5 := Lib.hid hO5
                         have HR5 := Lib.hid hR5
                         have HX5 := Lib.hid (hk5.bk (.inr rfl) HX4.out)
                         clear k1 k2 hC5 hk5 hO5 hR5 u2 u3 u4 ul)
                      | (go_at_call 34; refine HHas.out.mono ?_; rintro e w4 ⟨rfl, hb⟩
                         have HC4 := Lib.hid (HCa.out.ext hb)
                         have HX4 := Lib.hid (HXa.out.ext hb)
                         have HK4 := Lib.hid (fun z (hz : z ∈ L) => own_ext (HRo.out z hz) hb)
                         have HO4 := Lib.hid (own_ext HOw.out hb)
                         clear a2 a3 a4 al
                         have u2 : w4.cell? ⟨nb, 2, none⟩ = some (.int .i64 y.id.b) := (HX4.out.cell 2).trans rfl
                         have u3 : w4.cell? ⟨nb, 3, none⟩ = some (.int .i64 y.id.s) := (HX4.out.cell 3).trans rfl
                         have u4 : w4.cell? ⟨nb, 4, none⟩ = some (.int .i64 y.id.p) := (HX4.out.cell 4).trans rfl
                         have ul := HX4.out.lt
                         clear hb))
                    go_roundg (gk - 1)
                    case measure => omega
                    case rel =>
                      have h5 := HC5.out
                      rw [putD_err HZ.out] at h5
                      exact ⟨i + 1, sb, by omega, rfl, by go_num, rfl, Lib.hid ⟨life, _, L, h5.less (fun g hg => .inl hg), HO5.out, HR5.out, by have := HPl.out; omega, by omega⟩⟩
                  | none =>
                    have HZ := Lib.hid hz
                    clear hz
                    cases hd with
                    | true =>
                      go_wp2_with (first
                        | (go_at_call 32; refine (put_s (K := fun k => KL v9 L k ∨ k = nb) (· < W1.heap.size) y.id rl rl.length rfl y.r.A y.r.cap _ HC4.out ((RdS.mono (S' := (· < W1.heap.size)) HRl.out (fun k hk => by have h2 : k < W.heap.size := hk; show k < W1.heap.size; omega)).ext (ext_trans HB1.out HC4.out.below)) (fun k hk => .inl hk) H64.out HTv.out (by omega)).mono ?_
                           rintro e w5 ⟨k1, k2, hC5, hk5⟩
                           obtain rfl := k1 HZ.out
                           obtain ⟨hO5, hR5⟩ := kp_kept (K := fun k => KL v9 L k ∨ k = nb) (fun g hg => .inl hg) hk5 HO4.out HK4.out
                           have HC5 := Lib.hid hC5
                           have HO5 := Lib.hid hO5
                           have HR5 := Lib.hid hR5
                           have HX5 := Lib.hid (hk5.bk (.inr rfl) HX4.out)
                           clear k1 k2 hC5 hk5 hO5 hR5 u2 u3 u4 ul)
                        | (go_at_call 34; refine HHas.out.mono ?_; rintro e w4 ⟨rfl, hb⟩
                           have HC4 := Lib.hid (HCa.out.ext hb)
                           have HX4 := Lib.hid (HXa.out.ext hb)
                           have HK4 := Lib.hid (fun z (hz : z ∈ L) => own_ext (HRo.out z hz) hb)
                           have HO4 := Lib.hid (own_ext HOw.out hb)
                           clear a2 a3 a4 al
                           have u2 : w4.cell? ⟨nb, 2, none⟩ = some (.int .i64 y.id.b) := (HX4.out.cell 2).trans rfl
                           have u3 : w4.cell? ⟨nb, 3, none⟩ = some (.int .i64 y.id.s) := (HX4.out.cell 3).trans rfl
                           have u4 : w4.cell? ⟨nb, 4, none⟩ = some (.int .i64 y.id.p) := (HX4.out.cell 4).trans rfl
                           have ul := HX4.out.lt
                           clear hb))
                      go_roundg (gk - 1)
                      case measure => omega
                      case rel =>
                        have h5 := HC5.out
                        rw [putD_had (of_decide_eq_true HHd.out.symm)] at h5
                        exact ⟨i + 1, sb, by omega, rfl, by go_num, rfl, Lib.hid ⟨life, d, L, h5.less (fun g hg => .inl hg), HO5.out, HR5.out, by omega, by omega⟩⟩
                    | false =>
                      go_upto_region 23 with (first
                        | (go_at_call 32; refine (put_s (K := fun k => KL v9 L k ∨ k = nb) (· < W1.heap.size) y.id rl rl.length rfl y.r.A y.r.cap _ HC4.out ((RdS.mono (S' := (· < W1.heap.size)) HRl.out (fun k hk => by have h2 : k < W.heap.size := hk; show k < W1.heap.size; omega)).ext (ext_trans HB1.out HC4.out.below)) (fun k hk => .inl hk) H64.out HTv.out (by omega)).mono ?_
                           rintro e w5 ⟨k1, k2, hC5, hk5⟩
                           obtain rfl := k1 HZ.out
                           obtain ⟨hO5, hR5⟩ := kp_kept (K := fun k => KL v9 L k ∨ k = nb) (fun g hg => .inl hg) hk5 HO4.out HK4.out
                           have HC5 := Lib.hid hC5
                           have HO5 := Lib.hid hO5
                           have HR5 := Lib.hid hR5
                           have HX5 := Lib.hid (hk5.bk (.inr rfl) HX4.out)
                           clear k1 k2 hC5 hk5 hO5 hR5 u2 u3 u4 ul)
                        | (go_at_call 34; refine HHas.out.mono ?_; rintro e w4 ⟨rfl, hb⟩
                           have HC4 := Lib.hid (HCa.out.ext hb)
                           have HX4 := Lib.hid (HXa.out.ext hb)
                           have HK4 := Lib.hid (fun z (hz : z ∈ L) => own_ext (HRo.out z hz) hb)
                           have HO4 := Lib.hid (own_ext HOw.out hb)
                           clear a2 a3 a4 al
                           have u2 : w4.cell? ⟨nb, 2, none⟩ = some (.int .i64 y.id.b) := (HX4.out.cell 2).trans rfl
                           have u3 : w4.cell? ⟨nb, 3, none⟩ = some (.int .i64 y.id.s) := (HX4.out.cell 3).trans rfl
                           have u4 : w4.cell? ⟨nb, 4, none⟩ = some (.int .i64 y.id.p) := (HX4.out.cell 4).trans rfl
                           have ul := HX4.out.lt
                           clear hb))
                      have HXd := Lib.hid (show Bk w5.drew nb 71 #[.int .i64 y.kind, .int .i64 y.n, .int .i64 y.id.b, .int .i64 y.id.s, .int .i64 y.id.p, .slice y.r.A y.r.l.length y.r.cap] from HX5.out)
                      have u2 : w5.cell? ⟨nb, 2, none⟩ = some (.int .i64 y.id.b) := (HX5.out.cell 2).trans rfl
                      have u3 : w5.cell? ⟨nb, 3, none⟩ = some (.int .i64 y.id.s) := (HX5.out.cell 3).trans rfl
                      have u4 : w5.cell? ⟨nb, 4, none⟩ = some (.int .i64 y.id.p) := (HX5.out.cell 4).trans rfl
                      have ul := HX5.out.lt
                      obtain ⟨A9, c9, hv9, hc9⟩ := own_shape HO5.out
                      subst hv9
                      refine wp_region_held_drew (S := (fun w' => w'.cell? ⟨nb, 2, none⟩ = some (.int .i64 y.id.b) ∧ w'.cell? ⟨nb, 3, none⟩ = some (.int .i64 y.id.s) ∧ w'.cell? ⟨nb, 4, none⟩ = some (.int .i64 y.id.p))) (by kernel_rfl) ?_ (fun hHeld => ?_)
                      · (first | exact ⟨(HX8.out.cell 2).trans rfl, (HX8.out.cell 3).trans rfl, (HX8.out.cell 4).trans rfl⟩ | exact ⟨(HX7.out.cell 2).trans rfl, (HX7.out.cell 3).trans rfl, (HX7.out.cell 4).trans rfl⟩ | exact ⟨(HX6.out.cell 2).trans rfl, (HX6.out.cell 3).trans rfl, (HX6.out.cell 4).trans rfl⟩ | exact ⟨(HXd.out.cell 2).trans rfl, (HXd.out.cell 3).trans rfl, (HXd.out.cell 4).trans rfl⟩ | go_keep)
                      refine wpAnyH_take (i := 0) (oi := { dst := some 96, op := Go.Op.move (Go.Operand.tmp 9), type := 52, pos := "law.go:165", after := #[], guard := none }) (v := ?v1z0) rfl (by kernel_rfl) (by kernel_rfl) (by kernel_rfl) (fun _ _ _ h => h) (Or.inl ⟨by rfl, ?hy1z0⟩) (by assumption) ?rest1z0
                      case hy1z0 => (intro w hSw; (try dsimp only at hSw); go_simp; try (with_reducible rfl))
                      simp only [Act.put, List.setIfInBounds_toArray, List.set_cons_zero, List.set_cons_succ]
                      refine wpAnyH_take (i := 1) (oi := { dst := some 97, op := Go.Op.fieldAddr 71 (Go.Operand.tmp 11) 2, type := 0, pos := "law.go:165", after := #[], guard := none }) (v := ?v1z1) rfl (by kernel_rfl) (by kernel_rfl) (by kernel_rfl) (fun _ _ _ h => h) (Or.inl ⟨by rfl, ?hy1z1⟩) (by assumption) ?rest1z1
                      case hy1z1 => (intro w hSw; (try dsimp only at hSw); go_simp; try (with_reducible rfl))
                      simp only [Act.put, List.setIfInBounds_toArray, List.set_cons_zero, List.set_cons_succ]
                      refine wpAnyH_take (i := 2) (oi := { dst := some 98, op := Go.Op.load 61 (Go.Operand.tmp 97), type := 61, pos := "law.go:165", after := #[{ on := 1, ground := Go.Ground.data }], guard := none }) (v := ?v1z2) rfl (by kernel_rfl) (by kernel_rfl) (by kernel_rfl) (fun _ _ _ h => h) (Or.inl ⟨by rfl, ?hy1z2⟩) (by assumption) ?rest1z2
                      case hy1z2 => (intro w hSw; (try dsimp only at hSw); go_simp; try (with_reducible rfl))
                      simp only [Act.put, List.setIfInBounds_toArray, List.set_cons_zero, List.set_cons_succ]
                      refine wpAnyH_take (i := 3) (oi := { dst := some 99, op := Go.Op.move (Go.Operand.tmp 14), type := 56, pos := "law.go:165", after := #[], guard := none }) (v := ?v1z3) rfl (by kernel_rfl) (by kernel_rfl) (by kernel_rfl) (fun _ _ _ h => h) (Or.inl ⟨by rfl, ?hy1z3⟩) (by assumption) ?rest1z3
                      case hy1z3 => (intro w hSw; (try dsimp only at hSw); go_simp; try (with_reducible rfl))
                      simp only [Act.put, List.setIfInBounds_toArray, List.set_cons_zero, List.set_cons_succ]
                      refine wpAnyH_take (i := 4) (oi := { dst := some 100, op := Go.Op.move (Go.Operand.tmp 12), type := 56, pos := "law.go:165", after := #[], guard := none }) (v := ?v1z4) rfl (by kernel_rfl) (by kernel_rfl) (by kernel_rfl) (fun _ _ _ h => h) (Or.inl ⟨by rfl, ?hy1z4⟩) (by assumption) ?rest1z4
                      case hy1z4 => (intro w hSw; (try dsimp only at hSw); go_simp; try (with_reducible rfl))
                      simp only [Act.put, List.setIfInBounds_toArray, List.set_cons_zero, List.set_cons_succ]
                      refine wpAnyH_ready (rs := [5]) (by kernel_rfl) (by simp) ?_
                      refine AllReadyH.cons (o := { dst := some 101, op := Go.Op.call { callee := Go.Callee.builtin Go.Builtin.append, args := #[Go.Operand.tmp 99, Go.Operand.tmp 100], argTypes := #[56, 56] }, type := 56, pos := "law.go:165", after := #[{ on := 3, ground := Go.Ground.data }, { on := 4, ground := Go.Ground.data }], guard := none }) rfl (fun K hK => ?_) ?_
                      ·
                        refine step_appR row_app _ rfl (.tmp 99) (.tmp 100) rfl w5.heap.size (.slice none 0 0) [] (by rfl) (World.ownsRow_nil _ _ _ _) rl W.heap.size y.r.A rl.length y.r.cap (by rfl) rfl ((HRl.out.ext (ext_trans HB1.out (below_drewN HC5.out.below 1))).rdS (fun _ h => h)) (by simp only [List.length_nil]; omega) (by simp) ?_
                        rw [List.nil_append]
                        intro A6 c6 w6 hown6 hg6 hc6
                        have HB6 := Lib.hid (show Below w5.heap.size w5 w6 from (Below.drew (Below.refl _ _)).grown hg6 (by simp) (fun k hk => by cases hk))
                        have HO6 := Lib.hid hown6
                        have HX6 := Lib.hid (HX5.out.ext HB6.out)
                        have HE6 := Lib.hid (ext_alloc (Below.refl w6.heap.size w6) (.cells (pzC ⟨y.id, A6, c6, rl⟩).toArray 83 (0, 0)))
                        have HN6 := Lib.hid (Bk.new w6 83 (pzC ⟨y.id, A6, c6, rl⟩).toArray)
                        have HX7 := Lib.hid (HX6.out.ext HE6.out)
                        have HK7 := Lib.hid (own_ext HO5.out (ext_trans HB6.out HE6.out))
                        clear hown6 hg6
                        refine hK.out _ _ ?_ (fun hHeld => ?_)
                        · (first | exact ⟨(HX8.out.cell 2).trans rfl, (HX8.out.cell 3).trans rfl, (HX8.out.cell 4).trans rfl⟩ | exact ⟨(HX7.out.cell 2).trans rfl, (HX7.out.cell 3).trans rfl, (HX7.out.cell 4).trans rfl⟩ | exact ⟨(HX6.out.cell 2).trans rfl, (HX6.out.cell 3).trans rfl, (HX6.out.cell 4).trans rfl⟩ | exact ⟨(HXd.out.cell 2).trans rfl, (HXd.out.cell 3).trans rfl, (HXd.out.cell 4).trans rfl⟩ | go_keep)
                        clear hK K
                        try simp only [Act.put, List.setIfInBounds_toArray, List.set_cons_zero, List.set_cons_succ]
                        refine wpAnyH_take (i := 6) (oi := { dst := some 102, op := Go.Op.build 83 #[(0, Go.Operand.tmp 98), (1, Go.Operand.tmp 101)], type := 83, pos := "law.go:165", after := #[{ on := 2, ground := Go.Ground.data }, { on := 5, ground := Go.Ground.data }], guard := none }) (v := ?v1z6) rfl (by kernel_rfl) (by kernel_rfl) (by kernel_rfl) (fun _ _ _ h => h) (Or.inl ⟨by rfl, ?hy1z6⟩) (by assumption) ?rest1z6
                        case hy1z6 => (intro w hSw; (try dsimp only at hSw); go_simp; try (with_reducible rfl))
                        simp only [Act.put, List.setIfInBounds_toArray, List.set_cons_zero, List.set_cons_succ]
                        refine wpAnyH_ready (rs := [7]) (by kernel_rfl) (by simp) ?_
                        refine AllReadyH.cons (o := { dst := some 103, op := Go.Op.buildSlice 52 1 #[(0, Go.Operand.tmp 102)], type := 52, pos := "law.go:165", after := #[{ on := 6, ground := Go.Ground.data }], guard := none }) rfl (fun K hK => ?_) ?_
                        ·
                          go_simp
                          refine hK.out _ _ ?_ (fun hHeld => ?_)
                          · (first | exact ⟨(HX8.out.cell 2).trans rfl, (HX8.out.cell 3).trans rfl, (HX8.out.cell 4).trans rfl⟩ | exact ⟨(HX7.out.cell 2).trans rfl, (HX7.out.cell 3).trans rfl, (HX7.out.cell 4).trans rfl⟩ | exact ⟨(HX6.out.cell 2).trans rfl, (HX6.out.cell 3).trans rfl, (HX6.out.cell 4).trans rfl⟩ | exact ⟨(HXd.out.cell 2).trans rfl, (HXd.out.cell 3).trans rfl, (HXd.out.cell 4).trans rfl⟩ | go_keep)
                          clear hK K
                          try simp only [Act.put, List.setIfInBounds_toArray, List.set_cons_zero, List.set_cons_succ]
                          refine wpAnyH_ready (rs := [8]) (by kernel_rfl) (by simp) ?_
                          refine AllReadyH.cons (o := { dst := some 104, op := Go.Op.call { callee := Go.Callee.builtin Go.Builtin.append, args := #[Go.Operand.tmp 96, Go.Operand.tmp 103], argTypes := #[52, 52] }, type := 52, pos := "law.go:165", after := #[{ on := 0, ground := Go.Ground.data }, { on := 7, ground := Go.Ground.data }, { on := 5, ground := Go.Ground.chain }], guard := none }) rfl (fun K hK => ?_) ?_
                          ·
                            refine step_appG pz_app _ rfl (.tmp 96) (.tmp 103) rfl W1.heap.size (.slice A9 L.length c9) L (by rfl) HK7.out ⟨y.id, A6, c6, rl⟩ w6.heap.size (by rfl) HN6.out (by omega) (by have h1 := HB6.out.size; have h2 := HC5.out.below.size; simp only [World.size_alloc]; omega) ?_
                            intro A8 c8 w8 hown8 hg8 hc8 hn8
                            have HX8 := Lib.hid (HX7.out.grown hg8 (fun e => own_blk_ne' HK7.out HX7.out (by decide) e.symm))
                            have HN8 := Lib.hid hn8
                            have HG8 := Lib.hid hg8
                            have HO8 := Lib.hid hown8
                            clear hown8 hg8 hn8
                            refine hK.out _ _ ?_ (fun hHeld => ?_)
                            · (first | exact ⟨(HX8.out.cell 2).trans rfl, (HX8.out.cell 3).trans rfl, (HX8.out.cell 4).trans rfl⟩ | exact ⟨(HX7.out.cell 2).trans rfl, (HX7.out.cell 3).trans rfl, (HX7.out.cell 4).trans rfl⟩ | exact ⟨(HX6.out.cell 2).trans rfl, (HX6.out.cell 3).trans rfl, (HX6.out.cell 4).trans rfl⟩ | exact ⟨(HXd.out.cell 2).trans rfl, (HXd.out.cell 3).trans rfl, (HXd.out.cell 4).trans rfl⟩ | go_keep)
                            clear hK K
                            try simp only [Act.put, List.setIfInBounds_toArray, List.set_cons_zero, List.set_cons_succ]
                            refine wpAnyH_take (i := 9) (oi := { dst := some 9, op := Go.Op.assign (Go.Operand.tmp 104), type := 52, pos := "law.go:165", after := #[{ on := 8, ground := Go.Ground.data }, { on := 8, ground := Go.Ground.chain }, { on := 0, ground := Go.Ground.phase }, { on := 1, ground := Go.Ground.phase }, { on := 2, ground := Go.Ground.phase }, { on := 3, ground := Go.Ground.phase }, { on := 4, ground := Go.Ground.phase }, { on := 5, ground := Go.Ground.phase }, { on := 6, ground := Go.Ground.phase }, { on := 7, ground := Go.Ground.phase }, { on := 8, ground := Go.Ground.phase }], guard := none }) (v := ?v1z9) rfl (by kernel_rfl) (by kernel_rfl) (by kernel_rfl) (fun _ _ _ h => h) (Or.inl ⟨by rfl, ?hy1z9⟩) (by assumption) ?rest1z9
                            case hy1z9 => (intro w hSw; (try dsimp only at hSw); go_simp; try (with_reducible rfl))
                            simp only [Act.put, List.setIfInBounds_toArray, List.set_cons_zero, List.set_cons_succ]
                            refine wpAnyH_done (by kernel_rfl) ?_ _
                            go_wp2_with fail
                            have h5 := HC5.out
                            rw [putD_new HZ.out (of_decide_eq_false HHd.out.symm)] at h5
                            have hgr := kp_grow h5 (fun g hg => .inl hg) HO5.out HR5.out HB6.out HO6.out HG8.out HO8.out HN8.out
                            have HGr := Lib.hid hgr
                            clear hgr h5
                            go_roundg (gk - 1)
                            case measure => omega
                            case rel =>
                              refine ⟨i + 1, sb, by omega, rfl, by go_num, rfl, ?_⟩
                              rw [show L.length + 1 = (L ++ [(⟨y.id, A6, c6, rl⟩ : Pz)]).length from by simp]
                              exact Lib.hid ⟨life, _, L ++ [⟨y.id, A6, c6, rl⟩], by rw [List.map_append]; exact HGr.out.1, HO8.out, HGr.out.2, by have := HPl.out; omega, by simp; omega⟩
                          exact AllReadyH.nil
                        exact AllReadyH.nil
                      exact AllReadyH.nil
            · have e0 : (y.kind == 0) = false := by simp [k0]
              by_cases k1 : y.kind = 1
              · as_aux_lemma =>
                  have e1 : (y.kind == 1) = true := by simp [k1]
                  clear k1
                  obtain ⟨rl, hrl⟩ : ∃ rl, rl = y.r.l.take (min y.r.l.length 64) := ⟨_, rfl⟩
                  have hrll : rl.length = min y.r.l.length 64 := by rw [hrl, List.length_take]; omega
                  have hmin : (if (64 : Int) < (y.r.l.length : Nat) then (64 : Int) else (y.r.l.length : Nat)) = (rl.length : Nat) := by rw [hrll]; split <;> omega
                  have hl64 : rl.length ≤ 64 := by omega
                  have hlm : rl.length ≤ y.r.l.length := by omega
                  have hcap := HY.out.rl
                  have HRl := Lib.hid (show RdS W (· < W.heap.size) 2 y.r.A rl.length (rwsC rl) from by
                    have h1 := HY.out.rr.pre (m := rl.length) hlm
                    rw [show (rwsC y.r.l).take (rl.length * 2) = rwsC rl from by
                      rw [hrll, hrl]
                      exact take_rows (Nat.min_le_left _ _)] at h1
                    exact h1)
                  have H64 := Lib.hid (show RowsOk rl from fun r hr => HY.out.r64 r (by rw [hrl] at hr; exact List.mem_of_mem_take hr))
                  clear hrl hrll
                  have HPl := Lib.hid (putD_life (p := p) (life := life) (q := (y.id, rl)) HCa.out.ok HCa.out.room.2.1)
                  have HHas := Lib.hid (has_s y.id _ HCa.out)
                  go_upto_region 20 with fail
                  all_goals try rw [hmin]
                  all_goals
                    clear hmin
                    obtain ⟨hd, hhd⟩ : ∃ hd, hd = decide (y.id ∈ (L.map pzT).map (·.1)) := ⟨_, rfl⟩
                    rw [← hhd] at HHas
                    have HHd := Lib.hid hhd
                    clear hhd
                    cases hz : (putD p life d (L.map pzT) (y.id, rl)).1 with
                    | some code =>
                      have HZ := Lib.hid hz
                      clear hz
                      go_wp2_with (first
                        | (go_at_call 32; refine (put_s (K := fun k => KL v9 L k ∨ k = nb) (· < W1.heap.size) y.id rl rl.length rfl y.r.A y.r.cap _ HC4.out ((RdS.mono (S' := (· < W1.heap.size)) HRl.out (fun k hk => by have h2 : k < W.heap.size := hk; show k < W1.heap.size; omega)).ext (ext_trans HB1.out HC4.out.below)) (fun k hk => .inl hk) H64.out HTv.out (by omega)).mono ?_
                           rintro e w5 ⟨k1, k2, hC5, hk5⟩
                           obtain ⟨ve, rfl, hE⟩ := k2 code HZ.out
                           obtain ⟨n5, hn5⟩ := hE.errN
                           obtain ⟨T5, y5, rfl⟩ := hn5.iface
                           clear hE hn5
                           obtain ⟨hO5, hR5⟩ := kp_kept (K := fun k => KL v9 L k ∨ k = nb) (fun g hg => .inl hg) hk5 HO4.out HK4.out
                           have HC5 := Lib.hid hC5
                           have HO5 := Lib.hid hO5
                           have HR5 := Lib.hid hR5
                           have HX5 := Lib.hid (hk5.bk (.inr rfl) HX4.out)
                           clear k1 k2 hC5 hk5 hO5 hR5 u2 u3 u4 ul)
                        | (go_at_call 34; refine HHas.out.mono ?_; rintro e w4 ⟨rfl, hb⟩
                           have HC4 := Lib.hid (HCa.out.ext hb)
                           have HX4 := Lib.hid (HXa.out.ext hb)
                           have HK4 := Lib.hid (fun z (hz : z ∈ L) => own_ext (HRo.out z hz) hb)
                           have HO4 := Lib.hid (own_ext HOw.out hb)
                           clear a2 a3 a4 al
                           have u2 : w4.cell? ⟨nb, 2, none⟩ = some (.int .i64 y.id.b) := (HX4.out.cell 2).trans rfl
                           have u3 : w4.cell? ⟨nb, 3, none⟩ = some (.int .i64 y.id.s) := (HX4.out.cell 3).trans rfl
                           have u4 : w4.cell? ⟨nb, 4, none⟩ = some (.int .i64 y.id.p) := (HX4.out.cell 4).trans rfl
                           have ul := HX4.out.lt
                           clear hb))
                      go_roundg (gk - 1)
                      case measure => omega
                      case rel =>
                        have h5 := HC5.out
                        rw [putD_err HZ.out] at h5
                        exact ⟨i + 1, sb, by omega, rfl, by go_num, rfl, Lib.hid ⟨life, _, L, h5.less (fun g hg => .inl hg), HO5.out, HR5.out, by have := HPl.out; omega, by omega⟩⟩
                    | none =>
                      have HZ := Lib.hid hz
                      clear hz
                      cases hd with
                      | true =>
                        go_wp2_with (first
                          | (go_at_call 32; refine (put_s (K := fun k => KL v9 L k ∨ k = nb) (· < W1.heap.size) y.id rl rl.length rfl y.r.A y.r.cap _ HC4.out ((RdS.mono (S' := (· < W1.heap.size)) HRl.out (fun k hk => by have h2 : k < W.heap.size := hk; show k < W1.heap.size; omega)).ext (ext_trans HB1.out HC4.out.below)) (fun k hk => .inl hk) H64.out HTv.out (by omega)).mono ?_
                             rintro e w5 ⟨k1, k2, hC5, hk5⟩
                             obtain rfl := k1 HZ.out
                             obtain ⟨hO5, hR5⟩ := kp_kept (K := fun k => KL v9 L k ∨ k = nb) (fun g hg => .inl hg) hk5 HO4.out HK4.out
                             have HC5 := Lib.hid hC5
                             have HO5 := Lib.hid hO5
                             have HR5 := Lib.hid hR5
                             have HX5 := Lib.hid (hk5.bk (.inr rfl) HX4.out)
                             clear k1 k2 hC5 hk5 hO5 hR5 u2 u3 u4 ul)
                          | (go_at_call 34; refine HHas.out.mono ?_; rintro e w4 ⟨rfl, hb⟩
                             have HC4 := Lib.hid (HCa.out.ext hb)
                             have HX4 := Lib.hid (HXa.out.ext hb)
                             have HK4 := Lib.hid (fun z (hz : z ∈ L) => own_ext (HRo.out z hz) hb)
                             have HO4 := Lib.hid (own_ext HOw.out hb)
                             clear a2 a3 a4 al
                             have u2 : w4.cell? ⟨nb, 2, none⟩ = some (.int .i64 y.id.b) := (HX4.out.cell 2).trans rfl
                             have u3 : w4.cell? ⟨nb, 3, none⟩ = some (.int .i64 y.id.s) := (HX4.out.cell 3).trans rfl
                             have u4 : w4.cell? ⟨nb, 4, none⟩ = some (.int .i64 y.id.p) := (HX4.out.cell 4).trans rfl
                             have ul := HX4.out.lt
                             clear hb))
                        go_roundg (gk - 1)
                        case measure => omega
                        case rel =>
                          have h5 := HC5.out
                          rw [putD_had (of_decide_eq_true HHd.out.symm)] at h5
                          exact ⟨i + 1, sb, by omega, rfl, by go_num, rfl, Lib.hid ⟨life, d, L, h5.less (fun g hg => .inl hg), HO5.out, HR5.out, by omega, by omega⟩⟩
                      | false =>
                        go_upto_region 23 with (first
                          | (go_at_call 32; refine (put_s (K := fun k => KL v9 L k ∨ k = nb) (· < W1.heap.size) y.id rl rl.length rfl y.r.A y.r.cap _ HC4.out ((RdS.mono (S' := (· < W1.heap.size)) HRl.out (fun k hk => by have h2 : k < W.heap.size := hk; show k < W1.heap.size; omega)).ext (ext_trans HB1.out HC4.out.below)) (fun k hk => .inl hk) H64.out HTv.out (by omega)).mono ?_
                             rintro e w5 ⟨k1, k2, hC5, hk5⟩
                             obtain rfl := k1 HZ.out
                             obtain ⟨hO5, hR5⟩ := kp_kept (K := fun k => KL v9 L k ∨ k = nb) (fun g hg => .inl hg) hk5 HO4.out HK4.out
                             have HC5 := Lib.hid hC5
                             have HO5 := Lib.hid hO5
                             have HR5 := Lib.hid hR5
                             have HX5 := Lib.hid (hk5.bk (.inr rfl) HX4.out)
                             clear k1 k2 hC5 hk5 hO5 hR5 u2 u3 u4 ul)
                          | (go_at_call 34; refine HHas.out.mono ?_; rintro e w4 ⟨rfl, hb⟩
                             have HC4 := Lib.hid (HCa.out.ext hb)
                             have HX4 := Lib.hid (HXa.out.ext hb)
                             have HK4 := Lib.hid (fun z (hz : z ∈ L) => own_ext (HRo.out z hz) hb)
                             have HO4 := Lib.hid (own_ext HOw.out hb)
                             clear a2 a3 a4 al
                             have u2 : w4.cell? ⟨nb, 2, none⟩ = some (.int .i64 y.id.b) := (HX4.out.cell 2).trans rfl
                             have u3 : w4.cell? ⟨nb, 3, none⟩ = some (.int .i64 y.id.s) := (HX4.out.cell 3).trans rfl
                             have u4 : w4.cell? ⟨nb, 4, none⟩ = some (.int .i64 y.id.p) := (HX4.out.cell 4).trans rfl
                             have ul := HX4.out.lt
                             clear hb))
                        have HXd := Lib.hid (show Bk w5.drew nb 71 #[.int .i64 y.kind, .int .i64 y.n, .int .i64 y.id.b, .int .i64 y.id.s, .int .i64 y.id.p, .slice y.r.A y.r.l.length y.r.cap] from HX5.out)
                        have u2 : w5.cell? ⟨nb, 2, none⟩ = some (.int .i64 y.id.b) := (HX5.out.cell 2).trans rfl
                        have u3 : w5.cell? ⟨nb, 3, none⟩ = some (.int .i64 y.id.s) := (HX5.out.cell 3).trans rfl
                        have u4 : w5.cell? ⟨nb, 4, none⟩ = some (.int .i64 y.id.p) := (HX5.out.cell 4).trans rfl
                        have ul := HX5.out.lt
                        obtain ⟨A9, c9, hv9, hc9⟩ := own_shape HO5.out
                        subst hv9
                        refine wp_region_held_drew (S := (fun w' => w'.cell? ⟨nb, 2, none⟩ = some (.int .i64 y.id.b) ∧ w'.cell? ⟨nb, 3, none⟩ = some (.int .i64 y.id.s) ∧ w'.cell? ⟨nb, 4, none⟩ = some (.int .i64 y.id.p))) (by kernel_rfl) ?_ (fun hHeld => ?_)
                        · (first | exact ⟨(HX8.out.cell 2).trans rfl, (HX8.out.cell 3).trans rfl, (HX8.out.cell 4).trans rfl⟩ | exact ⟨(HX7.out.cell 2).trans rfl, (HX7.out.cell 3).trans rfl, (HX7.out.cell 4).trans rfl⟩ | exact ⟨(HX6.out.cell 2).trans rfl, (HX6.out.cell 3).trans rfl, (HX6.out.cell 4).trans rfl⟩ | exact ⟨(HXd.out.cell 2).trans rfl, (HXd.out.cell 3).trans rfl, (HXd.out.cell 4).trans rfl⟩ | go_keep)
                        refine wpAnyH_take (i := 0) (oi := { dst := some 96, op := Go.Op.move (Go.Operand.tmp 9), type := 52, pos := "law.go:165", after := #[], guard := none }) (v := ?v2z0) rfl (by kernel_rfl) (by kernel_rfl) (by kernel_rfl) (fun _ _ _ h => h) (Or.inl ⟨by rfl, ?hy2z0⟩) (by assumption) ?rest2z0
                        case hy2z0 => (intro w hSw; (try dsimp only at hSw); go_simp; try (with_reducible rfl))
                        simp only [Act.put, List.setIfInBounds_toArray, List.set_cons_zero, List.set_cons_succ]
                        refine wpAnyH_take (i := 1) (oi := { dst := some 97, op := Go.Op.fieldAddr 71 (Go.Operand.tmp 11) 2, type := 0, pos := "law.go:165", after := #[], guard := none }) (v := ?v2z1) rfl (by kernel_rfl) (by kernel_rfl) (by kernel_rfl) (fun _ _ _ h => h) (Or.inl ⟨by rfl, ?hy2z1⟩) (by assumption) ?rest2z1
                        case hy2z1 => (intro w hSw; (try dsimp only at hSw); go_simp; try (with_reducible rfl))
                        simp only [Act.put, List.setIfInBounds_toArray, List.set_cons_zero, List.set_cons_succ]
                        refine wpAnyH_take (i := 2) (oi := { dst := some 98, op := Go.Op.load 61 (Go.Operand.tmp 97), type := 61, pos := "law.go:165", after := #[{ on := 1, ground := Go.Ground.data }], guard := none }) (v := ?v2z2) rfl (by kernel_rfl) (by kernel_rfl) (by kernel_rfl) (fun _ _ _ h => h) (Or.inl ⟨by rfl, ?hy2z2⟩) (by assumption) ?rest2z2
                        case hy2z2 => (intro w hSw; (try dsimp only at hSw); go_simp; try (with_reducible rfl))
                        simp only [Act.put, List.setIfInBounds_toArray, List.set_cons_zero, List.set_cons_succ]
                        refine wpAnyH_take (i := 3) (oi := { dst := some 99, op := Go.Op.move (Go.Operand.tmp 14), type := 56, pos := "law.go:165", after := #[], guard := none }) (v := ?v2z3) rfl (by kernel_rfl) (by kernel_rfl) (by kernel_rfl) (fun _ _ _ h => h) (Or.inl ⟨by rfl, ?hy2z3⟩) (by assumption) ?rest2z3
                        case hy2z3 => (intro w hSw; (try dsimp only at hSw); go_simp; try (with_reducible rfl))
                        simp only [Act.put, List.setIfInBounds_toArray, List.set_cons_zero, List.set_cons_succ]
                        refine wpAnyH_take (i := 4) (oi := { dst := some 100, op := Go.Op.move (Go.Operand.tmp 12), type := 56, pos := "law.go:165", after := #[], guard := none }) (v := ?v2z4) rfl (by kernel_rfl) (by kernel_rfl) (by kernel_rfl) (fun _ _ _ h => h) (Or.inl ⟨by rfl, ?hy2z4⟩) (by assumption) ?rest2z4
                        case hy2z4 => (intro w hSw; (try dsimp only at hSw); go_simp; try (with_reducible rfl))
                        simp only [Act.put, List.setIfInBounds_toArray, List.set_cons_zero, List.set_cons_succ]
                        refine wpAnyH_ready (rs := [5]) (by kernel_rfl) (by simp) ?_
                        refine AllReadyH.cons (o := { dst := some 101, op := Go.Op.call { callee := Go.Callee.builtin Go.Builtin.append, args := #[Go.Operand.tmp 99, Go.Operand.tmp 100], argTypes := #[56, 56] }, type := 56, pos := "law.go:165", after := #[{ on := 3, ground := Go.Ground.data }, { on := 4, ground := Go.Ground.data }], guard := none }) rfl (fun K hK => ?_) ?_
                        ·
                          refine step_appR row_app _ rfl (.tmp 99) (.tmp 100) rfl w5.heap.size (.slice none 0 0) [] (by rfl) (World.ownsRow_nil _ _ _ _) rl W.heap.size y.r.A rl.length y.r.cap (by rfl) rfl ((HRl.out.ext (ext_trans HB1.out (below_drewN HC5.out.below 1))).rdS (fun _ h => h)) (by simp only [List.length_nil]; omega) (by simp) ?_
                          rw [List.nil_append]
                          intro A6 c6 w6 hown6 hg6 hc6
                          have HB6 := Lib.hid (show Below w5.heap.size w5 w6 from (Below.drew (Below.refl _ _)).grown hg6 (by simp) (fun k hk => by cases hk))
                          have HO6 := Lib.hid hown6
                          have HX6 := Lib.hid (HX5.out.ext HB6.out)
                          have HE6 := Lib.hid (ext_alloc (Below.refl w6.heap.size w6) (.cells (pzC ⟨y.id, A6, c6, rl⟩).toArray 83 (0, 0)))
                          have HN6 := Lib.hid (Bk.new w6 83 (pzC ⟨y.id, A6, c6, rl⟩).toArray)
                          have HX7 := Lib.hid (HX6.out.ext HE6.out)
                          have HK7 := Lib.hid (own_ext HO5.out (ext_trans HB6.out HE6.out))
                          clear hown6 hg6
                          refine hK.out _ _ ?_ (fun hHeld => ?_)
                          · (first | exact ⟨(HX8.out.cell 2).trans rfl, (HX8.out.cell 3).trans rfl, (HX8.out.cell 4).trans rfl⟩ | exact ⟨(HX7.out.cell 2).trans rfl, (HX7.out.cell 3).trans rfl, (HX7.out.cell 4).trans rfl⟩ | exact ⟨(HX6.out.cell 2).trans rfl, (HX6.out.cell 3).trans rfl, (HX6.out.cell 4).trans rfl⟩ | exact ⟨(HXd.out.cell 2).trans rfl, (HXd.out.cell 3).trans rfl, (HXd.out.cell 4).trans rfl⟩ | go_keep)
                          clear hK K
                          try simp only [Act.put, List.setIfInBounds_toArray, List.set_cons_zero, List.set_cons_succ]
                          refine wpAnyH_take (i := 6) (oi := { dst := some 102, op := Go.Op.build 83 #[(0, Go.Operand.tmp 98), (1, Go.Operand.tmp 101)], type := 83, pos := "law.go:165", after := #[{ on := 2, ground := Go.Ground.data }, { on := 5, ground := Go.Ground.data }], guard := none }) (v := ?v2z6) rfl (by kernel_rfl) (by kernel_rfl) (by kernel_rfl) (fun _ _ _ h => h) (Or.inl ⟨by rfl, ?hy2z6⟩) (by assumption) ?rest2z6
                          case hy2z6 => (intro w hSw; (try dsimp only at hSw); go_simp; try (with_reducible rfl))
                          simp only [Act.put, List.setIfInBounds_toArray, List.set_cons_zero, List.set_cons_succ]
                          refine wpAnyH_ready (rs := [7]) (by kernel_rfl) (by simp) ?_
                          refine AllReadyH.cons (o := { dst := some 103, op := Go.Op.buildSlice 52 1 #[(0, Go.Operand.tmp 102)], type := 52, pos := "law.go:165", after := #[{ on := 6, ground := Go.Ground.data }], guard := none }) rfl (fun K hK => ?_) ?_
                          ·
                            go_simp
                            refine hK.out _ _ ?_ (fun hHeld => ?_)
                            · (first | exact ⟨(HX8.out.cell 2).trans rfl, (HX8.out.cell 3).trans rfl, (HX8.out.cell 4).trans rfl⟩ | exact ⟨(HX7.out.cell 2).trans rfl, (HX7.out.cell 3).trans rfl, (HX7.out.cell 4).trans rfl⟩ | exact ⟨(HX6.out.cell 2).trans rfl, (HX6.out.cell 3).trans rfl, (HX6.out.cell 4).trans rfl⟩ | exact ⟨(HXd.out.cell 2).trans rfl, (HXd.out.cell 3).trans rfl, (HXd.out.cell 4).trans rfl⟩ | go_keep)
                            clear hK K
                            try simp only [Act.put, List.setIfInBounds_toArray, List.set_cons_zero, List.set_cons_succ]
                            refine wpAnyH_ready (rs := [8]) (by kernel_rfl) (by simp) ?_
                            refine AllReadyH.cons (o := { dst := some 104, op := Go.Op.call { callee := Go.Callee.builtin Go.Builtin.append, args := #[Go.Operand.tmp 96, Go.Operand.tmp 103], argTypes := #[52, 52] }, type := 52, pos := "law.go:165", after := #[{ on := 0, ground := Go.Ground.data }, { on := 7, ground := Go.Ground.data }, { on := 5, ground := Go.Ground.chain }], guard := none }) rfl (fun K hK => ?_) ?_
                            ·
                              refine step_appG pz_app _ rfl (.tmp 96) (.tmp 103) rfl W1.heap.size (.slice A9 L.length c9) L (by rfl) HK7.out ⟨y.id, A6, c6, rl⟩ w6.heap.size (by rfl) HN6.out (by omega) (by have h1 := HB6.out.size; have h2 := HC5.out.below.size; simp only [World.size_alloc]; omega) ?_
                              intro A8 c8 w8 hown8 hg8 hc8 hn8
                              have HX8 := Lib.hid (HX7.out.grown hg8 (fun e => own_blk_ne' HK7.out HX7.out (by decide) e.symm))
                              have HN8 := Lib.hid hn8
                              have HG8 := Lib.hid hg8
                              have HO8 := Lib.hid hown8
                              clear hown8 hg8 hn8
                              refine hK.out _ _ ?_ (fun hHeld => ?_)
                              · (first | exact ⟨(HX8.out.cell 2).trans rfl, (HX8.out.cell 3).trans rfl, (HX8.out.cell 4).trans rfl⟩ | exact ⟨(HX7.out.cell 2).trans rfl, (HX7.out.cell 3).trans rfl, (HX7.out.cell 4).trans rfl⟩ | exact ⟨(HX6.out.cell 2).trans rfl, (HX6.out.cell 3).trans rfl, (HX6.out.cell 4).trans rfl⟩ | exact ⟨(HXd.out.cell 2).trans rfl, (HXd.out.cell 3).trans rfl, (HXd.out.cell 4).trans rfl⟩ | go_keep)
                              clear hK K
                              try simp only [Act.put, List.setIfInBounds_toArray, List.set_cons_zero, List.set_cons_succ]
                              refine wpAnyH_take (i := 9) (oi := { dst := some 9, op := Go.Op.assign (Go.Operand.tmp 104), type := 52, pos := "law.go:165", after := #[{ on := 8, ground := Go.Ground.data }, { on := 8, ground := Go.Ground.chain }, { on := 0, ground := Go.Ground.phase }, { on := 1, ground := Go.Ground.phase }, { on := 2, ground := Go.Ground.phase }, { on := 3, ground := Go.Ground.phase }, { on := 4, ground := Go.Ground.phase }, { on := 5, ground := Go.Ground.phase }, { on := 6, ground := Go.Ground.phase }, { on := 7, ground := Go.Ground.phase }, { on := 8, ground := Go.Ground.phase }], guard := none }) (v := ?v2z9) rfl (by kernel_rfl) (by kernel_rfl) (by kernel_rfl) (fun _ _ _ h => h) (Or.inl ⟨by rfl, ?hy2z9⟩) (by assumption) ?rest2z9
                              case hy2z9 => (intro w hSw; (try dsimp only at hSw); go_simp; try (with_reducible rfl))
                              simp only [Act.put, List.setIfInBounds_toArray, List.set_cons_zero, List.set_cons_succ]
                              refine wpAnyH_done (by kernel_rfl) ?_ _
                              go_wp2_with fail
                              have h5 := HC5.out
                              rw [putD_new HZ.out (of_decide_eq_false HHd.out.symm)] at h5
                              have hgr := kp_grow h5 (fun g hg => .inl hg) HO5.out HR5.out HB6.out HO6.out HG8.out HO8.out HN8.out
                              have HGr := Lib.hid hgr
                              clear hgr h5
                              go_roundg (gk - 1)
                              case measure => omega
                              case rel =>
                                refine ⟨i + 1, sb, by omega, rfl, by go_num, rfl, ?_⟩
                                rw [show L.length + 1 = (L ++ [(⟨y.id, A6, c6, rl⟩ : Pz)]).length from by simp]
                                exact Lib.hid ⟨life, _, L ++ [⟨y.id, A6, c6, rl⟩], by rw [List.map_append]; exact HGr.out.1, HO8.out, HGr.out.2, by have := HPl.out; omega, by simp; omega⟩
                            exact AllReadyH.nil
                          exact AllReadyH.nil
                        exact AllReadyH.nil
              · have e1 : (y.kind == 1) = false := by simp [k1]
                by_cases k2 : y.kind = 2
                · as_aux_lemma =>
                    have e2 : (y.kind == 2) = true := by simp [k2]
                    clear k2
                    go_wp2_with (first
                      | (go_at_call 39; refine (arm_s y.n _ HCa.out HY.out.n.2).mono ?_; rintro e w5 ⟨rfl, hC5, hk5⟩
                         obtain ⟨hO5, hR5⟩ := kp_kept (K := fun k => KL v9 L k ∨ k = nb) (fun g hg => .inl hg) hk5 HOw.out HRo.out
                         have HC5 := Lib.hid hC5; have HO5 := Lib.hid hO5; have HR5 := Lib.hid hR5; clear hC5 hk5 hO5 hR5))
                    go_roundg (gk - 1)
                    case measure => omega
                    case rel => exact ⟨i + 1, sb, by omega, rfl, by go_num, rfl, Lib.hid ⟨life, _, L, HC5.out.less (fun g hg => .inl hg), HO5.out, HR5.out, by have := arm_life d y.n; omega, by omega⟩⟩
                · have e2 : (y.kind == 2) = false := by simp [k2]
                  by_cases k3 : y.kind = 3
                  · as_aux_lemma =>
                      have e3 : (y.kind == 3) = true := by simp [k3]
                      clear k3
                      go_wp2_with (first
                        | (go_at_call 41; refine (dcut_s _ HCa.out (by omega)).mono ?_; rintro e w5 ⟨rfl, hC5, hk5⟩
                           obtain ⟨hO5, hR5⟩ := kp_kept (K := fun k => KL v9 L k ∨ k = nb) (fun g hg => .inl hg) hk5 HOw.out HRo.out
                           have HC5 := Lib.hid hC5; have HO5 := Lib.hid hO5; have HR5 := Lib.hid hR5; clear hC5 hk5 hO5 hR5))
                      go_roundg (gk - 1)
                      case measure => omega
                      case rel => exact ⟨i + 1, sb, by omega, rfl, by go_num, rfl, Lib.hid ⟨life, _, L, HC5.out.less (fun g hg => .inl hg), HO5.out, HR5.out, by have := cut_life d; omega, by omega⟩⟩
                  · as_aux_lemma =>
                      have e3 : (y.kind == 3) = false := by simp [k3]
                      clear k3
                      have HKp := Lib.hid (fun W' (hb : Below W1.heap.size W1 W') => HK1.out.ext hb)
                      go_wp2_with (first
                        | (go_at_call 21; refine (reopen_s W.heap.size _ HC5.out rfl ((H.out.ops.ext HB1.out).ext HC5.out.below) (by have := HC5.out.below.size; omega)).mono ?_; rintro e w6 ⟨sb', rfl, hC6, hk6⟩
                           obtain ⟨hO6, hR6⟩ := kp_kept (K := fun k => KL v9 L k ∨ k = nb) (fun g hg => .inl hg) hk6 HO5.out HR5.out
                           have HC6 := Lib.hid hC6; have HO6 := Lib.hid hO6; have HR6 := Lib.hid hR6; clear hC6 hk6 hO6 hR6)
                        | (go_at_call 43; refine (restart_s _ HCa.out).mono ?_; rintro e w5 ⟨rfl, hC5, hk5⟩
                           obtain ⟨hO5, hR5⟩ := kp_kept (K := fun k => KL v9 L k ∨ k = nb) (fun g hg => .inl hg) hk5 HOw.out HRo.out
                           have q0 : w5.cell? ⟨W.heap.size, 0, none⟩ = some (.int .i64 p.parts) := ((HKp.out _ hC5.below).cell 0).trans rfl
                           have q1 : w5.cell? ⟨W.heap.size, 1, none⟩ = some (.slice A p.ops.length c) := ((HKp.out _ hC5.below).cell 1).trans rfl
                           have ql := (HKp.out _ hC5.below).lt
                           have HC5 := Lib.hid hC5; have HO5 := Lib.hid hO5; have HR5 := Lib.hid hR5; clear hC5 hk5 hO5 hR5))
                      go_roundg (gk - 1)
                      case measure => omega
                      case rel => exact ⟨i + 1, sb', by omega, rfl, by go_num, rfl, Lib.hid ⟨_, _, L, HC6.out.less (fun g hg => .inl hg), HO6.out, HR6.out, by show d.life ≤ i + 1; omega, by omega⟩⟩
          · have h60I : ¬ (i : Int) < 60 := by omega
            go_wp2_with fail
            go_meet
            exact ⟨rfl, Lib.hid ⟨sb, kp_more (by omega) hG.out⟩⟩
        · have hiI : ¬ (i : Int) < (acts.length : Nat) := by omega
          go_wp2_with fail
          go_meet
          exact ⟨rfl, Lib.hid ⟨sb, kp_more (by omega) hG.out⟩⟩
    case rest =>
      obtain ⟨rfl, hG⟩ := hcut
      obtain ⟨sb, life, d, L, hC, hO, hRo, hdl, hLl⟩ := hG.out
      obtain ⟨wo, rfl⟩ : ∃ wo : World, wo = wc := ⟨_, rfl⟩
      obtain ⟨A9, c9, rfl, hc9⟩ := own_shape hO
      have HKp := Lib.hid (fun W' (hb : Below W1.heap.size W1 W') => HK1.out.ext hb)
      have HCa := Lib.hid hC
      have HOw := Lib.hid hO
      have HRo := Lib.hid hRo
      clear hC hO hRo hG
      go_upto_region 32 with (first
        | (go_at_call 28; refine (list_s HSo.out _ HC6.out).mono ?_; rintro e w7 ⟨A7, c7, l7, rfl, hp7, _, _, _, hb⟩
           have hl7 : l7.length = L.length := by have := hp7.length_eq; simpa using this
           rw [hl7]
           have HC7 := Lib.hid (HC6.out.ext hb); have HO7 := Lib.hid (own_ext HO6.out hb); have HR7 := Lib.hid (fun z (hz : z ∈ L) => own_ext (HR6.out z hz) hb)
           clear hp7 hb hl7)
        | (go_at_call 21; refine (reopen_s W.heap.size _ HC5.out rfl ((H.out.ops.ext HB1.out).ext HC5.out.below) (by have := HC5.out.below.size; omega)).mono ?_; rintro e w6 ⟨sb', rfl, hC6, hk6⟩
           obtain ⟨hO6, hR6⟩ := kp_kept (K := KL (.slice A9 L.length c9) L) (fun g hg => hg) hk6 HO5.out HR5.out
           have HC6 := Lib.hid hC6; have HO6 := Lib.hid hO6; have HR6 := Lib.hid hR6; clear hC6 hk6 hO6 hR6)
        | (go_at_call 43; refine (restart_s _ HCa.out).mono ?_; rintro e w5 ⟨rfl, hC5, hk5⟩
           obtain ⟨hO5, hR5⟩ := kp_kept (K := KL (.slice A9 L.length c9) L) (fun g hg => hg) hk5 HOw.out HRo.out
           have q0 : w5.cell? ⟨W.heap.size, 0, none⟩ = some (.int .i64 p.parts) := ((HKp.out _ hC5.below).cell 0).trans rfl
           have q1 : w5.cell? ⟨W.heap.size, 1, none⟩ = some (.slice A p.ops.length c) := ((HKp.out _ hC5.below).cell 1).trans rfl
           have ql := (HKp.out _ hC5.below).lt
           have HC5 := Lib.hid hC5; have HO5 := Lib.hid hO5; have HR5 := Lib.hid hR5; clear hC5 hk5 hO5 hR5))
      go_wp2_with fail
      go_loopg [4, 15, 16, 17] L.length (fun gk v4 v15 _ _ wr => ∃ j : Nat, j + gk = L.length ∧ v4 = .bool false ∧ v15 = .int .i64 (j : Nat) ∧ Hid (Below w7.heap.size w7 wr))
      case atStart => exact ⟨0, by omega, rfl, rfl, Lib.hid (Below.refl _ _)⟩
      case round =>
        obtain ⟨j, hjk, rfl, rfl, hB⟩ := hrel
        by_cases hj : j < L.length
        · have hjI : (j : Int) < (L.length : Nat) := by omega
          obtain ⟨z, hz⟩ : ∃ z, L[j]? = some z := ⟨_, List.getElem?_eq_getElem hj⟩
          have hzm := List.mem_of_getElem? hz
          have HCr := Lib.hid (HC7.out.ext hB.out)
          have HOr := Lib.hid (own_ext HO7.out hB.out)
          have HRr := Lib.hid (own_ext (HR7.out z hzm) hB.out)
          obtain ⟨ad, hA9, f0, f1, f2, f3⟩ := (Rd.of_own (B := 0) HOr.out).pzs hz hj
          have HG := Lib.hid (get_s (pzT z) wr HCr.out (List.mem_map_of_mem hzm) rfl rfl)
          have h64 : z.rows.length ≤ 64 := (HCr.out.ok.may (pzT z) (List.mem_map_of_mem hzm)).rows
          have HA9 := Lib.hid hA9
          have HZ := Lib.hid hz
          subst hA9
          clear hz hzm f3
          go_wp2_with (first
            | (go_at_call 36; refine (same_c 0 _ A8 z.A c8 z.cap z.rows z.rows (Rd.of_own HN8.out) (Rd.of_own HR8.out) (by omega)).mono ?_; rw [decide_eq_true rfl]; rintro e w9 ⟨rfl, hb9⟩; have HB9 := Lib.hid (ext_trans HB8.out hb9); clear hb9)
            | (go_at_call 35; refine HG.out.mono ?_; rintro e w8 ⟨A8, c8, rfl, hown8, hb8⟩
               have HN8 := Lib.hid (show w8.ownsRow wr.heap.size 74 2 (.slice A8 z.rows.length c8) z.rows.length (rwsC z.rows) from hown8)
               have HR8 := Lib.hid (own_ext HRr.out hb8)
               obtain ⟨ad', hA', _, _, _, g3⟩ := (Rd.of_own (B := 0) (own_ext HOr.out hb8)).pzs HZ.out hj
               obtain rfl := Option.some.inj hA'
               have g3' : w8.cell? ⟨(ad.add (j * 4)).block, (ad.add (j * 4)).off + 3, none⟩ = some (.slice z.A z.rows.length z.cap) := g3
               have HB8 := Lib.hid (ext_trans hB.out hb8)
               clear hown8 hb8 hA' g3))
          go_roundg (gk - 1)
          case measure => omega
          case rel => exact ⟨j + 1, by omega, rfl, by go_num, HB9⟩
        · have hjI : ¬ (j : Int) < (L.length : Nat) := by omega
          have HCr := Lib.hid (HC7.out.ext hB.out)
          go_wp2_with (first
            | (go_at_call 24; refine (told14_c _ (HCr.out.tv HTv.out)).mono ?_; rintro e w9 ⟨rfl, hb⟩; have HB9 := Lib.hid (ext_trans (ext_trans HB1.out HCr.out.below) hb); clear hb))
          go_ret
          exact ⟨rfl, HB9.out⟩
end Go.Proofs.YtipfoljmdeiggaaGreatDoor
