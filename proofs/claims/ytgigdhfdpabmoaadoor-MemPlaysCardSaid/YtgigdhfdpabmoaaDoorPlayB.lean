/- tributarylaw10.MemPlays, walked, given the sort. -/
import Derived.Test.YtgigdhfdpabmoaaDoorPlayA
namespace Go.Proofs.YtgigdhfdpabmoaaDoor
open Go.RowKit Go.Sort
attribute [local go_sem high] id_eqI

/-- What holds behind each act. -/
def St (W : World) (mb pb rb n mx : Nat) (wx : World) : Prop := ∃ ages ps l, Two W.heap.size wx mb pb rb n mx ages ps l ∧ Below W.heap.size W wx

set_option maxRecDepth 100000 in
set_option maxHeartbeats 16000000 in
theorem plays_c (hsort : SortC) (W : World) (mx : Nat) (hmx : mx ≤ 1048576) (Aa : Option Addr) (ca : Nat) (acts : List ActC) (hg : TypeVar W)
    (ha : Rd W W.heap.size 32 5 Aa acts.length (actsC acts)) (har : ∀ a ∈ acts, Rd W W.heap.size 58 2 a.A a.rows.length (rwsC a.rows)) (hap : ∀ a ∈ acts, a.rows.length ≤ a.cap) :
    Calls Tryd.prog 5 #[.int .i64 (mx : Int), .slice Aa acts.length ca] W (BoolPost W true) := by
  obtain ⟨T, hT1, hT2, hT3⟩ : ∃ T, T ≤ acts.length ∧ T ≤ 100 ∧ (T = acts.length ∨ T = 100) := ⟨Nat.min acts.length 100, Nat.min_le_left _ _, Nat.min_le_right _ _, by simp only [Nat.min_def]; split <;> simp⟩
  have HT := Lib.hid hT3
  have hg0 : 0 < W.heap.size := World.block_lt_of_cell? W _ hg
  have HA := Lib.hid ha
  have HR := Lib.hid har
  have HP := Lib.hid hap
  have HG := Lib.hid hg
  have HS := Lib.hid hsort
  have hm0 : ¬ (mx : Int) < 0 := by omega
  have hm1 : ¬ (1048576 : Int) < (mx : Int) := by omega
  clear ha har hap hg hT3 hsort
  go_enter Tryd.func5, Tryd.ntmps5
  go_upto_block 0 with (first
    | (go_at_call 6; refine (new_c W.heap.size _ (mx : Int) (Nat.le_refl _) (by omega) (by omega)).mono ?_; rintro e w1 ⟨mb, pb, A1, cap1, rfl, hM1, hb1, hmb⟩; have HB1 := Lib.hid hb1; have HM1 := Lib.hid hM1; have hs1 := hb1.size; clear hb1 hM1))
  obtain ⟨rb, hrb⟩ : ∃ rb, rb = w1.heap.size := ⟨_, rfl⟩
  have HT0 : Hid (Two W.heap.size (w1.alloc (.cells #[.int .i64 (mx : Int), .slice none 0 0] 55)) mb pb rb 0 mx [] [] []) :=
    Lib.hid ⟨⟨A1, cap1, HM1.out.alloc _⟩, ⟨none, 0, by omega, Bk.newAt hrb, World.ownsRow_nil _ _ _ _, (fun c hc => by cases hc)⟩, ⟨0, inv_nil mx⟩, Sim.nil⟩
  have HBW := Lib.hid (ext_alloc HB1.out (.cells #[.int .i64 (mx : Int), .slice none 0 0] 55))
  rw [← hrb]
  have HRB := Lib.hid hrb
  clear hrb
  go_cut [] (fun wx => ∃ n, n ≤ 100 ∧ St W mb pb rb n mx wx)
  case first =>
    go_wp2_with fail
    go_loopg [8] T (fun gk v8 wr => ∃ i, i + gk = T ∧ v8 = .int .i64 (i : Nat) ∧ St W mb pb rb i mx wr)
    case atStart => exact ⟨0, by simp, rfl, ⟨_, _, _, HT0.out, HBW.out⟩⟩
    case round =>
      obtain ⟨i, hik, rfl, ages, ps, l, hTw, hBw⟩ := hrel
      obtain ⟨wo, rfl⟩ : ∃ wo : World, wo = wr := ⟨_, rfl⟩
      obtain ⟨gq, rfl⟩ : ∃ gq : Nat, gq = gk := ⟨_, rfl⟩
      have HTw := Lib.hid hTw
      have HBw := Lib.hid hBw
      clear hTw hBw
      by_cases hi : i < acts.length
      · by_cases h60 : i < 100
        · have hiT : i < T := by have := HT.out; omega
          have hy : acts[i]? = some (acts[i]) := List.getElem?_eq_getElem hi
          generalize acts[i] = y at hy
          obtain ⟨ad, rfl, d0, d1, d2, d3, d4⟩ := (HA.out.ext HBw.out).acts hy hi
          have hym : y ∈ acts := List.mem_of_getElem? hy
          have HY := Lib.hid ((HR.out y hym).ext HBw.out)
          have hcy := HP.out y hym
          clear hy hym
          go_upto_block 2 with fail
          go_cut [] (fun wx => St W mb pb rb (i + 1) mx wx)
          case first =>
            obtain ⟨A1, cap1, hM⟩ := HTw.out.mem
            obtain ⟨A2, cap2, hR⟩ := HTw.out.ref
            obtain ⟨kk, hI⟩ := HTw.out.inv
            have HM := Lib.hid hM
            have HRf := Lib.hid hR
            have HI := Lib.hid hI
            have hus := hI.used
            have hal := hI.len
            have hll := HTw.out.len
            have HX := Lib.hid (Bk.new wo 32 #[.int .i64 y.kind, .int .i64 y.id.b, .int .i64 y.id.s, .int .i64 y.id.p, .slice y.A y.rows.length y.cap])
            have HB0 := Lib.hid (show Below wo.heap.size wo (wo.alloc (.cells #[.int .i64 y.kind, .int .i64 y.id.b, .int .i64 y.id.s, .int .i64 y.id.p, .slice y.A y.rows.length y.cap] 32)) from ext_alloc (Below.refl _ _) _)
            have hsW := HBw.out.size
            clear hM hR hI
            by_cases h0 : y.kind = 0
            ·
              as_aux_lemma =>
                have e0 : (y.kind == 0) = true := by simp [h0]
                clear h0
                obtain ⟨ls, hls⟩ : ∃ ls, ls = y.rows.take 64 := ⟨_, rfl⟩
                have HLS := Lib.hid hls
                have hls64 : ls.length ≤ 64 := by rw [hls, List.length_take]; omega
                clear hls
                go_upto_region 16 with fail
                go_cut [10] (fun v10 wx => ∃ A c, v10 = .slice A ls.length c ∧ wx.ownsRow wo.heap.size 58 2 (.slice A ls.length c) ls.length (rwsC ls) ∧ Below wo.heap.size wo wx ∧ Bk wx wo.heap.size 32 #[.int .i64 y.kind, .int .i64 y.id.b, .int .i64 y.id.s, .int .i64 y.id.p, .slice y.A y.rows.length y.cap])
                case first =>
                  by_cases h64 : y.rows.length ≤ 64
                  · have hsl : ((y.rows.length : Nat) : Int) ≤ (y.cap : Nat) := by omega
                    have hs0 : (0 : Int) ≤ ((y.rows.length : Nat) : Int) := by omega
                    have h64' : ¬ (64 : Int) < ((y.rows.length : Nat) : Int) := by omega
                    have HML := Lib.hid (show y.rows.length = ls.length by rw [HLS.out, List.length_take]; omega)
                    go_wp2_with (first
                      | (at_builtin; refine wpList_appR row_app _ rfl (.tmp 74) (.tmp 81) rfl wo.heap.size _ [] rfl (World.ownsRow_nil _ _ _ _) ls W.heap.size y.A y.rows.length y.cap rfl HML.out (by rw [HML.out, HLS.out]; exact (HY.out.takeR rfl 64).alloc _) (by simp; omega) (by simp) ?_; intro A10 c10 w10 hown10 hg10 hc10))
                    go_meet
                    have hb10 : Below (wo.alloc (.cells #[.int .i64 y.kind, .int .i64 y.id.b, .int .i64 y.id.s, .int .i64 y.id.p, .slice y.A y.rows.length y.cap] 32)).heap.size (wo.alloc (.cells #[.int .i64 y.kind, .int .i64 y.id.b, .int .i64 y.id.s, .int .i64 y.id.p, .slice y.A y.rows.length y.cap] 32)) w10 := (Below.refl _ _).grown hg10 (Nat.le_refl _) (fun k hk => by cases hk)
                    exact ⟨A10, c10, rfl, hown10, ext_trans HB0.out hb10, HX.out.ext hb10⟩
                  · have h64' : (64 : Int) < ((y.rows.length : Nat) : Int) := by omega
                    have hsl : (64 : Int) ≤ (y.cap : Nat) := by omega
                    have HML := Lib.hid (show 64 = ls.length by rw [HLS.out, List.length_take]; omega)
                    go_wp2_with (first
                      | (at_builtin; refine wpList_appR row_app _ rfl (.tmp 74) (.tmp 81) rfl wo.heap.size _ [] rfl (World.ownsRow_nil _ _ _ _) ls W.heap.size y.A 64 y.cap rfl HML.out (by rw [HML.out, HLS.out]; exact (HY.out.takeR rfl 64).alloc _) (by simp; omega) (by simp) ?_; intro A10 c10 w10 hown10 hg10 hc10))
                    go_meet
                    have hb10 : Below (wo.alloc (.cells #[.int .i64 y.kind, .int .i64 y.id.b, .int .i64 y.id.s, .int .i64 y.id.p, .slice y.A y.rows.length y.cap] 32)).heap.size (wo.alloc (.cells #[.int .i64 y.kind, .int .i64 y.id.b, .int .i64 y.id.s, .int .i64 y.id.p, .slice y.A y.rows.length y.cap] 32)) w10 := (Below.refl _ _).grown hg10 (Nat.le_refl _) (fun k hk => by cases hk)
                    exact ⟨A10, c10, rfl, hown10, ext_trans HB0.out hb10, HX.out.ext hb10⟩
                case rest =>
                  clear d0 d1 d2 d3 d4 hcy
                  obtain ⟨A4, c4, rfl, hown10, hb10, hx10⟩ := hcut
                  have HO10 := Lib.hid hown10
                  have HB10 := Lib.hid hb10
                  have HX10 := Lib.hid hx10
                  have x10 := hx10.cell
                  have HM10 := Lib.hid (HM.out.ext hb10)
                  have HR10 := Lib.hid (HRf.out.ext hb10)
                  have HOF := Lib.hid (HTw.out.offFresh hown10 (Nat.le_refl _))
                  have HLR := Lib.hid (Rd.of_own (B := W.heap.size) hown10)
                  have hs10 := hb10.size
                  clear hown10 hb10 hx10
                  rcases rix_cases l y.id with ⟨hrx, hmiss⟩ | ⟨j, yc, hrx, hyc, hid, -⟩
                  · have HPG := Lib.hid (HTw.out.miss hmiss)
                    have hmiss' := hmiss
                    have HRX := Lib.hid hrx
                    clear hrx hmiss
                    have HMS := Lib.hid hmiss'
                    clear hmiss'
                    by_cases hno : mx < szR ls + pinnedR l
                    · have HNO := Lib.hid hno
                      clear hno
                      go_upto_block 3 with (first
                        | (go_at_call 9; refine (put_newF W.heap.size _ mb pb A1 cap1 mx ages ps y.id HM10.out (by rw [HPG.out]; rfl) A4 c4 ls HLR.out (by omega) hus hmx (by omega) (fun y hy => (HI.out.mem y).1 hy) HI.out.nd).mono ?_; rintro e w2 ⟨hn, -⟩; obtain ⟨v2, rfl, ⟨fb, rfl, hfb⟩, hb2⟩ := hn (by have := HTw.out.pinned; have := HNO.out; omega); have HE2 := Lib.hid hfb; have HB2 := Lib.hid hb2; have HX2 := Lib.hid (HX10.out.ext hb2); have x2 := HX2.out.cell; clear hn hfb hb2)
                        | (go_at_call 21; refine (rput_new W.heap.size _ rb A2 cap2 mx l y.id (HR10.out.ext HB2.out) (by omega) HRX.out A4 c4 ls (HLR.out.ext HB2.out) (by omega) (by rw [← HTw.out.used]; exact hus) hmx).mono ?_; rintro e w3 ⟨hn, -⟩; obtain ⟨rfl, hb3⟩ := hn HNO.out; have HB3 := Lib.hid (ext_trans HB2.out hb3); have HE3 := Lib.hid (HE2.out.ext hb3); clear hn hb3)
                        | (go_at_call 15; refine (code_c 1 _ 100 _ ⟨fb, _, _, _, rfl, HE3.out, rfl⟩ (TypeVar.chg HG.out hg0 (Chg.of_below (mu := muM) (HBw.out.trans ((HB10.out.mono hsW).trans (HB3.out.mono (Nat.le_trans hsW hs10))))))).mono ?_; rintro e w5 ⟨rfl, hb5⟩; have HB5 := Lib.hid (ext_trans HB3.out hb5); have HE5 := Lib.hid (HE3.out.ext hb5); clear hb5)
                        | (go_at_call 22; refine (lat_c _ _ _ 100 ⟨fb, rfl, HE5.out⟩).mono ?_; rw [show ((szR ls : Nat) : Int) = 8 + 16 * (ls.length : Int) by show ((8 + 16 * ls.length : Nat) : Int) = _; omega]; rintro e w4 ⟨rfl, hb6⟩; have HB6 := Lib.hid (ext_trans HB5.out hb6); clear hb6)
                        | (go_at_call 23; refine (rsize_c _ _ _ _ (by omega)).mono ?_; rintro e w' ⟨rfl, rfl⟩))
                      have hOw := own_ext HO10.out HB6.out
                      have HF4 := HOF
                      have HT4 := Lib.hid ((HTw.out.ext (ext_trans HB10.out HB6.out)).upto (Nat.le_succ i))
                      have HO4 := Lib.hid (own_mono hOw hsW)
                      have HB4 := Lib.hid (HBw.out.trans ((HB10.out.mono hsW).trans (HB6.out.mono (Nat.le_trans hsW hs10))))
                      clear hOw
                      go_wp2_with fail
                      go_loopg [13] (ls.length) (fun gk v13 wr => ∃ k xs, k + gk = ls.length ∧ v13 = .int .i64 (k : Nat) ∧ wr.ownsRow W.heap.size 58 2 (.slice A4 (ls.length) c4) (ls.length) xs ∧ w4.grownBy wr (Value.slice A4 (ls.length) c4).ownBlock)
                      case atStart => exact ⟨0, _, by simp, rfl, HO4.out, World.grownBy.refl _ _⟩
                      case round =>
                        obtain ⟨k, xs, hkn, rfl, hown, hgr⟩ := hrel
                        have HOk := Lib.hid hown
                        have HGk := Lib.hid hgr
                        by_cases hk : k < ls.length
                        · obtain ⟨g, hAl, hgb, hncl⟩ := own_some hown (by omega)
                          obtain ⟨ad, had⟩ : ∃ ad : Addr, ad = ⟨g, 0, none⟩ := ⟨_, rfl⟩
                          rw [← had] at hAl
                          subst hAl
                          have hxl := hown.1
                          rw [had] at hown
                          have d0 : wr.cell? (ad.add (k * 2)) = some (xs[k * 2]) := by rw [adr_eq20 had, hown.cellAt (k * 2 + 0) (by omega)]; exact List.getElem?_eq_getElem (by omega)
                          have d1 : wr.cell? ⟨(ad.add (k * 2)).block, (ad.add (k * 2)).off + 1, none⟩ = some (xs[k * 2 + 1]) := by rw [adr_eq2 had, hown.cellAt (k * 2 + 1) (by omega)]; exact List.getElem?_eq_getElem (by omega)
                          have f0 : wr.frozen? (ad.add (k * 2)) = false := by rw [adr_eq20 had]; exact own_frozen hown _
                          have f1 : wr.frozen? ⟨(ad.add (k * 2)).block, (ad.add (k * 2)).off + 1, none⟩ = false := by rw [adr_eq2 had]; exact own_frozen hown _
                          have q1 : ∀ u, (wr.setCell (ad.add (k * 2)) u).cell? ⟨(ad.add (k * 2)).block, (ad.add (k * 2)).off + 1, none⟩ = some (xs[k * 2 + 1]) := fun u => by
                            rw [World.cell?_setCell_other _ _ _ _ (by rw [adr_eq2 had, adr_eq20 had]; simp)]; exact d1
                          generalize xs[k * 2] = u0 at d0
                          generalize xs[k * 2 + 1] = u1 at d1 q1
                          have HAD := Lib.hid had
                          clear hown hgr had hxl
                          go_wp2_with fail
                          go_roundg (gk - 1)
                          case measure => omega
                          case rel =>
                            rw [adr_eq2 HAD.out, adr_eq20 HAD.out, HAD.out]
                            have h0 := HOk.out
                            rw [HAD.out] at h0
                            have h1 := HGk.out
                            rw [HAD.out] at h1
                            refine ⟨k + 1, _, by omega, by go_num, own_set (own_set h0 _ _) _ _, ?_⟩
                            exact (h1.trans (grownBy_set _ g _ _)).trans (grownBy_set _ g _ _)
                        · go_wp2_with fail
                          go_meet
                          exact ⟨_, _, _, HT4.out.wrote HO4.out (Nat.le_refl _) HF4.out HGk.out, below_grownOwn HB4.out HO4.out (Nat.le_refl _) HGk.out⟩
                    · have HNO := Lib.hid hno
                      clear hno
                      go_upto_block 3 with (first
                        | (go_at_call 9; refine (put_newF W.heap.size _ mb pb A1 cap1 mx ages ps y.id HM10.out (by rw [HPG.out]; rfl) A4 c4 ls HLR.out (by omega) hus hmx (by omega) (fun y hy => (HI.out.mem y).1 hy) HI.out.nd).mono ?_; rintro e w2 ⟨-, hy⟩; obtain ⟨rfl, ⟨A3, cap3, q, hq1, hq2, hq3, hqo, hM3⟩, hC3⟩ := hy (by have := HTw.out.pinned; have := HNO.out; omega); have HC2 := Lib.hid hC3; have HM3 := Lib.hid hM3; have HX2 := Lib.hid (HX10.out.chg hC3 (.inr rfl)); have x2 := HX2.out.cell; have HQ1 := Lib.hid hq1; have HQ2 := Lib.hid hq2; have HQ3 := Lib.hid hq3; have HQO := Lib.hid hqo; clear hy hM3 hC3 hq1 hq2 hq3 hqo)
                        | (go_at_call 21; refine (rput_new W.heap.size _ rb A2 cap2 mx l y.id (HR10.out.chg HC2.out) (by omega) HRX.out A4 c4 ls (HLR.out.chg HC2.out (fun _ _ => rfl)) (by omega) (by rw [← HTw.out.used]; exact hus) hmx).mono ?_; rintro e w4 ⟨-, hy⟩; obtain ⟨rfl, ⟨r, cc, A5, cap5, hr, hc1, hc2, hc3, hco, hR5⟩, hC4⟩ := hy (by have := HNO.out; omega); have HC3 := Lib.hid hC4; have HR5 := Lib.hid hR5; have HM5 := Lib.hid (HM3.out.chgR hC4); have HV := Lib.hid hr; have HC1' := Lib.hid hc1; have HC2' := Lib.hid hc2; have HC3' := Lib.hid hc3; have HCO := Lib.hid hco; clear hy hR5 hC4 hr hc1 hc2 hc3 hco))
                      have hT := HTw.out.putS (x := y.id) HMS.out hls64 (by have := HNO.out; omega) HV.out HQ1.out HQ2.out HQ3.out HC1'.out HC2'.out HC3'.out HM5.out HR5.out
                      have hO2 := own_chg HO10.out HC2.out (fun _ _ => rfl)
                      have hOw := own_chg hO2 HC3.out (fun _ _ => rfl)
                      have HF4 := Lib.hid ((HOF.out.step (ps' := (evict mx (szR ls) ages ages ps).2 ++ [q]) (l' := l) HO10.out (fun p hp => by
                          rcases List.mem_append.1 hp with h | h
                          · exact .inl (evict_sub _ _ _ _ _ p h)
                          · rw [List.mem_singleton] at h; rw [h]; exact .inr HQO.out) (fun c hc => .inl hc)).step (ps' := (evict mx (szR ls) ages ages ps).2 ++ [q]) (l' := r ++ [cc]) hO2 (fun p hp => .inl hp) (fun c hc => by
                          rcases List.mem_append.1 hc with h | h
                          · exact .inl (HV.out.sub.mem h)
                          · rw [List.mem_singleton] at h; rw [h]; exact .inr HCO.out))
                      have HT4 := Lib.hid hT
                      have HO4 := Lib.hid (own_mono hOw hsW)
                      have HB4 := Lib.hid (HBw.out.trans (((HB10.out.mono hsW).trans (HC2.out.below (Nat.le_trans hsW hs10))).trans (HC3.out.below (Nat.le_trans hsW (Nat.le_trans hs10 HC2.out.size)))))
                      clear hT hOw hO2
                      go_wp2_with fail
                      go_loopg [13] (ls.length) (fun gk v13 wr => ∃ k xs, k + gk = ls.length ∧ v13 = .int .i64 (k : Nat) ∧ wr.ownsRow W.heap.size 58 2 (.slice A4 (ls.length) c4) (ls.length) xs ∧ w4.grownBy wr (Value.slice A4 (ls.length) c4).ownBlock)
                      case atStart => exact ⟨0, _, by simp, rfl, HO4.out, World.grownBy.refl _ _⟩
                      case round =>
                        obtain ⟨k, xs, hkn, rfl, hown, hgr⟩ := hrel
                        have HOk := Lib.hid hown
                        have HGk := Lib.hid hgr
                        by_cases hk : k < ls.length
                        · obtain ⟨g, hAl, hgb, hncl⟩ := own_some hown (by omega)
                          obtain ⟨ad, had⟩ : ∃ ad : Addr, ad = ⟨g, 0, none⟩ := ⟨_, rfl⟩
                          rw [← had] at hAl
                          subst hAl
                          have hxl := hown.1
                          rw [had] at hown
                          have d0 : wr.cell? (ad.add (k * 2)) = some (xs[k * 2]) := by rw [adr_eq20 had, hown.cellAt (k * 2 + 0) (by omega)]; exact List.getElem?_eq_getElem (by omega)
                          have d1 : wr.cell? ⟨(ad.add (k * 2)).block, (ad.add (k * 2)).off + 1, none⟩ = some (xs[k * 2 + 1]) := by rw [adr_eq2 had, hown.cellAt (k * 2 + 1) (by omega)]; exact List.getElem?_eq_getElem (by omega)
                          have f0 : wr.frozen? (ad.add (k * 2)) = false := by rw [adr_eq20 had]; exact own_frozen hown _
                          have f1 : wr.frozen? ⟨(ad.add (k * 2)).block, (ad.add (k * 2)).off + 1, none⟩ = false := by rw [adr_eq2 had]; exact own_frozen hown _
                          have q1 : ∀ u, (wr.setCell (ad.add (k * 2)) u).cell? ⟨(ad.add (k * 2)).block, (ad.add (k * 2)).off + 1, none⟩ = some (xs[k * 2 + 1]) := fun u => by
                            rw [World.cell?_setCell_other _ _ _ _ (by rw [adr_eq2 had, adr_eq20 had]; simp)]; exact d1
                          generalize xs[k * 2] = u0 at d0
                          generalize xs[k * 2 + 1] = u1 at d1 q1
                          have HAD := Lib.hid had
                          clear hown hgr had hxl
                          go_wp2_with fail
                          go_roundg (gk - 1)
                          case measure => omega
                          case rel =>
                            rw [adr_eq2 HAD.out, adr_eq20 HAD.out, HAD.out]
                            have h0 := HOk.out
                            rw [HAD.out] at h0
                            have h1 := HGk.out
                            rw [HAD.out] at h1
                            refine ⟨k + 1, _, by omega, by go_num, own_set (own_set h0 _ _) _ _, ?_⟩
                            exact (h1.trans (grownBy_set _ g _ _)).trans (grownBy_set _ g _ _)
                        · go_wp2_with fail
                          go_meet
                          exact ⟨_, _, _, HT4.out.wrote HO4.out (Nat.le_refl _) HF4.out HGk.out, below_grownOwn HB4.out HO4.out (Nat.le_refl _) HGk.out⟩

                  · obtain ⟨p, hpg, hpr, hpp, hp64, hppn⟩ := HTw.out.hit hyc hid
                    have HPG := Lib.hid hpg
                    have HPR := Lib.hid hpr
                    have HPP := Lib.hid hpp
                    have HYC := Lib.hid hyc
                    have HID := Lib.hid hid
                    have HRX := Lib.hid hrx
                    have hj : j < l.length := (List.getElem?_eq_some_iff.1 hyc).1
                    have hypn : yc.pins ≤ 1000000 := by rw [← hpp]; omega
                    clear hpg hpr hpp hyc hid hrx
                    go_upto_block 3 with (first
                      | (go_at_call 9; refine (put_held W.heap.size _ mb pb A1 cap1 mx ages ps y.id HM10.out (by omega) (by rw [HPG.out]; rfl) A4 ls.length c4).mono ?_; rintro e w2 ⟨rfl, ⟨A3, cap3, hM3⟩, hC3⟩; have HC2 := Lib.hid hC3; have HM3 := Lib.hid hM3; have HX2 := Lib.hid (HX10.out.chg hC3 (.inr rfl)); have x2 := HX2.out.cell; clear hM3 hC3)
                      | (go_at_call 21; refine (rput_held W.heap.size _ rb A2 cap2 mx l y.id j yc (HR10.out.chg HC2.out) (by omega) HRX.out HYC.out A4 ls.length c4).mono ?_; rintro e w4 ⟨rfl, ⟨A5, cap5, hR5⟩, hC4⟩; have HC3 := Lib.hid hC4; have HR5 := Lib.hid hR5; have HM5 := Lib.hid (HM3.out.chgS hC4); clear hR5 hC4))
                    obtain ⟨a, q, m, hT, hq, hm⟩ := HTw.out.rotX (x := y.id) HYC.out HID.out HM5.out HR5.out
                    have hOw := own_chg (own_chg HO10.out HC2.out (fun _ _ => rfl)) HC3.out (fun _ _ => rfl)
                    have HF4 := Lib.hid (HOF.out.step (ps' := q) (l' := m) hOw (fun p hp => .inl (hq ▸ hp)) (fun c hc => .inl (by
                      rw [hm] at hc
                      rcases List.mem_append.1 hc with h | h
                      · exact (cut_sub l j).mem h
                      · rw [List.mem_singleton] at h; rw [h]; exact List.mem_of_getElem? HYC.out)))
                    have HT4 := Lib.hid hT
                    have HO4 := Lib.hid (own_mono hOw hsW)
                    have HB4 := Lib.hid (HBw.out.trans (((HB10.out.mono hsW).trans (HC2.out.below (Nat.le_trans hsW hs10))).trans (HC3.out.below (Nat.le_trans hsW (Nat.le_trans hs10 HC2.out.size)))))
                    clear hT hq hm hOw
                    go_wp2_with fail
                    go_loopg [13] (ls.length) (fun gk v13 wr => ∃ k xs, k + gk = ls.length ∧ v13 = .int .i64 (k : Nat) ∧ wr.ownsRow W.heap.size 58 2 (.slice A4 (ls.length) c4) (ls.length) xs ∧ w4.grownBy wr (Value.slice A4 (ls.length) c4).ownBlock)
                    case atStart => exact ⟨0, _, by simp, rfl, HO4.out, World.grownBy.refl _ _⟩
                    case round =>
                      obtain ⟨k, xs, hkn, rfl, hown, hgr⟩ := hrel
                      have HOk := Lib.hid hown
                      have HGk := Lib.hid hgr
                      by_cases hk : k < ls.length
                      · obtain ⟨g, hAl, hgb, hncl⟩ := own_some hown (by omega)
                        obtain ⟨ad, had⟩ : ∃ ad : Addr, ad = ⟨g, 0, none⟩ := ⟨_, rfl⟩
                        rw [← had] at hAl
                        subst hAl
                        have hxl := hown.1
                        rw [had] at hown
                        have d0 : wr.cell? (ad.add (k * 2)) = some (xs[k * 2]) := by rw [adr_eq20 had, hown.cellAt (k * 2 + 0) (by omega)]; exact List.getElem?_eq_getElem (by omega)
                        have d1 : wr.cell? ⟨(ad.add (k * 2)).block, (ad.add (k * 2)).off + 1, none⟩ = some (xs[k * 2 + 1]) := by rw [adr_eq2 had, hown.cellAt (k * 2 + 1) (by omega)]; exact List.getElem?_eq_getElem (by omega)
                        have f0 : wr.frozen? (ad.add (k * 2)) = false := by rw [adr_eq20 had]; exact own_frozen hown _
                        have f1 : wr.frozen? ⟨(ad.add (k * 2)).block, (ad.add (k * 2)).off + 1, none⟩ = false := by rw [adr_eq2 had]; exact own_frozen hown _
                        have q1 : ∀ u, (wr.setCell (ad.add (k * 2)) u).cell? ⟨(ad.add (k * 2)).block, (ad.add (k * 2)).off + 1, none⟩ = some (xs[k * 2 + 1]) := fun u => by
                          rw [World.cell?_setCell_other _ _ _ _ (by rw [adr_eq2 had, adr_eq20 had]; simp)]; exact d1
                        generalize xs[k * 2] = u0 at d0
                        generalize xs[k * 2 + 1] = u1 at d1 q1
                        have HAD := Lib.hid had
                        clear hown hgr had hxl
                        go_wp2_with fail
                        go_roundg (gk - 1)
                        case measure => omega
                        case rel =>
                          rw [adr_eq2 HAD.out, adr_eq20 HAD.out, HAD.out]
                          have h0 := HOk.out
                          rw [HAD.out] at h0
                          have h1 := HGk.out
                          rw [HAD.out] at h1
                          refine ⟨k + 1, _, by omega, by go_num, own_set (own_set h0 _ _) _ _, ?_⟩
                          exact (h1.trans (grownBy_set _ g _ _)).trans (grownBy_set _ g _ _)
                      · go_wp2_with fail
                        go_meet
                        exact ⟨_, _, _, HT4.out.wrote HO4.out (Nat.le_refl _) HF4.out HGk.out, below_grownOwn HB4.out HO4.out (Nat.le_refl _) HGk.out⟩
            · have e0 : (y.kind == 0) = false := by simp [h0]
              by_cases h1 : y.kind = 1
              ·
                as_aux_lemma =>
                  have e1 : (y.kind == 1) = true := by simp [h1]
                  clear h0 h1
                  rcases rix_cases l y.id with ⟨hrx, hmiss⟩ | ⟨j, yc, hrx, hyc, hid, -⟩
                  · have HPG := Lib.hid (HTw.out.miss hmiss)
                    have HRX := Lib.hid hrx
                    clear hrx hmiss
                    go_upto_block 5 with (first
                      | (go_at_call 7; refine (get_miss W.heap.size _ mb pb A1 cap1 mx ages ps y.id (HM.out.alloc _) HPG.out).mono ?_; rintro e w2 ⟨rfl, hb2⟩; have HB2 := Lib.hid (ext_trans HB0.out hb2); have HX2 := Lib.hid (HX.out.ext hb2); have x2 := HX2.out.cell; clear hb2)
                      | (go_at_call 24; refine (rget_miss W.heap.size _ rb A2 cap2 mx l y.id (HRf.out.ext HB2.out) (by omega) HRX.out).mono ?_; rintro e w3 ⟨rfl, hb3⟩; have HB3 := Lib.hid (ext_trans HB2.out hb3); clear hb3)
                      | (go_at_call 20; refine (same_c W.heap.size _ none none 0 0 [] [] Rd.none_ Rd.none_ (by simp)).mono ?_; rw [show decide (([] : List Rw) = []) = true by simp]; rintro e w4 ⟨rfl, hb4⟩; have HB4 := Lib.hid (ext_trans HB3.out hb4); clear hb4))
                    go_wp2_with fail
                    go_loopg [18] 0 (fun gk v18 wr => v18 = .int .i64 (0 : Nat) ∧ wr = w4)
                    case atStart => exact ⟨rfl, rfl⟩
                    case round =>
                      obtain ⟨rfl, rfl⟩ := hrel
                      go_wp2_with fail
                      go_meet
                      exact ⟨_, _, _, (HTw.out.ext HB4.out).upto (Nat.le_succ _), HBw.out.trans (HB4.out.mono hsW)⟩

                  · obtain ⟨p, hpg, hpr, hpp, hp64, hppn⟩ := HTw.out.hit hyc hid
                    have HPG := Lib.hid hpg
                    have HPR := Lib.hid hpr
                    have HPP := Lib.hid hpp
                    have HYC := Lib.hid hyc
                    have HID := Lib.hid hid
                    have HRX := Lib.hid hrx
                    have hj : j < l.length := (List.getElem?_eq_some_iff.1 hyc).1
                    have hypn : yc.pins ≤ 1000000 := by rw [← hpp]; omega
                    clear hpg hpr hpp hyc hid hrx
                    go_upto_block 5 with (first
                      | (go_at_call 7; refine (get_hit W.heap.size _ mb pb A1 cap1 mx ages ps y.id (HM.out.alloc _) (by omega) p HPG.out (by omega)).mono ?_; rintro e w2 ⟨A4, c4, rfl, ⟨A3, cap3, hM3⟩, hown2, hc2, hC3⟩; have HC2 := Lib.hid (show Chg muM W.heap.size wo w2 from ((Chg.refl _ _ _).alloc _).trans hC3); have HM3 := Lib.hid hM3; have HX2 := Lib.hid (HX.out.chg hC3 (.inr rfl)); have x2 := HX2.out.cell; have HO2 := Lib.hid (show w2.ownsRow wo.heap.size 58 2 (.slice A4 p.rows.length c4) p.rows.length (rwsC p.rows) from own_mono hown2 (by simp)); clear hM3 hC3 hown2)
                      | (go_at_call 24; refine (rget_hit W.heap.size _ rb A2 cap2 mx l y.id j yc (HRf.out.chg HC2.out) (by omega) HRX.out HYC.out).mono ?_; rintro e w3 ⟨rfl, ⟨A5, cap5, hR5⟩, hC4⟩; have HC3 := Lib.hid hC4; have HR5 := Lib.hid hR5; have HM5 := Lib.hid (HM3.out.chgS hC4); have HO3 := Lib.hid (own_chg HO2.out hC4 (fun _ _ => rfl)); clear hR5 hC4)
                      | (go_at_call 20; refine (same_c W.heap.size _ A4 yc.A c4 yc.cap p.rows yc.rows (Rd.of_own HO3.out) (HR5.out.rows yc (by simp)) (by omega)).mono ?_; rw [show decide (p.rows = yc.rows) = true by simp [HPR.out]]; rintro e w4 ⟨rfl, hb4⟩; have HB4' := Lib.hid hb4; clear hb4))
                    obtain ⟨a, q, m, hT, hq, hm⟩ := HTw.out.rotX (x := y.id) HYC.out HID.out (HM5.out.ext HB4'.out) (HR5.out.ext HB4'.out)
                    have hOw := own_ext HO3.out HB4'.out
                    have HF4 := Lib.hid ((HTw.out.offFresh hOw (Nat.le_refl _)).step (ps' := q) (l' := m) hOw (fun p hp => .inl (hq ▸ hp)) (fun c hc => .inl (by
                      rw [hm] at hc
                      rcases List.mem_append.1 hc with h | h
                      · exact (cut_sub l j).mem h
                      · rw [List.mem_singleton] at h; rw [h]; exact List.mem_of_getElem? HYC.out)))
                    have HT4 := Lib.hid hT
                    have HO4 := Lib.hid (own_mono hOw hsW)
                    have HB4 := Lib.hid (HBw.out.trans (((HC2.out.below hsW).trans (HC3.out.below (Nat.le_trans hsW HC2.out.size))).trans (HB4'.out.mono (Nat.le_trans hsW (Nat.le_trans HC2.out.size HC3.out.size)))))
                    clear hT hq hm hOw
                    go_wp2_with fail
                    go_loopg [18] (p.rows.length) (fun gk v13 wr => ∃ k xs, k + gk = p.rows.length ∧ v13 = .int .i64 (k : Nat) ∧ wr.ownsRow W.heap.size 58 2 (.slice A4 (p.rows.length) c4) (p.rows.length) xs ∧ w4.grownBy wr (Value.slice A4 (p.rows.length) c4).ownBlock)
                    case atStart => exact ⟨0, _, by simp, rfl, HO4.out, World.grownBy.refl _ _⟩
                    case round =>
                      obtain ⟨k, xs, hkn, rfl, hown, hgr⟩ := hrel
                      have HOk := Lib.hid hown
                      have HGk := Lib.hid hgr
                      by_cases hk : k < p.rows.length
                      · obtain ⟨g, hAl, hgb, hncl⟩ := own_some hown (by omega)
                        obtain ⟨ad, had⟩ : ∃ ad : Addr, ad = ⟨g, 0, none⟩ := ⟨_, rfl⟩
                        rw [← had] at hAl
                        subst hAl
                        have hxl := hown.1
                        rw [had] at hown
                        have d0 : wr.cell? (ad.add (k * 2)) = some (xs[k * 2]) := by rw [adr_eq20 had, hown.cellAt (k * 2 + 0) (by omega)]; exact List.getElem?_eq_getElem (by omega)
                        have d1 : wr.cell? ⟨(ad.add (k * 2)).block, (ad.add (k * 2)).off + 1, none⟩ = some (xs[k * 2 + 1]) := by rw [adr_eq2 had, hown.cellAt (k * 2 + 1) (by omega)]; exact List.getElem?_eq_getElem (by omega)
                        have f0 : wr.frozen? (ad.add (k * 2)) = false := by rw [adr_eq20 had]; exact own_frozen hown _
                        have f1 : wr.frozen? ⟨(ad.add (k * 2)).block, (ad.add (k * 2)).off + 1, none⟩ = false := by rw [adr_eq2 had]; exact own_frozen hown _
                        have q1 : ∀ u, (wr.setCell (ad.add (k * 2)) u).cell? ⟨(ad.add (k * 2)).block, (ad.add (k * 2)).off + 1, none⟩ = some (xs[k * 2 + 1]) := fun u => by
                          rw [World.cell?_setCell_other _ _ _ _ (by rw [adr_eq2 had, adr_eq20 had]; simp)]; exact d1
                        generalize xs[k * 2] = u0 at d0
                        generalize xs[k * 2 + 1] = u1 at d1 q1
                        have HAD := Lib.hid had
                        clear hown hgr had hxl
                        go_wp2_with fail
                        go_roundg (gk - 1)
                        case measure => omega
                        case rel =>
                          rw [adr_eq2 HAD.out, adr_eq20 HAD.out, HAD.out]
                          have h0 := HOk.out
                          rw [HAD.out] at h0
                          have h1 := HGk.out
                          rw [HAD.out] at h1
                          refine ⟨k + 1, _, by omega, by go_num, own_set (own_set h0 _ _) _ _, ?_⟩
                          exact (h1.trans (grownBy_set _ g _ _)).trans (grownBy_set _ g _ _)
                      · go_wp2_with fail
                        go_meet
                        exact ⟨_, _, _, HT4.out.wrote HO4.out (Nat.le_refl _) HF4.out HGk.out, below_grownOwn HB4.out HO4.out (Nat.le_refl _) HGk.out⟩
              · have e1 : (y.kind == 1) = false := by simp [h1]
                by_cases h2 : y.kind = 2
                ·
                  as_aux_lemma =>
                    have e2 : (y.kind == 2) = true := by simp [h2]
                    clear h0 h1 h2
                    rcases rix_cases l y.id with ⟨hrx, hmiss⟩ | ⟨j, yc, hrx, hyc, hid, -⟩
                    · have HPG := Lib.hid (HTw.out.miss hmiss)
                      have HRX := Lib.hid hrx
                      clear hrx hmiss
                      go_wp2_with fail
                      go_region_held3 (fun w' => w'.cell? ⟨wo.heap.size, 1, none⟩ = some (.int .i64 y.id.b) ∧ w'.cell? ⟨wo.heap.size, 2, none⟩ = some (.int .i64 y.id.s) ∧ w'.cell? ⟨wo.heap.size, 3, none⟩ = some (.int .i64 y.id.p)) (first | go_keep)
                        (first
                          | (go_at_call 11; refine (has_c W.heap.size _ mb pb A1 cap1 mx ages ps y.id ((HM.out.alloc _).drew)).mono ?_; rw [HPG.out]; rintro e w2 ⟨rfl, hb2⟩; have HB2 := Lib.hid (show Below wo.heap.size wo w2 from ext_trans HB0.out.drew hb2); have HX2 := Lib.hid (HX.out.drew.ext hb2); have x2 := HX2.out.cell; clear hb2)
                          | (go_at_call 25; refine (rhas_c W.heap.size _ rb A2 cap2 mx l y.id (HRf.out.ext HB2.out) (by omega)).mono ?_; rw [show decide (0 ≤ rix l y.id) = false by rw [HRX.out]; rfl]; rintro e w3 ⟨rfl, hb3⟩; have HB3 := Lib.hid (ext_trans HB2.out hb3); have HX3 := Lib.hid (HX2.out.ext hb3); have x3 := HX3.out.cell; clear hb3))
                      go_wp2_with fail
                      go_meet
                      exact ⟨_, _, _, (HTw.out.ext HB3.out).upto (Nat.le_succ _), HBw.out.trans (HB3.out.mono hsW)⟩

                    · obtain ⟨p, hpg, hpr, hpp, hp64, hppn⟩ := HTw.out.hit hyc hid
                      have HPG := Lib.hid hpg
                      have HPR := Lib.hid hpr
                      have HPP := Lib.hid hpp
                      have HYC := Lib.hid hyc
                      have HID := Lib.hid hid
                      have HRX := Lib.hid hrx
                      have hj : j < l.length := (List.getElem?_eq_some_iff.1 hyc).1
                      have hypn : yc.pins ≤ 1000000 := by rw [← hpp]; omega
                      clear hpg hpr hpp hyc hid hrx
                      go_wp2_with fail
                      go_region_held3 (fun w' => w'.cell? ⟨wo.heap.size, 1, none⟩ = some (.int .i64 y.id.b) ∧ w'.cell? ⟨wo.heap.size, 2, none⟩ = some (.int .i64 y.id.s) ∧ w'.cell? ⟨wo.heap.size, 3, none⟩ = some (.int .i64 y.id.p)) (first | go_keep)
                        (first
                          | (go_at_call 11; refine (has_c W.heap.size _ mb pb A1 cap1 mx ages ps y.id ((HM.out.alloc _).drew)).mono ?_; rw [HPG.out]; simp only [Option.isSome_some]; rintro e w2 ⟨rfl, hb2⟩; have HB2 := Lib.hid (show Below wo.heap.size wo w2 from ext_trans HB0.out.drew hb2); have HX2 := Lib.hid (HX.out.drew.ext hb2); have x2 := HX2.out.cell; clear hb2)
                          | (go_at_call 25; refine (rhas_c W.heap.size _ rb A2 cap2 mx l y.id (HRf.out.ext HB2.out) (by omega)).mono ?_; rw [show decide (0 ≤ rix l y.id) = true by rw [HRX.out]; simp]; rintro e w3 ⟨rfl, hb3⟩; have HB3 := Lib.hid (ext_trans HB2.out hb3); have HX3 := Lib.hid (HX2.out.ext hb3); have x3 := HX3.out.cell; clear hb3))
                      go_wp2_with fail
                      go_meet
                      exact ⟨_, _, _, (HTw.out.ext HB3.out).upto (Nat.le_succ _), HBw.out.trans (HB3.out.mono hsW)⟩
                · have e2 : (y.kind == 2) = false := by simp [h2]
                  by_cases h3 : y.kind = 3
                  ·
                    as_aux_lemma =>
                      have e3 : (y.kind == 3) = true := by simp [h3]
                      clear h0 h1 h2 h3
                      rcases rix_cases l y.id with ⟨hrx, hmiss⟩ | ⟨j, yc, hrx, hyc, hid, -⟩
                      · have HPG := Lib.hid (HTw.out.miss hmiss)
                        have HRX := Lib.hid hrx
                        clear hrx hmiss
                        go_wp2_with fail
                        go_region_held3 (fun w' => w'.cell? ⟨wo.heap.size, 1, none⟩ = some (.int .i64 y.id.b) ∧ w'.cell? ⟨wo.heap.size, 2, none⟩ = some (.int .i64 y.id.s) ∧ w'.cell? ⟨wo.heap.size, 3, none⟩ = some (.int .i64 y.id.p)) (first | go_keep)
                          (first
                            | (go_at_call 8; refine (pin_miss W.heap.size _ mb pb A1 cap1 mx ages ps y.id ((HM.out.alloc _).drew) HPG.out).mono ?_; rintro e w2 ⟨rfl, hb2⟩; have HB2 := Lib.hid (show Below wo.heap.size wo w2 from ext_trans HB0.out.drew hb2); have HX2 := Lib.hid (HX.out.drew.ext hb2); have x2 := HX2.out.cell; clear hb2)
                            | (go_at_call 26; refine (rpin_miss W.heap.size _ rb A2 cap2 mx l y.id (HRf.out.ext HB2.out) (by omega) HRX.out).mono ?_; rintro e w3 ⟨rfl, hb3⟩; have HB3 := Lib.hid (ext_trans HB2.out hb3); have HX3 := Lib.hid (HX2.out.ext hb3); have x3 := HX3.out.cell; clear hb3))
                        go_wp2_with fail
                        go_meet
                        exact ⟨_, _, _, (HTw.out.ext HB3.out).upto (Nat.le_succ _), HBw.out.trans (HB3.out.mono hsW)⟩

                      · obtain ⟨p, hpg, hpr, hpp, hp64, hppn⟩ := HTw.out.hit hyc hid
                        have HPG := Lib.hid hpg
                        have HPR := Lib.hid hpr
                        have HPP := Lib.hid hpp
                        have HYC := Lib.hid hyc
                        have HID := Lib.hid hid
                        have HRX := Lib.hid hrx
                        have hj : j < l.length := (List.getElem?_eq_some_iff.1 hyc).1
                        have hypn : yc.pins ≤ 1000000 := by rw [← hpp]; omega
                        clear hpg hpr hpp hyc hid hrx
                        go_wp2_with fail
                        go_region_held3 (fun w' => w'.cell? ⟨wo.heap.size, 1, none⟩ = some (.int .i64 y.id.b) ∧ w'.cell? ⟨wo.heap.size, 2, none⟩ = some (.int .i64 y.id.s) ∧ w'.cell? ⟨wo.heap.size, 3, none⟩ = some (.int .i64 y.id.p)) (first | go_keep)
                          (first
                            | (go_at_call 8; refine (pin_hit W.heap.size _ mb pb A1 cap1 mx ages ps y.id ((HM.out.alloc _).drew) (by omega) p HPG.out (by omega)).mono ?_; rintro e w2 ⟨rfl, ⟨A3, cap3, hM3⟩, hC3⟩; have HC2 := Lib.hid (show Chg muM W.heap.size wo w2 from (((Chg.refl _ _ _).alloc _).drew).trans hC3); have HM3 := Lib.hid hM3; have HX2 := Lib.hid (HX.out.drew.chg hC3 (.inr rfl)); have x2 := HX2.out.cell; clear hM3 hC3)
                            | (go_at_call 26; refine (rpin_hit W.heap.size _ rb A2 cap2 mx l y.id j yc (HRf.out.chg HC2.out) (by omega) HRX.out HYC.out hypn).mono ?_; rintro e w3 ⟨rfl, ⟨A4, cap4, hR4⟩, hC4⟩; have HC3 := Lib.hid hC4; have HR4 := Lib.hid hR4; have HX3 := Lib.hid (HX2.out.chg hC4 (.inr rfl)); have x3 := HX3.out.cell; clear hR4 hC4))
                        go_wp2_with fail
                        go_meet
                        obtain ⟨a, q, m, hT⟩ := HTw.out.pinX (x := y.id) HYC.out HID.out HPG.out HPP.out (HM3.out.chgR HC3.out) HR4.out
                        exact ⟨a, q, m, hT, HBw.out.trans ((HC2.out.below hsW).trans (HC3.out.below (Nat.le_trans hsW HC2.out.size)))⟩
                  · have e3 : (y.kind == 3) = false := by simp [h3]
                    by_cases h4 : y.kind = 4
                    ·
                      as_aux_lemma =>
                        have e4 : (y.kind == 4) = true := by simp [h4]
                        clear h0 h1 h2 h3 h4
                        rcases rix_cases l y.id with ⟨hrx, hmiss⟩ | ⟨j, yc, hrx, hyc, hid, -⟩
                        · have HPG := Lib.hid (HTw.out.miss hmiss)
                          have HRX := Lib.hid hrx
                          clear hrx hmiss
                          go_wp2_with fail
                          go_region_held3 (fun w' => w'.cell? ⟨wo.heap.size, 1, none⟩ = some (.int .i64 y.id.b) ∧ w'.cell? ⟨wo.heap.size, 2, none⟩ = some (.int .i64 y.id.s) ∧ w'.cell? ⟨wo.heap.size, 3, none⟩ = some (.int .i64 y.id.p)) (first | go_keep)
                            (first
                              | (go_at_call 27; refine (unpin_miss W.heap.size _ mb pb A1 cap1 mx ages ps y.id ((HM.out.alloc _).drew) HPG.out).mono ?_; rintro e w2 ⟨rfl, hb2⟩; have HB2 := Lib.hid (show Below wo.heap.size wo w2 from ext_trans HB0.out.drew hb2); have HX2 := Lib.hid (HX.out.drew.ext hb2); have x2 := HX2.out.cell; clear hb2)
                              | (go_at_call 28; refine (runpin_miss W.heap.size _ rb A2 cap2 mx l y.id (HRf.out.ext HB2.out) (by omega) HRX.out).mono ?_; rintro e w3 ⟨rfl, hb3⟩; have HB3 := Lib.hid (ext_trans HB2.out hb3); have HX3 := Lib.hid (HX2.out.ext hb3); have x3 := HX3.out.cell; clear hb3))
                          go_wp2_with fail
                          go_meet
                          exact ⟨_, _, _, (HTw.out.ext HB3.out).upto (Nat.le_succ _), HBw.out.trans (HB3.out.mono hsW)⟩

                        · obtain ⟨p, hpg, hpr, hpp, hp64, hppn⟩ := HTw.out.hit hyc hid
                          have HPG := Lib.hid hpg
                          have HPR := Lib.hid hpr
                          have HPP := Lib.hid hpp
                          have HYC := Lib.hid hyc
                          have HID := Lib.hid hid
                          have HRX := Lib.hid hrx
                          have hj : j < l.length := (List.getElem?_eq_some_iff.1 hyc).1
                          have hypn : yc.pins ≤ 1000000 := by rw [← hpp]; omega
                          clear hpg hpr hpp hyc hid hrx
                          by_cases hz0 : yc.pins = 0
                          ·
                            go_wp2_with fail
                            go_region_held3 (fun w' => w'.cell? ⟨wo.heap.size, 1, none⟩ = some (.int .i64 y.id.b) ∧ w'.cell? ⟨wo.heap.size, 2, none⟩ = some (.int .i64 y.id.s) ∧ w'.cell? ⟨wo.heap.size, 3, none⟩ = some (.int .i64 y.id.p)) (first | go_keep)
                              (first
                                | (go_at_call 27; refine (unpin_none W.heap.size _ mb pb A1 cap1 mx ages ps y.id ((HM.out.alloc _).drew) p HPG.out (by have := HPP.out; omega)).mono ?_; rintro e w2 ⟨rfl, hb2⟩; have HB2 := Lib.hid (show Below wo.heap.size wo w2 from ext_trans HB0.out.drew hb2); have HX2 := Lib.hid (HX.out.drew.ext hb2); have x2 := HX2.out.cell; clear hb2)
                                | (go_at_call 28; refine (runpin_none W.heap.size _ rb A2 cap2 mx l y.id j yc (HRf.out.ext HB2.out) (by omega) HRX.out HYC.out (by omega)).mono ?_; rintro e w3 ⟨rfl, hb3⟩; have HB3 := Lib.hid (ext_trans HB2.out hb3); have HX3 := Lib.hid (HX2.out.ext hb3); have x3 := HX3.out.cell; clear hb3))
                            go_wp2_with fail
                            go_meet
                            exact ⟨_, _, _, (HTw.out.ext HB3.out).upto (Nat.le_succ _), HBw.out.trans (HB3.out.mono hsW)⟩
                          ·
                            go_wp2_with fail
                            go_region_held3 (fun w' => w'.cell? ⟨wo.heap.size, 1, none⟩ = some (.int .i64 y.id.b) ∧ w'.cell? ⟨wo.heap.size, 2, none⟩ = some (.int .i64 y.id.s) ∧ w'.cell? ⟨wo.heap.size, 3, none⟩ = some (.int .i64 y.id.p)) (first | go_keep)
                              (first
                                | (go_at_call 27; refine (unpin_hit W.heap.size _ mb pb A1 cap1 mx ages ps y.id ((HM.out.alloc _).drew) p HPG.out (by have := HPP.out; omega) (by omega)).mono ?_; rintro e w2 ⟨rfl, ⟨A3, cap3, hM3⟩, hC3⟩; have HC2 := Lib.hid (show Chg muM W.heap.size wo w2 from (((Chg.refl _ _ _).alloc _).drew).trans hC3); have HM3 := Lib.hid hM3; have HX2 := Lib.hid (HX.out.drew.chg hC3 (.inr rfl)); have x2 := HX2.out.cell; clear hM3 hC3)
                                | (go_at_call 28; refine (runpin_hit W.heap.size _ rb A2 cap2 mx l y.id j yc (HRf.out.chg HC2.out) (by omega) HRX.out HYC.out (by omega) hypn).mono ?_; rintro e w3 ⟨rfl, ⟨A4, cap4, hR4⟩, hC4⟩; have HC3 := Lib.hid hC4; have HR4 := Lib.hid hR4; have HX3 := Lib.hid (HX2.out.chg hC4 (.inr rfl)); have x3 := HX3.out.cell; clear hR4 hC4))
                            go_wp2_with fail
                            go_meet
                            obtain ⟨a, q, m, hT⟩ := HTw.out.unpinX (x := y.id) HYC.out HID.out HPG.out HPP.out (by have := HPP.out; omega) (HM3.out.chgR HC3.out) HR4.out
                            exact ⟨a, q, m, hT, HBw.out.trans ((HC2.out.below hsW).trans (HC3.out.below (Nat.le_trans hsW HC2.out.size)))⟩
                    · have e4 : (y.kind == 4) = false := by simp [h4]
                      by_cases h5 : y.kind = 5
                      ·
                        as_aux_lemma =>
                          have e5 : (y.kind == 5) = true := by simp [h5]
                          clear h0 h1 h2 h3 h4 h5
                          rcases rix_cases l y.id with ⟨hrx, hmiss⟩ | ⟨j, yc, hrx, hyc, hid, -⟩
                          · have HPG := Lib.hid (HTw.out.miss hmiss)
                            have HRX := Lib.hid hrx
                            clear hrx hmiss
                            go_wp2_with fail
                            go_region_held3 (fun w' => w'.cell? ⟨wo.heap.size, 1, none⟩ = some (.int .i64 y.id.b) ∧ w'.cell? ⟨wo.heap.size, 2, none⟩ = some (.int .i64 y.id.s) ∧ w'.cell? ⟨wo.heap.size, 3, none⟩ = some (.int .i64 y.id.p)) (first | go_keep)
                              (first
                                | (go_at_call 29; refine (drop_miss W.heap.size _ mb pb A1 cap1 mx ages ps y.id ((HM.out.alloc _).drew) HPG.out).mono ?_; rintro e w2 ⟨rfl, hb2⟩; have HB2 := Lib.hid (show Below wo.heap.size wo w2 from ext_trans HB0.out.drew hb2); have HX2 := Lib.hid (HX.out.drew.ext hb2); have x2 := HX2.out.cell; clear hb2)
                                | (go_at_call 30; refine (rdrop_miss W.heap.size _ rb A2 cap2 mx l y.id (HRf.out.ext HB2.out) (by omega) HRX.out).mono ?_; rintro e w3 ⟨rfl, hb3⟩; have HB3 := Lib.hid (ext_trans HB2.out hb3); have HX3 := Lib.hid (HX2.out.ext hb3); have x3 := HX3.out.cell; clear hb3))
                            go_wp2_with fail
                            go_meet
                            exact ⟨_, _, _, (HTw.out.ext HB3.out).upto (Nat.le_succ _), HBw.out.trans (HB3.out.mono hsW)⟩

                          · obtain ⟨p, hpg, hpr, hpp, hp64, hppn⟩ := HTw.out.hit hyc hid
                            have HPG := Lib.hid hpg
                            have HPR := Lib.hid hpr
                            have HPP := Lib.hid hpp
                            have HYC := Lib.hid hyc
                            have HID := Lib.hid hid
                            have HRX := Lib.hid hrx
                            have hj : j < l.length := (List.getElem?_eq_some_iff.1 hyc).1
                            have hypn : yc.pins ≤ 1000000 := by rw [← hpp]; omega
                            clear hpg hpr hpp hyc hid hrx
                            go_wp2_with fail
                            go_region_held3 (fun w' => w'.cell? ⟨wo.heap.size, 1, none⟩ = some (.int .i64 y.id.b) ∧ w'.cell? ⟨wo.heap.size, 2, none⟩ = some (.int .i64 y.id.s) ∧ w'.cell? ⟨wo.heap.size, 3, none⟩ = some (.int .i64 y.id.p)) (first | go_keep)
                              (first
                                | (go_at_call 29; refine (drop_hit W.heap.size _ mb pb A1 cap1 mx ages ps y.id ((HM.out.alloc _).drew) (by omega) p HPG.out).mono ?_; rintro e w2 ⟨rfl, ⟨A3, cap3, hM3⟩, hC3⟩; have HC2 := Lib.hid (show Chg muM W.heap.size wo w2 from (((Chg.refl _ _ _).alloc _).drew).trans hC3); have HM3 := Lib.hid hM3; have HX2 := Lib.hid (HX.out.drew.chg hC3 (.inr rfl)); have x2 := HX2.out.cell; clear hM3 hC3)
                                | (go_at_call 30; refine (rdrop_hit W.heap.size _ rb A2 cap2 mx l y.id j (HRf.out.chg HC2.out) (by omega) HRX.out hj).mono ?_; rintro e w3 ⟨rfl, ⟨A4, cap4, hR4⟩, hC4⟩; have HC3 := Lib.hid hC4; have HR4 := Lib.hid hR4; have HX3 := Lib.hid (HX2.out.chg hC4 (.inr rfl)); have x3 := HX3.out.cell; clear hR4 hC4))
                            go_wp2_with fail
                            go_meet
                            obtain ⟨a, q, m, hT⟩ := HTw.out.dropX (x := y.id) HYC.out HID.out (HM3.out.chgS HC3.out) HR4.out
                            exact ⟨a, q, m, hT, HBw.out.trans ((HC2.out.below hsW).trans (HC3.out.below (Nat.le_trans hsW HC2.out.size)))⟩
                      · have e5 : (y.kind == 5) = false := by simp [h5]
                        as_aux_lemma =>
                          clear h0 h1 h2 h3 h4 h5
                          go_wp2_with (first
                            | (go_at_call 31; refine (clear_c W.heap.size _ mb pb A1 cap1 mx ages ps (HM.out.alloc _)).mono ?_; rintro e w2 ⟨rfl, ⟨A3, cap3, hM3⟩, hC3⟩; have HC2 := Lib.hid (show Chg muM W.heap.size wo w2 from ((Chg.refl _ _ _).alloc _).trans hC3); have HM3 := Lib.hid hM3; have HR2 := Lib.hid (HRf.out.chg HC2.out); have r1 := HR2.out.c1; have f1 := HR2.out.blk.frozen 1; have hrl := HR2.out.blk.lt; clear hM3 hC3))
                          go_meet
                          have hCs : Chg muR W.heap.size w2 (w2.setCell ⟨rb, 1, none⟩ (.slice none 0 0)) := (Chg.refl _ _ _).set_ (p := ⟨rb, 1, none⟩) HR2.out.blk rfl HR2.out.bm _
                          refine ⟨[], [], [], ⟨⟨A3, cap3, HM3.out.chgR hCs⟩, ⟨none, 0, HR2.out.bm, HR2.out.blk.set_ 1 _, World.ownsRow_nil _ _ _ _, fun c hc => by cases hc⟩, ⟨0, inv_nil' _ _⟩, Sim.nil⟩, HBw.out.trans ((HC2.out.below hsW).trans (hCs.below (Nat.le_trans hsW HC2.out.size)))⟩
          case rest =>
            as_aux_lemma =>
              obtain ⟨ages2, ps2, l2, hT2, hB2⟩ := hcut
              have HT2 := Lib.hid hT2
              have HB2 := Lib.hid hB2
              obtain ⟨A2, cap2, hM2⟩ := hT2.mem
              obtain ⟨A3, cap3, hR2⟩ := hT2.ref
              obtain ⟨k2, hI2⟩ := hT2.inv
              have HM2 := Lib.hid hM2
              have HI2 := Lib.hid hI2
              have HR2 := Lib.hid hR2
              have hus := hI2.used
              have hul := usedN_len ps2
              have hll := hT2.len
              have hal := hI2.len
              have HU := Lib.hid hT2.used
              have HPN := Lib.hid hT2.pins
              have HAG := Lib.hid hT2.sim.ages
              clear hT2 hB2 hM2 hR2 hI2 d0 d1 d2 d3 d4
              go_upto_block 7 with (first
                | (go_at_call 18; refine (list_c HS.out W.heap.size _ mb pb A2 cap2 mx ages2 ps2 HM2.out (by omega)).mono ?_; rintro e w4 ⟨Al, cl, L, rfl, hperm, hsrt, hownl, hpo, hbl⟩; have HPE := Lib.hid hperm; have HSR := Lib.hid hsrt; have HOL := Lib.hid hownl; have HPO := Lib.hid hpo; have HB4 := Lib.hid hbl; have HM4 := Lib.hid (HM2.out.ext hbl); have HR4 := Lib.hid (HR2.out.ext hbl); have HLl := Lib.hid (show L.length = ps2.length from (by have := hperm.length_eq; simpa using this)); clear hperm hsrt hownl hpo hbl)
                | (go_at_call 13; refine (used_c W.heap.size _ mb pb A2 cap2 mx ages2 ps2 HM4.out (by omega)).mono ?_; rintro e w5 ⟨rfl, hb5⟩; have HB5 := Lib.hid hb5; clear hb5)
                | (go_at_call 32; refine (rused_c W.heap.size _ rb A3 cap3 mx l2 (HR4.out.ext HB5.out) (by omega) (by show usedR l2 ≤ _; rw [← HU.out]; omega)).mono ?_; rw [show usedT (l2.map rcT) = usedN ps2 from HU.out.symm]; rintro e w6 ⟨rfl, hb6⟩; have HB6 := Lib.hid (ext_trans HB5.out hb6); clear hb6)
                | (go_at_call 33; refine (max_c W.heap.size _ mb pb A2 cap2 mx ages2 ps2 (HM4.out.ext HB6.out)).mono ?_; rintro e w7 ⟨rfl, hb7⟩; have HB7 := Lib.hid (ext_trans HB6.out hb7); clear hb7)
                | (go_at_call 12; refine (pins_c W.heap.size _ mb pb A2 cap2 mx ages2 ps2 (HM4.out.ext HB7.out) (by omega)).mono ?_; rintro e w8 ⟨rfl, hb8⟩; have HB8 := Lib.hid (ext_trans HB7.out hb8); clear hb8)
                | (go_at_call 34; refine (rpins_c W.heap.size _ rb A3 cap3 mx l2 (HR4.out.ext HB8.out) (by omega)).mono ?_; rw [← HPN.out]; rintro e w9 ⟨rfl, hb9⟩; have HB9 := Lib.hid (ext_trans HB8.out hb9); clear hb9)
                | (go_at_call 10; refine (ages_c W.heap.size _ mb pb A2 cap2 mx ages2 ps2 (HM4.out.ext HB9.out) (by omega)).mono ?_; rintro e w10 ⟨Ga, ca', rfl, howna, hca, hb10⟩; have HGa := Lib.hid (Rd.of_own (B := W.heap.size) howna); have HB10 := Lib.hid (ext_trans HB9.out hb10); clear howna hb10)
                | (go_at_call 35; refine (rages_c W.heap.size _ rb A3 cap3 mx l2 (HR4.out.ext HB10.out) (by omega)).mono ?_; rw [← HAG.out]; rintro e w11 ⟨Gr, cr, rfl, hownr, hb11⟩; have HGr := Lib.hid (Rd.of_own (B := W.heap.size) hownr); have HGa2 := Lib.hid (HGa.out.ext hb11); have HB11 := Lib.hid (ext_trans HB10.out hb11); clear hownr hb11)
                | (go_at_call 16; refine (sameIDs_c W.heap.size _ Ga Gr ca' cr ages2 ages2 HGa2.out HGr.out (by omega) (by omega)).mono ?_; rw [show decide (ages2 = ages2) = true by simp]; rintro e w12 ⟨rfl, hb12⟩; have HB12 := Lib.hid (ext_trans HB11.out hb12); clear hb12)
                | (go_at_call 37; refine (rlist_c W.heap.size _ rb A3 cap3 mx l2 (HR4.out.ext HB12.out) (by omega)).mono ?_; rintro e w13 ⟨Ar, cL, L', rfl, hperm', hsrt', hownl', hbl'⟩; have HPE' := Lib.hid hperm'; have HSR' := Lib.hid hsrt'; have HOL' := Lib.hid (Rd.of_own (B := W.heap.size) hownl'); have HB13 := Lib.hid (ext_trans HB12.out hbl'); clear hperm' hsrt' hownl' hbl')
                | (go_at_call 36; refine (samePieces_c W.heap.size _ Al Ar cl cL L L' ((Rd.of_own (B := W.heap.size) HOL.out).ext HB13.out) HOL'.out (fun z hz => (Rd.of_own (B := W.heap.size) (HPO.out.own z hz)).ext HB13.out) (fun z hz => by
                    obtain ⟨c, hc, rfl⟩ := List.mem_map.1 (HPE'.out.mem_iff.1 hz)
                    exact (HR4.out.rows c hc).ext HB13.out) (by have := HLl.out; omega) (fun z hz => by
                    have h1 := List.mem_map_of_mem (f := pzT) hz
                    obtain ⟨p, hp, he⟩ := List.mem_map.1 (HPE.out.mem_iff.1 h1)
                    have h2 := HI2.out.rows p hp
                    have h3 : p.rows = z.rows := congrArg Prod.snd he
                    rw [← h3]; omega)).mono ?_; rw [show decide (L.map pzT = L'.map pzT) = true by simpa using HT2.out.lists HPE.out HSR.out HPE'.out HSR'.out]; rintro e w14 ⟨rfl, hb14⟩; have HB14 := Lib.hid (ext_trans HB13.out hb14); clear hb14))
              have HO14 := Lib.hid (own_ext HOL.out HB14.out)
              have HP14 := Lib.hid (fun z hz => own_ext (HPO.out.own z hz) HB14.out)
              have HC14 := Lib.hid (ext_trans HB4.out HB14.out)
              have hLb : L.length ≤ 1000000 := by have := HLl.out; omega
              go_wp2_with fail
              go_loopg [20] L.length (fun gk v20 wr => ∃ k xs, k + gk = L.length ∧ v20 = .int .i64 (k : Nat) ∧ wr.ownsRow wc.heap.size 47 4 (.slice Al L.length cl) L.length xs ∧ Hid (∀ j, k * 4 ≤ j → xs[j]? = (pzsC L)[j]?) ∧ Hid (∀ j z, k ≤ j → L[j]? = some z → wr.ownsRow wc.heap.size 58 2 (pzS z) z.rows.length (rwsC z.rows)) ∧ Below wc.heap.size wc wr)
              case atStart => exact ⟨0, pzsC L, by simp, rfl, HO14.out, Lib.hid (fun _ _ => rfl), Lib.hid (fun j z _ hz => HP14.out z (List.mem_of_getElem? hz)), HC14.out⟩
              case round =>
                obtain ⟨k, xs, hkL, rfl, hown, hxs, hrs, hb⟩ := hrel
                have HO := Lib.hid hown
                have HB := Lib.hid hb
                by_cases hk : k < L.length
                · have hz : L[k]? = some (L[k]) := List.getElem?_eq_getElem hk
                  generalize L[k] = z at hz
                  obtain ⟨g, hAl, hgb, hncl⟩ := own_some hown (by omega)
                  obtain ⟨ad, had⟩ : ∃ ad : Addr, ad = ⟨g, 0, none⟩ := ⟨_, rfl⟩
                  rw [← had] at hAl
                  subst hAl
                  have hcell : ∀ j u, (pzC z)[j]? = some u → wr.cell? ⟨g, k * 4 + j, none⟩ = some u := by
                    intro j u hu
                    have hj : j < 4 := (List.getElem?_eq_some_iff.1 hu).1
                    rw [had] at hown
                    rw [hown.cellAt (k * 4 + j) (by omega), hxs.out _ (by omega)]
                    show (L.flatMap pzC)[k * 4 + j]? = _
                    rw [flat_at pzC 4 (fun _ => rfl) L k z hz j hj]
                    exact hu
                  have d3 : wr.cell? ⟨(ad.add (k * 4)).block, (ad.add (k * 4)).off + 3, none⟩ = some (.slice z.A z.rows.length z.cap) := by rw [adr_eq4 had]; exact hcell 3 _ rfl
                  have d0 : wr.cell? (ad.add (k * 4)) = some (.int .i64 z.id.b) := by rw [adr_eq40 had]; exact hcell 0 _ rfl
                  have d1 : wr.cell? ⟨(ad.add (k * 4)).block, (ad.add (k * 4)).off + 1, none⟩ = some (.int .i64 z.id.s) := by rw [adr_eq4 had]; exact hcell 1 _ rfl
                  have d2 : wr.cell? ⟨(ad.add (k * 4)).block, (ad.add (k * 4)).off + 2, none⟩ = some (.int .i64 z.id.p) := by rw [adr_eq4 had]; exact hcell 2 _ rfl
                  have hfr : ∀ j, wr.frozen? ⟨g, j, none⟩ = false := fun j => by rw [had] at hown; exact own_frozen hown j
                  have f0 : wr.frozen? (ad.add (k * 4)) = false := by rw [adr_eq40 had]; exact hfr _
                  have f1 : wr.frozen? ⟨(ad.add (k * 4)).block, (ad.add (k * 4)).off + 1, none⟩ = false := by rw [adr_eq4 had]; exact hfr _
                  have f2 : wr.frozen? ⟨(ad.add (k * 4)).block, (ad.add (k * 4)).off + 2, none⟩ = false := by rw [adr_eq4 had]; exact hfr _
                  have f3 : wr.frozen? ⟨(ad.add (k * 4)).block, (ad.add (k * 4)).off + 3, none⟩ = false := by rw [adr_eq4 had]; exact hfr _
                  have q1 : ∀ u, (wr.setCell (ad.add (k * 4)) u).cell? ⟨(ad.add (k * 4)).block, (ad.add (k * 4)).off + 1, none⟩ = some (.int .i64 z.id.s) := fun u => by
                    rw [World.cell?_setCell_other _ _ _ _ (by rw [adr_eq4 had, adr_eq40 had]; simp)]; exact d1
                  have q2 : ∀ u v, ((wr.setCell (ad.add (k * 4)) u).setCell ⟨(ad.add (k * 4)).block, (ad.add (k * 4)).off + 1, none⟩ v).cell? ⟨(ad.add (k * 4)).block, (ad.add (k * 4)).off + 2, none⟩ = some (.int .i64 z.id.p) := fun u v => by
                    rw [World.cell?_setCell_other _ _ _ _ (by rw [adr_eq4 had, adr_eq4 had]; simp), World.cell?_setCell_other _ _ _ _ (by rw [adr_eq4 had, adr_eq40 had]; simp)]; exact d2
                  have HAD := Lib.hid had
                  have HZ := Lib.hid hz
                  clear hown hb hz had hcell hfr
                  go_upto_region 53 with fail
                  obtain ⟨w15, hw15⟩ : ∃ x, x = (((wr.setCell (ad.add (k * 4)) (Value.int IntKind.i64 (-9))).setCell ⟨(ad.add (k * 4)).block, (ad.add (k * 4)).off + 1, none⟩ (Value.int IntKind.i64 0)).setCell ⟨(ad.add (k * 4)).block, (ad.add (k * 4)).off + 2, none⟩ (Value.int IntKind.i64 0)) := ⟨_, rfl⟩
                  rw [← hw15]
                  rw [adr_eq4 HAD.out (j := 1), adr_eq4 HAD.out (j := 2), adr_eq40 HAD.out] at hw15
                  obtain ⟨xs1, hxs1, hO15⟩ : ∃ xs1 : List Value, (∀ j, k * 4 + 3 ≤ j → xs1[j]? = (pzsC L)[j]?) ∧ w15.ownsRow wc.heap.size 47 4 (.slice (some ⟨g, 0, none⟩) L.length cl) L.length xs1 := by
                    have h0 := HO.out
                    rw [HAD.out] at h0
                    refine ⟨_, fun j hj => ?_, by rw [hw15]; exact own_set (own_set (own_set h0 _ _) _ _) _ _⟩
                    rw [List.getElem?_set_ne (by omega), List.getElem?_set_ne (by omega), List.getElem?_set_ne (by omega)]
                    exact hxs.out j (by omega)
                  have hR15 : ∀ j z, k ≤ j → L[j]? = some z → w15.ownsRow wc.heap.size 58 2 (pzS z) z.rows.length (rwsC z.rows) := by
                    intro j z hj hz
                    have h0 := HO.out
                    rw [HAD.out] at h0
                    rw [hw15]
                    exact own_off (own_set (own_set h0 _ _) _ _) (own_off (own_set h0 _ _) (own_off h0 (hrs.out j z hj hz) (by decide) _ _) (by decide) _ _) (by decide) _ _
                  have hB15 : Below wc.heap.size wc w15 := by
                    rw [hw15]
                    exact ((HB.out.setCell (p := ⟨g, k * 4 + 0, none⟩) hgb _).setCell (p := ⟨g, k * 4 + 1, none⟩) hgb _).setCell (p := ⟨g, k * 4 + 2, none⟩) hgb _
                  have HO15 := Lib.hid hO15
                  have HR15 := Lib.hid hR15
                  have HB15 := Lib.hid hB15
                  have HX15 := Lib.hid hxs1
                  have c15 : w15.cell? ⟨(ad.add (k * 4)).block, (ad.add (k * 4)).off + 3, none⟩ = some (.slice z.A z.rows.length z.cap) := by
                    rw [adr_eq4 HAD.out, hO15.cellAt (k * 4 + 3) (by omega), hxs1 _ (Nat.le_refl _)]
                    show (L.flatMap pzC)[k * 4 + 3]? = _
                    rw [flat_at pzC 4 (fun _ => rfl) L k z HZ.out 3 (by omega)]
                    rfl
                  have hz64 : z.rows.length ≤ 64 := by
                    have h1 := List.mem_map_of_mem (f := pzT) (List.mem_of_getElem? HZ.out)
                    obtain ⟨p, hp, he⟩ := List.mem_map.1 (HPE.out.mem_iff.1 h1)
                    have h2 := HI2.out.rows p hp
                    have h3 : p.rows = z.rows := congrArg Prod.snd he
                    rw [← h3]; exact h2
                  have hs15 := hB15.size
                  have HW15 := Lib.hid hw15
                  clear hw15 hxs1 hO15 hR15 hB15 d0 d1 d2 d3 f0 f1 f2 f3 q1 q2
                  go_wp2_with (first
                    | (at_builtin; refine wpList_appE row_app _ rfl (.tmp 254) (.tmp 256) rfl wc.heap.size _ z.rows rfl ((HR15.out k z (Nat.le_refl _) HZ.out).alloc _) ⟨0, 0⟩ _ rfl (Bk.new _ _ _) (by omega) (by simp only [World.size_alloc]; omega) ?_
                       intro A16 n16 w16 hown16 hg16 hc16
                       have hKB := keepBut_own (B := wc.heap.size) ((HR15.out k z (Nat.le_refl _) HZ.out).alloc (.cells (rwC ⟨0, 0⟩).toArray 58)) (Nat.le_refl _) hg16
                       have HO16 := Lib.hid (hKB.own (HO15.out.alloc (.cells (rwC ⟨0, 0⟩).toArray 58)) (by decide))
                       have HG16 := Lib.hid hg16
                       have HB16 := Lib.hid (below_grownOwn (ext_alloc HB15.out (.cells (rwC ⟨0, 0⟩).toArray 58)) ((HR15.out k z (Nat.le_refl _) HZ.out).alloc (.cells (rwC ⟨0, 0⟩).toArray 58)) (Nat.le_refl _) hg16)
                       have f16 : w16.frozen? ⟨(ad.add (k * 4)).block, (ad.add (k * 4)).off + 3, none⟩ = false := (by rw [adr_eq4 HAD.out]; exact own_frozen HO16.out _)
                       have c16 : w16.cell? ⟨(ad.add (k * 4)).block, (ad.add (k * 4)).off + 3, none⟩ = some (.slice z.A z.rows.length z.cap) := (by
                         rw [adr_eq4 HAD.out, HO16.out.cellAt (k * 4 + 3) (by omega), HX15.out _ (Nat.le_refl _)]
                         show (L.flatMap pzC)[k * 4 + 3]? = _
                         rw [flat_at pzC 4 (fun _ => rfl) L k z HZ.out 3 (by omega)]
                         rfl)
                       clear hKB hown16 hg16))
                  go_roundg (gk - 1)
                  case measure => omega
                  case rel =>
                    rw [adr_eq4 HAD.out, HAD.out]
                    refine ⟨k + 1, _, by omega, by go_num, own_set HO16.out _ _, Lib.hid (fun j hj => ?_), Lib.hid (fun j z' hj hz' => ?_), HB16.out.setCell (p := ⟨g, k * 4 + 3, none⟩) hgb _⟩
                    · have h1 : k * 4 + 3 ≠ j := by omega
                      rw [List.getElem?_set_ne h1]
                      exact HX15.out j (by omega)
                    · have h1 := ((HR15.out j z' (by omega) hz').alloc (.cells (rwC ⟨0, 0⟩).toArray 58)).kept HG16.out (pw_ne HPO.out.ne HZ.out hz' (by omega))
                      exact own_off HO16.out h1 (by decide) _ _
                · have hkl : k = L.length := by omega
                  subst hkl
                  go_wp2_with fail
                  go_roundg (gq - 1)
                  case measure => omega
                  case rel => exact ⟨i + 1, by omega, by go_num, ⟨ages2, ps2, l2, HT2.out.ext HB.out, HB2.out.trans (HB.out.mono HB2.out.size)⟩⟩
        · have hiT : i = 100 := by have := HT.out; omega
          go_wp2
          go_meet
          exact ⟨i, by omega, _, _, _, HTw.out, HBw.out⟩
      · go_wp2
        go_meet
        exact ⟨i, by omega, _, _, _, HTw.out, HBw.out⟩
  case rest =>
    obtain ⟨n, hn, ages, ps, l, hTw, hBw⟩ := hcut
    have HTw := Lib.hid hTw
    have HBw := Lib.hid hBw
    obtain ⟨A1, cap1, hM⟩ := hTw.mem
    obtain ⟨A2, cap2, hR⟩ := hTw.ref
    obtain ⟨kk, hI⟩ := hTw.inv
    have HM := Lib.hid hM
    have HRf := Lib.hid hR
    have HI := Lib.hid hI
    have hus := hI.used
    have hul := usedN_len ps
    have hll := hTw.len
    have HU := Lib.hid (TypeVar.chg HG.out hg0 (Chg.of_below (mu := muM) hBw))
    have hsW := hBw.size
    clear hTw hBw hM hR hI
    go_wp2_with (first
      | (go_at_call 14; refine (told_c _ HU.out).mono ?_; rintro e w3 ⟨rfl, hb3⟩; have HB3 := Lib.hid hb3; clear hb3)
      | (go_at_call 18; refine (list_c HS.out W.heap.size _ mb pb A1 cap1 mx ages ps (HM.out.ext HB3.out) (by omega)).mono ?_; rintro e w4 ⟨Al, cl, L, rfl, hperm, hsrt, hownl, hpo, hbl⟩; have HPE := Lib.hid hperm; have HSR := Lib.hid hsrt; have HOL := Lib.hid hownl; have HPO := Lib.hid hpo; have HB4 := Lib.hid (ext_trans HB3.out hbl); have HLl := Lib.hid (show L.length = ps.length from (by have := hperm.length_eq; simpa using this)); clear hperm hsrt hownl hpo hbl)
      | (go_at_call 37; refine (rlist_c W.heap.size _ rb A2 cap2 mx l (HRf.out.ext HB4.out) (by omega)).mono ?_; rintro e w5 ⟨Ar, cL, L', rfl, hperm', hsrt', hownl', hbl'⟩; have HPE' := Lib.hid hperm'; have HSR' := Lib.hid hsrt'; have HOL' := Lib.hid (Rd.of_own (B := W.heap.size) hownl'); have HB5 := Lib.hid hbl'; clear hperm' hsrt' hownl' hbl')
      | (go_at_call 36; refine (samePieces_c W.heap.size _ Al Ar cl cL L L' ((Rd.of_own (B := W.heap.size) HOL.out).ext HB5.out) HOL'.out (fun z hz => (Rd.of_own (B := W.heap.size) (HPO.out.own z hz)).ext HB5.out) (fun z hz => by
          obtain ⟨c, hc, rfl⟩ := List.mem_map.1 (HPE'.out.mem_iff.1 hz)
          exact (HRf.out.rows c hc).ext (ext_trans HB4.out HB5.out)) (by have := HLl.out; omega) (fun z hz => by
          have h1 := List.mem_map_of_mem (f := pzT) hz
          obtain ⟨p, hp, he⟩ := List.mem_map.1 (HPE.out.mem_iff.1 h1)
          have h2 := HI.out.rows p hp
          have h3 : p.rows = z.rows := congrArg Prod.snd he
          rw [← h3]; omega)).mono ?_; rw [show decide (L.map pzT = L'.map pzT) = true by simpa using HTw.out.lists HPE.out HSR.out HPE'.out HSR'.out]; rintro e w6 ⟨rfl, hb6⟩; have HB6 := Lib.hid (ext_trans (ext_trans HB4.out HB5.out) hb6); clear hb6))
    go_ret
    exact ⟨rfl, HBw.out.trans (HB6.out.mono hsW)⟩
end Go.Proofs.YtgigdhfdpabmoaaDoor
