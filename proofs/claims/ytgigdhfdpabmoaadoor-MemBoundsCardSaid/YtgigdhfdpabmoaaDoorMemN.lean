/- tributarylaw10.MemBounds, walked, given the sort. -/
import Derived.Test.YtgigdhfdpabmoaaDoorMemM
namespace Go.Proofs.YtgigdhfdpabmoaaDoor
open Go.RowKit Go.Sort
attribute [local go_sem high] id_eqI

section
variable {n k max : Nat} {ages : List Id3} {ps : List Pc} {x : Id3}
theorem Inv.rot0 (h : Inv n k max ages ps) (hx : (pget ps x).isSome = true) : Inv n k max (wo ages x ++ [x]) ps := by
  have hm := (h.mem x).2 hx
  exact ⟨wo_nodup h.nd, h.ndp, fun y => (rot_mem hm).trans (h.mem y), h.used, by rw [rot_len h.nd hm]; exact h.len, h.rows, h.pins, h.pin⟩
end

/-- What goes on holding: the memory, the pinned pieces, the rows that the law holds. -/
structure Keep (B : Nat) (w : World) (mb pb n k max : Nat) (L : List (Id3 × List Rw)) (w' : World) : Prop where
  mem : ∃ A cap ages ps, MemAt B w' mb pb A cap max ages ps ∧ Inv n k max ages ps ∧ Kept ps L
  chg : Chg muM B w w'
section
variable (B : Nat) (w : World) (mb pb : Nat) (A : Option Addr) (cap : Nat) (n k max : Nat) (ages : List Id3) (ps : List Pc) (x : Id3) (L : List (Id3 × List Rw))
theorem get_keep (h : MemAt B w mb pb A cap max ages ps) (hi : Inv n k max ages ps) (hL : Kept ps L) (hn : n ≤ 1000) : Calls Tryd.prog 7 #[.pointer (some ⟨mb, 0, none⟩), idV x] w (fun e w' => (∃ A m c b, e = .returned (.tuple #[.slice A m c, .bool b])) ∧ Keep B w mb pb (n + 1) k max L w') := by
  have hlen := hi.len
  cases hp : pget ps x with
  | none =>
    refine (get_miss B w mb pb A cap max ages ps x h hp).mono ?_
    rintro e w' ⟨rfl, hb⟩
    exact ⟨⟨_, _, _, _, rfl⟩, ⟨_, _, _, _, h.ext hb, hi.step, hL⟩, Chg.of_below hb⟩
  | some p =>
    have := hi.rows p (pget_mem hp).1
    refine (get_hit B w mb pb A cap max ages ps x h (by omega) p hp (by omega)).mono ?_
    rintro e w' ⟨A', c', rfl, ⟨A2, cap2, hM⟩, _, _, hC⟩
    exact ⟨⟨_, _, _, _, rfl⟩, ⟨_, _, _, _, hM, hi.rot (by rw [hp]; rfl), hL⟩, hC⟩
theorem put_keep (h : MemAt B w mb pb A cap max ages ps) (hi : Inv n k max ages ps) (hL : Kept ps L) (hn : n ≤ 1000) (hmx : max ≤ 1048576) (A0 : Option Addr) (c0 : Nat) (l : List Rw) (hr : Rd w B 58 2 A0 l.length (rwsC l)) (m : Nat) (hm : m = (l.take 64).length) :
    Calls Tryd.prog 9 #[.pointer (some ⟨mb, 0, none⟩), idV x, .slice A0 m c0] w (fun e w' => (∃ v, e = .returned v) ∧ Keep B w mb pb (n + 1) k max L w') := by
  subst hm
  have hlen := hi.len
  have hr' := hr.takeR rfl 64
  have hl : (l.take 64).length ≤ 64 := by rw [List.length_take]; omega
  cases hp : (pget ps x).isSome with
  | true =>
    refine (put_held B w mb pb A cap max ages ps x h (by omega) hp A0 _ c0).mono ?_
    rintro e w' ⟨rfl, ⟨A2, cap2, hM⟩, hC⟩
    exact ⟨⟨_, rfl⟩, ⟨_, _, _, _, hM, hi.rot hp, hL⟩, hC⟩
  | false =>
    refine (put_new B w mb pb A cap max ages ps x h hp A0 c0 (l.take 64) hr' (by omega) hi.used hmx (by omega) (fun y hy => (hi.mem y).1 hy) hi.nd).mono ?_
    rintro e w' ⟨hno, hyes⟩
    rcases Nat.lt_or_ge max (szR (l.take 64) + pinnedN ps) with hlt | hge
    · obtain ⟨v, rfl, _, hb⟩ := hno hlt
      exact ⟨⟨_, rfl⟩, ⟨_, _, _, _, h.ext hb, hi.step, hL⟩, Chg.of_below hb⟩
    · obtain ⟨rfl, ⟨A2, cap2, q, hq, hqr, hqp, hM⟩, hC⟩ := hyes hge
      exact ⟨⟨_, rfl⟩, ⟨_, _, _, _, hM, hi.put hp hl (hi.evd hge) hq hqr hqp, hL.put hi hge q (by rw [hq]; exact hp)⟩, hC⟩
end
section
variable {n k max : Nat} {ages : List Id3} {ps : List Pc}
theorem Rd.pzs {w : World} {B : Nat} {e : TypeId} {A : Option Addr} {n : Nat} {l : List Pz} (h : Rd w B e 4 A n (pzsC l)) {i : Nat} {y : Pz} (hy : l[i]? = some y) (hn : i < n) :
    ∃ ad, A = some ad ∧ w.cell? (ad.add (i * 4)) = some (.int .i64 y.id.b) ∧ w.cell? ⟨(ad.add (i * 4)).block, (ad.add (i * 4)).off + 1, none⟩ = some (.int .i64 y.id.s) ∧ w.cell? ⟨(ad.add (i * 4)).block, (ad.add (i * 4)).off + 2, none⟩ = some (.int .i64 y.id.p) ∧
      w.cell? ⟨(ad.add (i * 4)).block, (ad.add (i * 4)).off + 3, none⟩ = some (.slice y.A y.rows.length y.cap) := by
  have hat : ∀ j, j < 4 → (pzsC l)[i * 4 + j]? = (pzC y)[j]? := fun j hj => flat_at pzC 4 (fun _ => rfl) l i y hy j hj
  obtain ⟨ad, hA, hc⟩ := h.cell (by omega)
  refine ⟨ad, hA, ?_, ?_, ?_, ?_⟩
  · exact hc (i * 4) _ (by have := hat 0 (by omega); simpa [pzC] using this)
  · rw [← add_succ ad (i * 4) 0]; exact hc (i * 4 + 1) _ (by rw [hat 1 (by omega)]; rfl)
  · rw [← add_succ ad (i * 4) 1]; exact hc (i * 4 + 2) _ (by rw [hat 2 (by omega)]; rfl)
  · rw [← add_succ ad (i * 4) 2]; exact hc (i * 4 + 3) _ (by rw [hat 3 (by omega)]; rfl)
/-- What is listed, told as the law looks at it. -/
structure Listed (max : Nat) (ps : List Pc) (l : List Pz) : Prop where
  sum : usedT (l.map pzT) = usedN ps
  up : l.Pairwise fun x y => bef x.id y.id = true
theorem Inv.listed {l : List Pz} (hi : Inv n k max ages ps) (hp : (l.map pzT).Perm (ps.map pcT)) (hs : l.Pairwise (fun x y => bef y.id x.id = false)) : Listed max ps l := by
  refine ⟨by rw [usedN_T, usedT_perm hp], ?_⟩
  have hids : (l.map (·.id)).Nodup := by
    have h1 := hp.map (·.1)
    rw [List.map_map, List.map_map] at h1
    exact (h1.nodup_iff).2 hi.ndp
  have hne : l.Pairwise fun x y => x.id ≠ y.id := List.pairwise_map.1 hids
  exact (hs.and hne).imp fun h => bef_total h.2 h.1
theorem Listed.sums {l : List Pz} {max : Nat} (h : Listed max ps l) : ∃ S : Nat → Nat, S 0 = 0 ∧ S l.length = usedN ps ∧ (∀ (j : Nat) (z : Pz), l[j]? = some z → S (j + 1) = S j + szR z.rows) ∧ ∀ j, S j ≤ usedN ps :=
  ⟨fun j => usedT ((l.take j).map pzT), rfl, by simp only [List.take_length]; exact h.sum, fun _ _ hz => usedT_take hz, fun j => by have := usedT_take_le l j; rw [h.sum] at this; exact this⟩
end

set_option maxRecDepth 100000 in
set_option maxHeartbeats 8000000 in
theorem bounds_c (hsort : SortC) (W : World) (max : Int) (Aa : Option Addr) (ca : Nat) (acts : List ActC) (hg : TypeVar W)
    (ha : Rd W W.heap.size 32 5 Aa acts.length (actsC acts)) (har : ∀ a ∈ acts, Rd W W.heap.size 58 2 a.A a.rows.length (rwsC a.rows)) (hap : ∀ a ∈ acts, a.rows.length ≤ a.cap) :
    Calls Tryd.prog 4 #[.int .i64 max, .slice Aa acts.length ca] W (BoolPost W true) := by
  obtain ⟨mx, hmx, hmx2⟩ := mask_mod max 2000 (by omega)
  obtain ⟨T, hT1, hT2, hT3⟩ : ∃ T, T ≤ acts.length ∧ T ≤ 100 ∧ (T = acts.length ∨ T = 100) := ⟨Nat.min acts.length 100, Nat.min_le_left _ _, Nat.min_le_right _ _, by simp only [Nat.min_def]; split <;> simp⟩
  have HT := Lib.hid hT3
  have hg0 : 0 < W.heap.size := World.block_lt_of_cell? W _ hg
  have HA := Lib.hid ha
  have HR := Lib.hid har
  have HP := Lib.hid hap
  have HG := Lib.hid hg
  have HS := Lib.hid hsort
  clear ha har hap hg hT3 hsort
  go_enter Tryd.func4, Tryd.ntmps4
  go_upto_region 2 with fail
  simp only [show ((2000 : Nat) : Int) = 2000 from rfl] at hmx
  rw [hmx]
  go_upto_block 0 with (first
    | (go_at_call 6; refine (new_c W.heap.size _ (mx : Int) (by simp) (by omega) (by omega)).mono ?_; rintro e w1 ⟨mb, pb, A1, cap1, rfl, hM1, hb1, hmb⟩))
  have HB1 := Lib.hid hb1
  have HM1 := Lib.hid hM1
  clear hb1 hM1
  go_cut [] (fun wx => Chg muM W.heap.size W wx)
  case first =>
    go_wp2_with fail
    go_loopg [7, 8] T (fun gk v7 v8 wr => ∃ i k A cap ages ps PL, i + gk = T ∧ v8 = .int .i64 (i : Nat) ∧ MemAt W.heap.size wr mb pb A cap (mx : Int) ages ps ∧ Inv (2 * i) k mx ages ps ∧ Kept ps (PL.map pzT) ∧ List.length PL ≤ i ∧
      wr.ownsRow W.heap.size 47 4 v7 PL.length (pzsC PL) ∧ (∀ z ∈ PL, Rd wr W.heap.size 58 2 z.A z.rows.length (rwsC z.rows)) ∧ Chg muM W.heap.size W wr)
    case atStart => exact ⟨0, 0, _, _, _, _, [], by simp, rfl, HM1.out, inv_nil _, (fun t ht => by cases ht), Nat.le_refl _, World.ownsRow_nil _ _ _ _, (fun z hz => by cases hz), Chg.of_below HB1.out⟩
    case round =>
      obtain ⟨i, k, A, cap, ages, ps, PL, hik, rfl, hM, hI, hK, hPL, hown, hPR, hC⟩ := hrel
      obtain ⟨A7, c7, rfl, hc7⟩ := own_shape hown
      have HM := Lib.hid hM
      have HI := Lib.hid hI
      have HK := Lib.hid hK
      have HO := Lib.hid hown
      have HPR := Lib.hid hPR
      have HC := Lib.hid hC
      clear hM hI hK hown hPR hC
      by_cases hi : i < acts.length
      · by_cases h60 : i < 100
        · have hiT : i < T := by have := HT.out; omega
          have hy : acts[i]? = some (acts[i]) := List.getElem?_eq_getElem hi
          generalize acts[i] = y at hy
          obtain ⟨ad, rfl, d0, d1, d2, d3, d4⟩ := (HA.out.chg HC.out (fun _ _ => rfl)).acts hy hi
          have hym : y ∈ acts := List.mem_of_getElem? hy
          have HY := Lib.hid ((HR.out y hym).chg HC.out (fun _ _ => rfl))
          have hcy := HP.out y hym
          clear hy hym
          go_upto_block 1 with fail
          go_cut [7] (fun v7 wx => ∃ k A cap ages ps PL, MemAt W.heap.size wx mb pb A cap (mx : Int) ages ps ∧ Inv (2 * i + 2) k mx ages ps ∧ Kept ps (PL.map pzT) ∧ List.length PL ≤ i + 1 ∧
            wx.ownsRow W.heap.size 47 4 v7 PL.length (pzsC PL) ∧ (∀ z ∈ PL, Rd wx W.heap.size 58 2 z.A z.rows.length (rwsC z.rows)) ∧ Chg muM W.heap.size W wx)
          case rest =>
            clear d0 d1 d2 d3 d4 hcy
            obtain ⟨k2, A2, cap2, ages2, ps2, PL2, hM2, hI2, hK2, hPL2, hown2, hPR2, hC2⟩ := hcut
            obtain ⟨A8, c8, rfl, hc8⟩ := own_shape hown2
            have HM2 := Lib.hid hM2
            have HI2 := Lib.hid hI2
            have HK2 := Lib.hid hK2
            have HO2 := Lib.hid hown2
            have HPR2 := Lib.hid hPR2
            have HC2 := Lib.hid hC2
            clear hM2 hI2 hK2 hown2 hPR2 hC2 hc7 hc8
            go_wp2
            go_roundg (gk - 1)
            case measure => omega
            case rel => exact ⟨i + 1, k2, A2, cap2, ages2, ps2, PL2, by omega, by go_num, HM2.out, HI2.out, HK2.out, by omega, HO2.out, HPR2.out, HC2.out⟩
          go_upto_block 2 with fail
          go_cut [7] (fun v7 wx => ∃ k A cap ages ps PL, MemAt W.heap.size wx mb pb A cap (mx : Int) ages ps ∧ Inv (2 * i + 2) k mx ages ps ∧ Kept ps (PL.map pzT) ∧ List.length PL ≤ i + 1 ∧
            wx.ownsRow W.heap.size 47 4 v7 PL.length (pzsC PL) ∧ (∀ z ∈ PL, Rd wx W.heap.size 58 2 z.A z.rows.length (rwsC z.rows)) ∧ Chg muM W.heap.size W wx)
          case first =>
            by_cases h3 : y.kind = 3
            · have e3 : (y.kind == 3) = true := by simp [h3]
              clear h3
              cases hpg : pget ps y.id with
              | none =>
                have HPG := Lib.hid hpg
                clear hpg
                go_wp2_with (first | (go_at_call 8; refine (pin_miss W.heap.size _ mb pb A cap mx ages ps y.id (HM.out.alloc _) HPG.out).mono ?_; rintro e w2 ⟨rfl, hb2⟩))
                go_meet
                have hC2 : Chg muM W.heap.size wr w2 := ((Chg.refl _ _ _).alloc _).trans (Chg.of_below hb2)
                exact ⟨k, _, _, _, _, PL, (HM.out.alloc _).ext hb2, HI.out.upto (by omega), HK.out, by omega, own_chg HO.out hC2 (fun _ _ => rfl), fun z hz => (HPR.out z hz).chg hC2 (fun _ _ => rfl), HC.out.trans hC2⟩
              | some p =>
                have hpp := HI.out.pins p (pget_mem hpg).1
                have hpr := HI.out.rows p (pget_mem hpg).1
                have hlen := HI.out.len
                have HPG := Lib.hid hpg
                clear hpg
                go_wp2_with (first
                  | (go_at_call 8; refine (pin_hit W.heap.size _ mb pb A cap mx ages ps y.id (HM.out.alloc _) (by omega) p HPG.out (by omega)).mono ?_; rintro e w2 ⟨rfl, ⟨A2, cap2, hM2⟩, hC2⟩; have HM2 := Lib.hid hM2; have HC2 := Lib.hid (((Chg.refl muM W.heap.size wr).alloc _).trans hC2); have HX2 := Lib.hid ((Bk.new wr 32 #[.int .i64 y.kind, .int .i64 y.id.b, .int .i64 y.id.s, .int .i64 y.id.p, .slice y.A y.rows.length y.cap]).chg hC2 (.inr rfl)); have x2 := HX2.out.cell; clear hM2 hC2)
                  | (go_at_call 7; refine (get_hit W.heap.size _ mb pb A2 cap2 mx (wo ages y.id ++ [y.id]) (setPins ps y.id (p.pins + 1)) y.id HM2.out (by rw [rot_len HI.out.nd ((HI.out.mem _).2 (by rw [HPG.out]; rfl))]; omega) { p with pins := p.pins + 1 } (by rw [pget_setPins_eq, HPG.out]; simp [(pget_mem HPG.out).2]) (by show p.rows.length ≤ _; omega)).mono ?_; rintro e w3 ⟨A3, c3, rfl, ⟨A4, cap4, hM3⟩, hown3, hc3, hC3⟩; have HM3 := Lib.hid hM3; have HC3 := Lib.hid (HC2.out.trans hC3); have HX3 := Lib.hid (HX2.out.chg hC3 (.inr rfl)); have x3 := HX3.out.cell; have HO3 := Lib.hid (own_chg HO.out HC3.out (fun _ _ => rfl)); have HW3 := Lib.hid (show w3.ownsRow w2.heap.size 58 2 (.slice A3 p.rows.length c3) p.rows.length (rwsC p.rows) from hown3); have hsz3 := HC3.out.size; clear hM3 hC3 hown3)
                  | (at_builtin; refine wpList_appE pz_app _ rfl (.tmp 72) (.tmp 77) rfl W.heap.size _ PL rfl (HO3.out.alloc _) ⟨y.id, A3, c3, p.rows⟩ _ rfl (Bk.new _ _ _) (by omega) (by have := HC.out.size; simp only [World.size_alloc]; omega) ?_; intro A5 c5 w5 hown5 hg5 hc5))
                go_meet
                have hOA := HO3.out.alloc (.cells (pzC ⟨y.id, A3, c3, p.rows⟩).toArray 47)
                have hKB := keepBut_own hOA (Nat.le_refl _) hg5
                have hb5 : Below W.heap.size W w5 := below_grownOwn (ext_alloc ((HC.out.trans HC3.out).below (Nat.le_refl _)) _) hOA (Nat.le_refl _) hg5
                have hps : (pget (setPins ps y.id (p.pins + 1)) y.id) = some { p with pins := p.pins + 1 } := by rw [pget_setPins_eq, HPG.out]; simp [(pget_mem HPG.out).2]
                refine ⟨k + 1, A4, cap4, _, _, PL ++ [⟨y.id, A3, c3, p.rows⟩], hKB.mem (HM3.out.alloc _) (by decide) (by decide) (by decide) (by decide), ((HI.out.pinned HPG.out).rot0 (by rw [hps]; rfl)).upto (by omega), ?_, by simp; omega, (by have h := hown5; simp only [List.length_append, List.length_cons, List.length_nil, Nat.zero_add] at h ⊢; exact h), fun z hz => ?_, Chg.of_below hb5⟩
                · rw [List.map_append]
                  exact (HK.out.pinned y.id p.pins).cons (p := { p with pins := p.pins + 1 }) hps (Nat.succ_pos _)
                · rcases List.mem_append.1 hz with hz | hz
                  · exact hKB.rd (((HPR.out z hz).chg HC3.out (fun _ _ => rfl)).alloc _) (by decide)
                  · rw [List.mem_singleton] at hz
                    subst hz
                    exact hKB.rd ((Rd.of_own (B := W.heap.size) HW3.out).alloc _) (by decide)
            · have e3 : (y.kind == 3) = false := by simp [h3]
              by_cases h1 : y.kind = 1
              · have e1 : (y.kind == 1) = true := by simp [h1]
                clear h1 h3
                go_wp2_with (first | (go_at_call 7; refine (get_keep W.heap.size _ mb pb A cap (2 * i) k mx ages ps y.id _ (HM.out.alloc _) HI.out HK.out (by omega)).mono ?_; rintro e w2 ⟨⟨_, _, _, _, rfl⟩, ⟨⟨A2, cap2, ag2, ps2, hM2, hI2, hK2⟩, hC2⟩⟩))
                go_meet
                have hC3 : Chg muM W.heap.size wr w2 := ((Chg.refl _ _ _).alloc _).trans hC2
                exact ⟨k, A2, cap2, ag2, ps2, PL, hM2, hI2.upto (by omega), hK2, by omega, own_chg HO.out hC3 (fun _ _ => rfl), fun z hz => (HPR.out z hz).chg hC3 (fun _ _ => rfl), HC.out.trans hC3⟩
              · have e1 : (y.kind == 1) = false := by simp [h1]
                by_cases h2 : y.kind = 2
                · have e2 : (y.kind == 2) = true := by simp [h2]
                  clear h1 h2 h3
                  go_wp2_with (first | (go_at_call 11; refine (has_c W.heap.size _ mb pb A cap mx ages ps y.id (HM.out.alloc _)).mono ?_; rintro e w2 ⟨rfl, hb2⟩))
                  go_meet
                  have hC3 : Chg muM W.heap.size wr w2 := ((Chg.refl _ _ _).alloc _).trans (Chg.of_below hb2)
                  exact ⟨k, _, _, _, _, PL, (HM.out.alloc _).ext hb2, HI.out.upto (by omega), HK.out, by omega, own_chg HO.out hC3 (fun _ _ => rfl), fun z hz => (HPR.out z hz).chg hC3 (fun _ _ => rfl), HC.out.trans hC3⟩
                · have e2 : (y.kind == 2) = false := by simp [h2]
                  clear h1 h2 h3
                  by_cases h64 : y.rows.length ≤ 64
                  · have hsl : ((y.rows.length : Nat) : Int) ≤ (y.cap : Nat) := by omega
                    have hs0 : (0 : Int) ≤ ((y.rows.length : Nat) : Int) := by omega
                    go_wp2
                    have h64' : ¬ (64 : Int) < ((y.rows.length : Nat) : Int) := by omega
                    go_region_held3 (fun w' => w'.cell? ⟨wr.heap.size, 1, none⟩ = some (.int .i64 y.id.b) ∧ w'.cell? ⟨wr.heap.size, 2, none⟩ = some (.int .i64 y.id.s) ∧ w'.cell? ⟨wr.heap.size, 3, none⟩ = some (.int .i64 y.id.p) ∧ w'.cell? ⟨wr.heap.size, 4, none⟩ = some (.slice y.A y.rows.length y.cap)) (first | go_keep)
                      (first | (go_at_call 9; refine (put_keep W.heap.size _ mb pb A cap (2 * i) k mx ages ps y.id _ ((HM.out.alloc _).drew) HI.out HK.out (by omega) (by omega) y.A y.cap y.rows ((HY.out.alloc _).drew) y.rows.length (by rw [List.length_take]; omega)).mono ?_; rintro e w2 ⟨⟨_, rfl⟩, ⟨⟨A2, cap2, ag2, ps2, hM2, hI2, hK2⟩, hC2⟩⟩; have hx2 := ((Bk.new wr 32 #[.int .i64 y.kind, .int .i64 y.id.b, .int .i64 y.id.s, .int .i64 y.id.p, .slice y.A y.rows.length y.cap]).drew.chg hC2 (.inr rfl)).cell))
                    go_wp2
                    go_meet
                    have hC3 : Chg muM W.heap.size wr w2 := (((Chg.refl _ _ _).alloc _).drew).trans hC2
                    exact ⟨k, A2, cap2, ag2, ps2, PL, hM2, hI2.upto (by omega), hK2, by omega, own_chg HO.out hC3 (fun _ _ => rfl), fun z hz => (HPR.out z hz).chg hC3 (fun _ _ => rfl), HC.out.trans hC3⟩
                  · have h64' : (64 : Int) < ((y.rows.length : Nat) : Int) := by omega
                    have hsl : (64 : Int) ≤ (y.cap : Nat) := by omega
                    go_wp2
                    go_region_held3 (fun w' => w'.cell? ⟨wr.heap.size, 1, none⟩ = some (.int .i64 y.id.b) ∧ w'.cell? ⟨wr.heap.size, 2, none⟩ = some (.int .i64 y.id.s) ∧ w'.cell? ⟨wr.heap.size, 3, none⟩ = some (.int .i64 y.id.p) ∧ w'.cell? ⟨wr.heap.size, 4, none⟩ = some (.slice y.A y.rows.length y.cap)) (first | go_keep)
                      (first | (go_at_call 9; refine (put_keep W.heap.size _ mb pb A cap (2 * i) k mx ages ps y.id _ ((HM.out.alloc _).drew) HI.out HK.out (by omega) (by omega) y.A y.cap y.rows ((HY.out.alloc _).drew) 64 (by rw [List.length_take]; omega)).mono ?_; rintro e w2 ⟨⟨_, rfl⟩, ⟨⟨A2, cap2, ag2, ps2, hM2, hI2, hK2⟩, hC2⟩⟩; have hx2 := ((Bk.new wr 32 #[.int .i64 y.kind, .int .i64 y.id.b, .int .i64 y.id.s, .int .i64 y.id.p, .slice y.A y.rows.length y.cap]).drew.chg hC2 (.inr rfl)).cell))
                    go_wp2
                    go_meet
                    have hC3 : Chg muM W.heap.size wr w2 := (((Chg.refl _ _ _).alloc _).drew).trans hC2
                    exact ⟨k, A2, cap2, ag2, ps2, PL, hM2, hI2.upto (by omega), hK2, by omega, own_chg HO.out hC3 (fun _ _ => rfl), fun z hz => (HPR.out z hz).chg hC3 (fun _ _ => rfl), HC.out.trans hC3⟩
          case rest =>
            clear d0 d1 d2 d3 d4 hcy
            obtain ⟨k2, A2, cap2, ages2, ps2, PL2, hM2, hI2, hK2, hPL2, hown2, hPR2, hC2⟩ := hcut
            obtain ⟨A8, c8, rfl, hc8⟩ := own_shape hown2
            have HM2 := Lib.hid hM2
            have HI2 := Lib.hid hI2
            have HK2 := Lib.hid hK2
            have HO2 := Lib.hid hown2
            have HPR2 := Lib.hid hPR2
            have HC2 := Lib.hid hC2
            have hus := hI2.used
            have hul := usedN_len ps2
            clear hM2 hI2 hK2 hown2 hPR2 hC2 hc7 hc8
            go_upto_block 3 with (first
              | (go_at_call 18; refine (list_c HS.out W.heap.size _ mb pb A2 cap2 mx ages2 ps2 HM2.out (by omega)).mono ?_; rintro e wl ⟨Al, cl, l, rfl, hperm, hsrt, hownl, hpo, hbl⟩))
            have hLs := HI2.out.listed (by exact hperm) hsrt
            have hll : l.length = ps2.length := by have := hperm.length_eq; simpa using this
            obtain ⟨S, hS0, hSn, hSs, hSl⟩ := hLs.sums
            have HSN := Lib.hid hSn
            have HSS := Lib.hid hSs
            have HSL := Lib.hid hSl
            have HS0 := Lib.hid hS0
            have HLL := Lib.hid hll
            have hlb : l.length ≤ 1000000 := by omega
            have HLS := Lib.hid hLs
            have HRL := Lib.hid (Rd.of_own (B := W.heap.size) hownl)
            have HBL := Lib.hid hbl
            clear hperm hsrt hownl hpo hbl hLs hll hS0 hSn hSs hSl
            go_cut [12] (fun v12 wx => v12 = .int .i64 (usedN ps2 : Nat) ∧ Below wl.heap.size wl wx)
            case first =>
              go_wp2_with fail
              go_loopg [12, 14] l.length (fun gk v12 v14 wr2 => ∃ j, j + gk = l.length ∧ v14 = .int .i64 (j : Nat) ∧ v12 = .int .i64 (S j : Nat) ∧ Below wl.heap.size wl wr2)
              case atStart => exact ⟨0, by simp, rfl, by rw [HS0.out]; rfl, Below.refl _ _⟩
              case round =>
                obtain ⟨j, hjk, rfl, rfl, hbj⟩ := hrel
                have HBJ := Lib.hid hbj
                clear hbj
                by_cases hj : j < l.length
                · have hz : l[j]? = some (l[j]) := List.getElem?_eq_getElem hj
                  generalize l[j] = z at hz
                  obtain ⟨ad2, rfl, f0, f1, f2, f3⟩ := (HRL.out.ext HBJ.out).pzs hz hj
                  have hsum := HSS.out j z hz
                  have hle := HSL.out (j + 1)
                  have hszz : szR z.rows = 8 + 16 * z.rows.length := rfl
                  have hzl : z.rows.length ≤ 140737488351232 := by omega
                  have hW2 : wrap64 ((S j : Int) + (8 + 16 * (z.rows.length : Int))) = (S (j + 1) : Nat) := by rw [show ((S j : Int) + (8 + 16 * (z.rows.length : Int))) = (S (j + 1) : Nat) by omega]; exact IntWalk.wrap64_in _ (by omega)
                  have HZ := Lib.hid hz
                  clear hz hsum hle hszz
                  by_cases hj0 : j = 0
                  · subst hj0
                    have ha0 : ad2.add (0 * 4) = ad2 := by simp [Addr.add]
                    rw [ha0] at f0 f1 f2 f3
                    have hl0 : 0 < l.length := hj
                    go_upto_region 26 with (first | (go_at_call 17; refine (size_c _ _ _ _ hzl).mono ?_; rintro e w' ⟨rfl, rfl⟩))
                    go_quiet (fail)
                    go_wp2_with fail
                    go_roundg (gk - 1)
                    case measure => omega
                    case rel => exact ⟨0 + 1, by omega, by go_num, congrArg _ hW2, below_drewN HBJ.out nq⟩
                  · have hjp : 0 < j := by omega
                    have hpj : j - 1 < l.length := by omega
                    have hv : l[j - 1]? = some (l[j - 1]) := List.getElem?_eq_getElem hpj
                    have hvz : bef (l[j - 1]).id z.id = true := by
                      have h1 := List.getElem?_eq_some_iff.1 HZ.out
                      have h2 := List.pairwise_iff_getElem.1 HLS.out.up (j - 1) j hpj h1.1 (by omega)
                      rw [h1.2] at h2
                      exact h2
                    generalize l[j - 1] = v at hv hvz
                    obtain ⟨ad3, he3, g0, g1, g2, g3⟩ := (HRL.out.ext HBJ.out).pzs hv hpj
                    obtain rfl := Option.some.inj he3
                    obtain ⟨j', hj'⟩ : ∃ j', j = j' + 1 := ⟨j - 1, by omega⟩
                    have hj1 : j - 1 = j' := by omega
                    rw [hj1] at g0 g1 g2 g3
                    have hWj : IntKind.i64.wrap ((j : Int) - 1) = (j' : Nat) := by rw [show (j : Int) - 1 = (j' : Nat) by omega]; exact IntWalk.i64_in _ (by omega)
                    have hlj : j' < l.length := by omega
                    have HV := Lib.hid hvz
                    have HJ := Lib.hid hj'
                    have hgt : (0 : Int) < (j : Nat) := by omega
                    clear hj0 hv hvz hj1 hj' he3 hpj
                    go_upto_region 26 with (first | (go_at_call 17; refine (size_c _ _ _ _ hzl).mono ?_; rintro e w' ⟨rfl, rfl⟩))
                    go_region_held3 (fun w' => w'.cell? (ad2.add (j * 4)) = some (.int .i64 z.id.b) ∧ w'.cell? ⟨(ad2.add (j * 4)).block, (ad2.add (j * 4)).off + 1, none⟩ = some (.int .i64 z.id.s) ∧ w'.cell? ⟨(ad2.add (j * 4)).block, (ad2.add (j * 4)).off + 2, none⟩ = some (.int .i64 z.id.p) ∧
                        w'.cell? (ad2.add (j' * 4)) = some (.int .i64 v.id.b) ∧ w'.cell? ⟨(ad2.add (j' * 4)).block, (ad2.add (j' * 4)).off + 1, none⟩ = some (.int .i64 v.id.s) ∧ w'.cell? ⟨(ad2.add (j' * 4)).block, (ad2.add (j' * 4)).off + 2, none⟩ = some (.int .i64 v.id.p)) (first | go_keep)
                      (first | (go_at_call 19; refine (before_c v.id z.id _).mono ?_; rw [HV.out]; rintro e w3 ⟨rfl, hg3⟩; have HB3 := Lib.hid (show Below wr.heap.size wr w3 from (by obtain ⟨q3, os3, rfl⟩ := hg3; exact ext_trans (Below.refl _ _).drew (grow_below (W := wr.drew) (q := q3) (os := os3)))); clear hg3; have gz := fun (a : Addr) (u : Value) (hu : wr.cell? a = some u) => (HB3.out.cell (World.block_lt_of_cell? wr _ hu)).trans hu; have z0 := gz _ _ f0; have z1 := gz _ _ f1; have z2 := gz _ _ f2; have y0 := gz _ _ g0; have y1 := gz _ _ g1; have y2 := gz _ _ g2; clear gz))
                    all_goals
                      go_wp2_with fail
                      go_roundg (gk - 1)
                      case measure => omega
                      case rel => exact ⟨j + 1, by omega, by go_num, rfl, ext_trans HBJ.out HB3.out⟩
                · have hjl : j = l.length := by omega
                  subst hjl
                  go_wp2
                  go_meet
                  rw [HSN.out]
                  exact ⟨rfl, HBJ.out⟩
            case rest =>
              obtain ⟨rfl, hbx⟩ := hcut
              have HB2 := Lib.hid (ext_trans HBL.out hbx)
              have HM3 := Lib.hid (HM2.out.ext HB2.out)
              have hum : ((usedN ps2 : Nat) : Int) ≤ (mx : Nat) := by omega
              have hum' : ¬ mx < usedN ps2 := by omega
              clear hbx
              go_upto_block 5 with (first
                | (go_at_call 13; refine (used_c W.heap.size _ mb pb A2 cap2 mx ages2 ps2 HM3.out (by omega)).mono ?_; rintro e w5 ⟨rfl, hb5⟩; have HB5 := Lib.hid (ext_trans HB2.out hb5); clear hb5))
              have HC5 := Lib.hid (HC2.out.trans (Chg.of_below HB5.out))
              have HM5 := Lib.hid (HM2.out.ext HB5.out)
              have hC5 : Chg muM W.heap.size _ w5 := Chg.of_below HB5.out
              have HO5 := Lib.hid (own_chg HO2.out hC5 (fun _ _ => rfl))
              have HPR5 := Lib.hid (fun z hz => (HPR2.out z hz).chg hC5 (fun _ _ => rfl))
              clear hC5
              go_wp2_with fail
              go_loopg [15, 16, 17] PL2.length (fun gk v15 v16 v17 wr3 => ∃ j A cap ages, j + gk = PL2.length ∧ v15 = .int .i64 (j : Nat) ∧ MemAt W.heap.size wr3 mb pb A cap (mx : Int) ages ps2 ∧ Inv (2 * i + 2) k2 mx ages ps2 ∧ wr3.ownsRow W.heap.size 47 4 (.slice A8 PL2.length c8) PL2.length (pzsC PL2) ∧
                (∀ z ∈ PL2, Rd wr3 W.heap.size 58 2 z.A z.rows.length (rwsC z.rows)) ∧ Chg muM W.heap.size W wr3)
              case atStart => exact ⟨0, _, _, _, by simp, rfl, HM5.out, HI2.out, HO5.out, HPR5.out, HC5.out⟩
              case round =>
                obtain ⟨j, A3, cap3, ages3, hjk, rfl, hM3, hI3, hown3, hPR3, hC3⟩ := hrel
                have HM6 := Lib.hid hM3
                have HI6 := Lib.hid hI3
                have HO6 := Lib.hid hown3
                have HPR6 := Lib.hid hPR3
                have HC6 := Lib.hid hC3
                have hag := hI3.len
                clear hM3 hI3 hown3 hPR3 hC3
                by_cases hj : j < PL2.length
                · have hz : PL2[j]? = some (PL2[j]) := List.getElem?_eq_getElem hj
                  have hzm : PL2[j] ∈ PL2 := List.getElem_mem hj
                  generalize PL2[j] = z at hz hzm
                  obtain ⟨ad2, hA8, f0, f1, f2, f3⟩ := (Rd.of_own (B := W.heap.size) HO6.out).pzs hz hj
                  subst hA8
                  obtain ⟨p, hp, hp0, hpr⟩ := HK2.out (pzT z) (List.mem_map_of_mem hzm)
                  have hp' : pget ps2 z.id = some p := hp
                  have hpr' : p.rows = z.rows := hpr
                  have h64 : p.rows.length ≤ 64 := HI6.out.rows p (pget_mem hp').1
                  have hisz : (pget ps2 z.id).isSome = true := by rw [hp']; rfl
                  have HPP := Lib.hid hp'
                  have HPQ := Lib.hid hpr'
                  have HIS := Lib.hid hisz
                  have HZR := Lib.hid (HPR6.out z hzm)
                  have HZI := Lib.hid hz
                  clear hz hzm hp hp' hpr hpr' hp0 hisz
                  go_upto_region 34 with (first
                    | (go_at_call 7; refine (get_hit W.heap.size _ mb pb A3 cap3 mx ages3 ps2 z.id HM6.out (by omega) p HPP.out (by omega)).mono ?_; rw [HPQ.out]; rintro e w7 ⟨G7, c7, rfl, ⟨A9, cap9, hM7⟩, hown7, hc7, hC7⟩; have HM7 := Lib.hid hM7; have HG7 := Lib.hid (Rd.of_own (B := W.heap.size) hown7); have HC7 := Lib.hid hC7; clear hM7 hown7 hC7))
                  have HO7 := Lib.hid (own_chg HO6.out HC7.out (fun _ _ => rfl))
                  obtain ⟨ad4, hA9, e0, e1, e2, e3⟩ := (Rd.of_own (B := W.heap.size) HO7.out).pzs HZI.out hj
                  obtain rfl := Option.some.inj hA9
                  have hC67 := HC7.out
                  have HZ7 := Lib.hid (HZR.out.chg HC7.out (fun _ _ => rfl))
                  have HP7 := Lib.hid (fun z hz => (HPR6.out z hz).chg HC7.out (fun _ _ => rfl))
                  have hzz : decide (z.rows = z.rows) = true := by simp
                  have hz64 : z.rows.length ≤ 2147483648 := by have := HPQ.out; rw [← this]; omega
                  clear hA9 hC67
                  go_wp2_with (first | (go_at_call 20; refine (same_c W.heap.size _ G7 z.A c7 z.cap z.rows z.rows HG7.out HZ7.out hz64).mono ?_; rw [hzz]; rintro e w8 ⟨rfl, hb8⟩; have HB8 := Lib.hid hb8; clear hb8))
                  go_roundg (gk - 1)
                  case measure => omega
                  case rel =>
                    have hC8 : Chg muM W.heap.size w7 w8 := Chg.of_below HB8.out
                    exact ⟨j + 1, A9, cap9, _, by omega, by go_num, HM7.out.ext HB8.out, HI6.out.rot0 HIS.out, own_chg HO7.out hC8 (fun _ _ => rfl), fun z hz => (HP7.out z hz).chg hC8 (fun _ _ => rfl), (HC6.out.trans HC7.out).trans hC8⟩
                · have hjl : j = PL2.length := by omega
                  subst hjl
                  go_wp2
                  go_meet
                  exact ⟨k2, _, _, _, ps2, PL2, HM6.out, HI6.out, HK2.out, hPL2, HO6.out, HPR6.out, HC6.out⟩
        · have hiT : i = 100 := by have := HT.out; omega
          go_wp2
          go_meet
          exact HC.out
      · go_wp2
        go_meet
        exact HC.out
  case rest =>
    have HU := Lib.hid (TypeVar.chg HG.out hg0 hcut)
    have HC := Lib.hid hcut
    clear hcut
    go_wp2_with (first | (go_at_call 14; refine (told_c _ HU.out).mono ?_; rintro e w9 ⟨rfl, hb9⟩))
    go_ret
    exact ⟨rfl, (HC.out.trans (Chg.of_below hb9)).below (Nat.le_refl _)⟩
end Go.Proofs.YtgigdhfdpabmoaaDoor
