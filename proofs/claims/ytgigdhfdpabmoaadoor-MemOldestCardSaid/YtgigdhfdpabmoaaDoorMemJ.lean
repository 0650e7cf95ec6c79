/- tributarylaw10.MemOldest, walked. -/
import Derived.Test.YtgigdhfdpabmoaaDoorMemI
namespace Go.Proofs.YtgigdhfdpabmoaaDoor
open Go.RowKit
attribute [local go_sem high] id_eqI

set_option maxRecDepth 100000 in
set_option maxHeartbeats 8000000 in
theorem oldest_c (W : World) (max : Int) (Aa : Option Addr) (ca : Nat) (acts : List ActC) (x : Id3) (Al : Option Addr) (cl : Nat) (l : List Rw) (hg : TypeVar W)
    (ha : Rd W W.heap.size 32 5 Aa acts.length (actsC acts)) (har : ∀ a ∈ acts, Rd W W.heap.size 58 2 a.A a.rows.length (rwsC a.rows)) (hap : ∀ a ∈ acts, a.rows.length ≤ a.cap)
    (hl : Rd W W.heap.size 58 2 Al l.length (rwsC l)) (hlc : l.length ≤ cl) :
    Calls Tryd.prog 3 #[.int .i64 max, .slice Aa acts.length ca, idV x, .slice Al l.length cl] W (BoolPost W true) := by
  obtain ⟨mx, hmx, hmx2⟩ := mask_mod max 1500 (by omega)
  obtain ⟨T, hT1, hT2, hT3⟩ : ∃ T, T ≤ acts.length ∧ T ≤ 60 ∧ (T = acts.length ∨ T = 60) := ⟨Nat.min acts.length 60, Nat.min_le_left _ _, Nat.min_le_right _ _, by simp only [Nat.min_def]; split <;> simp⟩
  have HT := Lib.hid hT3
  clear hT3
  have HA := Lib.hid ha
  have HR := Lib.hid har
  have HP := Lib.hid hap
  have HL := Lib.hid hl
  have HG := Lib.hid hg
  clear ha har hap hl hg
  go_enter Tryd.func3, Tryd.ntmps3
  go_upto_region 2 with fail
  simp only [show ((1500 : Nat) : Int) = 1500 from rfl] at hmx
  rw [hmx]
  go_upto_block 0 with (first
    | (go_at_call 6; refine (new_c W.heap.size _ (mx : Int) (by simp) (by omega) (by omega)).mono ?_; rintro e w1 ⟨mb, pb, A1, cap1, rfl, hM1, hb1, hmb⟩))
  have hx1 := (Bk.new W 24 #[.int .i64 x.b, .int .i64 x.s, .int .i64 x.p]).ext hb1
  have HB1 := Lib.hid (ext_trans (ext_alloc (Below.refl _ _) _) hb1)
  have HM1 := Lib.hid hM1
  have HX1 := Lib.hid hx1
  clear hb1 hM1 hx1
  go_cut [11] (fun v11 wx => ∃ k A cap ages ps, v11 = .int .i64 (k : Nat) ∧ k ≤ 60 ∧ MemAt W.heap.size wx mb pb A cap (mx : Int) ages ps ∧ Inv 60 k mx ages ps ∧ Bk wx W.heap.size 24 #[.int .i64 x.b, .int .i64 x.s, .int .i64 x.p] ∧ Chg muM W.heap.size W wx)
  case first =>
    go_wp2_with fail
    go_loopg [11, 12] T (fun gk v11 v12 wr => ∃ i k A cap ages ps, i + gk = T ∧ v12 = .int .i64 (i : Nat) ∧ v11 = .int .i64 (k : Nat) ∧ k ≤ i ∧ MemAt W.heap.size wr mb pb A cap (mx : Int) ages ps ∧ Inv i k mx ages ps ∧
      Bk wr W.heap.size 24 #[.int .i64 x.b, .int .i64 x.s, .int .i64 x.p] ∧ Chg muM W.heap.size W wr)
    case atStart => exact ⟨0, 0, _, _, _, _, by simp, rfl, rfl, Nat.le_refl _, HM1.out, inv_nil _, HX1.out, Chg.of_below HB1.out⟩
    case round =>
      obtain ⟨i, k, A, cap, ages, ps, hik, rfl, rfl, hki, hM, hI, hX, hC⟩ := hrel
      have HM := Lib.hid hM
      have HI := Lib.hid hI
      have HX := Lib.hid hX
      have HC := Lib.hid hC
      clear hM hI hX hC
      by_cases hi : i < acts.length
      · by_cases h60 : i < 60
        · have hiT : i < T := by have := HT.out; omega
          have hy : acts[i]? = some (acts[i]) := List.getElem?_eq_getElem hi
          generalize acts[i] = y at hy
          obtain ⟨ad, rfl, d0, d1, d2, d3, d4⟩ := (HA.out.chg HC.out (fun _ _ => rfl)).acts hy hi
          have hym : y ∈ acts := List.mem_of_getElem? hy
          have HY := Lib.hid ((HR.out y hym).chg HC.out (fun _ _ => rfl))
          have hcy := HP.out y hym
          clear hy hym
          by_cases h1 : y.kind = 1
          · have e1 : (y.kind == 1) = true := by simp [h1]
            go_wp2_with (first | (go_at_call 7; refine (get_any W.heap.size _ mb pb A cap i k mx ages ps y.id (HM.out.alloc _) HI.out (by omega)).mono ?_; rintro e w2 ⟨⟨_, _, _, _, rfl⟩, ⟨⟨A2, cap2, ag2, ps2, hM2, hI2⟩, hC2⟩⟩))
            go_roundg (gk - 1)
            case measure => omega
            case rel => exact ⟨i + 1, k, A2, cap2, ag2, ps2, by omega, by go_num, rfl, by omega, hM2, hI2, (HX.out.alloc _).chg hC2 (.inr rfl), (HC.out.alloc _).trans hC2⟩
          · have e1 : (y.kind == 1) = false := by simp [h1]
            by_cases h3 : y.kind = 3
            · have e3 : (y.kind == 3) = true := by simp [h3]
              go_wp2_with (first | (go_at_call 8; refine (pin_any W.heap.size _ mb pb A cap i k mx ages ps y.id (HM.out.alloc _) HI.out (by omega)).mono ?_; rintro e w2 ⟨b, rfl, ⟨⟨A2, cap2, ag2, ps2, hM2, hI2⟩, hC2⟩⟩; rcases b with _ | _))
              · go_roundg (gk - 1)
                case measure => omega
                case rel => exact ⟨i + 1, k, A2, cap2, ag2, ps2, by omega, by go_num, rfl, by omega, hM2, hI2, (HX.out.alloc _).chg hC2 (.inr rfl), (HC.out.alloc _).trans hC2⟩
              · go_wp2
                go_roundg (gk - 1)
                case measure => omega
                case rel => exact ⟨i + 1, k + 1, A2, cap2, ag2, ps2, by omega, by go_num, by go_num, by omega, hM2, hI2, (HX.out.alloc _).chg hC2 (.inr rfl), (HC.out.alloc _).trans hC2⟩
            · have e3 : (y.kind == 3) = false := by simp [h3]
              by_cases h64 : y.rows.length ≤ 64
              · have hcap := hcy
                have hsl : ((y.rows.length : Nat) : Int) ≤ (y.cap : Nat) := by omega
                have hs0 : (0 : Int) ≤ ((y.rows.length : Nat) : Int) := by omega
                go_wp2
                have h64' : ¬ (64 : Int) < ((y.rows.length : Nat) : Int) := by omega
                go_region_held3 (fun w' => w'.cell? ⟨wr.heap.size, 1, none⟩ = some (.int .i64 y.id.b) ∧ w'.cell? ⟨wr.heap.size, 2, none⟩ = some (.int .i64 y.id.s) ∧ w'.cell? ⟨wr.heap.size, 3, none⟩ = some (.int .i64 y.id.p) ∧ w'.cell? ⟨wr.heap.size, 4, none⟩ = some (.slice y.A y.rows.length y.cap)) (first | go_keep)
                  (first | (go_at_call 9; refine (put_some W.heap.size _ mb pb A cap i k mx ages ps y.id ((HM.out.alloc _).drew) HI.out (by omega) (by omega) y.A y.cap y.rows ((HY.out.alloc _).drew) y.rows.length (by rw [List.length_take]; omega)).mono ?_; rintro e w2 ⟨⟨_, rfl⟩, ⟨⟨A2, cap2, ag2, ps2, hM2, hI2⟩, hC2⟩⟩; have hx2 := ((Bk.new wr 32 #[.int .i64 y.kind, .int .i64 y.id.b, .int .i64 y.id.s, .int .i64 y.id.p, .slice y.A y.rows.length y.cap]).drew.chg hC2 (.inr rfl)).cell))
                go_wp2
                go_roundg (gk - 1)
                case measure => omega
                case rel => exact ⟨i + 1, k, A2, cap2, ag2, ps2, by omega, by go_num, rfl, by omega, hM2, hI2, ((HX.out.alloc _).drew).chg hC2 (.inr rfl), ((HC.out.alloc _).drew).trans hC2⟩
              · have h64' : (64 : Int) < ((y.rows.length : Nat) : Int) := by omega
                have hsl : (64 : Int) ≤ (y.cap : Nat) := by omega
                go_wp2
                go_region_held3 (fun w' => w'.cell? ⟨wr.heap.size, 1, none⟩ = some (.int .i64 y.id.b) ∧ w'.cell? ⟨wr.heap.size, 2, none⟩ = some (.int .i64 y.id.s) ∧ w'.cell? ⟨wr.heap.size, 3, none⟩ = some (.int .i64 y.id.p) ∧ w'.cell? ⟨wr.heap.size, 4, none⟩ = some (.slice y.A y.rows.length y.cap)) (first | go_keep)
                  (first | (go_at_call 9; refine (put_some W.heap.size _ mb pb A cap i k mx ages ps y.id ((HM.out.alloc _).drew) HI.out (by omega) (by omega) y.A y.cap y.rows ((HY.out.alloc _).drew) 64 (by rw [List.length_take]; omega)).mono ?_; rintro e w2 ⟨⟨_, rfl⟩, ⟨⟨A2, cap2, ag2, ps2, hM2, hI2⟩, hC2⟩⟩; have hx2 := ((Bk.new wr 32 #[.int .i64 y.kind, .int .i64 y.id.b, .int .i64 y.id.s, .int .i64 y.id.p, .slice y.A y.rows.length y.cap]).drew.chg hC2 (.inr rfl)).cell))
                go_wp2
                go_roundg (gk - 1)
                case measure => omega
                case rel => exact ⟨i + 1, k, A2, cap2, ag2, ps2, by omega, by go_num, rfl, by omega, hM2, hI2, ((HX.out.alloc _).drew).chg hC2 (.inr rfl), ((HC.out.alloc _).drew).trans hC2⟩
        · have hiT : i = 60 := by have := HT.out; omega
          subst hiT
          go_wp2
          go_meet
          exact ⟨k, _, _, _, _, rfl, hki, HM.out, HI.out, HX.out, HC.out⟩
      · have hiT : i ≤ 60 := by omega
        go_wp2
        go_meet
        exact ⟨k, _, _, _, _, rfl, by omega, HM.out, HI.out.upto hiT, HX.out, HC.out⟩
  case rest =>
    obtain ⟨k, A, cap, ages, ps, rfl, hk, hM, hI, hX, hC⟩ := hcut
    have hg0 : 0 < W.heap.size := World.block_lt_of_cell? W _ HG.out
    have hmb2 : mb < wc.heap.size := hM.blk.lt
    have HM := Lib.hid hM
    have HI := Lib.hid hI
    have HX := Lib.hid hX
    have HC := Lib.hid hC
    have hil := hI.len
    have hxc := hX.cell
    have hxl := hX.lt
    have hus := hI.used
    have hpn := hI.pin
    have hpk : decide (k < pinsN ps) = false := by simp; omega
    have hpl := pinsN_le ps
    have hul := usedN_len ps
    clear hM hI hX hC
    go_upto_region 17 with fail
    go_cut [14] (fun v14 wx => ∃ m, v14 = .slice Al m cl ∧ m = (l.take 64).length ∧ wx = wc)
    case first =>
      by_cases h64 : l.length ≤ 64
      · have h64' : ((l.length : Nat) : Int) ≤ 64 := by omega
        have hsl : ((l.length : Nat) : Int) ≤ (cl : Nat) := by omega
        go_wp2_with fail
        go_meet
        exact ⟨_, rfl, by rw [List.length_take]; omega, rfl⟩
      · have h64' : ¬ ((l.length : Nat) : Int) ≤ 64 := by omega
        have hsl : (64 : Int) ≤ (cl : Nat) := by omega
        go_wp2_with fail
        go_meet
        exact ⟨64, rfl, by rw [List.length_take]; omega, rfl⟩
    case rest =>
      obtain ⟨m, rfl, hm, rfl⟩ := hcut
      have hml : m ≤ 64 := by rw [hm, List.length_take]; omega
      have HR := Lib.hid (show Rd wc W.heap.size 58 2 Al m (rwsC (l.take 64)) from by rw [hm]; exact (HL.out.takeR rfl 64).chg HC.out (fun _ _ => rfl))
      have HMm := Lib.hid hm
      clear hm
      go_wp2_with fail
      go_region_held3 (fun w' => w'.cell? ⟨W.heap.size, 0, none⟩ = some (.int .i64 x.b) ∧ w'.cell? ⟨W.heap.size, 1, none⟩ = some (.int .i64 x.s) ∧ w'.cell? ⟨W.heap.size, 2, none⟩ = some (.int .i64 x.p)) (first | go_keep)
        (first
          | (go_at_call 10; refine (ages_c W.heap.size _ mb pb A cap mx ages ps HM.out.drew (by omega)).mono ?_; rintro e w2 ⟨G2, c2, rfl, hown2, hc2, hb2⟩; have HM2 := Lib.hid (HM.out.drew.ext hb2); have HX2 := Lib.hid (HX.out.drew.ext hb2); have HB2 := Lib.hid (show Below wc.heap.size wc w2 from ext_trans (Below.refl _ _).drew hb2); have HG2 := Lib.hid (Rd.of_own (B := W.heap.size) hown2); have hx2 := HX2.out.cell; clear hown2 hb2)
          | (go_at_call 11; refine (has_c W.heap.size _ mb pb A cap mx ages ps x HM2.out).mono ?_; rintro e w3 ⟨rfl, hb3⟩; have HM3 := Lib.hid (HM2.out.ext hb3); have HX3 := Lib.hid (HX2.out.ext hb3); have HB3 := Lib.hid (ext_trans HB2.out hb3); have HG3 := Lib.hid (HG2.out.ext hb3); have hx3 := HX3.out.cell; clear hb3)
          | (go_at_call 12; refine (pins_c W.heap.size _ mb pb A cap mx ages ps HM3.out (by omega)).mono ?_; rintro e w4 ⟨rfl, hb4⟩; have HM4 := Lib.hid (HM3.out.ext hb4); have HX4 := Lib.hid (HX3.out.ext hb4); have HB4 := Lib.hid (ext_trans HB3.out hb4); have HG4 := Lib.hid (HG3.out.ext hb4); have hx4 := HX4.out.cell; clear hb4))
      go_upto_region 20 with (first
        | (go_at_call 13; refine (used_c W.heap.size _ mb pb A cap mx ages ps HM4.out (by omega)).mono ?_; rintro e w5 ⟨rfl, hb5⟩; have HM5 := Lib.hid (HM4.out.ext hb5); have HX5 := Lib.hid (HX4.out.ext hb5); have HB5 := Lib.hid (ext_trans HB4.out hb5); have HG5 := Lib.hid (HG4.out.ext hb5); have hx5 := HX5.out.cell; clear hb5))
      have HU := Lib.hid (TypeVar.chg HG.out hg0 HC.out)
      have hsz5 := HB5.out.size
      clear hx2 hx3 hx4
      by_cases hh : (pget ps x).isSome = true
      · have hxm : x ∈ ages := (HI.out.mem x).2 hh
        have hln := wo_count HI.out.nd hxm
        have hlast : (wo ages x ++ [x])[(wo ages x).length]? = some x := by simp
        have HH := Lib.hid hh
        clear hxm
        go_upto_region 26 with (first
          | (go_at_call 9; refine (put_held W.heap.size _ mb pb A cap mx ages ps x HM5.out (by omega) HH.out Al m cl).mono ?_; rintro e w6 ⟨rfl, ⟨A6, cap6, hM6⟩, hC6⟩; have HM6 := Lib.hid hM6; have HC6 := Lib.hid hC6; clear hM6 hC6)
          | (go_at_call 10; refine (ages_c W.heap.size _ mb pb A6 cap6 mx (wo ages x ++ [x]) ps HM6.out (by rw [rot_len HI.out.nd ((HI.out.mem x).2 HH.out)]; omega)).mono ?_; rw [List.length_append, List.length_singleton]; rintro e w7 ⟨G7, c7, rfl, hown7, hc7, hb7⟩; have HM7 := Lib.hid (HM6.out.ext hb7); have HB7 := Lib.hid hb7; have HG7 := Lib.hid (Rd.of_own (B := W.heap.size) hown7); clear hown7 hb7)
          | (go_at_call 12; refine (pins_c W.heap.size _ mb pb A6 cap6 mx _ ps HM7.out (by omega)).mono ?_; rintro e w8 ⟨rfl, hb8⟩; have HB8 := Lib.hid (ext_trans HB7.out hb8); have HM8 := Lib.hid (HM7.out.ext hb8); have HG8 := Lib.hid (HG7.out.ext hb8); clear hb8))
        obtain ⟨ad, rfl, d0, d1, d2⟩ := HG8.out.ids hlast (by omega)
        have hx8 := ((HX5.out.chg HC6.out (.inr rfl)).ext HB8.out).cell
        have HU8 := Lib.hid ((TypeVar.chg HU.out (by omega) ((Chg.of_below HB5.out).trans (HC6.out.trans (Chg.of_below (mu := muM) HB8.out)))))
        have HCC := Lib.hid (HC.out.trans ((Chg.of_below HB5.out).trans (HC6.out.trans (Chg.of_below (mu := muM) HB8.out))))
        generalize hN : (wo ages x).length = N at d0 d1 d2 hln
        have hW : IntKind.i64.wrap ((ages.length : Int) - 1) = N := by rw [show (ages.length : Int) - 1 = N by omega]; exact IntWalk.i64_in _ (by omega)
        have hz : ((ages.length : Int) == 0) = false := by simp; intro e; rw [e] at hln; simp at hln
        have HN := Lib.hid hN
        clear hN hlast hxc
        go_quiet (fail)
        go_wp2_with (first
          | (go_at_call 14; refine (told_c _ (show TypeVar (w8.drewN nq) from HU8.out)).mono ?_; rintro e w9 ⟨rfl, hb9⟩; have HB9 := Lib.hid (ext_trans (below_drewN (Below.refl _ _) nq) hb9); have HM9 := Lib.hid (HM8.out.ext HB9.out); clear hb9)
          | (go_at_call 13; refine (used_c W.heap.size _ mb pb A6 cap6 mx _ ps HM9.out (by omega)).mono ?_; rintro e w10 ⟨rfl, hb10⟩))
        go_ret
        exact ⟨by simp, (HCC.out.trans (Chg.of_below (ext_trans HB9.out hb10))).below (Nat.le_refl _)⟩
      · have hh' : (pget ps x).isSome = false := by simpa using hh
        have HH := Lib.hid hh'
        have HLL := Lib.hid (show m = (l.take 64).length from HMm.out)
        have HPN := Lib.hid (pinnedN_le ps)
        clear hh
        have hszl : szR (l.take 64) = 8 + 16 * m := by rw [HLL.out]; rfl
        have hpe : usedN ps ≤ mx := hus
        have hput := fun (W' : World) (hM : MemAt W.heap.size W' mb pb A cap mx ages ps) (hR : Rd W' W.heap.size 58 2 Al (l.take 64).length (rwsC (l.take 64))) => put_new W.heap.size W' mb pb A cap mx ages ps x hM HH.out Al cl (l.take 64) hR (by rw [← HLL.out]; omega) HI.out.used (by omega) (by omega) (fun y hy => (HI.out.mem y).1 hy) HI.out.nd
        rw [← HLL.out] at hput
        have HPUT := Lib.hid hput
        clear hput
        by_cases hno : mx < szR (l.take 64) + pinnedN ps
        · have HNO := Lib.hid hno
          clear hno
          go_upto_region 25 with (first
            | (go_at_call 9; refine (HPUT.out _ HM5.out (HR.out.ext HB5.out)).mono ?_; rintro e w6 ⟨hn6, -⟩; obtain ⟨v6, rfl, ⟨fb, rfl, he6⟩, hb6⟩ := hn6 HNO.out; have HE6 := Lib.hid he6; have HB6 := Lib.hid hb6; have HM6 := Lib.hid (HM5.out.ext hb6); clear hn6 he6 hb6)
            | (go_at_call 10; refine (ages_c W.heap.size _ mb pb A cap mx ages ps HM6.out (by omega)).mono ?_; rintro e w7 ⟨G7, c7, rfl, hown7, hc7, hb7⟩; have HM7 := Lib.hid (HM6.out.ext hb7); have HB67 := Lib.hid hb7; have HB7 := Lib.hid (ext_trans HB6.out hb7); have HG7 := Lib.hid (Rd.of_own (B := W.heap.size) hown7); clear hown7 hb7)
            | (go_at_call 12; refine (pins_c W.heap.size _ mb pb A cap mx _ ps HM7.out (by omega)).mono ?_; rintro e w8 ⟨rfl, hb8⟩; have HB8 := Lib.hid (ext_trans HB7.out hb8); have HM8 := Lib.hid (HM7.out.ext hb8); have HG8 := Lib.hid (HG7.out.ext hb8); have HE8 := Lib.hid ((HE6.out.ext (HB67.out)).ext hb8); clear hb8))
          have HU8 := Lib.hid ((TypeVar.chg HU.out (by omega) ((Chg.of_below (mu := muM) HB5.out).trans ((Chg.of_below (mu := muM) HB8.out)))))
          go_wp2_with (first
            | (go_at_call 14; refine (told_c _ HU8.out).mono ?_; rintro e w9 ⟨rfl, hb9⟩; have HB9 := Lib.hid hb9; clear hb9)
            | (go_at_call 15; refine (code_c 1 _ 100 _ ⟨fb, _, _, _, rfl, (HE8.out.ext HB9.out), rfl⟩ (TypeVar.chg HU8.out (by have := HB8.out.size; omega) (Chg.of_below (mu := muM) HB9.out))).mono ?_; rintro e w10 ⟨rfl, hb10⟩; have HB10 := Lib.hid (ext_trans HB9.out hb10); clear hb10)
            | (go_at_call 16; refine (sameIDs_c W.heap.size _ _ _ _ _ ages ages (((HG5.out.ext HB8.out).ext HB10.out)) (HG8.out.ext HB10.out) (by omega) (by omega)).mono ?_; rintro e w11 ⟨rfl, hb11⟩; have HB11 := Lib.hid (ext_trans HB10.out hb11); have HM11 := Lib.hid (HM8.out.ext HB11.out); clear hb11)
            | (go_at_call 13; refine (used_c W.heap.size _ mb pb A cap mx _ ps HM11.out (by omega)).mono ?_; rintro e w12 ⟨rfl, hb12⟩))
          go_ret
          exact ⟨by simp, (HC.out.trans ((Chg.of_below (mu := muM) HB5.out).trans ((Chg.of_below (mu := muM) HB8.out).trans (Chg.of_below (ext_trans HB11.out hb12))))).below (Nat.le_refl _)⟩
        · have hge : szR (l.take 64) + pinnedN ps ≤ mx := by omega
          have hev := HI.out.evd (l := l.take 64) hge
          have hfull := evict_full (l := l.take 64) HI.out hge
          have hxn := evd_none HI.out HH.out hev
          have HGE := Lib.hid hge
          generalize hr : evict mx (szR (l.take 64)) ages ages ps = r at hev hfull hxn
          obtain ⟨pre, psr⟩ := r
          have hwo : wo pre x = pre := wo_none hxn
          have hsubl := hev.sub.length_le
          have hpins := hev.pins
          have hfits := hev.fits
          simp only at hsubl hpins hfits hfull
          have HEV := Lib.hid hev
          have HFU := Lib.hid hfull
          have HRR := Lib.hid hr
          have HWO := Lib.hid hwo
          obtain ⟨N, hN⟩ : ∃ N, N = pre.length + 1 := ⟨_, rfl⟩
          have hlast : (pre ++ [x])[pre.length]? = some x := by simp
          have hW : IntKind.i64.wrap ((N : Int) - 1) = (pre.length : Nat) := by rw [show (N : Int) - 1 = (pre.length : Nat) by omega]; exact IntWalk.i64_in _ (by omega)
          have hz : ((N : Int) == 0) = false := by simp; omega
          have hltN : pre.length < N := by omega
          have HN := Lib.hid hN
          clear hge hno hev hfull hxn hr hwo hN
          go_upto_region 26 with (first
            | (go_at_call 9; refine (HPUT.out _ HM5.out (HR.out.ext HB5.out)).mono ?_; rintro e w6 ⟨-, hy6⟩; obtain ⟨rfl, ⟨A6, cap6, q, hq1, hq2, hq3, hM6⟩, hC6⟩ := hy6 HGE.out; rw [HRR.out, HWO.out] at hM6; simp only at hM6; have HM6 := Lib.hid hM6; have HC6 := Lib.hid hC6; have HQ2 := Lib.hid hq2; have HQ3 := Lib.hid hq3; clear hy6 hq1 hq2 hq3 hM6 hC6)
            | (go_at_call 10; refine (ages_c W.heap.size _ mb pb A6 cap6 mx _ _ HM6.out (by rw [List.length_append, List.length_singleton]; omega)).mono ?_; rw [List.length_append, List.length_singleton, ← HN.out]; rintro e w7 ⟨G7, c7, rfl, hown7, hc7, hb7⟩; have HM7 := Lib.hid (HM6.out.ext hb7); have HB7 := Lib.hid hb7; have HG7 := Lib.hid (Rd.of_own (B := W.heap.size) hown7); clear hown7 hb7)
            | (go_at_call 12; refine (pins_c W.heap.size _ mb pb A6 cap6 mx _ _ HM7.out (by rw [List.length_append, List.length_singleton]; have := HEV.out.subp.length_le; simp only at this; omega)).mono ?_; rw [pinsN_append, pinsN_cons, HQ3.out, show pinsN [] = 0 from rfl, hpins]; rintro e w8 ⟨rfl, hb8⟩; have HB8 := Lib.hid (ext_trans HB7.out hb8); have HM8 := Lib.hid (HM7.out.ext hb8); have HG8 := Lib.hid (HG7.out.ext hb8); clear hb8))
          obtain ⟨ad, rfl, d0, d1, d2⟩ := HG8.out.ids hlast (by have := HN.out; omega)
          have hx8 := ((HX5.out.chg HC6.out (.inr rfl)).ext HB8.out).cell
          have HU8 := Lib.hid ((TypeVar.chg HU.out (by omega) ((Chg.of_below HB5.out).trans (HC6.out.trans (Chg.of_below (mu := muM) HB8.out)))))
          have HCC := Lib.hid (HC.out.trans ((Chg.of_below HB5.out).trans (HC6.out.trans (Chg.of_below (mu := muM) HB8.out))))
          have HG2' := Lib.hid ((HG5.out.chg HC6.out (fun _ _ => rfl)).ext HB8.out)
          clear hlast hxc
          go_quiet (fail)
          go_upto_block 3 with fail
          go_cut [21] (fun v21 wx => ∃ n, wx = w8.drewN n)
          case first =>
            go_wp2_with fail
            go_loopg [21, 22] pre.length (fun gk v21 v22 wr => ∃ i kk n, i + gk = pre.length ∧ v22 = .int .i64 (i : Nat) ∧ v21 = .int .i64 (kk : Nat) ∧ Hid (List.Sublist (pre.drop i) (ages.drop kk)) ∧ kk ≤ ages.length ∧ wr = w8.drewN n)
            case atStart => exact ⟨0, 0, _, by simp, rfl, rfl, HEV.out.sub, Nat.zero_le _, rfl⟩
            case round =>
              obtain ⟨i, kk, n, hgk, rfl, rfl, hsb, hkk, rfl⟩ := hrel
              by_cases hi : i < pre.length
              · have hiN : (i : Int) < (N : Int) - 1 := by have := HN.out; omega
                have hy : (pre ++ [x])[i]? = some (pre[i]) := by rw [List.getElem?_append_left hi, List.getElem?_eq_getElem hi]
                have hdr : pre.drop i = pre[i] :: pre.drop (i + 1) := List.drop_eq_getElem_cons hi
                generalize pre[i] = y at hy hdr
                obtain ⟨ad', he, e0, e1, e2⟩ := HG8.out.ids hy (by have := HN.out; omega)
                obtain rfl := Option.some.inj he
                have HD := Lib.hid hdr
                clear hy hdr he
                go_upto_block 5 with fail
                go_cut [21] (fun v21 wx => ∃ kk n, v21 = .int .i64 (kk : Nat) ∧ kk < ages.length ∧ Hid (List.Sublist (pre.drop (i + 1)) (ages.drop (kk + 1))) ∧ wx = w8.drewN n)
                case first =>
                  go_wp2_with fail
                  go_loopg [21] (ages.length - kk) (fun gk v21 wr => ∃ kk n, kk + gk = ages.length ∧ v21 = .int .i64 (kk : Nat) ∧ Hid (List.Sublist (pre.drop i) (ages.drop kk)) ∧ wr = w8.drewN n)
                  case atStart => exact ⟨kk, _, by omega, rfl, hsb, rfl⟩
                  case round =>
                    clear hsb hkk
                    obtain ⟨kk, n, hgk2, rfl, hsb, rfl⟩ := hrel
                    have hk2 : kk < ages.length := by
                      rcases Nat.lt_or_ge kk ages.length with h | h
                      · exact h
                      · have h1 := hsb.out
                        rw [HD.out, List.drop_eq_nil_of_le h] at h1
                        cases h1
                    have hz' : ages[kk]? = some (ages[kk]) := List.getElem?_eq_getElem hk2
                    have hdr2 : ages.drop kk = ages[kk] :: ages.drop (kk + 1) := List.drop_eq_getElem_cons hk2
                    generalize ages[kk] = z at hz' hdr2
                    obtain ⟨ad2, hG2e, f0, f1, f2⟩ := HG2'.out.ids hz' hk2
                    have HS := Lib.hid (show List.Sublist (y :: pre.drop (i + 1)) (z :: ages.drop (kk + 1)) from by have h1 := hsb.out; rw [HD.out, hdr2] at h1; exact h1)
                    have HD2 := Lib.hid hdr2
                    clear hsb hz' hdr2
                    subst hG2e
                    by_cases hzy : z = y
                    · have hNe : (!decide (z.b = y.b) || (!decide (z.s = y.s) || !decide (z.p = y.p))) = false := by rw [hzy]; simp
                      have HZ := Lib.hid hzy
                      clear hzy
                      go_wp2
                      go_quiet (fail)
                      go_wp2
                      go_meet
                      have h1 := HS.out
                      rw [HZ.out] at h1
                      exact ⟨kk, n + nq, rfl, hk2, (List.cons_sublist_cons.1 h1), by simp only [World.drewN_drewN]⟩
                    · have hNe := ne_bool hzy
                      have HZ := Lib.hid hzy
                      clear hzy
                      go_wp2
                      go_quiet (fail)
                      go_wp2
                      go_roundg (gk - 1)
                      case measure => omega
                      case rel =>
                        refine ⟨kk + 1, n + nq, by omega, by go_num, ?_, by simp only [World.drewN_drewN]⟩
                        rw [HD.out]
                        rcases List.sublist_cons_iff.1 HS.out with h1 | ⟨r, h1, h2⟩
                        · exact h1
                        · injection h1 with h1 _
                          exact absurd h1.symm HZ.out
                case rest =>
                  clear hsb hkk
                  obtain ⟨kk, n, rfl, hk2, hsb, rfl⟩ := hcut
                  have hne : ((kk : Int) == (ages.length : Nat)) = false := by simp; omega
                  go_wp2
                  go_roundg (gk - 1)
                  case measure => omega
                  case rel => exact ⟨i + 1, kk + 1, n, by omega, by go_num, by go_num, hsb, by omega, rfl⟩
              · have hiN : ¬ (i : Int) < (N : Int) - 1 := by have := HN.out; omega
                go_wp2
                go_meet
                exact ⟨n, rfl⟩
          case rest =>
            obtain ⟨n, rfl⟩ := hcut
            have huse : usedN (psr ++ [q]) = usedN psr + szR (l.take 64) := by rw [usedN_append, usedN_cons, usedN_nil, HQ2.out]; rfl
            have hszq : ((szR (l.take 64) : Nat) : Int) = 8 + 16 * (m : Int) := by rw [hszl]; omega
            have hum : ((usedN (psr ++ [q]) : Nat) : Int) ≤ (mx : Nat) := by rw [huse]; omega
            have hW3 : IntKind.i64.wrap ((usedN ps : Int) + (8 + 16 * (m : Int))) = (usedN ps : Int) + (8 + 16 * (m : Int)) := IntWalk.i64_in _ (by omega)
            have hNa : (((pre.length : Int) == (ages.length : Nat)) == decide ((usedN ps : Int) + (8 + 16 * (m : Int)) ≤ (mx : Nat))) = true := by
              have h1 := HFU.out
              have h2 := HN.out
              by_cases hc : pre.length = ages.length
              · have h3 := h1.1 hc
                have e1 : ((pre.length : Int) == (ages.length : Nat)) = true := by simp; omega
                have e2 : decide ((usedN ps : Int) + (8 + 16 * (m : Int)) ≤ (mx : Nat)) = true := by simp; omega
                rw [e1, e2]; rfl
              · have h3 : ¬ usedN ps + szR (l.take 64) ≤ mx := fun h => hc (h1.2 h)
                have e1 : ((pre.length : Int) == (ages.length : Nat)) = false := by simp; omega
                have e2 : decide ((usedN ps : Int) + (8 + 16 * (m : Int)) ≤ (mx : Nat)) = false := by simp; omega
                rw [e1, e2]; rfl
            go_wp2_with (first
              | (go_at_call 14; refine (told_c _ (show TypeVar (w8.drewN n) from HU8.out)).mono ?_; rintro e w9 ⟨rfl, hb9⟩; have HB9 := Lib.hid (ext_trans (below_drewN (Below.refl _ _) n) hb9); have HM9 := Lib.hid (HM8.out.ext HB9.out); clear hb9)
              | (go_at_call 13; refine (used_c W.heap.size _ mb pb A6 cap6 mx _ _ HM9.out (by omega)).mono ?_; rintro e w10 ⟨rfl, hb10⟩)
              | (go_at_call 17; refine (size_c _ _ _ _ (by omega)).mono ?_; rintro e w' ⟨rfl, rfl⟩))
            go_ret
            exact ⟨by simp, (HCC.out.trans (Chg.of_below (ext_trans HB9.out hb10))).below (Nat.le_refl _)⟩
end Go.Proofs.YtgigdhfdpabmoaaDoor
