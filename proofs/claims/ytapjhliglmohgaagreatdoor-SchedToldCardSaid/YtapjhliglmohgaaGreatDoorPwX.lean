/- TdW: laid together. -/
import Derived.Test.YtapjhliglmohgaaGreatDoorPwW
import Derived.Test.YtapjhliglmohgaaGreatDoorPwD
import Derived.Test.YtapjhliglmohgaaGreatDoorPwL
import Derived.Deep.WholeRow
import Derived.Laws.Tables
/- tributarylaw16.SchedTold: the walk. -/
namespace Go.Proofs.YtapjhliglmohgaaGreatDoor
open Go.RowKit Go.Sort
/-- What the arguments' cells hold. -/
structure SdIn (p : PlanD) (A : Option Addr) (acts : List ActS) (A1 : Option Addr) (W : World) : Prop where
 ops : RdS W (· < W.heap.size) 5 A p.ops.length (opsC p.ops)
 actsR : Rd W W.heap.size 37 7 A1 acts.length (acts.flatMap actS)
 ok : ∀ a ∈ acts, ActSOk a
 tv : TypeVar W
def tdStep (p : PlanD) (s : SchedD) (a : ActS) : SchedD := if a.kind = 0 then s.told p a.id a.n else s
theorem td_ok (p : PlanD) : ∀ (l : List ActS) {s : SchedD}, HoldOk s → HoldOk (l.foldl (tdStep p) s)
 | [], _, h => h
 | a :: l, s, h => by
   rw [List.foldl_cons]
   refine td_ok p l ?_
   unfold tdStep
   split
   · exact h.told _ _ _
   · exact h
theorem td_len (p : PlanD) : ∀ (l : List ActS) (s : SchedD), (l.foldl (tdStep p) s).holds.length ≤ s.holds.length + l.length
 | [], _ => Nat.le_refl _
 | a :: l, s => by
   rw [List.foldl_cons, List.length_cons]
   have h1 := td_len p l (tdStep p s a)
   have h2 : (tdStep p s a).holds.length ≤ s.holds.length + 1 := by
    unfold tdStep
    split
    · exact told_len _ _ _ _
    · omega
   omega
attribute [local go_sem high] id_eqI hd_eqI in
set_option maxRecDepth 100000 in
set_option maxHeartbeats 64000000 in
theorem schedTold_c (hsort : SortH) {p : PlanD} {A : Option Addr} {c : Nat} {acts : List ActS} {A1 : Option Addr} {c1 : Nat} {n worker : Int} {x : Id3} (W : World) (h : SdIn p A acts A1 W) : Calls Tryz.prog 4 #[planV p A c, .int .i64 n, .slice A1 acts.length c1, idV x, .int .i64 worker] W (BoolPost W true) := by
 have H := Lib.hid h
 have HSo := Lib.hid hsort
 obtain ⟨xb, xs, xp⟩ := x
 obtain ⟨k, hk, hk7⟩ := mask_i64 n 7 (by omega)
 have hk' : bits .and .i64 n 7 = (k : Nat) := hk
 obtain ⟨e, he⟩ : ∃ e, e = k + 1 := ⟨_, rfl⟩
 have he1 : 1 ≤ e := by omega
 have he8 : e ≤ 8 := by omega
 have y1 : IntKind.i64.wrap ((k : Int) + 1) = (e : Nat) := by rw [show (k : Int) + 1 = (e : Nat) by omega]; exact IntWalk.i64_in _ (by omega)
 clear hk he
 obtain ⟨T, hT1, hT2, hT3⟩ : ∃ T, T ≤ acts.length ∧ T ≤ 40 ∧ (T = acts.length ∨ T = 40) := ⟨Nat.min acts.length 40, Nat.min_le_left _ _, Nat.min_le_right _ _, by simp only [Nat.min_def]; split <;> simp⟩
 have HT := Lib.hid hT3
 clear hT3 hsort
 obtain ⟨W1, hW1⟩ : ∃ W1, W1 = (W.alloc (.cells #[.int .i64 p.parts, .slice A p.ops.length c] 24 (0, 0))).alloc (.cells #[.int .i64 xb, .int .i64 xs, .int .i64 xp] 35 (0, 0)) := ⟨_, rfl⟩
 have HB1 := Lib.hid (show Below W.heap.size W W1 from by rw [hW1]; exact ext_alloc (ext_alloc (Below.refl _ _) _) _)
 have HK1 := Lib.hid (show Bk W1 W.heap.size 24 #[.int .i64 p.parts, .slice A p.ops.length c] from by rw [hW1]; exact (Bk.new _ _ _).alloc _)
 have HKx := Lib.hid (show Bk W1 (W.heap.size + 1) 35 #[.int .i64 xb, .int .i64 xs, .int .i64 xp] from by rw [hW1]; exact Bk.newAt (by simp))
 have hs1 : W1.heap.size = W.heap.size + 2 := by rw [hW1]; simp
 have HTv := Lib.hid (show TypeVar W1 from TypeVar.fr (S := No) h.tv (Fr.of_below HB1.out) (fun h => h))
 have c0 : W1.cell? ⟨W.heap.size, 0, none⟩ = some (.int .i64 p.parts) := (HK1.out.cell 0).trans rfl
 have c1' : W1.cell? ⟨W.heap.size, 1, none⟩ = some (.slice A p.ops.length c) := (HK1.out.cell 1).trans rfl
 have HW1 := Lib.hid hW1
 clear h hW1
 cases hc : checkD p with
 | some z =>
   obtain ⟨a, code⟩ := z
   have HC := Lib.hid hc
   have HR := Lib.hid (fun W' (hb : Below W.heap.size W W') => rRight_c W.heap.size p A c W' ((H.out.ops.ext hb).rdS (fun _ hk => hk)) hb.size)
   rw [hc] at HR
   clear hc
   go_enter Tryz.func4, Tryz.ntmps4
   go_upto_region 1 with fail
   rw [← HW1.out]
   go_wp2_with (first
    | (go_at_call 10; refine (HR.out _ HB4.out).mono ?_; rintro e w5 ⟨rfl, hb⟩; have HB5 := Lib.hid (ext_trans HB4.out hb); clear hb)
    | (go_at_call 9; refine (told16_c HSo.out _ HT3.out).mono ?_; rintro e w4 ⟨rfl, hb⟩; have HB4 := Lib.hid (ext_trans HB3.out hb)
       have r0 := (World.cell?_of_block (a := ⟨W.heap.size, 0, none⟩) (hb.block _ ql)).trans q0; have r1 := (World.cell?_of_block (a := ⟨W.heap.size, 1, none⟩) (hb.block _ ql)).trans q1; clear hb)
    | (go_at_call 8
       refine (new_i (w0 := w2) (B := W.heap.size) (p := p) (A := A) (c := c) (e : Nat) _ (Below.refl _ _) (H.out.ops.ext HB2.out) HB2.out.size).mono ?_
       rintro e3 w3 ⟨h1, _, _⟩
       obtain ⟨ve3, at3, rfl, hE, hb⟩ := h1 a code HC.out
       have HB3 := Lib.hid (ext_trans HB2.out hb)
       have HT3 := Lib.hid (TypeVar.fr (S := No) HTv.out (Fr.of_below (ext_trans HB12.out hb)) (fun h => h))
       have ql : W.heap.size < w3.heap.size := Nat.lt_of_lt_of_le dl hb.size
       have q0 := (World.cell?_of_block (a := ⟨W.heap.size, 0, none⟩) (hb.block _ dl)).trans d0; have q1 := (World.cell?_of_block (a := ⟨W.heap.size, 1, none⟩) (hb.block _ dl)).trans d1
       clear h1 hE hb)
    | (go_at_call 8
       refine (new_i (w0 := W1) (B := W.heap.size) (p := p) (A := A) (c := c) (e : Nat) _ (Below.refl _ _) (H.out.ops.ext HB1.out) (by omega)).mono ?_
       rintro e2 w2 ⟨h1, _, _⟩
       obtain ⟨ve, at_, rfl, hE, hb⟩ := h1 a code HC.out
       obtain ⟨n7, hn7⟩ := hE.errN; obtain ⟨T7, y7, rfl⟩ := hn7.iface
       have HB2 := Lib.hid (ext_trans HB1.out hb)
       have HB12 := Lib.hid hb
       have dl : W.heap.size < w2.heap.size := Nat.lt_of_lt_of_le (by omega) hb.size
       have d0 := (World.cell?_of_block (a := ⟨W.heap.size, 0, none⟩) (hb.block W.heap.size (by omega))).trans c0; have d1 := (World.cell?_of_block (a := ⟨W.heap.size, 1, none⟩) (hb.block W.heap.size (by omega))).trans c1'
       clear h1 hE hb hn7))
   go_ret
   exact ⟨rfl, HB5.out⟩
 | none =>
   have HC := Lib.hid hc
   clear hc
   go_enter Tryz.func4, Tryz.ntmps4
   go_upto_region 1 with fail
   rw [← HW1.out]
   go_upto_block 0 with (first
    | (go_at_call 8
       refine (new_i (w0 := w2) (B := W.heap.size) (p := p) (A := A) (c := c) (e : Nat) _ (Below.refl _ _) (H.out.ops.ext HB2.out) HB2.out.size).mono ?_
       rintro e3 w3 ⟨_, _, h1⟩
       obtain ⟨tb, rfl, hS3, hb⟩ := h1 HC.out (by omega) (by omega)
       have HP3 := Lib.hid (SPair.new HS2.out hS3)
       clear h1 hS3 hb)
    | (go_at_call 8
       refine (new_i (w0 := W1) (B := W.heap.size) (p := p) (A := A) (c := c) (e : Nat) _ (Below.refl _ _) (H.out.ops.ext HB1.out) (by omega)).mono ?_
       rintro e2 w2 ⟨_, _, h1⟩
       obtain ⟨sb, rfl, hS2, hb⟩ := h1 HC.out (by omega) (by omega)
       have HS2 := Lib.hid hS2
       have HB2 := Lib.hid (ext_trans HB1.out hb)
       have d0 := (World.cell?_of_block (a := ⟨W.heap.size, 0, none⟩) (hb.block W.heap.size (by omega))).trans c0; have d1 := (World.cell?_of_block (a := ⟨W.heap.size, 1, none⟩) (hb.block W.heap.size (by omega))).trans c1'
       have dl : W.heap.size < w2.heap.size := Nat.lt_of_lt_of_le (by omega) hb.size
       clear h1 hS2 hb))
   obtain ⟨SS, hSS⟩ : ∃ SS : Nat → SchedD, SS = fun i => (acts.take i).foldl (tdStep p) ⟨e, 0, [], []⟩ := ⟨_, rfl⟩
   have HSS := Lib.hid hSS
   have HP0 := Lib.hid (show SPair W.heap.size sb tb p A c (SS 0) (SS 0) No W1 w3 from by rw [hSS]; exact HP3.out)
   clear hSS d0 d1 dl
   go_cut [15, 16] (fun _ _ wx => Hid (SPair W.heap.size sb tb p A c (SS T) (SS T) No W1 wx))
   case first =>
    go_wp2_with fail
    go_loopg [15, 16] T (fun gk v15 _ wr => ∃ i : Nat, i + gk = T ∧ v15 = .int .i64 (i : Nat) ∧ Hid (SPair W.heap.size sb tb p A c (SS i) (SS i) No W1 wr))
    case atStart => exact ⟨0, by omega, rfl, HP0⟩
    case round =>
     obtain ⟨i, hik, rfl, hG⟩ := hrel
     by_cases hi : i < acts.length
     · have hiI : (i : Int) < (acts.length : Nat) := by omega
       by_cases h40 : i < 40
       · have h40I : (i : Int) < 40 := by omega
         have hiT : i < T := by have := HT.out; omega
         obtain ⟨y, hy⟩ : ∃ y, acts[i]? = some y := ⟨_, List.getElem?_eq_getElem hi⟩
         obtain ⟨ad, hA1, hcl⟩ := Rd.actsS ((H.out.actsR.ext HB1.out).ext hG.out.below) hy hi
         subst hA1
         have HCl := Lib.hid hcl
         have HNx := Lib.hid (show SS (i + 1) = tdStep p (SS i) y from by rw [HSS.out]; show (acts.take (i + 1)).foldl _ _ = _; rw [take_succ_of hy, List.foldl_append]; rfl)
         clear hy hcl
         go_upto_region 9 with (first
          | (refine wpList_load_any rfl 37 (.tmp 65) rfl (ad.add (i * 7)) (by rfl) #[.int .i64 y.kind, .int .i64 y.n, .int .i64 y.mark, .int .i64 y.id.b, .int .i64 y.id.s, .int .i64 y.id.p, .bool y.deep] _ HCl.out Tryz.underlying37 (by kernel_rfl) ?_)
          | (refine wpList_store_row rfl 37 (.tmp 16) (.tmp 66) rfl wr.heap.size #[.int .i64 y.kind, .int .i64 y.n, .int .i64 y.mark, .int .i64 y.id.b, .int .i64 y.id.s, .int .i64 y.id.p, .bool y.deep] (by rfl) (by rfl) 37 _ (Bk.new _ _ _) (by kernel_rfl) rfl (by kernel_rfl) ?_; rw [World.setRow_alloc_new]; simp only [Act.put]))
         obtain ⟨wa, hwa⟩ : ∃ wa, wa = wr.alloc (.cells #[.int .i64 y.kind, .int .i64 y.n, .int .i64 y.mark, .int .i64 y.id.b, .int .i64 y.id.s, .int .i64 y.id.p, .bool y.deep] 37 (0, 0)) := ⟨_, rfl⟩
         rw [← hwa]
         have HXa := Lib.hid (show Bk wa wr.heap.size 37 #[.int .i64 y.kind, .int .i64 y.n, .int .i64 y.mark, .int .i64 y.id.b, .int .i64 y.id.s, .int .i64 y.id.p, .bool y.deep] from by rw [hwa]; exact Bk.new _ _ _)
         have HBa := Lib.hid (show Below wr.heap.size wr wa from by rw [hwa]; exact ext_alloc (Below.refl _ _) _)
         have hwas : wa.heap.size = wr.heap.size + 1 := by rw [hwa]; simp
         clear hwa
         obtain ⟨nb, hnb⟩ : ∃ nb, nb = wr.heap.size := ⟨_, rfl⟩
         have HPa := Lib.hid (hG.out.more (K' := fun k => k = nb) HBa.out (fun g hg => ⟨.inr (by omega), by omega⟩))
         rw [← hnb] at HXa ⊢
         clear hnb hwas hG
         have a0 : wa.cell? ⟨nb, 0, none⟩ = some (.int .i64 y.kind) := (HXa.out.cell 0).trans rfl
         have a1 : wa.cell? ⟨nb, 1, none⟩ = some (.int .i64 y.n) := (HXa.out.cell 1).trans rfl
         have a3 : wa.cell? ⟨nb, 3, none⟩ = some (.int .i64 y.id.b) := (HXa.out.cell 3).trans rfl
         have a4 : wa.cell? ⟨nb, 4, none⟩ = some (.int .i64 y.id.s) := (HXa.out.cell 4).trans rfl
         have a5 : wa.cell? ⟨nb, 5, none⟩ = some (.int .i64 y.id.p) := (HXa.out.cell 5).trans rfl
         have al := HXa.out.lt
         by_cases k0 : y.kind = 0
         · have e0 : (y.kind == 0) = true := by simp [k0]
           have HNy := Lib.hid (HNx.out.trans (if_pos k0))
           clear k0
           go_wp2_with (first
            | (go_at_call 11; refine (told_p y.id y.n _ HP5.out.swap).mono ?_; rintro e6 w6 ht; obtain ⟨rfl, h1, hk6⟩ := ht.swap; have HP6 := Lib.hid h1; clear ht h1 hk6 u0 u1 u3 u4 u5 ul)
            | (go_at_call 11; refine (told_p y.id y.n _ HPa.out).mono ?_; rintro e5 w5 ⟨rfl, h1, hk5⟩; have HP5 := Lib.hid h1
               have hX := hk5.bk rfl HXa.out
               have u0 : w5.cell? ⟨nb, 0, none⟩ = some (.int .i64 y.kind) := (hX.cell 0).trans rfl
               have u1 : w5.cell? ⟨nb, 1, none⟩ = some (.int .i64 y.n) := (hX.cell 1).trans rfl
               have u3 : w5.cell? ⟨nb, 3, none⟩ = some (.int .i64 y.id.b) := (hX.cell 3).trans rfl
               have u4 : w5.cell? ⟨nb, 4, none⟩ = some (.int .i64 y.id.s) := (hX.cell 4).trans rfl
               have u5 : w5.cell? ⟨nb, 5, none⟩ = some (.int .i64 y.id.p) := (hX.cell 5).trans rfl
               have ul := hX.lt
               clear h1 hk5 hX a0 a1 a3 a4 a5 al))
           go_roundg (gk - 1)
           case measure => omega
           case rel => exact ⟨i + 1, by omega, by go_num, by rw [HNy.out]; exact Lib.hid (HP6.out.more (Below.refl _ _) (fun g hg => hg.elim))⟩
         · have e0 : (y.kind == 0) = false := by simp [k0]
           have HNy := Lib.hid (HNx.out.trans (if_neg k0))
           clear k0
           go_wp2_with fail
           go_roundg (gk - 1)
           case measure => omega
           case rel => exact ⟨i + 1, by omega, by go_num, by rw [HNy.out]; exact Lib.hid (HPa.out.more (Below.refl _ _) (fun g hg => hg.elim))⟩
       · have h40I : ¬ (i : Int) < 40 := by omega
         have hiT : i = T := by omega
         go_wp2_with fail
         go_meet
         rw [← hiT]
         exact hG
     · have hiI : ¬ (i : Int) < (acts.length : Nat) := by omega
       have hiT : i = T := by omega
       go_wp2_with fail
       go_meet
       rw [← hiT]
       exact hG
   case rest =>
    obtain ⟨w6, rfl⟩ : ∃ w6 : World, w6 = wc := ⟨_, rfl⟩
    have HP6 := hcut
    clear hcut
    have HOk := Lib.hid (show HoldOk (SS T) from by rw [HSS.out]; exact td_ok p _ (holdOk_new _ _ _))
    have hlen : (SS T).holds.length ≤ 40 := by
     rw [HSS.out]
     refine Nat.le_trans (td_len p _ _) ?_
     rw [List.length_take]
     show 0 + _ ≤ 40
     omega
    obtain ⟨S, hS⟩ : ∃ S, S = SS T := ⟨_, rfl⟩
    rw [← hS] at HP6 HOk hlen
    obtain ⟨l, hl⟩ : ∃ l, l = holdsL S := ⟨_, rfl⟩
    have HL := Lib.hid hl
    have hll : l.length ≤ 160 := by
     rw [hl]
     have h1 := hsTo_len S.holds (heldL S)
     rw [heldL_len] at h1
     exact Nat.le_trans h1 (by omega)
    clear hS hl HSS HP0
    have q0 : w6.cell? ⟨W.heap.size + 1, 0, none⟩ = some (.int .i64 xb) := ((HKx.out.ext HP6.out.below).cell 0).trans rfl
    have q1 : w6.cell? ⟨W.heap.size + 1, 1, none⟩ = some (.int .i64 xs) := ((HKx.out.ext HP6.out.below).cell 1).trans rfl
    have q2 : w6.cell? ⟨W.heap.size + 1, 2, none⟩ = some (.int .i64 xp) := ((HKx.out.ext HP6.out.below).cell 2).trans rfl
    have ql := (HKx.out.ext HP6.out.below).lt
    go_upto_block 2 with (first
     | (go_at_call 21; refine (holds_p HSo.out _ HP6.out (by omega)).mono ?_; rintro e7 w7 hp
        obtain ⟨Aw, cw, rfl, hown, hb⟩ := hp.n HL.out.symm rfl
        have HP7 := Lib.hid (HP6.out.more (K' := fun g => (Value.slice Aw l.length cw).ownBlock = some g) hb (fun g hg => ⟨.inr (hown.lt g hg).1, (hown.lt g hg).2⟩))
        have HO7 := Lib.hid hown
        have r0 := (World.cell?_of_block (a := ⟨W.heap.size + 1, 0, none⟩) (hb.block _ ql)).trans q0
        have r1 := (World.cell?_of_block (a := ⟨W.heap.size + 1, 1, none⟩) (hb.block _ ql)).trans q1
        have r2 := (World.cell?_of_block (a := ⟨W.heap.size + 1, 2, none⟩) (hb.block _ ql)).trans q2
        have rl := Nat.lt_of_lt_of_le ql hb.size
        clear hp hown hb q0 q1 q2 ql))
    have HNd := Lib.hid (show l.Nodup from by rw [HL.out]; exact sorted_nodup (holdsL_sorted HOk.out))
    go_cut [18, 19] (fun v18 _ wx => ∃ q, v18 = .bool (decide ((⟨⟨xb, xs, xp⟩, worker⟩ : Hd) ∈ l)) ∧ wx = w7.drewN q)
    case first =>
     go_wp2_with fail
     go_loopg [18, 19] l.length (fun gk v18 v19 wr => ∃ (i q : Nat) (th : Bool), i + gk = l.length ∧ v18 = .bool th ∧ v19 = .int .i64 (i : Nat) ∧ Hid (th = decide ((⟨⟨xb, xs, xp⟩, worker⟩ : Hd) ∈ l.take i)) ∧ wr = w7.drewN q)
     case atStart => exact ⟨0, 0, false, by omega, rfl, rfl, Lib.hid (by simp), rfl⟩
     case round =>
      obtain ⟨i, q, th, hik, rfl, rfl, hth, rfl⟩ := hrel
      by_cases hi : i < l.length
      · have hiI : (i : Int) < (l.length : Nat) := by omega
        have hy : l[i]? = some (l[i]) := List.getElem?_eq_getElem hi
        generalize l[i] = y at hy
        have HY := Lib.hid hy
        obtain ⟨ad, rfl, d0, d1, d2, d3⟩ := (Rd.of_own (B := 0) HO7.out).hds hy hi
        obtain ⟨⟨yb, ys, yp⟩, yw⟩ := y
        have HTk := Lib.hid (show (⟨⟨xb, xs, xp⟩, worker⟩ : Hd) ∈ l.take (i + 1) ↔ (⟨⟨xb, xs, xp⟩, worker⟩ : Hd) ∈ l.take i ∨ (⟨⟨xb, xs, xp⟩, worker⟩ : Hd) = ⟨⟨yb, ys, yp⟩, yw⟩ from by rw [take_succ_of hy]; simp)
        clear hy
        simp only at d0 d1 d2 d3
        go_upto_region 17 with fail
        go_cut [18] (fun v18 wx => ∃ q', v18 = .bool (decide ((⟨⟨xb, xs, xp⟩, worker⟩ : Hd) ∈ l.take (i + 1))) ∧ wx = w7.drewN q')
        case first =>
         cases th with
         | true =>
           go_quiet (fail)
           go_wp2_with fail
           go_meet
           exact ⟨q + nq, by rw [decide_eq_true (HTk.out.2 (.inl (of_decide_eq_true hth.out.symm)))], by first | rfl | rw [World.drewN_drewN]⟩
         | false =>
           by_cases hid : (⟨yb, ys, yp⟩ : Id3) = ⟨xb, xs, xp⟩
           · cases hid
             by_cases hw : yw = worker
             · subst hw
               go_quiet (fail)
               go_wp2_with fail
               go_meet
               exact ⟨q + nq, by rw [decide_eq_true (HTk.out.2 (.inr (by first | trivial | rfl)))], by first | rfl | rw [World.drewN_drewN]⟩
             · have hwb : (yw == worker) = false := by simp [hw]
               have hN : ¬ (⟨⟨xb, xs, xp⟩, worker⟩ : Hd) ∈ l.take (i + 1) := fun h => (HTk.out.1 h).elim (of_decide_eq_false hth.out.symm) (fun h => hw (by injection h with _ h; exact h.symm))
               have HN := Lib.hid hN
               clear hw hN
               go_quiet (fail)
               go_wp2_with fail
               go_meet
               exact ⟨q + nq, by rw [decide_eq_false HN.out], by first | rfl | rw [World.drewN_drewN]⟩
           · have hN : ¬ (⟨⟨xb, xs, xp⟩, worker⟩ : Hd) ∈ l.take (i + 1) := fun h => (HTk.out.1 h).elim (of_decide_eq_false hth.out.symm) (fun h => hid (by injection h with h _; exact h.symm))
             have HN := Lib.hid hN
             have hbb : (decide (yb = xb) && (decide (ys = xs) && decide (yp = xp))) = false := by
              by_cases h1 : yb = xb <;> by_cases h2 : ys = xs <;> by_cases h3 : yp = xp <;> simp [h1, h2, h3] at hid ⊢
             have hbb2 : (yb == xb && (ys == xs && yp == xp)) = false := hbb
             have hbb3 : (yb == xb && ys == xs && yp == xp) = false := by rw [Bool.and_assoc]; exact hbb
             clear hid hN
             go_quiet (fail)
             go_wp2_with fail
             go_meet
             exact ⟨q + nq, by rw [decide_eq_false HN.out], by first | rfl | rw [World.drewN_drewN]⟩
        case rest =>
         obtain ⟨q', rfl, rfl⟩ := hcut
         obtain ⟨th', hth'⟩ : ∃ th', th' = decide ((⟨⟨xb, xs, xp⟩, worker⟩ : Hd) ∈ l.take (i + 1)) := ⟨_, rfl⟩
         have HTh' := Lib.hid hth'
         rw [← hth']
         clear hth'
         by_cases hi0 : i = 0
         · subst hi0
           go_upto_region 18 with fail
           go_quiet (fail)
           go_wp2_with fail
           go_roundg (gk - 1)
           case measure => omega
           case rel => exact ⟨0 + 1, q' + nq, th', by omega, rfl, by go_num, HTh', by first | rfl | rw [World.drewN_drewN]⟩
         · obtain ⟨j, rfl⟩ : ∃ j, i = j + 1 := ⟨i - 1, by omega⟩
           have hi0I : (0 : Int) < ((j + 1 : Nat) : Int) := by omega
           have hsub : IntKind.i64.wrap (((j + 1 : Nat) : Int) - 1) = (j : Nat) := by rw [show ((j + 1 : Nat) : Int) - 1 = (j : Nat) by omega]; exact IntWalk.i64_in _ (by omega)
           have hj : j < l.length := by omega
           have hz : l[j]? = some (l[j]) := List.getElem?_eq_getElem hj
           generalize l[j] = z at hz
           obtain ⟨ad', had', e0, e1, e2, e3⟩ := (Rd.of_own (B := 0) HO7.out).hds hz hj
           cases had'
           have hne : (⟨⟨yb, ys, yp⟩, yw⟩ : Hd) ≠ z := by
            intro h
            have h1 := HY.out
            rw [h] at h1
            have h2 := (List.getElem?_inj (by omega) HNd.out).1 (h1.trans hz.symm)
            omega
           obtain ⟨⟨zb, zs, zp⟩, zw⟩ := z
           simp only at e0 e1 e2 e3
           have hbb : ((decide (yb = zb) && (decide (ys = zs) && decide (yp = zp))) && decide (yw = zw)) = false := by
            by_cases h1 : yb = zb <;> by_cases h2 : ys = zs <;> by_cases h3 : yp = zp <;> by_cases h4 : yw = zw <;> simp [h1, h2, h3, h4] at hne ⊢
           clear hne hz hi0
           go_upto_region 18 with fail
           go_quiet (fail)
           go_wp2_with fail
           go_roundg (gk - 1)
           case measure => omega
           case rel => exact ⟨j + 1 + 1, q' + nq, th', by omega, rfl, by go_num, HTh', by first | rfl | rw [World.drewN_drewN]⟩
      · have hiI : ¬ (i : Int) < (l.length : Nat) := by omega
        have hil : i = l.length := by omega
        subst hil
        rw [List.take_length] at hth
        go_wp2_with fail
        go_meet
        exact ⟨_, by rw [hth.out], rfl⟩
    case rest =>
     obtain ⟨q, rfl, hw8⟩ := hcut
     obtain ⟨w8, rfl⟩ : ∃ w8 : World, w8 = wc := ⟨_, rfl⟩
     have hB8 : Below w7.heap.size w7 w8 := by rw [hw8]; exact below_drewN (Below.refl _ _) _
     have HP8 := Lib.hid (HP7.out.ext hB8)
     have HO8 := Lib.hid (own_ext HO7.out hB8)
     obtain ⟨th, hth⟩ : ∃ th, th = decide ((⟨⟨xb, xs, xp⟩, worker⟩ : Hd) ∈ l) := ⟨_, rfl⟩
     have HTh := Lib.hid hth
     rw [← hth]
     clear hth hw8 hB8 HP7 HO7 r0 r1 r2 rl HNd
     have q0 : w8.cell? ⟨W.heap.size + 1, 0, none⟩ = some (.int .i64 xb) := ((HKx.out.ext HP8.out.below).cell 0).trans rfl
     have q1 : w8.cell? ⟨W.heap.size + 1, 1, none⟩ = some (.int .i64 xs) := ((HKx.out.ext HP8.out.below).cell 1).trans rfl
     have q2 : w8.cell? ⟨W.heap.size + 1, 2, none⟩ = some (.int .i64 xp) := ((HKx.out.ext HP8.out.below).cell 2).trans rfl
     have ql := (HKx.out.ext HP8.out.below).lt
     obtain ⟨Kw, hKw⟩ : ∃ Kw : Nat → Prop, Kw = fun g => (Value.slice Aw l.length cw).ownBlock = some g := ⟨_, rfl⟩
     have HKw := Lib.hid (show ∀ g, (Value.slice Aw l.length cw).ownBlock = some g → Kw g from by rw [hKw]; exact fun g h => h)
     rw [← hKw] at HP8
     clear hKw
     go_upto_if 124 with fail
     go_cut [18] (fun _ wx => Hid (∃ S', SPair W.heap.size sb tb p A c S' S Kw W1 wx ∧ SameHd S' S ∧ HoldOk S' ∧ S'.holds.length ≤ 41) ∧ Hid (wx.ownsRow w6.heap.size 57 4 (.slice Aw l.length cw) l.length (l.flatMap hdC)))
     case first =>
      cases th with
      | true =>
        go_wp2_with fail
        go_meet
        exact ⟨Lib.hid ⟨S, HP8.out, fun _ _ => Iff.rfl, HOk.out, by omega⟩, HO8⟩
      | false =>
        have HTl := Lib.hid (told_lost HOk.out p ⟨xb, xs, xp⟩ worker (by have h1 := of_decide_eq_false HTh.out.symm; rw [HL.out] at h1; exact h1))
        have HO2 := Lib.hid ((HOk.out.told p ⟨xb, xs, xp⟩ worker).lost ⟨xb, xs, xp⟩ worker)
        have hl2 : ((S.told p ⟨xb, xs, xp⟩ worker).lost ⟨xb, xs, xp⟩ worker).holds.length ≤ 41 := Nat.le_trans (lost_len _ _ _) (Nat.le_trans (told_len _ _ _ _) (by omega))
        have HL2 := Lib.hid (show holdsL ((S.told p ⟨xb, xs, xp⟩ worker).lost ⟨xb, xs, xp⟩ worker) = l from (HTl.out.holds HO2.out HOk.out).trans HL.out.symm)
        obtain ⟨S2, hS2⟩ : ∃ S2, S2 = (S.told p ⟨xb, xs, xp⟩ worker).lost ⟨xb, xs, xp⟩ worker := ⟨_, rfl⟩
        rw [← hS2] at HTl HO2 hl2 HL2
        have HS2 := Lib.hid hS2
        clear hS2
        go_wp2_with (first
         | (go_at_call 23
            refine (hdSame_c 0 0 _ Ah Aw ch cw l.length l.length l l rfl rfl (Rd.of_own HO11.out) (Rd.of_own HW11.out) (by omega)).mono ?_
            rw [decide_eq_true (rfl : l = l)]
            rintro e12 w12 ⟨rfl, hb⟩
            have HP12 := Lib.hid (HP11.out.ext hb)
            have HW12 := Lib.hid (own_ext HW11.out hb)
            clear hb)
         | (go_at_call 21
            refine (holds_p HSo.out _ HP10.out (by omega)).mono ?_
            rintro e11 w11 hp
            obtain ⟨Ah, ch, rfl, hown, hb⟩ := hp.n HL2.out rfl
            have HP11 := Lib.hid (HP10.out.ext hb)
            have HO11 := Lib.hid hown
            have HW11 := Lib.hid (own_ext HW10.out hb)
            clear hp hown hb)
         | (go_at_call 22
            refine (lost_p ⟨xb, xs, xp⟩ worker _ HP9.out).mono ?_
            rintro e10 w10 ⟨rfl, h1, hk10⟩
            have HP10 := Lib.hid (show SPair W.heap.size sb tb p A c S2 S Kw W1 w10 from by rw [HS2.out]; exact h1)
            have HW10 := Lib.hid (hk10.own HW9.out (fun g hg => HKw.out g hg))
            clear h1 hk10 s0 s1 s2 sl)
         | (go_at_call 11
            refine (told_p ⟨xb, xs, xp⟩ worker _ HP8.out).mono ?_
            rintro e9 w9 ⟨rfl, h1, hk9⟩
            have HP9 := Lib.hid h1
            have HW9 := Lib.hid (hk9.own HO8.out (fun g hg => HKw.out g hg))
            have s0 : w9.cell? ⟨W.heap.size + 1, 0, none⟩ = some (.int .i64 xb) := ((HKx.out.ext h1.below).cell 0).trans rfl
            have s1 : w9.cell? ⟨W.heap.size + 1, 1, none⟩ = some (.int .i64 xs) := ((HKx.out.ext h1.below).cell 1).trans rfl
            have s2 : w9.cell? ⟨W.heap.size + 1, 2, none⟩ = some (.int .i64 xp) := ((HKx.out.ext h1.below).cell 2).trans rfl
            have sl := (HKx.out.ext h1.below).lt
            clear h1 hk9 q0 q1 q2 ql))
        go_meet
        exact ⟨Lib.hid ⟨S2, HP12.out, HTl.out, HO2.out, hl2⟩, HW12⟩
     case rest =>
      obtain ⟨hG, HW9⟩ := hcut
      obtain ⟨w9, rfl⟩ : ∃ w9 : World, w9 = wc := ⟨_, rfl⟩
      obtain ⟨S', hP, hSa, hO', hl'⟩ := hG.out
      have HP9 := Lib.hid hP
      have HSa := Lib.hid hSa
      have HO' := Lib.hid hO'
      have HGo := Lib.hid (show S'.gone worker = l.foldl (goneS worker) S' from by unfold SchedD.gone; rw [hSa.holds hO' HOk.out, ← HL.out])
      obtain ⟨G, hG'⟩ : ∃ G, G = l.foldl (goneS worker) S' := ⟨_, rfl⟩
      have HG := Lib.hid hG'
      rw [← hG'] at HGo
      obtain ⟨TT, hTT⟩ : ∃ TT : Nat → SchedD, TT = fun i => (l.take i).foldl (goneS worker) S := ⟨_, rfl⟩
      have HTT := Lib.hid hTT
      clear hP hSa hO' hG hG' hTT q0 q1 q2 ql HP8 HO8
      go_upto_block 4 with (first
       | (go_at_call 24
          refine (gone_p HSo.out worker _ HP9.out (by omega)).mono ?_
          rw [HGo.out]
          rintro e10 w10 ⟨rfl, h1, hk10⟩
          have HP10 := Lib.hid (show SPair W.heap.size sb tb p A c G (TT 0) Kw W1 w10 from by rw [HTT.out]; exact h1)
          have HW10 := Lib.hid (hk10.own HW9.out (fun g hg => HKw.out g hg))
          clear h1 hk10))
      go_cut [20] (fun _ wx => Hid (SPair W.heap.size sb tb p A c G (TT l.length) Kw W1 wx))
      case first =>
       go_wp2_with fail
       go_loopg [20] l.length (fun gk v20 wr => ∃ i : Nat, i + gk = l.length ∧ v20 = .int .i64 (i : Nat) ∧ Hid (SPair W.heap.size sb tb p A c G (TT i) Kw W1 wr) ∧ Hid (wr.ownsRow w6.heap.size 57 4 (.slice Aw l.length cw) l.length (l.flatMap hdC)))
       case atStart => exact ⟨0, by omega, rfl, HP10, HW10⟩
       case round =>
        obtain ⟨i, hik, rfl, hP, hW⟩ := hrel
        by_cases hi : i < l.length
        · have hiI : (i : Int) < (l.length : Nat) := by omega
          have hy : l[i]? = some (l[i]) := List.getElem?_eq_getElem hi
          generalize l[i] = y at hy
          obtain ⟨ad, rfl, d0, d1, d2, d3⟩ := (Rd.of_own (B := 0) hW.out).hds hy hi
          have HNx := Lib.hid (show TT (i + 1) = goneS worker (TT i) y from by rw [HTT.out]; show (l.take (i + 1)).foldl _ _ = _; rw [take_succ_of hy, List.foldl_append]; rfl)
          clear hy
          by_cases hw : y.w = worker
          · have hwb : (y.w == worker) = true := by simp [hw]
            have HNy := Lib.hid (HNx.out.trans (if_pos hw))
            clear hw
            go_wp2_with (first
             | (go_at_call 22
                refine (lost_p y.id y.w _ hP.out.swap).mono ?_
                rintro e11 w11 ht
                obtain ⟨rfl, h1, hk11⟩ := ht.swap
                have HP11 := Lib.hid (show SPair W.heap.size sb tb p A c G (TT (i + 1)) Kw W1 w11 from by rw [HNy.out]; exact h1)
                have HW11 := Lib.hid (hk11.own hW.out (fun g hg => HKw.out g hg))
                clear ht h1 hk11 d0 d1 d2 d3))
            go_roundg (gk - 1)
            case measure => omega
            case rel => exact ⟨i + 1, by omega, by go_num, HP11, HW11⟩
          · have hwb : (y.w == worker) = false := by simp [hw]
            have HNy := Lib.hid (HNx.out.trans (if_neg hw))
            clear hw
            go_wp2_with fail
            go_roundg (gk - 1)
            case measure => omega
            case rel => exact ⟨i + 1, by omega, by go_num, by rw [HNy.out]; exact hP, hW⟩
        · have hiI : ¬ (i : Int) < (l.length : Nat) := by omega
          have hil : i = l.length := by omega
          go_wp2_with fail
          go_meet
          rw [← hil]
          exact hP
      case rest =>
       have HPf := hcut
       obtain ⟨wf, rfl⟩ : ∃ wf : World, wf = wc := ⟨_, rfl⟩
       have HTf := Lib.hid (show TT l.length = l.foldl (goneS worker) S from by rw [HTT.out]; show (l.take l.length).foldl _ _ = _; rw [List.take_length])
       have hEq : holdsL G = holdsL (TT l.length) := by
        rw [HTf.out, HG.out]
        exact (HSa.out.gone l).holds (HO'.out.goneL l) (HOk.out.goneL l)
       obtain ⟨lf, hlf⟩ : ∃ lf, lf = holdsL G := ⟨_, rfl⟩
       have HLa := Lib.hid hlf.symm
       have HLb := Lib.hid (hEq.symm.trans hlf.symm)
       have hga : G.holds.length ≤ 41 := by rw [HG.out]; exact Nat.le_trans (goneL_len _ _) hl'
       have hgb : (TT l.length).holds.length ≤ 40 := by rw [HTf.out]; exact Nat.le_trans (goneL_len _ _) hlen
       have hlfl : lf.length ≤ 164 := by
        rw [hlf]
        have h1 := hsTo_len G.holds (heldL G)
        rw [heldL_len] at h1
        exact Nat.le_trans h1 (by omega)
       clear hcut hEq hlf
       go_wp2_with (first
        | (go_at_call 23
           refine (hdSame_c 0 0 _ Aa Ab ca cb lf.length lf.length lf lf rfl rfl (Rd.of_own HOa'.out) (Rd.of_own HOb.out) (by omega)).mono ?_
           rw [decide_eq_true (rfl : lf = lf)]
           rintro e14 w14 ⟨rfl, hb⟩
           have HB14 := Lib.hid (ext_trans HPd.out.below hb)
           clear hb)
        | (go_at_call 21
           refine (holds_p HSo.out _ HPc.out.swap (by omega)).mono ?_
           rintro e13 w13 hp
           obtain ⟨Ab, cb, rfl, hown, hb⟩ := hp.n HLb.out rfl
           have HPd := Lib.hid (HPc.out.ext hb)
           have HOb := Lib.hid hown
           have HOa' := Lib.hid (own_ext HOa.out hb)
           clear hp hown hb)
        | (go_at_call 21
           refine (holds_p HSo.out _ HPb.out (by omega)).mono ?_
           rintro e12 w12 hp
           obtain ⟨Aa, ca, rfl, hown, hb⟩ := hp.n HLa.out rfl
           have HPc := Lib.hid (HPb.out.ext hb)
           have HOa := Lib.hid hown
           clear hp hown hb)
        | (go_at_call 9; refine (told16_c HSo.out _ (HPf.out.tv HTv.out)).mono ?_; rintro e11 w11 ⟨rfl, hb⟩; have HPb := Lib.hid (HPf.out.ext hb); clear hb))
       go_ret
       exact ⟨rfl, ext_trans HB1.out HB14.out⟩
end Go.Proofs.YtapjhliglmohgaaGreatDoor
