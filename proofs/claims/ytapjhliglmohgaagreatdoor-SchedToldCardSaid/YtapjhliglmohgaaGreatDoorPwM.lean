/- Goals: laid together. -/
import Derived.Test.YtapjhliglmohgaaGreatDoorPwL
/- Who holds what: Goals of the program. -/
namespace Go.Proofs.YtapjhliglmohgaaGreatDoor
open Go.RowKit Go.Sort
/-- A job. -/
structure Jb where
 id : Id3
 sv : Bool
deriving DecidableEq
def jbC (j : Jb) : List Value := [.int .i64 j.id.b, .int .i64 j.id.s, .int .i64 j.id.p, .bool j.sv]
theorem job_app : AppC jbC 41 46 4 32 (.agg #[.int .i64 0, .int .i64 0, .int .i64 0, .bool false]) :=
 ⟨Tryz.underlying41, by kernel_rfl, rfl, by decide, fun _ => rfl, fun x u hu => by simp only [jbC, List.mem_cons, List.not_mem_nil, or_false] at hu; rcases hu with rfl | rfl | rfl | rfl <;> rfl, by decide⟩
/-- What is to be made of the next batch. -/
def nextL (p : PlanD) (f : Int) (m : Nat) : List Jb := (List.range m).map fun q => ⟨⟨f + 1, (p.ops.length : Int) - 1, (q : Nat)⟩, false⟩
theorem nextL_succ (p : PlanD) (f : Int) (m : Nat) : nextL p f (m + 1) = nextL p f m ++ [⟨⟨f + 1, (p.ops.length : Int) - 1, (m : Nat)⟩, false⟩] := by
 unfold nextL
 rw [List.range_succ, List.map_append]
 rfl
theorem nextL_len (p : PlanD) (f : Int) (m : Nat) : (nextL p f m).length = m := by
 unfold nextL
 simp
def goA (p : PlanD) (s : SchedD) (batches mark : Int) : List Jb := if max s.known mark < batches ∧ max s.known mark < 60 then nextL p (max s.known mark) p.parts.toNat else []
def goB (p : PlanD) (s : SchedD) (mark : Int) : List Jb := if dueI s.every s.known mark = 0 then [] else (unsavedL p s.saved (dueI s.every s.known mark : Nat)).map fun x => ⟨x, true⟩
/-- 16.4: what is to be come to. -/
def goalsL (p : PlanD) (s : SchedD) (batches mark : Int) : List Jb := goA p s batches mark ++ goB p s mark
def JsPost (w : World) (l : List Jb) (e : Ending) (w' : World) : Prop :=
 ∃ A c, e = .returned (.slice A l.length c) ∧ w'.ownsRow w.heap.size 46 4 (.slice A l.length c) l.length (l.flatMap jbC) ∧ Below w.heap.size w w'
theorem unsavedL_len {p : PlanD} {saved : List Id3} {b : Int} : (unsavedL p saved b).length ≤ (statesL p.ops).length * p.parts.toNat := by
 unfold unsavedL
 generalize statesL p.ops = l
 induction l with
 | nil => simp
 | cons a l ih =>
   rw [List.flatMap_cons, List.length_append, List.length_cons, Nat.succ_mul]
   have := unsOne_len saved b a p.parts.toNat
   omega
section
variable {B sb : Nat} {R : Nat → Prop} {p : PlanD} {A : Option Addr} {c : Nat} {s : SchedD}
set_option maxRecDepth 100000 in
set_option maxHeartbeats 16000000 in
theorem goals_c (batches mark : Int) (w : World) (h : SchedIs B sb R p A c s w) (hm : mark ≤ 9223372036854775807) :
 Calls Tryz.prog 14 #[.pointer (some ⟨sb, 0, none⟩), .int .i64 batches, .int .i64 mark] w (JsPost w (goalsL p s batches mark)) := by
 have HDu := Lib.hid (fun W hW => dueI_c (B := B) (sb := sb) (R := R) (p := p) (A := A) (c := c) (s := s) mark W hW hm)
 have HUn := Lib.hid (fun W hW => unsaved_c (B := B) (sb := sb) (R := R) (p := p) (A := A) (c := c) (s := s) (dueI s.every s.known mark : Nat) W hW)
 have HI := Lib.hid h
 obtain ⟨X, h⟩ := h
 have hp := shaped_check h.plan
 have hn12 := hp.n12
 have hp1 := hp.p1
 have hp4 := hp.p4
 have hsl := statesL_len p.ops
 have hul := unsavedL_len (p := p) (saved := s.saved) (b := (dueI s.every s.known mark : Nat))
 have hul2 : (unsavedL p s.saved (dueI s.every s.known mark : Nat)).length ≤ 48 := by
  refine Nat.le_trans hul ?_
  have h1 : (statesL p.ops).length * p.parts.toNat ≤ 12 * 4 := Nat.mul_le_mul (by omega) (by omega)
  omega
 have z7 : w.cell? ⟨sb, 7, none⟩ = some (.int .i64 s.known) := (h.bk.cell 7).trans rfl
 have hl := h.bk.lt
 have hk := h.known
 clear hul hsl hp h
 obtain ⟨f, hf⟩ : ∃ f, f = max s.known mark := ⟨_, rfl⟩
 have HF := Lib.hid hf
 obtain ⟨M, hM⟩ : ∃ M, M = p.parts.toNat := ⟨_, rfl⟩
 have hpM : p.parts = (M : Nat) := by omega
 have HM := Lib.hid hM
 have hM4 : M ≤ 4 := by omega
 have hf0 : 0 ≤ f := by omega
 have hft : f ≤ 9223372036854775807 := by omega
 have HGA := Lib.hid (show goA p s batches mark = if f < batches ∧ f < 60 then nextL p f M else [] from by unfold goA; rw [← hf, ← hM])
 clear hM
 go_enter Tryz.func14, Tryz.ntmps14
 go_upto_region 2 with fail
 go_cut [8] (fun v8 wx => v8 = .int .i64 f ∧ wx = w)
 case first =>
  by_cases hm0 : s.known < mark
  · have HE := Lib.hid (show f = mark by omega)
    clear hf
    go_wp2_with fail
    go_meet
    exact ⟨by rw [HE.out], rfl⟩
  · have HE := Lib.hid (show f = s.known by omega)
    clear hf
    go_wp2_with fail
    go_meet
    exact ⟨by rw [HE.out], rfl⟩
 case rest =>
  obtain ⟨rfl, rfl⟩ := hcut
  clear hf
  go_upto_region 3 with fail
  go_cut [25] (fun v25 wx => v25 = .bool (decide (f < batches ∧ f < 60)) ∧ wx = wc)
  case first =>
   by_cases h1 : f < batches
   · by_cases h2 : f < 60
     · have HE := Lib.hid (decide_eq_true (p := f < batches ∧ f < 60) ⟨h1, h2⟩)
       go_wp2_with fail
       go_meet
       exact ⟨by rw [HE.out], rfl⟩
     · have HE := Lib.hid (decide_eq_false (p := f < batches ∧ f < 60) (fun h => h2 h.2))
       go_wp2_with fail
       go_meet
       exact ⟨by rw [HE.out], rfl⟩
   · have HE := Lib.hid (decide_eq_false (p := f < batches ∧ f < 60) (fun h => h1 h.1))
     go_wp2_with fail
     go_meet
     exact ⟨by rw [HE.out], rfl⟩
  case rest =>
   obtain ⟨rfl, rfl⟩ := hcut
   obtain ⟨w0, rfl⟩ : ∃ w0 : World, w0 = wc := ⟨_, rfl⟩
   have hln : ((p.ops.length : Nat) : Int) ≤ 12 := by omega
   have el1 : IntKind.i64.wrap (((p.ops.length : Nat) : Int) - 1) = ((p.ops.length : Nat) : Int) - 1 := IntWalk.i64_in _ (by omega)
   obtain ⟨g0, hg0⟩ : ∃ g0, g0 = decide (f < batches ∧ f < 60) := ⟨_, rfl⟩
   rw [← hg0]
   have HG0 := Lib.hid hg0
   clear hg0
   go_upto_if 25 with fail
   go_cut [7] (fun v7 wx => Hid (wx.ownsRow w0.heap.size 46 4 v7 (goA p s batches mark).length ((goA p s batches mark).flatMap jbC)) ∧ Hid (Below w0.heap.size w0 wx))
   case first =>
    cases g0 with
    | true =>
      have hg := of_decide_eq_true HG0.out.symm
      have HE := Lib.hid (HGA.out.trans (if_pos hg))
      have hf60 : f < 60 := hg.2
      have ef1 : IntKind.i64.wrap (f + 1) = f + 1 := IntWalk.i64_in _ (by omega)
      obtain ⟨X, hX⟩ := HI.out
      have HX := Lib.hid hX
      clear hg hX
      have z0 : w0.cell? ⟨sb, 0, none⟩ = some (.int .i64 (M : Nat)) := (HX.out.bk.cell 0).trans (by rw [← hpM]; rfl)
      go_wp2_with fail
      go_loopg [7, 9, 31] M (fun gk v7 v9 v31 wr => ∃ q : Nat, q + gk = M ∧ v31 = .int .i64 (q : Nat) ∧ Hid (wr.ownsRow w0.heap.size 46 4 v7 (nextL p f q).length ((nextL p f q).flatMap jbC)) ∧ Hid (Below w0.heap.size w0 wr))
      case atStart => exact ⟨0, by omega, rfl, Lib.hid (World.ownsRow_nil _ _ _ _), Lib.hid (Below.refl _ _)⟩
      case round =>
       obtain ⟨q, hqk, rfl, HV, HB⟩ := hrel
       obtain ⟨A5, c5, rfl, hc5⟩ := own_shape HV.out
       by_cases hq : q < M
       · have HX2 := Lib.hid (HX.out.ext HB.out)
         have z1 : wr.cell? ⟨sb, 1, none⟩ = some (.slice A p.ops.length c) := (HX2.out.bk.cell 1).trans rfl
         have zl := HX2.out.bk.lt
         have hql : (nextL p f q).length ≤ 4 := by rw [nextL_len]; omega
         have HSu := Lib.hid (nextL_succ p f q)
         obtain ⟨l, hll⟩ : ∃ l, l = nextL p f q := ⟨_, rfl⟩
         rw [← hll] at HV HSu hql hc5 ⊢
         have HE1 := Lib.hid (ext_alloc (Below.refl wr.heap.size wr) (.cells #[.int .i64 (f + 1), .int .i64 (((p.ops.length : Nat) : Int) - 1), .int .i64 (q : Nat), .bool false] 46 (0, 0)))
         have HO3 := Lib.hid (own_ext HV.out HE1.out)
         have HN3 := Lib.hid (Bk.new wr 46 #[.int .i64 (f + 1), .int .i64 (((p.ops.length : Nat) : Int) - 1), .int .i64 (q : Nat), .bool false])
         clear hll
         go_wp2_with (first
          | (at_builtin; refine wpList_appE job_app _ rfl (.tmp 34) (.tmp 47) rfl w0.heap.size _ l (by rfl) HO3.out (⟨⟨f + 1, (p.ops.length : Int) - 1, (q : Nat)⟩, false⟩ : Jb) (wr.heap.size) (by rfl) HN3.out (by omega) (by have h1 := HB.out.size; have h2 := HE1.out.size; omega) ?_
             intro A7 c7 w7 hown7 hg7 hc7
             have HO7 := Lib.hid hown7
             have HG7 := Lib.hid hg7
             clear hown7 hg7))
         go_roundg (gk - 1)
         case measure => omega
         case rel =>
          refine ⟨q + 1, by omega, by go_num, Lib.hid ?_, Lib.hid (below_grownOwn (ext_trans HB.out HE1.out) HO3.out (Nat.le_refl _) HG7.out)⟩
          rw [HSu.out]
          have h := HO7.out
          simp only [List.length_append, List.length_cons, List.length_nil, Nat.zero_add] at h ⊢
          exact h
       · have hqM : q = M := by omega
         subst hqM
         go_wp2_with fail
         go_meet
         rw [HE.out]
         exact ⟨HV, HB⟩
    | false =>
      have HE := Lib.hid (HGA.out.trans (if_neg (of_decide_eq_false HG0.out.symm)))
      go_wp2_with fail
      go_meet
      rw [HE.out]
      exact ⟨Lib.hid (World.ownsRow_nil _ _ _ _), Lib.hid (Below.refl _ _)⟩
   case rest =>
    obtain ⟨HV1, HB1⟩ := hcut
    obtain ⟨w1, rfl⟩ : ∃ w1 : World, w1 = wc := ⟨_, rfl⟩
    have hal : (goA p s batches mark).length ≤ 4 := by
     rw [HGA.out]
     split
     · rw [nextL_len]; omega
     · simp
    obtain ⟨g1, hg1⟩ : ∃ g1, g1 = goA p s batches mark := ⟨_, rfl⟩
    have HGo := Lib.hid (show goalsL p s batches mark = g1 ++ goB p s mark from by rw [hg1]; rfl)
    rw [← hg1] at HV1 hal
    have HI1 := Lib.hid (HI.out.ext HB1.out)
    have HD1 := Lib.hid (HDu.out w1 HI1.out)
    obtain ⟨A4, c4, rfl, hc4⟩ := own_shape HV1.out
    clear hg1 z7
    obtain ⟨du, hdu⟩ : ∃ du, du = dueI s.every s.known mark := ⟨_, rfl⟩
    have HGB := Lib.hid (show goB p s mark = if du = 0 then [] else (unsavedL p s.saved (du : Nat)).map fun x => ⟨x, true⟩ from by unfold goB; rw [← hdu])
    rw [← hdu] at HD1 HUn hul2
    clear hdu HDu
    by_cases hd0 : du = 0
    · have HE := Lib.hid (HGB.out.trans (if_pos hd0))
      subst hd0
      go_wp2_with (first
       | (go_at_call 17; refine HD1.out.mono ?_; rintro e w2 ⟨rfl, q2, rfl⟩))
      go_ret
      rw [HGo.out, HE.out, List.append_nil]
      exact ⟨A4, c4, rfl, own_ext HV1.out (below_drewN (Below.refl _ _) _), below_drewN HB1.out _⟩
    · have HE := Lib.hid (HGB.out.trans (if_neg hd0))
      have hdn : (du : Int) ≠ 0 := by omega
      have hdb : ((du : Int) != 0) = true := by simp; omega
      obtain ⟨ul, hul⟩ : ∃ ul, ul = unsavedL p s.saved (du : Nat) := ⟨_, rfl⟩
      have HU2 := Lib.hid (fun q2 => HUn.out (w1.drewN q2) (HI1.out.ext (below_drewN (Below.refl _ _) q2)))
      rw [← hul] at HE HU2 hul2
      clear hul HUn hd0
      go_wp2_with (first
       | (go_at_call 61; refine (HU2.out q2).mono ?_; rintro e w3 ⟨A3, c3, rfl, hown, hb⟩
          have HO3 := Lib.hid hown
          have HB3 := Lib.hid (show Below w1.heap.size w1 w3 from ext_trans (below_drewN (Below.refl _ _) q2) hb)
          clear hown hb)
       | (go_at_call 17; refine HD1.out.mono ?_; rintro e w2 ⟨rfl, q2, rfl⟩))
      have HV3 := Lib.hid (own_ext HV1.out HB3.out)
      have HB03 := Lib.hid (ext_trans HB1.out HB3.out)
      have hws := HB1.out.size
      go_loopg [7, 12, 59] ul.length (fun gk v7 v12 v59 wr => ∃ i : Nat, i + gk = ul.length ∧ v59 = .int .i64 (i : Nat) ∧ Hid (wr.ownsRow w0.heap.size 46 4 v7 (g1 ++ (ul.take i).map fun x => (⟨x, true⟩ : Jb)).length ((g1 ++ (ul.take i).map fun x => (⟨x, true⟩ : Jb)).flatMap jbC)) ∧ Hid (wr.ownsRow w1.heap.size 35 3 (.slice A3 ul.length c3) ul.length (idsC ul)) ∧ Hid (Below w0.heap.size w0 wr))
      case atStart => exact ⟨0, by omega, rfl, Lib.hid (by rw [List.take_zero, List.map_nil, List.append_nil]; exact HV3.out), Lib.hid HO3.out, HB03⟩
      case round =>
       obtain ⟨i, hik, rfl, HV, HO, HB⟩ := hrel
       obtain ⟨A5, c5, rfl, hc5⟩ := own_shape HV.out
       by_cases hi : i < ul.length
       · have hy : ul[i]? = some (ul[i]) := List.getElem?_eq_getElem hi
         generalize ul[i] = x at hy
         obtain ⟨ad, rfl, d0, d1, d2⟩ := (Rd.of_own (B := 0) HO.out).ids hy hi
         have HSu := Lib.hid (show g1 ++ (ul.take (i + 1)).map (fun x => (⟨x, true⟩ : Jb)) = (g1 ++ (ul.take i).map fun x => (⟨x, true⟩ : Jb)) ++ [⟨x, true⟩] from by rw [take_succ_of hy, List.map_append, List.append_assoc]; rfl)
         have hll : (g1 ++ (ul.take i).map fun x => (⟨x, true⟩ : Jb)).length ≤ 60 := by rw [List.length_append, List.length_map, List.length_take]; omega
         obtain ⟨l, hl⟩ : ∃ l, l = g1 ++ (ul.take i).map fun x => (⟨x, true⟩ : Jb) := ⟨_, rfl⟩
         rw [← hl] at HV HSu hll hc5 ⊢
         have HE1 := Lib.hid (ext_alloc (ext_alloc (Below.refl wr.heap.size wr) (.cells #[.int .i64 x.b, .int .i64 x.s, .int .i64 x.p] 35 (0, 0))) (.cells #[.int .i64 x.b, .int .i64 x.s, .int .i64 x.p, .bool true] 46 (0, 0)))
         have HO4 := Lib.hid (own_ext HV.out HE1.out)
         have HN4 := Lib.hid (Bk.newAt (w := wr.alloc (.cells #[.int .i64 x.b, .int .i64 x.s, .int .i64 x.p] 35 (0, 0))) (t := 46) (cs := #[.int .i64 x.b, .int .i64 x.s, .int .i64 x.p, .bool true]) (g := wr.heap.size + 1) (by simp))
         clear hl hy
         go_wp2_with (first
          | (at_builtin; refine wpList_appE job_app _ rfl (.tmp 63) (.tmp 66) rfl w0.heap.size _ l (by rfl) HO4.out (⟨x, true⟩ : Jb) (wr.heap.size + 1) (by rfl) HN4.out (by omega) (by have h1 := HB.out.size; have h2 := HE1.out.size; omega) ?_
             intro A7 c7 w7 hown7 hg7 hc7
             have HO7 := Lib.hid hown7
             have HG7 := Lib.hid hg7
             clear hown7 hg7))
         go_roundg (gk - 1)
         case measure => omega
         case rel =>
          refine ⟨i + 1, by omega, by go_num, Lib.hid ?_, Lib.hid ((own_ext HO.out HE1.out).kept HG7.out (own_ne_own (own_ext HO.out HE1.out) HO4.out (by decide))), Lib.hid (below_grownOwn (ext_trans HB.out HE1.out) HO4.out (Nat.le_refl _) HG7.out)⟩
          rw [HSu.out]
          have h := HO7.out
          simp only [List.length_append, List.length_cons, List.length_nil, Nat.zero_add] at h ⊢
          exact h
       · have hil : i = ul.length := by omega
         subst hil
         rw [List.take_length] at HV
         rw [List.take_length]
         have HGf := Lib.hid (show goalsL p s batches mark = g1 ++ ul.map fun x => (⟨x, true⟩ : Jb) from by rw [HGo.out, HE.out])
         rw [← HGf.out] at HV
         rw [← HGf.out]
         go_wp2_with fail
         go_ret
         exact ⟨A5, c5, rfl, HV.out, HB.out⟩
end
end Go.Proofs.YtapjhliglmohgaaGreatDoor
