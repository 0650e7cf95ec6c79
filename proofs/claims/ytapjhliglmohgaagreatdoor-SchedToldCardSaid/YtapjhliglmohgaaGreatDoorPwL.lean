/- Pre, Ids, SchedE, DueI, Line, LineP, LineA: laid together. -/
import Derived.Test.YtapjhliglmohgaaGreatDoorPwE
import Derived.Test.YtapjhliglmohgaaGreatDoorPwF
import Derived.Test.YtapjhliglmohgaaGreatDoorPwK
import Derived.Test.YtapjhliglmohgaaGreatDoorPwC
import Derived.Test.YtapjhliglmohgaaGreatDoorPwI
/- The first of a slice's rows; a masked number. -/
namespace Go.Proofs.YtapjhliglmohgaaGreatDoor
open Go.RowKit Go.Sort
theorem RdS.pre {S : Nat → Prop} {w : World} {z n m : Nat} {A : Option Addr} {xs : List Value} (h : RdS w S z A n xs) (hm : m ≤ n) : RdS w S z A m (xs.take (m * z)) := by
 refine ⟨?_, fun h0 => ?_⟩
 · rw [List.length_take, h.1]
   exact Nat.min_eq_left (Nat.mul_le_mul_right z hm)
 · obtain ⟨ad, h1, h2, h3, h4⟩ := h.2 (by omega)
   refine ⟨ad, h1, h2, h3, fun j u hu => h4 j u ?_⟩
   rw [List.getElem?_take] at hu
   split at hu
   · exact hu
   · cases hu
theorem mask_i64 (x : Int) (m : Nat) (hm : m < 9223372036854775808) : ∃ n : Nat, bits .and .i64 x (m : Int) = n ∧ n ≤ m := by
 unfold bits
 simp only
 have h : (BitVec.ofInt 64 x &&& BitVec.ofInt 64 (m : Int)).toNat ≤ m := by
  rw [BitVec.toNat_and]
  refine Nat.le_trans Nat.and_le_right ?_
  simp
  omega
 exact ⟨(BitVec.ofInt 64 x &&& BitVec.ofInt 64 m).toNat, IntWalk.i64_in (((BitVec.ofInt 64 x &&& BitVec.ofInt 64 (m : Int)).toNat : Nat) : Int) (by omega), h⟩
end Go.Proofs.YtapjhliglmohgaaGreatDoor
/- The State pieces of a batch, in order. -/
namespace Go.Proofs.YtapjhliglmohgaaGreatDoor
open Go.RowKit Go.Sort
theorem flatMap_take_succ {α β : Type} (f : α → List β) {l : List α} {i : Nat} {y : α} (h : l[i]? = some y) : (l.take (i + 1)).flatMap f = (l.take i).flatMap f ++ f y := by
 rw [take_succ_of h, List.flatMap_append, List.flatMap_singleton]
end Go.Proofs.YtapjhliglmohgaaGreatDoor
/- Who holds what: unsaved, Whole of the program. -/
namespace Go.Proofs.YtapjhliglmohgaaGreatDoor
open Go.RowKit Go.Sort
/-- The pieces of one dataset in a batch that were not saved, of the first m parts. -/
def unsOne (saved : List Id3) (b : Int) (st m : Nat) : List Id3 := ((List.range m).map fun q => (⟨b, (st : Nat), (q : Nat)⟩ : Id3)).filter fun x => decide (x ∉ saved)
def unsavedL (p : PlanD) (saved : List Id3) (b : Int) : List Id3 := (statesL p.ops).flatMap fun st => unsOne saved b st p.parts.toNat
theorem unsOne_succ (saved : List Id3) (b : Int) (st m : Nat) : unsOne saved b st (m + 1) = unsOne saved b st m ++ (if (⟨b, (st : Nat), (m : Nat)⟩ : Id3) ∈ saved then [] else [⟨b, (st : Nat), (m : Nat)⟩]) := by
 unfold unsOne
 rw [List.range_succ, List.map_append, List.filter_append]
 congr 1
 simp only [List.map_cons, List.map_nil, List.filter_cons, List.filter_nil]
 split
 · next h => rw [if_neg (by simpa using h)]
 · next h => rw [if_pos (by simpa using h)]
theorem unsOne_len (saved : List Id3) (b : Int) (st m : Nat) : (unsOne saved b st m).length ≤ m := by
 unfold unsOne
 refine Nat.le_trans (List.length_filter_le _ _) ?_
 simp
theorem mget_saved (l : List Id3) (x : Id3) : mget (l.map fun y => (y, (.int .i64 1 : Value))) x = if x ∈ l then some (.int .i64 1) else none := by
 induction l with
 | nil => rfl
 | cons y l ih =>
   unfold mget at ih ⊢
   simp only [List.map_cons, List.find?_cons, List.mem_cons]
   by_cases h : y = x
   · subst h
     simp
   · rw [decide_eq_false h]
     simp only
     rw [ih]
     by_cases h2 : x ∈ l
     · rw [if_pos h2, if_pos (.inr h2)]
     · rw [if_neg h2, if_neg (fun h3 => h3.elim (fun e => h e.symm) h2)]
def UnsPost (w : World) (l : List Id3) (e : Ending) (w' : World) : Prop :=
 ∃ A c, e = .returned (.slice A l.length c) ∧ w'.ownsRow w.heap.size 35 3 (.slice A l.length c) l.length (l.flatMap idC) ∧ Below w.heap.size w w'
section
variable {B sb : Nat} {R : Nat → Prop} {p : PlanD} {A : Option Addr} {c : Nat} {s : SchedD}
set_option maxRecDepth 100000 in
set_option maxHeartbeats 8000000 in
theorem unsaved_c (b : Int) (w : World) (h : SchedIs B sb R p A c s w) : Calls Tryz.prog 61 #[.pointer (some ⟨sb, 0, none⟩), .int .i64 b] w (UnsPost w (unsavedL p s.saved b)) := by
 obtain ⟨X, h⟩ := h
 have hp := shaped_check h.plan
 have hn12 := hp.n12
 have hsl := statesL_len p.ops
 have hp1 := hp.p1
 have hp4 := hp.p4
 have H := Lib.hid h
 have z3 : w.cell? ⟨sb, 3, none⟩ = some (.slice X.sA (statesL p.ops).length X.sc) := (h.bk.cell 3).trans rfl
 have hl := h.bk.lt
 obtain ⟨N, hN⟩ : ∃ N, N = (statesL p.ops).length := ⟨_, rfl⟩
 obtain ⟨M, hM⟩ : ∃ M, M = p.parts.toNat := ⟨_, rfl⟩
 have hpM : p.parts = (M : Nat) := by omega
 have HN := Lib.hid hN
 have HM := Lib.hid hM
 have hM8 : M ≤ 4 := by omega
 have hN12 : N ≤ 12 := by omega
 rw [← hN] at z3
 clear h hp hN hM hsl
 go_enter Tryz.func61, Tryz.ntmps61
 go_wp2_with fail
 go_loopg [5, 15] N (fun gk v5 v15 wr => ∃ i : Nat, i + gk = N ∧ v15 = .int .i64 (i : Nat) ∧ wr.ownsRow w.heap.size 35 3 v5 (((statesL p.ops).take i).flatMap fun st => unsOne s.saved b st M).length ((((statesL p.ops).take i).flatMap fun st => unsOne s.saved b st M).flatMap idC) ∧
  (((statesL p.ops).take i).flatMap fun st => unsOne s.saved b st M).length ≤ 4 * i ∧ Below w.heap.size w wr)
 case atStart => exact ⟨0, by omega, rfl, World.ownsRow_nil _ _ _ _, by simp, Below.refl _ _⟩
 case round =>
  obtain ⟨i, hik, rfl, hown, hal, hb⟩ := hrel
  have HB := Lib.hid hb
  have HH := Lib.hid (H.out.ext hb)
  obtain ⟨A5, c5, rfl, hc5⟩ := own_shape hown
  obtain ⟨acc, hacc⟩ : ∃ acc, acc = ((statesL p.ops).take i).flatMap fun st => unsOne s.saved b st M := ⟨_, rfl⟩
  rw [← hacc] at hown hal hc5 ⊢
  have HOw := Lib.hid hown
  have HAc := Lib.hid hacc
  clear hown hb hacc
  by_cases hi : i < N
  · have hiI : (i : Int) < (N : Nat) := by omega
    obtain ⟨st, hst⟩ : ∃ st, (statesL p.ops)[i]? = some st := ⟨_, List.getElem?_eq_getElem (by rw [← HN.out]; exact hi)⟩
    obtain ⟨sad, hsA, hsc⟩ := (Rd.of_own (B := 0) HH.out.st).cell (by rw [← HN.out]; omega)
    have d0 := hsc i (.int .i64 (st : Nat)) (by unfold intsC; rw [List.getElem?_map, hst]; rfl)
    have HsA := Lib.hid hsA
    rw [hsA]
    have y0 : wr.cell? ⟨sb, 0, none⟩ = some (.int .i64 (M : Nat)) := (HH.out.bk.cell 0).trans (by rw [← hpM]; rfl)
    have hwl := HH.out.bk.lt
    have HSt := Lib.hid hst
    clear hst hsc hsA
    obtain ⟨wo, rfl⟩ : ∃ wo : World, wo = wr := ⟨_, rfl⟩
    obtain ⟨go, rfl⟩ : ∃ go : Nat, go = gk := ⟨_, rfl⟩
    have hgo : 0 < go := by omega
    go_wp2_with fail
    go_loopg [5, 24] M (fun gk v5 v24 wr => ∃ q : Nat, q + gk = M ∧ v24 = .int .i64 (q : Nat) ∧ wr.ownsRow w.heap.size 35 3 v5 (acc ++ unsOne s.saved b st q).length ((acc ++ unsOne s.saved b st q).flatMap idC) ∧ Below w.heap.size w wr)
    case atStart => exact ⟨0, by omega, rfl, by rw [show unsOne s.saved b st 0 = [] from rfl, List.append_nil]; exact HOw.out, HB.out⟩
    case round =>
     obtain ⟨q, hqk, rfl, hown, hb⟩ := hrel
     have HB2 := Lib.hid hb
     have HH2 := Lib.hid (H.out.ext hb)
     obtain ⟨A6, c6, rfl, hc6⟩ := own_shape hown
     have hul := unsOne_len s.saved b st q
     obtain ⟨l, hll⟩ : ∃ l, l = acc ++ unsOne s.saved b st q := ⟨_, rfl⟩
     have hlen : l.length ≤ 4 * i + q := by rw [hll, List.length_append]; omega
     rw [← hll] at hown hc6 ⊢
     have HO2 := Lib.hid hown
     have HLl := Lib.hid hll
     clear hown hb hll hul
     by_cases hq : q < M
     · have hqI : (q : Int) < (M : Nat) := by omega
       have z6 : wr.cell? ⟨sb, 6, none⟩ = some (.map (some X.vb)) := (HH2.out.bk.cell 6).trans rfl
       have hwl2 := HH2.out.bk.lt
       have hlk := fun n => ((HH2.out.sv.alloc (.cells #[.int .i64 b, .int .i64 (st : Nat), .int .i64 (q : Nat)] 35)).drewN n).lookup idKey (t := 110) (e := 3) (by kernel_rfl) (zero_int _) (⟨b, (st : Nat), (q : Nat)⟩ : Id3)
       have HS := Lib.hid (unsOne_succ s.saved b st q)
       by_cases hin : (⟨b, (st : Nat), (q : Nat)⟩ : Id3) ∈ s.saved
       · simp only [mget_saved, if_pos hin, Option.getD_some, idV] at hlk
         have HI := Lib.hid hin
         clear hin
         go_wp2_with fail
         go_quiet (fail)
         go_wp2_with fail
         go_roundg (gk - 1)
         case measure => omega
         case rel =>
          refine ⟨q + 1, by omega, by go_num, ?_, below_drewN (ext_alloc HB2.out _) _⟩
          rw [HS.out, if_pos HI.out, List.append_nil, ← HLl.out]
          exact own_ext (own_ext HO2.out (ext_alloc (Below.refl _ _) _)) (below_drewN (Below.refl _ _) _)
       · simp only [mget_saved, if_neg hin, Option.getD_none, idV] at hlk
         have HI := Lib.hid hin
         clear hin
         go_wp2_with fail
         go_quiet (fail)
         have HE1 := Lib.hid (ext_alloc (below_drewN (ext_alloc (Below.refl wr.heap.size wr) (.cells #[.int .i64 b, .int .i64 (st : Nat), .int .i64 (q : Nat)] 35 (0, 0))) nq) (.cells #[.int .i64 b, .int .i64 (st : Nat), .int .i64 (q : Nat)] 35 (0, 0)))
         have HO3 := Lib.hid (own_ext HO2.out HE1.out)
         have HN3 := Lib.hid (Bk.newAt (w := (wr.alloc (.cells #[.int .i64 b, .int .i64 (st : Nat), .int .i64 (q : Nat)] 35 (0, 0))).drewN nq) (t := 35) (cs := #[.int .i64 b, .int .i64 (st : Nat), .int .i64 (q : Nat)]) (g := wr.heap.size + 1) (by show _ = (wr.alloc (.cells #[.int .i64 b, .int .i64 (st : Nat), .int .i64 (q : Nat)] 35 (0, 0))).heap.size; simp))
         go_wp2_with (first
          | (at_builtin; refine wpList_appE id_app _ rfl (.tmp 38) (.tmp 40) rfl w.heap.size _ l (by rfl) HO3.out (⟨b, (st : Nat), (q : Nat)⟩ : Id3) (wr.heap.size + 1) (by rfl) HN3.out (by omega) (by have h1 := HB2.out.size; have h2 := HE1.out.size; omega) ?_
             intro A7 c7 w7 hown7 hg7 hc7
             have HO7 := Lib.hid hown7
             have HB7 := Lib.hid (below_grownOwn (ext_trans HB2.out HE1.out) HO3.out (Nat.le_refl _) hg7)
             clear hown7 hg7))
         go_roundg (gk - 1)
         case measure => omega
         case rel =>
          refine ⟨q + 1, by omega, by go_num, ?_, HB7.out⟩
          rw [HS.out, if_neg HI.out, ← List.append_assoc, ← HLl.out]
          rw [show l.length + 1 = (l ++ [(⟨b, (st : Nat), (q : Nat)⟩ : Id3)]).length from by simp]
          exact HO7.out
     · obtain rfl : gk = 0 := by omega
       obtain rfl : q = M := by omega
       go_wp2_with fail
       rw [← HsA.out]
       go_roundg (go - 1)
       case measure => omega
       case rel =>
        refine ⟨i + 1, by omega, by go_num, ?_, ?_, HB2.out⟩
        · rw [flatMap_take_succ _ HSt.out, ← HAc.out, ← HLl.out]
          exact HO2.out
        · rw [flatMap_take_succ _ HSt.out, ← HAc.out, ← HLl.out]
          omega
  · obtain rfl : gk = 0 := by omega
    obtain rfl : i = N := by omega
    go_wp2_with fail
    go_ret
    have he : unsavedL p s.saved b = acc := by
     unfold unsavedL
     rw [HAc.out, HN.out, List.take_length, ← HM.out]
    rw [he]
    exact ⟨A5, c5, rfl, HOw.out, HB.out⟩
end
end Go.Proofs.YtapjhliglmohgaaGreatDoor
/- Who holds what: Due of the program, at any mark. -/
namespace Go.Proofs.YtapjhliglmohgaaGreatDoor
open Go.RowKit Go.Sort
def dueI (every : Nat) (known mark : Int) : Nat := if 1000000 < mark then 0 else dueD every known mark.toNat
section
variable {B sb : Nat} {R : Nat → Prop} {p : PlanD} {A : Option Addr} {c : Nat} {s : SchedD}
set_option maxRecDepth 100000 in
set_option maxHeartbeats 8000000 in
theorem dueI_c (mark : Int) (w : World) (h : SchedIs B sb R p A c s w) (hm : mark ≤ 9223372036854775807) : Calls Tryz.prog 17 #[.pointer (some ⟨sb, 0, none⟩), .int .i64 mark] w (fun e w' => e = .returned (.int .i64 (dueI s.every s.known mark : Nat)) ∧ ∃ q, w' = w.drewN q) := by
 obtain ⟨X, h⟩ := h
 have z7 : w.cell? ⟨sb, 7, none⟩ = some (.int .i64 s.known) := (h.bk.cell 7).trans rfl
 have z4 : w.cell? ⟨sb, 4, none⟩ = some (.int .i64 (s.every : Nat)) := (h.bk.cell 4).trans rfl
 have hl := h.bk.lt
 have hk := h.known
 obtain ⟨he1, he8⟩ := h.every
 obtain ⟨ev, hev⟩ : ∃ ev, ev = s.every := ⟨_, rfl⟩
 obtain ⟨kn, hkn⟩ : ∃ kn, kn = s.known := ⟨_, rfl⟩
 rw [← hev] at z4 he1 he8 ⊢
 rw [← hkn] at z7 hk ⊢
 clear h hev hkn
 obtain ⟨m, hmm⟩ : ∃ m : Nat, m = (max mark 0).toNat := ⟨_, rfl⟩
 have HMm := Lib.hid (show (m : Int) = max mark 0 by omega)
 have HDu := Lib.hid (show dueI ev kn mark = if 1000000 < m then 0 else dueD ev kn m from by
  unfold dueI
  by_cases h1 : (1000000 : Int) < mark
  · rw [if_pos h1, if_pos (by omega)]
  · rw [if_neg h1, if_neg (by omega)]
    congr 1
    omega)
 have hmt : (m : Int) ≤ 9223372036854775807 := by omega
 clear hmm
 go_enter Tryz.func17, Tryz.ntmps17
 go_upto_region 1 with fail
 go_cut [1] (fun v1 wx => v1 = .int .i64 (m : Nat) ∧ wx = w)
 case first =>
  by_cases hm0 : mark < 0
  · have HE := Lib.hid (show (m : Int) = 0 by have := HMm.out; omega)
    go_wp2_with fail
    go_meet
    exact ⟨by rw [HE.out], rfl⟩
  · have HE := Lib.hid (show (m : Int) = mark by have := HMm.out; omega)
    go_wp2_with fail
    go_meet
    exact ⟨by rw [HE.out], rfl⟩
 case rest =>
  obtain ⟨rfl, rfl⟩ := hcut
  have w1 : IntKind.i64.wrap (9223372036854775807 - (ev : Int)) = 9223372036854775807 - (ev : Int) := IntWalk.i64_in _ (by omega)
  have hev0 : (ev : Int) ≠ 0 := by omega
  by_cases hov : 9223372036854775807 - (ev : Int) < (m : Nat)
  · have HE := Lib.hid (show dueI ev kn mark = 0 from HDu.out.trans (if_pos (by omega)))
    go_wp2_with fail
    go_ret
    rw [HE.out]
    exact ⟨rfl, 0, rfl⟩
  · have hmod : m % ev < ev := Nat.mod_lt _ (by omega)
    obtain ⟨r, hr⟩ : ∃ r, r = m % ev := ⟨_, rfl⟩
    obtain ⟨b, hb⟩ : ∃ b, b = m + ev - r := ⟨_, rfl⟩
    have HD := Lib.hid (show dueD ev kn m = if kn < (b : Nat) ∨ 60 < b then 0 else b from by unfold dueD; rw [← hr, ← hb])
    have e1 : (m : Int).tmod (ev : Int) = (r : Nat) := by rw [hr]; exact (Int.ofNat_tmod m ev).symm
    have e2 : (m : Int) % (ev : Int) = (r : Nat) := by rw [hr]; exact Int.natCast_emod m ev
    have e3 : (m : Int) + (ev : Nat) - (r : Nat) = (b : Nat) := by omega
    have w2 : IntKind.i64.wrap ((m : Int) + (ev : Nat)) = (m : Int) + (ev : Nat) := IntWalk.i64_in _ (by omega)
    have w3 : IntKind.i64.wrap ((m : Int) + (ev : Nat) - (r : Nat)) = (b : Nat) := by rw [e3]; exact IntWalk.i64_in _ (by omega)
    rw [← hr] at hmod
    have hbm : 1000000 < m → 60 < b := by omega
    clear hr hb
    by_cases h1 : kn < (b : Nat)
    · have HE := Lib.hid (show dueI ev kn mark = 0 from HDu.out.trans (by
        split
        · rfl
        · exact HD.out.trans (if_pos (.inl h1))))
      clear hbm
      go_wp2_with fail
      go_quiet (fail)
      go_wp2_with fail
      go_ret
      rw [HE.out]
      exact ⟨rfl, _, rfl⟩
    · by_cases h2 : 60 < b
      · have h2' : (60 : Int) < (b : Nat) := by omega
        have HE := Lib.hid (show dueI ev kn mark = 0 from HDu.out.trans (by
         split
         · rfl
         · exact HD.out.trans (if_pos (.inr h2))))
        clear hbm
        go_wp2_with fail
        go_quiet (fail)
        go_wp2_with fail
        go_ret
        rw [HE.out]
        exact ⟨rfl, _, rfl⟩
      · have h2' : ¬ (60 : Int) < (b : Nat) := by omega
        have HE := Lib.hid (show dueI ev kn mark = b from HDu.out.trans (by
         rw [if_neg (by omega)]
         exact HD.out.trans (if_neg (by omega))))
        clear hbm
        go_wp2_with fail
        go_quiet (fail)
        go_wp2_with fail
        go_ret
        rw [HE.out]
        exact ⟨rfl, _, rfl⟩
end
end Go.Proofs.YtapjhliglmohgaaGreatDoor
/- The walk through a lineage: Leaf of the program. (Printed by mkleaf.py.) -/
namespace Go.Proofs.YtapjhliglmohgaaGreatDoor
open Go.RowKit Go.Sort
/-- The kind of an operation; 0: there is none. -/
def kindAt (ops : List OpD) (s : Int) : Int := if 0 ≤ s then ((ops[s.toNat]?).map (·.k)).getD 0 else 0
/-- Does a piece lie in the store? -/
def leafD (p : PlanD) (x : Id3) (mark : Int) : Bool := decide (0 < mark) && decide (x.b = mark) && decide (0 ≤ x.s) && decide (x.s < (p.ops.length : Nat)) && decide (kindAt p.ops x.s = 8) && decide (0 ≤ x.p) && decide (x.p < p.parts)
set_option maxRecDepth 100000 in
set_option maxHeartbeats 16000000 in
theorem leaf_c (B : Nat) (p : PlanD) (A : Option Addr) (c : Nat) (x : Id3) (mark : Int) (w : World) (h : RdS w (· < B) 5 A p.ops.length (opsC p.ops)) (_hB : B ≤ w.heap.size) :
 Calls Tryz.prog 31 #[planV p A c, idV x, .int .i64 mark] w (BoolPost w (leafD p x mark)) := by
 obtain ⟨xb, xs, xp⟩ := x
 have HO := Lib.hid h
 obtain ⟨r, hr⟩ : ∃ r, r = leafD p ⟨xb, xs, xp⟩ mark := ⟨_, rfl⟩
 have HR := Lib.hid (show r = (decide (0 < mark) && decide (xb = mark) && decide (0 ≤ xs) && decide (xs < (p.ops.length : Nat)) && decide (kindAt p.ops xs = 8) && decide (0 ≤ xp) && decide (xp < p.parts)) from hr)
 rw [← hr]
 clear h hr
 by_cases u0 : (0 : Int) < mark
 · have t0 : decide ((0 : Int) < mark) = true := decide_eq_true u0
   by_cases u1 : xb = mark
   · have t1 : (xb == mark) = true := by simp [u1]
     by_cases u2 : (0 : Int) ≤ xs
     · have t2 : decide ((0 : Int) ≤ xs) = true := decide_eq_true u2
       by_cases u3 : xs < (p.ops.length : Nat)
       · have t3 : decide (xs < (p.ops.length : Nat)) = true := decide_eq_true u3
         obtain ⟨s, hs⟩ : ∃ s : Nat, xs = (s : Nat) := ⟨xs.toNat, by omega⟩
         subst hs
         have hsl : s < p.ops.length := by omega
         obtain ⟨y, hy⟩ : ∃ y, p.ops[s]? = some y := ⟨_, List.getElem?_eq_getElem hsl⟩
         have HKi := Lib.hid (show kindAt p.ops (s : Nat) = y.k from by unfold kindAt; rw [if_pos (by omega), Int.toNat_natCast, hy]; rfl)
         obtain ⟨ad, hA, d0, _⟩ := (((HO.out.ext (ext_alloc (ext_alloc (Below.refl _ _) (.cells #[.int .i64 p.parts, .slice A p.ops.length c] 24 (0, 0))) (.cells #[.int .i64 xb, .int .i64 (s : Nat), .int .i64 xp] 35 (0, 0)))).rd (e := 48) (Nat.le_refl _))).ops hy hsl
         subst hA
         clear hy
         rw [HKi.out] at HR
         by_cases u4 : y.k = 8
         · have t4 : (y.k == 8) = true := by simp [u4]
           by_cases u5 : (0 : Int) ≤ xp
           · have t5 : decide ((0 : Int) ≤ xp) = true := decide_eq_true u5
             by_cases u6 : xp < p.parts
             · have t6 : decide (xp < p.parts) = true := decide_eq_true u6
               have HF := Lib.hid (show r = true from by rw [HR.out]; simp [u0, u1, u2, u3, u4, u5, u6])
               clear u1 u4
               go_enter Tryz.func31, Tryz.ntmps31
               go_wp2_with fail
               go_ret
               rw [HF.out]
               exact ⟨rfl, ext_alloc (ext_alloc (Below.refl _ _) _) _⟩
             · have t6 : decide (xp < p.parts) = false := decide_eq_false u6
               have HF := Lib.hid (show r = false from by rw [HR.out]; simp [u6])
               clear u1
               clear u4
               go_enter Tryz.func31, Tryz.ntmps31
               go_wp2_with fail
               go_ret
               rw [HF.out]
               exact ⟨rfl, ext_alloc (ext_alloc (Below.refl _ _) _) _⟩
           · have t5 : decide ((0 : Int) ≤ xp) = false := decide_eq_false u5
             have HF := Lib.hid (show r = false from by rw [HR.out]; simp [u5])
             clear u1
             clear u4
             go_enter Tryz.func31, Tryz.ntmps31
             go_wp2_with fail
             go_ret
             rw [HF.out]
             exact ⟨rfl, ext_alloc (ext_alloc (Below.refl _ _) _) _⟩
         · have t4 : (y.k == 8) = false := by simp [u4]
           have HF := Lib.hid (show r = false from by rw [HR.out]; simp [u4])
           clear u1
           clear u4
           go_enter Tryz.func31, Tryz.ntmps31
           go_wp2_with fail
           go_ret
           rw [HF.out]
           exact ⟨rfl, ext_alloc (ext_alloc (Below.refl _ _) _) _⟩
       · have t3 : decide (xs < (p.ops.length : Nat)) = false := decide_eq_false u3
         have HF := Lib.hid (show r = false from by rw [HR.out]; simp [u3])
         clear u1
         go_enter Tryz.func31, Tryz.ntmps31
         go_wp2_with fail
         go_ret
         rw [HF.out]
         exact ⟨rfl, ext_alloc (ext_alloc (Below.refl _ _) _) _⟩
     · have t2 : decide ((0 : Int) ≤ xs) = false := decide_eq_false u2
       have HF := Lib.hid (show r = false from by rw [HR.out]; simp [u2])
       clear u1
       go_enter Tryz.func31, Tryz.ntmps31
       go_wp2_with fail
       go_ret
       rw [HF.out]
       exact ⟨rfl, ext_alloc (ext_alloc (Below.refl _ _) _) _⟩
   · have t1 : (xb == mark) = false := by simp [u1]
     have HF := Lib.hid (show r = false from by rw [HR.out]; simp [u1])
     clear u1
     go_enter Tryz.func31, Tryz.ntmps31
     go_wp2_with fail
     go_ret
     rw [HF.out]
     exact ⟨rfl, ext_alloc (ext_alloc (Below.refl _ _) _) _⟩
 · have t0 : decide ((0 : Int) < mark) = false := decide_eq_false u0
   have HF := Lib.hid (show r = false from by rw [HR.out]; simp [u0])
   go_enter Tryz.func31, Tryz.ntmps31
   go_wp2_with fail
   go_ret
   rw [HF.out]
   exact ⟨rfl, ext_alloc (ext_alloc (Below.refl _ _) _) _⟩
end Go.Proofs.YtapjhliglmohgaaGreatDoor
/- The walk through a lineage, in plain Lean. -/
namespace Go.Proofs.YtapjhliglmohgaaGreatDoor
open Go.RowKit Go.Sort
/-- What a walk has found: what must be made, what of it can be, what is used of what is held, how deep it went. -/
structure LnD where
 seen : List Id3
 ready : List Id3
 used : List Id3
 depth : Int
def thereD (p : PlanD) (mark : Int) (held : List Id3) (x : Id3) : Bool := leafD p x mark || decide (x ∈ held)
def needsX (p : PlanD) (x : Id3) : List Id3 := needsL p x.b x.s.toNat x.p.toNat
def LnD.at_ (d : LnD) (steps : Int) : LnD := ⟨d.seen, d.ready, d.used, max d.depth steps⟩
def LnD.use (d : LnD) (x : Id3) : LnD := ⟨d.seen, d.ready, d.used ++ [x], d.depth⟩
def LnD.see (d : LnD) (x : Id3) : LnD := ⟨d.seen ++ [x], d.ready, d.used, d.depth⟩
def LnD.rdy (d : LnD) (x : Id3) : LnD := ⟨d.seen, d.ready ++ [x], d.used, d.depth⟩
def stepsD (p : PlanD) (mark : Int) (held : List Id3) (f : LnD → Id3 → LnD) (a : LnD × Bool) (y : Id3) : LnD × Bool := (f a.1 y, a.2 && thereD p mark held y)
/-- 11.2, as the program goes. -/
def comeD (p : PlanD) (mark : Int) (held : List Id3) : Nat → LnD → Id3 → Int → LnD
 | 0, d, _, _ => d
 | n + 1, d, x, steps =>
   if thereD p mark held x then (if leafD p x mark then d.at_ steps else if x ∈ d.used then d.at_ steps else (d.at_ steps).use x)
   else if x ∈ d.seen then d.at_ steps
   else
    let r := (needsX p x).foldl (stepsD p mark held fun e y => comeD p mark held n e y (steps + 1)) ((d.at_ steps).see x, true)
    if r.2 then r.1.rdy x else r.1
/-- How far down it may go. -/
def deepD (mark : Int) (x : Id3) : Nat := (x.b - max mark 0).toNat * 13 + x.s.toNat
/-- A piece that a walk may come to. -/
structure CanD (p : PlanD) (mark : Int) (x : Id3) : Prop where
 has : hasB p x = true
 top : x.b ≤ 9223372036854775807
 up : max mark 0 < x.b ∨ leafD p x mark = true
 near : x.b - max mark 0 ≤ 16
theorem hasB_parts {p : PlanD} {x : Id3} (h : hasB p x = true) : 1 ≤ x.b ∧ ∃ s q : Nat, x.s = (s : Nat) ∧ x.p = (q : Nat) ∧ s < p.ops.length ∧ (q : Int) < p.parts := by
 unfold hasB at h
 simp only [Bool.and_eq_true, decide_eq_true_eq] at h
 obtain ⟨h1, h2, h3, h4, h5⟩ := h
 exact ⟨h1, x.s.toNat, x.p.toNat, by omega, by omega, by omega, by omega⟩
theorem hasB_mk {p : PlanD} {b : Int} {s q : Nat} (h1 : 1 ≤ b) (h2 : s < p.ops.length) (h3 : q < p.parts.toNat) : hasB p ⟨b, (s : Nat), (q : Nat)⟩ = true := by
 unfold hasB
 simp only [Bool.and_eq_true, decide_eq_true_eq]
 omega
theorem isSt_kind {p : PlanD} {s : Nat} (h : isSt p.ops s = true) : kindAt p.ops (s : Nat) = 8 := by
 unfold isSt at h
 unfold kindAt
 rw [if_pos (by omega), Int.toNat_natCast]
 cases ho : p.ops[s]? with
 | none => rw [ho] at h; cases h
 | some o =>
   rw [ho] at h
   simpa using h
theorem needs_can {p : PlanD} {mark : Int} {x y : Id3} (hp : Shaped p) (h : CanD p mark x) (hl : leafD p x mark = false) (hy : y ∈ needsX p x) : CanD p mark y ∧ (leafD p y mark = true ∨ deepD mark y < deepD mark x) := by
 have hok : OpsOk p.ops := fun i o h => (hp.op i o h).2
 obtain ⟨xb, xs, xp⟩ := x
 obtain ⟨hb1, s, q, hs, hq, hsl, hql⟩ := hasB_parts h.has
 simp only at hs hq hb1
 subst hs hq
 have hup : max mark 0 < xb := by
  rcases h.up with h1 | h1
  · exact h1
  · rw [hl] at h1; cases h1
 have hnear : xb - max mark 0 ≤ 16 := h.near
 have htop : xb ≤ 9223372036854775807 := h.top
 unfold needsX needsL at hy
 simp only [Int.toNat_natCast] at hy
 rcases List.mem_append.1 hy with hy | hy
 · obtain ⟨z, hz, rfl⟩ := List.mem_map.1 hy
   have h1 := ((own_mem hok s q z).1 hz).lt hok
   have hq2 : z.2 < p.parts.toNat := by omega
   have hsl2 : z.1 < p.ops.length := by omega
   refine ⟨⟨hasB_mk hb1 hsl2 hq2, htop, .inl hup, hnear⟩, .inr ?_⟩
   show (xb - max mark 0).toNat * 13 + ((z.1 : Nat) : Int).toNat < (xb - max mark 0).toNat * 13 + ((s : Nat) : Int).toNat
   rw [Int.toNat_natCast, Int.toNat_natCast]
   omega
 · split at hy
   · next hc =>
     rw [Bool.and_eq_true, decide_eq_true_eq] at hc
     rw [List.mem_singleton] at hy
     subst hy
     have hn12 := hp.n12
     by_cases hm : max mark 0 < xb - 1
     · refine ⟨⟨hasB_mk (by omega) hsl (by omega), by show xb - 1 ≤ _; omega, .inl hm, by show xb - 1 - max mark 0 ≤ 16; omega⟩, .inr ?_⟩
       show (xb - 1 - max mark 0).toNat * 13 + ((s : Nat) : Int).toNat < (xb - max mark 0).toNat * 13 + ((s : Nat) : Int).toNat
       omega
     · have hmk : 0 < mark ∧ xb - 1 = mark := by omega
       have hlf : leafD p ⟨xb - 1, (s : Nat), (q : Nat)⟩ mark = true := by
        unfold leafD
        simp only [Bool.and_eq_true, decide_eq_true_eq]
        exact ⟨⟨⟨⟨⟨⟨hmk.1, hmk.2⟩, by omega⟩, by omega⟩, isSt_kind hc.1⟩, by omega⟩, hql⟩
       exact ⟨⟨hasB_mk (by omega) hsl (by omega), by show xb - 1 ≤ _; omega, .inr hlf, by show xb - 1 - max mark 0 ≤ 16; omega⟩, .inl hlf⟩
   · cases hy
end Go.Proofs.YtapjhliglmohgaaGreatDoor
/- The walk through a lineage: what lies in memory; there of the program. -/
namespace Go.Proofs.YtapjhliglmohgaaGreatDoor
open Go.RowKit Go.Sort
theorem own_ne_bk {w : World} {base g n z : Nat} {e t : TypeId} {v : Value} {xs : List Value} {cs : Array Value} (h : w.ownsRow base e z v n xs) (hg : Bk w g t cs) (hne : e ≠ t) : v.ownBlock ≠ some g := by
 rcases h.2 with ⟨rfl, _⟩ | ⟨g', cap, cur, rfl, _, hh, _⟩
 · simp [Value.ownBlock]
 · intro he
   have : g' = g := by simpa [Value.ownBlock] using he
   subst this
   exact Bk.ne_ (t := e) hh hg hne rfl
structure LnX where
 lb : Nat
 wyb : Nat
 hb : Nat
 mb : Nat
 Rw : Nat → Prop
 K : Option Addr
 kc : Nat
 A1 : Option Addr
 c1 : Nat
 A2 : Option Addr
 c2 : Nat
 A3 : Option Addr
 c3 : Nat
def LnX.v1 (X : LnX) (d : LnD) : Value := .slice X.A1 d.seen.length X.c1
def LnX.v2 (X : LnX) (d : LnD) : Value := .slice X.A2 d.ready.length X.c2
def LnX.v3 (X : LnX) (d : LnD) : Value := .slice X.A3 d.used.length X.c3
def LnX.cells (X : LnX) (p : PlanD) (A : Option Addr) (c : Nat) (mark : Int) (d : LnD) : Array Value :=
 #[.int .i64 p.parts, .slice A p.ops.length c, .pointer (some ⟨X.wyb, 0, none⟩), .int .i64 mark, .map (some X.hb), .map (some X.mb), .slice X.A1 d.seen.length X.c1, .slice X.A2 d.ready.length X.c2, .slice X.A3 d.used.length X.c3, .int .i64 d.depth]
structure LnAt (B : Nat) (X : LnX) (R : Nat → Prop) (p : PlanD) (A : Option Addr) (c : Nat) (mark : Int) (held : List Id3) (d : LnD) (ks : List Id3) (w : World) : Prop where
 bk : Bk w X.lb 181 (X.cells p A c mark d)
 ways : WaysIs B X.wyb X.Rw p A X.K c X.kc w
 hm : MapIs idV w X.hb (held.map fun x => (x, .int .i64 1))
 sm : MapIs idV w X.mb (ks.map fun x => (x, .int .i64 1))
 s1 : w.ownsRow B 35 3 (X.v1 d) d.seen.length (idsC d.seen)
 s2 : w.ownsRow B 35 3 (X.v2 d) d.ready.length (idsC d.ready)
 s3 : w.ownsRow B 35 3 (X.v3 d) d.used.length (idsC d.used)
 rl : R X.lb ∧ ¬ X.Rw X.lb
 rh : R X.hb ∧ ¬ X.Rw X.hb
 rm : R X.mb ∧ ¬ X.Rw X.mb
 r1 : ∀ k, (X.v1 d).ownBlock = some k → R k ∧ ¬ X.Rw k
 r2 : ∀ k, (X.v2 d).ownBlock = some k → R k ∧ ¬ X.Rw k
 r3 : ∀ k, (X.v3 d).ownBlock = some k → R k ∧ ¬ X.Rw k
 rw_ : ∀ k, X.Rw k → R k
 n12 : ∀ k, (X.v1 d).ownBlock = some k → (X.v2 d).ownBlock ≠ some k
 n13 : ∀ k, (X.v1 d).ownBlock = some k → (X.v3 d).ownBlock ≠ some k
 n23 : ∀ k, (X.v2 d).ownBlock = some k → (X.v3 d).ownBlock ≠ some k
 nm : X.hb ≠ X.mb
 bd : ∀ k, R k → B ≤ k ∧ k < w.heap.size
section
variable {B : Nat} {X : LnX} {R : Nat → Prop} {p : PlanD} {A : Option Addr} {c : Nat} {mark : Int} {held : List Id3} {d : LnD} {ks : List Id3}
theorem LnAt.fr {w w' : World} {S : Nat → Prop} (h : LnAt B X R p A c mark held d ks w) (hf : Fr S w w') (hR : ∀ k, R k → ¬ S k) (hB : ∀ k, k < B → ¬ S k) : LnAt B X R p A c mark held d ks w' :=
 ⟨h.bk.fr hf (hR _ h.rl.1), h.ways.fr hf (fun k hk => hR k (h.rw_ k hk)) hB, h.hm.fr hf (hR _ h.rh.1), h.sm.fr hf (hR _ h.rm.1), own_fr h.s1 hf (fun k hk => hR k (h.r1 k hk).1), own_fr h.s2 hf (fun k hk => hR k (h.r2 k hk).1), own_fr h.s3 hf (fun k hk => hR k (h.r3 k hk).1),
  h.rl, h.rh, h.rm, h.r1, h.r2, h.r3, h.rw_, h.n12, h.n13, h.n23, h.nm, fun k hk => ⟨(h.bd k hk).1, Nat.lt_of_lt_of_le (h.bd k hk).2 hf.size⟩⟩
theorem LnAt.ext {w w' : World} (h : LnAt B X R p A c mark held d ks w) (hb : Below w.heap.size w w') : LnAt B X R p A c mark held d ks w' := h.fr (S := No) (Fr.of_below hb) (fun _ _ h => h) (fun _ _ h => h)
theorem LnAt.opsR {w : World} (h : LnAt B X R p A c mark held d ks w) : RdS w (· < B) 5 A p.ops.length (opsC p.ops) := by
 obtain ⟨mb, es, hw⟩ := h.ways
 exact hw.ops
theorem LnAt.hB {w : World} (h : LnAt B X R p A c mark held d ks w) : B ≤ w.heap.size := by
 have := h.bd _ h.rl.1
 omega
end
theorem mget_ones (l : List Id3) (x : Id3) : mget (l.map fun y => (y, (.int .i64 1 : Value))) x = if x ∈ l then some (.int .i64 1) else none := by
 induction l with
 | nil => rfl
 | cons y l ih =>
   unfold mget at ih ⊢
   simp only [List.map_cons, List.find?_cons, List.mem_cons]
   by_cases h : y = x
   · subst h
     simp
   · rw [decide_eq_false h]
     simp only
     rw [ih]
     by_cases h2 : x ∈ l
     · rw [if_pos h2, if_pos (.inr h2)]
     · rw [if_neg h2, if_neg (fun h3 => h3.elim (fun e => h e.symm) h2)]
theorem zero_intL (w : World) : (zeroValue 3).run Tryz.prog w = .ok (.int .i64 0) w := by kernel_rfl
section
variable {B : Nat} {X : LnX} {R : Nat → Prop} {p : PlanD} {A : Option Addr} {c : Nat} {mark : Int} {held : List Id3} {d : LnD} {ks : List Id3}
set_option maxRecDepth 100000 in
set_option maxHeartbeats 16000000 in
theorem there_c (x : Id3) (w : World) (h : LnAt B X R p A c mark held d ks w) :
 Calls Tryz.prog 156 #[.pointer (some ⟨X.lb, 0, none⟩), idV x] w (BoolPost w (thereD p mark held x)) := by
 obtain ⟨xb, xs, xp⟩ := x
 obtain ⟨W, hW⟩ : ∃ W, W = w.alloc (.cells #[.int .i64 xb, .int .i64 xs, .int .i64 xp] 35 (0, 0)) := ⟨_, rfl⟩
 have HBW := Lib.hid (show Below w.heap.size w W from by rw [hW]; exact ext_alloc (Below.refl _ _) _)
 have HXW := Lib.hid (show Bk W w.heap.size 35 #[.int .i64 xb, .int .i64 xs, .int .i64 xp] from by rw [hW]; exact Bk.new _ _ _)
 have H := Lib.hid (h.ext HBW.out)
 have HWW := Lib.hid hW
 clear h hW
 have c0 : W.cell? ⟨w.heap.size, 0, none⟩ = some (.int .i64 xb) := (HXW.out.cell 0).trans rfl
 have c1 : W.cell? ⟨w.heap.size, 1, none⟩ = some (.int .i64 xs) := (HXW.out.cell 1).trans rfl
 have c2 : W.cell? ⟨w.heap.size, 2, none⟩ = some (.int .i64 xp) := (HXW.out.cell 2).trans rfl
 have l0 : W.cell? ⟨X.lb, 0, none⟩ = some (.int .i64 p.parts) := (H.out.bk.cell 0).trans rfl
 have l1 : W.cell? ⟨X.lb, 1, none⟩ = some (.slice A p.ops.length c) := (H.out.bk.cell 1).trans rfl
 have l3 : W.cell? ⟨X.lb, 3, none⟩ = some (.int .i64 mark) := (H.out.bk.cell 3).trans rfl
 have l4 : W.cell? ⟨X.lb, 4, none⟩ = some (.map (some X.hb)) := (H.out.bk.cell 4).trans rfl
 have z0 := HXW.out.lt
 have z1 := H.out.bk.lt
 cases hl : leafD p ⟨xb, xs, xp⟩ mark with
 | true =>
   have HL := Lib.hid hl
   have HT := Lib.hid (show thereD p mark held ⟨xb, xs, xp⟩ = true from by unfold thereD; rw [hl]; rfl)
   clear hl
   go_enter Tryz.func156, Tryz.ntmps156
   go_wp2_with fail
   rw [← HWW.out]
   refine wp_region_held_drew (S := (fun w' => w'.cell? ⟨w.heap.size, 0, none⟩ = some (.int .i64 xb) ∧ w'.cell? ⟨w.heap.size, 1, none⟩ = some (.int .i64 xs) ∧ w'.cell? ⟨w.heap.size, 2, none⟩ = some (.int .i64 xp) ∧ w'.cell? ⟨X.lb, 0, none⟩ = some (.int .i64 p.parts) ∧ w'.cell? ⟨X.lb, 1, none⟩ = some (.slice A p.ops.length c) ∧ w'.cell? ⟨X.lb, 3, none⟩ = some (.int .i64 mark) ∧ w'.cell? ⟨X.lb, 4, none⟩ = some (.map (some X.hb)))) (by kernel_rfl) ?_ (fun hHeld => ?_)
   · (first | exact ⟨(HX1.out.cell 0).trans rfl, (HX1.out.cell 1).trans rfl, (HX1.out.cell 2).trans rfl, (H1.out.bk.cell 0).trans rfl, (H1.out.bk.cell 1).trans rfl, (H1.out.bk.cell 3).trans rfl, (H1.out.bk.cell 4).trans rfl⟩ | exact ⟨c0, c1, c2, l0, l1, l3, l4⟩ | go_keep)
   refine wpAnyH_take (i := 0) (oi := ⟨some 5, .move (.tmp 0), 179, "line.go:39", #[], none⟩) (v := ?v1z0) rfl (by kernel_rfl) (by kernel_rfl) (by kernel_rfl) (fun _ _ _ h => h) (Or.inl ⟨by rfl, ?hy1z0⟩) (by assumption) ?rest1z0
   case hy1z0 => (intro w hSw; (try dsimp only at hSw); go_simp; try (with_reducible rfl))
   simp only [Act.put, List.setIfInBounds_toArray, List.set_cons_zero, List.set_cons_succ]
   refine wpAnyH_take (i := 1) (oi := ⟨some 6, .nilCheck (.tmp 5), 0, "line.go:39", #[⟨0, .data⟩], none⟩) (v := ?v1z1) rfl (by kernel_rfl) (by kernel_rfl) (by kernel_rfl) (fun _ _ _ h => h) (Or.inl ⟨by rfl, ?hy1z1⟩) (by assumption) ?rest1z1
   case hy1z1 => (intro w hSw; (try dsimp only at hSw); go_simp; try (with_reducible rfl))
   simp only [Act.put, List.setIfInBounds_toArray, List.set_cons_zero, List.set_cons_succ]
   refine wpAnyH_take (i := 2) (oi := ⟨some 7, .fieldAddr 181 (.tmp 6) 0, 0, "line.go:39", #[⟨1, .data⟩], none⟩) (v := ?v1z2) rfl (by kernel_rfl) (by kernel_rfl) (by kernel_rfl) (fun _ _ _ h => h) (Or.inl ⟨by rfl, ?hy1z2⟩) (by assumption) ?rest1z2
   case hy1z2 => (intro w hSw; (try dsimp only at hSw); go_simp; try (with_reducible rfl))
   simp only [Act.put, List.setIfInBounds_toArray, List.set_cons_zero, List.set_cons_succ]
   refine wpAnyH_take (i := 3) (oi := ⟨some 8, .load 24 (.tmp 7), 24, "line.go:39", #[⟨2, .data⟩], none⟩) (v := ?v1z3) rfl (by kernel_rfl) (by kernel_rfl) (by kernel_rfl) (fun _ _ _ h => h) (Or.inl ⟨by rfl, ?hy1z3⟩) (by assumption) ?rest1z3
   case hy1z3 => (intro w hSw; (try dsimp only at hSw); go_simp; try (with_reducible rfl))
   simp only [Act.put, List.setIfInBounds_toArray, List.set_cons_zero, List.set_cons_succ]
   refine wpAnyH_take (i := 4) (oi := ⟨some 9, .load 35 (.tmp 3), 35, "line.go:39", #[], none⟩) (v := ?v1z4) rfl (by kernel_rfl) (by kernel_rfl) (by kernel_rfl) (fun _ _ _ h => h) (Or.inl ⟨by rfl, ?hy1z4⟩) (by assumption) ?rest1z4
   case hy1z4 => (intro w hSw; (try dsimp only at hSw); go_simp; try (with_reducible rfl))
   simp only [Act.put, List.setIfInBounds_toArray, List.set_cons_zero, List.set_cons_succ]
   refine wpAnyH_take (i := 5) (oi := ⟨some 10, .move (.tmp 0), 179, "line.go:39", #[], none⟩) (v := ?v1z5) rfl (by kernel_rfl) (by kernel_rfl) (by kernel_rfl) (fun _ _ _ h => h) (Or.inl ⟨by rfl, ?hy1z5⟩) (by assumption) ?rest1z5
   case hy1z5 => (intro w hSw; (try dsimp only at hSw); go_simp; try (with_reducible rfl))
   simp only [Act.put, List.setIfInBounds_toArray, List.set_cons_zero, List.set_cons_succ]
   refine wpAnyH_take (i := 6) (oi := ⟨some 11, .nilCheck (.tmp 10), 0, "line.go:39", #[⟨5, .data⟩], none⟩) (v := ?v1z6) rfl (by kernel_rfl) (by kernel_rfl) (by kernel_rfl) (fun _ _ _ h => h) (Or.inl ⟨by rfl, ?hy1z6⟩) (by assumption) ?rest1z6
   case hy1z6 => (intro w hSw; (try dsimp only at hSw); go_simp; try (with_reducible rfl))
   simp only [Act.put, List.setIfInBounds_toArray, List.set_cons_zero, List.set_cons_succ]
   refine wpAnyH_take (i := 7) (oi := ⟨some 12, .fieldAddr 181 (.tmp 11) 2, 0, "line.go:39", #[⟨6, .data⟩], none⟩) (v := ?v1z7) rfl (by kernel_rfl) (by kernel_rfl) (by kernel_rfl) (fun _ _ _ h => h) (Or.inl ⟨by rfl, ?hy1z7⟩) (by assumption) ?rest1z7
   case hy1z7 => (intro w hSw; (try dsimp only at hSw); go_simp; try (with_reducible rfl))
   simp only [Act.put, List.setIfInBounds_toArray, List.set_cons_zero, List.set_cons_succ]
   refine wpAnyH_take (i := 8) (oi := ⟨some 13, .load 3 (.tmp 12), 3, "line.go:39", #[⟨7, .data⟩], none⟩) (v := ?v1z8) rfl (by kernel_rfl) (by kernel_rfl) (by kernel_rfl) (fun _ _ _ h => h) (Or.inl ⟨by rfl, ?hy1z8⟩) (by assumption) ?rest1z8
   case hy1z8 => (intro w hSw; (try dsimp only at hSw); go_simp; try (with_reducible rfl))
   simp only [Act.put, List.setIfInBounds_toArray, List.set_cons_zero, List.set_cons_succ]
   refine wpAnyH_ready (rs := [9]) (by kernel_rfl) (by simp) ?_
   refine AllReadyH.cons (o := ⟨some 14, .call { callee := .value (.func 31), args := #[.tmp 8, .tmp 9, .tmp 13], argTypes := #[24, 35, 3] }, 4, "line.go:39", #[⟨3, .data⟩, ⟨4, .data⟩, ⟨8, .data⟩], none⟩) rfl (fun K hK => ?_) ?_
   ·
     go_simp
     go_at_call 31
     refine (leaf_c B p A c ⟨xb, xs, xp⟩ mark _ (H.out.opsR.ext (below_drewN (Below.refl _ _) 1)) (Nat.le_trans H.out.hB (Nat.le_refl _))).mono ?_
     rw [HL.out]
     rintro e w1 ⟨rfl, hb⟩
     have HB1 := Lib.hid (show Below W.heap.size W w1 from ext_trans (below_drewN (Below.refl _ _) 1) hb)
     have H1 := Lib.hid (H.out.ext HB1.out)
     have HX1 := Lib.hid (HXW.out.ext HB1.out)
     clear hb
     refine hK.out _ _ ?_ (fun hHeld => ?_)
     · (first | exact ⟨(HX1.out.cell 0).trans rfl, (HX1.out.cell 1).trans rfl, (HX1.out.cell 2).trans rfl, (H1.out.bk.cell 0).trans rfl, (H1.out.bk.cell 1).trans rfl, (H1.out.bk.cell 3).trans rfl, (H1.out.bk.cell 4).trans rfl⟩ | exact ⟨c0, c1, c2, l0, l1, l3, l4⟩ | go_keep)
     clear hK K
     try simp only [Act.put, List.setIfInBounds_toArray, List.set_cons_zero, List.set_cons_succ]
     refine wpAnyH_take (i := 10) (oi := ⟨some 15, .move (.tmp 14), 4, "line.go:39", #[⟨9, .data⟩, ⟨9, .chain⟩], none⟩) (v := ?v1z10) rfl (by kernel_rfl) (by kernel_rfl) (by kernel_rfl) (fun _ _ _ h => h) (Or.inl ⟨by rfl, ?hy1z10⟩) (by assumption) ?rest1z10
     case hy1z10 => (intro w hSw; (try dsimp only at hSw); go_simp; try (with_reducible rfl))
     simp only [Act.put, List.setIfInBounds_toArray, List.set_cons_zero, List.set_cons_succ]
     refine wpAnyH_take (i := 11) (oi := ⟨some 16, .move (.tmp 0), 179, "line.go:39", #[⟨10, .guard⟩], some (10, false)⟩) (v := undef) rfl (by kernel_rfl) (by kernel_rfl) (by kernel_rfl) (fun _ _ _ h => h) (Or.inr ⟨by rfl, rfl⟩) (by assumption) ?_
     simp only [Act.put, List.setIfInBounds_toArray, List.set_cons_zero, List.set_cons_succ]
     refine wpAnyH_take (i := 12) (oi := ⟨some 17, .nilCheck (.tmp 16), 0, "line.go:39", #[⟨11, .data⟩, ⟨10, .guard⟩], some (10, false)⟩) (v := undef) rfl (by kernel_rfl) (by kernel_rfl) (by kernel_rfl) (fun _ _ _ h => h) (Or.inr ⟨by rfl, rfl⟩) (by assumption) ?_
     simp only [Act.put, List.setIfInBounds_toArray, List.set_cons_zero, List.set_cons_succ]
     refine wpAnyH_take (i := 13) (oi := ⟨some 18, .fieldAddr 181 (.tmp 17) 3, 0, "line.go:39", #[⟨12, .data⟩, ⟨10, .guard⟩], some (10, false)⟩) (v := undef) rfl (by kernel_rfl) (by kernel_rfl) (by kernel_rfl) (fun _ _ _ h => h) (Or.inr ⟨by rfl, rfl⟩) (by assumption) ?_
     simp only [Act.put, List.setIfInBounds_toArray, List.set_cons_zero, List.set_cons_succ]
     refine wpAnyH_take (i := 14) (oi := ⟨some 19, .load 110 (.tmp 18), 110, "line.go:39", #[⟨13, .data⟩, ⟨10, .guard⟩], some (10, false)⟩) (v := undef) rfl (by kernel_rfl) (by kernel_rfl) (by kernel_rfl) (fun _ _ _ h => h) (Or.inr ⟨by rfl, rfl⟩) (by assumption) ?_
     simp only [Act.put, List.setIfInBounds_toArray, List.set_cons_zero, List.set_cons_succ]
     refine wpAnyH_take (i := 15) (oi := ⟨some 20, .load 35 (.tmp 3), 35, "line.go:39", #[⟨10, .guard⟩], some (10, false)⟩) (v := undef) rfl (by kernel_rfl) (by kernel_rfl) (by kernel_rfl) (fun _ _ _ h => h) (Or.inr ⟨by rfl, rfl⟩) (by assumption) ?_
     simp only [Act.put, List.setIfInBounds_toArray, List.set_cons_zero, List.set_cons_succ]
     refine wpAnyH_take (i := 16) (oi := ⟨some 21, .lookup 110 (.tmp 19) (.tmp 20) false, 3, "line.go:39", #[⟨14, .data⟩, ⟨15, .data⟩, ⟨10, .guard⟩], some (10, false)⟩) (v := undef) rfl (by kernel_rfl) (by kernel_rfl) (by kernel_rfl) (fun _ _ _ h => h) (Or.inr ⟨by rfl, rfl⟩) (by assumption) ?_
     simp only [Act.put, List.setIfInBounds_toArray, List.set_cons_zero, List.set_cons_succ]
     refine wpAnyH_take (i := 17) (oi := ⟨some 22, .binOp .gtr 3 (.tmp 21) (.const (.int .i64 0)) 3, 4, "line.go:39", #[⟨16, .data⟩, ⟨10, .guard⟩], some (10, false)⟩) (v := undef) rfl (by kernel_rfl) (by kernel_rfl) (by kernel_rfl) (fun _ _ _ h => h) (Or.inr ⟨by rfl, rfl⟩) (by assumption) ?_
     simp only [Act.put, List.setIfInBounds_toArray, List.set_cons_zero, List.set_cons_succ]
     refine wpAnyH_take (i := 18) (oi := ⟨some 23, .pick (.tmp 15) (.const (.bool true)) (.tmp 22), 4, "line.go:39", #[⟨10, .data⟩, ⟨17, .data⟩], none⟩) (v := ?v1z18) rfl (by kernel_rfl) (by kernel_rfl) (by kernel_rfl) (fun _ _ _ h => h) (Or.inl ⟨by rfl, ?hy1z18⟩) (by assumption) ?rest1z18
     case hy1z18 => (intro w hSw; (try dsimp only at hSw); go_simp; try (with_reducible rfl))
     simp only [Act.put, List.setIfInBounds_toArray, List.set_cons_zero, List.set_cons_succ]
     refine wpAnyH_take (i := 19) (oi := ⟨some 4, .assign (.tmp 23), 4, "line.go:39", #[⟨18, .data⟩, ⟨10, .chain⟩, ⟨0, .phase⟩, ⟨1, .phase⟩, ⟨2, .phase⟩, ⟨3, .phase⟩, ⟨4, .phase⟩, ⟨5, .phase⟩, ⟨6, .phase⟩, ⟨7, .phase⟩, ⟨8, .phase⟩, ⟨9, .phase⟩, ⟨10, .phase⟩, ⟨11, .phase⟩, ⟨12, .phase⟩, ⟨13, .phase⟩, ⟨14, .phase⟩, ⟨15, .phase⟩, ⟨16, .phase⟩, ⟨17, .phase⟩, ⟨18, .phase⟩], none⟩) (v := ?v1z19) rfl (by kernel_rfl) (by kernel_rfl) (by kernel_rfl) (fun _ _ _ h => h) (Or.inl ⟨by rfl, ?hy1z19⟩) (by assumption) ?rest1z19
     case hy1z19 => (intro w hSw; (try dsimp only at hSw); go_simp; try (with_reducible rfl))
     simp only [Act.put, List.setIfInBounds_toArray, List.set_cons_zero, List.set_cons_succ]
     refine wpAnyH_done (by kernel_rfl) ?_ _
     go_wp2_with fail
     go_ret
     rw [HT.out]
     exact ⟨rfl, ext_trans HBW.out HB1.out⟩
   exact AllReadyH.nil
 | false =>
   have HL := Lib.hid hl
   have HT := Lib.hid (show thereD p mark held ⟨xb, xs, xp⟩ = decide ((⟨xb, xs, xp⟩ : Id3) ∈ held) from by unfold thereD; rw [hl]; rfl)
   clear hl
   go_enter Tryz.func156, Tryz.ntmps156
   go_wp2_with fail
   rw [← HWW.out]
   obtain ⟨u, hu⟩ : ∃ u, u = decide ((⟨xb, xs, xp⟩ : Id3) ∈ held) := ⟨_, rfl⟩
   rw [← hu] at HT
   have HU := Lib.hid hu
   clear hu
   cases u with
   | true =>
     refine wp_region_held_drew (S := (fun w' => w'.cell? ⟨w.heap.size, 0, none⟩ = some (.int .i64 xb) ∧ w'.cell? ⟨w.heap.size, 1, none⟩ = some (.int .i64 xs) ∧ w'.cell? ⟨w.heap.size, 2, none⟩ = some (.int .i64 xp) ∧ w'.cell? ⟨X.lb, 0, none⟩ = some (.int .i64 p.parts) ∧ w'.cell? ⟨X.lb, 1, none⟩ = some (.slice A p.ops.length c) ∧ w'.cell? ⟨X.lb, 3, none⟩ = some (.int .i64 mark) ∧ w'.cell? ⟨X.lb, 4, none⟩ = some (.map (some X.hb)))) (by kernel_rfl) ?_ (fun hHeld => ?_)
     · (first | exact ⟨(HX1.out.cell 0).trans rfl, (HX1.out.cell 1).trans rfl, (HX1.out.cell 2).trans rfl, (H1.out.bk.cell 0).trans rfl, (H1.out.bk.cell 1).trans rfl, (H1.out.bk.cell 3).trans rfl, (H1.out.bk.cell 4).trans rfl⟩ | exact ⟨c0, c1, c2, l0, l1, l3, l4⟩ | go_keep)
     refine wpAnyH_take (i := 0) (oi := ⟨some 5, .move (.tmp 0), 179, "line.go:39", #[], none⟩) (v := ?v2z0) rfl (by kernel_rfl) (by kernel_rfl) (by kernel_rfl) (fun _ _ _ h => h) (Or.inl ⟨by rfl, ?hy2z0⟩) (by assumption) ?rest2z0
     case hy2z0 => (intro w hSw; (try dsimp only at hSw); go_simp; try (with_reducible rfl))
     simp only [Act.put, List.setIfInBounds_toArray, List.set_cons_zero, List.set_cons_succ]
     refine wpAnyH_take (i := 1) (oi := ⟨some 6, .nilCheck (.tmp 5), 0, "line.go:39", #[⟨0, .data⟩], none⟩) (v := ?v2z1) rfl (by kernel_rfl) (by kernel_rfl) (by kernel_rfl) (fun _ _ _ h => h) (Or.inl ⟨by rfl, ?hy2z1⟩) (by assumption) ?rest2z1
     case hy2z1 => (intro w hSw; (try dsimp only at hSw); go_simp; try (with_reducible rfl))
     simp only [Act.put, List.setIfInBounds_toArray, List.set_cons_zero, List.set_cons_succ]
     refine wpAnyH_take (i := 2) (oi := ⟨some 7, .fieldAddr 181 (.tmp 6) 0, 0, "line.go:39", #[⟨1, .data⟩], none⟩) (v := ?v2z2) rfl (by kernel_rfl) (by kernel_rfl) (by kernel_rfl) (fun _ _ _ h => h) (Or.inl ⟨by rfl, ?hy2z2⟩) (by assumption) ?rest2z2
     case hy2z2 => (intro w hSw; (try dsimp only at hSw); go_simp; try (with_reducible rfl))
     simp only [Act.put, List.setIfInBounds_toArray, List.set_cons_zero, List.set_cons_succ]
     refine wpAnyH_take (i := 3) (oi := ⟨some 8, .load 24 (.tmp 7), 24, "line.go:39", #[⟨2, .data⟩], none⟩) (v := ?v2z3) rfl (by kernel_rfl) (by kernel_rfl) (by kernel_rfl) (fun _ _ _ h => h) (Or.inl ⟨by rfl, ?hy2z3⟩) (by assumption) ?rest2z3
     case hy2z3 => (intro w hSw; (try dsimp only at hSw); go_simp; try (with_reducible rfl))
     simp only [Act.put, List.setIfInBounds_toArray, List.set_cons_zero, List.set_cons_succ]
     refine wpAnyH_take (i := 4) (oi := ⟨some 9, .load 35 (.tmp 3), 35, "line.go:39", #[], none⟩) (v := ?v2z4) rfl (by kernel_rfl) (by kernel_rfl) (by kernel_rfl) (fun _ _ _ h => h) (Or.inl ⟨by rfl, ?hy2z4⟩) (by assumption) ?rest2z4
     case hy2z4 => (intro w hSw; (try dsimp only at hSw); go_simp; try (with_reducible rfl))
     simp only [Act.put, List.setIfInBounds_toArray, List.set_cons_zero, List.set_cons_succ]
     refine wpAnyH_take (i := 5) (oi := ⟨some 10, .move (.tmp 0), 179, "line.go:39", #[], none⟩) (v := ?v2z5) rfl (by kernel_rfl) (by kernel_rfl) (by kernel_rfl) (fun _ _ _ h => h) (Or.inl ⟨by rfl, ?hy2z5⟩) (by assumption) ?rest2z5
     case hy2z5 => (intro w hSw; (try dsimp only at hSw); go_simp; try (with_reducible rfl))
     simp only [Act.put, List.setIfInBounds_toArray, List.set_cons_zero, List.set_cons_succ]
     refine wpAnyH_take (i := 6) (oi := ⟨some 11, .nilCheck (.tmp 10), 0, "line.go:39", #[⟨5, .data⟩], none⟩) (v := ?v2z6) rfl (by kernel_rfl) (by kernel_rfl) (by kernel_rfl) (fun _ _ _ h => h) (Or.inl ⟨by rfl, ?hy2z6⟩) (by assumption) ?rest2z6
     case hy2z6 => (intro w hSw; (try dsimp only at hSw); go_simp; try (with_reducible rfl))
     simp only [Act.put, List.setIfInBounds_toArray, List.set_cons_zero, List.set_cons_succ]
     refine wpAnyH_take (i := 7) (oi := ⟨some 12, .fieldAddr 181 (.tmp 11) 2, 0, "line.go:39", #[⟨6, .data⟩], none⟩) (v := ?v2z7) rfl (by kernel_rfl) (by kernel_rfl) (by kernel_rfl) (fun _ _ _ h => h) (Or.inl ⟨by rfl, ?hy2z7⟩) (by assumption) ?rest2z7
     case hy2z7 => (intro w hSw; (try dsimp only at hSw); go_simp; try (with_reducible rfl))
     simp only [Act.put, List.setIfInBounds_toArray, List.set_cons_zero, List.set_cons_succ]
     refine wpAnyH_take (i := 8) (oi := ⟨some 13, .load 3 (.tmp 12), 3, "line.go:39", #[⟨7, .data⟩], none⟩) (v := ?v2z8) rfl (by kernel_rfl) (by kernel_rfl) (by kernel_rfl) (fun _ _ _ h => h) (Or.inl ⟨by rfl, ?hy2z8⟩) (by assumption) ?rest2z8
     case hy2z8 => (intro w hSw; (try dsimp only at hSw); go_simp; try (with_reducible rfl))
     simp only [Act.put, List.setIfInBounds_toArray, List.set_cons_zero, List.set_cons_succ]
     refine wpAnyH_ready (rs := [9]) (by kernel_rfl) (by simp) ?_
     refine AllReadyH.cons (o := ⟨some 14, .call { callee := .value (.func 31), args := #[.tmp 8, .tmp 9, .tmp 13], argTypes := #[24, 35, 3] }, 4, "line.go:39", #[⟨3, .data⟩, ⟨4, .data⟩, ⟨8, .data⟩], none⟩) rfl (fun K hK => ?_) ?_
     ·
       go_simp
       go_at_call 31
       refine (leaf_c B p A c ⟨xb, xs, xp⟩ mark _ (H.out.opsR.ext (below_drewN (Below.refl _ _) 1)) (Nat.le_trans H.out.hB (Nat.le_refl _))).mono ?_
       rw [HL.out]
       rintro e w1 ⟨rfl, hb⟩
       have HB1 := Lib.hid (show Below W.heap.size W w1 from ext_trans (below_drewN (Below.refl _ _) 1) hb)
       have H1 := Lib.hid (H.out.ext HB1.out)
       have HX1 := Lib.hid (HXW.out.ext HB1.out)
       have hlk := (H1.out.hm).lookup idKey (t := 110) (e := 3) (by kernel_rfl) (zero_intL _) (⟨xb, xs, xp⟩ : Id3)
       simp only [mget_ones, if_pos (of_decide_eq_true HU.out.symm), Option.getD_some, idV] at hlk
       clear hb
       refine hK.out _ _ ?_ (fun hHeld => ?_)
       · (first | exact ⟨(HX1.out.cell 0).trans rfl, (HX1.out.cell 1).trans rfl, (HX1.out.cell 2).trans rfl, (H1.out.bk.cell 0).trans rfl, (H1.out.bk.cell 1).trans rfl, (H1.out.bk.cell 3).trans rfl, (H1.out.bk.cell 4).trans rfl⟩ | exact ⟨c0, c1, c2, l0, l1, l3, l4⟩ | go_keep)
       clear hK K
       try simp only [Act.put, List.setIfInBounds_toArray, List.set_cons_zero, List.set_cons_succ]
       refine wpAnyH_take (i := 10) (oi := ⟨some 15, .move (.tmp 14), 4, "line.go:39", #[⟨9, .data⟩, ⟨9, .chain⟩], none⟩) (v := ?v2z10) rfl (by kernel_rfl) (by kernel_rfl) (by kernel_rfl) (fun _ _ _ h => h) (Or.inl ⟨by rfl, ?hy2z10⟩) (by assumption) ?rest2z10
       case hy2z10 => (intro w hSw; (try dsimp only at hSw); go_simp; try (with_reducible rfl))
       simp only [Act.put, List.setIfInBounds_toArray, List.set_cons_zero, List.set_cons_succ]
       refine wpAnyH_take (i := 11) (oi := ⟨some 16, .move (.tmp 0), 179, "line.go:39", #[⟨10, .guard⟩], some (10, false)⟩) (v := ?v2z11) rfl (by kernel_rfl) (by kernel_rfl) (by kernel_rfl) (fun _ _ _ h => h) (Or.inl ⟨by rfl, ?hy2z11⟩) (by assumption) ?rest2z11
       case hy2z11 => (intro w hSw; (try dsimp only at hSw); go_simp; try (with_reducible rfl))
       simp only [Act.put, List.setIfInBounds_toArray, List.set_cons_zero, List.set_cons_succ]
       refine wpAnyH_take (i := 12) (oi := ⟨some 17, .nilCheck (.tmp 16), 0, "line.go:39", #[⟨11, .data⟩, ⟨10, .guard⟩], some (10, false)⟩) (v := ?v2z12) rfl (by kernel_rfl) (by kernel_rfl) (by kernel_rfl) (fun _ _ _ h => h) (Or.inl ⟨by rfl, ?hy2z12⟩) (by assumption) ?rest2z12
       case hy2z12 => (intro w hSw; (try dsimp only at hSw); go_simp; try (with_reducible rfl))
       simp only [Act.put, List.setIfInBounds_toArray, List.set_cons_zero, List.set_cons_succ]
       refine wpAnyH_take (i := 13) (oi := ⟨some 18, .fieldAddr 181 (.tmp 17) 3, 0, "line.go:39", #[⟨12, .data⟩, ⟨10, .guard⟩], some (10, false)⟩) (v := ?v2z13) rfl (by kernel_rfl) (by kernel_rfl) (by kernel_rfl) (fun _ _ _ h => h) (Or.inl ⟨by rfl, ?hy2z13⟩) (by assumption) ?rest2z13
       case hy2z13 => (intro w hSw; (try dsimp only at hSw); go_simp; try (with_reducible rfl))
       simp only [Act.put, List.setIfInBounds_toArray, List.set_cons_zero, List.set_cons_succ]
       refine wpAnyH_take (i := 14) (oi := ⟨some 19, .load 110 (.tmp 18), 110, "line.go:39", #[⟨13, .data⟩, ⟨10, .guard⟩], some (10, false)⟩) (v := ?v2z14) rfl (by kernel_rfl) (by kernel_rfl) (by kernel_rfl) (fun _ _ _ h => h) (Or.inl ⟨by rfl, ?hy2z14⟩) (by assumption) ?rest2z14
       case hy2z14 => (intro w hSw; (try dsimp only at hSw); go_simp; try (with_reducible rfl))
       simp only [Act.put, List.setIfInBounds_toArray, List.set_cons_zero, List.set_cons_succ]
       refine wpAnyH_take (i := 15) (oi := ⟨some 20, .load 35 (.tmp 3), 35, "line.go:39", #[⟨10, .guard⟩], some (10, false)⟩) (v := ?v2z15) rfl (by kernel_rfl) (by kernel_rfl) (by kernel_rfl) (fun _ _ _ h => h) (Or.inl ⟨by rfl, ?hy2z15⟩) (by assumption) ?rest2z15
       case hy2z15 => (intro w hSw; (try dsimp only at hSw); go_simp; try (with_reducible rfl))
       simp only [Act.put, List.setIfInBounds_toArray, List.set_cons_zero, List.set_cons_succ]
       refine wpAnyH_ready (rs := [16]) (by kernel_rfl) (by simp) ?_
       refine AllReadyH.cons (o := ⟨some 21, .lookup 110 (.tmp 19) (.tmp 20) false, 3, "line.go:39", #[⟨14, .data⟩, ⟨15, .data⟩, ⟨10, .guard⟩], some (10, false)⟩) rfl (fun K hK => ?_) ?_
       ·
         go_simp
         refine hK.out _ _ ?_ (fun hHeld => ?_)
         · (first | exact ⟨(HX1.out.cell 0).trans rfl, (HX1.out.cell 1).trans rfl, (HX1.out.cell 2).trans rfl, (H1.out.bk.cell 0).trans rfl, (H1.out.bk.cell 1).trans rfl, (H1.out.bk.cell 3).trans rfl, (H1.out.bk.cell 4).trans rfl⟩ | exact ⟨c0, c1, c2, l0, l1, l3, l4⟩ | go_keep)
         clear hK K
         try simp only [Act.put, List.setIfInBounds_toArray, List.set_cons_zero, List.set_cons_succ]
         refine wpAnyH_take (i := 17) (oi := ⟨some 22, .binOp .gtr 3 (.tmp 21) (.const (.int .i64 0)) 3, 4, "line.go:39", #[⟨16, .data⟩, ⟨10, .guard⟩], some (10, false)⟩) (v := ?v2z17) rfl (by kernel_rfl) (by kernel_rfl) (by kernel_rfl) (fun _ _ _ h => h) (Or.inl ⟨by rfl, ?hy2z17⟩) (by assumption) ?rest2z17
         case hy2z17 => (intro w hSw; (try dsimp only at hSw); go_simp; try (with_reducible rfl))
         simp only [Act.put, List.setIfInBounds_toArray, List.set_cons_zero, List.set_cons_succ]
         refine wpAnyH_take (i := 18) (oi := ⟨some 23, .pick (.tmp 15) (.const (.bool true)) (.tmp 22), 4, "line.go:39", #[⟨10, .data⟩, ⟨17, .data⟩], none⟩) (v := ?v2z18) rfl (by kernel_rfl) (by kernel_rfl) (by kernel_rfl) (fun _ _ _ h => h) (Or.inl ⟨by rfl, ?hy2z18⟩) (by assumption) ?rest2z18
         case hy2z18 => (intro w hSw; (try dsimp only at hSw); go_simp; try (with_reducible rfl))
         simp only [Act.put, List.setIfInBounds_toArray, List.set_cons_zero, List.set_cons_succ]
         refine wpAnyH_take (i := 19) (oi := ⟨some 4, .assign (.tmp 23), 4, "line.go:39", #[⟨18, .data⟩, ⟨10, .chain⟩, ⟨0, .phase⟩, ⟨1, .phase⟩, ⟨2, .phase⟩, ⟨3, .phase⟩, ⟨4, .phase⟩, ⟨5, .phase⟩, ⟨6, .phase⟩, ⟨7, .phase⟩, ⟨8, .phase⟩, ⟨9, .phase⟩, ⟨10, .phase⟩, ⟨11, .phase⟩, ⟨12, .phase⟩, ⟨13, .phase⟩, ⟨14, .phase⟩, ⟨15, .phase⟩, ⟨16, .phase⟩, ⟨17, .phase⟩, ⟨18, .phase⟩], none⟩) (v := ?v2z19) rfl (by kernel_rfl) (by kernel_rfl) (by kernel_rfl) (fun _ _ _ h => h) (Or.inl ⟨by rfl, ?hy2z19⟩) (by assumption) ?rest2z19
         case hy2z19 => (intro w hSw; (try dsimp only at hSw); go_simp; try (with_reducible rfl))
         simp only [Act.put, List.setIfInBounds_toArray, List.set_cons_zero, List.set_cons_succ]
         refine wpAnyH_done (by kernel_rfl) ?_ _
         go_wp2_with fail
         go_ret
         rw [HT.out]
         exact ⟨rfl, ext_trans HBW.out HB1.out⟩
       exact AllReadyH.nil
     exact AllReadyH.nil
   | false =>
     refine wp_region_held_drew (S := (fun w' => w'.cell? ⟨w.heap.size, 0, none⟩ = some (.int .i64 xb) ∧ w'.cell? ⟨w.heap.size, 1, none⟩ = some (.int .i64 xs) ∧ w'.cell? ⟨w.heap.size, 2, none⟩ = some (.int .i64 xp) ∧ w'.cell? ⟨X.lb, 0, none⟩ = some (.int .i64 p.parts) ∧ w'.cell? ⟨X.lb, 1, none⟩ = some (.slice A p.ops.length c) ∧ w'.cell? ⟨X.lb, 3, none⟩ = some (.int .i64 mark) ∧ w'.cell? ⟨X.lb, 4, none⟩ = some (.map (some X.hb)))) (by kernel_rfl) ?_ (fun hHeld => ?_)
     · (first | exact ⟨(HX1.out.cell 0).trans rfl, (HX1.out.cell 1).trans rfl, (HX1.out.cell 2).trans rfl, (H1.out.bk.cell 0).trans rfl, (H1.out.bk.cell 1).trans rfl, (H1.out.bk.cell 3).trans rfl, (H1.out.bk.cell 4).trans rfl⟩ | exact ⟨c0, c1, c2, l0, l1, l3, l4⟩ | go_keep)
     refine wpAnyH_take (i := 0) (oi := ⟨some 5, .move (.tmp 0), 179, "line.go:39", #[], none⟩) (v := ?v3z0) rfl (by kernel_rfl) (by kernel_rfl) (by kernel_rfl) (fun _ _ _ h => h) (Or.inl ⟨by rfl, ?hy3z0⟩) (by assumption) ?rest3z0
     case hy3z0 => (intro w hSw; (try dsimp only at hSw); go_simp; try (with_reducible rfl))
     simp only [Act.put, List.setIfInBounds_toArray, List.set_cons_zero, List.set_cons_succ]
     refine wpAnyH_take (i := 1) (oi := ⟨some 6, .nilCheck (.tmp 5), 0, "line.go:39", #[⟨0, .data⟩], none⟩) (v := ?v3z1) rfl (by kernel_rfl) (by kernel_rfl) (by kernel_rfl) (fun _ _ _ h => h) (Or.inl ⟨by rfl, ?hy3z1⟩) (by assumption) ?rest3z1
     case hy3z1 => (intro w hSw; (try dsimp only at hSw); go_simp; try (with_reducible rfl))
     simp only [Act.put, List.setIfInBounds_toArray, List.set_cons_zero, List.set_cons_succ]
     refine wpAnyH_take (i := 2) (oi := ⟨some 7, .fieldAddr 181 (.tmp 6) 0, 0, "line.go:39", #[⟨1, .data⟩], none⟩) (v := ?v3z2) rfl (by kernel_rfl) (by kernel_rfl) (by kernel_rfl) (fun _ _ _ h => h) (Or.inl ⟨by rfl, ?hy3z2⟩) (by assumption) ?rest3z2
     case hy3z2 => (intro w hSw; (try dsimp only at hSw); go_simp; try (with_reducible rfl))
     simp only [Act.put, List.setIfInBounds_toArray, List.set_cons_zero, List.set_cons_succ]
     refine wpAnyH_take (i := 3) (oi := ⟨some 8, .load 24 (.tmp 7), 24, "line.go:39", #[⟨2, .data⟩], none⟩) (v := ?v3z3) rfl (by kernel_rfl) (by kernel_rfl) (by kernel_rfl) (fun _ _ _ h => h) (Or.inl ⟨by rfl, ?hy3z3⟩) (by assumption) ?rest3z3
     case hy3z3 => (intro w hSw; (try dsimp only at hSw); go_simp; try (with_reducible rfl))
     simp only [Act.put, List.setIfInBounds_toArray, List.set_cons_zero, List.set_cons_succ]
     refine wpAnyH_take (i := 4) (oi := ⟨some 9, .load 35 (.tmp 3), 35, "line.go:39", #[], none⟩) (v := ?v3z4) rfl (by kernel_rfl) (by kernel_rfl) (by kernel_rfl) (fun _ _ _ h => h) (Or.inl ⟨by rfl, ?hy3z4⟩) (by assumption) ?rest3z4
     case hy3z4 => (intro w hSw; (try dsimp only at hSw); go_simp; try (with_reducible rfl))
     simp only [Act.put, List.setIfInBounds_toArray, List.set_cons_zero, List.set_cons_succ]
     refine wpAnyH_take (i := 5) (oi := ⟨some 10, .move (.tmp 0), 179, "line.go:39", #[], none⟩) (v := ?v3z5) rfl (by kernel_rfl) (by kernel_rfl) (by kernel_rfl) (fun _ _ _ h => h) (Or.inl ⟨by rfl, ?hy3z5⟩) (by assumption) ?rest3z5
     case hy3z5 => (intro w hSw; (try dsimp only at hSw); go_simp; try (with_reducible rfl))
     simp only [Act.put, List.setIfInBounds_toArray, List.set_cons_zero, List.set_cons_succ]
     refine wpAnyH_take (i := 6) (oi := ⟨some 11, .nilCheck (.tmp 10), 0, "line.go:39", #[⟨5, .data⟩], none⟩) (v := ?v3z6) rfl (by kernel_rfl) (by kernel_rfl) (by kernel_rfl) (fun _ _ _ h => h) (Or.inl ⟨by rfl, ?hy3z6⟩) (by assumption) ?rest3z6
     case hy3z6 => (intro w hSw; (try dsimp only at hSw); go_simp; try (with_reducible rfl))
     simp only [Act.put, List.setIfInBounds_toArray, List.set_cons_zero, List.set_cons_succ]
     refine wpAnyH_take (i := 7) (oi := ⟨some 12, .fieldAddr 181 (.tmp 11) 2, 0, "line.go:39", #[⟨6, .data⟩], none⟩) (v := ?v3z7) rfl (by kernel_rfl) (by kernel_rfl) (by kernel_rfl) (fun _ _ _ h => h) (Or.inl ⟨by rfl, ?hy3z7⟩) (by assumption) ?rest3z7
     case hy3z7 => (intro w hSw; (try dsimp only at hSw); go_simp; try (with_reducible rfl))
     simp only [Act.put, List.setIfInBounds_toArray, List.set_cons_zero, List.set_cons_succ]
     refine wpAnyH_take (i := 8) (oi := ⟨some 13, .load 3 (.tmp 12), 3, "line.go:39", #[⟨7, .data⟩], none⟩) (v := ?v3z8) rfl (by kernel_rfl) (by kernel_rfl) (by kernel_rfl) (fun _ _ _ h => h) (Or.inl ⟨by rfl, ?hy3z8⟩) (by assumption) ?rest3z8
     case hy3z8 => (intro w hSw; (try dsimp only at hSw); go_simp; try (with_reducible rfl))
     simp only [Act.put, List.setIfInBounds_toArray, List.set_cons_zero, List.set_cons_succ]
     refine wpAnyH_ready (rs := [9]) (by kernel_rfl) (by simp) ?_
     refine AllReadyH.cons (o := ⟨some 14, .call { callee := .value (.func 31), args := #[.tmp 8, .tmp 9, .tmp 13], argTypes := #[24, 35, 3] }, 4, "line.go:39", #[⟨3, .data⟩, ⟨4, .data⟩, ⟨8, .data⟩], none⟩) rfl (fun K hK => ?_) ?_
     ·
       go_simp
       go_at_call 31
       refine (leaf_c B p A c ⟨xb, xs, xp⟩ mark _ (H.out.opsR.ext (below_drewN (Below.refl _ _) 1)) (Nat.le_trans H.out.hB (Nat.le_refl _))).mono ?_
       rw [HL.out]
       rintro e w1 ⟨rfl, hb⟩
       have HB1 := Lib.hid (show Below W.heap.size W w1 from ext_trans (below_drewN (Below.refl _ _) 1) hb)
       have H1 := Lib.hid (H.out.ext HB1.out)
       have HX1 := Lib.hid (HXW.out.ext HB1.out)
       have hlk := (H1.out.hm).lookup idKey (t := 110) (e := 3) (by kernel_rfl) (zero_intL _) (⟨xb, xs, xp⟩ : Id3)
       simp only [mget_ones, if_neg (of_decide_eq_false HU.out.symm), Option.getD_none, idV] at hlk
       clear hb
       refine hK.out _ _ ?_ (fun hHeld => ?_)
       · (first | exact ⟨(HX1.out.cell 0).trans rfl, (HX1.out.cell 1).trans rfl, (HX1.out.cell 2).trans rfl, (H1.out.bk.cell 0).trans rfl, (H1.out.bk.cell 1).trans rfl, (H1.out.bk.cell 3).trans rfl, (H1.out.bk.cell 4).trans rfl⟩ | exact ⟨c0, c1, c2, l0, l1, l3, l4⟩ | go_keep)
       clear hK K
       try simp only [Act.put, List.setIfInBounds_toArray, List.set_cons_zero, List.set_cons_succ]
       refine wpAnyH_take (i := 10) (oi := ⟨some 15, .move (.tmp 14), 4, "line.go:39", #[⟨9, .data⟩, ⟨9, .chain⟩], none⟩) (v := ?v3z10) rfl (by kernel_rfl) (by kernel_rfl) (by kernel_rfl) (fun _ _ _ h => h) (Or.inl ⟨by rfl, ?hy3z10⟩) (by assumption) ?rest3z10
       case hy3z10 => (intro w hSw; (try dsimp only at hSw); go_simp; try (with_reducible rfl))
       simp only [Act.put, List.setIfInBounds_toArray, List.set_cons_zero, List.set_cons_succ]
       refine wpAnyH_take (i := 11) (oi := ⟨some 16, .move (.tmp 0), 179, "line.go:39", #[⟨10, .guard⟩], some (10, false)⟩) (v := ?v3z11) rfl (by kernel_rfl) (by kernel_rfl) (by kernel_rfl) (fun _ _ _ h => h) (Or.inl ⟨by rfl, ?hy3z11⟩) (by assumption) ?rest3z11
       case hy3z11 => (intro w hSw; (try dsimp only at hSw); go_simp; try (with_reducible rfl))
       simp only [Act.put, List.setIfInBounds_toArray, List.set_cons_zero, List.set_cons_succ]
       refine wpAnyH_take (i := 12) (oi := ⟨some 17, .nilCheck (.tmp 16), 0, "line.go:39", #[⟨11, .data⟩, ⟨10, .guard⟩], some (10, false)⟩) (v := ?v3z12) rfl (by kernel_rfl) (by kernel_rfl) (by kernel_rfl) (fun _ _ _ h => h) (Or.inl ⟨by rfl, ?hy3z12⟩) (by assumption) ?rest3z12
       case hy3z12 => (intro w hSw; (try dsimp only at hSw); go_simp; try (with_reducible rfl))
       simp only [Act.put, List.setIfInBounds_toArray, List.set_cons_zero, List.set_cons_succ]
       refine wpAnyH_take (i := 13) (oi := ⟨some 18, .fieldAddr 181 (.tmp 17) 3, 0, "line.go:39", #[⟨12, .data⟩, ⟨10, .guard⟩], some (10, false)⟩) (v := ?v3z13) rfl (by kernel_rfl) (by kernel_rfl) (by kernel_rfl) (fun _ _ _ h => h) (Or.inl ⟨by rfl, ?hy3z13⟩) (by assumption) ?rest3z13
       case hy3z13 => (intro w hSw; (try dsimp only at hSw); go_simp; try (with_reducible rfl))
       simp only [Act.put, List.setIfInBounds_toArray, List.set_cons_zero, List.set_cons_succ]
       refine wpAnyH_take (i := 14) (oi := ⟨some 19, .load 110 (.tmp 18), 110, "line.go:39", #[⟨13, .data⟩, ⟨10, .guard⟩], some (10, false)⟩) (v := ?v3z14) rfl (by kernel_rfl) (by kernel_rfl) (by kernel_rfl) (fun _ _ _ h => h) (Or.inl ⟨by rfl, ?hy3z14⟩) (by assumption) ?rest3z14
       case hy3z14 => (intro w hSw; (try dsimp only at hSw); go_simp; try (with_reducible rfl))
       simp only [Act.put, List.setIfInBounds_toArray, List.set_cons_zero, List.set_cons_succ]
       refine wpAnyH_take (i := 15) (oi := ⟨some 20, .load 35 (.tmp 3), 35, "line.go:39", #[⟨10, .guard⟩], some (10, false)⟩) (v := ?v3z15) rfl (by kernel_rfl) (by kernel_rfl) (by kernel_rfl) (fun _ _ _ h => h) (Or.inl ⟨by rfl, ?hy3z15⟩) (by assumption) ?rest3z15
       case hy3z15 => (intro w hSw; (try dsimp only at hSw); go_simp; try (with_reducible rfl))
       simp only [Act.put, List.setIfInBounds_toArray, List.set_cons_zero, List.set_cons_succ]
       refine wpAnyH_ready (rs := [16]) (by kernel_rfl) (by simp) ?_
       refine AllReadyH.cons (o := ⟨some 21, .lookup 110 (.tmp 19) (.tmp 20) false, 3, "line.go:39", #[⟨14, .data⟩, ⟨15, .data⟩, ⟨10, .guard⟩], some (10, false)⟩) rfl (fun K hK => ?_) ?_
       ·
         go_simp
         refine hK.out _ _ ?_ (fun hHeld => ?_)
         · (first | exact ⟨(HX1.out.cell 0).trans rfl, (HX1.out.cell 1).trans rfl, (HX1.out.cell 2).trans rfl, (H1.out.bk.cell 0).trans rfl, (H1.out.bk.cell 1).trans rfl, (H1.out.bk.cell 3).trans rfl, (H1.out.bk.cell 4).trans rfl⟩ | exact ⟨c0, c1, c2, l0, l1, l3, l4⟩ | go_keep)
         clear hK K
         try simp only [Act.put, List.setIfInBounds_toArray, List.set_cons_zero, List.set_cons_succ]
         refine wpAnyH_take (i := 17) (oi := ⟨some 22, .binOp .gtr 3 (.tmp 21) (.const (.int .i64 0)) 3, 4, "line.go:39", #[⟨16, .data⟩, ⟨10, .guard⟩], some (10, false)⟩) (v := ?v3z17) rfl (by kernel_rfl) (by kernel_rfl) (by kernel_rfl) (fun _ _ _ h => h) (Or.inl ⟨by rfl, ?hy3z17⟩) (by assumption) ?rest3z17
         case hy3z17 => (intro w hSw; (try dsimp only at hSw); go_simp; try (with_reducible rfl))
         simp only [Act.put, List.setIfInBounds_toArray, List.set_cons_zero, List.set_cons_succ]
         refine wpAnyH_take (i := 18) (oi := ⟨some 23, .pick (.tmp 15) (.const (.bool true)) (.tmp 22), 4, "line.go:39", #[⟨10, .data⟩, ⟨17, .data⟩], none⟩) (v := ?v3z18) rfl (by kernel_rfl) (by kernel_rfl) (by kernel_rfl) (fun _ _ _ h => h) (Or.inl ⟨by rfl, ?hy3z18⟩) (by assumption) ?rest3z18
         case hy3z18 => (intro w hSw; (try dsimp only at hSw); go_simp; try (with_reducible rfl))
         simp only [Act.put, List.setIfInBounds_toArray, List.set_cons_zero, List.set_cons_succ]
         refine wpAnyH_take (i := 19) (oi := ⟨some 4, .assign (.tmp 23), 4, "line.go:39", #[⟨18, .data⟩, ⟨10, .chain⟩, ⟨0, .phase⟩, ⟨1, .phase⟩, ⟨2, .phase⟩, ⟨3, .phase⟩, ⟨4, .phase⟩, ⟨5, .phase⟩, ⟨6, .phase⟩, ⟨7, .phase⟩, ⟨8, .phase⟩, ⟨9, .phase⟩, ⟨10, .phase⟩, ⟨11, .phase⟩, ⟨12, .phase⟩, ⟨13, .phase⟩, ⟨14, .phase⟩, ⟨15, .phase⟩, ⟨16, .phase⟩, ⟨17, .phase⟩, ⟨18, .phase⟩], none⟩) (v := ?v3z19) rfl (by kernel_rfl) (by kernel_rfl) (by kernel_rfl) (fun _ _ _ h => h) (Or.inl ⟨by rfl, ?hy3z19⟩) (by assumption) ?rest3z19
         case hy3z19 => (intro w hSw; (try dsimp only at hSw); go_simp; try (with_reducible rfl))
         simp only [Act.put, List.setIfInBounds_toArray, List.set_cons_zero, List.set_cons_succ]
         refine wpAnyH_done (by kernel_rfl) ?_ _
         go_wp2_with fail
         go_ret
         rw [HT.out]
         exact ⟨rfl, ext_trans HBW.out HB1.out⟩
       exact AllReadyH.nil
     exact AllReadyH.nil
end
end Go.Proofs.YtapjhliglmohgaaGreatDoor
