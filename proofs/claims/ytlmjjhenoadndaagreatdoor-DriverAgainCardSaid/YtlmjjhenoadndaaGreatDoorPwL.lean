/- SchedE: laid together. -/
import Derived.Test.YtlmjjhenoadndaaGreatDoorPwK

/- Who holds what: unsaved, Whole of the program. -/
namespace Go.Proofs.YtlmjjhenoadndaaGreatDoor
open Go.RowKit Go.Sort

/-- The pieces of one dataset in a batch that were not saved, of the first m parts. -/
def unsOne (saved : List Id3) (b : Int) (st m : Nat) : List Id3 := ((List.range m).map fun q => (⟨b, (st : Nat), (q : Nat)⟩ : Id3)).filter fun x => decide (x ∉ saved)
def unsavedL (p : PlanD) (saved : List Id3) (b : Int) : List Id3 := (statesL p.ops).flatMap fun st => unsOne saved b st p.parts.toNat
theorem unsOne_succ (saved : List Id3) (b : Int) (st m : Nat) : unsOne saved b st (m + 1) = unsOne saved b st m ++ (if (⟨b, (st : Nat), (m : Nat)⟩ : Id3) ∈ saved then [] else [⟨b, (st : Nat), (m : Nat)⟩]) := by
  unfold unsOne
  rw [List.range_succ, List.map_append, List.filter_append]
  congr 1
  simp only [List.map_cons, List.map_nil, List.filter_cons, List.filter_nil]
  split
  · next h => rw [if_neg (by simpa using h)]
  · next h => rw [if_pos (by simpa using h)]
theorem unsOne_len (saved : List Id3) (b : Int) (st m : Nat) : (unsOne saved b st m).length ≤ m := by
  unfold unsOne
  refine Nat.le_trans (List.length_filter_le _ _) ?_
  simp
theorem flatMap_take_succ {α β : Type} (f : α → List β) {l : List α} {i : Nat} {y : α} (h : l[i]? = some y) : (l.take (i + 1)).flatMap f = (l.take i).flatMap f ++ f y := by
  rw [take_succ_of h, List.flatMap_append, List.flatMap_singleton]
theorem mget_saved (l : List Id3) (x : Id3) : mget (l.map fun y => (y, (.int .i64 1 : Value))) x = if x ∈ l then some (.int .i64 1) else none := by
  induction l with
  | nil => rfl
  | cons y l ih =>
    unfold mget at ih ⊢
    simp only [List.map_cons, List.find?_cons, List.mem_cons]
    by_cases h : y = x
    · subst h
      simp
    · rw [decide_eq_false h]
      simp only
      rw [ih]
      by_cases h2 : x ∈ l
      · rw [if_pos h2, if_pos (.inr h2)]
      · rw [if_neg h2, if_neg (fun h3 => h3.elim (fun e => h e.symm) h2)]
def UnsPost (w : World) (l : List Id3) (e : Ending) (w' : World) : Prop :=
  ∃ A c, e = .returned (.slice A l.length c) ∧ w'.ownsRow w.heap.size 61 3 (.slice A l.length c) l.length (l.flatMap idC) ∧ Below w.heap.size w w'
section
variable {B sb : Nat} {R : Nat → Prop} {p : PlanD} {A : Option Addr} {c : Nat} {s : SchedD}
set_option maxRecDepth 100000 in
set_option maxHeartbeats 8000000 in
theorem unsaved_c (b : Int) (w : World) (h : SchedIs B sb R p A c s w) : Calls Tryz.prog 162 #[.pointer (some ⟨sb, 0, none⟩), .int .i64 b] w (UnsPost w (unsavedL p s.saved b)) := by
  obtain ⟨X, h⟩ := h
  have hp := shaped_check h.plan
  have hn12 := hp.n12
  have hsl := statesL_len p.ops
  have hp1 := hp.p1
  have hp4 := hp.p4
  have H := Lib.hid h
  have z3 : w.cell? ⟨sb, 3, none⟩ = some (.slice X.sA (statesL p.ops).length X.sc) := (h.bk.cell 3).trans rfl
  have hl := h.bk.lt
  obtain ⟨N, hN⟩ : ∃ N, N = (statesL p.ops).length := ⟨_, rfl⟩
  obtain ⟨M, hM⟩ : ∃ M, M = p.parts.toNat := ⟨_, rfl⟩
  have hpM : p.parts = (M : Nat) := by omega
  have HN := Lib.hid hN
  have HM := Lib.hid hM
  have hM8 : M ≤ 4 := by omega
  have hN12 : N ≤ 12 := by omega
  rw [← hN] at z3
  clear h hp hN hM hsl
  go_enter Tryz.func162, Tryz.ntmps162
  go_wp2_with fail
  go_loopg [5, 15] N (fun gk v5 v15 wr => ∃ i : Nat, i + gk = N ∧ v15 = .int .i64 (i : Nat) ∧ wr.ownsRow w.heap.size 61 3 v5 (((statesL p.ops).take i).flatMap fun st => unsOne s.saved b st M).length ((((statesL p.ops).take i).flatMap fun st => unsOne s.saved b st M).flatMap idC) ∧
    (((statesL p.ops).take i).flatMap fun st => unsOne s.saved b st M).length ≤ 4 * i ∧ Below w.heap.size w wr)
  case atStart => exact ⟨0, by omega, rfl, World.ownsRow_nil _ _ _ _, by simp, Below.refl _ _⟩
  case round =>
    obtain ⟨i, hik, rfl, hown, hal, hb⟩ := hrel
    have HB := Lib.hid hb
    have HH := Lib.hid (H.out.ext hb)
    obtain ⟨A5, c5, rfl, hc5⟩ := own_shape hown
    obtain ⟨acc, hacc⟩ : ∃ acc, acc = ((statesL p.ops).take i).flatMap fun st => unsOne s.saved b st M := ⟨_, rfl⟩
    rw [← hacc] at hown hal hc5 ⊢
    have HOw := Lib.hid hown
    have HAc := Lib.hid hacc
    clear hown hb hacc
    by_cases hi : i < N
    · have hiI : (i : Int) < (N : Nat) := by omega
      obtain ⟨st, hst⟩ : ∃ st, (statesL p.ops)[i]? = some st := ⟨_, List.getElem?_eq_getElem (by rw [← HN.out]; exact hi)⟩
      obtain ⟨sad, hsA, hsc⟩ := (Rd.of_own (B := 0) HH.out.st).cell (by rw [← HN.out]; omega)
      have d0 := hsc i (.int .i64 (st : Nat)) (by unfold intsC; rw [List.getElem?_map, hst]; rfl)
      have HsA := Lib.hid hsA
      rw [hsA]
      have y0 : wr.cell? ⟨sb, 0, none⟩ = some (.int .i64 (M : Nat)) := (HH.out.bk.cell 0).trans (by rw [← hpM]; rfl)
      have hwl := HH.out.bk.lt
      have HSt := Lib.hid hst
      clear hst hsc hsA
      obtain ⟨wo, rfl⟩ : ∃ wo : World, wo = wr := ⟨_, rfl⟩
      obtain ⟨go, rfl⟩ : ∃ go : Nat, go = gk := ⟨_, rfl⟩
      have hgo : 0 < go := by omega
      go_wp2_with fail
      go_loopg [5, 24] M (fun gk v5 v24 wr => ∃ q : Nat, q + gk = M ∧ v24 = .int .i64 (q : Nat) ∧ wr.ownsRow w.heap.size 61 3 v5 (acc ++ unsOne s.saved b st q).length ((acc ++ unsOne s.saved b st q).flatMap idC) ∧ Below w.heap.size w wr)
      case atStart => exact ⟨0, by omega, rfl, by rw [show unsOne s.saved b st 0 = [] from rfl, List.append_nil]; exact HOw.out, HB.out⟩
      case round =>
        obtain ⟨q, hqk, rfl, hown, hb⟩ := hrel
        have HB2 := Lib.hid hb
        have HH2 := Lib.hid (H.out.ext hb)
        obtain ⟨A6, c6, rfl, hc6⟩ := own_shape hown
        have hul := unsOne_len s.saved b st q
        obtain ⟨l, hll⟩ : ∃ l, l = acc ++ unsOne s.saved b st q := ⟨_, rfl⟩
        have hlen : l.length ≤ 4 * i + q := by rw [hll, List.length_append]; omega
        rw [← hll] at hown hc6 ⊢
        have HO2 := Lib.hid hown
        have HLl := Lib.hid hll
        clear hown hb hll hul
        by_cases hq : q < M
        · have hqI : (q : Int) < (M : Nat) := by omega
          have z6 : wr.cell? ⟨sb, 6, none⟩ = some (.map (some X.vb)) := (HH2.out.bk.cell 6).trans rfl
          have hwl2 := HH2.out.bk.lt
          have hlk := fun n => ((HH2.out.sv.alloc (.cells #[.int .i64 b, .int .i64 (st : Nat), .int .i64 (q : Nat)] 61)).drewN n).lookup idKey (t := 194) (e := 3) (by kernel_rfl) (zero_int _) (⟨b, (st : Nat), (q : Nat)⟩ : Id3)
          have HS := Lib.hid (unsOne_succ s.saved b st q)
          by_cases hin : (⟨b, (st : Nat), (q : Nat)⟩ : Id3) ∈ s.saved
          · simp only [mget_saved, if_pos hin, Option.getD_some, idV] at hlk
            have HI := Lib.hid hin
            clear hin
            go_wp2_with fail
            go_quiet (fail)
            go_wp2_with fail
            go_roundg (gk - 1)
            case measure => omega
            case rel =>
              refine ⟨q + 1, by omega, by go_num, ?_, below_drewN (ext_alloc HB2.out _) _⟩
              rw [HS.out, if_pos HI.out, List.append_nil, ← HLl.out]
              exact own_ext (own_ext HO2.out (ext_alloc (Below.refl _ _) _)) (below_drewN (Below.refl _ _) _)
          · simp only [mget_saved, if_neg hin, Option.getD_none, idV] at hlk
            have HI := Lib.hid hin
            clear hin
            go_wp2_with fail
            go_quiet (fail)
            have HE1 := Lib.hid (ext_alloc (below_drewN (ext_alloc (Below.refl wr.heap.size wr) (.cells #[.int .i64 b, .int .i64 (st : Nat), .int .i64 (q : Nat)] 61 (0, 0))) nq) (.cells #[.int .i64 b, .int .i64 (st : Nat), .int .i64 (q : Nat)] 61 (0, 0)))
            have HO3 := Lib.hid (own_ext HO2.out HE1.out)
            have HN3 := Lib.hid (Bk.newAt (w := (wr.alloc (.cells #[.int .i64 b, .int .i64 (st : Nat), .int .i64 (q : Nat)] 61 (0, 0))).drewN nq) (t := 61) (cs := #[.int .i64 b, .int .i64 (st : Nat), .int .i64 (q : Nat)]) (g := wr.heap.size + 1) (by show _ = (wr.alloc (.cells #[.int .i64 b, .int .i64 (st : Nat), .int .i64 (q : Nat)] 61 (0, 0))).heap.size; simp))
            go_wp2_with (first
              | (at_builtin; refine wpList_appE id_app _ rfl (.tmp 38) (.tmp 40) rfl w.heap.size _ l (by rfl) HO3.out (⟨b, (st : Nat), (q : Nat)⟩ : Id3) (wr.heap.size + 1) (by rfl) HN3.out (by omega) (by have h1 := HB2.out.size; have h2 := HE1.out.size; omega) ?_
                 intro A7 c7 w7 hown7 hg7 hc7
                 have HO7 := Lib.hid hown7
                 have HB7 := Lib.hid (below_grownOwn (ext_trans HB2.out HE1.out) HO3.out (Nat.le_refl _) hg7)
                 clear hown7 hg7))
            go_roundg (gk - 1)
            case measure => omega
            case rel =>
              refine ⟨q + 1, by omega, by go_num, ?_, HB7.out⟩
              rw [HS.out, if_neg HI.out, ← List.append_assoc, ← HLl.out]
              rw [show l.length + 1 = (l ++ [(⟨b, (st : Nat), (q : Nat)⟩ : Id3)]).length from by simp]
              exact HO7.out
        · obtain rfl : gk = 0 := by omega
          obtain rfl : q = M := by omega
          go_wp2_with fail
          rw [← HsA.out]
          go_roundg (go - 1)
          case measure => omega
          case rel =>
            refine ⟨i + 1, by omega, by go_num, ?_, ?_, HB2.out⟩
            · rw [flatMap_take_succ _ HSt.out, ← HAc.out, ← HLl.out]
              exact HO2.out
            · rw [flatMap_take_succ _ HSt.out, ← HAc.out, ← HLl.out]
              omega
    · obtain rfl : gk = 0 := by omega
      obtain rfl : i = N := by omega
      go_wp2_with fail
      go_ret
      have he : unsavedL p s.saved b = acc := by
        unfold unsavedL
        rw [HAc.out, HN.out, List.take_length, ← HM.out]
      rw [he]
      exact ⟨A5, c5, rfl, HOw.out, HB.out⟩
set_option maxHeartbeats 4000000 in
theorem whole_c (b : Int) (w : World) (h : SchedIs B sb R p A c s w) : Calls Tryz.prog 113 #[.pointer (some ⟨sb, 0, none⟩), .int .i64 b] w (BoolPost w (decide (unsavedL p s.saved b = []))) := by
  have H := Lib.hid h
  clear h
  obtain ⟨l, hl⟩ : ∃ l, l = unsavedL p s.saved b := ⟨_, rfl⟩
  have HC := Lib.hid (unsaved_c b w H.out)
  rw [← hl] at HC ⊢
  clear hl
  cases l with
  | nil =>
    go_enter Tryz.func113, Tryz.ntmps113
    go_wp2_with (first | (go_at_call 162; refine HC.out.mono ?_; rintro e w1 ⟨A1, c1, rfl, _, hb⟩; have HB := Lib.hid hb; clear hb))
    go_ret
    exact ⟨rfl, HB.out⟩
  | cons y l =>
    have hne : (((y :: l).length : Nat) : Int) ≠ 0 := by simp only [List.length_cons]; omega
    have hbe : ((((y :: l).length : Nat) : Int) == 0) = false := beq_eq_false_iff_ne.2 hne
    obtain ⟨n, hn⟩ : ∃ n, n = (y :: l).length := ⟨_, rfl⟩
    rw [← hn] at hbe hne
    have HC' := Lib.hid (show Calls Tryz.prog 162 #[.pointer (some ⟨sb, 0, none⟩), .int .i64 b] w (fun e w' => ∃ A c, e = .returned (.slice A n c) ∧ Below w.heap.size w w') from by
      rw [hn]
      exact HC.out.mono fun e w' ⟨A1, c1, h1, _, h3⟩ => ⟨A1, c1, h1, h3⟩)
    clear hn HC
    go_enter Tryz.func113, Tryz.ntmps113
    go_wp2_with (first | (go_at_call 162; refine HC'.out.mono ?_; rintro e w1 ⟨A1, c1, rfl, hb⟩; have HB := Lib.hid hb; clear hb))
    go_ret
    exact ⟨by simp, HB.out⟩
end
end Go.Proofs.YtlmjjhenoadndaaGreatDoor
