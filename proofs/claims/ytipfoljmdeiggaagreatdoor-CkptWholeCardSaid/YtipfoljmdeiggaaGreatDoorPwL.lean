/- WhW: laid together. -/
import Derived.Test.YtipfoljmdeiggaaGreatDoorPwK
import Derived.Test.YtipfoljmdeiggaaGreatDoorPwD

/- tributarylaw14.CkptWhole: the walk. -/
namespace Go.Proofs.YtipfoljmdeiggaaGreatDoor
open Go.RowKit Go.Sort

/-- What the arguments' cells hold. -/
structure WhIn (p : PlanD) (A : Option Addr) (l : List Int) (A1 : Option Addr) (rs : List Rw) (A2 : Option Addr) (c2 : Nat) (W : World) : Prop where
  ops : RdS W (· < W.heap.size) 5 A p.ops.length (opsC p.ops)
  ord : RdS W (· < W.heap.size) 1 A1 l.length (ordC l)
  rows : RdS W (· < W.heap.size) 2 A2 rs.length (rwsC rs)
  cap : rs.length ≤ c2
  ok : RowsOk rs
  tv : TypeVar W
set_option maxRecDepth 100000 in
set_option maxHeartbeats 64000000 in
theorem ckWholeL_c (hsort : SortC) {p : PlanD} {A : Option Addr} {c : Nat} {n : Int} {l : List Int} {A1 : Option Addr} {c1 : Nat} {rs : List Rw} {A2 : Option Addr} {c2 : Nat} (W : World) (h : WhIn p A l A1 rs A2 c2 W) :
    Calls Tryz.prog 4 #[planV p A c, .int .i64 n, .slice A1 l.length c1, .slice A2 rs.length c2] W (BoolPost W true) := by
  have H := Lib.hid h
  have HSo := Lib.hid hsort
  have hcap := h.cap
  obtain ⟨k, hk, hk31⟩ := mask_i64 n 31 (by omega)
  have hk' : bits .and .i64 n 31 = (k : Nat) := hk
  obtain ⟨b, hb⟩ : ∃ b, b = k + 1 := ⟨_, rfl⟩
  obtain ⟨b1, hb1⟩ : ∃ b1, b1 = b + 1 := ⟨_, rfl⟩
  have y1 : IntKind.i64.wrap ((k : Int) + 1) = (b : Nat) := by rw [show (k : Int) + 1 = (b : Nat) by omega]; exact IntWalk.i64_in _ (by omega)
  have y1' : (k : Int) + 1 = (b : Nat) := by omega
  have y2 : IntKind.i64.wrap ((b : Int) + 1) = (b1 : Nat) := by rw [show (b : Int) + 1 = (b1 : Nat) by omega]; exact IntWalk.i64_in _ (by omega)
  have y2' : (b : Int) + 1 = (b1 : Nat) := by omega
  have hb32 : 1 ≤ b ∧ b ≤ 32 := by omega
  have hb33 : b1 ≤ 33 := by omega
  have hb2' : 2 ≤ b1 := by omega
  have HBb := Lib.hid hb1
  clear hk hb hb1 hsort
  obtain ⟨W1, hW1⟩ : ∃ W1, W1 = W.alloc (.cells #[.int .i64 p.parts, .slice A p.ops.length c] 24 (0, 0)) := ⟨_, rfl⟩
  have HB1 := Lib.hid (show Below W.heap.size W W1 from by rw [hW1]; exact ext_alloc (Below.refl _ _) _)
  have HK1 := Lib.hid (show Bk W1 W.heap.size 24 #[.int .i64 p.parts, .slice A p.ops.length c] from by rw [hW1]; exact Bk.new _ _ _)
  have hs1 : W1.heap.size = W.heap.size + 1 := by rw [hW1]; simp
  have HTv := Lib.hid (show TypeVar W1 from TypeVar.fr (S := No) h.tv (Fr.of_below HB1.out) (fun h => h))
  have c0 : W1.cell? ⟨W.heap.size, 0, none⟩ = some (.int .i64 p.parts) := (HK1.out.cell 0).trans rfl
  have c1' : W1.cell? ⟨W.heap.size, 1, none⟩ = some (.slice A p.ops.length c) := (HK1.out.cell 1).trans rfl
  have HW1 := Lib.hid hW1
  clear h hW1
  cases hc : checkD p with
  | some x =>
    obtain ⟨a, code⟩ := x
    have HC := Lib.hid hc
    have HR := Lib.hid (fun W' (hb : Below W.heap.size W W') => rRight_c W.heap.size p A c W' ((H.out.ops.ext hb).rdS (fun _ hk => hk)) hb.size)
    rw [hc] at HR
    clear hc
    go_enter Tryz.func4, Tryz.ntmps4
    go_upto_region 1 with fail
    rw [← HW1.out]
    go_wp2_with (first
      | (go_at_call 30; refine (HR.out _ HB4.out).mono ?_; rintro e w5 ⟨rfl, hb⟩; have HB5 := Lib.hid (ext_trans HB4.out hb); clear hb)
      | (go_at_call 24; refine (told14_c _ HT3.out).mono ?_; rintro e w4 ⟨rfl, hb⟩; have HB4 := Lib.hid (ext_trans HB3.out hb)
         have r0 := (World.cell?_of_block (a := ⟨W.heap.size, 0, none⟩) (hb.block _ ql)).trans q0; have r1 := (World.cell?_of_block (a := ⟨W.heap.size, 1, none⟩) (hb.block _ ql)).trans q1; clear hb)
      | (go_at_call 21
         refine (ckOpen_bad W.heap.size p A c _ a code _ HC.out ((H.out.ops.ext HB1.out).ext HB2.out) (by have := HB2.out.size; omega)).mono ?_
         rintro e w3 ⟨ve, at_, rfl, hE, hb⟩
         obtain ⟨n7, hn7⟩ := hE.errN; obtain ⟨T7, y7, rfl⟩ := hn7.iface
         have HB3 := Lib.hid (ext_trans HB1.out (ext_trans HB2.out hb))
         have HT3 := Lib.hid (TypeVar.fr (S := No) HTv.out (Fr.of_below (ext_trans HB2.out hb)) (fun h => h))
         have ql : W.heap.size < w3.heap.size := Nat.lt_of_lt_of_le dl hb.size
         have q0 := (World.cell?_of_block (a := ⟨W.heap.size, 0, none⟩) (hb.block _ dl)).trans d0; have q1 := (World.cell?_of_block (a := ⟨W.heap.size, 1, none⟩) (hb.block _ dl)).trans d1
         clear hE hb hn7)
      | (go_at_call 15; refine (dNew_c 2000 _ (by omega) (by omega)).mono ?_; rintro e w2 ⟨db, Rq, rfl, hD, hb⟩; have HD := Lib.hid hD; have HB2 := Lib.hid hb
         have d0 := (World.cell?_of_block (a := ⟨W.heap.size, 0, none⟩) (hb.block W.heap.size (by omega))).trans c0; have d1 := (World.cell?_of_block (a := ⟨W.heap.size, 1, none⟩) (hb.block W.heap.size (by omega))).trans c1'
         have dl : W.heap.size < w2.heap.size := Nat.lt_of_lt_of_le (by omega) hb.size; clear hD hb))
    go_ret
    exact ⟨rfl, HB5.out⟩
  | none =>
    have HC := Lib.hid hc
    clear hc
    go_enter Tryz.func4, Tryz.ntmps4
    go_upto_region 1 with fail
    rw [← HW1.out]
    go_upto_block 0 with (first
      | (go_at_call 31; refine (states_c W.heap.size p A c _ ((H.out.ops.ext HB1.out).ext HV.out.below) (by have := HV.out.below.size; omega) HC.out).mono ?_; rintro e w5 ⟨A5, c5, rfl, hS, hb⟩; have HS := Lib.hid hS; have HB5 := Lib.hid hb; clear hS hb)
      | (go_at_call 21
         refine (open_s (w0 := W1) W.heap.size _ HD.out HB2.out HC.out ((H.out.ops.ext HB1.out).ext HB2.out) (by have := HB2.out.size; omega)).mono ?_
         rintro e w3 ⟨sb, rfl, hV, hb⟩
         have HV := Lib.hid hV
         have q0 := (World.cell?_of_block (a := ⟨W.heap.size, 0, none⟩) (hb.block _ dl)).trans d0; have q1 := (World.cell?_of_block (a := ⟨W.heap.size, 1, none⟩) (hb.block _ dl)).trans d1
         have ql : W.heap.size < w3.heap.size := Nat.lt_of_lt_of_le dl hb.size
         clear hV hb)
      | (go_at_call 15; refine (dNew_c 2000 _ (by omega) (by omega)).mono ?_; rintro e w2 ⟨db, Rq, rfl, hD, hb⟩; have HD := Lib.hid hD; have HB2 := Lib.hid hb
         have d0 := (World.cell?_of_block (a := ⟨W.heap.size, 0, none⟩) (hb.block W.heap.size (by omega))).trans c0; have d1 := (World.cell?_of_block (a := ⟨W.heap.size, 1, none⟩) (hb.block W.heap.size (by omega))).trans c1'
         have dl : W.heap.size < w2.heap.size := Nat.lt_of_lt_of_le (by omega) hb.size; clear hD hb))
    have hp1 := (shaped_check HC.out).p1
    have hp4 := (shaped_check HC.out).p4
    have hn12 := (shaped_check HC.out).n12
    have hsl := statesL_le p.ops
    obtain ⟨N, hN⟩ : ∃ N, N = (statesL p.ops).length := ⟨_, rfl⟩
    obtain ⟨M, hM'⟩ : ∃ M, M = p.parts.toNat := ⟨_, rfl⟩
    have hpM : p.parts = (M : Nat) := by omega
    have HN := Lib.hid hN
    have HMM := Lib.hid hM'
    have hM4 : M ≤ 4 := by omega
    have hN12 : N ≤ 12 := by omega
    rw [← hN]
    have hVb := HV.out.below.size
    have hb5 := HB5.out.size
    have HSt0 := Lib.hid (own_mono HS.out (base' := W1.heap.size) hVb)
    have HBo := Lib.hid (show ∀ k, (Value.slice A5 N c5).ownBlock = some k → W1.heap.size ≤ k from fun k hk => by
      rw [hN] at hk
      exact (HSt0.out.lt k hk).1)
    have HK5 := Lib.hid (show Bk W1 W.heap.size 24 #[.int .i64 (M : Nat), .slice A p.ops.length c] from by rw [← hpM]; exact HK1.out)
    have HW0 := Lib.hid (show WhSt sb db p A c (DiskD.new 2000) (.slice A5 N c5) (.slice none 0 0) [] [] W1 w5 from
      ⟨HV.out.more HB5.out (fun g hg => hg.elim (fun hg => ⟨.inr (by rw [hN] at hg; exact (HS.out.lt g hg).1), by rw [hN] at hg; exact (HS.out.lt g hg).2⟩) (fun hg => by cases hg)), by rw [hN]; exact HSt0.out, World.ownsRow_nil _ _ _ _, ⟨rfl, rfl, rfl, rfl⟩, Nat.le_refl _⟩)
    obtain ⟨L, hL⟩ : ∃ L, L = idsL p (b : Nat) := ⟨_, rfl⟩
    obtain ⟨L2, hL2⟩ : ∃ L2, L2 = idsL p (b1 : Nat) := ⟨_, rfl⟩
    have HL := Lib.hid hL
    have HL2 := Lib.hid hL2
    have hb1I : (1 : Int) ≤ (b1 : Nat) := by omega
    have hb60I : ((b1 : Nat) : Int) ≤ 60 := by omega
    clear hN hM' hsl hpM hL hL2 hn12 hp1 hp4 q0 q1 ql c0 c1' hVb hb5
    go_cut [14, 15, 16] (fun v14 _ _ wx => ∃ A6 c6 d, v14 = .slice A6 L.length c6 ∧ L.length ≤ c6 ∧ Hid (WhSt sb db p A c d (.slice A5 N c5) (.slice A6 L.length c6) L L2 W1 wx))
    case first =>
      go_wp2_with fail
      go_loopg [14, 15, 16] N (fun gk v14 v15 v16 wr => ∃ (i : Nat) (d : DiskD), i + gk = N ∧ v15 = .int .i64 (i : Nat) ∧ Hid (WhSt sb db p A c d (.slice A5 N c5) v14 (((statesL p.ops).take i).flatMap fun st => idsOf (b : Nat) M st) (((statesL p.ops).take i).flatMap fun st => idsOf (b1 : Nat) M st) W1 wr) ∧
        (((statesL p.ops).take i).flatMap fun st => idsOf (b : Nat) M st).length ≤ 4 * i ∧ (((statesL p.ops).take i).flatMap fun st => idsOf (b1 : Nat) M st).length ≤ 4 * i)
      case atStart => exact ⟨0, _, by omega, rfl, HW0, by simp, by simp⟩
      case round =>
        obtain ⟨i, d, hik, rfl, hW, hal, hal2⟩ := hrel
        obtain ⟨v14, rfl⟩ : ∃ v14 : Value, v14 = u14 := ⟨_, rfl⟩
        obtain ⟨A6, c6, rfl, hc6⟩ := own_shape hW.out.ids
        obtain ⟨acc, hacc⟩ : ∃ acc, acc = ((statesL p.ops).take i).flatMap fun st => idsOf (b : Nat) M st := ⟨_, rfl⟩
        obtain ⟨acc2, hacc2⟩ : ∃ acc2, acc2 = ((statesL p.ops).take i).flatMap fun st => idsOf (b1 : Nat) M st := ⟨_, rfl⟩
        rw [← hacc] at hW hal hc6 ⊢
        rw [← hacc2] at hW hal2
        have HAc := Lib.hid hacc
        have HAc2 := Lib.hid hacc2
        clear hacc hacc2
        by_cases hi : i < N
        · have hiI : (i : Int) < (N : Nat) := by omega
          obtain ⟨st, hst⟩ : ∃ st, (statesL p.ops)[i]? = some st := ⟨_, List.getElem?_eq_getElem (by rw [← HN.out]; exact hi)⟩
          obtain ⟨sad, hsA, _⟩ := (Rd.of_own (B := 0) (by have h1 := hW.out.st; rw [← HN.out] at h1; exact h1)).cell (by omega)
          have HsA := Lib.hid hsA
          rw [hsA] at hW ⊢
          have HSt := Lib.hid hst
          clear hst hsA
          obtain ⟨wo, rfl⟩ : ∃ wo : World, wo = wr := ⟨_, rfl⟩
          obtain ⟨go, rfl⟩ : ∃ go : Nat, go = gk := ⟨_, rfl⟩
          have hgo : 0 < go := by omega
          go_wp2_with fail
          go_loopg [14, 16] M (fun gk v14 v16 wr => ∃ (q : Nat) (d : DiskD), q + gk = M ∧ v16 = .int .i64 (q : Nat) ∧ Hid (WhSt sb db p A c d (.slice (some sad) N c5) v14 (acc ++ idsOf (b : Nat) q st) (acc2 ++ idsOf (b1 : Nat) q st) W1 wr))
          case atStart => exact ⟨0, _, by omega, rfl, by rw [show idsOf (b : Nat) 0 st = [] from rfl, show idsOf (b1 : Nat) 0 st = [] from rfl, List.append_nil, List.append_nil]; exact hW⟩
          case round =>
            obtain ⟨q, d, hqk, rfl, hW2⟩ := hrel
            obtain ⟨v14, rfl⟩ : ∃ v14 : Value, v14 = u14 := ⟨_, rfl⟩
            obtain ⟨A7, c7, rfl, hc7⟩ := own_shape hW2.out.ids
            have hul := idsOf_len (b : Nat) q st
            have hul2 := idsOf_len (b1 : Nat) q st
            have HIs := Lib.hid (idsOf_succ (b : Nat) q st)
            have HIs2 := Lib.hid (idsOf_succ (b1 : Nat) q st)
            obtain ⟨l2, hll⟩ : ∃ l2, l2 = acc ++ idsOf (b : Nat) q st := ⟨_, rfl⟩
            obtain ⟨m2, hmm⟩ : ∃ m2, m2 = acc2 ++ idsOf (b1 : Nat) q st := ⟨_, rfl⟩
            have hlen : l2.length ≤ 4 * i + q := by rw [hll, List.length_append]; omega
            have hlen2 : m2.length ≤ 4 * i + q := by rw [hmm, List.length_append]; omega
            have HNx := Lib.hid (show (⟨(b1 : Nat), (st : Nat), (q : Nat)⟩ : Id3) ∉ m2 from by
              rw [hmm, HAc2.out]
              exact ids_next (statesL_nodup p.ops) HSt.out)
            rw [← hll] at hW2 hc7 ⊢
            rw [← hmm] at hW2
            have HLl := Lib.hid hll
            have HMm := Lib.hid hmm
            have HKq := Lib.hid (HK5.out.ext hW2.out.is_.below)
            have z0 : wr.cell? ⟨W.heap.size, 0, none⟩ = some (.int .i64 (M : Nat)) := (HKq.out.cell 0).trans rfl
            have zl := HKq.out.lt
            have HSc := Lib.hid (fun (w' : World) (h : w'.ownsRow W1.heap.size 3 1 (.slice (some sad) N c5) (statesL p.ops).length (intsC (statesL p.ops))) => show w'.cell? (sad.add i) = some (.int .i64 (st : Nat)) from by
              rw [← HN.out] at h
              obtain ⟨sad2, hsA2, hsc⟩ := (Rd.of_own (B := 0) h).cell (by omega)
              injection hsA2 with hsA2
              subst hsA2
              exact hsc i _ (by unfold intsC; rw [List.getElem?_map, HSt.out]; rfl))
            have d0 := HSc.out wr hW2.out.st
            clear hll hmm hul hul2
            by_cases hq : q < M
            · have hqI : (q : Int) < (M : Nat) := by omega
              obtain ⟨d', f1, f2, f3⟩ := hW2.out.put (b1 := (b1 : Nat)) (mem_ids (List.mem_of_getElem? HSt.out) (by rw [← HMM.out]; exact hq)) hb1I hb60I HNx.out (by omega) HTv.out
              have HF1 := Lib.hid f1
              have HF2 := Lib.hid f2
              have HF3 := Lib.hid f3
              clear f1 f2 f3
              have HE1 := Lib.hid (ext_alloc (Below.refl wr.heap.size wr) (.cells #[.int .i64 (b : Nat), .int .i64 (st : Nat), .int .i64 (q : Nat)] 61 (0, 0)))
              have HO3 := Lib.hid (own_ext hW2.out.ids HE1.out)
              have HS3 := Lib.hid (own_ext hW2.out.st HE1.out)
              have HN3 := Lib.hid (Bk.new wr 61 #[.int .i64 (b : Nat), .int .i64 (st : Nat), .int .i64 (q : Nat)])
              have hbs : W1.heap.size ≤ wr.heap.size := hW2.out.is_.below.size
              go_wp2_with (first
                | (go_at_call 32; refine (HF3.out _ _ HC8.out).mono ?_; rintro e w9 ⟨rfl, hC9, hk9⟩
                   obtain ⟨hS9, hO9⟩ := id_kept hk9 HS8.out HO8.out
                   have HC9 := Lib.hid hC9
                   have HO9 := Lib.hid hO9
                   have HS9 := Lib.hid hS9
                   clear hC9 hk9 hS9 hO9)
                | (at_builtin; refine wpList_appG id_app _ rfl (.tmp 64) (.tmp 72) rfl W1.heap.size _ l2 (by rfl) HO3.out (⟨(b : Nat), (st : Nat), (q : Nat)⟩ : Id3) wr.heap.size (by rfl) HN3.out (by omega) (by simp only [World.size_alloc]; omega) ?_
                   intro A8 c8 w8 hown8 hg8 hc8 hn8
                   have HO8 := Lib.hid hown8
                   have HC8 := Lib.hid (id_grow hW2.out.is_ hW2.out.ids HE1.out hg8 hown8 hn8 (fun k hk => HBo.out k (by rw [HsA.out]; exact hk)))
                   have HS8 := Lib.hid (HS3.out.kept hg8 (own_ne_own HS3.out HO3.out (by decide)))
                   have d1 := HSc.out w8 HS8.out
                   clear hown8 hg8 hn8))
              go_roundg (gk - 1)
              case measure => omega
              case rel =>
                refine ⟨q + 1, d', by omega, by go_num, ?_⟩
                rw [HIs.out, HIs2.out, ← List.append_assoc, ← List.append_assoc, ← HLl.out, ← HMm.out]
                rw [show l2.length + 1 = (l2 ++ [(⟨(b : Nat), (st : Nat), (q : Nat)⟩ : Id3)]).length from by simp]
                exact Lib.hid ⟨HC9.out, HS9.out, HO9.out, HF1.out, HF2.out⟩
            · obtain rfl : gk = 0 := by omega
              obtain rfl : q = M := by omega
              go_wp2_with fail
              rw [← HsA.out]
              go_roundg (go - 1)
              case measure => omega
              case rel =>
                refine ⟨i + 1, d, by omega, by go_num, ?_, ?_, ?_⟩
                · rw [flatMap_take_succ _ HSt.out, flatMap_take_succ _ HSt.out, ← HAc.out, ← HAc2.out, ← HLl.out, ← HMm.out, HsA.out]
                  exact hW2
                · rw [flatMap_take_succ _ HSt.out, ← HAc.out, ← HLl.out]
                  omega
                · rw [flatMap_take_succ _ HSt.out, ← HAc2.out, ← HMm.out]
                  omega
        · obtain rfl : gk = 0 := by omega
          obtain rfl : i = N := by omega
          go_wp2_with fail
          go_meet
          have he : L = acc := by
            rw [HL.out, HAc.out, HN.out, List.take_length, HMM.out]
            rfl
          have he2 : L2 = acc2 := by
            rw [HL2.out, HAc2.out, HN.out, List.take_length, HMM.out]
            rfl
          rw [he, he2]
          exact ⟨A6, c6, d, rfl, hc6, hW⟩
    case rest =>
      obtain ⟨A6, c6, d, rfl, hc6, hW⟩ := hcut
      obtain ⟨w6, rfl⟩ : ∃ w6 : World, w6 = wc := ⟨_, rfl⟩
      have hLl : L.length ≤ 48 := by
        have h1 : L.length = N * M := by
          rw [HL.out, HN.out, HMM.out]
          exact idsL_len p _
        have h2 := Nat.mul_le_mul hN12 hM4
        omega
      have hL2l : L2.length = L.length := by
        rw [HL.out, HL2.out, idsL_len, idsL_len]
      obtain ⟨T, hT1, hT2, hT3⟩ : ∃ T, T ≤ l.length ∧ T ≤ 40 ∧ (T = l.length ∨ T = 40) := ⟨Nat.min l.length 40, Nat.min_le_left _ _, Nat.min_le_right _ _, by simp only [Nat.min_def]; split <;> simp⟩
      have HT := Lib.hid hT3
      obtain ⟨nL, hnL⟩ : ∃ nL, nL = L.length := ⟨_, rfl⟩
      have hids := hW.out.ids
      rw [← hnL] at hc6 hids hW hLl ⊢
      have HO6 := Lib.hid hids
      have HnL := Lib.hid hnL
      have HF6 := Lib.hid hW.out.free
      have HP6 := Lib.hid hW.out.pos
      have HC6 := Lib.hid hW.out.is_
      clear hT3 hnL hids hW
      go_upto_block 4 with fail
      go_cut [17, 18] (fun _ _ wx => ∃ l' : List Id3, Hid (l'.Perm L) ∧ Hid (wx.ownsRow W1.heap.size 61 3 (.slice A6 nL c6) nL (l'.flatMap idC)) ∧ Hid (CIs sb db p A c 0 d (L2.map fun x => (x, [])) (fun k => (Value.slice A6 nL c6).ownBlock = some k) W1 wx))
      case first =>
        go_wp2_with fail
        go_loopg [17, 18] T (fun gk v17 v18 wr => ∃ (i : Nat) (l' : List Id3), i + gk = T ∧ v17 = .int .i64 (i : Nat) ∧ Hid (l'.Perm L) ∧ Hid (wr.ownsRow W1.heap.size 61 3 (.slice A6 nL c6) nL (l'.flatMap idC)) ∧ Hid (CIs sb db p A c 0 d (L2.map fun x => (x, [])) (fun k => (Value.slice A6 nL c6).ownBlock = some k) W1 wr))
        case atStart => exact ⟨0, L, by omega, rfl, Lib.hid (List.Perm.refl _), HO6, Lib.hid (HC6.out.less (fun g hg => .inr hg))⟩
        case round =>
          obtain ⟨i, l', hik, rfl, hPm, hO, hC⟩ := hrel
          have hl' : l'.length = nL := by rw [HnL.out]; exact hPm.out.length_eq
          by_cases hi : i < l.length
          · by_cases h40 : i < 40
            · have hiT : i < T := by have := HT.out; omega
              have hiI : (i : Int) < (l.length : Nat) := by omega
              have h40I : (i : Int) < 40 := by omega
              by_cases hl1 : 1 < nL
              · have hl1I : (1 : Int) < (nL : Nat) := by omega
                obtain ⟨K, hK⟩ : ∃ K, nL = K + 1 := ⟨nL - 1, by omega⟩
                have wK : IntKind.i64.wrap ((nL : Int) - 1) = (K : Nat) := by rw [show (nL : Int) - 1 = (K : Nat) by omega]; exact IntWalk.i64_in _ (by omega)
                have hK0 : (K : Int) ≠ 0 := by omega
                have hy : l[i]? = some (l[i]) := List.getElem?_eq_getElem hi
                generalize l[i] = y at hy
                obtain ⟨ad, hA1, hoc⟩ := (((H.out.ord.ext HB1.out).ext hC.out.below)).cell (by omega)
                subst hA1
                have d0 := hoc i (.int .i64 y) (by unfold ordC; rw [List.getElem?_map, hy]; rfl)
                obtain ⟨m, hm, hmK⟩ := mask_mod y K (by omega)
                obtain ⟨m1, hm1⟩ : ∃ m1, m1 = m + 1 := ⟨_, rfl⟩
                have wm : IntKind.i64.wrap ((m : Int) + 1) = (m1 : Nat) := by rw [show (m : Int) + 1 = (m1 : Nat) by omega]; exact IntWalk.i64_in _ (by omega)
                have hmI : (m : Int) < (nL : Nat) := by omega
                have hm1I : (m1 : Int) < (nL : Nat) := by omega
                obtain ⟨ad6, had6, hab6, hob6⟩ : ∃ ad6 : Addr, A6 = some ad6 ∧ W1.heap.size ≤ ad6.block ∧ (Value.slice (some ad6) nL c6).ownBlock = some ad6.block := by
                  obtain ⟨g6, hA6, hg6, _⟩ := own_some hO.out (by omega)
                  exact ⟨_, hA6, hg6, rfl⟩
                subst had6
                obtain ⟨x0, hx0⟩ : ∃ x0, l'[m]? = some x0 := ⟨_, List.getElem?_eq_getElem (by omega)⟩
                obtain ⟨x1, hx1⟩ : ∃ x1, l'[m1]? = some x1 := ⟨_, List.getElem?_eq_getElem (by omega)⟩
                obtain ⟨_, hA7, p0, p1, p2⟩ := Rd.ids (l := l') (Rd.of_own (B := 0) hO.out) hx0 (by omega)
                injection hA7 with hA7
                subst hA7
                obtain ⟨_, hA7, r0, r1, r2⟩ := Rd.ids (l := l') (Rd.of_own (B := 0) hO.out) hx1 (by omega)
                injection hA7 with hA7
                subst hA7
                obtain ⟨w8, hrun8, hO8, hg8, hs8⟩ := own_store_id (w := wr.drew) (own_ext hO.out (below_drewN (Below.refl _ _) 1)) hl' (k := m) (by omega) x1
                obtain ⟨w9, hrun9, hO9, hg9, hs9⟩ := own_store_id hO8 (by rw [List.length_set]; exact hl') (k := m1) (by omega) x0
                have HO9 := Lib.hid hO9
                have HC9 := Lib.hid (hC.out.step (K' := fun k => (Value.slice (some ad6) nL c6).ownBlock = some k) (w' := w9) ((((Fr.of_below (S := fun k => (Value.slice (some ad6) nL c6).ownBlock = some k) (below_drewN (Below.refl _ _) 1)).grown hg8 (fun k hk => .inl (by rw [hob6]; exact hk))).grown hg9 (fun k hk => .inl (by rw [hob6]; exact hk)))) (fun k hk => (hO.out.lt k hk).1) (fun g hg => ⟨.inl hg, by
                  have h1 := hC.out.klt g hg
                  have h2 := hg8.size
                  have h3 := hg9.size
                  simp only [World.size_drew] at h2
                  omega⟩))
                have HX := Lib.hid (show l'[m]? = some x0 ∧ l'[m1]? = some x1 ∧ m1 = m + 1 from ⟨hx0, hx1, hm1⟩)
                clear hy hoc hO9 hO8 hg8 hg9 hs8 hs9 hx0 hx1 hm1 hK hob6
                go_upto_region 22 with fail
                refine wp_region_held_drew (S := fun _ => True) (by kernel_rfl) ?_ (fun hHeld => ?_)
                · go_keep
                refine wpAnyH_take (i := 0) (oi := { dst := some 108, op := Go.Op.move (Go.Operand.tmp 14), type := 59, pos := "more.go:33", after := #[], guard := none }) (v := ?v1z0) rfl (by kernel_rfl) (by kernel_rfl) (by kernel_rfl) (fun _ _ _ h => h) (Or.inl ⟨by rfl, ?hy1z0⟩) (by assumption) ?rest1z0
                case hy1z0 => (intro w hSw; (try dsimp only at hSw); go_simp; try (with_reducible rfl))
                simp only [Act.put, List.setIfInBounds_toArray, List.set_cons_zero, List.set_cons_succ]
                refine wpAnyH_take (i := 1) (oi := { dst := some 109, op := Go.Op.move (Go.Operand.tmp 18), type := 3, pos := "more.go:33", after := #[], guard := none }) (v := ?v1z1) rfl (by kernel_rfl) (by kernel_rfl) (by kernel_rfl) (fun _ _ _ h => h) (Or.inl ⟨by rfl, ?hy1z1⟩) (by assumption) ?rest1z1
                case hy1z1 => (intro w hSw; (try dsimp only at hSw); go_simp; try (with_reducible rfl))
                simp only [Act.put, List.setIfInBounds_toArray, List.set_cons_zero, List.set_cons_succ]
                refine wpAnyH_take (i := 2) (oi := { dst := some 110, op := Go.Op.move (Go.Operand.tmp 14), type := 59, pos := "more.go:33", after := #[{ on := 15, ground := Go.Ground.gcOnly Go.Departure.lateStores }], guard := none }) (v := ?v1z2) rfl (by kernel_rfl) (by kernel_rfl) (by kernel_rfl) (fun _ _ _ h => h) (Or.inl ⟨by rfl, ?hy1z2⟩) (by assumption) ?rest1z2
                case hy1z2 => (intro w hSw; (try dsimp only at hSw); go_simp; try (with_reducible rfl))
                simp only [Act.put, List.setIfInBounds_toArray, List.set_cons_zero, List.set_cons_succ]
                refine wpAnyH_take (i := 3) (oi := { dst := some 111, op := Go.Op.move (Go.Operand.tmp 18), type := 3, pos := "more.go:33", after := #[{ on := 15, ground := Go.Ground.gcOnly Go.Departure.lateStores }], guard := none }) (v := ?v1z3) rfl (by kernel_rfl) (by kernel_rfl) (by kernel_rfl) (fun _ _ _ h => h) (Or.inl ⟨by rfl, ?hy1z3⟩) (by assumption) ?rest1z3
                case hy1z3 => (intro w hSw; (try dsimp only at hSw); go_simp; try (with_reducible rfl))
                simp only [Act.put, List.setIfInBounds_toArray, List.set_cons_zero, List.set_cons_succ]
                refine wpAnyH_take (i := 4) (oi := { dst := some 112, op := Go.Op.binOp Go.BinOp.add 3 (Go.Operand.tmp 111) (Go.Operand.const (Go.Value.int Go.IntKind.i64 1)) 3, type := 3, pos := "more.go:33", after := #[{ on := 3, ground := Go.Ground.data }, { on := 15, ground := Go.Ground.gcOnly Go.Departure.lateStores }], guard := none }) (v := ?v1z4) rfl (by kernel_rfl) (by kernel_rfl) (by kernel_rfl) (fun _ _ _ h => h) (Or.inl ⟨by rfl, ?hy1z4⟩) (by assumption) ?rest1z4
                case hy1z4 => (intro w hSw; (try dsimp only at hSw); go_simp; try (with_reducible rfl))
                simp only [Act.put, List.setIfInBounds_toArray, List.set_cons_zero, List.set_cons_succ]
                refine wpAnyH_take (i := 5) (oi := { dst := some 113, op := Go.Op.move (Go.Operand.tmp 14), type := 59, pos := "more.go:33", after := #[], guard := none }) (v := ?v1z5) rfl (by kernel_rfl) (by kernel_rfl) (by kernel_rfl) (fun _ _ _ h => h) (Or.inl ⟨by rfl, ?hy1z5⟩) (by assumption) ?rest1z5
                case hy1z5 => (intro w hSw; (try dsimp only at hSw); go_simp; try (with_reducible rfl))
                simp only [Act.put, List.setIfInBounds_toArray, List.set_cons_zero, List.set_cons_succ]
                refine wpAnyH_take (i := 6) (oi := { dst := some 114, op := Go.Op.move (Go.Operand.tmp 18), type := 3, pos := "more.go:33", after := #[], guard := none }) (v := ?v1z6) rfl (by kernel_rfl) (by kernel_rfl) (by kernel_rfl) (fun _ _ _ h => h) (Or.inl ⟨by rfl, ?hy1z6⟩) (by assumption) ?rest1z6
                case hy1z6 => (intro w hSw; (try dsimp only at hSw); go_simp; try (with_reducible rfl))
                simp only [Act.put, List.setIfInBounds_toArray, List.set_cons_zero, List.set_cons_succ]
                refine wpAnyH_take (i := 7) (oi := { dst := some 115, op := Go.Op.binOp Go.BinOp.add 3 (Go.Operand.tmp 114) (Go.Operand.const (Go.Value.int Go.IntKind.i64 1)) 3, type := 3, pos := "more.go:33", after := #[{ on := 6, ground := Go.Ground.data }], guard := none }) (v := ?v1z7) rfl (by kernel_rfl) (by kernel_rfl) (by kernel_rfl) (fun _ _ _ h => h) (Or.inl ⟨by rfl, ?hy1z7⟩) (by assumption) ?rest1z7
                case hy1z7 => (intro w hSw; (try dsimp only at hSw); go_simp; try (with_reducible rfl))
                simp only [Act.put, List.setIfInBounds_toArray, List.set_cons_zero, List.set_cons_succ]
                refine wpAnyH_take (i := 8) (oi := { dst := some 116, op := Go.Op.indexAddr 59 (Go.Operand.tmp 113) (Go.Operand.tmp 115), type := 0, pos := "more.go:33", after := #[{ on := 5, ground := Go.Ground.data }, { on := 7, ground := Go.Ground.data }], guard := none }) (v := ?v1z8) rfl (by kernel_rfl) (by kernel_rfl) (by kernel_rfl) (fun _ _ _ h => h) (Or.inl ⟨by rfl, ?hy1z8⟩) (by assumption) ?rest1z8
                case hy1z8 => (intro w hSw; (try dsimp only at hSw); go_simp; try (with_reducible rfl))
                simp only [Act.put, List.setIfInBounds_toArray, List.set_cons_zero, List.set_cons_succ]
                refine wpAnyH_take (i := 10) (oi := { dst := some 118, op := Go.Op.move (Go.Operand.tmp 14), type := 59, pos := "more.go:33", after := #[], guard := none }) (v := ?v1z10) rfl (by kernel_rfl) (by kernel_rfl) (by kernel_rfl) (fun _ _ _ h => h) (Or.inl ⟨by rfl, ?hy1z10⟩) (by assumption) ?rest1z10
                case hy1z10 => (intro w hSw; (try dsimp only at hSw); go_simp; try (with_reducible rfl))
                simp only [Act.put, List.setIfInBounds_toArray, List.set_cons_zero, List.set_cons_succ]
                refine wpAnyH_take (i := 11) (oi := { dst := some 119, op := Go.Op.move (Go.Operand.tmp 18), type := 3, pos := "more.go:33", after := #[], guard := none }) (v := ?v1z11) rfl (by kernel_rfl) (by kernel_rfl) (by kernel_rfl) (fun _ _ _ h => h) (Or.inl ⟨by rfl, ?hy1z11⟩) (by assumption) ?rest1z11
                case hy1z11 => (intro w hSw; (try dsimp only at hSw); go_simp; try (with_reducible rfl))
                simp only [Act.put, List.setIfInBounds_toArray, List.set_cons_zero, List.set_cons_succ]
                refine wpAnyH_take (i := 12) (oi := { dst := some 120, op := Go.Op.indexAddr 59 (Go.Operand.tmp 118) (Go.Operand.tmp 119), type := 0, pos := "more.go:33", after := #[{ on := 10, ground := Go.Ground.data }, { on := 11, ground := Go.Ground.data }], guard := none }) (v := ?v1z12) rfl (by kernel_rfl) (by kernel_rfl) (by kernel_rfl) (fun _ _ _ h => h) (Or.inl ⟨by rfl, ?hy1z12⟩) (by assumption) ?rest1z12
                case hy1z12 => (intro w hSw; (try dsimp only at hSw); go_simp; try (with_reducible rfl))
                simp only [Act.put, List.setIfInBounds_toArray, List.set_cons_zero, List.set_cons_succ]
                refine wpAnyH_ready (rs := [9, 13]) (by kernel_rfl) (by simp) ?_
                refine AllReadyH.cons (o := { dst := some 117, op := Go.Op.load 61 (Go.Operand.tmp 116), type := 61, pos := "more.go:33", after := #[{ on := 8, ground := Go.Ground.data }], guard := none }) rfl (fun K hK => ?_) ?_
                ·
                  go_simp
                  refine hK.out _ _ ?_ (fun hHeld => ?_)
                  · go_keep
                  clear hK K
                  try simp only [Act.put, List.setIfInBounds_toArray, List.set_cons_zero, List.set_cons_succ]
                  refine wpAnyH_ready (rs := [13]) (by kernel_rfl) (by simp) ?_
                  refine AllReadyH.cons (o := { dst := some 121, op := Go.Op.load 61 (Go.Operand.tmp 120), type := 61, pos := "more.go:33", after := #[{ on := 12, ground := Go.Ground.data }], guard := none }) rfl (fun K hK => ?_) ?_
                  ·
                    go_simp
                    refine hK.out _ _ ?_ (fun hHeld => ?_)
                    · go_keep
                    clear hK K
                    try simp only [Act.put, List.setIfInBounds_toArray, List.set_cons_zero, List.set_cons_succ]
                    refine wpAnyH_take (i := 14) (oi := { dst := some 122, op := Go.Op.indexAddr 59 (Go.Operand.tmp 108) (Go.Operand.tmp 109), type := 0, pos := "more.go:33", after := #[{ on := 0, ground := Go.Ground.data }, { on := 1, ground := Go.Ground.data }, { on := 0, ground := Go.Ground.phase }, { on := 1, ground := Go.Ground.phase }, { on := 2, ground := Go.Ground.textOnly Go.Departure.lateStores }, { on := 3, ground := Go.Ground.textOnly Go.Departure.lateStores }, { on := 4, ground := Go.Ground.textOnly Go.Departure.lateStores }, { on := 5, ground := Go.Ground.phase }, { on := 6, ground := Go.Ground.phase }, { on := 7, ground := Go.Ground.phase }, { on := 8, ground := Go.Ground.phase }, { on := 9, ground := Go.Ground.phase }, { on := 10, ground := Go.Ground.textOnly Go.Departure.lateStores }, { on := 11, ground := Go.Ground.textOnly Go.Departure.lateStores }, { on := 12, ground := Go.Ground.textOnly Go.Departure.lateStoresUnsure }, { on := 13, ground := Go.Ground.phase }], guard := none }) (v := ?v1z14) rfl (by kernel_rfl) (by kernel_rfl) (by kernel_rfl) (fun _ _ _ h => h) (Or.inl ⟨by rfl, ?hy1z14⟩) (by assumption) ?rest1z14
                    case hy1z14 => (intro w hSw; (try dsimp only at hSw); go_simp; try (with_reducible rfl))
                    simp only [Act.put, List.setIfInBounds_toArray, List.set_cons_zero, List.set_cons_succ]
                    refine wpAnyH_ready (rs := [15]) (by kernel_rfl) (by simp) ?_
                    refine AllReadyH.cons (o := { dst := none, op := Go.Op.store 61 (Go.Operand.tmp 122) (Go.Operand.tmp 117), type := 0, pos := "more.go:33", after := #[{ on := 14, ground := Go.Ground.data }, { on := 9, ground := Go.Ground.data }, { on := 0, ground := Go.Ground.phase }, { on := 1, ground := Go.Ground.phase }, { on := 2, ground := Go.Ground.textOnly Go.Departure.lateStores }, { on := 3, ground := Go.Ground.textOnly Go.Departure.lateStores }, { on := 4, ground := Go.Ground.textOnly Go.Departure.lateStores }, { on := 5, ground := Go.Ground.phase }, { on := 6, ground := Go.Ground.phase }, { on := 7, ground := Go.Ground.phase }, { on := 8, ground := Go.Ground.phase }, { on := 9, ground := Go.Ground.phase }, { on := 10, ground := Go.Ground.textOnly Go.Departure.lateStores }, { on := 11, ground := Go.Ground.textOnly Go.Departure.lateStores }, { on := 12, ground := Go.Ground.textOnly Go.Departure.lateStoresUnsure }, { on := 13, ground := Go.Ground.phase }], guard := none }) rfl (fun K hK => ?_) ?_
                    ·
                      refine step_storeAt rfl 61 (.tmp 122) (.tmp 117) rfl _ _ (by rfl) (by rfl) hrun8 ?_
                      refine hK.out _ _ ?_ (fun hHeld => ?_)
                      · go_keep
                      clear hK K
                      try simp only [Act.put]
                      refine wpAnyH_take (i := 16) (oi := { dst := some 123, op := Go.Op.indexAddr 59 (Go.Operand.tmp 110) (Go.Operand.tmp 112), type := 0, pos := "more.go:33", after := #[{ on := 2, ground := Go.Ground.data }, { on := 4, ground := Go.Ground.data }, { on := 0, ground := Go.Ground.phase }, { on := 1, ground := Go.Ground.phase }, { on := 2, ground := Go.Ground.phase }, { on := 3, ground := Go.Ground.phase }, { on := 4, ground := Go.Ground.phase }, { on := 5, ground := Go.Ground.phase }, { on := 6, ground := Go.Ground.phase }, { on := 7, ground := Go.Ground.phase }, { on := 8, ground := Go.Ground.phase }, { on := 9, ground := Go.Ground.phase }, { on := 10, ground := Go.Ground.phase }, { on := 11, ground := Go.Ground.phase }, { on := 12, ground := Go.Ground.phase }, { on := 13, ground := Go.Ground.phase }, { on := 14, ground := Go.Ground.phase }, { on := 15, ground := Go.Ground.phase }], guard := none }) (v := ?v1z16) rfl (by kernel_rfl) (by kernel_rfl) (by kernel_rfl) (fun _ _ _ h => h) (Or.inl ⟨by rfl, ?hy1z16⟩) (by assumption) ?rest1z16
                      case hy1z16 => (intro w hSw; (try dsimp only at hSw); go_simp; try (with_reducible rfl))
                      simp only [Act.put, List.setIfInBounds_toArray, List.set_cons_zero, List.set_cons_succ]
                      refine wpAnyH_ready (rs := [17]) (by kernel_rfl) (by simp) ?_
                      refine AllReadyH.cons (o := { dst := none, op := Go.Op.store 61 (Go.Operand.tmp 123) (Go.Operand.tmp 121), type := 0, pos := "more.go:33", after := #[{ on := 16, ground := Go.Ground.data }, { on := 13, ground := Go.Ground.data }, { on := 15, ground := Go.Ground.chain }, { on := 0, ground := Go.Ground.phase }, { on := 1, ground := Go.Ground.phase }, { on := 2, ground := Go.Ground.phase }, { on := 3, ground := Go.Ground.phase }, { on := 4, ground := Go.Ground.phase }, { on := 5, ground := Go.Ground.phase }, { on := 6, ground := Go.Ground.phase }, { on := 7, ground := Go.Ground.phase }, { on := 8, ground := Go.Ground.phase }, { on := 9, ground := Go.Ground.phase }, { on := 10, ground := Go.Ground.phase }, { on := 11, ground := Go.Ground.phase }, { on := 12, ground := Go.Ground.phase }, { on := 13, ground := Go.Ground.phase }, { on := 14, ground := Go.Ground.phase }, { on := 15, ground := Go.Ground.phase }], guard := none }) rfl (fun K hK => ?_) ?_
                      ·
                        refine step_storeAt rfl 61 (.tmp 123) (.tmp 121) rfl _ _ (by rfl) (by rfl) hrun9 ?_
                        refine hK.out _ _ ?_ (fun hHeld => ?_)
                        · go_keep
                        clear hK K
                        try simp only [Act.put]
                        refine wpAnyH_done (by kernel_rfl) ?_ _
                        go_wp2_with fail
                        go_roundg (gk - 1)
                        case measure => omega
                        case rel => exact ⟨i + 1, (l'.set m x1).set m1 x0, by omega, by go_num, Lib.hid ((swap_perm HX.out.1 HX.out.2.1).trans hPm.out), HO9, HC9⟩
                      exact AllReadyH.nil
                    exact AllReadyH.nil
                  exact AllReadyH.nil
                refine AllReadyH.cons (o := { dst := some 121, op := Go.Op.load 61 (Go.Operand.tmp 120), type := 61, pos := "more.go:33", after := #[{ on := 12, ground := Go.Ground.data }], guard := none }) rfl (fun K hK => ?_) ?_
                ·
                  go_simp
                  refine hK.out _ _ ?_ (fun hHeld => ?_)
                  · go_keep
                  clear hK K
                  try simp only [Act.put, List.setIfInBounds_toArray, List.set_cons_zero, List.set_cons_succ]
                  refine wpAnyH_ready (rs := [9]) (by kernel_rfl) (by simp) ?_
                  refine AllReadyH.cons (o := { dst := some 117, op := Go.Op.load 61 (Go.Operand.tmp 116), type := 61, pos := "more.go:33", after := #[{ on := 8, ground := Go.Ground.data }], guard := none }) rfl (fun K hK => ?_) ?_
                  ·
                    go_simp
                    refine hK.out _ _ ?_ (fun hHeld => ?_)
                    · go_keep
                    clear hK K
                    try simp only [Act.put, List.setIfInBounds_toArray, List.set_cons_zero, List.set_cons_succ]
                    refine wpAnyH_take (i := 14) (oi := { dst := some 122, op := Go.Op.indexAddr 59 (Go.Operand.tmp 108) (Go.Operand.tmp 109), type := 0, pos := "more.go:33", after := #[{ on := 0, ground := Go.Ground.data }, { on := 1, ground := Go.Ground.data }, { on := 0, ground := Go.Ground.phase }, { on := 1, ground := Go.Ground.phase }, { on := 2, ground := Go.Ground.textOnly Go.Departure.lateStores }, { on := 3, ground := Go.Ground.textOnly Go.Departure.lateStores }, { on := 4, ground := Go.Ground.textOnly Go.Departure.lateStores }, { on := 5, ground := Go.Ground.phase }, { on := 6, ground := Go.Ground.phase }, { on := 7, ground := Go.Ground.phase }, { on := 8, ground := Go.Ground.phase }, { on := 9, ground := Go.Ground.phase }, { on := 10, ground := Go.Ground.textOnly Go.Departure.lateStores }, { on := 11, ground := Go.Ground.textOnly Go.Departure.lateStores }, { on := 12, ground := Go.Ground.textOnly Go.Departure.lateStoresUnsure }, { on := 13, ground := Go.Ground.phase }], guard := none }) (v := ?v1z14x1) rfl (by kernel_rfl) (by kernel_rfl) (by kernel_rfl) (fun _ _ _ h => h) (Or.inl ⟨by rfl, ?hy1z14x1⟩) (by assumption) ?rest1z14x1
                    case hy1z14x1 => (intro w hSw; (try dsimp only at hSw); go_simp; try (with_reducible rfl))
                    simp only [Act.put, List.setIfInBounds_toArray, List.set_cons_zero, List.set_cons_succ]
                    refine wpAnyH_ready (rs := [15]) (by kernel_rfl) (by simp) ?_
                    refine AllReadyH.cons (o := { dst := none, op := Go.Op.store 61 (Go.Operand.tmp 122) (Go.Operand.tmp 117), type := 0, pos := "more.go:33", after := #[{ on := 14, ground := Go.Ground.data }, { on := 9, ground := Go.Ground.data }, { on := 0, ground := Go.Ground.phase }, { on := 1, ground := Go.Ground.phase }, { on := 2, ground := Go.Ground.textOnly Go.Departure.lateStores }, { on := 3, ground := Go.Ground.textOnly Go.Departure.lateStores }, { on := 4, ground := Go.Ground.textOnly Go.Departure.lateStores }, { on := 5, ground := Go.Ground.phase }, { on := 6, ground := Go.Ground.phase }, { on := 7, ground := Go.Ground.phase }, { on := 8, ground := Go.Ground.phase }, { on := 9, ground := Go.Ground.phase }, { on := 10, ground := Go.Ground.textOnly Go.Departure.lateStores }, { on := 11, ground := Go.Ground.textOnly Go.Departure.lateStores }, { on := 12, ground := Go.Ground.textOnly Go.Departure.lateStoresUnsure }, { on := 13, ground := Go.Ground.phase }], guard := none }) rfl (fun K hK => ?_) ?_
                    ·
                      refine step_storeAt rfl 61 (.tmp 122) (.tmp 117) rfl _ _ (by rfl) (by rfl) hrun8 ?_
                      refine hK.out _ _ ?_ (fun hHeld => ?_)
                      · go_keep
                      clear hK K
                      try simp only [Act.put]
                      refine wpAnyH_take (i := 16) (oi := { dst := some 123, op := Go.Op.indexAddr 59 (Go.Operand.tmp 110) (Go.Operand.tmp 112), type := 0, pos := "more.go:33", after := #[{ on := 2, ground := Go.Ground.data }, { on := 4, ground := Go.Ground.data }, { on := 0, ground := Go.Ground.phase }, { on := 1, ground := Go.Ground.phase }, { on := 2, ground := Go.Ground.phase }, { on := 3, ground := Go.Ground.phase }, { on := 4, ground := Go.Ground.phase }, { on := 5, ground := Go.Ground.phase }, { on := 6, ground := Go.Ground.phase }, { on := 7, ground := Go.Ground.phase }, { on := 8, ground := Go.Ground.phase }, { on := 9, ground := Go.Ground.phase }, { on := 10, ground := Go.Ground.phase }, { on := 11, ground := Go.Ground.phase }, { on := 12, ground := Go.Ground.phase }, { on := 13, ground := Go.Ground.phase }, { on := 14, ground := Go.Ground.phase }, { on := 15, ground := Go.Ground.phase }], guard := none }) (v := ?v1z16x1) rfl (by kernel_rfl) (by kernel_rfl) (by kernel_rfl) (fun _ _ _ h => h) (Or.inl ⟨by rfl, ?hy1z16x1⟩) (by assumption) ?rest1z16x1
                      case hy1z16x1 => (intro w hSw; (try dsimp only at hSw); go_simp; try (with_reducible rfl))
                      simp only [Act.put, List.setIfInBounds_toArray, List.set_cons_zero, List.set_cons_succ]
                      refine wpAnyH_ready (rs := [17]) (by kernel_rfl) (by simp) ?_
                      refine AllReadyH.cons (o := { dst := none, op := Go.Op.store 61 (Go.Operand.tmp 123) (Go.Operand.tmp 121), type := 0, pos := "more.go:33", after := #[{ on := 16, ground := Go.Ground.data }, { on := 13, ground := Go.Ground.data }, { on := 15, ground := Go.Ground.chain }, { on := 0, ground := Go.Ground.phase }, { on := 1, ground := Go.Ground.phase }, { on := 2, ground := Go.Ground.phase }, { on := 3, ground := Go.Ground.phase }, { on := 4, ground := Go.Ground.phase }, { on := 5, ground := Go.Ground.phase }, { on := 6, ground := Go.Ground.phase }, { on := 7, ground := Go.Ground.phase }, { on := 8, ground := Go.Ground.phase }, { on := 9, ground := Go.Ground.phase }, { on := 10, ground := Go.Ground.phase }, { on := 11, ground := Go.Ground.phase }, { on := 12, ground := Go.Ground.phase }, { on := 13, ground := Go.Ground.phase }, { on := 14, ground := Go.Ground.phase }, { on := 15, ground := Go.Ground.phase }], guard := none }) rfl (fun K hK => ?_) ?_
                      ·
                        refine step_storeAt rfl 61 (.tmp 123) (.tmp 121) rfl _ _ (by rfl) (by rfl) hrun9 ?_
                        refine hK.out _ _ ?_ (fun hHeld => ?_)
                        · go_keep
                        clear hK K
                        try simp only [Act.put]
                        refine wpAnyH_done (by kernel_rfl) ?_ _
                        go_wp2_with fail
                        go_roundg (gk - 1)
                        case measure => omega
                        case rel => exact ⟨i + 1, (l'.set m x1).set m1 x0, by omega, by go_num, Lib.hid ((swap_perm HX.out.1 HX.out.2.1).trans hPm.out), HO9, HC9⟩
                      exact AllReadyH.nil
                    exact AllReadyH.nil
                  exact AllReadyH.nil
                exact AllReadyH.nil
              · have hl1I : ¬ (1 : Int) < (nL : Nat) := by omega
                go_wp2_with fail
                go_meet
                exact ⟨l', hPm, hO, hC⟩
            · have h40I : ¬ (i : Int) < 40 := by omega
              have hiI : (i : Int) < (l.length : Nat) := by omega
              go_wp2_with fail
              go_meet
              exact ⟨l', hPm, hO, hC⟩
          · have hiI : ¬ (i : Int) < (l.length : Nat) := by omega
            go_wp2_with fail
            go_meet
            exact ⟨l', hPm, hO, hC⟩
      case rest =>
        obtain ⟨l', hPm, hO, hC⟩ := hcut
        obtain ⟨w7, rfl⟩ : ∃ w7 : World, w7 = wc := ⟨_, rfl⟩
        have hl' : l'.length = nL := by rw [HnL.out]; exact hPm.out.length_eq
        obtain ⟨rl, hrl⟩ : ∃ rl, rl = rs.take (min rs.length 64) := ⟨_, rfl⟩
        have hrll : rl.length = min rs.length 64 := by rw [hrl, List.length_take]; omega
        have hmin : (if (64 : Int) < (rs.length : Nat) then (64 : Int) else (rs.length : Nat)) = (rl.length : Nat) := by rw [hrll]; split <;> omega
        have hl64 : rl.length ≤ 64 := by omega
        have hlm : rl.length ≤ rs.length := by omega
        have HRl := Lib.hid (show RdS W (· < W.heap.size) 2 A2 rl.length (rwsC rl) from by
          have h1 := H.out.rows.pre (m := rl.length) hlm
          rw [show (rwsC rs).take (rl.length * 2) = rwsC rl from by
            rw [hrll, hrl]
            exact take_rows (Nat.min_le_left _ _)] at h1
          exact h1)
        have H64 := Lib.hid (show RowsOk rl from fun r hr => H.out.ok r (by rw [hrl] at hr; exact List.mem_of_mem_take hr))
        clear hrl hrll
        go_upto_region 24 with fail
        clear hmin
        go_upto_block 6 with fail
        have hbI : (1 : Int) ≤ (b : Nat) := by omega
        have hb60 : ((b : Nat) : Int) ≤ 60 := by omega
        have HNe := Lib.hid (show ((b : Nat) : Int) ≠ ((b1 : Nat) : Int) from by have := HBb.out; omega)
        have HPm := Lib.hid (show l'.Perm (idsL p (b : Nat)) from by rw [← HL.out]; exact hPm.out)
        have HL2n := Lib.hid (show L2.length = nL from by rw [HnL.out]; exact hL2l)
        have HLn := Lib.hid hl'
        have HT0 := Lib.hid (show WhT sb db p A c d (.slice A6 nL c6) L2 l' rl 0 W1 w7 from ⟨by rw [whP_zero]; exact hC.out, by rw [hl']; exact hO.out, HF6.out, by rw [whP_zero]; exact HP6.out⟩)
        clear hl' hL2l
        go_cut [8, 11] (fun v8 v11 wx => ∃ sb d, v8 = .bool false ∧ v11 = .pointer (some ⟨sb, 0, none⟩) ∧ Hid (WhT sb db p A c d (.slice A6 nL c6) L2 l' rl nL W1 wx))
        case first =>
          go_wp2_with fail
          go_loopg [8, 11, 12, 20, 21, 22] nL (fun gk v8 v11 _ v20 _ _ wr => ∃ (i sb : Nat) (d : DiskD), i + gk = nL ∧ v8 = .bool false ∧ v11 = .pointer (some ⟨sb, 0, none⟩) ∧ v20 = .int .i64 (i : Nat) ∧ Hid (WhT sb db p A c d (.slice A6 nL c6) L2 l' rl i W1 wr))
          case atStart => exact ⟨0, sb, d, by omega, rfl, rfl, rfl, HT0⟩
          case round =>
            obtain ⟨i, sb, d, hik, rfl, rfl, rfl, hW⟩ := hrel
            by_cases hi : i < nL
            · have hiI : (i : Int) < (nL : Nat) := by omega
              obtain ⟨x, hx⟩ : ∃ x, l'[i]? = some x := ⟨_, List.getElem?_eq_getElem (by rw [HLn.out]; exact hi)⟩
              obtain ⟨ad6, had6⟩ : ∃ ad6 : Addr, A6 = some ad6 := by
                have h1 := hW.out.ids
                rw [HLn.out] at h1
                obtain ⟨g6, hA6, _⟩ := own_some h1 (by omega)
                exact ⟨_, hA6⟩
              subst had6
              have HCe := Lib.hid (fun (w' : World) (h : w'.ownsRow W1.heap.size 61 3 (.slice (some ad6) nL c6) l'.length (l'.flatMap idC)) => show w'.cell? (ad6.add (i * 3)) = some (.int .i64 x.b) ∧ w'.cell? ⟨(ad6.add (i * 3)).block, (ad6.add (i * 3)).off + 1, none⟩ = some (.int .i64 x.s) ∧ w'.cell? ⟨(ad6.add (i * 3)).block, (ad6.add (i * 3)).off + 2, none⟩ = some (.int .i64 x.p) from by
                rw [HLn.out] at h
                obtain ⟨ad, hA7, p0, p1, p2⟩ := Rd.ids (l := l') (Rd.of_own (B := 0) h) hx hi
                injection hA7 with hA7
                subst hA7
                exact ⟨p0, p1, p2⟩)
              obtain ⟨d', z1, z2, z3⟩ := hW.out.put hx HPm.out HL2.out HNe.out hbI hb60 hl64 H64.out (by have := HL2n.out; omega)
              have hfr := hW.out.fresh hx HPm.out HL2.out HNe.out
              have HZ := Lib.hid z1
              have HF := Lib.hid z2
              have HPs := Lib.hid z3
              have HNo := Lib.hid (decide_eq_false hfr)
              have HWn := Lib.hid (whole_no (HPm.out.mem_iff.1 (List.mem_of_getElem? hx)) hfr)
              have HMem := Lib.hid (show (x, rl) ∈ whP L2 l' rl (i + 1) from by rw [whP_succ hx]; exact List.mem_append.2 (.inr (List.mem_singleton.2 rfl)))
              have hl0 : d.life = 0 := hW.out.free.2.2.2
              have HL0 := Lib.hid hl0
              clear hx z1 z2 z3 hfr hl0
              go_upto_region 29 with (first
                | (go_at_call 32; refine (put_s (K := fun k => (Value.slice (some ad6) nL c6).ownBlock = some k) (· < W1.heap.size) x rl rl.length rfl A2 c2 _ HW9.out.is_ ((RdS.mono (S' := (· < W1.heap.size)) HRl.out (fun k hk => by have h2 : k < W.heap.size := hk; show k < W1.heap.size; omega)).ext (ext_trans HB1.out HW9.out.is_.below)) (fun k hk => .inl hk) H64.out HTv.out (by rw [HL0.out]; omega)).mono ?_
                   rw [HZ.out]
                   rintro e w10 ⟨k1, _, hC, hk⟩
                   obtain rfl := k1 rfl
                   have HW10 := Lib.hid (show WhT sb db p A c d' (.slice (some ad6) nL c6) L2 l' rl (i + 1) W1 w10 from ⟨hC, hk.own HW9.out.ids (fun _ h => h), HF.out, HPs.out⟩)
                   clear hC hk k1 t0 t1 t2)
                | (go_at_call 34; refine (has_s x _ HW8.out.is_).mono ?_; rw [HNo.out]; rintro e w9 ⟨rfl, hb⟩; have HW9 := Lib.hid (HW8.out.ext hb); clear hb s0 s1 s2
                   obtain ⟨t0, t1, t2⟩ := HCe.out _ HW9.out.ids)
                | (go_at_call 33; refine (whole_s (b : Nat) _ hW.out.is_).mono ?_; rw [HWn.out]; rintro e w8 ⟨rfl, hb⟩; have HW8 := Lib.hid (hW.out.ext hb); clear hb
                   obtain ⟨s0, s1, s2⟩ := HCe.out _ HW8.out.ids))
              go_cut [167] (fun v167 wx => ∃ e : Bool, v167 = .bool e ∧ w10 = wx)
              case first =>
                by_cases hil : i < l.length
                · have hilI : (i : Int) < (l.length : Nat) := by omega
                  have hy : l[i]? = some (l[i]) := List.getElem?_eq_getElem hil
                  generalize l[i] = y at hy
                  obtain ⟨ad, hA1, hoc⟩ := (((H.out.ord.ext HB1.out).ext HW10.out.is_.below)).cell (by omega)
                  subst hA1
                  have d0 := hoc i (.int .i64 y) (by unfold ordC; rw [List.getElem?_map, hy]; rfl)
                  clear hy hoc
                  go_wp2_with fail
                  all_goals
                    go_meet
                    exact ⟨_, rfl, rfl⟩
                · have hilI : ¬ (i : Int) < (l.length : Nat) := by omega
                  go_wp2_with fail
                  go_meet
                  exact ⟨_, rfl, rfl⟩
              case rest =>
                obtain ⟨e, rfl, rfl⟩ := hcut
                go_upto_if 167 with fail
                go_cut [8, 11, 12] (fun v8 v11 _ wx => ∃ sb', v8 = .bool false ∧ v11 = .pointer (some ⟨sb', 0, none⟩) ∧ Hid (WhT sb' db p A c d' (.slice (some ad6) nL c6) L2 l' rl (i + 1) W1 wx))
                case first =>
                  cases e with
                  | true =>
                    have HKp := Lib.hid (HK1.out.ext HW10.out.is_.below)
                    have q0 : w10.cell? ⟨W.heap.size, 0, none⟩ = some (.int .i64 p.parts) := (HKp.out.cell 0).trans rfl
                    have q1 : w10.cell? ⟨W.heap.size, 1, none⟩ = some (.slice A p.ops.length c) := (HKp.out.cell 1).trans rfl
                    have ql := HKp.out.lt
                    go_wp2_with (first
                      | (go_at_call 21; refine (reopen_s W.heap.size _ HW10.out.is_ HF.out.1 ((H.out.ops.ext HB1.out).ext HW10.out.is_.below) (by have := HW10.out.is_.below.size; omega)).mono ?_; rw [HF.out.2.2.2]; rintro e w11 ⟨sb', rfl, hC, hk⟩
                         have HW11 := Lib.hid (show WhT sb' db p A c d' (.slice (some ad6) nL c6) L2 l' rl (i + 1) W1 w11 from ⟨hC, hk.own HW10.out.ids (fun _ h => h), HF.out, HPs.out⟩)
                         clear hC hk))
                    go_meet
                    exact ⟨sb', rfl, rfl, HW11⟩
                  | false =>
                    go_wp2_with fail
                    go_meet
                    exact ⟨sb, rfl, rfl, HW10⟩
                case rest =>
                  obtain ⟨sb', rfl, rfl, HW11⟩ := hcut
                  obtain ⟨w11, rfl⟩ : ∃ w11 : World, w11 = wc := ⟨_, rfl⟩
                  obtain ⟨s0, s1, s2⟩ := HCe.out _ HW11.out.ids
                  have HG := Lib.hid (get_s (x, rl) w11 HW11.out.is_ HMem.out HF.out.1 HF.out.2.2.2)
                  have HRs := Lib.hid (fun (w' : World) (hb : Below W.heap.size W w') => (HRl.out.ext hb).rdS (e := 74) (B := w'.heap.size) (fun k hk => by have h2 : k < W.heap.size := hk; have h3 := hb.size; omega))
                  go_wp2_with (first
                    | (go_at_call 36; refine (same_c W12.heap.size _ A8 A2 c8 c2 rl rl (Rd.of_own HN8.out) (HRs.out _ (ext_trans HB1.out HW12.out.is_.below)) (by omega)).mono ?_; rw [decide_eq_true rfl]; rintro e w13 ⟨rfl, hb⟩; have HW13 := Lib.hid (HW12.out.ext hb); clear hb)
                    | (go_at_call 35; refine HG.out.mono ?_; rintro e W12 ⟨A8, c8, rfl, hown8, hb8⟩
                       have HN8 := Lib.hid (show W12.ownsRow w11.heap.size 74 2 (.slice A8 rl.length c8) rl.length (rwsC rl) from hown8)
                       have HW12 := Lib.hid (HW11.out.ext hb8)
                       clear hown8 hb8))
                  go_roundg (gk - 1)
                  case measure => omega
                  case rel => exact ⟨i + 1, sb', d', by omega, rfl, rfl, by go_num, HW13⟩
            · have hiI : ¬ (i : Int) < (nL : Nat) := by omega
              obtain rfl : i = nL := by omega
              go_wp2_with fail
              go_meet
              exact ⟨sb, d, rfl, rfl, hW⟩
        case rest =>
          obtain ⟨sb, d, rfl, rfl, hW⟩ := hcut
          obtain ⟨w8, rfl⟩ : ∃ w8 : World, w8 = wc := ⟨_, rfl⟩
          have hfst : (whP L2 l' rl nL).map (·.1) = L2 ++ l' := by rw [whP_fst, List.take_of_length_le (by rw [HLn.out]; exact Nat.le_refl _)]
          have HY1 := Lib.hid (show wholeD p ((whP L2 l' rl nL).map (·.1)) (b : Nat) = true from whole_yes (fun x hx => by rw [hfst]; exact List.mem_append.2 (.inr (HPm.out.mem_iff.2 hx))) hbI hb60)
          have HY2 := Lib.hid (show wholeD p ((whP L2 l' rl nL).map (·.1)) (b1 : Nat) = true from whole_yes (fun x hx => by rw [hfst, HL2.out]; exact List.mem_append.2 (.inl hx)) hb1I hb60I)
          obtain ⟨n2, hn2⟩ : ∃ n2, n2 = 2 * nL := ⟨_, rfl⟩
          have HLen := Lib.hid (show (whP L2 l' rl nL).length = n2 from by
            have h1 := whP_len L2 l' rl
            rw [HLn.out, HL2n.out] at h1
            omega)
          have y5 : IntKind.i64.wrap (2 * (nL : Int)) = (n2 : Nat) := by rw [show 2 * (nL : Int) = (n2 : Nat) by omega]; exact IntWalk.i64_in _ (by omega)
          have y5' : 2 * (nL : Int) = (n2 : Nat) := by omega
          clear hfst hn2
          go_wp2_with (first
            | (go_at_call 28; refine (list_s HSo.out _ HW11.out.is_).mono ?_; rintro e w12 ⟨A7, c7, l7, rfl, hp7, _, _, _, hb⟩
               have hl7 : l7.length = n2 := by have := hp7.length_eq; rw [List.length_map, HLen.out] at this; exact this
               rw [hl7]
               have HB12 := Lib.hid (ext_trans (ext_trans HB1.out HW11.out.is_.below) hb)
               clear hp7 hb hl7)
            | (go_at_call 33; refine (whole_s (b1 : Nat) _ HW10.out.is_).mono ?_; rw [HY2.out]; rintro e w11 ⟨rfl, hb⟩; have HW11 := Lib.hid (HW10.out.ext hb); clear hb)
            | (go_at_call 33; refine (whole_s (b : Nat) _ HW9.out.is_).mono ?_; rw [HY1.out]; rintro e w10 ⟨rfl, hb⟩; have HW10 := Lib.hid (HW9.out.ext hb); clear hb)
            | (go_at_call 24; refine (told14_c _ (hW.out.is_.tv HTv.out)).mono ?_; rintro e w9 ⟨rfl, hb⟩; have HW9 := Lib.hid (hW.out.ext hb); clear hb))
          go_ret
          exact ⟨rfl, HB12.out⟩
end Go.Proofs.YtipfoljmdeiggaaGreatDoor
