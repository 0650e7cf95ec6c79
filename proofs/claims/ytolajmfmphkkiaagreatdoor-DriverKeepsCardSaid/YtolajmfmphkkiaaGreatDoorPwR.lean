/- tributarylaw17.DriverKeeps returns true whatever the input (any plan, any Every, any acts), and its arguments read behind the call as they read before: the tied card. Conditions: none beyond the row's own (errors.errorType is laid as the program's text lays it). -/
import Derived.Test.YtolajmfmphkkiaaGreatDoorPwQ
import Derived.Test.YtolajmfmphkkiaaGreatDoorRows
import Derived.Test.YtolajmfmphkkiaaGreatDoorPwB
import Derived.Test.YtolajmfmphkkiaaGreatDoorPwI
import Derived.Test.YtolajmfmphkkiaaGreatDoorCards
import Derived.Test.YtolajmfmphkkiaaGreatDoorTie
import Derived.Deep.WholeRow
import Derived.Deep.MidRow
import Derived.ChangeSame
import Derived.ChangeVars
import Derived.JoinedOf
import Derived.LaidLaws
import Derived.LaidHandle
import Derived.Stop.Joined
import Derived.ChangeOld
import GoSem.ClaimJoined
import Derived.ProofKit
import Derived.Deep.Slices
import Derived.WideShapes

/- tributarylaw17.DriverKeeps: the walk. -/
namespace Go.Proofs.YtolajmfmphkkiaaGreatDoor
open Go.RowKit Go.Sort

/-- What the arguments' cells hold. -/
structure KeepIn (p : PlanD) (A : Option Addr) (acts : List ActK) (A1 : Option Addr) (W : World) : Prop where
  ops : RdS W (· < W.heap.size) 5 A p.ops.length (opsC p.ops)
  actsR : Rd W W.heap.size 62 19 A1 acts.length (acts.flatMap actK)
  ok : ∀ a ∈ acts, ActOk W a
  tv : TypeVar W
set_option maxRecDepth 100000 in
set_option maxHeartbeats 64000000 in
theorem keeps_c {p : PlanD} {A : Option Addr} {c : Nat} {acts : List ActK} {A1 : Option Addr} {c1 : Nat} {n : Int} (W : World) (h : KeepIn p A acts A1 W) : Calls Tryz.prog 5 #[planV p A c, .int .i64 n, .slice A1 acts.length c1] W (BoolPost W true) := by
  have H := Lib.hid h
  have hty : 0 < W.heap.size := World.block_lt_of_cell? W _ h.tv
  obtain ⟨k, hk, hk7⟩ := mask_i64 n 7 (by omega)
  have hk' : bits .and .i64 n 7 = (k : Nat) := hk
  obtain ⟨e, he⟩ : ∃ e, e = k + 1 := ⟨_, rfl⟩
  have he1 : 1 ≤ e := by omega
  have he8 : e ≤ 8 := by omega
  obtain ⟨e2, he2⟩ : ∃ e2, e2 = 2 * e := ⟨_, rfl⟩
  have y1 : IntKind.i64.wrap ((k : Int) + 1) = (e : Nat) := by rw [show (k : Int) + 1 = (e : Nat) by omega]; exact IntWalk.i64_in _ (by omega)
  have y2 : IntKind.i64.wrap (2 * (e : Int)) = (e2 : Nat) := by rw [show 2 * (e : Int) = (e2 : Nat) by omega]; exact IntWalk.i64_in _ (by omega)
  have heI : (e : Int) ≠ 0 := by omega
  have he28 : e2 ≤ 16 := by omega
  have HE := Lib.hid (show e = k + 1 ∧ e2 = 2 * e from ⟨he, he2⟩)
  clear hk he he2
  obtain ⟨T, hT1, hT2, hT3⟩ : ∃ T, T ≤ acts.length ∧ T ≤ 60 ∧ (T = acts.length ∨ T = 60) := ⟨Nat.min acts.length 60, Nat.min_le_left _ _, Nat.min_le_right _ _, by simp only [Nat.min_def]; split <;> simp⟩
  have HT := Lib.hid hT3
  clear hT3
  obtain ⟨W1, hW1⟩ : ∃ W1, W1 = W.alloc (.cells #[.int .i64 p.parts, .slice A p.ops.length c] 24 (0, 0)) := ⟨_, rfl⟩
  have HB1 := Lib.hid (show Below W.heap.size W W1 from by rw [hW1]; exact ext_alloc (Below.refl _ _) _)
  have HK1 := Lib.hid (show Bk W1 W.heap.size 24 #[.int .i64 p.parts, .slice A p.ops.length c] from by rw [hW1]; exact Bk.new _ _ _)
  have hs1 : W1.heap.size = W.heap.size + 1 := by rw [hW1]; simp
  have HTv := Lib.hid (show TypeVar W1 from TypeVar.fr (S := No) h.tv (Fr.of_below HB1.out) (fun h => h))
  have c0 : W1.cell? ⟨W.heap.size, 0, none⟩ = some (.int .i64 p.parts) := (HK1.out.cell 0).trans rfl
  have c1' : W1.cell? ⟨W.heap.size, 1, none⟩ = some (.slice A p.ops.length c) := (HK1.out.cell 1).trans rfl
  have HW1 := Lib.hid hW1
  clear h hW1
  cases hc : checkD p with
  | some x =>
    obtain ⟨a, code⟩ := x
    have HC := Lib.hid hc
    have HR := Lib.hid (fun W' (hb : Below W.heap.size W W') => rRight_c W.heap.size p A c W' ((H.out.ops.ext hb).rdS (fun _ hk => hk)) hb.size)
    rw [hc] at HR
    clear hc
    go_enter Tryz.func5, Tryz.ntmps5
    go_upto_region 1 with fail
    rw [← HW1.out]
    go_wp2_with (first
      | (go_at_call 13; refine (HR.out _ HB4.out).mono ?_; rintro e w5 ⟨rfl, hb⟩; have HB5 := Lib.hid (ext_trans HB4.out hb); clear hb)
      | (go_at_call 12; refine (told17_c _ HT3.out (by have := HB3.out.size; omega)).mono ?_; rintro e w4 ⟨rfl, hb⟩; have HB4 := Lib.hid (ext_trans HB3.out hb)
         have r0 := (World.cell?_of_block (a := ⟨W.heap.size, 0, none⟩) (hb.block _ ql)).trans q0; have r1 := (World.cell?_of_block (a := ⟨W.heap.size, 1, none⟩) (hb.block _ ql)).trans q1; clear hb)
      | (go_at_call 11
         refine (open_v (w0 := W1) (B := W.heap.size) (p := p) (A := A) (c := c) (room := 400) (e : Nat) HD.out HB2.out (fun h => by rw [HC.out] at h; cases h) (by omega) HTv.out hty ((H.out.ops.ext HB1.out).ext HB2.out) (by have := HB2.out.size; omega)).mono ?_
         rintro e w3 ⟨h1, _, _⟩
         obtain ⟨ve, at_, rfl, hE, hb⟩ := h1 a code HC.out
         obtain ⟨n7, hn7⟩ := hE.errN; obtain ⟨T7, y7, rfl⟩ := hn7.iface
         have HB3 := Lib.hid (ext_trans HB1.out hb)
         have HT3 := Lib.hid (TypeVar.fr (S := No) HTv.out (Fr.of_below hb) (fun h => h))
         have ql : W.heap.size < w3.heap.size := Nat.lt_of_lt_of_le (by omega) hb.size
         have q0 := (World.cell?_of_block (a := ⟨W.heap.size, 0, none⟩) (hb.block W.heap.size (by omega))).trans c0; have q1 := (World.cell?_of_block (a := ⟨W.heap.size, 1, none⟩) (hb.block W.heap.size (by omega))).trans c1'
         clear h1 hE hb hn7)
      | (go_at_call 10; refine (dNew_c 400 _ (by omega) (by omega)).mono ?_; rintro e w2 ⟨db, Rq, rfl, hD, hb⟩; have HD := Lib.hid hD; have HB2 := Lib.hid hb
         have d0 := (World.cell?_of_block (a := ⟨W.heap.size, 0, none⟩) (hb.block W.heap.size (by omega))).trans c0; have d1 := (World.cell?_of_block (a := ⟨W.heap.size, 1, none⟩) (hb.block W.heap.size (by omega))).trans c1'
         have dl : W.heap.size < w2.heap.size := Nat.lt_of_lt_of_le (by omega) hb.size; clear hD hb))
    go_ret
    exact ⟨rfl, HB5.out⟩
  | none =>
    have HC := Lib.hid hc
    have hn0 := (shaped_check hc).n0
    clear hc
    go_enter Tryz.func5, Tryz.ntmps5
    go_upto_region 1 with fail
    rw [← HW1.out]
    go_upto_block 0 with (first
      | (go_at_call 11
         refine (open_v (w0 := W1) (B := W.heap.size) (p := p) (A := A) (c := c) (room := 400) (e : Nat) HD.out HB2.out (fun _ ad hA => by
           obtain ⟨ad', hA', hS, _⟩ := H.out.ops.2 hn0
           rw [hA] at hA'
           injection hA' with hA'
           subst hA'
           have h2 : ad.block < W.heap.size := hS
           exact ⟨fun hk => by have := (HD.out.bd _ hk).1; omega, by have := HB2.out.size; omega⟩) (by omega) HTv.out hty ((H.out.ops.ext HB1.out).ext HB2.out) (by have := HB2.out.size; omega)).mono ?_
         rintro e w3 ⟨_, _, h3⟩
         obtain ⟨vb, rfl, hV⟩ := h3 HC.out (by omega) (by omega)
         have HV := Lib.hid hV
         clear h3 hV)
      | (go_at_call 10; refine (dNew_c 400 _ (by omega) (by omega)).mono ?_; rintro e w2 ⟨db, Rq, rfl, hD, hb⟩; have HD := Lib.hid hD; have HB2 := Lib.hid hb
         have d0 := (World.cell?_of_block (a := ⟨W.heap.size, 0, none⟩) (hb.block W.heap.size (by omega))).trans c0; have d1 := (World.cell?_of_block (a := ⟨W.heap.size, 1, none⟩) (hb.block W.heap.size (by omega))).trans c1'
         have dl : W.heap.size < w2.heap.size := Nat.lt_of_lt_of_le (by omega) hb.size; clear hD hb))
    have HS0 := Lib.hid (show KSt e 0 0 ⟨⟨((e : Nat) : Int).toNat, 0, [], []⟩, WalD.new, 0, 0, 0, false⟩ (DiskD.new 400) from ⟨rfl, rfl, Nat.zero_mod e, Nat.zero_le _, Int.le_refl _, Nat.le_refl _⟩)
    go_wp2_with fail
    go_loopg [9, 10, 11, 12, 13, 14, 15, 16, 17] T (fun gk v9 v10 v11 v12 v13 v14 v15 v16 v17 wr => ∃ (i b vb : Nat) (v : DrvD) (d : DiskD), i + gk = T ∧ v9 = .pointer (some ⟨vb, 0, none⟩) ∧ v11 = .int .i64 (b : Nat) ∧ v12 = .int .i64 (v.x.marked : Nat) ∧ v13 = .int .i64 (i : Nat) ∧ b ≤ i ∧ Hid (VIs W.heap.size vb db p A c v d No W1 wr) ∧ Hid (KSt e b i v d))
    case atStart => exact ⟨0, 0, vb, _, _, by omega, rfl, rfl, rfl, rfl, Nat.le_refl _, HV, HS0⟩
    case round =>
      obtain ⟨i, b, vb, v, d, hik, rfl, rfl, rfl, rfl, hbi, hV, hS⟩ := hrel
      have hi60 : i ≤ 60 := by omega
      by_cases hi : i < acts.length
      · have hiI : (i : Int) < (acts.length : Nat) := by omega
        by_cases h60 : i < 60
        · have h60I : (i : Int) < 60 := by omega
          have hiT : i < T := by have := HT.out; omega
          obtain ⟨y, hy⟩ : ∃ y, acts[i]? = some y := ⟨_, List.getElem?_eq_getElem hi⟩
          obtain ⟨ad, hA1, hcl⟩ := Rd.actsK ((H.out.actsR.ext HB1.out).ext hV.out.below) hy hi
          subst hA1
          have HCl := Lib.hid hcl
          have HY := Lib.hid (H.out.ok y (List.mem_of_getElem? hy))
          obtain ⟨mk, hmk⟩ : ∃ mk, mk = v.x.marked := ⟨_, rfl⟩
          rw [← hmk]
          have HMk := Lib.hid hmk
          clear hy hmk hcl
          go_upto_region 13 with (first
            | (refine wpList_load_any rfl 62 (.tmp 58) rfl (ad.add (i * 19)) (by rfl) #[.int .i64 y.kind, .int .i64 y.n, .int .i64 y.w, .bool y.deep, .slice y.r.A y.r.l.length y.r.cap, .int .i64 y.m.kind, .int .i64 y.m.worker, .int .i64 y.m.id.b, .int .i64 y.m.id.s, .int .i64 y.m.id.p, .bool y.m.deep, .slice y.m.h.A y.m.h.l.length y.m.h.cap, .int .i64 y.m.why, .int .i64 y.m.lost.id.b, .int .i64 y.m.lost.id.s, .int .i64 y.m.lost.id.p, .int .i64 y.m.lost.w, .slice y.m.r.A y.m.r.l.length y.m.r.cap, .int .i64 y.m.n] _ HCl.out Tryz.underlying62 (by kernel_rfl) ?_)
            | (refine wpList_store_row rfl 62 (.tmp 14) (.tmp 59) rfl wr.heap.size #[.int .i64 y.kind, .int .i64 y.n, .int .i64 y.w, .bool y.deep, .slice y.r.A y.r.l.length y.r.cap, .int .i64 y.m.kind, .int .i64 y.m.worker, .int .i64 y.m.id.b, .int .i64 y.m.id.s, .int .i64 y.m.id.p, .bool y.m.deep, .slice y.m.h.A y.m.h.l.length y.m.h.cap, .int .i64 y.m.why, .int .i64 y.m.lost.id.b, .int .i64 y.m.lost.id.s, .int .i64 y.m.lost.id.p, .int .i64 y.m.lost.w, .slice y.m.r.A y.m.r.l.length y.m.r.cap, .int .i64 y.m.n] (by rfl) (by rfl) 62 _ (Bk.new _ _ _) (by kernel_rfl) rfl (by kernel_rfl) ?_; rw [World.setRow_alloc_new]; simp only [Act.put]))
          obtain ⟨wa, hwa⟩ : ∃ wa, wa = wr.alloc (.cells #[.int .i64 y.kind, .int .i64 y.n, .int .i64 y.w, .bool y.deep, .slice y.r.A y.r.l.length y.r.cap, .int .i64 y.m.kind, .int .i64 y.m.worker, .int .i64 y.m.id.b, .int .i64 y.m.id.s, .int .i64 y.m.id.p, .bool y.m.deep, .slice y.m.h.A y.m.h.l.length y.m.h.cap, .int .i64 y.m.why, .int .i64 y.m.lost.id.b, .int .i64 y.m.lost.id.s, .int .i64 y.m.lost.id.p, .int .i64 y.m.lost.w, .slice y.m.r.A y.m.r.l.length y.m.r.cap, .int .i64 y.m.n] 62 (0, 0)) := ⟨_, rfl⟩
          rw [← hwa]
          have HXa := Lib.hid (show Bk wa wr.heap.size 62 #[.int .i64 y.kind, .int .i64 y.n, .int .i64 y.w, .bool y.deep, .slice y.r.A y.r.l.length y.r.cap, .int .i64 y.m.kind, .int .i64 y.m.worker, .int .i64 y.m.id.b, .int .i64 y.m.id.s, .int .i64 y.m.id.p, .bool y.m.deep, .slice y.m.h.A y.m.h.l.length y.m.h.cap, .int .i64 y.m.why, .int .i64 y.m.lost.id.b, .int .i64 y.m.lost.id.s, .int .i64 y.m.lost.id.p, .int .i64 y.m.lost.w, .slice y.m.r.A y.m.r.l.length y.m.r.cap, .int .i64 y.m.n] from by rw [hwa]; exact Bk.new _ _ _)
          have HBa := Lib.hid (show Below wr.heap.size wr wa from by rw [hwa]; exact ext_alloc (Below.refl _ _) _)
          clear hwa
          have HVa := Lib.hid (hV.out.ext HBa.out)
          have HRr := Lib.hid (((RdS.mono (S' := (· < W1.heap.size)) HY.out.rr (fun k hk => by have h2 : k < W.heap.size := hk; show k < W1.heap.size; omega)).ext HB1.out).ext HVa.out.below)
          have HHh := Lib.hid ((HY.out.hh.ext HB1.out).ext HVa.out.below)
          have HMr := Lib.hid ((HY.out.mr.ext HB1.out).ext HVa.out.below)
          obtain ⟨nb, hnb⟩ : ∃ nb, nb = wr.heap.size := ⟨_, rfl⟩
          rw [← hnb] at HXa ⊢
          clear hnb
          have a0 : wa.cell? ⟨nb, 0, none⟩ = some (.int .i64 y.kind) := (HXa.out.cell 0).trans rfl
          have a1 : wa.cell? ⟨nb, 1, none⟩ = some (.int .i64 y.n) := (HXa.out.cell 1).trans rfl
          have a4 : wa.cell? ⟨nb, 4, none⟩ = some (.slice y.r.A y.r.l.length y.r.cap) := (HXa.out.cell 4).trans rfl
          have al := HXa.out.lt
          go_upto_block 2 with fail
          go_cut [9, 10, 11, 15, 16, 17] (fun v9 _ v11 _ _ _ wx => ∃ vb' b' : Nat, v9 = .pointer (some ⟨vb', 0, none⟩) ∧ v11 = .int .i64 (b' : Nat) ∧ b' ≤ i + 1 ∧ Hid (KGo W.heap.size vb' db p A c No W1 e b' (i + 1) mk wx))
          case first =>
            by_cases k0 : y.kind = 0
            · as_aux_lemma =>
                have e0 : (y.kind == 0) = true := by simp [k0]
                clear k0
                obtain ⟨m, hm, hm16, hml⟩ : ∃ m, m = min y.r.l.length 16 ∧ m ≤ 16 ∧ m ≤ y.r.l.length := ⟨_, rfl, Nat.min_le_right _ _, Nat.min_le_left _ _⟩
                have hmin : (if (16 : Int) < (y.r.l.length : Nat) then (16 : Int) else (y.r.l.length : Nat)).toNat = m := by split <;> omega
                have HL := Lib.hid (show (y.r.l.take m).length = m by rw [List.length_take]; omega)
                have hcap := HY.out.rl
                clear hm
                go_wp2_with (first
                  | (go_at_call 21; (try rw [hmin]); refine (push_k (· < W1.heap.size) (y.r.l.take m) m HL.out y.r.A y.r.cap _ HVa.out hS.out (by omega) (by rw [HL.out, ← take_rows hml]; exact HRr.out.pre hml) (fun _ hk => hk) (fun r hr => HY.out.r64 r (List.mem_of_mem_take hr))).mono ?_; rintro e' w4 ⟨⟨r, rfl⟩, hg⟩; have HG := Lib.hid hg; clear hg))
                all_goals (go_meet; exact ⟨vb, b, rfl, rfl, by omega, by rw [HMk.out]; exact HG⟩)
            · by_cases k1 : y.kind = 1
              · have e0 : (y.kind == 0) = false := by simp [k0]
                have e1 : (y.kind == 1) = true := by simp [k1]
                clear k1
                obtain ⟨b1, hb1⟩ : ∃ b1, b1 = b + 1 := ⟨_, rfl⟩
                obtain ⟨s1, hs1'⟩ : ∃ s1, s1 = mk + e2 := ⟨_, rfl⟩
                have hmk60 : mk ≤ 60 := by rw [HMk.out]; have h7 := hV.out.ok.inn.mkd; have h8 := hV.out.ok.inn.nc; omega
                have wb : IntKind.i64.wrap ((b : Int) + 1) = (b1 : Nat) := by rw [show (b : Int) + 1 = (b1 : Nat) by omega]; exact IntWalk.i64_in _ (by omega)
                have ws : IntKind.i64.wrap ((mk : Int) + (e2 : Nat)) = (s1 : Nat) := by rw [show (mk : Int) + (e2 : Nat) = (s1 : Nat) by omega]; exact IntWalk.i64_in _ (by omega)
                have HEq := Lib.hid (show b1 = b + 1 ∧ s1 = mk + e2 from ⟨hb1, hs1'⟩)
                clear hb1 hs1'
                cases hz : (cutD v d).1 with
                | none =>
                  as_aux_lemma =>
                    obtain ⟨hle, hcut⟩ := cut_k1 _ HVa.out hS.out (by omega) hz
                    rw [← HEq.out.1] at hcut hle
                    have HCu := Lib.hid hcut
                    have hsb : ¬ (s1 : Int) < (b1 : Nat) := by have := HEq.out; have := HE.out; have := HMk.out; omega
                    clear hcut hle hz
                    go_wp2_with (first
                      | (go_at_call 14; refine HCu.out.mono ?_; rintro e' w4 ⟨rfl, hg⟩; have HG := Lib.hid hg; clear hg))
                    go_meet
                    exact ⟨vb, b1, rfl, rfl, by have := HEq.out; omega, by rw [HMk.out]; exact HG⟩
                | some code =>
                  as_aux_lemma =>
                    obtain ⟨h90, hcut⟩ := cut_k2 _ HVa.out hS.out (by omega) hz
                    have HCu := Lib.hid hcut
                    clear hcut hz
                    by_cases hc90 : code = 90
                    · have c90 : (code == 90) = true := by simp [hc90]
                      have hsb : ¬ (b1 : Int) ≤ (s1 : Nat) := by have := h90 hc90; have := HEq.out; have := HE.out; have := HMk.out; omega
                      clear h90 hc90
                      go_wp2_with (first
                        | (go_at_call 25; refine (lcode_c n7 _ _ code _ HE4.out HT4.out).mono ?_; rintro e' w5 ⟨rfl, hb⟩; have HB5 := Lib.hid hb; clear hb)
                        | (go_at_call 14; refine HCu.out.mono ?_; rintro e' w4 ⟨T7, y7, n7, rfl, hE4, hT4, hg⟩; have HG := Lib.hid hg; have HE4 := Lib.hid hE4; have HT4 := Lib.hid hT4; clear hg hE4 hT4))
                      go_meet
                      exact ⟨vb, b, rfl, rfl, by omega, by rw [HMk.out]; exact Lib.hid (HG.out.ext HB5.out)⟩
                    · have c90 : (code == 90) = false := by simp [hc90]
                      clear h90 hc90
                      go_wp2_with (first
                        | (go_at_call 25; refine (lcode_c n7 _ _ code _ HE4.out HT4.out).mono ?_; rintro e' w5 ⟨rfl, hb⟩; have HB5 := Lib.hid hb; clear hb)
                        | (go_at_call 14; refine HCu.out.mono ?_; rintro e' w4 ⟨T7, y7, n7, rfl, hE4, hT4, hg⟩; have HG := Lib.hid hg; have HE4 := Lib.hid hE4; have HT4 := Lib.hid hT4; clear hg hE4 hT4))
                      go_meet
                      exact ⟨vb, b, rfl, rfl, by omega, by rw [HMk.out]; exact Lib.hid (HG.out.ext HB5.out)⟩
              · have e0 : (y.kind == 0) = false := by simp [k0]
                have e1 : (y.kind == 1) = false := by simp [k1]
                by_cases k2 : y.kind = 2
                · as_aux_lemma =>
                    have e2' : (y.kind == 2) = true := by simp [k2]
                    clear k2
                    have HMl := Lib.hid (show ∀ (j : Nat) u, (#[.int .i64 y.m.kind, .int .i64 y.m.worker, .int .i64 y.m.id.b, .int .i64 y.m.id.s, .int .i64 y.m.id.p, .bool y.m.deep, .slice y.m.h.A y.m.h.l.length y.m.h.cap, .int .i64 y.m.why, .int .i64 y.m.lost.id.b, .int .i64 y.m.lost.id.s, .int .i64 y.m.lost.id.p, .int .i64 y.m.lost.w, .slice y.m.r.A y.m.r.l.length y.m.r.cap, .int .i64 y.m.n] : Array Value)[j]? = some u → wa.cell? ((⟨nb, 5, none⟩ : Addr).add j) = some u from fun j u hu => by
                      rw [Addr.add_mid, HXa.out.cell (5 + j)]
                      have h2 : (#[.int .i64 y.kind, .int .i64 y.n, .int .i64 y.w, .bool y.deep, .slice y.r.A y.r.l.length y.r.cap, .int .i64 y.m.kind, .int .i64 y.m.worker, .int .i64 y.m.id.b, .int .i64 y.m.id.s, .int .i64 y.m.id.p, .bool y.m.deep, .slice y.m.h.A y.m.h.l.length y.m.h.cap, .int .i64 y.m.why, .int .i64 y.m.lost.id.b, .int .i64 y.m.lost.id.s, .int .i64 y.m.lost.id.p, .int .i64 y.m.lost.w, .slice y.m.r.A y.m.r.l.length y.m.r.cap, .int .i64 y.m.n] : Array Value)[5 + j]? = (#[.int .i64 y.m.kind, .int .i64 y.m.worker, .int .i64 y.m.id.b, .int .i64 y.m.id.s, .int .i64 y.m.id.p, .bool y.m.deep, .slice y.m.h.A y.m.h.l.length y.m.h.cap, .int .i64 y.m.why, .int .i64 y.m.lost.id.b, .int .i64 y.m.lost.id.s, .int .i64 y.m.lost.id.p, .int .i64 y.m.lost.w, .slice y.m.r.A y.m.r.l.length y.m.r.cap, .int .i64 y.m.n] : Array Value)[j]? := by
                        rw [← Array.getElem?_toList, ← Array.getElem?_toList, ← List.getElem?_drop]
                        rfl
                      rw [h2]
                      exact hu)
                    go_upto_region 30 with (first
                      | (refine wpList_load_any rfl 49 (.tmp 130) rfl ⟨nb, 5, none⟩ (by rfl) #[.int .i64 y.m.kind, .int .i64 y.m.worker, .int .i64 y.m.id.b, .int .i64 y.m.id.s, .int .i64 y.m.id.p, .bool y.m.deep, .slice y.m.h.A y.m.h.l.length y.m.h.cap, .int .i64 y.m.why, .int .i64 y.m.lost.id.b, .int .i64 y.m.lost.id.s, .int .i64 y.m.lost.id.p, .int .i64 y.m.lost.w, .slice y.m.r.A y.m.r.l.length y.m.r.cap, .int .i64 y.m.n] _ HMl.out Tryz.underlying49 (by kernel_rfl) ?_)
                      | (refine wpList_store_row rfl 49 (.tmp 17) (.tmp 132) rfl w4.heap.size #[.int .i64 y.m.kind, .int .i64 y.m.worker, .int .i64 y.m.id.b, .int .i64 y.m.id.s, .int .i64 y.m.id.p, .bool y.m.deep, .slice A2 y.m.h.l.length c2, .int .i64 y.m.why, .int .i64 y.m.lost.id.b, .int .i64 y.m.lost.id.s, .int .i64 y.m.lost.id.p, .int .i64 y.m.lost.w, .slice A3 y.m.r.l.length c3, .int .i64 y.m.n] (by rfl) (by rfl) 49 _ (Bk.new _ _ _) (by kernel_rfl) rfl (by kernel_rfl) ?_; rw [World.setRow_alloc_new]; simp only [Act.put])
                      | (go_at_call 26; refine (copied_c W.heap.size y.m.kind y.m.worker y.m.id y.m.deep y.m.h.A y.m.h.l y.m.h.cap y.m.why y.m.lost.id y.m.lost.w y.m.r.A y.m.r.l y.m.r.cap y.m.n wa HHh.out HMr.out HY.out.h32 HY.out.r16).mono ?_; rintro e' w4 ⟨A2, c2, A3, c3, rfl, hb⟩; have HB4 := Lib.hid hb; clear hb))
                    obtain ⟨wm, hwm⟩ : ∃ wm, wm = w4.alloc (.cells #[.int .i64 y.m.kind, .int .i64 y.m.worker, .int .i64 y.m.id.b, .int .i64 y.m.id.s, .int .i64 y.m.id.p, .bool y.m.deep, .slice A2 y.m.h.l.length c2, .int .i64 y.m.why, .int .i64 y.m.lost.id.b, .int .i64 y.m.lost.id.s, .int .i64 y.m.lost.id.p, .int .i64 y.m.lost.w, .slice A3 y.m.r.l.length c3, .int .i64 y.m.n] 49 (0, 0)) := ⟨_, rfl⟩
                    rw [← hwm]
                    have HXm := Lib.hid (show Bk wm w4.heap.size 49 #[.int .i64 y.m.kind, .int .i64 y.m.worker, .int .i64 y.m.id.b, .int .i64 y.m.id.s, .int .i64 y.m.id.p, .bool y.m.deep, .slice A2 y.m.h.l.length c2, .int .i64 y.m.why, .int .i64 y.m.lost.id.b, .int .i64 y.m.lost.id.s, .int .i64 y.m.lost.id.p, .int .i64 y.m.lost.w, .slice A3 y.m.r.l.length c3, .int .i64 y.m.n] from by rw [hwm]; exact Bk.new _ _ _)
                    have HBm := Lib.hid (show Below w4.heap.size w4 wm from by rw [hwm]; exact ext_alloc (Below.refl _ _) _)
                    have HV4 := Lib.hid (HVa.out.ext HB4.out)
                    clear hwm
                    obtain ⟨n2, hn2⟩ : ∃ n2, n2 = w4.heap.size := ⟨_, rfl⟩
                    rw [← hn2] at HXm ⊢
                    have HN2 := Lib.hid hn2
                    clear hn2
                    have b0 : wm.cell? ⟨n2, 0, none⟩ = some (.int .i64 y.m.kind) := (HXm.out.cell 0).trans rfl
                    have b13 : wm.cell? ⟨n2, 13, none⟩ = some (.int .i64 y.m.n) := (HXm.out.cell 13).trans rfl
                    have f13 := HXm.out.frozen 13
                    have bl := HXm.out.lt
                    by_cases k5 : y.m.kind = 5
                    · have e5 : (y.m.kind == 5) = true := by simp [k5]
                      clear k5
                      obtain ⟨nn, hnn, hnl⟩ : ∃ nn : Int, (if ((b : Nat) : Int) < y.m.n then ((b : Nat) : Int) else y.m.n) = nn ∧ nn ≤ 9223372036854775807 := ⟨_, rfl, by have := HY.out.mn.2; split <;> omega⟩
                      have HXn := Lib.hid (show Bk (wm.setCell ⟨n2, 13, none⟩ (.int .i64 nn)) n2 49 #[.int .i64 y.m.kind, .int .i64 y.m.worker, .int .i64 y.m.id.b, .int .i64 y.m.id.s, .int .i64 y.m.id.p, .bool y.m.deep, .slice A2 y.m.h.l.length c2, .int .i64 y.m.why, .int .i64 y.m.lost.id.b, .int .i64 y.m.lost.id.s, .int .i64 y.m.lost.id.p, .int .i64 y.m.lost.w, .slice A3 y.m.r.l.length c3, .int .i64 nn] from HXm.out.set_ 13 _)
                      have HVn := Lib.hid (HV4.out.ext (HBm.out.setCell (p := ⟨n2, 13, none⟩) (by rw [HN2.out]; exact Nat.le_refl _) (.int .i64 nn)))
                      go_wp2_with (first
                        | (refine wpList_load_row rfl 49 (.tmp 17) rfl n2 (by rfl) 49 #[.int .i64 y.m.kind, .int .i64 y.m.worker, .int .i64 y.m.id.b, .int .i64 y.m.id.s, .int .i64 y.m.id.p, .bool y.m.deep, .slice A2 y.m.h.l.length c2, .int .i64 y.m.why, .int .i64 y.m.lost.id.b, .int .i64 y.m.lost.id.s, .int .i64 y.m.lost.id.p, .int .i64 y.m.lost.w, .slice A3 y.m.r.l.length c3, .int .i64 nn] (0, 0) _ HXn.out Tryz.underlying49 rfl (by kernel_rfl) ?_)
                        | (go_at_call 16; refine (hear_k (⟨y.m.kind, y.m.worker, y.m.id, y.m.deep, .slice A2 y.m.h.l.length c2, y.m.why, y.m.lost.id, y.m.lost.w, .slice A3 y.m.r.l.length c3, nn⟩ : MsgD) _ HVn.out he1 hS.out (by omega) hnl).mono ?_; rintro e' w6 ⟨⟨r, rfl⟩, hg⟩; have HG := Lib.hid hg; clear hg))
                      all_goals (go_meet; exact ⟨vb, b, rfl, rfl, by omega, by rw [HMk.out]; exact HG⟩)
                    · have e5 : (y.m.kind == 5) = false := by simp [k5]
                      have HVn := Lib.hid (HV4.out.ext HBm.out)
                      go_wp2_with (first
                        | (refine wpList_load_row rfl 49 (.tmp 17) rfl n2 (by rfl) 49 #[.int .i64 y.m.kind, .int .i64 y.m.worker, .int .i64 y.m.id.b, .int .i64 y.m.id.s, .int .i64 y.m.id.p, .bool y.m.deep, .slice A2 y.m.h.l.length c2, .int .i64 y.m.why, .int .i64 y.m.lost.id.b, .int .i64 y.m.lost.id.s, .int .i64 y.m.lost.id.p, .int .i64 y.m.lost.w, .slice A3 y.m.r.l.length c3, .int .i64 y.m.n] (0, 0) _ HXm.out Tryz.underlying49 rfl (by kernel_rfl) ?_)
                        | (go_at_call 16; refine (hear_k (⟨y.m.kind, y.m.worker, y.m.id, y.m.deep, .slice A2 y.m.h.l.length c2, y.m.why, y.m.lost.id, y.m.lost.w, .slice A3 y.m.r.l.length c3, y.m.n⟩ : MsgD) _ HVn.out he1 hS.out (by omega) HY.out.mn.2).mono ?_; rintro e' w6 ⟨⟨r, rfl⟩, hg⟩; have HG := Lib.hid hg; clear hg))
                      go_meet
                      exact ⟨vb, b, rfl, rfl, by omega, by rw [HMk.out]; exact HG⟩
                · have e2' : (y.kind == 2) = false := by simp [k2]
                  by_cases k4 : y.kind = 4
                  · as_aux_lemma =>
                      have e4 : (y.kind == 4) = true := by simp [k4]
                      clear k4
                      go_wp2_with (first
                        | (go_at_call 20; refine (arm_k y.n _ HVa.out hS.out HY.out.n.2).mono ?_; rintro e' w4 ⟨⟨r, rfl⟩, hg⟩; have HG := Lib.hid hg; clear hg))
                      go_meet
                      exact ⟨vb, b, rfl, rfl, by omega, by rw [HMk.out]; exact HG⟩
                  · have e4 : (y.kind == 4) = false := by simp [k4]
                    by_cases k5 : y.kind = 5
                    · as_aux_lemma =>
                        have e5 : (y.kind == 5) = true := by simp [k5]
                        clear k5
                        go_wp2_with (first
                          | (go_at_call 27; refine (dcut_k _ HVa.out hS.out (by omega)).mono ?_; rintro e' w4 ⟨⟨r, rfl⟩, hg⟩; have HG := Lib.hid hg; clear hg))
                        go_meet
                        exact ⟨vb, b, rfl, rfl, by omega, by rw [HMk.out]; exact HG⟩
                    · as_aux_lemma =>
                        have e5 : (y.kind == 5) = false := by simp [k5]
                        go_wp2_with (first
                          | (go_at_call 17; refine (mark_v _ HV5.out).mono ?_; rw [← HMk.out]; rintro e' w15 ⟨rfl, rfl⟩)
                          | (go_at_call 11; refine (reopen_v (e : Nat) _ HV4.out rfl ((H.out.ops.ext HB1.out).ext HV4.out.below) (by have := HV4.out.below.size; omega) (by omega) (by omega) HC.out).mono ?_; rintro e' w5 ⟨vb', rfl, hV5, _⟩; have HV5 := Lib.hid hV5; clear hV5)
                          | (go_at_call 28; refine (restart_v _ HVa.out).mono ?_; rintro e' w4 ⟨rfl, hV4, _⟩; have HV4 := Lib.hid hV4; have HKp := Lib.hid (HK1.out.ext hV4.below); have q0 : w4.cell? ⟨W.heap.size, 0, none⟩ = some (.int .i64 p.parts) := (HKp.out.cell 0).trans rfl; have q1 : w4.cell? ⟨W.heap.size, 1, none⟩ = some (.slice A p.ops.length c) := (HKp.out.cell 1).trans rfl; have ql := HKp.out.lt; clear hV4))
                        go_meet
                        exact ⟨vb', b, rfl, rfl, by omega, Lib.hid ⟨_, _, HV5.out, hS.out.reopen.upto (by omega), by rw [HMk.out]; exact Nat.le_refl _⟩⟩
          case rest =>
            obtain ⟨vb', b', rfl, rfl, hbi', hG⟩ := hcut
            obtain ⟨v', d', hV', hS', hmk'⟩ := hG.out
            obtain ⟨wo, rfl⟩ : ∃ wo : World, wo = wc := ⟨_, rfl⟩
            have HV' := Lib.hid hV'
            have HS' := Lib.hid hS'
            have hin := hV'.ok.inn
            obtain ⟨sb, hsb, R, hSd⟩ := hV'.sched
            have HSd := Lib.hid hSd
            have hvl := hV'.lt.1
            obtain ⟨nm, hnm⟩ : ∃ nm, nm = v'.x.marked := ⟨_, rfl⟩
            obtain ⟨kn, hkn⟩ : ∃ kn, kn = v'.s.known := ⟨_, rfl⟩
            have HNm := Lib.hid hnm
            have hmod : nm % e = 0 := by rw [hnm]; exact hS'.mod
            have hlag : b' ≤ nm + 2 * e := by rw [hnm]; exact hS'.lag
            have hle : nm ≤ b' := by rw [hnm, ← hS'.nc]; exact hin.mkd
            have hknI : ¬ (kn : Int) < (nm : Nat) := by have := hS'.kn; rw [hkn, hnm]; omega
            have hmkI : ¬ (nm : Int) < (mk : Nat) := by rw [← hnm] at hmk'; omega
            have hleI : ¬ (b' : Int) < (nm : Nat) := by omega
            have hb60 : b' ≤ 61 := by omega
            obtain ⟨s1, hs1'⟩ : ∃ s1, s1 = nm + e2 := ⟨_, rfl⟩
            have ws : IntKind.i64.wrap ((nm : Int) + (e2 : Nat)) = (s1 : Nat) := by rw [show (nm : Int) + (e2 : Nat) = (s1 : Nat) by omega]; exact IntWalk.i64_in _ (by omega)
            have hsI : ¬ (s1 : Int) < (b' : Nat) := by have := HE.out; omega
            have t1 : (nm : Int).tmod (e : Int) = 0 := (Int.ofNat_tmod nm e).symm.trans (by rw [hmod]; rfl)
            have t2 : (nm : Int) % (e : Int) = 0 := by rw [← Int.natCast_emod, hmod]; rfl
            have HNw := Lib.hid (fun q => (show Calls Tryz.prog 18 #[.pointer (some ⟨vb', 0, none⟩)] (wo.drewN q) (Val (wo.drewN q) (.int .i64 (b' : Nat))) from by rw [← hS'.nc]; exact newest_v _ (HV'.out.ext (below_drewN (Below.refl _ _) q))))
            have HMm := Lib.hid (fun q => (show Calls Tryz.prog 17 #[.pointer (some ⟨vb', 0, none⟩)] (wo.drewN q) (Val (wo.drewN q) (.int .i64 (nm : Nat))) from by rw [hnm]; exact mark_v _ (HV'.out.ext (below_drewN (Below.refl _ _) q))))
            have HNu := Lib.hid (fun q => (show Calls Tryz.prog 19 #[.pointer (some ⟨sb, 0, none⟩)] (wo.drewN q) (Val (wo.drewN q) (.int .i64 kn)) from by rw [hkn]; exact number_c _ (HSd.out.ext (below_drewN (Below.refl _ _) q))))
            have HDn := Lib.hid (fun q => (show Calls Tryz.prog 24 #[.pointer (some ⟨vb', 0, none⟩)] (wo.drewN q) (fun e w' => e = .returned (.bool (v'.down d')) ∧ ∃ m, w' = wo.drewN m) from (down_q (wo.drewN q) (HV'.out.ext (below_drewN (Below.refl _ _) q))).mono (fun e w' ⟨h1, q', h2⟩ => ⟨h1, q + q', by rw [h2]; simp⟩)))
            clear hV' hS' hmk' hin hSd hnm hkn hmod hlag hle hs1' hG
            cases hdn : v'.down d' with
            | true =>
              rw [hdn] at HDn
              clear hdn
              as_aux_lemma =>
                go_upto_region 37 with fail
                go_quiet (first
                  | (go_at_call 18; exact quiet_val (HNw.out _))
                  | (go_at_call 17; exact quiet_val (HMm.out _))
                  | (go_at_call 24; exact HDn.out _))
                go_wp2_with (first
                  | (go_at_call 17; refine (HMm.out _).mono ?_; rintro e' w15 ⟨rfl, rfl⟩))
                go_roundg (gk - 1)
                case measure => omega
                case rel => exact ⟨i + 1, b', vb', v', d', by omega, rfl, rfl, by rw [HNm.out], by go_num, hbi', Lib.hid (HV'.out.ext (below_drewN (Below.refl _ _) _)), HS'⟩
            | false =>
              rw [hdn] at HDn
              clear hdn
              as_aux_lemma =>
                go_upto_region 37 with fail
                go_quiet (first
                  | (go_at_call 18; exact quiet_val (HNw.out _))
                  | (go_at_call 17; exact quiet_val (HMm.out _))
                  | (go_at_call 24; exact HDn.out _)
                  | (go_at_call 19; exact quiet_val (HNu.out _)))
                go_wp2_with (first
                  | (go_at_call 17; refine (HMm.out _).mono ?_; rintro e' w15 ⟨rfl, rfl⟩))
                go_roundg (gk - 1)
                case measure => omega
                case rel => exact ⟨i + 1, b', vb', v', d', by omega, rfl, rfl, by rw [HNm.out], by go_num, hbi', Lib.hid (HV'.out.ext (below_drewN (Below.refl _ _) _)), HS'⟩
        · have h60I : ¬ (i : Int) < 60 := by omega
          go_wp2_with (first
            | (go_at_call 12; refine (told17_c _ hV.out.tv (by have := hV.out.below.size; omega)).mono ?_; rintro e' w13 ⟨rfl, hb⟩; have HB13 := Lib.hid hb; clear hb))
          go_ret
          exact ⟨rfl, ext_trans (ext_trans HB1.out hV.out.below) HB13.out⟩
      · have hiI : ¬ (i : Int) < (acts.length : Nat) := by omega
        go_wp2_with (first
          | (go_at_call 12; refine (told17_c _ hV.out.tv (by have := hV.out.below.size; omega)).mono ?_; rintro e' w13 ⟨rfl, hb⟩; have HB13 := Lib.hid hb; clear hb))
        go_ret
        exact ⟨rfl, ext_trans (ext_trans HB1.out hV.out.below) HB13.out⟩
end Go.Proofs.YtolajmfmphkkiaaGreatDoor

/- From a walk that leaves what it found to a law's row, with errors.errorType laid. -/
namespace Go.Proofs.YtolajmfmphkkiaaGreatDoor
open Go.ChangeShapes Go.WideShapes Go.RowKit

theorem own_ : ownKnob Tryz.prog.godebug = none := by kernel_rfl
theorem laidOut_ : laidOutB Tryz.prog = true := by kernel_rfl
theorem et_ : Tryz.prog.globalNamed "errors.errorType" = some 0 := by kernel_rfl
theorem rt_ : (Tryz.prog.cutTypes.find? (·.1 == "internal/reflectlite.rtype")).map (·.2) = some 153 := by kernel_rfl
theorem oneRow_ : ((List.range Tryz.prog.types.size).filter fun t => Tryz.prog.rowNamed t [101, 114, 114, 111, 114]) = [28] := by kernel_rfl

theorem typeVar_of_laid {W : World} (h : laidMetH Tryz.prog [("errors.errorType", Rows.laid_errors_errorType)] W) : TypeVar W := by
  have h' : laidMet Tryz.prog [] W ∧ handlesMet Tryz.prog [("errors.errorType", Rows.laid_errors_errorType)] W := h
  obtain ⟨name, u, ty, e1, e2, e3, e4, e5⟩ := h'.2 _ (List.mem_singleton.2 rfl)
  have en : name = [101, 114, 114, 111, 114] := (Option.some.inj e1).symm
  subst en
  obtain rfl := Option.some.inj (rt_.symm.trans e2)
  have hm : ty ∈ (List.range Tryz.prog.types.size).filter fun t => Tryz.prog.rowNamed t [101, 114, 114, 111, 114] := List.mem_filter.2 ⟨List.mem_range.2 e3, e4⟩
  rw [oneRow_] at hm
  obtain rfl := List.mem_singleton.1 hm
  have hh : typeHandle Tryz.prog 28 = .pointer (some ⟨1, 28, none⟩) := by kernel_rfl
  rw [hh] at e5
  unfold TypeVar
  simpa using World.var?_cell et_ e5 0

/-- A world that meets the condition. -/
noncomputable def laidWorld (os : Os) : World :=
  let w0 := World.holding Tryz.prog os ⟨#[], #[], []⟩
  { w0 with heap := w0.heap.modify 0 fun
      | .cells _ t frozen => .cells #[.iface 153 (.agg #[.pointer (some ⟨1, 28, none⟩)])] t frozen
      | o => o }
theorem laidWorld_met (os : Os) (args : Array Value) : laidMetH Tryz.prog [("errors.errorType", Rows.laid_errors_errorType)] ((laidWorld os).forCall (fun _ _ => 0) ⟨#[], args, []⟩).memory :=
  laidMetH_of_parts (laidMet_nil _ _) (by kernel_rfl)

theorem trodAll_below {H : Type} {enc : TypeId × Value → H} {W W' : World} (hb : Below W.heap.size W W') : ∀ {ts : List TypeId} {vs : List Value} {ds : List (DataW H)} {ps : List MemPlace},
    (∀ t ∈ ts, Tryz.prog.readableRec t = true ∧ t < Tryz.prog.types.size) → DataW.TrodAll enc Tryz.prog W 0 (fun _ => true) true ts vs ds ps → DataW.TrodAll enc Tryz.prog W' 0 (fun b => decide (b < W.heap.size)) true ts vs ds ps
  | [], [], [], _, _, h => h
  | [], _ :: _, _, _, _, h => h.elim
  | [], [], _ :: _, _, _, h => h.elim
  | _ :: _, [], _, _, _, h => h.elim
  | _ :: _, _ :: _, [], _, _, h => h.elim
  | t :: ts, v :: vs, d :: ds, ps, ht, h => by
    obtain ⟨p, q, h1, h2, rfl⟩ := h
    have hlt : ∀ x ∈ p, x.block < W.heap.size := by obtain ⟨m, hm⟩ := h1; exact DataW.trod_lt m _ _ _ hm
    exact ⟨p, q, Below.trod laidOut_ (ht t (by simp)).1 (ht t (by simp)).2 h1 hb hlt, trodAll_below hb (fun t' h' => ht t' (List.mem_cons_of_mem _ h')) h2, rfl⟩

theorem trodAll_len {H : Type} {enc : TypeId × Value → H} {W : World} : ∀ {ts : List TypeId} {vs : List Value} {ds : List (DataW H)} {ps : List MemPlace},
    DataW.TrodAll enc Tryz.prog W 0 (fun _ => true) true ts vs ds ps → ds.length = ts.length
  | [], [], [], _, _ => rfl
  | [], _ :: _, _, _, h => h.elim
  | [], [], _ :: _, _, h => h.elim
  | _ :: _, [], _, _, h => h.elim
  | _ :: _, _ :: _, [], _, h => h.elim
  | t :: ts, v :: vs, d :: ds, ps, h => by
    obtain ⟨p, q, _, h2, _⟩ := h
    simp [trodAll_len h2]
section
variable {H : Type} {enc : TypeId × Value → H}
set_option maxRecDepth 100000 in
/-- The row's step, whatever the law. -/
theorem lift_ (os : Os) (started : os.Started) (f : FuncId) (fn : Func) (s : ChangeSpec) (ws : Array Value) (fuel : Nat) (hvars : s.vars = [])
    (noInit : Tryz.prog.inits.idxOf? f = none) (hfn : Tryz.prog.funcs[f]? = some fn) (hres : fn.resultTypes = #[4])
    (hok : Input.okWideB Tryz.prog ((laidWorld os).forCall (fun _ _ => 0) ⟨#[], ws, []⟩) f ⟨#[], ws, []⟩ = true)
    (hpre : s.preB enc Tryz.prog fn [] false ((laidWorld os).forCall (fun _ _ => 0) ⟨#[], ws, []⟩).memory ws fuel = true)
    (hsz : s.sizedB enc Tryz.prog fn false ((laidWorld os).forCall (fun _ _ => 0) ⟨#[], ws, []⟩).memory ws fuel = true)
    (hspec : ∀ ds : List (DataW H), ds.length = fn.params.toList.length → s.fn H (ds ++ []) = { results := [.lit (.bool true)], args := ds })
    (hread : ∀ t ∈ fn.params.toList, Tryz.prog.readableRec t = true ∧ t < Tryz.prog.types.size)
    (walk : ∀ (W : World) (base : Nat) (args : Array Value) (ds : List (DataW H)) (p : List MemPlace), (∀ (j : Nat) t v, fn.params[j]? = some t → args[j]? = some v → Value.okWide Tryz.prog W .any base t v) →
      DataW.TrodAll enc Tryz.prog W 0 (fun _ => true) true fn.params.toList args.toList ds p → TypeVar W → Calls Tryz.prog f args W (BoolPost W true)) :
    ReturnsInHanded {} Tryz.checked os f .any (fun w args => (s.pre enc Tryz.prog fn [] false w args ∧ laidMetH Tryz.prog [("errors.errorType", Rows.laid_errors_errorType)] w) ∧ sizedMet enc Tryz.prog fn (OpenSpec.ofChange s) false w args)
      (s.post enc Tryz.prog fn false true false false) := by
  refine returnsInHanded_of_change_and (C := Tryz.checked) (X := fun w _ => laidMetH Tryz.prog [("errors.errorType", Rows.laid_errors_errorType)] w) (fun _ _ _ hh h => h.of_heap hh) own_ started noInit hfn
    (ChangeSpec.witness_at (enc := enc) (C := Tryz.checked) (os := os) (X := fun w _ => laidMetH Tryz.prog [("errors.errorType", Rows.laid_errors_errorType)] w) false (laidWorld os) ws fuel rfl (by kernel_rfl) (by kernel_rfl) hok hpre hsz (laidWorld_met os _)) ?_
  intro W base args ds gs before hval hW _ _ hL _
  have hW' := hW
  obtain ⟨p, q, hA, hV, rfl, hfz, hnd⟩ := hW
  rw [hvars] at hV
  have hg0 : gs = [] ∧ q = [] := by
    cases gs with
    | nil => exact ⟨rfl, hV⟩
    | cons g r => exact absurd hV (by intro h; cases h)
  obtain ⟨rfl, rfl⟩ := hg0
  have hlen : ds.length = fn.params.toList.length := trodAll_len hA
  refine (walk W base args ds p hval hA (typeVar_of_laid hL)).mono fun e W' ⟨he, hb⟩ => ?_
  subst he
  refine ⟨_, rfl, _, _, _, [], p, [], hW', ?_, ?_, ?_, hb.frame _, fun h => by cases h⟩
  · rw [hspec ds hlen, hres]
    exact trodAll_mk1 (shut_bool Tryz.underlying4 true)
  · rw [hspec ds hlen]
    exact trodAll_below hb hread hA
  · rw [hspec ds hlen, hvars]
    rfl
end
end Go.Proofs.YtolajmfmphkkiaaGreatDoor

/- An argument that came in, opened type by type: what its cells are; and what the reach says of each slice. -/
namespace Go.Proofs.YtolajmfmphkkiaaGreatDoor
open Go.ChangeShapes Go.WideShapes Go.RowKit Go.Deep

/-- Whatever reads as a t is the cells of some a that is 'ok'. -/
def OpensW {H : Type} (enc : TypeId × Value → H) (P : Program) (w : World) (t : TypeId) {α : Type} (cells : α → List Value) (ok : α → Prop) : Prop :=
  ∀ fuel cs x, DataW.trod enc P w 0 (fun _ => true) true fuel t cs = some x → (∀ n ∈ x.1.weights P t, n ≤ reachBytes) → ∃ a, cs = cells a ∧ ok a
/-- The same of a struct's fields, from the offset 'off' on. -/
def FOpensW {H : Type} (enc : TypeId × Value → H) (P : Program) (w : World) (fs : List Field) (off : Nat) {α : Type} (cells : α → List Value) (ok : α → Prop) : Prop :=
  ∀ (cs : List Value) (n : Nat), cs.length = (fs.map fun f => P.cellsOf f.type).sum → (∀ f ∈ fs, ∃ y, DataW.trod enc P w 0 (fun _ => true) true n f.type ((cs.drop (f.offset - off)).take (P.cellsOf f.type)) = some y ∧ ∀ n ∈ y.1.weights P f.type, n ≤ reachBytes) → ∃ a, cs = cells a ∧ ok a

theorem weightsEach_mem {H : Type} {P : Program} : ∀ (ts : List TypeId) (ds : List (DataW H)) (i : Nat) (t : TypeId) (d : DataW H), ts[i]? = some t → ds[i]? = some d → ∀ {m : Nat}, m ∈ d.weights P t → m ∈ DataW.weightsEach P ts ds
  | [], _, i, t, d, h, _, _, _ => by simp at h
  | _ :: _, [], i, t, d, _, h, _, _ => by simp at h
  | t0 :: ts, d0 :: ds, 0, t, d, h1, h2, m, hm => by
    simp only [List.getElem?_cons_zero, Option.some.injEq] at h1 h2
    subst h1 h2
    unfold DataW.weightsEach
    exact List.mem_append.2 (.inl hm)
  | t0 :: ts, d0 :: ds, i + 1, t, d, h1, h2, m, hm => by
    simp only [List.getElem?_cons_succ] at h1 h2
    unfold DataW.weightsEach
    exact List.mem_append.2 (.inr (weightsEach_mem ts ds i t d h1 h2 hm))
theorem weightsAll_mem {H : Type} {P : Program} {e : TypeId} : ∀ (ds : List (DataW H)) (d : DataW H), d ∈ ds → ∀ {m : Nat}, m ∈ d.weights P e → m ∈ DataW.weightsAll P e ds
  | [], d, h, _, _ => by cases h
  | d0 :: ds, d, h, m, hm => by
    unfold DataW.weightsAll
    rcases List.mem_cons.1 h with rfl | h
    · exact List.mem_append.2 (.inl hm)
    · exact List.mem_append.2 (.inr (weightsAll_mem ds d h hm))
section
variable {H : Type} {enc : TypeId × Value → H} {P : Program} {w : World} {t e : TypeId} {α β : Type} {cells : α → List Value} {ok : α → Prop}
theorem OpensW.int {k : IntKind} (ht : P.underlying t = some (.int k)) : OpensW enc P w t (fun n : Int => [.int k n]) (fun n => (Lit.int k n).wf = true) := by
  intro fuel cs x h _
  obtain ⟨n, rfl, _, hw⟩ := DataW.trod_int ht h
  exact ⟨n, rfl, hw⟩
theorem OpensW.bool (ht : P.underlying t = some .bool) : OpensW enc P w t (fun b : Bool => [.bool b]) (fun _ => True) := by
  intro fuel cs x h _
  obtain ⟨b, rfl, _⟩ := DataW.trod_bool ht h
  exact ⟨b, rfl, trivial⟩
theorem OpensW.string (ht : P.underlying t = some .string) : OpensW enc P w t (fun s : ByteArray => [.string s]) (fun s => s.size ≤ maxLen) := by
  intro fuel cs x h _
  obtain ⟨s, rfl, _, hs⟩ := DataW.trod_string ht h
  exact ⟨s, rfl, hs⟩
theorem OpensW.map {cells' : β → List Value} {ok' : β → Prop} (h : OpensW enc P w t cells ok) (f : α → β) (hc : ∀ a, cells a = cells' (f a)) (hk : ∀ a, ok a → ok' (f a)) : OpensW enc P w t cells' ok' := by
  intro fuel cs x hx hwt
  obtain ⟨a, rfl, ha⟩ := h fuel cs x hx hwt
  exact ⟨f a, hc a, hk a ha⟩
theorem FOpensW.nil (off : Nat) : FOpensW enc P w [] off (fun _ : Unit => []) (fun _ => True) := by
  intro cs n hl _
  exact ⟨(), List.eq_nil_of_length_eq_zero hl, trivial⟩
theorem FOpensW.cons {f : Field} {fs : List Field} {off : Nat} {cells' : β → List Value} {ok' : β → Prop} (h : OpensW enc P w f.type cells ok) (hck : (decide (f.offset = off) && fs.all fun g => decide (off + P.cellsOf f.type ≤ g.offset)) = true) (hfs : FOpensW enc P w fs (off + P.cellsOf f.type) cells' ok') : FOpensW enc P w (f :: fs) off (fun a : α × β => cells a.1 ++ cells' a.2) (fun a => ok a.1 ∧ ok' a.2) := by
  rw [Bool.and_eq_true, decide_eq_true_eq, List.all_eq_true] at hck
  obtain ⟨ho, hge0⟩ := hck
  have hge : ∀ g ∈ fs, off + P.cellsOf f.type ≤ g.offset := fun g hg => by simpa using hge0 g hg
  intro cs n hl hf
  rw [List.map_cons, List.sum_cons] at hl
  obtain ⟨y, hy, hyw⟩ := hf f (by simp)
  rw [ho, Nat.sub_self, List.drop_zero] at hy
  obtain ⟨a, ha, hka⟩ := h _ _ _ hy hyw
  obtain ⟨b, hb, hkb⟩ := hfs (cs.drop (P.cellsOf f.type)) n (by rw [List.length_drop]; omega) (fun g hg => by
    obtain ⟨z, hz, hzw⟩ := hf g (List.mem_cons_of_mem _ hg)
    refine ⟨z, ?_, hzw⟩
    rw [List.drop_drop, show P.cellsOf f.type + (g.offset - (off + P.cellsOf f.type)) = g.offset - off by have := hge g hg; omega]
    exact hz)
  exact ⟨(a, b), by show cs = cells a ++ cells' b; rw [← ha, ← hb, List.take_append_drop], hka, hkb⟩
theorem OpensW.struct {fs : Array Field} (ht : P.underlying t = some (.struct fs)) (hs : P.cellsOf t = (fs.toList.map fun f => P.cellsOf f.type).sum) (h : FOpensW enc P w fs.toList 0 cells ok) : OpensW enc P w t cells ok := by
  intro fuel cs x hx hwt
  obtain ⟨xs, n, _, hxe, hl, hlen, hf⟩ := DataW.trod_struct ht hx
  refine h cs n (hl.trans hs) fun f hf' => ?_
  obtain ⟨i, hi⟩ := List.mem_iff_getElem?.1 hf'
  have hi' : fs[i]? = some f := by simpa using hi
  have hlt : i < xs.length := by rw [hlen]; rcases Nat.lt_or_ge i fs.size with h | h; exact h; rw [Array.getElem?_eq_none h] at hi'; cases hi'
  refine ⟨xs[i], ?_, fun m hm => hwt m ?_⟩
  · rw [Nat.sub_zero, hf i f hi', List.getElem?_eq_getElem hlt]
  · rw [hxe]
    show m ∈ DataW.weights P t (.agg (xs.map (·.1)))
    unfold DataW.weights
    rw [ht]
    exact weightsEach_mem (fs.toList.map (·.type)) (xs.map (·.1)) i f.type (xs[i]).1 (by rw [List.getElem?_map, hi]; rfl) (by rw [List.getElem?_map, List.getElem?_eq_getElem hlt]; rfl) hm
theorem OpensW.slice {z : Nat} (ht : P.underlying t = some (.slice e)) (hz : P.cellsOf e = z) (h0 : 0 < z) (hc : ∀ a, (cells a).length = z) (h : OpensW enc P w e cells ok) :
    OpensW enc P w t (fun s : Sl α => [.slice s.A s.l.length s.cap]) (fun s => (s.cap * P.bytesOf e ≤ reachBytes ∧ s.l.length ≤ s.cap) ∧ s.cap ≤ maxLen ∧ Rd w w.heap.size e z s.A s.l.length (s.l.flatMap cells) ∧ ∀ a ∈ s.l, ok a) := by
  intro fuel cs x hx hwt
  rcases open_slice ht hx with ⟨rfl, _⟩ | ⟨a, len, cap, m, n, D, Pl, rfl, _, hl, hm, hmm, hxe, hi⟩
  · exact ⟨⟨none, 0, []⟩, rfl, ⟨by simp, Nat.zero_le _⟩, Nat.zero_le _, Rd.none_, by simp⟩
  have hwx : ∀ k ∈ DataW.weights P t (.slice ((List.range len).map D) ((List.range (m - len)).map fun j => D (len + j))), k ≤ reachBytes := by rw [hxe] at hwt; exact hwt
  unfold DataW.weights at hwx
  rw [ht] at hwx
  have hmc : m = cap := by rw [hmm]; simp
  have hcap : cap * P.bytesOf e ≤ reachBytes := by
    have h1 := hwx _ (List.mem_cons_self ..)
    rw [List.length_map, List.length_range, List.length_map, List.length_range, show len + (m - len) = cap by omega] at h1
    exact h1
  have hel : ∀ i, i < len → ∀ k ∈ (D i).weights P e, k ≤ reachBytes := fun i hi k hk => hwx k (List.mem_cons_of_mem _ (List.mem_append.2 (.inl (weightsAll_mem _ (D i) (List.mem_map.2 ⟨i, List.mem_range.2 hi, rfl⟩) hk))))
  rw [hz] at hi
  have hml : len ≤ m := by rw [hmm]; simp only [if_true]; exact hl
  have hall : ∀ k, k ≤ len → ∃ l : List α, l.length = k ∧ (∀ j u, (l.flatMap cells)[j]? = some u → w.cell? (a.add j) = some u) ∧ ∀ x ∈ l, ok x := by
    intro k
    induction k with
    | zero => intro _; exact ⟨[], rfl, by simp, by simp⟩
    | succ k ih =>
      intro hk
      obtain ⟨l, hll, hlc, hlo⟩ := ih (by omega)
      obtain ⟨cs', h1, h2⟩ := hi k (by omega)
      obtain ⟨_, hlen, hcell⟩ := World.cells?_some h1
      obtain ⟨b, rfl, hb⟩ := h _ _ _ h2 (hel k (by omega))
      refine ⟨l ++ [b], by simp [hll], fun j u hu => ?_, fun x hx => ?_⟩
      · rw [List.flatMap_append, List.flatMap_singleton] at hu
        have hfl : (l.flatMap cells).length = k * z := by
          rw [← hll]
          clear hll hlc hlo hu
          induction l with
          | nil => simp
          | cons y l ih' => rw [List.flatMap_cons, List.length_append, hc, ih', List.length_cons, Nat.add_mul]; omega
        rcases Nat.lt_or_ge j (k * z) with hj | hj
        · rw [List.getElem?_append_left (by omega)] at hu
          exact hlc j u hu
        · rw [List.getElem?_append_right (by omega), hfl] at hu
          have hjz : j - k * z < z := by
            rcases Nat.lt_or_ge (j - k * z) z with h | h
            · exact h
            · rw [List.getElem?_eq_none (by rw [hc]; exact h)] at hu; cases hu
          have := hcell (j - k * z) hjz
          rw [Go.Proofs.YtolajmfmphkkiaaGreatDoor.add_of_add, show k * z + (j - k * z) = j by omega, hu] at this
          exact this
      · rcases List.mem_append.1 hx with hx | hx
        · exact hlo x hx
        · rw [List.mem_singleton] at hx; rw [hx]; exact hb
  obtain ⟨l, hll, hlc, hlo⟩ := hall len (Nat.le_refl _)
  have hfl : (l.flatMap cells).length = l.length * z := by
    clear hll hlc hlo
    induction l with
    | nil => simp
    | cons y l ih' => rw [List.flatMap_cons, List.length_append, hc, ih', List.length_cons, Nat.add_mul]; omega
  refine ⟨⟨some a, cap, l⟩, by simp [hll], ⟨hcap, by simp only [hll]; exact hl⟩, hm, ⟨hfl, fun hn => ⟨a, rfl, .inl ?_, hlc⟩⟩, hlo⟩
  have hp : 0 < (l.flatMap cells).length := by rw [hfl]; exact Nat.mul_pos hn h0
  have := World.block_lt_of_cell? w _ (hlc 0 _ (List.getElem?_eq_getElem hp))
  rwa [block_of_add] at this

theorem OpensW.Trod {v : Value} {d : DataW H} {p : List MemPlace} (h : OpensW enc P w t cells ok) (hd : DataW.Trod enc P w 0 (fun _ => true) true t v d p) (hwt : ∀ n ∈ d.weights P t, n ≤ reachBytes) : ∃ a, v.cells.toList = cells a ∧ ok a := by
  obtain ⟨fuel, hf⟩ := hd
  exact h _ _ _ hf hwt
end
end Go.Proofs.YtolajmfmphkkiaaGreatDoor

/- From a walk to a law's row, with what the reach says of each slice. -/
namespace Go.Proofs.YtolajmfmphkkiaaGreatDoor
open Go.ChangeShapes Go.WideShapes Go.RowKit

section
variable {H : Type} {enc : TypeId × Value → H}
set_option maxRecDepth 100000 in
/-- The row's step, whatever the law. -/
theorem lift_w (os : Os) (started : os.Started) (f : FuncId) (fn : Func) (s : ChangeSpec) (ws : Array Value) (fuel : Nat) (hvars : s.vars = []) (hvt : s.plain.varTypes Tryz.prog = [])
    (noInit : Tryz.prog.inits.idxOf? f = none) (hfn : Tryz.prog.funcs[f]? = some fn) (hres : fn.resultTypes = #[4])
    (hok : Input.okWideB Tryz.prog ((laidWorld os).forCall (fun _ _ => 0) ⟨#[], ws, []⟩) f ⟨#[], ws, []⟩ = true)
    (hpre : s.preB enc Tryz.prog fn [] false ((laidWorld os).forCall (fun _ _ => 0) ⟨#[], ws, []⟩).memory ws fuel = true)
    (hsz : s.sizedB enc Tryz.prog fn false ((laidWorld os).forCall (fun _ _ => 0) ⟨#[], ws, []⟩).memory ws fuel = true)
    (hspec : ∀ ds : List (DataW H), ds.length = fn.params.toList.length → s.fn H (ds ++ []) = { results := [.lit (.bool true)], args := ds })
    (hread : ∀ t ∈ fn.params.toList, Tryz.prog.readableRec t = true ∧ t < Tryz.prog.types.size)
    (walk : ∀ (W : World) (base : Nat) (args : Array Value) (ds : List (DataW H)) (p : List MemPlace), (∀ (j : Nat) t v, fn.params[j]? = some t → args[j]? = some v → Value.okWide Tryz.prog W .any base t v) →
      DataW.TrodAll enc Tryz.prog W 0 (fun _ => true) true fn.params.toList args.toList ds p → (∀ n ∈ DataW.weightsEach Tryz.prog fn.params.toList ds, n ≤ reachBytes) → TypeVar W → Calls Tryz.prog f args W (BoolPost W true)) :
    ReturnsInHanded {} Tryz.checked os f .any (fun w args => (s.pre enc Tryz.prog fn [] false w args ∧ laidMetH Tryz.prog [("errors.errorType", Rows.laid_errors_errorType)] w) ∧ sizedMet enc Tryz.prog fn (OpenSpec.ofChange s) false w args)
      (s.post enc Tryz.prog fn false true false false) := by
  refine returnsInHanded_of_change_and (C := Tryz.checked) (X := fun w _ => laidMetH Tryz.prog [("errors.errorType", Rows.laid_errors_errorType)] w) (fun _ _ _ hh h => h.of_heap hh) own_ started noInit hfn
    (ChangeSpec.witness_at (enc := enc) (C := Tryz.checked) (os := os) (X := fun w _ => laidMetH Tryz.prog [("errors.errorType", Rows.laid_errors_errorType)] w) false (laidWorld os) ws fuel rfl (by kernel_rfl) (by kernel_rfl) hok hpre hsz (laidWorld_met os _)) ?_
  intro W base args ds gs before hval hW _ hwt hL _
  have hW' := hW
  obtain ⟨p, q, hA, hV, rfl, hfz, hnd⟩ := hW
  rw [hvars] at hV
  have hg0 : gs = [] ∧ q = [] := by
    cases gs with
    | nil => exact ⟨rfl, hV⟩
    | cons g r => exact absurd hV (by intro h; cases h)
  obtain ⟨rfl, rfl⟩ := hg0
  have hlen : ds.length = fn.params.toList.length := trodAll_len hA
  rw [show s.plain.varTypes (Tryz.checked).prog = [] from hvt, List.append_nil, List.append_nil] at hwt
  refine (walk W base args ds p hval hA (fun n hn => by simpa using List.all_eq_true.1 hwt n hn) (typeVar_of_laid hL)).mono fun e W' ⟨he, hb⟩ => ?_
  subst he
  refine ⟨_, rfl, _, _, _, [], p, [], hW', ?_, ?_, ?_, hb.frame _, fun h => by cases h⟩
  · rw [hspec ds hlen, hres]
    exact trodAll_mk1 (shut_bool Tryz.underlying4 true)
  · rw [hspec ds hlen]
    exact trodAll_below hb hread hA
  · rw [hspec ds hlen, hvars]
    rfl
end
end Go.Proofs.YtolajmfmphkkiaaGreatDoor

/- The arguments of this seat's laws, opened. -/
namespace Go.Proofs.YtolajmfmphkkiaaGreatDoor
open Go.ChangeShapes Go.WideShapes Go.RowKit

theorem i64_wf {n : Int} (h : (Lit.int .i64 n).wf = true) : I64 n := by
  have h' : (decide (IntKind.i64.min ≤ n) && decide (n ≤ IntKind.i64.max)) = true := h
  rw [Bool.and_eq_true, decide_eq_true_eq, decide_eq_true_eq] at h'
  have e1 : IntKind.i64.min = -9223372036854775808 := by decide
  have e2 : IntKind.i64.max = 9223372036854775807 := by decide
  unfold I64
  omega
set_option maxRecDepth 100000 in
theorem opens_row {H : Type} {enc : TypeId × Value → H} {W : World} : Opens enc Tryz.prog W 221 rwC (fun r => I64 r.k ∧ I64 r.v) :=
  (Opens.struct Tryz.underlying221 (by kernel_rfl) (FOpens.cons (Opens.int Tryz.underlying3) (by kernel_rfl) (FOpens.cons (Opens.int Tryz.underlying3) (by kernel_rfl) (FOpens.nil _)))).map (fun a => (⟨a.1, a.2.1⟩ : Rw)) (fun _ => rfl) (fun _ h => ⟨i64_wf h.1, i64_wf h.2.1⟩)
def slC {α : Type} (s : Sl α) : List Value := [.slice s.A s.l.length s.cap]
def slOk {α : Type} (W : World) (e : TypeId) (z : Nat) (cells : α → List Value) (ok : α → Prop) (s : Sl α) : Prop := s.l.length ≤ s.cap ∧ s.cap ≤ maxLen ∧ Rd W W.heap.size e z s.A s.l.length (s.l.flatMap cells) ∧ ∀ a ∈ s.l, ok a
theorem opens_rows {H : Type} {enc : TypeId × Value → H} {W : World} : Opens enc Tryz.prog W 47 slC (slOk W 221 2 rwC (fun r => I64 r.k ∧ I64 r.v)) :=
  Opens.slice Tryz.underlying47 (by kernel_rfl) (by decide) (fun _ => rfl) opens_row
set_option maxRecDepth 100000 in
theorem opens_op {H : Type} {enc : TypeId × Value → H} {W : World} : Opens enc Tryz.prog W 80 opC (fun _ => True) :=
  (Opens.struct Tryz.underlying80 (by kernel_rfl) (FOpens.cons (Opens.int Tryz.underlying3) (by kernel_rfl) (FOpens.cons (Opens.int Tryz.underlying3) (by kernel_rfl) (FOpens.cons (Opens.int Tryz.underlying3) (by kernel_rfl) (FOpens.cons (Opens.int Tryz.underlying3) (by kernel_rfl) (FOpens.cons (Opens.int Tryz.underlying3) (by kernel_rfl) (FOpens.nil _))))))).map
    (fun a => (⟨a.1, a.2.1, a.2.2.1, a.2.2.2.1, a.2.2.2.2.1⟩ : OpD)) (fun _ => rfl) (fun _ _ => trivial)
theorem opens_ops {H : Type} {enc : TypeId × Value → H} {W : World} : Opens enc Tryz.prog W 22 slC (slOk W 80 5 opC (fun _ => True)) :=
  Opens.slice Tryz.underlying22 (by kernel_rfl) (by decide) (fun _ => rfl) opens_op
theorem opens_ints {H : Type} {enc : TypeId × Value → H} {W : World} : Opens enc Tryz.prog W 25 slC (slOk W 3 1 (fun n : Int => [.int .i64 n]) (fun n => (Lit.int .i64 n).wf = true)) :=
  Opens.slice Tryz.underlying25 (by kernel_rfl) (by decide) (fun _ => rfl) (Opens.int Tryz.underlying3)
structure PlC where
  parts : Int
  s : Sl OpD
set_option maxRecDepth 100000 in
theorem opens_plan {H : Type} {enc : TypeId × Value → H} {W : World} : Opens enc Tryz.prog W 24 (fun a : PlC => [.int .i64 a.parts] ++ slC a.s) (fun a => slOk W 80 5 opC (fun _ => True) a.s) :=
  (Opens.struct Tryz.underlying24 (by kernel_rfl) (FOpens.cons (Opens.int Tryz.underlying3) (by kernel_rfl) (FOpens.cons opens_ops (by kernel_rfl) (FOpens.nil _)))).map (fun a => (⟨a.1, a.2.1⟩ : PlC)) (fun _ => rfl) (fun _ h => h.2.1)
set_option maxRecDepth 100000 in
theorem arg_slice {H : Type} {enc : TypeId × Value → H} {W : World} {base : Nat} {t e : TypeId} {α : Type} {ok : Sl α → Prop} {v : Value} {d : DataW H} {p : List MemPlace} (ht : Tryz.prog.underlying t = some (.slice e)) (ho : Opens enc Tryz.prog W t slC ok)
    (hv : Value.okWide Tryz.prog W .any base t v) (hd : DataW.Trod enc Tryz.prog W 0 (fun _ => true) true t v d p) : ∃ s : Sl α, v = .slice s.A s.l.length s.cap ∧ ok s := by
  obtain ⟨A, n, c, rfl⟩ := okWide_slice ht hv
  obtain ⟨s, hs, hk⟩ := ho.Trod hd
  refine ⟨s, ?_, hk⟩
  simpa [Value.cells, slC] using hs
set_option maxRecDepth 100000 in
theorem arg_plan {H : Type} {enc : TypeId × Value → H} {W : World} {base : Nat} {v : Value} {d : DataW H} {p : List MemPlace} (hv : Value.okWide Tryz.prog W .any base 24 v) (hd : DataW.Trod enc Tryz.prog W 0 (fun _ => true) true 24 v d p) :
    ∃ (q : PlanD) (A : Option Addr) (c : Nat), v = planV q A c ∧ RdS W (· < W.heap.size) 5 A q.ops.length (opsC q.ops) := by
  obtain ⟨cs, rfl, _⟩ := okWide_struct Tryz.underlying24 hv
  obtain ⟨x, hx, h1, h2, h3, _⟩ := opens_plan.Trod hd
  refine ⟨⟨x.parts, x.s.l⟩, x.s.A, x.s.cap, ?_, RdS.of_rd h3 (by decide)⟩
  have hx' : cs.toList = [.int .i64 x.parts, .slice x.s.A x.s.l.length x.s.cap] := hx
  congr 1
  exact Array.ext' (by rw [hx'])
set_option maxRecDepth 100000 in
theorem arg_int {H : Type} {enc : TypeId × Value → H} {W : World} {base : Nat} {v : Value} {d : DataW H} {p : List MemPlace} (hv : Value.okWide Tryz.prog W .any base 3 v) (hd : DataW.Trod enc Tryz.prog W 0 (fun _ => true) true 3 v d p) : ∃ n : Int, v = .int .i64 n ∧ I64 n := by
  obtain ⟨n, rfl, _, _, hw⟩ := open_int Tryz.underlying3 hv hd
  exact ⟨n, rfl, i64_wf hw⟩
end Go.Proofs.YtolajmfmphkkiaaGreatDoor

/- The arguments of the driver's laws, opened, with what the reach says. -/
namespace Go.Proofs.YtolajmfmphkkiaaGreatDoor
open Go.ChangeShapes Go.WideShapes Go.RowKit

def slOkW {α : Type} (W : World) (e : TypeId) (z : Nat) (cells : α → List Value) (ok : α → Prop) (s : Sl α) : Prop := (s.cap * (Tryz.prog).bytesOf e ≤ reachBytes ∧ s.l.length ≤ s.cap) ∧ s.cap ≤ maxLen ∧ Rd W W.heap.size e z s.A s.l.length (s.l.flatMap cells) ∧ ∀ a ∈ s.l, ok a
set_option maxRecDepth 100000 in
theorem opensW_row {H : Type} {enc : TypeId × Value → H} {W : World} : OpensW enc Tryz.prog W 221 rwC (fun r => I64 r.k ∧ I64 r.v) :=
  (OpensW.struct Tryz.underlying221 (by kernel_rfl) (FOpensW.cons (OpensW.int Tryz.underlying3) (by kernel_rfl) (FOpensW.cons (OpensW.int Tryz.underlying3) (by kernel_rfl) (FOpensW.nil _)))).map (fun a => (⟨a.1, a.2.1⟩ : Rw)) (fun _ => rfl) (fun _ h => ⟨i64_wf h.1, i64_wf h.2.1⟩)
theorem opensW_rows {H : Type} {enc : TypeId × Value → H} {W : World} : OpensW enc Tryz.prog W 47 slC (slOkW W 221 2 rwC (fun r => I64 r.k ∧ I64 r.v)) :=
  OpensW.slice Tryz.underlying47 (by kernel_rfl) (by decide) (fun _ => rfl) opensW_row
set_option maxRecDepth 100000 in
theorem opensW_id {H : Type} {enc : TypeId × Value → H} {W : World} : OpensW enc Tryz.prog W 41 idC (fun _ => True) :=
  (OpensW.struct Tryz.underlying41 (by kernel_rfl) (FOpensW.cons (OpensW.int Tryz.underlying3) (by kernel_rfl) (FOpensW.cons (OpensW.int Tryz.underlying3) (by kernel_rfl) (FOpensW.cons (OpensW.int Tryz.underlying3) (by kernel_rfl) (FOpensW.nil _))))).map (fun a => (⟨a.1, a.2.1, a.2.2.1⟩ : Id3)) (fun _ => rfl) (fun _ _ => trivial)
set_option maxRecDepth 100000 in
theorem opensW_hold {H : Type} {enc : TypeId × Value → H} {W : World} : OpensW enc Tryz.prog W 46 hdC (fun _ => True) :=
  (OpensW.struct Tryz.underlying46 (by kernel_rfl) (FOpensW.cons opensW_id (by kernel_rfl) (FOpensW.cons (OpensW.int Tryz.underlying3) (by kernel_rfl) (FOpensW.nil _)))).map (fun a => (⟨a.1, a.2.1⟩ : Hd)) (fun _ => rfl) (fun _ _ => trivial)
theorem opensW_holds {H : Type} {enc : TypeId × Value → H} {W : World} : OpensW enc Tryz.prog W 43 slC (slOkW W 46 4 hdC (fun _ => True)) :=
  OpensW.slice Tryz.underlying43 (by kernel_rfl) (by decide) (fun _ => rfl) opensW_hold
structure MsgOk (W : World) (m : MsgC) : Prop where
  n : I64 m.n
  h : slOkW W 46 4 hdC (fun _ => True) m.h
  r : slOkW W 221 2 rwC (fun r => I64 r.k ∧ I64 r.v) m.r
set_option maxRecDepth 100000 in
theorem opensW_msg {H : Type} {enc : TypeId × Value → H} {W : World} : OpensW enc Tryz.prog W 49 msgCs (MsgOk W) :=
  (OpensW.struct Tryz.underlying49 (by kernel_rfl) (FOpensW.cons (OpensW.int Tryz.underlying3) (by kernel_rfl) (FOpensW.cons (OpensW.int Tryz.underlying3) (by kernel_rfl) (FOpensW.cons opensW_id (by kernel_rfl) (FOpensW.cons (OpensW.bool Tryz.underlying4) (by kernel_rfl)
    (FOpensW.cons opensW_holds (by kernel_rfl) (FOpensW.cons (OpensW.int Tryz.underlying44) (by kernel_rfl) (FOpensW.cons opensW_hold (by kernel_rfl) (FOpensW.cons opensW_rows (by kernel_rfl) (FOpensW.cons (OpensW.int Tryz.underlying3) (by kernel_rfl) (FOpensW.nil _))))))))))).map
    (fun a => (⟨a.1, a.2.1, a.2.2.1, a.2.2.2.1, a.2.2.2.2.1, a.2.2.2.2.2.1, a.2.2.2.2.2.2.1, a.2.2.2.2.2.2.2.1, a.2.2.2.2.2.2.2.2.1⟩ : MsgC)) (fun _ => rfl) (fun _ h => ⟨i64_wf h.2.2.2.2.2.2.2.2.1, h.2.2.2.2.1, h.2.2.2.2.2.2.2.1⟩)
theorem bytes_hold : (Tryz.prog).bytesOf 46 = 32 := by kernel_rfl
theorem bytes_row : (Tryz.prog).bytesOf 221 = 16 := by kernel_rfl
set_option maxRecDepth 100000 in
theorem opensW_act {H : Type} {enc : TypeId × Value → H} {W : World} : OpensW enc Tryz.prog W 62 actK (ActOk W) :=
  (OpensW.struct Tryz.underlying62 (by kernel_rfl) (FOpensW.cons (OpensW.int Tryz.underlying3) (by kernel_rfl) (FOpensW.cons (OpensW.int Tryz.underlying3) (by kernel_rfl) (FOpensW.cons (OpensW.int Tryz.underlying3) (by kernel_rfl) (FOpensW.cons (OpensW.bool Tryz.underlying4) (by kernel_rfl)
    (FOpensW.cons opensW_rows (by kernel_rfl) (FOpensW.cons opensW_msg (by kernel_rfl) (FOpensW.nil _)))))))).map
    (fun a => (⟨a.1, a.2.1, a.2.2.1, a.2.2.2.1, a.2.2.2.2.1, a.2.2.2.2.2.1⟩ : ActK)) (fun _ => rfl) (fun a h => by
      obtain ⟨_, hn, _, _, hr, hm, _⟩ := h
      have h1 := hm.h.1
      have h2 := hm.r.1
      rw [bytes_hold] at h1
      rw [bytes_row] at h2
      simp only [reachBytes] at h1 h2
      have h3 : a.2.2.2.2.2.1.h.l.length * 32 ≤ 140737488355328 := by omega
      have h4 : a.2.2.2.2.2.1.r.l.length * 16 ≤ 140737488355328 := by omega
      exact ⟨i64_wf hn, hr.1.2, RdS.of_rd hr.2.2.1 (by decide), hr.2.2.2, hm.n, hm.h.2.2.1, h3, hm.r.2.2.1, h4⟩)
theorem opensW_acts {H : Type} {enc : TypeId × Value → H} {W : World} : OpensW enc Tryz.prog W 60 slC (slOkW W 62 19 actK (ActOk W)) :=
  OpensW.slice Tryz.underlying60 (by kernel_rfl) (by decide) (fun _ => rfl) opensW_act
set_option maxRecDepth 100000 in
theorem arg_sliceW {H : Type} {enc : TypeId × Value → H} {W : World} {base : Nat} {t e : TypeId} {α : Type} {ok : Sl α → Prop} {v : Value} {d : DataW H} {p : List MemPlace} (ht : Tryz.prog.underlying t = some (.slice e)) (ho : OpensW enc Tryz.prog W t slC ok)
    (hv : Value.okWide Tryz.prog W .any base t v) (hd : DataW.Trod enc Tryz.prog W 0 (fun _ => true) true t v d p) (hwt : ∀ n ∈ d.weights Tryz.prog t, n ≤ reachBytes) : ∃ s : Sl α, v = .slice s.A s.l.length s.cap ∧ ok s := by
  obtain ⟨A, n, c, rfl⟩ := okWide_slice ht hv
  obtain ⟨s, hs, hk⟩ := ho.Trod hd hwt
  refine ⟨s, ?_, hk⟩
  simpa [Value.cells, slC] using hs
end Go.Proofs.YtolajmfmphkkiaaGreatDoor

namespace Go.Proofs.YtolajmfmphkkiaaGreatDoor
open Go.ChangeShapes Go.WideShapes Go.RowKit

set_option maxRecDepth 100000 in
theorem driverKeeps_lifted (os : Os) (started : os.Started) (H : Type) (enc : TypeId × Value → H) :
    ReturnsInHanded {} Tryz.checked os 5 .any (fun w args => (Rows.driverKeepsSpec.pre enc Tryz.prog Tryz.f5 [] false w args ∧ laidMetH Tryz.prog [("errors.errorType", Rows.laid_errors_errorType)] w) ∧ sizedMet enc Tryz.prog Tryz.f5 (OpenSpec.ofChange Rows.driverKeepsSpec) false w args)
      (Rows.driverKeepsSpec.post enc Tryz.prog Tryz.f5 false true false false) := by
  refine lift_w os started 5 Tryz.f5 Rows.driverKeepsSpec #[.agg #[.int .i64 0, .slice none 0 0], .int .i64 0, .slice none 0 0] 8 rfl (by kernel_rfl) (by kernel_rfl) Tryz.func5 (by kernel_rfl) (by kernel_rfl) (by kernel_rfl) (by kernel_rfl) ?_ ?_ ?_
  · intro ds hl
    rw [Tryz.params5] at hl
    obtain ⟨a, b, c, rfl⟩ : ∃ a b c, ds = [a, b, c] := by
      match ds, hl with
      | [a, b, c], _ => exact ⟨a, b, c, rfl⟩
    rfl
  · rw [Tryz.params5]
    intro t ht
    simp only [List.mem_cons, List.not_mem_nil, or_false] at ht
    rcases ht with rfl | rfl | rfl <;> exact ⟨by kernel_rfl, of_decide_eq_true (by kernel_rfl)⟩
  · intro W base args ds p hval hA hwt hg
    rw [Tryz.params5] at hA hval hwt
    obtain ⟨v0, v1, v2, d0, d1, d2, p0, p1, p2, rfl, rfl, rfl, h0, h1, h2⟩ := trodAll_three hA
    obtain ⟨q, A, c, rfl, k0⟩ := arg_plan (hval 0 _ v0 rfl rfl) h0
    obtain ⟨n, rfl, _⟩ := arg_int (hval 1 _ v1 rfl rfl) h1
    obtain ⟨s2, rfl, k2⟩ := arg_sliceW Tryz.underlying60 opensW_acts (hval 2 _ v2 rfl rfl) h2 (fun m hm => hwt m (weightsEach_mem _ _ 2 _ _ rfl rfl hm))
    exact keeps_c W ⟨k0, k2.2.2.1, k2.2.2.2, hg⟩

theorem driverKeeps_row : Rows.DriverKeepsSaid :=
  OpenClaim.holds_of_wide 5 Tryz.f5 rfl rfl rfl rfl rfl rfl rfl ⟨rfl, rfl, rfl, rfl, rfl⟩ rfl rfl rfl rfl rfl (by kernel_rfl) Tryz.func5 (by kernel_rfl)
    (of_decide_eq_true (by kernel_rfl)) (by unfold Func.isWrapper; rw [if_neg (of_decide_eq_false (by kernel_rfl))]; exact ⟨rfl, rfl⟩)
    (fun os started H enc _ => driverKeeps_lifted os started H enc)

theorem driverKeeps_holds : Rows.DriverKeepsCardSaid :=
  Claim7.holds_tied_plain_at .later [] [.handle] true (true, "c5aa59a4ccb82a0eead9d5516945580cabe980069dd498ab984b9d8cfffb57af") true
    driverKeeps_row (fun _ h => by cases h) (by kernel_rfl) (fun _ h => by cases h) driverKeeps_row_tie rfl ⟨rfl, rfl⟩ (by kernel_rfl) rfl
    (fun f fn hf hfn => by
      obtain rfl : f = 5 := Option.some.inj ((show Tryz.prog.funcNamed "tributary/tributarylaw17.DriverKeeps" = some 5 by kernel_rfl).symm.trans hf) |>.symm
      obtain rfl : fn = Tryz.f5 := (Option.some.inj (Tryz.func5.symm.trans hfn)).symm
      exact ⟨by kernel_rfl, fun j t ht => by
        rw [Tryz.params5] at ht
        have hm : t ∈ [24, 3, 60] := by
          have := List.mem_of_getElem? (by simpa using ht : ([24, 3, 60] : List TypeId)[j]? = some t)
          exact this
        simp only [List.mem_cons, List.not_mem_nil, or_false] at hm
        rcases hm with rfl | rfl | rfl
        · exact (show Tryz.prog.wantsStandIn 24 = false by kernel_rfl)
        · exact (show Tryz.prog.wantsStandIn 3 = false by kernel_rfl)
        · exact (show Tryz.prog.wantsStandIn 60 = false by kernel_rfl)⟩)
    (by kernel_rfl)
#print axioms driverKeeps_holds
end Go.Proofs.YtolajmfmphkkiaaGreatDoor
