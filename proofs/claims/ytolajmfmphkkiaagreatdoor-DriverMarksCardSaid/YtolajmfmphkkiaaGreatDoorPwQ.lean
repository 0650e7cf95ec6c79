/- tributarylaw17.DriverMarks returns true whatever the input (any plan, any Every, any order), and its arguments read behind the call as they read before: the tied card. Conditions: none beyond the row's own (errors.errorType is laid as the program's text lays it). -/
import Derived.Test.YtolajmfmphkkiaaGreatDoorPwO
import Derived.Test.YtolajmfmphkkiaaGreatDoorPwP
import Derived.Test.YtolajmfmphkkiaaGreatDoorPwA
import Derived.Test.YtolajmfmphkkiaaGreatDoorRows
import Derived.Test.YtolajmfmphkkiaaGreatDoorPwB
import Derived.Test.YtolajmfmphkkiaaGreatDoorPwI
import Derived.Test.YtolajmfmphkkiaaGreatDoorCards
import Derived.Test.YtolajmfmphkkiaaGreatDoorTie
import Derived.ProofKit
import Derived.Deep.Slices
import Derived.WideShapes
import Derived.ChangeSame
import Derived.ChangeVars
import Derived.JoinedOf
import Derived.LaidLaws
import Derived.LaidHandle
import Derived.Stop.Joined
import Derived.ChangeOld

/- tributarylaw17.DriverMarks: the walk. -/
namespace Go.Proofs.YtolajmfmphkkiaaGreatDoor
open Go.RowKit Go.Sort

theorem mask_mod (x : Int) (k : Nat) (hk : 0 < k) : ∃ n : Nat, (bits .and .i64 x 65535).tmod (k : Int) = n ∧ n < k := by
  obtain ⟨n, hn, _⟩ := mask_i64 x 65535 (by omega)
  have hn' : bits .and .i64 x 65535 = n := hn
  exact ⟨n % k, by rw [hn']; exact (Int.ofNat_tmod n k).symm, Nat.mod_lt _ hk⟩
theorem idsL_len (p : PlanD) (b : Int) : (idsL p b).length = (statesL p.ops).length * p.parts.toNat := by
  unfold idsL
  generalize statesL p.ops = l
  induction l with
  | nil => simp
  | cons a l ih => rw [List.flatMap_cons, List.length_append, idsOf_len, ih, List.length_cons, Nat.succ_mul]; omega
theorem swap_perm {l : List Id3} {m m1 : Nat} {x0 x1 : Id3} (h0 : l[m]? = some x0) (h1 : l[m1]? = some x1) : ((l.set m x1).set m1 x0).Perm l := by
  obtain ⟨a0, e0⟩ := List.getElem?_eq_some_iff.1 h0
  obtain ⟨a1, e1⟩ := List.getElem?_eq_some_iff.1 h1
  subst e0 e1
  exact List.set_set_perm a0 a1
def ordC (l : List Int) : List Value := l.map fun n => .int .i64 n
/-- What the arguments' cells hold. -/
structure MarkIn (p : PlanD) (A : Option Addr) (l : List Int) (A1 : Option Addr) (W : World) : Prop where
  ops : RdS W (· < W.heap.size) 5 A p.ops.length (opsC p.ops)
  ord : RdS W (· < W.heap.size) 1 A1 l.length (ordC l)
  tv : TypeVar W
theorem RdS.kept {S : Nat → Prop} {w w' : World} {z n : Nat} {A : Option Addr} {xs : List Value} (h : RdS w S z A n xs) (hk : Kept S w w') : RdS w' S z A n xs :=
  ⟨h.1, fun hn => by
    obtain ⟨ad, hA, hS, hl, hc⟩ := h.2 hn
    have hl' : ad.block < w'.heap.size := by
      have h1 := hk _ hS
      rw [Array.getElem?_eq_getElem hl] at h1
      exact (Array.getElem?_eq_some_iff.1 h1).1
    refine ⟨ad, hA, hS, hl', fun j u hu => ?_⟩
    exact (World.cell?_of_block (by rw [block_of_add]; exact hk _ hS)).trans (hc j u hu)⟩
theorem mem_savedIns {l : List Id3} {x y : Id3} : y ∈ savedIns l x ↔ y ∈ l ∨ y = x := by
  unfold savedIns
  split
  · next h => exact ⟨.inl, fun h2 => h2.elim id (fun e => e ▸ h)⟩
  · simp
theorem saved_x {B vb db : Nat} {p : PlanD} {A : Option Addr} {c : Nat} {v v' : DrvD} {d d' : DiskD} {K : Nat → Prop} {w0 : World} (x : Id3) (w : World) (h : VIs B vb db p A c v d K w0 w) (hlf : d.life + 2 ≤ 1000000) (hz : hearD p v (v.saves p x) d = (none, v', d')) :
    Calls Tryz.prog 16 #[.pointer (some ⟨vb, 0, none⟩), msgV 8 x.b x.s x.p 0] w (fun e w' => e = .returned .nilIface ∧ VIs B vb db p A c v' d' K w0 w' ∧ Kept K w w') :=
  saved_v ⟨8, 0, x, false, .slice none 0 0, 0, ⟨0, 0, 0⟩, 0, .slice none 0 0, 0⟩ w h rfl hlf hz
theorem known_x {B vb db : Nat} {p : PlanD} {A : Option Addr} {c : Nat} {v v' : DrvD} {d d' : DiskD} {K : Nat → Prop} {w0 : World} (n : Int) (w : World) (h : VIs B vb db p A c v d K w0 w) (hn : n ≤ 9223372036854775807) (hlf : d.life + 2 ≤ 1000000) (hz : hearD p v (v.known n) d = (none, v', d')) :
    Calls Tryz.prog 16 #[.pointer (some ⟨vb, 0, none⟩), msgV 5 0 0 0 n] w (fun e w' => e = .returned .nilIface ∧ VIs B vb db p A c v' d' K w0 w' ∧ Kept K w w') :=
  known_v ⟨5, 0, ⟨0, 0, 0⟩, false, .slice none 0 0, 0, ⟨0, 0, 0⟩, 0, .slice none 0 0, n⟩ w h rfl hlf hn hz
set_option maxRecDepth 100000 in
set_option maxHeartbeats 32000000 in
theorem marks_c {p : PlanD} {A : Option Addr} {c : Nat} {l : List Int} {A1 : Option Addr} {c1 : Nat} {n : Int} (W : World) (h : MarkIn p A l A1 W) : Calls Tryz.prog 3 #[planV p A c, .int .i64 n, .slice A1 l.length c1] W (BoolPost W true) := by
  have H := Lib.hid h
  have hty : 0 < W.heap.size := World.block_lt_of_cell? W _ h.tv
  obtain ⟨k, hk, hk3⟩ := mask_i64 n 3 (by omega)
  have hk' : bits .and .i64 n 3 = (k : Nat) := hk
  obtain ⟨e, he⟩ : ∃ e, e = k + 1 := ⟨_, rfl⟩
  have he1 : 1 ≤ e := by omega
  have he4 : e ≤ 4 := by omega
  obtain ⟨e2, he2⟩ : ∃ e2, e2 = 2 * e := ⟨_, rfl⟩
  have y1 : IntKind.i64.wrap ((k : Int) + 1) = (e : Nat) := by rw [show (k : Int) + 1 = (e : Nat) by omega]; exact IntWalk.i64_in _ (by omega)
  have y2 : IntKind.i64.wrap (2 * (e : Int)) = (e2 : Nat) := by rw [show 2 * (e : Int) = (e2 : Nat) by omega]; exact IntWalk.i64_in _ (by omega)
  have y3 : IntKind.i64.wrap ((e : Int) - 1) = (k : Nat) := by rw [show (e : Int) - 1 = (k : Nat) by omega]; exact IntWalk.i64_in _ (by omega)
  obtain ⟨e3, he3⟩ : ∃ e3, e3 = e2 + 1 := ⟨_, rfl⟩
  have y4 : IntKind.i64.wrap ((e2 : Int) + 1) = (e3 : Nat) := by rw [show (e2 : Int) + 1 = (e3 : Nat) by omega]; exact IntWalk.i64_in _ (by omega)
  have he28 : e2 ≤ 8 := by omega
  have HE := Lib.hid (show e = k + 1 ∧ e2 = 2 * e ∧ e3 = e2 + 1 from ⟨he, he2, he3⟩)
  clear hk he he2 he3
  obtain ⟨W1, hW1⟩ : ∃ W1, W1 = W.alloc (.cells #[.int .i64 p.parts, .slice A p.ops.length c] 24 (0, 0)) := ⟨_, rfl⟩
  have HB1 := Lib.hid (show Below W.heap.size W W1 from by rw [hW1]; exact ext_alloc (Below.refl _ _) _)
  have HK1 := Lib.hid (show Bk W1 W.heap.size 24 #[.int .i64 p.parts, .slice A p.ops.length c] from by rw [hW1]; exact Bk.new _ _ _)
  have hs1 : W1.heap.size = W.heap.size + 1 := by rw [hW1]; simp
  have HTv := Lib.hid (show TypeVar W1 from TypeVar.fr (S := No) h.tv (Fr.of_below HB1.out) (fun h => h))
  have c0 : W1.cell? ⟨W.heap.size, 0, none⟩ = some (.int .i64 p.parts) := (HK1.out.cell 0).trans rfl
  have c1' : W1.cell? ⟨W.heap.size, 1, none⟩ = some (.slice A p.ops.length c) := (HK1.out.cell 1).trans rfl
  have HW1 := Lib.hid hW1
  clear h hW1
  cases hc : checkD p with
  | some x =>
    obtain ⟨a, code⟩ := x
    have HC := Lib.hid hc
    have HR := Lib.hid (fun W' (hb : Below W.heap.size W W') => rRight_c W.heap.size p A c W' ((H.out.ops.ext hb).rdS (fun _ hk => hk)) hb.size)
    rw [hc] at HR
    clear hc
    go_enter Tryz.func3, Tryz.ntmps3
    go_upto_region 1 with fail
    rw [← HW1.out]
    go_wp2_with (first
      | (go_at_call 13; refine (HR.out _ HB4.out).mono ?_; rintro e w5 ⟨rfl, hb⟩; have HB5 := Lib.hid (ext_trans HB4.out hb); clear hb)
      | (go_at_call 12; refine (told17_c _ HT3.out (by have := HB3.out.size; omega)).mono ?_; rintro e w4 ⟨rfl, hb⟩; have HB4 := Lib.hid (ext_trans HB3.out hb)
         have r0 := (World.cell?_of_block (a := ⟨W.heap.size, 0, none⟩) (hb.block _ ql)).trans q0; have r1 := (World.cell?_of_block (a := ⟨W.heap.size, 1, none⟩) (hb.block _ ql)).trans q1; clear hb)
      | (go_at_call 11
         refine (open_v (w0 := W1) (B := W.heap.size) (p := p) (A := A) (c := c) (room := 300) (e : Nat) HD.out HB2.out (fun h => by rw [HC.out] at h; cases h) (by omega) HTv.out hty ((H.out.ops.ext HB1.out).ext HB2.out) (by have := HB2.out.size; omega)).mono ?_
         rintro e w3 ⟨h1, _, _⟩
         obtain ⟨ve, at_, rfl, hE, hb⟩ := h1 a code HC.out
         obtain ⟨n7, hn7⟩ := hE.errN; obtain ⟨T7, y7, rfl⟩ := hn7.iface
         have HB3 := Lib.hid (ext_trans HB1.out hb)
         have HT3 := Lib.hid (TypeVar.fr (S := No) HTv.out (Fr.of_below hb) (fun h => h))
         have ql : W.heap.size < w3.heap.size := Nat.lt_of_lt_of_le (by omega) hb.size
         have q0 := (World.cell?_of_block (a := ⟨W.heap.size, 0, none⟩) (hb.block W.heap.size (by omega))).trans c0; have q1 := (World.cell?_of_block (a := ⟨W.heap.size, 1, none⟩) (hb.block W.heap.size (by omega))).trans c1'
         clear h1 hE hb hn7)
      | (go_at_call 10; refine (dNew_c 300 _ (by omega) (by omega)).mono ?_; rintro e w2 ⟨db, Rq, rfl, hD, hb⟩; have HD := Lib.hid hD; have HB2 := Lib.hid hb
         have d0 := (World.cell?_of_block (a := ⟨W.heap.size, 0, none⟩) (hb.block W.heap.size (by omega))).trans c0; have d1 := (World.cell?_of_block (a := ⟨W.heap.size, 1, none⟩) (hb.block W.heap.size (by omega))).trans c1'
         have dl : W.heap.size < w2.heap.size := Nat.lt_of_lt_of_le (by omega) hb.size; clear hD hb))
    go_ret
    exact ⟨rfl, HB5.out⟩
  | none =>
    have HC := Lib.hid hc
    have hn0 := (shaped_check hc).n0
    clear hc
    go_enter Tryz.func3, Tryz.ntmps3
    go_upto_region 1 with fail
    rw [← HW1.out]
    go_upto_block 0 with (first
      | (go_at_call 11
         refine (open_v (w0 := W1) (B := W.heap.size) (p := p) (A := A) (c := c) (room := 300) (e : Nat) HD.out HB2.out (fun _ ad hA => by
           obtain ⟨ad', hA', hS, _⟩ := H.out.ops.2 hn0
           rw [hA] at hA'
           injection hA' with hA'
           subst hA'
           have h2 : ad.block < W.heap.size := hS
           exact ⟨fun hk => by have := (HD.out.bd _ hk).1; omega, by have := HB2.out.size; omega⟩) (by omega) HTv.out hty ((H.out.ops.ext HB1.out).ext HB2.out) (by have := HB2.out.size; omega)).mono ?_
         rintro e w3 ⟨_, _, h3⟩
         obtain ⟨vb, rfl, hV⟩ := h3 HC.out (by omega) (by omega)
         have HV := Lib.hid hV
         clear h3 hV)
      | (go_at_call 10; refine (dNew_c 300 _ (by omega) (by omega)).mono ?_; rintro e w2 ⟨db, Rq, rfl, hD, hb⟩; have HD := Lib.hid hD; have HB2 := Lib.hid hb
         have d0 := (World.cell?_of_block (a := ⟨W.heap.size, 0, none⟩) (hb.block W.heap.size (by omega))).trans c0; have d1 := (World.cell?_of_block (a := ⟨W.heap.size, 1, none⟩) (hb.block W.heap.size (by omega))).trans c1'
         have dl : W.heap.size < w2.heap.size := Nat.lt_of_lt_of_le (by omega) hb.size; clear hD hb))
    have HM0 := Lib.hid (show MSt e 0 0 [] 0 ⟨⟨((e : Nat) : Int).toNat, 0, [], []⟩, WalD.new, 0, 0, 0, false⟩ (DiskD.new 300) from ⟨rfl, rfl, rfl, Nat.le_refl _, rfl, rfl, rfl, rfl, rfl, rfl⟩)
    go_cut [11, 12, 13] (fun v11 v12 v13 wx => ∃ v d, Hid (VIs W.heap.size vb db p A c v d No W1 wx) ∧ Hid (MSt e e2 0 [] 0 v d))
    case first =>
      go_wp2_with fail
      go_loopg [11, 12, 13] e2 (fun gk v11 v12 v13 wr => ∃ (i : Nat) (v : DrvD) (d : DiskD), i + gk = e2 ∧ v11 = .int .i64 (i : Nat) ∧ Hid (VIs W.heap.size vb db p A c v d No W1 wr) ∧ Hid (MSt e i 0 [] 0 v d))
      case atStart => exact ⟨0, _, _, by omega, rfl, HV, HM0⟩
      case round =>
        obtain ⟨i, v, d, hik, rfl, hV, hM⟩ := hrel
        by_cases hi : i < e2
        · have hiI : (i : Int) < (e2 : Nat) := by omega
          obtain ⟨v', d', hz, hM'⟩ := hM.out.cut (by have := HE.out; omega) (by omega) (by omega)
          have HZ := Lib.hid hz
          have HM' := Lib.hid hM'
          clear hz hM'
          go_wp2_with (first
            | (go_at_call 14; refine (cut_v _ hV.out hM.out.ok HZ.out).mono ?_; rintro e w4 ⟨rfl, hV', _⟩; have HV' := Lib.hid hV'; clear hV'))
          go_roundg (gk - 1)
          case measure => omega
          case rel => exact ⟨i + 1, v', d', by omega, by go_num, HV', HM'⟩
        · have hil : i = e2 := by omega
          subst hil
          go_wp2_with fail
          go_meet
          exact ⟨v, d, hV, hM⟩
    case rest =>
      obtain ⟨v, d, hV, hM⟩ := hcut
      have HKc := Lib.hid (show Bk wc W.heap.size 24 #[.int .i64 p.parts, .slice A p.ops.length c] from (HK1.out.ext hV.out.below))
      have a0 : wc.cell? ⟨W.heap.size, 0, none⟩ = some (.int .i64 p.parts) := (HKc.out.cell 0).trans rfl
      have a1 : wc.cell? ⟨W.heap.size, 1, none⟩ = some (.slice A p.ops.length c) := (HKc.out.cell 1).trans rfl
      have al := HKc.out.lt
      have hbW := hV.out.below.size
      clear c0 c1'
      go_upto_block 2 with (first
        | (go_at_call 15; refine (states_c W.heap.size p A c _ ((H.out.ops.ext HB1.out).ext hV.out.below) (by omega) HC.out).mono ?_; rintro e w5 ⟨A5, c5, rfl, hS, hb⟩; have HS := Lib.hid hS; have HB5 := Lib.hid hb; clear hS hb))
      have hp1 := (shaped_check HC.out).p1
      have hp4 := (shaped_check HC.out).p4
      have hn12 := (shaped_check HC.out).n12
      have hsl := statesL_len p.ops
      obtain ⟨N, hN⟩ : ∃ N, N = (statesL p.ops).length := ⟨_, rfl⟩
      obtain ⟨M, hM'⟩ : ∃ M, M = p.parts.toNat := ⟨_, rfl⟩
      have hpM : p.parts = (M : Nat) := by omega
      have HN := Lib.hid hN
      have HMM := Lib.hid hM'
      have hM4 : M ≤ 4 := by omega
      have hN12 : N ≤ 12 := by omega
      rw [← hN]
      have HV5 := Lib.hid (hV.out.ext HB5.out)
      have HK5 := Lib.hid (HKc.out.ext HB5.out)
      rw [hpM] at HK5
      have HpM := Lib.hid hpM
      obtain ⟨L, hL⟩ : ∃ L, L = idsL p (e : Nat) := ⟨_, rfl⟩
      have HL := Lib.hid hL
      clear hN hM' hsl hpM hL a0 a1 al hn12 hp1 hp4
      go_cut [15, 16, 17] (fun v15 _ _ wx => ∃ A6 c6, v15 = .slice A6 L.length c6 ∧ L.length ≤ c6 ∧ Hid (wx.ownsRow w5.heap.size 41 3 (.slice A6 L.length c6) L.length (L.flatMap idC)) ∧ Hid (Below w5.heap.size w5 wx))
      case first =>
        go_wp2_with fail
        go_loopg [15, 16, 17] N (fun gk v15 v16 v17 wr => ∃ i : Nat, i + gk = N ∧ v16 = .int .i64 (i : Nat) ∧ wr.ownsRow w5.heap.size 41 3 v15 (((statesL p.ops).take i).flatMap fun st => idsOf (e : Nat) M st).length ((((statesL p.ops).take i).flatMap fun st => idsOf (e : Nat) M st).flatMap idC) ∧
          (((statesL p.ops).take i).flatMap fun st => idsOf (e : Nat) M st).length ≤ 4 * i ∧ Below w5.heap.size w5 wr)
        case atStart => exact ⟨0, by omega, rfl, World.ownsRow_nil _ _ _ _, by simp, Below.refl _ _⟩
        case round =>
          obtain ⟨i, hik, rfl, hown, hal, hb⟩ := hrel
          have HB := Lib.hid hb
          obtain ⟨A6, c6, rfl, hc6⟩ := own_shape hown
          obtain ⟨acc, hacc⟩ : ∃ acc, acc = ((statesL p.ops).take i).flatMap fun st => idsOf (e : Nat) M st := ⟨_, rfl⟩
          rw [← hacc] at hown hal hc6 ⊢
          have HOw := Lib.hid hown
          have HAc := Lib.hid hacc
          clear hown hb hacc
          by_cases hi : i < N
          · have hiI : (i : Int) < (N : Nat) := by omega
            obtain ⟨st, hst⟩ : ∃ st, (statesL p.ops)[i]? = some st := ⟨_, List.getElem?_eq_getElem (by rw [← HN.out]; exact hi)⟩
            obtain ⟨sad, hsA, _⟩ := (Rd.of_own (B := 0) (own_ext HS.out HB.out)).cell (by rw [← HN.out]; omega)
            have HsA := Lib.hid hsA
            rw [hsA]
            have HSt := Lib.hid hst
            have HKr := Lib.hid (HK5.out.ext HB.out)
            have y0 : wr.cell? ⟨W.heap.size, 0, none⟩ = some (.int .i64 (M : Nat)) := (HKr.out.cell 0).trans rfl
            have hwl := HKr.out.lt
            clear hst hsA
            obtain ⟨wo, rfl⟩ : ∃ wo : World, wo = wr := ⟨_, rfl⟩
            obtain ⟨go, rfl⟩ : ∃ go : Nat, go = gk := ⟨_, rfl⟩
            have hgo : 0 < go := by omega
            go_wp2_with fail
            clear y0 hwl
            go_loopg [15, 17] M (fun gk v15 v17 wr => ∃ q : Nat, q + gk = M ∧ v17 = .int .i64 (q : Nat) ∧ wr.ownsRow w5.heap.size 41 3 v15 (acc ++ idsOf (e : Nat) q st).length ((acc ++ idsOf (e : Nat) q st).flatMap idC) ∧ Below w5.heap.size w5 wr)
            case atStart => exact ⟨0, by omega, rfl, by rw [show idsOf (e : Nat) 0 st = [] from rfl, List.append_nil]; exact HOw.out, HB.out⟩
            case round =>
              obtain ⟨q, hqk, rfl, hown, hb⟩ := hrel
              have HB2 := Lib.hid hb
              obtain ⟨A7, c7, rfl, hc7⟩ := own_shape hown
              have hul := idsOf_len (e : Nat) q st
              have HIs := Lib.hid (idsOf_succ (e : Nat) q st)
              obtain ⟨l2, hll⟩ : ∃ l2, l2 = acc ++ idsOf (e : Nat) q st := ⟨_, rfl⟩
              have hlen : l2.length ≤ 4 * i + q := by rw [hll, List.length_append]; omega
              rw [← hll] at hown hc7 ⊢
              have HO2 := Lib.hid hown
              have HLl := Lib.hid hll
              have HKq := Lib.hid (HK5.out.ext hb)
              have z0 : wr.cell? ⟨W.heap.size, 0, none⟩ = some (.int .i64 (M : Nat)) := (HKq.out.cell 0).trans rfl
              have zl := HKq.out.lt
              obtain ⟨sad2, hsA2, hsc⟩ := (Rd.of_own (B := 0) (own_ext HS.out hb)).cell (by rw [← HN.out]; omega)
              obtain rfl : sad2 = sad := by rw [HsA.out] at hsA2; injection hsA2 with hsA2; exact hsA2.symm
              have d0 := hsc i (.int .i64 (st : Nat)) (by unfold intsC; rw [List.getElem?_map, HSt.out]; rfl)
              clear hown hb hll hul hsc hsA2
              by_cases hq : q < M
              · have hqI : (q : Int) < (M : Nat) := by omega
                have HE1 := Lib.hid (ext_alloc (Below.refl wr.heap.size wr) (.cells #[.int .i64 (e : Nat), .int .i64 (st : Nat), .int .i64 (q : Nat)] 41 (0, 0)))
                have HO3 := Lib.hid (own_ext HO2.out HE1.out)
                have HN3 := Lib.hid (Bk.new wr 41 #[.int .i64 (e : Nat), .int .i64 (st : Nat), .int .i64 (q : Nat)])
                have hbs : w5.heap.size ≤ wr.heap.size := HB2.out.size
                go_wp2_with (first
                  | (at_builtin; refine wpList_appE id_app _ rfl (.tmp 80) (.tmp 88) rfl w5.heap.size _ l2 (by rfl) HO3.out (⟨(e : Nat), (st : Nat), (q : Nat)⟩ : Id3) wr.heap.size (by rfl) HN3.out (by omega) (by simp only [World.size_alloc]; omega) ?_
                     intro A8 c8 w8 hown8 hg8 hc8
                     have HO8 := Lib.hid hown8
                     have HB8 := Lib.hid (below_grownOwn (ext_trans HB2.out HE1.out) HO3.out (Nat.le_refl _) hg8)
                     clear hown8 hg8))
                go_roundg (gk - 1)
                case measure => omega
                case rel =>
                  refine ⟨q + 1, by omega, by go_num, ?_, HB8.out⟩
                  rw [HIs.out, ← List.append_assoc, ← HLl.out]
                  rw [show l2.length + 1 = (l2 ++ [(⟨(e : Nat), (st : Nat), (q : Nat)⟩ : Id3)]).length from by simp]
                  exact HO8.out
              · obtain rfl : gk = 0 := by omega
                obtain rfl : q = M := by omega
                go_wp2_with fail
                rw [← HsA.out]
                go_roundg (go - 1)
                case measure => omega
                case rel =>
                  refine ⟨i + 1, by omega, by go_num, ?_, ?_, HB2.out⟩
                  · rw [flatMap_take_succ _ HSt.out, ← HAc.out, ← HLl.out]
                    exact HO2.out
                  · rw [flatMap_take_succ _ HSt.out, ← HAc.out, ← HLl.out]
                    omega
          · obtain rfl : gk = 0 := by omega
            obtain rfl : i = N := by omega
            go_wp2_with fail
            go_meet
            have he : L = acc := by
              rw [HL.out, HAc.out, HN.out, List.take_length, HMM.out]
              rfl
            rw [he]
            exact ⟨A6, c6, rfl, hc6, HOw, HB⟩
      case rest =>
        obtain ⟨A6, c6, rfl, hc6, hO6, hB6⟩ := hcut
        obtain ⟨w6, rfl⟩ : ∃ w6 : World, w6 = wc := ⟨_, rfl⟩
        have hLl : L.length ≤ 48 := by
          have h1 : L.length = N * M := by
            rw [HL.out, HN.out, HMM.out]
            exact idsL_len p _
          have h2 := Nat.mul_le_mul hN12 hM4
          omega
        obtain ⟨T, hT1, hT2, hT3⟩ : ∃ T, T ≤ l.length ∧ T ≤ 40 ∧ (T = l.length ∨ T = 40) := ⟨Nat.min l.length 40, Nat.min_le_left _ _, Nat.min_le_right _ _, by simp only [Nat.min_def]; split <;> simp⟩
        have HT := Lib.hid hT3
        obtain ⟨nL, hnL⟩ : ∃ nL, nL = L.length := ⟨_, rfl⟩
        rw [← hnL] at hc6 hO6 hLl ⊢
        have HnL := Lib.hid hnL
        clear hT3 hnL
        go_upto_block 6 with fail
        go_cut [18, 19] (fun _ _ wx => ∃ l' : List Id3, Hid (l'.Perm L) ∧ Hid (wx.ownsRow w5.heap.size 41 3 (.slice A6 nL c6) nL (l'.flatMap idC)) ∧ Hid (Below w5.heap.size w5 wx))
        case first =>
          go_wp2_with fail
          go_loopg [18, 19] T (fun gk v18 v19 wr => ∃ (i : Nat) (l' : List Id3), i + gk = T ∧ v18 = .int .i64 (i : Nat) ∧ Hid (l'.Perm L) ∧ Hid (wr.ownsRow w5.heap.size 41 3 (.slice A6 nL c6) nL (l'.flatMap idC)) ∧ Hid (Below w5.heap.size w5 wr))
          case atStart => exact ⟨0, L, by omega, rfl, Lib.hid (List.Perm.refl _), hO6, hB6⟩
          case round =>
            obtain ⟨i, l', hik, rfl, hPm, hO, hB⟩ := hrel
            have hl' : l'.length = nL := by rw [HnL.out]; exact hPm.out.length_eq
            by_cases hi : i < l.length
            · by_cases h40 : i < 40
              · have hiT : i < T := by have := HT.out; omega
                have hiI : (i : Int) < (l.length : Nat) := by omega
                have h40I : (i : Int) < 40 := by omega
                by_cases hl1 : 1 < nL
                · have hl1I : (1 : Int) < (nL : Nat) := by omega
                  obtain ⟨K, hK⟩ : ∃ K, nL = K + 1 := ⟨nL - 1, by omega⟩
                  have wK : IntKind.i64.wrap ((nL : Int) - 1) = (K : Nat) := by rw [show (nL : Int) - 1 = (K : Nat) by omega]; exact IntWalk.i64_in _ (by omega)
                  have hK0 : (K : Int) ≠ 0 := by omega
                  have hy : l[i]? = some (l[i]) := List.getElem?_eq_getElem hi
                  generalize l[i] = y at hy
                  obtain ⟨ad, hA1, hoc⟩ := ((((H.out.ord.ext HB1.out).ext hV.out.below).ext HB5.out).ext hB.out).cell (by omega)
                  subst hA1
                  have d0 := hoc i (.int .i64 y) (by unfold ordC; rw [List.getElem?_map, hy]; rfl)
                  obtain ⟨m, hm, hmK⟩ := mask_mod y K (by omega)
                  obtain ⟨m1, hm1⟩ : ∃ m1, m1 = m + 1 := ⟨_, rfl⟩
                  have wm : IntKind.i64.wrap ((m : Int) + 1) = (m1 : Nat) := by rw [show (m : Int) + 1 = (m1 : Nat) by omega]; exact IntWalk.i64_in _ (by omega)
                  have hmI : (m : Int) < (nL : Nat) := by omega
                  have hm1I : (m1 : Int) < (nL : Nat) := by omega
                  obtain ⟨ad6, had6, hab6⟩ : ∃ ad6 : Addr, A6 = some ad6 ∧ w5.heap.size ≤ ad6.block := by
                    obtain ⟨g6, hA6, hg6, _⟩ := own_some hO.out (by omega)
                    exact ⟨_, hA6, hg6⟩
                  subst had6
                  obtain ⟨x0, hx0⟩ : ∃ x0, l'[m]? = some x0 := ⟨_, List.getElem?_eq_getElem (by omega)⟩
                  obtain ⟨x1, hx1⟩ : ∃ x1, l'[m1]? = some x1 := ⟨_, List.getElem?_eq_getElem (by omega)⟩
                  obtain ⟨_, hA7, p0, p1, p2⟩ := Rd.ids (l := l') (Rd.of_own (B := 0) hO.out) hx0 (by omega)
                  injection hA7 with hA7
                  subst hA7
                  obtain ⟨_, hA7, r0, r1, r2⟩ := Rd.ids (l := l') (Rd.of_own (B := 0) hO.out) hx1 (by omega)
                  injection hA7 with hA7
                  subst hA7
                  obtain ⟨w8, hrun8, hO8, hg8, hs8⟩ := own_store_id (w := wr.drew) (own_ext hO.out (below_drewN (Below.refl _ _) 1)) hl' (k := m) (by omega) x1
                  obtain ⟨w9, hrun9, hO9, hg9, hs9⟩ := own_store_id hO8 (by rw [List.length_set]; exact hl') (k := m1) (by omega) x0
                  have HO9 := Lib.hid hO9
                  have HG8 := Lib.hid hg8
                  have HG9 := Lib.hid hg9
                  have HX := Lib.hid (show l'[m]? = some x0 ∧ l'[m1]? = some x1 ∧ m1 = m + 1 from ⟨hx0, hx1, hm1⟩)
                  clear hy hoc hO9 hO8 hg8 hg9 hs8 hs9 hx0 hx1 hm1 hK
                  go_upto_region 27 with fail
                  refine wp_region_held_drew (S := fun _ => True) (by kernel_rfl) ?_ (fun hHeld => ?_)
                  · go_keep
                  refine wpAnyH_take (i := 0) (oi := { dst := some 114, op := Go.Op.move (Go.Operand.tmp 15), type := 39, pos := "more.go:37", after := #[], guard := none }) (v := ?v1z0) rfl (by kernel_rfl) (by kernel_rfl) (by kernel_rfl) (fun _ _ _ h => h) (Or.inl ⟨by rfl, ?hy1z0⟩) (by assumption) ?rest1z0
                  case hy1z0 => (intro w hSw; (try dsimp only at hSw); go_simp; try (with_reducible rfl))
                  simp only [Act.put, List.setIfInBounds_toArray, List.set_cons_zero, List.set_cons_succ]
                  refine wpAnyH_take (i := 1) (oi := { dst := some 115, op := Go.Op.move (Go.Operand.tmp 19), type := 3, pos := "more.go:37", after := #[], guard := none }) (v := ?v1z1) rfl (by kernel_rfl) (by kernel_rfl) (by kernel_rfl) (fun _ _ _ h => h) (Or.inl ⟨by rfl, ?hy1z1⟩) (by assumption) ?rest1z1
                  case hy1z1 => (intro w hSw; (try dsimp only at hSw); go_simp; try (with_reducible rfl))
                  simp only [Act.put, List.setIfInBounds_toArray, List.set_cons_zero, List.set_cons_succ]
                  refine wpAnyH_take (i := 2) (oi := { dst := some 116, op := Go.Op.move (Go.Operand.tmp 15), type := 39, pos := "more.go:37", after := #[{ on := 15, ground := Go.Ground.gcOnly Go.Departure.lateStores }], guard := none }) (v := ?v1z2) rfl (by kernel_rfl) (by kernel_rfl) (by kernel_rfl) (fun _ _ _ h => h) (Or.inl ⟨by rfl, ?hy1z2⟩) (by assumption) ?rest1z2
                  case hy1z2 => (intro w hSw; (try dsimp only at hSw); go_simp; try (with_reducible rfl))
                  simp only [Act.put, List.setIfInBounds_toArray, List.set_cons_zero, List.set_cons_succ]
                  refine wpAnyH_take (i := 3) (oi := { dst := some 117, op := Go.Op.move (Go.Operand.tmp 19), type := 3, pos := "more.go:37", after := #[{ on := 15, ground := Go.Ground.gcOnly Go.Departure.lateStores }], guard := none }) (v := ?v1z3) rfl (by kernel_rfl) (by kernel_rfl) (by kernel_rfl) (fun _ _ _ h => h) (Or.inl ⟨by rfl, ?hy1z3⟩) (by assumption) ?rest1z3
                  case hy1z3 => (intro w hSw; (try dsimp only at hSw); go_simp; try (with_reducible rfl))
                  simp only [Act.put, List.setIfInBounds_toArray, List.set_cons_zero, List.set_cons_succ]
                  refine wpAnyH_take (i := 4) (oi := { dst := some 118, op := Go.Op.binOp Go.BinOp.add 3 (Go.Operand.tmp 117) (Go.Operand.const (Go.Value.int Go.IntKind.i64 1)) 3, type := 3, pos := "more.go:37", after := #[{ on := 3, ground := Go.Ground.data }, { on := 15, ground := Go.Ground.gcOnly Go.Departure.lateStores }], guard := none }) (v := ?v1z4) rfl (by kernel_rfl) (by kernel_rfl) (by kernel_rfl) (fun _ _ _ h => h) (Or.inl ⟨by rfl, ?hy1z4⟩) (by assumption) ?rest1z4
                  case hy1z4 => (intro w hSw; (try dsimp only at hSw); go_simp; try (with_reducible rfl))
                  simp only [Act.put, List.setIfInBounds_toArray, List.set_cons_zero, List.set_cons_succ]
                  refine wpAnyH_take (i := 5) (oi := { dst := some 119, op := Go.Op.move (Go.Operand.tmp 15), type := 39, pos := "more.go:37", after := #[], guard := none }) (v := ?v1z5) rfl (by kernel_rfl) (by kernel_rfl) (by kernel_rfl) (fun _ _ _ h => h) (Or.inl ⟨by rfl, ?hy1z5⟩) (by assumption) ?rest1z5
                  case hy1z5 => (intro w hSw; (try dsimp only at hSw); go_simp; try (with_reducible rfl))
                  simp only [Act.put, List.setIfInBounds_toArray, List.set_cons_zero, List.set_cons_succ]
                  refine wpAnyH_take (i := 6) (oi := { dst := some 120, op := Go.Op.move (Go.Operand.tmp 19), type := 3, pos := "more.go:37", after := #[], guard := none }) (v := ?v1z6) rfl (by kernel_rfl) (by kernel_rfl) (by kernel_rfl) (fun _ _ _ h => h) (Or.inl ⟨by rfl, ?hy1z6⟩) (by assumption) ?rest1z6
                  case hy1z6 => (intro w hSw; (try dsimp only at hSw); go_simp; try (with_reducible rfl))
                  simp only [Act.put, List.setIfInBounds_toArray, List.set_cons_zero, List.set_cons_succ]
                  refine wpAnyH_take (i := 7) (oi := { dst := some 121, op := Go.Op.binOp Go.BinOp.add 3 (Go.Operand.tmp 120) (Go.Operand.const (Go.Value.int Go.IntKind.i64 1)) 3, type := 3, pos := "more.go:37", after := #[{ on := 6, ground := Go.Ground.data }], guard := none }) (v := ?v1z7) rfl (by kernel_rfl) (by kernel_rfl) (by kernel_rfl) (fun _ _ _ h => h) (Or.inl ⟨by rfl, ?hy1z7⟩) (by assumption) ?rest1z7
                  case hy1z7 => (intro w hSw; (try dsimp only at hSw); go_simp; try (with_reducible rfl))
                  simp only [Act.put, List.setIfInBounds_toArray, List.set_cons_zero, List.set_cons_succ]
                  refine wpAnyH_take (i := 8) (oi := { dst := some 122, op := Go.Op.indexAddr 39 (Go.Operand.tmp 119) (Go.Operand.tmp 121), type := 0, pos := "more.go:37", after := #[{ on := 5, ground := Go.Ground.data }, { on := 7, ground := Go.Ground.data }], guard := none }) (v := ?v1z8) rfl (by kernel_rfl) (by kernel_rfl) (by kernel_rfl) (fun _ _ _ h => h) (Or.inl ⟨by rfl, ?hy1z8⟩) (by assumption) ?rest1z8
                  case hy1z8 => (intro w hSw; (try dsimp only at hSw); go_simp; try (with_reducible rfl))
                  simp only [Act.put, List.setIfInBounds_toArray, List.set_cons_zero, List.set_cons_succ]
                  refine wpAnyH_take (i := 10) (oi := { dst := some 124, op := Go.Op.move (Go.Operand.tmp 15), type := 39, pos := "more.go:37", after := #[], guard := none }) (v := ?v1z10) rfl (by kernel_rfl) (by kernel_rfl) (by kernel_rfl) (fun _ _ _ h => h) (Or.inl ⟨by rfl, ?hy1z10⟩) (by assumption) ?rest1z10
                  case hy1z10 => (intro w hSw; (try dsimp only at hSw); go_simp; try (with_reducible rfl))
                  simp only [Act.put, List.setIfInBounds_toArray, List.set_cons_zero, List.set_cons_succ]
                  refine wpAnyH_take (i := 11) (oi := { dst := some 125, op := Go.Op.move (Go.Operand.tmp 19), type := 3, pos := "more.go:37", after := #[], guard := none }) (v := ?v1z11) rfl (by kernel_rfl) (by kernel_rfl) (by kernel_rfl) (fun _ _ _ h => h) (Or.inl ⟨by rfl, ?hy1z11⟩) (by assumption) ?rest1z11
                  case hy1z11 => (intro w hSw; (try dsimp only at hSw); go_simp; try (with_reducible rfl))
                  simp only [Act.put, List.setIfInBounds_toArray, List.set_cons_zero, List.set_cons_succ]
                  refine wpAnyH_take (i := 12) (oi := { dst := some 126, op := Go.Op.indexAddr 39 (Go.Operand.tmp 124) (Go.Operand.tmp 125), type := 0, pos := "more.go:37", after := #[{ on := 10, ground := Go.Ground.data }, { on := 11, ground := Go.Ground.data }], guard := none }) (v := ?v1z12) rfl (by kernel_rfl) (by kernel_rfl) (by kernel_rfl) (fun _ _ _ h => h) (Or.inl ⟨by rfl, ?hy1z12⟩) (by assumption) ?rest1z12
                  case hy1z12 => (intro w hSw; (try dsimp only at hSw); go_simp; try (with_reducible rfl))
                  simp only [Act.put, List.setIfInBounds_toArray, List.set_cons_zero, List.set_cons_succ]
                  refine wpAnyH_ready (rs := [9, 13]) (by kernel_rfl) (by simp) ?_
                  refine AllReadyH.cons (o := { dst := some 123, op := Go.Op.load 41 (Go.Operand.tmp 122), type := 41, pos := "more.go:37", after := #[{ on := 8, ground := Go.Ground.data }], guard := none }) rfl (fun K hK => ?_) ?_
                  ·
                    go_simp
                    refine hK.out _ _ ?_ (fun hHeld => ?_)
                    · go_keep
                    clear hK K
                    try simp only [Act.put, List.setIfInBounds_toArray, List.set_cons_zero, List.set_cons_succ]
                    refine wpAnyH_ready (rs := [13]) (by kernel_rfl) (by simp) ?_
                    refine AllReadyH.cons (o := { dst := some 127, op := Go.Op.load 41 (Go.Operand.tmp 126), type := 41, pos := "more.go:37", after := #[{ on := 12, ground := Go.Ground.data }], guard := none }) rfl (fun K hK => ?_) ?_
                    ·
                      go_simp
                      refine hK.out _ _ ?_ (fun hHeld => ?_)
                      · go_keep
                      clear hK K
                      try simp only [Act.put, List.setIfInBounds_toArray, List.set_cons_zero, List.set_cons_succ]
                      refine wpAnyH_take (i := 14) (oi := { dst := some 128, op := Go.Op.indexAddr 39 (Go.Operand.tmp 114) (Go.Operand.tmp 115), type := 0, pos := "more.go:37", after := #[{ on := 0, ground := Go.Ground.data }, { on := 1, ground := Go.Ground.data }, { on := 0, ground := Go.Ground.phase }, { on := 1, ground := Go.Ground.phase }, { on := 2, ground := Go.Ground.textOnly Go.Departure.lateStores }, { on := 3, ground := Go.Ground.textOnly Go.Departure.lateStores }, { on := 4, ground := Go.Ground.textOnly Go.Departure.lateStores }, { on := 5, ground := Go.Ground.phase }, { on := 6, ground := Go.Ground.phase }, { on := 7, ground := Go.Ground.phase }, { on := 8, ground := Go.Ground.phase }, { on := 9, ground := Go.Ground.phase }, { on := 10, ground := Go.Ground.textOnly Go.Departure.lateStores }, { on := 11, ground := Go.Ground.textOnly Go.Departure.lateStores }, { on := 12, ground := Go.Ground.textOnly Go.Departure.lateStoresUnsure }, { on := 13, ground := Go.Ground.phase }], guard := none }) (v := ?v1z14) rfl (by kernel_rfl) (by kernel_rfl) (by kernel_rfl) (fun _ _ _ h => h) (Or.inl ⟨by rfl, ?hy1z14⟩) (by assumption) ?rest1z14
                      case hy1z14 => (intro w hSw; (try dsimp only at hSw); go_simp; try (with_reducible rfl))
                      simp only [Act.put, List.setIfInBounds_toArray, List.set_cons_zero, List.set_cons_succ]
                      refine wpAnyH_ready (rs := [15]) (by kernel_rfl) (by simp) ?_
                      refine AllReadyH.cons (o := { dst := none, op := Go.Op.store 41 (Go.Operand.tmp 128) (Go.Operand.tmp 123), type := 0, pos := "more.go:37", after := #[{ on := 14, ground := Go.Ground.data }, { on := 9, ground := Go.Ground.data }, { on := 0, ground := Go.Ground.phase }, { on := 1, ground := Go.Ground.phase }, { on := 2, ground := Go.Ground.textOnly Go.Departure.lateStores }, { on := 3, ground := Go.Ground.textOnly Go.Departure.lateStores }, { on := 4, ground := Go.Ground.textOnly Go.Departure.lateStores }, { on := 5, ground := Go.Ground.phase }, { on := 6, ground := Go.Ground.phase }, { on := 7, ground := Go.Ground.phase }, { on := 8, ground := Go.Ground.phase }, { on := 9, ground := Go.Ground.phase }, { on := 10, ground := Go.Ground.textOnly Go.Departure.lateStores }, { on := 11, ground := Go.Ground.textOnly Go.Departure.lateStores }, { on := 12, ground := Go.Ground.textOnly Go.Departure.lateStoresUnsure }, { on := 13, ground := Go.Ground.phase }], guard := none }) rfl (fun K hK => ?_) ?_
                      ·
                        refine step_storeAt rfl 41 (.tmp 128) (.tmp 123) rfl _ _ (by rfl) (by rfl) hrun8 ?_
                        refine hK.out _ _ ?_ (fun hHeld => ?_)
                        · go_keep
                        clear hK K
                        try simp only [Act.put]
                        refine wpAnyH_take (i := 16) (oi := { dst := some 129, op := Go.Op.indexAddr 39 (Go.Operand.tmp 116) (Go.Operand.tmp 118), type := 0, pos := "more.go:37", after := #[{ on := 2, ground := Go.Ground.data }, { on := 4, ground := Go.Ground.data }, { on := 0, ground := Go.Ground.phase }, { on := 1, ground := Go.Ground.phase }, { on := 2, ground := Go.Ground.phase }, { on := 3, ground := Go.Ground.phase }, { on := 4, ground := Go.Ground.phase }, { on := 5, ground := Go.Ground.phase }, { on := 6, ground := Go.Ground.phase }, { on := 7, ground := Go.Ground.phase }, { on := 8, ground := Go.Ground.phase }, { on := 9, ground := Go.Ground.phase }, { on := 10, ground := Go.Ground.phase }, { on := 11, ground := Go.Ground.phase }, { on := 12, ground := Go.Ground.phase }, { on := 13, ground := Go.Ground.phase }, { on := 14, ground := Go.Ground.phase }, { on := 15, ground := Go.Ground.phase }], guard := none }) (v := ?v1z16) rfl (by kernel_rfl) (by kernel_rfl) (by kernel_rfl) (fun _ _ _ h => h) (Or.inl ⟨by rfl, ?hy1z16⟩) (by assumption) ?rest1z16
                        case hy1z16 => (intro w hSw; (try dsimp only at hSw); go_simp; try (with_reducible rfl))
                        simp only [Act.put, List.setIfInBounds_toArray, List.set_cons_zero, List.set_cons_succ]
                        refine wpAnyH_ready (rs := [17]) (by kernel_rfl) (by simp) ?_
                        refine AllReadyH.cons (o := { dst := none, op := Go.Op.store 41 (Go.Operand.tmp 129) (Go.Operand.tmp 127), type := 0, pos := "more.go:37", after := #[{ on := 16, ground := Go.Ground.data }, { on := 13, ground := Go.Ground.data }, { on := 15, ground := Go.Ground.chain }, { on := 0, ground := Go.Ground.phase }, { on := 1, ground := Go.Ground.phase }, { on := 2, ground := Go.Ground.phase }, { on := 3, ground := Go.Ground.phase }, { on := 4, ground := Go.Ground.phase }, { on := 5, ground := Go.Ground.phase }, { on := 6, ground := Go.Ground.phase }, { on := 7, ground := Go.Ground.phase }, { on := 8, ground := Go.Ground.phase }, { on := 9, ground := Go.Ground.phase }, { on := 10, ground := Go.Ground.phase }, { on := 11, ground := Go.Ground.phase }, { on := 12, ground := Go.Ground.phase }, { on := 13, ground := Go.Ground.phase }, { on := 14, ground := Go.Ground.phase }, { on := 15, ground := Go.Ground.phase }], guard := none }) rfl (fun K hK => ?_) ?_
                        ·
                          refine step_storeAt rfl 41 (.tmp 129) (.tmp 127) rfl _ _ (by rfl) (by rfl) hrun9 ?_
                          refine hK.out _ _ ?_ (fun hHeld => ?_)
                          · go_keep
                          clear hK K
                          try simp only [Act.put]
                          refine wpAnyH_done (by kernel_rfl) ?_ _
                          go_wp2_with fail
                          go_roundg (gk - 1)
                          case measure => omega
                          case rel => exact ⟨i + 1, (l'.set m x1).set m1 x0, by omega, by go_num, Lib.hid ((swap_perm HX.out.1 HX.out.2.1).trans hPm.out), HO9, Lib.hid (((below_drewN hB.out 1).grown HG8.out hB.out.size (fun k hk => by injection hk with hk; rw [← hk]; exact hab6)).grown HG9.out (Nat.le_trans hB.out.size HG8.out.size) (fun k hk => by injection hk with hk; rw [← hk]; exact hab6))⟩
                        exact AllReadyH.nil
                      exact AllReadyH.nil
                    exact AllReadyH.nil
                  refine AllReadyH.cons (o := { dst := some 127, op := Go.Op.load 41 (Go.Operand.tmp 126), type := 41, pos := "more.go:37", after := #[{ on := 12, ground := Go.Ground.data }], guard := none }) rfl (fun K hK => ?_) ?_
                  ·
                    go_simp
                    refine hK.out _ _ ?_ (fun hHeld => ?_)
                    · go_keep
                    clear hK K
                    try simp only [Act.put, List.setIfInBounds_toArray, List.set_cons_zero, List.set_cons_succ]
                    refine wpAnyH_ready (rs := [9]) (by kernel_rfl) (by simp) ?_
                    refine AllReadyH.cons (o := { dst := some 123, op := Go.Op.load 41 (Go.Operand.tmp 122), type := 41, pos := "more.go:37", after := #[{ on := 8, ground := Go.Ground.data }], guard := none }) rfl (fun K hK => ?_) ?_
                    ·
                      go_simp
                      refine hK.out _ _ ?_ (fun hHeld => ?_)
                      · go_keep
                      clear hK K
                      try simp only [Act.put, List.setIfInBounds_toArray, List.set_cons_zero, List.set_cons_succ]
                      refine wpAnyH_take (i := 14) (oi := { dst := some 128, op := Go.Op.indexAddr 39 (Go.Operand.tmp 114) (Go.Operand.tmp 115), type := 0, pos := "more.go:37", after := #[{ on := 0, ground := Go.Ground.data }, { on := 1, ground := Go.Ground.data }, { on := 0, ground := Go.Ground.phase }, { on := 1, ground := Go.Ground.phase }, { on := 2, ground := Go.Ground.textOnly Go.Departure.lateStores }, { on := 3, ground := Go.Ground.textOnly Go.Departure.lateStores }, { on := 4, ground := Go.Ground.textOnly Go.Departure.lateStores }, { on := 5, ground := Go.Ground.phase }, { on := 6, ground := Go.Ground.phase }, { on := 7, ground := Go.Ground.phase }, { on := 8, ground := Go.Ground.phase }, { on := 9, ground := Go.Ground.phase }, { on := 10, ground := Go.Ground.textOnly Go.Departure.lateStores }, { on := 11, ground := Go.Ground.textOnly Go.Departure.lateStores }, { on := 12, ground := Go.Ground.textOnly Go.Departure.lateStoresUnsure }, { on := 13, ground := Go.Ground.phase }], guard := none }) (v := ?v1z14x1) rfl (by kernel_rfl) (by kernel_rfl) (by kernel_rfl) (fun _ _ _ h => h) (Or.inl ⟨by rfl, ?hy1z14x1⟩) (by assumption) ?rest1z14x1
                      case hy1z14x1 => (intro w hSw; (try dsimp only at hSw); go_simp; try (with_reducible rfl))
                      simp only [Act.put, List.setIfInBounds_toArray, List.set_cons_zero, List.set_cons_succ]
                      refine wpAnyH_ready (rs := [15]) (by kernel_rfl) (by simp) ?_
                      refine AllReadyH.cons (o := { dst := none, op := Go.Op.store 41 (Go.Operand.tmp 128) (Go.Operand.tmp 123), type := 0, pos := "more.go:37", after := #[{ on := 14, ground := Go.Ground.data }, { on := 9, ground := Go.Ground.data }, { on := 0, ground := Go.Ground.phase }, { on := 1, ground := Go.Ground.phase }, { on := 2, ground := Go.Ground.textOnly Go.Departure.lateStores }, { on := 3, ground := Go.Ground.textOnly Go.Departure.lateStores }, { on := 4, ground := Go.Ground.textOnly Go.Departure.lateStores }, { on := 5, ground := Go.Ground.phase }, { on := 6, ground := Go.Ground.phase }, { on := 7, ground := Go.Ground.phase }, { on := 8, ground := Go.Ground.phase }, { on := 9, ground := Go.Ground.phase }, { on := 10, ground := Go.Ground.textOnly Go.Departure.lateStores }, { on := 11, ground := Go.Ground.textOnly Go.Departure.lateStores }, { on := 12, ground := Go.Ground.textOnly Go.Departure.lateStoresUnsure }, { on := 13, ground := Go.Ground.phase }], guard := none }) rfl (fun K hK => ?_) ?_
                      ·
                        refine step_storeAt rfl 41 (.tmp 128) (.tmp 123) rfl _ _ (by rfl) (by rfl) hrun8 ?_
                        refine hK.out _ _ ?_ (fun hHeld => ?_)
                        · go_keep
                        clear hK K
                        try simp only [Act.put]
                        refine wpAnyH_take (i := 16) (oi := { dst := some 129, op := Go.Op.indexAddr 39 (Go.Operand.tmp 116) (Go.Operand.tmp 118), type := 0, pos := "more.go:37", after := #[{ on := 2, ground := Go.Ground.data }, { on := 4, ground := Go.Ground.data }, { on := 0, ground := Go.Ground.phase }, { on := 1, ground := Go.Ground.phase }, { on := 2, ground := Go.Ground.phase }, { on := 3, ground := Go.Ground.phase }, { on := 4, ground := Go.Ground.phase }, { on := 5, ground := Go.Ground.phase }, { on := 6, ground := Go.Ground.phase }, { on := 7, ground := Go.Ground.phase }, { on := 8, ground := Go.Ground.phase }, { on := 9, ground := Go.Ground.phase }, { on := 10, ground := Go.Ground.phase }, { on := 11, ground := Go.Ground.phase }, { on := 12, ground := Go.Ground.phase }, { on := 13, ground := Go.Ground.phase }, { on := 14, ground := Go.Ground.phase }, { on := 15, ground := Go.Ground.phase }], guard := none }) (v := ?v1z16x1) rfl (by kernel_rfl) (by kernel_rfl) (by kernel_rfl) (fun _ _ _ h => h) (Or.inl ⟨by rfl, ?hy1z16x1⟩) (by assumption) ?rest1z16x1
                        case hy1z16x1 => (intro w hSw; (try dsimp only at hSw); go_simp; try (with_reducible rfl))
                        simp only [Act.put, List.setIfInBounds_toArray, List.set_cons_zero, List.set_cons_succ]
                        refine wpAnyH_ready (rs := [17]) (by kernel_rfl) (by simp) ?_
                        refine AllReadyH.cons (o := { dst := none, op := Go.Op.store 41 (Go.Operand.tmp 129) (Go.Operand.tmp 127), type := 0, pos := "more.go:37", after := #[{ on := 16, ground := Go.Ground.data }, { on := 13, ground := Go.Ground.data }, { on := 15, ground := Go.Ground.chain }, { on := 0, ground := Go.Ground.phase }, { on := 1, ground := Go.Ground.phase }, { on := 2, ground := Go.Ground.phase }, { on := 3, ground := Go.Ground.phase }, { on := 4, ground := Go.Ground.phase }, { on := 5, ground := Go.Ground.phase }, { on := 6, ground := Go.Ground.phase }, { on := 7, ground := Go.Ground.phase }, { on := 8, ground := Go.Ground.phase }, { on := 9, ground := Go.Ground.phase }, { on := 10, ground := Go.Ground.phase }, { on := 11, ground := Go.Ground.phase }, { on := 12, ground := Go.Ground.phase }, { on := 13, ground := Go.Ground.phase }, { on := 14, ground := Go.Ground.phase }, { on := 15, ground := Go.Ground.phase }], guard := none }) rfl (fun K hK => ?_) ?_
                        ·
                          refine step_storeAt rfl 41 (.tmp 129) (.tmp 127) rfl _ _ (by rfl) (by rfl) hrun9 ?_
                          refine hK.out _ _ ?_ (fun hHeld => ?_)
                          · go_keep
                          clear hK K
                          try simp only [Act.put]
                          refine wpAnyH_done (by kernel_rfl) ?_ _
                          go_wp2_with fail
                          go_roundg (gk - 1)
                          case measure => omega
                          case rel => exact ⟨i + 1, (l'.set m x1).set m1 x0, by omega, by go_num, Lib.hid ((swap_perm HX.out.1 HX.out.2.1).trans hPm.out), HO9, Lib.hid (((below_drewN hB.out 1).grown HG8.out hB.out.size (fun k hk => by injection hk with hk; rw [← hk]; exact hab6)).grown HG9.out (Nat.le_trans hB.out.size HG8.out.size) (fun k hk => by injection hk with hk; rw [← hk]; exact hab6))⟩
                        exact AllReadyH.nil
                      exact AllReadyH.nil
                    exact AllReadyH.nil
                  exact AllReadyH.nil
                · have hl1I : ¬ (1 : Int) < (nL : Nat) := by omega
                  go_wp2_with fail
                  go_meet
                  exact ⟨l', hPm, hO, hB⟩
              · have h40I : ¬ (i : Int) < 40 := by omega
                have hiI : (i : Int) < (l.length : Nat) := by omega
                go_wp2_with fail
                go_meet
                exact ⟨l', hPm, hO, hB⟩
            · have hiI : ¬ (i : Int) < (l.length : Nat) := by omega
              go_wp2_with fail
              go_meet
              exact ⟨l', hPm, hO, hB⟩
        case rest =>
          obtain ⟨l', hPm, hO, hB⟩ := hcut
          obtain ⟨w7, rfl⟩ : ∃ w7 : World, w7 = wc := ⟨_, rfl⟩
          have hl' : l'.length = nL := by rw [HnL.out]; exact hPm.out.length_eq
          have HRd := Lib.hid (show RdS w7 (fun g => (Value.slice A6 nL c6).ownBlock = some g) 3 A6 nL (idsC l') from RdS.of_own hO.out (fun k hk => hk))
          have HV7 := Lib.hid (HV5.out.more (K' := fun g => (Value.slice A6 nL c6).ownBlock = some g) hB.out (fun g hg => ⟨.inr (hO.out.lt g hg).1, (hO.out.lt g hg).2⟩))
          have HE2 := Lib.hid (show e2 = 2 * e from HE.out.2.1)
          go_upto_block 8 with fail
          go_cut [20] (fun _ wx => ∃ v d sv, Hid (VIs W.heap.size vb db p A c v d (fun g => (Value.slice A6 nL c6).ownBlock = some g) W1 wx) ∧ Hid (MSt e e2 0 sv 0 v d) ∧ Hid (∀ x ∈ L, x ∈ sv))
          case first =>
            go_wp2_with fail
            go_loopg [20] nL (fun gk v20 wr => ∃ (i : Nat) (v : DrvD) (d : DiskD) (sv : List Id3), i + gk = nL ∧ v20 = .int .i64 (i : Nat) ∧ Hid (VIs W.heap.size vb db p A c v d (fun g => (Value.slice A6 nL c6).ownBlock = some g) W1 wr) ∧ Hid (MSt e e2 0 sv 0 v d) ∧ Hid (∀ x ∈ l'.take i, x ∈ sv) ∧ Hid (RdS wr (fun g => (Value.slice A6 nL c6).ownBlock = some g) 3 A6 nL (idsC l')))
            case atStart => exact ⟨0, v, d, [], by omega, rfl, HV7, hM, Lib.hid (by simp), HRd⟩
            case round =>
              obtain ⟨i, v, d, sv, hik, rfl, hV, hM, hS, hR⟩ := hrel
              by_cases hi : i < nL
              · have hiI : (i : Int) < (nL : Nat) := by omega
                obtain ⟨x, hx⟩ : ∃ x, l'[i]? = some x := ⟨_, List.getElem?_eq_getElem (by omega)⟩
                obtain ⟨ad6, hA6, d0, d1, d2⟩ := Rd.ids (l := l') (hR.out.rd (e := 41) (B := wr.heap.size) (Nat.le_refl _)) hx hi
                have HA6 := Lib.hid hA6
                have hxL : x ∈ idsL p (e : Nat) := by rw [← HL.out]; exact hPm.out.mem_iff.1 (List.mem_of_getElem? hx)
                have HM2 := Lib.hid (hM.out.saves (p := p) he1 (by omega) hxL)
                have HZ := Lib.hid (hM.out.hear_none (p := p) HM2.out (due0 he1 (by omega)))
                have HX := Lib.hid hx
                have HRk := hR
                clear hx hxL
                rw [hA6]
                clear hA6
                go_wp2_with (first
                  | (go_at_call 17; refine (mark_v _ HV8.out).mono ?_; rw [HM2.out.mkd]; rintro e w9 ⟨rfl, rfl⟩)
                  | (go_at_call 16; refine (saved_x x _ hV.out hM.out.ok HZ.out).mono ?_; rintro e w8 ⟨rfl, hV8, hK8⟩; have HV8 := Lib.hid hV8; have HK8 := Lib.hid hK8; clear hV8 hK8))
                rw [← HA6.out]
                go_roundg (gk - 1)
                case measure => omega
                case rel =>
                  refine ⟨i + 1, _, _, _, by omega, by go_num, HV8, HM2, Lib.hid ?_, Lib.hid (RdS.kept HRk.out HK8.out)⟩
                  rw [take_succ_of HX.out]
                  intro y hy
                  rcases List.mem_append.1 hy with h1 | h1
                  · exact mem_savedIns.2 (.inl (hS.out y h1))
                  · rw [List.mem_singleton] at h1
                    exact mem_savedIns.2 (.inr h1)
              · have hiI : ¬ (i : Int) < (nL : Nat) := by omega
                have hin : i = nL := by omega
                subst hin
                go_wp2_with fail
                go_meet
                refine ⟨v, d, sv, hV, hM, Lib.hid fun x hx => ?_⟩
                have h1 := hS.out
                rw [List.take_of_length_le (by omega)] at h1
                exact h1 x (hPm.out.mem_iff.2 hx)
          case rest =>
            obtain ⟨v, d, sv, hV, hM, hS⟩ := hcut
            obtain ⟨w8, rfl⟩ : ∃ w8 : World, w8 = wc := ⟨_, rfl⟩
            have hke : (k : Int) < (e : Nat) := by have := HE.out; omega
            have HM1 := Lib.hid (hM.out.known (k : Nat))
            have HZ1 := Lib.hid (hM.out.hear_none (p := p) HM1.out (due0 he1 (by omega)))
            obtain ⟨v2, d2, hz2, hM2⟩ := HM1.out.commit (p := p) he1 (by omega) (by have := HE.out; omega) (by omega) (by omega) (by rw [← HL.out]; exact hS.out)
            have HZ2 := Lib.hid hz2
            have HM2 := Lib.hid hM2
            obtain ⟨v3, d3, hz3, hM3⟩ := hM2.cut (by have := HE.out; omega) (by omega) (by omega)
            have HZ3 := Lib.hid hz3
            have HM3 := Lib.hid hM3
            have HNc := Lib.hid (show v3.x.cuts.length = e3 from hM3.nc.trans HE.out.2.2.symm)
            clear hz2 hM2 hz3 hM3
            go_wp2_with (first
              | (go_at_call 19; refine (number_c _ HSd.out).mono ?_; rw [HM3.out.mkd]; rintro e w15 ⟨rfl, rfl⟩)
              | (go_at_call 18; refine (newest_v _ HV13.out).mono ?_; rw [HNc.out]; rintro e w15 ⟨rfl, rfl⟩)
              | (go_at_call 17; refine (mark_v _ HV13.out).mono ?_; rw [HM3.out.mkd]; rintro e w15 ⟨rfl, rfl⟩)
              | (go_at_call 12; refine (told17_c _ HV12.out.tv (by have := HV12.out.below.size; omega)).mono ?_; rintro e w13 ⟨rfl, hb⟩; have HV13 := Lib.hid (HV12.out.ext hb); obtain ⟨sb, hsb, R13, hS13⟩ := HV13.out.sched; have HSd := Lib.hid hS13; have hvl := HV13.out.lt.1; clear hb hS13)
              | (go_at_call 11; refine (reopen_v (e : Nat) _ HV11.out HM3.out.free.1 ((H.out.ops.ext HB1.out).ext HV11.out.below) (by have := HV11.out.below.size; omega) (by omega) (by omega) HC.out).mono ?_; rintro e w12 ⟨vb', rfl, hV12, _⟩; have HV12 := Lib.hid hV12; clear hV12)
              | (go_at_call 14; refine (cut_v _ HV10.out HM2.out.ok HZ3.out).mono ?_; rintro e w11 ⟨rfl, hV11, _⟩; have HV11 := Lib.hid hV11; have HKp := Lib.hid (HK1.out.ext hV11.below); have q0 : w11.cell? ⟨W.heap.size, 0, none⟩ = some (.int .i64 p.parts) := (HKp.out.cell 0).trans rfl; have q1 : w11.cell? ⟨W.heap.size, 1, none⟩ = some (.slice A p.ops.length c) := (HKp.out.cell 1).trans rfl; have ql := HKp.out.lt; clear hV11)
              | (go_at_call 17; refine (mark_v _ HV10.out).mono ?_; rw [HM2.out.mkd]; rintro e w15 ⟨rfl, rfl⟩)
              | (go_at_call 16; refine (known_x (e : Nat) _ HV9.out (by omega) HM1.out.ok HZ2.out).mono ?_; rintro e w10 ⟨rfl, hV10, _⟩; have HV10 := Lib.hid hV10; clear hV10)
              | (go_at_call 17; refine (mark_v _ HV9.out).mono ?_; rw [HM1.out.mkd]; rintro e w15 ⟨rfl, rfl⟩)
              | (go_at_call 16; refine (known_x (k : Nat) _ hV.out (by omega) hM.out.ok HZ1.out).mono ?_; rintro e w9 ⟨rfl, hV9, _⟩; have HV9 := Lib.hid hV9; clear hV9))
            go_ret
            exact ⟨rfl, ext_trans HB1.out HV13.out.below⟩
end Go.Proofs.YtolajmfmphkkiaaGreatDoor

/- An argument that came in, opened type by type: what its cells are. -/
namespace Go.Proofs.YtolajmfmphkkiaaGreatDoor
open Go.ChangeShapes Go.WideShapes Go.RowKit Go.Deep

/-- Whatever reads as a t is the cells of some a that is 'ok'. -/
def Opens {H : Type} (enc : TypeId × Value → H) (P : Program) (w : World) (t : TypeId) {α : Type} (cells : α → List Value) (ok : α → Prop) : Prop :=
  ∀ fuel cs x, DataW.trod enc P w 0 (fun _ => true) true fuel t cs = some x → ∃ a, cs = cells a ∧ ok a
/-- The same of a struct's fields, from the offset 'off' on. -/
def FOpens {H : Type} (enc : TypeId × Value → H) (P : Program) (w : World) (fs : List Field) (off : Nat) {α : Type} (cells : α → List Value) (ok : α → Prop) : Prop :=
  ∀ (cs : List Value) (n : Nat), cs.length = (fs.map fun f => P.cellsOf f.type).sum → (∀ f ∈ fs, ∃ y, DataW.trod enc P w 0 (fun _ => true) true n f.type ((cs.drop (f.offset - off)).take (P.cellsOf f.type)) = some y) → ∃ a, cs = cells a ∧ ok a
/-- A slice that came in. -/
structure Sl (α : Type) where
  A : Option Addr
  cap : Nat
  l : List α

section
variable {H : Type} {enc : TypeId × Value → H} {P : Program} {w : World} {t e : TypeId} {α β : Type} {cells : α → List Value} {ok : α → Prop}
theorem Opens.int {k : IntKind} (ht : P.underlying t = some (.int k)) : Opens enc P w t (fun n : Int => [.int k n]) (fun n => (Lit.int k n).wf = true) := by
  intro fuel cs x h
  obtain ⟨n, rfl, _, hw⟩ := DataW.trod_int ht h
  exact ⟨n, rfl, hw⟩
theorem Opens.bool (ht : P.underlying t = some .bool) : Opens enc P w t (fun b : Bool => [.bool b]) (fun _ => True) := by
  intro fuel cs x h
  obtain ⟨b, rfl, _⟩ := DataW.trod_bool ht h
  exact ⟨b, rfl, trivial⟩
theorem Opens.string (ht : P.underlying t = some .string) : Opens enc P w t (fun s : ByteArray => [.string s]) (fun s => s.size ≤ maxLen) := by
  intro fuel cs x h
  obtain ⟨s, rfl, _, hs⟩ := DataW.trod_string ht h
  exact ⟨s, rfl, hs⟩
theorem Opens.map {cells' : β → List Value} {ok' : β → Prop} (h : Opens enc P w t cells ok) (f : α → β) (hc : ∀ a, cells a = cells' (f a)) (hk : ∀ a, ok a → ok' (f a)) : Opens enc P w t cells' ok' := by
  intro fuel cs x hx
  obtain ⟨a, rfl, ha⟩ := h fuel cs x hx
  exact ⟨f a, hc a, hk a ha⟩
theorem FOpens.nil (off : Nat) : FOpens enc P w [] off (fun _ : Unit => []) (fun _ => True) := by
  intro cs n hl _
  exact ⟨(), List.eq_nil_of_length_eq_zero hl, trivial⟩
theorem FOpens.cons {f : Field} {fs : List Field} {off : Nat} {cells' : β → List Value} {ok' : β → Prop} (h : Opens enc P w f.type cells ok) (hck : (decide (f.offset = off) && fs.all fun g => decide (off + P.cellsOf f.type ≤ g.offset)) = true) (hfs : FOpens enc P w fs (off + P.cellsOf f.type) cells' ok') : FOpens enc P w (f :: fs) off (fun a : α × β => cells a.1 ++ cells' a.2) (fun a => ok a.1 ∧ ok' a.2) := by
  rw [Bool.and_eq_true, decide_eq_true_eq, List.all_eq_true] at hck
  obtain ⟨ho, hge0⟩ := hck
  have hge : ∀ g ∈ fs, off + P.cellsOf f.type ≤ g.offset := fun g hg => by simpa using hge0 g hg
  intro cs n hl hf
  rw [List.map_cons, List.sum_cons] at hl
  obtain ⟨y, hy⟩ := hf f (by simp)
  rw [ho, Nat.sub_self, List.drop_zero] at hy
  obtain ⟨a, ha, hka⟩ := h _ _ _ hy
  obtain ⟨b, hb, hkb⟩ := hfs (cs.drop (P.cellsOf f.type)) n (by rw [List.length_drop]; omega) (fun g hg => by
    obtain ⟨z, hz⟩ := hf g (List.mem_cons_of_mem _ hg)
    refine ⟨z, ?_⟩
    rw [List.drop_drop, show P.cellsOf f.type + (g.offset - (off + P.cellsOf f.type)) = g.offset - off by have := hge g hg; omega]
    exact hz)
  exact ⟨(a, b), by show cs = cells a ++ cells' b; rw [← ha, ← hb, List.take_append_drop], hka, hkb⟩
theorem Opens.struct {fs : Array Field} (ht : P.underlying t = some (.struct fs)) (hs : P.cellsOf t = (fs.toList.map fun f => P.cellsOf f.type).sum) (h : FOpens enc P w fs.toList 0 cells ok) : Opens enc P w t cells ok := by
  intro fuel cs x hx
  obtain ⟨xs, n, _, _, hl, hlen, hf⟩ := DataW.trod_struct ht hx
  refine h cs n (hl.trans hs) fun f hf' => ?_
  obtain ⟨i, hi⟩ := List.mem_iff_getElem?.1 hf'
  have hi' : fs[i]? = some f := by simpa using hi
  have hlt : i < xs.length := by rw [hlen]; rcases Nat.lt_or_ge i fs.size with h | h; exact h; rw [Array.getElem?_eq_none h] at hi'; cases hi'
  refine ⟨xs[i], ?_⟩
  rw [Nat.sub_zero, hf i f hi', List.getElem?_eq_getElem hlt]
theorem Opens.slice {z : Nat} (ht : P.underlying t = some (.slice e)) (hz : P.cellsOf e = z) (h0 : 0 < z) (hc : ∀ a, (cells a).length = z) (h : Opens enc P w e cells ok) :
    Opens enc P w t (fun s : Sl α => [.slice s.A s.l.length s.cap]) (fun s => s.l.length ≤ s.cap ∧ s.cap ≤ maxLen ∧ Rd w w.heap.size e z s.A s.l.length (s.l.flatMap cells) ∧ ∀ a ∈ s.l, ok a) := by
  intro fuel cs x hx
  rcases open_slice ht hx with ⟨rfl, _⟩ | ⟨a, len, cap, m, n, D, Pl, rfl, _, hl, hm, hmm, _, hi⟩
  · exact ⟨⟨none, 0, []⟩, rfl, Nat.zero_le _, Nat.zero_le _, Rd.none_, by simp⟩
  rw [hz] at hi
  have hml : len ≤ m := by rw [hmm]; simp only [if_true]; exact hl
  have hall : ∀ k, k ≤ len → ∃ l : List α, l.length = k ∧ (∀ j u, (l.flatMap cells)[j]? = some u → w.cell? (a.add j) = some u) ∧ ∀ x ∈ l, ok x := by
    intro k
    induction k with
    | zero => intro _; exact ⟨[], rfl, by simp, by simp⟩
    | succ k ih =>
      intro hk
      obtain ⟨l, hll, hlc, hlo⟩ := ih (by omega)
      obtain ⟨cs', h1, h2⟩ := hi k (by omega)
      obtain ⟨_, hlen, hcell⟩ := World.cells?_some h1
      obtain ⟨b, rfl, hb⟩ := h _ _ _ h2
      refine ⟨l ++ [b], by simp [hll], fun j u hu => ?_, fun x hx => ?_⟩
      · rw [List.flatMap_append, List.flatMap_singleton] at hu
        have hfl : (l.flatMap cells).length = k * z := by
          rw [← hll]
          clear hll hlc hlo hu
          induction l with
          | nil => simp
          | cons y l ih' => rw [List.flatMap_cons, List.length_append, hc, ih', List.length_cons, Nat.add_mul]; omega
        rcases Nat.lt_or_ge j (k * z) with hj | hj
        · rw [List.getElem?_append_left (by omega)] at hu
          exact hlc j u hu
        · rw [List.getElem?_append_right (by omega), hfl] at hu
          have hjz : j - k * z < z := by
            rcases Nat.lt_or_ge (j - k * z) z with h | h
            · exact h
            · rw [List.getElem?_eq_none (by rw [hc]; exact h)] at hu; cases hu
          have := hcell (j - k * z) hjz
          rw [Go.Proofs.YtolajmfmphkkiaaGreatDoor.add_of_add, show k * z + (j - k * z) = j by omega, hu] at this
          exact this
      · rcases List.mem_append.1 hx with hx | hx
        · exact hlo x hx
        · rw [List.mem_singleton] at hx; rw [hx]; exact hb
  obtain ⟨l, hll, hlc, hlo⟩ := hall len (Nat.le_refl _)
  have hfl : (l.flatMap cells).length = l.length * z := by
    clear hll hlc hlo
    induction l with
    | nil => simp
    | cons y l ih' => rw [List.flatMap_cons, List.length_append, hc, ih', List.length_cons, Nat.add_mul]; omega
  refine ⟨⟨some a, cap, l⟩, by simp [hll], by simp only [hll]; exact hl, hm, ⟨hfl, fun hn => ⟨a, rfl, .inl ?_, hlc⟩⟩, hlo⟩
  have hp : 0 < (l.flatMap cells).length := by rw [hfl]; exact Nat.mul_pos hn h0
  have := World.block_lt_of_cell? w _ (hlc 0 _ (List.getElem?_eq_getElem hp))
  rwa [block_of_add] at this

theorem Opens.Trod {v : Value} {d : DataW H} {p : List MemPlace} (h : Opens enc P w t cells ok) (hd : DataW.Trod enc P w 0 (fun _ => true) true t v d p) : ∃ a, v.cells.toList = cells a ∧ ok a := by
  obtain ⟨fuel, hf⟩ := hd
  exact h _ _ _ hf
theorem cells_slice {v : Value} {A : Option Addr} {n c : Nat} (h : v.cells.toList = [.slice A n c]) (hv : ∀ cs, v ≠ .agg cs) : v = .slice A n c := by
  cases v <;> simp_all [Value.cells]
end
end Go.Proofs.YtolajmfmphkkiaaGreatDoor

/- From a walk that leaves what it found to a law's row, with errors.errorType laid. -/
namespace Go.Proofs.YtolajmfmphkkiaaGreatDoor
open Go.ChangeShapes Go.WideShapes Go.RowKit

theorem own_ : ownKnob Tryz.prog.godebug = none := by kernel_rfl
theorem laidOut_ : laidOutB Tryz.prog = true := by kernel_rfl
theorem et_ : Tryz.prog.globalNamed "errors.errorType" = some 0 := by kernel_rfl
theorem rt_ : (Tryz.prog.cutTypes.find? (·.1 == "internal/reflectlite.rtype")).map (·.2) = some 153 := by kernel_rfl
theorem oneRow_ : ((List.range Tryz.prog.types.size).filter fun t => Tryz.prog.rowNamed t [101, 114, 114, 111, 114]) = [28] := by kernel_rfl

theorem typeVar_of_laid {W : World} (h : laidMetH Tryz.prog [("errors.errorType", Rows.laid_errors_errorType)] W) : TypeVar W := by
  have h' : laidMet Tryz.prog [] W ∧ handlesMet Tryz.prog [("errors.errorType", Rows.laid_errors_errorType)] W := h
  obtain ⟨name, u, ty, e1, e2, e3, e4, e5⟩ := h'.2 _ (List.mem_singleton.2 rfl)
  have en : name = [101, 114, 114, 111, 114] := (Option.some.inj e1).symm
  subst en
  obtain rfl := Option.some.inj (rt_.symm.trans e2)
  have hm : ty ∈ (List.range Tryz.prog.types.size).filter fun t => Tryz.prog.rowNamed t [101, 114, 114, 111, 114] := List.mem_filter.2 ⟨List.mem_range.2 e3, e4⟩
  rw [oneRow_] at hm
  obtain rfl := List.mem_singleton.1 hm
  have hh : typeHandle Tryz.prog 28 = .pointer (some ⟨1, 28, none⟩) := by kernel_rfl
  rw [hh] at e5
  unfold TypeVar
  simpa using World.var?_cell et_ e5 0

/-- A world that meets the condition. -/
noncomputable def laidWorld (os : Os) : World :=
  let w0 := World.holding Tryz.prog os ⟨#[], #[], []⟩
  { w0 with heap := w0.heap.modify 0 fun
      | .cells _ t frozen => .cells #[.iface 153 (.agg #[.pointer (some ⟨1, 28, none⟩)])] t frozen
      | o => o }
theorem laidWorld_met (os : Os) (args : Array Value) : laidMetH Tryz.prog [("errors.errorType", Rows.laid_errors_errorType)] ((laidWorld os).forCall (fun _ _ => 0) ⟨#[], args, []⟩).memory :=
  laidMetH_of_parts (laidMet_nil _ _) (by kernel_rfl)

theorem trodAll_below {H : Type} {enc : TypeId × Value → H} {W W' : World} (hb : Below W.heap.size W W') : ∀ {ts : List TypeId} {vs : List Value} {ds : List (DataW H)} {ps : List MemPlace},
    (∀ t ∈ ts, Tryz.prog.readableRec t = true ∧ t < Tryz.prog.types.size) → DataW.TrodAll enc Tryz.prog W 0 (fun _ => true) true ts vs ds ps → DataW.TrodAll enc Tryz.prog W' 0 (fun b => decide (b < W.heap.size)) true ts vs ds ps
  | [], [], [], _, _, h => h
  | [], _ :: _, _, _, _, h => h.elim
  | [], [], _ :: _, _, _, h => h.elim
  | _ :: _, [], _, _, _, h => h.elim
  | _ :: _, _ :: _, [], _, _, h => h.elim
  | t :: ts, v :: vs, d :: ds, ps, ht, h => by
    obtain ⟨p, q, h1, h2, rfl⟩ := h
    have hlt : ∀ x ∈ p, x.block < W.heap.size := by obtain ⟨m, hm⟩ := h1; exact DataW.trod_lt m _ _ _ hm
    exact ⟨p, q, Below.trod laidOut_ (ht t (by simp)).1 (ht t (by simp)).2 h1 hb hlt, trodAll_below hb (fun t' h' => ht t' (List.mem_cons_of_mem _ h')) h2, rfl⟩

theorem trodAll_len {H : Type} {enc : TypeId × Value → H} {W : World} : ∀ {ts : List TypeId} {vs : List Value} {ds : List (DataW H)} {ps : List MemPlace},
    DataW.TrodAll enc Tryz.prog W 0 (fun _ => true) true ts vs ds ps → ds.length = ts.length
  | [], [], [], _, _ => rfl
  | [], _ :: _, _, _, h => h.elim
  | [], [], _ :: _, _, h => h.elim
  | _ :: _, [], _, _, h => h.elim
  | _ :: _, _ :: _, [], _, h => h.elim
  | t :: ts, v :: vs, d :: ds, ps, h => by
    obtain ⟨p, q, _, h2, _⟩ := h
    simp [trodAll_len h2]
section
variable {H : Type} {enc : TypeId × Value → H}
set_option maxRecDepth 100000 in
/-- The row's step, whatever the law. -/
theorem lift_ (os : Os) (started : os.Started) (f : FuncId) (fn : Func) (s : ChangeSpec) (ws : Array Value) (fuel : Nat) (hvars : s.vars = [])
    (noInit : Tryz.prog.inits.idxOf? f = none) (hfn : Tryz.prog.funcs[f]? = some fn) (hres : fn.resultTypes = #[4])
    (hok : Input.okWideB Tryz.prog ((laidWorld os).forCall (fun _ _ => 0) ⟨#[], ws, []⟩) f ⟨#[], ws, []⟩ = true)
    (hpre : s.preB enc Tryz.prog fn [] false ((laidWorld os).forCall (fun _ _ => 0) ⟨#[], ws, []⟩).memory ws fuel = true)
    (hsz : s.sizedB enc Tryz.prog fn false ((laidWorld os).forCall (fun _ _ => 0) ⟨#[], ws, []⟩).memory ws fuel = true)
    (hspec : ∀ ds : List (DataW H), ds.length = fn.params.toList.length → s.fn H (ds ++ []) = { results := [.lit (.bool true)], args := ds })
    (hread : ∀ t ∈ fn.params.toList, Tryz.prog.readableRec t = true ∧ t < Tryz.prog.types.size)
    (walk : ∀ (W : World) (base : Nat) (args : Array Value) (ds : List (DataW H)) (p : List MemPlace), (∀ (j : Nat) t v, fn.params[j]? = some t → args[j]? = some v → Value.okWide Tryz.prog W .any base t v) →
      DataW.TrodAll enc Tryz.prog W 0 (fun _ => true) true fn.params.toList args.toList ds p → TypeVar W → Calls Tryz.prog f args W (BoolPost W true)) :
    ReturnsInHanded {} Tryz.checked os f .any (fun w args => (s.pre enc Tryz.prog fn [] false w args ∧ laidMetH Tryz.prog [("errors.errorType", Rows.laid_errors_errorType)] w) ∧ sizedMet enc Tryz.prog fn (OpenSpec.ofChange s) false w args)
      (s.post enc Tryz.prog fn false true false false) := by
  refine returnsInHanded_of_change_and (C := Tryz.checked) (X := fun w _ => laidMetH Tryz.prog [("errors.errorType", Rows.laid_errors_errorType)] w) (fun _ _ _ hh h => h.of_heap hh) own_ started noInit hfn
    (ChangeSpec.witness_at (enc := enc) (C := Tryz.checked) (os := os) (X := fun w _ => laidMetH Tryz.prog [("errors.errorType", Rows.laid_errors_errorType)] w) false (laidWorld os) ws fuel rfl (by kernel_rfl) (by kernel_rfl) hok hpre hsz (laidWorld_met os _)) ?_
  intro W base args ds gs before hval hW _ _ hL _
  have hW' := hW
  obtain ⟨p, q, hA, hV, rfl, hfz, hnd⟩ := hW
  rw [hvars] at hV
  have hg0 : gs = [] ∧ q = [] := by
    cases gs with
    | nil => exact ⟨rfl, hV⟩
    | cons g r => exact absurd hV (by intro h; cases h)
  obtain ⟨rfl, rfl⟩ := hg0
  have hlen : ds.length = fn.params.toList.length := trodAll_len hA
  refine (walk W base args ds p hval hA (typeVar_of_laid hL)).mono fun e W' ⟨he, hb⟩ => ?_
  subst he
  refine ⟨_, rfl, _, _, _, [], p, [], hW', ?_, ?_, ?_, hb.frame _, fun h => by cases h⟩
  · rw [hspec ds hlen, hres]
    exact trodAll_mk1 (shut_bool Tryz.underlying4 true)
  · rw [hspec ds hlen]
    exact trodAll_below hb hread hA
  · rw [hspec ds hlen, hvars]
    rfl
end
end Go.Proofs.YtolajmfmphkkiaaGreatDoor

/- The arguments of this seat's laws, opened. -/
namespace Go.Proofs.YtolajmfmphkkiaaGreatDoor
open Go.ChangeShapes Go.WideShapes Go.RowKit

theorem i64_wf {n : Int} (h : (Lit.int .i64 n).wf = true) : I64 n := by
  have h' : (decide (IntKind.i64.min ≤ n) && decide (n ≤ IntKind.i64.max)) = true := h
  rw [Bool.and_eq_true, decide_eq_true_eq, decide_eq_true_eq] at h'
  have e1 : IntKind.i64.min = -9223372036854775808 := by decide
  have e2 : IntKind.i64.max = 9223372036854775807 := by decide
  unfold I64
  omega
set_option maxRecDepth 100000 in
theorem opens_row {H : Type} {enc : TypeId × Value → H} {W : World} : Opens enc Tryz.prog W 221 rwC (fun r => I64 r.k ∧ I64 r.v) :=
  (Opens.struct Tryz.underlying221 (by kernel_rfl) (FOpens.cons (Opens.int Tryz.underlying3) (by kernel_rfl) (FOpens.cons (Opens.int Tryz.underlying3) (by kernel_rfl) (FOpens.nil _)))).map (fun a => (⟨a.1, a.2.1⟩ : Rw)) (fun _ => rfl) (fun _ h => ⟨i64_wf h.1, i64_wf h.2.1⟩)
def slC {α : Type} (s : Sl α) : List Value := [.slice s.A s.l.length s.cap]
def slOk {α : Type} (W : World) (e : TypeId) (z : Nat) (cells : α → List Value) (ok : α → Prop) (s : Sl α) : Prop := s.l.length ≤ s.cap ∧ s.cap ≤ maxLen ∧ Rd W W.heap.size e z s.A s.l.length (s.l.flatMap cells) ∧ ∀ a ∈ s.l, ok a
theorem opens_rows {H : Type} {enc : TypeId × Value → H} {W : World} : Opens enc Tryz.prog W 47 slC (slOk W 221 2 rwC (fun r => I64 r.k ∧ I64 r.v)) :=
  Opens.slice Tryz.underlying47 (by kernel_rfl) (by decide) (fun _ => rfl) opens_row
set_option maxRecDepth 100000 in
theorem opens_op {H : Type} {enc : TypeId × Value → H} {W : World} : Opens enc Tryz.prog W 80 opC (fun _ => True) :=
  (Opens.struct Tryz.underlying80 (by kernel_rfl) (FOpens.cons (Opens.int Tryz.underlying3) (by kernel_rfl) (FOpens.cons (Opens.int Tryz.underlying3) (by kernel_rfl) (FOpens.cons (Opens.int Tryz.underlying3) (by kernel_rfl) (FOpens.cons (Opens.int Tryz.underlying3) (by kernel_rfl) (FOpens.cons (Opens.int Tryz.underlying3) (by kernel_rfl) (FOpens.nil _))))))).map
    (fun a => (⟨a.1, a.2.1, a.2.2.1, a.2.2.2.1, a.2.2.2.2.1⟩ : OpD)) (fun _ => rfl) (fun _ _ => trivial)
theorem opens_ops {H : Type} {enc : TypeId × Value → H} {W : World} : Opens enc Tryz.prog W 22 slC (slOk W 80 5 opC (fun _ => True)) :=
  Opens.slice Tryz.underlying22 (by kernel_rfl) (by decide) (fun _ => rfl) opens_op
theorem opens_ints {H : Type} {enc : TypeId × Value → H} {W : World} : Opens enc Tryz.prog W 25 slC (slOk W 3 1 (fun n : Int => [.int .i64 n]) (fun n => (Lit.int .i64 n).wf = true)) :=
  Opens.slice Tryz.underlying25 (by kernel_rfl) (by decide) (fun _ => rfl) (Opens.int Tryz.underlying3)
structure PlC where
  parts : Int
  s : Sl OpD
set_option maxRecDepth 100000 in
theorem opens_plan {H : Type} {enc : TypeId × Value → H} {W : World} : Opens enc Tryz.prog W 24 (fun a : PlC => [.int .i64 a.parts] ++ slC a.s) (fun a => slOk W 80 5 opC (fun _ => True) a.s) :=
  (Opens.struct Tryz.underlying24 (by kernel_rfl) (FOpens.cons (Opens.int Tryz.underlying3) (by kernel_rfl) (FOpens.cons opens_ops (by kernel_rfl) (FOpens.nil _)))).map (fun a => (⟨a.1, a.2.1⟩ : PlC)) (fun _ => rfl) (fun _ h => h.2.1)
set_option maxRecDepth 100000 in
theorem arg_slice {H : Type} {enc : TypeId × Value → H} {W : World} {base : Nat} {t e : TypeId} {α : Type} {ok : Sl α → Prop} {v : Value} {d : DataW H} {p : List MemPlace} (ht : Tryz.prog.underlying t = some (.slice e)) (ho : Opens enc Tryz.prog W t slC ok)
    (hv : Value.okWide Tryz.prog W .any base t v) (hd : DataW.Trod enc Tryz.prog W 0 (fun _ => true) true t v d p) : ∃ s : Sl α, v = .slice s.A s.l.length s.cap ∧ ok s := by
  obtain ⟨A, n, c, rfl⟩ := okWide_slice ht hv
  obtain ⟨s, hs, hk⟩ := ho.Trod hd
  refine ⟨s, ?_, hk⟩
  simpa [Value.cells, slC] using hs
set_option maxRecDepth 100000 in
theorem arg_plan {H : Type} {enc : TypeId × Value → H} {W : World} {base : Nat} {v : Value} {d : DataW H} {p : List MemPlace} (hv : Value.okWide Tryz.prog W .any base 24 v) (hd : DataW.Trod enc Tryz.prog W 0 (fun _ => true) true 24 v d p) :
    ∃ (q : PlanD) (A : Option Addr) (c : Nat), v = planV q A c ∧ RdS W (· < W.heap.size) 5 A q.ops.length (opsC q.ops) := by
  obtain ⟨cs, rfl, _⟩ := okWide_struct Tryz.underlying24 hv
  obtain ⟨x, hx, h1, h2, h3, _⟩ := opens_plan.Trod hd
  refine ⟨⟨x.parts, x.s.l⟩, x.s.A, x.s.cap, ?_, RdS.of_rd h3 (by decide)⟩
  have hx' : cs.toList = [.int .i64 x.parts, .slice x.s.A x.s.l.length x.s.cap] := hx
  congr 1
  exact Array.ext' (by rw [hx'])
set_option maxRecDepth 100000 in
theorem arg_int {H : Type} {enc : TypeId × Value → H} {W : World} {base : Nat} {v : Value} {d : DataW H} {p : List MemPlace} (hv : Value.okWide Tryz.prog W .any base 3 v) (hd : DataW.Trod enc Tryz.prog W 0 (fun _ => true) true 3 v d p) : ∃ n : Int, v = .int .i64 n ∧ I64 n := by
  obtain ⟨n, rfl, _, _, hw⟩ := open_int Tryz.underlying3 hv hd
  exact ⟨n, rfl, i64_wf hw⟩
end Go.Proofs.YtolajmfmphkkiaaGreatDoor

namespace Go.Proofs.YtolajmfmphkkiaaGreatDoor
open Go.ChangeShapes Go.WideShapes Go.RowKit

set_option maxRecDepth 100000 in
theorem driverMarks_lifted (os : Os) (started : os.Started) (H : Type) (enc : TypeId × Value → H) :
    ReturnsInHanded {} Tryz.checked os 3 .any (fun w args => (Rows.driverMarksSpec.pre enc Tryz.prog Tryz.f3 [] false w args ∧ laidMetH Tryz.prog [("errors.errorType", Rows.laid_errors_errorType)] w) ∧ sizedMet enc Tryz.prog Tryz.f3 (OpenSpec.ofChange Rows.driverMarksSpec) false w args)
      (Rows.driverMarksSpec.post enc Tryz.prog Tryz.f3 false true false false) := by
  refine lift_ os started 3 Tryz.f3 Rows.driverMarksSpec #[.agg #[.int .i64 0, .slice none 0 0], .int .i64 0, .slice none 0 0] 8 rfl (by kernel_rfl) Tryz.func3 (by kernel_rfl) (by kernel_rfl) (by kernel_rfl) (by kernel_rfl) ?_ ?_ ?_
  · intro ds hl
    rw [Tryz.params3] at hl
    obtain ⟨a, b, c, rfl⟩ : ∃ a b c, ds = [a, b, c] := by
      match ds, hl with
      | [a, b, c], _ => exact ⟨a, b, c, rfl⟩
    rfl
  · rw [Tryz.params3]
    intro t ht
    simp only [List.mem_cons, List.not_mem_nil, or_false] at ht
    rcases ht with rfl | rfl | rfl <;> exact ⟨by kernel_rfl, of_decide_eq_true (by kernel_rfl)⟩
  · intro W base args ds p hval hA hg
    rw [Tryz.params3] at hA hval
    obtain ⟨v0, v1, v2, d0, d1, d2, p0, p1, p2, rfl, rfl, rfl, h0, h1, h2⟩ := trodAll_three hA
    obtain ⟨q, A, c, rfl, k0⟩ := arg_plan (hval 0 _ v0 rfl rfl) h0
    obtain ⟨n, rfl, _⟩ := arg_int (hval 1 _ v1 rfl rfl) h1
    obtain ⟨s1, rfl, k1⟩ := arg_slice Tryz.underlying25 opens_ints (hval 2 _ v2 rfl rfl) h2
    exact marks_c W ⟨k0, RdS.of_rd (by have h5 := k1.2.2.1; rw [show s1.l.flatMap (fun n : Int => [(.int .i64 n : Value)]) = ordC s1.l from by unfold ordC; induction s1.l with | nil => rfl | cons a l ih => rw [List.flatMap_cons, ih]; rfl] at h5; exact h5) (by decide), hg⟩

theorem driverMarks_row : Rows.DriverMarksSaid :=
  OpenClaim.holds_of_wide 3 Tryz.f3 rfl rfl rfl rfl rfl rfl rfl ⟨rfl, rfl, rfl, rfl, rfl⟩ rfl rfl rfl rfl rfl (by kernel_rfl) Tryz.func3 (by kernel_rfl)
    (of_decide_eq_true (by kernel_rfl)) (by unfold Func.isWrapper; rw [if_neg (of_decide_eq_false (by kernel_rfl))]; exact ⟨rfl, rfl⟩)
    (fun os started H enc _ => driverMarks_lifted os started H enc)

theorem driverMarks_holds : Rows.DriverMarksCardSaid :=
  Claim7.holds_tied_plain_at .later [] [.handle] true (true, "c5aa59a4ccb82a0eead9d5516945580cabe980069dd498ab984b9d8cfffb57af") true
    driverMarks_row (fun _ h => by cases h) (by kernel_rfl) (fun _ h => by cases h) driverMarks_row_tie rfl ⟨rfl, rfl⟩ (by kernel_rfl) rfl
    (fun f fn hf hfn => by
      obtain rfl : f = 3 := Option.some.inj ((show Tryz.prog.funcNamed "tributary/tributarylaw17.DriverMarks" = some 3 by kernel_rfl).symm.trans hf) |>.symm
      obtain rfl : fn = Tryz.f3 := (Option.some.inj (Tryz.func3.symm.trans hfn)).symm
      exact ⟨by kernel_rfl, fun j t ht => by
        rw [Tryz.params3] at ht
        have hm : t ∈ [24, 3, 25] := by
          have := List.mem_of_getElem? (by simpa using ht : ([24, 3, 25] : List TypeId)[j]? = some t)
          exact this
        simp only [List.mem_cons, List.not_mem_nil, or_false] at hm
        rcases hm with rfl | rfl | rfl
        · exact (show Tryz.prog.wantsStandIn 24 = false by kernel_rfl)
        · exact (show Tryz.prog.wantsStandIn 3 = false by kernel_rfl)
        · exact (show Tryz.prog.wantsStandIn 25 = false by kernel_rfl)⟩)
    (by kernel_rfl)
#print axioms driverMarks_holds
end Go.Proofs.YtolajmfmphkkiaaGreatDoor
