/- LogF, LogG, KitB, CkA, CkB, CkC, WayN: laid together. -/
import Derived.Test.YtipfoljmdeiggaaGreatDoorPwG
import Derived.Test.YtipfoljmdeiggaaGreatDoorPwB
import Derived.Test.YtipfoljmdeiggaaGreatDoorPwF

/- Records on a disk: Append of the program. -/
namespace Go.Proofs.YtipfoljmdeiggaaGreatDoor
open Go.RowKit Go.Sort

/-- m blocks of a record, from the k-th on: the disk, and whether all were kept. -/
def writeAll (r p : Nat) (b : List Nat) : Nat → Nat → DiskD → DiskD × Bool
  | 0, _, d => (d, true)
  | m + 1, k, d => if (d.write (p + k) (blockB r b k)).2 then writeAll r p b m (k + 1) (d.write (p + k) (blockB r b k)).1 else ((d.write (p + k) (blockB r b k)).1, false)
/-- What becomes of the disk when a record is appended, and the error's number. -/
def appendD (d : DiskD) (life n next : Nat) (b : List Nat) : DiskD × Option Int :=
  if goneD d life then (d, some 70)
  else if d.room - next < blocksN b.length then (d, some 71)
  else let x := writeAll (n + 1) next b (blocksN b.length) 0 d; (x.1, if x.2 then none else some 70)
theorem TypeVar.fr {S : Nat → Prop} {w w' : World} (h : TypeVar w) (hf : Fr S w w') (hn : ¬ S 0) : TypeVar w' := by
  have hl := World.block_lt_of_cell? w _ h
  exact (World.cell?_of_block (a := ⟨0, 0, none⟩) (hf.block _ hl hn)).trans h
def LAppPost (B db lb life n next : Nat) (R : Nat → Prop) (nb : Nat) (x : DiskD × Option Int) (w : World) (e : Ending) (w' : World) : Prop :=
  (x.2 = none → e = .returned .nilIface ∧ LogAt w' lb db life (n + 1) (next + nb)) ∧ (∀ c, x.2 = some c → ∃ v at_, e = .returned v ∧ ErrAt w' v at_ c ∧ LogAt w' lb db life n next) ∧
  ∃ R' : Nat → Prop, DiskIs B db R' x.1 w' ∧ Fr (fun k => R k ∨ k = lb) w w' ∧ (∀ k, R' k → R k ∨ w.heap.size ≤ k)
theorem write_room (d : DiskD) (n : Nat) (l : List Nat) : (d.write n l).1.room = d.room := by
  unfold DiskD.write
  split
  · rfl
  · split <;> rfl
theorem write_life {d : DiskD} {n : Nat} {l : List Nat} (h : (d.write n l).2 = true) : (d.write n l).1.life = d.life := by
  unfold DiskD.write at h ⊢
  split
  · rfl
  · next h1 =>
    rw [if_neg h1] at h
    split
    · next h2 => rw [if_pos h2] at h; cases h
    · rfl
theorem write_down {d : DiskD} {n : Nat} {l : List Nat} (h : (d.write n l).2 = true) : (d.write n l).1.down = false := by
  unfold DiskD.write at h ⊢
  split
  · next h1 => rw [if_pos h1] at h; cases h
  · next h1 =>
    rw [if_neg h1] at h
    split
    · next h2 => rw [if_pos h2] at h; cases h
    · rfl
theorem part_slice (b : List Nat) (k : Nat) : partB b k = (b.take (min (56 * (k + 1)) b.length)).drop (56 * k) := by
  unfold partB
  rw [List.drop_take]
  by_cases h : 56 * (k + 1) ≤ b.length
  · rw [Nat.min_eq_left h]
    congr 1
    omega
  · rw [Nat.min_eq_right (by omega), List.take_of_length_le (by rw [List.length_drop]; omega), List.take_of_length_le (by rw [List.length_drop]; omega)]
theorem RdS.sub {w : World} {S : Nat → Prop} {ad : Addr} {n u m : Nat} {xs : List Value} (h : RdS w S 1 (some ad) n xs) (hu : u + m ≤ n) : RdS w S 1 (some (ad.add (u * 1))) m ((xs.drop u).take m) := by
  have hl := h.1
  refine ⟨by rw [List.length_take, List.length_drop]; omega, fun h0 => ?_⟩
  obtain ⟨ad', hA, hS, hlt, hc⟩ := h.2 (by omega)
  injection hA with hA
  subst hA
  refine ⟨_, rfl, by rw [block_of_add]; exact hS, by rw [block_of_add]; exact hlt, fun j v hv => ?_⟩
  rw [List.getElem?_take] at hv
  split at hv
  · rw [List.getElem?_drop] at hv
    have := hc (u + j) v hv
    rw [add_of_add, Nat.mul_one]
    exact this
  · cases hv
theorem part_bytes (b : List Nat) (k m : Nat) (hm : m = (partB b k).length) : bytesC (partB b k) = ((bytesC b).drop (k * 56)).take m := by
  unfold bytesC partB at *
  rw [List.map_take, List.map_drop, Nat.mul_comm]
  rw [List.length_take, List.length_drop] at hm
  by_cases h : 56 ≤ b.length - 56 * k
  · rw [show m = 56 by omega, Nat.mul_comm]
  · rw [List.take_of_length_le (by simp; omega), List.take_of_length_le (by simp; omega), Nat.mul_comm]
section
variable {B db lb life n next : Nat} {R : Nat → Prop} {d : DiskD}
set_option maxRecDepth 100000 in
set_option maxHeartbeats 16000000 in
theorem lAppend_c (S : Nat → Prop) (b : List Nat) (A : Option Addr) (c : Nat) (w : World) (h : DiskIs B db R d w) (hL : LogAt w lb db life n next) (hlb : ¬ R lb) (hlbB : B ≤ lb) (hg : TypeVar w) (hgB : 0 < B)
    (hr : RdS w S 1 A b.length (bytesC b)) (hS : ∀ k, S k → ¬ R k ∧ k ≠ lb) (hby : ∀ x ∈ b, x < 256) (hb0 : 0 < b.length) (hbl : b.length ≤ 1000000) (hbc : b.length ≤ c) (hn : n ≤ 65536) (hnx : next ≤ d.room) (hlf : d.life + 1 ≤ 1000000) :
    Calls Tryz.prog 19 #[.pointer (some ⟨lb, 0, none⟩), .slice A b.length c] w (LAppPost B db lb life n next R (blocksN b.length) (appendD d life n next b) w) := by
  have HD := Lib.hid h
  have HL := Lib.hid hL
  have hroom := h.room_le
  have HG := Lib.hid (gone_c w h hL)
  have HLe := Lib.hid (fun W h hl => left_c (B := B) (db := db) (lb := lb) (life := life) (n := n) (next := next) (R := R) (d := d) W h hl hnx)
  have hll := hL.lt
  have hlbw : lb < w.heap.size := hL.lt
  have hbp := blocksN_pos b.length
  have hnb : blocksN b.length ≤ 20000 := by unfold blocksN; omega
  cases hgn : goneD d life with
  | true =>
    have HA := Lib.hid (show appendD d life n next b = (d, some 70) from by unfold appendD; rw [if_pos hgn])
    rw [hgn] at HG
    clear h hL hg hr hS hby hgn
    go_enter Tryz.func19, Tryz.ntmps19
    go_wp2_with (first
      | (go_at_call 102; refine HG.out.mono ?_; rintro e w1 ⟨rfl, hb⟩; have HB1 := Lib.hid hb; clear hb)
      | (go_at_call 95; refine (logFault_c 0 _ 70 _ rfl).mono ?_; rintro e w2 ⟨v, rfl, hE, hb⟩; have HE := Lib.hid hE; have HB2 := Lib.hid (ext_trans HB1.out hb); clear hE hb))
    go_ret
    rw [HA.out]
    exact ⟨(fun h => by cases h), (fun c' h => by cases h; exact ⟨v, 0, rfl, HE.out, HL.out.ext HB2.out⟩), R, HD.out.ext HB2.out, Fr.of_below HB2.out, fun k hk => .inl hk⟩
  | false =>
    rw [hgn] at HG
    have hdn : d.down = false ∧ d.life = life := by
      unfold goneD at hgn
      simp only [Bool.or_eq_false_iff, decide_eq_false_iff_not, ne_eq, Decidable.not_not] at hgn
      exact ⟨hgn.1, hgn.2⟩
    by_cases hfull : d.room - next < blocksN b.length
    · have HA := Lib.hid (show appendD d life n next b = (d, some 71) from by unfold appendD; rw [if_neg (by rw [hgn]; simp), if_pos hfull])
      have hfi : ((d.room - next : Nat) : Int) < (blocksN b.length : Nat) := by omega
      obtain ⟨nb, hnbe⟩ : ∃ nb, nb = blocksN b.length := ⟨_, rfl⟩
      have HBk := Lib.hid (blocks_c b.length)
      rw [← hnbe] at hfi HBk ⊢
      clear h hL hg hr hS hby hgn hfull hnbe hdn
      go_enter Tryz.func19, Tryz.ntmps19
      go_wp2_with (first
        | (go_at_call 102; refine HG.out.mono ?_; rintro e w1 ⟨rfl, hb⟩; have HB1 := Lib.hid hb; clear hb)
        | (go_at_call 103; refine (HBk.out _ hbl).mono ?_; rintro e w' ⟨rfl, rfl⟩)
        | (go_at_call 104; refine (HLe.out _ (HD.out.ext HB1.out) (HL.out.ext HB1.out)).mono ?_; rintro e w2 ⟨rfl, hb⟩; have HB2 := Lib.hid (ext_trans HB1.out hb); clear hb)
        | (go_at_call 95; refine (logFault_c 0 _ 71 _ rfl).mono ?_; rintro e w3 ⟨v, rfl, hE, hb⟩; have HE := Lib.hid hE; have HB3 := Lib.hid (ext_trans HB2.out hb); clear hE hb))
      go_ret
      rw [HA.out]
      exact ⟨(fun h => by cases h), (fun c' h => by cases h; exact ⟨v, 0, rfl, HE.out, HL.out.ext HB3.out⟩), R, HD.out.ext HB3.out, Fr.of_below HB3.out, fun k hk => .inl hk⟩
    · have hfi : ¬ ((d.room - next : Nat) : Int) < (blocksN b.length : Nat) := by omega
      obtain ⟨nb, hnbe⟩ : ∃ nb, nb = blocksN b.length := ⟨_, rfl⟩
      have HA := Lib.hid (show appendD d life n next b = ((writeAll (n + 1) next b nb 0 d).1, if (writeAll (n + 1) next b nb 0 d).2 then none else some 70) from by unfold appendD; rw [if_neg (by rw [hgn]; simp), if_neg hfull, hnbe])
      have HBk := Lib.hid (blocks_c b.length)
      have HR := Lib.hid hr
      have HBy := Lib.hid hby
      have HSd := Lib.hid hS
      have HTV := Lib.hid hg
      have HNB := Lib.hid hnbe
      have hnbl : nb ≤ 20000 := by omega
      have hnbr : next + nb ≤ d.room := by omega
      have hnb56 : 56 * nb ≤ b.length + 55 := by rw [hnbe]; unfold blocksN; omega
      rw [← hnbe] at hfi HBk ⊢
      obtain ⟨ad, hAd, _⟩ := hr.cell hb0
      subst hAd
      have HLw := hlbw
      have hdn1 := Lib.hid hdn.1
      have hdn2 := Lib.hid hdn.2
      have z1 := Lib.hid (show ∀ k, R k → B ≤ k from fun k hk => (h.bd k hk).1)
      have hfull' : ¬ d.room - next < nb := by rw [hnbe]; exact hfull
      clear h hL hg hr hS hby hgn hfull hnbe hdn
      go_enter Tryz.func19, Tryz.ntmps19
      go_wp2_with (first
        | (go_at_call 102; refine HG.out.mono ?_; rintro e w1 ⟨rfl, hb⟩; have HB1 := Lib.hid hb; clear hb)
        | (go_at_call 103; refine (HBk.out _ hbl).mono ?_; rintro e w' ⟨rfl, rfl⟩)
        | (go_at_call 104; refine (HLe.out _ (HD.out.ext HB1.out) (HL.out.ext HB1.out)).mono ?_; rintro e w2 ⟨rfl, hb⟩; have HB2 := Lib.hid (ext_trans HB1.out hb); clear hb))
      go_loopg [4, 26] nb (fun gk v4 v26 wr => ∃ (k : Nat) (dk : DiskD) (Rk : Nat → Prop), k + gk = nb ∧ v26 = .int .i64 (k : Nat) ∧ v4 = .nilIface ∧ DiskIs B db Rk dk wr ∧ LogAt wr lb db life n next ∧ Fr R w wr ∧ (∀ k, Rk k → R k ∨ w.heap.size ≤ k) ∧
        Hid (dk.down = false ∧ dk.life = d.life) ∧ Hid (dk.room = d.room) ∧ Hid (writeAll (n + 1) next b nb 0 d = writeAll (n + 1) next b gk k dk))
      case atStart => exact ⟨0, d, R, by omega, rfl, rfl, HD.out.ext HB2.out, HL.out.ext HB2.out, Fr.of_below HB2.out, fun k hk => .inl hk, Lib.hid ⟨hdn1.out, rfl⟩, Lib.hid rfl, Lib.hid rfl⟩
      case round =>
        obtain ⟨k, dk, Rk, hkg, rfl, rfl, hD, hL, hF, hRk, hdk, hrm, hwr⟩ := hrel
        have HDk := Lib.hid hD
        have HLk := Lib.hid hL
        have HF := Lib.hid hF
        have HRk := Lib.hid hRk
        clear hD hL hF hRk
        by_cases hk : k < nb
        · obtain ⟨g, rfl⟩ : ∃ g, gk = g + 1 := ⟨gk - 1, by omega⟩
          have hul : 56 * k < b.length := by omega
          have hkI : (k : Int) < (nb : Nat) := by omega
          obtain ⟨pl, hpl⟩ : ∃ pl, pl = (partB b k).length := ⟨_, rfl⟩
          have hpl2 : pl = min 56 (b.length - 56 * k) := by rw [hpl]; unfold partB; rw [List.length_take, List.length_drop]
          have HPL := Lib.hid hpl
          have HPL2 := Lib.hid hpl2
          clear hpl hpl2
          go_upto_region 9 with fail
          go_cut [7] (fun v7 wx => v7 = .slice (some (ad.add (k * 56))) pl (c - k * 56) ∧ wr = wx)
          case first =>
            by_cases h56 : 56 * k + 56 ≤ b.length
            · have hn1 : ¬ (b.length : Int) < (56 * k + 56 : Nat) := by omega
              go_wp2_with fail
              go_meet
              exact ⟨by rw [show pl = (k + 1) * 56 - k * 56 by have := HPL2.out; omega], rfl⟩
            · have hn1 : (b.length : Int) < (56 * k + 56 : Nat) := by omega
              go_wp2_with fail
              go_meet
              exact ⟨by rw [show pl = b.length - k * 56 by have := HPL2.out; omega], rfl⟩
          case rest =>
            obtain ⟨rfl, rfl⟩ := hcut
            have HRc := Lib.hid (show RdS wr S 1 (some (ad.add (k * 56))) pl (bytesC (partB b k)) from by
              have h1 := ((HR.out.fr HF.out (fun k hk => (HSd.out k hk).1))).sub (u := k * 56) (m := pl) (by have := HPL2.out; omega)
              rw [part_bytes b k pl HPL.out]
              rw [Nat.mul_one] at h1
              exact h1)
            have HPby := Lib.hid (show ∀ x ∈ partB b k, x < 256 from fun x hx => HBy.out x (List.mem_of_mem_drop (List.mem_of_mem_take hx)))
            have hpl56 : pl ≤ 56 := by have := HPL2.out; omega
            obtain ⟨n1, hn1⟩ : ∃ n1, n1 = n + 1 := ⟨_, rfl⟩
            obtain ⟨p1, hp1⟩ : ∃ p1, p1 = next + k := ⟨_, rfl⟩
            obtain ⟨m1, hm1⟩ : ∃ m1, m1 + 1 = nb := ⟨nb - 1, by omega⟩
            have en : IntKind.i64.wrap ((n : Int) + 1) = (n1 : Nat) := by rw [show (n : Int) + 1 = (n1 : Nat) by omega]; exact IntWalk.i64_in _ (by omega)
            have ep : IntKind.i64.wrap ((next : Int) + (k : Nat)) = (p1 : Nat) := by rw [show (next : Int) + (k : Nat) = (p1 : Nat) by omega]; exact IntWalk.i64_in _ (by omega)
            have em : IntKind.i64.wrap ((nb : Int) - 1) = (m1 : Nat) := by rw [show (nb : Int) - 1 = (m1 : Nat) by omega]; exact IntWalk.i64_in _ (by omega)
            have ht : ((k : Int) == (m1 : Int)) = lastB b k := by
              unfold lastB
              rw [← HNB.out, ← hm1, Bool.eq_iff_iff, beq_iff_eq, decide_eq_true_iff]
              omega
            have hp1d : p1 < d.room := by omega
            have hn1l : n1 ≤ 1000000 := by omega
            have HN1 := Lib.hid hn1
            have HP1 := Lib.hid hp1
            have HM1 := Lib.hid hm1
            clear hn1 hp1 hm1
            obtain ⟨la, hls⟩ : ∃ la, la = lastB b k := ⟨_, rfl⟩
            rw [← hls] at ht
            have HW := Lib.hid (show headB n1 k la ++ partB b k = blockB (n + 1) b k from by unfold blockB; rw [hls, HN1.out])
            have HWr := Lib.hid (fun A c W h hr hS => dWrite_c (B := B) (db := db) (R := Rk) (d := dk) (fun k => wr.heap.size ≤ k) p1 (blockB (n + 1) b k) A c W h (by rw [hrm.out]; exact hp1d) hr hS (blockB_byte HBy.out) (by have := blockB_len (r := n + 1) (k := k) b (by omega) (by omega); omega) (by rw [hdk.out.2]; exact hlf))
            have HSt := Lib.hid (show writeAll (n + 1) next b nb 0 d = (if (dk.write p1 (blockB (n + 1) b k)).2 then writeAll (n + 1) next b g (k + 1) (dk.write p1 (blockB (n + 1) b k)).1 else ((dk.write p1 (blockB (n + 1) b k)).1, false)) from by rw [hwr.out, writeAll, ← HP1.out])
            clear hls
            cases hok : (dk.write p1 (blockB (n + 1) b k)).2 with
            | true =>
              have HOk := Lib.hid hok
              rw [hok] at HSt
              clear hok
              have y0 : wr.cell? ⟨lb, 0, none⟩ = some (.pointer (some ⟨db, 0, none⟩)) := (HLk.out.cell 0).trans rfl
              have y2 : wr.cell? ⟨lb, 2, none⟩ = some (.int .i64 (n : Nat)) := (HLk.out.cell 2).trans rfl
              have y3 : wr.cell? ⟨lb, 3, none⟩ = some (.int .i64 (next : Nat)) := (HLk.out.cell 3).trans rfl
              have hwl := HLk.out.lt
              go_wp2_with fail
              go_region_held3 (fun w' => w'.cell? ⟨lb, 0, none⟩ = some (.pointer (some ⟨db, 0, none⟩)) ∧ w'.cell? ⟨lb, 2, none⟩ = some (.int .i64 (n : Nat)) ∧ w'.cell? ⟨lb, 3, none⟩ = some (.int .i64 (next : Nat)))
                (go_keep)
                (first
                  | (go_at_call 106; refine (head_c n1 k _ _ hn1l (by omega)).mono ?_
                     rintro e w5 ⟨A5, c5, rfl, hown, hb⟩
                     have HB5 := Lib.hid (show Below wr.heap.size wr w5 from ext_trans (below_drewN (Below.refl _ _) 1) hb)
                     have HP5 := Lib.hid (show Rd w5 w5.heap.size 5 1 (some (ad.add (k * 56))) pl ((partB b k).flatMap byC) from (by rw [bytesC_flat]; exact (HRc.out.ext HB5.out).rd (Nat.le_refl _)))
                     have HO5 := Lib.hid (show w5.ownsRow wr.heap.size 5 1 _ _ _ from hown)
                     have HL5 := Lib.hid (HLk.out.ext HB5.out)
                     have q0 : w5.cell? ⟨lb, 0, none⟩ = some (.pointer (some ⟨db, 0, none⟩)) := (HL5.out.cell 0).trans rfl
                     have q2 : w5.cell? ⟨lb, 2, none⟩ = some (.int .i64 (n : Nat)) := (HL5.out.cell 2).trans rfl
                     have q3 : w5.cell? ⟨lb, 3, none⟩ = some (.int .i64 (next : Nat)) := (HL5.out.cell 3).trans rfl
                     have q4 := HL5.out.lt
                     clear hown hb)
                  | (have hx := HO5.out.1; clear hx
                     refine step_appR byte_app _ rfl (.tmp 63) (.tmp 64) rfl wr.heap.size (.slice A5 (headB n1 k la).length c5) (headB n1 k la) (by rfl) HO5.out (partB b k) w5.heap.size (some (ad.add (k * 56))) pl (c - k * 56) (by rfl) HPL.out (HP5.out) (by have := HPL.out; have := headB_len la hn1l (show k ≤ 1000000 by omega); omega) (by have := HB5.out.size; omega) ?_
                     rw [HW.out]
                     intro A6 c6 w6 hown6 hg6 hc6
                     have HB6 := Lib.hid (below_grownOwn HB5.out HO5.out (Nat.le_refl _) hg6)
                     have HO6 := Lib.hid hown6
                     have HC6 := Lib.hid hc6
                     have HL6 := Lib.hid (HLk.out.ext HB6.out)
                     have q0 : w6.cell? ⟨lb, 0, none⟩ = some (.pointer (some ⟨db, 0, none⟩)) := (HL6.out.cell 0).trans rfl
                     have q2 : w6.cell? ⟨lb, 2, none⟩ = some (.int .i64 (n : Nat)) := (HL6.out.cell 2).trans rfl
                     have q3 : w6.cell? ⟨lb, 3, none⟩ = some (.int .i64 (next : Nat)) := (HL6.out.cell 3).trans rfl
                     have q4 := HL6.out.lt
                     clear hown6 hg6 hc6)
                  | (have hx := HO6.out.1; clear hx
                     go_at_call 105
                     refine (HWr.out (A6) c6 w6 (HDk.out.ext HB6.out) (RdS.of_own (S := fun k => wr.heap.size ≤ k) (base := wr.heap.size) HO6.out (fun k hk => (HO6.out.lt k hk).1) |> fun h => by rw [bytesC_flat] at h; exact h) (fun j hj hr => by have := (HDk.out.bd j hr).2; omega)).mono ?_
                     rintro e w7 ⟨hy, hn, Rk', hD7, hF7, hR7⟩
                     obtain rfl := hy HOk.out
                     have HD7 := Lib.hid hD7
                     have HF7 := Lib.hid (show Fr R w w7 from (HF.out.ext HB6.out).trans hF7 (fun j hj => HRk.out j hj))
                     have HR7 := Lib.hid (show ∀ j, Rk' j → R j ∨ w.heap.size ≤ j from fun j hj => (hR7 j hj).elim (HRk.out j) (fun h1 => .inr (by have h2 := HF.out.size; have h3 := HB6.out.size; omega)))
                     have HL7 := Lib.hid (show LogAt w7 lb db life n next from HL6.out.fr hF7 (fun hr => by exact (HRk.out _ hr).elim hlb (fun h1 => by have := HLw; omega)))
                     have q0 : w7.cell? ⟨lb, 0, none⟩ = some (.pointer (some ⟨db, 0, none⟩)) := (HL7.out.cell 0).trans rfl
                     have q2 : w7.cell? ⟨lb, 2, none⟩ = some (.int .i64 (n : Nat)) := (HL7.out.cell 2).trans rfl
                     have q3 : w7.cell? ⟨lb, 3, none⟩ = some (.int .i64 (next : Nat)) := (HL7.out.cell 3).trans rfl
                     have q4 := HL7.out.lt
                     clear hF7 hR7 hD7 hy hn))
              clear y0 y2 y3 q0 q2 q3 q4
              go_wp2_with (first
                | (go_at_call 107; refine (As_nil _ _).mono ?_; rintro e w8 ⟨rfl, rfl⟩))
              go_roundg g
              case measure => omega
              case rel => exact ⟨k + 1, _, Rk', by omega, by go_num, rfl, HD7.out.ext (ext_alloc (Below.refl _ _) _), HL7.out.ext (ext_alloc (Below.refl _ _) _), HF7.out.alloc _, HR7.out, Lib.hid ⟨write_down HOk.out, (write_life HOk.out).trans hdk.out.2⟩, Lib.hid ((write_room _ _ _).trans hrm.out), Lib.hid HSt.out⟩
            | false =>
              have HOk := Lib.hid hok
              rw [hok] at HSt
              clear hok
              have y0 : wr.cell? ⟨lb, 0, none⟩ = some (.pointer (some ⟨db, 0, none⟩)) := (HLk.out.cell 0).trans rfl
              have y2 : wr.cell? ⟨lb, 2, none⟩ = some (.int .i64 (n : Nat)) := (HLk.out.cell 2).trans rfl
              have y3 : wr.cell? ⟨lb, 3, none⟩ = some (.int .i64 (next : Nat)) := (HLk.out.cell 3).trans rfl
              have hwl := HLk.out.lt
              go_wp2_with fail
              go_region_held3 (fun w' => w'.cell? ⟨lb, 0, none⟩ = some (.pointer (some ⟨db, 0, none⟩)) ∧ w'.cell? ⟨lb, 2, none⟩ = some (.int .i64 (n : Nat)) ∧ w'.cell? ⟨lb, 3, none⟩ = some (.int .i64 (next : Nat)))
                (go_keep)
                (first
                  | (go_at_call 106; refine (head_c n1 k _ _ hn1l (by omega)).mono ?_
                     rintro e w5 ⟨A5, c5, rfl, hown, hb⟩
                     have HB5 := Lib.hid (show Below wr.heap.size wr w5 from ext_trans (below_drewN (Below.refl _ _) 1) hb)
                     have HP5 := Lib.hid (show Rd w5 w5.heap.size 5 1 (some (ad.add (k * 56))) pl ((partB b k).flatMap byC) from (by rw [bytesC_flat]; exact (HRc.out.ext HB5.out).rd (Nat.le_refl _)))
                     have HO5 := Lib.hid (show w5.ownsRow wr.heap.size 5 1 _ _ _ from hown)
                     have HL5 := Lib.hid (HLk.out.ext HB5.out)
                     have q0 : w5.cell? ⟨lb, 0, none⟩ = some (.pointer (some ⟨db, 0, none⟩)) := (HL5.out.cell 0).trans rfl
                     have q2 : w5.cell? ⟨lb, 2, none⟩ = some (.int .i64 (n : Nat)) := (HL5.out.cell 2).trans rfl
                     have q3 : w5.cell? ⟨lb, 3, none⟩ = some (.int .i64 (next : Nat)) := (HL5.out.cell 3).trans rfl
                     have q4 := HL5.out.lt
                     clear hown hb)
                  | (have hx := HO5.out.1; clear hx
                     refine step_appR byte_app _ rfl (.tmp 63) (.tmp 64) rfl wr.heap.size (.slice A5 (headB n1 k la).length c5) (headB n1 k la) (by rfl) HO5.out (partB b k) w5.heap.size (some (ad.add (k * 56))) pl (c - k * 56) (by rfl) HPL.out (HP5.out) (by have := HPL.out; have := headB_len la hn1l (show k ≤ 1000000 by omega); omega) (by have := HB5.out.size; omega) ?_
                     rw [HW.out]
                     intro A6 c6 w6 hown6 hg6 hc6
                     have HB6 := Lib.hid (below_grownOwn HB5.out HO5.out (Nat.le_refl _) hg6)
                     have HO6 := Lib.hid hown6
                     have HC6 := Lib.hid hc6
                     have HL6 := Lib.hid (HLk.out.ext HB6.out)
                     have q0 : w6.cell? ⟨lb, 0, none⟩ = some (.pointer (some ⟨db, 0, none⟩)) := (HL6.out.cell 0).trans rfl
                     have q2 : w6.cell? ⟨lb, 2, none⟩ = some (.int .i64 (n : Nat)) := (HL6.out.cell 2).trans rfl
                     have q3 : w6.cell? ⟨lb, 3, none⟩ = some (.int .i64 (next : Nat)) := (HL6.out.cell 3).trans rfl
                     have q4 := HL6.out.lt
                     clear hown6 hg6 hc6)
                  | (have hx := HO6.out.1; clear hx
                     go_at_call 105
                     refine (HWr.out (A6) c6 w6 (HDk.out.ext HB6.out) (RdS.of_own (S := fun k => wr.heap.size ≤ k) (base := wr.heap.size) HO6.out (fun k hk => (HO6.out.lt k hk).1) |> fun h => by rw [bytesC_flat] at h; exact h) (fun j hj hr => by have := (HDk.out.bd j hr).2; omega)).mono ?_
                     rintro e w7 ⟨hy, hn, Rk', hD7, hF7, hR7⟩
                     obtain ⟨v7, at7, rfl, hE⟩ := hn HOk.out; have HE := Lib.hid hE; clear hE
                     have HD7 := Lib.hid hD7
                     have HF7 := Lib.hid (show Fr R w w7 from (HF.out.ext HB6.out).trans hF7 (fun j hj => HRk.out j hj))
                     have HR7 := Lib.hid (show ∀ j, Rk' j → R j ∨ w.heap.size ≤ j from fun j hj => (hR7 j hj).elim (HRk.out j) (fun h1 => .inr (by have h2 := HF.out.size; have h3 := HB6.out.size; omega)))
                     have HL7 := Lib.hid (show LogAt w7 lb db life n next from HL6.out.fr hF7 (fun hr => by exact (HRk.out _ hr).elim hlb (fun h1 => by have := HLw; omega)))
                     have q0 : w7.cell? ⟨lb, 0, none⟩ = some (.pointer (some ⟨db, 0, none⟩)) := (HL7.out.cell 0).trans rfl
                     have q2 : w7.cell? ⟨lb, 2, none⟩ = some (.int .i64 (n : Nat)) := (HL7.out.cell 2).trans rfl
                     have q3 : w7.cell? ⟨lb, 3, none⟩ = some (.int .i64 (next : Nat)) := (HL7.out.cell 3).trans rfl
                     have q4 := HL7.out.lt
                     clear hF7 hR7 hD7 hy hn))
              clear y0 y2 y3 q0 q2 q3 q4
              obtain ⟨fb, sv, v', n', rfl, hfb, hfn⟩ := HE.out
              have HEN := Lib.hid (show ErrN w7 (n' + 1) (.iface 178 (.pointer (some ⟨fb, 0, none⟩))) 70 from ⟨fb, sv, _, v', rfl, hfb, hfn⟩)
              have HTV7 := Lib.hid (TypeVar.fr (S := No) (HTV.out.fr HF7.out (fun h => by have := z1.out _ h; omega)) (Fr.of_below (ext_alloc (Below.refl _ _) (.cells #[.pointer none] 178 (0, 0)))) (fun h => h))
              have HX0 := Lib.hid (Bk.new w7 178 #[.pointer none])
              have HXf := Lib.hid (HX0.out.frozen 0)
              clear hfb hfn
              go_wp2_with (first
                | (go_at_call 107; refine (AsF_c ⟨w7.heap.size, 0, none⟩ ⟨fb, 0, none⟩ (.pointer none) _ HTV7.out ((HX0.out.cell 0).trans rfl) HXf.out).mono ?_
                   rintro e w8 ⟨rfl, wx, hbx, rfl⟩
                   have HX8 := Lib.hid (HX0.out.ext hbx)
                   have HB8 := Lib.hid (show Below w7.heap.size w7 (wx.setCell ⟨w7.heap.size, 0, none⟩ (.pointer (some ⟨fb, 0, none⟩))) from (ext_trans (ext_alloc (Below.refl _ _) _) hbx).setCell (Nat.le_refl _) _)
                   have q1 : (wx.setCell ⟨w7.heap.size, 0, none⟩ (.pointer (some ⟨fb, 0, none⟩))).cell? ⟨w7.heap.size, 0, none⟩ = some (.pointer (some ⟨fb, 0, none⟩)) := ((HX8.out.set_ 0 _).cell 0).trans rfl
                   generalize wx.setCell ⟨w7.heap.size, 0, none⟩ (.pointer (some ⟨fb, 0, none⟩)) = w8 at HB8 q1 ⊢
                   clear hbx)
                | (go_at_call 95; refine (logFault_c (n' + 1) _ 70 _ (HEN.out.ext HB8.out)).mono ?_; rintro e w9 ⟨v, rfl, hE, hb⟩; have HE9 := Lib.hid hE; have HB9 := Lib.hid (ext_trans HB8.out hb); clear hE hb))
              go_ret
              rw [HA.out, HSt.out]
              exact ⟨(fun h => by cases h), (fun c' h => by cases h; exact ⟨v, 0, rfl, HE9.out, HL7.out.ext HB9.out⟩), Rk', HD7.out.ext HB9.out, (HF7.out.ext HB9.out).mono (fun j _ hj => .inl hj), HR7.out⟩
        · obtain rfl : gk = 0 := by omega
          have hkI : ¬ (k : Int) < (nb : Nat) := by omega
          obtain rfl : k = nb := by omega
          have y2 : wr.cell? ⟨lb, 2, none⟩ = some (.int .i64 (n : Nat)) := (HLk.out.cell 2).trans rfl
          have y3 : wr.cell? ⟨lb, 3, none⟩ = some (.int .i64 (next : Nat)) := (HLk.out.cell 3).trans rfl
          have f2 := HLk.out.frozen 2
          have f3 := HLk.out.frozen 3
          have hwl := HLk.out.lt
          have HSt := Lib.hid (show writeAll (n + 1) next b k 0 d = (dk, true) from hwr.out)
          go_wp2_with fail
          go_ret
          rw [HA.out, HSt.out]
          have hfr : Fr (fun k => R k ∨ k = lb) w wr := HF.out.mono (fun j _ hj => .inl hj)
          refine ⟨fun _ => ⟨rfl, ?_⟩, (fun c' h => by cases h), Rk, ?_, (hfr.set_ (.inl (.inr rfl)) _).set_ (.inl (.inr rfl)) _, HRk.out⟩
          · exact (HLk.out.set_ 2 _).set_ 3 _
          · exact DiskIs.fr (S := fun k => k = lb) HDk.out ((Fr.one wr lb 2 _).set_ (p := ⟨lb, 3, none⟩) (.inl rfl) _) (fun j hj e => by subst e; exact (HRk.out _ hj).elim hlb (fun h1 => by have := hlbw; omega))
end
end Go.Proofs.YtipfoljmdeiggaaGreatDoor

/- Records on a disk, in plain Lean: what becomes of the records when one is appended. -/
namespace Go.Proofs.YtipfoljmdeiggaaGreatDoor
open Go.RowKit Go.Sort

theorem write_blk {d : DiskD} {n : Nat} {l : List Nat} (h : (d.write n l).2 = true) : (d.write n l).1.blk = fun k => if k = n then some l else d.blk k := by
  unfold DiskD.write at h ⊢
  split
  · next h1 => rw [if_pos h1] at h; cases h
  · next h1 =>
    rw [if_neg h1] at h
    split
    · next h2 => rw [if_pos h2] at h; cases h
    · rfl
theorem write_no {d : DiskD} {n : Nat} {l : List Nat} (h : (d.write n l).2 = false) : (d.write n l).1.blk = d.blk ∧ (d.write n l).1.down = true ∧ (d.write n l).1.life ≤ d.life + 1 ∧ d.life ≤ (d.write n l).1.life := by
  unfold DiskD.write at h ⊢
  split
  · next h1 => exact ⟨rfl, h1, by simp, Nat.le_refl _⟩
  · next h1 =>
    rw [if_neg h1] at h
    split
    · next h2 => exact ⟨rfl, rfl, by simp only [DiskD.cut]; split <;> omega, by simp only [DiskD.cut]; split <;> omega⟩
    · next h2 => rw [if_neg h2] at h; cases h
theorem writeAll_law {recs : List (List Nat)} {b : List Nat} (hl : recs.length + 1 ≤ 1000000) (hN : blocksN b.length ≤ 1000000) : ∀ (m k : Nat) (d : DiskD), k + m = blocksN b.length → LogOk d recs → d.down = false →
    (∀ j, j < k → d.blk (posOf recs + j) = some (blockB (recs.length + 1) b j)) → posOf recs + blocksN b.length ≤ d.room → 0 < m →
    ((writeAll (recs.length + 1) (posOf recs) b m k d).2 = true → LogOk (writeAll (recs.length + 1) (posOf recs) b m k d).1 (recs ++ [b]) ∧ (writeAll (recs.length + 1) (posOf recs) b m k d).1.down = false ∧ (writeAll (recs.length + 1) (posOf recs) b m k d).1.life = d.life) ∧
    ((writeAll (recs.length + 1) (posOf recs) b m k d).2 = false → LogOk (writeAll (recs.length + 1) (posOf recs) b m k d).1 recs ∧ (writeAll (recs.length + 1) (posOf recs) b m k d).1.down = true ∧ (writeAll (recs.length + 1) (posOf recs) b m k d).1.life ≤ d.life + 1 ∧ d.life ≤ (writeAll (recs.length + 1) (posOf recs) b m k d).1.life) ∧
    (writeAll (recs.length + 1) (posOf recs) b m k d).1.room = d.room
  | 0, k, d, _, _, _, _, _, h0 => absurd h0 (by omega)
  | m + 1, k, d, hk, hd, hdn, hpre, hfit, _ => by
    cases hw : (d.write (posOf recs + k) (blockB (recs.length + 1) b k)).2 with
    | false =>
      obtain ⟨h1, h2, h3, h4⟩ := write_no hw
      rw [writeAll, hw]
      exact ⟨(fun h => by cases h), fun _ => ⟨hd.same h1 (write_room _ _ _), h2, h3, h4⟩, write_room _ _ _⟩
    | true =>
      have hb := write_blk hw
      have hr := write_room d (posOf recs + k) (blockB (recs.length + 1) b k)
      have hdn' := write_down hw
      have hlf := write_life hw
      rw [writeAll, hw, if_pos rfl]
      generalize (d.write (posOf recs + k) (blockB (recs.length + 1) b k)).1 = d' at hb hr hdn' hlf ⊢
      by_cases hlast : k + 1 = blocksN b.length
      · obtain rfl : m = 0 := by omega
        rw [writeAll]
        refine ⟨fun _ => ⟨hd.whole hl hN hfit (fun j hj => hpre j (by omega)) (by rw [hb, show blocksN b.length - 1 = k by omega]) hr, hdn', hlf⟩, (fun h => by cases h), hr⟩
      · have h1 := hd.torn (b := b) (k := k) (d' := d') (by omega) hl (by omega) hb hr
        obtain ⟨i1, i2, i3⟩ := writeAll_law hl hN m (k + 1) d' (by omega) h1 hdn' (fun j hj => by
          rw [hb]
          simp only
          by_cases e : j = k
          · rw [if_pos (by omega), e]
          · rw [if_neg (by omega)]
            exact hpre j (by omega)) (by rw [hr]; exact hfit) (by omega)
        exact ⟨fun h => by rw [← hlf]; exact i1 h, fun h => by rw [← hlf]; exact i2 h, i3.trans hr⟩
theorem goneD_no {d : DiskD} {life : Nat} (h : goneD d life = false) : d.down = false ∧ d.life = life := by
  unfold goneD at h
  simp only [Bool.or_eq_false_iff, decide_eq_false_iff_not, ne_eq, Decidable.not_not] at h
  exact h
theorem goneD_iff {d : DiskD} {life : Nat} : goneD d life = true ↔ d.down = true ∨ d.life ≠ life := by
  unfold goneD
  simp
/-- What appending does to the records. -/
theorem appendD_law {d : DiskD} {recs : List (List Nat)} {b : List Nat} {life : Nat} (h : LogOk d recs) (hroom : d.room ≤ 65536) :
    ((appendD d life recs.length (posOf recs) b).2 = none → LogOk (appendD d life recs.length (posOf recs) b).1 (recs ++ [b]) ∧ goneD d life = false ∧ goneD (appendD d life recs.length (posOf recs) b).1 life = false ∧ (appendD d life recs.length (posOf recs) b).1.life = d.life) ∧
    (∀ c, (appendD d life recs.length (posOf recs) b).2 = some c → LogOk (appendD d life recs.length (posOf recs) b).1 recs ∧
      ((c = 71 ∧ (appendD d life recs.length (posOf recs) b).1 = d ∧ d.room - posOf recs < blocksN b.length ∧ goneD d life = false) ∨ (c = 70 ∧ goneD (appendD d life recs.length (posOf recs) b).1 life = true))) ∧
    (appendD d life recs.length (posOf recs) b).1.room = d.room ∧ (appendD d life recs.length (posOf recs) b).1.life ≤ d.life + 1 := by
  have hp := posOf_le recs
  have hfits := h.fits
  unfold appendD
  cases hg : goneD d life with
  | true =>
    rw [if_pos rfl]
    exact ⟨(fun h => by cases h), (fun c hc => by cases hc; exact ⟨h, .inr ⟨rfl, hg⟩⟩), rfl, by simp⟩
  | false =>
    rw [if_neg (by simp)]
    by_cases hf : d.room - posOf recs < blocksN b.length
    · rw [if_pos hf]
      exact ⟨(fun h => by cases h), (fun c hc => by cases hc; exact ⟨h, .inl ⟨rfl, rfl, hf, rfl⟩⟩), rfl, by simp⟩
    · rw [if_neg hf]
      have hb1 := blocksN_pos b.length
      obtain ⟨h1, h2⟩ := goneD_no hg
      obtain ⟨i1, i2, i3⟩ := writeAll_law (recs := recs) (b := b) (by omega) (by omega) (blocksN b.length) 0 d (by omega) h h1 (fun j hj => absurd hj (by omega)) (by omega) (by omega)
      generalize writeAll (recs.length + 1) (posOf recs) b (blocksN b.length) 0 d = x at i1 i2 i3 ⊢
      cases hx : x.2 with
      | true =>
        obtain ⟨j1, j2, j3⟩ := i1 hx
        refine ⟨fun _ => ⟨j1, rfl, ?_, j3⟩, (fun c hc => by simp [hx] at hc), i3, by simp only; omega⟩
        rw [Bool.eq_false_iff]
        intro hh
        rcases goneD_iff.1 hh with hh | hh
        · simp only at hh; rw [j2] at hh; cases hh
        · exact hh (by simp only; omega)
      | false =>
        obtain ⟨j1, j2, j3, j4⟩ := i2 hx
        refine ⟨(fun h => by simp [hx] at h), (fun c hc => ?_), i3, j3⟩
        simp only [hx, Bool.false_eq_true, if_false, Option.some.injEq] at hc
        subst hc
        exact ⟨j1, .inr ⟨rfl, goneD_iff.2 (.inl j2)⟩⟩
end Go.Proofs.YtipfoljmdeiggaaGreatDoor

/- append of a slice that came in, of any length that the reach admits. -/
namespace Go.Proofs.YtipfoljmdeiggaaGreatDoor
open Go.RowKit Go.Sort

section
variable {α : Type} {enc : α → List Value} {te e : TypeId} {z bytes : Nat} {zero : Value}
theorem wp_appNB (C : AppC enc te e z bytes zero) (hb0 : 0 < bytes) {o : Oper} {a : Act} {K : Act → World → Prop} {Q : Exit → Act → World → Prop} (W : World) (s x : Operand)
    (ho : o.op = .call { callee := .builtin .append, args := #[s, x], argTypes := #[te, te] }) (base : Nat) (v : Value) (l : List α) (hs : a.eval s = v)
    (hown : W.ownsRow base e z v l.length (l.flatMap enc)) (y : List α) (ad : Addr) (m c : Nat) (hx : a.eval x = .slice (some ad) m c) (hm : m = y.length) (hn : ∀ j u, (y.flatMap enc)[j]? = some u → W.cell? (ad.add j) = some u)
    (hbb : (l.length + m) * bytes ≤ 140737488355328) (hbase : base ≤ W.heap.size)
    (h : ∀ A c w', w'.ownsRow base e z (.slice A (l ++ y).length c) (l ++ y).length ((l ++ y).flatMap enc) → W.grownBy w' v.ownBlock → (l ++ y).length ≤ c → K (a.put o.dst (.slice A (l ++ y).length c)) w') :
    o.wp Tryz.prog a W K Q := by
  obtain ⟨i0, hi0, hz0, hz1, hz2⟩ := info_parts C.info
  have hle : l.length + m ≤ (l.length + m) * bytes := Nat.le_mul_of_pos_right _ hb0
  obtain ⟨v', w', hr, h1, h2, _, _⟩ := run_append_own_at (P := Tryz.prog) W base te o.type e i0 _ z bytes C.te hi0 hz0 hz1 hz2 C.zz C.z0 v l.length (l.flatMap enc) hown ad m c (y.flatMap enc) (by rw [flat_len C, hm])
    hn (by intro u hu; rw [List.mem_flatMap] at hu; obtain ⟨q, _, hq⟩ := hu; exact C.one q u hq) (by simp only [maxLen]; omega) hbb hbase
  unfold Oper.wp execOp
  simp only [ho, resolve, invoke, builtin, Sem.run_bind, Sem.run_pure, Result.andThen_ok, List.map_toArray, List.map_cons, List.map_nil, hs, hx, hr]
  have h1' : w'.ownsRow base e z v' (l ++ y).length ((l ++ y).flatMap enc) := by
    rw [List.flatMap_append, List.length_append, ← hm]
    exact h1
  obtain ⟨A', c', rfl, hc'⟩ := own_shape h1'
  exact h _ c' w' h1' h2 hc'
theorem wp_appRB (C : AppC enc te e z bytes zero) (hb0 : 0 < bytes) {o : Oper} {a : Act} {K : Act → World → Prop} {Q : Exit → Act → World → Prop} (W : World) (s x : Operand)
    (ho : o.op = .call { callee := .builtin .append, args := #[s, x], argTypes := #[te, te] }) (base : Nat) (v : Value) (l : List α) (hs : a.eval s = v)
    (hown : W.ownsRow base e z v l.length (l.flatMap enc)) (y : List α) (B : Nat) (A0 : Option Addr) (m c : Nat) (hx : a.eval x = .slice A0 m c) (hm : m = y.length) (hr : Rd W B e z A0 m (y.flatMap enc))
    (hlen : (l.length + y.length) * bytes ≤ 140737488355328) (hbase : base ≤ W.heap.size)
    (h : ∀ A c w', w'.ownsRow base e z (.slice A (l ++ y).length c) (l ++ y).length ((l ++ y).flatMap enc) → W.grownBy w' v.ownBlock → (l ++ y).length ≤ c → K (a.put o.dst (.slice A (l ++ y).length c)) w') :
    o.wp Tryz.prog a W K Q := by
  cases A0 with
  | some ad =>
    refine wp_appNB C hb0 W s x ho base v l hs hown y ad m c hx hm (fun j u hu => ?_) (by rw [hm]; exact hlen) hbase h
    rcases Nat.eq_zero_or_pos m with h0 | h0
    · have hy : y = [] := List.eq_nil_of_length_eq_zero (by omega)
      subst hy
      simp at hu
    · obtain ⟨ad', he, hc⟩ := hr.cell h0
      injection he with he
      subst he
      exact hc j u hu
  | none =>
    obtain ⟨i0, hi0, hz0, hz1, hz2⟩ := info_parts C.info
    have h0 : m = 0 := by
      rcases Nat.eq_zero_or_pos m with h0 | h0
      · exact h0
      · obtain ⟨ad, he, _⟩ := hr.2 h0
        cases he
    subst h0
    have hy : y = [] := List.eq_nil_of_length_eq_zero hm.symm
    subst hy
    have hrun := run_append_of_nil (P := Tryz.prog) W base te o.type e i0 z C.te hi0 v _ _ hown c
    unfold Oper.wp execOp
    simp only [ho, resolve, invoke, builtin, Sem.run_bind, Sem.run_pure, Result.andThen_ok, List.map_toArray, List.map_cons, List.map_nil, hs, hx, hrun]
    obtain ⟨A', c', rfl, hc'⟩ := own_shape hown
    have hh : K (a.put o.dst (.slice A' l.length c')) W := by simpa using h A' c' W (by simpa using hown) (World.grownBy.refl W _) (by simpa using hc')
    exact hh
theorem wpList_appRB (C : AppC enc te e z bytes zero) (hb0 : 0 < bytes) {ops : Array Oper} {rest : List Oper} {o : Oper} {a : Act} {Q : Exit → Act → World → Prop} (W : World) (hgd : o.guard = none) (s x : Operand)
    (ho : o.op = .call { callee := .builtin .append, args := #[s, x], argTypes := #[te, te] }) (base : Nat) (v : Value) (l : List α) (hs : a.eval s = v)
    (hown : W.ownsRow base e z v l.length (l.flatMap enc)) (y : List α) (B : Nat) (A0 : Option Addr) (m c : Nat) (hx : a.eval x = .slice A0 m c) (hm : m = y.length) (hr : Rd W B e z A0 m (y.flatMap enc))
    (hlen : (l.length + y.length) * bytes ≤ 140737488355328) (hbase : base ≤ W.heap.size)
    (h : ∀ A c w', w'.ownsRow base e z (.slice A (l ++ y).length c) (l ++ y).length ((l ++ y).flatMap enc) → W.grownBy w' v.ownBlock → (l ++ y).length ≤ c → wpList Tryz.prog ops Q rest (a.put o.dst (.slice A (l ++ y).length c)) w') :
    wpList Tryz.prog ops Q (o :: rest) a W :=
  wpList_plain hgd fun _ hK => wp_appRB C hb0 W s x ho base v l hs hown y B A0 m c hx hm hr hlen hbase fun A c w' h1 h2 h3 => hK _ _ (h A c w' h1 h2 h3)
end
/-- A hold. -/
structure Hd where
  id : Id3
  w : Int
deriving DecidableEq
def hdC (h : Hd) : List Value := [.int .i64 h.id.b, .int .i64 h.id.s, .int .i64 h.id.p, .int .i64 h.w]
theorem hold_app : AppC hdC 94 97 4 32 (.agg #[.int .i64 0, .int .i64 0, .int .i64 0, .int .i64 0]) :=
  ⟨Tryz.underlying94, by kernel_rfl, rfl, by decide, fun _ => rfl, fun x u hu => by simp only [hdC, List.mem_cons, List.not_mem_nil, or_false] at hu; rcases hu with rfl | rfl | rfl | rfl <;> rfl, by decide⟩
end Go.Proofs.YtipfoljmdeiggaaGreatDoor

/- The checkpoints' store: copies of rows, pieces as cells, names as bytes. -/
namespace Go.Proofs.YtipfoljmdeiggaaGreatDoor
open Go.RowKit Go.Sort

def ClonePost (w : World) (e : TypeId) (size n : Nat) (xs : List Value) (en : Ending) (w' : World) : Prop :=
  ∃ A c, en = .returned (.slice A n c) ∧ w'.ownsRow w.heap.size e size (.slice A n c) n xs ∧ n ≤ c ∧ Below w.heap.size w w'
set_option maxHeartbeats 1000000 in
theorem clone_row_c (B : Nat) (w : World) (A : Option Addr) (c : Nat) (l : List Rw) (h : Rd w B 74 2 A l.length (rwsC l)) (hl : l.length ≤ 1073741824) :
    Calls Tryz.prog 121 #[.slice A l.length c] w (ClonePost w 74 2 l.length (rwsC l)) := by
  have hnil := fun (W : World) (A : Option Addr) (n c : Nat) => Lib.run_eql_slice_nil (P := Tryz.prog) W 56 74 A n c 0 0 Tryz.underlying56
  cases A with
  | none =>
    have h0 : l.length = 0 := by
      rcases Nat.eq_zero_or_pos l.length with h0 | h0
      · exact h0
      · obtain ⟨_, hc, _⟩ := h.2 h0; cases hc
    have : l = [] := List.eq_nil_of_length_eq_zero h0
    subst this
    clear h0
    go_enter Tryz.func121, Tryz.ntmps121
    go_wp2
    go_ret
    exact ⟨_, _, rfl, World.ownsRow_nil _ _ _ _, Nat.le_refl _, Below.refl _ _⟩
  | some ad =>
    have HR := Lib.hid h
    clear h
    go_enter Tryz.func121, Tryz.ntmps121
    go_wp2_with (first | (at_builtin; refine wpList_appR row_app _ rfl (.tmp 5) (.tmp 6) rfl w.heap.size (.slice (some ⟨w.heap.size, 0, none⟩) 0 0) [] (by rfl) ?_ l B (some ad) l.length c (by rfl) rfl (HR.out.ext (ext_alloc (Below.refl _ _) _)) (by simpa using hl) (by simp) ?_))
    · exact ⟨by simp, .inr ⟨w.heap.size, 0, #[], rfl, Nat.le_refl _, heap_alloc_new w _, Nat.le_refl _, by simp [maxLen], by simp, by simp⟩⟩
    · intro A2 c2 w1 hown hg hc2
      go_wp2
      go_ret
      exact ⟨_, _, rfl, hown, hc2, (ext_alloc (Below.refl _ _) _).grown hg (by simp) (fun k hk => by simp [Value.ownBlock] at hk; omega)⟩

/-! ### pieces as cells -/
structure Pz where
  id : Id3
  A : Option Addr
  cap : Nat
  rows : List Rw
def pzC (p : Pz) : List Value := [.int .i64 p.id.b, .int .i64 p.id.s, .int .i64 p.id.p, .slice p.A p.rows.length p.cap]
theorem pz_app : AppC pzC 52 83 4 48 (.agg #[.int .i64 0, .int .i64 0, .int .i64 0, .slice none 0 0]) :=
  ⟨Tryz.underlying52, by kernel_rfl, rfl, by decide, fun _ => rfl, fun x u hu => by simp only [pzC, List.mem_cons, List.not_mem_nil, or_false] at hu; rcases hu with rfl | rfl | rfl | rfl <;> rfl, by decide⟩
def pzsC (l : List Pz) : List Value := l.flatMap pzC
def pzT (z : Pz) : Id3 × List Rw := (z.id, z.rows)
def pzS (z : Pz) : Value := .slice z.A z.rows.length z.cap

/-! ### Before -/
def bef (x y : Id3) : Bool := if x.b ≠ y.b then decide (x.b < y.b) else if x.s ≠ y.s then decide (x.s < y.s) else decide (x.p < y.p)
theorem before_c (x y : Id3) (W : World) : Calls Tryz.prog 124 #[idV x, idV y] W (GrowPost W (.bool (bef x y))) := by
  have fin : ∀ o1 o2 : Obj, ∃ q os', (W.alloc o1).alloc o2 = grow (W.drewN q) os' := fun o1 o2 => ⟨0, _, by rw [alloc_eq_grow, alloc_eq_grow, grow_grow]; rfl⟩
  have HF := Lib.hid fin
  clear fin
  unfold bef
  by_cases h1 : x.b = y.b
  · by_cases h2 : x.s = y.s
    · rw [if_neg (by simp [h1]), if_neg (by simp [h2])]
      have e1 : (x.b != y.b) = false := by simp [h1]
      have e2 : (x.s != y.s) = false := by simp [h2]
      clear h1 h2
      go_enter Tryz.func124, Tryz.ntmps124
      go_wp2
      go_ret
      exact ⟨rfl, HF.out _ _⟩
    · rw [if_neg (by simp [h1]), if_pos h2]
      have e1 : (x.b != y.b) = false := by simp [h1]
      have e2 : (x.s != y.s) = true := by simp [h2]
      clear h1 h2
      go_enter Tryz.func124, Tryz.ntmps124
      go_wp2
      go_ret
      exact ⟨rfl, HF.out _ _⟩
  · rw [if_pos h1]
    have e1 : (x.b != y.b) = true := by simp [h1]
    clear h1
    go_enter Tryz.func124, Tryz.ntmps124
    go_wp2
    go_ret
    exact ⟨rfl, HF.out _ _⟩
/-- What the sort's closure says. -/
theorem less_c (x y : Pz) (W : World) : Calls Tryz.prog 123 #[.agg (pzC x).toArray, .agg (pzC y).toArray] W (GrowPost W (.int .i64 (if bef x.id y.id then -1 else 1))) := by
  have fin : ∀ (o1 o2 : Obj) q os, ∃ q' os', grow (((W.alloc o1).alloc o2).drewN q) os = grow (W.drewN q') os' := fun o1 o2 q os => ⟨q, _, by
    rw [alloc_eq_grow, alloc_eq_grow, grow_grow]
    show grow (grow (W.drewN q) _) _ = _
    rw [grow_grow]⟩
  have HF := Lib.hid fin
  clear fin
  simp only [pzC]
  cases hb : bef x.id y.id with
  | true =>
    go_enter Tryz.func123, Tryz.ntmps123
    go_wp2_with (first | (go_at_call 124; refine (before_c x.id y.id _).mono ?_; rw [hb]; rintro e w' ⟨rfl, q, os, rfl⟩))
    go_ret
    exact ⟨by simp, HF.out _ _ _ _⟩
  | false =>
    go_enter Tryz.func123, Tryz.ntmps123
    go_wp2_with (first | (go_at_call 124; refine (before_c x.id y.id _).mono ?_; rw [hb]; rintro e w' ⟨rfl, q, os, rfl⟩))
    go_ret
    exact ⟨by simp, HF.out _ _ _ _⟩

/-- What is asked of the sort. -/
def SortPost (W : World) (base : Nat) (A : Option Addr) (l : List Pz) (c : Nat) (e : Ending) (w' : World) : Prop :=
  e = .returned (.tuple #[]) ∧ ∃ l', l'.Perm l ∧ l'.Pairwise (fun x y => bef y.id x.id = false) ∧ w'.ownsRow base 83 4 (.slice A l'.length c) l'.length (pzsC l') ∧ W.grownBy w' (Value.slice A l.length c).ownBlock
def SortC : Prop := ∀ (W : World) (base : Nat) (A : Option Addr) (c : Nat) (l : List Pz), W.ownsRow base 83 4 (.slice A l.length c) l.length (pzsC l) → base ≤ W.heap.size → l.length ≤ 1073741824 →
  Calls Tryz.prog 122 #[.slice A l.length c, .func (.func 123) #[] #[]] W (SortPost W base A l c)
end Go.Proofs.YtipfoljmdeiggaaGreatDoor

/- Names of pieces as bytes: wire.ID of the program. -/
namespace Go.Proofs.YtipfoljmdeiggaaGreatDoor
open Go.RowKit Go.Sort

def idB (x : Id3) : List Nat := intB x.b ++ intB x.s ++ intB x.p
set_option maxRecDepth 100000 in
set_option maxHeartbeats 8000000 in
theorem wID_c (x : Id3) (w : World) (hxb : I64 x.b) (hxs : I64 x.s) (hxp : I64 x.p) :
    Calls Tryz.prog 126 #[idV x] w (BytesPost w (idB x)) := by
  have hb10 := intsize hxb
  have hs10 := intsize hxs
  have hp10 := intsize hxp
  have HXb := Lib.hid hxb
  have HXs := Lib.hid hxs
  have HXp := Lib.hid hxp
  have HS := Lib.hid (show (intB x.b ++ intB x.s) ++ intB x.p = idB x from rfl)
  clear hxb hxs hxp
  unfold idV
  go_enter Tryz.func126, Tryz.ntmps126
  go_upto_region 1 with fail
  have HX := Lib.hid (Bk.new w 61 #[.int .i64 x.b, .int .i64 x.s, .int .i64 x.p])
  have HBd := Lib.hid (ext_alloc (Below.refl _ w) (.cells #[.int .i64 x.b, .int .i64 x.s, .int .i64 x.p] 61))
  obtain ⟨bx, hbx⟩ : ∃ bx, bx = w.heap.size := ⟨_, rfl⟩
  have hbw : w.heap.size ≤ bx := by omega
  rw [← hbx] at HX ⊢
  generalize hwa : w.alloc (.cells #[.int .i64 x.b, .int .i64 x.s, .int .i64 x.p] 61) = wa at HX HBd ⊢
  have x0 : wa.cell? ⟨bx, 0, none⟩ = some (.int .i64 x.b) := (HX.out.cell 0).trans rfl
  have x1 : wa.cell? ⟨bx, 1, none⟩ = some (.int .i64 x.s) := (HX.out.cell 1).trans rfl
  have x2 : wa.cell? ⟨bx, 2, none⟩ = some (.int .i64 x.p) := (HX.out.cell 2).trans rfl
  clear hwa hbx
  have HC := Lib.hid (show Bk wa.drew bx 61 #[.int .i64 x.b, .int .i64 x.s, .int .i64 x.p] from HX.out)
  have HB := Lib.hid (show Below w.heap.size w wa.drew from HBd.out.drew)
  clear HX HBd
  refine wp_region_held_drew (S := (fun w' => w'.cell? ⟨bx, 0, none⟩ = some (.int .i64 x.b) ∧ w'.cell? ⟨bx, 1, none⟩ = some (.int .i64 x.s) ∧ w'.cell? ⟨bx, 2, none⟩ = some (.int .i64 x.p))) (by kernel_rfl) ?_ (fun hHeld => ?_)
  · (first | exact ⟨(HC.out.cell 0).trans rfl, (HC.out.cell 1).trans rfl, (HC.out.cell 2).trans rfl⟩ | go_keep)
  refine wpAnyH_take (i := 0) (oi := { dst := some 3, op := Go.Op.fieldAddr 61 (Go.Operand.tmp 1) 0, type := 0, pos := "wire.go:103", after := #[], guard := none }) (v := ?v1z0) rfl (by kernel_rfl) (by kernel_rfl) (by kernel_rfl) (fun _ _ _ h => h) (Or.inl ⟨by rfl, ?hy1z0⟩) (by assumption) ?rest1z0
  case hy1z0 => (intro w hSw; (try dsimp only at hSw); go_simp; try (with_reducible rfl))
  simp only [Act.put, List.setIfInBounds_toArray, List.set_cons_zero, List.set_cons_succ]
  refine wpAnyH_take (i := 1) (oi := { dst := some 4, op := Go.Op.load 3 (Go.Operand.tmp 3), type := 3, pos := "wire.go:103", after := #[{ on := 0, ground := Go.Ground.data }], guard := none }) (v := ?v1z1) rfl (by kernel_rfl) (by kernel_rfl) (by kernel_rfl) (fun _ _ _ h => h) (Or.inl ⟨by rfl, ?hy1z1⟩) (by assumption) ?rest1z1
  case hy1z1 => (intro w hSw; (try dsimp only at hSw); go_simp; try (with_reducible rfl))
  simp only [Act.put, List.setIfInBounds_toArray, List.set_cons_zero, List.set_cons_succ]
  refine wpAnyH_take (i := 3) (oi := { dst := some 6, op := Go.Op.fieldAddr 61 (Go.Operand.tmp 1) 1, type := 0, pos := "wire.go:103", after := #[], guard := none }) (v := ?v1z3) rfl (by kernel_rfl) (by kernel_rfl) (by kernel_rfl) (fun _ _ _ h => h) (Or.inl ⟨by rfl, ?hy1z3⟩) (by assumption) ?rest1z3
  case hy1z3 => (intro w hSw; (try dsimp only at hSw); go_simp; try (with_reducible rfl))
  simp only [Act.put, List.setIfInBounds_toArray, List.set_cons_zero, List.set_cons_succ]
  refine wpAnyH_take (i := 4) (oi := { dst := some 7, op := Go.Op.load 3 (Go.Operand.tmp 6), type := 3, pos := "wire.go:103", after := #[{ on := 3, ground := Go.Ground.data }], guard := none }) (v := ?v1z4) rfl (by kernel_rfl) (by kernel_rfl) (by kernel_rfl) (fun _ _ _ h => h) (Or.inl ⟨by rfl, ?hy1z4⟩) (by assumption) ?rest1z4
  case hy1z4 => (intro w hSw; (try dsimp only at hSw); go_simp; try (with_reducible rfl))
  simp only [Act.put, List.setIfInBounds_toArray, List.set_cons_zero, List.set_cons_succ]
  refine wpAnyH_take (i := 7) (oi := { dst := some 10, op := Go.Op.fieldAddr 61 (Go.Operand.tmp 1) 2, type := 0, pos := "wire.go:103", after := #[], guard := none }) (v := ?v1z7) rfl (by kernel_rfl) (by kernel_rfl) (by kernel_rfl) (fun _ _ _ h => h) (Or.inl ⟨by rfl, ?hy1z7⟩) (by assumption) ?rest1z7
  case hy1z7 => (intro w hSw; (try dsimp only at hSw); go_simp; try (with_reducible rfl))
  simp only [Act.put, List.setIfInBounds_toArray, List.set_cons_zero, List.set_cons_succ]
  refine wpAnyH_take (i := 8) (oi := { dst := some 11, op := Go.Op.load 3 (Go.Operand.tmp 10), type := 3, pos := "wire.go:103", after := #[{ on := 7, ground := Go.Ground.data }], guard := none }) (v := ?v1z8) rfl (by kernel_rfl) (by kernel_rfl) (by kernel_rfl) (fun _ _ _ h => h) (Or.inl ⟨by rfl, ?hy1z8⟩) (by assumption) ?rest1z8
  case hy1z8 => (intro w hSw; (try dsimp only at hSw); go_simp; try (with_reducible rfl))
  simp only [Act.put, List.setIfInBounds_toArray, List.set_cons_zero, List.set_cons_succ]
  refine wpAnyH_ready (rs := [2]) (by kernel_rfl) (by simp) ?_
  refine AllReadyH.cons (o := { dst := some 5, op := Go.Op.call { callee := Go.Callee.value (Go.Operand.func 194), args := #[Go.Operand.tmp 4], argTypes := #[3] }, type := 39, pos := "wire.go:103", after := #[{ on := 1, ground := Go.Ground.data }], guard := none }) rfl (fun K hK => ?_) ?_
  ·
    go_simp
    go_at_call 194
    refine (wInt_c x.b _ HXb.out.1 HXb.out.2).mono ?_
    rintro e wk ⟨Ak, ck, rfl, hok, hbk⟩
    have HC := Lib.hid (HC.out.ext hbk)
    have HO := Lib.hid (own_mono hok (base' := w.heap.size) HB.out.size)
    have HB := Lib.hid (ext_trans HB.out hbk)
    clear hok hbk
    refine hK.out _ _ ?_ (fun hHeld => ?_)
    · (first | exact ⟨(HC.out.cell 0).trans rfl, (HC.out.cell 1).trans rfl, (HC.out.cell 2).trans rfl⟩ | go_keep)
    clear hK K
    try simp only [Act.put, List.setIfInBounds_toArray, List.set_cons_zero, List.set_cons_succ]
    refine wpAnyH_ready (rs := [5]) (by kernel_rfl) (by simp) ?_
    refine AllReadyH.cons (o := { dst := some 8, op := Go.Op.call { callee := Go.Callee.value (Go.Operand.func 194), args := #[Go.Operand.tmp 7], argTypes := #[3] }, type := 39, pos := "wire.go:103", after := #[{ on := 4, ground := Go.Ground.data }, { on := 2, ground := Go.Ground.chain }], guard := none }) rfl (fun K hK => ?_) ?_
    ·
      go_simp
      go_at_call 194
      refine (wInt_c x.s _ HXs.out.1 HXs.out.2).mono ?_
      rintro e wv ⟨Av, cv, rfl, hov, hbv⟩
      have HC := Lib.hid (HC.out.ext hbv)
      have HO := Lib.hid (own_ext HO.out hbv)
      have HB := Lib.hid (ext_trans HB.out hbv)
      have HV := Lib.hid hov
      clear hov hbv
      refine hK.out _ _ ?_ (fun hHeld => ?_)
      · (first | exact ⟨(HC.out.cell 0).trans rfl, (HC.out.cell 1).trans rfl, (HC.out.cell 2).trans rfl⟩ | go_keep)
      clear hK K
      try simp only [Act.put, List.setIfInBounds_toArray, List.set_cons_zero, List.set_cons_succ]
      refine wpAnyH_ready (rs := [6]) (by kernel_rfl) (by simp) ?_
      refine AllReadyH.cons (o := { dst := some 9, op := Go.Op.call { callee := Go.Callee.builtin Go.Builtin.append, args := #[Go.Operand.tmp 5, Go.Operand.tmp 8], argTypes := #[39, 39] }, type := 39, pos := "wire.go:103", after := #[{ on := 2, ground := Go.Ground.data }, { on := 5, ground := Go.Ground.data }, { on := 5, ground := Go.Ground.chain }], guard := none }) rfl (fun K hK => ?_) ?_
      ·
        refine step_appR byte_app _ rfl (.tmp 5) (.tmp 8) rfl w.heap.size (.slice Ak (intB x.b).length ck) (intB x.b) (by rfl) HO.out (intB x.s) 0 Av (intB x.s).length cv (by rfl) rfl (Rd.of_own HV.out) (by omega) (by have := HB.out.size; omega) ?_
        intro A4 c4 w4 hown4 hg4 hc4
        generalize hb4 : intB x.b ++ intB x.s = b4 at hown4 hc4 ⊢
        have HB4 := Lib.hid hb4
        have hl4 : b4.length = (intB x.b).length + (intB x.s).length := by rw [← hb4, List.length_append]
        have HL4 := Lib.hid hl4
        clear hb4 hl4
        have HC := Lib.hid (HC.out.grown hg4 (fun e => own_blk_ne' HO.out HC.out (by decide) e.symm))
        have HB := Lib.hid (below_grownOwn HB.out HO.out (Nat.le_refl _) hg4)
        try (have HP := Lib.hid (own_off2 HP.out hg4 HN.out))
        have HO := Lib.hid hown4
        clear hown4 hg4
        refine hK.out _ _ ?_ (fun hHeld => ?_)
        · (first | exact ⟨(HC.out.cell 0).trans rfl, (HC.out.cell 1).trans rfl, (HC.out.cell 2).trans rfl⟩ | go_keep)
        clear hK K
        try simp only [Act.put, List.setIfInBounds_toArray, List.set_cons_zero, List.set_cons_succ]
        refine wpAnyH_ready (rs := [9]) (by kernel_rfl) (by simp) ?_
        refine AllReadyH.cons (o := { dst := some 12, op := Go.Op.call { callee := Go.Callee.value (Go.Operand.func 194), args := #[Go.Operand.tmp 11], argTypes := #[3] }, type := 39, pos := "wire.go:103", after := #[{ on := 8, ground := Go.Ground.data }, { on := 6, ground := Go.Ground.chain }], guard := none }) rfl (fun K hK => ?_) ?_
        ·
          go_simp
          go_at_call 194
          refine (wInt_c x.p _ HXp.out.1 HXp.out.2).mono ?_
          rintro e wp ⟨Ap, cp, rfl, hop, hbp⟩
          have HN := Lib.hid (fun k hk => (HO.out.lt k hk).2)
          have HC := Lib.hid (HC.out.ext hbp)
          have HO := Lib.hid (own_ext HO.out hbp)
          have HB := Lib.hid (ext_trans HB.out hbp)
          have HP := Lib.hid hop
          try (have HV := Lib.hid (own_ext HV.out hbp))
          clear hop hbp
          refine hK.out _ _ ?_ (fun hHeld => ?_)
          · (first | exact ⟨(HC.out.cell 0).trans rfl, (HC.out.cell 1).trans rfl, (HC.out.cell 2).trans rfl⟩ | go_keep)
          clear hK K
          try simp only [Act.put, List.setIfInBounds_toArray, List.set_cons_zero, List.set_cons_succ]
          refine wpAnyH_ready (rs := [10]) (by kernel_rfl) (by simp) ?_
          refine AllReadyH.cons (o := { dst := some 13, op := Go.Op.call { callee := Go.Callee.builtin Go.Builtin.append, args := #[Go.Operand.tmp 9, Go.Operand.tmp 12], argTypes := #[39, 39] }, type := 39, pos := "wire.go:103", after := #[{ on := 6, ground := Go.Ground.data }, { on := 9, ground := Go.Ground.data }, { on := 9, ground := Go.Ground.chain }], guard := none }) rfl (fun K hK => ?_) ?_
          ·
            refine step_appR byte_app _ rfl (.tmp 9) (.tmp 12) rfl w.heap.size (.slice A4 b4.length c4) b4 (by rfl) HO.out (intB x.p) 0 Ap (intB x.p).length cp (by rfl) rfl (Rd.of_own HP.out) (by have := HL4.out; omega) (by have := HB.out.size; omega) ?_
            intro A5 c5 w5 hown5 hg5 hc5
            generalize hb5 : b4 ++ intB x.p = b5 at hown5 hc5 ⊢
            have HB5 := Lib.hid hb5
            clear hb5
            have HC := Lib.hid (HC.out.grown hg5 (fun e => own_blk_ne' HO.out HC.out (by decide) e.symm))
            have HB := Lib.hid (below_grownOwn HB.out HO.out (Nat.le_refl _) hg5)
            have HO := Lib.hid hown5
            clear hown5 hg5
            refine hK.out _ _ ?_ (fun hHeld => ?_)
            · (first | exact ⟨(HC.out.cell 0).trans rfl, (HC.out.cell 1).trans rfl, (HC.out.cell 2).trans rfl⟩ | go_keep)
            clear hK K
            try simp only [Act.put, List.setIfInBounds_toArray, List.set_cons_zero, List.set_cons_succ]
            refine wpAnyH_take (i := 11) (oi := { dst := some 2, op := Go.Op.assign (Go.Operand.tmp 13), type := 39, pos := "wire.go:103", after := #[{ on := 10, ground := Go.Ground.data }, { on := 10, ground := Go.Ground.chain }, { on := 0, ground := Go.Ground.phase }, { on := 1, ground := Go.Ground.phase }, { on := 2, ground := Go.Ground.phase }, { on := 3, ground := Go.Ground.phase }, { on := 4, ground := Go.Ground.phase }, { on := 5, ground := Go.Ground.phase }, { on := 6, ground := Go.Ground.phase }, { on := 7, ground := Go.Ground.phase }, { on := 8, ground := Go.Ground.phase }, { on := 9, ground := Go.Ground.phase }, { on := 10, ground := Go.Ground.phase }], guard := none }) (v := ?v1z11) rfl (by kernel_rfl) (by kernel_rfl) (by kernel_rfl) (fun _ _ _ h => h) (Or.inl ⟨by rfl, ?hy1z11⟩) (by assumption) ?rest1z11
            case hy1z11 => (intro w hSw; (try dsimp only at hSw); go_simp; try (with_reducible rfl))
            simp only [Act.put, List.setIfInBounds_toArray, List.set_cons_zero, List.set_cons_succ]
            refine wpAnyH_done (by kernel_rfl) ?_ _
            go_wp2_with fail
            go_ret
            have hE := HS.out
            rw [HB4.out, HB5.out] at hE
            rw [← hE]
            exact ⟨A5, c5, rfl, HO.out, HB.out⟩
          exact AllReadyH.nil
        exact AllReadyH.nil
      exact AllReadyH.nil
    exact AllReadyH.nil
  exact AllReadyH.nil
end Go.Proofs.YtipfoljmdeiggaaGreatDoor

/- Names of pieces as bytes: wire.ReadID of the program. -/
namespace Go.Proofs.YtipfoljmdeiggaaGreatDoor
open Go.RowKit Go.Sort

def readD (b : List Nat) (at_ : Int) : Option (Id3 × Nat) :=
  match readI b at_ with
  | .bad _ => none
  | .ok x a1 => match readI b (a1 : Nat) with
    | .bad _ => none
    | .ok y a2 => match readI b (a2 : Nat) with
      | .bad _ => none
      | .ok z a3 => some (⟨x, y, z⟩, a3)
theorem readD_le {b : List Nat} {at_ : Int} {x : Id3} {n : Nat} (h : readD b at_ = some (x, n)) : n ≤ b.length := by
  unfold readD at h
  split at h
  · cases h
  · split at h
    · cases h
    · split at h
      · cases h
      · next hz =>
        cases h
        exact (readI_behind hz).2.2
theorem readD_idB (p r : List Nat) {x : Id3} (hb : I64 x.b) (hs : I64 x.s) (hp : I64 x.p) : readD (p ++ (idB x ++ r)) (p.length : Nat) = some (x, p.length + (idB x).length) := by
  have h1 := readI_intB p (intB x.s ++ (intB x.p ++ r)) hb.1 hb.2
  have h2 := readI_intB (p ++ intB x.b) (intB x.p ++ r) hs.1 hs.2
  have h3 := readI_intB (p ++ intB x.b ++ intB x.s) r hp.1 hp.2
  simp only [List.append_assoc, List.length_append] at h1 h2 h3
  unfold readD idB
  simp only [List.append_assoc, h1, h2, List.length_append]
  rw [show p.length + ((intB x.b).length + (intB x.s).length) = p.length + (intB x.b).length + (intB x.s).length by omega] at h3
  simp only [← Nat.add_assoc]
  rw [h3]
/-- Where the reading of a name stands. -/
def IdSt (b : List Nat) (a0 : Int) (j : Nat) (x y z : Int) (a : Int) : Prop :=
  (j = 0 ∧ a = a0 ∧ x = 0 ∧ y = 0 ∧ z = 0) ∨ (j = 1 ∧ ∃ n : Nat, a = n ∧ readI b a0 = .ok x n ∧ y = 0 ∧ z = 0) ∨ (j = 2 ∧ ∃ n a1 : Nat, a = n ∧ readI b a0 = .ok x a1 ∧ readI b (a1 : Nat) = .ok y n ∧ z = 0) ∨
    (j = 3 ∧ ∃ n : Nat, a = n ∧ readD b a0 = some (⟨x, y, z⟩, n))
theorem IdSt.bad {b : List Nat} {a0 a : Int} {j : Nat} {x y z code : Int} (h : IdSt b a0 j x y z a) (hj : j < 3) (hr : readI b a = .bad code) : readD b a0 = none := by
  rcases h with ⟨rfl, rfl, _⟩ | ⟨rfl, n, rfl, h1, _⟩ | ⟨rfl, n, a1, rfl, h1, h2, _⟩ | ⟨rfl, _⟩
  · unfold readD; rw [hr]
  · unfold readD; rw [h1]; simp only; rw [hr]
  · unfold readD; rw [h1]; simp only; rw [h2]; simp only; rw [hr]
  · omega
theorem IdSt.next {b : List Nat} {a0 a : Int} {j n : Nat} {x y z v : Int} (h : IdSt b a0 j x y z a) (hj : j < 3) (hr : readI b a = .ok v n) : IdSt b a0 (j + 1) (if j = 0 then v else x) (if j = 1 then v else y) (if j = 2 then v else z) (n : Nat) := by
  rcases h with ⟨rfl, rfl, rfl, rfl, rfl⟩ | ⟨rfl, m, rfl, h1, rfl, rfl⟩ | ⟨rfl, m, a1, rfl, h1, h2, rfl⟩ | ⟨rfl, _⟩
  · exact .inr (.inl ⟨rfl, n, rfl, hr, rfl, rfl⟩)
  · exact .inr (.inr (.inl ⟨rfl, n, m, rfl, h1, hr, rfl⟩))
  · refine .inr (.inr (.inr ⟨rfl, n, rfl, ?_⟩))
    unfold readD; rw [h1]; simp only; rw [h2]; simp only; rw [hr]; rfl
  · omega
theorem results_cell_two {P : Program} {fn : Func} {p u v : Tmp} {ty : TypeId} (h : fn.results = #[.cell p ty, .tmp u, .tmp v]) (tmps : Array Value) (w : World) (g : Nat) (t : TypeId) (cs : Array Value) (fr : Nat × Nat) (d : TypeDesc)
    (hp : tmps.getD p undef = .pointer (some ⟨g, 0, none⟩)) (hg : w.heap[g]? = some (.cells cs t fr))
    (hu : P.underlying ty = some d) (hd : (match d with | .struct _ | .array _ _ => true | _ => false) = true) (hi : (P.info? ty).map (·.size) = some cs.size) :
    (results fn tmps).run P w = .ok (.tuple #[.agg cs, tmps.getD u undef, tmps.getD v undef]) w := by
  have hp' : tmps[p]?.getD undef = .pointer (some ⟨g, 0, none⟩) := by simpa using hp
  simp [results, h, hp', asAddr, run_loadVar_row w g t ty cs fr d hg hu hd hi]
def ReadDPost (w : World) (r : Option (Id3 × Nat)) (e : Ending) (w' : World) : Prop :=
  (∀ x next, r = some (x, next) → e = .returned (.tuple #[idV x, .int .i64 (next : Nat), .nilIface]) ∧ Below w.heap.size w w') ∧
  (r = none → ∃ v, e = .returned (.tuple #[idV ⟨0, 0, 0⟩, .int .i64 0, v]) ∧ (∃ at_ code, ErrAt w' v at_ code) ∧ Below w.heap.size w w')
set_option maxRecDepth 100000 in
set_option maxHeartbeats 8000000 in
theorem readID_c (S : Nat → Prop) (b : List Nat) (A : Option Addr) (c : Nat) (at_ : Int) (w : World) (h : RdS w S 1 A b.length (bytesC b)) (hb : ∀ x ∈ b, x < 256) (hl : b.length ≤ 1000000) :
    Calls Tryz.prog 200 #[.slice A b.length c, .int .i64 at_] w (ReadDPost w (readD b at_)) := by
  have HO := Lib.hid h
  have HBy := Lib.hid hb
  clear h hb
  go_enter Tryz.func200, Tryz.ntmps200
  go_wp2_with fail
  have HX0 := Lib.hid (show Bk ((w.alloc (.cells #[.int .i64 0, .int .i64 0, .int .i64 0] 61 (0, 0))).alloc (.cells #[.pointer (some ⟨w.heap.size, 0, none⟩), .pointer (some ⟨w.heap.size, 1, none⟩), .pointer (some ⟨w.heap.size, 2, none⟩)] 346 (0, 0))) w.heap.size 61 #[.int .i64 0, .int .i64 0, .int .i64 0] from (Bk.new _ _ _).alloc _)
  have HP0 := Lib.hid (show Bk ((w.alloc (.cells #[.int .i64 0, .int .i64 0, .int .i64 0] 61 (0, 0))).alloc (.cells #[.pointer (some ⟨w.heap.size, 0, none⟩), .pointer (some ⟨w.heap.size, 1, none⟩), .pointer (some ⟨w.heap.size, 2, none⟩)] 346 (0, 0))) (w.heap.size + 1) 346 #[.pointer (some ⟨w.heap.size, 0, none⟩), .pointer (some ⟨w.heap.size, 1, none⟩), .pointer (some ⟨w.heap.size, 2, none⟩)] from Bk.newAt (by simp))
  go_loopg [5, 6, 15] 3 (fun gk v5 v6 v15 wr => ∃ (j : Nat) (x y z a : Int), j + gk = 3 ∧ v15 = .int .i64 (j : Nat) ∧ v5 = .int .i64 a ∧ v6 = .nilIface ∧ Hid (IdSt b at_ j x y z a) ∧ Bk wr w.heap.size 61 #[.int .i64 x, .int .i64 y, .int .i64 z] ∧
    Bk wr (w.heap.size + 1) 346 #[.pointer (some ⟨w.heap.size, 0, none⟩), .pointer (some ⟨w.heap.size, 1, none⟩), .pointer (some ⟨w.heap.size, 2, none⟩)] ∧ Below w.heap.size w wr)
  case atStart => exact ⟨0, 0, 0, 0, at_, by omega, rfl, rfl, rfl, Lib.hid (.inl ⟨rfl, rfl, rfl, rfl, rfl⟩), HX0.out, HP0.out, ext_alloc (ext_alloc (Below.refl _ _) _) _⟩
  case round =>
    obtain ⟨j, x, y, z, a, hjk, rfl, rfl, rfl, hst, hx, hp, hb⟩ := hrel
    have HX := Lib.hid hx
    have HP := Lib.hid hp
    have HB := Lib.hid hb
    have p0 : wr.cell? ⟨w.heap.size + 1, 0, none⟩ = some (.pointer (some ⟨w.heap.size, 0, none⟩)) := (hp.cell 0).trans rfl
    have p1 : wr.cell? ⟨w.heap.size + 1, 1, none⟩ = some (.pointer (some ⟨w.heap.size, 1, none⟩)) := (hp.cell 1).trans rfl
    have p2 : wr.cell? ⟨w.heap.size + 1, 2, none⟩ = some (.pointer (some ⟨w.heap.size, 2, none⟩)) := (hp.cell 2).trans rfl
    have hpl := hp.lt
    clear hx hp hb HX0 HP0
    by_cases hj : j < 3
    · obtain ⟨g, rfl⟩ : ∃ g, gk = g + 1 := ⟨gk - 1, by omega⟩
      cases hq : readI b a with
      | bad code =>
        have HQ := Lib.hid hq
        have HN := Lib.hid (hst.out.bad hj hq)
        clear hq hst
        have hj3 : j = 0 ∨ j = 1 ∨ j = 2 := by omega
        clear hjk
        rcases hj3 with rfl | rfl | rfl
        · go_wp2_with (first
            | (go_at_call 192; refine (readInt_c S b A c a _ (HO.out.ext HB.out) HBy.out hl).mono ?_; rintro e w2 hpost; obtain ⟨ve, rfl, hE, hb⟩ := hpost.2 code HQ.out; obtain ⟨fb, sx, v', n, rfl, hE⟩ := hE; have HE := Lib.hid hE
               have HB2 := Lib.hid (ext_trans HB.out hb); have HX2 := Lib.hid (HX.out.ext hb)
               have x0 : w2.cell? ⟨w.heap.size, 0, none⟩ = some (.int .i64 x) := (HX2.out.cell 0).trans rfl
               have f0 := HX2.out.frozen 0
               have x1 : w2.cell? ⟨w.heap.size, 1, none⟩ = some (.int .i64 y) := (HX2.out.cell 1).trans rfl
               have f1 := HX2.out.frozen 1
               have x2 : w2.cell? ⟨w.heap.size, 2, none⟩ = some (.int .i64 z) := (HX2.out.cell 2).trans rfl
               have f2 := HX2.out.frozen 2
               have hxl2 := HX2.out.lt
               clear hE hb hpost))
          have HX3 := Lib.hid (show Bk ((((w2.setCell ⟨w.heap.size, 0, none⟩ (.int .i64 0)).setCell ⟨w.heap.size, 0, none⟩ (.int .i64 0)).setCell ⟨w.heap.size, 1, none⟩ (.int .i64 0)).setCell ⟨w.heap.size, 2, none⟩ (.int .i64 0)) w.heap.size 61 #[.int .i64 0, .int .i64 0, .int .i64 0] from (((HX2.out.set_ 0 _).set_ 0 _).set_ 1 _).set_ 2 _)
          refine bodyPost_ret (results_cell_two (g := w.heap.size) (t := 61) (cs := #[.int .i64 0, .int .i64 0, .int .i64 0]) (fr := (0, 0)) rfl _ _ _ rfl HX3.out Tryz.underlying61 rfl (by kernel_rfl)) rfl ?_
          refine ⟨(fun _ _ hh => by rw [HN.out] at hh; cases hh), fun _ => ⟨.iface 178 (.pointer (some ⟨fb, 0, none⟩)), rfl, ⟨a, code, ?_⟩, ?_⟩⟩
          · exact ErrAt.farBk (ErrAt.farBk (ErrAt.farBk (ErrAt.farBk ⟨fb, sx, v', n, rfl, HE.out⟩ HX2.out (by decide)) (HX2.out.set_ 0 _) (by decide)) ((HX2.out.set_ 0 _).set_ 0 _) (by decide)) (((HX2.out.set_ 0 _).set_ 0 _).set_ 1 _) (by decide)
          · exact (((HB2.out.setCell (Nat.le_refl _) _).setCell (Nat.le_refl _) _).setCell (Nat.le_refl _) _).setCell (Nat.le_refl _) _
        · go_wp2_with (first
            | (go_at_call 192; refine (readInt_c S b A c a _ (HO.out.ext HB.out) HBy.out hl).mono ?_; rintro e w2 hpost; obtain ⟨ve, rfl, hE, hb⟩ := hpost.2 code HQ.out; obtain ⟨fb, sx, v', n, rfl, hE⟩ := hE; have HE := Lib.hid hE
               have HB2 := Lib.hid (ext_trans HB.out hb); have HX2 := Lib.hid (HX.out.ext hb)
               have x0 : w2.cell? ⟨w.heap.size, 0, none⟩ = some (.int .i64 x) := (HX2.out.cell 0).trans rfl
               have f0 := HX2.out.frozen 0
               have x1 : w2.cell? ⟨w.heap.size, 1, none⟩ = some (.int .i64 y) := (HX2.out.cell 1).trans rfl
               have f1 := HX2.out.frozen 1
               have x2 : w2.cell? ⟨w.heap.size, 2, none⟩ = some (.int .i64 z) := (HX2.out.cell 2).trans rfl
               have f2 := HX2.out.frozen 2
               have hxl2 := HX2.out.lt
               clear hE hb hpost))
          have HX3 := Lib.hid (show Bk ((((w2.setCell ⟨w.heap.size, 1, none⟩ (.int .i64 0)).setCell ⟨w.heap.size, 0, none⟩ (.int .i64 0)).setCell ⟨w.heap.size, 1, none⟩ (.int .i64 0)).setCell ⟨w.heap.size, 2, none⟩ (.int .i64 0)) w.heap.size 61 #[.int .i64 0, .int .i64 0, .int .i64 0] from (((HX2.out.set_ 1 _).set_ 0 _).set_ 1 _).set_ 2 _)
          refine bodyPost_ret (results_cell_two (g := w.heap.size) (t := 61) (cs := #[.int .i64 0, .int .i64 0, .int .i64 0]) (fr := (0, 0)) rfl _ _ _ rfl HX3.out Tryz.underlying61 rfl (by kernel_rfl)) rfl ?_
          refine ⟨(fun _ _ hh => by rw [HN.out] at hh; cases hh), fun _ => ⟨.iface 178 (.pointer (some ⟨fb, 0, none⟩)), rfl, ⟨a, code, ?_⟩, ?_⟩⟩
          · exact ErrAt.farBk (ErrAt.farBk (ErrAt.farBk (ErrAt.farBk ⟨fb, sx, v', n, rfl, HE.out⟩ HX2.out (by decide)) (HX2.out.set_ 1 _) (by decide)) ((HX2.out.set_ 1 _).set_ 0 _) (by decide)) (((HX2.out.set_ 1 _).set_ 0 _).set_ 1 _) (by decide)
          · exact (((HB2.out.setCell (Nat.le_refl _) _).setCell (Nat.le_refl _) _).setCell (Nat.le_refl _) _).setCell (Nat.le_refl _) _
        · go_wp2_with (first
            | (go_at_call 192; refine (readInt_c S b A c a _ (HO.out.ext HB.out) HBy.out hl).mono ?_; rintro e w2 hpost; obtain ⟨ve, rfl, hE, hb⟩ := hpost.2 code HQ.out; obtain ⟨fb, sx, v', n, rfl, hE⟩ := hE; have HE := Lib.hid hE
               have HB2 := Lib.hid (ext_trans HB.out hb); have HX2 := Lib.hid (HX.out.ext hb)
               have x0 : w2.cell? ⟨w.heap.size, 0, none⟩ = some (.int .i64 x) := (HX2.out.cell 0).trans rfl
               have f0 := HX2.out.frozen 0
               have x1 : w2.cell? ⟨w.heap.size, 1, none⟩ = some (.int .i64 y) := (HX2.out.cell 1).trans rfl
               have f1 := HX2.out.frozen 1
               have x2 : w2.cell? ⟨w.heap.size, 2, none⟩ = some (.int .i64 z) := (HX2.out.cell 2).trans rfl
               have f2 := HX2.out.frozen 2
               have hxl2 := HX2.out.lt
               clear hE hb hpost))
          have HX3 := Lib.hid (show Bk ((((w2.setCell ⟨w.heap.size, 2, none⟩ (.int .i64 0)).setCell ⟨w.heap.size, 0, none⟩ (.int .i64 0)).setCell ⟨w.heap.size, 1, none⟩ (.int .i64 0)).setCell ⟨w.heap.size, 2, none⟩ (.int .i64 0)) w.heap.size 61 #[.int .i64 0, .int .i64 0, .int .i64 0] from (((HX2.out.set_ 2 _).set_ 0 _).set_ 1 _).set_ 2 _)
          refine bodyPost_ret (results_cell_two (g := w.heap.size) (t := 61) (cs := #[.int .i64 0, .int .i64 0, .int .i64 0]) (fr := (0, 0)) rfl _ _ _ rfl HX3.out Tryz.underlying61 rfl (by kernel_rfl)) rfl ?_
          refine ⟨(fun _ _ hh => by rw [HN.out] at hh; cases hh), fun _ => ⟨.iface 178 (.pointer (some ⟨fb, 0, none⟩)), rfl, ⟨a, code, ?_⟩, ?_⟩⟩
          · exact ErrAt.farBk (ErrAt.farBk (ErrAt.farBk (ErrAt.farBk ⟨fb, sx, v', n, rfl, HE.out⟩ HX2.out (by decide)) (HX2.out.set_ 2 _) (by decide)) ((HX2.out.set_ 2 _).set_ 0 _) (by decide)) (((HX2.out.set_ 2 _).set_ 0 _).set_ 1 _) (by decide)
          · exact (((HB2.out.setCell (Nat.le_refl _) _).setCell (Nat.le_refl _) _).setCell (Nat.le_refl _) _).setCell (Nat.le_refl _) _
      | ok v n =>
        have HQ := Lib.hid hq
        have HN := Lib.hid (hst.out.next hj hq)
        clear hq hst
        have hj3 : j = 0 ∨ j = 1 ∨ j = 2 := by omega
        rcases hj3 with rfl | rfl | rfl
        · go_wp2_with (first
            | (go_at_call 192; refine (readInt_c S b A c a _ (HO.out.ext HB.out) HBy.out hl).mono ?_; rintro e w2 hpost; obtain ⟨rfl, hb⟩ := hpost.1 v n HQ.out
               have HB2 := Lib.hid (ext_trans HB.out hb); have HX2 := Lib.hid (HX.out.ext hb); have HP2 := Lib.hid (HP.out.ext hb)
               have x0 : w2.cell? ⟨w.heap.size, 0, none⟩ = some (.int .i64 x) := (HX2.out.cell 0).trans rfl
               have f0 := HX2.out.frozen 0
               have x1 : w2.cell? ⟨w.heap.size, 1, none⟩ = some (.int .i64 y) := (HX2.out.cell 1).trans rfl
               have f1 := HX2.out.frozen 1
               have x2 : w2.cell? ⟨w.heap.size, 2, none⟩ = some (.int .i64 z) := (HX2.out.cell 2).trans rfl
               have f2 := HX2.out.frozen 2
               have hxl2 := HX2.out.lt
               clear hb hpost))
          go_roundg g
          case measure => omega
          case rel => exact ⟨1, v, y, z, (n : Nat), by omega, by go_num, rfl, rfl, HN, HX2.out.set_ 0 _, HP2.out.far (p := ⟨w.heap.size, 0, none⟩) (by show w.heap.size + 1 ≠ w.heap.size; omega) _, HB2.out.setCell (p := ⟨w.heap.size, 0, none⟩) (Nat.le_refl _) _⟩
        · go_wp2_with (first
            | (go_at_call 192; refine (readInt_c S b A c a _ (HO.out.ext HB.out) HBy.out hl).mono ?_; rintro e w2 hpost; obtain ⟨rfl, hb⟩ := hpost.1 v n HQ.out
               have HB2 := Lib.hid (ext_trans HB.out hb); have HX2 := Lib.hid (HX.out.ext hb); have HP2 := Lib.hid (HP.out.ext hb)
               have x0 : w2.cell? ⟨w.heap.size, 0, none⟩ = some (.int .i64 x) := (HX2.out.cell 0).trans rfl
               have f0 := HX2.out.frozen 0
               have x1 : w2.cell? ⟨w.heap.size, 1, none⟩ = some (.int .i64 y) := (HX2.out.cell 1).trans rfl
               have f1 := HX2.out.frozen 1
               have x2 : w2.cell? ⟨w.heap.size, 2, none⟩ = some (.int .i64 z) := (HX2.out.cell 2).trans rfl
               have f2 := HX2.out.frozen 2
               have hxl2 := HX2.out.lt
               clear hb hpost))
          go_roundg g
          case measure => omega
          case rel => exact ⟨2, x, v, z, (n : Nat), by omega, by go_num, rfl, rfl, HN, HX2.out.set_ 1 _, HP2.out.far (p := ⟨w.heap.size, 1, none⟩) (by show w.heap.size + 1 ≠ w.heap.size; omega) _, HB2.out.setCell (p := ⟨w.heap.size, 1, none⟩) (Nat.le_refl _) _⟩
        · go_wp2_with (first
            | (go_at_call 192; refine (readInt_c S b A c a _ (HO.out.ext HB.out) HBy.out hl).mono ?_; rintro e w2 hpost; obtain ⟨rfl, hb⟩ := hpost.1 v n HQ.out
               have HB2 := Lib.hid (ext_trans HB.out hb); have HX2 := Lib.hid (HX.out.ext hb); have HP2 := Lib.hid (HP.out.ext hb)
               have x0 : w2.cell? ⟨w.heap.size, 0, none⟩ = some (.int .i64 x) := (HX2.out.cell 0).trans rfl
               have f0 := HX2.out.frozen 0
               have x1 : w2.cell? ⟨w.heap.size, 1, none⟩ = some (.int .i64 y) := (HX2.out.cell 1).trans rfl
               have f1 := HX2.out.frozen 1
               have x2 : w2.cell? ⟨w.heap.size, 2, none⟩ = some (.int .i64 z) := (HX2.out.cell 2).trans rfl
               have f2 := HX2.out.frozen 2
               have hxl2 := HX2.out.lt
               clear hb hpost))
          go_roundg g
          case measure => omega
          case rel => exact ⟨3, x, y, v, (n : Nat), by omega, by go_num, rfl, rfl, HN, HX2.out.set_ 2 _, HP2.out.far (p := ⟨w.heap.size, 2, none⟩) (by show w.heap.size + 1 ≠ w.heap.size; omega) _, HB2.out.setCell (p := ⟨w.heap.size, 2, none⟩) (Nat.le_refl _) _⟩
    · obtain rfl : j = 3 := by omega
      have hF : ∃ n : Nat, a = n ∧ readD b at_ = some (⟨x, y, z⟩, n) := by
        rcases hst.out with ⟨h, _⟩ | ⟨h, _⟩ | ⟨h, _⟩ | ⟨_, h⟩
        · omega
        · omega
        · omega
        · exact h
      obtain ⟨n, rfl, hF⟩ := hF
      have HF := Lib.hid hF
      have q0 : wr.cell? ⟨w.heap.size, 0, none⟩ = some (.int .i64 x) := (HX.out.cell 0).trans rfl
      have q1 : wr.cell? ⟨w.heap.size, 1, none⟩ = some (.int .i64 y) := (HX.out.cell 1).trans rfl
      have q2 : wr.cell? ⟨w.heap.size, 2, none⟩ = some (.int .i64 z) := (HX.out.cell 2).trans rfl
      have f0 := HX.out.frozen 0
      have f1 := HX.out.frozen 1
      have f2 := HX.out.frozen 2
      have hxl := HX.out.lt
      clear hF hst
      go_wp2_with fail
      have HX3 := Lib.hid (show Bk (((wr.setCell ⟨w.heap.size, 0, none⟩ (.int .i64 x)).setCell ⟨w.heap.size, 1, none⟩ (.int .i64 y)).setCell ⟨w.heap.size, 2, none⟩ (.int .i64 z)) w.heap.size 61 #[.int .i64 x, .int .i64 y, .int .i64 z] from ((HX.out.set_ 0 _).set_ 1 _).set_ 2 _)
      refine bodyPost_ret (results_cell_two (g := w.heap.size) (t := 61) (cs := #[.int .i64 x, .int .i64 y, .int .i64 z]) (fr := (0, 0)) rfl _ _ _ rfl HX3.out Tryz.underlying61 rfl (by kernel_rfl)) rfl ?_
      refine ⟨(fun x' n' hh => ?_), (fun hh => by rw [HF.out] at hh; cases hh)⟩
      rw [HF.out] at hh
      cases hh
      exact ⟨rfl, ((HB.out.setCell (Nat.le_refl _) _).setCell (Nat.le_refl _) _).setCell (Nat.le_refl _) _⟩
end Go.Proofs.YtipfoljmdeiggaaGreatDoor

/- The ways of a plan, in the program: Needs. -/
namespace Go.Proofs.YtipfoljmdeiggaaGreatDoor
open Go.RowKit Go.Sort

def pb (b : Int) (y : Pt) : Id3 := ⟨b, (y.1 : Nat), (y.2 : Nat)⟩
def isSt (ops : List OpD) (s : Nat) : Bool := ((ops[s]?).map fun o => decide (o.k = 8)).getD false
/-- What a piece needs. -/
def needsL (p : PlanD) (b : Int) (s q : Nat) : List Id3 := (ownL p.ops p.parts.toNat s q).map (pb b) ++ (if isSt p.ops s && decide (1 < b) then [⟨b - 1, (s : Nat), (q : Nat)⟩] else [])
/-- The first i of them bear the batch's number. -/
def mixL (b : Int) (i : Nat) (l : List Pt) : List Id3 := (l.take i).map (pb b) ++ (l.drop i).map pid
theorem mixL_zero (b : Int) (l : List Pt) : mixL b 0 l = l.map pid := by simp [mixL]
theorem mixL_full (b : Int) (l : List Pt) : mixL b l.length l = l.map (pb b) := by simp [mixL]
theorem mixL_len (b : Int) (i : Nat) (l : List Pt) : (mixL b i l).length = l.length := by simp [mixL]; omega
theorem flat_set {α : Type} (f : α → List Value) (z : Nat) (hz : ∀ x, (f x).length = z) (u : Value) (j : Nat) (hj : j < z) : ∀ (l1 : List α) (x y : α) (l2 : List α), (f x).set j u = f y → ((l1 ++ x :: l2).flatMap f).set (l1.length * z + j) u = (l1 ++ y :: l2).flatMap f
  | [], x, y, l2, h => by
    simp only [List.nil_append, List.flatMap_cons, List.length_nil, Nat.zero_mul, Nat.zero_add]
    rw [List.set_append_left _ _ (by rw [hz]; exact hj), h]
  | a :: l1, x, y, l2, h => by
    have ih := flat_set f z hz u j hj l1 x y l2 h
    simp only [List.cons_append, List.flatMap_cons, List.length_cons]
    rw [List.set_append_right _ _ (by rw [hz, Nat.add_mul]; omega), hz]
    congr 1
    rw [← ih]
    congr 1
    rw [Nat.add_mul]; omega
theorem mixL_set {b : Int} {i : Nat} {l : List Pt} (hi : i < l.length) : (idsC (mixL b i l)).set (i * 3) (.int .i64 b) = idsC (mixL b (i + 1) l) := by
  have h1 : mixL b i l = (l.take i).map (pb b) ++ pid l[i] :: (l.drop (i + 1)).map pid := by
    unfold mixL
    rw [List.drop_eq_getElem_cons hi]
    rfl
  have h2 : mixL b (i + 1) l = (l.take i).map (pb b) ++ pb b l[i] :: (l.drop (i + 1)).map pid := by
    unfold mixL
    rw [List.take_succ_eq_append_getElem hi, List.map_append, List.append_assoc]
    rfl
  have h3 : ((l.take i).map (pb b)).length = i := by simp; omega
  have h4 := flat_set idC 3 (fun _ => rfl) (.int .i64 b) 0 (by omega) ((l.take i).map (pb b)) (pid l[i]) (pb b l[i]) ((l.drop (i + 1)).map pid) rfl
  rw [h3] at h4
  rw [h1, h2]
  exact h4
def NeedsPost (B wb : Nat) (R : Nat → Prop) (p : PlanD) (A K : Option Addr) (c kc : Nat) (l : List Id3) (w : World) (e : Ending) (w' : World) : Prop :=
  ∃ (A1 : Option Addr) (c1 : Nat) (R' : Nat → Prop), e = .returned (.slice A1 l.length c1) ∧ w'.ownsRow w.heap.size 61 3 (.slice A1 l.length c1) l.length (idsC l) ∧ Fr R w w' ∧ WaysIs B wb R' p A K c kc w' ∧ (∀ k, R' k → R k ∨ w.heap.size ≤ k) ∧ (∀ k, (Value.slice A1 l.length c1).ownBlock = some k → ¬ R' k)
set_option maxRecDepth 100000 in
set_option maxHeartbeats 4000000 in
theorem needs_no (B wb : Nat) (R : Nat → Prop) (p : PlanD) (A K : Option Addr) (c kc : Nat) (x : Id3) (w : World) (h : WaysIs B wb R p A K c kc w) (hp : Shaped p) (hx : hasB p x = false) :
    Calls Tryz.prog 178 #[.pointer (some ⟨wb, 0, none⟩), idV x] w (NeedsPost B wb R p A K c kc [] w) := by
  have HW := Lib.hid h
  have HP := Lib.hid hp
  have HX := Lib.hid hx
  clear h hp hx
  go_enter Tryz.func178, Tryz.ntmps178
  go_wp2_with (first
    | (go_at_call 224; refine (has_c B wb R p A K c kc x _ (HW.out.ext (ext_alloc (Below.refl _ _) _)) HP.out).mono ?_; rw [HX.out]; rintro e w1 ⟨rfl, hb⟩; have HB1 := Lib.hid (ext_trans (ext_alloc (Below.refl _ _) _) hb); clear hb))
  go_ret
  exact ⟨none, 0, R, rfl, World.ownsRow_nil _ _ _ _, Fr.of_below HB1.out, HW.out.ext HB1.out, fun k hk => .inl hk, fun k hk => by cases hk⟩
structure NInv (B wb : Nat) (R R' : Nat → Prop) (p : PlanD) (A K : Option Addr) (c kc : Nat) (b : Int) (s q : Nat) (w0 : World) (base n : Nat) (v : Value) (l : List Id3) (w : World) : Prop where
  own : w.ownsRow base 61 3 v n (idsC l)
  fr : Fr R w0 w
  ways : WaysIs B wb R' p A K c kc w
  box : Bk w w0.heap.size 61 #[.int .i64 b, .int .i64 (s : Nat), .int .i64 (q : Nat)]
theorem NInv.set_ {B wb : Nat} {R R' : Nat → Prop} {p : PlanD} {A K : Option Addr} {c kc : Nat} {b : Int} {s q : Nat} {w0 : World} {base : Nat} {l l' : List Id3} {w : World} {g cap j n : Nat} {u : Value} (h : NInv B wb R R' p A K c kc b s q w0 base n (.slice (some ⟨g, 0, none⟩) n cap) l w) (hb : w0.heap.size < base) (hl : (idsC l).set j u = idsC l') (hR : ¬ R' g) (hB : B ≤ w0.heap.size) :
    NInv B wb R R' p A K c kc b s q w0 base n (.slice (some ⟨g, 0, none⟩) n cap) l' (w.setCell ⟨g, j, none⟩ u) := by
  have hg : base ≤ g := (h.own.lt g rfl).1
  refine ⟨?_, h.fr.set_ (.inr (by show w0.heap.size ≤ g; omega)) u, h.ways.fr (Fr.one w g j u) (fun k hk e => hR (e ▸ hk)) (fun k hk e => by omega), h.box.far (by show w0.heap.size ≠ g; omega) u⟩
  rw [← hl]
  exact own_set h.own j u
set_option maxRecDepth 100000 in
set_option maxHeartbeats 4000000 in
theorem needs_yes (B wb : Nat) (R : Nat → Prop) (p : PlanD) (A K : Option Addr) (c kc : Nat) (b : Int) (s q : Nat) (w : World) (h : WaysIs B wb R p A K c kc w) (hp : Shaped p) (hb1 : 1 ≤ b) (hb2 : b ≤ 9223372036854775807) (hs : s < p.ops.length) (hq : q < p.parts.toNat) :
    Calls Tryz.prog 178 #[.pointer (some ⟨wb, 0, none⟩), idV ⟨b, (s : Nat), (q : Nat)⟩] w (NeedsPost B wb R p A K c kc (needsL p b s q) w) := by
  have hn12 := hp.n12
  have HH := Lib.hid (show hasB p ⟨b, (s : Nat), (q : Nat)⟩ = true from (by unfold hasB; simp only [Bool.and_eq_true, decide_eq_true_eq]; omega))
  have hgl := (good_own hp hs hq).len
  have hy : p.ops[s]? = some (p.ops[s]) := List.getElem?_eq_getElem hs
  generalize p.ops[s] = o at hy
  have HN := Lib.hid (show needsL p b s q = (ownL p.ops p.parts.toNat s q).map (pb b) ++ (if decide (o.k = 8) && decide (1 < b) then [⟨b - 1, (s : Nat), (q : Nat)⟩] else []) from (by unfold needsL isSt; rw [hy]; rfl))
  have HW := Lib.hid h
  have HP := Lib.hid hp
  have HY := Lib.hid hy
  have HO := Lib.hid (own_c B wb R p A K c kc s q)
  obtain ⟨l, hl⟩ : ∃ l, l = ownL p.ops p.parts.toNat s q := ⟨_, rfl⟩
  rw [← hl] at hgl HN HO
  clear h hp hy hl
  go_enter Tryz.func178, Tryz.ntmps178
  go_wp2_with (first
    | (go_at_call 224; refine (has_c B wb R p A K c kc ⟨b, (s : Nat), (q : Nat)⟩ _ (HW.out.ext (ext_alloc (Below.refl _ _) _)) HP.out).mono ?_; rw [HH.out]; rintro e w1 ⟨rfl, hb⟩
       have HB1 := Lib.hid (ext_trans (ext_alloc (Below.refl _ _) _) hb)
       have HX1 := Lib.hid ((Bk.new w 61 #[.int .i64 b, .int .i64 (s : Nat), .int .i64 (q : Nat)]).ext hb)
       have HW1 := Lib.hid (HW.out.ext HB1.out)
       have x0 : w1.cell? ⟨w.heap.size, 0, none⟩ = some (.int .i64 b) := (HX1.out.cell 0).trans rfl
       have x1 : w1.cell? ⟨w.heap.size, 1, none⟩ = some (.int .i64 (s : Nat)) := (HX1.out.cell 1).trans rfl
       have x2 : w1.cell? ⟨w.heap.size, 2, none⟩ = some (.int .i64 (q : Nat)) := (HX1.out.cell 2).trans rfl
       have hxl := HX1.out.lt
       clear hb)
    | (go_at_call 241; refine (HO.out _ HW1.out HP.out hs hq).mono ?_; rintro e w2 ⟨A1, c1, R', rfl, hown, hfr, hW, hR, hd⟩
       have HO2 := Lib.hid hown
       have HF2 := Lib.hid hfr
       have HW2 := Lib.hid hW
       have HR2 := Lib.hid hR
       have HD2 := Lib.hid hd
       have HX2 := Lib.hid (HX1.out.fr hfr (fun hR => by have := (HW.out.bd _ hR).2; omega))
       clear hown hfr hW hR hd))
  have hBw := (HW.out.bd)
  obtain ⟨mb0, es0, hw0⟩ := HW.out
  have hBl : B ≤ w.heap.size := by have := hw0.bd _ hw0.rw; omega
  have hwl1 : w.heap.size < w1.heap.size := HX1.out.lt
  have HI := Lib.hid (show NInv B wb R R' p A K c kc b s q w w1.heap.size l.length (.slice A1 l.length c1) (mixL b 0 l) w2 from ⟨by rw [mixL_zero]; exact HO2.out, (Fr.of_below HB1.out).trans HF2.out (fun k hk => .inl hk), HW2.out, HX2.out⟩)
  clear x0 x1 x2 hxl hBw hw0
  go_loopg [19] l.length (fun gk v19 wr => ∃ i : Nat, i + gk = l.length ∧ v19 = .int .i64 (i : Nat) ∧ NInv B wb R R' p A K c kc b s q w w1.heap.size l.length (.slice A1 l.length c1) (mixL b i l) wr)
  case atStart => exact ⟨0, by omega, rfl, HI.out⟩
  case round =>
    obtain ⟨i, hik, rfl, hI⟩ := hrel
    have HIw := Lib.hid hI
    have x0 : wr.cell? ⟨w.heap.size, 0, none⟩ = some (.int .i64 b) := (hI.box.cell 0).trans rfl
    have x1 : wr.cell? ⟨w.heap.size, 1, none⟩ = some (.int .i64 (s : Nat)) := (hI.box.cell 1).trans rfl
    have x2 : wr.cell? ⟨w.heap.size, 2, none⟩ = some (.int .i64 (q : Nat)) := (hI.box.cell 2).trans rfl
    have hxl := hI.box.lt
    clear hI
    by_cases hi : i < l.length
    · obtain ⟨g, rfl, hgb, hgc⟩ := own_some HIw.out.own (by omega)
      have c0 := HIw.out.own.cellAt (i * 3) (by omega)
      have f0 := own_frozen HIw.out.own (i * 3)
      obtain ⟨u0, hu0⟩ : ∃ u0, (idsC (mixL b i l))[i * 3]? = some u0 := ⟨_, List.getElem?_eq_getElem (by rw [idsC_len, mixL_len]; omega)⟩
      rw [hu0] at c0
      obtain ⟨ad, had⟩ : ∃ ad : Addr, ad = ⟨g, 0, none⟩ := ⟨_, rfl⟩
      have HN2 := Lib.hid ((HIw.out.set_ (j := i * 3) (u := .int .i64 b) hwl1 (mixL_set hi) (HD2.out g rfl) hBl))
      rw [← adr1 (i := i * 3) had] at c0 f0
      rw [← adr1 (i := i * 3) had, ← had] at HN2
      rw [← had] at ⊢
      have hgl : g < wr.heap.size := (HIw.out.own.lt g rfl).2
      have hadl : (ad.add (i * 3)).block = g := by rw [adr1 had]
      have HAD := Lib.hid had
      clear hu0 had
      go_wp2_with fail
      have had := HAD.out
      subst had
      go_roundg (gk - 1)
      case measure => omega
      case rel => exact ⟨i + 1, by omega, by go_num, HN2.out⟩
    · have hil : i = l.length := by omega
      subst hil
      rw [mixL_full] at HIw
      obtain ⟨mb, es, hw⟩ := HIw.out.ways
      have z2 : wr.cell? ⟨wb, 2, none⟩ = some (.slice A p.ops.length c) := (hw.bk.cell 2).trans rfl
      obtain ⟨ado, rfl, d0, d1, d2, d3, d4⟩ := (hw.ops.rd (e := 138) (Nat.le_refl _)).ops HY.out hs
      have hdl := World.block_lt_of_cell? wr _ d0
      have hwl := hw.bk.lt
      have HAU := Lib.hid HIw.out.own
      clear hw
      cases hk : decide (o.k = 8) && decide (1 < b) with
      | false =>
        rw [hk, if_neg (by simp), List.append_nil] at HN
        by_cases h8 : o.k = 8
        · have hb3 : decide (1 < b) = false := by simpa [h8] using hk
          have e8 : (o.k == 8) = true := by simp [h8]
          rw [h8] at d0
          clear hk h8 e8
          go_wp2_with fail
          go_quiet (fail)
          go_wp2_with fail
          go_ret
          rw [HN.out]
          have HIq := HIw.out
          refine ⟨A1, c1, R', by rw [List.length_map]; rfl, ?_, HIq.fr.drewN _, HIq.ways.ext (below_drewN (Below.refl _ _) _), fun k hk => ?_, by rw [List.length_map]; exact HD2.out⟩
          · rw [List.length_map]
            exact own_mono HIq.own (Nat.le_of_lt hwl1)
          · rcases HR2.out k hk with h | h
            · exact .inl h
            · exact .inr (by omega)
        · have e8 : (o.k == 8) = false := by simp [h8]
          clear hk h8
          go_wp2_with fail
          go_quiet (fail)
          go_wp2_with fail
          go_ret
          rw [HN.out]
          have HIq := HIw.out
          refine ⟨A1, c1, R', by rw [List.length_map]; rfl, ?_, HIq.fr.drewN _, HIq.ways.ext (below_drewN (Below.refl _ _) _), fun k hk => ?_, by rw [List.length_map]; exact HD2.out⟩
          · rw [List.length_map]
            exact own_mono HIq.own (Nat.le_of_lt hwl1)
          · rcases HR2.out k hk with h | h
            · exact .inl h
            · exact .inr (by omega)
      | true =>
        rw [hk, if_pos rfl] at HN
        simp only [Bool.and_eq_true, decide_eq_true_eq] at hk
        obtain ⟨h8, hb3⟩ := hk
        have u3 : decide (1 < b) = true := decide_eq_true hb3
        rw [h8] at d0
        have e3 : IntKind.i64.wrap (b - 1) = b - 1 := IntWalk.i64_in _ (by omega)
        go_wp2_with fail
        go_quiet (fail)
        go_wp2_with (first
          | (at_builtin; refine wpList_appF id_app _ rfl (.tmp 45) (.tmp 54) rfl w.heap.size (.slice A1 l.length c1) (l.map (pb b)) (by rfl) ((by rw [List.length_map]; exact (own_ext (own_mono HAU.out (Nat.le_of_lt hwl1)) (below_drewN (Below.refl _ _) _)).alloc _)) ⟨b - 1, (s : Nat), (q : Nat)⟩ _ rfl (Bk.new _ _ _) (by rw [List.length_map]; omega) (by have := HIw.out.fr.size; simp only [World.size_alloc, World.heap_drewN]; omega) ?_; intro A2 c2 w3 hown2 hg2 hc2 hj2
             have HO3 := Lib.hid hown2; have HG3 := Lib.hid hg2; have HJ3 := Lib.hid hj2; clear hown2 hg2 hj2))
        go_ret
        rw [HN.out]
        have HIq := HIw.out
        have hsz : w.heap.size ≤ wr.heap.size := HIq.fr.size
        have hW3 : WaysIs B wb R' p (some ado) K c kc w3 := (HIq.ways.ext (ext_alloc (below_drewN (Below.refl _ _) _) _)).fr (S := fun k => (Value.slice A1 l.length c1).ownBlock = some k) (Fr.refl.grown HG3.out (fun k hk => .inl hk)) (fun k hk he => HD2.out k he hk) (fun k hk he => by have := (HIq.own.lt k he).1; omega)
        refine ⟨A2, c2, R', by rw [List.length_append, List.length_map]; rfl, HO3.out, ((HIq.fr.drewN _).alloc _).grown HG3.out (fun k hk => .inr (by have := (HIq.own.lt k hk).1; omega)), hW3, fun k hk => ?_, fun k hk hR => ?_⟩
        · rcases HR2.out k hk with h | h
          · exact .inl h
          · exact .inr (by omega)
        · rcases HJ3.out with h | h
          · rw [h] at hk
            exact HD2.out k hk hR
          · rw [h] at hk
            injection hk with hk
            have := (HIq.ways.bd k hR).2
            simp only [World.size_alloc, World.heap_drewN] at hk
            omega
end Go.Proofs.YtipfoljmdeiggaaGreatDoor
