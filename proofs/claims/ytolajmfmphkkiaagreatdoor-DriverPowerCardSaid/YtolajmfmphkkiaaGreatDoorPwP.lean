/- tributarylaw17.DriverPower returns true whatever the input (any plan, any rows, any number), and its arguments read behind the call as they read before: the tied card. Conditions: none beyond the row's own (errors.errorType is laid as the program's text lays it). -/
import Derived.Test.YtolajmfmphkkiaaGreatDoorPwO
import Derived.Test.YtolajmfmphkkiaaGreatDoorPwA
import Derived.Test.YtolajmfmphkkiaaGreatDoorRows
import Derived.Test.YtolajmfmphkkiaaGreatDoorPwB
import Derived.Test.YtolajmfmphkkiaaGreatDoorPwI
import Derived.Test.YtolajmfmphkkiaaGreatDoorCards
import Derived.Test.YtolajmfmphkkiaaGreatDoorTie
import Derived.ProofKit
import Derived.Deep.Slices
import Derived.WideShapes
import Derived.ChangeSame
import Derived.ChangeVars
import Derived.JoinedOf
import Derived.LaidLaws
import Derived.LaidHandle
import Derived.Stop.Joined
import Derived.ChangeOld

/- tributarylaw17.DriverPower: the walk. -/
namespace Go.Proofs.YtolajmfmphkkiaaGreatDoor
open Go.RowKit Go.Sort

theorem mask_i64 (x : Int) (m : Nat) (hm : m < 9223372036854775808) : ∃ n : Nat, bits .and .i64 x (m : Int) = n ∧ n ≤ m := by
  unfold bits
  simp only
  have h : (BitVec.ofInt 64 x &&& BitVec.ofInt 64 (m : Int)).toNat ≤ m := by
    rw [BitVec.toNat_and]
    refine Nat.le_trans Nat.and_le_right ?_
    simp
    omega
  exact ⟨(BitVec.ofInt 64 x &&& BitVec.ofInt 64 m).toNat, IntWalk.i64_in (((BitVec.ofInt 64 x &&& BitVec.ofInt 64 (m : Int)).toNat : Nat) : Int) (by omega), h⟩
section
variable {B vb db : Nat} {p : PlanD} {A : Option Addr} {c : Nat} {v v' : DrvD} {d d' : DiskD} {K : Nat → Prop} {w0 : World}
theorem push_m (S : Nat → Prop) (l : List Rw) (nl : Nat) (hnl : l.length = nl) (A0 : Option Addr) (c0 : Nat) (w : World) (h : VIs B vb db p A c v d K w0 w) (hr : RdS w S 2 A0 l.length (l.flatMap rwC)) (hS : ∀ k, S k → k < w0.heap.size) (h64 : ∀ r ∈ l, I64 r.k ∧ I64 r.v) (hlf : d.life + 2 ≤ 1000000) (hz : pushD v d l = (none, v', d')) :
    Calls Tryz.prog 21 #[.pointer (some ⟨vb, 0, none⟩), .slice A0 nl c0] w (fun e w' => e = .returned (.tuple #[.int .i64 ((v.x.blocks.length + 1 : Nat) : Int), .nilIface]) ∧ VIs B vb db p A c v' d' K w0 w' ∧ Kept K w w') := by
  subst hnl
  exact push_v S l A0 c0 w h hr hS h64 hlf hz
theorem push_mno {code : Int} (S : Nat → Prop) (l : List Rw) (nl : Nat) (hnl : l.length = nl) (A0 : Option Addr) (c0 : Nat) (w : World) (h : VIs B vb db p A c v d K w0 w) (hr : RdS w S 2 A0 l.length (l.flatMap rwC)) (hS : ∀ k, S k → k < w0.heap.size) (h64 : ∀ r ∈ l, I64 r.k ∧ I64 r.v) (hlf : d.life + 2 ≤ 1000000) (hz : pushD v d l = (some code, v', d')) :
    Calls Tryz.prog 21 #[.pointer (some ⟨vb, 0, none⟩), .slice A0 nl c0] w (fun e w' => ∃ ve a, e = .returned (.tuple #[.int .i64 0, ve]) ∧ ErrAt w' ve a code ∧ VIs B vb db p A c v' d' K w0 w' ∧ Kept K w w') := by
  subst hnl
  exact push_no S l A0 c0 w h hr hS h64 hlf hz
end
section
variable {p : PlanD} {A : Option Addr} {c : Nat} {l : List Rw} {A1 : Option Addr} {c1 : Nat} {n : Int}
/-- What the arguments' cells hold. -/
structure PowIn (p : PlanD) (A : Option Addr) (l : List Rw) (A1 : Option Addr) (c1 : Nat) (W : World) : Prop where
  ops : RdS W (· < W.heap.size) 5 A p.ops.length (opsC p.ops)
  rows : RdS W (· < W.heap.size) 2 A1 l.length (l.flatMap rwC)
  cap : l.length ≤ c1
  i64 : ∀ r ∈ l, I64 r.k ∧ I64 r.v
  tv : TypeVar W
set_option maxRecDepth 100000 in
set_option maxHeartbeats 16000000 in
theorem power_c (W : World) (h : PowIn p A l A1 c1 W) : Calls Tryz.prog 4 #[planV p A c, .slice A1 l.length c1, .int .i64 n] W (BoolPost W true) := by
  have H := Lib.hid h
  have hty : 0 < W.heap.size := World.block_lt_of_cell? W _ h.tv
  have hcap := h.cap
  obtain ⟨m, hm, hm16, hml⟩ : ∃ m, m = min l.length 16 ∧ m ≤ 16 ∧ m ≤ l.length := ⟨_, rfl, Nat.min_le_right _ _, Nat.min_le_left _ _⟩
  have hmin : (if (16 : Int) < (l.length : Nat) then (16 : Int) else (l.length : Nat)).toNat = m := by split <;> omega
  have hlen : (l.take m).length = m := by rw [List.length_take]; omega
  have HL := Lib.hid hlen
  obtain ⟨k, hk, hk3⟩ := mask_i64 n 3 (by omega)
  have hk' : bits .and .i64 n 3 = (k : Nat) := hk
  clear hm hlen
  obtain ⟨W1, hW1⟩ : ∃ W1, W1 = W.alloc (.cells #[.int .i64 p.parts, .slice A p.ops.length c] 24 (0, 0)) := ⟨_, rfl⟩
  have HB1 := Lib.hid (show Below W.heap.size W W1 from by rw [hW1]; exact ext_alloc (Below.refl _ _) _)
  have HK1 := Lib.hid (show Bk W1 W.heap.size 24 #[.int .i64 p.parts, .slice A p.ops.length c] from by rw [hW1]; exact Bk.new _ _ _)
  have hs1 : W1.heap.size = W.heap.size + 1 := by rw [hW1]; simp
  have HTv := Lib.hid (show TypeVar W1 from TypeVar.fr (S := No) h.tv (Fr.of_below HB1.out) (fun h => h))
  have c0 : W1.cell? ⟨W.heap.size, 0, none⟩ = some (.int .i64 p.parts) := (HK1.out.cell 0).trans rfl
  have c1' : W1.cell? ⟨W.heap.size, 1, none⟩ = some (.slice A p.ops.length c) := (HK1.out.cell 1).trans rfl
  have HW1 := Lib.hid hW1
  clear h hW1
  cases hc : checkD p with
  | some x =>
    obtain ⟨a, code⟩ := x
    have HC := Lib.hid hc
    have HR := Lib.hid (fun W' (hb : Below W.heap.size W W') => rRight_c W.heap.size p A c W' ((H.out.ops.ext hb).rdS (fun _ hk => hk)) hb.size)
    rw [hc] at HR
    clear hc
    go_enter Tryz.func4, Tryz.ntmps4
    go_upto_region 1 with fail
    rw [← HW1.out]
    go_wp2_with (first
      | (go_at_call 13; refine (HR.out _ HB4.out).mono ?_; rintro e w5 ⟨rfl, hb⟩; have HB5 := Lib.hid (ext_trans HB4.out hb); clear hb)
      | (go_at_call 12; refine (told17_c _ HT3.out (by have := HB3.out.size; omega)).mono ?_; rintro e w4 ⟨rfl, hb⟩; have HB4 := Lib.hid (ext_trans HB3.out hb)
         have r0 := (World.cell?_of_block (a := ⟨W.heap.size, 0, none⟩) (hb.block _ ql)).trans q0; have r1 := (World.cell?_of_block (a := ⟨W.heap.size, 1, none⟩) (hb.block _ ql)).trans q1; clear hb)
      | (go_at_call 11
         refine (open_v (w0 := W1) (B := W.heap.size) (p := p) (A := A) (c := c) (room := 20) 1 HD.out HB2.out (fun h => by rw [HC.out] at h; cases h) (by omega) HTv.out hty ((H.out.ops.ext HB1.out).ext HB2.out) (by have := HB2.out.size; omega)).mono ?_
         rintro e w3 ⟨h1, _, _⟩
         obtain ⟨ve, at_, rfl, hE, hb⟩ := h1 a code HC.out
         obtain ⟨n7, hn7⟩ := hE.errN; obtain ⟨T7, y7, rfl⟩ := hn7.iface
         have HB3 := Lib.hid (ext_trans HB1.out hb)
         have HT3 := Lib.hid (TypeVar.fr (S := No) HTv.out (Fr.of_below hb) (fun h => h))
         have ql : W.heap.size < w3.heap.size := Nat.lt_of_lt_of_le (by omega) hb.size
         have q0 := (World.cell?_of_block (a := ⟨W.heap.size, 0, none⟩) (hb.block W.heap.size (by omega))).trans c0; have q1 := (World.cell?_of_block (a := ⟨W.heap.size, 1, none⟩) (hb.block W.heap.size (by omega))).trans c1'
         clear h1 hE hb hn7)
      | (go_at_call 10; refine (dNew_c 20 _ (by omega) (by omega)).mono ?_; rintro e w2 ⟨db, Rd, rfl, hD, hb⟩; have HD := Lib.hid hD; have HB2 := Lib.hid hb; have d0 := (World.cell?_of_block (a := ⟨W.heap.size, 0, none⟩) (hb.block W.heap.size (by omega))).trans c0; have d1 := (World.cell?_of_block (a := ⟨W.heap.size, 1, none⟩) (hb.block W.heap.size (by omega))).trans c1'; have dl : W.heap.size < w2.heap.size := Nat.lt_of_lt_of_le (by omega) hb.size; clear hD hb))
    go_ret
    exact ⟨rfl, HB5.out⟩
  | none =>
    have HC := Lib.hid hc
    have hn0 := (shaped_check hc).n0
    clear hc
    go_enter Tryz.func4, Tryz.ntmps4
    go_upto_region 1 with fail
    rw [← HW1.out]
    go_upto_region 7 with (first
      | (go_at_call 11
         refine (open_v (w0 := W1) (B := W.heap.size) (p := p) (A := A) (c := c) (room := 20) 1 HD.out HB2.out (fun _ ad hA => by
           obtain ⟨ad', hA', hS, _⟩ := H.out.ops.2 hn0
           rw [hA] at hA'
           injection hA' with hA'
           subst hA'
           have h2 : ad.block < W.heap.size := hS
           exact ⟨fun hk => by have := (HD.out.bd _ hk).1; omega, by have := HB2.out.size; omega⟩) (by omega) HTv.out hty ((H.out.ops.ext HB1.out).ext HB2.out) (by have := HB2.out.size; omega)).mono ?_
         rintro e w3 ⟨_, _, h3⟩
         obtain ⟨vb, rfl, hV⟩ := h3 HC.out (by omega) (by omega)
         have HV := Lib.hid hV
         clear h3 hV)
      | (go_at_call 10; refine (dNew_c 20 _ (by omega) (by omega)).mono ?_; rintro e w2 ⟨db, Rd, rfl, hD, hb⟩; have HD := Lib.hid hD; have HB2 := Lib.hid hb
         have d0 := (World.cell?_of_block (a := ⟨W.heap.size, 0, none⟩) (hb.block W.heap.size (by omega))).trans c0; have d1 := (World.cell?_of_block (a := ⟨W.heap.size, 1, none⟩) (hb.block W.heap.size (by omega))).trans c1'
         have dl : W.heap.size < w2.heap.size := Nat.lt_of_lt_of_le (by omega) hb.size; clear hD hb))
    have HI := Lib.hid (show ∀ r ∈ l.take m, I64 r.k ∧ I64 r.v from fun r hr => H.out.i64 r (List.mem_of_mem_take hr))
    have HLf := Lib.hid (show ((DiskD.new 20).arm (k : Nat)).life = 0 from (arm_same (DiskD.new 20) (k : Nat)).2.2)
    obtain ⟨v', d', hpp⟩ := push_pow (v := ⟨⟨1, 0, [], []⟩, WalD.new, 0, 0, 0, false⟩) (d := (DiskD.new 20).arm (k : Nat)) (l := l.take m) rfl (arm_same (DiskD.new 20) (k : Nat)).2.2 rfl (by rw [HL.out]; exact hm16) (by show 0 < 400; omega) (by
      have h1 := block_blocks (l := l.take m) (by rw [HL.out]; exact hm16) HI.out
      have h2 := (arm_same (DiskD.new 20) (k : Nat)).2.1
      rw [h2]
      show _ ≤ 20 - 0
      omega)
    rcases hpp with ⟨hz, hd1, hd2⟩ | ⟨hz, hd1, hd2⟩
    · have HZ := Lib.hid hz
      have HD1 := Lib.hid hd1
      have HD2 := Lib.hid hd2
      clear hz hd1 hd2
      go_upto_region 9 with (first
        | (go_at_call 21; (try rw [hmin]); refine (push_m (· < W1.heap.size) (l.take m) m HL.out A1 c1 _ HA.out HRw.out (fun _ hk => hk) HI.out (by rw [HLf.out]; omega) HZ.out).mono ?_; rintro e w5 ⟨rfl, hV, _⟩; have HP := Lib.hid hV; clear hV)
        | (go_at_call 20; (try rw [hk']); refine (arm_v (k : Nat) _ HV.out (by omega)).mono ?_; rintro e w4 ⟨rfl, hV, _⟩; have HA := Lib.hid hV; have HRw := Lib.hid (show RdS w4 (· < W1.heap.size) 2 A1 (l.take m).length ((l.take m).flatMap rwC) from by rw [HL.out, ← take_rows hml]; exact (((RdS.mono (S' := (· < W1.heap.size)) H.out.rows (fun k hk => by have h2 : k < W.heap.size := hk; show k < W1.heap.size; omega)).ext HB1.out).ext hV.below).pre hml); clear hV))
      refine wp_region_held_drew (S := fun _ => True) (by kernel_rfl) ?_ (fun hHeld => ?_)
      · go_keep
      refine wpAnyH_ready (rs := [0]) (by kernel_rfl) (by simp) ?_
      refine AllReadyH.cons (o := { dst := some 51, op := Go.Op.call { callee := Go.Callee.value (Go.Operand.func 12), args := #[], argTypes := #[] }, type := 4, pos := "law.go:199", after := #[], guard := none }) rfl (fun K hK => ?_) ?_
      ·
        go_simp
        go_at_call 12
        refine (told17_c _ (HP.out.ext (below_drewN (Below.refl _ _) 1)).tv (Nat.lt_of_lt_of_le (by omega) (HP.out.ext (below_drewN (Below.refl _ _) 1)).below.size)).mono ?_
        rintro e w6 ⟨rfl, hb⟩
        have HB6 := Lib.hid (ext_trans (below_drewN (Below.refl _ _) 1) hb)
        clear hb
        refine hK.out _ _ ?_ (fun hHeld => ?_)
        · go_keep
        clear hK K
        try simp only [Act.put, List.setIfInBounds_toArray, List.set_cons_zero, List.set_cons_succ]
        refine wpAnyH_take (i := 1) (oi := { dst := some 52, op := Go.Op.move (Go.Operand.tmp 51), type := 4, pos := "law.go:199", after := #[{ on := 0, ground := Go.Ground.data }, { on := 0, ground := Go.Ground.chain }], guard := none }) (v := ?v1z1) rfl (by kernel_rfl) (by kernel_rfl) (by kernel_rfl) (fun _ _ _ h => h) (Or.inl ⟨by rfl, ?hy1z1⟩) (by assumption) ?rest1z1
        case hy1z1 => (intro w hSw; (try dsimp only at hSw); go_simp; try (with_reducible rfl))
        simp only [Act.put, List.setIfInBounds_toArray, List.set_cons_zero, List.set_cons_succ]
        refine wpAnyH_take (i := 2) (oi := { dst := some 53, op := Go.Op.move (Go.Operand.tmp 12), type := 28, pos := "law.go:199", after := #[{ on := 1, ground := Go.Ground.guard }], guard := some (1, true) }) (v := ?v1z2) rfl (by kernel_rfl) (by kernel_rfl) (by kernel_rfl) (fun _ _ _ h => h) (Or.inl ⟨by rfl, ?hy1z2⟩) (by assumption) ?rest1z2
        case hy1z2 => (intro w hSw; (try dsimp only at hSw); go_simp; try (with_reducible rfl))
        simp only [Act.put, List.setIfInBounds_toArray, List.set_cons_zero, List.set_cons_succ]
        refine wpAnyH_take (i := 3) (oi := { dst := some 54, op := Go.Op.makeInterface 44 (Go.Operand.const (Go.Value.int Go.IntKind.i64 70)), type := 28, pos := "law.go:199", after := #[{ on := 1, ground := Go.Ground.guard }], guard := some (1, true) }) (v := ?v1z3) rfl (by kernel_rfl) (by kernel_rfl) (by kernel_rfl) (fun _ _ _ h => h) (Or.inl ⟨by rfl, ?hy1z3⟩) (by assumption) ?rest1z3
        case hy1z3 => (intro w hSw; (try dsimp only at hSw); go_simp; try (with_reducible rfl))
        simp only [Act.put, List.setIfInBounds_toArray, List.set_cons_zero, List.set_cons_succ]
        refine wpAnyH_take (i := 5) (oi := { dst := some 56, op := Go.Op.move (Go.Operand.tmp 7), type := 26, pos := "law.go:199", after := #[{ on := 1, ground := Go.Ground.guard }], guard := some (1, true) }) (v := ?v1z5) rfl (by kernel_rfl) (by kernel_rfl) (by kernel_rfl) (fun _ _ _ h => h) (Or.inl ⟨by rfl, ?hy1z5⟩) (by assumption) ?rest1z5
        case hy1z5 => (intro w hSw; (try dsimp only at hSw); go_simp; try (with_reducible rfl))
        simp only [Act.put, List.setIfInBounds_toArray, List.set_cons_zero, List.set_cons_succ]
        refine wpAnyH_ready (rs := [4]) (by kernel_rfl) (by simp) ?_
        refine AllReadyH.cons (o := { dst := some 55, op := Go.Op.call { callee := Go.Callee.value (Go.Operand.func 22), args := #[Go.Operand.tmp 53, Go.Operand.tmp 54], argTypes := #[28, 28] }, type := 4, pos := "law.go:199", after := #[{ on := 2, ground := Go.Ground.data }, { on := 3, ground := Go.Ground.data }, { on := 1, ground := Go.Ground.chain }, { on := 1, ground := Go.Ground.guard }], guard := some (1, true) }) rfl (fun K hK => ?_) ?_
        ·
          go_simp
          go_at_call 22
          refine (Is_nil 70 _).mono ?_
          rintro e w7 ⟨rfl, hb⟩
          have HB7 := Lib.hid (ext_trans HB6.out hb)
          clear hb
          refine hK.out _ _ ?_ (fun hHeld => ?_)
          · go_keep
          clear hK K
          try simp only [Act.put, List.setIfInBounds_toArray, List.set_cons_zero, List.set_cons_succ]
          refine wpAnyH_ready (rs := [6]) (by kernel_rfl) (by simp) ?_
          refine AllReadyH.cons (o := { dst := some 57, op := Go.Op.call { callee := Go.Callee.value (Go.Operand.func 23), args := #[Go.Operand.tmp 56], argTypes := #[26] }, type := 4, pos := "law.go:199", after := #[{ on := 5, ground := Go.Ground.data }, { on := 4, ground := Go.Ground.chain }, { on := 1, ground := Go.Ground.guard }], guard := some (1, true) }) rfl (fun K hK => ?_) ?_
          ·
            go_simp
            go_at_call 23
            refine (ddown_v _ (HP.out.ext HB7.out)).mono ?_
            rw [HD1.out]
            rintro e w9 ⟨rfl, rfl⟩
            refine hK.out _ _ ?_ (fun hHeld => ?_)
            · go_keep
            clear hK K
            try simp only [Act.put, List.setIfInBounds_toArray, List.set_cons_zero, List.set_cons_succ]
            refine wpAnyH_take (i := 7) (oi := { dst := some 58, op := Go.Op.binOp Go.BinOp.eql 4 (Go.Operand.tmp 55) (Go.Operand.tmp 57) 4, type := 4, pos := "law.go:199", after := #[{ on := 4, ground := Go.Ground.data }, { on := 6, ground := Go.Ground.data }, { on := 1, ground := Go.Ground.guard }], guard := some (1, true) }) (v := ?v1z7) rfl (by kernel_rfl) (by kernel_rfl) (by kernel_rfl) (fun _ _ _ h => h) (Or.inl ⟨by rfl, ?hy1z7⟩) (by assumption) ?rest1z7
            case hy1z7 => (intro w hSw; (try dsimp only at hSw); go_simp; try (with_reducible rfl))
            simp only [Act.put, List.setIfInBounds_toArray, List.set_cons_zero, List.set_cons_succ]
            refine wpAnyH_take (i := 8) (oi := { dst := some 59, op := Go.Op.pick (Go.Operand.tmp 52) (Go.Operand.tmp 58) (Go.Operand.const (Go.Value.bool false)), type := 4, pos := "law.go:199", after := #[{ on := 1, ground := Go.Ground.data }, { on := 7, ground := Go.Ground.data }], guard := none }) (v := ?v1z8) rfl (by kernel_rfl) (by kernel_rfl) (by kernel_rfl) (fun _ _ _ h => h) (Or.inl ⟨by rfl, ?hy1z8⟩) (by assumption) ?rest1z8
            case hy1z8 => (intro w hSw; (try dsimp only at hSw); go_simp; try (with_reducible rfl))
            simp only [Act.put, List.setIfInBounds_toArray, List.set_cons_zero, List.set_cons_succ]
            refine wpAnyH_take (i := 9) (oi := { dst := some 60, op := Go.Op.move (Go.Operand.tmp 59), type := 4, pos := "law.go:199", after := #[{ on := 8, ground := Go.Ground.data }, { on := 6, ground := Go.Ground.chain }], guard := none }) (v := ?v1z9) rfl (by kernel_rfl) (by kernel_rfl) (by kernel_rfl) (fun _ _ _ h => h) (Or.inl ⟨by rfl, ?hy1z9⟩) (by assumption) ?rest1z9
            case hy1z9 => (intro w hSw; (try dsimp only at hSw); go_simp; try (with_reducible rfl))
            simp only [Act.put, List.setIfInBounds_toArray, List.set_cons_zero, List.set_cons_succ]
            refine wpAnyH_take (i := 10) (oi := { dst := some 61, op := Go.Op.move (Go.Operand.tmp 9), type := 31, pos := "law.go:199", after := #[{ on := 9, ground := Go.Ground.guard }], guard := some (9, true) }) (v := ?v1z10) rfl (by kernel_rfl) (by kernel_rfl) (by kernel_rfl) (fun _ _ _ h => h) (Or.inl ⟨by rfl, ?hy1z10⟩) (by assumption) ?rest1z10
            case hy1z10 => (intro w hSw; (try dsimp only at hSw); go_simp; try (with_reducible rfl))
            simp only [Act.put, List.setIfInBounds_toArray, List.set_cons_zero, List.set_cons_succ]
            refine wpAnyH_take (i := 12) (oi := { dst := some 63, op := Go.Op.move (Go.Operand.tmp 7), type := 26, pos := "law.go:199", after := #[{ on := 9, ground := Go.Ground.guard }], guard := some (9, true) }) (v := ?v1z12) rfl (by kernel_rfl) (by kernel_rfl) (by kernel_rfl) (fun _ _ _ h => h) (Or.inl ⟨by rfl, ?hy1z12⟩) (by assumption) ?rest1z12
            case hy1z12 => (intro w hSw; (try dsimp only at hSw); go_simp; try (with_reducible rfl))
            simp only [Act.put, List.setIfInBounds_toArray, List.set_cons_zero, List.set_cons_succ]
            refine wpAnyH_ready (rs := [11]) (by kernel_rfl) (by simp) ?_
            refine AllReadyH.cons (o := { dst := some 62, op := Go.Op.call { callee := Go.Callee.value (Go.Operand.func 24), args := #[Go.Operand.tmp 61], argTypes := #[31] }, type := 4, pos := "law.go:199", after := #[{ on := 10, ground := Go.Ground.data }, { on := 9, ground := Go.Ground.chain }, { on := 9, ground := Go.Ground.guard }], guard := some (9, true) }) rfl (fun K hK => ?_) ?_
            ·
              go_simp
              go_at_call 24
              refine (down_v _ (HP.out.ext HB7.out)).mono ?_
              rw [HD2.out]
              rintro e w8 ⟨rfl, hb⟩
              have HB8 := Lib.hid (ext_trans HB7.out hb)
              clear hb
              refine hK.out _ _ ?_ (fun hHeld => ?_)
              · go_keep
              clear hK K
              try simp only [Act.put, List.setIfInBounds_toArray, List.set_cons_zero, List.set_cons_succ]
              refine wpAnyH_ready (rs := [13]) (by kernel_rfl) (by simp) ?_
              refine AllReadyH.cons (o := { dst := some 64, op := Go.Op.call { callee := Go.Callee.value (Go.Operand.func 23), args := #[Go.Operand.tmp 63], argTypes := #[26] }, type := 4, pos := "law.go:199", after := #[{ on := 12, ground := Go.Ground.data }, { on := 11, ground := Go.Ground.chain }, { on := 9, ground := Go.Ground.guard }], guard := some (9, true) }) rfl (fun K hK => ?_) ?_
              ·
                go_simp
                go_at_call 23
                refine (ddown_v _ (HP.out.ext HB8.out)).mono ?_
                rw [HD1.out]
                rintro e w9 ⟨rfl, rfl⟩
                refine hK.out _ _ ?_ (fun hHeld => ?_)
                · go_keep
                clear hK K
                try simp only [Act.put, List.setIfInBounds_toArray, List.set_cons_zero, List.set_cons_succ]
                refine wpAnyH_take (i := 14) (oi := { dst := some 65, op := Go.Op.binOp Go.BinOp.eql 4 (Go.Operand.tmp 62) (Go.Operand.tmp 64) 4, type := 4, pos := "law.go:199", after := #[{ on := 11, ground := Go.Ground.data }, { on := 13, ground := Go.Ground.data }, { on := 9, ground := Go.Ground.guard }], guard := some (9, true) }) (v := ?v1z14) rfl (by kernel_rfl) (by kernel_rfl) (by kernel_rfl) (fun _ _ _ h => h) (Or.inl ⟨by rfl, ?hy1z14⟩) (by assumption) ?rest1z14
                case hy1z14 => (intro w hSw; (try dsimp only at hSw); go_simp; try (with_reducible rfl))
                simp only [Act.put, List.setIfInBounds_toArray, List.set_cons_zero, List.set_cons_succ]
                refine wpAnyH_take (i := 15) (oi := { dst := some 66, op := Go.Op.pick (Go.Operand.tmp 60) (Go.Operand.tmp 65) (Go.Operand.const (Go.Value.bool false)), type := 4, pos := "law.go:199", after := #[{ on := 9, ground := Go.Ground.data }, { on := 14, ground := Go.Ground.data }], guard := none }) (v := ?v1z15) rfl (by kernel_rfl) (by kernel_rfl) (by kernel_rfl) (fun _ _ _ h => h) (Or.inl ⟨by rfl, ?hy1z15⟩) (by assumption) ?rest1z15
                case hy1z15 => (intro w hSw; (try dsimp only at hSw); go_simp; try (with_reducible rfl))
                simp only [Act.put, List.setIfInBounds_toArray, List.set_cons_zero, List.set_cons_succ]
                refine wpAnyH_take (i := 16) (oi := { dst := some 67, op := Go.Op.move (Go.Operand.tmp 66), type := 4, pos := "law.go:199", after := #[{ on := 15, ground := Go.Ground.data }, { on := 13, ground := Go.Ground.chain }], guard := none }) (v := ?v1z16) rfl (by kernel_rfl) (by kernel_rfl) (by kernel_rfl) (fun _ _ _ h => h) (Or.inl ⟨by rfl, ?hy1z16⟩) (by assumption) ?rest1z16
                case hy1z16 => (intro w hSw; (try dsimp only at hSw); go_simp; try (with_reducible rfl))
                simp only [Act.put, List.setIfInBounds_toArray, List.set_cons_zero, List.set_cons_succ]
                refine wpAnyH_take (i := 17) (oi := { dst := some 68, op := Go.Op.move (Go.Operand.tmp 12), type := 28, pos := "law.go:199", after := #[{ on := 16, ground := Go.Ground.guard }], guard := some (16, true) }) (v := ?v1z17) rfl (by kernel_rfl) (by kernel_rfl) (by kernel_rfl) (fun _ _ _ h => h) (Or.inl ⟨by rfl, ?hy1z17⟩) (by assumption) ?rest1z17
                case hy1z17 => (intro w hSw; (try dsimp only at hSw); go_simp; try (with_reducible rfl))
                simp only [Act.put, List.setIfInBounds_toArray, List.set_cons_zero, List.set_cons_succ]
                refine wpAnyH_take (i := 18) (oi := { dst := some 69, op := Go.Op.binOp Go.BinOp.eql 28 (Go.Operand.tmp 68) (Go.Operand.const Go.Value.nilIface) 28, type := 4, pos := "law.go:199", after := #[{ on := 17, ground := Go.Ground.data }, { on := 16, ground := Go.Ground.guard }], guard := some (16, true) }) (v := ?v1z18) rfl (by kernel_rfl) (by kernel_rfl) (by kernel_rfl) (fun _ _ _ h => h) (Or.inl ⟨by rfl, ?hy1z18⟩) (by assumption) ?rest1z18
                case hy1z18 => (intro w hSw; (try dsimp only at hSw); go_simp; try (with_reducible rfl))
                simp only [Act.put, List.setIfInBounds_toArray, List.set_cons_zero, List.set_cons_succ]
                refine wpAnyH_take (i := 19) (oi := { dst := some 70, op := Go.Op.move (Go.Operand.tmp 7), type := 26, pos := "law.go:199", after := #[{ on := 16, ground := Go.Ground.guard }], guard := some (16, true) }) (v := ?v1z19) rfl (by kernel_rfl) (by kernel_rfl) (by kernel_rfl) (fun _ _ _ h => h) (Or.inl ⟨by rfl, ?hy1z19⟩) (by assumption) ?rest1z19
                case hy1z19 => (intro w hSw; (try dsimp only at hSw); go_simp; try (with_reducible rfl))
                simp only [Act.put, List.setIfInBounds_toArray, List.set_cons_zero, List.set_cons_succ]
                refine wpAnyH_ready (rs := [20]) (by kernel_rfl) (by simp) ?_
                refine AllReadyH.cons (o := { dst := some 71, op := Go.Op.call { callee := Go.Callee.value (Go.Operand.func 23), args := #[Go.Operand.tmp 70], argTypes := #[26] }, type := 4, pos := "law.go:199", after := #[{ on := 19, ground := Go.Ground.data }, { on := 16, ground := Go.Ground.chain }, { on := 16, ground := Go.Ground.guard }], guard := some (16, true) }) rfl (fun K hK => ?_) ?_
                ·
                  go_simp
                  go_at_call 23
                  refine (ddown_v _ (HP.out.ext HB8.out)).mono ?_
                  rw [HD1.out]
                  rintro e w9 ⟨rfl, rfl⟩
                  refine hK.out _ _ ?_ (fun hHeld => ?_)
                  · go_keep
                  clear hK K
                  try simp only [Act.put, List.setIfInBounds_toArray, List.set_cons_zero, List.set_cons_succ]
                  refine wpAnyH_take (i := 21) (oi := { dst := some 72, op := Go.Op.unOp Go.UnOp.not 4 (Go.Operand.tmp 71), type := 4, pos := "law.go:199", after := #[{ on := 20, ground := Go.Ground.data }, { on := 16, ground := Go.Ground.guard }], guard := some (16, true) }) (v := ?v1z21) rfl (by kernel_rfl) (by kernel_rfl) (by kernel_rfl) (fun _ _ _ h => h) (Or.inl ⟨by rfl, ?hy1z21⟩) (by assumption) ?rest1z21
                  case hy1z21 => (intro w hSw; (try dsimp only at hSw); go_simp; try (with_reducible rfl))
                  simp only [Act.put, List.setIfInBounds_toArray, List.set_cons_zero, List.set_cons_succ]
                  refine wpAnyH_take (i := 22) (oi := { dst := some 73, op := Go.Op.binOp Go.BinOp.eql 4 (Go.Operand.tmp 69) (Go.Operand.tmp 72) 4, type := 4, pos := "law.go:199", after := #[{ on := 18, ground := Go.Ground.data }, { on := 21, ground := Go.Ground.data }, { on := 16, ground := Go.Ground.guard }], guard := some (16, true) }) (v := ?v1z22) rfl (by kernel_rfl) (by kernel_rfl) (by kernel_rfl) (fun _ _ _ h => h) (Or.inl ⟨by rfl, ?hy1z22⟩) (by assumption) ?rest1z22
                  case hy1z22 => (intro w hSw; (try dsimp only at hSw); go_simp; try (with_reducible rfl))
                  simp only [Act.put, List.setIfInBounds_toArray, List.set_cons_zero, List.set_cons_succ]
                  refine wpAnyH_take (i := 23) (oi := { dst := some 74, op := Go.Op.pick (Go.Operand.tmp 67) (Go.Operand.tmp 73) (Go.Operand.const (Go.Value.bool false)), type := 4, pos := "law.go:199", after := #[{ on := 16, ground := Go.Ground.data }, { on := 22, ground := Go.Ground.data }], guard := none }) (v := ?v1z23) rfl (by kernel_rfl) (by kernel_rfl) (by kernel_rfl) (fun _ _ _ h => h) (Or.inl ⟨by rfl, ?hy1z23⟩) (by assumption) ?rest1z23
                  case hy1z23 => (intro w hSw; (try dsimp only at hSw); go_simp; try (with_reducible rfl))
                  simp only [Act.put, List.setIfInBounds_toArray, List.set_cons_zero, List.set_cons_succ]
                  refine wpAnyH_take (i := 24) (oi := { dst := some 6, op := Go.Op.assign (Go.Operand.tmp 74), type := 4, pos := "law.go:199", after := #[{ on := 23, ground := Go.Ground.data }, { on := 20, ground := Go.Ground.chain }, { on := 0, ground := Go.Ground.phase }, { on := 1, ground := Go.Ground.phase }, { on := 2, ground := Go.Ground.phase }, { on := 3, ground := Go.Ground.phase }, { on := 4, ground := Go.Ground.phase }, { on := 5, ground := Go.Ground.phase }, { on := 6, ground := Go.Ground.phase }, { on := 7, ground := Go.Ground.phase }, { on := 8, ground := Go.Ground.phase }, { on := 9, ground := Go.Ground.phase }, { on := 10, ground := Go.Ground.phase }, { on := 11, ground := Go.Ground.phase }, { on := 12, ground := Go.Ground.phase }, { on := 13, ground := Go.Ground.phase }, { on := 14, ground := Go.Ground.phase }, { on := 15, ground := Go.Ground.phase }, { on := 16, ground := Go.Ground.phase }, { on := 17, ground := Go.Ground.phase }, { on := 18, ground := Go.Ground.phase }, { on := 19, ground := Go.Ground.phase }, { on := 20, ground := Go.Ground.phase }, { on := 21, ground := Go.Ground.phase }, { on := 22, ground := Go.Ground.phase }, { on := 23, ground := Go.Ground.phase }], guard := none }) (v := ?v1z24) rfl (by kernel_rfl) (by kernel_rfl) (by kernel_rfl) (fun _ _ _ h => h) (Or.inl ⟨by rfl, ?hy1z24⟩) (by assumption) ?rest1z24
                  case hy1z24 => (intro w hSw; (try dsimp only at hSw); go_simp; try (with_reducible rfl))
                  simp only [Act.put, List.setIfInBounds_toArray, List.set_cons_zero, List.set_cons_succ]
                  refine wpAnyH_done (by kernel_rfl) ?_ _
                  go_wp2_with fail
                  all_goals (go_ret; exact ⟨rfl, ext_trans HB1.out (HP.out.ext HB8.out).below⟩)
                exact AllReadyH.nil
              exact AllReadyH.nil
            exact AllReadyH.nil
          exact AllReadyH.nil
        exact AllReadyH.nil
      exact AllReadyH.nil
    · have HZ := Lib.hid hz
      have HD1 := Lib.hid hd1
      have HD2 := Lib.hid hd2
      clear hz hd1 hd2
      go_upto_region 9 with (first
        | (go_at_call 21; (try rw [hmin]); refine (push_mno (· < W1.heap.size) (l.take m) m HL.out A1 c1 _ HA.out HRw.out (fun _ hk => hk) HI.out (by rw [HLf.out]; omega) HZ.out).mono ?_; rintro e w5 ⟨ve, at_, rfl, hE, hV, _⟩; obtain ⟨n7, hn7⟩ := hE.errN; obtain ⟨T7, y7, rfl⟩ := hn7.iface; have HP := Lib.hid hV; have HE := Lib.hid hn7; clear hE hV hn7)
        | (go_at_call 20; (try rw [hk']); refine (arm_v (k : Nat) _ HV.out (by omega)).mono ?_; rintro e w4 ⟨rfl, hV, _⟩; have HA := Lib.hid hV; have HRw := Lib.hid (show RdS w4 (· < W1.heap.size) 2 A1 (l.take m).length ((l.take m).flatMap rwC) from by rw [HL.out, ← take_rows hml]; exact (((RdS.mono (S' := (· < W1.heap.size)) H.out.rows (fun k hk => by have h2 : k < W.heap.size := hk; show k < W1.heap.size; omega)).ext HB1.out).ext hV.below).pre hml); clear hV))
      refine wp_region_held_drew (S := fun _ => True) (by kernel_rfl) ?_ (fun hHeld => ?_)
      · go_keep
      refine wpAnyH_ready (rs := [0]) (by kernel_rfl) (by simp) ?_
      refine AllReadyH.cons (o := { dst := some 51, op := Go.Op.call { callee := Go.Callee.value (Go.Operand.func 12), args := #[], argTypes := #[] }, type := 4, pos := "law.go:199", after := #[], guard := none }) rfl (fun K hK => ?_) ?_
      ·
        go_simp
        go_at_call 12
        refine (told17_c _ (HP.out.ext (below_drewN (Below.refl _ _) 1)).tv (Nat.lt_of_lt_of_le (by omega) (HP.out.ext (below_drewN (Below.refl _ _) 1)).below.size)).mono ?_
        rintro e w6 ⟨rfl, hb⟩
        have HB6 := Lib.hid (ext_trans (below_drewN (Below.refl _ _) 1) hb)
        clear hb
        refine hK.out _ _ ?_ (fun hHeld => ?_)
        · go_keep
        clear hK K
        try simp only [Act.put, List.setIfInBounds_toArray, List.set_cons_zero, List.set_cons_succ]
        refine wpAnyH_take (i := 1) (oi := { dst := some 52, op := Go.Op.move (Go.Operand.tmp 51), type := 4, pos := "law.go:199", after := #[{ on := 0, ground := Go.Ground.data }, { on := 0, ground := Go.Ground.chain }], guard := none }) (v := ?v2z1) rfl (by kernel_rfl) (by kernel_rfl) (by kernel_rfl) (fun _ _ _ h => h) (Or.inl ⟨by rfl, ?hy2z1⟩) (by assumption) ?rest2z1
        case hy2z1 => (intro w hSw; (try dsimp only at hSw); go_simp; try (with_reducible rfl))
        simp only [Act.put, List.setIfInBounds_toArray, List.set_cons_zero, List.set_cons_succ]
        refine wpAnyH_take (i := 2) (oi := { dst := some 53, op := Go.Op.move (Go.Operand.tmp 12), type := 28, pos := "law.go:199", after := #[{ on := 1, ground := Go.Ground.guard }], guard := some (1, true) }) (v := ?v2z2) rfl (by kernel_rfl) (by kernel_rfl) (by kernel_rfl) (fun _ _ _ h => h) (Or.inl ⟨by rfl, ?hy2z2⟩) (by assumption) ?rest2z2
        case hy2z2 => (intro w hSw; (try dsimp only at hSw); go_simp; try (with_reducible rfl))
        simp only [Act.put, List.setIfInBounds_toArray, List.set_cons_zero, List.set_cons_succ]
        refine wpAnyH_take (i := 3) (oi := { dst := some 54, op := Go.Op.makeInterface 44 (Go.Operand.const (Go.Value.int Go.IntKind.i64 70)), type := 28, pos := "law.go:199", after := #[{ on := 1, ground := Go.Ground.guard }], guard := some (1, true) }) (v := ?v2z3) rfl (by kernel_rfl) (by kernel_rfl) (by kernel_rfl) (fun _ _ _ h => h) (Or.inl ⟨by rfl, ?hy2z3⟩) (by assumption) ?rest2z3
        case hy2z3 => (intro w hSw; (try dsimp only at hSw); go_simp; try (with_reducible rfl))
        simp only [Act.put, List.setIfInBounds_toArray, List.set_cons_zero, List.set_cons_succ]
        refine wpAnyH_take (i := 5) (oi := { dst := some 56, op := Go.Op.move (Go.Operand.tmp 7), type := 26, pos := "law.go:199", after := #[{ on := 1, ground := Go.Ground.guard }], guard := some (1, true) }) (v := ?v2z5) rfl (by kernel_rfl) (by kernel_rfl) (by kernel_rfl) (fun _ _ _ h => h) (Or.inl ⟨by rfl, ?hy2z5⟩) (by assumption) ?rest2z5
        case hy2z5 => (intro w hSw; (try dsimp only at hSw); go_simp; try (with_reducible rfl))
        simp only [Act.put, List.setIfInBounds_toArray, List.set_cons_zero, List.set_cons_succ]
        refine wpAnyH_ready (rs := [4]) (by kernel_rfl) (by simp) ?_
        refine AllReadyH.cons (o := { dst := some 55, op := Go.Op.call { callee := Go.Callee.value (Go.Operand.func 22), args := #[Go.Operand.tmp 53, Go.Operand.tmp 54], argTypes := #[28, 28] }, type := 4, pos := "law.go:199", after := #[{ on := 2, ground := Go.Ground.data }, { on := 3, ground := Go.Ground.data }, { on := 1, ground := Go.Ground.chain }, { on := 1, ground := Go.Ground.guard }], guard := some (1, true) }) rfl (fun K hK => ?_) ?_
        ·
          go_simp
          go_at_call 22
          refine (Is_c n7 _ 70 70 _ (ErrN.ext HB6.out HE.out)).mono ?_
          rw [show decide ((70 : Int) = 70) = true from rfl]
          rintro e w7 ⟨rfl, hb⟩
          have HB7 := Lib.hid (ext_trans HB6.out hb)
          clear hb
          refine hK.out _ _ ?_ (fun hHeld => ?_)
          · go_keep
          clear hK K
          try simp only [Act.put, List.setIfInBounds_toArray, List.set_cons_zero, List.set_cons_succ]
          refine wpAnyH_ready (rs := [6]) (by kernel_rfl) (by simp) ?_
          refine AllReadyH.cons (o := { dst := some 57, op := Go.Op.call { callee := Go.Callee.value (Go.Operand.func 23), args := #[Go.Operand.tmp 56], argTypes := #[26] }, type := 4, pos := "law.go:199", after := #[{ on := 5, ground := Go.Ground.data }, { on := 4, ground := Go.Ground.chain }, { on := 1, ground := Go.Ground.guard }], guard := some (1, true) }) rfl (fun K hK => ?_) ?_
          ·
            go_simp
            go_at_call 23
            refine (ddown_v _ (HP.out.ext HB7.out)).mono ?_
            rw [HD1.out]
            rintro e w9 ⟨rfl, rfl⟩
            refine hK.out _ _ ?_ (fun hHeld => ?_)
            · go_keep
            clear hK K
            try simp only [Act.put, List.setIfInBounds_toArray, List.set_cons_zero, List.set_cons_succ]
            refine wpAnyH_take (i := 7) (oi := { dst := some 58, op := Go.Op.binOp Go.BinOp.eql 4 (Go.Operand.tmp 55) (Go.Operand.tmp 57) 4, type := 4, pos := "law.go:199", after := #[{ on := 4, ground := Go.Ground.data }, { on := 6, ground := Go.Ground.data }, { on := 1, ground := Go.Ground.guard }], guard := some (1, true) }) (v := ?v2z7) rfl (by kernel_rfl) (by kernel_rfl) (by kernel_rfl) (fun _ _ _ h => h) (Or.inl ⟨by rfl, ?hy2z7⟩) (by assumption) ?rest2z7
            case hy2z7 => (intro w hSw; (try dsimp only at hSw); go_simp; try (with_reducible rfl))
            simp only [Act.put, List.setIfInBounds_toArray, List.set_cons_zero, List.set_cons_succ]
            refine wpAnyH_take (i := 8) (oi := { dst := some 59, op := Go.Op.pick (Go.Operand.tmp 52) (Go.Operand.tmp 58) (Go.Operand.const (Go.Value.bool false)), type := 4, pos := "law.go:199", after := #[{ on := 1, ground := Go.Ground.data }, { on := 7, ground := Go.Ground.data }], guard := none }) (v := ?v2z8) rfl (by kernel_rfl) (by kernel_rfl) (by kernel_rfl) (fun _ _ _ h => h) (Or.inl ⟨by rfl, ?hy2z8⟩) (by assumption) ?rest2z8
            case hy2z8 => (intro w hSw; (try dsimp only at hSw); go_simp; try (with_reducible rfl))
            simp only [Act.put, List.setIfInBounds_toArray, List.set_cons_zero, List.set_cons_succ]
            refine wpAnyH_take (i := 9) (oi := { dst := some 60, op := Go.Op.move (Go.Operand.tmp 59), type := 4, pos := "law.go:199", after := #[{ on := 8, ground := Go.Ground.data }, { on := 6, ground := Go.Ground.chain }], guard := none }) (v := ?v2z9) rfl (by kernel_rfl) (by kernel_rfl) (by kernel_rfl) (fun _ _ _ h => h) (Or.inl ⟨by rfl, ?hy2z9⟩) (by assumption) ?rest2z9
            case hy2z9 => (intro w hSw; (try dsimp only at hSw); go_simp; try (with_reducible rfl))
            simp only [Act.put, List.setIfInBounds_toArray, List.set_cons_zero, List.set_cons_succ]
            refine wpAnyH_take (i := 10) (oi := { dst := some 61, op := Go.Op.move (Go.Operand.tmp 9), type := 31, pos := "law.go:199", after := #[{ on := 9, ground := Go.Ground.guard }], guard := some (9, true) }) (v := ?v2z10) rfl (by kernel_rfl) (by kernel_rfl) (by kernel_rfl) (fun _ _ _ h => h) (Or.inl ⟨by rfl, ?hy2z10⟩) (by assumption) ?rest2z10
            case hy2z10 => (intro w hSw; (try dsimp only at hSw); go_simp; try (with_reducible rfl))
            simp only [Act.put, List.setIfInBounds_toArray, List.set_cons_zero, List.set_cons_succ]
            refine wpAnyH_take (i := 12) (oi := { dst := some 63, op := Go.Op.move (Go.Operand.tmp 7), type := 26, pos := "law.go:199", after := #[{ on := 9, ground := Go.Ground.guard }], guard := some (9, true) }) (v := ?v2z12) rfl (by kernel_rfl) (by kernel_rfl) (by kernel_rfl) (fun _ _ _ h => h) (Or.inl ⟨by rfl, ?hy2z12⟩) (by assumption) ?rest2z12
            case hy2z12 => (intro w hSw; (try dsimp only at hSw); go_simp; try (with_reducible rfl))
            simp only [Act.put, List.setIfInBounds_toArray, List.set_cons_zero, List.set_cons_succ]
            refine wpAnyH_ready (rs := [11]) (by kernel_rfl) (by simp) ?_
            refine AllReadyH.cons (o := { dst := some 62, op := Go.Op.call { callee := Go.Callee.value (Go.Operand.func 24), args := #[Go.Operand.tmp 61], argTypes := #[31] }, type := 4, pos := "law.go:199", after := #[{ on := 10, ground := Go.Ground.data }, { on := 9, ground := Go.Ground.chain }, { on := 9, ground := Go.Ground.guard }], guard := some (9, true) }) rfl (fun K hK => ?_) ?_
            ·
              go_simp
              go_at_call 24
              refine (down_v _ (HP.out.ext HB7.out)).mono ?_
              rw [HD2.out]
              rintro e w8 ⟨rfl, hb⟩
              have HB8 := Lib.hid (ext_trans HB7.out hb)
              clear hb
              refine hK.out _ _ ?_ (fun hHeld => ?_)
              · go_keep
              clear hK K
              try simp only [Act.put, List.setIfInBounds_toArray, List.set_cons_zero, List.set_cons_succ]
              refine wpAnyH_ready (rs := [13]) (by kernel_rfl) (by simp) ?_
              refine AllReadyH.cons (o := { dst := some 64, op := Go.Op.call { callee := Go.Callee.value (Go.Operand.func 23), args := #[Go.Operand.tmp 63], argTypes := #[26] }, type := 4, pos := "law.go:199", after := #[{ on := 12, ground := Go.Ground.data }, { on := 11, ground := Go.Ground.chain }, { on := 9, ground := Go.Ground.guard }], guard := some (9, true) }) rfl (fun K hK => ?_) ?_
              ·
                go_simp
                go_at_call 23
                refine (ddown_v _ (HP.out.ext HB8.out)).mono ?_
                rw [HD1.out]
                rintro e w9 ⟨rfl, rfl⟩
                refine hK.out _ _ ?_ (fun hHeld => ?_)
                · go_keep
                clear hK K
                try simp only [Act.put, List.setIfInBounds_toArray, List.set_cons_zero, List.set_cons_succ]
                refine wpAnyH_take (i := 14) (oi := { dst := some 65, op := Go.Op.binOp Go.BinOp.eql 4 (Go.Operand.tmp 62) (Go.Operand.tmp 64) 4, type := 4, pos := "law.go:199", after := #[{ on := 11, ground := Go.Ground.data }, { on := 13, ground := Go.Ground.data }, { on := 9, ground := Go.Ground.guard }], guard := some (9, true) }) (v := ?v2z14) rfl (by kernel_rfl) (by kernel_rfl) (by kernel_rfl) (fun _ _ _ h => h) (Or.inl ⟨by rfl, ?hy2z14⟩) (by assumption) ?rest2z14
                case hy2z14 => (intro w hSw; (try dsimp only at hSw); go_simp; try (with_reducible rfl))
                simp only [Act.put, List.setIfInBounds_toArray, List.set_cons_zero, List.set_cons_succ]
                refine wpAnyH_take (i := 15) (oi := { dst := some 66, op := Go.Op.pick (Go.Operand.tmp 60) (Go.Operand.tmp 65) (Go.Operand.const (Go.Value.bool false)), type := 4, pos := "law.go:199", after := #[{ on := 9, ground := Go.Ground.data }, { on := 14, ground := Go.Ground.data }], guard := none }) (v := ?v2z15) rfl (by kernel_rfl) (by kernel_rfl) (by kernel_rfl) (fun _ _ _ h => h) (Or.inl ⟨by rfl, ?hy2z15⟩) (by assumption) ?rest2z15
                case hy2z15 => (intro w hSw; (try dsimp only at hSw); go_simp; try (with_reducible rfl))
                simp only [Act.put, List.setIfInBounds_toArray, List.set_cons_zero, List.set_cons_succ]
                refine wpAnyH_take (i := 16) (oi := { dst := some 67, op := Go.Op.move (Go.Operand.tmp 66), type := 4, pos := "law.go:199", after := #[{ on := 15, ground := Go.Ground.data }, { on := 13, ground := Go.Ground.chain }], guard := none }) (v := ?v2z16) rfl (by kernel_rfl) (by kernel_rfl) (by kernel_rfl) (fun _ _ _ h => h) (Or.inl ⟨by rfl, ?hy2z16⟩) (by assumption) ?rest2z16
                case hy2z16 => (intro w hSw; (try dsimp only at hSw); go_simp; try (with_reducible rfl))
                simp only [Act.put, List.setIfInBounds_toArray, List.set_cons_zero, List.set_cons_succ]
                refine wpAnyH_take (i := 17) (oi := { dst := some 68, op := Go.Op.move (Go.Operand.tmp 12), type := 28, pos := "law.go:199", after := #[{ on := 16, ground := Go.Ground.guard }], guard := some (16, true) }) (v := ?v2z17) rfl (by kernel_rfl) (by kernel_rfl) (by kernel_rfl) (fun _ _ _ h => h) (Or.inl ⟨by rfl, ?hy2z17⟩) (by assumption) ?rest2z17
                case hy2z17 => (intro w hSw; (try dsimp only at hSw); go_simp; try (with_reducible rfl))
                simp only [Act.put, List.setIfInBounds_toArray, List.set_cons_zero, List.set_cons_succ]
                refine wpAnyH_take (i := 18) (oi := { dst := some 69, op := Go.Op.binOp Go.BinOp.eql 28 (Go.Operand.tmp 68) (Go.Operand.const Go.Value.nilIface) 28, type := 4, pos := "law.go:199", after := #[{ on := 17, ground := Go.Ground.data }, { on := 16, ground := Go.Ground.guard }], guard := some (16, true) }) (v := ?v2z18) rfl (by kernel_rfl) (by kernel_rfl) (by kernel_rfl) (fun _ _ _ h => h) (Or.inl ⟨by rfl, ?hy2z18⟩) (by assumption) ?rest2z18
                case hy2z18 => (intro w hSw; (try dsimp only at hSw); go_simp; try (with_reducible rfl))
                simp only [Act.put, List.setIfInBounds_toArray, List.set_cons_zero, List.set_cons_succ]
                refine wpAnyH_take (i := 19) (oi := { dst := some 70, op := Go.Op.move (Go.Operand.tmp 7), type := 26, pos := "law.go:199", after := #[{ on := 16, ground := Go.Ground.guard }], guard := some (16, true) }) (v := ?v2z19) rfl (by kernel_rfl) (by kernel_rfl) (by kernel_rfl) (fun _ _ _ h => h) (Or.inl ⟨by rfl, ?hy2z19⟩) (by assumption) ?rest2z19
                case hy2z19 => (intro w hSw; (try dsimp only at hSw); go_simp; try (with_reducible rfl))
                simp only [Act.put, List.setIfInBounds_toArray, List.set_cons_zero, List.set_cons_succ]
                refine wpAnyH_ready (rs := [20]) (by kernel_rfl) (by simp) ?_
                refine AllReadyH.cons (o := { dst := some 71, op := Go.Op.call { callee := Go.Callee.value (Go.Operand.func 23), args := #[Go.Operand.tmp 70], argTypes := #[26] }, type := 4, pos := "law.go:199", after := #[{ on := 19, ground := Go.Ground.data }, { on := 16, ground := Go.Ground.chain }, { on := 16, ground := Go.Ground.guard }], guard := some (16, true) }) rfl (fun K hK => ?_) ?_
                ·
                  go_simp
                  go_at_call 23
                  refine (ddown_v _ (HP.out.ext HB8.out)).mono ?_
                  rw [HD1.out]
                  rintro e w9 ⟨rfl, rfl⟩
                  refine hK.out _ _ ?_ (fun hHeld => ?_)
                  · go_keep
                  clear hK K
                  try simp only [Act.put, List.setIfInBounds_toArray, List.set_cons_zero, List.set_cons_succ]
                  refine wpAnyH_take (i := 21) (oi := { dst := some 72, op := Go.Op.unOp Go.UnOp.not 4 (Go.Operand.tmp 71), type := 4, pos := "law.go:199", after := #[{ on := 20, ground := Go.Ground.data }, { on := 16, ground := Go.Ground.guard }], guard := some (16, true) }) (v := ?v2z21) rfl (by kernel_rfl) (by kernel_rfl) (by kernel_rfl) (fun _ _ _ h => h) (Or.inl ⟨by rfl, ?hy2z21⟩) (by assumption) ?rest2z21
                  case hy2z21 => (intro w hSw; (try dsimp only at hSw); go_simp; try (with_reducible rfl))
                  simp only [Act.put, List.setIfInBounds_toArray, List.set_cons_zero, List.set_cons_succ]
                  refine wpAnyH_take (i := 22) (oi := { dst := some 73, op := Go.Op.binOp Go.BinOp.eql 4 (Go.Operand.tmp 69) (Go.Operand.tmp 72) 4, type := 4, pos := "law.go:199", after := #[{ on := 18, ground := Go.Ground.data }, { on := 21, ground := Go.Ground.data }, { on := 16, ground := Go.Ground.guard }], guard := some (16, true) }) (v := ?v2z22) rfl (by kernel_rfl) (by kernel_rfl) (by kernel_rfl) (fun _ _ _ h => h) (Or.inl ⟨by rfl, ?hy2z22⟩) (by assumption) ?rest2z22
                  case hy2z22 => (intro w hSw; (try dsimp only at hSw); go_simp; try (with_reducible rfl))
                  simp only [Act.put, List.setIfInBounds_toArray, List.set_cons_zero, List.set_cons_succ]
                  refine wpAnyH_take (i := 23) (oi := { dst := some 74, op := Go.Op.pick (Go.Operand.tmp 67) (Go.Operand.tmp 73) (Go.Operand.const (Go.Value.bool false)), type := 4, pos := "law.go:199", after := #[{ on := 16, ground := Go.Ground.data }, { on := 22, ground := Go.Ground.data }], guard := none }) (v := ?v2z23) rfl (by kernel_rfl) (by kernel_rfl) (by kernel_rfl) (fun _ _ _ h => h) (Or.inl ⟨by rfl, ?hy2z23⟩) (by assumption) ?rest2z23
                  case hy2z23 => (intro w hSw; (try dsimp only at hSw); go_simp; try (with_reducible rfl))
                  simp only [Act.put, List.setIfInBounds_toArray, List.set_cons_zero, List.set_cons_succ]
                  refine wpAnyH_take (i := 24) (oi := { dst := some 6, op := Go.Op.assign (Go.Operand.tmp 74), type := 4, pos := "law.go:199", after := #[{ on := 23, ground := Go.Ground.data }, { on := 20, ground := Go.Ground.chain }, { on := 0, ground := Go.Ground.phase }, { on := 1, ground := Go.Ground.phase }, { on := 2, ground := Go.Ground.phase }, { on := 3, ground := Go.Ground.phase }, { on := 4, ground := Go.Ground.phase }, { on := 5, ground := Go.Ground.phase }, { on := 6, ground := Go.Ground.phase }, { on := 7, ground := Go.Ground.phase }, { on := 8, ground := Go.Ground.phase }, { on := 9, ground := Go.Ground.phase }, { on := 10, ground := Go.Ground.phase }, { on := 11, ground := Go.Ground.phase }, { on := 12, ground := Go.Ground.phase }, { on := 13, ground := Go.Ground.phase }, { on := 14, ground := Go.Ground.phase }, { on := 15, ground := Go.Ground.phase }, { on := 16, ground := Go.Ground.phase }, { on := 17, ground := Go.Ground.phase }, { on := 18, ground := Go.Ground.phase }, { on := 19, ground := Go.Ground.phase }, { on := 20, ground := Go.Ground.phase }, { on := 21, ground := Go.Ground.phase }, { on := 22, ground := Go.Ground.phase }, { on := 23, ground := Go.Ground.phase }], guard := none }) (v := ?v2z24) rfl (by kernel_rfl) (by kernel_rfl) (by kernel_rfl) (fun _ _ _ h => h) (Or.inl ⟨by rfl, ?hy2z24⟩) (by assumption) ?rest2z24
                  case hy2z24 => (intro w hSw; (try dsimp only at hSw); go_simp; try (with_reducible rfl))
                  simp only [Act.put, List.setIfInBounds_toArray, List.set_cons_zero, List.set_cons_succ]
                  refine wpAnyH_done (by kernel_rfl) ?_ _
                  go_wp2_with fail
                  all_goals (go_ret; exact ⟨rfl, ext_trans HB1.out (HP.out.ext HB8.out).below⟩)
                exact AllReadyH.nil
              exact AllReadyH.nil
            exact AllReadyH.nil
          exact AllReadyH.nil
        exact AllReadyH.nil
      exact AllReadyH.nil
end
end Go.Proofs.YtolajmfmphkkiaaGreatDoor

/- An argument that came in, opened type by type: what its cells are. -/
namespace Go.Proofs.YtolajmfmphkkiaaGreatDoor
open Go.ChangeShapes Go.WideShapes Go.RowKit Go.Deep

/-- Whatever reads as a t is the cells of some a that is 'ok'. -/
def Opens {H : Type} (enc : TypeId × Value → H) (P : Program) (w : World) (t : TypeId) {α : Type} (cells : α → List Value) (ok : α → Prop) : Prop :=
  ∀ fuel cs x, DataW.trod enc P w 0 (fun _ => true) true fuel t cs = some x → ∃ a, cs = cells a ∧ ok a
/-- The same of a struct's fields, from the offset 'off' on. -/
def FOpens {H : Type} (enc : TypeId × Value → H) (P : Program) (w : World) (fs : List Field) (off : Nat) {α : Type} (cells : α → List Value) (ok : α → Prop) : Prop :=
  ∀ (cs : List Value) (n : Nat), cs.length = (fs.map fun f => P.cellsOf f.type).sum → (∀ f ∈ fs, ∃ y, DataW.trod enc P w 0 (fun _ => true) true n f.type ((cs.drop (f.offset - off)).take (P.cellsOf f.type)) = some y) → ∃ a, cs = cells a ∧ ok a
/-- A slice that came in. -/
structure Sl (α : Type) where
  A : Option Addr
  cap : Nat
  l : List α

section
variable {H : Type} {enc : TypeId × Value → H} {P : Program} {w : World} {t e : TypeId} {α β : Type} {cells : α → List Value} {ok : α → Prop}
theorem Opens.int {k : IntKind} (ht : P.underlying t = some (.int k)) : Opens enc P w t (fun n : Int => [.int k n]) (fun n => (Lit.int k n).wf = true) := by
  intro fuel cs x h
  obtain ⟨n, rfl, _, hw⟩ := DataW.trod_int ht h
  exact ⟨n, rfl, hw⟩
theorem Opens.bool (ht : P.underlying t = some .bool) : Opens enc P w t (fun b : Bool => [.bool b]) (fun _ => True) := by
  intro fuel cs x h
  obtain ⟨b, rfl, _⟩ := DataW.trod_bool ht h
  exact ⟨b, rfl, trivial⟩
theorem Opens.string (ht : P.underlying t = some .string) : Opens enc P w t (fun s : ByteArray => [.string s]) (fun s => s.size ≤ maxLen) := by
  intro fuel cs x h
  obtain ⟨s, rfl, _, hs⟩ := DataW.trod_string ht h
  exact ⟨s, rfl, hs⟩
theorem Opens.map {cells' : β → List Value} {ok' : β → Prop} (h : Opens enc P w t cells ok) (f : α → β) (hc : ∀ a, cells a = cells' (f a)) (hk : ∀ a, ok a → ok' (f a)) : Opens enc P w t cells' ok' := by
  intro fuel cs x hx
  obtain ⟨a, rfl, ha⟩ := h fuel cs x hx
  exact ⟨f a, hc a, hk a ha⟩
theorem FOpens.nil (off : Nat) : FOpens enc P w [] off (fun _ : Unit => []) (fun _ => True) := by
  intro cs n hl _
  exact ⟨(), List.eq_nil_of_length_eq_zero hl, trivial⟩
theorem FOpens.cons {f : Field} {fs : List Field} {off : Nat} {cells' : β → List Value} {ok' : β → Prop} (h : Opens enc P w f.type cells ok) (hck : (decide (f.offset = off) && fs.all fun g => decide (off + P.cellsOf f.type ≤ g.offset)) = true) (hfs : FOpens enc P w fs (off + P.cellsOf f.type) cells' ok') : FOpens enc P w (f :: fs) off (fun a : α × β => cells a.1 ++ cells' a.2) (fun a => ok a.1 ∧ ok' a.2) := by
  rw [Bool.and_eq_true, decide_eq_true_eq, List.all_eq_true] at hck
  obtain ⟨ho, hge0⟩ := hck
  have hge : ∀ g ∈ fs, off + P.cellsOf f.type ≤ g.offset := fun g hg => by simpa using hge0 g hg
  intro cs n hl hf
  rw [List.map_cons, List.sum_cons] at hl
  obtain ⟨y, hy⟩ := hf f (by simp)
  rw [ho, Nat.sub_self, List.drop_zero] at hy
  obtain ⟨a, ha, hka⟩ := h _ _ _ hy
  obtain ⟨b, hb, hkb⟩ := hfs (cs.drop (P.cellsOf f.type)) n (by rw [List.length_drop]; omega) (fun g hg => by
    obtain ⟨z, hz⟩ := hf g (List.mem_cons_of_mem _ hg)
    refine ⟨z, ?_⟩
    rw [List.drop_drop, show P.cellsOf f.type + (g.offset - (off + P.cellsOf f.type)) = g.offset - off by have := hge g hg; omega]
    exact hz)
  exact ⟨(a, b), by show cs = cells a ++ cells' b; rw [← ha, ← hb, List.take_append_drop], hka, hkb⟩
theorem Opens.struct {fs : Array Field} (ht : P.underlying t = some (.struct fs)) (hs : P.cellsOf t = (fs.toList.map fun f => P.cellsOf f.type).sum) (h : FOpens enc P w fs.toList 0 cells ok) : Opens enc P w t cells ok := by
  intro fuel cs x hx
  obtain ⟨xs, n, _, _, hl, hlen, hf⟩ := DataW.trod_struct ht hx
  refine h cs n (hl.trans hs) fun f hf' => ?_
  obtain ⟨i, hi⟩ := List.mem_iff_getElem?.1 hf'
  have hi' : fs[i]? = some f := by simpa using hi
  have hlt : i < xs.length := by rw [hlen]; rcases Nat.lt_or_ge i fs.size with h | h; exact h; rw [Array.getElem?_eq_none h] at hi'; cases hi'
  refine ⟨xs[i], ?_⟩
  rw [Nat.sub_zero, hf i f hi', List.getElem?_eq_getElem hlt]
theorem Opens.slice {z : Nat} (ht : P.underlying t = some (.slice e)) (hz : P.cellsOf e = z) (h0 : 0 < z) (hc : ∀ a, (cells a).length = z) (h : Opens enc P w e cells ok) :
    Opens enc P w t (fun s : Sl α => [.slice s.A s.l.length s.cap]) (fun s => s.l.length ≤ s.cap ∧ s.cap ≤ maxLen ∧ Rd w w.heap.size e z s.A s.l.length (s.l.flatMap cells) ∧ ∀ a ∈ s.l, ok a) := by
  intro fuel cs x hx
  rcases open_slice ht hx with ⟨rfl, _⟩ | ⟨a, len, cap, m, n, D, Pl, rfl, _, hl, hm, hmm, _, hi⟩
  · exact ⟨⟨none, 0, []⟩, rfl, Nat.zero_le _, Nat.zero_le _, Rd.none_, by simp⟩
  rw [hz] at hi
  have hml : len ≤ m := by rw [hmm]; simp only [if_true]; exact hl
  have hall : ∀ k, k ≤ len → ∃ l : List α, l.length = k ∧ (∀ j u, (l.flatMap cells)[j]? = some u → w.cell? (a.add j) = some u) ∧ ∀ x ∈ l, ok x := by
    intro k
    induction k with
    | zero => intro _; exact ⟨[], rfl, by simp, by simp⟩
    | succ k ih =>
      intro hk
      obtain ⟨l, hll, hlc, hlo⟩ := ih (by omega)
      obtain ⟨cs', h1, h2⟩ := hi k (by omega)
      obtain ⟨_, hlen, hcell⟩ := World.cells?_some h1
      obtain ⟨b, rfl, hb⟩ := h _ _ _ h2
      refine ⟨l ++ [b], by simp [hll], fun j u hu => ?_, fun x hx => ?_⟩
      · rw [List.flatMap_append, List.flatMap_singleton] at hu
        have hfl : (l.flatMap cells).length = k * z := by
          rw [← hll]
          clear hll hlc hlo hu
          induction l with
          | nil => simp
          | cons y l ih' => rw [List.flatMap_cons, List.length_append, hc, ih', List.length_cons, Nat.add_mul]; omega
        rcases Nat.lt_or_ge j (k * z) with hj | hj
        · rw [List.getElem?_append_left (by omega)] at hu
          exact hlc j u hu
        · rw [List.getElem?_append_right (by omega), hfl] at hu
          have hjz : j - k * z < z := by
            rcases Nat.lt_or_ge (j - k * z) z with h | h
            · exact h
            · rw [List.getElem?_eq_none (by rw [hc]; exact h)] at hu; cases hu
          have := hcell (j - k * z) hjz
          rw [Go.Proofs.YtolajmfmphkkiaaGreatDoor.add_of_add, show k * z + (j - k * z) = j by omega, hu] at this
          exact this
      · rcases List.mem_append.1 hx with hx | hx
        · exact hlo x hx
        · rw [List.mem_singleton] at hx; rw [hx]; exact hb
  obtain ⟨l, hll, hlc, hlo⟩ := hall len (Nat.le_refl _)
  have hfl : (l.flatMap cells).length = l.length * z := by
    clear hll hlc hlo
    induction l with
    | nil => simp
    | cons y l ih' => rw [List.flatMap_cons, List.length_append, hc, ih', List.length_cons, Nat.add_mul]; omega
  refine ⟨⟨some a, cap, l⟩, by simp [hll], by simp only [hll]; exact hl, hm, ⟨hfl, fun hn => ⟨a, rfl, .inl ?_, hlc⟩⟩, hlo⟩
  have hp : 0 < (l.flatMap cells).length := by rw [hfl]; exact Nat.mul_pos hn h0
  have := World.block_lt_of_cell? w _ (hlc 0 _ (List.getElem?_eq_getElem hp))
  rwa [block_of_add] at this

theorem Opens.Trod {v : Value} {d : DataW H} {p : List MemPlace} (h : Opens enc P w t cells ok) (hd : DataW.Trod enc P w 0 (fun _ => true) true t v d p) : ∃ a, v.cells.toList = cells a ∧ ok a := by
  obtain ⟨fuel, hf⟩ := hd
  exact h _ _ _ hf
theorem cells_slice {v : Value} {A : Option Addr} {n c : Nat} (h : v.cells.toList = [.slice A n c]) (hv : ∀ cs, v ≠ .agg cs) : v = .slice A n c := by
  cases v <;> simp_all [Value.cells]
end
end Go.Proofs.YtolajmfmphkkiaaGreatDoor

/- From a walk that leaves what it found to a law's row, with errors.errorType laid. -/
namespace Go.Proofs.YtolajmfmphkkiaaGreatDoor
open Go.ChangeShapes Go.WideShapes Go.RowKit

theorem own_ : ownKnob Tryz.prog.godebug = none := by kernel_rfl
theorem laidOut_ : laidOutB Tryz.prog = true := by kernel_rfl
theorem et_ : Tryz.prog.globalNamed "errors.errorType" = some 0 := by kernel_rfl
theorem rt_ : (Tryz.prog.cutTypes.find? (·.1 == "internal/reflectlite.rtype")).map (·.2) = some 153 := by kernel_rfl
theorem oneRow_ : ((List.range Tryz.prog.types.size).filter fun t => Tryz.prog.rowNamed t [101, 114, 114, 111, 114]) = [28] := by kernel_rfl

theorem typeVar_of_laid {W : World} (h : laidMetH Tryz.prog [("errors.errorType", Rows.laid_errors_errorType)] W) : TypeVar W := by
  have h' : laidMet Tryz.prog [] W ∧ handlesMet Tryz.prog [("errors.errorType", Rows.laid_errors_errorType)] W := h
  obtain ⟨name, u, ty, e1, e2, e3, e4, e5⟩ := h'.2 _ (List.mem_singleton.2 rfl)
  have en : name = [101, 114, 114, 111, 114] := (Option.some.inj e1).symm
  subst en
  obtain rfl := Option.some.inj (rt_.symm.trans e2)
  have hm : ty ∈ (List.range Tryz.prog.types.size).filter fun t => Tryz.prog.rowNamed t [101, 114, 114, 111, 114] := List.mem_filter.2 ⟨List.mem_range.2 e3, e4⟩
  rw [oneRow_] at hm
  obtain rfl := List.mem_singleton.1 hm
  have hh : typeHandle Tryz.prog 28 = .pointer (some ⟨1, 28, none⟩) := by kernel_rfl
  rw [hh] at e5
  unfold TypeVar
  simpa using World.var?_cell et_ e5 0

/-- A world that meets the condition. -/
noncomputable def laidWorld (os : Os) : World :=
  let w0 := World.holding Tryz.prog os ⟨#[], #[], []⟩
  { w0 with heap := w0.heap.modify 0 fun
      | .cells _ t frozen => .cells #[.iface 153 (.agg #[.pointer (some ⟨1, 28, none⟩)])] t frozen
      | o => o }
theorem laidWorld_met (os : Os) (args : Array Value) : laidMetH Tryz.prog [("errors.errorType", Rows.laid_errors_errorType)] ((laidWorld os).forCall (fun _ _ => 0) ⟨#[], args, []⟩).memory :=
  laidMetH_of_parts (laidMet_nil _ _) (by kernel_rfl)

theorem trodAll_below {H : Type} {enc : TypeId × Value → H} {W W' : World} (hb : Below W.heap.size W W') : ∀ {ts : List TypeId} {vs : List Value} {ds : List (DataW H)} {ps : List MemPlace},
    (∀ t ∈ ts, Tryz.prog.readableRec t = true ∧ t < Tryz.prog.types.size) → DataW.TrodAll enc Tryz.prog W 0 (fun _ => true) true ts vs ds ps → DataW.TrodAll enc Tryz.prog W' 0 (fun b => decide (b < W.heap.size)) true ts vs ds ps
  | [], [], [], _, _, h => h
  | [], _ :: _, _, _, _, h => h.elim
  | [], [], _ :: _, _, _, h => h.elim
  | _ :: _, [], _, _, _, h => h.elim
  | _ :: _, _ :: _, [], _, _, h => h.elim
  | t :: ts, v :: vs, d :: ds, ps, ht, h => by
    obtain ⟨p, q, h1, h2, rfl⟩ := h
    have hlt : ∀ x ∈ p, x.block < W.heap.size := by obtain ⟨m, hm⟩ := h1; exact DataW.trod_lt m _ _ _ hm
    exact ⟨p, q, Below.trod laidOut_ (ht t (by simp)).1 (ht t (by simp)).2 h1 hb hlt, trodAll_below hb (fun t' h' => ht t' (List.mem_cons_of_mem _ h')) h2, rfl⟩

theorem trodAll_len {H : Type} {enc : TypeId × Value → H} {W : World} : ∀ {ts : List TypeId} {vs : List Value} {ds : List (DataW H)} {ps : List MemPlace},
    DataW.TrodAll enc Tryz.prog W 0 (fun _ => true) true ts vs ds ps → ds.length = ts.length
  | [], [], [], _, _ => rfl
  | [], _ :: _, _, _, h => h.elim
  | [], [], _ :: _, _, h => h.elim
  | _ :: _, [], _, _, h => h.elim
  | _ :: _, _ :: _, [], _, h => h.elim
  | t :: ts, v :: vs, d :: ds, ps, h => by
    obtain ⟨p, q, _, h2, _⟩ := h
    simp [trodAll_len h2]
section
variable {H : Type} {enc : TypeId × Value → H}
set_option maxRecDepth 100000 in
/-- The row's step, whatever the law. -/
theorem lift_ (os : Os) (started : os.Started) (f : FuncId) (fn : Func) (s : ChangeSpec) (ws : Array Value) (fuel : Nat) (hvars : s.vars = [])
    (noInit : Tryz.prog.inits.idxOf? f = none) (hfn : Tryz.prog.funcs[f]? = some fn) (hres : fn.resultTypes = #[4])
    (hok : Input.okWideB Tryz.prog ((laidWorld os).forCall (fun _ _ => 0) ⟨#[], ws, []⟩) f ⟨#[], ws, []⟩ = true)
    (hpre : s.preB enc Tryz.prog fn [] false ((laidWorld os).forCall (fun _ _ => 0) ⟨#[], ws, []⟩).memory ws fuel = true)
    (hsz : s.sizedB enc Tryz.prog fn false ((laidWorld os).forCall (fun _ _ => 0) ⟨#[], ws, []⟩).memory ws fuel = true)
    (hspec : ∀ ds : List (DataW H), ds.length = fn.params.toList.length → s.fn H (ds ++ []) = { results := [.lit (.bool true)], args := ds })
    (hread : ∀ t ∈ fn.params.toList, Tryz.prog.readableRec t = true ∧ t < Tryz.prog.types.size)
    (walk : ∀ (W : World) (base : Nat) (args : Array Value) (ds : List (DataW H)) (p : List MemPlace), (∀ (j : Nat) t v, fn.params[j]? = some t → args[j]? = some v → Value.okWide Tryz.prog W .any base t v) →
      DataW.TrodAll enc Tryz.prog W 0 (fun _ => true) true fn.params.toList args.toList ds p → TypeVar W → Calls Tryz.prog f args W (BoolPost W true)) :
    ReturnsInHanded {} Tryz.checked os f .any (fun w args => (s.pre enc Tryz.prog fn [] false w args ∧ laidMetH Tryz.prog [("errors.errorType", Rows.laid_errors_errorType)] w) ∧ sizedMet enc Tryz.prog fn (OpenSpec.ofChange s) false w args)
      (s.post enc Tryz.prog fn false true false false) := by
  refine returnsInHanded_of_change_and (C := Tryz.checked) (X := fun w _ => laidMetH Tryz.prog [("errors.errorType", Rows.laid_errors_errorType)] w) (fun _ _ _ hh h => h.of_heap hh) own_ started noInit hfn
    (ChangeSpec.witness_at (enc := enc) (C := Tryz.checked) (os := os) (X := fun w _ => laidMetH Tryz.prog [("errors.errorType", Rows.laid_errors_errorType)] w) false (laidWorld os) ws fuel rfl (by kernel_rfl) (by kernel_rfl) hok hpre hsz (laidWorld_met os _)) ?_
  intro W base args ds gs before hval hW _ _ hL _
  have hW' := hW
  obtain ⟨p, q, hA, hV, rfl, hfz, hnd⟩ := hW
  rw [hvars] at hV
  have hg0 : gs = [] ∧ q = [] := by
    cases gs with
    | nil => exact ⟨rfl, hV⟩
    | cons g r => exact absurd hV (by intro h; cases h)
  obtain ⟨rfl, rfl⟩ := hg0
  have hlen : ds.length = fn.params.toList.length := trodAll_len hA
  refine (walk W base args ds p hval hA (typeVar_of_laid hL)).mono fun e W' ⟨he, hb⟩ => ?_
  subst he
  refine ⟨_, rfl, _, _, _, [], p, [], hW', ?_, ?_, ?_, hb.frame _, fun h => by cases h⟩
  · rw [hspec ds hlen, hres]
    exact trodAll_mk1 (shut_bool Tryz.underlying4 true)
  · rw [hspec ds hlen]
    exact trodAll_below hb hread hA
  · rw [hspec ds hlen, hvars]
    rfl
end
end Go.Proofs.YtolajmfmphkkiaaGreatDoor

/- The arguments of this seat's laws, opened. -/
namespace Go.Proofs.YtolajmfmphkkiaaGreatDoor
open Go.ChangeShapes Go.WideShapes Go.RowKit

theorem i64_wf {n : Int} (h : (Lit.int .i64 n).wf = true) : I64 n := by
  have h' : (decide (IntKind.i64.min ≤ n) && decide (n ≤ IntKind.i64.max)) = true := h
  rw [Bool.and_eq_true, decide_eq_true_eq, decide_eq_true_eq] at h'
  have e1 : IntKind.i64.min = -9223372036854775808 := by decide
  have e2 : IntKind.i64.max = 9223372036854775807 := by decide
  unfold I64
  omega
set_option maxRecDepth 100000 in
theorem opens_row {H : Type} {enc : TypeId × Value → H} {W : World} : Opens enc Tryz.prog W 221 rwC (fun r => I64 r.k ∧ I64 r.v) :=
  (Opens.struct Tryz.underlying221 (by kernel_rfl) (FOpens.cons (Opens.int Tryz.underlying3) (by kernel_rfl) (FOpens.cons (Opens.int Tryz.underlying3) (by kernel_rfl) (FOpens.nil _)))).map (fun a => (⟨a.1, a.2.1⟩ : Rw)) (fun _ => rfl) (fun _ h => ⟨i64_wf h.1, i64_wf h.2.1⟩)
def slC {α : Type} (s : Sl α) : List Value := [.slice s.A s.l.length s.cap]
def slOk {α : Type} (W : World) (e : TypeId) (z : Nat) (cells : α → List Value) (ok : α → Prop) (s : Sl α) : Prop := s.l.length ≤ s.cap ∧ s.cap ≤ maxLen ∧ Rd W W.heap.size e z s.A s.l.length (s.l.flatMap cells) ∧ ∀ a ∈ s.l, ok a
theorem opens_rows {H : Type} {enc : TypeId × Value → H} {W : World} : Opens enc Tryz.prog W 47 slC (slOk W 221 2 rwC (fun r => I64 r.k ∧ I64 r.v)) :=
  Opens.slice Tryz.underlying47 (by kernel_rfl) (by decide) (fun _ => rfl) opens_row
set_option maxRecDepth 100000 in
theorem opens_op {H : Type} {enc : TypeId × Value → H} {W : World} : Opens enc Tryz.prog W 80 opC (fun _ => True) :=
  (Opens.struct Tryz.underlying80 (by kernel_rfl) (FOpens.cons (Opens.int Tryz.underlying3) (by kernel_rfl) (FOpens.cons (Opens.int Tryz.underlying3) (by kernel_rfl) (FOpens.cons (Opens.int Tryz.underlying3) (by kernel_rfl) (FOpens.cons (Opens.int Tryz.underlying3) (by kernel_rfl) (FOpens.cons (Opens.int Tryz.underlying3) (by kernel_rfl) (FOpens.nil _))))))).map
    (fun a => (⟨a.1, a.2.1, a.2.2.1, a.2.2.2.1, a.2.2.2.2.1⟩ : OpD)) (fun _ => rfl) (fun _ _ => trivial)
theorem opens_ops {H : Type} {enc : TypeId × Value → H} {W : World} : Opens enc Tryz.prog W 22 slC (slOk W 80 5 opC (fun _ => True)) :=
  Opens.slice Tryz.underlying22 (by kernel_rfl) (by decide) (fun _ => rfl) opens_op
structure PlC where
  parts : Int
  s : Sl OpD
set_option maxRecDepth 100000 in
theorem opens_plan {H : Type} {enc : TypeId × Value → H} {W : World} : Opens enc Tryz.prog W 24 (fun a : PlC => [.int .i64 a.parts] ++ slC a.s) (fun a => slOk W 80 5 opC (fun _ => True) a.s) :=
  (Opens.struct Tryz.underlying24 (by kernel_rfl) (FOpens.cons (Opens.int Tryz.underlying3) (by kernel_rfl) (FOpens.cons opens_ops (by kernel_rfl) (FOpens.nil _)))).map (fun a => (⟨a.1, a.2.1⟩ : PlC)) (fun _ => rfl) (fun _ h => h.2.1)
set_option maxRecDepth 100000 in
theorem arg_slice {H : Type} {enc : TypeId × Value → H} {W : World} {base : Nat} {t e : TypeId} {α : Type} {ok : Sl α → Prop} {v : Value} {d : DataW H} {p : List MemPlace} (ht : Tryz.prog.underlying t = some (.slice e)) (ho : Opens enc Tryz.prog W t slC ok)
    (hv : Value.okWide Tryz.prog W .any base t v) (hd : DataW.Trod enc Tryz.prog W 0 (fun _ => true) true t v d p) : ∃ s : Sl α, v = .slice s.A s.l.length s.cap ∧ ok s := by
  obtain ⟨A, n, c, rfl⟩ := okWide_slice ht hv
  obtain ⟨s, hs, hk⟩ := ho.Trod hd
  refine ⟨s, ?_, hk⟩
  simpa [Value.cells, slC] using hs
set_option maxRecDepth 100000 in
theorem arg_plan {H : Type} {enc : TypeId × Value → H} {W : World} {base : Nat} {v : Value} {d : DataW H} {p : List MemPlace} (hv : Value.okWide Tryz.prog W .any base 24 v) (hd : DataW.Trod enc Tryz.prog W 0 (fun _ => true) true 24 v d p) :
    ∃ (q : PlanD) (A : Option Addr) (c : Nat), v = planV q A c ∧ RdS W (· < W.heap.size) 5 A q.ops.length (opsC q.ops) := by
  obtain ⟨cs, rfl, _⟩ := okWide_struct Tryz.underlying24 hv
  obtain ⟨x, hx, h1, h2, h3, _⟩ := opens_plan.Trod hd
  refine ⟨⟨x.parts, x.s.l⟩, x.s.A, x.s.cap, ?_, RdS.of_rd h3 (by decide)⟩
  have hx' : cs.toList = [.int .i64 x.parts, .slice x.s.A x.s.l.length x.s.cap] := hx
  congr 1
  exact Array.ext' (by rw [hx'])
set_option maxRecDepth 100000 in
theorem arg_int {H : Type} {enc : TypeId × Value → H} {W : World} {base : Nat} {v : Value} {d : DataW H} {p : List MemPlace} (hv : Value.okWide Tryz.prog W .any base 3 v) (hd : DataW.Trod enc Tryz.prog W 0 (fun _ => true) true 3 v d p) : ∃ n : Int, v = .int .i64 n ∧ I64 n := by
  obtain ⟨n, rfl, _, _, hw⟩ := open_int Tryz.underlying3 hv hd
  exact ⟨n, rfl, i64_wf hw⟩
end Go.Proofs.YtolajmfmphkkiaaGreatDoor

namespace Go.Proofs.YtolajmfmphkkiaaGreatDoor
open Go.ChangeShapes Go.WideShapes Go.RowKit

set_option maxRecDepth 100000 in
theorem driverPower_lifted (os : Os) (started : os.Started) (H : Type) (enc : TypeId × Value → H) :
    ReturnsInHanded {} Tryz.checked os 4 .any (fun w args => (Rows.driverPowerSpec.pre enc Tryz.prog Tryz.f4 [] false w args ∧ laidMetH Tryz.prog [("errors.errorType", Rows.laid_errors_errorType)] w) ∧ sizedMet enc Tryz.prog Tryz.f4 (OpenSpec.ofChange Rows.driverPowerSpec) false w args)
      (Rows.driverPowerSpec.post enc Tryz.prog Tryz.f4 false true false false) := by
  refine lift_ os started 4 Tryz.f4 Rows.driverPowerSpec #[.agg #[.int .i64 0, .slice none 0 0], .slice none 0 0, .int .i64 0] 8 rfl (by kernel_rfl) Tryz.func4 (by kernel_rfl) (by kernel_rfl) (by kernel_rfl) (by kernel_rfl) ?_ ?_ ?_
  · intro ds hl
    rw [Tryz.params4] at hl
    obtain ⟨a, b, c, rfl⟩ : ∃ a b c, ds = [a, b, c] := by
      match ds, hl with
      | [a, b, c], _ => exact ⟨a, b, c, rfl⟩
    rfl
  · rw [Tryz.params4]
    intro t ht
    simp only [List.mem_cons, List.not_mem_nil, or_false] at ht
    rcases ht with rfl | rfl | rfl <;> exact ⟨by kernel_rfl, of_decide_eq_true (by kernel_rfl)⟩
  · intro W base args ds p hval hA hg
    rw [Tryz.params4] at hA hval
    obtain ⟨v0, v1, v2, d0, d1, d2, p0, p1, p2, rfl, rfl, rfl, h0, h1, h2⟩ := trodAll_three hA
    obtain ⟨q, A, c, rfl, k0⟩ := arg_plan (hval 0 _ v0 rfl rfl) h0
    obtain ⟨s1, rfl, k1⟩ := arg_slice Tryz.underlying47 opens_rows (hval 1 _ v1 rfl rfl) h1
    obtain ⟨n, rfl, _⟩ := arg_int (hval 2 _ v2 rfl rfl) h2
    exact power_c W ⟨k0, RdS.of_rd k1.2.2.1 (by decide), k1.1, k1.2.2.2, hg⟩

theorem driverPower_row : Rows.DriverPowerSaid :=
  OpenClaim.holds_of_wide 4 Tryz.f4 rfl rfl rfl rfl rfl rfl rfl ⟨rfl, rfl, rfl, rfl, rfl⟩ rfl rfl rfl rfl rfl (by kernel_rfl) Tryz.func4 (by kernel_rfl)
    (of_decide_eq_true (by kernel_rfl)) (by unfold Func.isWrapper; rw [if_neg (of_decide_eq_false (by kernel_rfl))]; exact ⟨rfl, rfl⟩)
    (fun os started H enc _ => driverPower_lifted os started H enc)

theorem driverPower_holds : Rows.DriverPowerCardSaid :=
  Claim7.holds_tied_plain_at .later [] [.handle] true (true, "c5aa59a4ccb82a0eead9d5516945580cabe980069dd498ab984b9d8cfffb57af") true
    driverPower_row (fun _ h => by cases h) (by kernel_rfl) (fun _ h => by cases h) driverPower_row_tie rfl ⟨rfl, rfl⟩ (by kernel_rfl) rfl
    (fun f fn hf hfn => by
      obtain rfl : f = 4 := Option.some.inj ((show Tryz.prog.funcNamed "tributary/tributarylaw17.DriverPower" = some 4 by kernel_rfl).symm.trans hf) |>.symm
      obtain rfl : fn = Tryz.f4 := (Option.some.inj (Tryz.func4.symm.trans hfn)).symm
      exact ⟨by kernel_rfl, fun j t ht => by
        rw [Tryz.params4] at ht
        have hm : t ∈ [24, 47, 3] := by
          have := List.mem_of_getElem? (by simpa using ht : ([24, 47, 3] : List TypeId)[j]? = some t)
          exact this
        simp only [List.mem_cons, List.not_mem_nil, or_false] at hm
        rcases hm with rfl | rfl | rfl
        · exact (show Tryz.prog.wantsStandIn 24 = false by kernel_rfl)
        · exact (show Tryz.prog.wantsStandIn 47 = false by kernel_rfl)
        · exact (show Tryz.prog.wantsStandIn 3 = false by kernel_rfl)⟩)
    (by kernel_rfl)
#print axioms driverPower_holds
end Go.Proofs.YtolajmfmphkkiaaGreatDoor
