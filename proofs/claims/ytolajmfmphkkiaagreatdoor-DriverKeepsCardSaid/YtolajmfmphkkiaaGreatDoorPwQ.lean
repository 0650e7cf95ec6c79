/- LawH, KeepsV, KitB, CopyC, Open, ActK, LoadA: laid together. -/
import Derived.Test.YtolajmfmphkkiaaGreatDoorPwO
import Derived.Test.YtolajmfmphkkiaaGreatDoorPwP
import Derived.Test.YtolajmfmphkkiaaGreatDoorPwB
import Derived.Test.YtolajmfmphkkiaaGreatDoorPwN
import Derived.Test.YtolajmfmphkkiaaGreatDoorPwA
import Derived.Laws.CopyOwn
import Derived.ProofKit
import Derived.Deep.Slices
import Derived.WideShapes

/- tributarylaw17.DriverPower: the walk. -/
namespace Go.Proofs.YtolajmfmphkkiaaGreatDoor
open Go.RowKit Go.Sort

theorem mask_i64 (x : Int) (m : Nat) (hm : m < 9223372036854775808) : ∃ n : Nat, bits .and .i64 x (m : Int) = n ∧ n ≤ m := by
  unfold bits
  simp only
  have h : (BitVec.ofInt 64 x &&& BitVec.ofInt 64 (m : Int)).toNat ≤ m := by
    rw [BitVec.toNat_and]
    refine Nat.le_trans Nat.and_le_right ?_
    simp
    omega
  exact ⟨(BitVec.ofInt 64 x &&& BitVec.ofInt 64 m).toNat, IntWalk.i64_in (((BitVec.ofInt 64 x &&& BitVec.ofInt 64 (m : Int)).toNat : Nat) : Int) (by omega), h⟩
section
variable {B vb db : Nat} {p : PlanD} {A : Option Addr} {c : Nat} {v v' : DrvD} {d d' : DiskD} {K : Nat → Prop} {w0 : World}
theorem push_m (S : Nat → Prop) (l : List Rw) (nl : Nat) (hnl : l.length = nl) (A0 : Option Addr) (c0 : Nat) (w : World) (h : VIs B vb db p A c v d K w0 w) (hr : RdS w S 2 A0 l.length (l.flatMap rwC)) (hS : ∀ k, S k → k < w0.heap.size) (h64 : ∀ r ∈ l, I64 r.k ∧ I64 r.v) (hlf : d.life + 2 ≤ 1000000) (hz : pushD v d l = (none, v', d')) :
    Calls Tryz.prog 21 #[.pointer (some ⟨vb, 0, none⟩), .slice A0 nl c0] w (fun e w' => e = .returned (.tuple #[.int .i64 ((v.x.blocks.length + 1 : Nat) : Int), .nilIface]) ∧ VIs B vb db p A c v' d' K w0 w' ∧ Kept K w w') := by
  subst hnl
  exact push_v S l A0 c0 w h hr hS h64 hlf hz
theorem push_mno {code : Int} (S : Nat → Prop) (l : List Rw) (nl : Nat) (hnl : l.length = nl) (A0 : Option Addr) (c0 : Nat) (w : World) (h : VIs B vb db p A c v d K w0 w) (hr : RdS w S 2 A0 l.length (l.flatMap rwC)) (hS : ∀ k, S k → k < w0.heap.size) (h64 : ∀ r ∈ l, I64 r.k ∧ I64 r.v) (hlf : d.life + 2 ≤ 1000000) (hz : pushD v d l = (some code, v', d')) :
    Calls Tryz.prog 21 #[.pointer (some ⟨vb, 0, none⟩), .slice A0 nl c0] w (fun e w' => ∃ ve a, e = .returned (.tuple #[.int .i64 0, ve]) ∧ ErrAt w' ve a code ∧ VIs B vb db p A c v' d' K w0 w' ∧ Kept K w w') := by
  subst hnl
  exact push_no S l A0 c0 w h hr hS h64 hlf hz
end
section
variable {p : PlanD} {A : Option Addr} {c : Nat} {l : List Rw} {A1 : Option Addr} {c1 : Nat} {n : Int}
/-- What the arguments' cells hold. -/
structure PowIn (p : PlanD) (A : Option Addr) (l : List Rw) (A1 : Option Addr) (c1 : Nat) (W : World) : Prop where
  ops : RdS W (· < W.heap.size) 5 A p.ops.length (opsC p.ops)
  rows : RdS W (· < W.heap.size) 2 A1 l.length (l.flatMap rwC)
  cap : l.length ≤ c1
  i64 : ∀ r ∈ l, I64 r.k ∧ I64 r.v
  tv : TypeVar W
set_option maxRecDepth 100000 in
set_option maxHeartbeats 16000000 in
theorem power_c (W : World) (h : PowIn p A l A1 c1 W) : Calls Tryz.prog 4 #[planV p A c, .slice A1 l.length c1, .int .i64 n] W (BoolPost W true) := by
  have H := Lib.hid h
  have hty : 0 < W.heap.size := World.block_lt_of_cell? W _ h.tv
  have hcap := h.cap
  obtain ⟨m, hm, hm16, hml⟩ : ∃ m, m = min l.length 16 ∧ m ≤ 16 ∧ m ≤ l.length := ⟨_, rfl, Nat.min_le_right _ _, Nat.min_le_left _ _⟩
  have hmin : (if (16 : Int) < (l.length : Nat) then (16 : Int) else (l.length : Nat)).toNat = m := by split <;> omega
  have hlen : (l.take m).length = m := by rw [List.length_take]; omega
  have HL := Lib.hid hlen
  obtain ⟨k, hk, hk3⟩ := mask_i64 n 3 (by omega)
  have hk' : bits .and .i64 n 3 = (k : Nat) := hk
  clear hm hlen
  obtain ⟨W1, hW1⟩ : ∃ W1, W1 = W.alloc (.cells #[.int .i64 p.parts, .slice A p.ops.length c] 24 (0, 0)) := ⟨_, rfl⟩
  have HB1 := Lib.hid (show Below W.heap.size W W1 from by rw [hW1]; exact ext_alloc (Below.refl _ _) _)
  have HK1 := Lib.hid (show Bk W1 W.heap.size 24 #[.int .i64 p.parts, .slice A p.ops.length c] from by rw [hW1]; exact Bk.new _ _ _)
  have hs1 : W1.heap.size = W.heap.size + 1 := by rw [hW1]; simp
  have HTv := Lib.hid (show TypeVar W1 from TypeVar.fr (S := No) h.tv (Fr.of_below HB1.out) (fun h => h))
  have c0 : W1.cell? ⟨W.heap.size, 0, none⟩ = some (.int .i64 p.parts) := (HK1.out.cell 0).trans rfl
  have c1' : W1.cell? ⟨W.heap.size, 1, none⟩ = some (.slice A p.ops.length c) := (HK1.out.cell 1).trans rfl
  have HW1 := Lib.hid hW1
  clear h hW1
  cases hc : checkD p with
  | some x =>
    obtain ⟨a, code⟩ := x
    have HC := Lib.hid hc
    have HR := Lib.hid (fun W' (hb : Below W.heap.size W W') => rRight_c W.heap.size p A c W' ((H.out.ops.ext hb).rdS (fun _ hk => hk)) hb.size)
    rw [hc] at HR
    clear hc
    go_enter Tryz.func4, Tryz.ntmps4
    go_upto_region 1 with fail
    rw [← HW1.out]
    go_wp2_with (first
      | (go_at_call 13; refine (HR.out _ HB4.out).mono ?_; rintro e w5 ⟨rfl, hb⟩; have HB5 := Lib.hid (ext_trans HB4.out hb); clear hb)
      | (go_at_call 12; refine (told17_c _ HT3.out (by have := HB3.out.size; omega)).mono ?_; rintro e w4 ⟨rfl, hb⟩; have HB4 := Lib.hid (ext_trans HB3.out hb)
         have r0 := (World.cell?_of_block (a := ⟨W.heap.size, 0, none⟩) (hb.block _ ql)).trans q0; have r1 := (World.cell?_of_block (a := ⟨W.heap.size, 1, none⟩) (hb.block _ ql)).trans q1; clear hb)
      | (go_at_call 11
         refine (open_v (w0 := W1) (B := W.heap.size) (p := p) (A := A) (c := c) (room := 20) 1 HD.out HB2.out (fun h => by rw [HC.out] at h; cases h) (by omega) HTv.out hty ((H.out.ops.ext HB1.out).ext HB2.out) (by have := HB2.out.size; omega)).mono ?_
         rintro e w3 ⟨h1, _, _⟩
         obtain ⟨ve, at_, rfl, hE, hb⟩ := h1 a code HC.out
         obtain ⟨n7, hn7⟩ := hE.errN; obtain ⟨T7, y7, rfl⟩ := hn7.iface
         have HB3 := Lib.hid (ext_trans HB1.out hb)
         have HT3 := Lib.hid (TypeVar.fr (S := No) HTv.out (Fr.of_below hb) (fun h => h))
         have ql : W.heap.size < w3.heap.size := Nat.lt_of_lt_of_le (by omega) hb.size
         have q0 := (World.cell?_of_block (a := ⟨W.heap.size, 0, none⟩) (hb.block W.heap.size (by omega))).trans c0; have q1 := (World.cell?_of_block (a := ⟨W.heap.size, 1, none⟩) (hb.block W.heap.size (by omega))).trans c1'
         clear h1 hE hb hn7)
      | (go_at_call 10; refine (dNew_c 20 _ (by omega) (by omega)).mono ?_; rintro e w2 ⟨db, Rd, rfl, hD, hb⟩; have HD := Lib.hid hD; have HB2 := Lib.hid hb; have d0 := (World.cell?_of_block (a := ⟨W.heap.size, 0, none⟩) (hb.block W.heap.size (by omega))).trans c0; have d1 := (World.cell?_of_block (a := ⟨W.heap.size, 1, none⟩) (hb.block W.heap.size (by omega))).trans c1'; have dl : W.heap.size < w2.heap.size := Nat.lt_of_lt_of_le (by omega) hb.size; clear hD hb))
    go_ret
    exact ⟨rfl, HB5.out⟩
  | none =>
    have HC := Lib.hid hc
    have hn0 := (shaped_check hc).n0
    clear hc
    go_enter Tryz.func4, Tryz.ntmps4
    go_upto_region 1 with fail
    rw [← HW1.out]
    go_upto_region 7 with (first
      | (go_at_call 11
         refine (open_v (w0 := W1) (B := W.heap.size) (p := p) (A := A) (c := c) (room := 20) 1 HD.out HB2.out (fun _ ad hA => by
           obtain ⟨ad', hA', hS, _⟩ := H.out.ops.2 hn0
           rw [hA] at hA'
           injection hA' with hA'
           subst hA'
           have h2 : ad.block < W.heap.size := hS
           exact ⟨fun hk => by have := (HD.out.bd _ hk).1; omega, by have := HB2.out.size; omega⟩) (by omega) HTv.out hty ((H.out.ops.ext HB1.out).ext HB2.out) (by have := HB2.out.size; omega)).mono ?_
         rintro e w3 ⟨_, _, h3⟩
         obtain ⟨vb, rfl, hV⟩ := h3 HC.out (by omega) (by omega)
         have HV := Lib.hid hV
         clear h3 hV)
      | (go_at_call 10; refine (dNew_c 20 _ (by omega) (by omega)).mono ?_; rintro e w2 ⟨db, Rd, rfl, hD, hb⟩; have HD := Lib.hid hD; have HB2 := Lib.hid hb
         have d0 := (World.cell?_of_block (a := ⟨W.heap.size, 0, none⟩) (hb.block W.heap.size (by omega))).trans c0; have d1 := (World.cell?_of_block (a := ⟨W.heap.size, 1, none⟩) (hb.block W.heap.size (by omega))).trans c1'
         have dl : W.heap.size < w2.heap.size := Nat.lt_of_lt_of_le (by omega) hb.size; clear hD hb))
    have HI := Lib.hid (show ∀ r ∈ l.take m, I64 r.k ∧ I64 r.v from fun r hr => H.out.i64 r (List.mem_of_mem_take hr))
    have HLf := Lib.hid (show ((DiskD.new 20).arm (k : Nat)).life = 0 from (arm_same (DiskD.new 20) (k : Nat)).2.2)
    obtain ⟨v', d', hpp⟩ := push_pow (v := ⟨⟨1, 0, [], []⟩, WalD.new, 0, 0, 0, false⟩) (d := (DiskD.new 20).arm (k : Nat)) (l := l.take m) rfl (arm_same (DiskD.new 20) (k : Nat)).2.2 rfl (by rw [HL.out]; exact hm16) (by show 0 < 400; omega) (by
      have h1 := block_blocks (l := l.take m) (by rw [HL.out]; exact hm16) HI.out
      have h2 := (arm_same (DiskD.new 20) (k : Nat)).2.1
      rw [h2]
      show _ ≤ 20 - 0
      omega)
    rcases hpp with ⟨hz, hd1, hd2⟩ | ⟨hz, hd1, hd2⟩
    · have HZ := Lib.hid hz
      have HD1 := Lib.hid hd1
      have HD2 := Lib.hid hd2
      clear hz hd1 hd2
      go_upto_region 9 with (first
        | (go_at_call 21; (try rw [hmin]); refine (push_m (· < W1.heap.size) (l.take m) m HL.out A1 c1 _ HA.out HRw.out (fun _ hk => hk) HI.out (by rw [HLf.out]; omega) HZ.out).mono ?_; rintro e w5 ⟨rfl, hV, _⟩; have HP := Lib.hid hV; clear hV)
        | (go_at_call 20; (try rw [hk']); refine (arm_v (k : Nat) _ HV.out (by omega)).mono ?_; rintro e w4 ⟨rfl, hV, _⟩; have HA := Lib.hid hV; have HRw := Lib.hid (show RdS w4 (· < W1.heap.size) 2 A1 (l.take m).length ((l.take m).flatMap rwC) from by rw [HL.out, ← take_rows hml]; exact (((RdS.mono (S' := (· < W1.heap.size)) H.out.rows (fun k hk => by have h2 : k < W.heap.size := hk; show k < W1.heap.size; omega)).ext HB1.out).ext hV.below).pre hml); clear hV))
      refine wp_region_held_drew (S := fun _ => True) (by kernel_rfl) ?_ (fun hHeld => ?_)
      · go_keep
      refine wpAnyH_ready (rs := [0]) (by kernel_rfl) (by simp) ?_
      refine AllReadyH.cons (o := { dst := some 51, op := Go.Op.call { callee := Go.Callee.value (Go.Operand.func 12), args := #[], argTypes := #[] }, type := 4, pos := "law.go:199", after := #[], guard := none }) rfl (fun K hK => ?_) ?_
      ·
        go_simp
        go_at_call 12
        refine (told17_c _ (HP.out.ext (below_drewN (Below.refl _ _) 1)).tv (Nat.lt_of_lt_of_le (by omega) (HP.out.ext (below_drewN (Below.refl _ _) 1)).below.size)).mono ?_
        rintro e w6 ⟨rfl, hb⟩
        have HB6 := Lib.hid (ext_trans (below_drewN (Below.refl _ _) 1) hb)
        clear hb
        refine hK.out _ _ ?_ (fun hHeld => ?_)
        · go_keep
        clear hK K
        try simp only [Act.put, List.setIfInBounds_toArray, List.set_cons_zero, List.set_cons_succ]
        refine wpAnyH_take (i := 1) (oi := { dst := some 52, op := Go.Op.move (Go.Operand.tmp 51), type := 4, pos := "law.go:199", after := #[{ on := 0, ground := Go.Ground.data }, { on := 0, ground := Go.Ground.chain }], guard := none }) (v := ?v1z1) rfl (by kernel_rfl) (by kernel_rfl) (by kernel_rfl) (fun _ _ _ h => h) (Or.inl ⟨by rfl, ?hy1z1⟩) (by assumption) ?rest1z1
        case hy1z1 => (intro w hSw; (try dsimp only at hSw); go_simp; try (with_reducible rfl))
        simp only [Act.put, List.setIfInBounds_toArray, List.set_cons_zero, List.set_cons_succ]
        refine wpAnyH_take (i := 2) (oi := { dst := some 53, op := Go.Op.move (Go.Operand.tmp 12), type := 28, pos := "law.go:199", after := #[{ on := 1, ground := Go.Ground.guard }], guard := some (1, true) }) (v := ?v1z2) rfl (by kernel_rfl) (by kernel_rfl) (by kernel_rfl) (fun _ _ _ h => h) (Or.inl ⟨by rfl, ?hy1z2⟩) (by assumption) ?rest1z2
        case hy1z2 => (intro w hSw; (try dsimp only at hSw); go_simp; try (with_reducible rfl))
        simp only [Act.put, List.setIfInBounds_toArray, List.set_cons_zero, List.set_cons_succ]
        refine wpAnyH_take (i := 3) (oi := { dst := some 54, op := Go.Op.makeInterface 44 (Go.Operand.const (Go.Value.int Go.IntKind.i64 70)), type := 28, pos := "law.go:199", after := #[{ on := 1, ground := Go.Ground.guard }], guard := some (1, true) }) (v := ?v1z3) rfl (by kernel_rfl) (by kernel_rfl) (by kernel_rfl) (fun _ _ _ h => h) (Or.inl ⟨by rfl, ?hy1z3⟩) (by assumption) ?rest1z3
        case hy1z3 => (intro w hSw; (try dsimp only at hSw); go_simp; try (with_reducible rfl))
        simp only [Act.put, List.setIfInBounds_toArray, List.set_cons_zero, List.set_cons_succ]
        refine wpAnyH_take (i := 5) (oi := { dst := some 56, op := Go.Op.move (Go.Operand.tmp 7), type := 26, pos := "law.go:199", after := #[{ on := 1, ground := Go.Ground.guard }], guard := some (1, true) }) (v := ?v1z5) rfl (by kernel_rfl) (by kernel_rfl) (by kernel_rfl) (fun _ _ _ h => h) (Or.inl ⟨by rfl, ?hy1z5⟩) (by assumption) ?rest1z5
        case hy1z5 => (intro w hSw; (try dsimp only at hSw); go_simp; try (with_reducible rfl))
        simp only [Act.put, List.setIfInBounds_toArray, List.set_cons_zero, List.set_cons_succ]
        refine wpAnyH_ready (rs := [4]) (by kernel_rfl) (by simp) ?_
        refine AllReadyH.cons (o := { dst := some 55, op := Go.Op.call { callee := Go.Callee.value (Go.Operand.func 22), args := #[Go.Operand.tmp 53, Go.Operand.tmp 54], argTypes := #[28, 28] }, type := 4, pos := "law.go:199", after := #[{ on := 2, ground := Go.Ground.data }, { on := 3, ground := Go.Ground.data }, { on := 1, ground := Go.Ground.chain }, { on := 1, ground := Go.Ground.guard }], guard := some (1, true) }) rfl (fun K hK => ?_) ?_
        ·
          go_simp
          go_at_call 22
          refine (Is_nil 70 _).mono ?_
          rintro e w7 ⟨rfl, hb⟩
          have HB7 := Lib.hid (ext_trans HB6.out hb)
          clear hb
          refine hK.out _ _ ?_ (fun hHeld => ?_)
          · go_keep
          clear hK K
          try simp only [Act.put, List.setIfInBounds_toArray, List.set_cons_zero, List.set_cons_succ]
          refine wpAnyH_ready (rs := [6]) (by kernel_rfl) (by simp) ?_
          refine AllReadyH.cons (o := { dst := some 57, op := Go.Op.call { callee := Go.Callee.value (Go.Operand.func 23), args := #[Go.Operand.tmp 56], argTypes := #[26] }, type := 4, pos := "law.go:199", after := #[{ on := 5, ground := Go.Ground.data }, { on := 4, ground := Go.Ground.chain }, { on := 1, ground := Go.Ground.guard }], guard := some (1, true) }) rfl (fun K hK => ?_) ?_
          ·
            go_simp
            go_at_call 23
            refine (ddown_v _ (HP.out.ext HB7.out)).mono ?_
            rw [HD1.out]
            rintro e w9 ⟨rfl, rfl⟩
            refine hK.out _ _ ?_ (fun hHeld => ?_)
            · go_keep
            clear hK K
            try simp only [Act.put, List.setIfInBounds_toArray, List.set_cons_zero, List.set_cons_succ]
            refine wpAnyH_take (i := 7) (oi := { dst := some 58, op := Go.Op.binOp Go.BinOp.eql 4 (Go.Operand.tmp 55) (Go.Operand.tmp 57) 4, type := 4, pos := "law.go:199", after := #[{ on := 4, ground := Go.Ground.data }, { on := 6, ground := Go.Ground.data }, { on := 1, ground := Go.Ground.guard }], guard := some (1, true) }) (v := ?v1z7) rfl (by kernel_rfl) (by kernel_rfl) (by kernel_rfl) (fun _ _ _ h => h) (Or.inl ⟨by rfl, ?hy1z7⟩) (by assumption) ?rest1z7
            case hy1z7 => (intro w hSw; (try dsimp only at hSw); go_simp; try (with_reducible rfl))
            simp only [Act.put, List.setIfInBounds_toArray, List.set_cons_zero, List.set_cons_succ]
            refine wpAnyH_take (i := 8) (oi := { dst := some 59, op := Go.Op.pick (Go.Operand.tmp 52) (Go.Operand.tmp 58) (Go.Operand.const (Go.Value.bool false)), type := 4, pos := "law.go:199", after := #[{ on := 1, ground := Go.Ground.data }, { on := 7, ground := Go.Ground.data }], guard := none }) (v := ?v1z8) rfl (by kernel_rfl) (by kernel_rfl) (by kernel_rfl) (fun _ _ _ h => h) (Or.inl ⟨by rfl, ?hy1z8⟩) (by assumption) ?rest1z8
            case hy1z8 => (intro w hSw; (try dsimp only at hSw); go_simp; try (with_reducible rfl))
            simp only [Act.put, List.setIfInBounds_toArray, List.set_cons_zero, List.set_cons_succ]
            refine wpAnyH_take (i := 9) (oi := { dst := some 60, op := Go.Op.move (Go.Operand.tmp 59), type := 4, pos := "law.go:199", after := #[{ on := 8, ground := Go.Ground.data }, { on := 6, ground := Go.Ground.chain }], guard := none }) (v := ?v1z9) rfl (by kernel_rfl) (by kernel_rfl) (by kernel_rfl) (fun _ _ _ h => h) (Or.inl ⟨by rfl, ?hy1z9⟩) (by assumption) ?rest1z9
            case hy1z9 => (intro w hSw; (try dsimp only at hSw); go_simp; try (with_reducible rfl))
            simp only [Act.put, List.setIfInBounds_toArray, List.set_cons_zero, List.set_cons_succ]
            refine wpAnyH_take (i := 10) (oi := { dst := some 61, op := Go.Op.move (Go.Operand.tmp 9), type := 31, pos := "law.go:199", after := #[{ on := 9, ground := Go.Ground.guard }], guard := some (9, true) }) (v := ?v1z10) rfl (by kernel_rfl) (by kernel_rfl) (by kernel_rfl) (fun _ _ _ h => h) (Or.inl ⟨by rfl, ?hy1z10⟩) (by assumption) ?rest1z10
            case hy1z10 => (intro w hSw; (try dsimp only at hSw); go_simp; try (with_reducible rfl))
            simp only [Act.put, List.setIfInBounds_toArray, List.set_cons_zero, List.set_cons_succ]
            refine wpAnyH_take (i := 12) (oi := { dst := some 63, op := Go.Op.move (Go.Operand.tmp 7), type := 26, pos := "law.go:199", after := #[{ on := 9, ground := Go.Ground.guard }], guard := some (9, true) }) (v := ?v1z12) rfl (by kernel_rfl) (by kernel_rfl) (by kernel_rfl) (fun _ _ _ h => h) (Or.inl ⟨by rfl, ?hy1z12⟩) (by assumption) ?rest1z12
            case hy1z12 => (intro w hSw; (try dsimp only at hSw); go_simp; try (with_reducible rfl))
            simp only [Act.put, List.setIfInBounds_toArray, List.set_cons_zero, List.set_cons_succ]
            refine wpAnyH_ready (rs := [11]) (by kernel_rfl) (by simp) ?_
            refine AllReadyH.cons (o := { dst := some 62, op := Go.Op.call { callee := Go.Callee.value (Go.Operand.func 24), args := #[Go.Operand.tmp 61], argTypes := #[31] }, type := 4, pos := "law.go:199", after := #[{ on := 10, ground := Go.Ground.data }, { on := 9, ground := Go.Ground.chain }, { on := 9, ground := Go.Ground.guard }], guard := some (9, true) }) rfl (fun K hK => ?_) ?_
            ·
              go_simp
              go_at_call 24
              refine (down_v _ (HP.out.ext HB7.out)).mono ?_
              rw [HD2.out]
              rintro e w8 ⟨rfl, hb⟩
              have HB8 := Lib.hid (ext_trans HB7.out hb)
              clear hb
              refine hK.out _ _ ?_ (fun hHeld => ?_)
              · go_keep
              clear hK K
              try simp only [Act.put, List.setIfInBounds_toArray, List.set_cons_zero, List.set_cons_succ]
              refine wpAnyH_ready (rs := [13]) (by kernel_rfl) (by simp) ?_
              refine AllReadyH.cons (o := { dst := some 64, op := Go.Op.call { callee := Go.Callee.value (Go.Operand.func 23), args := #[Go.Operand.tmp 63], argTypes := #[26] }, type := 4, pos := "law.go:199", after := #[{ on := 12, ground := Go.Ground.data }, { on := 11, ground := Go.Ground.chain }, { on := 9, ground := Go.Ground.guard }], guard := some (9, true) }) rfl (fun K hK => ?_) ?_
              ·
                go_simp
                go_at_call 23
                refine (ddown_v _ (HP.out.ext HB8.out)).mono ?_
                rw [HD1.out]
                rintro e w9 ⟨rfl, rfl⟩
                refine hK.out _ _ ?_ (fun hHeld => ?_)
                · go_keep
                clear hK K
                try simp only [Act.put, List.setIfInBounds_toArray, List.set_cons_zero, List.set_cons_succ]
                refine wpAnyH_take (i := 14) (oi := { dst := some 65, op := Go.Op.binOp Go.BinOp.eql 4 (Go.Operand.tmp 62) (Go.Operand.tmp 64) 4, type := 4, pos := "law.go:199", after := #[{ on := 11, ground := Go.Ground.data }, { on := 13, ground := Go.Ground.data }, { on := 9, ground := Go.Ground.guard }], guard := some (9, true) }) (v := ?v1z14) rfl (by kernel_rfl) (by kernel_rfl) (by kernel_rfl) (fun _ _ _ h => h) (Or.inl ⟨by rfl, ?hy1z14⟩) (by assumption) ?rest1z14
                case hy1z14 => (intro w hSw; (try dsimp only at hSw); go_simp; try (with_reducible rfl))
                simp only [Act.put, List.setIfInBounds_toArray, List.set_cons_zero, List.set_cons_succ]
                refine wpAnyH_take (i := 15) (oi := { dst := some 66, op := Go.Op.pick (Go.Operand.tmp 60) (Go.Operand.tmp 65) (Go.Operand.const (Go.Value.bool false)), type := 4, pos := "law.go:199", after := #[{ on := 9, ground := Go.Ground.data }, { on := 14, ground := Go.Ground.data }], guard := none }) (v := ?v1z15) rfl (by kernel_rfl) (by kernel_rfl) (by kernel_rfl) (fun _ _ _ h => h) (Or.inl ⟨by rfl, ?hy1z15⟩) (by assumption) ?rest1z15
                case hy1z15 => (intro w hSw; (try dsimp only at hSw); go_simp; try (with_reducible rfl))
                simp only [Act.put, List.setIfInBounds_toArray, List.set_cons_zero, List.set_cons_succ]
                refine wpAnyH_take (i := 16) (oi := { dst := some 67, op := Go.Op.move (Go.Operand.tmp 66), type := 4, pos := "law.go:199", after := #[{ on := 15, ground := Go.Ground.data }, { on := 13, ground := Go.Ground.chain }], guard := none }) (v := ?v1z16) rfl (by kernel_rfl) (by kernel_rfl) (by kernel_rfl) (fun _ _ _ h => h) (Or.inl ⟨by rfl, ?hy1z16⟩) (by assumption) ?rest1z16
                case hy1z16 => (intro w hSw; (try dsimp only at hSw); go_simp; try (with_reducible rfl))
                simp only [Act.put, List.setIfInBounds_toArray, List.set_cons_zero, List.set_cons_succ]
                refine wpAnyH_take (i := 17) (oi := { dst := some 68, op := Go.Op.move (Go.Operand.tmp 12), type := 28, pos := "law.go:199", after := #[{ on := 16, ground := Go.Ground.guard }], guard := some (16, true) }) (v := ?v1z17) rfl (by kernel_rfl) (by kernel_rfl) (by kernel_rfl) (fun _ _ _ h => h) (Or.inl ⟨by rfl, ?hy1z17⟩) (by assumption) ?rest1z17
                case hy1z17 => (intro w hSw; (try dsimp only at hSw); go_simp; try (with_reducible rfl))
                simp only [Act.put, List.setIfInBounds_toArray, List.set_cons_zero, List.set_cons_succ]
                refine wpAnyH_take (i := 18) (oi := { dst := some 69, op := Go.Op.binOp Go.BinOp.eql 28 (Go.Operand.tmp 68) (Go.Operand.const Go.Value.nilIface) 28, type := 4, pos := "law.go:199", after := #[{ on := 17, ground := Go.Ground.data }, { on := 16, ground := Go.Ground.guard }], guard := some (16, true) }) (v := ?v1z18) rfl (by kernel_rfl) (by kernel_rfl) (by kernel_rfl) (fun _ _ _ h => h) (Or.inl ⟨by rfl, ?hy1z18⟩) (by assumption) ?rest1z18
                case hy1z18 => (intro w hSw; (try dsimp only at hSw); go_simp; try (with_reducible rfl))
                simp only [Act.put, List.setIfInBounds_toArray, List.set_cons_zero, List.set_cons_succ]
                refine wpAnyH_take (i := 19) (oi := { dst := some 70, op := Go.Op.move (Go.Operand.tmp 7), type := 26, pos := "law.go:199", after := #[{ on := 16, ground := Go.Ground.guard }], guard := some (16, true) }) (v := ?v1z19) rfl (by kernel_rfl) (by kernel_rfl) (by kernel_rfl) (fun _ _ _ h => h) (Or.inl ⟨by rfl, ?hy1z19⟩) (by assumption) ?rest1z19
                case hy1z19 => (intro w hSw; (try dsimp only at hSw); go_simp; try (with_reducible rfl))
                simp only [Act.put, List.setIfInBounds_toArray, List.set_cons_zero, List.set_cons_succ]
                refine wpAnyH_ready (rs := [20]) (by kernel_rfl) (by simp) ?_
                refine AllReadyH.cons (o := { dst := some 71, op := Go.Op.call { callee := Go.Callee.value (Go.Operand.func 23), args := #[Go.Operand.tmp 70], argTypes := #[26] }, type := 4, pos := "law.go:199", after := #[{ on := 19, ground := Go.Ground.data }, { on := 16, ground := Go.Ground.chain }, { on := 16, ground := Go.Ground.guard }], guard := some (16, true) }) rfl (fun K hK => ?_) ?_
                ·
                  go_simp
                  go_at_call 23
                  refine (ddown_v _ (HP.out.ext HB8.out)).mono ?_
                  rw [HD1.out]
                  rintro e w9 ⟨rfl, rfl⟩
                  refine hK.out _ _ ?_ (fun hHeld => ?_)
                  · go_keep
                  clear hK K
                  try simp only [Act.put, List.setIfInBounds_toArray, List.set_cons_zero, List.set_cons_succ]
                  refine wpAnyH_take (i := 21) (oi := { dst := some 72, op := Go.Op.unOp Go.UnOp.not 4 (Go.Operand.tmp 71), type := 4, pos := "law.go:199", after := #[{ on := 20, ground := Go.Ground.data }, { on := 16, ground := Go.Ground.guard }], guard := some (16, true) }) (v := ?v1z21) rfl (by kernel_rfl) (by kernel_rfl) (by kernel_rfl) (fun _ _ _ h => h) (Or.inl ⟨by rfl, ?hy1z21⟩) (by assumption) ?rest1z21
                  case hy1z21 => (intro w hSw; (try dsimp only at hSw); go_simp; try (with_reducible rfl))
                  simp only [Act.put, List.setIfInBounds_toArray, List.set_cons_zero, List.set_cons_succ]
                  refine wpAnyH_take (i := 22) (oi := { dst := some 73, op := Go.Op.binOp Go.BinOp.eql 4 (Go.Operand.tmp 69) (Go.Operand.tmp 72) 4, type := 4, pos := "law.go:199", after := #[{ on := 18, ground := Go.Ground.data }, { on := 21, ground := Go.Ground.data }, { on := 16, ground := Go.Ground.guard }], guard := some (16, true) }) (v := ?v1z22) rfl (by kernel_rfl) (by kernel_rfl) (by kernel_rfl) (fun _ _ _ h => h) (Or.inl ⟨by rfl, ?hy1z22⟩) (by assumption) ?rest1z22
                  case hy1z22 => (intro w hSw; (try dsimp only at hSw); go_simp; try (with_reducible rfl))
                  simp only [Act.put, List.setIfInBounds_toArray, List.set_cons_zero, List.set_cons_succ]
                  refine wpAnyH_take (i := 23) (oi := { dst := some 74, op := Go.Op.pick (Go.Operand.tmp 67) (Go.Operand.tmp 73) (Go.Operand.const (Go.Value.bool false)), type := 4, pos := "law.go:199", after := #[{ on := 16, ground := Go.Ground.data }, { on := 22, ground := Go.Ground.data }], guard := none }) (v := ?v1z23) rfl (by kernel_rfl) (by kernel_rfl) (by kernel_rfl) (fun _ _ _ h => h) (Or.inl ⟨by rfl, ?hy1z23⟩) (by assumption) ?rest1z23
                  case hy1z23 => (intro w hSw; (try dsimp only at hSw); go_simp; try (with_reducible rfl))
                  simp only [Act.put, List.setIfInBounds_toArray, List.set_cons_zero, List.set_cons_succ]
                  refine wpAnyH_take (i := 24) (oi := { dst := some 6, op := Go.Op.assign (Go.Operand.tmp 74), type := 4, pos := "law.go:199", after := #[{ on := 23, ground := Go.Ground.data }, { on := 20, ground := Go.Ground.chain }, { on := 0, ground := Go.Ground.phase }, { on := 1, ground := Go.Ground.phase }, { on := 2, ground := Go.Ground.phase }, { on := 3, ground := Go.Ground.phase }, { on := 4, ground := Go.Ground.phase }, { on := 5, ground := Go.Ground.phase }, { on := 6, ground := Go.Ground.phase }, { on := 7, ground := Go.Ground.phase }, { on := 8, ground := Go.Ground.phase }, { on := 9, ground := Go.Ground.phase }, { on := 10, ground := Go.Ground.phase }, { on := 11, ground := Go.Ground.phase }, { on := 12, ground := Go.Ground.phase }, { on := 13, ground := Go.Ground.phase }, { on := 14, ground := Go.Ground.phase }, { on := 15, ground := Go.Ground.phase }, { on := 16, ground := Go.Ground.phase }, { on := 17, ground := Go.Ground.phase }, { on := 18, ground := Go.Ground.phase }, { on := 19, ground := Go.Ground.phase }, { on := 20, ground := Go.Ground.phase }, { on := 21, ground := Go.Ground.phase }, { on := 22, ground := Go.Ground.phase }, { on := 23, ground := Go.Ground.phase }], guard := none }) (v := ?v1z24) rfl (by kernel_rfl) (by kernel_rfl) (by kernel_rfl) (fun _ _ _ h => h) (Or.inl ⟨by rfl, ?hy1z24⟩) (by assumption) ?rest1z24
                  case hy1z24 => (intro w hSw; (try dsimp only at hSw); go_simp; try (with_reducible rfl))
                  simp only [Act.put, List.setIfInBounds_toArray, List.set_cons_zero, List.set_cons_succ]
                  refine wpAnyH_done (by kernel_rfl) ?_ _
                  go_wp2_with fail
                  all_goals (go_ret; exact ⟨rfl, ext_trans HB1.out (HP.out.ext HB8.out).below⟩)
                exact AllReadyH.nil
              exact AllReadyH.nil
            exact AllReadyH.nil
          exact AllReadyH.nil
        exact AllReadyH.nil
      exact AllReadyH.nil
    · have HZ := Lib.hid hz
      have HD1 := Lib.hid hd1
      have HD2 := Lib.hid hd2
      clear hz hd1 hd2
      go_upto_region 9 with (first
        | (go_at_call 21; (try rw [hmin]); refine (push_mno (· < W1.heap.size) (l.take m) m HL.out A1 c1 _ HA.out HRw.out (fun _ hk => hk) HI.out (by rw [HLf.out]; omega) HZ.out).mono ?_; rintro e w5 ⟨ve, at_, rfl, hE, hV, _⟩; obtain ⟨n7, hn7⟩ := hE.errN; obtain ⟨T7, y7, rfl⟩ := hn7.iface; have HP := Lib.hid hV; have HE := Lib.hid hn7; clear hE hV hn7)
        | (go_at_call 20; (try rw [hk']); refine (arm_v (k : Nat) _ HV.out (by omega)).mono ?_; rintro e w4 ⟨rfl, hV, _⟩; have HA := Lib.hid hV; have HRw := Lib.hid (show RdS w4 (· < W1.heap.size) 2 A1 (l.take m).length ((l.take m).flatMap rwC) from by rw [HL.out, ← take_rows hml]; exact (((RdS.mono (S' := (· < W1.heap.size)) H.out.rows (fun k hk => by have h2 : k < W.heap.size := hk; show k < W1.heap.size; omega)).ext HB1.out).ext hV.below).pre hml); clear hV))
      refine wp_region_held_drew (S := fun _ => True) (by kernel_rfl) ?_ (fun hHeld => ?_)
      · go_keep
      refine wpAnyH_ready (rs := [0]) (by kernel_rfl) (by simp) ?_
      refine AllReadyH.cons (o := { dst := some 51, op := Go.Op.call { callee := Go.Callee.value (Go.Operand.func 12), args := #[], argTypes := #[] }, type := 4, pos := "law.go:199", after := #[], guard := none }) rfl (fun K hK => ?_) ?_
      ·
        go_simp
        go_at_call 12
        refine (told17_c _ (HP.out.ext (below_drewN (Below.refl _ _) 1)).tv (Nat.lt_of_lt_of_le (by omega) (HP.out.ext (below_drewN (Below.refl _ _) 1)).below.size)).mono ?_
        rintro e w6 ⟨rfl, hb⟩
        have HB6 := Lib.hid (ext_trans (below_drewN (Below.refl _ _) 1) hb)
        clear hb
        refine hK.out _ _ ?_ (fun hHeld => ?_)
        · go_keep
        clear hK K
        try simp only [Act.put, List.setIfInBounds_toArray, List.set_cons_zero, List.set_cons_succ]
        refine wpAnyH_take (i := 1) (oi := { dst := some 52, op := Go.Op.move (Go.Operand.tmp 51), type := 4, pos := "law.go:199", after := #[{ on := 0, ground := Go.Ground.data }, { on := 0, ground := Go.Ground.chain }], guard := none }) (v := ?v2z1) rfl (by kernel_rfl) (by kernel_rfl) (by kernel_rfl) (fun _ _ _ h => h) (Or.inl ⟨by rfl, ?hy2z1⟩) (by assumption) ?rest2z1
        case hy2z1 => (intro w hSw; (try dsimp only at hSw); go_simp; try (with_reducible rfl))
        simp only [Act.put, List.setIfInBounds_toArray, List.set_cons_zero, List.set_cons_succ]
        refine wpAnyH_take (i := 2) (oi := { dst := some 53, op := Go.Op.move (Go.Operand.tmp 12), type := 28, pos := "law.go:199", after := #[{ on := 1, ground := Go.Ground.guard }], guard := some (1, true) }) (v := ?v2z2) rfl (by kernel_rfl) (by kernel_rfl) (by kernel_rfl) (fun _ _ _ h => h) (Or.inl ⟨by rfl, ?hy2z2⟩) (by assumption) ?rest2z2
        case hy2z2 => (intro w hSw; (try dsimp only at hSw); go_simp; try (with_reducible rfl))
        simp only [Act.put, List.setIfInBounds_toArray, List.set_cons_zero, List.set_cons_succ]
        refine wpAnyH_take (i := 3) (oi := { dst := some 54, op := Go.Op.makeInterface 44 (Go.Operand.const (Go.Value.int Go.IntKind.i64 70)), type := 28, pos := "law.go:199", after := #[{ on := 1, ground := Go.Ground.guard }], guard := some (1, true) }) (v := ?v2z3) rfl (by kernel_rfl) (by kernel_rfl) (by kernel_rfl) (fun _ _ _ h => h) (Or.inl ⟨by rfl, ?hy2z3⟩) (by assumption) ?rest2z3
        case hy2z3 => (intro w hSw; (try dsimp only at hSw); go_simp; try (with_reducible rfl))
        simp only [Act.put, List.setIfInBounds_toArray, List.set_cons_zero, List.set_cons_succ]
        refine wpAnyH_take (i := 5) (oi := { dst := some 56, op := Go.Op.move (Go.Operand.tmp 7), type := 26, pos := "law.go:199", after := #[{ on := 1, ground := Go.Ground.guard }], guard := some (1, true) }) (v := ?v2z5) rfl (by kernel_rfl) (by kernel_rfl) (by kernel_rfl) (fun _ _ _ h => h) (Or.inl ⟨by rfl, ?hy2z5⟩) (by assumption) ?rest2z5
        case hy2z5 => (intro w hSw; (try dsimp only at hSw); go_simp; try (with_reducible rfl))
        simp only [Act.put, List.setIfInBounds_toArray, List.set_cons_zero, List.set_cons_succ]
        refine wpAnyH_ready (rs := [4]) (by kernel_rfl) (by simp) ?_
        refine AllReadyH.cons (o := { dst := some 55, op := Go.Op.call { callee := Go.Callee.value (Go.Operand.func 22), args := #[Go.Operand.tmp 53, Go.Operand.tmp 54], argTypes := #[28, 28] }, type := 4, pos := "law.go:199", after := #[{ on := 2, ground := Go.Ground.data }, { on := 3, ground := Go.Ground.data }, { on := 1, ground := Go.Ground.chain }, { on := 1, ground := Go.Ground.guard }], guard := some (1, true) }) rfl (fun K hK => ?_) ?_
        ·
          go_simp
          go_at_call 22
          refine (Is_c n7 _ 70 70 _ (ErrN.ext HB6.out HE.out)).mono ?_
          rw [show decide ((70 : Int) = 70) = true from rfl]
          rintro e w7 ⟨rfl, hb⟩
          have HB7 := Lib.hid (ext_trans HB6.out hb)
          clear hb
          refine hK.out _ _ ?_ (fun hHeld => ?_)
          · go_keep
          clear hK K
          try simp only [Act.put, List.setIfInBounds_toArray, List.set_cons_zero, List.set_cons_succ]
          refine wpAnyH_ready (rs := [6]) (by kernel_rfl) (by simp) ?_
          refine AllReadyH.cons (o := { dst := some 57, op := Go.Op.call { callee := Go.Callee.value (Go.Operand.func 23), args := #[Go.Operand.tmp 56], argTypes := #[26] }, type := 4, pos := "law.go:199", after := #[{ on := 5, ground := Go.Ground.data }, { on := 4, ground := Go.Ground.chain }, { on := 1, ground := Go.Ground.guard }], guard := some (1, true) }) rfl (fun K hK => ?_) ?_
          ·
            go_simp
            go_at_call 23
            refine (ddown_v _ (HP.out.ext HB7.out)).mono ?_
            rw [HD1.out]
            rintro e w9 ⟨rfl, rfl⟩
            refine hK.out _ _ ?_ (fun hHeld => ?_)
            · go_keep
            clear hK K
            try simp only [Act.put, List.setIfInBounds_toArray, List.set_cons_zero, List.set_cons_succ]
            refine wpAnyH_take (i := 7) (oi := { dst := some 58, op := Go.Op.binOp Go.BinOp.eql 4 (Go.Operand.tmp 55) (Go.Operand.tmp 57) 4, type := 4, pos := "law.go:199", after := #[{ on := 4, ground := Go.Ground.data }, { on := 6, ground := Go.Ground.data }, { on := 1, ground := Go.Ground.guard }], guard := some (1, true) }) (v := ?v2z7) rfl (by kernel_rfl) (by kernel_rfl) (by kernel_rfl) (fun _ _ _ h => h) (Or.inl ⟨by rfl, ?hy2z7⟩) (by assumption) ?rest2z7
            case hy2z7 => (intro w hSw; (try dsimp only at hSw); go_simp; try (with_reducible rfl))
            simp only [Act.put, List.setIfInBounds_toArray, List.set_cons_zero, List.set_cons_succ]
            refine wpAnyH_take (i := 8) (oi := { dst := some 59, op := Go.Op.pick (Go.Operand.tmp 52) (Go.Operand.tmp 58) (Go.Operand.const (Go.Value.bool false)), type := 4, pos := "law.go:199", after := #[{ on := 1, ground := Go.Ground.data }, { on := 7, ground := Go.Ground.data }], guard := none }) (v := ?v2z8) rfl (by kernel_rfl) (by kernel_rfl) (by kernel_rfl) (fun _ _ _ h => h) (Or.inl ⟨by rfl, ?hy2z8⟩) (by assumption) ?rest2z8
            case hy2z8 => (intro w hSw; (try dsimp only at hSw); go_simp; try (with_reducible rfl))
            simp only [Act.put, List.setIfInBounds_toArray, List.set_cons_zero, List.set_cons_succ]
            refine wpAnyH_take (i := 9) (oi := { dst := some 60, op := Go.Op.move (Go.Operand.tmp 59), type := 4, pos := "law.go:199", after := #[{ on := 8, ground := Go.Ground.data }, { on := 6, ground := Go.Ground.chain }], guard := none }) (v := ?v2z9) rfl (by kernel_rfl) (by kernel_rfl) (by kernel_rfl) (fun _ _ _ h => h) (Or.inl ⟨by rfl, ?hy2z9⟩) (by assumption) ?rest2z9
            case hy2z9 => (intro w hSw; (try dsimp only at hSw); go_simp; try (with_reducible rfl))
            simp only [Act.put, List.setIfInBounds_toArray, List.set_cons_zero, List.set_cons_succ]
            refine wpAnyH_take (i := 10) (oi := { dst := some 61, op := Go.Op.move (Go.Operand.tmp 9), type := 31, pos := "law.go:199", after := #[{ on := 9, ground := Go.Ground.guard }], guard := some (9, true) }) (v := ?v2z10) rfl (by kernel_rfl) (by kernel_rfl) (by kernel_rfl) (fun _ _ _ h => h) (Or.inl ⟨by rfl, ?hy2z10⟩) (by assumption) ?rest2z10
            case hy2z10 => (intro w hSw; (try dsimp only at hSw); go_simp; try (with_reducible rfl))
            simp only [Act.put, List.setIfInBounds_toArray, List.set_cons_zero, List.set_cons_succ]
            refine wpAnyH_take (i := 12) (oi := { dst := some 63, op := Go.Op.move (Go.Operand.tmp 7), type := 26, pos := "law.go:199", after := #[{ on := 9, ground := Go.Ground.guard }], guard := some (9, true) }) (v := ?v2z12) rfl (by kernel_rfl) (by kernel_rfl) (by kernel_rfl) (fun _ _ _ h => h) (Or.inl ⟨by rfl, ?hy2z12⟩) (by assumption) ?rest2z12
            case hy2z12 => (intro w hSw; (try dsimp only at hSw); go_simp; try (with_reducible rfl))
            simp only [Act.put, List.setIfInBounds_toArray, List.set_cons_zero, List.set_cons_succ]
            refine wpAnyH_ready (rs := [11]) (by kernel_rfl) (by simp) ?_
            refine AllReadyH.cons (o := { dst := some 62, op := Go.Op.call { callee := Go.Callee.value (Go.Operand.func 24), args := #[Go.Operand.tmp 61], argTypes := #[31] }, type := 4, pos := "law.go:199", after := #[{ on := 10, ground := Go.Ground.data }, { on := 9, ground := Go.Ground.chain }, { on := 9, ground := Go.Ground.guard }], guard := some (9, true) }) rfl (fun K hK => ?_) ?_
            ·
              go_simp
              go_at_call 24
              refine (down_v _ (HP.out.ext HB7.out)).mono ?_
              rw [HD2.out]
              rintro e w8 ⟨rfl, hb⟩
              have HB8 := Lib.hid (ext_trans HB7.out hb)
              clear hb
              refine hK.out _ _ ?_ (fun hHeld => ?_)
              · go_keep
              clear hK K
              try simp only [Act.put, List.setIfInBounds_toArray, List.set_cons_zero, List.set_cons_succ]
              refine wpAnyH_ready (rs := [13]) (by kernel_rfl) (by simp) ?_
              refine AllReadyH.cons (o := { dst := some 64, op := Go.Op.call { callee := Go.Callee.value (Go.Operand.func 23), args := #[Go.Operand.tmp 63], argTypes := #[26] }, type := 4, pos := "law.go:199", after := #[{ on := 12, ground := Go.Ground.data }, { on := 11, ground := Go.Ground.chain }, { on := 9, ground := Go.Ground.guard }], guard := some (9, true) }) rfl (fun K hK => ?_) ?_
              ·
                go_simp
                go_at_call 23
                refine (ddown_v _ (HP.out.ext HB8.out)).mono ?_
                rw [HD1.out]
                rintro e w9 ⟨rfl, rfl⟩
                refine hK.out _ _ ?_ (fun hHeld => ?_)
                · go_keep
                clear hK K
                try simp only [Act.put, List.setIfInBounds_toArray, List.set_cons_zero, List.set_cons_succ]
                refine wpAnyH_take (i := 14) (oi := { dst := some 65, op := Go.Op.binOp Go.BinOp.eql 4 (Go.Operand.tmp 62) (Go.Operand.tmp 64) 4, type := 4, pos := "law.go:199", after := #[{ on := 11, ground := Go.Ground.data }, { on := 13, ground := Go.Ground.data }, { on := 9, ground := Go.Ground.guard }], guard := some (9, true) }) (v := ?v2z14) rfl (by kernel_rfl) (by kernel_rfl) (by kernel_rfl) (fun _ _ _ h => h) (Or.inl ⟨by rfl, ?hy2z14⟩) (by assumption) ?rest2z14
                case hy2z14 => (intro w hSw; (try dsimp only at hSw); go_simp; try (with_reducible rfl))
                simp only [Act.put, List.setIfInBounds_toArray, List.set_cons_zero, List.set_cons_succ]
                refine wpAnyH_take (i := 15) (oi := { dst := some 66, op := Go.Op.pick (Go.Operand.tmp 60) (Go.Operand.tmp 65) (Go.Operand.const (Go.Value.bool false)), type := 4, pos := "law.go:199", after := #[{ on := 9, ground := Go.Ground.data }, { on := 14, ground := Go.Ground.data }], guard := none }) (v := ?v2z15) rfl (by kernel_rfl) (by kernel_rfl) (by kernel_rfl) (fun _ _ _ h => h) (Or.inl ⟨by rfl, ?hy2z15⟩) (by assumption) ?rest2z15
                case hy2z15 => (intro w hSw; (try dsimp only at hSw); go_simp; try (with_reducible rfl))
                simp only [Act.put, List.setIfInBounds_toArray, List.set_cons_zero, List.set_cons_succ]
                refine wpAnyH_take (i := 16) (oi := { dst := some 67, op := Go.Op.move (Go.Operand.tmp 66), type := 4, pos := "law.go:199", after := #[{ on := 15, ground := Go.Ground.data }, { on := 13, ground := Go.Ground.chain }], guard := none }) (v := ?v2z16) rfl (by kernel_rfl) (by kernel_rfl) (by kernel_rfl) (fun _ _ _ h => h) (Or.inl ⟨by rfl, ?hy2z16⟩) (by assumption) ?rest2z16
                case hy2z16 => (intro w hSw; (try dsimp only at hSw); go_simp; try (with_reducible rfl))
                simp only [Act.put, List.setIfInBounds_toArray, List.set_cons_zero, List.set_cons_succ]
                refine wpAnyH_take (i := 17) (oi := { dst := some 68, op := Go.Op.move (Go.Operand.tmp 12), type := 28, pos := "law.go:199", after := #[{ on := 16, ground := Go.Ground.guard }], guard := some (16, true) }) (v := ?v2z17) rfl (by kernel_rfl) (by kernel_rfl) (by kernel_rfl) (fun _ _ _ h => h) (Or.inl ⟨by rfl, ?hy2z17⟩) (by assumption) ?rest2z17
                case hy2z17 => (intro w hSw; (try dsimp only at hSw); go_simp; try (with_reducible rfl))
                simp only [Act.put, List.setIfInBounds_toArray, List.set_cons_zero, List.set_cons_succ]
                refine wpAnyH_take (i := 18) (oi := { dst := some 69, op := Go.Op.binOp Go.BinOp.eql 28 (Go.Operand.tmp 68) (Go.Operand.const Go.Value.nilIface) 28, type := 4, pos := "law.go:199", after := #[{ on := 17, ground := Go.Ground.data }, { on := 16, ground := Go.Ground.guard }], guard := some (16, true) }) (v := ?v2z18) rfl (by kernel_rfl) (by kernel_rfl) (by kernel_rfl) (fun _ _ _ h => h) (Or.inl ⟨by rfl, ?hy2z18⟩) (by assumption) ?rest2z18
                case hy2z18 => (intro w hSw; (try dsimp only at hSw); go_simp; try (with_reducible rfl))
                simp only [Act.put, List.setIfInBounds_toArray, List.set_cons_zero, List.set_cons_succ]
                refine wpAnyH_take (i := 19) (oi := { dst := some 70, op := Go.Op.move (Go.Operand.tmp 7), type := 26, pos := "law.go:199", after := #[{ on := 16, ground := Go.Ground.guard }], guard := some (16, true) }) (v := ?v2z19) rfl (by kernel_rfl) (by kernel_rfl) (by kernel_rfl) (fun _ _ _ h => h) (Or.inl ⟨by rfl, ?hy2z19⟩) (by assumption) ?rest2z19
                case hy2z19 => (intro w hSw; (try dsimp only at hSw); go_simp; try (with_reducible rfl))
                simp only [Act.put, List.setIfInBounds_toArray, List.set_cons_zero, List.set_cons_succ]
                refine wpAnyH_ready (rs := [20]) (by kernel_rfl) (by simp) ?_
                refine AllReadyH.cons (o := { dst := some 71, op := Go.Op.call { callee := Go.Callee.value (Go.Operand.func 23), args := #[Go.Operand.tmp 70], argTypes := #[26] }, type := 4, pos := "law.go:199", after := #[{ on := 19, ground := Go.Ground.data }, { on := 16, ground := Go.Ground.chain }, { on := 16, ground := Go.Ground.guard }], guard := some (16, true) }) rfl (fun K hK => ?_) ?_
                ·
                  go_simp
                  go_at_call 23
                  refine (ddown_v _ (HP.out.ext HB8.out)).mono ?_
                  rw [HD1.out]
                  rintro e w9 ⟨rfl, rfl⟩
                  refine hK.out _ _ ?_ (fun hHeld => ?_)
                  · go_keep
                  clear hK K
                  try simp only [Act.put, List.setIfInBounds_toArray, List.set_cons_zero, List.set_cons_succ]
                  refine wpAnyH_take (i := 21) (oi := { dst := some 72, op := Go.Op.unOp Go.UnOp.not 4 (Go.Operand.tmp 71), type := 4, pos := "law.go:199", after := #[{ on := 20, ground := Go.Ground.data }, { on := 16, ground := Go.Ground.guard }], guard := some (16, true) }) (v := ?v2z21) rfl (by kernel_rfl) (by kernel_rfl) (by kernel_rfl) (fun _ _ _ h => h) (Or.inl ⟨by rfl, ?hy2z21⟩) (by assumption) ?rest2z21
                  case hy2z21 => (intro w hSw; (try dsimp only at hSw); go_simp; try (with_reducible rfl))
                  simp only [Act.put, List.setIfInBounds_toArray, List.set_cons_zero, List.set_cons_succ]
                  refine wpAnyH_take (i := 22) (oi := { dst := some 73, op := Go.Op.binOp Go.BinOp.eql 4 (Go.Operand.tmp 69) (Go.Operand.tmp 72) 4, type := 4, pos := "law.go:199", after := #[{ on := 18, ground := Go.Ground.data }, { on := 21, ground := Go.Ground.data }, { on := 16, ground := Go.Ground.guard }], guard := some (16, true) }) (v := ?v2z22) rfl (by kernel_rfl) (by kernel_rfl) (by kernel_rfl) (fun _ _ _ h => h) (Or.inl ⟨by rfl, ?hy2z22⟩) (by assumption) ?rest2z22
                  case hy2z22 => (intro w hSw; (try dsimp only at hSw); go_simp; try (with_reducible rfl))
                  simp only [Act.put, List.setIfInBounds_toArray, List.set_cons_zero, List.set_cons_succ]
                  refine wpAnyH_take (i := 23) (oi := { dst := some 74, op := Go.Op.pick (Go.Operand.tmp 67) (Go.Operand.tmp 73) (Go.Operand.const (Go.Value.bool false)), type := 4, pos := "law.go:199", after := #[{ on := 16, ground := Go.Ground.data }, { on := 22, ground := Go.Ground.data }], guard := none }) (v := ?v2z23) rfl (by kernel_rfl) (by kernel_rfl) (by kernel_rfl) (fun _ _ _ h => h) (Or.inl ⟨by rfl, ?hy2z23⟩) (by assumption) ?rest2z23
                  case hy2z23 => (intro w hSw; (try dsimp only at hSw); go_simp; try (with_reducible rfl))
                  simp only [Act.put, List.setIfInBounds_toArray, List.set_cons_zero, List.set_cons_succ]
                  refine wpAnyH_take (i := 24) (oi := { dst := some 6, op := Go.Op.assign (Go.Operand.tmp 74), type := 4, pos := "law.go:199", after := #[{ on := 23, ground := Go.Ground.data }, { on := 20, ground := Go.Ground.chain }, { on := 0, ground := Go.Ground.phase }, { on := 1, ground := Go.Ground.phase }, { on := 2, ground := Go.Ground.phase }, { on := 3, ground := Go.Ground.phase }, { on := 4, ground := Go.Ground.phase }, { on := 5, ground := Go.Ground.phase }, { on := 6, ground := Go.Ground.phase }, { on := 7, ground := Go.Ground.phase }, { on := 8, ground := Go.Ground.phase }, { on := 9, ground := Go.Ground.phase }, { on := 10, ground := Go.Ground.phase }, { on := 11, ground := Go.Ground.phase }, { on := 12, ground := Go.Ground.phase }, { on := 13, ground := Go.Ground.phase }, { on := 14, ground := Go.Ground.phase }, { on := 15, ground := Go.Ground.phase }, { on := 16, ground := Go.Ground.phase }, { on := 17, ground := Go.Ground.phase }, { on := 18, ground := Go.Ground.phase }, { on := 19, ground := Go.Ground.phase }, { on := 20, ground := Go.Ground.phase }, { on := 21, ground := Go.Ground.phase }, { on := 22, ground := Go.Ground.phase }, { on := 23, ground := Go.Ground.phase }], guard := none }) (v := ?v2z24) rfl (by kernel_rfl) (by kernel_rfl) (by kernel_rfl) (fun _ _ _ h => h) (Or.inl ⟨by rfl, ?hy2z24⟩) (by assumption) ?rest2z24
                  case hy2z24 => (intro w hSw; (try dsimp only at hSw); go_simp; try (with_reducible rfl))
                  simp only [Act.put, List.setIfInBounds_toArray, List.set_cons_zero, List.set_cons_succ]
                  refine wpAnyH_done (by kernel_rfl) ?_ _
                  go_wp2_with fail
                  all_goals (go_ret; exact ⟨rfl, ext_trans HB1.out (HP.out.ext HB8.out).below⟩)
                exact AllReadyH.nil
              exact AllReadyH.nil
            exact AllReadyH.nil
          exact AllReadyH.nil
        exact AllReadyH.nil
      exact AllReadyH.nil
end
end Go.Proofs.YtolajmfmphkkiaaGreatDoor

/- A driver that was opened behind a world: its calls, whatever they meet. -/
namespace Go.Proofs.YtolajmfmphkkiaaGreatDoor
open Go.RowKit Go.Sort

section
variable {B : Nat} {X : DrvX} {p : PlanD} {A : Option Addr} {c : Nat} {v : DrvD} {d : DiskD} {w : World}
set_option maxRecDepth 100000 in
set_option maxHeartbeats 4000000 in
theorem vDown_q (w : World) (h : DrvAt B X p A c v d w) : Calls Tryz.prog 24 #[.pointer (some ⟨X.vb, 0, none⟩)] w (fun e w' => e = .returned (.bool (v.down d)) ∧ ∃ q, w' = w.drewN q) := by
  have z1 : w.cell? ⟨X.vb, 1, none⟩ = some (.pointer (some ⟨X.db, 0, none⟩)) := (h.bk.cell 1).trans rfl
  have z2 : w.cell? ⟨X.vb, 2, none⟩ = some (.int .i64 (v.life : Nat)) := (h.bk.cell 2).trans rfl
  have z3 : w.cell? ⟨X.vb, 3, none⟩ = some (.bool v.gone) := (h.bk.cell 3).trans rfl
  have hl := h.bk.lt
  have HD := Lib.hid h.pre.disk
  clear h
  obtain ⟨db, hdb⟩ : ∃ db, db = X.db := ⟨_, rfl⟩
  rw [← hdb] at z1 HD
  clear hdb
  cases hg : v.gone with
  | true =>
    rw [hg] at z3
    have HV := Lib.hid (show v.down d = true from by unfold DrvD.down; rw [hg]; rfl)
    clear hg
    go_enter Tryz.func24, Tryz.ntmps24
    go_wp2_with fail
    go_quiet (fail)
    go_wp2_with fail
    go_ret
    rw [HV.out]
    exact ⟨rfl, _, rfl⟩
  | false =>
    rw [hg] at z3
    cases hd : d.down with
    | true =>
      have HV := Lib.hid (show v.down d = true from by unfold DrvD.down goneD; rw [hg, hd]; rfl)
      have HC := Lib.hid (fun W h => dDown_c (B := X.bd) (db := db) (R := X.Rd) (d := d) W h)
      rw [hd] at HC
      clear hg hd
      go_enter Tryz.func24, Tryz.ntmps24
      go_wp2_with fail
      go_quiet ((go_at_call 23; exact quiet_val (HC.out _ (HD.out.drewN _))))
      go_wp2_with fail
      go_ret
      rw [HV.out]
      exact ⟨rfl, _, rfl⟩
    | false =>
      have HC := Lib.hid (fun W h => dDown_c (B := X.bd) (db := db) (R := X.Rd) (d := d) W h)
      rw [hd] at HC
      have HL := Lib.hid (fun W h => dLife_c (B := X.bd) (db := db) (R := X.Rd) (d := d) W h)
      obtain ⟨u, hu⟩ : ∃ u, u = ((d.life : Int) != (v.life : Int)) := ⟨_, rfl⟩
      have HV := Lib.hid (show v.down d = u from by
        unfold DrvD.down goneD
        rw [hg, hd, hu, Bool.eq_iff_iff]
        simp only [Bool.false_or, decide_eq_true_eq, ne_eq, bne_iff_ne]
        omega)
      clear hg hd
      go_enter Tryz.func24, Tryz.ntmps24
      go_wp2_with fail
      go_quiet (first | (go_at_call 23; exact quiet_val (HC.out _ (HD.out.drewN _))) | (go_at_call 55; exact quiet_val (HL.out _ (HD.out.drewN _))))
      go_wp2_with fail
      go_ret
      rw [HV.out, hu]
      exact ⟨rfl, _, rfl⟩
end
section
variable {B vb db e b i : Nat} {p : PlanD} {A : Option Addr} {c : Nat} {v : DrvD} {d : DiskD} {K : Nat → Prop} {w0 : World}
theorem VIs.room {w : World} (h : VIs B vb db p A c v d K w0 w) : d.room ≤ 65536 := by
  obtain ⟨X, h1, h2, h3, h4, h5, h6⟩ := h
  exact h1.pre.disk.room_le.2.1
theorem down_q (w : World) (h : VIs B vb db p A c v d K w0 w) : Calls Tryz.prog 24 #[.pointer (some ⟨vb, 0, none⟩)] w (fun e w' => e = .returned (.bool (v.down d)) ∧ ∃ q, w' = w.drewN q) := by
  obtain ⟨X, h1, h2, h3, h4, h5, h6⟩ := h
  rw [← h2]
  exact vDown_q w h1
/-- What a call leaves, whatever it met. -/
def KGo (B vb db : Nat) (p : PlanD) (A : Option Addr) (c : Nat) (K : Nat → Prop) (w0 : World) (e b i mk : Nat) (w' : World) : Prop := ∃ v' d', VIs B vb db p A c v' d' K w0 w' ∧ KSt e b i v' d' ∧ mk ≤ v'.x.marked
theorem push_k (S : Nat → Prop) (l : List Rw) (nl : Nat) (hnl : l.length = nl) (A0 : Option Addr) (c0 : Nat) (w : World) (h : VIs B vb db p A c v d K w0 w) (hS : KSt e b i v d) (hi : i ≤ 1000) (hr : RdS w S 2 A0 l.length (l.flatMap rwC)) (hSs : ∀ k, S k → k < w0.heap.size) (h64 : ∀ r ∈ l, I64 r.k ∧ I64 r.v) :
    Calls Tryz.prog 21 #[.pointer (some ⟨vb, 0, none⟩), .slice A0 nl c0] w (fun e' w' => (∃ r, e' = .returned r) ∧ KGo B vb db p A c K w0 e b (i + 1) v.x.marked w') := by
  subst hnl
  have hok := h.ok
  have hroom := h.room
  obtain ⟨k1, k2⟩ := push_keep hS hok hroom h64
  obtain ⟨X, h1, h2, h3, h4, h5, h6⟩ := h
  rw [← h2]
  refine (vPush_c S l A0 c0 w h1 hr (fun k hk => ⟨fun hd => ?_, fun e => ?_⟩) h64 (by have := hS.life; omega)).mono ?_
  · have := hSs k hk; have := h4 k (.inr (.inr (.inr (.inl hd)))); omega
  · have := hSs k hk; have := h4 k (.inr (.inr (.inr (.inr e)))); omega
  rintro e' w' ⟨r1, r2, r3⟩
  refine ⟨?_, _, _, (VIs.turn rfl h3 h4 h5 h6 r3).1, k1, by rw [k2]; exact Nat.le_refl _⟩
  cases hz : (pushD v d l).1 with
  | none => exact ⟨_, r1 hz⟩
  | some code =>
    obtain ⟨ve, a, he, _⟩ := r2 code hz
    exact ⟨_, he⟩
theorem cut_k1 (w : World) (h : VIs B vb db p A c v d K w0 w) (hS : KSt e b i v d) (hi : i ≤ 1000) (hz : (cutD v d).1 = none) :
    b + 1 ≤ v.x.marked + 2 * e ∧ Calls Tryz.prog 14 #[.pointer (some ⟨vb, 0, none⟩)] w (fun e' w' => e' = .returned (.tuple #[.int .i64 ((b + 1 : Nat) : Int), .nilIface]) ∧ KGo B vb db p A c K w0 e (b + 1) (i + 1) v.x.marked w') := by
  have hok := h.ok
  have hroom := h.room
  obtain ⟨m1, m2, m3⟩ := (cut_keep hS hok hroom).1 hz
  refine ⟨m1, ?_⟩
  obtain ⟨X, h1, h2, h3, h4, h5, h6⟩ := h
  rw [← h2]
  refine (vCut_c w h1 (by have := hS.life; omega)).mono ?_
  rintro e' w' ⟨r1, r2, r3⟩
  refine ⟨?_, _, _, (VIs.turn rfl h3 h4 h5 h6 r3).1, m2, by rw [m3]; exact Nat.le_refl _⟩
  rw [r1 hz, hS.nc]
theorem cut_k2 {code : Int} (w : World) (h : VIs B vb db p A c v d K w0 w) (hS : KSt e b i v d) (hi : i ≤ 1000) (hz : (cutD v d).1 = some code) :
    (code = 90 → ¬ b + 1 ≤ v.x.marked + 2 * e) ∧ Calls Tryz.prog 14 #[.pointer (some ⟨vb, 0, none⟩)] w (fun e' w' => ∃ T y n, e' = .returned (.tuple #[.int .i64 0, .iface T y]) ∧ ErrN w' n (.iface T y) code ∧ TypeVar w' ∧ KGo B vb db p A c K w0 e b (i + 1) v.x.marked w') := by
  have hok := h.ok
  have hroom := h.room
  obtain ⟨m1, m2, m3⟩ := (cut_keep hS hok hroom).2 code hz
  refine ⟨m3, ?_⟩
  obtain ⟨X, h1, h2, h3, h4, h5, h6⟩ := h
  rw [← h2]
  refine (vCut_c w h1 (by have := hS.life; omega)).mono ?_
  rintro e' w' ⟨r1, r2, r3⟩
  have hV := (VIs.turn rfl h3 h4 h5 h6 r3).1
  obtain ⟨ve, a, he, hE, _⟩ := r2 code hz
  obtain ⟨n7, hn7⟩ := hE.errN
  obtain ⟨T7, y7, rfl⟩ := hn7.iface
  exact ⟨T7, y7, n7, he, hn7, hV.tv, _, _, hV, m1, by rw [m2]; exact Nat.le_refl _⟩
theorem KGo.ext {mk : Nat} {w w' : World} (h : KGo B vb db p A c K w0 e b i mk w) (hb : Below w.heap.size w w') : KGo B vb db p A c K w0 e b i mk w' := by
  obtain ⟨v', d', h1, h2, h3⟩ := h
  exact ⟨v', d', h1.ext hb, h2, h3⟩
theorem hear_z {z : Option Int × DrvD × DiskD} {mk : Nat} {m : MsgD} (w : World) (h : VIs B vb db p A c v d K w0 w) (hk : KSt e b (i + 1) z.2.1 z.2.2 ∧ mk ≤ z.2.1.x.marked) (hc : ∀ X, DrvAt B X p A c v d w → Calls Tryz.prog 16 #[.pointer (some ⟨X.vb, 0, none⟩), .agg m.cs] w (HPost B X p A c z w)) :
    Calls Tryz.prog 16 #[.pointer (some ⟨vb, 0, none⟩), .agg m.cs] w (fun e' w' => (∃ r, e' = .returned r) ∧ KGo B vb db p A c K w0 e b (i + 1) mk w') := by
  obtain ⟨X, h1, h2, h3, h4, h5, h6⟩ := h
  rw [← h2]
  refine (hc X h1).mono ?_
  intro e' w' hp
  obtain ⟨r1, r2, r3, _⟩ := HPost.go rfl h3 h4 h5 h6 hp
  refine ⟨?_, _, _, r3, hk⟩
  cases hz : z.1 with
  | none => exact ⟨_, r1 hz⟩
  | some code =>
    obtain ⟨ve, a, he, _⟩ := r2 code hz
    exact ⟨_, he⟩
theorem hear_k (m : MsgD) (w : World) (h : VIs B vb db p A c v d K w0 w) (he : 1 ≤ e) (hS : KSt e b i v d) (hi : i ≤ 1000) (hn : m.n ≤ 9223372036854775807) :
    Calls Tryz.prog 16 #[.pointer (some ⟨vb, 0, none⟩), .agg m.cs] w (fun e' w' => (∃ r, e' = .returned r) ∧ KGo B vb db p A c K w0 e b (i + 1) v.x.marked w') := by
  have hok := h.ok
  have hroom := h.room
  have hlf : d.life + 2 ≤ 1000000 := by have := hS.life; omega
  by_cases h2 : m.kind = 2
  · exact hear_z w h (hear_keep (p := p) (v1 := v.tolds p m.id m.worker) he hS hok hroom ⟨rfl, rfl, rfl, told_every _ _ _ _, by show v.s.known ≤ (v.s.told p m.id m.worker).known; rw [told_known]; exact Int.le_refl _⟩) (fun X h1 => hear_told m w h1 h2 hlf)
  by_cases h3 : m.kind = 3
  · exact hear_z w h (hear_keep (p := p) (v1 := v.losts m.lost m.lw) he hS hok hroom ⟨rfl, rfl, rfl, rfl, Int.le_refl _⟩) (fun X h1 => hear_lost m w h1 h3 hlf)
  by_cases h5 : m.kind = 5
  · exact hear_z w h (hear_keep (p := p) (v1 := v.known m.n) he hS hok hroom ⟨rfl, rfl, rfl, rfl, by show v.s.known ≤ max v.s.known m.n; omega⟩) (fun X h1 => hear_known m w h1 h5 hlf hn)
  by_cases h8 : m.kind = 8
  · exact hear_z w h (hear_keep (p := p) (v1 := v.saves p m.id) he hS hok hroom ⟨rfl, rfl, rfl, save_every _ _ _, by show v.s.known ≤ (v.s.save p m.id).known; rw [save_known]; exact Int.le_refl _⟩) (fun X h1 => hear_saved m w h1 h8 hlf)
  · refine hear_z w h (z := if v.down d then (some 70, v, d) else (some 1, v, d)) ?_ (fun X h1 => hear_bad m w h1 ⟨h2, h3, h5, h8⟩)
    split <;> exact ⟨hS.upto (by omega), Nat.le_refl _⟩
theorem arm_k (n : Int) (w : World) (h : VIs B vb db p A c v d K w0 w) (hS : KSt e b i v d) (hn : n ≤ 9223372036854775807) : Calls Tryz.prog 20 #[.pointer (some ⟨db, 0, none⟩), .int .i64 n] w (fun e' w' => (∃ r, e' = .returned r) ∧ KGo B vb db p A c K w0 e b (i + 1) v.x.marked w') :=
  (arm_v n w h hn).mono fun e' w' hp => ⟨⟨_, hp.1⟩, v, d.arm n, hp.2.1, ⟨hS.ev, hS.nc, hS.mod, hS.lag, hS.kn, by have := (arm_same d n).2.2; have := hS.life; omega⟩, Nat.le_refl _⟩
theorem dcut_k (w : World) (h : VIs B vb db p A c v d K w0 w) (hS : KSt e b i v d) (hi : i ≤ 1000) : Calls Tryz.prog 27 #[.pointer (some ⟨db, 0, none⟩)] w (fun e' w' => (∃ r, e' = .returned r) ∧ KGo B vb db p A c K w0 e b (i + 1) v.x.marked w') :=
  (dcut_v w h (by have := hS.life; omega)).mono fun e' w' hp => ⟨⟨_, hp.1⟩, v, d.cut, hp.2.1, ⟨hS.ev, hS.nc, hS.mod, hS.lag, hS.kn, by have := (cut_same d).2.2; have := hS.life; omega⟩, Nat.le_refl _⟩
/-- Behind a restart, opened anew. -/
theorem KSt.reopen (hS : KSt e b i v d) : KSt e b i ⟨⟨((e : Nat) : Int).toNat, (v.x.marked : Nat), [], []⟩, v.x, v.n, v.next, d.restart.life, false⟩ d.restart := ⟨rfl, hS.nc, hS.mod, hS.lag, Int.le_refl _, hS.life⟩
end
end Go.Proofs.YtolajmfmphkkiaaGreatDoor

/- append of a slice that came in, of any length that the reach admits. -/
namespace Go.Proofs.YtolajmfmphkkiaaGreatDoor
open Go.RowKit Go.Sort

section
variable {α : Type} {enc : α → List Value} {te e : TypeId} {z bytes : Nat} {zero : Value}
theorem wp_appNB (C : AppC enc te e z bytes zero) (hb0 : 0 < bytes) {o : Oper} {a : Act} {K : Act → World → Prop} {Q : Exit → Act → World → Prop} (W : World) (s x : Operand)
    (ho : o.op = .call { callee := .builtin .append, args := #[s, x], argTypes := #[te, te] }) (base : Nat) (v : Value) (l : List α) (hs : a.eval s = v)
    (hown : W.ownsRow base e z v l.length (l.flatMap enc)) (y : List α) (ad : Addr) (m c : Nat) (hx : a.eval x = .slice (some ad) m c) (hm : m = y.length) (hn : ∀ j u, (y.flatMap enc)[j]? = some u → W.cell? (ad.add j) = some u)
    (hbb : (l.length + m) * bytes ≤ 140737488355328) (hbase : base ≤ W.heap.size)
    (h : ∀ A c w', w'.ownsRow base e z (.slice A (l ++ y).length c) (l ++ y).length ((l ++ y).flatMap enc) → W.grownBy w' v.ownBlock → (l ++ y).length ≤ c → K (a.put o.dst (.slice A (l ++ y).length c)) w') :
    o.wp Tryz.prog a W K Q := by
  obtain ⟨i0, hi0, hz0, hz1, hz2⟩ := info_parts C.info
  have hle : l.length + m ≤ (l.length + m) * bytes := Nat.le_mul_of_pos_right _ hb0
  obtain ⟨v', w', hr, h1, h2, _, _⟩ := run_append_own_at (P := Tryz.prog) W base te o.type e i0 _ z bytes C.te hi0 hz0 hz1 hz2 C.zz C.z0 v l.length (l.flatMap enc) hown ad m c (y.flatMap enc) (by rw [flat_len C, hm])
    hn (by intro u hu; rw [List.mem_flatMap] at hu; obtain ⟨q, _, hq⟩ := hu; exact C.one q u hq) (by simp only [maxLen]; omega) hbb hbase
  unfold Oper.wp execOp
  simp only [ho, resolve, invoke, builtin, Sem.run_bind, Sem.run_pure, Result.andThen_ok, List.map_toArray, List.map_cons, List.map_nil, hs, hx, hr]
  have h1' : w'.ownsRow base e z v' (l ++ y).length ((l ++ y).flatMap enc) := by
    rw [List.flatMap_append, List.length_append, ← hm]
    exact h1
  obtain ⟨A', c', rfl, hc'⟩ := own_shape h1'
  exact h _ c' w' h1' h2 hc'
theorem wp_appRB (C : AppC enc te e z bytes zero) (hb0 : 0 < bytes) {o : Oper} {a : Act} {K : Act → World → Prop} {Q : Exit → Act → World → Prop} (W : World) (s x : Operand)
    (ho : o.op = .call { callee := .builtin .append, args := #[s, x], argTypes := #[te, te] }) (base : Nat) (v : Value) (l : List α) (hs : a.eval s = v)
    (hown : W.ownsRow base e z v l.length (l.flatMap enc)) (y : List α) (B : Nat) (A0 : Option Addr) (m c : Nat) (hx : a.eval x = .slice A0 m c) (hm : m = y.length) (hr : Rd W B e z A0 m (y.flatMap enc))
    (hlen : (l.length + y.length) * bytes ≤ 140737488355328) (hbase : base ≤ W.heap.size)
    (h : ∀ A c w', w'.ownsRow base e z (.slice A (l ++ y).length c) (l ++ y).length ((l ++ y).flatMap enc) → W.grownBy w' v.ownBlock → (l ++ y).length ≤ c → K (a.put o.dst (.slice A (l ++ y).length c)) w') :
    o.wp Tryz.prog a W K Q := by
  cases A0 with
  | some ad =>
    refine wp_appNB C hb0 W s x ho base v l hs hown y ad m c hx hm (fun j u hu => ?_) (by rw [hm]; exact hlen) hbase h
    rcases Nat.eq_zero_or_pos m with h0 | h0
    · have hy : y = [] := List.eq_nil_of_length_eq_zero (by omega)
      subst hy
      simp at hu
    · obtain ⟨ad', he, hc⟩ := hr.cell h0
      injection he with he
      subst he
      exact hc j u hu
  | none =>
    obtain ⟨i0, hi0, hz0, hz1, hz2⟩ := info_parts C.info
    have h0 : m = 0 := by
      rcases Nat.eq_zero_or_pos m with h0 | h0
      · exact h0
      · obtain ⟨ad, he, _⟩ := hr.2 h0
        cases he
    subst h0
    have hy : y = [] := List.eq_nil_of_length_eq_zero hm.symm
    subst hy
    have hrun := run_append_of_nil (P := Tryz.prog) W base te o.type e i0 z C.te hi0 v _ _ hown c
    unfold Oper.wp execOp
    simp only [ho, resolve, invoke, builtin, Sem.run_bind, Sem.run_pure, Result.andThen_ok, List.map_toArray, List.map_cons, List.map_nil, hs, hx, hrun]
    obtain ⟨A', c', rfl, hc'⟩ := own_shape hown
    have hh : K (a.put o.dst (.slice A' l.length c')) W := by simpa using h A' c' W (by simpa using hown) (World.grownBy.refl W _) (by simpa using hc')
    exact hh
theorem wpList_appRB (C : AppC enc te e z bytes zero) (hb0 : 0 < bytes) {ops : Array Oper} {rest : List Oper} {o : Oper} {a : Act} {Q : Exit → Act → World → Prop} (W : World) (hgd : o.guard = none) (s x : Operand)
    (ho : o.op = .call { callee := .builtin .append, args := #[s, x], argTypes := #[te, te] }) (base : Nat) (v : Value) (l : List α) (hs : a.eval s = v)
    (hown : W.ownsRow base e z v l.length (l.flatMap enc)) (y : List α) (B : Nat) (A0 : Option Addr) (m c : Nat) (hx : a.eval x = .slice A0 m c) (hm : m = y.length) (hr : Rd W B e z A0 m (y.flatMap enc))
    (hlen : (l.length + y.length) * bytes ≤ 140737488355328) (hbase : base ≤ W.heap.size)
    (h : ∀ A c w', w'.ownsRow base e z (.slice A (l ++ y).length c) (l ++ y).length ((l ++ y).flatMap enc) → W.grownBy w' v.ownBlock → (l ++ y).length ≤ c → wpList Tryz.prog ops Q rest (a.put o.dst (.slice A (l ++ y).length c)) w') :
    wpList Tryz.prog ops Q (o :: rest) a W :=
  wpList_plain hgd fun _ hK => wp_appRB C hb0 W s x ho base v l hs hown y B A0 m c hx hm hr hlen hbase fun A c w' h1 h2 h3 => hK _ _ (h A c w' h1 h2 h3)
end
/-- A hold. -/
structure Hd where
  id : Id3
  w : Int
deriving DecidableEq
def hdC (h : Hd) : List Value := [.int .i64 h.id.b, .int .i64 h.id.s, .int .i64 h.id.p, .int .i64 h.w]
theorem hold_app : AppC hdC 43 46 4 32 (.agg #[.int .i64 0, .int .i64 0, .int .i64 0, .int .i64 0]) :=
  ⟨Tryz.underlying43, by kernel_rfl, rfl, by decide, fun _ => rfl, fun x u hu => by simp only [hdC, List.mem_cons, List.not_mem_nil, or_false] at hu; rcases hu with rfl | rfl | rfl | rfl <;> rfl, by decide⟩
end Go.Proofs.YtolajmfmphkkiaaGreatDoor

/- A message in memory of its own: Copied of the document. -/
namespace Go.Proofs.YtolajmfmphkkiaaGreatDoor
open Go.RowKit Go.Sort

def MsgD.with_ (m : MsgD) (h r : Value) : MsgD := ⟨m.kind, m.worker, m.id, m.deep, h, m.why, m.lost, m.lw, r, m.n⟩
def CopyPost (m : MsgD) (nh nr : Nat) (w : World) (e : Ending) (w' : World) : Prop := ∃ A2 c2 A3 c3, e = .returned (.agg (m.with_ (.slice A2 nh c2) (.slice A3 nr c3)).cs) ∧ Below w.heap.size w w'
set_option maxRecDepth 100000 in
set_option maxHeartbeats 8000000 in
theorem copied_c (B : Nat) (mk mw : Int) (mid : Id3) (mdp : Bool) (hA : Option Addr) (hl : List Hd) (hc : Nat) (my : Int) (ml : Id3) (mlw : Int) (rA : Option Addr) (rl : List Rw) (rc : Nat) (mn : Int) (w : World)
    (hh : Rd w B 46 4 hA hl.length (hl.flatMap hdC)) (hr : Rd w B 221 2 rA rl.length (rl.flatMap rwC)) (hh32 : hl.length * 32 ≤ 140737488355328) (hr16 : rl.length * 16 ≤ 140737488355328) :
    Calls Tryz.prog 26 #[.agg (⟨mk, mw, mid, mdp, .slice hA hl.length hc, my, ml, mlw, .slice rA rl.length rc, mn⟩ : MsgD).cs] w (CopyPost ⟨mk, mw, mid, mdp, .slice hA hl.length hc, my, ml, mlw, .slice rA rl.length rc, mn⟩ hl.length rl.length w) := by
  obtain ⟨xb, xs, xp⟩ := mid
  obtain ⟨lb, ls, lp⟩ := ml
  obtain ⟨W0, hW0⟩ : ∃ W0, W0 = (w.alloc (.cells (⟨mk, mw, ⟨xb, xs, xp⟩, mdp, .slice hA hl.length hc, my, ⟨lb, ls, lp⟩, mlw, .slice rA rl.length rc, mn⟩ : MsgD).cs 49 (0, 0))).alloc
      (.cells #[.int .i64 0, .int .i64 0, .int .i64 0, .int .i64 0, .int .i64 0, .bool false, .slice none 0 0, .int .i64 0, .int .i64 0, .int .i64 0, .int .i64 0, .int .i64 0, .slice none 0 0, .int .i64 0] 49 (0, 0)) := ⟨_, rfl⟩
  have HW0 := Lib.hid hW0
  have HB0 := Lib.hid (show Below w.heap.size w W0 from by rw [hW0]; exact ext_alloc (ext_alloc (Below.refl _ _) _) _)
  have HX := Lib.hid (show Bk W0 w.heap.size 49 #[.int .i64 mk, .int .i64 mw, .int .i64 xb, .int .i64 xs, .int .i64 xp, .bool mdp, .slice hA hl.length hc, .int .i64 my, .int .i64 lb, .int .i64 ls, .int .i64 lp, .int .i64 mlw, .slice rA rl.length rc, .int .i64 mn] from by rw [hW0]; exact (Bk.new _ _ _).ext (ext_alloc (Below.refl _ _) _))
  have HY := Lib.hid (show Bk W0 (w.heap.size + 1) 49 #[.int .i64 0, .int .i64 0, .int .i64 0, .int .i64 0, .int .i64 0, .bool false, .slice none 0 0, .int .i64 0, .int .i64 0, .int .i64 0, .int .i64 0, .int .i64 0, .slice none 0 0, .int .i64 0] from by rw [hW0]; exact Bk.newAt (by simp))
  have HH := Lib.hid (hh.ext HB0.out)
  have HR0 := Lib.hid hr
  have z6 : W0.cell? ⟨w.heap.size, 6, none⟩ = some (.slice hA hl.length hc) := (HX.out.cell 6).trans rfl
  have lx := HX.out.lt
  clear hh hr hW0
  go_enter Tryz.func26, Tryz.ntmps26
  go_upto_region 3 with fail
  rw [← HW0.out]
  go_wp2_with (first
    | (refine wpList_load_row rfl 49 (.tmp 1) rfl w.heap.size (by rfl) 49 #[.int .i64 mk, .int .i64 mw, .int .i64 xb, .int .i64 xs, .int .i64 xp, .bool mdp, .slice A2 hl.length c2, .int .i64 my, .int .i64 lb, .int .i64 ls, .int .i64 lp, .int .i64 mlw, .slice A3 rl.length c3, .int .i64 mn] (0, 0) _ HX4.out Tryz.underlying49 rfl (by kernel_rfl) ?_)
    | (refine wpList_store_row rfl 49 (.tmp 2) (.tmp 15) rfl (w.heap.size + 1) #[.int .i64 mk, .int .i64 mw, .int .i64 xb, .int .i64 xs, .int .i64 xp, .bool mdp, .slice A2 hl.length c2, .int .i64 my, .int .i64 lb, .int .i64 ls, .int .i64 lp, .int .i64 mlw, .slice A3 rl.length c3, .int .i64 mn] (by rfl) (by rfl) 49 _ HY4.out (by kernel_rfl) rfl (by kernel_rfl) ?_)
    | (at_builtin; refine wpList_appRB row_app (by decide) _ rfl (.tmp 10) (.tmp 12) rfl w.heap.size (.slice none 0 0) [] (by rfl) (World.ownsRow_nil _ _ _ _) rl B rA rl.length rc (by rfl) rfl HR2.out (by rw [List.length_nil, Nat.zero_add]; exact hr16) (by have := HX2.out.lt; omega) ?_
       rw [List.nil_append]
       intro A3 c3 w3 hown3 hg3 hc3
       have HX3 := Lib.hid (HX2.out.grown hg3 (show some _ ≠ none from fun h => by cases h))
       have HY3 := Lib.hid (HY2.out.grown hg3 (show some _ ≠ none from fun h => by cases h))
       have HB3 := Lib.hid (show Below w.heap.size w w3 from HB2.out.grown hg3 (by have := HX2.out.lt; omega) (fun k hk => by cases hk))
       have f12 := HX3.out.frozen 12
       have y12 : w3.cell? ⟨w.heap.size, 12, none⟩ = some (.slice rA rl.length rc) := (HX3.out.cell 12).trans rfl
       have HX4 := Lib.hid (show Bk (w3.setCell ⟨w.heap.size, 12, none⟩ (.slice A3 rl.length c3)) w.heap.size 49 #[.int .i64 mk, .int .i64 mw, .int .i64 xb, .int .i64 xs, .int .i64 xp, .bool mdp, .slice A2 hl.length c2, .int .i64 my, .int .i64 lb, .int .i64 ls, .int .i64 lp, .int .i64 mlw, .slice A3 rl.length c3, .int .i64 mn] from HX3.out.set_ 12 _)
       have HY4 := Lib.hid (HY3.out.far (p := ⟨w.heap.size, 12, none⟩) (show w.heap.size + 1 ≠ w.heap.size by omega) (.slice A3 rl.length c3))
       have HB4 := Lib.hid (below_setRow (HB3.out.setCell (p := ⟨w.heap.size, 12, none⟩) (Nat.le_refl _) (.slice A3 rl.length c3)) (Nat.le_succ w.heap.size) #[.int .i64 mk, .int .i64 mw, .int .i64 xb, .int .i64 xs, .int .i64 xp, .bool mdp, .slice A2 hl.length c2, .int .i64 my, .int .i64 lb, .int .i64 ls, .int .i64 lp, .int .i64 mlw, .slice A3 rl.length c3, .int .i64 mn])
       have HZ4 := Lib.hid (setRow_heap _ _ _ #[.int .i64 mk, .int .i64 mw, .int .i64 xb, .int .i64 xs, .int .i64 xp, .bool mdp, .slice A2 hl.length c2, .int .i64 my, .int .i64 lb, .int .i64 ls, .int .i64 lp, .int .i64 mlw, .slice A3 rl.length c3, .int .i64 mn] _ _ HY4.out)
       clear hown3 hg3 hc3)
    | (at_builtin; refine wpList_appRB hold_app (by decide) _ rfl (.tmp 5) (.tmp 7) rfl w.heap.size (.slice none 0 0) [] (by rfl) (World.ownsRow_nil _ _ _ _) hl B hA hl.length hc (by rfl) rfl HH.out (by rw [List.length_nil, Nat.zero_add]; exact hh32) (by omega) ?_
       rw [List.nil_append]
       intro A2 c2 w2 hown2 hg2 hc2
       have HX1 := Lib.hid (HX.out.grown hg2 (show some _ ≠ none from fun h => by cases h))
       have HY1 := Lib.hid (HY.out.grown hg2 (show some _ ≠ none from fun h => by cases h))
       have HB1 := Lib.hid (show Below w.heap.size w w2 from HB0.out.grown hg2 (by omega) (fun k hk => by cases hk))
       have f6 := HX1.out.frozen 6
       have y6 : w2.cell? ⟨w.heap.size, 6, none⟩ = some (.slice hA hl.length hc) := (HX1.out.cell 6).trans rfl
       have HX2 := Lib.hid (show Bk (w2.setCell ⟨w.heap.size, 6, none⟩ (.slice A2 hl.length c2)) w.heap.size 49 #[.int .i64 mk, .int .i64 mw, .int .i64 xb, .int .i64 xs, .int .i64 xp, .bool mdp, .slice A2 hl.length c2, .int .i64 my, .int .i64 lb, .int .i64 ls, .int .i64 lp, .int .i64 mlw, .slice rA rl.length rc, .int .i64 mn] from HX1.out.set_ 6 _)
       have HY2 := Lib.hid (HY1.out.far (p := ⟨w.heap.size, 6, none⟩) (show w.heap.size + 1 ≠ w.heap.size by omega) (.slice A2 hl.length c2))
       have HB2 := Lib.hid (HB1.out.setCell (p := ⟨w.heap.size, 6, none⟩) (Nat.le_refl _) (.slice A2 hl.length c2))
       have HR2 := Lib.hid (HR0.out.ext HB2.out)
       have z12 : (w2.setCell ⟨w.heap.size, 6, none⟩ (.slice A2 hl.length c2)).cell? ⟨w.heap.size, 12, none⟩ = some (.slice rA rl.length rc) := (HX2.out.cell 12).trans rfl
       clear hown2 hg2 hc2))
  refine bodyPost_ret (results_cell_row (g := w.heap.size + 1) (t := 49) (cs := #[.int .i64 mk, .int .i64 mw, .int .i64 xb, .int .i64 xs, .int .i64 xp, .bool mdp, .slice A2 hl.length c2, .int .i64 my, .int .i64 lb, .int .i64 ls, .int .i64 lp, .int .i64 mlw, .slice A3 rl.length c3, .int .i64 mn]) (fr := (0, 0)) rfl _ _ _ rfl HZ4.out Tryz.underlying49 rfl (by kernel_rfl)) rfl ?_
  exact ⟨A2, c2, A3, c3, rfl, HB4.out⟩
end Go.Proofs.YtolajmfmphkkiaaGreatDoor

/- An argument that came in, opened type by type: what its cells are. -/
namespace Go.Proofs.YtolajmfmphkkiaaGreatDoor
open Go.ChangeShapes Go.WideShapes Go.RowKit Go.Deep

/-- Whatever reads as a t is the cells of some a that is 'ok'. -/
def Opens {H : Type} (enc : TypeId × Value → H) (P : Program) (w : World) (t : TypeId) {α : Type} (cells : α → List Value) (ok : α → Prop) : Prop :=
  ∀ fuel cs x, DataW.trod enc P w 0 (fun _ => true) true fuel t cs = some x → ∃ a, cs = cells a ∧ ok a
/-- The same of a struct's fields, from the offset 'off' on. -/
def FOpens {H : Type} (enc : TypeId × Value → H) (P : Program) (w : World) (fs : List Field) (off : Nat) {α : Type} (cells : α → List Value) (ok : α → Prop) : Prop :=
  ∀ (cs : List Value) (n : Nat), cs.length = (fs.map fun f => P.cellsOf f.type).sum → (∀ f ∈ fs, ∃ y, DataW.trod enc P w 0 (fun _ => true) true n f.type ((cs.drop (f.offset - off)).take (P.cellsOf f.type)) = some y) → ∃ a, cs = cells a ∧ ok a
/-- A slice that came in. -/
structure Sl (α : Type) where
  A : Option Addr
  cap : Nat
  l : List α

section
variable {H : Type} {enc : TypeId × Value → H} {P : Program} {w : World} {t e : TypeId} {α β : Type} {cells : α → List Value} {ok : α → Prop}
theorem Opens.int {k : IntKind} (ht : P.underlying t = some (.int k)) : Opens enc P w t (fun n : Int => [.int k n]) (fun n => (Lit.int k n).wf = true) := by
  intro fuel cs x h
  obtain ⟨n, rfl, _, hw⟩ := DataW.trod_int ht h
  exact ⟨n, rfl, hw⟩
theorem Opens.bool (ht : P.underlying t = some .bool) : Opens enc P w t (fun b : Bool => [.bool b]) (fun _ => True) := by
  intro fuel cs x h
  obtain ⟨b, rfl, _⟩ := DataW.trod_bool ht h
  exact ⟨b, rfl, trivial⟩
theorem Opens.string (ht : P.underlying t = some .string) : Opens enc P w t (fun s : ByteArray => [.string s]) (fun s => s.size ≤ maxLen) := by
  intro fuel cs x h
  obtain ⟨s, rfl, _, hs⟩ := DataW.trod_string ht h
  exact ⟨s, rfl, hs⟩
theorem Opens.map {cells' : β → List Value} {ok' : β → Prop} (h : Opens enc P w t cells ok) (f : α → β) (hc : ∀ a, cells a = cells' (f a)) (hk : ∀ a, ok a → ok' (f a)) : Opens enc P w t cells' ok' := by
  intro fuel cs x hx
  obtain ⟨a, rfl, ha⟩ := h fuel cs x hx
  exact ⟨f a, hc a, hk a ha⟩
theorem FOpens.nil (off : Nat) : FOpens enc P w [] off (fun _ : Unit => []) (fun _ => True) := by
  intro cs n hl _
  exact ⟨(), List.eq_nil_of_length_eq_zero hl, trivial⟩
theorem FOpens.cons {f : Field} {fs : List Field} {off : Nat} {cells' : β → List Value} {ok' : β → Prop} (h : Opens enc P w f.type cells ok) (hck : (decide (f.offset = off) && fs.all fun g => decide (off + P.cellsOf f.type ≤ g.offset)) = true) (hfs : FOpens enc P w fs (off + P.cellsOf f.type) cells' ok') : FOpens enc P w (f :: fs) off (fun a : α × β => cells a.1 ++ cells' a.2) (fun a => ok a.1 ∧ ok' a.2) := by
  rw [Bool.and_eq_true, decide_eq_true_eq, List.all_eq_true] at hck
  obtain ⟨ho, hge0⟩ := hck
  have hge : ∀ g ∈ fs, off + P.cellsOf f.type ≤ g.offset := fun g hg => by simpa using hge0 g hg
  intro cs n hl hf
  rw [List.map_cons, List.sum_cons] at hl
  obtain ⟨y, hy⟩ := hf f (by simp)
  rw [ho, Nat.sub_self, List.drop_zero] at hy
  obtain ⟨a, ha, hka⟩ := h _ _ _ hy
  obtain ⟨b, hb, hkb⟩ := hfs (cs.drop (P.cellsOf f.type)) n (by rw [List.length_drop]; omega) (fun g hg => by
    obtain ⟨z, hz⟩ := hf g (List.mem_cons_of_mem _ hg)
    refine ⟨z, ?_⟩
    rw [List.drop_drop, show P.cellsOf f.type + (g.offset - (off + P.cellsOf f.type)) = g.offset - off by have := hge g hg; omega]
    exact hz)
  exact ⟨(a, b), by show cs = cells a ++ cells' b; rw [← ha, ← hb, List.take_append_drop], hka, hkb⟩
theorem Opens.struct {fs : Array Field} (ht : P.underlying t = some (.struct fs)) (hs : P.cellsOf t = (fs.toList.map fun f => P.cellsOf f.type).sum) (h : FOpens enc P w fs.toList 0 cells ok) : Opens enc P w t cells ok := by
  intro fuel cs x hx
  obtain ⟨xs, n, _, _, hl, hlen, hf⟩ := DataW.trod_struct ht hx
  refine h cs n (hl.trans hs) fun f hf' => ?_
  obtain ⟨i, hi⟩ := List.mem_iff_getElem?.1 hf'
  have hi' : fs[i]? = some f := by simpa using hi
  have hlt : i < xs.length := by rw [hlen]; rcases Nat.lt_or_ge i fs.size with h | h; exact h; rw [Array.getElem?_eq_none h] at hi'; cases hi'
  refine ⟨xs[i], ?_⟩
  rw [Nat.sub_zero, hf i f hi', List.getElem?_eq_getElem hlt]
theorem Opens.slice {z : Nat} (ht : P.underlying t = some (.slice e)) (hz : P.cellsOf e = z) (h0 : 0 < z) (hc : ∀ a, (cells a).length = z) (h : Opens enc P w e cells ok) :
    Opens enc P w t (fun s : Sl α => [.slice s.A s.l.length s.cap]) (fun s => s.l.length ≤ s.cap ∧ s.cap ≤ maxLen ∧ Rd w w.heap.size e z s.A s.l.length (s.l.flatMap cells) ∧ ∀ a ∈ s.l, ok a) := by
  intro fuel cs x hx
  rcases open_slice ht hx with ⟨rfl, _⟩ | ⟨a, len, cap, m, n, D, Pl, rfl, _, hl, hm, hmm, _, hi⟩
  · exact ⟨⟨none, 0, []⟩, rfl, Nat.zero_le _, Nat.zero_le _, Rd.none_, by simp⟩
  rw [hz] at hi
  have hml : len ≤ m := by rw [hmm]; simp only [if_true]; exact hl
  have hall : ∀ k, k ≤ len → ∃ l : List α, l.length = k ∧ (∀ j u, (l.flatMap cells)[j]? = some u → w.cell? (a.add j) = some u) ∧ ∀ x ∈ l, ok x := by
    intro k
    induction k with
    | zero => intro _; exact ⟨[], rfl, by simp, by simp⟩
    | succ k ih =>
      intro hk
      obtain ⟨l, hll, hlc, hlo⟩ := ih (by omega)
      obtain ⟨cs', h1, h2⟩ := hi k (by omega)
      obtain ⟨_, hlen, hcell⟩ := World.cells?_some h1
      obtain ⟨b, rfl, hb⟩ := h _ _ _ h2
      refine ⟨l ++ [b], by simp [hll], fun j u hu => ?_, fun x hx => ?_⟩
      · rw [List.flatMap_append, List.flatMap_singleton] at hu
        have hfl : (l.flatMap cells).length = k * z := by
          rw [← hll]
          clear hll hlc hlo hu
          induction l with
          | nil => simp
          | cons y l ih' => rw [List.flatMap_cons, List.length_append, hc, ih', List.length_cons, Nat.add_mul]; omega
        rcases Nat.lt_or_ge j (k * z) with hj | hj
        · rw [List.getElem?_append_left (by omega)] at hu
          exact hlc j u hu
        · rw [List.getElem?_append_right (by omega), hfl] at hu
          have hjz : j - k * z < z := by
            rcases Nat.lt_or_ge (j - k * z) z with h | h
            · exact h
            · rw [List.getElem?_eq_none (by rw [hc]; exact h)] at hu; cases hu
          have := hcell (j - k * z) hjz
          rw [Go.Proofs.YtolajmfmphkkiaaGreatDoor.add_of_add, show k * z + (j - k * z) = j by omega, hu] at this
          exact this
      · rcases List.mem_append.1 hx with hx | hx
        · exact hlo x hx
        · rw [List.mem_singleton] at hx; rw [hx]; exact hb
  obtain ⟨l, hll, hlc, hlo⟩ := hall len (Nat.le_refl _)
  have hfl : (l.flatMap cells).length = l.length * z := by
    clear hll hlc hlo
    induction l with
    | nil => simp
    | cons y l ih' => rw [List.flatMap_cons, List.length_append, hc, ih', List.length_cons, Nat.add_mul]; omega
  refine ⟨⟨some a, cap, l⟩, by simp [hll], by simp only [hll]; exact hl, hm, ⟨hfl, fun hn => ⟨a, rfl, .inl ?_, hlc⟩⟩, hlo⟩
  have hp : 0 < (l.flatMap cells).length := by rw [hfl]; exact Nat.mul_pos hn h0
  have := World.block_lt_of_cell? w _ (hlc 0 _ (List.getElem?_eq_getElem hp))
  rwa [block_of_add] at this

theorem Opens.Trod {v : Value} {d : DataW H} {p : List MemPlace} (h : Opens enc P w t cells ok) (hd : DataW.Trod enc P w 0 (fun _ => true) true t v d p) : ∃ a, v.cells.toList = cells a ∧ ok a := by
  obtain ⟨fuel, hf⟩ := hd
  exact h _ _ _ hf
theorem cells_slice {v : Value} {A : Option Addr} {n c : Nat} (h : v.cells.toList = [.slice A n c]) (hv : ∀ cs, v ≠ .agg cs) : v = .slice A n c := by
  cases v <;> simp_all [Value.cells]
end
end Go.Proofs.YtolajmfmphkkiaaGreatDoor

/- An act of the driver's laws, in cells. -/
namespace Go.Proofs.YtolajmfmphkkiaaGreatDoor
open Go.RowKit Go.Sort

structure MsgC where
  kind : Int
  worker : Int
  id : Id3
  deep : Bool
  h : Sl Hd
  why : Int
  lost : Hd
  r : Sl Rw
  n : Int
def MsgC.d (m : MsgC) : MsgD := ⟨m.kind, m.worker, m.id, m.deep, .slice m.h.A m.h.l.length m.h.cap, m.why, m.lost.id, m.lost.w, .slice m.r.A m.r.l.length m.r.cap, m.n⟩
structure ActK where
  kind : Int
  n : Int
  w : Int
  deep : Bool
  r : Sl Rw
  m : MsgC
def msgCs (m : MsgC) : List Value := [.int .i64 m.kind, .int .i64 m.worker, .int .i64 m.id.b, .int .i64 m.id.s, .int .i64 m.id.p, .bool m.deep, .slice m.h.A m.h.l.length m.h.cap, .int .i64 m.why, .int .i64 m.lost.id.b, .int .i64 m.lost.id.s, .int .i64 m.lost.id.p, .int .i64 m.lost.w, .slice m.r.A m.r.l.length m.r.cap, .int .i64 m.n]
def actK (a : ActK) : List Value := [.int .i64 a.kind, .int .i64 a.n, .int .i64 a.w, .bool a.deep, .slice a.r.A a.r.l.length a.r.cap] ++ msgCs a.m
/-- What the cells of an act lead to. -/
structure ActOk (W : World) (a : ActK) : Prop where
  n : I64 a.n
  rl : a.r.l.length ≤ a.r.cap
  rr : RdS W (· < W.heap.size) 2 a.r.A a.r.l.length (a.r.l.flatMap rwC)
  r64 : ∀ r ∈ a.r.l, I64 r.k ∧ I64 r.v
  mn : I64 a.m.n
  hh : Rd W W.heap.size 46 4 a.m.h.A a.m.h.l.length (a.m.h.l.flatMap hdC)
  h32 : a.m.h.l.length * 32 ≤ 140737488355328
  mr : Rd W W.heap.size 221 2 a.m.r.A a.m.r.l.length (a.m.r.l.flatMap rwC)
  r16 : a.m.r.l.length * 16 ≤ 140737488355328
theorem Rd.actsK {w : World} {B : Nat} {e : TypeId} {A : Option Addr} {n : Nat} {l : List ActK} (h : Rd w B e 19 A n (l.flatMap actK)) {i : Nat} {y : ActK} (hy : l[i]? = some y) (hn : i < n) :
    ∃ ad, A = some ad ∧ ∀ (j : Nat) u, (#[.int .i64 y.kind, .int .i64 y.n, .int .i64 y.w, .bool y.deep, .slice y.r.A y.r.l.length y.r.cap, .int .i64 y.m.kind, .int .i64 y.m.worker, .int .i64 y.m.id.b, .int .i64 y.m.id.s, .int .i64 y.m.id.p, .bool y.m.deep, .slice y.m.h.A y.m.h.l.length y.m.h.cap, .int .i64 y.m.why, .int .i64 y.m.lost.id.b, .int .i64 y.m.lost.id.s, .int .i64 y.m.lost.id.p, .int .i64 y.m.lost.w, .slice y.m.r.A y.m.r.l.length y.m.r.cap, .int .i64 y.m.n] : Array Value)[j]? = some u → w.cell? ((ad.add (i * 19)).add j) = some u := by
  obtain ⟨ad, hA, hc⟩ := h.cell (by omega)
  refine ⟨ad, hA, fun j u hu => ?_⟩
  have hj : j < 19 := (Array.getElem?_eq_some_iff.1 hu).1
  rw [add_of_add]
  refine hc _ _ ?_
  rw [flat_at actK 19 (fun _ => rfl) l i y hy j hj]
  have h2 : (actK y)[j]? = (#[.int .i64 y.kind, .int .i64 y.n, .int .i64 y.w, .bool y.deep, .slice y.r.A y.r.l.length y.r.cap, .int .i64 y.m.kind, .int .i64 y.m.worker, .int .i64 y.m.id.b, .int .i64 y.m.id.s, .int .i64 y.m.id.p, .bool y.m.deep, .slice y.m.h.A y.m.h.l.length y.m.h.cap, .int .i64 y.m.why, .int .i64 y.m.lost.id.b, .int .i64 y.m.lost.id.s, .int .i64 y.m.lost.id.p, .int .i64 y.m.lost.w, .slice y.m.r.A y.m.r.l.length y.m.r.cap, .int .i64 y.m.n] : Array Value).toList[j]? := rfl
  rw [h2, Array.getElem?_toList]
  exact hu
end Go.Proofs.YtolajmfmphkkiaaGreatDoor

/- A struct read from wherever its cells lie. -/
namespace Go.Proofs.YtolajmfmphkkiaaGreatDoor
open Go.RowKit Go.Sort

theorem run_loadVar_any {P : Program} (w : World) (a : Addr) (ty : TypeId) (cs : Array Value) (fs : Array Field) (hc : ∀ j v, cs[j]? = some v → w.cell? (a.add j) = some v)
    (hu : P.underlying ty = some (.struct fs)) (hi : (P.info? ty).map (·.size) = some cs.size) : (loadVar ty a).run P w = .ok (.agg cs) w := by
  have hl : (loadCells a cs.size).run P w = .ok cs w := by
    have := run_loadCells_list (P := P) w a cs.toList (fun j v hv => hc j v (by simpa using hv))
    simpa using this
  cases hq : P.info? ty with
  | none => simp [hq] at hi
  | some i =>
    have hs : i.size = cs.size := by simpa [hq] using hi
    have hagg : (isAgg ty).run P w = .ok true w := by
      unfold isAgg
      rw [Sem.run_bind, run_underlying hu w]
      simp
    simp [loadVar, Sem.run_bind, hagg, sizeOf, typeInfo, hq, hs, hl]
theorem wpList_load_any {P : Program} {ops : Array Oper} {rest : List Oper} {op : Oper} {a : Act} {w : World} {Q : Exit → Act → World → Prop} (hgd : op.guard = none) (ty : TypeId) (x : Operand) (ho : op.op = .load ty x)
    (ad : Addr) (hx : a.eval x = .pointer (some ad)) (cs : Array Value) (fs : Array Field) (hc : ∀ j v, cs[j]? = some v → w.cell? (ad.add j) = some v)
    (hu : P.underlying ty = some (.struct fs)) (hi : (P.info? ty).map (·.size) = some cs.size)
    (h : wpList P ops Q rest (a.put op.dst (.agg cs)) w) : wpList P ops Q (op :: rest) a w :=
  wpList_plain hgd fun _ hK => by
    unfold Oper.wp execOp
    simp only [ho, hx, Instr.loadAt, Instr.sureAddr, Sem.run_bind, Sem.run_pure, Result.andThen_ok, run_loadVar_any w ad ty cs fs hc hu hi]
    exact hK _ _ h
end Go.Proofs.YtolajmfmphkkiaaGreatDoor
