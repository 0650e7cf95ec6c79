/- LawH, Swap: laid together. -/
import Derived.Test.YtolajmfmphkkiaaGreatDoorPwO

/- tributarylaw17.DriverPower: the walk. -/
namespace Go.Proofs.YtolajmfmphkkiaaGreatDoor
open Go.RowKit Go.Sort

theorem mask_i64 (x : Int) (m : Nat) (hm : m < 9223372036854775808) : ∃ n : Nat, bits .and .i64 x (m : Int) = n ∧ n ≤ m := by
  unfold bits
  simp only
  have h : (BitVec.ofInt 64 x &&& BitVec.ofInt 64 (m : Int)).toNat ≤ m := by
    rw [BitVec.toNat_and]
    refine Nat.le_trans Nat.and_le_right ?_
    simp
    omega
  exact ⟨(BitVec.ofInt 64 x &&& BitVec.ofInt 64 m).toNat, IntWalk.i64_in (((BitVec.ofInt 64 x &&& BitVec.ofInt 64 (m : Int)).toNat : Nat) : Int) (by omega), h⟩
section
variable {B vb db : Nat} {p : PlanD} {A : Option Addr} {c : Nat} {v v' : DrvD} {d d' : DiskD} {K : Nat → Prop} {w0 : World}
theorem push_m (S : Nat → Prop) (l : List Rw) (nl : Nat) (hnl : l.length = nl) (A0 : Option Addr) (c0 : Nat) (w : World) (h : VIs B vb db p A c v d K w0 w) (hr : RdS w S 2 A0 l.length (l.flatMap rwC)) (hS : ∀ k, S k → k < w0.heap.size) (h64 : ∀ r ∈ l, I64 r.k ∧ I64 r.v) (hlf : d.life + 2 ≤ 1000000) (hz : pushD v d l = (none, v', d')) :
    Calls Tryz.prog 21 #[.pointer (some ⟨vb, 0, none⟩), .slice A0 nl c0] w (fun e w' => e = .returned (.tuple #[.int .i64 ((v.x.blocks.length + 1 : Nat) : Int), .nilIface]) ∧ VIs B vb db p A c v' d' K w0 w' ∧ Kept K w w') := by
  subst hnl
  exact push_v S l A0 c0 w h hr hS h64 hlf hz
theorem push_mno {code : Int} (S : Nat → Prop) (l : List Rw) (nl : Nat) (hnl : l.length = nl) (A0 : Option Addr) (c0 : Nat) (w : World) (h : VIs B vb db p A c v d K w0 w) (hr : RdS w S 2 A0 l.length (l.flatMap rwC)) (hS : ∀ k, S k → k < w0.heap.size) (h64 : ∀ r ∈ l, I64 r.k ∧ I64 r.v) (hlf : d.life + 2 ≤ 1000000) (hz : pushD v d l = (some code, v', d')) :
    Calls Tryz.prog 21 #[.pointer (some ⟨vb, 0, none⟩), .slice A0 nl c0] w (fun e w' => ∃ ve a, e = .returned (.tuple #[.int .i64 0, ve]) ∧ ErrAt w' ve a code ∧ VIs B vb db p A c v' d' K w0 w' ∧ Kept K w w') := by
  subst hnl
  exact push_no S l A0 c0 w h hr hS h64 hlf hz
end
section
variable {p : PlanD} {A : Option Addr} {c : Nat} {l : List Rw} {A1 : Option Addr} {c1 : Nat} {n : Int}
/-- What the arguments' cells hold. -/
structure PowIn (p : PlanD) (A : Option Addr) (l : List Rw) (A1 : Option Addr) (c1 : Nat) (W : World) : Prop where
  ops : RdS W (· < W.heap.size) 5 A p.ops.length (opsC p.ops)
  rows : RdS W (· < W.heap.size) 2 A1 l.length (l.flatMap rwC)
  cap : l.length ≤ c1
  i64 : ∀ r ∈ l, I64 r.k ∧ I64 r.v
  tv : TypeVar W
set_option maxRecDepth 100000 in
set_option maxHeartbeats 16000000 in
theorem power_c (W : World) (h : PowIn p A l A1 c1 W) : Calls Tryz.prog 4 #[planV p A c, .slice A1 l.length c1, .int .i64 n] W (BoolPost W true) := by
  have H := Lib.hid h
  have hty : 0 < W.heap.size := World.block_lt_of_cell? W _ h.tv
  have hcap := h.cap
  obtain ⟨m, hm, hm16, hml⟩ : ∃ m, m = min l.length 16 ∧ m ≤ 16 ∧ m ≤ l.length := ⟨_, rfl, Nat.min_le_right _ _, Nat.min_le_left _ _⟩
  have hmin : (if (16 : Int) < (l.length : Nat) then (16 : Int) else (l.length : Nat)).toNat = m := by split <;> omega
  have hlen : (l.take m).length = m := by rw [List.length_take]; omega
  have HL := Lib.hid hlen
  obtain ⟨k, hk, hk3⟩ := mask_i64 n 3 (by omega)
  have hk' : bits .and .i64 n 3 = (k : Nat) := hk
  clear hm hlen
  obtain ⟨W1, hW1⟩ : ∃ W1, W1 = W.alloc (.cells #[.int .i64 p.parts, .slice A p.ops.length c] 24 (0, 0)) := ⟨_, rfl⟩
  have HB1 := Lib.hid (show Below W.heap.size W W1 from by rw [hW1]; exact ext_alloc (Below.refl _ _) _)
  have HK1 := Lib.hid (show Bk W1 W.heap.size 24 #[.int .i64 p.parts, .slice A p.ops.length c] from by rw [hW1]; exact Bk.new _ _ _)
  have hs1 : W1.heap.size = W.heap.size + 1 := by rw [hW1]; simp
  have HTv := Lib.hid (show TypeVar W1 from TypeVar.fr (S := No) h.tv (Fr.of_below HB1.out) (fun h => h))
  have c0 : W1.cell? ⟨W.heap.size, 0, none⟩ = some (.int .i64 p.parts) := (HK1.out.cell 0).trans rfl
  have c1' : W1.cell? ⟨W.heap.size, 1, none⟩ = some (.slice A p.ops.length c) := (HK1.out.cell 1).trans rfl
  have HW1 := Lib.hid hW1
  clear h hW1
  cases hc : checkD p with
  | some x =>
    obtain ⟨a, code⟩ := x
    have HC := Lib.hid hc
    have HR := Lib.hid (fun W' (hb : Below W.heap.size W W') => rRight_c W.heap.size p A c W' ((H.out.ops.ext hb).rdS (fun _ hk => hk)) hb.size)
    rw [hc] at HR
    clear hc
    go_enter Tryz.func4, Tryz.ntmps4
    go_upto_region 1 with fail
    rw [← HW1.out]
    go_wp2_with (first
      | (go_at_call 13; refine (HR.out _ HB4.out).mono ?_; rintro e w5 ⟨rfl, hb⟩; have HB5 := Lib.hid (ext_trans HB4.out hb); clear hb)
      | (go_at_call 12; refine (told17_c _ HT3.out (by have := HB3.out.size; omega)).mono ?_; rintro e w4 ⟨rfl, hb⟩; have HB4 := Lib.hid (ext_trans HB3.out hb)
         have r0 := (World.cell?_of_block (a := ⟨W.heap.size, 0, none⟩) (hb.block _ ql)).trans q0; have r1 := (World.cell?_of_block (a := ⟨W.heap.size, 1, none⟩) (hb.block _ ql)).trans q1; clear hb)
      | (go_at_call 11
         refine (open_v (w0 := W1) (B := W.heap.size) (p := p) (A := A) (c := c) (room := 20) 1 HD.out HB2.out (fun h => by rw [HC.out] at h; cases h) (by omega) HTv.out hty ((H.out.ops.ext HB1.out).ext HB2.out) (by have := HB2.out.size; omega)).mono ?_
         rintro e w3 ⟨h1, _, _⟩
         obtain ⟨ve, at_, rfl, hE, hb⟩ := h1 a code HC.out
         obtain ⟨n7, hn7⟩ := hE.errN; obtain ⟨T7, y7, rfl⟩ := hn7.iface
         have HB3 := Lib.hid (ext_trans HB1.out hb)
         have HT3 := Lib.hid (TypeVar.fr (S := No) HTv.out (Fr.of_below hb) (fun h => h))
         have ql : W.heap.size < w3.heap.size := Nat.lt_of_lt_of_le (by omega) hb.size
         have q0 := (World.cell?_of_block (a := ⟨W.heap.size, 0, none⟩) (hb.block W.heap.size (by omega))).trans c0; have q1 := (World.cell?_of_block (a := ⟨W.heap.size, 1, none⟩) (hb.block W.heap.size (by omega))).trans c1'
         clear h1 hE hb hn7)
      | (go_at_call 10; refine (dNew_c 20 _ (by omega) (by omega)).mono ?_; rintro e w2 ⟨db, Rd, rfl, hD, hb⟩; have HD := Lib.hid hD; have HB2 := Lib.hid hb; have d0 := (World.cell?_of_block (a := ⟨W.heap.size, 0, none⟩) (hb.block W.heap.size (by omega))).trans c0; have d1 := (World.cell?_of_block (a := ⟨W.heap.size, 1, none⟩) (hb.block W.heap.size (by omega))).trans c1'; have dl : W.heap.size < w2.heap.size := Nat.lt_of_lt_of_le (by omega) hb.size; clear hD hb))
    go_ret
    exact ⟨rfl, HB5.out⟩
  | none =>
    have HC := Lib.hid hc
    have hn0 := (shaped_check hc).n0
    clear hc
    go_enter Tryz.func4, Tryz.ntmps4
    go_upto_region 1 with fail
    rw [← HW1.out]
    go_upto_region 7 with (first
      | (go_at_call 11
         refine (open_v (w0 := W1) (B := W.heap.size) (p := p) (A := A) (c := c) (room := 20) 1 HD.out HB2.out (fun _ ad hA => by
           obtain ⟨ad', hA', hS, _⟩ := H.out.ops.2 hn0
           rw [hA] at hA'
           injection hA' with hA'
           subst hA'
           have h2 : ad.block < W.heap.size := hS
           exact ⟨fun hk => by have := (HD.out.bd _ hk).1; omega, by have := HB2.out.size; omega⟩) (by omega) HTv.out hty ((H.out.ops.ext HB1.out).ext HB2.out) (by have := HB2.out.size; omega)).mono ?_
         rintro e w3 ⟨_, _, h3⟩
         obtain ⟨vb, rfl, hV⟩ := h3 HC.out (by omega) (by omega)
         have HV := Lib.hid hV
         clear h3 hV)
      | (go_at_call 10; refine (dNew_c 20 _ (by omega) (by omega)).mono ?_; rintro e w2 ⟨db, Rd, rfl, hD, hb⟩; have HD := Lib.hid hD; have HB2 := Lib.hid hb
         have d0 := (World.cell?_of_block (a := ⟨W.heap.size, 0, none⟩) (hb.block W.heap.size (by omega))).trans c0; have d1 := (World.cell?_of_block (a := ⟨W.heap.size, 1, none⟩) (hb.block W.heap.size (by omega))).trans c1'
         have dl : W.heap.size < w2.heap.size := Nat.lt_of_lt_of_le (by omega) hb.size; clear hD hb))
    have HI := Lib.hid (show ∀ r ∈ l.take m, I64 r.k ∧ I64 r.v from fun r hr => H.out.i64 r (List.mem_of_mem_take hr))
    have HLf := Lib.hid (show ((DiskD.new 20).arm (k : Nat)).life = 0 from (arm_same (DiskD.new 20) (k : Nat)).2.2)
    obtain ⟨v', d', hpp⟩ := push_pow (v := ⟨⟨1, 0, [], []⟩, WalD.new, 0, 0, 0, false⟩) (d := (DiskD.new 20).arm (k : Nat)) (l := l.take m) rfl (arm_same (DiskD.new 20) (k : Nat)).2.2 rfl (by rw [HL.out]; exact hm16) (by show 0 < 400; omega) (by
      have h1 := block_blocks (l := l.take m) (by rw [HL.out]; exact hm16) HI.out
      have h2 := (arm_same (DiskD.new 20) (k : Nat)).2.1
      rw [h2]
      show _ ≤ 20 - 0
      omega)
    rcases hpp with ⟨hz, hd1, hd2⟩ | ⟨hz, hd1, hd2⟩
    · have HZ := Lib.hid hz
      have HD1 := Lib.hid hd1
      have HD2 := Lib.hid hd2
      clear hz hd1 hd2
      go_upto_region 9 with (first
        | (go_at_call 21; (try rw [hmin]); refine (push_m (· < W1.heap.size) (l.take m) m HL.out A1 c1 _ HA.out HRw.out (fun _ hk => hk) HI.out (by rw [HLf.out]; omega) HZ.out).mono ?_; rintro e w5 ⟨rfl, hV, _⟩; have HP := Lib.hid hV; clear hV)
        | (go_at_call 20; (try rw [hk']); refine (arm_v (k : Nat) _ HV.out (by omega)).mono ?_; rintro e w4 ⟨rfl, hV, _⟩; have HA := Lib.hid hV; have HRw := Lib.hid (show RdS w4 (· < W1.heap.size) 2 A1 (l.take m).length ((l.take m).flatMap rwC) from by rw [HL.out, ← take_rows hml]; exact (((RdS.mono (S' := (· < W1.heap.size)) H.out.rows (fun k hk => by have h2 : k < W.heap.size := hk; show k < W1.heap.size; omega)).ext HB1.out).ext hV.below).pre hml); clear hV))
      refine wp_region_held_drew (S := fun _ => True) (by kernel_rfl) ?_ (fun hHeld => ?_)
      · go_keep
      refine wpAnyH_ready (rs := [0]) (by kernel_rfl) (by simp) ?_
      refine AllReadyH.cons (o := { dst := some 51, op := Go.Op.call { callee := Go.Callee.value (Go.Operand.func 12), args := #[], argTypes := #[] }, type := 4, pos := "law.go:199", after := #[], guard := none }) rfl (fun K hK => ?_) ?_
      ·
        go_simp
        go_at_call 12
        refine (told17_c _ (HP.out.ext (below_drewN (Below.refl _ _) 1)).tv (Nat.lt_of_lt_of_le (by omega) (HP.out.ext (below_drewN (Below.refl _ _) 1)).below.size)).mono ?_
        rintro e w6 ⟨rfl, hb⟩
        have HB6 := Lib.hid (ext_trans (below_drewN (Below.refl _ _) 1) hb)
        clear hb
        refine hK.out _ _ ?_ (fun hHeld => ?_)
        · go_keep
        clear hK K
        try simp only [Act.put, List.setIfInBounds_toArray, List.set_cons_zero, List.set_cons_succ]
        refine wpAnyH_take (i := 1) (oi := { dst := some 52, op := Go.Op.move (Go.Operand.tmp 51), type := 4, pos := "law.go:199", after := #[{ on := 0, ground := Go.Ground.data }, { on := 0, ground := Go.Ground.chain }], guard := none }) (v := ?v1z1) rfl (by kernel_rfl) (by kernel_rfl) (by kernel_rfl) (fun _ _ _ h => h) (Or.inl ⟨by rfl, ?hy1z1⟩) (by assumption) ?rest1z1
        case hy1z1 => (intro w hSw; (try dsimp only at hSw); go_simp; try (with_reducible rfl))
        simp only [Act.put, List.setIfInBounds_toArray, List.set_cons_zero, List.set_cons_succ]
        refine wpAnyH_take (i := 2) (oi := { dst := some 53, op := Go.Op.move (Go.Operand.tmp 12), type := 28, pos := "law.go:199", after := #[{ on := 1, ground := Go.Ground.guard }], guard := some (1, true) }) (v := ?v1z2) rfl (by kernel_rfl) (by kernel_rfl) (by kernel_rfl) (fun _ _ _ h => h) (Or.inl ⟨by rfl, ?hy1z2⟩) (by assumption) ?rest1z2
        case hy1z2 => (intro w hSw; (try dsimp only at hSw); go_simp; try (with_reducible rfl))
        simp only [Act.put, List.setIfInBounds_toArray, List.set_cons_zero, List.set_cons_succ]
        refine wpAnyH_take (i := 3) (oi := { dst := some 54, op := Go.Op.makeInterface 44 (Go.Operand.const (Go.Value.int Go.IntKind.i64 70)), type := 28, pos := "law.go:199", after := #[{ on := 1, ground := Go.Ground.guard }], guard := some (1, true) }) (v := ?v1z3) rfl (by kernel_rfl) (by kernel_rfl) (by kernel_rfl) (fun _ _ _ h => h) (Or.inl ⟨by rfl, ?hy1z3⟩) (by assumption) ?rest1z3
        case hy1z3 => (intro w hSw; (try dsimp only at hSw); go_simp; try (with_reducible rfl))
        simp only [Act.put, List.setIfInBounds_toArray, List.set_cons_zero, List.set_cons_succ]
        refine wpAnyH_take (i := 5) (oi := { dst := some 56, op := Go.Op.move (Go.Operand.tmp 7), type := 26, pos := "law.go:199", after := #[{ on := 1, ground := Go.Ground.guard }], guard := some (1, true) }) (v := ?v1z5) rfl (by kernel_rfl) (by kernel_rfl) (by kernel_rfl) (fun _ _ _ h => h) (Or.inl ⟨by rfl, ?hy1z5⟩) (by assumption) ?rest1z5
        case hy1z5 => (intro w hSw; (try dsimp only at hSw); go_simp; try (with_reducible rfl))
        simp only [Act.put, List.setIfInBounds_toArray, List.set_cons_zero, List.set_cons_succ]
        refine wpAnyH_ready (rs := [4]) (by kernel_rfl) (by simp) ?_
        refine AllReadyH.cons (o := { dst := some 55, op := Go.Op.call { callee := Go.Callee.value (Go.Operand.func 22), args := #[Go.Operand.tmp 53, Go.Operand.tmp 54], argTypes := #[28, 28] }, type := 4, pos := "law.go:199", after := #[{ on := 2, ground := Go.Ground.data }, { on := 3, ground := Go.Ground.data }, { on := 1, ground := Go.Ground.chain }, { on := 1, ground := Go.Ground.guard }], guard := some (1, true) }) rfl (fun K hK => ?_) ?_
        ·
          go_simp
          go_at_call 22
          refine (Is_nil 70 _).mono ?_
          rintro e w7 ⟨rfl, hb⟩
          have HB7 := Lib.hid (ext_trans HB6.out hb)
          clear hb
          refine hK.out _ _ ?_ (fun hHeld => ?_)
          · go_keep
          clear hK K
          try simp only [Act.put, List.setIfInBounds_toArray, List.set_cons_zero, List.set_cons_succ]
          refine wpAnyH_ready (rs := [6]) (by kernel_rfl) (by simp) ?_
          refine AllReadyH.cons (o := { dst := some 57, op := Go.Op.call { callee := Go.Callee.value (Go.Operand.func 23), args := #[Go.Operand.tmp 56], argTypes := #[26] }, type := 4, pos := "law.go:199", after := #[{ on := 5, ground := Go.Ground.data }, { on := 4, ground := Go.Ground.chain }, { on := 1, ground := Go.Ground.guard }], guard := some (1, true) }) rfl (fun K hK => ?_) ?_
          ·
            go_simp
            go_at_call 23
            refine (ddown_v _ (HP.out.ext HB7.out)).mono ?_
            rw [HD1.out]
            rintro e w9 ⟨rfl, rfl⟩
            refine hK.out _ _ ?_ (fun hHeld => ?_)
            · go_keep
            clear hK K
            try simp only [Act.put, List.setIfInBounds_toArray, List.set_cons_zero, List.set_cons_succ]
            refine wpAnyH_take (i := 7) (oi := { dst := some 58, op := Go.Op.binOp Go.BinOp.eql 4 (Go.Operand.tmp 55) (Go.Operand.tmp 57) 4, type := 4, pos := "law.go:199", after := #[{ on := 4, ground := Go.Ground.data }, { on := 6, ground := Go.Ground.data }, { on := 1, ground := Go.Ground.guard }], guard := some (1, true) }) (v := ?v1z7) rfl (by kernel_rfl) (by kernel_rfl) (by kernel_rfl) (fun _ _ _ h => h) (Or.inl ⟨by rfl, ?hy1z7⟩) (by assumption) ?rest1z7
            case hy1z7 => (intro w hSw; (try dsimp only at hSw); go_simp; try (with_reducible rfl))
            simp only [Act.put, List.setIfInBounds_toArray, List.set_cons_zero, List.set_cons_succ]
            refine wpAnyH_take (i := 8) (oi := { dst := some 59, op := Go.Op.pick (Go.Operand.tmp 52) (Go.Operand.tmp 58) (Go.Operand.const (Go.Value.bool false)), type := 4, pos := "law.go:199", after := #[{ on := 1, ground := Go.Ground.data }, { on := 7, ground := Go.Ground.data }], guard := none }) (v := ?v1z8) rfl (by kernel_rfl) (by kernel_rfl) (by kernel_rfl) (fun _ _ _ h => h) (Or.inl ⟨by rfl, ?hy1z8⟩) (by assumption) ?rest1z8
            case hy1z8 => (intro w hSw; (try dsimp only at hSw); go_simp; try (with_reducible rfl))
            simp only [Act.put, List.setIfInBounds_toArray, List.set_cons_zero, List.set_cons_succ]
            refine wpAnyH_take (i := 9) (oi := { dst := some 60, op := Go.Op.move (Go.Operand.tmp 59), type := 4, pos := "law.go:199", after := #[{ on := 8, ground := Go.Ground.data }, { on := 6, ground := Go.Ground.chain }], guard := none }) (v := ?v1z9) rfl (by kernel_rfl) (by kernel_rfl) (by kernel_rfl) (fun _ _ _ h => h) (Or.inl ⟨by rfl, ?hy1z9⟩) (by assumption) ?rest1z9
            case hy1z9 => (intro w hSw; (try dsimp only at hSw); go_simp; try (with_reducible rfl))
            simp only [Act.put, List.setIfInBounds_toArray, List.set_cons_zero, List.set_cons_succ]
            refine wpAnyH_take (i := 10) (oi := { dst := some 61, op := Go.Op.move (Go.Operand.tmp 9), type := 31, pos := "law.go:199", after := #[{ on := 9, ground := Go.Ground.guard }], guard := some (9, true) }) (v := ?v1z10) rfl (by kernel_rfl) (by kernel_rfl) (by kernel_rfl) (fun _ _ _ h => h) (Or.inl ⟨by rfl, ?hy1z10⟩) (by assumption) ?rest1z10
            case hy1z10 => (intro w hSw; (try dsimp only at hSw); go_simp; try (with_reducible rfl))
            simp only [Act.put, List.setIfInBounds_toArray, List.set_cons_zero, List.set_cons_succ]
            refine wpAnyH_take (i := 12) (oi := { dst := some 63, op := Go.Op.move (Go.Operand.tmp 7), type := 26, pos := "law.go:199", after := #[{ on := 9, ground := Go.Ground.guard }], guard := some (9, true) }) (v := ?v1z12) rfl (by kernel_rfl) (by kernel_rfl) (by kernel_rfl) (fun _ _ _ h => h) (Or.inl ⟨by rfl, ?hy1z12⟩) (by assumption) ?rest1z12
            case hy1z12 => (intro w hSw; (try dsimp only at hSw); go_simp; try (with_reducible rfl))
            simp only [Act.put, List.setIfInBounds_toArray, List.set_cons_zero, List.set_cons_succ]
            refine wpAnyH_ready (rs := [11]) (by kernel_rfl) (by simp) ?_
            refine AllReadyH.cons (o := { dst := some 62, op := Go.Op.call { callee := Go.Callee.value (Go.Operand.func 24), args := #[Go.Operand.tmp 61], argTypes := #[31] }, type := 4, pos := "law.go:199", after := #[{ on := 10, ground := Go.Ground.data }, { on := 9, ground := Go.Ground.chain }, { on := 9, ground := Go.Ground.guard }], guard := some (9, true) }) rfl (fun K hK => ?_) ?_
            ·
              go_simp
              go_at_call 24
              refine (down_v _ (HP.out.ext HB7.out)).mono ?_
              rw [HD2.out]
              rintro e w8 ⟨rfl, hb⟩
              have HB8 := Lib.hid (ext_trans HB7.out hb)
              clear hb
              refine hK.out _ _ ?_ (fun hHeld => ?_)
              · go_keep
              clear hK K
              try simp only [Act.put, List.setIfInBounds_toArray, List.set_cons_zero, List.set_cons_succ]
              refine wpAnyH_ready (rs := [13]) (by kernel_rfl) (by simp) ?_
              refine AllReadyH.cons (o := { dst := some 64, op := Go.Op.call { callee := Go.Callee.value (Go.Operand.func 23), args := #[Go.Operand.tmp 63], argTypes := #[26] }, type := 4, pos := "law.go:199", after := #[{ on := 12, ground := Go.Ground.data }, { on := 11, ground := Go.Ground.chain }, { on := 9, ground := Go.Ground.guard }], guard := some (9, true) }) rfl (fun K hK => ?_) ?_
              ·
                go_simp
                go_at_call 23
                refine (ddown_v _ (HP.out.ext HB8.out)).mono ?_
                rw [HD1.out]
                rintro e w9 ⟨rfl, rfl⟩
                refine hK.out _ _ ?_ (fun hHeld => ?_)
                · go_keep
                clear hK K
                try simp only [Act.put, List.setIfInBounds_toArray, List.set_cons_zero, List.set_cons_succ]
                refine wpAnyH_take (i := 14) (oi := { dst := some 65, op := Go.Op.binOp Go.BinOp.eql 4 (Go.Operand.tmp 62) (Go.Operand.tmp 64) 4, type := 4, pos := "law.go:199", after := #[{ on := 11, ground := Go.Ground.data }, { on := 13, ground := Go.Ground.data }, { on := 9, ground := Go.Ground.guard }], guard := some (9, true) }) (v := ?v1z14) rfl (by kernel_rfl) (by kernel_rfl) (by kernel_rfl) (fun _ _ _ h => h) (Or.inl ⟨by rfl, ?hy1z14⟩) (by assumption) ?rest1z14
                case hy1z14 => (intro w hSw; (try dsimp only at hSw); go_simp; try (with_reducible rfl))
                simp only [Act.put, List.setIfInBounds_toArray, List.set_cons_zero, List.set_cons_succ]
                refine wpAnyH_take (i := 15) (oi := { dst := some 66, op := Go.Op.pick (Go.Operand.tmp 60) (Go.Operand.tmp 65) (Go.Operand.const (Go.Value.bool false)), type := 4, pos := "law.go:199", after := #[{ on := 9, ground := Go.Ground.data }, { on := 14, ground := Go.Ground.data }], guard := none }) (v := ?v1z15) rfl (by kernel_rfl) (by kernel_rfl) (by kernel_rfl) (fun _ _ _ h => h) (Or.inl ⟨by rfl, ?hy1z15⟩) (by assumption) ?rest1z15
                case hy1z15 => (intro w hSw; (try dsimp only at hSw); go_simp; try (with_reducible rfl))
                simp only [Act.put, List.setIfInBounds_toArray, List.set_cons_zero, List.set_cons_succ]
                refine wpAnyH_take (i := 16) (oi := { dst := some 67, op := Go.Op.move (Go.Operand.tmp 66), type := 4, pos := "law.go:199", after := #[{ on := 15, ground := Go.Ground.data }, { on := 13, ground := Go.Ground.chain }], guard := none }) (v := ?v1z16) rfl (by kernel_rfl) (by kernel_rfl) (by kernel_rfl) (fun _ _ _ h => h) (Or.inl ⟨by rfl, ?hy1z16⟩) (by assumption) ?rest1z16
                case hy1z16 => (intro w hSw; (try dsimp only at hSw); go_simp; try (with_reducible rfl))
                simp only [Act.put, List.setIfInBounds_toArray, List.set_cons_zero, List.set_cons_succ]
                refine wpAnyH_take (i := 17) (oi := { dst := some 68, op := Go.Op.move (Go.Operand.tmp 12), type := 28, pos := "law.go:199", after := #[{ on := 16, ground := Go.Ground.guard }], guard := some (16, true) }) (v := ?v1z17) rfl (by kernel_rfl) (by kernel_rfl) (by kernel_rfl) (fun _ _ _ h => h) (Or.inl ⟨by rfl, ?hy1z17⟩) (by assumption) ?rest1z17
                case hy1z17 => (intro w hSw; (try dsimp only at hSw); go_simp; try (with_reducible rfl))
                simp only [Act.put, List.setIfInBounds_toArray, List.set_cons_zero, List.set_cons_succ]
                refine wpAnyH_take (i := 18) (oi := { dst := some 69, op := Go.Op.binOp Go.BinOp.eql 28 (Go.Operand.tmp 68) (Go.Operand.const Go.Value.nilIface) 28, type := 4, pos := "law.go:199", after := #[{ on := 17, ground := Go.Ground.data }, { on := 16, ground := Go.Ground.guard }], guard := some (16, true) }) (v := ?v1z18) rfl (by kernel_rfl) (by kernel_rfl) (by kernel_rfl) (fun _ _ _ h => h) (Or.inl ⟨by rfl, ?hy1z18⟩) (by assumption) ?rest1z18
                case hy1z18 => (intro w hSw; (try dsimp only at hSw); go_simp; try (with_reducible rfl))
                simp only [Act.put, List.setIfInBounds_toArray, List.set_cons_zero, List.set_cons_succ]
                refine wpAnyH_take (i := 19) (oi := { dst := some 70, op := Go.Op.move (Go.Operand.tmp 7), type := 26, pos := "law.go:199", after := #[{ on := 16, ground := Go.Ground.guard }], guard := some (16, true) }) (v := ?v1z19) rfl (by kernel_rfl) (by kernel_rfl) (by kernel_rfl) (fun _ _ _ h => h) (Or.inl ⟨by rfl, ?hy1z19⟩) (by assumption) ?rest1z19
                case hy1z19 => (intro w hSw; (try dsimp only at hSw); go_simp; try (with_reducible rfl))
                simp only [Act.put, List.setIfInBounds_toArray, List.set_cons_zero, List.set_cons_succ]
                refine wpAnyH_ready (rs := [20]) (by kernel_rfl) (by simp) ?_
                refine AllReadyH.cons (o := { dst := some 71, op := Go.Op.call { callee := Go.Callee.value (Go.Operand.func 23), args := #[Go.Operand.tmp 70], argTypes := #[26] }, type := 4, pos := "law.go:199", after := #[{ on := 19, ground := Go.Ground.data }, { on := 16, ground := Go.Ground.chain }, { on := 16, ground := Go.Ground.guard }], guard := some (16, true) }) rfl (fun K hK => ?_) ?_
                ·
                  go_simp
                  go_at_call 23
                  refine (ddown_v _ (HP.out.ext HB8.out)).mono ?_
                  rw [HD1.out]
                  rintro e w9 ⟨rfl, rfl⟩
                  refine hK.out _ _ ?_ (fun hHeld => ?_)
                  · go_keep
                  clear hK K
                  try simp only [Act.put, List.setIfInBounds_toArray, List.set_cons_zero, List.set_cons_succ]
                  refine wpAnyH_take (i := 21) (oi := { dst := some 72, op := Go.Op.unOp Go.UnOp.not 4 (Go.Operand.tmp 71), type := 4, pos := "law.go:199", after := #[{ on := 20, ground := Go.Ground.data }, { on := 16, ground := Go.Ground.guard }], guard := some (16, true) }) (v := ?v1z21) rfl (by kernel_rfl) (by kernel_rfl) (by kernel_rfl) (fun _ _ _ h => h) (Or.inl ⟨by rfl, ?hy1z21⟩) (by assumption) ?rest1z21
                  case hy1z21 => (intro w hSw; (try dsimp only at hSw); go_simp; try (with_reducible rfl))
                  simp only [Act.put, List.setIfInBounds_toArray, List.set_cons_zero, List.set_cons_succ]
                  refine wpAnyH_take (i := 22) (oi := { dst := some 73, op := Go.Op.binOp Go.BinOp.eql 4 (Go.Operand.tmp 69) (Go.Operand.tmp 72) 4, type := 4, pos := "law.go:199", after := #[{ on := 18, ground := Go.Ground.data }, { on := 21, ground := Go.Ground.data }, { on := 16, ground := Go.Ground.guard }], guard := some (16, true) }) (v := ?v1z22) rfl (by kernel_rfl) (by kernel_rfl) (by kernel_rfl) (fun _ _ _ h => h) (Or.inl ⟨by rfl, ?hy1z22⟩) (by assumption) ?rest1z22
                  case hy1z22 => (intro w hSw; (try dsimp only at hSw); go_simp; try (with_reducible rfl))
                  simp only [Act.put, List.setIfInBounds_toArray, List.set_cons_zero, List.set_cons_succ]
                  refine wpAnyH_take (i := 23) (oi := { dst := some 74, op := Go.Op.pick (Go.Operand.tmp 67) (Go.Operand.tmp 73) (Go.Operand.const (Go.Value.bool false)), type := 4, pos := "law.go:199", after := #[{ on := 16, ground := Go.Ground.data }, { on := 22, ground := Go.Ground.data }], guard := none }) (v := ?v1z23) rfl (by kernel_rfl) (by kernel_rfl) (by kernel_rfl) (fun _ _ _ h => h) (Or.inl ⟨by rfl, ?hy1z23⟩) (by assumption) ?rest1z23
                  case hy1z23 => (intro w hSw; (try dsimp only at hSw); go_simp; try (with_reducible rfl))
                  simp only [Act.put, List.setIfInBounds_toArray, List.set_cons_zero, List.set_cons_succ]
                  refine wpAnyH_take (i := 24) (oi := { dst := some 6, op := Go.Op.assign (Go.Operand.tmp 74), type := 4, pos := "law.go:199", after := #[{ on := 23, ground := Go.Ground.data }, { on := 20, ground := Go.Ground.chain }, { on := 0, ground := Go.Ground.phase }, { on := 1, ground := Go.Ground.phase }, { on := 2, ground := Go.Ground.phase }, { on := 3, ground := Go.Ground.phase }, { on := 4, ground := Go.Ground.phase }, { on := 5, ground := Go.Ground.phase }, { on := 6, ground := Go.Ground.phase }, { on := 7, ground := Go.Ground.phase }, { on := 8, ground := Go.Ground.phase }, { on := 9, ground := Go.Ground.phase }, { on := 10, ground := Go.Ground.phase }, { on := 11, ground := Go.Ground.phase }, { on := 12, ground := Go.Ground.phase }, { on := 13, ground := Go.Ground.phase }, { on := 14, ground := Go.Ground.phase }, { on := 15, ground := Go.Ground.phase }, { on := 16, ground := Go.Ground.phase }, { on := 17, ground := Go.Ground.phase }, { on := 18, ground := Go.Ground.phase }, { on := 19, ground := Go.Ground.phase }, { on := 20, ground := Go.Ground.phase }, { on := 21, ground := Go.Ground.phase }, { on := 22, ground := Go.Ground.phase }, { on := 23, ground := Go.Ground.phase }], guard := none }) (v := ?v1z24) rfl (by kernel_rfl) (by kernel_rfl) (by kernel_rfl) (fun _ _ _ h => h) (Or.inl ⟨by rfl, ?hy1z24⟩) (by assumption) ?rest1z24
                  case hy1z24 => (intro w hSw; (try dsimp only at hSw); go_simp; try (with_reducible rfl))
                  simp only [Act.put, List.setIfInBounds_toArray, List.set_cons_zero, List.set_cons_succ]
                  refine wpAnyH_done (by kernel_rfl) ?_ _
                  go_wp2_with fail
                  all_goals (go_ret; exact ⟨rfl, ext_trans HB1.out (HP.out.ext HB8.out).below⟩)
                exact AllReadyH.nil
              exact AllReadyH.nil
            exact AllReadyH.nil
          exact AllReadyH.nil
        exact AllReadyH.nil
      exact AllReadyH.nil
    · have HZ := Lib.hid hz
      have HD1 := Lib.hid hd1
      have HD2 := Lib.hid hd2
      clear hz hd1 hd2
      go_upto_region 9 with (first
        | (go_at_call 21; (try rw [hmin]); refine (push_mno (· < W1.heap.size) (l.take m) m HL.out A1 c1 _ HA.out HRw.out (fun _ hk => hk) HI.out (by rw [HLf.out]; omega) HZ.out).mono ?_; rintro e w5 ⟨ve, at_, rfl, hE, hV, _⟩; obtain ⟨n7, hn7⟩ := hE.errN; obtain ⟨T7, y7, rfl⟩ := hn7.iface; have HP := Lib.hid hV; have HE := Lib.hid hn7; clear hE hV hn7)
        | (go_at_call 20; (try rw [hk']); refine (arm_v (k : Nat) _ HV.out (by omega)).mono ?_; rintro e w4 ⟨rfl, hV, _⟩; have HA := Lib.hid hV; have HRw := Lib.hid (show RdS w4 (· < W1.heap.size) 2 A1 (l.take m).length ((l.take m).flatMap rwC) from by rw [HL.out, ← take_rows hml]; exact (((RdS.mono (S' := (· < W1.heap.size)) H.out.rows (fun k hk => by have h2 : k < W.heap.size := hk; show k < W1.heap.size; omega)).ext HB1.out).ext hV.below).pre hml); clear hV))
      refine wp_region_held_drew (S := fun _ => True) (by kernel_rfl) ?_ (fun hHeld => ?_)
      · go_keep
      refine wpAnyH_ready (rs := [0]) (by kernel_rfl) (by simp) ?_
      refine AllReadyH.cons (o := { dst := some 51, op := Go.Op.call { callee := Go.Callee.value (Go.Operand.func 12), args := #[], argTypes := #[] }, type := 4, pos := "law.go:199", after := #[], guard := none }) rfl (fun K hK => ?_) ?_
      ·
        go_simp
        go_at_call 12
        refine (told17_c _ (HP.out.ext (below_drewN (Below.refl _ _) 1)).tv (Nat.lt_of_lt_of_le (by omega) (HP.out.ext (below_drewN (Below.refl _ _) 1)).below.size)).mono ?_
        rintro e w6 ⟨rfl, hb⟩
        have HB6 := Lib.hid (ext_trans (below_drewN (Below.refl _ _) 1) hb)
        clear hb
        refine hK.out _ _ ?_ (fun hHeld => ?_)
        · go_keep
        clear hK K
        try simp only [Act.put, List.setIfInBounds_toArray, List.set_cons_zero, List.set_cons_succ]
        refine wpAnyH_take (i := 1) (oi := { dst := some 52, op := Go.Op.move (Go.Operand.tmp 51), type := 4, pos := "law.go:199", after := #[{ on := 0, ground := Go.Ground.data }, { on := 0, ground := Go.Ground.chain }], guard := none }) (v := ?v2z1) rfl (by kernel_rfl) (by kernel_rfl) (by kernel_rfl) (fun _ _ _ h => h) (Or.inl ⟨by rfl, ?hy2z1⟩) (by assumption) ?rest2z1
        case hy2z1 => (intro w hSw; (try dsimp only at hSw); go_simp; try (with_reducible rfl))
        simp only [Act.put, List.setIfInBounds_toArray, List.set_cons_zero, List.set_cons_succ]
        refine wpAnyH_take (i := 2) (oi := { dst := some 53, op := Go.Op.move (Go.Operand.tmp 12), type := 28, pos := "law.go:199", after := #[{ on := 1, ground := Go.Ground.guard }], guard := some (1, true) }) (v := ?v2z2) rfl (by kernel_rfl) (by kernel_rfl) (by kernel_rfl) (fun _ _ _ h => h) (Or.inl ⟨by rfl, ?hy2z2⟩) (by assumption) ?rest2z2
        case hy2z2 => (intro w hSw; (try dsimp only at hSw); go_simp; try (with_reducible rfl))
        simp only [Act.put, List.setIfInBounds_toArray, List.set_cons_zero, List.set_cons_succ]
        refine wpAnyH_take (i := 3) (oi := { dst := some 54, op := Go.Op.makeInterface 44 (Go.Operand.const (Go.Value.int Go.IntKind.i64 70)), type := 28, pos := "law.go:199", after := #[{ on := 1, ground := Go.Ground.guard }], guard := some (1, true) }) (v := ?v2z3) rfl (by kernel_rfl) (by kernel_rfl) (by kernel_rfl) (fun _ _ _ h => h) (Or.inl ⟨by rfl, ?hy2z3⟩) (by assumption) ?rest2z3
        case hy2z3 => (intro w hSw; (try dsimp only at hSw); go_simp; try (with_reducible rfl))
        simp only [Act.put, List.setIfInBounds_toArray, List.set_cons_zero, List.set_cons_succ]
        refine wpAnyH_take (i := 5) (oi := { dst := some 56, op := Go.Op.move (Go.Operand.tmp 7), type := 26, pos := "law.go:199", after := #[{ on := 1, ground := Go.Ground.guard }], guard := some (1, true) }) (v := ?v2z5) rfl (by kernel_rfl) (by kernel_rfl) (by kernel_rfl) (fun _ _ _ h => h) (Or.inl ⟨by rfl, ?hy2z5⟩) (by assumption) ?rest2z5
        case hy2z5 => (intro w hSw; (try dsimp only at hSw); go_simp; try (with_reducible rfl))
        simp only [Act.put, List.setIfInBounds_toArray, List.set_cons_zero, List.set_cons_succ]
        refine wpAnyH_ready (rs := [4]) (by kernel_rfl) (by simp) ?_
        refine AllReadyH.cons (o := { dst := some 55, op := Go.Op.call { callee := Go.Callee.value (Go.Operand.func 22), args := #[Go.Operand.tmp 53, Go.Operand.tmp 54], argTypes := #[28, 28] }, type := 4, pos := "law.go:199", after := #[{ on := 2, ground := Go.Ground.data }, { on := 3, ground := Go.Ground.data }, { on := 1, ground := Go.Ground.chain }, { on := 1, ground := Go.Ground.guard }], guard := some (1, true) }) rfl (fun K hK => ?_) ?_
        ·
          go_simp
          go_at_call 22
          refine (Is_c n7 _ 70 70 _ (ErrN.ext HB6.out HE.out)).mono ?_
          rw [show decide ((70 : Int) = 70) = true from rfl]
          rintro e w7 ⟨rfl, hb⟩
          have HB7 := Lib.hid (ext_trans HB6.out hb)
          clear hb
          refine hK.out _ _ ?_ (fun hHeld => ?_)
          · go_keep
          clear hK K
          try simp only [Act.put, List.setIfInBounds_toArray, List.set_cons_zero, List.set_cons_succ]
          refine wpAnyH_ready (rs := [6]) (by kernel_rfl) (by simp) ?_
          refine AllReadyH.cons (o := { dst := some 57, op := Go.Op.call { callee := Go.Callee.value (Go.Operand.func 23), args := #[Go.Operand.tmp 56], argTypes := #[26] }, type := 4, pos := "law.go:199", after := #[{ on := 5, ground := Go.Ground.data }, { on := 4, ground := Go.Ground.chain }, { on := 1, ground := Go.Ground.guard }], guard := some (1, true) }) rfl (fun K hK => ?_) ?_
          ·
            go_simp
            go_at_call 23
            refine (ddown_v _ (HP.out.ext HB7.out)).mono ?_
            rw [HD1.out]
            rintro e w9 ⟨rfl, rfl⟩
            refine hK.out _ _ ?_ (fun hHeld => ?_)
            · go_keep
            clear hK K
            try simp only [Act.put, List.setIfInBounds_toArray, List.set_cons_zero, List.set_cons_succ]
            refine wpAnyH_take (i := 7) (oi := { dst := some 58, op := Go.Op.binOp Go.BinOp.eql 4 (Go.Operand.tmp 55) (Go.Operand.tmp 57) 4, type := 4, pos := "law.go:199", after := #[{ on := 4, ground := Go.Ground.data }, { on := 6, ground := Go.Ground.data }, { on := 1, ground := Go.Ground.guard }], guard := some (1, true) }) (v := ?v2z7) rfl (by kernel_rfl) (by kernel_rfl) (by kernel_rfl) (fun _ _ _ h => h) (Or.inl ⟨by rfl, ?hy2z7⟩) (by assumption) ?rest2z7
            case hy2z7 => (intro w hSw; (try dsimp only at hSw); go_simp; try (with_reducible rfl))
            simp only [Act.put, List.setIfInBounds_toArray, List.set_cons_zero, List.set_cons_succ]
            refine wpAnyH_take (i := 8) (oi := { dst := some 59, op := Go.Op.pick (Go.Operand.tmp 52) (Go.Operand.tmp 58) (Go.Operand.const (Go.Value.bool false)), type := 4, pos := "law.go:199", after := #[{ on := 1, ground := Go.Ground.data }, { on := 7, ground := Go.Ground.data }], guard := none }) (v := ?v2z8) rfl (by kernel_rfl) (by kernel_rfl) (by kernel_rfl) (fun _ _ _ h => h) (Or.inl ⟨by rfl, ?hy2z8⟩) (by assumption) ?rest2z8
            case hy2z8 => (intro w hSw; (try dsimp only at hSw); go_simp; try (with_reducible rfl))
            simp only [Act.put, List.setIfInBounds_toArray, List.set_cons_zero, List.set_cons_succ]
            refine wpAnyH_take (i := 9) (oi := { dst := some 60, op := Go.Op.move (Go.Operand.tmp 59), type := 4, pos := "law.go:199", after := #[{ on := 8, ground := Go.Ground.data }, { on := 6, ground := Go.Ground.chain }], guard := none }) (v := ?v2z9) rfl (by kernel_rfl) (by kernel_rfl) (by kernel_rfl) (fun _ _ _ h => h) (Or.inl ⟨by rfl, ?hy2z9⟩) (by assumption) ?rest2z9
            case hy2z9 => (intro w hSw; (try dsimp only at hSw); go_simp; try (with_reducible rfl))
            simp only [Act.put, List.setIfInBounds_toArray, List.set_cons_zero, List.set_cons_succ]
            refine wpAnyH_take (i := 10) (oi := { dst := some 61, op := Go.Op.move (Go.Operand.tmp 9), type := 31, pos := "law.go:199", after := #[{ on := 9, ground := Go.Ground.guard }], guard := some (9, true) }) (v := ?v2z10) rfl (by kernel_rfl) (by kernel_rfl) (by kernel_rfl) (fun _ _ _ h => h) (Or.inl ⟨by rfl, ?hy2z10⟩) (by assumption) ?rest2z10
            case hy2z10 => (intro w hSw; (try dsimp only at hSw); go_simp; try (with_reducible rfl))
            simp only [Act.put, List.setIfInBounds_toArray, List.set_cons_zero, List.set_cons_succ]
            refine wpAnyH_take (i := 12) (oi := { dst := some 63, op := Go.Op.move (Go.Operand.tmp 7), type := 26, pos := "law.go:199", after := #[{ on := 9, ground := Go.Ground.guard }], guard := some (9, true) }) (v := ?v2z12) rfl (by kernel_rfl) (by kernel_rfl) (by kernel_rfl) (fun _ _ _ h => h) (Or.inl ⟨by rfl, ?hy2z12⟩) (by assumption) ?rest2z12
            case hy2z12 => (intro w hSw; (try dsimp only at hSw); go_simp; try (with_reducible rfl))
            simp only [Act.put, List.setIfInBounds_toArray, List.set_cons_zero, List.set_cons_succ]
            refine wpAnyH_ready (rs := [11]) (by kernel_rfl) (by simp) ?_
            refine AllReadyH.cons (o := { dst := some 62, op := Go.Op.call { callee := Go.Callee.value (Go.Operand.func 24), args := #[Go.Operand.tmp 61], argTypes := #[31] }, type := 4, pos := "law.go:199", after := #[{ on := 10, ground := Go.Ground.data }, { on := 9, ground := Go.Ground.chain }, { on := 9, ground := Go.Ground.guard }], guard := some (9, true) }) rfl (fun K hK => ?_) ?_
            ·
              go_simp
              go_at_call 24
              refine (down_v _ (HP.out.ext HB7.out)).mono ?_
              rw [HD2.out]
              rintro e w8 ⟨rfl, hb⟩
              have HB8 := Lib.hid (ext_trans HB7.out hb)
              clear hb
              refine hK.out _ _ ?_ (fun hHeld => ?_)
              · go_keep
              clear hK K
              try simp only [Act.put, List.setIfInBounds_toArray, List.set_cons_zero, List.set_cons_succ]
              refine wpAnyH_ready (rs := [13]) (by kernel_rfl) (by simp) ?_
              refine AllReadyH.cons (o := { dst := some 64, op := Go.Op.call { callee := Go.Callee.value (Go.Operand.func 23), args := #[Go.Operand.tmp 63], argTypes := #[26] }, type := 4, pos := "law.go:199", after := #[{ on := 12, ground := Go.Ground.data }, { on := 11, ground := Go.Ground.chain }, { on := 9, ground := Go.Ground.guard }], guard := some (9, true) }) rfl (fun K hK => ?_) ?_
              ·
                go_simp
                go_at_call 23
                refine (ddown_v _ (HP.out.ext HB8.out)).mono ?_
                rw [HD1.out]
                rintro e w9 ⟨rfl, rfl⟩
                refine hK.out _ _ ?_ (fun hHeld => ?_)
                · go_keep
                clear hK K
                try simp only [Act.put, List.setIfInBounds_toArray, List.set_cons_zero, List.set_cons_succ]
                refine wpAnyH_take (i := 14) (oi := { dst := some 65, op := Go.Op.binOp Go.BinOp.eql 4 (Go.Operand.tmp 62) (Go.Operand.tmp 64) 4, type := 4, pos := "law.go:199", after := #[{ on := 11, ground := Go.Ground.data }, { on := 13, ground := Go.Ground.data }, { on := 9, ground := Go.Ground.guard }], guard := some (9, true) }) (v := ?v2z14) rfl (by kernel_rfl) (by kernel_rfl) (by kernel_rfl) (fun _ _ _ h => h) (Or.inl ⟨by rfl, ?hy2z14⟩) (by assumption) ?rest2z14
                case hy2z14 => (intro w hSw; (try dsimp only at hSw); go_simp; try (with_reducible rfl))
                simp only [Act.put, List.setIfInBounds_toArray, List.set_cons_zero, List.set_cons_succ]
                refine wpAnyH_take (i := 15) (oi := { dst := some 66, op := Go.Op.pick (Go.Operand.tmp 60) (Go.Operand.tmp 65) (Go.Operand.const (Go.Value.bool false)), type := 4, pos := "law.go:199", after := #[{ on := 9, ground := Go.Ground.data }, { on := 14, ground := Go.Ground.data }], guard := none }) (v := ?v2z15) rfl (by kernel_rfl) (by kernel_rfl) (by kernel_rfl) (fun _ _ _ h => h) (Or.inl ⟨by rfl, ?hy2z15⟩) (by assumption) ?rest2z15
                case hy2z15 => (intro w hSw; (try dsimp only at hSw); go_simp; try (with_reducible rfl))
                simp only [Act.put, List.setIfInBounds_toArray, List.set_cons_zero, List.set_cons_succ]
                refine wpAnyH_take (i := 16) (oi := { dst := some 67, op := Go.Op.move (Go.Operand.tmp 66), type := 4, pos := "law.go:199", after := #[{ on := 15, ground := Go.Ground.data }, { on := 13, ground := Go.Ground.chain }], guard := none }) (v := ?v2z16) rfl (by kernel_rfl) (by kernel_rfl) (by kernel_rfl) (fun _ _ _ h => h) (Or.inl ⟨by rfl, ?hy2z16⟩) (by assumption) ?rest2z16
                case hy2z16 => (intro w hSw; (try dsimp only at hSw); go_simp; try (with_reducible rfl))
                simp only [Act.put, List.setIfInBounds_toArray, List.set_cons_zero, List.set_cons_succ]
                refine wpAnyH_take (i := 17) (oi := { dst := some 68, op := Go.Op.move (Go.Operand.tmp 12), type := 28, pos := "law.go:199", after := #[{ on := 16, ground := Go.Ground.guard }], guard := some (16, true) }) (v := ?v2z17) rfl (by kernel_rfl) (by kernel_rfl) (by kernel_rfl) (fun _ _ _ h => h) (Or.inl ⟨by rfl, ?hy2z17⟩) (by assumption) ?rest2z17
                case hy2z17 => (intro w hSw; (try dsimp only at hSw); go_simp; try (with_reducible rfl))
                simp only [Act.put, List.setIfInBounds_toArray, List.set_cons_zero, List.set_cons_succ]
                refine wpAnyH_take (i := 18) (oi := { dst := some 69, op := Go.Op.binOp Go.BinOp.eql 28 (Go.Operand.tmp 68) (Go.Operand.const Go.Value.nilIface) 28, type := 4, pos := "law.go:199", after := #[{ on := 17, ground := Go.Ground.data }, { on := 16, ground := Go.Ground.guard }], guard := some (16, true) }) (v := ?v2z18) rfl (by kernel_rfl) (by kernel_rfl) (by kernel_rfl) (fun _ _ _ h => h) (Or.inl ⟨by rfl, ?hy2z18⟩) (by assumption) ?rest2z18
                case hy2z18 => (intro w hSw; (try dsimp only at hSw); go_simp; try (with_reducible rfl))
                simp only [Act.put, List.setIfInBounds_toArray, List.set_cons_zero, List.set_cons_succ]
                refine wpAnyH_take (i := 19) (oi := { dst := some 70, op := Go.Op.move (Go.Operand.tmp 7), type := 26, pos := "law.go:199", after := #[{ on := 16, ground := Go.Ground.guard }], guard := some (16, true) }) (v := ?v2z19) rfl (by kernel_rfl) (by kernel_rfl) (by kernel_rfl) (fun _ _ _ h => h) (Or.inl ⟨by rfl, ?hy2z19⟩) (by assumption) ?rest2z19
                case hy2z19 => (intro w hSw; (try dsimp only at hSw); go_simp; try (with_reducible rfl))
                simp only [Act.put, List.setIfInBounds_toArray, List.set_cons_zero, List.set_cons_succ]
                refine wpAnyH_ready (rs := [20]) (by kernel_rfl) (by simp) ?_
                refine AllReadyH.cons (o := { dst := some 71, op := Go.Op.call { callee := Go.Callee.value (Go.Operand.func 23), args := #[Go.Operand.tmp 70], argTypes := #[26] }, type := 4, pos := "law.go:199", after := #[{ on := 19, ground := Go.Ground.data }, { on := 16, ground := Go.Ground.chain }, { on := 16, ground := Go.Ground.guard }], guard := some (16, true) }) rfl (fun K hK => ?_) ?_
                ·
                  go_simp
                  go_at_call 23
                  refine (ddown_v _ (HP.out.ext HB8.out)).mono ?_
                  rw [HD1.out]
                  rintro e w9 ⟨rfl, rfl⟩
                  refine hK.out _ _ ?_ (fun hHeld => ?_)
                  · go_keep
                  clear hK K
                  try simp only [Act.put, List.setIfInBounds_toArray, List.set_cons_zero, List.set_cons_succ]
                  refine wpAnyH_take (i := 21) (oi := { dst := some 72, op := Go.Op.unOp Go.UnOp.not 4 (Go.Operand.tmp 71), type := 4, pos := "law.go:199", after := #[{ on := 20, ground := Go.Ground.data }, { on := 16, ground := Go.Ground.guard }], guard := some (16, true) }) (v := ?v2z21) rfl (by kernel_rfl) (by kernel_rfl) (by kernel_rfl) (fun _ _ _ h => h) (Or.inl ⟨by rfl, ?hy2z21⟩) (by assumption) ?rest2z21
                  case hy2z21 => (intro w hSw; (try dsimp only at hSw); go_simp; try (with_reducible rfl))
                  simp only [Act.put, List.setIfInBounds_toArray, List.set_cons_zero, List.set_cons_succ]
                  refine wpAnyH_take (i := 22) (oi := { dst := some 73, op := Go.Op.binOp Go.BinOp.eql 4 (Go.Operand.tmp 69) (Go.Operand.tmp 72) 4, type := 4, pos := "law.go:199", after := #[{ on := 18, ground := Go.Ground.data }, { on := 21, ground := Go.Ground.data }, { on := 16, ground := Go.Ground.guard }], guard := some (16, true) }) (v := ?v2z22) rfl (by kernel_rfl) (by kernel_rfl) (by kernel_rfl) (fun _ _ _ h => h) (Or.inl ⟨by rfl, ?hy2z22⟩) (by assumption) ?rest2z22
                  case hy2z22 => (intro w hSw; (try dsimp only at hSw); go_simp; try (with_reducible rfl))
                  simp only [Act.put, List.setIfInBounds_toArray, List.set_cons_zero, List.set_cons_succ]
                  refine wpAnyH_take (i := 23) (oi := { dst := some 74, op := Go.Op.pick (Go.Operand.tmp 67) (Go.Operand.tmp 73) (Go.Operand.const (Go.Value.bool false)), type := 4, pos := "law.go:199", after := #[{ on := 16, ground := Go.Ground.data }, { on := 22, ground := Go.Ground.data }], guard := none }) (v := ?v2z23) rfl (by kernel_rfl) (by kernel_rfl) (by kernel_rfl) (fun _ _ _ h => h) (Or.inl ⟨by rfl, ?hy2z23⟩) (by assumption) ?rest2z23
                  case hy2z23 => (intro w hSw; (try dsimp only at hSw); go_simp; try (with_reducible rfl))
                  simp only [Act.put, List.setIfInBounds_toArray, List.set_cons_zero, List.set_cons_succ]
                  refine wpAnyH_take (i := 24) (oi := { dst := some 6, op := Go.Op.assign (Go.Operand.tmp 74), type := 4, pos := "law.go:199", after := #[{ on := 23, ground := Go.Ground.data }, { on := 20, ground := Go.Ground.chain }, { on := 0, ground := Go.Ground.phase }, { on := 1, ground := Go.Ground.phase }, { on := 2, ground := Go.Ground.phase }, { on := 3, ground := Go.Ground.phase }, { on := 4, ground := Go.Ground.phase }, { on := 5, ground := Go.Ground.phase }, { on := 6, ground := Go.Ground.phase }, { on := 7, ground := Go.Ground.phase }, { on := 8, ground := Go.Ground.phase }, { on := 9, ground := Go.Ground.phase }, { on := 10, ground := Go.Ground.phase }, { on := 11, ground := Go.Ground.phase }, { on := 12, ground := Go.Ground.phase }, { on := 13, ground := Go.Ground.phase }, { on := 14, ground := Go.Ground.phase }, { on := 15, ground := Go.Ground.phase }, { on := 16, ground := Go.Ground.phase }, { on := 17, ground := Go.Ground.phase }, { on := 18, ground := Go.Ground.phase }, { on := 19, ground := Go.Ground.phase }, { on := 20, ground := Go.Ground.phase }, { on := 21, ground := Go.Ground.phase }, { on := 22, ground := Go.Ground.phase }, { on := 23, ground := Go.Ground.phase }], guard := none }) (v := ?v2z24) rfl (by kernel_rfl) (by kernel_rfl) (by kernel_rfl) (fun _ _ _ h => h) (Or.inl ⟨by rfl, ?hy2z24⟩) (by assumption) ?rest2z24
                  case hy2z24 => (intro w hSw; (try dsimp only at hSw); go_simp; try (with_reducible rfl))
                  simp only [Act.put, List.setIfInBounds_toArray, List.set_cons_zero, List.set_cons_succ]
                  refine wpAnyH_done (by kernel_rfl) ?_ _
                  go_wp2_with fail
                  all_goals (go_ret; exact ⟨rfl, ext_trans HB1.out (HP.out.ext HB8.out).below⟩)
                exact AllReadyH.nil
              exact AllReadyH.nil
            exact AllReadyH.nil
          exact AllReadyH.nil
        exact AllReadyH.nil
      exact AllReadyH.nil
end
end Go.Proofs.YtolajmfmphkkiaaGreatDoor

/- A name stored into an element of a slice of the function's own. -/
namespace Go.Proofs.YtolajmfmphkkiaaGreatDoor
open Go.RowKit Go.Sort

theorem add0 (g n : Nat) : (⟨g, 0, none⟩ : Addr).add n = ⟨g, n, none⟩ := by
  unfold Addr.add
  simp
  exact fun h => h.symm
theorem run_storeAt_id (w : World) (a : Addr) (x : Id3) (c0 c1 c2 : Value) (h0 : w.cell? a = some c0) (f0 : w.frozen? a = false) (f1 : w.frozen? ⟨a.block, a.off + 1, none⟩ = false) (f2 : w.frozen? ⟨a.block, a.off + 2, none⟩ = false)
    (h1 : ∀ u, (w.setCell a u).cell? ⟨a.block, a.off + 1, none⟩ = some c1) (h2 : ∀ u v, ((w.setCell a u).setCell ⟨a.block, a.off + 1, none⟩ v).cell? ⟨a.block, a.off + 2, none⟩ = some c2) :
    (Instr.storeAt 41 (.pointer (some a)) (.agg #[.int .i64 x.b, .int .i64 x.s, .int .i64 x.p])).run Tryz.prog w = .ok () (((w.setCell a (.int .i64 x.b)).setCell ⟨a.block, a.off + 1, none⟩ (.int .i64 x.s)).setCell ⟨a.block, a.off + 2, none⟩ (.int .i64 x.p)) := by
  go_simp
theorem set_flat {l : List Id3} {k : Nat} {x : Id3} (hk : k < l.length) : ((((l.flatMap idC).set (k * 3) (.int .i64 x.b)).set (k * 3 + 1) (.int .i64 x.s)).set (k * 3 + 2) (.int .i64 x.p)) = (l.set k x).flatMap idC := by
  induction l generalizing k with
  | nil => simp at hk
  | cons a l ih =>
    cases k with
    | zero =>
      simp only [List.flatMap_cons, List.set_cons_zero]
      rfl
    | succ k =>
      have h := ih (k := k) (by simpa using hk)
      rw [List.set_cons_succ, List.flatMap_cons, List.flatMap_cons, ← h]
      show List.set (List.set (List.set (idC a ++ l.flatMap idC) ((k + 1) * 3) _) ((k + 1) * 3 + 1) _) ((k + 1) * 3 + 2) _ = _
      rw [show (k + 1) * 3 = (idC a).length + k * 3 by show (k + 1) * 3 = 3 + k * 3; omega]
      rw [show (idC a).length + k * 3 + 1 = (idC a).length + (k * 3 + 1) by omega, show (idC a).length + k * 3 + 2 = (idC a).length + (k * 3 + 2) by omega]
      rw [List.set_append_right _ _ (by omega), List.set_append_right _ _ (by omega), List.set_append_right _ _ (by omega)]
      simp only [Nat.add_sub_cancel_left]
theorem own_store_id {w : World} {base n cap : Nat} {ad : Addr} {l : List Id3} (h : w.ownsRow base 41 3 (.slice (some ad) n cap) n (l.flatMap idC)) (hl : l.length = n) {k : Nat} (hk : k < n) (x : Id3) :
    ∃ w', (Instr.storeAt 41 (.pointer (some (ad.add (k * 3)))) (.agg #[.int .i64 x.b, .int .i64 x.s, .int .i64 x.p])).run Tryz.prog w = .ok () w' ∧ w'.ownsRow base 41 3 (.slice (some ad) n cap) n ((l.set k x).flatMap idC) ∧ w.grownBy w' (some ad.block) ∧ w'.heap.size = w.heap.size := by
  obtain ⟨g, hg, hb, _⟩ := own_some h (by omega)
  injection hg with hg
  subst hg
  obtain ⟨y, hy⟩ : ∃ y, l[k]? = some y := ⟨_, List.getElem?_eq_getElem (by omega)⟩
  obtain ⟨ad', hA, hc⟩ := (Rd.of_own (B := 0) h).cell (by omega)
  injection hA with hA
  subst hA
  have hat : ∀ j, j < 3 → w.cell? ⟨g, k * 3 + j, none⟩ = some ((idC y).getD j (.int .i64 0)) := fun j hj => by
    rw [← add0 g]
    refine hc (k * 3 + j) _ ?_
    have h1 := idsC_at hy (j := j) hj
    rw [show idsC l = l.flatMap idC from rfl] at h1
    rw [h1, List.getElem?_eq_getElem (by exact hj), List.getD_eq_getElem?_getD, List.getElem?_eq_getElem (by exact hj)]
    rfl
  have hfr := own_frozen h
  refine ⟨_, run_storeAt_id w ((⟨g, 0, none⟩ : Addr).add (k * 3)) x _ _ _ (by rw [add0]; exact hat 0 (by omega)) (by rw [add0]; exact hfr _) (by rw [add0]; exact hfr _) (by rw [add0]; exact hfr _) (fun u => by rw [World.cell?_setCell_other _ _ _ _ (by rw [add0]; simp), add0]; exact hat 1 (by omega)) (fun u v => by rw [World.cell?_setCell_other _ _ _ _ (by rw [add0]; simp), World.cell?_setCell_other _ _ _ _ (by rw [add0]; simp), add0]; exact hat 2 (by omega)), ?_, ?_, by simp [World.setCell]⟩
  · rw [add0, ← set_flat (by omega)]
    exact own_set (own_set (own_set h _ _) _ _) _ _
  · rw [add0]
    exact ((grownBy_set w g _ _).trans (grownBy_set _ g _ _)).trans (grownBy_set _ g _ _)
theorem step_storeAt {P : Program} {ops : Array Oper} {o : Oper} {a : Act} {Q : Exit → Act → World → Prop} {K : Act → World → Prop} {E : Prop} (hg : o.guard = none) (t : TypeId) (pa px : Operand) (hop : o.op = Op.store t pa px) (va vx : Value) (ha : a.eval pa = va) (hx : a.eval px = vx) {w w' : World}
    (hrun : (Instr.storeAt t va vx).run P w = .ok () w') (h : K (a.put o.dst undef) w') : if Region.wanted o (yielded ops a.tmps) = true then Oper.wp P o a w K Q else E := by
  rw [if_pos (by simp [Region.wanted, hg])]
  unfold Oper.wp
  simp [execOp, hop, ha, hx, hrun, Result.andThen]
  exact h
end Go.Proofs.YtolajmfmphkkiaaGreatDoor
