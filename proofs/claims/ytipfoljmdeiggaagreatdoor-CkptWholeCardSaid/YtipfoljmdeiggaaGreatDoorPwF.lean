/- WireD, WireE, Ways, WayO, Disk, DiskB, DiskC: laid together. -/
import Derived.Test.YtipfoljmdeiggaaGreatDoorPwE
import Derived.Maps.OwnOps

/- Rows as bytes: wire.Rows of the program. -/
namespace Go.Proofs.YtipfoljmdeiggaaGreatDoor
open Go.RowKit Go.Sort

theorem intsize {n : Int} (h : I64 n) : (intB n).length ≤ 10 := intB_len h.1 h.2
set_option maxRecDepth 100000 in
set_option maxHeartbeats 8000000 in
theorem wRows_c (B : Nat) (l : List Rw) (A : Option Addr) (c : Nat) (w : World) (h : Rd w B 74 2 A l.length (rwsC l)) (hl : l.length ≤ 64) (h64 : ∀ x ∈ l, I64 x.k ∧ I64 x.v) :
    Calls Tryz.prog 127 #[.slice A l.length c] w (BytesPost w (rowsB l)) := by
  have HL := Lib.hid h
  have H64 := Lib.hid h64
  have hn1 : (-9223372036854775808 : Int) ≤ (l.length : Int) := by omega
  have hn2 : (l.length : Int) ≤ 9223372036854775807 := by omega
  have hi10 := intB_len hn1 hn2
  clear h h64
  go_enter Tryz.func127, Tryz.ntmps127
  go_wp2_with (first
    | (go_at_call 194; refine (wInt_c (l.length : Nat) _ hn1 hn2).mono ?_; rintro e w1 ⟨A1, c1, rfl, hown, hb⟩; have HO1 := Lib.hid hown; have HB1 := Lib.hid hb; clear hown hb))
  go_loopg [3, 11] l.length (fun gk v3 v11 wr => ∃ (i : Nat) (b : List Nat), i + gk = l.length ∧ v11 = .int .i64 (i : Nat) ∧ Hid (b = intB l.length ++ (l.take i).flatMap rowB) ∧ b.length ≤ 10 + 20 * i ∧ wr.ownsRow w.heap.size 5 1 v3 b.length (b.flatMap byC) ∧ Below w.heap.size w wr)
  case atStart => exact ⟨0, intB l.length, by omega, rfl, Lib.hid (by simp), by omega, HO1.out, HB1.out⟩
  case round =>
    obtain ⟨i, b, hik, rfl, hb0, hbl, hown, hb⟩ := hrel
    obtain ⟨A3, c3, rfl, hc3⟩ := own_shape hown
    have HO := Lib.hid hown
    have HB := Lib.hid hb
    clear hown hb
    by_cases hi : i < l.length
    · have hy : l[i]? = some (l[i]) := List.getElem?_eq_getElem hi
      generalize l[i] = x at hy
      obtain ⟨hxk, hxv⟩ := H64.out x (List.mem_of_getElem? hy)
      have hk10 := intsize hxk
      have hv10 := intsize hxv
      obtain ⟨ad, rfl, d0, d1⟩ := (HL.out.same (w' := wr) (fun _ ad _ hl => HB.out.block _ hl)).rws hy hi
      have hdl := World.block_lt_of_cell? wr _ d0
      have HS := Lib.hid (show intB l.length ++ (l.take (i + 1)).flatMap rowB = (b ++ intB x.k) ++ intB x.v from (by rw [take_succ_of hy, List.flatMap_append, ← List.append_assoc, ← hb0.out]; simp [rowB]))
      have HXk := Lib.hid hxk
      have HXv := Lib.hid hxv
      clear hy hxk hxv
      go_wp2_with fail
      have HX := Lib.hid (Bk.new wr 74 #[.int .i64 x.k, .int .i64 x.v])
      have HOd := Lib.hid (HO.out.alloc (.cells #[.int .i64 x.k, .int .i64 x.v] 74))
      have HBd := Lib.hid (ext_alloc HB.out (.cells #[.int .i64 x.k, .int .i64 x.v] 74))
      obtain ⟨bx, hbx⟩ : ∃ bx, bx = wr.heap.size := ⟨_, rfl⟩
      have hbw : w.heap.size ≤ bx := by have := HB.out.size; omega
      rw [← hbx] at HX ⊢
      generalize hwa : wr.alloc (.cells #[.int .i64 x.k, .int .i64 x.v] 74) = wa at HX HOd HBd ⊢
      have x0 : wa.cell? ⟨bx, 0, none⟩ = some (.int .i64 x.k) := (HX.out.cell 0).trans rfl
      have x1 : wa.cell? ⟨bx, 1, none⟩ = some (.int .i64 x.v) := (HX.out.cell 1).trans rfl
      clear hwa hbx d0 d1 hdl HO HB
      have HC := Lib.hid (show Bk wa.drew bx 74 #[.int .i64 x.k, .int .i64 x.v] from HX.out)
      have HO := Lib.hid (show wa.drew.ownsRow w.heap.size 5 1 (.slice A3 b.length c3) b.length (b.flatMap byC) from HOd.out)
      have HB := Lib.hid (show Below w.heap.size w wa.drew from HBd.out.drew)
      clear HX HOd HBd
      refine wp_region_held_drew (S := (fun w' => w'.cell? ⟨bx, 0, none⟩ = some (.int .i64 x.k) ∧ w'.cell? ⟨bx, 1, none⟩ = some (.int .i64 x.v))) (by kernel_rfl) ?_ (fun hHeld => ?_)
      · (first | exact ⟨(HC.out.cell 0).trans rfl, (HC.out.cell 1).trans rfl⟩ | go_keep)
      refine wpAnyH_take (i := 0) (oi := { dst := some 15, op := Go.Op.move (Go.Operand.tmp 3), type := 39, pos := "wire.go:72", after := #[], guard := none }) (v := ?v1z0) rfl (by kernel_rfl) (by kernel_rfl) (by kernel_rfl) (fun _ _ _ h => h) (Or.inl ⟨by rfl, ?hy1z0⟩) (by assumption) ?rest1z0
      case hy1z0 => (intro w hSw; (try dsimp only at hSw); go_simp; try (with_reducible rfl))
      simp only [Act.put, List.setIfInBounds_toArray, List.set_cons_zero, List.set_cons_succ]
      refine wpAnyH_take (i := 1) (oi := { dst := some 16, op := Go.Op.fieldAddr 74 (Go.Operand.tmp 5) 0, type := 0, pos := "wire.go:72", after := #[], guard := none }) (v := ?v1z1) rfl (by kernel_rfl) (by kernel_rfl) (by kernel_rfl) (fun _ _ _ h => h) (Or.inl ⟨by rfl, ?hy1z1⟩) (by assumption) ?rest1z1
      case hy1z1 => (intro w hSw; (try dsimp only at hSw); go_simp; try (with_reducible rfl))
      simp only [Act.put, List.setIfInBounds_toArray, List.set_cons_zero, List.set_cons_succ]
      refine wpAnyH_take (i := 2) (oi := { dst := some 17, op := Go.Op.load 3 (Go.Operand.tmp 16), type := 3, pos := "wire.go:72", after := #[{ on := 1, ground := Go.Ground.data }], guard := none }) (v := ?v1z2) rfl (by kernel_rfl) (by kernel_rfl) (by kernel_rfl) (fun _ _ _ h => h) (Or.inl ⟨by rfl, ?hy1z2⟩) (by assumption) ?rest1z2
      case hy1z2 => (intro w hSw; (try dsimp only at hSw); go_simp; try (with_reducible rfl))
      simp only [Act.put, List.setIfInBounds_toArray, List.set_cons_zero, List.set_cons_succ]
      refine wpAnyH_take (i := 5) (oi := { dst := some 20, op := Go.Op.fieldAddr 74 (Go.Operand.tmp 5) 1, type := 0, pos := "wire.go:72", after := #[], guard := none }) (v := ?v1z5) rfl (by kernel_rfl) (by kernel_rfl) (by kernel_rfl) (fun _ _ _ h => h) (Or.inl ⟨by rfl, ?hy1z5⟩) (by assumption) ?rest1z5
      case hy1z5 => (intro w hSw; (try dsimp only at hSw); go_simp; try (with_reducible rfl))
      simp only [Act.put, List.setIfInBounds_toArray, List.set_cons_zero, List.set_cons_succ]
      refine wpAnyH_take (i := 6) (oi := { dst := some 21, op := Go.Op.load 3 (Go.Operand.tmp 20), type := 3, pos := "wire.go:72", after := #[{ on := 5, ground := Go.Ground.data }], guard := none }) (v := ?v1z6) rfl (by kernel_rfl) (by kernel_rfl) (by kernel_rfl) (fun _ _ _ h => h) (Or.inl ⟨by rfl, ?hy1z6⟩) (by assumption) ?rest1z6
      case hy1z6 => (intro w hSw; (try dsimp only at hSw); go_simp; try (with_reducible rfl))
      simp only [Act.put, List.setIfInBounds_toArray, List.set_cons_zero, List.set_cons_succ]
      refine wpAnyH_ready (rs := [3]) (by kernel_rfl) (by simp) ?_
      refine AllReadyH.cons (o := { dst := some 18, op := Go.Op.call { callee := Go.Callee.value (Go.Operand.func 194), args := #[Go.Operand.tmp 17], argTypes := #[3] }, type := 39, pos := "wire.go:72", after := #[{ on := 2, ground := Go.Ground.data }], guard := none }) rfl (fun K hK => ?_) ?_
      ·
        go_simp
        go_at_call 194
        refine (wInt_c x.k _ HXk.out.1 HXk.out.2).mono ?_
        rintro e wk ⟨Ak, ck, rfl, hok, hbk⟩
        have HC := Lib.hid (HC.out.ext hbk)
        have HO := Lib.hid (own_ext HO.out hbk)
        have HB := Lib.hid (ext_trans HB.out hbk)
        have HK := Lib.hid hok
        try (have HV := Lib.hid (own_ext HV.out hbk))
        clear hok hbk
        refine hK.out _ _ ?_ (fun hHeld => ?_)
        · (first | exact ⟨(HC.out.cell 0).trans rfl, (HC.out.cell 1).trans rfl⟩ | go_keep)
        clear hK K
        try simp only [Act.put, List.setIfInBounds_toArray, List.set_cons_zero, List.set_cons_succ]
        refine wpAnyH_ready (rs := [4]) (by kernel_rfl) (by simp) ?_
        refine AllReadyH.cons (o := { dst := some 19, op := Go.Op.call { callee := Go.Callee.builtin Go.Builtin.append, args := #[Go.Operand.tmp 15, Go.Operand.tmp 18], argTypes := #[39, 39] }, type := 39, pos := "wire.go:72", after := #[{ on := 0, ground := Go.Ground.data }, { on := 3, ground := Go.Ground.data }, { on := 3, ground := Go.Ground.chain }], guard := none }) rfl (fun K hK => ?_) ?_
        ·
          refine step_appR byte_app _ rfl (.tmp 15) (.tmp 18) rfl w.heap.size (.slice A3 b.length c3) b (by rfl) HO.out (intB x.k) 0 Ak (intB x.k).length ck (by rfl) rfl (Rd.of_own HK.out) (by omega) (by have := HB.out.size; omega) ?_
          intro A4 c4 w4 hown4 hg4 hc4
          generalize hb4 : b ++ intB x.k = b4 at hown4 hc4 ⊢
          have HB4 := Lib.hid hb4
          have hl4 : b4.length = b.length + (intB x.k).length := by rw [← hb4, List.length_append]
          have HL4 := Lib.hid hl4
          clear hb4 hl4
          have HC := Lib.hid (HC.out.grown hg4 (fun e => own_blk_ne' HO.out HC.out (by decide) e.symm))
          have HB := Lib.hid (below_grownOwn HB.out HO.out (Nat.le_refl _) hg4)
          try (have HV := Lib.hid (own_off2 HV.out hg4 HN.out))
          have HO := Lib.hid hown4
          clear hown4 hg4
          refine hK.out _ _ ?_ (fun hHeld => ?_)
          · (first | exact ⟨(HC.out.cell 0).trans rfl, (HC.out.cell 1).trans rfl⟩ | go_keep)
          clear hK K
          try simp only [Act.put, List.setIfInBounds_toArray, List.set_cons_zero, List.set_cons_succ]
          refine wpAnyH_ready (rs := [7]) (by kernel_rfl) (by simp) ?_
          refine AllReadyH.cons (o := { dst := some 22, op := Go.Op.call { callee := Go.Callee.value (Go.Operand.func 194), args := #[Go.Operand.tmp 21], argTypes := #[3] }, type := 39, pos := "wire.go:72", after := #[{ on := 6, ground := Go.Ground.data }, { on := 4, ground := Go.Ground.chain }], guard := none }) rfl (fun K hK => ?_) ?_
          ·
            go_simp
            go_at_call 194
            refine (wInt_c x.v _ HXv.out.1 HXv.out.2).mono ?_
            rintro e wv ⟨Av, cv, rfl, hov, hbv⟩
            have HN := Lib.hid (fun k hk => (HO.out.lt k hk).2)
            have HC := Lib.hid (HC.out.ext hbv)
            have HO := Lib.hid (own_ext HO.out hbv)
            have HB := Lib.hid (ext_trans HB.out hbv)
            have HV := Lib.hid hov
            try (have HK := Lib.hid (own_ext HK.out hbv))
            clear hov hbv
            refine hK.out _ _ ?_ (fun hHeld => ?_)
            · (first | exact ⟨(HC.out.cell 0).trans rfl, (HC.out.cell 1).trans rfl⟩ | go_keep)
            clear hK K
            try simp only [Act.put, List.setIfInBounds_toArray, List.set_cons_zero, List.set_cons_succ]
            refine wpAnyH_ready (rs := [8]) (by kernel_rfl) (by simp) ?_
            refine AllReadyH.cons (o := { dst := some 23, op := Go.Op.call { callee := Go.Callee.builtin Go.Builtin.append, args := #[Go.Operand.tmp 19, Go.Operand.tmp 22], argTypes := #[39, 39] }, type := 39, pos := "wire.go:72", after := #[{ on := 4, ground := Go.Ground.data }, { on := 7, ground := Go.Ground.data }, { on := 7, ground := Go.Ground.chain }], guard := none }) rfl (fun K hK => ?_) ?_
            ·
              refine step_appR byte_app _ rfl (.tmp 19) (.tmp 22) rfl w.heap.size (.slice A4 b4.length c4) b4 (by rfl) HO.out (intB x.v) 0 Av (intB x.v).length cv (by rfl) rfl (Rd.of_own HV.out) (by have := HL4.out; omega) (by have := HB.out.size; omega) ?_
              intro A5 c5 w5 hown5 hg5 hc5
              generalize hb5 : b4 ++ intB x.v = b5 at hown5 hc5 ⊢
              have HB5 := Lib.hid hb5
              have hl5 : b5.length = b4.length + (intB x.v).length := by rw [← hb5, List.length_append]
              have HL5 := Lib.hid hl5
              clear hb5 hl5
              have HC := Lib.hid (HC.out.grown hg5 (fun e => own_blk_ne' HO.out HC.out (by decide) e.symm))
              have HB := Lib.hid (below_grownOwn HB.out HO.out (Nat.le_refl _) hg5)
              have HO := Lib.hid hown5
              clear hown5 hg5
              refine hK.out _ _ ?_ (fun hHeld => ?_)
              · (first | exact ⟨(HC.out.cell 0).trans rfl, (HC.out.cell 1).trans rfl⟩ | go_keep)
              clear hK K
              try simp only [Act.put, List.setIfInBounds_toArray, List.set_cons_zero, List.set_cons_succ]
              refine wpAnyH_take (i := 9) (oi := { dst := some 3, op := Go.Op.assign (Go.Operand.tmp 23), type := 39, pos := "wire.go:72", after := #[{ on := 8, ground := Go.Ground.data }, { on := 8, ground := Go.Ground.chain }, { on := 0, ground := Go.Ground.phase }, { on := 1, ground := Go.Ground.phase }, { on := 2, ground := Go.Ground.phase }, { on := 3, ground := Go.Ground.phase }, { on := 4, ground := Go.Ground.phase }, { on := 5, ground := Go.Ground.phase }, { on := 6, ground := Go.Ground.phase }, { on := 7, ground := Go.Ground.phase }, { on := 8, ground := Go.Ground.phase }], guard := none }) (v := ?v1z9) rfl (by kernel_rfl) (by kernel_rfl) (by kernel_rfl) (fun _ _ _ h => h) (Or.inl ⟨by rfl, ?hy1z9⟩) (by assumption) ?rest1z9
              case hy1z9 => (intro w hSw; (try dsimp only at hSw); go_simp; try (with_reducible rfl))
              simp only [Act.put, List.setIfInBounds_toArray, List.set_cons_zero, List.set_cons_succ]
              refine wpAnyH_done (by kernel_rfl) ?_ _
              go_wp2_with fail
              go_roundg (gk - 1)
              case measure => omega
              case rel => exact ⟨i + 1, b5, by omega, by go_num, Lib.hid (by rw [← HB5.out, ← HB4.out]; exact HS.out.symm), by have h1 := HL4.out; have h2 := HL5.out; omega, HO.out, HB.out⟩
            exact AllReadyH.nil
          exact AllReadyH.nil
        exact AllReadyH.nil
      exact AllReadyH.nil
    · have hil : i = l.length := by omega
      subst hil
      have hb1 := hb0.out
      rw [List.take_length] at hb1
      have HF := Lib.hid (show b = rowsB l from hb1)
      clear hb1 hb0
      go_wp2_with fail
      go_ret
      have h := HF.out
      subst h
      exact ⟨A3, c3, rfl, HO.out, HB.out⟩
end Go.Proofs.YtipfoljmdeiggaaGreatDoor

/- Rows as bytes: wire.ReadRows of the program. -/
namespace Go.Proofs.YtipfoljmdeiggaaGreatDoor
open Go.RowKit Go.Sort

def ReadRPost (w : World) (r : RdR) (e : Ending) (w' : World) : Prop :=
  (∀ l next, r = .ok l next → ∃ A c, e = .returned (.tuple #[.slice A l.length c, .int .i64 (next : Nat), .nilIface]) ∧ w'.ownsRow w.heap.size 74 2 (.slice A l.length c) l.length (rwsC l) ∧ Below w.heap.size w w') ∧
  (∀ code, r = .bad code → ∃ v at_, e = .returned (.tuple #[.slice none 0 0, .int .i64 0, v]) ∧ ErrAt w' v at_ code ∧ Below w.heap.size w w')
theorem readRPost_bad {w w' : World} {code : Int} {r : RdR} {e : Ending} (hr : r = .bad code) (h : ∃ v at_, e = .returned (.tuple #[.slice none 0 0, .int .i64 0, v]) ∧ ErrAt w' v at_ code ∧ Below w.heap.size w w') : ReadRPost w r e w' :=
  ⟨(fun n next h' => by rw [hr] at h'; cases h'), (fun c h' => by rw [hr] at h'; cases h'; exact h)⟩
theorem readRPost_ok {w w' : World} {l : List Rw} {next : Nat} {r : RdR} {e : Ending} (hr : r = .ok l next) (h : ∃ A c, e = .returned (.tuple #[.slice A l.length c, .int .i64 (next : Nat), .nilIface]) ∧ w'.ownsRow w.heap.size 74 2 (.slice A l.length c) l.length (rwsC l) ∧ Below w.heap.size w w') : ReadRPost w r e w' :=
  ⟨(fun n' next' h' => by rw [hr] at h'; cases h'; exact h), (fun c h' => by rw [hr] at h'; cases h')⟩
/-- Where the reading of one row stands. -/
def RowSt (b : List Nat) (a0 : Nat) (j : Nat) (k v : Int) (a : Nat) : Prop :=
  (j = 0 ∧ a = a0 ∧ k = 0 ∧ v = 0) ∨ (j = 1 ∧ readI b (a0 : Nat) = .ok k a ∧ v = 0) ∨ (j = 2 ∧ ∃ a1 : Nat, readI b (a0 : Nat) = .ok k a1 ∧ readI b (a1 : Nat) = .ok v a)
theorem rowSt_le {b : List Nat} {a0 j a : Nat} {k v : Int} (h : RowSt b a0 j k v a) (h0 : a0 ≤ b.length) : a ≤ b.length := by
  rcases h with ⟨_, h, _⟩ | ⟨_, h, _⟩ | ⟨_, a1, _, h⟩
  · omega
  · exact (readI_behind h).2.2
  · exact (readI_behind h).2.2
set_option maxRecDepth 100000 in
set_option maxHeartbeats 8000000 in
theorem readRows_c (S : Nat → Prop) (b : List Nat) (A : Option Addr) (c : Nat) (at_ : Int) (w : World) (h : RdS w S 1 A b.length (bytesC b)) (hb : ∀ x ∈ b, x < 256) (hl : b.length ≤ 1000000) :
    Calls Tryz.prog 201 #[.slice A b.length c, .int .i64 at_] w (ReadRPost w (readR b at_)) := by
  have HR := Lib.hid (show readR b at_ = (match readI b at_ with
    | .bad e => RdR.bad e
    | .ok n next => if n < 0 then .bad 12 else if 64 < n then .bad 2 else readN b n.toNat next []) from rfl)
  have HO := Lib.hid h
  have HBy := Lib.hid hb
  cases hr : readI b at_ with
  | bad code =>
    have HF := Lib.hid (show readR b at_ = .bad code from by rw [HR.out, hr])
    have HI := Lib.hid hr
    clear h hb hr HR
    go_enter Tryz.func201, Tryz.ntmps201
    go_wp2_with (first
      | (go_at_call 192; refine (readInt_c S b A c at_ _ HO.out HBy.out hl).mono ?_; rintro e w1 hpost; obtain ⟨v, rfl, hE, hb⟩ := hpost.2 code HI.out; obtain ⟨fb, s, v', n, rfl, hE⟩ := hE; have HE := Lib.hid hE; have HB := Lib.hid hb; clear hE hb hpost))
    go_ret3
    exact readRPost_bad HF.out ⟨_, at_, rfl, ⟨fb, s, v', n, rfl, HE.out⟩, HB.out⟩
  | ok n next =>
    have HI := Lib.hid hr
    have hnx := (readI_behind hr).2.2
    by_cases hn0 : n < 0
    · have HF := Lib.hid (show readR b at_ = .bad 12 from by rw [HR.out, hr]; simp only; rw [if_pos hn0])
      have u0 : decide (n < 0) = true := decide_eq_true hn0
      clear h hb hr HR hn0
      go_enter Tryz.func201, Tryz.ntmps201
      go_wp2_with (first
        | (go_at_call 192; refine (readInt_c S b A c at_ _ HO.out HBy.out hl).mono ?_; rintro e w1 hpost; obtain ⟨rfl, hb⟩ := hpost.1 n next HI.out; have HB := Lib.hid hb; clear hb hpost)
        | (go_at_call 251; refine (wFault_c _ _ _).mono ?_; rintro e w2 ⟨v, rfl, hE, hb⟩; have HE := Lib.hid hE; have HB2 := Lib.hid (ext_trans HB.out hb); clear hE hb))
      go_ret3
      exact readRPost_bad HF.out ⟨_, at_, rfl, HE.out, HB2.out⟩
    · by_cases hn64 : 64 < n
      · have HF := Lib.hid (show readR b at_ = .bad 2 from by rw [HR.out, hr]; simp only; rw [if_neg hn0, if_pos hn64])
        have u0 : decide (n < 0) = false := decide_eq_false hn0
        have u1 : decide (64 < n) = true := decide_eq_true hn64
        clear h hb hr HR hn0
        go_enter Tryz.func201, Tryz.ntmps201
        go_wp2_with (first
          | (go_at_call 192; refine (readInt_c S b A c at_ _ HO.out HBy.out hl).mono ?_; rintro e w1 hpost; obtain ⟨rfl, hb⟩ := hpost.1 n next HI.out; have HB := Lib.hid hb; clear hb hpost)
          | (go_at_call 251; refine (wFault_c _ _ _).mono ?_; rintro e w2 ⟨v, rfl, hE, hb⟩; have HE := Lib.hid hE; have HB2 := Lib.hid (ext_trans HB.out hb); clear hE hb))
        go_ret3
        exact readRPost_bad HF.out ⟨_, at_, rfl, HE.out, HB2.out⟩
      · obtain ⟨N, rfl⟩ : ∃ N : Nat, n = (N : Nat) := ⟨n.toNat, by omega⟩
        have HF := Lib.hid (show readR b at_ = readN b N next [] from by rw [HR.out, hr]; simp only; rw [if_neg hn0, if_neg hn64, Int.toNat_natCast])
        have u0 : decide (((N : Nat) : Int) < 0) = false := decide_eq_false hn0
        have u1 : decide ((64 : Int) < (N : Nat)) = false := decide_eq_false hn64
        have hN : N ≤ 64 := by omega
        clear h hb hr HR hn0 hn64
        go_enter Tryz.func201, Tryz.ntmps201
        go_wp2_with (first
          | (go_at_call 192; refine (readInt_c S b A c at_ _ HO.out HBy.out hl).mono ?_; rintro e w1 hpost; obtain ⟨rfl, hb⟩ := hpost.1 _ next HI.out; have HB := Lib.hid hb; clear hb hpost))
        go_loopg [4, 5, 6, 32] N (fun gk v4 v5 v6 v32 wr => ∃ (m a : Nat) (acc : List Rw), m + gk = N ∧ v32 = .int .i64 (m : Nat) ∧ v5 = .int .i64 (a : Nat) ∧ v6 = .nilIface ∧ a ≤ b.length ∧ acc.length = m ∧ Hid (readR b at_ = readN b gk a acc) ∧ wr.ownsRow w.heap.size 74 2 v4 acc.length (acc.flatMap rwC) ∧ Below w.heap.size w wr)
        case atStart => exact ⟨0, next, [], by omega, rfl, rfl, rfl, hnx, rfl, HF, World.ownsRow_nil _ _ _ _, HB.out⟩
        case round =>
          obtain ⟨m, a, acc, hmk, rfl, rfl, rfl, hal, hacc, hrd, hown, hb⟩ := hrel
          obtain ⟨A4, c4, rfl, hc4⟩ := own_shape hown
          have HOw := Lib.hid hown
          have HBw := Lib.hid hb
          have HAc := Lib.hid hacc
          clear hown hb hacc
          by_cases hm : m < N
          · obtain ⟨wo, rfl⟩ : ∃ wo : World, wo = wr := ⟨_, rfl⟩
            obtain ⟨go, rfl⟩ : ∃ go : Nat, go = gk := ⟨_, rfl⟩
            have hgo : 0 < go := by omega
            go_wp2_with fail
            go_loopg [4, 5, 6, 34] 2 (fun gk v4 v5 v6 v34 wr => ∃ (j a1 : Nat) (k v : Int), v4 = .slice A4 acc.length c4 ∧ j + gk = 2 ∧ v34 = .int .i64 (j : Nat) ∧ v5 = .int .i64 (a1 : Nat) ∧ v6 = .nilIface ∧ Hid (RowSt b a j k v a1) ∧ Bk wr wo.heap.size 348 #[.int .i64 k, .int .i64 v] ∧ Below wo.heap.size wo wr)
            case atStart => exact ⟨0, a, 0, 0, rfl, by omega, rfl, rfl, rfl, Lib.hid (.inl ⟨rfl, rfl, rfl, rfl⟩), Bk.new _ _ _, ext_alloc (Below.refl _ _) _⟩
            case round =>
              obtain ⟨j, a1, k, v, rfl, hjk, rfl, rfl, rfl, hst, hx, hb⟩ := hrel
              have HBo := Lib.hid hb
              have HBr := Lib.hid (ext_trans HBw.out hb)
              have HXw := Lib.hid hx
              clear hb hx
              obtain ⟨g, rfl⟩ : ∃ g, go = g + 1 := ⟨go - 1, by omega⟩
              rcases hst.out with ⟨rfl, rfl, rfl, rfl⟩ | ⟨rfl, hk, rfl⟩ | ⟨rfl, a0, hk, hv⟩
              · cases hq : readI b (a1 : Nat) with
                | bad code =>
                  have HQ := Lib.hid hq
                  have HX := Lib.hid (show readR b at_ = .bad code from (by rw [hrd.out, readN, hq]))
                  clear hq
                  go_wp2_with (first
                    | (go_at_call 192; refine (readInt_c S b A c (a1 : Nat) _ (HO.out.ext HBr.out) HBy.out hl).mono ?_; rintro e w2 hpost; obtain ⟨ve, rfl, hE, hb⟩ := hpost.2 code HQ.out; obtain ⟨fb, sx, v', n, rfl, hE⟩ := hE; have HE := Lib.hid hE
                       have HB2 := Lib.hid (ext_trans HBr.out hb); have HX2 := Lib.hid (HXw.out.ext hb)
                       have x0 : w2.cell? ⟨wo.heap.size, 0, none⟩ = some (.int .i64 0) := (HX2.out.cell 0).trans rfl
                       have x1 : w2.cell? ⟨wo.heap.size, 1, none⟩ = some (.int .i64 0) := (HX2.out.cell 1).trans rfl
                       have f0 := HX2.out.frozen 0
                       have f1 := HX2.out.frozen 1
                       have hxl2 := HX2.out.lt
                       clear hE hb hpost))
                  go_ret3
                  exact readRPost_bad HX.out ⟨_, _, rfl, ErrAt.farBk (v := .iface 178 (.pointer (some ⟨fb, 0, none⟩))) ⟨fb, sx, v', n, rfl, HE.out⟩ HX2.out (by decide), HB2.out.setCell (by show w.heap.size ≤ wo.heap.size; exact HBw.out.size) _⟩
                | ok kk a2 =>
                  have HQ := Lib.hid hq
                  clear hq
                  have ha2 := (readI_behind HQ.out).2.2
                  go_wp2_with (first
                    | (go_at_call 192; refine (readInt_c S b A c (a1 : Nat) _ (HO.out.ext HBr.out) HBy.out hl).mono ?_; rintro e w2 hpost; obtain ⟨rfl, hb⟩ := hpost.1 kk a2 HQ.out
                       have HB2 := Lib.hid (ext_trans HBo.out hb); have HX2 := Lib.hid (HXw.out.ext hb)
                       have x0 : w2.cell? ⟨wo.heap.size, 0, none⟩ = some (.int .i64 0) := (HX2.out.cell 0).trans rfl
                       have x1 : w2.cell? ⟨wo.heap.size, 1, none⟩ = some (.int .i64 0) := (HX2.out.cell 1).trans rfl
                       have f0 := HX2.out.frozen 0
                       have f1 := HX2.out.frozen 1
                       have hxl2 := HX2.out.lt
                       clear hb hpost))
                  go_roundg (gk - 1)
                  case measure => omega
                  case rel => exact ⟨1, a2, kk, 0, rfl, by omega, rfl, rfl, rfl, Lib.hid (.inr (.inl ⟨rfl, HQ.out, rfl⟩)), HX2.out.set_ 0 _, HB2.out.setCell (Nat.le_refl _) _⟩
              · have HKK := Lib.hid hk
                clear hk
                cases hq : readI b (a1 : Nat) with
                | bad code =>
                  have HQ := Lib.hid hq
                  have HX := Lib.hid (show readR b at_ = .bad code from (by rw [hrd.out, readN, HKK.out]; simp only; rw [hq]))
                  clear hq
                  go_wp2_with (first
                    | (go_at_call 192; refine (readInt_c S b A c (a1 : Nat) _ (HO.out.ext HBr.out) HBy.out hl).mono ?_; rintro e w2 hpost; obtain ⟨ve, rfl, hE, hb⟩ := hpost.2 code HQ.out; obtain ⟨fb, sx, v', n, rfl, hE⟩ := hE; have HE := Lib.hid hE
                       have HB2 := Lib.hid (ext_trans HBr.out hb); have HX2 := Lib.hid (HXw.out.ext hb)
                       have x0 : w2.cell? ⟨wo.heap.size, 0, none⟩ = some (.int .i64 k) := (HX2.out.cell 0).trans rfl
                       have x1 : w2.cell? ⟨wo.heap.size, 1, none⟩ = some (.int .i64 0) := (HX2.out.cell 1).trans rfl
                       have f0 := HX2.out.frozen 0
                       have f1 := HX2.out.frozen 1
                       have hxl2 := HX2.out.lt
                       clear hE hb hpost))
                  go_ret3
                  exact readRPost_bad HX.out ⟨_, _, rfl, ErrAt.farBk (v := .iface 178 (.pointer (some ⟨fb, 0, none⟩))) ⟨fb, sx, v', n, rfl, HE.out⟩ HX2.out (by decide), HB2.out.setCell (by show w.heap.size ≤ wo.heap.size; exact HBw.out.size) _⟩
                | ok kk a2 =>
                  have HQ := Lib.hid hq
                  clear hq
                  have ha2 := (readI_behind HQ.out).2.2
                  go_wp2_with (first
                    | (go_at_call 192; refine (readInt_c S b A c (a1 : Nat) _ (HO.out.ext HBr.out) HBy.out hl).mono ?_; rintro e w2 hpost; obtain ⟨rfl, hb⟩ := hpost.1 kk a2 HQ.out
                       have HB2 := Lib.hid (ext_trans HBo.out hb); have HX2 := Lib.hid (HXw.out.ext hb)
                       have x0 : w2.cell? ⟨wo.heap.size, 0, none⟩ = some (.int .i64 k) := (HX2.out.cell 0).trans rfl
                       have x1 : w2.cell? ⟨wo.heap.size, 1, none⟩ = some (.int .i64 0) := (HX2.out.cell 1).trans rfl
                       have f0 := HX2.out.frozen 0
                       have f1 := HX2.out.frozen 1
                       have hxl2 := HX2.out.lt
                       clear hb hpost))
                  go_roundg (gk - 1)
                  case measure => omega
                  case rel => exact ⟨2, a2, k, kk, rfl, by omega, rfl, rfl, rfl, Lib.hid (.inr (.inr ⟨rfl, a1, HKK.out, HQ.out⟩)), HX2.out.set_ 1 _, HB2.out.setCell (Nat.le_refl _) _⟩
              · have x0 : wr.cell? ⟨wo.heap.size, 0, none⟩ = some (.int .i64 k) := (HXw.out.cell 0).trans rfl
                have x1 : wr.cell? ⟨wo.heap.size, 1, none⟩ = some (.int .i64 v) := (HXw.out.cell 1).trans rfl
                have hxl := HXw.out.lt
                have ha2 := (readI_behind hv).2.2
                have HS := Lib.hid (show readR b at_ = readN b g a1 (acc ++ [⟨k, v⟩]) from (by rw [hrd.out, readN, hk]; simp only; rw [hv]))
                have hacl : (acc ++ [(⟨k, v⟩ : Rw)]).length = acc.length + 1 := by simp
                have HAC := Lib.hid hacl
                have hacm := HAc.out
                have hal2 : acc.length ≤ 64 := by omega
                have HAm := Lib.hid hacm
                clear hk hv hacl hacm
                go_wp2_with (first
                  | (at_builtin; refine wpList_appE row_app _ rfl (.tmp 50) (.tmp 56) rfl w.heap.size (.slice A4 acc.length c4) acc (by rfl) ((own_ext HOw.out HBo.out).alloc _) ⟨k, v⟩ _ rfl (Bk.new _ _ _) (by omega) (by have := HBr.out.size; simp only [World.size_alloc]; omega) ?_; intro A5 c5 w5 hown5 hg5 hc5
                     have HO5 := Lib.hid hown5
                     have HB5 := Lib.hid (below_grownOwn (ext_alloc HBr.out _) ((own_ext HOw.out HBo.out).alloc _) (Nat.le_refl _) hg5)
                     clear hown5 hg5))
                go_roundg g
                case measure => omega
                case rel => exact ⟨m + 1, a1, acc ++ [⟨k, v⟩], by omega, by go_num, rfl, rfl, ha2, by rw [HAC.out, HAm.out], HS, by have h := HO5.out; rw [HAC.out] at h ⊢; exact h, HB5.out⟩
          · have hmN : m = N := by omega
            have hg0 : gk = 0 := by omega
            have HF2 := Lib.hid (show readR b at_ = .ok acc a from (by rw [hrd.out, hg0]; rfl))
            clear hmN hg0
            go_wp2_with fail
            go_ret3
            exact readRPost_ok HF2.out ⟨A4, c4, rfl, HOw.out, HBw.out⟩
end Go.Proofs.YtipfoljmdeiggaaGreatDoor

/- The ways of a plan, in the program: what they are in memory; Has. -/
namespace Go.Proofs.YtipfoljmdeiggaaGreatDoor
open Go.RowKit Go.Sort

structure WaysAt (B wb mb : Nat) (R : Nat → Prop) (p : PlanD) (A K : Option Addr) (c kc : Nat) (es : List (Id3 × Value)) (w : World) : Prop where
  bk : Bk w wb 312 #[.slice K p.ops.length kc, .int .i64 p.parts, .slice A p.ops.length c, .map (some mb)]
  ops : RdS w (· < B) 5 A p.ops.length (opsC p.ops)
  kept : RdS w R 1 K p.ops.length (boolsC (keptL p.ops))
  map : MapIs idV w mb es
  ent : ∀ x v, (x, v) ∈ es → ∃ (s q : Nat) (A' : Option Addr) (c' : Nat), x = ⟨1, (s : Nat), (q : Nat)⟩ ∧ v = .slice A' (ownL p.ops p.parts.toNat s q).length c' ∧ RdS w R 3 A' (ownL p.ops p.parts.toNat s q).length (ptsC (ownL p.ops p.parts.toNat s q))
  rw : R wb
  rm : R mb
  bd : ∀ k, R k → B ≤ k ∧ k < w.heap.size
def WaysIs (B wb : Nat) (R : Nat → Prop) (p : PlanD) (A K : Option Addr) (c kc : Nat) (w : World) : Prop := ∃ mb es, WaysAt B wb mb R p A K c kc es w
section
variable {B wb mb : Nat} {R S : Nat → Prop} {p : PlanD} {A K : Option Addr} {c kc : Nat} {es : List (Id3 × Value)} {w w' : World}
theorem WaysAt.fr (h : WaysAt B wb mb R p A K c kc es w) (hf : Fr S w w') (hR : ∀ k, R k → ¬ S k) (hB : ∀ k, k < B → ¬ S k) : WaysAt B wb mb R p A K c kc es w' :=
  ⟨h.bk.fr hf (hR _ h.rw), h.ops.fr hf hB, h.kept.fr hf hR, h.map.fr hf (hR _ h.rm), fun x v hx => by
    obtain ⟨s, q, A', c', h1, h2, h3⟩ := h.ent x v hx
    exact ⟨s, q, A', c', h1, h2, h3.fr hf hR⟩, h.rw, h.rm, fun k hk => ⟨(h.bd k hk).1, Nat.lt_of_lt_of_le (h.bd k hk).2 hf.size⟩⟩
theorem WaysIs.fr (h : WaysIs B wb R p A K c kc w) (hf : Fr S w w') (hR : ∀ k, R k → ¬ S k) (hB : ∀ k, k < B → ¬ S k) : WaysIs B wb R p A K c kc w' := by
  obtain ⟨mb, es, h⟩ := h
  exact ⟨mb, es, h.fr hf hR hB⟩
theorem WaysIs.ext (h : WaysIs B wb R p A K c kc w) (hb : Below w.heap.size w w') : WaysIs B wb R p A K c kc w' := h.fr (S := No) (Fr.of_below hb) (fun _ _ h => h) (fun _ _ h => h)
theorem WaysIs.bd (h : WaysIs B wb R p A K c kc w) : ∀ k, R k → B ≤ k ∧ k < w.heap.size := by
  obtain ⟨mb, es, h⟩ := h
  exact h.bd
end
def hasB (p : PlanD) (x : Id3) : Bool := decide (1 ≤ x.b) && (decide (0 ≤ x.s) && (decide (x.s < p.ops.length) && (decide (0 ≤ x.p) && decide (x.p < p.parts))))
set_option maxRecDepth 100000 in
set_option maxHeartbeats 4000000 in
theorem has_c (B wb : Nat) (R : Nat → Prop) (p : PlanD) (A K : Option Addr) (c kc : Nat) (x : Id3) (w : World) (h : WaysIs B wb R p A K c kc w) (hp : Shaped p) :
    Calls Tryz.prog 224 #[.pointer (some ⟨wb, 0, none⟩), idV x] w (BoolPost w (hasB p x)) := by
  obtain ⟨mb, es, h⟩ := h
  have z1 : w.cell? ⟨wb, 1, none⟩ = some (.int .i64 p.parts) := (h.bk.cell 1).trans rfl
  have z2 : w.cell? ⟨wb, 2, none⟩ = some (.slice A p.ops.length c) := (h.bk.cell 2).trans rfl
  have hwl := h.bk.lt
  have hn12 := hp.n12
  have hne : wb ≠ w.heap.size := by omega
  obtain ⟨xb, xs, xp⟩ := x
  have hc : (∃ r : Bool, hasB p ⟨xb, xs, xp⟩ = r ∧ ((r = false ∧ decide (1 ≤ xb) = false) ∨ (r = false ∧ decide (1 ≤ xb) = true ∧ decide (0 ≤ xs) = false) ∨ (r = false ∧ decide (1 ≤ xb) = true ∧ decide (0 ≤ xs) = true ∧ decide (xs < p.ops.length) = false)
    ∨ (r = false ∧ decide (1 ≤ xb) = true ∧ decide (0 ≤ xs) = true ∧ decide (xs < p.ops.length) = true ∧ decide (0 ≤ xp) = false) ∨ (r = false ∧ decide (1 ≤ xb) = true ∧ decide (0 ≤ xs) = true ∧ decide (xs < p.ops.length) = true ∧ decide (0 ≤ xp) = true ∧ decide (xp < p.parts) = false)
    ∨ (r = true ∧ decide (1 ≤ xb) = true ∧ decide (0 ≤ xs) = true ∧ decide (xs < p.ops.length) = true ∧ decide (0 ≤ xp) = true ∧ decide (xp < p.parts) = true))) := by
    refine ⟨_, rfl, ?_⟩
    unfold hasB
    cases decide (1 ≤ xb) <;> cases decide (0 ≤ xs) <;> cases decide (xs < (p.ops.length : Int)) <;> cases decide (0 ≤ xp) <;> cases decide (xp < p.parts) <;> simp
  obtain ⟨r, hr, hc⟩ := hc
  have HR := Lib.hid hr
  clear hr h hp
  rcases hc with ⟨rfl, u1⟩ | ⟨rfl, u1, u2⟩ | ⟨rfl, u1, u2, u3⟩ | ⟨rfl, u1, u2, u3, u4⟩ | ⟨rfl, u1, u2, u3, u4, u5⟩ | ⟨rfl, u1, u2, u3, u4, u5⟩
  all_goals
    go_enter Tryz.func224, Tryz.ntmps224
    go_wp2_with fail
    go_quiet (fail)
    go_wp2_with fail
    go_ret
    rw [HR.out]
    exact ⟨rfl, below_drewN (ext_alloc (Below.refl _ _) _) _⟩
end Go.Proofs.YtipfoljmdeiggaaGreatDoor

/- The ways of a plan, in the program: Own. -/
namespace Go.Proofs.YtipfoljmdeiggaaGreatDoor
open Go.RowKit Go.Sort

theorem mget_mem {α : Type} [DecidableEq α] {m : List (α × Value)} {x : α} {v : Value} (h : mget m x = some v) : (x, v) ∈ m := by
  unfold mget at h
  rw [Option.map_eq_some_iff] at h
  obtain ⟨p, hp, hv⟩ := h
  have h1 := List.mem_of_find?_eq_some hp
  have h2 := List.find?_some hp
  simp only [decide_eq_true_eq] at h2
  rw [← h2, ← hv]
  exact h1
theorem mem_mset {α : Type} [DecidableEq α] {m : List (α × Value)} {x y : α} {v u : Value} (h : (y, u) ∈ mset m x v) : (y = x ∧ u = v) ∨ (y, u) ∈ m := by
  unfold mset at h
  split at h
  · obtain ⟨p, hp, he⟩ := List.mem_map.1 h
    split at he
    · cases he; exact .inl ⟨rfl, rfl⟩
    · rw [← he]; exact .inr hp
  · rcases List.mem_append.1 h with h | h
    · exact .inr h
    · rw [List.mem_singleton] at h; cases h; exact .inl ⟨rfl, rfl⟩
theorem zero_ids (w : World) : (zeroValue 59).run Tryz.prog w = .ok (.slice none 0 0) w := by kernel_rfl
def ptV (s q : Nat) : Id3 := ⟨1, (s : Nat), (q : Nat)⟩
/-- What Own tells. -/
def OwnPost (B wb : Nat) (R : Nat → Prop) (p : PlanD) (A K : Option Addr) (c kc : Nat) (l : List Pt) (w : World) (e : Ending) (w' : World) : Prop :=
  ∃ (A1 : Option Addr) (c1 : Nat) (R' : Nat → Prop), e = .returned (.slice A1 l.length c1) ∧ w'.ownsRow w.heap.size 61 3 (.slice A1 l.length c1) l.length (ptsC l) ∧ Fr R w w' ∧ WaysIs B wb R' p A K c kc w' ∧ (∀ k, R' k → R k ∨ w.heap.size ≤ k) ∧ (∀ k, (Value.slice A1 l.length c1).ownBlock = some k → ¬ R' k)
theorem good_own {p : PlanD} (hp : Shaped p) {s q : Nat} (hs : s < p.ops.length) (hq : q < p.parts.toNat) : Good (ownL p.ops p.parts.toNat s q) := by
  have hok : OpsOk p.ops := fun i o h => (hp.op i o h).2
  refine ⟨own_nodup s q, fun y hy => ?_⟩
  have h1 := ((own_mem hok s q y).1 hy).lt hok
  have := hp.n12
  have := hp.p4
  omega
set_option maxRecDepth 100000 in
set_option maxHeartbeats 4000000 in
theorem own_hit_c (B wb mb : Nat) (R : Nat → Prop) (p : PlanD) (A K : Option Addr) (c kc : Nat) (es : List (Id3 × Value)) (s q : Nat) (v : Value) (w : World) (h : WaysAt B wb mb R p A K c kc es w) (hp : Shaped p) (hs : s < p.ops.length) (hq : q < p.parts.toNat) (hv : mget es (ptV s q) = some v) :
    Calls Tryz.prog 241 #[.pointer (some ⟨wb, 0, none⟩), .int .i64 (s : Nat), .int .i64 (q : Nat)] w (OwnPost B wb R p A K c kc (ownL p.ops p.parts.toNat s q) w) := by
  obtain ⟨s', q', A1, c1, e1, rfl, hR1⟩ := h.ent _ _ (mget_mem hv)
  have es' : s' = s := by simp only [ptV, Id3.mk.injEq] at e1; omega
  have eq' : q' = q := by simp only [ptV, Id3.mk.injEq] at e1; omega
  subst es' eq'
  have HH := Lib.hid (show hasB p (ptV s' q') = true from (by unfold hasB ptV; simp only [Bool.and_eq_true, decide_eq_true_eq]; omega))
  have hg := good_own hp hs hq
  have hgl := hg.len
  have HW := Lib.hid h
  have HP := Lib.hid hp
  have HV := Lib.hid hv
  have HR1 := Lib.hid hR1
  generalize ownL p.ops p.parts.toNat s' q' = l at hg hgl HV HR1 ⊢
  clear h hp hv hR1 e1 hg
  go_enter Tryz.func241, Tryz.ntmps241
  go_wp2_with (first
    | (go_at_call 224; refine (has_c B wb R p A K c kc (ptV s' q') _ (WaysIs.ext ⟨mb, es, HW.out⟩ (ext_alloc (Below.refl _ _) _)) HP.out).mono ?_; rw [HH.out]; rintro e w1 ⟨rfl, hb⟩
       have HB1 := Lib.hid (ext_trans (ext_alloc (Below.refl _ _) _) hb)
       have HX1 := Lib.hid ((Bk.new w 61 #[.int .i64 1, .int .i64 (s' : Nat), .int .i64 (q' : Nat)]).ext hb)
       have HW1 := Lib.hid (HW.out.fr (S := No) (Fr.of_below HB1.out) (fun _ _ h => h) (fun _ _ h => h))
       have x0 : w1.cell? ⟨w.heap.size, 0, none⟩ = some (.int .i64 1) := (HX1.out.cell 0).trans rfl
       have x1 : w1.cell? ⟨w.heap.size, 1, none⟩ = some (.int .i64 (s' : Nat)) := (HX1.out.cell 1).trans rfl
       have x2 : w1.cell? ⟨w.heap.size, 2, none⟩ = some (.int .i64 (q' : Nat)) := (HX1.out.cell 2).trans rfl
       have z3 : w1.cell? ⟨wb, 3, none⟩ = some (.map (some mb)) := (HW1.out.bk.cell 3).trans rfl
       have hxl := HX1.out.lt
       have hwl := HW1.out.bk.lt
       clear hb))
  have hl := fun n => (HW1.out.map.drewN n).lookup_ok idKey (t := 310) (e := 59) (by kernel_rfl) (zero_ids _) (ptV s' q')
  rw [HV.out] at hl
  simp only [ptV, Option.isSome_some, Option.getD_some] at hl
  go_quiet (fail)
  clear hl
  go_wp2_with (first
    | (at_builtin; refine wpList_appR pt_app _ rfl (.const (.slice none 0 0)) (.tmp 46) rfl w.heap.size (.slice none 0 0) [] rfl (World.ownsRow_nil _ _ _ _) l w1.heap.size A1 l.length c1 rfl rfl (by rw [← ptsC_eq]; exact ((HR1.out.ext HB1.out).ext (below_drewN (Below.refl _ _) _)).rd (by simp)) (by simp only [List.length_nil]; omega) (by have := HB1.out.size; simp only [World.heap_drewN]; omega) ?_; intro A2 c2 w2 hown2 hg2 hc2; have HO2 := Lib.hid hown2; have HG2 := Lib.hid hg2; clear hown2 hg2))
  go_ret
  have HB2 : Below w.heap.size w w2 := (below_drewN HB1.out _).grown HG2.out (by have := HB1.out.size; simpa using this) (fun k hk => by cases hk)
  refine ⟨A2, c2, R, rfl, by rw [ptsC_eq]; exact HO2.out, Fr.of_below HB2, WaysIs.ext ⟨mb, es, HW.out⟩ HB2, fun k hk => .inl hk, fun k hk hR => ?_⟩
  have h1 := (HO2.out.lt k hk).1
  have h2 := (HW.out.bd k hR).2
  omega
theorem WKeep.below {base kb B : Nat} {w w' : World} (h : WKeep base kb w w') (hk : B ≤ kb) (hb : B ≤ base) (hB : B ≤ w.heap.size) : Below B w w' :=
  ⟨h.os, h.tape, h.output, h.size, fun k hlt => by
    have h1 : k < w.heap.size := by omega
    rw [Array.getElem?_eq_getElem h1]
    exact h.block k _ (Array.getElem?_eq_getElem h1) (by omega) (.inl (by omega))⟩
theorem WPre.start {B wb mb : Nat} {R : Nat → Prop} {p : PlanD} {A K : Option Addr} {c kc : Nat} {es : List (Id3 × Value)} {w : World} (h : WaysAt B wb mb R p A K c kc es w) :
    WPre w.heap.size (w.heap.size + 1) w.heap.size wb p A K c kc (.map (some mb)) (w.alloc (.cells #[.pointer (some ⟨wb, 0, none⟩), .slice none 0 0] 372)) (.slice none 0 0) [] :=
  ⟨h.bk.alloc _, Bk.new _ _ _, (h.ops.rd (Nat.le_refl _)).alloc _, (h.kept.rd (Nat.le_refl _)).alloc _, World.ownsRow_nil _ _ _ _, ⟨List.nodup_nil, fun y hy => by cases hy⟩, Nat.le_refl _, Nat.lt_succ_self _, Nat.lt_succ_of_lt h.bk.lt, by simp⟩
theorem WaysAt.ext {B wb mb : Nat} {R : Nat → Prop} {p : PlanD} {A K : Option Addr} {c kc : Nat} {es : List (Id3 × Value)} {w w' : World} (h : WaysAt B wb mb R p A K c kc es w) (hb : Below w.heap.size w w') : WaysAt B wb mb R p A K c kc es w' := h.fr (S := No) (Fr.of_below hb) (fun _ _ h => h) (fun _ _ h => h)
/-- A new entry is laid. -/
theorem WaysAt.lay {B wb mb : Nat} {R : Nat → Prop} {p : PlanD} {A K : Option Addr} {c kc : Nat} {es : List (Id3 × Value)} {w w' : World} {s q : Nat} {A1 : Option Addr} {c1 base : Nat} (h : WaysAt B wb mb R p A K c kc es w) (hg : w.grownBy w' (some mb)) (hm : MapIs idV w' mb (mset es (ptV s q) (.slice A1 (ownL p.ops p.parts.toNat s q).length c1)))
    (hown : w.ownsRow base 61 3 (.slice A1 (ownL p.ops p.parts.toNat s q).length c1) (ownL p.ops p.parts.toNat s q).length (ptsC (ownL p.ops p.parts.toNat s q))) (hB : B ≤ base) :
    WaysAt B wb mb (fun k => R k ∨ (Value.slice A1 (ownL p.ops p.parts.toNat s q).length c1).ownBlock = some k) p A K c kc (mset es (ptV s q) (.slice A1 (ownL p.ops p.parts.toNat s q).length c1)) w' := by
  have hf : Fr (fun k => k = mb) w w' := Fr.refl.grown hg (fun k hk => .inl (by injection hk with hk; exact hk.symm))
  obtain ⟨es0, cl0, hmo⟩ := h.map.obj
  have hnm : ∀ {k : Nat} {cs : Array Value} {t : TypeId} {f : Nat × Nat}, w.heap[k]? = some (.cells cs t f) → k ≠ mb := by
    intro k cs t f hk e
    subst e
    rw [hmo] at hk
    cases hk
  have rds : ∀ {S : Nat → Prop} {z n : Nat} {A0 : Option Addr} {xs : List Value}, RdS w S z A0 n xs → 0 < z → RdS w' S z A0 n xs := by
    intro S z n A0 xs hr hz
    refine ⟨hr.1, fun hn => ?_⟩
    obtain ⟨ad, hA, hS, hl, hc⟩ := hr.2 hn
    refine ⟨ad, hA, hS, Nat.lt_of_lt_of_le hl hf.size, fun j u hu => ?_⟩
    have hp : 0 < xs.length := by rw [hr.1]; exact Nat.mul_pos hn hz
    have h0 := hc 0 _ (List.getElem?_eq_getElem hp)
    have hne : ad.block ≠ mb := by
      intro e
      rw [World.cell?] at h0
      rw [block_of_add, e, hmo] at h0
      cases h0
    rw [World.cell?_of_block (w := w) (by rw [block_of_add]; exact hf.block _ hl hne)]
    exact hc j u hu
  refine ⟨h.bk.fr hf (hnm h.bk), rds h.ops (by omega), (rds h.kept (by omega)).mono fun _ hk => .inl hk, hm, fun x v hx => ?_, .inl h.rw, .inl h.rm, fun k hk => ?_⟩
  · rcases mem_mset hx with ⟨rfl, rfl⟩ | hx
    · exact ⟨s, q, A1, c1, rfl, rfl, rds (RdS.of_own hown fun k hk => .inr hk) (by omega)⟩
    · obtain ⟨s', q', A', c', h1, h2, h3⟩ := h.ent x v hx
      exact ⟨s', q', A', c', h1, h2, (rds h3 (by omega)).mono fun _ hk => .inl hk⟩
  · rcases hk with hk | hk
    · exact ⟨(h.bd k hk).1, Nat.lt_of_lt_of_le (h.bd k hk).2 hf.size⟩
    · have := hown.lt k hk
      exact ⟨by omega, Nat.lt_of_lt_of_le this.2 hf.size⟩
set_option maxRecDepth 100000 in
set_option maxHeartbeats 4000000 in
theorem own_miss_c (B wb mb : Nat) (R : Nat → Prop) (p : PlanD) (A K : Option Addr) (c kc : Nat) (es : List (Id3 × Value)) (s q : Nat) (w : World) (h : WaysAt B wb mb R p A K c kc es w) (hp : Shaped p) (hs : s < p.ops.length) (hq : q < p.parts.toNat) (hv : mget es (ptV s q) = none) :
    Calls Tryz.prog 241 #[.pointer (some ⟨wb, 0, none⟩), .int .i64 (s : Nat), .int .i64 (q : Nat)] w (OwnPost B wb R p A K c kc (ownL p.ops p.parts.toNat s q) w) := by
  have HH := Lib.hid (show hasB p (ptV s q) = true from (by unfold hasB ptV; simp only [Bool.and_eq_true, decide_eq_true_eq]; omega))
  have hg := good_own hp hs hq
  have hgl := hg.len
  have HW := Lib.hid h
  have HP := Lib.hid hp
  have HV := Lib.hid hv
  have HD := Lib.hid (pdown_all (s + 1))
  have HL := Lib.hid (show down p.ops p.parts.toNat (s + 1) s q [] = ownL p.ops p.parts.toNat s q from rfl)
  have HS := Lib.hid (show ownL p.ops p.parts.toNat s q = ownL p.ops p.parts.toNat s q from rfl)
  obtain ⟨l, hl⟩ : ∃ l, l = ownL p.ops p.parts.toNat s q := ⟨_, rfl⟩
  rw [← hl] at hgl HL ⊢
  have HLl := Lib.hid hl
  clear h hp hv hg hl HS
  go_enter Tryz.func241, Tryz.ntmps241
  go_wp2_with (first
    | (go_at_call 224; refine (has_c B wb R p A K c kc (ptV s q) _ (WaysIs.ext ⟨mb, es, HW.out⟩ (ext_alloc (Below.refl _ _) _)) HP.out).mono ?_; rw [HH.out]; rintro e w1 ⟨rfl, hb⟩
       have HB1 := Lib.hid (ext_trans (ext_alloc (Below.refl _ _) _) hb)
       have HX1 := Lib.hid ((Bk.new w 61 #[.int .i64 1, .int .i64 (s : Nat), .int .i64 (q : Nat)]).ext hb)
       have HW1 := Lib.hid (HW.out.fr (S := No) (Fr.of_below HB1.out) (fun _ _ h => h) (fun _ _ h => h))
       have x0 : w1.cell? ⟨w.heap.size, 0, none⟩ = some (.int .i64 1) := (HX1.out.cell 0).trans rfl
       have x1 : w1.cell? ⟨w.heap.size, 1, none⟩ = some (.int .i64 (s : Nat)) := (HX1.out.cell 1).trans rfl
       have x2 : w1.cell? ⟨w.heap.size, 2, none⟩ = some (.int .i64 (q : Nat)) := (HX1.out.cell 2).trans rfl
       have z3 : w1.cell? ⟨wb, 3, none⟩ = some (.map (some mb)) := (HW1.out.bk.cell 3).trans rfl
       have hxl := HX1.out.lt
       have hwl := HW1.out.bk.lt
       clear hb))
  have hl := fun n => (HW1.out.map.drewN n).lookup_ok idKey (t := 310) (e := 59) (by kernel_rfl) (zero_ids _) (ptV s q)
  rw [HV.out] at hl
  simp only [ptV, Option.isSome_none, Option.getD_none] at hl
  go_quiet (fail)
  clear hl
  go_upto_region 9 with (first
    | (go_at_call 284; refine (HD.out _ _ _ wb p A K c kc s q _ [] _ _ HP.out (WPre.start (HW1.out.ext (below_drewN (Below.refl _ _) _))) (Nat.lt_succ_self _) hs hq).mono ?_; rw [HL.out]; rintro e w2 ⟨A5, c5, rfl, hown, hw, hkp⟩
       have HB2 := Lib.hid (show Below w.heap.size w w2 from (ext_alloc (below_drewN HB1.out _) _).trans (hkp.below HB1.out.size (Nat.le_succ_of_le HB1.out.size) (Nat.le_trans HB1.out.size (by simp))))
       have HW2 := Lib.hid (HW.out.ext HB2.out)
       have HX2 := Lib.hid (hkp.bk (((HX1.out.drewN _).alloc _)) (Nat.ne_of_lt HX1.out.lt) (.inl (Nat.lt_succ_of_lt HX1.out.lt)))
       have HK2 := Lib.hid hw
       have HO2 := Lib.hid hown
       have x0 : w2.cell? ⟨w.heap.size, 0, none⟩ = some (.int .i64 1) := (HX2.out.cell 0).trans rfl
       have x1 : w2.cell? ⟨w.heap.size, 1, none⟩ = some (.int .i64 (s : Nat)) := (HX2.out.cell 1).trans rfl
       have x2 : w2.cell? ⟨w.heap.size, 2, none⟩ = some (.int .i64 (q : Nat)) := (HX2.out.cell 2).trans rfl
       have z3 : w2.cell? ⟨wb, 3, none⟩ = some (.map (some mb)) := (HW2.out.bk.cell 3).trans rfl
       have k1 : w2.cell? ⟨w1.heap.size, 1, none⟩ = some (.slice A5 l.length c5) := (HK2.out.cell 1).trans rfl
       have hxl := HX2.out.lt
       have hwl := HW2.out.bk.lt
       have hkl := HK2.out.lt
       clear hown hw hkp))
  obtain ⟨w3, hrun3, hm3, hg3, hs3⟩ := (HW2.out.map.drew).store idKey Tryz.underlying310 (ptV s q) (.slice A5 l.length c5)
  have HM3 := Lib.hid hm3
  have HG3 := Lib.hid hg3
  have HS3 := Lib.hid hs3
  simp only [idV, ptV] at hrun3
  have HX3 := Lib.hid (HX2.out.drew.grown hg3 (fun e => HW2.out.map.ne_cells HX2.out (by injection e with e; exact e.symm)))
  have HV3 := Lib.hid (HW2.out.bk.drew.grown hg3 (fun e => HW2.out.map.ne_cells HW2.out.bk (by injection e with e; exact e.symm)))
  have w0 : w3.cell? ⟨w.heap.size, 0, none⟩ = some (.int .i64 1) := (HX3.out.cell 0).trans rfl
  have w1' : w3.cell? ⟨w.heap.size, 1, none⟩ = some (.int .i64 (s : Nat)) := (HX3.out.cell 1).trans rfl
  have w2' : w3.cell? ⟨w.heap.size, 2, none⟩ = some (.int .i64 (q : Nat)) := (HX3.out.cell 2).trans rfl
  have w3' : w3.cell? ⟨wb, 3, none⟩ = some (.map (some mb)) := (HV3.out.cell 3).trans rfl
  clear hm3 hg3 hs3
  go_region_held3 (fun w' => w'.cell? ⟨w.heap.size, 0, none⟩ = some (.int .i64 1) ∧ w'.cell? ⟨w.heap.size, 1, none⟩ = some (.int .i64 (s : Nat)) ∧ w'.cell? ⟨w.heap.size, 2, none⟩ = some (.int .i64 (q : Nat)) ∧ w'.cell? ⟨wb, 3, none⟩ = some (.map (some mb)))
    (go_keep) (fail)
  clear hrun3 w0 w1' w2' w3'
  have HO2' := Lib.hid (show w2.drew.ownsRow (w1.heap.size + 1) 61 3 (.slice A5 l.length c5) l.length (ptsC l) from HO2.out)
  have HW3 := Lib.hid (show WaysAt B wb mb (fun k => R k ∨ (Value.slice A5 l.length c5).ownBlock = some k) p A K c kc (mset es (ptV s q) (.slice A5 l.length c5)) w3 from (by
    have h1 := WaysAt.lay (w := w2.drew) (w' := w3) (s := s) (q := q) (A1 := A5) (c1 := c5) (base := w1.heap.size + 1) (HW2.out.ext (below_drewN (Below.refl _ _) 1))
    rw [← HLl.out] at h1
    exact h1 HG3.out HM3.out HO2'.out (by have := HW1.out.bd _ HW1.out.rw; omega)))
  have HO3 := Lib.hid (show w3.ownsRow (w1.heap.size + 1) 61 3 (.slice A5 l.length c5) l.length (ptsC l) from own_fr (S := fun k => k = mb) HO2'.out (Fr.refl.grown HG3.out (fun k hk => .inl (by injection hk with hk; exact hk.symm))) (fun k hk e => by
    subst e
    obtain ⟨es0, cl0, hmo⟩ := HW2.out.map.obj
    rcases HO2'.out.2 with ⟨hv, _⟩ | ⟨g, c, cur, hv, hb, hg, _⟩
    · rw [hv] at hk; cases hk
    · rw [hv] at hk
      injection hk with hk
      subst hk
      rw [show w2.drew.heap = w2.heap from rfl, hmo] at hg
      cases hg))
  go_wp2_with (first
    | (at_builtin; refine wpList_appR pt_app _ rfl (.const (.slice none 0 0)) (.tmp 46) rfl w3.heap.size (.slice none 0 0) [] rfl (World.ownsRow_nil _ _ _ _) l 0 A5 l.length c5 rfl rfl (by rw [← ptsC_eq]; exact Rd.of_own HO3.out) (by simp only [List.length_nil]; omega) (Nat.le_refl _) ?_; intro A2 c2 w4 hown2 hg2 hc2; have HO4 := Lib.hid hown2; have HG4 := Lib.hid hg2; clear hown2 hg2))
  go_ret
  have hB4 : Below w3.heap.size w3 w4 := (Below.refl _ _).grown HG4.out (Nat.le_refl _) (fun k hk => by cases hk)
  refine ⟨A2, c2, _, rfl, by rw [ptsC_eq]; exact own_mono HO4.out (by have h1 := HB2.out.size; have h2 := HS3.out; simp only [World.size_drew] at h2; omega), ?_, ⟨mb, _, HW3.out.ext hB4⟩, fun k hk => ?_, fun k hk hR => ?_⟩
  · refine Fr.ext ((Fr.of_below (S := R) HB2.out).drew.grown HG3.out (fun k hk => .inl ?_)) hB4
    injection hk with hk
    rw [← hk]
    exact HW.out.rm
  · rcases hk with hk | hk
    · exact .inl hk
    · refine .inr ?_
      have h1 := (HO2'.out.lt k hk).1
      have h2 := HB1.out.size
      omega
  · have h1 := (HO4.out.lt k hk).1
    have h2 := (HW3.out.bd k hR).2
    omega
theorem own_c (B wb : Nat) (R : Nat → Prop) (p : PlanD) (A K : Option Addr) (c kc : Nat) (s q : Nat) (w : World) (h : WaysIs B wb R p A K c kc w) (hp : Shaped p) (hs : s < p.ops.length) (hq : q < p.parts.toNat) :
    Calls Tryz.prog 241 #[.pointer (some ⟨wb, 0, none⟩), .int .i64 (s : Nat), .int .i64 (q : Nat)] w (OwnPost B wb R p A K c kc (ownL p.ops p.parts.toNat s q) w) := by
  obtain ⟨mb, es, h⟩ := h
  cases hv : mget es (ptV s q) with
  | some v => exact own_hit_c B wb mb R p A K c kc es s q v w h hp hs hq hv
  | none => exact own_miss_c B wb mb R p A K c kc es s q w h hp hs hq hv
end Go.Proofs.YtipfoljmdeiggaaGreatDoor

/- The stand-in disk, in memory; New, Down, Life, Room, Arm, Cut, Restart. -/
namespace Go.Proofs.YtipfoljmdeiggaaGreatDoor
open Go.RowKit Go.Sort

abbrev inV (n : Int) : Value := .int .i64 n
theorem int_equalIn (d : Nat) (x y : Int) (w : World) : (Op.equalIn (d + 1) 3 (.int .i64 x) (.int .i64 y)).run Tryz.prog w = .ok (decide (x = y)) w := by
  have hi : Tryz.prog.underlying 3 = some (.int .i64) := by kernel_rfl
  rw [run_equalIn_int w d _ _ _ x y hi]
  by_cases h : x = y <;> simp [h]
theorem findNow_int (x : Int) : ∀ (es : List MapEntry) (ks : List Int) (i : Nat), es.map (·.key) = ks.map inV →
    (x ∉ ks ∧ Instr.findNow (.int .i64) (.int .i64 x) es i = some none) ∨ ∃ j e, ks[j]? = some x ∧ es[j]? = some e ∧ Instr.findNow (.int .i64) (.int .i64 x) es i = some (some (i + j, e.val))
  | [], ks, i, h => by
    have : ks = [] := by simpa using h.symm
    subst this
    exact .inl ⟨by simp, rfl⟩
  | e :: es, ks, i, h => by
    match ks, h with
    | [], h => simp at h
    | y :: ks, h =>
      simp only [List.map_cons, List.cons.injEq] at h
      obtain ⟨hk, ht⟩ := h
      have hstep : Instr.findNow (.int .i64) (.int .i64 x) (e :: es) i = if x = y then some (some (i, e.val)) else Instr.findNow (.int .i64) (.int .i64 x) es (i + 1) := by
        rw [Instr.findNow, hk]
        show (match Instr.sameNow _ (Value.int IntKind.i64 x) (Value.int IntKind.i64 y) with | some true => _ | some false => _ | none => _) = _
        by_cases hxy : x = y
        · subst hxy
          simp [Instr.sameNow]
        · have hb : (x == y) = false := beq_eq_false_iff_ne.2 hxy
          simp [Instr.sameNow, hb, hxy]
      by_cases hxy : x = y
      · subst hxy
        exact .inr ⟨0, e, by simp, by simp, by rw [hstep]; simp⟩
      · rcases findNow_int x es ks (i + 1) ht with ⟨hn, hrun⟩ | ⟨j, e', h1, h2, h3⟩
        · exact .inl ⟨by simp [hxy, hn], by rw [hstep, if_neg hxy, hrun]⟩
        · exact .inr ⟨j + 1, e', by simpa using h1, by simpa using h2, by rw [hstep, if_neg hxy, h3]; congr 3; omega⟩
theorem intKey : KeyC Tryz.prog 3 inV where
  check em x w := by kernel_rfl
  stays x w := by
    have : Instr.sameBits 10000 (inV x) (inV x) = true := by simp [Instr.sameBits]
    simp [Instr.keyThatStays, this]
  find w x es ks h := by
    have hd : Tryz.prog.underlying 3 = some (.int .i64) := by kernel_rfl
    rcases findNow_int x es ks 0 h with ⟨hn, hrun⟩ | ⟨j, e', h1, h2, h3⟩
    · exact .inl ⟨hn, by simp [Instr.findKey, run_underlying hd, hrun]⟩
    · exact .inr ⟨j, e', h1, h2, by simp [Instr.findKey, run_underlying hd, h3]⟩
structure DiskD where
  room : Nat
  blk : Nat → Option (List Nat)
  down : Bool
  armed : Nat
  life : Nat
structure DiskAt (B db mb : Nat) (R : Nat → Prop) (d : DiskD) (es : List (Int × Value)) (wr : Int) (w : World) : Prop where
  bk : Bk w db 161 #[.int .i64 (d.room : Nat), .map (some mb), .bool d.down, .int .i64 (d.armed : Nat), .int .i64 wr, .int .i64 (d.life : Nat)]
  map : MapIs inV w mb es
  ent : ∀ (k : Int) (v : Value), (k, v) ∈ es → ∃ (n : Nat) (l : List Nat) (A : Option Addr) (c : Nat), k = (n : Nat) ∧ d.blk n = some l ∧ v = .slice A l.length c ∧ RdS w (fun k => R k ∧ k ≠ db) 1 A l.length (bytesC l) ∧ (∀ x ∈ l, x < 256) ∧ l.length ≤ 64
  all : ∀ (n : Nat), (mget es ((n : Nat) : Int)).isSome = (d.blk n).isSome
  rd : R db
  rm : R mb
  bd : ∀ k, R k → B ≤ k ∧ k < w.heap.size
  life : d.life ≤ 1000000
  armed : d.armed ≤ 9223372036854775807
  room1 : 1 ≤ d.room
  room2 : d.room ≤ 65536
def DiskIs (B db : Nat) (R : Nat → Prop) (d : DiskD) (w : World) : Prop := ∃ mb es wr, DiskAt B db mb R d es wr w
section
variable {B db mb : Nat} {R R' S : Nat → Prop} {d d' : DiskD} {es : List (Int × Value)} {wr : Int} {w w' : World}
theorem DiskAt.fr (h : DiskAt B db mb R d es wr w) (hf : Fr S w w') (hR : ∀ k, R k → ¬ S k) : DiskAt B db mb R d es wr w' :=
  ⟨h.bk.fr hf (hR _ h.rd), h.map.fr hf (hR _ h.rm), fun k v hk => by
    obtain ⟨n, l, A, c, h1, h2, h3, h4, h5⟩ := h.ent k v hk
    exact ⟨n, l, A, c, h1, h2, h3, h4.fr hf (fun k hk => hR k hk.1), h5⟩, h.all, h.rd, h.rm, fun k hk => ⟨(h.bd k hk).1, Nat.lt_of_lt_of_le (h.bd k hk).2 hf.size⟩, h.life, h.armed, h.room1, h.room2⟩
theorem DiskIs.fr (h : DiskIs B db R d w) (hf : Fr S w w') (hR : ∀ k, R k → ¬ S k) : DiskIs B db R d w' := by
  obtain ⟨mb, es, wr, h⟩ := h
  exact ⟨mb, es, wr, h.fr hf hR⟩
theorem DiskAt.ext (h : DiskAt B db mb R d es wr w) (hb : Below w.heap.size w w') : DiskAt B db mb R d es wr w' := h.fr (S := No) (Fr.of_below hb) (fun _ _ h => h)
theorem DiskIs.ext (h : DiskIs B db R d w) (hb : Below w.heap.size w w') : DiskIs B db R d w' := h.fr (S := No) (Fr.of_below hb) (fun _ _ h => h)
theorem DiskIs.bd (h : DiskIs B db R d w) : ∀ k, R k → B ≤ k ∧ k < w.heap.size := by
  obtain ⟨mb, es, wr, h⟩ := h
  exact h.bd
theorem DiskIs.rd (h : DiskIs B db R d w) : R db := by
  obtain ⟨mb, es, wr, h⟩ := h
  exact h.rd
/-- A field is set. -/
theorem DiskAt.put (h : DiskAt B db mb R d es wr w) {j : Nat} {u : Value} {wr' : Int} (hb : (#[.int .i64 (d.room : Nat), .map (some mb), .bool d.down, .int .i64 (d.armed : Nat), .int .i64 wr, .int .i64 (d.life : Nat)] : Array Value).setIfInBounds j u = #[.int .i64 (d'.room : Nat), .map (some mb), .bool d'.down, .int .i64 (d'.armed : Nat), .int .i64 wr', .int .i64 (d'.life : Nat)]) (hbl : d'.blk = d.blk) (hr : d'.room = d.room) (hl : d'.life ≤ 1000000) (ha : d'.armed ≤ 9223372036854775807) :
    DiskAt B db mb R d' es wr' (w.setCell ⟨db, j, none⟩ u) := by
  refine ⟨by rw [← hb]; exact h.bk.set_ j u, h.map.setCell _ _, fun k v hk => ?_, by rw [hbl]; exact h.all, h.rd, h.rm, fun k hk => by simpa using h.bd k hk, hl, ha, by rw [hr]; exact h.room1, by rw [hr]; exact h.room2⟩
  obtain ⟨n, l, A, c, h1, h2, h3, h4, h5⟩ := h.ent k v hk
  rw [hbl]
  exact ⟨n, l, A, c, h1, h2, h3, h4.fr (Fr.one w db j u) (fun k hk e => hk.2 e), h5⟩
end
/-! ### what a disk does -/
def DiskD.new (room : Nat) : DiskD := ⟨room, fun _ => none, false, 0, 0⟩
def DiskD.cut (d : DiskD) : DiskD := ⟨d.room, d.blk, true, 0, if d.down then d.life else d.life + 1⟩
def DiskD.arm (d : DiskD) (n : Int) : DiskD := if d.down then d else ⟨d.room, d.blk, d.down, (max n 0).toNat, d.life⟩
def DiskD.restart (d : DiskD) : DiskD := ⟨d.room, d.blk, false, d.armed, d.life⟩
/-- A raw write of a block that there is, of at most 64 bytes: the disk, and whether it was kept. -/
def DiskD.write (d : DiskD) (n : Nat) (l : List Nat) : DiskD × Bool :=
  if d.down then (d, false)
  else if d.armed = 1 then (d.cut, false)
  else (⟨d.room, fun k => if k = n then some l else d.blk k, false, d.armed - 1, d.life⟩, true)
theorem dFault_c (at_ code : Int) (w : World) : Calls Tryz.prog 94 #[.int .i64 at_, .int .i64 code] w (FaultPost w at_ code) := by
  go_enter Tryz.func94, Tryz.ntmps94
  go_wp2
  go_ret
  exact ⟨_, rfl, ⟨_, _, _, 0, rfl, Bk.new _ _ _, rfl⟩, ext_alloc (Below.refl _ _) _⟩
def DNewPost (room : Nat) (w : World) (e : Ending) (w' : World) : Prop :=
  ∃ (db : Nat) (R : Nat → Prop), e = .returned (.tuple #[.pointer (some ⟨db, 0, none⟩), .nilIface]) ∧ DiskIs w.heap.size db R (DiskD.new room) w' ∧ Below w.heap.size w w'
set_option maxRecDepth 100000 in
set_option maxHeartbeats 4000000 in
theorem dNew_c (room : Nat) (w : World) (h1 : 1 ≤ room) (h2 : room ≤ 65536) : Calls Tryz.prog 15 #[.int .i64 (room : Nat)] w (DNewPost room w) := by
  have hmm := @run_makeMap Tryz.prog
  have u1 : decide (room < 1) = false := decide_eq_false (by omega)
  have u1' : decide ((room : Int) < 1) = false := decide_eq_false (by omega)
  have u2 : decide ((65536 : Int) < (room : Nat)) = false := decide_eq_false (by omega)
  go_enter Tryz.func15, Tryz.ntmps15
  go_wp2_with fail
  go_ret2
  refine ⟨w.heap.size + 1, fun k => k = w.heap.size ∨ k = w.heap.size + 1, rfl, ⟨w.heap.size, [], 0, Bk.newAt (by simp), (MapIs.made inV w).alloc _, (fun _ _ h => by cases h), fun n => rfl, .inr rfl, .inl rfl, fun k hk => ?_, Nat.zero_le _, Nat.zero_le _, h1, h2⟩, ext_alloc (ext_alloc (Below.refl _ _) _) _⟩
  simp only [World.size_alloc]
  omega
section
variable {B db : Nat} {R : Nat → Prop} {d : DiskD}
set_option maxHeartbeats 4000000 in
theorem dDown_c (w : World) (h : DiskIs B db R d w) : Calls Tryz.prog 96 #[.pointer (some ⟨db, 0, none⟩)] w (Val w (.bool d.down)) := by
  obtain ⟨mb, es, wr, h⟩ := h
  have z2 : w.cell? ⟨db, 2, none⟩ = some (.bool d.down) := (h.bk.cell 2).trans rfl
  have hl := h.bk.lt
  clear h
  go_enter Tryz.func96, Tryz.ntmps96
  go_wp2_with fail
  go_ret
  exact ⟨rfl, rfl⟩
set_option maxHeartbeats 4000000 in
theorem dLife_c (w : World) (h : DiskIs B db R d w) : Calls Tryz.prog 97 #[.pointer (some ⟨db, 0, none⟩)] w (Val w (.int .i64 (d.life : Nat))) := by
  obtain ⟨mb, es, wr, h⟩ := h
  have z2 : w.cell? ⟨db, 5, none⟩ = some (.int .i64 (d.life : Nat)) := (h.bk.cell 5).trans rfl
  have hl := h.bk.lt
  clear h
  go_enter Tryz.func97, Tryz.ntmps97
  go_wp2_with fail
  go_ret
  exact ⟨rfl, rfl⟩
set_option maxHeartbeats 4000000 in
theorem dRoom_c (w : World) (h : DiskIs B db R d w) : Calls Tryz.prog 98 #[.pointer (some ⟨db, 0, none⟩)] w (Val w (.int .i64 (d.room : Nat))) := by
  obtain ⟨mb, es, wr, h⟩ := h
  have z2 : w.cell? ⟨db, 0, none⟩ = some (.int .i64 (d.room : Nat)) := (h.bk.cell 0).trans rfl
  have hl := h.bk.lt
  clear h
  go_enter Tryz.func98, Tryz.ntmps98
  go_wp2_with fail
  go_ret
  exact ⟨rfl, rfl⟩
/-- What a call that turns the disk alone leaves. -/
def DTurn (B db : Nat) (R : Nat → Prop) (d' : DiskD) (w : World) (e : Ending) (w' : World) : Prop := e = .returned (.tuple #[]) ∧ DiskIs B db R d' w' ∧ Fr R w w'
set_option maxHeartbeats 4000000 in
theorem dRestart_c (w : World) (h : DiskIs B db R d w) : Calls Tryz.prog 43 #[.pointer (some ⟨db, 0, none⟩)] w (DTurn B db R d.restart w) := by
  obtain ⟨mb, es, wr, h⟩ := h
  have z2 : w.cell? ⟨db, 2, none⟩ = some (.bool d.down) := (h.bk.cell 2).trans rfl
  have f2 := h.bk.frozen 2
  have hl := h.bk.lt
  have HD := Lib.hid h
  clear h
  go_enter Tryz.func43, Tryz.ntmps43
  go_wp2_with fail
  go_end0
  exact ⟨rfl, ⟨mb, es, wr, HD.out.put rfl rfl rfl HD.out.life HD.out.armed⟩, Fr.refl.set_ (.inl HD.out.rd) _⟩
set_option maxHeartbeats 4000000 in
theorem dCut_c (w : World) (h : DiskIs B db R d w) (hl2 : d.life + 1 ≤ 1000000) : Calls Tryz.prog 41 #[.pointer (some ⟨db, 0, none⟩)] w (DTurn B db R d.cut w) := by
  obtain ⟨mb, es, wr, h⟩ := h
  have z2 : w.cell? ⟨db, 2, none⟩ = some (.bool d.down) := (h.bk.cell 2).trans rfl
  have z3 : w.cell? ⟨db, 3, none⟩ = some (.int .i64 (d.armed : Nat)) := (h.bk.cell 3).trans rfl
  have z5 : w.cell? ⟨db, 5, none⟩ = some (.int .i64 (d.life : Nat)) := (h.bk.cell 5).trans rfl
  have f2 := h.bk.frozen 2
  have f3 := h.bk.frozen 3
  have f5 := h.bk.frozen 5
  have hl := h.bk.lt
  have HD := Lib.hid h
  clear h
  cases hdn : d.down with
  | true =>
    have HC := Lib.hid (show d.cut = ⟨d.room, d.blk, true, 0, d.life⟩ from by unfold DiskD.cut; rw [hdn]; rfl)
    rw [hdn] at z2
    clear hdn
    go_enter Tryz.func41, Tryz.ntmps41
    go_wp2_with fail
    go_end0
    rw [HC.out]
    exact ⟨rfl, ⟨mb, es, wr, (HD.out.put (d' := ⟨d.room, d.blk, true, d.armed, d.life⟩) (j := 2) (u := .bool true) rfl rfl rfl HD.out.life HD.out.armed).put (j := 3) (u := .int .i64 0) rfl rfl rfl HD.out.life (Nat.zero_le _)⟩, (Fr.refl.set_ (.inl HD.out.rd) _).set_ (.inl HD.out.rd) _⟩
  | false =>
    have HC := Lib.hid (show d.cut = ⟨d.room, d.blk, true, 0, d.life + 1⟩ from by unfold DiskD.cut; rw [hdn]; rfl)
    rw [hdn] at z2
    have HN := Lib.hid hdn
    clear hdn
    go_enter Tryz.func41, Tryz.ntmps41
    go_wp2_with fail
    go_end0
    rw [HC.out]
    exact ⟨rfl, ⟨mb, es, wr, ((HD.out.put (d' := ⟨d.room, d.blk, d.down, d.armed, d.life + 1⟩) (j := 5) (u := .int .i64 ((d.life : Int) + 1)) rfl rfl rfl hl2 HD.out.armed).put (d' := ⟨d.room, d.blk, true, d.armed, d.life + 1⟩) (j := 2) (u := .bool true) rfl rfl rfl hl2 HD.out.armed).put (j := 3) (u := .int .i64 0) rfl rfl rfl hl2 (Nat.zero_le _)⟩, ((Fr.refl.set_ (.inl HD.out.rd) _).set_ (.inl HD.out.rd) _).set_ (.inl HD.out.rd) _⟩
set_option maxHeartbeats 4000000 in
theorem dArm_c (n : Int) (w : World) (h : DiskIs B db R d w) (hn : n ≤ 9223372036854775807) : Calls Tryz.prog 39 #[.pointer (some ⟨db, 0, none⟩), .int .i64 n] w (DTurn B db R (d.arm n) w) := by
  obtain ⟨mb, es, wr, h⟩ := h
  have z2 : w.cell? ⟨db, 2, none⟩ = some (.bool d.down) := (h.bk.cell 2).trans rfl
  have z3 : w.cell? ⟨db, 3, none⟩ = some (.int .i64 (d.armed : Nat)) := (h.bk.cell 3).trans rfl
  have f3 := h.bk.frozen 3
  have hl := h.bk.lt
  have HD := Lib.hid h
  clear h
  cases hdn : d.down with
  | true =>
    have HC := Lib.hid (show d.arm n = d from by unfold DiskD.arm; rw [hdn]; rfl)
    rw [hdn] at z2
    clear hdn
    go_enter Tryz.func39, Tryz.ntmps39
    go_wp2_with fail
    go_end0
    rw [HC.out]
    exact ⟨rfl, ⟨mb, es, wr, HD.out⟩, Fr.refl⟩
  | false =>
    have HC := Lib.hid (show d.arm n = ⟨d.room, d.blk, d.down, (max n 0).toNat, d.life⟩ from by unfold DiskD.arm; rw [hdn]; rfl)
    rw [hdn] at z2
    clear hdn
    by_cases h0 : n < 0
    · have u0 : decide (n < 0) = true := decide_eq_true h0
      go_enter Tryz.func39, Tryz.ntmps39
      go_wp2_with fail
      go_end0
      rw [HC.out, show (max n 0).toNat = 0 from by omega]
      exact ⟨rfl, ⟨mb, es, wr, HD.out.put (j := 3) (u := .int .i64 0) rfl rfl rfl HD.out.life (Nat.zero_le _)⟩, Fr.refl.set_ (.inl HD.out.rd) _⟩
    · obtain ⟨m, rfl⟩ : ∃ m : Nat, n = (m : Nat) := ⟨n.toNat, by omega⟩
      have u0 : decide (((m : Nat) : Int) < 0) = false := decide_eq_false h0
      go_enter Tryz.func39, Tryz.ntmps39
      go_wp2_with fail
      go_end0
      rw [HC.out, show (max ((m : Nat) : Int) 0).toNat = m from by omega]
      exact ⟨rfl, ⟨mb, es, wr, HD.out.put (j := 3) (u := .int .i64 (m : Nat)) rfl rfl rfl HD.out.life (by show m ≤ _; omega)⟩, Fr.refl.set_ (.inl HD.out.rd) _⟩
end
end Go.Proofs.YtipfoljmdeiggaaGreatDoor

/- The stand-in disk: met, refused, Read, Write. -/
namespace Go.Proofs.YtipfoljmdeiggaaGreatDoor
open Go.RowKit Go.Sort

section
variable {B db : Nat} {R : Nat → Prop} {d : DiskD}
set_option maxHeartbeats 4000000 in
theorem met_down (a n : Int) (w : World) (h : DiskIs B db R d w) (hd : d.down = true) : Calls Tryz.prog 191 #[.pointer (some ⟨db, 0, none⟩), .int .i64 a, .int .i64 n] w (Val w (.int .i64 0)) := by
  obtain ⟨mb, es, wr, h⟩ := h
  have z2 : w.cell? ⟨db, 2, none⟩ = some (.bool d.down) := (h.bk.cell 2).trans rfl
  have hl := h.bk.lt
  rw [hd] at z2
  clear h hd
  go_enter Tryz.func191, Tryz.ntmps191
  go_wp2_with fail
  go_ret
  exact ⟨rfl, rfl⟩
set_option maxHeartbeats 4000000 in
theorem met_fine (a n : Nat) (w : World) (h : DiskIs B db R d w) (hd : d.down = false) (ha : a < d.room) (hn : n ≤ 64) : Calls Tryz.prog 191 #[.pointer (some ⟨db, 0, none⟩), .int .i64 (a : Nat), .int .i64 (n : Nat)] w (Val w (.int .i64 2)) := by
  obtain ⟨mb, es, wr, h⟩ := h
  have z0 : w.cell? ⟨db, 0, none⟩ = some (.int .i64 (d.room : Nat)) := (h.bk.cell 0).trans rfl
  have z2 : w.cell? ⟨db, 2, none⟩ = some (.bool d.down) := (h.bk.cell 2).trans rfl
  have hl := h.bk.lt
  have u1 : decide (((a : Nat) : Int) < 0) = false := decide_eq_false (by omega)
  have u2 : decide (d.room ≤ a) = false := decide_eq_false (by omega)
  have u3 : decide ((64 : Int) < (n : Nat)) = false := decide_eq_false (by omega)
  rw [hd] at z2
  clear h hd
  go_enter Tryz.func191, Tryz.ntmps191
  go_wp2_with fail
  go_ret
  exact ⟨rfl, rfl⟩
set_option maxHeartbeats 4000000 in
theorem refused_fine (a : Int) (w : World) : Calls Tryz.prog 190 #[.int .i64 2, .int .i64 a] w (Val w .nilIface) := by
  go_enter Tryz.func190, Tryz.ntmps190
  go_wp2_with fail
  go_ret
  exact ⟨rfl, rfl⟩
set_option maxHeartbeats 4000000 in
theorem refused_down (a : Int) (w : World) : Calls Tryz.prog 190 #[.int .i64 0, .int .i64 a] w (FaultPost w 0 70) := by
  go_enter Tryz.func190, Tryz.ntmps190
  go_wp2_with (first | (go_at_call 94; refine (dFault_c _ _ _).mono ?_; rintro e w1 ⟨v, rfl, hE, hb⟩; have HE := Lib.hid hE; have HB := Lib.hid hb; clear hE hb))
  go_ret
  exact ⟨v, rfl, HE.out, HB.out⟩
/-- What a block tells. -/
def DReadPost (o : Option (List Nat)) (w : World) (e : Ending) (w' : World) : Prop :=
  ∃ A c, e = .returned (.tuple #[.slice A (o.getD []).length c, .bool o.isSome, .nilIface]) ∧ w'.ownsRow w.heap.size 5 1 (.slice A (o.getD []).length c) (o.getD []).length ((o.getD []).flatMap byC) ∧ Below w.heap.size w w'
theorem zero_bytes (w : World) : (zeroValue 39).run Tryz.prog w = .ok (.slice none 0 0) w := by kernel_rfl
set_option maxRecDepth 100000 in
set_option maxHeartbeats 4000000 in
theorem dRead_c (a : Nat) (w : World) (h : DiskIs B db R d w) (hd : d.down = false) (ha : a < d.room) : Calls Tryz.prog 99 #[.pointer (some ⟨db, 0, none⟩), .int .i64 (a : Nat)] w (DReadPost (d.blk a) w) := by
  have HD := Lib.hid h
  obtain ⟨mb, es, wr, h⟩ := h
  have z1 : w.cell? ⟨db, 1, none⟩ = some (.map (some mb)) := (h.bk.cell 1).trans rfl
  have hl := h.bk.lt
  have hlk := h.map.lookup_ok intKey (t := 159) (e := 39) (by kernel_rfl) (zero_bytes _) ((a : Nat) : Int)
  cases hg : mget es ((a : Nat) : Int) with
  | none =>
    rw [hg] at hlk
    simp only [Option.isSome_none, Option.getD_none] at hlk
    have hn : d.blk a = none := by have := h.all a; rw [hg] at this; cases hb : d.blk a with | none => rfl | some _ => rw [hb] at this; cases this
    have HN := Lib.hid hn
    have HDn := Lib.hid hd
    clear h hg hn hd
    go_enter Tryz.func99, Tryz.ntmps99
    go_wp2_with (first
      | (go_at_call 191; refine (met_fine a 0 _ HD.out HDn.out ha (by omega)).mono ?_; rintro e w' ⟨rfl, rfl⟩)
      | (go_at_call 190; refine (refused_fine _ _).mono ?_; rintro e w' ⟨rfl, rfl⟩))
    go_ret3
    rw [HN.out]
    exact ⟨none, 0, rfl, World.ownsRow_nil _ _ _ _, Below.refl _ _⟩
  | some v =>
    obtain ⟨n, l, A, c, e1, e2, rfl, hr, hby, h64⟩ := h.ent _ _ (mget_mem hg)
    obtain rfl : n = a := by omega
    rw [hg] at hlk
    simp only [Option.isSome_some, Option.getD_some] at hlk
    have HN := Lib.hid e2
    have HDn := Lib.hid hd
    have HR := Lib.hid hr
    clear h hg e1 e2 hd hr hby
    go_enter Tryz.func99, Tryz.ntmps99
    go_wp2_with (first
      | (go_at_call 191; refine (met_fine n 0 _ HD.out HDn.out ha (by omega)).mono ?_; rintro e w' ⟨rfl, rfl⟩)
      | (go_at_call 190; refine (refused_fine _ _).mono ?_; rintro e w' ⟨rfl, rfl⟩)
      | (at_builtin; refine wpList_appR byte_app _ rfl (.const (.slice none 0 0)) (.tmp 27) rfl w.heap.size (.slice none 0 0) [] rfl (World.ownsRow_nil _ _ _ _) l w.heap.size A l.length c rfl rfl (by rw [bytesC_flat]; exact HR.out.rd (Nat.le_refl _)) (by simp only [List.length_nil]; omega) (Nat.le_refl _) ?_; intro A2 c2 w2 hown2 hg2 hc2; have HO2 := Lib.hid hown2; have HG2 := Lib.hid hg2; clear hown2 hg2))
    go_ret3
    rw [HN.out]
    exact ⟨A2, c2, rfl, HO2.out, (Below.refl _ _).grown HG2.out (Nat.le_refl _) (fun k hk => by cases hk)⟩
end
end Go.Proofs.YtipfoljmdeiggaaGreatDoor

/- The stand-in disk: Write. -/
namespace Go.Proofs.YtipfoljmdeiggaaGreatDoor
open Go.RowKit Go.Sort

def DWritePost (B db : Nat) (R : Nat → Prop) (d' : DiskD) (ok : Bool) (w : World) (e : Ending) (w' : World) : Prop :=
  (ok = true → e = .returned .nilIface) ∧ (ok = false → ∃ v at_, e = .returned v ∧ ErrAt w' v at_ 70) ∧ ∃ R' : Nat → Prop, DiskIs B db R' d' w' ∧ Fr R w w' ∧ (∀ k, R' k → R k ∨ w.heap.size ≤ k)
theorem wrote_no {B db : Nat} {R : Nat → Prop} {d' : DiskD} {w w' : World} {v : Value} {at_ : Int} (hE : ErrAt w' v at_ 70) (hD : DiskIs B db R d' w') (hf : Fr R w w') : DWritePost B db R d' false w (.returned v) w' :=
  ⟨(fun h => by cases h), fun _ => ⟨v, at_, rfl, hE⟩, R, hD, hf, fun k hk => .inl hk⟩
theorem mget_mset {α : Type} [DecidableEq α] {m : List (α × Value)} {x y : α} {v : Value} (hn : (m.map (·.1)).Nodup) : mget (mset m x v) y = if y = x then some v else mget m y := by
  have hkeys : ∀ z, (∃ u, (z, u) ∈ mset m x v) ↔ z = x ∨ z ∈ m.map (·.1) := by
    intro z
    constructor
    · rintro ⟨u, hu⟩
      rcases mem_mset hu with ⟨rfl, _⟩ | h
      · exact .inl rfl
      · exact .inr (List.mem_map_of_mem (f := Prod.fst) h)
    · unfold mset
      rintro (rfl | h)
      · split
        · next hx =>
          obtain ⟨p, hp, he⟩ := List.mem_map.1 hx
          exact ⟨v, List.mem_map.2 ⟨p, hp, by rw [if_pos he]⟩⟩
        · exact ⟨v, List.mem_append_right _ (by simp)⟩
      · obtain ⟨p, hp, he⟩ := List.mem_map.1 h
        split
        · by_cases hpx : p.1 = x
          · exact ⟨v, List.mem_map.2 ⟨p, hp, by rw [if_pos hpx, ← hpx, he]⟩⟩
          · exact ⟨p.2, List.mem_map.2 ⟨p, hp, by rw [if_neg hpx, ← he]⟩⟩
        · exact ⟨p.2, List.mem_append_left _ (by rw [← he]; exact hp)⟩
  have hnd : ((mset m x v).map (·.1)).Nodup := by
    unfold mset
    split
    · have : (m.map fun p => if p.1 = x then (x, v) else p).map (·.1) = m.map (·.1) := by
        rw [List.map_map]
        refine List.map_congr_left fun p _ => ?_
        simp only [Function.comp]
        split
        · next h => exact h.symm
        · rfl
      rw [this]
      exact hn
    · next hx =>
      rw [List.map_append, List.nodup_append]
      exact ⟨hn, by simp, fun a ha b hb e => by
        simp only [List.map_cons, List.map_nil, List.mem_singleton] at hb
        rw [e, hb] at ha
        exact hx ha⟩
  by_cases hyx : y = x
  · rw [if_pos hyx]
    refine mget_some hnd ?_
    obtain ⟨u, hu⟩ := (hkeys y).2 (.inl hyx)
    rcases mem_mset hu with ⟨_, rfl⟩ | h
    · exact hu
    · have hu2 : (y, v) ∈ mset m x v := by
        unfold mset
        rw [if_pos (by rw [← hyx]; exact List.mem_map_of_mem (f := Prod.fst) h)]
        exact List.mem_map.2 ⟨(y, u), h, by rw [if_pos hyx, hyx]⟩
      exact hu2
  · rw [if_neg hyx]
    cases hg : mget m y with
    | some u =>
      refine mget_some hnd ?_
      have h := mget_mem hg
      unfold mset
      split
      · exact List.mem_map.2 ⟨(y, u), h, by rw [if_neg hyx]⟩
      · exact List.mem_append_left _ h
    | none =>
      refine mget_none fun hy => ?_
      obtain ⟨p, hp, he⟩ := List.mem_map.1 hy
      have h1 := (hkeys y).1 ⟨p.2, by rw [← he]; exact hp⟩
      rcases h1 with h1 | h1
      · exact hyx h1
      · obtain ⟨q, hq, hqe⟩ := List.mem_map.1 h1
        have := mget_some hn (show (y, q.2) ∈ m by rw [← hqe]; exact hq)
        rw [hg] at this
        cases this
section
variable {B db : Nat} {R : Nat → Prop} {d : DiskD}
/-- A block is laid. -/
theorem DiskAt.lay {mb : Nat} {es : List (Int × Value)} {wr : Int} {w w' : World} {n : Nat} {l : List Nat} {A1 : Option Addr} {c1 base : Nat} (h : DiskAt B db mb R d es wr w) (hg : w.grownBy w' (some mb)) (hm : MapIs inV w' mb (mset es ((n : Nat) : Int) (.slice A1 l.length c1)))
    (hown : w.ownsRow base 5 1 (.slice A1 l.length c1) l.length (l.flatMap byC)) (hB : B ≤ base) (hdb : db < base) (hby : ∀ x ∈ l, x < 256) (h64 : l.length ≤ 64) :
    DiskAt B db mb (fun k => R k ∨ (Value.slice A1 l.length c1).ownBlock = some k) ⟨d.room, fun k => if k = n then some l else d.blk k, d.down, d.armed, d.life⟩ (mset es ((n : Nat) : Int) (.slice A1 l.length c1)) wr w' := by
  have hf : Fr (fun k => k = mb) w w' := Fr.map_ hg
  obtain ⟨es0, cl0, hmo⟩ := h.map.obj
  have hnm : ∀ {k : Nat} {cs : Array Value} {t : TypeId} {f : Nat × Nat}, w.heap[k]? = some (.cells cs t f) → k ≠ mb := by
    intro k cs t f hk e
    subst e
    rw [hmo] at hk
    cases hk
  have rds : ∀ {S : Nat → Prop} {n : Nat} {A0 : Option Addr} {xs : List Value}, RdS w S 1 A0 n xs → RdS w' S 1 A0 n xs := by
    intro S n A0 xs hr
    refine ⟨hr.1, fun hn => ?_⟩
    obtain ⟨ad, hA, hS, hl, hc⟩ := hr.2 hn
    refine ⟨ad, hA, hS, Nat.lt_of_lt_of_le hl hf.size, fun j u hu => ?_⟩
    have hp : 0 < xs.length := by rw [hr.1]; omega
    have h0 := hc 0 _ (List.getElem?_eq_getElem hp)
    have hne : ad.block ≠ mb := by
      intro e
      rw [World.cell?] at h0
      rw [block_of_add, e, hmo] at h0
      cases h0
    rw [World.cell?_of_block (w := w) (by rw [block_of_add]; exact hf.block _ hl hne)]
    exact hc j u hu
  refine ⟨h.bk.fr hf (hnm h.bk), hm, fun k v hx => ?_, fun m => ?_, .inl h.rd, .inl h.rm, fun k hk => ?_, h.life, h.armed, h.room1, h.room2⟩
  · rcases mem_mset hx with ⟨rfl, rfl⟩ | hx'
    · refine ⟨n, l, A1, c1, rfl, by simp, rfl, rds ?_, hby, h64⟩
      have := RdS.of_own (S := fun k => (R k ∨ (Value.slice A1 l.length c1).ownBlock = some k) ∧ k ≠ db) hown (fun k hk => ⟨.inr hk, by have := (hown.lt k hk).1; omega⟩)
      rw [bytesC_flat] at this
      exact this
    · by_cases hkn : k = (n : Int)
      · subst hkn
        have h1 := mget_some hm.nodup hx
        rw [mget_mset h.map.nodup, if_pos rfl] at h1
        cases h1
        refine ⟨n, l, A1, c1, rfl, by simp, rfl, rds ?_, hby, h64⟩
        have := RdS.of_own (S := fun k => (R k ∨ (Value.slice A1 l.length c1).ownBlock = some k) ∧ k ≠ db) hown (fun k hk => ⟨.inr hk, by have := (hown.lt k hk).1; omega⟩)
        rw [bytesC_flat] at this
        exact this
      · obtain ⟨n', l', A', c', h1, h2, h3, h4, h5⟩ := h.ent k v hx'
        refine ⟨n', l', A', c', h1, ?_, h3, (rds h4).mono fun k hk => ⟨.inl hk.1, hk.2⟩, h5⟩
        show (if n' = n then _ else _) = _
        rw [if_neg (fun e => hkn (by rw [h1, e])), h2]
  · rw [mget_mset h.map.nodup]
    by_cases e : m = n
    · subst e
      simp
    · have e' : ((m : Nat) : Int) ≠ ((n : Nat) : Int) := by omega
      rw [if_neg e', h.all m]
      simp [e]
  · rcases hk with hk | hk
    · exact ⟨(h.bd k hk).1, Nat.lt_of_lt_of_le (h.bd k hk).2 hf.size⟩
    · have := hown.lt k hk
      exact ⟨by omega, Nat.lt_of_lt_of_le this.2 hf.size⟩
set_option maxRecDepth 100000 in
set_option maxHeartbeats 4000000 in
theorem dWrite_c (S : Nat → Prop) (n : Nat) (l : List Nat) (A : Option Addr) (c : Nat) (w : World) (h : DiskIs B db R d w) (hn : n < d.room) (hr : RdS w S 1 A l.length (bytesC l)) (hS : ∀ k, S k → ¬ R k) (hby : ∀ x ∈ l, x < 256) (h64 : l.length ≤ 64) (hlf : d.life + 1 ≤ 1000000) :
    Calls Tryz.prog 105 #[.pointer (some ⟨db, 0, none⟩), .int .i64 (n : Nat), .slice A l.length c] w (DWritePost B db R (d.write n l).1 (d.write n l).2 w) := by
  have HI := Lib.hid h
  have HRd := Lib.hid hr
  have HSd := Lib.hid hS
  have HBy := Lib.hid hby
  cases hdn : d.down with
  | true =>
    have HW := Lib.hid (show d.write n l = (d, false) from by unfold DiskD.write; rw [if_pos hdn])
    have HDn := Lib.hid hdn
    clear h hr hby hdn hS
    go_enter Tryz.func105, Tryz.ntmps105
    go_wp2_with (first
      | (go_at_call 191; refine (met_down _ _ _ HI.out HDn.out).mono ?_; rintro e w' ⟨rfl, rfl⟩)
      | (go_at_call 190; refine (refused_down _ _).mono ?_; rintro e w1 ⟨v, rfl, hE, hb⟩; obtain ⟨fb, s, v', n', rfl, hE⟩ := hE; have HE := Lib.hid hE; have HB := Lib.hid hb; clear hE hb))
    go_ret
    rw [HW.out]
    exact wrote_no ⟨fb, s, v', n', rfl, HE.out⟩ (HI.out.ext HB.out) (Fr.of_below HB.out)
  | false =>
    obtain ⟨mb, es, wr, h⟩ := h
    have z3 : w.cell? ⟨db, 3, none⟩ = some (.int .i64 (d.armed : Nat)) := (h.bk.cell 3).trans rfl
    have f3 := h.bk.frozen 3
    have hdl := h.bk.lt
    have HD := Lib.hid h
    have HDn := Lib.hid hdn
    have harm := h.armed
    clear h hr hby hdn hS
    go_enter Tryz.func105, Tryz.ntmps105
    go_upto_region 4 with (first
      | (go_at_call 191; refine (met_fine n l.length _ HI.out HDn.out hn h64).mono ?_; rintro e w' ⟨rfl, rfl⟩)
      | (go_at_call 190; refine (refused_fine _ _).mono ?_; rintro e w' ⟨rfl, rfl⟩))
    by_cases h1 : d.armed = 1
    · have HW := Lib.hid (show d.write n l = (d.cut, false) from by unfold DiskD.write; rw [if_neg (by rw [HDn.out]; simp), if_pos h1])
      rw [h1] at z3
      have HC := Lib.hid (show (⟨d.room, d.blk, d.down, 0, d.life⟩ : DiskD).cut = d.cut from rfl)
      have HD0 := Lib.hid (show DiskAt B db mb R ⟨d.room, d.blk, d.down, 0, d.life⟩ es wr (w.setCell ⟨db, 3, none⟩ (.int .i64 0)) from HD.out.put rfl rfl rfl HD.out.life (Nat.zero_le _))
      have HDC := Lib.hid (fun W h => dCut_c (B := B) (db := db) (R := R) (d := ⟨d.room, d.blk, d.down, 0, d.life⟩) W h hlf)
      clear h1
      go_wp2_with (first
        | (go_at_call 41; refine (HDC.out _ ⟨mb, es, wr, HD0.out⟩).mono ?_; rw [HC.out]; rintro e w1 ⟨rfl, hD1, hf1⟩; have HD1 := Lib.hid hD1; have HF1 := Lib.hid hf1; clear hD1 hf1)
        | (go_at_call 94; refine (dFault_c _ _ _).mono ?_; rintro e w2 ⟨v, rfl, hE, hb⟩; have HE := Lib.hid hE; have HB := Lib.hid hb; clear hE hb))
      go_ret
      rw [HW.out]
      exact wrote_no HE.out (HD1.out.ext HB.out) (((Fr.refl.set_ (.inl HD.out.rd) _).trans HF1.out (fun k hk => .inl hk)).ext HB.out)
    · have HW := Lib.hid (show d.write n l = (⟨d.room, fun k => if k = n then some l else d.blk k, false, d.armed - 1, d.life⟩, true) from by unfold DiskD.write; rw [if_neg (by rw [HDn.out]; simp), if_neg h1])
      go_upto_if 22 with fail
      go_cut [] (fun wx => DiskAt B db mb R ⟨d.room, d.blk, d.down, d.armed - 1, d.life⟩ es wr wx ∧ Fr R w wx)
      case first =>
        by_cases h0 : d.armed = 0
        · rw [h0] at z3
          have HE0 := Lib.hid h0
          have hn0 : ¬ 0 < d.armed := by omega
          clear h0 h1
          go_wp2_with fail
          go_meet
          refine ⟨?_, Fr.refl⟩
          have h := HD.out
          have e : (⟨d.room, d.blk, d.down, d.armed - 1, d.life⟩ : DiskD) = d := by cases d; simp only [DiskD.mk.injEq, true_and, and_true]; have := HE0.out; simp only at this; omega
          rw [e]; exact h
        · obtain ⟨m, hm⟩ : ∃ m, m = d.armed - 1 := ⟨_, rfl⟩
          have e1 : IntKind.i64.wrap ((d.armed : Int) - 1) = (m : Nat) := by rw [show (d.armed : Int) - 1 = (m : Nat) by omega]; exact IntWalk.i64_in _ (by omega)
          have hp0 : 0 < d.armed := by omega
          have hmle : m ≤ 9223372036854775807 := by omega
          have hm1 : 0 < m := by omega
          have um : ((m : Int) == 0) = false := by rw [beq_eq_false_iff_ne]; omega
          have HM := Lib.hid hm
          clear h0 h1 hm
          go_wp2_with fail
          go_meet
          rw [← HM.out]
          exact ⟨HD.out.put (d' := ⟨d.room, d.blk, d.down, m, d.life⟩) (j := 3) (u := .int .i64 (m : Nat)) rfl rfl rfl HD.out.life hmle, Fr.refl.set_ (.inl HD.out.rd) _⟩
      case rest =>
        obtain ⟨hD1, hF1⟩ := hcut
        have HD1 := Lib.hid hD1
        have HF1 := Lib.hid hF1
        have y1 : wc.cell? ⟨db, 1, none⟩ = some (.map (some mb)) := (hD1.bk.cell 1).trans rfl
        have hyl := hD1.bk.lt
        have HRc := Lib.hid (show Rd wc.drew wc.heap.size 5 1 A l.length (l.flatMap byC) from (by rw [bytesC_flat]; exact (HRd.out.fr hF1 HSd.out).rd (Nat.le_refl _)))
        have HSz := Lib.hid (show db < wc.heap.size from hyl)
        clear hD1 hF1 z3 f3 h1
        go_wp2_with fail
        go_region_held3 (fun w' => w'.cell? ⟨db, 1, none⟩ = some (.map (some mb)))
          (go_keep)
          (first
            | (refine step_appR byte_app _ rfl (.const (.slice none 0 0)) (.tmp 43) rfl wc.heap.size (.slice none 0 0) [] (by rfl) (World.ownsRow_nil _ _ _ _) l wc.heap.size A l.length c (by rfl) rfl HRc.out (by simp only [List.length_nil]; omega) (by simp) ?_
               intro A2 c2 w2 hown2 hg2 hc2
               have HB2 := Lib.hid (show Below wc.heap.size wc w2 from (Below.drew (Below.refl _ _)).grown hg2 (by simp) (fun k hk => by cases hk))
               have HD2 := Lib.hid (HD1.out.ext HB2.out)
               have HO2 := Lib.hid hown2
               obtain ⟨w3, hrun3, hm3, hg3, hs3⟩ := HD2.out.map.store intKey Tryz.underlying159 ((n : Nat) : Int) (.slice A2 l.length c2)
               have HD3 := Lib.hid (HD2.out.lay hg3 hm3 hown2 (by have := HD1.out.bd _ HD1.out.rd; omega) HSz.out HBy.out h64)
               have HG3 := Lib.hid hg3
               have HS3 := Lib.hid hs3
               have q1 : w2.cell? ⟨db, 1, none⟩ = some (.map (some mb)) := (HD2.out.bk.cell 1).trans rfl
               have q2 : w3.cell? ⟨db, 1, none⟩ = some (.map (some mb)) := (HD3.out.bk.cell 1).trans rfl
               have q3 := HD2.out.bk.lt
               simp only [inV] at hrun3
               clear hown2 hg2 hm3 hg3 hs3))
        clear hrun3 q1 q2 q3 y1 hyl
        have v4 : w3.cell? ⟨db, 4, none⟩ = some (.int .i64 wr) := (HD3.out.bk.cell 4).trans rfl
        have f4 := HD3.out.bk.frozen 4
        have h3l := HD3.out.bk.lt
        go_wp2_with fail
        go_ret
        rw [HW.out]
        have hput := HD3.out.put (d' := ⟨d.room, fun k => if k = n then some l else d.blk k, d.down, d.armed - 1, d.life⟩) (j := 4) (u := .int .i64 (wrap64 (wr + 1))) (wr' := wrap64 (wr + 1)) rfl rfl rfl HD3.out.life HD3.out.armed
        rw [HDn.out] at hput
        refine ⟨fun _ => rfl, (fun h => by cases h), _, ⟨mb, _, _, hput⟩, ?_, fun k hk => ?_⟩
        · exact ((HF1.out.ext HB2.out).grown HG3.out (fun k hk => .inl (by injection hk with hk; rw [← hk]; exact HD.out.rm))).set_ (.inl HD.out.rd) _
        · rcases hk with hk | hk
          · exact .inl hk
          · have h1 := (HO2.out.lt k hk).1
            have h2 := HF1.out.size
            exact .inr (by omega)
end
end Go.Proofs.YtipfoljmdeiggaaGreatDoor
