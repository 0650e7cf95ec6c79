/- Drv, DrvB, DrvC, DrvD, DrvE, DrvF, DrvG, DrvH: laid together. -/
import Derived.Test.YtlmjjhenoadndaaGreatDoorPwM

/- The driver, in memory: Mark, Newest, Down, up. -/
namespace Go.Proofs.YtlmjjhenoadndaaGreatDoor
open Go.RowKit Go.Sort

/-- Where a driver's pieces lie. -/
structure DrvX where
  bd : Nat
  vb : Nat
  sb : Nat
  wb : Nat
  lb : Nat
  db : Nat
  Rs : Nat → Prop
  Rw : Nat → Prop
  Rd : Nat → Prop
/-- What a driver knows. -/
structure DrvD where
  s : SchedD
  x : WalD
  n : Nat
  next : Nat
  life : Nat
  gone : Bool
/-- The blocks of a driver and its disk. -/
def DrvX.all (X : DrvX) (k : Nat) : Prop := k = X.vb ∨ X.Rs k ∨ X.Rw k ∨ X.Rd k ∨ k = X.lb
structure DrvAt (B : Nat) (X : DrvX) (p : PlanD) (A : Option Addr) (c : Nat) (v : DrvD) (d : DiskD) (w : World) : Prop where
  bk : Bk w X.vb 106 #[.pointer (some ⟨X.sb, 0, none⟩), .pointer (some ⟨X.db, 0, none⟩), .int .i64 (v.life : Nat), .bool v.gone, .pointer (some ⟨X.wb, 0, none⟩), .int .i64 (v.s.every : Nat)]
  sched : SchedIs B X.sb X.Rs p A c v.s w
  pre : WalPre X.bd X.wb X.lb X.db v.life X.Rw X.Rd v.x v.n v.next d w
  sw : ∀ k, X.Rs k → ¬ X.Rw k ∧ ¬ X.Rd k ∧ k ≠ X.lb
  vo : ¬ X.Rs X.vb ∧ ¬ X.Rw X.vb ∧ ¬ X.Rd X.vb ∧ X.vb ≠ X.lb
  vB : X.bd ≤ X.vb
  tB : 0 < B
  ho : ∀ ad, A = some ad → ¬ X.all ad.block ∧ ad.block < w.heap.size
section
variable {B : Nat} {X : DrvX} {p : PlanD} {A : Option Addr} {c : Nat} {v : DrvD} {d : DiskD} {w w' : World}
theorem DrvAt.ext (h : DrvAt B X p A c v d w) (hb : Below w.heap.size w w') : DrvAt B X p A c v d w' := ⟨h.bk.ext hb, h.sched.ext hb, h.pre.ext hb, h.sw, h.vo, h.vB, h.tB, fun ad hA => ⟨(h.ho ad hA).1, Nat.lt_of_lt_of_le (h.ho ad hA).2 hb.size⟩⟩
theorem SchedIs.bd {sb : Nat} {R : Nat → Prop} {s : SchedD} (h : SchedIs B sb R p A c s w) : ∀ k, R k → B ≤ k ∧ k < w.heap.size := by
  obtain ⟨X, h⟩ := h
  exact h.bd
theorem DrvAt.lt (h : DrvAt B X p A c v d w) : ∀ k, X.all k → k < w.heap.size := by
  rintro k (rfl | hk | hk | hk | rfl)
  · exact h.bk.lt
  · exact (h.sched.bd k hk).2
  · exact (h.pre.wal.bd.1 k hk).2
  · exact (h.pre.disk.bd k hk).2
  · exact h.pre.wal.bd.2.2
theorem drvFault_c (at_ : Int) (n : Nat) (v : Value) (code : Int) (w : World) (h : ErrN w n v code) : Calls Tryz.prog 100 #[.int .i64 at_, v] w (FaultPost w at_ code) := by
  obtain ⟨T, y, rfl⟩ := h.iface
  have HE := Lib.hid h
  clear h
  go_enter Tryz.func100, Tryz.ntmps100
  go_wp2
  go_ret
  exact ⟨_, rfl, ⟨_, _, _, n, rfl, Bk.new _ _ _, HE.out.ext (ext_alloc (Below.refl _ _) _)⟩, ext_alloc (Below.refl _ _) _⟩
set_option maxHeartbeats 4000000 in
theorem vMark_c (w : World) (h : DrvAt B X p A c v d w) : Calls Tryz.prog 46 #[.pointer (some ⟨X.vb, 0, none⟩)] w (Val w (.int .i64 (v.x.marked : Nat))) := by
  have z4 : w.cell? ⟨X.vb, 4, none⟩ = some (.pointer (some ⟨X.wb, 0, none⟩)) := (h.bk.cell 4).trans rfl
  have hl := h.bk.lt
  obtain ⟨⟨bv, cv, xs, hW⟩, _⟩ := h.pre.wal
  have HW := Lib.hid hW
  clear h hW
  go_enter Tryz.func46, Tryz.ntmps46
  go_wp2_with (first | (go_at_call 103; refine (wMarked_c _ HW.out).mono ?_; rintro e w1 ⟨rfl, rfl⟩))
  go_ret
  exact ⟨rfl, rfl⟩
set_option maxHeartbeats 4000000 in
theorem vNewest_c (w : World) (h : DrvAt B X p A c v d w) : Calls Tryz.prog 47 #[.pointer (some ⟨X.vb, 0, none⟩)] w (Val w (.int .i64 (v.x.cuts.length : Nat))) := by
  have z4 : w.cell? ⟨X.vb, 4, none⟩ = some (.pointer (some ⟨X.wb, 0, none⟩)) := (h.bk.cell 4).trans rfl
  have hl := h.bk.lt
  obtain ⟨⟨bv, cv, xs, hW⟩, _⟩ := h.pre.wal
  have HW := Lib.hid hW
  clear h hW
  go_enter Tryz.func47, Tryz.ntmps47
  go_wp2_with (first | (go_at_call 115; refine (wBatches_c _ HW.out).mono ?_; rintro e w1 ⟨rfl, rfl⟩))
  go_ret
  exact ⟨rfl, rfl⟩
end
def DrvD.down (v : DrvD) (d : DiskD) : Bool := v.gone || goneD d v.life
section
variable {B : Nat} {X : DrvX} {p : PlanD} {A : Option Addr} {c : Nat} {v : DrvD} {d : DiskD} {w : World}
set_option maxRecDepth 100000 in
set_option maxHeartbeats 4000000 in
theorem vDown_c (w : World) (h : DrvAt B X p A c v d w) : Calls Tryz.prog 52 #[.pointer (some ⟨X.vb, 0, none⟩)] w (BoolPost w (v.down d)) := by
  have z1 : w.cell? ⟨X.vb, 1, none⟩ = some (.pointer (some ⟨X.db, 0, none⟩)) := (h.bk.cell 1).trans rfl
  have z2 : w.cell? ⟨X.vb, 2, none⟩ = some (.int .i64 (v.life : Nat)) := (h.bk.cell 2).trans rfl
  have z3 : w.cell? ⟨X.vb, 3, none⟩ = some (.bool v.gone) := (h.bk.cell 3).trans rfl
  have hl := h.bk.lt
  have HD := Lib.hid h.pre.disk
  clear h
  obtain ⟨db, hdb⟩ : ∃ db, db = X.db := ⟨_, rfl⟩
  rw [← hdb] at z1 HD
  clear hdb
  cases hg : v.gone with
  | true =>
    rw [hg] at z3
    have HV := Lib.hid (show v.down d = true from by unfold DrvD.down; rw [hg]; rfl)
    clear hg
    go_enter Tryz.func52, Tryz.ntmps52
    go_wp2_with fail
    go_quiet (fail)
    go_wp2_with fail
    go_ret
    rw [HV.out]
    exact ⟨rfl, below_drewN (Below.refl _ _) _⟩
  | false =>
    rw [hg] at z3
    cases hd : d.down with
    | true =>
      have HV := Lib.hid (show v.down d = true from by unfold DrvD.down goneD; rw [hg, hd]; rfl)
      have HC := Lib.hid (fun W h => dDown_c (B := X.bd) (db := db) (R := X.Rd) (d := d) W h)
      rw [hd] at HC
      clear hg hd
      go_enter Tryz.func52, Tryz.ntmps52
      go_wp2_with fail
      go_quiet ((go_at_call 64; exact quiet_val (HC.out _ (HD.out.drewN _))))
      go_wp2_with fail
      go_ret
      rw [HV.out]
      exact ⟨rfl, below_drewN (Below.refl _ _) _⟩
    | false =>
      have HC := Lib.hid (fun W h => dDown_c (B := X.bd) (db := db) (R := X.Rd) (d := d) W h)
      rw [hd] at HC
      have HL := Lib.hid (fun W h => dLife_c (B := X.bd) (db := db) (R := X.Rd) (d := d) W h)
      obtain ⟨u, hu⟩ : ∃ u, u = ((d.life : Int) != (v.life : Int)) := ⟨_, rfl⟩
      have HV := Lib.hid (show v.down d = u from by
        unfold DrvD.down goneD
        rw [hg, hd, hu, Bool.eq_iff_iff]
        simp only [Bool.false_or, decide_eq_true_eq, ne_eq, bne_iff_ne]
        omega)
      clear hg hd
      go_enter Tryz.func52, Tryz.ntmps52
      go_wp2_with fail
      go_quiet (first | (go_at_call 64; exact quiet_val (HC.out _ (HD.out.drewN _))) | (go_at_call 65; exact quiet_val (HL.out _ (HD.out.drewN _))))
      go_wp2_with fail
      go_ret
      rw [HV.out, hu]
      exact ⟨rfl, below_drewN (Below.refl _ _) _⟩
set_option maxHeartbeats 4000000 in
theorem vup_c (w : World) (h : DrvAt B X p A c v d w) : Calls Tryz.prog 105 #[.pointer (some ⟨X.vb, 0, none⟩)] w (fun e w' => (v.down d = false → e = .returned .nilIface ∧ Below w.heap.size w w') ∧ (v.down d = true → FaultPost w 0 70 e w')) := by
  have HC := Lib.hid (vDown_c w h)
  clear h
  cases hd : v.down d with
  | true =>
    rw [hd] at HC
    clear hd
    go_enter Tryz.func105, Tryz.ntmps105
    go_wp2_with (first
      | (go_at_call 52; refine HC.out.mono ?_; rintro e w1 ⟨rfl, hb⟩; have HB := Lib.hid hb; clear hb)
      | (go_at_call 100; refine (drvFault_c 0 0 _ 70 _ rfl).mono ?_; rintro e w2 ⟨v2, rfl, hE, hb⟩; have HE := Lib.hid hE; have HB2 := Lib.hid (ext_trans HB.out hb); clear hE hb))
    go_ret
    exact ⟨(fun h => by cases h), fun _ => ⟨v2, rfl, HE.out, HB2.out⟩⟩
  | false =>
    rw [hd] at HC
    clear hd
    go_enter Tryz.func105, Tryz.ntmps105
    go_wp2_with (first
      | (go_at_call 52; refine HC.out.mono ?_; rintro e w1 ⟨rfl, hb⟩; have HB := Lib.hid hb; clear hb))
    go_ret
    exact ⟨fun _ => ⟨rfl, HB.out⟩, (fun h => by cases h)⟩
end
end Go.Proofs.YtlmjjhenoadndaaGreatDoor

/- The driver: told; Push of the program. -/
namespace Go.Proofs.YtlmjjhenoadndaaGreatDoor
open Go.RowKit Go.Sort

def DrvD.no (v : DrvD) (code : Int) : DrvD := ⟨v.s, v.x, v.n, v.next, v.life, v.gone || decide (code = 70)⟩
def DrvD.app (v : DrvD) (r : Rec) : DrvD := ⟨v.s, v.x.does r, v.n + 1, v.next + blocksN r.bytes.length, v.life, v.gone⟩
/-- What a turn of the driver leaves. -/
def VTurn (B : Nat) (X : DrvX) (p : PlanD) (A : Option Addr) (c : Nat) (v' : DrvD) (d' : DiskD) (w w' : World) : Prop :=
  ∃ X' : DrvX, DrvAt B X' p A c v' d' w' ∧ X'.vb = X.vb ∧ X'.db = X.db ∧ (∀ k, X'.all k → X.all k ∨ w.heap.size ≤ k) ∧ (∀ k, X'.Rd k → X.Rd k ∨ w.heap.size ≤ k) ∧ Fr X.all w w'
section
variable {B : Nat} {X : DrvX} {p : PlanD} {A : Option Addr} {c : Nat} {v : DrvD} {d : DiskD} {w w' : World}
theorem DrvAt.turn (h : DrvAt B X p A c v d w) (hb : Below w.heap.size w w') : VTurn B X p A c v d w w' := ⟨X, h.ext hb, rfl, rfl, fun _ hk => .inl hk, fun _ hk => .inl hk, Fr.of_below hb⟩
theorem VTurn.trans {w0 w1 w2 : World} {v1 v2 : DrvD} {d1 d2 : DiskD} (h : VTurn B X p A c v1 d1 w0 w1) (k : ∀ X', DrvAt B X' p A c v1 d1 w1 → VTurn B X' p A c v2 d2 w1 w2) : VTurn B X p A c v2 d2 w0 w2 := by
  obtain ⟨X1, h1, h2, h3, h4, h4', h5⟩ := h
  obtain ⟨X2, k1, k2, k3, k4, k4', k5⟩ := k X1 h1
  have hs := h5.size
  exact ⟨X2, k1, k2.trans h2, k3.trans h3, fun j hj => (k4 j hj).elim (h4 j) (fun h => .inr (by omega)), fun j hj => (k4' j hj).elim (h4' j) (fun h => .inr (by omega)), h5.trans k5 (fun j hj => h4 j hj)⟩
theorem VTurn.ext {w0 w1 w2 : World} {v1 : DrvD} {d1 : DiskD} (h : VTurn B X p A c v1 d1 w0 w1) (hb : Below w1.heap.size w1 w2) : VTurn B X p A c v1 d1 w0 w2 := h.trans fun _ h => h.turn hb
theorem VTurn.pre {w0 w1 w2 : World} {v1 : DrvD} {d1 : DiskD} (h : VTurn B X p A c v1 d1 w1 w2) (hb : Below w0.heap.size w0 w1) : VTurn B X p A c v1 d1 w0 w2 := by
  obtain ⟨X1, h1, h2, h3, h4, h4', h5⟩ := h
  have hs := hb.size
  exact ⟨X1, h1, h2, h3, fun j hj => (h4 j hj).imp id (fun h => by omega), fun j hj => (h4' j hj).imp id (fun h => by omega), (Fr.of_below hb).trans h5 (fun j hj => .inl hj)⟩
/-- The driver's own cell 'gone' is set. -/
theorem DrvAt.goneSet (h : DrvAt B X p A c v d w) : DrvAt B X p A c ⟨v.s, v.x, v.n, v.next, v.life, true⟩ d (w.setCell ⟨X.vb, 3, none⟩ (.bool true)) := by
  have hf := Fr.one w X.vb 3 (.bool true)
  obtain ⟨v1, v2, v3, v4⟩ := h.vo
  have hne : ∀ {R : Nat → Prop}, ¬ R X.vb → ∀ k, R k → ¬ k = X.vb := fun hn k hk e => hn (e ▸ hk)
  exact ⟨h.bk.set_ 3 _, h.sched.frA hf (hne v1) (fun ad hA e => (h.ho ad hA).1 (.inl e)), ⟨h.pre.wal.fr hf (hne v2) (fun e => v4 e.symm), h.pre.disk.fr hf (hne v3), h.pre.apart, h.pre.lbd, TypeVar.fr h.pre.tv hf (fun e => by have h1 := h.pre.tb; have h2 := h.vB; omega), h.pre.tb, h.pre.ok, h.pre.life⟩, h.sw, h.vo, h.vB, h.tB, fun ad hA => ⟨(h.ho ad hA).1, by simpa using (h.ho ad hA).2⟩⟩
theorem DrvAt.goneTurn (h : DrvAt B X p A c v d w) : VTurn B X p A c ⟨v.s, v.x, v.n, v.next, v.life, true⟩ d w (w.setCell ⟨X.vb, 3, none⟩ (.bool true)) :=
  ⟨X, h.goneSet, rfl, rfl, fun _ hk => .inl hk, fun _ hk => .inl hk, Fr.refl.set_ (p := ⟨X.vb, 3, none⟩) (.inl (.inl rfl)) _⟩
set_option maxHeartbeats 4000000 in
theorem told_ok (n : Int) (w : World) : Calls Tryz.prog 106 #[.pointer (some ⟨X.vb, 0, none⟩), .int .i64 n, .nilIface] w (fun e w' => e = .returned (.tuple #[.int .i64 n, .nilIface]) ∧ Below w.heap.size w w') := by
  go_enter Tryz.func106, Tryz.ntmps106
  go_wp2_with (first
    | (go_at_call 157; refine (Is_nil 70 _).mono ?_; rintro e w3 ⟨rfl, hb⟩; have HB := Lib.hid hb; clear hb))
  go_ret2
  exact ⟨rfl, HB.out⟩
set_option maxHeartbeats 4000000 in
theorem told_no (n : Int) (T : TypeId) (y : Value) (m : Nat) (code : Int) (w : World) (h : DrvAt B X p A c v d w) (hE : ErrN w m (.iface T y) code) : Calls Tryz.prog 106 #[.pointer (some ⟨X.vb, 0, none⟩), .int .i64 n, .iface T y] w
    (fun e w' => ∃ ve, e = .returned (.tuple #[.int .i64 0, ve]) ∧ ErrAt w' ve 0 code ∧ VTurn B X p A c (v.no code) d w w') := by
  have H := Lib.hid h
  have HE := Lib.hid hE
  have hl := h.bk.lt
  have f3 := h.bk.frozen 3
  have z3 : w.cell? ⟨X.vb, 3, none⟩ = some (.bool v.gone) := (h.bk.cell 3).trans rfl
  clear h hE
  cases hc : decide (code = 70) with
  | true =>
    have HC := Lib.hid hc
    have HN := Lib.hid (show v.no code = ⟨v.s, v.x, v.n, v.next, v.life, true⟩ from by unfold DrvD.no; rw [hc]; simp)
    clear hc
    go_enter Tryz.func106, Tryz.ntmps106
    go_wp2_with (first
      | (go_at_call 157; refine (Is_c m _ code 70 _ HE.out).mono ?_; rw [HC.out]; rintro e w3 ⟨rfl, hb⟩
         have HB := Lib.hid hb
         have H3 := Lib.hid (H.out.ext hb)
         have g3 := H3.out.bk.frozen 3
         have gl := H3.out.bk.lt
         have q3 : w3.cell? ⟨X.vb, 3, none⟩ = some (.bool v.gone) := (H3.out.bk.cell 3).trans rfl
         have HE3 := Lib.hid (ErrN.ext hb HE.out)
         have HE4 := Lib.hid (ErrN.bk (w' := w3.setCell ⟨X.vb, 3, none⟩ (.bool true)) (fun g t cs hbk ht => by
           have hne : g ≠ X.vb := fun e => by subst e; subst ht; have h1 := H3.out.bk; unfold Bk at h1 hbk; rw [h1] at hbk; cases hbk
           exact (Below.heap_setCell w3 ⟨X.vb, 3, none⟩ _ g hne).trans hbk) HE3.out)
         clear hb)
      | (go_at_call 100; refine (drvFault_c 0 m _ code _ HE4.out).mono ?_; rintro e w4 ⟨ve, rfl, hE4, hb4⟩; have HF := Lib.hid hE4; have HB4 := Lib.hid hb4; clear hE4 hb4))
    go_ret2
    rw [HN.out]
    exact ⟨ve, rfl, HF.out, ((H3.out.goneTurn).pre HB.out).ext HB4.out⟩
  | false =>
    have HC := Lib.hid hc
    have HN := Lib.hid (show v.no code = v from by unfold DrvD.no; rw [hc, Bool.or_false])
    clear hc
    go_enter Tryz.func106, Tryz.ntmps106
    go_wp2_with (first
      | (go_at_call 157; refine (Is_c m _ code 70 _ HE.out).mono ?_; rw [HC.out]; rintro e w3 ⟨rfl, hb⟩; have HB := Lib.hid hb; have HE3 := Lib.hid (ErrN.ext hb HE.out); clear hb)
      | (go_at_call 100; refine (drvFault_c 0 m _ code _ HE3.out).mono ?_; rintro e w4 ⟨ve, rfl, hE4, hb4⟩; have HF := Lib.hid hE4; have HB4 := Lib.hid (ext_trans HB.out hb4); clear hE4 hb4))
    go_ret2
    rw [HN.out]
    exact ⟨ve, rfl, HF.out, H.out.turn HB4.out⟩
end
end Go.Proofs.YtlmjjhenoadndaaGreatDoor

/- The driver: Push, Cut of the program. (Printed by mkpush.py.) -/
namespace Go.Proofs.YtlmjjhenoadndaaGreatDoor
open Go.RowKit Go.Sort

/-- A record handed in: the error's number, the driver, the disk. -/
def DrvD.step (v : DrvD) (d : DiskD) (t : Option Int) (r : Rec) : Option Int × DrvD × DiskD :=
  let y := stepW d v.life v.n v.next t r
  (y.2, (match y.2 with | none => v.app r | some c => v.no c), y.1)
def pushD (v : DrvD) (d : DiskD) (l : List Rw) : Option Int × DrvD × DiskD := if v.down d then (some 70, v, d) else v.step d (blockE v.x l.length) (.block l)
def cutD (v : DrvD) (d : DiskD) : Option Int × DrvD × DiskD :=
  if v.down d then (some 70, v, d) else if v.x.marked + 2 * v.s.every < v.x.cuts.length + 1 then (some 90, v, d) else v.step d (cutE v.x) .cut
def VPost (B : Nat) (X : DrvX) (p : PlanD) (A : Option Addr) (c : Nat) (z : Option Int × DrvD × DiskD) (k : Nat) (at_ : Int) (w : World) (e : Ending) (w' : World) : Prop :=
  (z.1 = none → e = .returned (.tuple #[.int .i64 (k : Nat), .nilIface])) ∧ (∀ code, z.1 = some code → ∃ ve a, e = .returned (.tuple #[.int .i64 0, ve]) ∧ ErrAt w' ve a code ∧ (code = 90 → a = at_)) ∧ VTurn B X p A c z.2.1 z.2.2 w w'
section
variable {B : Nat} {X : DrvX} {p : PlanD} {A : Option Addr} {c : Nat} {v : DrvD} {d : DiskD} {w w' : World}
theorem DrvAt.step (h : DrvAt B X p A c v d w) {x' : WalD} {n' next' : Nat} {d' : DiskD} (ht : WTurn X.bd X.wb X.lb X.db v.life X.Rw X.Rd w w' x' n' next' d') (hok : WalOk d' x' n' next') (hl : d'.life + 1 ≤ 1000000) : VTurn B X p A c ⟨v.s, x', n', next', v.life, v.gone⟩ d' w w' := by
  obtain ⟨R', Rq', h1, h2, h3, h4, h5, h6, h7⟩ := ht
  have hlt := h.lt
  have hall : ∀ {k : Nat}, (X.Rw k ∨ X.Rd k ∨ k = X.lb) → X.all k := fun hk => hk.elim (fun h => .inr (.inr (.inl h))) (fun h => .inr (.inr (.inr h)))
  have hB : ∀ {k : Nat}, (X.Rw k ∨ X.Rd k ∨ k = X.lb) → X.bd ≤ k := fun hk => hk.elim (fun h0 => (h.pre.wal.bd.1 _ h0).1) (fun h0 => h0.elim (fun h0 => (h.pre.disk.bd _ h0).1) (fun e => e ▸ h.pre.wal.bd.2.1))
  have hsz := h7.size
  obtain ⟨v1, v2, v3, v4⟩ := h.vo
  have hvl := h.bk.lt
  refine ⟨⟨X.bd, X.vb, X.sb, X.wb, X.lb, X.db, X.Rs, R', Rq'⟩, ⟨h.bk.fr h7 (fun hk => hk.elim v2 (fun hk => hk.elim v3 v4)), h.sched.frA h7 (fun k hk => by
      obtain ⟨s1, s2, s3⟩ := h.sw k hk
      exact fun hk => hk.elim s1 (fun hk => hk.elim s2 s3)) (fun ad hA hk => (h.ho ad hA).1 (hall hk)),
    ⟨h1, h2, h5, h6, TypeVar.fr h.pre.tv h7 (fun hk => by have := hB hk; have := h.pre.tb; omega), h.pre.tb, hok, hl⟩, fun k hk => ?_, ⟨v1, fun hk => (h3 _ hk).elim v2 (fun h => absurd h (Nat.not_le.2 hvl)), fun hk => (h4 _ hk).elim v3 (fun h => absurd h (Nat.not_le.2 hvl)), v4⟩, h.vB, h.tB, fun ad hA => ⟨fun hk => ?_, Nat.lt_of_lt_of_le (h.ho ad hA).2 hsz⟩⟩, rfl, rfl, fun k hk => ?_, h4, h7.mono (fun k _ hk => hall hk)⟩
  · obtain ⟨s1, s2, s3⟩ := h.sw k hk
    have := (h.sched.bd k hk).2
    exact ⟨fun hk' => (h3 _ hk').elim s1 (fun h => by omega), fun hk' => (h4 _ hk').elim s2 (fun h => by omega), s3⟩
  · obtain ⟨o1, o2⟩ := h.ho ad hA
    rcases hk with hk | hk | hk | hk | hk
    · exact o1 (.inl hk)
    · exact o1 (.inr (.inl hk))
    · exact (h3 _ hk).elim (fun h => o1 (.inr (.inr (.inl h)))) (fun h => by omega)
    · exact (h4 _ hk).elim (fun h => o1 (.inr (.inr (.inr (.inl h))))) (fun h => by omega)
    · exact o1 (.inr (.inr (.inr (.inr hk))))
  · rcases hk with hk | hk | hk | hk | hk
    · exact .inl (.inl hk)
    · exact .inl (.inr (.inl hk))
    · exact (h3 k hk).imp (fun h => .inr (.inr (.inl h))) id
    · exact (h4 k hk).imp (fun h => .inr (.inr (.inr (.inl h)))) id
    · exact .inl (.inr (.inr (.inr (.inr hk))))
theorem stepW_law {t : Option Int} {r : Rec} {x : WalD} {n next life : Nat} (h : WalOk d x n next) (hroom : d.room ≤ 65536) (hr : t = none → x.ok r) :
    ((stepW d life n next t r).2 = none → WalOk (stepW d life n next t r).1 (x.does r) (n + 1) (next + blocksN r.bytes.length)) ∧ (∀ c, (stepW d life n next t r).2 = some c → WalOk (stepW d life n next t r).1 x n next) ∧ (stepW d life n next t r).1.room = d.room ∧ (stepW d life n next t r).1.life ≤ d.life + 1 := by
  cases t with
  | some c => exact ⟨(fun h => by cases h), fun _ _ => h, rfl, by simp [stepW]⟩
  | none =>
    obtain ⟨h1, h2, h3⟩ := h.app (life := life) hroom (hr rfl)
    exact ⟨fun e => (h1 e).1, fun c e => (h2 c e).1, h3⟩
theorem stepW_ne {t : Option Int} {r : Rec} {x : WalD} {n next life : Nat} {code : Int} (h : WalOk d x n next) (hroom : d.room ≤ 65536) (hr : t = none → x.ok r) (ht : ∀ c, t = some c → c ≠ 90) (hy : (stepW d life n next t r).2 = some code) : code ≠ 90 := by
  cases t with
  | some c => cases hy; exact ht _ rfl
  | none =>
    obtain ⟨_, h2, _⟩ := h.app (life := life) hroom (hr rfl)
    rcases (h2 code hy).2 with ⟨h3, _⟩ | ⟨h3, _⟩ <;> omega
theorem blockE_ne {x : WalD} {n : Nat} : ∀ c, blockE x n = some c → c ≠ 90 := by
  intro c h
  unfold blockE at h
  split at h
  · cases h; omega
  · cases h
theorem cutE_ne {x : WalD} : ∀ c, cutE x = some c → c ≠ 90 := by
  intro c h
  unfold cutE at h
  split at h
  · cases h; omega
  · cases h
theorem noo_turn {w0 w1 w2 w3 : World} {X2 : DrvX} {d' : DiskD} {code : Int} (hb : Below w0.heap.size w0 w1) (h1 : X2.vb = X.vb ∧ X2.db = X.db ∧ (∀ k, X2.all k → X.all k ∨ w1.heap.size ≤ k) ∧ (∀ k, X2.Rd k → X.Rd k ∨ w1.heap.size ≤ k) ∧ Fr X.all w1 w2) (_hX2 : DrvAt B X2 p A c v d' w2) (h2 : VTurn B X2 p A c (v.no code) d' w2 w3) : VTurn B X p A c (v.no code) d' w0 w3 := by
  obtain ⟨X3, k1, k2, k3, k4, k5, k6⟩ := h2
  obtain ⟨a1, a2, a3, a4, a5⟩ := h1
  have s1 := hb.size
  have s2 := a5.size
  exact ⟨X3, k1, k2.trans a1, k3.trans a2, fun j hj => (k4 j hj).elim (fun h => (a3 j h).imp id (fun h => by omega)) (fun h => .inr (by omega)), fun j hj => (k5 j hj).elim (fun h => (a4 j h).imp id (fun h => by omega)) (fun h => .inr (by omega)), ((Fr.of_below hb).trans a5 (fun j hj => .inl hj)).trans k6 (fun j hj => (a3 j hj).imp id (fun h => by omega))⟩
/-- The journal's answer, told. -/
theorem DrvAt.yes (h : DrvAt B X p A c v d w) {t : Option Int} {r : Rec} {told no : Value → Value} {e : Ending} (hr : t = none → v.x.ok r) (hl : d.life + 2 ≤ 1000000) (hy : (stepW d v.life v.n v.next t r).2 = none)
    (hs : WStepPost X.bd X.wb X.lb X.db v.life X.Rw X.Rd v.x v.n v.next r (stepW d v.life v.n v.next t r) told no w e w') : VTurn B X p A c (v.app r) (stepW d v.life v.n v.next t r).1 w w' := by
  obtain ⟨l1, l2, l3, l4⟩ := stepW_law (life := v.life) h.pre.ok h.pre.disk.room_le.2.1 hr
  exact h.step (hs.1 hy).2 (l1 hy) (by omega)
theorem DrvAt.noo (h : DrvAt B X p A c v d w) {t : Option Int} {r : Rec} {told no : Value → Value} {e : Ending} {code : Int} (hr : t = none → v.x.ok r) (hl : d.life + 2 ≤ 1000000) (hy : (stepW d v.life v.n v.next t r).2 = some code)
    (hs : WStepPost X.bd X.wb X.lb X.db v.life X.Rw X.Rd v.x v.n v.next r (stepW d v.life v.n v.next t r) told no w e w') : VTurn B X p A c v (stepW d v.life v.n v.next t r).1 w w' := by
  obtain ⟨l1, l2, l3, l4⟩ := stepW_law (life := v.life) h.pre.ok h.pre.disk.room_le.2.1 hr
  obtain ⟨_, _, _, _, ht⟩ := hs.2 code hy
  exact h.step ht (l2 code hy) (by omega)
set_option maxRecDepth 100000 in
set_option maxHeartbeats 4000000 in
theorem vPush_c (S : Nat → Prop) (l : List Rw) (A0 : Option Addr) (c0 : Nat) (w : World) (h : DrvAt B X p A c v d w) (hr : RdS w S 2 A0 l.length (l.flatMap rwC)) (hS : ∀ k, S k → ¬ X.Rd k ∧ k ≠ X.lb) (h64 : ∀ r ∈ l, I64 r.k ∧ I64 r.v) (hlf : d.life + 2 ≤ 1000000) :
    Calls Tryz.prog 43 #[.pointer (some ⟨X.vb, 0, none⟩), .slice A0 l.length c0] w (VPost B X p A c (pushD v d l) (v.x.blocks.length + 1) 0 w) := by
  have HU := Lib.hid (vup_c w h)
  have H := Lib.hid h
  have HR := Lib.hid hr
  have HS := Lib.hid hS
  have H64 := Lib.hid h64
  cases hd : v.down d with
  | true =>
    have HP := Lib.hid (show pushD v d l = (some 70, v, d) from if_pos hd)
    have HD := Lib.hid hd
    clear h hr hS h64 hd
    go_enter Tryz.func43, Tryz.ntmps43
    go_wp2_with (first
      | (go_at_call 105; refine HU.out.mono ?_; rintro e w1 hpost; obtain ⟨ve, rfl, hE, hb⟩ := hpost.2 HD.out; obtain ⟨n7, hn7⟩ := hE.errN; obtain ⟨T7, y7, rfl⟩ := hn7.iface; have HE := Lib.hid hE; have HB := Lib.hid hb; clear hpost hE hb hn7))
    go_ret2
    rw [HP.out]
    exact ⟨(fun h => by cases h), fun code h => by cases h; exact ⟨_, _, rfl, HE.out, fun h => by omega⟩, H.out.turn HB.out⟩
  | false =>
    have HD := Lib.hid hd
    have HP := Lib.hid (show pushD v d l = v.step d (blockE v.x l.length) (.block l) from if_neg (by rw [hd]; simp))
    have z4 : w.cell? ⟨X.vb, 4, none⟩ = some (.pointer (some ⟨X.wb, 0, none⟩)) := (h.bk.cell 4).trans rfl
    have hvl := h.bk.lt
    cases hy : (stepW d v.life v.n v.next (blockE v.x l.length) (.block l)).2 with
    | none =>
      have HY := Lib.hid hy
      have HP2 := Lib.hid (show v.step d (blockE v.x l.length) (.block l) = (none, v.app (.block l), (stepW d v.life v.n v.next (blockE v.x l.length) (.block l)).1) from by unfold DrvD.step; simp only [hy])
      have HK := Lib.hid (show (v.x.does (.block l)).blocks.length = v.x.blocks.length + 1 from by simp [WalD.does])
      clear h hr hS h64 hd hy
      go_enter Tryz.func43, Tryz.ntmps43
      go_wp2_with (first
        | (go_at_call 105; refine HU.out.mono ?_; rintro e w1 hpost; obtain ⟨rfl, hb⟩ := hpost.1 HD.out; have HB := Lib.hid hb
           have q4 := (World.cell?_of_block (a := ⟨X.vb, 4, none⟩) (hb.block _ hvl)).trans z4
           clear hpost hb)
        | (go_at_call 107; refine (wBlock_c S l A0 c0 _ (H.out.ext HB.out).pre (HR.out.ext HB.out) HS.out H64.out).mono ?_
           rintro e w2 hs; obtain ⟨rfl, _⟩ := hs.1 HY.out; rw [HK.out] at hs ⊢
           have HT := Lib.hid ((H.out.ext HB.out).yes (fun h0 => blockE_ok H64.out h0) hlf HY.out hs); clear hs)
        | (go_at_call 106; refine (told_ok (X := X) _ _).mono ?_; rintro e w3 ⟨rfl, hb⟩; have HB3 := Lib.hid hb; clear hb))
      go_ret2
      rw [HP.out, HP2.out]
      exact ⟨fun _ => rfl, (fun code h => by cases h), (HT.out.pre HB.out).ext HB3.out⟩
    | some code =>
      have HY := Lib.hid hy
      have HP2 := Lib.hid (show v.step d (blockE v.x l.length) (.block l) = (some code, v.no code, (stepW d v.life v.n v.next (blockE v.x l.length) (.block l)).1) from by unfold DrvD.step; simp only [hy])
      clear h hr hS h64 hd hy
      go_enter Tryz.func43, Tryz.ntmps43
      go_wp2_with (first
        | (go_at_call 105; refine HU.out.mono ?_; rintro e w1 hpost; obtain ⟨rfl, hb⟩ := hpost.1 HD.out; have HB := Lib.hid hb
           have q4 := (World.cell?_of_block (a := ⟨X.vb, 4, none⟩) (hb.block _ hvl)).trans z4
           clear hpost hb)
        | (go_at_call 107; refine (wBlock_c S l A0 c0 _ (H.out.ext HB.out).pre (HR.out.ext HB.out) HS.out H64.out).mono ?_
           rintro e w2 hs; obtain ⟨v7, a7, rfl, hE, _⟩ := hs.2 code HY.out
           obtain ⟨n7, hn7⟩ := hE.errN; obtain ⟨T7, y7, rfl⟩ := hn7.iface
           obtain ⟨X2, hX2, hXv, hXr⟩ := (H.out.ext HB.out).noo (fun h0 => blockE_ok H64.out h0) hlf HY.out hs
           have HX2 := Lib.hid hX2; have HXv := Lib.hid hXv; have HXr := Lib.hid hXr; have HN7 := Lib.hid hn7
           clear hs hE hn7 hX2 hXv hXr)
        | (go_at_call 106; rw [← HXv.out]; refine (told_no _ _ _ n7 code _ HX2.out HN7.out).mono ?_; rintro e w3 ⟨ve, rfl, hE, hT⟩; have HE := Lib.hid hE; have HT := Lib.hid hT; clear hE hT))
      go_ret2
      rw [HP.out, HP2.out]
      exact ⟨(fun h => by cases h), fun code' h => by cases h; exact ⟨_, 0, rfl, HE.out, fun h9 => absurd h9 (stepW_ne (x := v.x) H.out.pre.ok H.out.pre.disk.room_le.2.1 (fun h0 => blockE_ok H64.out h0) blockE_ne HY.out)⟩, noo_turn HB.out ⟨HXv.out, HXr.out⟩ HX2.out HT.out⟩
end
end Go.Proofs.YtlmjjhenoadndaaGreatDoor

/- The driver: Cut of the program. -/
namespace Go.Proofs.YtlmjjhenoadndaaGreatDoor
open Go.RowKit Go.Sort

section
variable {B : Nat} {X : DrvX} {p : PlanD} {A : Option Addr} {c : Nat} {v : DrvD} {d : DiskD}
set_option maxRecDepth 100000 in
set_option maxHeartbeats 8000000 in
theorem vCut_c (w : World) (h : DrvAt B X p A c v d w) (hlf : d.life + 2 ≤ 1000000) :
    Calls Tryz.prog 44 #[.pointer (some ⟨X.vb, 0, none⟩)] w (VPost B X p A c (cutD v d) (v.x.cuts.length + 1) ((v.x.cuts.length + 1 : Nat) : Int) w) := by
  have HU := Lib.hid (vup_c w h)
  have H := Lib.hid h
  have hin := h.pre.wal.inn
  have hev : 1 ≤ v.s.every ∧ v.s.every ≤ 8 := by obtain ⟨Y, hY⟩ := h.sched; exact hY.every
  cases hd : v.down d with
  | true =>
    have HP := Lib.hid (show cutD v d = (some 70, v, d) from if_pos hd)
    have HD := Lib.hid hd
    clear h hd
    go_enter Tryz.func44, Tryz.ntmps44
    go_wp2_with (first
      | (go_at_call 105; refine HU.out.mono ?_; rintro e w1 hpost; obtain ⟨ve, rfl, hE, hb⟩ := hpost.2 HD.out; obtain ⟨n7, hn7⟩ := hE.errN; obtain ⟨T7, y7, rfl⟩ := hn7.iface; have HE := Lib.hid hE; have HB := Lib.hid hb; clear hpost hE hb hn7))
    go_ret2
    rw [HP.out]
    exact ⟨(fun h => by cases h), fun code h => by cases h; exact ⟨_, _, rfl, HE.out, fun h => by omega⟩, H.out.turn HB.out⟩
  | false =>
    have HD := Lib.hid hd
    have z4 : w.cell? ⟨X.vb, 4, none⟩ = some (.pointer (some ⟨X.wb, 0, none⟩)) := (h.bk.cell 4).trans rfl
    have z5 : w.cell? ⟨X.vb, 5, none⟩ = some (.int .i64 (v.s.every : Nat)) := (h.bk.cell 5).trans rfl
    have hvl := h.bk.lt
    obtain ⟨nc, hnc⟩ : ∃ nc, nc = v.x.cuts.length := ⟨_, rfl⟩
    obtain ⟨mk, hmk⟩ : ∃ mk, mk = v.x.marked := ⟨_, rfl⟩
    obtain ⟨ev, hevv⟩ : ∃ ev, ev = v.s.every := ⟨_, rfl⟩
    obtain ⟨n1, hn1⟩ : ∃ n1, n1 = nc + 1 := ⟨_, rfl⟩
    obtain ⟨rh, hrh⟩ : ∃ rh, rh = mk + 2 * ev := ⟨_, rfl⟩
    have hnc60 : nc ≤ 60 := by rw [hnc]; exact hin.nc
    have hmk60 : mk ≤ 60 := by have := hin.mkd; have := hin.nc; omega
    have hev8 : ev ≤ 8 := by rw [hevv]; exact hev.2
    have HMk := Lib.hid (fun W h => (show Calls Tryz.prog 46 #[.pointer (some ⟨X.vb, 0, none⟩)] W (Val W (.int .i64 (mk : Nat))) from by rw [hmk]; exact vMark_c (B := B) (p := p) (A := A) (c := c) (v := v) (d := d) W h))
    have HNw := Lib.hid (fun W h => (show Calls Tryz.prog 47 #[.pointer (some ⟨X.vb, 0, none⟩)] W (Val W (.int .i64 (nc : Nat))) from by rw [hnc]; exact vNewest_c (B := B) (p := p) (A := A) (c := c) (v := v) (d := d) W h))
    have e1 : IntKind.i64.wrap ((nc : Int) + 1) = (n1 : Nat) := by rw [show (nc : Int) + 1 = (n1 : Nat) by omega]; exact IntWalk.i64_in _ (by omega)
    have e1' : (nc : Int) + 1 = (n1 : Nat) := by omega
    have e2 : IntKind.i64.wrap (2 * (ev : Int)) = 2 * (ev : Int) := IntWalk.i64_in _ (by omega)
    have e3 : IntKind.i64.wrap ((mk : Int) + 2 * (ev : Int)) = (rh : Nat) := by rw [show (mk : Int) + 2 * (ev : Int) = (rh : Nat) by omega]; exact IntWalk.i64_in _ (by omega)
    have HC0 := Lib.hid (show cutD v d = (if rh < n1 then (some 90, v, d) else v.step d (cutE v.x) .cut) from by
      unfold cutD
      rw [hd, if_neg (by simp), ← hmk, ← hevv, ← hnc, ← hn1, ← hrh])
    rw [← hevv] at z5
    rw [← hnc, ← hn1]
    have HN1 := Lib.hid hn1
    have HNC := Lib.hid hnc
    have hn1l : n1 ≤ 61 := by omega
    have hrhl : rh ≤ 76 := by omega
    by_cases hlag : rh < n1
    · have HP := Lib.hid (HC0.out.trans (if_pos hlag))
      have u1 : (rh : Int) < (n1 : Nat) := by omega
      clear h hd hin hev hnc hmk hevv hn1 hrh
      go_enter Tryz.func44, Tryz.ntmps44
      go_wp2_with (first
        | (go_at_call 105; refine HU.out.mono ?_; rintro e w1 hpost; obtain ⟨rfl, hb⟩ := hpost.1 HD.out; have HB := Lib.hid hb
           have q5 := (World.cell?_of_block (a := ⟨X.vb, 5, none⟩) (hb.block _ hvl)).trans z5
           have ql := Nat.lt_of_lt_of_le hvl hb.size
           have HH := Lib.hid (H.out.ext hb)
           clear hpost hb)
        | (go_at_call 47; refine (HNw.out _ HH.out).mono ?_; rintro e w2 ⟨rfl, rfl⟩))
      go_quiet ((go_at_call 46; exact quiet_val (HMk.out _ (HH.out.ext (below_drewN (Below.refl _ _) _)))))
      go_wp2_with (first
        | (go_at_call 100; refine (drvFault_c _ 0 _ 90 _ rfl).mono ?_; rintro e w3 ⟨ve, rfl, hE, hb⟩; have HE := Lib.hid hE; have HB3 := Lib.hid (ext_trans (below_drewN HB.out _) hb); clear hE hb))
      go_ret2
      rw [HP.out]
      exact ⟨(fun h => by cases h), fun code h => by cases h; exact ⟨_, _, rfl, HE.out, fun _ => rfl⟩, H.out.turn HB3.out⟩
    · have HP := Lib.hid (HC0.out.trans (if_neg hlag))
      have u1 : ¬ (rh : Int) < (n1 : Nat) := by omega
      cases hy : (stepW d v.life v.n v.next (cutE v.x) .cut).2 with
      | none =>
        have HY := Lib.hid hy
        have HP2 := Lib.hid (show v.step d (cutE v.x) .cut = (none, v.app .cut, (stepW d v.life v.n v.next (cutE v.x) .cut).1) from by unfold DrvD.step; simp only [hy])
        have HK := Lib.hid (show (v.x.does .cut).cuts.length = n1 from by rw [hn1, hnc]; simp [WalD.does])
        clear h hd hin hev hnc hmk hevv hn1 hrh hy
        go_enter Tryz.func44, Tryz.ntmps44
        go_wp2_with (first
          | (go_at_call 105; refine HU.out.mono ?_; rintro e w1 hpost; obtain ⟨rfl, hb⟩ := hpost.1 HD.out; have HB := Lib.hid hb
             have q5 := (World.cell?_of_block (a := ⟨X.vb, 5, none⟩) (hb.block _ hvl)).trans z5
             have q4 := (World.cell?_of_block (a := ⟨X.vb, 4, none⟩) (hb.block _ hvl)).trans z4
             have ql := Nat.lt_of_lt_of_le hvl hb.size
             have HH := Lib.hid (H.out.ext hb)
             clear hpost hb)
          | (go_at_call 47; refine (HNw.out _ HH.out).mono ?_; rintro e w2 ⟨rfl, rfl⟩))
        go_quiet ((go_at_call 46; exact quiet_val (HMk.out _ (HH.out.ext (below_drewN (Below.refl _ _) _)))))
        have HBq := Lib.hid (below_drewN HB.out nq)
        have HHq := Lib.hid (HH.out.ext (below_drewN (Below.refl _ _) nq))
        go_wp2_with (first
          | (go_at_call 108; refine (wCut_c _ HHq.out.pre).mono ?_
             rintro e w2 hs; obtain ⟨rfl, _⟩ := hs.1 HY.out; rw [HK.out] at hs ⊢
             have HT := Lib.hid (HHq.out.yes (fun h0 => cutE_ok h0) hlf HY.out hs); clear hs)
          | (go_at_call 106; refine (told_ok (X := X) _ _).mono ?_; rintro e w3 ⟨rfl, hb⟩; have HB3 := Lib.hid hb; clear hb))
        go_ret2
        rw [HP.out, HP2.out]
        exact ⟨fun _ => rfl, (fun code h => by cases h), (HT.out.pre HBq.out).ext HB3.out⟩
      | some code =>
        have HY := Lib.hid hy
        have HP2 := Lib.hid (show v.step d (cutE v.x) .cut = (some code, v.no code, (stepW d v.life v.n v.next (cutE v.x) .cut).1) from by unfold DrvD.step; simp only [hy])
        clear h hd hin hev hnc hmk hevv hn1 hrh hy
        go_enter Tryz.func44, Tryz.ntmps44
        go_wp2_with (first
          | (go_at_call 105; refine HU.out.mono ?_; rintro e w1 hpost; obtain ⟨rfl, hb⟩ := hpost.1 HD.out; have HB := Lib.hid hb
             have q5 := (World.cell?_of_block (a := ⟨X.vb, 5, none⟩) (hb.block _ hvl)).trans z5
             have q4 := (World.cell?_of_block (a := ⟨X.vb, 4, none⟩) (hb.block _ hvl)).trans z4
             have ql := Nat.lt_of_lt_of_le hvl hb.size
             have HH := Lib.hid (H.out.ext hb)
             clear hpost hb)
          | (go_at_call 47; refine (HNw.out _ HH.out).mono ?_; rintro e w2 ⟨rfl, rfl⟩))
        go_quiet ((go_at_call 46; exact quiet_val (HMk.out _ (HH.out.ext (below_drewN (Below.refl _ _) _)))))
        have HBq := Lib.hid (below_drewN HB.out nq)
        have HHq := Lib.hid (HH.out.ext (below_drewN (Below.refl _ _) nq))
        go_wp2_with (first
          | (go_at_call 108; refine (wCut_c _ HHq.out.pre).mono ?_
             rintro e w2 hs; obtain ⟨v7, a7, rfl, hE, _⟩ := hs.2 code HY.out
             obtain ⟨n7, hn7⟩ := hE.errN; obtain ⟨T7, y7, rfl⟩ := hn7.iface
             obtain ⟨X2, hX2, hXv, hXr⟩ := HHq.out.noo (fun h0 => cutE_ok h0) hlf HY.out hs
             have HX2 := Lib.hid hX2; have HXv := Lib.hid hXv; have HXr := Lib.hid hXr; have HN7 := Lib.hid hn7
             clear hs hE hn7 hX2 hXv hXr)
          | (go_at_call 106; rw [← HXv.out]; refine (told_no _ _ _ n7 code _ HX2.out HN7.out).mono ?_; rintro e w3 ⟨ve, rfl, hE, hT⟩; have HE := Lib.hid hE; have HT := Lib.hid hT; clear hE hT))
        go_ret2
        rw [HP.out, HP2.out]
        exact ⟨(fun h => by cases h), fun code' h => by cases h; exact ⟨_, 0, rfl, HE.out, fun h9 => absurd h9 (stepW_ne (x := v.x) H.out.pre.ok H.out.pre.disk.room_le.2.1 (fun h0 => cutE_ok h0) cutE_ne HY.out)⟩, noo_turn HBq.out ⟨HXv.out, HXr.out⟩ HX2.out HT.out⟩
end
end Go.Proofs.YtlmjjhenoadndaaGreatDoor

/- The driver: Open of the program. -/
namespace Go.Proofs.YtlmjjhenoadndaaGreatDoor
open Go.RowKit Go.Sort

theorem WalIs.mono {B B' wb lb db life n next : Nat} {R : Nat → Prop} {x : WalD} {w : World} (h : WalIs B' wb lb db life R x n next w) (hB : B ≤ B') : WalIs B wb lb db life R x n next w := by
  obtain ⟨⟨bv, cv, xs, h1⟩, h2, h3, h4⟩ := h
  exact ⟨⟨bv, cv, xs, h1.bk, own_mono h1.ob hB, own_mono h1.oc hB, h1.xl, fun y hy => ⟨own_mono (h1.ent y hy).1 hB, (h1.ent y hy).2⟩, h1.rw_, h1.rb, h1.rc, fun k hk => ⟨Nat.le_trans hB (h1.bd k hk).1, (h1.bd k hk).2⟩, h1.inn⟩, h2, h3, Nat.le_trans hB h4⟩
def DOpenPost (B db : Nat) (Rd : Nat → Prop) (p : PlanD) (A : Option Addr) (c : Nat) (every : Int) (x : WalD) (n next : Nat) (d : DiskD) (w : World) (e : Ending) (w' : World) : Prop :=
  (∀ a code, checkD p = some (a, code) → ∃ v at_, e = .returned (.tuple #[.pointer none, v]) ∧ ErrAt w' v at_ code ∧ Below w.heap.size w w') ∧
  (checkD p = none → every < 1 ∨ 8 < every → ∃ v at_, e = .returned (.tuple #[.pointer none, v]) ∧ ErrAt w' v at_ 1 ∧ Below w.heap.size w w') ∧
  (checkD p = none → 1 ≤ every → every ≤ 8 → ∃ X : DrvX, e = .returned (.tuple #[.pointer (some ⟨X.vb, 0, none⟩), .nilIface]) ∧ DrvAt B X p A c ⟨⟨every.toNat, (x.marked : Nat), [], []⟩, x, n, next, d.life, false⟩ d w' ∧ X.db = db ∧ X.Rd = Rd ∧ (∀ k, X.all k → Rd k ∨ w.heap.size ≤ k) ∧ Below w.heap.size w w')
section
variable {B Bd db n next : Nat} {Rd : Nat → Prop} {p : PlanD} {A : Option Addr} {c : Nat} {x : WalD} {d : DiskD}
theorem dopen_end {ev wb lb sb : Nat} {Rw Rs : Nat → Prop} {w w1 w2 w3 : World} {s : SchedD} (hs : s = ⟨ev, (x.marked : Nat), [], []⟩) (hD : DiskIs Bd db Rd d w) (hO : ∀ ad, A = some ad → ¬ Rd ad.block ∧ ad.block < w.heap.size) (htd : 0 < Bd) (hBd : Bd ≤ w.heap.size) (hb1 : Below w.heap.size w w1) (hb2 : Below w1.heap.size w1 w2) (hRs : ∀ k, Rs k → w.heap.size ≤ k) (hRs1 : ∀ k, Rs k → k < w1.heap.size)
    (hW : WalIs w1.heap.size wb lb db d.life Rw x n next w2) (hT : STurn B sb Rs p A c s w2 (.returned (.tuple #[])) w3) (htv : TypeVar w) (htb : 0 < B) (hok : WalOk d x n next) (hl : d.life + 1 ≤ 1000000) (_hB : B ≤ w.heap.size) (hc : checkD p = none) (he : 1 ≤ (ev : Int)) (he8 : (ev : Int) ≤ 8) :
    DOpenPost B db Rd p A c (ev : Nat) x n next d w (.returned (.tuple #[.pointer (some ⟨w3.heap.size, 0, none⟩), .nilIface])) (w3.alloc (.cells #[.pointer (some ⟨sb, 0, none⟩), .pointer (some ⟨db, 0, none⟩), .int .i64 (d.life : Nat), .bool false, .pointer (some ⟨wb, 0, none⟩), .int .i64 (ev : Nat)] 106 (0, 0))) := by
  subst hs
  obtain ⟨_, R', hS, hF, hR'⟩ := hT
  have z1 := hb1.size
  have z2 := hb2.size
  have z3 := hF.size
  have hWb := hW.bd
  have hDb := hD.bd
  have hSb := hS.bd
  have hF0 : Fr (fun k => w.heap.size ≤ k) w w3 := ((Fr.of_below hb1).trans (Fr.of_below hb2) (fun k hk => .inl hk)).trans hF (fun k hk => .inl (hRs k hk))
  have hBl : Below w.heap.size w w3 := hF0.belowN (fun k hk hs => by omega)
  have hRsw : ∀ k, Rw k → ¬ Rs k := fun k hk hs => by have := hRs1 k hs; have := (hWb.1 k hk).1; omega
  have hlbs : ¬ Rs lb := fun hs => by have := hRs1 lb hs; have := hWb.2.1; omega
  have hW3 : WalIs Bd wb lb db d.life Rw x n next w3 := (hW.fr hF hRsw hlbs).mono (by omega)
  have hR'w : ∀ k, R' k → w.heap.size ≤ k := fun k hk => (hR' k hk).elim (hRs k) (fun h => by omega)
  have hb3 := ext_alloc (Below.refl w3.heap.size w3) (.cells #[.pointer (some ⟨sb, 0, none⟩), .pointer (some ⟨db, 0, none⟩), .int .i64 (d.life : Nat), .bool false, .pointer (some ⟨wb, 0, none⟩), .int .i64 (ev : Nat)] 106 (0, 0))
  refine ⟨(fun a' c' h' => by rw [hc] at h'; cases h'), (fun _ h' => by omega), fun _ _ _ => ⟨⟨Bd, w3.heap.size, sb, wb, lb, db, R', Rw, Rd⟩, rfl, ?_, rfl, rfl, fun k hk => ?_, ext_alloc hBl _⟩⟩
  · have hWb3 := hW3.bd
    refine ⟨Bk.new _ _ _, hS.ext hb3, ⟨hW3.ext hb3, (hD.ext hBl).ext hb3, fun k hk hd => ?_, fun hd => ?_, TypeVar.fr (S := No) (TypeVar.fr (S := No) htv (Fr.of_below hBl) (fun h => h)) (Fr.of_below hb3) (fun h => h), htd, hok, hl⟩, fun k hk => ⟨fun h => ?_, fun h => ?_, fun h => ?_⟩, ⟨fun h => ?_, fun h => ?_, fun h => ?_, fun h => ?_⟩, by show Bd ≤ w3.heap.size; omega, htb, fun ad hA => ⟨fun hk => ?_, by have := (hO ad hA).2; simp only [World.size_alloc]; omega⟩⟩
    · have := (hDb k hd).2; have := (hWb.1 k hk).1; omega
    · have := (hDb lb hd).2; have := hWb.2.1; omega
    · rcases hR' k hk with h1 | h1
      · exact hRsw k h h1
      · have := (hWb.1 k h).2; omega
    · have := hR'w k hk; have := (hDb k h).2; omega
    · subst h
      rcases hR' _ hk with h1 | h1
      · exact hlbs h1
      · have := hWb.2.2; omega
    · exact Nat.lt_irrefl _ (hSb _ h).2
    · exact Nat.lt_irrefl _ (hWb3.1 _ h).2
    · have h2 : w3.heap.size < w.heap.size := (hDb _ h).2
      omega
    · have h' : w3.heap.size = lb := h
      have := hWb3.2.2; omega
    · obtain ⟨o1, o2⟩ := hO ad hA
      rcases hk with hk | hk | hk | hk | hk
      · have hk' : ad.block = w3.heap.size := hk
        omega
      · have := hR'w _ hk; omega
      · have := (hWb.1 _ hk).1; omega
      · exact o1 hk
      · have hk' : ad.block = lb := hk
        have := hWb.2.1; omega
  · rcases hk with hk | hk | hk | hk | hk
    · have hk' : k = w3.heap.size := hk
      exact .inr (by omega)
    · exact .inr (hR'w k hk)
    · exact .inr (by have := (hWb.1 k hk).1; omega)
    · exact .inl hk
    · have hk' : k = lb := hk
      exact .inr (by have := hWb.2.1; omega)
set_option maxRecDepth 100000 in
set_option maxHeartbeats 8000000 in
theorem dOpen_c (every : Int) (w : World) (hD : DiskIs Bd db Rd d w) (hRo : checkD p = none → ∀ ad, A = some ad → ¬ Rd ad.block ∧ ad.block < w.heap.size) (htd : 0 < Bd) (hBd : Bd ≤ w.heap.size) (hd : d.down = false) (hok : WalOk d x n next) (htv : TypeVar w) (htb : 0 < B) (hl : d.life + 1 ≤ 1000000) (h : RdS w (· < B) 5 A p.ops.length (opsC p.ops)) (hB : B ≤ w.heap.size) :
    Calls Tryz.prog 41 #[.pointer (some ⟨db, 0, none⟩), planV p A c, .int .i64 every] w (DOpenPost B db Rd p A c every x n next d w) := by
  have HO := Lib.hid h
  have HD := Lib.hid hD
  have HDn := Lib.hid hd
  have HOk := Lib.hid hok
  have HT := Lib.hid htv
  have HTb := Lib.hid htb
  have HRo := Lib.hid hRo
  clear h hD hd hok htv htb hRo
  cases hc : checkD p with
  | some x0 =>
    obtain ⟨a, code⟩ := x0
    have HCk := Lib.hid hc
    clear hc
    go_enter Tryz.func41, Tryz.ntmps41
    go_wp2_with (first
      | (go_at_call 99; refine (snew_c B p A c every _ (HO.out.ext (ext_alloc (Below.refl _ _) _)) (by simp only [World.size_alloc]; omega)).mono ?_
         rintro e w1 hpost
         obtain ⟨v, a1, rfl, hE, hb⟩ := hpost.1 a code HCk.out
         obtain ⟨n7, hn7⟩ := hE.errN
         obtain ⟨T7, y7, rfl⟩ := hn7.iface
         have HE := Lib.hid hn7
         have HB := Lib.hid (ext_trans (ext_alloc (Below.refl w.heap.size w) _) hb)
         clear hpost hE hb hn7)
      | (go_at_call 100; refine (drvFault_c 0 n7 _ code _ HE.out).mono ?_; rintro e w8 ⟨v8, rfl, hE8, hb8⟩; have HE8 := Lib.hid hE8; have HB8 := Lib.hid (ext_trans HB.out hb8); clear hE8 hb8))
    go_ret2
    exact ⟨fun a' c' h' => by rw [HCk.out] at h'; cases h'; exact ⟨v8, 0, rfl, HE8.out, HB8.out⟩, (fun h' => by rw [HCk.out] at h'; cases h'), fun h' => by rw [HCk.out] at h'; cases h'⟩
  | none =>
    have HCk := Lib.hid hc
    clear hc
    by_cases hbad : every < 1 ∨ 8 < every
    · have HBad := Lib.hid hbad
      clear hbad
      go_enter Tryz.func41, Tryz.ntmps41
      go_wp2_with (first
        | (go_at_call 99; refine (snew_c B p A c every _ (HO.out.ext (ext_alloc (Below.refl _ _) _)) (by simp only [World.size_alloc]; omega)).mono ?_
           rintro e w1 hpost
           obtain ⟨v, a1, rfl, hE, hb⟩ := hpost.2.1 HCk.out HBad.out
           obtain ⟨n7, hn7⟩ := hE.errN
           obtain ⟨T7, y7, rfl⟩ := hn7.iface
           have HE := Lib.hid hn7
           have HB := Lib.hid (ext_trans (ext_alloc (Below.refl w.heap.size w) _) hb)
           clear hpost hE hb hn7)
        | (go_at_call 100; refine (drvFault_c 0 n7 _ 1 _ HE.out).mono ?_; rintro e w8 ⟨v8, rfl, hE8, hb8⟩; have HE8 := Lib.hid hE8; have HB8 := Lib.hid (ext_trans HB.out hb8); clear hE8 hb8))
      go_ret2
      exact ⟨(fun a' c' h' => by rw [HCk.out] at h'; cases h'), fun _ _ => ⟨v8, _, rfl, HE8.out, HB8.out⟩, fun _ h1 h2 => by have := HBad.out; omega⟩
    · obtain ⟨ev, hev⟩ : ∃ ev : Nat, every = (ev : Nat) := ⟨every.toNat, by omega⟩
      subst hev
      have h1 : 1 ≤ ((ev : Nat) : Int) := by omega
      have h8 : ((ev : Nat) : Int) ≤ 8 := by omega
      clear hbad
      have hmk : x.marked ≤ 60 := by have := HOk.out.inn.mkd; have := HOk.out.inn.nc; omega
      have HM := Lib.hid (show max (0 : Int) ((x.marked : Nat) : Int) = (x.marked : Nat) by omega)
      have HEv := Lib.hid (show ((ev : Nat) : Int).toNat = ev by omega)
      have HLf := Lib.hid (fun W h => dLife_c (B := Bd) (db := db) (R := Rd) (d := d) W h)
      go_enter Tryz.func41, Tryz.ntmps41
      go_wp2_with (first
        | (go_at_call 99; refine (snew_c B p A c (ev : Nat) _ (HO.out.ext (ext_alloc (Below.refl _ _) _)) (by simp only [World.size_alloc]; omega)).mono ?_
           rintro e w1 hpost
           obtain ⟨sb, Rs, rfl, hS, hb, hRs⟩ := hpost.2.2 HCk.out h1 h8
           rw [HEv.out] at hS
           have HB1 := Lib.hid (ext_trans (ext_alloc (Below.refl w.heap.size w) _) hb)
           have HS1 := Lib.hid hS
           have HSb := Lib.hid hS.bd
           have HRs := Lib.hid (show ∀ k, Rs k → w.heap.size ≤ k from fun k hk => by have := hRs k hk; simp only [World.size_alloc] at this; omega)
           clear hpost hS hb hRs)
        | (go_at_call 101; refine (wOpen_c _ (HD.out.ext HB1.out) HDn.out HOk.out).mono ?_
           rintro e w2 ⟨wb, lb, Rw, rfl, hW, hb⟩
           have HW := Lib.hid hW
           have HB2 := Lib.hid hb
           clear hW hb)
        | (go_at_call 103; obtain ⟨⟨bv, cv, xs, hWA⟩, _⟩ := HW.out; refine (wMarked_c _ hWA).mono ?_; rintro e w2 ⟨rfl, rfl⟩; clear hWA)
        | (go_at_call 102; refine (known_c (x.marked : Nat) _ (HS1.out.ext HB2.out) (by omega)).mono ?_
           rw [HM.out]
           rintro e w3 hT
           obtain rfl := hT.1
           have HTu := Lib.hid hT
           have HD3 := Lib.hid (show DiskIs Bd db Rd d w3 from by
             obtain ⟨_, R', _, hF, _⟩ := hT
             exact ((HD.out.ext HB1.out).ext HB2.out).fr hF (fun k hk hs => by have := HRs.out k hs; have := (HD.out.bd k hk).2; omega))
           clear hT)
        | (go_at_call 65; refine (HLf.out _ HD3.out).mono ?_; rintro e w4 ⟨rfl, rfl⟩))
      go_ret2
      exact dopen_end rfl HD.out (HRo.out HCk.out) htd hBd HB1.out HB2.out HRs.out (fun k hk => (HSb.out k hk).2) HW.out HTu.out HT.out HTb.out HOk.out hl hB HCk.out h1 h8
end
end Go.Proofs.YtlmjjhenoadndaaGreatDoor

/- The driver: what the disk's own turns leave; the marks, in plain Lean. -/
namespace Go.Proofs.YtlmjjhenoadndaaGreatDoor
open Go.RowKit Go.Sort

section
variable {B : Nat} {X : DrvX} {p : PlanD} {A : Option Addr} {c : Nat} {v : DrvD} {d d' : DiskD} {w w' : World} {e : Ending}
/-- Arm, Cut, Restart of the disk. -/
theorem DrvAt.disk (h : DrvAt B X p A c v d w) (ht : DTurn X.bd X.db X.Rd d' w e w') (hb : d'.blk = d.blk) (hr : d'.room = d.room) (hl : d'.life + 1 ≤ 1000000) : DrvAt B X p A c v d' w' := by
  obtain ⟨_, hD, hF⟩ := ht
  obtain ⟨v1, v2, v3, v4⟩ := h.vo
  have hDb := h.pre.disk.bd
  exact ⟨h.bk.fr hF v3, h.sched.frA hF (fun k hk => (h.sw k hk).2.1) (fun ad hA hk => (h.ho ad hA).1 (.inr (.inr (.inr (.inl hk))))), ⟨h.pre.wal.fr hF h.pre.apart h.pre.lbd, hD, h.pre.apart, h.pre.lbd, TypeVar.fr h.pre.tv hF (fun hs => by have := (hDb _ hs).1; have := h.pre.tb; omega), h.pre.tb, h.pre.ok.same hb hr, hl⟩, h.sw, h.vo, h.vB, h.tB, fun ad hA => ⟨(h.ho ad hA).1, Nat.lt_of_lt_of_le (h.ho ad hA).2 hF.size⟩⟩
theorem cut_same (d : DiskD) : d.cut.blk = d.blk ∧ d.cut.room = d.room ∧ d.cut.life ≤ d.life + 1 := by
  refine ⟨rfl, rfl, ?_⟩
  simp only [DiskD.cut]
  split <;> omega
theorem arm_same (d : DiskD) (n : Int) : (d.arm n).blk = d.blk ∧ (d.arm n).room = d.room ∧ (d.arm n).life = d.life := by
  unfold DiskD.arm
  split <;> exact ⟨rfl, rfl, rfl⟩
theorem restart_same (d : DiskD) : d.restart.blk = d.blk ∧ d.restart.room = d.room ∧ d.restart.life = d.life ∧ d.restart.down = false := ⟨rfl, rfl, rfl, rfl⟩
end
/-- The marks that are due, one behind the other. -/
def marksD (p : PlanD) : Nat → DrvD → DiskD → Option Int × DrvD × DiskD
  | 0, v, d => (none, v, d)
  | f + 1, v, d => if dueD v.s.every v.s.known v.x.marked = 0 ∨ unsavedL p v.s.saved (dueD v.s.every v.s.known v.x.marked : Nat) ≠ [] then (none, v, d)
    else match (v.step d (markE v.x (dueD v.s.every v.s.known v.x.marked : Nat)) (.mark (dueD v.s.every v.s.known v.x.marked))).1 with
      | none => marksD p f (v.step d (markE v.x (dueD v.s.every v.s.known v.x.marked : Nat)) (.mark (dueD v.s.every v.s.known v.x.marked))).2.1 (v.step d (markE v.x (dueD v.s.every v.s.known v.x.marked : Nat)) (.mark (dueD v.s.every v.s.known v.x.marked))).2.2
      | some _ => v.step d (markE v.x (dueD v.s.every v.s.known v.x.marked : Nat)) (.mark (dueD v.s.every v.s.known v.x.marked))
theorem due_gt {every m : Nat} {known : Int} (h1 : 1 ≤ every) (h : dueD every known m ≠ 0) : m < dueD every known m ∧ dueD every known m ≤ 60 ∧ ((dueD every known m : Nat) : Int) ≤ known ∧ dueD every known m % every = 0 ∧ dueD every known m ≤ m + every := by
  have hm := Nat.mod_lt m h1
  have hd := Nat.div_add_mod m every
  have e : dueD every known m = m + every - m % every := by
    unfold dueD at h ⊢
    split
    · next h2 => rw [if_pos h2] at h; exact absurd rfl h
    · rfl
  have h60 : ¬ (known < ((m + every - m % every : Nat) : Int) ∨ 60 < m + every - m % every) := by
    intro h2
    unfold dueD at h
    rw [if_pos h2] at h
    exact h rfl
  rw [e]
  refine ⟨by omega, by omega, by omega, ?_, by omega⟩
  rw [show m + every - m % every = every * (m / every + 1) from by rw [Nat.mul_add]; omega]
  exact Nat.mul_mod_right _ _
end Go.Proofs.YtlmjjhenoadndaaGreatDoor

/- The driver: Hear of the program (MCommitted). -/
namespace Go.Proofs.YtlmjjhenoadndaaGreatDoor
open Go.RowKit Go.Sort

structure MsgD where
  kind : Int
  worker : Int
  id : Id3
  deep : Bool
  holds : Value
  why : Int
  lost : Id3
  lw : Int
  rows : Value
  n : Int
def MsgD.cs (m : MsgD) : Array Value := #[.int .i64 m.kind, .int .i64 m.worker, .int .i64 m.id.b, .int .i64 m.id.s, .int .i64 m.id.p, .bool m.deep, m.holds, .int .i64 m.why, .int .i64 m.lost.b, .int .i64 m.lost.s, .int .i64 m.lost.p, .int .i64 m.lw, m.rows, .int .i64 m.n]
section
variable {B : Nat} {X : DrvX} {p : PlanD} {A : Option Addr} {c : Nat} {v : DrvD} {d : DiskD}
theorem DrvAt.sturn {w w' : World} {s' : SchedD} {e : Ending} (h : DrvAt B X p A c v d w) (ht : STurn B X.sb X.Rs p A c s' w e w') (he : s'.every = v.s.every) : VTurn B X p A c ⟨s', v.x, v.n, v.next, v.life, v.gone⟩ d w w' := by
  obtain ⟨_, R', hS, hF, hR⟩ := ht
  obtain ⟨v1, v2, v3, v4⟩ := h.vo
  have hSb := h.sched.bd
  have hWb := h.pre.wal.bd
  have hDb := h.pre.disk.bd
  have hvl := h.bk.lt
  have hB : ∀ k, X.Rs k → B ≤ k := fun k hk => (hSb k hk).1
  refine ⟨⟨X.bd, X.vb, X.sb, X.wb, X.lb, X.db, R', X.Rw, X.Rd⟩, ⟨by rw [he]; exact h.bk.fr hF v1, hS, ⟨h.pre.wal.fr hF (fun k hk hs => (h.sw k hs).1 hk) (fun hs => (h.sw _ hs).2.2 rfl), h.pre.disk.fr hF (fun k hk hs => (h.sw k hs).2.1 hk), h.pre.apart, h.pre.lbd, TypeVar.fr h.pre.tv hF (fun hs => by have := hB _ hs; have := h.tB; omega), h.pre.tb, h.pre.ok, h.pre.life⟩, fun k hk => ?_, ⟨fun hk => (hR _ hk).elim v1 (fun h => absurd h (Nat.not_le.2 hvl)), v2, v3, v4⟩, h.vB, h.tB, fun ad hA => ⟨fun hk => ?_, Nat.lt_of_lt_of_le (h.ho ad hA).2 hF.size⟩⟩, rfl, rfl, fun k hk => ?_, fun k hk => .inl hk, hF.mono (fun k _ hk => .inr (.inl hk))⟩
  · rcases hR k hk with h1 | h1
    · exact h.sw k h1
    · exact ⟨fun h2 => by have := (hWb.1 k h2).2; omega, fun h2 => by have := (hDb k h2).2; omega, fun h2 => by have := hWb.2.2; have h3 : k = X.lb := h2; omega⟩
  · obtain ⟨o1, o2⟩ := h.ho ad hA
    rcases hk with hk | hk | hk | hk | hk
    · exact o1 (.inl hk)
    · exact (hR _ hk).elim (fun h => o1 (.inr (.inl h))) (fun h => by omega)
    · exact o1 (.inr (.inr (.inl hk)))
    · exact o1 (.inr (.inr (.inr (.inl hk))))
    · exact o1 (.inr (.inr (.inr (.inr hk))))
  · rcases hk with hk | hk | hk | hk | hk
    · exact .inl (.inl hk)
    · exact (hR k hk).imp (fun h => .inr (.inl h)) id
    · exact .inl (.inr (.inr (.inl hk)))
    · exact .inl (.inr (.inr (.inr (.inl hk))))
    · exact .inl (.inr (.inr (.inr (.inr hk))))
end
def HPost (B : Nat) (X : DrvX) (p : PlanD) (A : Option Addr) (c : Nat) (z : Option Int × DrvD × DiskD) (w : World) (e : Ending) (w' : World) : Prop :=
  (z.1 = none → e = .returned .nilIface) ∧ (∀ code, z.1 = some code → ∃ ve a, e = .returned ve ∧ ErrAt w' ve a code) ∧ VTurn B X p A c z.2.1 z.2.2 w w'
end Go.Proofs.YtlmjjhenoadndaaGreatDoor

/- The driver: Hear of the program. -/
namespace Go.Proofs.YtlmjjhenoadndaaGreatDoor
open Go.RowKit Go.Sort

section
variable {B : Nat} {X : DrvX} {p : PlanD} {A : Option Addr} {c : Nat} {v : DrvD} {d : DiskD}
set_option maxRecDepth 100000 in
set_option maxHeartbeats 8000000 in
theorem hear_bad (m : MsgD) (w : World) (h : DrvAt B X p A c v d w) (hk : m.kind ≠ 2 ∧ m.kind ≠ 3 ∧ m.kind ≠ 5 ∧ m.kind ≠ 8) :
    Calls Tryz.prog 45 #[.pointer (some ⟨X.vb, 0, none⟩), .agg m.cs] w (HPost B X p A c (if v.down d then (some 70, v, d) else (some 1, v, d)) w) := by
  obtain ⟨k2, k3, k5, k8⟩ := hk
  have u2 : (m.kind == 2) = false := beq_eq_false_iff_ne.2 k2
  have u3 : (m.kind == 3) = false := beq_eq_false_iff_ne.2 k3
  have u5 : (m.kind == 5) = false := beq_eq_false_iff_ne.2 k5
  have u8 : (m.kind == 8) = false := beq_eq_false_iff_ne.2 k8
  have u8' : (m.kind != 8) = true := by rw [bne, u8]; rfl
  have HX := Lib.hid (Bk.new w 94 m.cs)
  have HU := Lib.hid (vup_c _ (h.ext (ext_alloc (Below.refl w.heap.size w) (.cells m.cs 94 (0, 0)))))
  have H := Lib.hid h
  cases hd : v.down d with
  | true =>
    have HD := Lib.hid hd
    clear h hd
    go_enter Tryz.func45, Tryz.ntmps45
    go_wp2_with (first
      | (go_at_call 105; refine HU.out.mono ?_; rintro e w1 hpost; obtain ⟨ve, rfl, hE, hb⟩ := hpost.2 HD.out; obtain ⟨n7, hn7⟩ := hE.errN; obtain ⟨T7, y7, rfl⟩ := hn7.iface; have HE := Lib.hid hE; have HB := Lib.hid (ext_trans (ext_alloc (Below.refl w.heap.size w) _) hb); clear hpost hE hb hn7))
    go_ret
    exact ⟨(fun h => by cases h), fun code h => by cases h; exact ⟨_, _, rfl, HE.out⟩, H.out.turn HB.out⟩
  | false =>
    have HD := Lib.hid hd
    clear h hd
    go_enter Tryz.func45, Tryz.ntmps45
    go_wp2_with (first
      | (go_at_call 105; refine HU.out.mono ?_; rintro e w1 hpost; obtain ⟨rfl, hb⟩ := hpost.1 HD.out
         have HX1 := Lib.hid (HX.out.ext hb)
         have q0 : w1.cell? ⟨w.heap.size, 0, none⟩ = some (.int .i64 m.kind) := (HX1.out.cell 0).trans rfl
         have ql := HX1.out.lt
         have HB := Lib.hid (ext_trans (ext_alloc (Below.refl w.heap.size w) _) hb); clear hpost hb)
      | (go_at_call 100; refine (drvFault_c _ 0 _ 1 _ rfl).mono ?_; rintro e w8 ⟨v8, rfl, hE8, hb8⟩; have HE8 := Lib.hid hE8; have HB8 := Lib.hid (ext_trans HB.out hb8); clear hE8 hb8))
    go_ret
    exact ⟨(fun h => by cases h), fun code h => by cases h; exact ⟨_, _, rfl, HE8.out⟩, H.out.turn HB8.out⟩
end
end Go.Proofs.YtlmjjhenoadndaaGreatDoor
