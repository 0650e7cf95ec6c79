/- KeepsV, AgainP, HoldsE, AgainJ, KitB, CopyC, Open, ActK, LoadA, AgainW, Lift, OpenW: laid together. -/
import Derived.Test.YtlmjjhenoadndaaGreatDoorPwP
import Derived.Test.YtlmjjhenoadndaaGreatDoorPwO
import Derived.Test.YtlmjjhenoadndaaGreatDoorPwB
import Derived.Test.YtlmjjhenoadndaaGreatDoorPwN
import Derived.Test.YtlmjjhenoadndaaGreatDoorPwA
import Derived.Test.YtlmjjhenoadndaaGreatDoorRows
import Derived.Laws.CopyOwn
import Derived.ProofKit
import Derived.Deep.Slices
import Derived.WideShapes
import Derived.Deep.WholeRow
import Derived.Deep.MidRow
import Derived.ChangeSame
import Derived.ChangeVars
import Derived.JoinedOf
import Derived.LaidLaws
import Derived.LaidHandle
import Derived.Stop.Joined
import Derived.ChangeOld
import GoSem.ClaimJoined

/- A driver that was opened behind a world: its calls, whatever they meet. -/
namespace Go.Proofs.YtlmjjhenoadndaaGreatDoor
open Go.RowKit Go.Sort

section
variable {B : Nat} {X : DrvX} {p : PlanD} {A : Option Addr} {c : Nat} {v : DrvD} {d : DiskD} {w : World}
set_option maxRecDepth 100000 in
set_option maxHeartbeats 4000000 in
theorem vDown_q (w : World) (h : DrvAt B X p A c v d w) : Calls Tryz.prog 52 #[.pointer (some ⟨X.vb, 0, none⟩)] w (fun e w' => e = .returned (.bool (v.down d)) ∧ ∃ q, w' = w.drewN q) := by
  have z1 : w.cell? ⟨X.vb, 1, none⟩ = some (.pointer (some ⟨X.db, 0, none⟩)) := (h.bk.cell 1).trans rfl
  have z2 : w.cell? ⟨X.vb, 2, none⟩ = some (.int .i64 (v.life : Nat)) := (h.bk.cell 2).trans rfl
  have z3 : w.cell? ⟨X.vb, 3, none⟩ = some (.bool v.gone) := (h.bk.cell 3).trans rfl
  have hl := h.bk.lt
  have HD := Lib.hid h.pre.disk
  clear h
  obtain ⟨db, hdb⟩ : ∃ db, db = X.db := ⟨_, rfl⟩
  rw [← hdb] at z1 HD
  clear hdb
  cases hg : v.gone with
  | true =>
    rw [hg] at z3
    have HV := Lib.hid (show v.down d = true from by unfold DrvD.down; rw [hg]; rfl)
    clear hg
    go_enter Tryz.func52, Tryz.ntmps52
    go_wp2_with fail
    go_quiet (fail)
    go_wp2_with fail
    go_ret
    rw [HV.out]
    exact ⟨rfl, _, rfl⟩
  | false =>
    rw [hg] at z3
    cases hd : d.down with
    | true =>
      have HV := Lib.hid (show v.down d = true from by unfold DrvD.down goneD; rw [hg, hd]; rfl)
      have HC := Lib.hid (fun W h => dDown_c (B := X.bd) (db := db) (R := X.Rd) (d := d) W h)
      rw [hd] at HC
      clear hg hd
      go_enter Tryz.func52, Tryz.ntmps52
      go_wp2_with fail
      go_quiet ((go_at_call 64; exact quiet_val (HC.out _ (HD.out.drewN _))))
      go_wp2_with fail
      go_ret
      rw [HV.out]
      exact ⟨rfl, _, rfl⟩
    | false =>
      have HC := Lib.hid (fun W h => dDown_c (B := X.bd) (db := db) (R := X.Rd) (d := d) W h)
      rw [hd] at HC
      have HL := Lib.hid (fun W h => dLife_c (B := X.bd) (db := db) (R := X.Rd) (d := d) W h)
      obtain ⟨u, hu⟩ : ∃ u, u = ((d.life : Int) != (v.life : Int)) := ⟨_, rfl⟩
      have HV := Lib.hid (show v.down d = u from by
        unfold DrvD.down goneD
        rw [hg, hd, hu, Bool.eq_iff_iff]
        simp only [Bool.false_or, decide_eq_true_eq, ne_eq, bne_iff_ne]
        omega)
      clear hg hd
      go_enter Tryz.func52, Tryz.ntmps52
      go_wp2_with fail
      go_quiet (first | (go_at_call 64; exact quiet_val (HC.out _ (HD.out.drewN _))) | (go_at_call 65; exact quiet_val (HL.out _ (HD.out.drewN _))))
      go_wp2_with fail
      go_ret
      rw [HV.out, hu]
      exact ⟨rfl, _, rfl⟩
end
section
variable {B vb db e b i : Nat} {p : PlanD} {A : Option Addr} {c : Nat} {v : DrvD} {d : DiskD} {K : Nat → Prop} {w0 : World}
theorem VIs.room {w : World} (h : VIs B vb db p A c v d K w0 w) : d.room ≤ 65536 := by
  obtain ⟨X, h1, h2, h3, h4, h5, h6⟩ := h
  exact h1.pre.disk.room_le.2.1
theorem down_q (w : World) (h : VIs B vb db p A c v d K w0 w) : Calls Tryz.prog 52 #[.pointer (some ⟨vb, 0, none⟩)] w (fun e w' => e = .returned (.bool (v.down d)) ∧ ∃ q, w' = w.drewN q) := by
  obtain ⟨X, h1, h2, h3, h4, h5, h6⟩ := h
  rw [← h2]
  exact vDown_q w h1
/-- What a call leaves, whatever it met. -/
def KGo (B vb db : Nat) (p : PlanD) (A : Option Addr) (c : Nat) (K : Nat → Prop) (w0 : World) (e b i mk : Nat) (w' : World) : Prop := ∃ v' d', VIs B vb db p A c v' d' K w0 w' ∧ KSt e b i v' d' ∧ mk ≤ v'.x.marked
theorem push_k (S : Nat → Prop) (l : List Rw) (nl : Nat) (hnl : l.length = nl) (A0 : Option Addr) (c0 : Nat) (w : World) (h : VIs B vb db p A c v d K w0 w) (hS : KSt e b i v d) (hi : i ≤ 1000) (hr : RdS w S 2 A0 l.length (l.flatMap rwC)) (hSs : ∀ k, S k → k < w0.heap.size) (h64 : ∀ r ∈ l, I64 r.k ∧ I64 r.v) :
    Calls Tryz.prog 43 #[.pointer (some ⟨vb, 0, none⟩), .slice A0 nl c0] w (fun e' w' => (∃ r, e' = .returned r) ∧ KGo B vb db p A c K w0 e b (i + 1) v.x.marked w') := by
  subst hnl
  have hok := h.ok
  have hroom := h.room
  obtain ⟨k1, k2⟩ := push_keep hS hok hroom h64
  obtain ⟨X, h1, h2, h3, h4, h5, h6⟩ := h
  rw [← h2]
  refine (vPush_c S l A0 c0 w h1 hr (fun k hk => ⟨fun hd => ?_, fun e => ?_⟩) h64 (by have := hS.life; omega)).mono ?_
  · have := hSs k hk; have := h4 k (.inr (.inr (.inr (.inl hd)))); omega
  · have := hSs k hk; have := h4 k (.inr (.inr (.inr (.inr e)))); omega
  rintro e' w' ⟨r1, r2, r3⟩
  refine ⟨?_, _, _, (VIs.turn rfl h3 h4 h5 h6 r3).1, k1, by rw [k2]; exact Nat.le_refl _⟩
  cases hz : (pushD v d l).1 with
  | none => exact ⟨_, r1 hz⟩
  | some code =>
    obtain ⟨ve, a, he, _⟩ := r2 code hz
    exact ⟨_, he⟩
theorem cut_k1 (w : World) (h : VIs B vb db p A c v d K w0 w) (hS : KSt e b i v d) (hi : i ≤ 1000) (hz : (cutD v d).1 = none) :
    b + 1 ≤ v.x.marked + 2 * e ∧ Calls Tryz.prog 44 #[.pointer (some ⟨vb, 0, none⟩)] w (fun e' w' => e' = .returned (.tuple #[.int .i64 ((b + 1 : Nat) : Int), .nilIface]) ∧ KGo B vb db p A c K w0 e (b + 1) (i + 1) v.x.marked w') := by
  have hok := h.ok
  have hroom := h.room
  obtain ⟨m1, m2, m3⟩ := (cut_keep hS hok hroom).1 hz
  refine ⟨m1, ?_⟩
  obtain ⟨X, h1, h2, h3, h4, h5, h6⟩ := h
  rw [← h2]
  refine (vCut_c w h1 (by have := hS.life; omega)).mono ?_
  rintro e' w' ⟨r1, r2, r3⟩
  refine ⟨?_, _, _, (VIs.turn rfl h3 h4 h5 h6 r3).1, m2, by rw [m3]; exact Nat.le_refl _⟩
  rw [r1 hz, hS.nc]
theorem cut_k2 {code : Int} (w : World) (h : VIs B vb db p A c v d K w0 w) (hS : KSt e b i v d) (hi : i ≤ 1000) (hz : (cutD v d).1 = some code) :
    (code = 90 → ¬ b + 1 ≤ v.x.marked + 2 * e) ∧ Calls Tryz.prog 44 #[.pointer (some ⟨vb, 0, none⟩)] w (fun e' w' => ∃ T y n, e' = .returned (.tuple #[.int .i64 0, .iface T y]) ∧ ErrN w' n (.iface T y) code ∧ TypeVar w' ∧ KGo B vb db p A c K w0 e b (i + 1) v.x.marked w') := by
  have hok := h.ok
  have hroom := h.room
  obtain ⟨m1, m2, m3⟩ := (cut_keep hS hok hroom).2 code hz
  refine ⟨m3, ?_⟩
  obtain ⟨X, h1, h2, h3, h4, h5, h6⟩ := h
  rw [← h2]
  refine (vCut_c w h1 (by have := hS.life; omega)).mono ?_
  rintro e' w' ⟨r1, r2, r3⟩
  have hV := (VIs.turn rfl h3 h4 h5 h6 r3).1
  obtain ⟨ve, a, he, hE, _⟩ := r2 code hz
  obtain ⟨n7, hn7⟩ := hE.errN
  obtain ⟨T7, y7, rfl⟩ := hn7.iface
  exact ⟨T7, y7, n7, he, hn7, hV.tv, _, _, hV, m1, by rw [m2]; exact Nat.le_refl _⟩
theorem KGo.ext {mk : Nat} {w w' : World} (h : KGo B vb db p A c K w0 e b i mk w) (hb : Below w.heap.size w w') : KGo B vb db p A c K w0 e b i mk w' := by
  obtain ⟨v', d', h1, h2, h3⟩ := h
  exact ⟨v', d', h1.ext hb, h2, h3⟩
theorem hear_z {z : Option Int × DrvD × DiskD} {mk : Nat} {m : MsgD} (w : World) (h : VIs B vb db p A c v d K w0 w) (hk : KSt e b (i + 1) z.2.1 z.2.2 ∧ mk ≤ z.2.1.x.marked) (hc : ∀ X, DrvAt B X p A c v d w → Calls Tryz.prog 45 #[.pointer (some ⟨X.vb, 0, none⟩), .agg m.cs] w (HPost B X p A c z w)) :
    Calls Tryz.prog 45 #[.pointer (some ⟨vb, 0, none⟩), .agg m.cs] w (fun e' w' => (∃ r, e' = .returned r) ∧ KGo B vb db p A c K w0 e b (i + 1) mk w') := by
  obtain ⟨X, h1, h2, h3, h4, h5, h6⟩ := h
  rw [← h2]
  refine (hc X h1).mono ?_
  intro e' w' hp
  obtain ⟨r1, r2, r3, _⟩ := HPost.go rfl h3 h4 h5 h6 hp
  refine ⟨?_, _, _, r3, hk⟩
  cases hz : z.1 with
  | none => exact ⟨_, r1 hz⟩
  | some code =>
    obtain ⟨ve, a, he, _⟩ := r2 code hz
    exact ⟨_, he⟩
theorem hear_k (m : MsgD) (w : World) (h : VIs B vb db p A c v d K w0 w) (he : 1 ≤ e) (hS : KSt e b i v d) (hi : i ≤ 1000) (hn : m.n ≤ 9223372036854775807) :
    Calls Tryz.prog 45 #[.pointer (some ⟨vb, 0, none⟩), .agg m.cs] w (fun e' w' => (∃ r, e' = .returned r) ∧ KGo B vb db p A c K w0 e b (i + 1) v.x.marked w') := by
  have hok := h.ok
  have hroom := h.room
  have hlf : d.life + 2 ≤ 1000000 := by have := hS.life; omega
  by_cases h2 : m.kind = 2
  · exact hear_z w h (hear_keep (p := p) (v1 := v.tolds p m.id m.worker) he hS hok hroom ⟨rfl, rfl, rfl, told_every _ _ _ _, by show v.s.known ≤ (v.s.told p m.id m.worker).known; rw [told_known]; exact Int.le_refl _⟩) (fun X h1 => hear_told m w h1 h2 hlf)
  by_cases h3 : m.kind = 3
  · exact hear_z w h (hear_keep (p := p) (v1 := v.losts m.lost m.lw) he hS hok hroom ⟨rfl, rfl, rfl, rfl, Int.le_refl _⟩) (fun X h1 => hear_lost m w h1 h3 hlf)
  by_cases h5 : m.kind = 5
  · exact hear_z w h (hear_keep (p := p) (v1 := v.known m.n) he hS hok hroom ⟨rfl, rfl, rfl, rfl, by show v.s.known ≤ max v.s.known m.n; omega⟩) (fun X h1 => hear_known m w h1 h5 hlf hn)
  by_cases h8 : m.kind = 8
  · exact hear_z w h (hear_keep (p := p) (v1 := v.saves p m.id) he hS hok hroom ⟨rfl, rfl, rfl, save_every _ _ _, by show v.s.known ≤ (v.s.save p m.id).known; rw [save_known]; exact Int.le_refl _⟩) (fun X h1 => hear_saved m w h1 h8 hlf)
  · refine hear_z w h (z := if v.down d then (some 70, v, d) else (some 1, v, d)) ?_ (fun X h1 => hear_bad m w h1 ⟨h2, h3, h5, h8⟩)
    split <;> exact ⟨hS.upto (by omega), Nat.le_refl _⟩
theorem arm_k (n : Int) (w : World) (h : VIs B vb db p A c v d K w0 w) (hS : KSt e b i v d) (hn : n ≤ 9223372036854775807) : Calls Tryz.prog 33 #[.pointer (some ⟨db, 0, none⟩), .int .i64 n] w (fun e' w' => (∃ r, e' = .returned r) ∧ KGo B vb db p A c K w0 e b (i + 1) v.x.marked w') :=
  (arm_v n w h hn).mono fun e' w' hp => ⟨⟨_, hp.1⟩, v, d.arm n, hp.2.1, ⟨hS.ev, hS.nc, hS.mod, hS.lag, hS.kn, by have := (arm_same d n).2.2; have := hS.life; omega⟩, Nat.le_refl _⟩
theorem dcut_k (w : World) (h : VIs B vb db p A c v d K w0 w) (hS : KSt e b i v d) (hi : i ≤ 1000) : Calls Tryz.prog 35 #[.pointer (some ⟨db, 0, none⟩)] w (fun e' w' => (∃ r, e' = .returned r) ∧ KGo B vb db p A c K w0 e b (i + 1) v.x.marked w') :=
  (dcut_v w h (by have := hS.life; omega)).mono fun e' w' hp => ⟨⟨_, hp.1⟩, v, d.cut, hp.2.1, ⟨hS.ev, hS.nc, hS.mod, hS.lag, hS.kn, by have := (cut_same d).2.2; have := hS.life; omega⟩, Nat.le_refl _⟩
/-- Behind a restart, opened anew. -/
theorem KSt.reopen (hS : KSt e b i v d) : KSt e b i ⟨⟨((e : Nat) : Int).toNat, (v.x.marked : Nat), [], []⟩, v.x, v.n, v.next, d.restart.life, false⟩ d.restart := ⟨rfl, hS.nc, hS.mod, hS.lag, Int.le_refl _, hS.life⟩
end
end Go.Proofs.YtlmjjhenoadndaaGreatDoor

/- A driver over a disk that keeps its power: plain; its calls, whatever they meet. -/
namespace Go.Proofs.YtlmjjhenoadndaaGreatDoor
open Go.RowKit Go.Sort

/-- A driver of that Every over a disk with power, not armed. -/
structure ASt (e room : Nat) (v : DrvD) (d : DiskD) : Prop where
  ev : v.s.every = e
  life : v.life = 0
  gone : v.gone = false
  free : Free d room 0
theorem ASt.free' {e room : Nat} {v : DrvD} {d : DiskD} (h : ASt e room v d) : Free d room v.life := by rw [h.life]; exact h.free
theorem ASt.ok {e room : Nat} {v : DrvD} {d : DiskD} (h : ASt e room v d) : d.life + 2 ≤ 1000000 := by rw [h.free.2.2.2]; omega
theorem step_a {e room : Nat} {v : DrvD} {d : DiskD} {t : Option Int} {r : Rec} (hS : ASt e room v d) (ht : ∀ c, t = some c → c ≠ 70) : ASt e room (v.step d t r).2.1 (v.step d t r).2.2 := by
  have key : ∀ c, c ≠ 70 → ASt e room (v.no c) d := fun c hc => ⟨hS.ev, hS.life, by show (v.gone || decide (c = 70)) = false; rw [hS.gone, decide_eq_false hc]; rfl, hS.free⟩
  cases t with
  | some c => exact key c (ht c rfl)
  | none =>
    obtain ⟨f1, f2, f3, f4⟩ := hS.free'
    by_cases hr : blocksN r.bytes.length ≤ d.room - v.next
    · have h := append_free (d := d) (n := v.n) (next := v.next) (b := r.bytes) f1 f2 hr
      rw [f4] at h
      obtain ⟨h1, h2, h3, h4, h5⟩ := h
      unfold DrvD.step stepW
      simp only [h1]
      exact ⟨hS.ev, hS.life, hS.gone, h2, h3, h4.trans f3, h5.trans hS.life⟩
    · have hg : goneD d v.life = false := by unfold goneD; rw [f1, f4]; simp
      have h : appendD d v.life v.n v.next r.bytes = (d, some 71) := by
        unfold appendD
        rw [hg, if_neg (by simp), if_pos (by omega)]
      unfold DrvD.step stepW
      simp only [h]
      exact key 71 (by omega)
theorem blockE_70 {x : WalD} {n : Nat} : ∀ c, blockE x n = some c → c ≠ 70 := by
  intro c h
  unfold blockE at h
  split at h
  · cases h; omega
  · cases h
theorem cutE_70 {x : WalD} : ∀ c, cutE x = some c → c ≠ 70 := by
  intro c h
  unfold cutE at h
  split at h
  · cases h; omega
  · cases h
theorem markE_70 {x : WalD} {n : Int} : ∀ c, markE x n = some c → c ≠ 70 := by
  intro c h
  unfold markE at h
  split at h
  · cases h; omega
  · cases h
theorem push_a {e room : Nat} {v : DrvD} {d : DiskD} {l : List Rw} (hS : ASt e room v d) : ASt e room (pushD v d l).2.1 (pushD v d l).2.2 := by
  unfold pushD
  rw [free_down hS.free' hS.gone, if_neg (by simp)]
  exact step_a hS blockE_70
theorem cut_a {e room : Nat} {v : DrvD} {d : DiskD} (hS : ASt e room v d) : ASt e room (cutD v d).2.1 (cutD v d).2.2 := by
  unfold cutD
  rw [free_down hS.free' hS.gone, if_neg (by simp)]
  split
  · exact hS
  · exact step_a hS cutE_70
theorem marks_a {e room : Nat} {p : PlanD} : ∀ (f : Nat) (v : DrvD) (d : DiskD), ASt e room v d → ASt e room (marksD p f v d).2.1 (marksD p f v d).2.2
  | 0, _, _, hS => hS
  | f + 1, v, d, hS => by
    rw [marksD]
    split
    · exact hS
    · have h1 := step_a (r := .mark (dueD v.s.every v.s.known v.x.marked)) hS (markE_70 (x := v.x) (n := (dueD v.s.every v.s.known v.x.marked : Nat)))
      split
      · exact marks_a f _ _ h1
      · exact h1
theorem hear_a {e room : Nat} {p : PlanD} {v v1 : DrvD} {d : DiskD} (hS : ASt e room v d) (hx : v1.s.every = v.s.every ∧ v1.life = v.life ∧ v1.gone = v.gone) : ASt e room (hearD p v v1 d).2.1 (hearD p v v1 d).2.2 := by
  unfold hearD
  rw [free_down hS.free' hS.gone, if_neg (by simp)]
  exact marks_a 61 v1 d ⟨hx.1.trans hS.ev, hx.2.1.trans hS.life, hx.2.2.trans hS.gone, hS.free⟩
section
variable {B vb db e room : Nat} {p : PlanD} {A : Option Addr} {c : Nat} {v : DrvD} {d : DiskD} {K : Nat → Prop} {w0 : World}
def AGo (B vb db : Nat) (p : PlanD) (A : Option Addr) (c : Nat) (K : Nat → Prop) (w0 : World) (e room : Nat) (w' : World) : Prop := ∃ v' d', VIs B vb db p A c v' d' K w0 w' ∧ ASt e room v' d'
theorem push_ag (S : Nat → Prop) (l : List Rw) (nl : Nat) (hnl : l.length = nl) (A0 : Option Addr) (c0 : Nat) (w : World) (h : VIs B vb db p A c v d K w0 w) (hS : ASt e room v d) (hr : RdS w S 2 A0 l.length (l.flatMap rwC)) (hSs : ∀ k, S k → k < w0.heap.size) (h64 : ∀ r ∈ l, I64 r.k ∧ I64 r.v) :
    Calls Tryz.prog 43 #[.pointer (some ⟨vb, 0, none⟩), .slice A0 nl c0] w (fun e' w' => (∃ r, e' = .returned r) ∧ AGo B vb db p A c K w0 e room w') := by
  subst hnl
  obtain ⟨X, h1, h2, h3, h4, h5, h6⟩ := h
  rw [← h2]
  refine (vPush_c S l A0 c0 w h1 hr (fun k hk => ⟨fun hd => ?_, fun e => ?_⟩) h64 hS.ok).mono ?_
  · have := hSs k hk; have := h4 k (.inr (.inr (.inr (.inl hd)))); omega
  · have := hSs k hk; have := h4 k (.inr (.inr (.inr (.inr e)))); omega
  rintro e' w' ⟨r1, r2, r3⟩
  refine ⟨?_, _, _, (VIs.turn rfl h3 h4 h5 h6 r3).1, push_a hS⟩
  cases hz : (pushD v d l).1 with
  | none => exact ⟨_, r1 hz⟩
  | some code =>
    obtain ⟨ve, a, he, _⟩ := r2 code hz
    exact ⟨_, he⟩
theorem cut_ag (w : World) (h : VIs B vb db p A c v d K w0 w) (hS : ASt e room v d) :
    Calls Tryz.prog 44 #[.pointer (some ⟨vb, 0, none⟩)] w (fun e' w' => (∃ r, e' = .returned r) ∧ AGo B vb db p A c K w0 e room w') := by
  obtain ⟨X, h1, h2, h3, h4, h5, h6⟩ := h
  rw [← h2]
  refine (vCut_c w h1 hS.ok).mono ?_
  rintro e' w' ⟨r1, r2, r3⟩
  refine ⟨?_, _, _, (VIs.turn rfl h3 h4 h5 h6 r3).1, cut_a hS⟩
  cases hz : (cutD v d).1 with
  | none => exact ⟨_, r1 hz⟩
  | some code =>
    obtain ⟨ve, a, he, _⟩ := r2 code hz
    exact ⟨_, he⟩
theorem hear_az {z : Option Int × DrvD × DiskD} {m : MsgD} (w : World) (h : VIs B vb db p A c v d K w0 w) (hk : ASt e room z.2.1 z.2.2) (hc : ∀ X, DrvAt B X p A c v d w → Calls Tryz.prog 45 #[.pointer (some ⟨X.vb, 0, none⟩), .agg m.cs] w (HPost B X p A c z w)) :
    Calls Tryz.prog 45 #[.pointer (some ⟨vb, 0, none⟩), .agg m.cs] w (fun e' w' => (∃ r, e' = .returned r) ∧ AGo B vb db p A c K w0 e room w') := by
  obtain ⟨X, h1, h2, h3, h4, h5, h6⟩ := h
  rw [← h2]
  refine (hc X h1).mono ?_
  intro e' w' hp
  obtain ⟨r1, r2, r3, _⟩ := HPost.go rfl h3 h4 h5 h6 hp
  refine ⟨?_, _, _, r3, hk⟩
  cases hz : z.1 with
  | none => exact ⟨_, r1 hz⟩
  | some code =>
    obtain ⟨ve, a, he, _⟩ := r2 code hz
    exact ⟨_, he⟩
theorem hear_ag (m : MsgD) (w : World) (h : VIs B vb db p A c v d K w0 w) (hS : ASt e room v d) (hn : m.n ≤ 9223372036854775807) :
    Calls Tryz.prog 45 #[.pointer (some ⟨vb, 0, none⟩), .agg m.cs] w (fun e' w' => (∃ r, e' = .returned r) ∧ AGo B vb db p A c K w0 e room w') := by
  by_cases h2 : m.kind = 2
  · exact hear_az w h (hear_a (p := p) (v1 := v.tolds p m.id m.worker) hS ⟨told_every _ _ _ _, rfl, rfl⟩) (fun X h1 => hear_told m w h1 h2 hS.ok)
  by_cases h3 : m.kind = 3
  · exact hear_az w h (hear_a (p := p) (v1 := v.losts m.lost m.lw) hS ⟨rfl, rfl, rfl⟩) (fun X h1 => hear_lost m w h1 h3 hS.ok)
  by_cases h5 : m.kind = 5
  · exact hear_az w h (hear_a (p := p) (v1 := v.known m.n) hS ⟨rfl, rfl, rfl⟩) (fun X h1 => hear_known m w h1 h5 hS.ok hn)
  by_cases h8 : m.kind = 8
  · exact hear_az w h (hear_a (p := p) (v1 := v.saves p m.id) hS ⟨save_every _ _ _, rfl, rfl⟩) (fun X h1 => hear_saved m w h1 h8 hS.ok)
  · refine hear_az w h (z := if v.down d then (some 70, v, d) else (some 1, v, d)) ?_ (fun X h1 => hear_bad m w h1 ⟨h2, h3, h5, h8⟩)
    split <;> exact hS
/-- Opened anew over the same disk: the elder driver stays. -/
theorem reopen_b (every : Int) (w : World) (h : VIs B vb db p A c v d K w0 w) (hd : d.down = false) (hr : RdS w (· < B) 5 A p.ops.length (opsC p.ops)) (hB : B ≤ w.heap.size) (h1 : 1 ≤ every) (h8 : every ≤ 8) (hc : checkD p = none) :
    Calls Tryz.prog 41 #[.pointer (some ⟨db, 0, none⟩), planV p A c, .int .i64 every] w (fun e w' => ∃ vb', e = .returned (.tuple #[.pointer (some ⟨vb', 0, none⟩), .nilIface]) ∧ VIs B vb' db p A c ⟨⟨every.toNat, (v.x.marked : Nat), [], []⟩, v.x, v.n, v.next, d.life, false⟩ d K w0 w' ∧ VIs B vb db p A c v d K w0 w') := by
  have hV := h
  have hl := h.life
  obtain ⟨X, k1, k2, k3, k4, k5, k6⟩ := h
  rw [← k3]
  have hs := k5.size
  have hlt := k1.lt
  refine (dOpen_c every w k1.pre.disk (fun _ ad hA => ⟨fun hk => (k1.ho ad hA).1 (.inr (.inr (.inr (.inl hk)))), (k1.ho ad hA).2⟩) k1.pre.tb (Nat.le_trans k1.vB (Nat.le_of_lt (hlt _ (.inl rfl)))) hd k1.pre.ok k1.pre.tv k1.tB hl hr hB).mono ?_
  intro e w' hp
  obtain ⟨X', e1, e2, e3, e4, e5, e6⟩ := hp.2.2 hc h1 h8
  rw [← k3] at hV
  exact ⟨X'.vb, e1, ⟨X', e2, rfl, e3, fun k hk => (e5 k hk).elim (fun hk => k4 k (.inr (.inr (.inr (.inl hk))))) (fun hk => by omega), ext_trans k5 e6, fun g hg => ⟨fun ha => (e5 g ha).elim (fun hk => (k6 g hg).1 (.inr (.inr (.inr (.inl hk))))) (fun h => by have := (k6 g hg).2; omega), Nat.lt_of_lt_of_le (k6 g hg).2 e6.size⟩⟩, hV.ext e6⟩
end
end Go.Proofs.YtlmjjhenoadndaaGreatDoor

/- Who holds what, where nobody holds anything: held, Holds of the program (the sort of no element). -/
namespace Go.Proofs.YtlmjjhenoadndaaGreatDoor
open Go.RowKit Go.Sort

set_option maxRecDepth 100000 in
theorem len64_0 (w : World) : Calls Tryz.prog 204 #[.int .u64 0] w (fun e w' => (∃ n : Int, e = .returned (.int .i64 n)) ∧ w = w') := by
  go_enter Tryz.func204, Tryz.ntmps204
  go_wp2_with fail
  go_ret
  exact ⟨⟨_, rfl⟩, rfl⟩
theorem bitsLen_0 (w : World) : Calls Tryz.prog 152 #[.int .u64 0] w (fun e w' => (∃ n : Int, e = .returned (.int .i64 n)) ∧ w = w') := by
  go_enter Tryz.func152, Tryz.ntmps152
  go_wp2_with (first | (go_at_call 204; refine (len64_0 _).mono ?_; rintro e w1 ⟨⟨n1, rfl⟩, rfl⟩))
  go_ret
  exact ⟨⟨_, rfl⟩, rfl⟩
theorem insertion_0 (f : Value) (w : World) : Calls Tryz.prog 241 #[.slice none 0 0, .int .i64 0, .int .i64 0, f] w (fun e w' => e = .returned (.tuple #[]) ∧ w = w') := by
  go_enter Tryz.func241, Tryz.ntmps241
  go_wp2_with fail
  go_loopg [8, 9] 1 (fun _ v8 _ wr => v8 = .int .i64 1 ∧ w = wr)
  case atStart => exact ⟨rfl, rfl⟩
  case round =>
    obtain ⟨rfl, rfl⟩ := hrel
    go_wp2_with fail
    go_returns
    exact ⟨rfl, rfl⟩
set_option maxRecDepth 100000 in
set_option maxHeartbeats 4000000 in
theorem pdq_0 (f : Value) (lim : Int) (w : World) : Calls Tryz.prog 210 #[.slice none 0 0, .int .i64 0, .int .i64 0, .int .i64 lim, f] w (fun e w' => e = .returned (.tuple #[]) ∧ w = w') := by
  go_enter Tryz.func210, Tryz.ntmps210
  go_wp2_with fail
  go_loopg [1, 2, 3, 10, 11, 12, 13, 14, 15, 16, 17, 18, 19, 20] 1 (fun _ v1 v2 _ _ _ _ _ _ _ _ _ _ _ _ wr => v1 = .int .i64 0 ∧ v2 = .int .i64 0 ∧ w = wr)
  case atStart => exact ⟨rfl, rfl, rfl⟩
  case round =>
    obtain ⟨rfl, rfl, rfl⟩ := hrel
    go_wp2_with (first | (go_at_call 241; refine (insertion_0 _ _).mono ?_; rintro e w1 ⟨rfl, rfl⟩))
    go_returns
    exact ⟨rfl, rfl⟩
theorem sort_0 (f : Value) (w : World) : Calls Tryz.prog 164 #[.slice none 0 0, f] w (fun e w' => e = .returned (.tuple #[]) ∧ w = w') := by
  go_enter Tryz.func164, Tryz.ntmps164
  go_wp2_with (first
    | (go_at_call 152; refine (bitsLen_0 _).mono ?_; rintro e w1 ⟨⟨n1, rfl⟩, rfl⟩)
    | (go_at_call 210; refine (pdq_0 _ _ _).mono ?_; rintro e w1 ⟨rfl, rfl⟩))
  go_returns
  exact ⟨rfl, rfl⟩
section
variable {B sb : Nat} {R : Nat → Prop} {p : PlanD} {A : Option Addr} {c : Nat} {s : SchedD}
set_option maxHeartbeats 4000000 in
theorem held_0 (w : World) (h : SchedIs B sb R p A c s w) (hs : s.holds = []) : Calls Tryz.prog 116 #[.pointer (some ⟨sb, 0, none⟩)] w (fun e w' => e = .returned (.slice none 0 0) ∧ Below w.heap.size w w') := by
  obtain ⟨X, h⟩ := h
  have hm0 : X.hm = [] := by
    have h1 := h.hl
    rw [hs] at h1
    exact List.map_eq_nil_iff.1 h1.symm
  have hm : MapIs idV w X.hb ([] : List (Id3 × Value)) := by
    have h1 := h.hold
    rw [hm0] at h1
    exact h1
  have z5 : w.cell? ⟨sb, 5, none⟩ = some (.map (some X.hb)) := (h.bk.cell 5).trans rfl
  have hl := h.bk.lt
  clear h hm0
  go_enter Tryz.func116, Tryz.ntmps116
  go_wp2_with (first | (at_range; refine wpList_range_is _ rfl _ 193 rfl 198 Tryz.underlying193 X.hb _ rfl hm ?_; intro ob hi; go_frame))
  go_loopg [3, 4] 1 (fun _ v3 _ wr => v3 = .slice none 0 0 ∧ IterIs idV wr w.heap.size X.hb ([] : List (Id3 × Value)) [] ∧ Below w.heap.size w wr)
  case atStart => exact ⟨rfl, hi, ext_alloc (Below.refl _ _) _⟩
  case round =>
    obtain ⟨rfl, hit, hb⟩ := hrel
    clear hi
    go_wp2_with (first
      | (at_next; refine wpList_next_is _ rfl _ rfl (fun q : Id3 => q) (fun _ => undef) X.hb w.heap.size [] [] rfl hit ?_ ?_)
      | (go_at_call 164; refine (sort_0 _ _).mono ?_; rintro e w1 ⟨rfl, rfl⟩))
    go_ret
    exact ⟨rfl, hb⟩
set_option maxHeartbeats 4000000 in
theorem holds_0 (w : World) (h : SchedIs B sb R p A c s w) (hs : s.holds = []) : Calls Tryz.prog 51 #[.pointer (some ⟨sb, 0, none⟩)] w (fun e w' => e = .returned (.slice none 0 0) ∧ Below w.heap.size w w') := by
  have HC := Lib.hid (held_0 w h hs)
  clear h hs
  go_enter Tryz.func51, Tryz.ntmps51
  go_wp2_with (first | (go_at_call 116; refine HC.out.mono ?_; rintro e w1 ⟨rfl, hb⟩; have HB := Lib.hid hb; clear hb))
  go_loopg [3, 5, 6, 10] 1 (fun _ v3 _ _ v10 wr => v3 = .slice none 0 0 ∧ v10 = .int .i64 0 ∧ w1 = wr)
  case atStart => exact ⟨rfl, rfl, rfl⟩
  case round =>
    obtain ⟨rfl, rfl, rfl⟩ := hrel
    go_wp2_with fail
    go_ret
    exact ⟨rfl, HB.out⟩
end
end Go.Proofs.YtlmjjhenoadndaaGreatDoor

/- The driver's journal: Journal, Blocks of the program; Holds of a driver that was just opened. -/
namespace Go.Proofs.YtlmjjhenoadndaaGreatDoor
open Go.RowKit Go.Sort

section
variable {B : Nat} {X : DrvX} {p : PlanD} {A : Option Addr} {c : Nat} {v : DrvD} {d : DiskD}
theorem journal_c (w : World) (h : DrvAt B X p A c v d w) : Calls Tryz.prog 48 #[.pointer (some ⟨X.vb, 0, none⟩)] w (Val w (.pointer (some ⟨X.wb, 0, none⟩))) := by
  have z4 : w.cell? ⟨X.vb, 4, none⟩ = some (.pointer (some ⟨X.wb, 0, none⟩)) := (h.bk.cell 4).trans rfl
  have hl := h.bk.lt
  clear h
  go_enter Tryz.func48, Tryz.ntmps48
  go_wp2
  go_ret
  exact ⟨rfl, rfl⟩
theorem nblocks_c (w : World) (h : DrvAt B X p A c v d w) : Calls Tryz.prog 49 #[.pointer (some ⟨X.wb, 0, none⟩)] w (Val w (.int .i64 (v.x.blocks.length : Nat))) := by
  obtain ⟨⟨bv, cv, xs, hW⟩, _⟩ := h.pre.wal
  obtain ⟨A1, c1, hbv, z1, hc1⟩ := wBlocks_n w hW
  have hl := hW.bk.lt
  clear h hW
  go_enter Tryz.func49, Tryz.ntmps49
  go_wp2
  go_ret
  exact ⟨rfl, rfl⟩
end
theorem VIs.wal {B vb db : Nat} {p : PlanD} {A : Option Addr} {c : Nat} {v : DrvD} {d : DiskD} {K : Nat → Prop} {w0 w : World} (h : VIs B vb db p A c v d K w0 w) :
    ∃ wb : Nat, (∀ q, Calls Tryz.prog 48 #[.pointer (some ⟨vb, 0, none⟩)] (w.drewN q) (Val (w.drewN q) (.pointer (some ⟨wb, 0, none⟩)))) ∧ ∀ q, Calls Tryz.prog 49 #[.pointer (some ⟨wb, 0, none⟩)] (w.drewN q) (Val (w.drewN q) (.int .i64 (v.x.blocks.length : Nat))) := by
  obtain ⟨X, h1, h2, h3, h4, h5, h6⟩ := h
  subst h2
  exact ⟨X.wb, fun q => journal_c _ (h1.ext (below_drewN (Below.refl _ _) q)), fun q => nblocks_c _ (h1.ext (below_drewN (Below.refl _ _) q))⟩
end Go.Proofs.YtlmjjhenoadndaaGreatDoor

/- append of a slice that came in, of any length that the reach admits. -/
namespace Go.Proofs.YtlmjjhenoadndaaGreatDoor
open Go.RowKit Go.Sort

section
variable {α : Type} {enc : α → List Value} {te e : TypeId} {z bytes : Nat} {zero : Value}
theorem wp_appNB (C : AppC enc te e z bytes zero) (hb0 : 0 < bytes) {o : Oper} {a : Act} {K : Act → World → Prop} {Q : Exit → Act → World → Prop} (W : World) (s x : Operand)
    (ho : o.op = .call { callee := .builtin .append, args := #[s, x], argTypes := #[te, te] }) (base : Nat) (v : Value) (l : List α) (hs : a.eval s = v)
    (hown : W.ownsRow base e z v l.length (l.flatMap enc)) (y : List α) (ad : Addr) (m c : Nat) (hx : a.eval x = .slice (some ad) m c) (hm : m = y.length) (hn : ∀ j u, (y.flatMap enc)[j]? = some u → W.cell? (ad.add j) = some u)
    (hbb : (l.length + m) * bytes ≤ 140737488355328) (hbase : base ≤ W.heap.size)
    (h : ∀ A c w', w'.ownsRow base e z (.slice A (l ++ y).length c) (l ++ y).length ((l ++ y).flatMap enc) → W.grownBy w' v.ownBlock → (l ++ y).length ≤ c → K (a.put o.dst (.slice A (l ++ y).length c)) w') :
    o.wp Tryz.prog a W K Q := by
  obtain ⟨i0, hi0, hz0, hz1, hz2⟩ := info_parts C.info
  have hle : l.length + m ≤ (l.length + m) * bytes := Nat.le_mul_of_pos_right _ hb0
  obtain ⟨v', w', hr, h1, h2, _, _⟩ := run_append_own_at (P := Tryz.prog) W base te o.type e i0 _ z bytes C.te hi0 hz0 hz1 hz2 C.zz C.z0 v l.length (l.flatMap enc) hown ad m c (y.flatMap enc) (by rw [flat_len C, hm])
    hn (by intro u hu; rw [List.mem_flatMap] at hu; obtain ⟨q, _, hq⟩ := hu; exact C.one q u hq) (by simp only [maxLen]; omega) hbb hbase
  unfold Oper.wp execOp
  simp only [ho, resolve, invoke, builtin, Sem.run_bind, Sem.run_pure, Result.andThen_ok, List.map_toArray, List.map_cons, List.map_nil, hs, hx, hr]
  have h1' : w'.ownsRow base e z v' (l ++ y).length ((l ++ y).flatMap enc) := by
    rw [List.flatMap_append, List.length_append, ← hm]
    exact h1
  obtain ⟨A', c', rfl, hc'⟩ := own_shape h1'
  exact h _ c' w' h1' h2 hc'
theorem wp_appRB (C : AppC enc te e z bytes zero) (hb0 : 0 < bytes) {o : Oper} {a : Act} {K : Act → World → Prop} {Q : Exit → Act → World → Prop} (W : World) (s x : Operand)
    (ho : o.op = .call { callee := .builtin .append, args := #[s, x], argTypes := #[te, te] }) (base : Nat) (v : Value) (l : List α) (hs : a.eval s = v)
    (hown : W.ownsRow base e z v l.length (l.flatMap enc)) (y : List α) (B : Nat) (A0 : Option Addr) (m c : Nat) (hx : a.eval x = .slice A0 m c) (hm : m = y.length) (hr : Rd W B e z A0 m (y.flatMap enc))
    (hlen : (l.length + y.length) * bytes ≤ 140737488355328) (hbase : base ≤ W.heap.size)
    (h : ∀ A c w', w'.ownsRow base e z (.slice A (l ++ y).length c) (l ++ y).length ((l ++ y).flatMap enc) → W.grownBy w' v.ownBlock → (l ++ y).length ≤ c → K (a.put o.dst (.slice A (l ++ y).length c)) w') :
    o.wp Tryz.prog a W K Q := by
  cases A0 with
  | some ad =>
    refine wp_appNB C hb0 W s x ho base v l hs hown y ad m c hx hm (fun j u hu => ?_) (by rw [hm]; exact hlen) hbase h
    rcases Nat.eq_zero_or_pos m with h0 | h0
    · have hy : y = [] := List.eq_nil_of_length_eq_zero (by omega)
      subst hy
      simp at hu
    · obtain ⟨ad', he, hc⟩ := hr.cell h0
      injection he with he
      subst he
      exact hc j u hu
  | none =>
    obtain ⟨i0, hi0, hz0, hz1, hz2⟩ := info_parts C.info
    have h0 : m = 0 := by
      rcases Nat.eq_zero_or_pos m with h0 | h0
      · exact h0
      · obtain ⟨ad, he, _⟩ := hr.2 h0
        cases he
    subst h0
    have hy : y = [] := List.eq_nil_of_length_eq_zero hm.symm
    subst hy
    have hrun := run_append_of_nil (P := Tryz.prog) W base te o.type e i0 z C.te hi0 v _ _ hown c
    unfold Oper.wp execOp
    simp only [ho, resolve, invoke, builtin, Sem.run_bind, Sem.run_pure, Result.andThen_ok, List.map_toArray, List.map_cons, List.map_nil, hs, hx, hrun]
    obtain ⟨A', c', rfl, hc'⟩ := own_shape hown
    have hh : K (a.put o.dst (.slice A' l.length c')) W := by simpa using h A' c' W (by simpa using hown) (World.grownBy.refl W _) (by simpa using hc')
    exact hh
theorem wpList_appRB (C : AppC enc te e z bytes zero) (hb0 : 0 < bytes) {ops : Array Oper} {rest : List Oper} {o : Oper} {a : Act} {Q : Exit → Act → World → Prop} (W : World) (hgd : o.guard = none) (s x : Operand)
    (ho : o.op = .call { callee := .builtin .append, args := #[s, x], argTypes := #[te, te] }) (base : Nat) (v : Value) (l : List α) (hs : a.eval s = v)
    (hown : W.ownsRow base e z v l.length (l.flatMap enc)) (y : List α) (B : Nat) (A0 : Option Addr) (m c : Nat) (hx : a.eval x = .slice A0 m c) (hm : m = y.length) (hr : Rd W B e z A0 m (y.flatMap enc))
    (hlen : (l.length + y.length) * bytes ≤ 140737488355328) (hbase : base ≤ W.heap.size)
    (h : ∀ A c w', w'.ownsRow base e z (.slice A (l ++ y).length c) (l ++ y).length ((l ++ y).flatMap enc) → W.grownBy w' v.ownBlock → (l ++ y).length ≤ c → wpList Tryz.prog ops Q rest (a.put o.dst (.slice A (l ++ y).length c)) w') :
    wpList Tryz.prog ops Q (o :: rest) a W :=
  wpList_plain hgd fun _ hK => wp_appRB C hb0 W s x ho base v l hs hown y B A0 m c hx hm hr hlen hbase fun A c w' h1 h2 h3 => hK _ _ (h A c w' h1 h2 h3)
end
/-- A hold. -/
structure Hd where
  id : Id3
  w : Int
deriving DecidableEq
def hdC (h : Hd) : List Value := [.int .i64 h.id.b, .int .i64 h.id.s, .int .i64 h.id.p, .int .i64 h.w]
theorem hold_app : AppC hdC 89 92 4 32 (.agg #[.int .i64 0, .int .i64 0, .int .i64 0, .int .i64 0]) :=
  ⟨Tryz.underlying89, by kernel_rfl, rfl, by decide, fun _ => rfl, fun x u hu => by simp only [hdC, List.mem_cons, List.not_mem_nil, or_false] at hu; rcases hu with rfl | rfl | rfl | rfl <;> rfl, by decide⟩
end Go.Proofs.YtlmjjhenoadndaaGreatDoor

/- A message in memory of its own: Copied of the document. -/
namespace Go.Proofs.YtlmjjhenoadndaaGreatDoor
open Go.RowKit Go.Sort

def MsgD.with_ (m : MsgD) (h r : Value) : MsgD := ⟨m.kind, m.worker, m.id, m.deep, h, m.why, m.lost, m.lw, r, m.n⟩
def CopyPost (m : MsgD) (nh nr : Nat) (w : World) (e : Ending) (w' : World) : Prop := ∃ A2 c2 A3 c3, e = .returned (.agg (m.with_ (.slice A2 nh c2) (.slice A3 nr c3)).cs) ∧ Below w.heap.size w w'
set_option maxRecDepth 100000 in
set_option maxHeartbeats 8000000 in
theorem copied_c (B : Nat) (mk mw : Int) (mid : Id3) (mdp : Bool) (hA : Option Addr) (hl : List Hd) (hc : Nat) (my : Int) (ml : Id3) (mlw : Int) (rA : Option Addr) (rl : List Rw) (rc : Nat) (mn : Int) (w : World)
    (hh : Rd w B 92 4 hA hl.length (hl.flatMap hdC)) (hr : Rd w B 74 2 rA rl.length (rl.flatMap rwC)) (hh32 : hl.length * 32 ≤ 140737488355328) (hr16 : rl.length * 16 ≤ 140737488355328) :
    Calls Tryz.prog 123 #[.agg (⟨mk, mw, mid, mdp, .slice hA hl.length hc, my, ml, mlw, .slice rA rl.length rc, mn⟩ : MsgD).cs] w (CopyPost ⟨mk, mw, mid, mdp, .slice hA hl.length hc, my, ml, mlw, .slice rA rl.length rc, mn⟩ hl.length rl.length w) := by
  obtain ⟨xb, xs, xp⟩ := mid
  obtain ⟨lb, ls, lp⟩ := ml
  obtain ⟨W0, hW0⟩ : ∃ W0, W0 = (w.alloc (.cells (⟨mk, mw, ⟨xb, xs, xp⟩, mdp, .slice hA hl.length hc, my, ⟨lb, ls, lp⟩, mlw, .slice rA rl.length rc, mn⟩ : MsgD).cs 94 (0, 0))).alloc
      (.cells #[.int .i64 0, .int .i64 0, .int .i64 0, .int .i64 0, .int .i64 0, .bool false, .slice none 0 0, .int .i64 0, .int .i64 0, .int .i64 0, .int .i64 0, .int .i64 0, .slice none 0 0, .int .i64 0] 94 (0, 0)) := ⟨_, rfl⟩
  have HW0 := Lib.hid hW0
  have HB0 := Lib.hid (show Below w.heap.size w W0 from by rw [hW0]; exact ext_alloc (ext_alloc (Below.refl _ _) _) _)
  have HX := Lib.hid (show Bk W0 w.heap.size 94 #[.int .i64 mk, .int .i64 mw, .int .i64 xb, .int .i64 xs, .int .i64 xp, .bool mdp, .slice hA hl.length hc, .int .i64 my, .int .i64 lb, .int .i64 ls, .int .i64 lp, .int .i64 mlw, .slice rA rl.length rc, .int .i64 mn] from by rw [hW0]; exact (Bk.new _ _ _).ext (ext_alloc (Below.refl _ _) _))
  have HY := Lib.hid (show Bk W0 (w.heap.size + 1) 94 #[.int .i64 0, .int .i64 0, .int .i64 0, .int .i64 0, .int .i64 0, .bool false, .slice none 0 0, .int .i64 0, .int .i64 0, .int .i64 0, .int .i64 0, .int .i64 0, .slice none 0 0, .int .i64 0] from by rw [hW0]; exact Bk.newAt (by simp))
  have HH := Lib.hid (hh.ext HB0.out)
  have HR0 := Lib.hid hr
  have z6 : W0.cell? ⟨w.heap.size, 6, none⟩ = some (.slice hA hl.length hc) := (HX.out.cell 6).trans rfl
  have lx := HX.out.lt
  clear hh hr hW0
  go_enter Tryz.func123, Tryz.ntmps123
  go_upto_region 3 with fail
  rw [← HW0.out]
  go_wp2_with (first
    | (refine wpList_load_row rfl 94 (.tmp 1) rfl w.heap.size (by rfl) 94 #[.int .i64 mk, .int .i64 mw, .int .i64 xb, .int .i64 xs, .int .i64 xp, .bool mdp, .slice A2 hl.length c2, .int .i64 my, .int .i64 lb, .int .i64 ls, .int .i64 lp, .int .i64 mlw, .slice A3 rl.length c3, .int .i64 mn] (0, 0) _ HX4.out Tryz.underlying94 rfl (by kernel_rfl) ?_)
    | (refine wpList_store_row rfl 94 (.tmp 2) (.tmp 15) rfl (w.heap.size + 1) #[.int .i64 mk, .int .i64 mw, .int .i64 xb, .int .i64 xs, .int .i64 xp, .bool mdp, .slice A2 hl.length c2, .int .i64 my, .int .i64 lb, .int .i64 ls, .int .i64 lp, .int .i64 mlw, .slice A3 rl.length c3, .int .i64 mn] (by rfl) (by rfl) 94 _ HY4.out (by kernel_rfl) rfl (by kernel_rfl) ?_)
    | (at_builtin; refine wpList_appRB row_app (by decide) _ rfl (.tmp 10) (.tmp 12) rfl w.heap.size (.slice none 0 0) [] (by rfl) (World.ownsRow_nil _ _ _ _) rl B rA rl.length rc (by rfl) rfl HR2.out (by rw [List.length_nil, Nat.zero_add]; exact hr16) (by have := HX2.out.lt; omega) ?_
       rw [List.nil_append]
       intro A3 c3 w3 hown3 hg3 hc3
       have HX3 := Lib.hid (HX2.out.grown hg3 (show some _ ≠ none from fun h => by cases h))
       have HY3 := Lib.hid (HY2.out.grown hg3 (show some _ ≠ none from fun h => by cases h))
       have HB3 := Lib.hid (show Below w.heap.size w w3 from HB2.out.grown hg3 (by have := HX2.out.lt; omega) (fun k hk => by cases hk))
       have f12 := HX3.out.frozen 12
       have y12 : w3.cell? ⟨w.heap.size, 12, none⟩ = some (.slice rA rl.length rc) := (HX3.out.cell 12).trans rfl
       have HX4 := Lib.hid (show Bk (w3.setCell ⟨w.heap.size, 12, none⟩ (.slice A3 rl.length c3)) w.heap.size 94 #[.int .i64 mk, .int .i64 mw, .int .i64 xb, .int .i64 xs, .int .i64 xp, .bool mdp, .slice A2 hl.length c2, .int .i64 my, .int .i64 lb, .int .i64 ls, .int .i64 lp, .int .i64 mlw, .slice A3 rl.length c3, .int .i64 mn] from HX3.out.set_ 12 _)
       have HY4 := Lib.hid (HY3.out.far (p := ⟨w.heap.size, 12, none⟩) (show w.heap.size + 1 ≠ w.heap.size by omega) (.slice A3 rl.length c3))
       have HB4 := Lib.hid (below_setRow (HB3.out.setCell (p := ⟨w.heap.size, 12, none⟩) (Nat.le_refl _) (.slice A3 rl.length c3)) (Nat.le_succ w.heap.size) #[.int .i64 mk, .int .i64 mw, .int .i64 xb, .int .i64 xs, .int .i64 xp, .bool mdp, .slice A2 hl.length c2, .int .i64 my, .int .i64 lb, .int .i64 ls, .int .i64 lp, .int .i64 mlw, .slice A3 rl.length c3, .int .i64 mn])
       have HZ4 := Lib.hid (setRow_heap _ _ _ #[.int .i64 mk, .int .i64 mw, .int .i64 xb, .int .i64 xs, .int .i64 xp, .bool mdp, .slice A2 hl.length c2, .int .i64 my, .int .i64 lb, .int .i64 ls, .int .i64 lp, .int .i64 mlw, .slice A3 rl.length c3, .int .i64 mn] _ _ HY4.out)
       clear hown3 hg3 hc3)
    | (at_builtin; refine wpList_appRB hold_app (by decide) _ rfl (.tmp 5) (.tmp 7) rfl w.heap.size (.slice none 0 0) [] (by rfl) (World.ownsRow_nil _ _ _ _) hl B hA hl.length hc (by rfl) rfl HH.out (by rw [List.length_nil, Nat.zero_add]; exact hh32) (by omega) ?_
       rw [List.nil_append]
       intro A2 c2 w2 hown2 hg2 hc2
       have HX1 := Lib.hid (HX.out.grown hg2 (show some _ ≠ none from fun h => by cases h))
       have HY1 := Lib.hid (HY.out.grown hg2 (show some _ ≠ none from fun h => by cases h))
       have HB1 := Lib.hid (show Below w.heap.size w w2 from HB0.out.grown hg2 (by omega) (fun k hk => by cases hk))
       have f6 := HX1.out.frozen 6
       have y6 : w2.cell? ⟨w.heap.size, 6, none⟩ = some (.slice hA hl.length hc) := (HX1.out.cell 6).trans rfl
       have HX2 := Lib.hid (show Bk (w2.setCell ⟨w.heap.size, 6, none⟩ (.slice A2 hl.length c2)) w.heap.size 94 #[.int .i64 mk, .int .i64 mw, .int .i64 xb, .int .i64 xs, .int .i64 xp, .bool mdp, .slice A2 hl.length c2, .int .i64 my, .int .i64 lb, .int .i64 ls, .int .i64 lp, .int .i64 mlw, .slice rA rl.length rc, .int .i64 mn] from HX1.out.set_ 6 _)
       have HY2 := Lib.hid (HY1.out.far (p := ⟨w.heap.size, 6, none⟩) (show w.heap.size + 1 ≠ w.heap.size by omega) (.slice A2 hl.length c2))
       have HB2 := Lib.hid (HB1.out.setCell (p := ⟨w.heap.size, 6, none⟩) (Nat.le_refl _) (.slice A2 hl.length c2))
       have HR2 := Lib.hid (HR0.out.ext HB2.out)
       have z12 : (w2.setCell ⟨w.heap.size, 6, none⟩ (.slice A2 hl.length c2)).cell? ⟨w.heap.size, 12, none⟩ = some (.slice rA rl.length rc) := (HX2.out.cell 12).trans rfl
       clear hown2 hg2 hc2))
  refine bodyPost_ret (results_cell_row (g := w.heap.size + 1) (t := 94) (cs := #[.int .i64 mk, .int .i64 mw, .int .i64 xb, .int .i64 xs, .int .i64 xp, .bool mdp, .slice A2 hl.length c2, .int .i64 my, .int .i64 lb, .int .i64 ls, .int .i64 lp, .int .i64 mlw, .slice A3 rl.length c3, .int .i64 mn]) (fr := (0, 0)) rfl _ _ _ rfl HZ4.out Tryz.underlying94 rfl (by kernel_rfl)) rfl ?_
  exact ⟨A2, c2, A3, c3, rfl, HB4.out⟩
end Go.Proofs.YtlmjjhenoadndaaGreatDoor

/- An argument that came in, opened type by type: what its cells are. -/
namespace Go.Proofs.YtlmjjhenoadndaaGreatDoor
open Go.ChangeShapes Go.WideShapes Go.RowKit Go.Deep

/-- Whatever reads as a t is the cells of some a that is 'ok'. -/
def Opens {H : Type} (enc : TypeId × Value → H) (P : Program) (w : World) (t : TypeId) {α : Type} (cells : α → List Value) (ok : α → Prop) : Prop :=
  ∀ fuel cs x, DataW.trod enc P w 0 (fun _ => true) true fuel t cs = some x → ∃ a, cs = cells a ∧ ok a
/-- The same of a struct's fields, from the offset 'off' on. -/
def FOpens {H : Type} (enc : TypeId × Value → H) (P : Program) (w : World) (fs : List Field) (off : Nat) {α : Type} (cells : α → List Value) (ok : α → Prop) : Prop :=
  ∀ (cs : List Value) (n : Nat), cs.length = (fs.map fun f => P.cellsOf f.type).sum → (∀ f ∈ fs, ∃ y, DataW.trod enc P w 0 (fun _ => true) true n f.type ((cs.drop (f.offset - off)).take (P.cellsOf f.type)) = some y) → ∃ a, cs = cells a ∧ ok a
/-- A slice that came in. -/
structure Sl (α : Type) where
  A : Option Addr
  cap : Nat
  l : List α

section
variable {H : Type} {enc : TypeId × Value → H} {P : Program} {w : World} {t e : TypeId} {α β : Type} {cells : α → List Value} {ok : α → Prop}
theorem Opens.int {k : IntKind} (ht : P.underlying t = some (.int k)) : Opens enc P w t (fun n : Int => [.int k n]) (fun n => (Lit.int k n).wf = true) := by
  intro fuel cs x h
  obtain ⟨n, rfl, _, hw⟩ := DataW.trod_int ht h
  exact ⟨n, rfl, hw⟩
theorem Opens.bool (ht : P.underlying t = some .bool) : Opens enc P w t (fun b : Bool => [.bool b]) (fun _ => True) := by
  intro fuel cs x h
  obtain ⟨b, rfl, _⟩ := DataW.trod_bool ht h
  exact ⟨b, rfl, trivial⟩
theorem Opens.string (ht : P.underlying t = some .string) : Opens enc P w t (fun s : ByteArray => [.string s]) (fun s => s.size ≤ maxLen) := by
  intro fuel cs x h
  obtain ⟨s, rfl, _, hs⟩ := DataW.trod_string ht h
  exact ⟨s, rfl, hs⟩
theorem Opens.map {cells' : β → List Value} {ok' : β → Prop} (h : Opens enc P w t cells ok) (f : α → β) (hc : ∀ a, cells a = cells' (f a)) (hk : ∀ a, ok a → ok' (f a)) : Opens enc P w t cells' ok' := by
  intro fuel cs x hx
  obtain ⟨a, rfl, ha⟩ := h fuel cs x hx
  exact ⟨f a, hc a, hk a ha⟩
theorem FOpens.nil (off : Nat) : FOpens enc P w [] off (fun _ : Unit => []) (fun _ => True) := by
  intro cs n hl _
  exact ⟨(), List.eq_nil_of_length_eq_zero hl, trivial⟩
theorem FOpens.cons {f : Field} {fs : List Field} {off : Nat} {cells' : β → List Value} {ok' : β → Prop} (h : Opens enc P w f.type cells ok) (hck : (decide (f.offset = off) && fs.all fun g => decide (off + P.cellsOf f.type ≤ g.offset)) = true) (hfs : FOpens enc P w fs (off + P.cellsOf f.type) cells' ok') : FOpens enc P w (f :: fs) off (fun a : α × β => cells a.1 ++ cells' a.2) (fun a => ok a.1 ∧ ok' a.2) := by
  rw [Bool.and_eq_true, decide_eq_true_eq, List.all_eq_true] at hck
  obtain ⟨ho, hge0⟩ := hck
  have hge : ∀ g ∈ fs, off + P.cellsOf f.type ≤ g.offset := fun g hg => by simpa using hge0 g hg
  intro cs n hl hf
  rw [List.map_cons, List.sum_cons] at hl
  obtain ⟨y, hy⟩ := hf f (by simp)
  rw [ho, Nat.sub_self, List.drop_zero] at hy
  obtain ⟨a, ha, hka⟩ := h _ _ _ hy
  obtain ⟨b, hb, hkb⟩ := hfs (cs.drop (P.cellsOf f.type)) n (by rw [List.length_drop]; omega) (fun g hg => by
    obtain ⟨z, hz⟩ := hf g (List.mem_cons_of_mem _ hg)
    refine ⟨z, ?_⟩
    rw [List.drop_drop, show P.cellsOf f.type + (g.offset - (off + P.cellsOf f.type)) = g.offset - off by have := hge g hg; omega]
    exact hz)
  exact ⟨(a, b), by show cs = cells a ++ cells' b; rw [← ha, ← hb, List.take_append_drop], hka, hkb⟩
theorem Opens.struct {fs : Array Field} (ht : P.underlying t = some (.struct fs)) (hs : P.cellsOf t = (fs.toList.map fun f => P.cellsOf f.type).sum) (h : FOpens enc P w fs.toList 0 cells ok) : Opens enc P w t cells ok := by
  intro fuel cs x hx
  obtain ⟨xs, n, _, _, hl, hlen, hf⟩ := DataW.trod_struct ht hx
  refine h cs n (hl.trans hs) fun f hf' => ?_
  obtain ⟨i, hi⟩ := List.mem_iff_getElem?.1 hf'
  have hi' : fs[i]? = some f := by simpa using hi
  have hlt : i < xs.length := by rw [hlen]; rcases Nat.lt_or_ge i fs.size with h | h; exact h; rw [Array.getElem?_eq_none h] at hi'; cases hi'
  refine ⟨xs[i], ?_⟩
  rw [Nat.sub_zero, hf i f hi', List.getElem?_eq_getElem hlt]
theorem Opens.slice {z : Nat} (ht : P.underlying t = some (.slice e)) (hz : P.cellsOf e = z) (h0 : 0 < z) (hc : ∀ a, (cells a).length = z) (h : Opens enc P w e cells ok) :
    Opens enc P w t (fun s : Sl α => [.slice s.A s.l.length s.cap]) (fun s => s.l.length ≤ s.cap ∧ s.cap ≤ maxLen ∧ Rd w w.heap.size e z s.A s.l.length (s.l.flatMap cells) ∧ ∀ a ∈ s.l, ok a) := by
  intro fuel cs x hx
  rcases open_slice ht hx with ⟨rfl, _⟩ | ⟨a, len, cap, m, n, D, Pl, rfl, _, hl, hm, hmm, _, hi⟩
  · exact ⟨⟨none, 0, []⟩, rfl, Nat.zero_le _, Nat.zero_le _, Rd.none_, by simp⟩
  rw [hz] at hi
  have hml : len ≤ m := by rw [hmm]; simp only [if_true]; exact hl
  have hall : ∀ k, k ≤ len → ∃ l : List α, l.length = k ∧ (∀ j u, (l.flatMap cells)[j]? = some u → w.cell? (a.add j) = some u) ∧ ∀ x ∈ l, ok x := by
    intro k
    induction k with
    | zero => intro _; exact ⟨[], rfl, by simp, by simp⟩
    | succ k ih =>
      intro hk
      obtain ⟨l, hll, hlc, hlo⟩ := ih (by omega)
      obtain ⟨cs', h1, h2⟩ := hi k (by omega)
      obtain ⟨_, hlen, hcell⟩ := World.cells?_some h1
      obtain ⟨b, rfl, hb⟩ := h _ _ _ h2
      refine ⟨l ++ [b], by simp [hll], fun j u hu => ?_, fun x hx => ?_⟩
      · rw [List.flatMap_append, List.flatMap_singleton] at hu
        have hfl : (l.flatMap cells).length = k * z := by
          rw [← hll]
          clear hll hlc hlo hu
          induction l with
          | nil => simp
          | cons y l ih' => rw [List.flatMap_cons, List.length_append, hc, ih', List.length_cons, Nat.add_mul]; omega
        rcases Nat.lt_or_ge j (k * z) with hj | hj
        · rw [List.getElem?_append_left (by omega)] at hu
          exact hlc j u hu
        · rw [List.getElem?_append_right (by omega), hfl] at hu
          have hjz : j - k * z < z := by
            rcases Nat.lt_or_ge (j - k * z) z with h | h
            · exact h
            · rw [List.getElem?_eq_none (by rw [hc]; exact h)] at hu; cases hu
          have := hcell (j - k * z) hjz
          rw [Go.Proofs.YtlmjjhenoadndaaGreatDoor.add_of_add, show k * z + (j - k * z) = j by omega, hu] at this
          exact this
      · rcases List.mem_append.1 hx with hx | hx
        · exact hlo x hx
        · rw [List.mem_singleton] at hx; rw [hx]; exact hb
  obtain ⟨l, hll, hlc, hlo⟩ := hall len (Nat.le_refl _)
  have hfl : (l.flatMap cells).length = l.length * z := by
    clear hll hlc hlo
    induction l with
    | nil => simp
    | cons y l ih' => rw [List.flatMap_cons, List.length_append, hc, ih', List.length_cons, Nat.add_mul]; omega
  refine ⟨⟨some a, cap, l⟩, by simp [hll], by simp only [hll]; exact hl, hm, ⟨hfl, fun hn => ⟨a, rfl, .inl ?_, hlc⟩⟩, hlo⟩
  have hp : 0 < (l.flatMap cells).length := by rw [hfl]; exact Nat.mul_pos hn h0
  have := World.block_lt_of_cell? w _ (hlc 0 _ (List.getElem?_eq_getElem hp))
  rwa [block_of_add] at this

theorem Opens.Trod {v : Value} {d : DataW H} {p : List MemPlace} (h : Opens enc P w t cells ok) (hd : DataW.Trod enc P w 0 (fun _ => true) true t v d p) : ∃ a, v.cells.toList = cells a ∧ ok a := by
  obtain ⟨fuel, hf⟩ := hd
  exact h _ _ _ hf
theorem cells_slice {v : Value} {A : Option Addr} {n c : Nat} (h : v.cells.toList = [.slice A n c]) (hv : ∀ cs, v ≠ .agg cs) : v = .slice A n c := by
  cases v <;> simp_all [Value.cells]
end
end Go.Proofs.YtlmjjhenoadndaaGreatDoor

/- An act of the driver's laws, in cells. -/
namespace Go.Proofs.YtlmjjhenoadndaaGreatDoor
open Go.RowKit Go.Sort

structure MsgC where
  kind : Int
  worker : Int
  id : Id3
  deep : Bool
  h : Sl Hd
  why : Int
  lost : Hd
  r : Sl Rw
  n : Int
def MsgC.d (m : MsgC) : MsgD := ⟨m.kind, m.worker, m.id, m.deep, .slice m.h.A m.h.l.length m.h.cap, m.why, m.lost.id, m.lost.w, .slice m.r.A m.r.l.length m.r.cap, m.n⟩
structure ActK where
  kind : Int
  n : Int
  w : Int
  deep : Bool
  r : Sl Rw
  m : MsgC
def msgCs (m : MsgC) : List Value := [.int .i64 m.kind, .int .i64 m.worker, .int .i64 m.id.b, .int .i64 m.id.s, .int .i64 m.id.p, .bool m.deep, .slice m.h.A m.h.l.length m.h.cap, .int .i64 m.why, .int .i64 m.lost.id.b, .int .i64 m.lost.id.s, .int .i64 m.lost.id.p, .int .i64 m.lost.w, .slice m.r.A m.r.l.length m.r.cap, .int .i64 m.n]
def actK (a : ActK) : List Value := [.int .i64 a.kind, .int .i64 a.n, .int .i64 a.w, .bool a.deep, .slice a.r.A a.r.l.length a.r.cap] ++ msgCs a.m
/-- What the cells of an act lead to. -/
structure ActOk (W : World) (a : ActK) : Prop where
  n : I64 a.n
  rl : a.r.l.length ≤ a.r.cap
  rr : RdS W (· < W.heap.size) 2 a.r.A a.r.l.length (a.r.l.flatMap rwC)
  r64 : ∀ r ∈ a.r.l, I64 r.k ∧ I64 r.v
  mn : I64 a.m.n
  hh : Rd W W.heap.size 92 4 a.m.h.A a.m.h.l.length (a.m.h.l.flatMap hdC)
  h32 : a.m.h.l.length * 32 ≤ 140737488355328
  mr : Rd W W.heap.size 74 2 a.m.r.A a.m.r.l.length (a.m.r.l.flatMap rwC)
  r16 : a.m.r.l.length * 16 ≤ 140737488355328
theorem Rd.actsK {w : World} {B : Nat} {e : TypeId} {A : Option Addr} {n : Nat} {l : List ActK} (h : Rd w B e 19 A n (l.flatMap actK)) {i : Nat} {y : ActK} (hy : l[i]? = some y) (hn : i < n) :
    ∃ ad, A = some ad ∧ ∀ (j : Nat) u, (#[.int .i64 y.kind, .int .i64 y.n, .int .i64 y.w, .bool y.deep, .slice y.r.A y.r.l.length y.r.cap, .int .i64 y.m.kind, .int .i64 y.m.worker, .int .i64 y.m.id.b, .int .i64 y.m.id.s, .int .i64 y.m.id.p, .bool y.m.deep, .slice y.m.h.A y.m.h.l.length y.m.h.cap, .int .i64 y.m.why, .int .i64 y.m.lost.id.b, .int .i64 y.m.lost.id.s, .int .i64 y.m.lost.id.p, .int .i64 y.m.lost.w, .slice y.m.r.A y.m.r.l.length y.m.r.cap, .int .i64 y.m.n] : Array Value)[j]? = some u → w.cell? ((ad.add (i * 19)).add j) = some u := by
  obtain ⟨ad, hA, hc⟩ := h.cell (by omega)
  refine ⟨ad, hA, fun j u hu => ?_⟩
  have hj : j < 19 := (Array.getElem?_eq_some_iff.1 hu).1
  rw [add_of_add]
  refine hc _ _ ?_
  rw [flat_at actK 19 (fun _ => rfl) l i y hy j hj]
  have h2 : (actK y)[j]? = (#[.int .i64 y.kind, .int .i64 y.n, .int .i64 y.w, .bool y.deep, .slice y.r.A y.r.l.length y.r.cap, .int .i64 y.m.kind, .int .i64 y.m.worker, .int .i64 y.m.id.b, .int .i64 y.m.id.s, .int .i64 y.m.id.p, .bool y.m.deep, .slice y.m.h.A y.m.h.l.length y.m.h.cap, .int .i64 y.m.why, .int .i64 y.m.lost.id.b, .int .i64 y.m.lost.id.s, .int .i64 y.m.lost.id.p, .int .i64 y.m.lost.w, .slice y.m.r.A y.m.r.l.length y.m.r.cap, .int .i64 y.m.n] : Array Value).toList[j]? := rfl
  rw [h2, Array.getElem?_toList]
  exact hu
end Go.Proofs.YtlmjjhenoadndaaGreatDoor

/- A struct read from wherever its cells lie. -/
namespace Go.Proofs.YtlmjjhenoadndaaGreatDoor
open Go.RowKit Go.Sort

theorem run_loadVar_any {P : Program} (w : World) (a : Addr) (ty : TypeId) (cs : Array Value) (fs : Array Field) (hc : ∀ j v, cs[j]? = some v → w.cell? (a.add j) = some v)
    (hu : P.underlying ty = some (.struct fs)) (hi : (P.info? ty).map (·.size) = some cs.size) : (loadVar ty a).run P w = .ok (.agg cs) w := by
  have hl : (loadCells a cs.size).run P w = .ok cs w := by
    have := run_loadCells_list (P := P) w a cs.toList (fun j v hv => hc j v (by simpa using hv))
    simpa using this
  cases hq : P.info? ty with
  | none => simp [hq] at hi
  | some i =>
    have hs : i.size = cs.size := by simpa [hq] using hi
    have hagg : (isAgg ty).run P w = .ok true w := by
      unfold isAgg
      rw [Sem.run_bind, run_underlying hu w]
      simp
    simp [loadVar, Sem.run_bind, hagg, sizeOf, typeInfo, hq, hs, hl]
theorem wpList_load_any {P : Program} {ops : Array Oper} {rest : List Oper} {op : Oper} {a : Act} {w : World} {Q : Exit → Act → World → Prop} (hgd : op.guard = none) (ty : TypeId) (x : Operand) (ho : op.op = .load ty x)
    (ad : Addr) (hx : a.eval x = .pointer (some ad)) (cs : Array Value) (fs : Array Field) (hc : ∀ j v, cs[j]? = some v → w.cell? (ad.add j) = some v)
    (hu : P.underlying ty = some (.struct fs)) (hi : (P.info? ty).map (·.size) = some cs.size)
    (h : wpList P ops Q rest (a.put op.dst (.agg cs)) w) : wpList P ops Q (op :: rest) a w :=
  wpList_plain hgd fun _ hK => by
    unfold Oper.wp execOp
    simp only [ho, hx, Instr.loadAt, Instr.sureAddr, Sem.run_bind, Sem.run_pure, Result.andThen_ok, run_loadVar_any w ad ty cs fs hc hu hi]
    exact hK _ _ h
end Go.Proofs.YtlmjjhenoadndaaGreatDoor

/- tributarylaw17.DriverAgain: the walk. -/
namespace Go.Proofs.YtlmjjhenoadndaaGreatDoor
open Go.RowKit Go.Sort

/-- What the arguments' cells hold. -/
structure AgainIn (p : PlanD) (A : Option Addr) (acts : List ActK) (A1 : Option Addr) (W : World) : Prop where
  ops : RdS W (· < W.heap.size) 5 A p.ops.length (opsC p.ops)
  actsR : Rd W W.heap.size 96 19 A1 acts.length (acts.flatMap actK)
  ok : ∀ a ∈ acts, ActOk W a
  tv : TypeVar W
set_option maxRecDepth 100000 in
set_option maxHeartbeats 64000000 in
theorem again_c {p : PlanD} {A : Option Addr} {c : Nat} {acts : List ActK} {A1 : Option Addr} {c1 : Nat} {n : Int} (W : World) (h : AgainIn p A acts A1 W) : Calls Tryz.prog 7 #[planV p A c, .int .i64 n, .slice A1 acts.length c1] W (BoolPost W true) := by
  have H := Lib.hid h
  have hty : 0 < W.heap.size := World.block_lt_of_cell? W _ h.tv
  obtain ⟨k, hk, hk7⟩ := mask_i64 n 7 (by omega)
  have hk' : bits .and .i64 n 7 = (k : Nat) := hk
  obtain ⟨e, he⟩ : ∃ e, e = k + 1 := ⟨_, rfl⟩
  have he1 : 1 ≤ e := by omega
  have he8 : e ≤ 8 := by omega
  obtain ⟨e2, he2⟩ : ∃ e2, e2 = 2 * e := ⟨_, rfl⟩
  have y1 : IntKind.i64.wrap ((k : Int) + 1) = (e : Nat) := by rw [show (k : Int) + 1 = (e : Nat) by omega]; exact IntWalk.i64_in _ (by omega)
  have y2 : IntKind.i64.wrap (2 * (e : Int)) = (e2 : Nat) := by rw [show 2 * (e : Int) = (e2 : Nat) by omega]; exact IntWalk.i64_in _ (by omega)
  have heI : (e : Int) ≠ 0 := by omega
  have he28 : e2 ≤ 16 := by omega
  have HE := Lib.hid (show e = k + 1 ∧ e2 = 2 * e from ⟨he, he2⟩)
  clear hk he he2
  obtain ⟨T, hT1, hT2, hT3⟩ : ∃ T, T ≤ acts.length ∧ T ≤ 50 ∧ (T = acts.length ∨ T = 50) := ⟨Nat.min acts.length 50, Nat.min_le_left _ _, Nat.min_le_right _ _, by simp only [Nat.min_def]; split <;> simp⟩
  have HT := Lib.hid hT3
  clear hT3
  obtain ⟨W1, hW1⟩ : ∃ W1, W1 = W.alloc (.cells #[.int .i64 p.parts, .slice A p.ops.length c] 24 (0, 0)) := ⟨_, rfl⟩
  have HB1 := Lib.hid (show Below W.heap.size W W1 from by rw [hW1]; exact ext_alloc (Below.refl _ _) _)
  have HK1 := Lib.hid (show Bk W1 W.heap.size 24 #[.int .i64 p.parts, .slice A p.ops.length c] from by rw [hW1]; exact Bk.new _ _ _)
  have hs1 : W1.heap.size = W.heap.size + 1 := by rw [hW1]; simp
  have HTv := Lib.hid (show TypeVar W1 from TypeVar.fr (S := No) h.tv (Fr.of_below HB1.out) (fun h => h))
  have c0 : W1.cell? ⟨W.heap.size, 0, none⟩ = some (.int .i64 p.parts) := (HK1.out.cell 0).trans rfl
  have c1' : W1.cell? ⟨W.heap.size, 1, none⟩ = some (.slice A p.ops.length c) := (HK1.out.cell 1).trans rfl
  have HW1 := Lib.hid hW1
  clear h hW1
  cases hc : checkD p with
  | some x =>
    obtain ⟨a, code⟩ := x
    have HC := Lib.hid hc
    have HR := Lib.hid (fun W' (hb : Below W.heap.size W W') => rRight_c W.heap.size p A c W' ((H.out.ops.ext hb).rdS (fun _ hk => hk)) hb.size)
    rw [hc] at HR
    clear hc
    go_enter Tryz.func7, Tryz.ntmps7
    go_upto_region 1 with fail
    rw [← HW1.out]
    go_wp2_with (first
      | (go_at_call 24; refine (HR.out _ HB4.out).mono ?_; rintro e w5 ⟨rfl, hb⟩; have HB5 := Lib.hid (ext_trans HB4.out hb); clear hb)
      | (go_at_call 42; refine (told17_c _ HT3.out (by have := HB3.out.size; omega)).mono ?_; rintro e w4 ⟨rfl, hb⟩; have HB4 := Lib.hid (ext_trans HB3.out hb)
         have r0 := (World.cell?_of_block (a := ⟨W.heap.size, 0, none⟩) (hb.block _ ql)).trans q0; have r1 := (World.cell?_of_block (a := ⟨W.heap.size, 1, none⟩) (hb.block _ ql)).trans q1; clear hb)
      | (go_at_call 41
         refine (open_v (w0 := W1) (B := W.heap.size) (p := p) (A := A) (c := c) (room := 400) (e : Nat) HD.out HB2.out (fun h => by rw [HC.out] at h; cases h) (by omega) HTv.out hty ((H.out.ops.ext HB1.out).ext HB2.out) (by have := HB2.out.size; omega)).mono ?_
         rintro e w3 ⟨h1, _, _⟩
         obtain ⟨ve, at_, rfl, hE, hb⟩ := h1 a code HC.out
         obtain ⟨n7, hn7⟩ := hE.errN; obtain ⟨T7, y7, rfl⟩ := hn7.iface
         have HB3 := Lib.hid (ext_trans HB1.out hb)
         have HT3 := Lib.hid (TypeVar.fr (S := No) HTv.out (Fr.of_below hb) (fun h => h))
         have ql : W.heap.size < w3.heap.size := Nat.lt_of_lt_of_le (by omega) hb.size
         have q0 := (World.cell?_of_block (a := ⟨W.heap.size, 0, none⟩) (hb.block W.heap.size (by omega))).trans c0; have q1 := (World.cell?_of_block (a := ⟨W.heap.size, 1, none⟩) (hb.block W.heap.size (by omega))).trans c1'
         clear h1 hE hb hn7)
      | (go_at_call 9; refine (dNew_c 400 _ (by omega) (by omega)).mono ?_; rintro e w2 ⟨db, Rq, rfl, hD, hb⟩; have HD := Lib.hid hD; have HB2 := Lib.hid hb
         have d0 := (World.cell?_of_block (a := ⟨W.heap.size, 0, none⟩) (hb.block W.heap.size (by omega))).trans c0; have d1 := (World.cell?_of_block (a := ⟨W.heap.size, 1, none⟩) (hb.block W.heap.size (by omega))).trans c1'
         have dl : W.heap.size < w2.heap.size := Nat.lt_of_lt_of_le (by omega) hb.size; clear hD hb))
    go_ret
    exact ⟨rfl, HB5.out⟩
  | none =>
    have HC := Lib.hid hc
    have hn0 := (shaped_check hc).n0
    clear hc
    go_enter Tryz.func7, Tryz.ntmps7
    go_upto_region 1 with fail
    rw [← HW1.out]
    go_upto_block 0 with (first
      | (go_at_call 41
         refine (open_v (w0 := W1) (B := W.heap.size) (p := p) (A := A) (c := c) (room := 400) (e : Nat) HD.out HB2.out (fun _ ad hA => by
           obtain ⟨ad', hA', hS, _⟩ := H.out.ops.2 hn0
           rw [hA] at hA'
           injection hA' with hA'
           subst hA'
           have h2 : ad.block < W.heap.size := hS
           exact ⟨fun hk => by have := (HD.out.bd _ hk).1; omega, by have := HB2.out.size; omega⟩) (by omega) HTv.out hty ((H.out.ops.ext HB1.out).ext HB2.out) (by have := HB2.out.size; omega)).mono ?_
         rintro e w3 ⟨_, _, h3⟩
         obtain ⟨vb, rfl, hV⟩ := h3 HC.out (by omega) (by omega)
         have HV := Lib.hid hV
         clear h3 hV)
      | (go_at_call 9; refine (dNew_c 400 _ (by omega) (by omega)).mono ?_; rintro e w2 ⟨db, Rq, rfl, hD, hb⟩; have HD := Lib.hid hD; have HB2 := Lib.hid hb
         have d0 := (World.cell?_of_block (a := ⟨W.heap.size, 0, none⟩) (hb.block W.heap.size (by omega))).trans c0; have d1 := (World.cell?_of_block (a := ⟨W.heap.size, 1, none⟩) (hb.block W.heap.size (by omega))).trans c1'
         have dl : W.heap.size < w2.heap.size := Nat.lt_of_lt_of_le (by omega) hb.size; clear hD hb))
    have HS0 := Lib.hid (show ASt e 400 ⟨⟨((e : Nat) : Int).toNat, 0, [], []⟩, WalD.new, 0, 0, 0, false⟩ (DiskD.new 400) from ⟨rfl, rfl, rfl, rfl, rfl, rfl, rfl⟩)
    go_upto_block 0 with fail
    go_cut [11, 12] (fun _ _ wx => Hid (AGo W.heap.size vb db p A c No W1 e 400 wx))
    case first =>
      go_wp2_with fail
      go_loopg [11, 12] T (fun gk v11 _ wr => ∃ i : Nat, i + gk = T ∧ v11 = .int .i64 (i : Nat) ∧ Hid (AGo W.heap.size vb db p A c No W1 e 400 wr))
      case atStart => exact ⟨0, by omega, rfl, Lib.hid ⟨_, _, HV.out, HS0.out⟩⟩
      case round =>
        obtain ⟨i, hik, rfl, hG⟩ := hrel
        by_cases hi : i < acts.length
        · have hiI : (i : Int) < (acts.length : Nat) := by omega
          by_cases h60 : i < 50
          · have h60I : (i : Int) < 50 := by omega
            have hiT : i < T := by have := HT.out; omega
            obtain ⟨v, d, hV', hS'⟩ := hG.out
            have hV := Lib.hid hV'
            have hS := Lib.hid hS'
            obtain ⟨y, hy⟩ : ∃ y, acts[i]? = some y := ⟨_, List.getElem?_eq_getElem hi⟩
            obtain ⟨ad, hA1, hcl⟩ := Rd.actsK ((H.out.actsR.ext HB1.out).ext hV'.below) hy hi
            subst hA1
            have HCl := Lib.hid hcl
            have HY := Lib.hid (H.out.ok y (List.mem_of_getElem? hy))
            clear hy hcl hV' hS' hG
            go_upto_region 12 with (first
              | (refine wpList_load_any rfl 96 (.tmp 55) rfl (ad.add (i * 19)) (by rfl) #[.int .i64 y.kind, .int .i64 y.n, .int .i64 y.w, .bool y.deep, .slice y.r.A y.r.l.length y.r.cap, .int .i64 y.m.kind, .int .i64 y.m.worker, .int .i64 y.m.id.b, .int .i64 y.m.id.s, .int .i64 y.m.id.p, .bool y.m.deep, .slice y.m.h.A y.m.h.l.length y.m.h.cap, .int .i64 y.m.why, .int .i64 y.m.lost.id.b, .int .i64 y.m.lost.id.s, .int .i64 y.m.lost.id.p, .int .i64 y.m.lost.w, .slice y.m.r.A y.m.r.l.length y.m.r.cap, .int .i64 y.m.n] _ HCl.out Tryz.underlying96 (by kernel_rfl) ?_)
              | (refine wpList_store_row rfl 96 (.tmp 12) (.tmp 56) rfl wr.heap.size #[.int .i64 y.kind, .int .i64 y.n, .int .i64 y.w, .bool y.deep, .slice y.r.A y.r.l.length y.r.cap, .int .i64 y.m.kind, .int .i64 y.m.worker, .int .i64 y.m.id.b, .int .i64 y.m.id.s, .int .i64 y.m.id.p, .bool y.m.deep, .slice y.m.h.A y.m.h.l.length y.m.h.cap, .int .i64 y.m.why, .int .i64 y.m.lost.id.b, .int .i64 y.m.lost.id.s, .int .i64 y.m.lost.id.p, .int .i64 y.m.lost.w, .slice y.m.r.A y.m.r.l.length y.m.r.cap, .int .i64 y.m.n] (by rfl) (by rfl) 96 _ (Bk.new _ _ _) (by kernel_rfl) rfl (by kernel_rfl) ?_; rw [World.setRow_alloc_new]; simp only [Act.put]))
            obtain ⟨wa, hwa⟩ : ∃ wa, wa = wr.alloc (.cells #[.int .i64 y.kind, .int .i64 y.n, .int .i64 y.w, .bool y.deep, .slice y.r.A y.r.l.length y.r.cap, .int .i64 y.m.kind, .int .i64 y.m.worker, .int .i64 y.m.id.b, .int .i64 y.m.id.s, .int .i64 y.m.id.p, .bool y.m.deep, .slice y.m.h.A y.m.h.l.length y.m.h.cap, .int .i64 y.m.why, .int .i64 y.m.lost.id.b, .int .i64 y.m.lost.id.s, .int .i64 y.m.lost.id.p, .int .i64 y.m.lost.w, .slice y.m.r.A y.m.r.l.length y.m.r.cap, .int .i64 y.m.n] 96 (0, 0)) := ⟨_, rfl⟩
            rw [← hwa]
            have HXa := Lib.hid (show Bk wa wr.heap.size 96 #[.int .i64 y.kind, .int .i64 y.n, .int .i64 y.w, .bool y.deep, .slice y.r.A y.r.l.length y.r.cap, .int .i64 y.m.kind, .int .i64 y.m.worker, .int .i64 y.m.id.b, .int .i64 y.m.id.s, .int .i64 y.m.id.p, .bool y.m.deep, .slice y.m.h.A y.m.h.l.length y.m.h.cap, .int .i64 y.m.why, .int .i64 y.m.lost.id.b, .int .i64 y.m.lost.id.s, .int .i64 y.m.lost.id.p, .int .i64 y.m.lost.w, .slice y.m.r.A y.m.r.l.length y.m.r.cap, .int .i64 y.m.n] from by rw [hwa]; exact Bk.new _ _ _)
            have HBa := Lib.hid (show Below wr.heap.size wr wa from by rw [hwa]; exact ext_alloc (Below.refl _ _) _)
            clear hwa
            have HVa := Lib.hid (hV.out.ext HBa.out)
            have HRr := Lib.hid (((RdS.mono (S' := (· < W1.heap.size)) HY.out.rr (fun k hk => by have h2 : k < W.heap.size := hk; show k < W1.heap.size; omega)).ext HB1.out).ext HVa.out.below)
            obtain ⟨nb, hnb⟩ : ∃ nb, nb = wr.heap.size := ⟨_, rfl⟩
            rw [← hnb] at HXa ⊢
            clear hnb
            have a0 : wa.cell? ⟨nb, 0, none⟩ = some (.int .i64 y.kind) := (HXa.out.cell 0).trans rfl
            have a4 : wa.cell? ⟨nb, 4, none⟩ = some (.slice y.r.A y.r.l.length y.r.cap) := (HXa.out.cell 4).trans rfl
            have al := HXa.out.lt
            by_cases k0 : y.kind = 0
            · as_aux_lemma =>
                have e0 : (y.kind == 0) = true := by simp [k0]
                clear k0
                obtain ⟨m, hm, hm16, hml⟩ : ∃ m, m = min y.r.l.length 16 ∧ m ≤ 16 ∧ m ≤ y.r.l.length := ⟨_, rfl, Nat.min_le_right _ _, Nat.min_le_left _ _⟩
                have hmin : (if (16 : Int) < (y.r.l.length : Nat) then (16 : Int) else (y.r.l.length : Nat)).toNat = m := by split <;> omega
                have HL := Lib.hid (show (y.r.l.take m).length = m by rw [List.length_take]; omega)
                have hcap := HY.out.rl
                clear hm
                go_wp2_with (first
                  | (go_at_call 43; (try rw [hmin]); refine (push_ag (· < W1.heap.size) (y.r.l.take m) m HL.out y.r.A y.r.cap _ HVa.out hS.out (by rw [HL.out, ← take_rows hml]; exact HRr.out.pre hml) (fun _ hk => hk) (fun r hr => HY.out.r64 r (List.mem_of_mem_take hr))).mono ?_; rintro e' w4 ⟨⟨r, rfl⟩, hg⟩; have HG := Lib.hid hg; clear hg))
                all_goals
                  go_roundg (gk - 1)
                  case measure => omega
                  case rel => exact ⟨i + 1, by omega, by go_num, HG⟩
            · have e0 : (y.kind == 0) = false := by simp [k0]
              by_cases k1 : y.kind = 1
              · as_aux_lemma =>
                  have e1 : (y.kind == 1) = true := by simp [k1]
                  clear k1
                  go_wp2_with (first
                    | (go_at_call 44; refine (cut_ag _ HVa.out hS.out).mono ?_; rintro e' w4 ⟨⟨r, rfl⟩, hg⟩; have HG := Lib.hid hg; clear hg))
                  go_roundg (gk - 1)
                  case measure => omega
                  case rel => exact ⟨i + 1, by omega, by go_num, HG⟩
              · have e1 : (y.kind == 1) = false := by simp [k1]
                by_cases k2 : y.kind = 2
                · as_aux_lemma =>
                    have e2' : (y.kind == 2) = true := by simp [k2]
                    clear k2
                    have HMl := Lib.hid (show ∀ (j : Nat) u, (#[.int .i64 y.m.kind, .int .i64 y.m.worker, .int .i64 y.m.id.b, .int .i64 y.m.id.s, .int .i64 y.m.id.p, .bool y.m.deep, .slice y.m.h.A y.m.h.l.length y.m.h.cap, .int .i64 y.m.why, .int .i64 y.m.lost.id.b, .int .i64 y.m.lost.id.s, .int .i64 y.m.lost.id.p, .int .i64 y.m.lost.w, .slice y.m.r.A y.m.r.l.length y.m.r.cap, .int .i64 y.m.n] : Array Value)[j]? = some u → wa.cell? ((⟨nb, 5, none⟩ : Addr).add j) = some u from fun j u hu => by
                      rw [Addr.add_mid, HXa.out.cell (5 + j)]
                      have h2 : (#[.int .i64 y.kind, .int .i64 y.n, .int .i64 y.w, .bool y.deep, .slice y.r.A y.r.l.length y.r.cap, .int .i64 y.m.kind, .int .i64 y.m.worker, .int .i64 y.m.id.b, .int .i64 y.m.id.s, .int .i64 y.m.id.p, .bool y.m.deep, .slice y.m.h.A y.m.h.l.length y.m.h.cap, .int .i64 y.m.why, .int .i64 y.m.lost.id.b, .int .i64 y.m.lost.id.s, .int .i64 y.m.lost.id.p, .int .i64 y.m.lost.w, .slice y.m.r.A y.m.r.l.length y.m.r.cap, .int .i64 y.m.n] : Array Value)[5 + j]? = (#[.int .i64 y.m.kind, .int .i64 y.m.worker, .int .i64 y.m.id.b, .int .i64 y.m.id.s, .int .i64 y.m.id.p, .bool y.m.deep, .slice y.m.h.A y.m.h.l.length y.m.h.cap, .int .i64 y.m.why, .int .i64 y.m.lost.id.b, .int .i64 y.m.lost.id.s, .int .i64 y.m.lost.id.p, .int .i64 y.m.lost.w, .slice y.m.r.A y.m.r.l.length y.m.r.cap, .int .i64 y.m.n] : Array Value)[j]? := by
                        rw [← Array.getElem?_toList, ← Array.getElem?_toList, ← List.getElem?_drop]
                        rfl
                      rw [h2]
                      exact hu)
                    go_wp2_with (first
                      | (refine wpList_load_any rfl 94 (.tmp 77) rfl ⟨nb, 5, none⟩ (by rfl) #[.int .i64 y.m.kind, .int .i64 y.m.worker, .int .i64 y.m.id.b, .int .i64 y.m.id.s, .int .i64 y.m.id.p, .bool y.m.deep, .slice y.m.h.A y.m.h.l.length y.m.h.cap, .int .i64 y.m.why, .int .i64 y.m.lost.id.b, .int .i64 y.m.lost.id.s, .int .i64 y.m.lost.id.p, .int .i64 y.m.lost.w, .slice y.m.r.A y.m.r.l.length y.m.r.cap, .int .i64 y.m.n] _ HMl.out Tryz.underlying94 (by kernel_rfl) ?_)
                      | (go_at_call 45; refine (hear_ag (⟨y.m.kind, y.m.worker, y.m.id, y.m.deep, .slice y.m.h.A y.m.h.l.length y.m.h.cap, y.m.why, y.m.lost.id, y.m.lost.w, .slice y.m.r.A y.m.r.l.length y.m.r.cap, y.m.n⟩ : MsgD) _ HVa.out hS.out HY.out.mn.2).mono ?_; rintro e' w6 ⟨⟨r, rfl⟩, hg⟩; have HG := Lib.hid hg; clear hg))
                    go_roundg (gk - 1)
                    case measure => omega
                    case rel => exact ⟨i + 1, by omega, by go_num, HG⟩
                · as_aux_lemma =>
                    have e2' : (y.kind == 2) = false := by simp [k2]
                    go_wp2_with fail
                    go_roundg (gk - 1)
                    case measure => omega
                    case rel => exact ⟨i + 1, by omega, by go_num, Lib.hid ⟨v, d, HVa.out, hS.out⟩⟩
          · have h60I : ¬ (i : Int) < 50 := by omega
            go_wp2_with fail
            go_meet
            exact hG
        · have hiI : ¬ (i : Int) < (acts.length : Nat) := by omega
          go_wp2_with fail
          go_meet
          exact hG
    case rest =>
      obtain ⟨v, d, hV', hS'⟩ := hcut.out
      obtain ⟨wf, rfl⟩ : ∃ wf : World, wf = wc := ⟨_, rfl⟩
      have hV := Lib.hid hV'
      have hS := Lib.hid hS'
      have HKp := Lib.hid (HK1.out.ext hV'.below)
      have q0 : wf.cell? ⟨W.heap.size, 0, none⟩ = some (.int .i64 p.parts) := (HKp.out.cell 0).trans rfl
      have q1 : wf.cell? ⟨W.heap.size, 1, none⟩ = some (.slice A p.ops.length c) := (HKp.out.cell 1).trans rfl
      have ql := HKp.out.lt
      have hbW := hV'.below.size
      clear hV' hS' hcut c0 c1'
      obtain ⟨nm, hnm⟩ : ∃ nm, nm = v.x.marked := ⟨_, rfl⟩
      obtain ⟨nc, hnc⟩ : ∃ nc, nc = v.x.cuts.length := ⟨_, rfl⟩
      obtain ⟨nk, hnk⟩ : ∃ nk, nk = v.x.blocks.length := ⟨_, rfl⟩
      have HNm := Lib.hid hnm
      have HNc := Lib.hid hnc
      have HNk := Lib.hid hnk
      clear hnm hnc hnk
      go_wp2_with (first
        | (go_at_call 52; refine (down_v _ (HVw.out.ext HB16.out)).mono ?_; rw [HDn.out]; rintro e' w17 ⟨rfl, hb⟩; have HB17 := Lib.hid (ext_trans HB16.out hb); clear hb)
        | (go_at_call 51; refine (holds_0 _ HSd.out rfl).mono ?_; rintro e' w16 ⟨rfl, hb⟩; have HB16 := Lib.hid hb; clear hb)
        | (go_at_call 50; refine (number_c _ HSd.out).mono ?_; rw [← HNm.out]; rintro e' w15 ⟨rfl, rfl⟩)
        | (go_at_call 49; refine HBk.out.mono ?_; rintro e' w15 ⟨rfl, rfl⟩)
        | (go_at_call 48; refine (HJ2.out _ (by first | exact .inl rfl | exact .inr rfl)).mono ?_; rintro e' w15 ⟨wb1, rfl, rfl, hk⟩; have HBk := Lib.hid hk; clear hk)
        | (go_at_call 47; refine (HN2.out _ (by first | exact .inl rfl | exact .inr rfl)).mono ?_; rintro e' w15 ⟨rfl, rfl⟩)
        | (go_at_call 46; refine (HM2.out _ (by first | exact .inl rfl | exact .inr rfl)).mono ?_; rintro e' w15 ⟨rfl, rfl⟩)
        | (go_at_call 42; refine (told17_c _ HVw0.out.tv (by have := HVw0.out.below.size; omega)).mono ?_; rintro e' w13 ⟨rfl, hb⟩
           have HVw := Lib.hid (HVw0.out.ext hb); have HVv := Lib.hid (HVv0.out.ext hb)
           obtain ⟨sb, hsb, R13, hS13⟩ := HVw.out.sched
           have HSd := Lib.hid hS13
           have hvl := HVw.out.lt.1
           have HDn := Lib.hid (free_down (v := ⟨⟨((e : Nat) : Int).toNat, (v.x.marked : Nat), [], []⟩, v.x, v.n, v.next, d.life, false⟩) (room := 400) (d := d) ⟨hS.out.free.1, hS.out.free.2.1, hS.out.free.2.2.1, rfl⟩ rfl)
           have HM2 := Lib.hid (show ∀ b, (b = vb' ∨ b = vb) → Calls Tryz.prog 46 #[.pointer (some ⟨b, 0, none⟩)] w13 (Val w13 (.int .i64 (nm : Nat))) from fun b hb2 => by
             rw [HNm.out]
             rcases hb2 with rfl | rfl
             · have hh := mark_v _ HVw.out
               exact hh
             · exact mark_v _ HVv.out)
           have HN2 := Lib.hid (show ∀ b, (b = vb' ∨ b = vb) → Calls Tryz.prog 47 #[.pointer (some ⟨b, 0, none⟩)] w13 (Val w13 (.int .i64 (nc : Nat))) from fun b hb2 => by
             rw [HNc.out]
             rcases hb2 with rfl | rfl
             · have hh := newest_v _ HVw.out
               exact hh
             · exact newest_v _ HVv.out)
           have HJ2 := Lib.hid (show ∀ b, (b = vb' ∨ b = vb) → Calls Tryz.prog 48 #[.pointer (some ⟨b, 0, none⟩)] w13 (fun e w' => ∃ wb : Nat, e = .returned (.pointer (some ⟨wb, 0, none⟩)) ∧ w13 = w' ∧ Calls Tryz.prog 49 #[.pointer (some ⟨wb, 0, none⟩)] w13 (Val w13 (.int .i64 (nk : Nat)))) from fun b hb2 => by
             rw [HNk.out]
             rcases hb2 with rfl | rfl
             · obtain ⟨wb, j1, j2⟩ := HVw.out.wal
               exact (j1 0).mono fun e w' ⟨h1, h2⟩ => ⟨wb, h1, h2, j2 0⟩
             · obtain ⟨wb, j1, j2⟩ := HVv.out.wal
               exact (j1 0).mono fun e w' ⟨h1, h2⟩ => ⟨wb, h1, h2, j2 0⟩)
           clear hb hS13)
        | (go_at_call 41; refine (reopen_b (e : Nat) _ hV.out hS.out.free.1 ((H.out.ops.ext HB1.out).ext hV.out.below) (by omega) (by omega) (by omega) HC.out).mono ?_; rintro e' w12 ⟨vb', rfl, hV1, hV2⟩; have HVw0 := Lib.hid hV1; have HVv0 := Lib.hid hV2; clear hV1 hV2))
      go_ret
      exact ⟨rfl, ext_trans (ext_trans HB1.out HVw.out.below) HB17.out⟩
end Go.Proofs.YtlmjjhenoadndaaGreatDoor

/- From a walk that leaves what it found to a law's row, with errors.errorType laid. -/
namespace Go.Proofs.YtlmjjhenoadndaaGreatDoor
open Go.ChangeShapes Go.WideShapes Go.RowKit

theorem own_ : ownKnob Tryz.prog.godebug = none := by kernel_rfl
theorem laidOut_ : laidOutB Tryz.prog = true := by kernel_rfl
theorem et_ : Tryz.prog.globalNamed "errors.errorType" = some 0 := by kernel_rfl
theorem rt_ : (Tryz.prog.cutTypes.find? (·.1 == "internal/reflectlite.rtype")).map (·.2) = some 274 := by kernel_rfl
theorem oneRow_ : ((List.range Tryz.prog.types.size).filter fun t => Tryz.prog.rowNamed t [101, 114, 114, 111, 114]) = [28] := by kernel_rfl

theorem typeVar_of_laid {W : World} (h : laidMetH Tryz.prog [("errors.errorType", Rows.laid_errors_errorType)] W) : TypeVar W := by
  have h' : laidMet Tryz.prog [] W ∧ handlesMet Tryz.prog [("errors.errorType", Rows.laid_errors_errorType)] W := h
  obtain ⟨name, u, ty, e1, e2, e3, e4, e5⟩ := h'.2 _ (List.mem_singleton.2 rfl)
  have en : name = [101, 114, 114, 111, 114] := (Option.some.inj e1).symm
  subst en
  obtain rfl := Option.some.inj (rt_.symm.trans e2)
  have hm : ty ∈ (List.range Tryz.prog.types.size).filter fun t => Tryz.prog.rowNamed t [101, 114, 114, 111, 114] := List.mem_filter.2 ⟨List.mem_range.2 e3, e4⟩
  rw [oneRow_] at hm
  obtain rfl := List.mem_singleton.1 hm
  have hh : typeHandle Tryz.prog 28 = .pointer (some ⟨1, 28, none⟩) := by kernel_rfl
  rw [hh] at e5
  unfold TypeVar
  simpa using World.var?_cell et_ e5 0

/-- A world that meets the condition. -/
noncomputable def laidWorld (os : Os) : World :=
  let w0 := World.holding Tryz.prog os ⟨#[], #[], []⟩
  { w0 with heap := w0.heap.modify 0 fun
      | .cells _ t frozen => .cells #[.iface 274 (.agg #[.pointer (some ⟨1, 28, none⟩)])] t frozen
      | o => o }
theorem laidWorld_met (os : Os) (args : Array Value) : laidMetH Tryz.prog [("errors.errorType", Rows.laid_errors_errorType)] ((laidWorld os).forCall (fun _ _ => 0) ⟨#[], args, []⟩).memory :=
  laidMetH_of_parts (laidMet_nil _ _) (by kernel_rfl)

theorem trodAll_below {H : Type} {enc : TypeId × Value → H} {W W' : World} (hb : Below W.heap.size W W') : ∀ {ts : List TypeId} {vs : List Value} {ds : List (DataW H)} {ps : List MemPlace},
    (∀ t ∈ ts, Tryz.prog.readableRec t = true ∧ t < Tryz.prog.types.size) → DataW.TrodAll enc Tryz.prog W 0 (fun _ => true) true ts vs ds ps → DataW.TrodAll enc Tryz.prog W' 0 (fun b => decide (b < W.heap.size)) true ts vs ds ps
  | [], [], [], _, _, h => h
  | [], _ :: _, _, _, _, h => h.elim
  | [], [], _ :: _, _, _, h => h.elim
  | _ :: _, [], _, _, _, h => h.elim
  | _ :: _, _ :: _, [], _, _, h => h.elim
  | t :: ts, v :: vs, d :: ds, ps, ht, h => by
    obtain ⟨p, q, h1, h2, rfl⟩ := h
    have hlt : ∀ x ∈ p, x.block < W.heap.size := by obtain ⟨m, hm⟩ := h1; exact DataW.trod_lt m _ _ _ hm
    exact ⟨p, q, Below.trod laidOut_ (ht t (by simp)).1 (ht t (by simp)).2 h1 hb hlt, trodAll_below hb (fun t' h' => ht t' (List.mem_cons_of_mem _ h')) h2, rfl⟩

theorem trodAll_len {H : Type} {enc : TypeId × Value → H} {W : World} : ∀ {ts : List TypeId} {vs : List Value} {ds : List (DataW H)} {ps : List MemPlace},
    DataW.TrodAll enc Tryz.prog W 0 (fun _ => true) true ts vs ds ps → ds.length = ts.length
  | [], [], [], _, _ => rfl
  | [], _ :: _, _, _, h => h.elim
  | [], [], _ :: _, _, h => h.elim
  | _ :: _, [], _, _, h => h.elim
  | _ :: _, _ :: _, [], _, h => h.elim
  | t :: ts, v :: vs, d :: ds, ps, h => by
    obtain ⟨p, q, _, h2, _⟩ := h
    simp [trodAll_len h2]
section
variable {H : Type} {enc : TypeId × Value → H}
set_option maxRecDepth 100000 in
/-- The row's step, whatever the law. -/
theorem lift_ (os : Os) (started : os.Started) (f : FuncId) (fn : Func) (s : ChangeSpec) (ws : Array Value) (fuel : Nat) (hvars : s.vars = [])
    (noInit : Tryz.prog.inits.idxOf? f = none) (hfn : Tryz.prog.funcs[f]? = some fn) (hres : fn.resultTypes = #[4])
    (hok : Input.okWideB Tryz.prog ((laidWorld os).forCall (fun _ _ => 0) ⟨#[], ws, []⟩) f ⟨#[], ws, []⟩ = true)
    (hpre : s.preB enc Tryz.prog fn [] false ((laidWorld os).forCall (fun _ _ => 0) ⟨#[], ws, []⟩).memory ws fuel = true)
    (hsz : s.sizedB enc Tryz.prog fn false ((laidWorld os).forCall (fun _ _ => 0) ⟨#[], ws, []⟩).memory ws fuel = true)
    (hspec : ∀ ds : List (DataW H), ds.length = fn.params.toList.length → s.fn H (ds ++ []) = { results := [.lit (.bool true)], args := ds })
    (hread : ∀ t ∈ fn.params.toList, Tryz.prog.readableRec t = true ∧ t < Tryz.prog.types.size)
    (walk : ∀ (W : World) (base : Nat) (args : Array Value) (ds : List (DataW H)) (p : List MemPlace), (∀ (j : Nat) t v, fn.params[j]? = some t → args[j]? = some v → Value.okWide Tryz.prog W .any base t v) →
      DataW.TrodAll enc Tryz.prog W 0 (fun _ => true) true fn.params.toList args.toList ds p → TypeVar W → Calls Tryz.prog f args W (BoolPost W true)) :
    ReturnsInHanded {} Tryz.checked os f .any (fun w args => (s.pre enc Tryz.prog fn [] false w args ∧ laidMetH Tryz.prog [("errors.errorType", Rows.laid_errors_errorType)] w) ∧ sizedMet enc Tryz.prog fn (OpenSpec.ofChange s) false w args)
      (s.post enc Tryz.prog fn false true false false) := by
  refine returnsInHanded_of_change_and (C := Tryz.checked) (X := fun w _ => laidMetH Tryz.prog [("errors.errorType", Rows.laid_errors_errorType)] w) (fun _ _ _ hh h => h.of_heap hh) own_ started noInit hfn
    (ChangeSpec.witness_at (enc := enc) (C := Tryz.checked) (os := os) (X := fun w _ => laidMetH Tryz.prog [("errors.errorType", Rows.laid_errors_errorType)] w) false (laidWorld os) ws fuel rfl (by kernel_rfl) (by kernel_rfl) hok hpre hsz (laidWorld_met os _)) ?_
  intro W base args ds gs before hval hW _ _ hL _
  have hW' := hW
  obtain ⟨p, q, hA, hV, rfl, hfz, hnd⟩ := hW
  rw [hvars] at hV
  have hg0 : gs = [] ∧ q = [] := by
    cases gs with
    | nil => exact ⟨rfl, hV⟩
    | cons g r => exact absurd hV (by intro h; cases h)
  obtain ⟨rfl, rfl⟩ := hg0
  have hlen : ds.length = fn.params.toList.length := trodAll_len hA
  refine (walk W base args ds p hval hA (typeVar_of_laid hL)).mono fun e W' ⟨he, hb⟩ => ?_
  subst he
  refine ⟨_, rfl, _, _, _, [], p, [], hW', ?_, ?_, ?_, hb.frame _, fun h => by cases h⟩
  · rw [hspec ds hlen, hres]
    exact trodAll_mk1 (shut_bool Tryz.underlying4 true)
  · rw [hspec ds hlen]
    exact trodAll_below hb hread hA
  · rw [hspec ds hlen, hvars]
    rfl
end
end Go.Proofs.YtlmjjhenoadndaaGreatDoor

/- An argument that came in, opened type by type: what its cells are; and what the reach says of each slice. -/
namespace Go.Proofs.YtlmjjhenoadndaaGreatDoor
open Go.ChangeShapes Go.WideShapes Go.RowKit Go.Deep

/-- Whatever reads as a t is the cells of some a that is 'ok'. -/
def OpensW {H : Type} (enc : TypeId × Value → H) (P : Program) (w : World) (t : TypeId) {α : Type} (cells : α → List Value) (ok : α → Prop) : Prop :=
  ∀ fuel cs x, DataW.trod enc P w 0 (fun _ => true) true fuel t cs = some x → (∀ n ∈ x.1.weights P t, n ≤ reachBytes) → ∃ a, cs = cells a ∧ ok a
/-- The same of a struct's fields, from the offset 'off' on. -/
def FOpensW {H : Type} (enc : TypeId × Value → H) (P : Program) (w : World) (fs : List Field) (off : Nat) {α : Type} (cells : α → List Value) (ok : α → Prop) : Prop :=
  ∀ (cs : List Value) (n : Nat), cs.length = (fs.map fun f => P.cellsOf f.type).sum → (∀ f ∈ fs, ∃ y, DataW.trod enc P w 0 (fun _ => true) true n f.type ((cs.drop (f.offset - off)).take (P.cellsOf f.type)) = some y ∧ ∀ n ∈ y.1.weights P f.type, n ≤ reachBytes) → ∃ a, cs = cells a ∧ ok a

theorem weightsEach_mem {H : Type} {P : Program} : ∀ (ts : List TypeId) (ds : List (DataW H)) (i : Nat) (t : TypeId) (d : DataW H), ts[i]? = some t → ds[i]? = some d → ∀ {m : Nat}, m ∈ d.weights P t → m ∈ DataW.weightsEach P ts ds
  | [], _, i, t, d, h, _, _, _ => by simp at h
  | _ :: _, [], i, t, d, _, h, _, _ => by simp at h
  | t0 :: ts, d0 :: ds, 0, t, d, h1, h2, m, hm => by
    simp only [List.getElem?_cons_zero, Option.some.injEq] at h1 h2
    subst h1 h2
    unfold DataW.weightsEach
    exact List.mem_append.2 (.inl hm)
  | t0 :: ts, d0 :: ds, i + 1, t, d, h1, h2, m, hm => by
    simp only [List.getElem?_cons_succ] at h1 h2
    unfold DataW.weightsEach
    exact List.mem_append.2 (.inr (weightsEach_mem ts ds i t d h1 h2 hm))
theorem weightsAll_mem {H : Type} {P : Program} {e : TypeId} : ∀ (ds : List (DataW H)) (d : DataW H), d ∈ ds → ∀ {m : Nat}, m ∈ d.weights P e → m ∈ DataW.weightsAll P e ds
  | [], d, h, _, _ => by cases h
  | d0 :: ds, d, h, m, hm => by
    unfold DataW.weightsAll
    rcases List.mem_cons.1 h with rfl | h
    · exact List.mem_append.2 (.inl hm)
    · exact List.mem_append.2 (.inr (weightsAll_mem ds d h hm))
section
variable {H : Type} {enc : TypeId × Value → H} {P : Program} {w : World} {t e : TypeId} {α β : Type} {cells : α → List Value} {ok : α → Prop}
theorem OpensW.int {k : IntKind} (ht : P.underlying t = some (.int k)) : OpensW enc P w t (fun n : Int => [.int k n]) (fun n => (Lit.int k n).wf = true) := by
  intro fuel cs x h _
  obtain ⟨n, rfl, _, hw⟩ := DataW.trod_int ht h
  exact ⟨n, rfl, hw⟩
theorem OpensW.bool (ht : P.underlying t = some .bool) : OpensW enc P w t (fun b : Bool => [.bool b]) (fun _ => True) := by
  intro fuel cs x h _
  obtain ⟨b, rfl, _⟩ := DataW.trod_bool ht h
  exact ⟨b, rfl, trivial⟩
theorem OpensW.string (ht : P.underlying t = some .string) : OpensW enc P w t (fun s : ByteArray => [.string s]) (fun s => s.size ≤ maxLen) := by
  intro fuel cs x h _
  obtain ⟨s, rfl, _, hs⟩ := DataW.trod_string ht h
  exact ⟨s, rfl, hs⟩
theorem OpensW.map {cells' : β → List Value} {ok' : β → Prop} (h : OpensW enc P w t cells ok) (f : α → β) (hc : ∀ a, cells a = cells' (f a)) (hk : ∀ a, ok a → ok' (f a)) : OpensW enc P w t cells' ok' := by
  intro fuel cs x hx hwt
  obtain ⟨a, rfl, ha⟩ := h fuel cs x hx hwt
  exact ⟨f a, hc a, hk a ha⟩
theorem FOpensW.nil (off : Nat) : FOpensW enc P w [] off (fun _ : Unit => []) (fun _ => True) := by
  intro cs n hl _
  exact ⟨(), List.eq_nil_of_length_eq_zero hl, trivial⟩
theorem FOpensW.cons {f : Field} {fs : List Field} {off : Nat} {cells' : β → List Value} {ok' : β → Prop} (h : OpensW enc P w f.type cells ok) (hck : (decide (f.offset = off) && fs.all fun g => decide (off + P.cellsOf f.type ≤ g.offset)) = true) (hfs : FOpensW enc P w fs (off + P.cellsOf f.type) cells' ok') : FOpensW enc P w (f :: fs) off (fun a : α × β => cells a.1 ++ cells' a.2) (fun a => ok a.1 ∧ ok' a.2) := by
  rw [Bool.and_eq_true, decide_eq_true_eq, List.all_eq_true] at hck
  obtain ⟨ho, hge0⟩ := hck
  have hge : ∀ g ∈ fs, off + P.cellsOf f.type ≤ g.offset := fun g hg => by simpa using hge0 g hg
  intro cs n hl hf
  rw [List.map_cons, List.sum_cons] at hl
  obtain ⟨y, hy, hyw⟩ := hf f (by simp)
  rw [ho, Nat.sub_self, List.drop_zero] at hy
  obtain ⟨a, ha, hka⟩ := h _ _ _ hy hyw
  obtain ⟨b, hb, hkb⟩ := hfs (cs.drop (P.cellsOf f.type)) n (by rw [List.length_drop]; omega) (fun g hg => by
    obtain ⟨z, hz, hzw⟩ := hf g (List.mem_cons_of_mem _ hg)
    refine ⟨z, ?_, hzw⟩
    rw [List.drop_drop, show P.cellsOf f.type + (g.offset - (off + P.cellsOf f.type)) = g.offset - off by have := hge g hg; omega]
    exact hz)
  exact ⟨(a, b), by show cs = cells a ++ cells' b; rw [← ha, ← hb, List.take_append_drop], hka, hkb⟩
theorem OpensW.struct {fs : Array Field} (ht : P.underlying t = some (.struct fs)) (hs : P.cellsOf t = (fs.toList.map fun f => P.cellsOf f.type).sum) (h : FOpensW enc P w fs.toList 0 cells ok) : OpensW enc P w t cells ok := by
  intro fuel cs x hx hwt
  obtain ⟨xs, n, _, hxe, hl, hlen, hf⟩ := DataW.trod_struct ht hx
  refine h cs n (hl.trans hs) fun f hf' => ?_
  obtain ⟨i, hi⟩ := List.mem_iff_getElem?.1 hf'
  have hi' : fs[i]? = some f := by simpa using hi
  have hlt : i < xs.length := by rw [hlen]; rcases Nat.lt_or_ge i fs.size with h | h; exact h; rw [Array.getElem?_eq_none h] at hi'; cases hi'
  refine ⟨xs[i], ?_, fun m hm => hwt m ?_⟩
  · rw [Nat.sub_zero, hf i f hi', List.getElem?_eq_getElem hlt]
  · rw [hxe]
    show m ∈ DataW.weights P t (.agg (xs.map (·.1)))
    unfold DataW.weights
    rw [ht]
    exact weightsEach_mem (fs.toList.map (·.type)) (xs.map (·.1)) i f.type (xs[i]).1 (by rw [List.getElem?_map, hi]; rfl) (by rw [List.getElem?_map, List.getElem?_eq_getElem hlt]; rfl) hm
theorem OpensW.slice {z : Nat} (ht : P.underlying t = some (.slice e)) (hz : P.cellsOf e = z) (h0 : 0 < z) (hc : ∀ a, (cells a).length = z) (h : OpensW enc P w e cells ok) :
    OpensW enc P w t (fun s : Sl α => [.slice s.A s.l.length s.cap]) (fun s => (s.cap * P.bytesOf e ≤ reachBytes ∧ s.l.length ≤ s.cap) ∧ s.cap ≤ maxLen ∧ Rd w w.heap.size e z s.A s.l.length (s.l.flatMap cells) ∧ ∀ a ∈ s.l, ok a) := by
  intro fuel cs x hx hwt
  rcases open_slice ht hx with ⟨rfl, _⟩ | ⟨a, len, cap, m, n, D, Pl, rfl, _, hl, hm, hmm, hxe, hi⟩
  · exact ⟨⟨none, 0, []⟩, rfl, ⟨by simp, Nat.zero_le _⟩, Nat.zero_le _, Rd.none_, by simp⟩
  have hwx : ∀ k ∈ DataW.weights P t (.slice ((List.range len).map D) ((List.range (m - len)).map fun j => D (len + j))), k ≤ reachBytes := by rw [hxe] at hwt; exact hwt
  unfold DataW.weights at hwx
  rw [ht] at hwx
  have hmc : m = cap := by rw [hmm]; simp
  have hcap : cap * P.bytesOf e ≤ reachBytes := by
    have h1 := hwx _ (List.mem_cons_self ..)
    rw [List.length_map, List.length_range, List.length_map, List.length_range, show len + (m - len) = cap by omega] at h1
    exact h1
  have hel : ∀ i, i < len → ∀ k ∈ (D i).weights P e, k ≤ reachBytes := fun i hi k hk => hwx k (List.mem_cons_of_mem _ (List.mem_append.2 (.inl (weightsAll_mem _ (D i) (List.mem_map.2 ⟨i, List.mem_range.2 hi, rfl⟩) hk))))
  rw [hz] at hi
  have hml : len ≤ m := by rw [hmm]; simp only [if_true]; exact hl
  have hall : ∀ k, k ≤ len → ∃ l : List α, l.length = k ∧ (∀ j u, (l.flatMap cells)[j]? = some u → w.cell? (a.add j) = some u) ∧ ∀ x ∈ l, ok x := by
    intro k
    induction k with
    | zero => intro _; exact ⟨[], rfl, by simp, by simp⟩
    | succ k ih =>
      intro hk
      obtain ⟨l, hll, hlc, hlo⟩ := ih (by omega)
      obtain ⟨cs', h1, h2⟩ := hi k (by omega)
      obtain ⟨_, hlen, hcell⟩ := World.cells?_some h1
      obtain ⟨b, rfl, hb⟩ := h _ _ _ h2 (hel k (by omega))
      refine ⟨l ++ [b], by simp [hll], fun j u hu => ?_, fun x hx => ?_⟩
      · rw [List.flatMap_append, List.flatMap_singleton] at hu
        have hfl : (l.flatMap cells).length = k * z := by
          rw [← hll]
          clear hll hlc hlo hu
          induction l with
          | nil => simp
          | cons y l ih' => rw [List.flatMap_cons, List.length_append, hc, ih', List.length_cons, Nat.add_mul]; omega
        rcases Nat.lt_or_ge j (k * z) with hj | hj
        · rw [List.getElem?_append_left (by omega)] at hu
          exact hlc j u hu
        · rw [List.getElem?_append_right (by omega), hfl] at hu
          have hjz : j - k * z < z := by
            rcases Nat.lt_or_ge (j - k * z) z with h | h
            · exact h
            · rw [List.getElem?_eq_none (by rw [hc]; exact h)] at hu; cases hu
          have := hcell (j - k * z) hjz
          rw [Go.Proofs.YtlmjjhenoadndaaGreatDoor.add_of_add, show k * z + (j - k * z) = j by omega, hu] at this
          exact this
      · rcases List.mem_append.1 hx with hx | hx
        · exact hlo x hx
        · rw [List.mem_singleton] at hx; rw [hx]; exact hb
  obtain ⟨l, hll, hlc, hlo⟩ := hall len (Nat.le_refl _)
  have hfl : (l.flatMap cells).length = l.length * z := by
    clear hll hlc hlo
    induction l with
    | nil => simp
    | cons y l ih' => rw [List.flatMap_cons, List.length_append, hc, ih', List.length_cons, Nat.add_mul]; omega
  refine ⟨⟨some a, cap, l⟩, by simp [hll], ⟨hcap, by simp only [hll]; exact hl⟩, hm, ⟨hfl, fun hn => ⟨a, rfl, .inl ?_, hlc⟩⟩, hlo⟩
  have hp : 0 < (l.flatMap cells).length := by rw [hfl]; exact Nat.mul_pos hn h0
  have := World.block_lt_of_cell? w _ (hlc 0 _ (List.getElem?_eq_getElem hp))
  rwa [block_of_add] at this

theorem OpensW.Trod {v : Value} {d : DataW H} {p : List MemPlace} (h : OpensW enc P w t cells ok) (hd : DataW.Trod enc P w 0 (fun _ => true) true t v d p) (hwt : ∀ n ∈ d.weights P t, n ≤ reachBytes) : ∃ a, v.cells.toList = cells a ∧ ok a := by
  obtain ⟨fuel, hf⟩ := hd
  exact h _ _ _ hf hwt
end
end Go.Proofs.YtlmjjhenoadndaaGreatDoor
