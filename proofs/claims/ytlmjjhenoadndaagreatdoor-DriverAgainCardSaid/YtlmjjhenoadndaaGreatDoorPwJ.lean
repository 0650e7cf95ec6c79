/- WalC, WalD, WalE, WalF, Sched: laid together. -/
import Derived.Test.YtlmjjhenoadndaaGreatDoorPwI
import Derived.Test.YtlmjjhenoadndaaGreatDoorPwB
import Derived.Test.YtlmjjhenoadndaaGreatDoorPwF

/- The journal in memory: append. (Printed by mkwalapp.py.) -/
namespace Go.Proofs.YtlmjjhenoadndaaGreatDoor
open Go.RowKit Go.Sort

/-- The journal, with its log. -/
def WalIs (B wb lb db life : Nat) (R : Nat → Prop) (x : WalD) (n next : Nat) (w : World) : Prop := (∃ bv cv xs, WalAt B wb lb R x bv cv xs w) ∧ LogAt w lb db life n next ∧ ¬ R lb ∧ B ≤ lb
section
variable {B wb lb db life n next : Nat} {R S : Nat → Prop} {x : WalD} {w w' : World}
theorem WalIs.fr (h : WalIs B wb lb db life R x n next w) (hf : Fr S w w') (hR : ∀ k, R k → ¬ S k) (hl : ¬ S lb) : WalIs B wb lb db life R x n next w' := by
  obtain ⟨⟨bv, cv, xs, h1⟩, h2, h3⟩ := h
  exact ⟨⟨bv, cv, xs, h1.fr hf hR⟩, h2.fr hf hl, h3⟩
theorem WalIs.ext (h : WalIs B wb lb db life R x n next w) (hb : Below w.heap.size w w') : WalIs B wb lb db life R x n next w' := h.fr (S := No) (Fr.of_below hb) (fun _ _ h => h) (fun h => h)
theorem WalIs.bd (h : WalIs B wb lb db life R x n next w) : (∀ k, R k → B ≤ k ∧ k < w.heap.size) ∧ B ≤ lb ∧ lb < w.heap.size := by
  obtain ⟨⟨bv, cv, xs, h1⟩, h2, h3, h4⟩ := h
  exact ⟨h1.bd, h4, h2.lt⟩
theorem WalIs.inn (h : WalIs B wb lb db life R x n next w) : WalIn x := by
  obtain ⟨⟨bv, cv, xs, h1⟩, _⟩ := h
  exact h1.inn
theorem WalIs.rw_ (h : WalIs B wb lb db life R x n next w) : R wb := by
  obtain ⟨⟨bv, cv, xs, h1⟩, _⟩ := h
  exact h1.rw_
end
/-- What a turn of the journal leaves: the error's number, the journal behind it, the disk. -/
def WTurn (B wb lb db life : Nat) (R Rq : Nat → Prop) (w w' : World) (x' : WalD) (n' next' : Nat) (d' : DiskD) : Prop :=
  ∃ R' Rq' : Nat → Prop, WalIs B wb lb db life R' x' n' next' w' ∧ DiskIs B db Rq' d' w' ∧ (∀ k, R' k → R k ∨ w.heap.size ≤ k) ∧ (∀ k, Rq' k → Rq k ∨ w.heap.size ≤ k) ∧ (∀ k, R' k → ¬ Rq' k) ∧ ¬ Rq' lb ∧ Fr (fun k => R k ∨ Rq k ∨ k = lb) w w'
def WAppPost (B wb lb db life : Nat) (R Rq : Nat → Prop) (x : WalD) (n next : Nat) (r : Rec) (y : DiskD × Option Int) (w : World) (e : Ending) (w' : World) : Prop :=
  (y.2 = none → e = .returned .nilIface ∧ WTurn B wb lb db life R Rq w w' (x.does r) (n + 1) (next + blocksN r.bytes.length) y.1) ∧
  (∀ c, y.2 = some c → ∃ v at_, e = .returned v ∧ ErrAt w' v at_ c ∧ WTurn B wb lb db life R Rq w w' x n next y.1)
structure WalPre (B wb lb db life : Nat) (R Rq : Nat → Prop) (x : WalD) (n next : Nat) (d : DiskD) (w : World) : Prop where
  wal : WalIs B wb lb db life R x n next w
  disk : DiskIs B db Rq d w
  apart : ∀ k, R k → ¬ Rq k
  lbd : ¬ Rq lb
  tv : TypeVar w
  tb : 0 < B
  ok : WalOk d x n next
  life : d.life + 1 ≤ 1000000
section
variable {B wb lb db life n next : Nat} {R Rq : Nat → Prop} {x : WalD} {d : DiskD}
theorem WalPre.ext {w w' : World} (h : WalPre B wb lb db life R Rq x n next d w) (hb : Below w.heap.size w w') : WalPre B wb lb db life R Rq x n next d w' :=
  ⟨h.wal.ext hb, h.disk.ext hb, h.apart, h.lbd, TypeVar.fr (S := No) h.tv (Fr.of_below hb) (fun h => h), h.tb, h.ok, h.life⟩
/-- Append of the log, out of bytes of one's own. -/
theorem wal_lapp {r : Rec} {w0 w : World} {A : Option Addr} {c b0 : Nat} {b : List Nat} (hrb : r.bytes = b) (h : WalPre B wb lb db life R Rq x n next d w) (hr : x.ok r) (ho : w.ownsRow b0 5 1 (.slice A b.length c) b.length (b.flatMap byC)) (hb0 : w0.heap.size ≤ b0) (hw0 : ∀ k, R k ∨ Rq k ∨ k = lb → k < w0.heap.size) :
    Calls Tryz.prog 13 #[.pointer (some ⟨lb, 0, none⟩), .slice A b.length c] w (LAppPost B db lb life n next Rq (blocksN r.bytes.length) (appendD d life n next r.bytes) w) := by
  subst hrb
  obtain ⟨hx1, hx2, hx3⟩ := Rec.bytes_ok h.wal.inn hr
  obtain ⟨g1, g2⟩ := h.ok.le
  have hrm := h.disk.room_le
  have hS := RdS.of_own (S := fun k => w0.heap.size ≤ k) ho (fun k hk => by have := (ho.lt k hk).1; omega)
  rw [bytesC_flat] at hS
  obtain ⟨_, _, hv, hc⟩ := own_shape ho
  injection hv with _ _ hcc
  subst hcc
  exact lAppend_c _ r.bytes A _ w h.disk h.wal.2.1 h.lbd h.wal.2.2.2 h.tv h.tb hS (fun k hk => ⟨fun hk' => by have := hw0 k (.inr (.inl hk')); omega, fun hk' => by have := hw0 k (.inr (.inr hk')); omega⟩) hx3 hx1 (by omega) hc (by omega) g2 h.life
theorem wapp_no {r : Rec} {w0 w w1 w2 : World} {v v2 : Value} {at2 c : Int} (hp : WalPre B wb lb db life R Rq x n next d w) (hb : Below w0.heap.size w0 w) (hw0 : ∀ k, R k ∨ Rq k ∨ k = lb → k < w0.heap.size) (hc : (appendD d life n next r.bytes).2 = some c)
    (hl : LAppPost B db lb life n next Rq (blocksN r.bytes.length) (appendD d life n next r.bytes) w (.returned v) w1) (hE : ErrAt w2 v2 at2 c) (hb2 : Below w1.heap.size w1 w2) :
    WAppPost B wb lb db life R Rq x n next r (appendD d life n next r.bytes) w0 (.returned v2) w2 := by
  refine ⟨(fun h => by rw [hc] at h; cases h), fun c' hc' => ?_⟩
  rw [hc] at hc'
  cases hc'
  obtain ⟨_, h2, Rq', hD, hF, hR⟩ := hl
  obtain ⟨v', a', _, _, hL⟩ := h2 c hc
  have hsz := hb.size
  have hW1 : WalIs B wb lb db life R x n next w1 := by
    obtain ⟨⟨bv, cv, xs, k1⟩, k2, k3⟩ := hp.wal
    exact ⟨⟨bv, cv, xs, k1.fr hF (fun k hk hs => hs.elim (hp.apart k hk) (fun e => k3.1 (e ▸ hk)))⟩, hL, k3⟩
  have hF0 : Fr (fun k => R k ∨ Rq k ∨ k = lb) w0 w1 := (Fr.of_below hb).trans hF (fun k hk => .inl (.inr hk))
  exact ⟨v2, at2, rfl, hE, R, Rq', hW1.ext hb2, hD.ext hb2, fun k hk => .inl hk, fun k hk => (hR k hk).imp id (fun h => by omega), fun k hk hk' => (hR k hk').elim (hp.apart k hk) (fun h => by have := hw0 k (.inl hk); omega), fun hk => (hR _ hk).elim hp.lbd (fun h => by have := hw0 lb (.inr (.inr rfl)); omega), hF0.ext hb2⟩
theorem wapp_yes {r : Rec} {w0 w w1 w2 : World} {v : Value} (hp : WalPre B wb lb db life R Rq x n next d w) (hb : Below w0.heap.size w0 w) (hw0 : ∀ k, R k ∨ Rq k ∨ k = lb → k < w0.heap.size) (hc : (appendD d life n next r.bytes).2 = none)
    (hl : LAppPost B db lb life n next Rq (blocksN r.bytes.length) (appendD d life n next r.bytes) w (.returned v) w1) (hd : DoesPost B wb lb R (x.does r) w1 (.returned (.tuple #[])) w2) :
    WAppPost B wb lb db life R Rq x n next r (appendD d life n next r.bytes) w0 (.returned .nilIface) w2 := by
  refine ⟨fun _ => ⟨rfl, ?_⟩, (fun c' hc' => by rw [hc] at hc'; cases hc')⟩
  obtain ⟨h1, _, Rq', hD, hF, hR⟩ := hl
  obtain ⟨_, hL⟩ := h1 hc
  obtain ⟨_, R', bv, cv, xs, k1, k2, k3⟩ := hd
  have hsz := hb.size
  have hsz1 := hF.size
  have hlbw := hp.wal.bd.2.2
  have hRd' : ∀ k, Rq' k → ¬ R k := fun k hk hk' => (hR k hk).elim (hp.apart k hk') (fun h => by have := hw0 k (.inl hk'); omega)
  have hF0 : Fr (fun k => R k ∨ Rq k ∨ k = lb) w0 w1 := (Fr.of_below hb).trans hF (fun k hk => .inl (.inr hk))
  refine ⟨R', Rq', ⟨⟨bv, cv, xs, k1⟩, hL.fr k2 hp.wal.2.2.1, fun hk => (k3 _ hk).elim hp.wal.2.2.1 (fun h => by omega), hp.wal.2.2.2⟩, hD.fr k2 hRd', fun k hk => (k3 k hk).imp id (fun h => by omega), fun k hk => (hR k hk).imp id (fun h => by omega), fun k hk hk' => (k3 k hk).elim (hRd' k hk') (fun h => by have := (hD.bd k hk').2; omega), fun hk => (hR _ hk).elim hp.lbd (fun h => by have := hw0 lb (.inr (.inr rfl)); omega), hF0.trans k2 (fun k hk => .inl (.inl hk))⟩
theorem wal_in {r : Rec} {y : DiskD × Option Int} {w0 w w1 : World} {e : Ending} (hp : WalPre B wb lb db life R Rq x n next d w0) (hb : Below w0.heap.size w0 w) (hl : LAppPost B db lb life n next Rq (blocksN r.bytes.length) y w e w1) (_ : ∀ k, R k ∨ Rq k ∨ k = lb → k < w0.heap.size) : ∃ bv cv xs, WalAt B wb lb R x bv cv xs w1 := by
  obtain ⟨⟨bv, cv, xs, k1⟩, k2, k3⟩ := hp.wal
  obtain ⟨_, _, Rq', hD, hF, hR⟩ := hl
  exact ⟨bv, cv, xs, (k1.ext hb).fr hF (fun k hk hs => hs.elim (hp.apart k hk) (fun e => k3.1 (e ▸ hk)))⟩
theorem rd_up {r : Rec} {y : DiskD × Option Int} {w0 w w1 : World} {e : Ending} {S : Nat → Prop} {l : List Rw} {A : Option Addr} (hr : RdS w0 S 2 A l.length (l.flatMap rwC)) (hS : ∀ k, S k → ¬ Rq k ∧ k ≠ lb) (hb : Below w0.heap.size w0 w) (hl : LAppPost B db lb life n next Rq (blocksN r.bytes.length) y w e w1) : Rd w1 w1.heap.size 74 2 A l.length (l.flatMap rwC) := by
  obtain ⟨_, _, Rd', hD, hF, hR⟩ := hl
  exact ((hr.ext hb).fr hF (fun k hk hs => hs.elim (hS k hk).1 (hS k hk).2)).rd (Nat.le_refl _)
set_option maxRecDepth 100000 in
set_option maxHeartbeats 8000000 in
theorem wapp_cut  (w : World) (hp : WalPre B wb lb db life R Rq x n next d w) (hok : x.ok (.cut)) :
    Calls Tryz.prog 159 #[.pointer (some ⟨wb, 0, none⟩), .int .i64 2, .slice none 0 0, .int .i64 0] w (WAppPost B wb lb db life R Rq x n next (.cut) (appendD d life n next (Rec.bytes (.cut))) w) := by
  obtain ⟨l1, hl1⟩ : ∃ l, l = intB 2 := ⟨_, rfl⟩
  have hb1 : l1.length ≤ 10 := by rw [hl1]; exact intB_len (by omega) (by omega)
  have HI1 := Lib.hid (fun W => show Calls Tryz.prog 140 #[.int .i64 2] W (BytesPost W l1) from by rw [hl1]; exact wInt_c 2 W (by omega) (by omega))
  have HBY := Lib.hid (show Rec.bytes (.cut) = l1 from by rw [hl1]; rfl)
  clear hl1
  have HP := Lib.hid hp
  have HOK := Lib.hid hok
  have z0 : w.cell? ⟨wb, 0, none⟩ = some (.pointer (some ⟨lb, 0, none⟩)) := by
    obtain ⟨⟨bv, cv, xs, h⟩, _⟩ := hp.wal
    exact (h.bk.cell 0).trans rfl
  have hwl : wb < w.heap.size := (hp.wal.bd.1 wb hp.wal.rw_).2
  have HW := Lib.hid (show ∀ k, R k ∨ Rq k ∨ k = lb → k < w.heap.size from fun k hk => by
    rcases hk with hk | hk | rfl
    · exact (hp.wal.bd.1 k hk).2
    · exact (hp.disk.bd k hk).2
    · exact hp.wal.bd.2.2)
  clear hp
  cases hy : (appendD d life n next (Rec.bytes (.cut))).2 with
  | none =>
    have HY := Lib.hid hy
    clear hy
    go_enter Tryz.func159, Tryz.ntmps159
    go_wp2_with (first
      | (go_at_call 140; refine (HI1.out _).mono ?_; rintro e w1 ⟨A1, c1, rfl, hown, hb⟩; have HO1 := Lib.hid hown; have HB1 := Lib.hid hb; have HBb := Lib.hid hb; obtain ⟨Ab, hAb⟩ : ∃ Ab, Ab = A1 := ⟨_, rfl⟩; obtain ⟨cb, hcb⟩ : ∃ cb, cb = c1 := ⟨_, rfl⟩; subst hAb hcb; have zb := (World.cell?_of_block (a := ⟨wb, 0, none⟩) (HBb.out.block _ hwl)).trans z0; clear hown hb)
      | (go_at_call 13; refine (wal_lapp (r := .cut) (b := l1) (w0 := w) (b0 := w.heap.size) (A := Ab) (c := cb) (HBY.out) (HP.out.ext HBb.out) HOK.out HO1.out (Nat.le_refl _) HW.out).mono ?_; rintro e w7 hl; obtain ⟨rfl, _⟩ := hl.1 HY.out; have HL := Lib.hid hl; clear hl)
      | (go_at_call 207
         have hW7 := wal_in HP.out HBb.out HL.out HW.out
         obtain ⟨bv7, cv7, xs7, hWA⟩ := hW7
         refine (does_cut none 0 0 0 _ hWA HOK.out).mono ?_; rintro e w8 hd; obtain rfl := hd.1; have HDo := Lib.hid hd; clear hd))
    go_ret
    exact wapp_yes (HP.out.ext HBb.out) HBb.out HW.out HY.out HL.out HDo.out
  | some c =>
    have HY := Lib.hid hy
    clear hy
    go_enter Tryz.func159, Tryz.ntmps159
    go_wp2_with (first
      | (go_at_call 140; refine (HI1.out _).mono ?_; rintro e w1 ⟨A1, c1, rfl, hown, hb⟩; have HO1 := Lib.hid hown; have HB1 := Lib.hid hb; have HBb := Lib.hid hb; obtain ⟨Ab, hAb⟩ : ∃ Ab, Ab = A1 := ⟨_, rfl⟩; obtain ⟨cb, hcb⟩ : ∃ cb, cb = c1 := ⟨_, rfl⟩; subst hAb hcb; have zb := (World.cell?_of_block (a := ⟨wb, 0, none⟩) (HBb.out.block _ hwl)).trans z0; clear hown hb)
      | (go_at_call 13; refine (wal_lapp (r := .cut) (b := l1) (w0 := w) (b0 := w.heap.size) (A := Ab) (c := cb) (HBY.out) (HP.out.ext HBb.out) HOK.out HO1.out (Nat.le_refl _) HW.out).mono ?_; rintro e w7 hl; obtain ⟨v7, a7, rfl, hE, _⟩ := hl.2.1 c HY.out; have HL := Lib.hid hl; obtain ⟨n7, hn7⟩ := hE.errN; obtain ⟨T7, y7, rfl⟩ := hn7.iface; have HE := Lib.hid hn7; clear hl hE hn7)
      | (go_at_call 155; refine (walFault_c 0 n7 _ c _ HE.out).mono ?_; rintro e w8 ⟨v8, rfl, hE8, hb8⟩; have HE8 := Lib.hid hE8; have HB8 := Lib.hid hb8; clear hE8 hb8))
    go_ret
    exact wapp_no (HP.out.ext HBb.out) HBb.out HW.out HY.out HL.out HE8.out HB8.out
set_option maxRecDepth 100000 in
set_option maxHeartbeats 8000000 in
theorem wapp_mark (m : Nat) (w : World) (hp : WalPre B wb lb db life R Rq x n next d w) (hok : x.ok (.mark m)) :
    Calls Tryz.prog 159 #[.pointer (some ⟨wb, 0, none⟩), .int .i64 3, .slice none 0 0, .int .i64 (m : Nat)] w (WAppPost B wb lb db life R Rq x n next (.mark m) (appendD d life n next (Rec.bytes (.mark m))) w) := by
  have hnm : m ≤ 60 := by
    have h1 := hok.2
    have h2 := hp.wal.inn.nc
    omega
  obtain ⟨l1, hl1⟩ : ∃ l, l = intB 3 := ⟨_, rfl⟩
  have hb1 : l1.length ≤ 10 := by rw [hl1]; exact intB_len (by omega) (by omega)
  have HI1 := Lib.hid (fun W => show Calls Tryz.prog 140 #[.int .i64 3] W (BytesPost W l1) from by rw [hl1]; exact wInt_c 3 W (by omega) (by omega))
  obtain ⟨l2, hl2⟩ : ∃ l, l = intB (m : Nat) := ⟨_, rfl⟩
  have hb2 : l2.length ≤ 10 := by rw [hl2]; exact intB_len (by omega) (by omega)
  have HI2 := Lib.hid (fun W => show Calls Tryz.prog 140 #[.int .i64 (m : Nat)] W (BytesPost W l2) from by rw [hl2]; exact wInt_c (m : Nat) W (by omega) (by omega))
  have HBY := Lib.hid (show Rec.bytes (.mark m) = l1 ++ l2 from by rw [hl1, hl2]; rfl)
  clear hl1 hl2
  have HP := Lib.hid hp
  have HOK := Lib.hid hok
  have z0 : w.cell? ⟨wb, 0, none⟩ = some (.pointer (some ⟨lb, 0, none⟩)) := by
    obtain ⟨⟨bv, cv, xs, h⟩, _⟩ := hp.wal
    exact (h.bk.cell 0).trans rfl
  have hwl : wb < w.heap.size := (hp.wal.bd.1 wb hp.wal.rw_).2
  have HW := Lib.hid (show ∀ k, R k ∨ Rq k ∨ k = lb → k < w.heap.size from fun k hk => by
    rcases hk with hk | hk | rfl
    · exact (hp.wal.bd.1 k hk).2
    · exact (hp.disk.bd k hk).2
    · exact hp.wal.bd.2.2)
  clear hp
  cases hy : (appendD d life n next (Rec.bytes (.mark m))).2 with
  | none =>
    have HY := Lib.hid hy
    clear hy
    go_enter Tryz.func159, Tryz.ntmps159
    go_wp2_with (first
      | (have hx := HO1.out.1; clear hx; go_at_call 140; refine (HI2.out _).mono ?_; rintro e w2 ⟨A2, c2, rfl, hown, hb⟩; have HO2 := Lib.hid hown; have HB2 := Lib.hid hb; clear hown hb)
      | (go_at_call 140; refine (HI1.out _).mono ?_; rintro e w1 ⟨A1, c1, rfl, hown, hb⟩; have HO1 := Lib.hid hown; have HB1 := Lib.hid hb; clear hown hb)
      | (have hx := HO2.out.1; clear hx; at_builtin; refine wpList_appR byte_app _ rfl (.tmp 22) (.tmp 24) rfl w.heap.size (.slice A1 l1.length c1) l1 (by rfl) (own_ext HO1.out HB2.out) l2 0 A2 l2.length c2 (by rfl) rfl (Rd.of_own HO2.out) (by omega) (by have := HB2.out.size; have := HB1.out.size; omega) ?_; intro Ab cb w3 hown hg hc
         have HOb := Lib.hid hown
         have HBb := Lib.hid (below_grownOwn (ext_trans HB1.out HB2.out) (own_ext HO1.out HB2.out) (Nat.le_refl _) hg)
         have zb := (World.cell?_of_block (a := ⟨wb, 0, none⟩) (HBb.out.block _ hwl)).trans z0
         generalize hlb : l1 ++ l2 = l3 at HOb ⊢
         have HLB := Lib.hid hlb
         clear hown hg hc hlb)
      | (go_at_call 13; refine (wal_lapp (r := .mark m) (b := l3) (w0 := w) (b0 := w.heap.size) (A := Ab) (c := cb) (HBY.out.trans HLB.out) (HP.out.ext HBb.out) HOK.out HOb.out (Nat.le_refl _) HW.out).mono ?_; rintro e w7 hl; obtain ⟨rfl, _⟩ := hl.1 HY.out; have HL := Lib.hid hl; clear hl)
      | (go_at_call 207
         have hW7 := wal_in HP.out HBb.out HL.out HW.out
         obtain ⟨bv7, cv7, xs7, hWA⟩ := hW7
         refine (does_mark none 0 0 m _ hWA HOK.out).mono ?_; rintro e w8 hd; obtain rfl := hd.1; have HDo := Lib.hid hd; clear hd))
    go_ret
    exact wapp_yes (HP.out.ext HBb.out) HBb.out HW.out HY.out HL.out HDo.out
  | some c =>
    have HY := Lib.hid hy
    clear hy
    go_enter Tryz.func159, Tryz.ntmps159
    go_wp2_with (first
      | (have hx := HO1.out.1; clear hx; go_at_call 140; refine (HI2.out _).mono ?_; rintro e w2 ⟨A2, c2, rfl, hown, hb⟩; have HO2 := Lib.hid hown; have HB2 := Lib.hid hb; clear hown hb)
      | (go_at_call 140; refine (HI1.out _).mono ?_; rintro e w1 ⟨A1, c1, rfl, hown, hb⟩; have HO1 := Lib.hid hown; have HB1 := Lib.hid hb; clear hown hb)
      | (have hx := HO2.out.1; clear hx; at_builtin; refine wpList_appR byte_app _ rfl (.tmp 22) (.tmp 24) rfl w.heap.size (.slice A1 l1.length c1) l1 (by rfl) (own_ext HO1.out HB2.out) l2 0 A2 l2.length c2 (by rfl) rfl (Rd.of_own HO2.out) (by omega) (by have := HB2.out.size; have := HB1.out.size; omega) ?_; intro Ab cb w3 hown hg hc
         have HOb := Lib.hid hown
         have HBb := Lib.hid (below_grownOwn (ext_trans HB1.out HB2.out) (own_ext HO1.out HB2.out) (Nat.le_refl _) hg)
         have zb := (World.cell?_of_block (a := ⟨wb, 0, none⟩) (HBb.out.block _ hwl)).trans z0
         generalize hlb : l1 ++ l2 = l3 at HOb ⊢
         have HLB := Lib.hid hlb
         clear hown hg hc hlb)
      | (go_at_call 13; refine (wal_lapp (r := .mark m) (b := l3) (w0 := w) (b0 := w.heap.size) (A := Ab) (c := cb) (HBY.out.trans HLB.out) (HP.out.ext HBb.out) HOK.out HOb.out (Nat.le_refl _) HW.out).mono ?_; rintro e w7 hl; obtain ⟨v7, a7, rfl, hE, _⟩ := hl.2.1 c HY.out; have HL := Lib.hid hl; obtain ⟨n7, hn7⟩ := hE.errN; obtain ⟨T7, y7, rfl⟩ := hn7.iface; have HE := Lib.hid hn7; clear hl hE hn7)
      | (go_at_call 155; refine (walFault_c 0 n7 _ c _ HE.out).mono ?_; rintro e w8 ⟨v8, rfl, hE8, hb8⟩; have HE8 := Lib.hid hE8; have HB8 := Lib.hid hb8; clear hE8 hb8))
    go_ret
    exact wapp_no (HP.out.ext HBb.out) HBb.out HW.out HY.out HL.out HE8.out HB8.out
set_option maxRecDepth 100000 in
set_option maxHeartbeats 8000000 in
theorem wapp_block (S : Nat → Prop) (l : List Rw) (A : Option Addr) (c0 : Nat) (w : World) (hp : WalPre B wb lb db life R Rq x n next d w) (hr : RdS w S 2 A l.length (l.flatMap rwC)) (hS : ∀ k, S k → ¬ Rq k ∧ k ≠ lb) (hok : x.ok (.block l)) :
    Calls Tryz.prog 159 #[.pointer (some ⟨wb, 0, none⟩), .int .i64 1, .slice A l.length c0, .int .i64 0] w (WAppPost B wb lb db life R Rq x n next (.block l) (appendD d life n next (Rec.bytes (.block l))) w) := by
  have hl16 : l.length ≤ 16 := hok.1
  have hI := Lib.hid hok.2.2
  have HR := Lib.hid hr
  have HSd := Lib.hid hS
  obtain ⟨l1, hl1⟩ : ∃ l, l = intB 1 := ⟨_, rfl⟩
  have hb1 : l1.length ≤ 10 := by rw [hl1]; exact intB_len (by omega) (by omega)
  have HI1 := Lib.hid (fun W => show Calls Tryz.prog 140 #[.int .i64 1] W (BytesPost W l1) from by rw [hl1]; exact wInt_c 1 W (by omega) (by omega))
  obtain ⟨l2, hl2⟩ : ∃ l2, l2 = rowsB l := ⟨_, rfl⟩
  have hb2 : l2.length ≤ 400 := by rw [hl2]; have := rowsB_len (l := l) (by omega) hI.out; omega
  have HI2 := Lib.hid (fun W (h : RdS W S 2 A l.length (l.flatMap rwC)) => show Calls Tryz.prog 95 #[.slice A l.length c0] W (BytesPost W l2) from by rw [hl2]; exact wRows_c W.heap.size l A c0 W (RdS.rd h (Nat.le_refl _)) (by omega) hI.out)
  have HBY := Lib.hid (show Rec.bytes (.block l) = l1 ++ l2 from by rw [hl1, hl2]; rfl)
  clear hl1 hl2 hr
  have HP := Lib.hid hp
  have HOK := Lib.hid hok
  have z0 : w.cell? ⟨wb, 0, none⟩ = some (.pointer (some ⟨lb, 0, none⟩)) := by
    obtain ⟨⟨bv, cv, xs, h⟩, _⟩ := hp.wal
    exact (h.bk.cell 0).trans rfl
  have hwl : wb < w.heap.size := (hp.wal.bd.1 wb hp.wal.rw_).2
  have HW := Lib.hid (show ∀ k, R k ∨ Rq k ∨ k = lb → k < w.heap.size from fun k hk => by
    rcases hk with hk | hk | rfl
    · exact (hp.wal.bd.1 k hk).2
    · exact (hp.disk.bd k hk).2
    · exact hp.wal.bd.2.2)
  clear hp
  cases hy : (appendD d life n next (Rec.bytes (.block l))).2 with
  | none =>
    have HY := Lib.hid hy
    clear hy
    go_enter Tryz.func159, Tryz.ntmps159
    go_wp2_with (first
      | (have hx := HO1.out.1; clear hx; go_at_call 95; refine (HI2.out _ (HR.out.ext HB1.out)).mono ?_; rintro e w2 ⟨A2, c2, rfl, hown, hb⟩; have HO2 := Lib.hid hown; have HB2 := Lib.hid hb; clear hown hb)
      | (go_at_call 140; refine (HI1.out _).mono ?_; rintro e w1 ⟨A1, c1, rfl, hown, hb⟩; have HO1 := Lib.hid hown; have HB1 := Lib.hid hb; clear hown hb)
      | (have hx := HO2.out.1; clear hx; at_builtin; refine wpList_appR byte_app _ rfl (.tmp 16) (.tmp 18) rfl w.heap.size (.slice A1 l1.length c1) l1 (by rfl) (own_ext HO1.out HB2.out) l2 0 A2 l2.length c2 (by rfl) rfl (Rd.of_own HO2.out) (by omega) (by have := HB2.out.size; have := HB1.out.size; omega) ?_; intro Ab cb w3 hown hg hc
         have HOb := Lib.hid hown
         have HBb := Lib.hid (below_grownOwn (ext_trans HB1.out HB2.out) (own_ext HO1.out HB2.out) (Nat.le_refl _) hg)
         have zb := (World.cell?_of_block (a := ⟨wb, 0, none⟩) (HBb.out.block _ hwl)).trans z0
         generalize hlb : l1 ++ l2 = l3 at HOb ⊢
         have HLB := Lib.hid hlb
         clear hown hg hc hlb)
      | (go_at_call 13; refine (wal_lapp (r := .block l) (b := l3) (w0 := w) (b0 := w.heap.size) (A := Ab) (c := cb) (HBY.out.trans HLB.out) (HP.out.ext HBb.out) HOK.out HOb.out (Nat.le_refl _) HW.out).mono ?_; rintro e w7 hl; obtain ⟨rfl, _⟩ := hl.1 HY.out; have HL := Lib.hid hl; clear hl)
      | (go_at_call 207
         have hW7 := wal_in HP.out HBb.out HL.out HW.out
         obtain ⟨bv7, cv7, xs7, hWA⟩ := hW7
         refine (does_block l A c0 0 _ hWA (rd_up HR.out HSd.out HBb.out HL.out) HOK.out).mono ?_; rintro e w8 hd; obtain rfl := hd.1; have HDo := Lib.hid hd; clear hd))
    go_ret
    exact wapp_yes (HP.out.ext HBb.out) HBb.out HW.out HY.out HL.out HDo.out
  | some c =>
    have HY := Lib.hid hy
    clear hy
    go_enter Tryz.func159, Tryz.ntmps159
    go_wp2_with (first
      | (have hx := HO1.out.1; clear hx; go_at_call 95; refine (HI2.out _ (HR.out.ext HB1.out)).mono ?_; rintro e w2 ⟨A2, c2, rfl, hown, hb⟩; have HO2 := Lib.hid hown; have HB2 := Lib.hid hb; clear hown hb)
      | (go_at_call 140; refine (HI1.out _).mono ?_; rintro e w1 ⟨A1, c1, rfl, hown, hb⟩; have HO1 := Lib.hid hown; have HB1 := Lib.hid hb; clear hown hb)
      | (have hx := HO2.out.1; clear hx; at_builtin; refine wpList_appR byte_app _ rfl (.tmp 16) (.tmp 18) rfl w.heap.size (.slice A1 l1.length c1) l1 (by rfl) (own_ext HO1.out HB2.out) l2 0 A2 l2.length c2 (by rfl) rfl (Rd.of_own HO2.out) (by omega) (by have := HB2.out.size; have := HB1.out.size; omega) ?_; intro Ab cb w3 hown hg hc
         have HOb := Lib.hid hown
         have HBb := Lib.hid (below_grownOwn (ext_trans HB1.out HB2.out) (own_ext HO1.out HB2.out) (Nat.le_refl _) hg)
         have zb := (World.cell?_of_block (a := ⟨wb, 0, none⟩) (HBb.out.block _ hwl)).trans z0
         generalize hlb : l1 ++ l2 = l3 at HOb ⊢
         have HLB := Lib.hid hlb
         clear hown hg hc hlb)
      | (go_at_call 13; refine (wal_lapp (r := .block l) (b := l3) (w0 := w) (b0 := w.heap.size) (A := Ab) (c := cb) (HBY.out.trans HLB.out) (HP.out.ext HBb.out) HOK.out HOb.out (Nat.le_refl _) HW.out).mono ?_; rintro e w7 hl; obtain ⟨v7, a7, rfl, hE, _⟩ := hl.2.1 c HY.out; have HL := Lib.hid hl; obtain ⟨n7, hn7⟩ := hE.errN; obtain ⟨T7, y7, rfl⟩ := hn7.iface; have HE := Lib.hid hn7; clear hl hE hn7)
      | (go_at_call 155; refine (walFault_c 0 n7 _ c _ HE.out).mono ?_; rintro e w8 ⟨v8, rfl, hE8, hb8⟩; have HE8 := Lib.hid hE8; have HB8 := Lib.hid hb8; clear hE8 hb8))
    go_ret
    exact wapp_no (HP.out.ext HBb.out) HBb.out HW.out HY.out HL.out HE8.out HB8.out
end
end Go.Proofs.YtlmjjhenoadndaaGreatDoor

/- The journal: Block, Cut, Mark of the program. (Printed by mkwalpub.py.) -/
namespace Go.Proofs.YtlmjjhenoadndaaGreatDoor
open Go.RowKit Go.Sort

/-- What becomes of the disk when a record is handed in, and the error's number: the test's, or the log's. -/
def stepW (d : DiskD) (life n next : Nat) (t : Option Int) (r : Rec) : DiskD × Option Int := match t with
  | some c => (d, some c)
  | none => appendD d life n next r.bytes
def WStepPost (B wb lb db life : Nat) (R Rq : Nat → Prop) (x : WalD) (n next : Nat) (r : Rec) (y : DiskD × Option Int) (told : Value → Value) (no : Value → Value) (w : World) (e : Ending) (w' : World) : Prop :=
  (y.2 = none → e = .returned (told .nilIface) ∧ WTurn B wb lb db life R Rq w w' (x.does r) (n + 1) (next + blocksN r.bytes.length) y.1) ∧
  (∀ c, y.2 = some c → ∃ v at_, e = .returned (no v) ∧ ErrAt w' v at_ c ∧ WTurn B wb lb db life R Rq w w' x n next y.1)
section
variable {B wb lb db life n next : Nat} {R Rq : Nat → Prop} {x : WalD} {d : DiskD}
theorem blockE_ok {x : WalD} {l : List Rw} (h64 : ∀ r ∈ l, I64 r.k ∧ I64 r.v) (h : blockE x l.length = none) : x.ok (.block l) := by
  unfold blockE at h
  split at h
  · cases h
  · next h1 => exact ⟨by omega, by omega, h64⟩
theorem cutE_ok {x : WalD} (h : cutE x = none) : x.ok .cut := by
  unfold cutE at h
  split at h
  · cases h
  · next h1 => exact Nat.not_le.1 h1
theorem markE_ok {x : WalD} {m : Nat} (h : markE x (m : Nat) = none) : x.ok (.mark m) := by
  unfold markE at h
  split at h
  · cases h
  · next h1 => exact ⟨by omega, by omega⟩
theorem WalPre.turn {w w' : World} (hp : WalPre B wb lb db life R Rq x n next d w) (hb : Below w.heap.size w w') : WTurn B wb lb db life R Rq w w' x n next d :=
  ⟨R, Rq, hp.wal.ext hb, hp.disk.ext hb, fun _ hk => .inl hk, fun _ hk => .inl hk, hp.apart, hp.lbd, Fr.of_below hb⟩
theorem step_no {r : Rec} {t : Option Int} {c a : Int} {w w' : World} {v : Value} {told no : Value → Value} (hp : WalPre B wb lb db life R Rq x n next d w) (ht : t = some c) (hE : ErrAt w' v a c) (hb : Below w.heap.size w w') :
    WStepPost B wb lb db life R Rq x n next r (stepW d life n next t r) told no w (.returned (no v)) w' := by
  subst ht
  exact ⟨(fun h => by cases h), fun c' h => by cases h; exact ⟨v, a, rfl, hE, hp.turn hb⟩⟩
theorem step_app {r : Rec} {t : Option Int} {w w' : World} {told no : Value → Value} {e e' : Ending} (ht : t = none) (h : WAppPost B wb lb db life R Rq x n next r (appendD d life n next r.bytes) w e w') (he : ∀ v, e = .returned v → (appendD d life n next r.bytes).2 = none → e' = .returned (told .nilIface)) (hn : ∀ v c, e = .returned v → (appendD d life n next r.bytes).2 = some c → e' = .returned (no v)) :
    WStepPost B wb lb db life R Rq x n next r (stepW d life n next t r) told no w e' w' := by
  subst ht
  refine ⟨fun h0 => ?_, fun c h0 => ?_⟩
  · obtain ⟨h1, h2⟩ := h.1 h0
    exact ⟨he _ h1 h0, h2⟩
  · obtain ⟨v, a, h1, h2⟩ := h.2 c h0
    exact ⟨v, a, hn v c h1 h0, h2⟩
theorem WTurn.blk {w w' : World} {x' : WalD} {n' next' : Nat} {d' : DiskD} (h : WTurn B wb lb db life R Rq w w' x' n' next' d') : ∃ A c, w'.cell? ⟨wb, 1, none⟩ = some (.slice A x'.blocks.length c) ∧ wb < w'.heap.size := by
  obtain ⟨R', Rq', ⟨⟨bv, cv, xs, h1⟩, _⟩, _⟩ := h
  obtain ⟨A, c, _, h2, _⟩ := wBlocks_n _ h1
  exact ⟨A, c, h2, h1.bk.lt⟩
theorem WTurn.cut {w w' : World} {x' : WalD} {n' next' : Nat} {d' : DiskD} (h : WTurn B wb lb db life R Rq w w' x' n' next' d') : ∃ A c, w'.cell? ⟨wb, 2, none⟩ = some (.slice A x'.cuts.length c) ∧ wb < w'.heap.size := by
  obtain ⟨R', Rq', ⟨⟨bv, cv, xs, h1⟩, _⟩, _⟩ := h
  obtain ⟨A, c, rfl, _⟩ := own_shape h1.oc
  exact ⟨A, c, (h1.bk.cell 2).trans rfl, h1.bk.lt⟩
set_option maxRecDepth 100000 in
set_option maxHeartbeats 8000000 in
theorem wBlock_c (S : Nat → Prop) (l : List Rw) (A : Option Addr) (c0 : Nat) (w : World) (hp : WalPre B wb lb db life R Rq x n next d w) (hr : RdS w S 2 A l.length (l.flatMap rwC)) (hS : ∀ k, S k → ¬ Rq k ∧ k ≠ lb) (h64 : ∀ r ∈ l, I64 r.k ∧ I64 r.v) :
    Calls Tryz.prog 107 #[.pointer (some ⟨wb, 0, none⟩), .slice A l.length c0] w (WStepPost B wb lb db life R Rq x n next (.block l) (stepW d life n next (blockE x l.length) (.block l)) (fun v => .tuple #[.int .i64 ((x.does (.block l)).blocks.length : Nat), v]) (fun v => .tuple #[.int .i64 0, v]) w) := by
  have HP := Lib.hid hp
  obtain ⟨⟨bv, cv, xs, hW⟩, hL, hlb⟩ := hp.wal
  have HW := Lib.hid hW
  have HX := Lib.hid (show ∀ (h : blockE x l.length = none), x.ok (.block l) from blockE_ok h64)
  have HS := Lib.hid hS
  have HR := Lib.hid hr
  clear hp hW hL hlb hS hr
  cases ht : blockE x l.length with
  | some c =>
    have HT := Lib.hid ht
    clear ht
    go_enter Tryz.func107, Tryz.ntmps107
    go_wp2_with (first
      | (go_at_call 158; refine (wblock_c l.length _ HW.out).mono ?_; rintro e w1 ht; obtain ⟨a, v, rfl, hE, hb⟩ := ht.2 c HT.out; obtain ⟨n7, hn7⟩ := hE.errN; obtain ⟨T7, y7, rfl⟩ := hn7.iface; have HE := Lib.hid hE; have HB := Lib.hid hb; clear ht hE hb hn7))
    go_ret2
    have := step_no (r := .block l) (told := fun v => .tuple #[.int .i64 ((x.does (.block l)).blocks.length : Nat), v]) (no := fun v => .tuple #[.int .i64 0, v]) HP.out rfl HE.out HB.out
    exact this
  | none =>
    have HOK := Lib.hid (HX.out ht)
    have HT := Lib.hid ht
    clear ht
    cases hy : (appendD d life n next (Rec.bytes (.block l))).2 with
    | none =>
      have HY := Lib.hid hy
      clear hy
      go_enter Tryz.func107, Tryz.ntmps107
      go_wp2_with (first
        | (go_at_call 158; refine (wblock_c l.length _ HW.out).mono ?_; rintro e w1 ht; obtain ⟨rfl, rfl⟩ := ht.1 HT.out)
        | (go_at_call 159; refine (wapp_block S l A c0 _ HP.out HR.out HS.out HOK.out).mono ?_; rintro e w2 hl; obtain ⟨rfl, htu⟩ := hl.1 HY.out; obtain ⟨A9, c9, q9, l9⟩ := htu.blk; have HL := Lib.hid hl; clear hl htu))
      go_ret2
      exact step_app (told := fun v => .tuple #[.int .i64 ((x.does (.block l)).blocks.length : Nat), v]) (no := fun v => .tuple #[.int .i64 0, v]) rfl HL.out (fun v h h2 => rfl) (fun v c h h2 => by rw [HY.out] at h2; cases h2)
    | some c =>
      have HY := Lib.hid hy
      clear hy
      go_enter Tryz.func107, Tryz.ntmps107
      go_wp2_with (first
        | (go_at_call 158; refine (wblock_c l.length _ HW.out).mono ?_; rintro e w1 ht; obtain ⟨rfl, rfl⟩ := ht.1 HT.out)
        | (go_at_call 159; refine (wapp_block S l A c0 _ HP.out HR.out HS.out HOK.out).mono ?_; rintro e w2 hl; obtain ⟨v, a, rfl, hE, _⟩ := hl.2 c HY.out; obtain ⟨n7, hn7⟩ := hE.errN; obtain ⟨T7, y7, rfl⟩ := hn7.iface; have HL := Lib.hid hl; clear hl hE hn7))
      go_ret2
      exact step_app (told := fun v => .tuple #[.int .i64 ((x.does (.block l)).blocks.length : Nat), v]) (no := fun v => .tuple #[.int .i64 0, v]) rfl HL.out (fun v h h2 => by rw [HY.out] at h2; cases h2) (fun v c h h2 => by cases h; rfl)
set_option maxRecDepth 100000 in
set_option maxHeartbeats 8000000 in
theorem wCut_c  (w : World) (hp : WalPre B wb lb db life R Rq x n next d w) :
    Calls Tryz.prog 108 #[.pointer (some ⟨wb, 0, none⟩)] w (WStepPost B wb lb db life R Rq x n next (.cut) (stepW d life n next (cutE x) (.cut)) (fun v => .tuple #[.int .i64 ((x.does .cut).cuts.length : Nat), v]) (fun v => .tuple #[.int .i64 0, v]) w) := by
  have HP := Lib.hid hp
  obtain ⟨⟨bv, cv, xs, hW⟩, hL, hlb⟩ := hp.wal
  have HW := Lib.hid hW
  have HX := Lib.hid (show ∀ (h : cutE x = none), x.ok (.cut) from cutE_ok)
  clear hp hW hL hlb
  cases ht : cutE x with
  | some c =>
    have HT := Lib.hid ht
    clear ht
    go_enter Tryz.func108, Tryz.ntmps108
    go_wp2_with (first
      | (go_at_call 160; refine (wcut_c _ HW.out).mono ?_; rintro e w1 ht; obtain ⟨a, v, rfl, hE, hb⟩ := ht.2 c HT.out; obtain ⟨n7, hn7⟩ := hE.errN; obtain ⟨T7, y7, rfl⟩ := hn7.iface; have HE := Lib.hid hE; have HB := Lib.hid hb; clear ht hE hb hn7))
    go_ret2
    have := step_no (r := .cut) (told := fun v => .tuple #[.int .i64 ((x.does .cut).cuts.length : Nat), v]) (no := fun v => .tuple #[.int .i64 0, v]) HP.out rfl HE.out HB.out
    exact this
  | none =>
    have HOK := Lib.hid (HX.out ht)
    have HT := Lib.hid ht
    clear ht
    cases hy : (appendD d life n next (Rec.bytes (.cut))).2 with
    | none =>
      have HY := Lib.hid hy
      clear hy
      go_enter Tryz.func108, Tryz.ntmps108
      go_wp2_with (first
        | (go_at_call 160; refine (wcut_c _ HW.out).mono ?_; rintro e w1 ht; obtain ⟨rfl, rfl⟩ := ht.1 HT.out)
        | (go_at_call 159; refine (wapp_cut _ HP.out HOK.out).mono ?_; rintro e w2 hl; obtain ⟨rfl, htu⟩ := hl.1 HY.out; obtain ⟨A9, c9, q9, l9⟩ := htu.cut; have HL := Lib.hid hl; clear hl htu))
      go_ret2
      exact step_app (told := fun v => .tuple #[.int .i64 ((x.does .cut).cuts.length : Nat), v]) (no := fun v => .tuple #[.int .i64 0, v]) rfl HL.out (fun v h h2 => rfl) (fun v c h h2 => by rw [HY.out] at h2; cases h2)
    | some c =>
      have HY := Lib.hid hy
      clear hy
      go_enter Tryz.func108, Tryz.ntmps108
      go_wp2_with (first
        | (go_at_call 160; refine (wcut_c _ HW.out).mono ?_; rintro e w1 ht; obtain ⟨rfl, rfl⟩ := ht.1 HT.out)
        | (go_at_call 159; refine (wapp_cut _ HP.out HOK.out).mono ?_; rintro e w2 hl; obtain ⟨v, a, rfl, hE, _⟩ := hl.2 c HY.out; obtain ⟨n7, hn7⟩ := hE.errN; obtain ⟨T7, y7, rfl⟩ := hn7.iface; have HL := Lib.hid hl; clear hl hE hn7))
      go_ret2
      exact step_app (told := fun v => .tuple #[.int .i64 ((x.does .cut).cuts.length : Nat), v]) (no := fun v => .tuple #[.int .i64 0, v]) rfl HL.out (fun v h h2 => by rw [HY.out] at h2; cases h2) (fun v c h h2 => by cases h; rfl)
set_option maxRecDepth 100000 in
set_option maxHeartbeats 8000000 in
theorem wMark_c (m : Nat) (w : World) (hp : WalPre B wb lb db life R Rq x n next d w) :
    Calls Tryz.prog 114 #[.pointer (some ⟨wb, 0, none⟩), .int .i64 (m : Nat)] w (WStepPost B wb lb db life R Rq x n next (.mark m) (stepW d life n next (markE x (m : Nat)) (.mark m)) (fun v => v) (fun v => v) w) := by
  have HP := Lib.hid hp
  obtain ⟨⟨bv, cv, xs, hW⟩, hL, hlb⟩ := hp.wal
  have HW := Lib.hid hW
  have HX := Lib.hid (show ∀ (h : markE x (m : Nat) = none), x.ok (.mark m) from markE_ok)
  clear hp hW hL hlb
  cases ht : markE x (m : Nat) with
  | some c =>
    have HT := Lib.hid ht
    clear ht
    go_enter Tryz.func114, Tryz.ntmps114
    go_wp2_with (first
      | (go_at_call 163; refine (wmark_c _ _ HW.out).mono ?_; rintro e w1 ht; obtain ⟨a, v, rfl, hE, hb⟩ := ht.2 c HT.out; obtain ⟨n7, hn7⟩ := hE.errN; obtain ⟨T7, y7, rfl⟩ := hn7.iface; have HE := Lib.hid hE; have HB := Lib.hid hb; clear ht hE hb hn7))
    go_ret
    have := step_no (r := .mark m) (told := fun v => v) (no := fun v => v) HP.out rfl HE.out HB.out
    exact this
  | none =>
    have HOK := Lib.hid (HX.out ht)
    have HT := Lib.hid ht
    clear ht
    cases hy : (appendD d life n next (Rec.bytes (.mark m))).2 with
    | none =>
      have HY := Lib.hid hy
      clear hy
      go_enter Tryz.func114, Tryz.ntmps114
      go_wp2_with (first
        | (go_at_call 163; refine (wmark_c _ _ HW.out).mono ?_; rintro e w1 ht; obtain ⟨rfl, rfl⟩ := ht.1 HT.out)
        | (go_at_call 159; refine (wapp_mark m _ HP.out HOK.out).mono ?_; rintro e w2 hl; obtain ⟨rfl, htu⟩ := hl.1 HY.out; have HL := Lib.hid hl; clear hl htu))
      go_ret
      exact step_app (told := fun v => v) (no := fun v => v) rfl HL.out (fun v h h2 => rfl) (fun v c h h2 => by rw [HY.out] at h2; cases h2)
    | some c =>
      have HY := Lib.hid hy
      clear hy
      go_enter Tryz.func114, Tryz.ntmps114
      go_wp2_with (first
        | (go_at_call 163; refine (wmark_c _ _ HW.out).mono ?_; rintro e w1 ht; obtain ⟨rfl, rfl⟩ := ht.1 HT.out)
        | (go_at_call 159; refine (wapp_mark m _ HP.out HOK.out).mono ?_; rintro e w2 hl; obtain ⟨v, a, rfl, hE, _⟩ := hl.2 c HY.out; obtain ⟨n7, hn7⟩ := hE.errN; obtain ⟨T7, y7, rfl⟩ := hn7.iface; have HL := Lib.hid hl; clear hl hE hn7))
      go_ret
      exact step_app (told := fun v => v) (no := fun v => v) rfl HL.out (fun v h h2 => by rw [HY.out] at h2; cases h2) (fun v c h h2 => by cases h; rfl)
end
end Go.Proofs.YtlmjjhenoadndaaGreatDoor

/- The journal: takes of the program, of a record of its own. (Printed by mkwaltakes.py.) -/
namespace Go.Proofs.YtlmjjhenoadndaaGreatDoor
open Go.RowKit Go.Sort

def TakesPost (B wb lb : Nat) (R : Nat → Prop) (x' : WalD) (w : World) (e : Ending) (w' : World) : Prop :=
  e = .returned (.bool true) ∧ ∃ (R' : Nat → Prop) (bv cv : Value) (xs : List Ro), WalAt B wb lb R' x' bv cv xs w' ∧ Fr R w w' ∧ ∀ k, R' k → R k ∨ w.heap.size ≤ k
theorem takes_end {B wb lb : Nat} {R : Nat → Prop} {x' : WalD} {w w1 w2 : World} (hb : Below w.heap.size w w1) (h : DoesPost B wb lb R x' w1 (.returned (.tuple #[])) w2) : TakesPost B wb lb R x' w (.returned (.bool true)) w2 := by
  obtain ⟨_, R', bv, cv, xs, h1, h2, h3⟩ := h
  have := hb.size
  exact ⟨rfl, R', bv, cv, xs, h1, (Fr.of_below hb).trans h2 (fun k hk => .inl hk), fun k hk => (h3 k hk).imp id (fun h => by omega)⟩
theorem readI_at0 {n : Int} (r : List Nat) (h1 : -9223372036854775808 ≤ n) (h2 : n ≤ 9223372036854775807) : readI (intB n ++ r) 0 = .ok n (intB n).length := by
  have := readI_intB [] r h1 h2
  simpa using this
theorem blockE_no {x : WalD} {l : List Rw} (h : x.ok (.block l)) : blockE x l.length = none := by
  unfold blockE
  exact if_neg (fun h1 => by have := h.1; have := h.2.1; omega)
theorem cutE_no {x : WalD} (h : x.ok .cut) : cutE x = none := by
  unfold cutE
  exact if_neg (fun h1 => by simp only [WalD.ok] at h; omega)
theorem markE_no {x : WalD} {m : Nat} (h : x.ok (.mark m)) : markE x (m : Nat) = none := by
  unfold markE
  exact if_neg (fun h1 => by have := h.1; have := h.2; omega)
section
variable {B wb lb : Nat} {R : Nat → Prop} {x : WalD} {bv cv : Value} {xs : List Ro}
set_option maxRecDepth 100000 in
set_option maxHeartbeats 8000000 in
theorem takes_cut  (S : Nat → Prop) (b : List Nat) (A : Option Addr) (c : Nat) (w : World) (h : WalAt B wb lb R x bv cv xs w) (hbr : b = Rec.bytes (.cut)) (hr : RdS w S 1 A b.length (bytesC b)) (hok : x.ok (.cut)) :
    Calls Tryz.prog 156 #[.pointer (some ⟨wb, 0, none⟩), .slice A b.length c] w (TakesPost B wb lb R (x.does (.cut)) w) := by
  obtain ⟨hx1, hx2, hx3⟩ := Rec.bytes_ok h.inn hok
  rw [← hbr] at hx1 hx2 hx3
  have HI := Lib.hid (show readI b 0 = .ok 2 b.length from by
    have := readI_at0 (n := 2) [] (by omega) (by omega)
    rw [List.append_nil] at this
    rw [hbr]
    exact this)
  have HT := Lib.hid (cutE_no hok)
  have H := Lib.hid h
  have HR := Lib.hid hr
  have HBy := Lib.hid hx3
  have HOK := Lib.hid hok
  clear h hr hx3 hok hbr
  go_enter Tryz.func156, Tryz.ntmps156
  go_wp2_with (first
    | (go_at_call 138; refine (readInt_c S b A c 0 _ HR.out HBy.out (by omega)).mono ?_; rintro e w1 hpost; obtain ⟨rfl, hb⟩ := hpost.1 _ _ HI.out; have HB1 := Lib.hid hb; have HBz := Lib.hid hb; clear hb hpost)
    | (go_at_call 160; refine (wcut_c _ (H.out.ext HBz.out)).mono ?_; rintro e w2 ht; obtain ⟨rfl, rfl⟩ := ht.1 HT.out)
    | (go_at_call 207; refine (does_cut none 0 0 0 _ (H.out.ext HBz.out) HOK.out).mono ?_; rintro e w8 hd; obtain rfl := hd.1; have HDo := Lib.hid hd; clear hd))
  go_ret
  exact takes_end HBz.out HDo.out
set_option maxRecDepth 100000 in
set_option maxHeartbeats 8000000 in
theorem takes_mark (m : Nat) (S : Nat → Prop) (b : List Nat) (A : Option Addr) (c : Nat) (w : World) (h : WalAt B wb lb R x bv cv xs w) (hbr : b = Rec.bytes (.mark m)) (hr : RdS w S 1 A b.length (bytesC b)) (hok : x.ok (.mark m)) :
    Calls Tryz.prog 156 #[.pointer (some ⟨wb, 0, none⟩), .slice A b.length c] w (TakesPost B wb lb R (x.does (.mark m)) w) := by
  obtain ⟨hx1, hx2, hx3⟩ := Rec.bytes_ok h.inn hok
  rw [← hbr] at hx1 hx2 hx3
  have hm60 : m ≤ 60 := by
    have h1 := hok.2
    have h2 := h.inn.nc
    omega
  obtain ⟨a1, ha1⟩ : ∃ a1, a1 = (intB 3).length := ⟨_, rfl⟩
  have HI := Lib.hid (show readI b 0 = .ok 3 a1 from by
    rw [hbr, ha1]
    exact readI_at0 (n := 3) _ (by omega) (by omega))
  have HI2 := Lib.hid (show readI b (a1 : Nat) = .ok (m : Nat) b.length from by
    have := readI_intB (intB 3) [] (n := (m : Nat)) (by omega) (by omega)
    rw [List.append_nil, ← List.length_append] at this
    rw [hbr, ha1]
    exact this)
  have HT := Lib.hid (markE_no hok)
  clear ha1
  have H := Lib.hid h
  have HR := Lib.hid hr
  have HBy := Lib.hid hx3
  have HOK := Lib.hid hok
  clear h hr hx3 hok hbr
  go_enter Tryz.func156, Tryz.ntmps156
  go_wp2_with (first
    | (have hx := HB1.out; clear hx; go_at_call 138; refine (readInt_c S b A c (a1 : Nat) _ (HR.out.ext HB1.out) HBy.out (by omega)).mono ?_; rintro e w2 hpost; obtain ⟨rfl, hb⟩ := hpost.1 _ _ HI2.out; have HBz := Lib.hid (ext_trans HB1.out hb); clear hb hpost)
    | (go_at_call 138; refine (readInt_c S b A c 0 _ HR.out HBy.out (by omega)).mono ?_; rintro e w1 hpost; obtain ⟨rfl, hb⟩ := hpost.1 _ _ HI.out; have HB1 := Lib.hid hb; clear hb hpost)
    | (go_at_call 163; refine (wmark_c _ _ (H.out.ext HBz.out)).mono ?_; rintro e w3 ht; obtain ⟨rfl, rfl⟩ := ht.1 HT.out)
    | (go_at_call 207; refine (does_mark none 0 0 m _ (H.out.ext HBz.out) HOK.out).mono ?_; rintro e w8 hd; obtain rfl := hd.1; have HDo := Lib.hid hd; clear hd))
  go_ret
  exact takes_end HBz.out HDo.out
set_option maxRecDepth 100000 in
set_option maxHeartbeats 8000000 in
theorem takes_block (l : List Rw) (S : Nat → Prop) (b : List Nat) (A : Option Addr) (c : Nat) (w : World) (h : WalAt B wb lb R x bv cv xs w) (hbr : b = Rec.bytes (.block l)) (hr : RdS w S 1 A b.length (bytesC b)) (hok : x.ok (.block l)) :
    Calls Tryz.prog 156 #[.pointer (some ⟨wb, 0, none⟩), .slice A b.length c] w (TakesPost B wb lb R (x.does (.block l)) w) := by
  obtain ⟨hx1, hx2, hx3⟩ := Rec.bytes_ok h.inn hok
  rw [← hbr] at hx1 hx2 hx3
  have hl16 : l.length ≤ 16 := hok.1
  obtain ⟨a1, ha1⟩ : ∃ a1, a1 = (intB 1).length := ⟨_, rfl⟩
  have HI := Lib.hid (show readI b 0 = .ok 1 a1 from by
    rw [hbr, ha1]
    exact readI_at0 (n := 1) _ (by omega) (by omega))
  have HI2 := Lib.hid (show readR b (a1 : Nat) = .ok l b.length from by
    have := readR_rowsB (intB 1) [] l (by omega) hok.2.2
    rw [List.append_nil, ← List.length_append] at this
    rw [hbr, ha1]
    exact this)
  have HT := Lib.hid (blockE_no hok)
  clear ha1
  have H := Lib.hid h
  have HR := Lib.hid hr
  have HBy := Lib.hid hx3
  have HOK := Lib.hid hok
  clear h hr hx3 hok hbr
  go_enter Tryz.func156, Tryz.ntmps156
  go_wp2_with (first
    | (go_at_call 138; refine (readInt_c S b A c 0 _ HR.out HBy.out (by omega)).mono ?_; rintro e w1 hpost; obtain ⟨rfl, hb⟩ := hpost.1 _ _ HI.out; have HB1 := Lib.hid hb; clear hb hpost)
    | (go_at_call 148; refine (readRows_c S b A c (a1 : Nat) _ (HR.out.ext HB1.out) HBy.out (by omega)).mono ?_; rintro e w2 hpost; obtain ⟨A5, c5, rfl, hown, hb⟩ := hpost.1 _ _ HI2.out; have HB2 := Lib.hid (ext_trans HB1.out hb); have HO5 := Lib.hid hown; clear hb hpost hown)
    | (go_at_call 157; refine (Is_nil 2 _).mono ?_; rintro e w3 ⟨rfl, hb⟩; have HBz := Lib.hid (ext_trans HB2.out hb); have HO6 := Lib.hid (own_ext HO5.out hb); clear hb)
    | (go_at_call 158; refine (wblock_c l.length _ (H.out.ext HBz.out)).mono ?_; rintro e w4 ht; obtain ⟨rfl, rfl⟩ := ht.1 HT.out)
    | (go_at_call 207; refine (does_block l A5 c5 0 _ (H.out.ext HBz.out) ((RdS.of_own (S := fun _ => True) HO6.out (fun _ _ => trivial)).rd (Nat.le_refl _)) HOK.out).mono ?_; rintro e w8 hd; obtain rfl := hd.1; have HDo := Lib.hid hd; clear hd))
  go_ret
  exact takes_end HBz.out HDo.out
end
end Go.Proofs.YtlmjjhenoadndaaGreatDoor

/- The journal: Open of the program. -/
namespace Go.Proofs.YtlmjjhenoadndaaGreatDoor
open Go.RowKit Go.Sort

section
variable {B wb lb : Nat} {R : Nat → Prop} {x : WalD} {bv cv : Value} {xs : List Ro}
theorem takes_c (r : Rec) (S : Nat → Prop) (b : List Nat) (A : Option Addr) (c : Nat) (w : World) (h : WalAt B wb lb R x bv cv xs w) (hbr : b = r.bytes) (hr : RdS w S 1 A b.length (bytesC b)) (hok : x.ok r) :
    Calls Tryz.prog 156 #[.pointer (some ⟨wb, 0, none⟩), .slice A b.length c] w (TakesPost B wb lb R (x.does r) w) := by
  cases r with
  | block l => exact takes_block l S b A c w h hbr hr hok
  | cut => exact takes_cut S b A c w h hbr hr hok
  | mark m => exact takes_mark m S b A c w h hbr hr hok
end
theorem bs_cell {w : World} {base ga n c i : Nat} {ys : List By} {z : By} (h : w.ownsRow base 39 1 (.slice (some ⟨ga, 0, none⟩) n c) n (ys.flatMap bsC)) (hz : ys[i]? = some z) (hi : i < n) : w.cell? ⟨ga, (i : Nat), none⟩ = some (.slice z.A z.l.length z.c) := by
  obtain ⟨ad, hA, hc⟩ := (Rd.of_own (B := 0) h).cell (by omega)
  injection hA with hA
  have e : ∀ l : List By, l.flatMap bsC = l.map fun x => Value.slice x.A x.l.length x.c := by
    intro l
    induction l with
    | nil => rfl
    | cons y l ih => rw [List.flatMap_cons, ih]; rfl
  have h1 := hc i (.slice z.A z.l.length z.c) (by rw [e, List.getElem?_map, hz]; rfl)
  rw [← hA] at h1
  have h2 : (⟨ga, 0, none⟩ : Addr).add i = ⟨ga, i, none⟩ := by
    unfold Addr.add
    split
    · next h0 => subst h0; rfl
    · simp
  rw [h2] at h1
  exact h1
def WOpenPost (db : Nat) (d : DiskD) (x : WalD) (n next : Nat) (w : World) (e : Ending) (w' : World) : Prop :=
  ∃ (wb lb : Nat) (R : Nat → Prop), e = .returned (.tuple #[.pointer (some ⟨wb, 0, none⟩), .nilIface]) ∧ WalIs w.heap.size wb lb db d.life R x n next w' ∧ Below w.heap.size w w'
section
variable {B db n next : Nat} {Rq : Nat → Prop} {d : DiskD} {x : WalD}
set_option maxRecDepth 100000 in
set_option maxHeartbeats 8000000 in
theorem wOpen_c (w : World) (h : DiskIs B db Rq d w) (hd : d.down = false) (hw : WalOk d x n next) : Calls Tryz.prog 101 #[.pointer (some ⟨db, 0, none⟩)] w (WOpenPost db d x n next w) := by
  have HD := Lib.hid h
  have hroom := h.room_le
  obtain ⟨rs, hlo, hhi, rfl, rfl⟩ := hw
  have hop := openD_ok hlo hroom.2.1
  have hple := posOf_le (rs.map Rec.bytes)
  rw [List.length_map] at hple
  have hrl : rs.length ≤ 65536 := by have := hlo.fits; omega
  have HOp := Lib.hid hop
  have HHi := Lib.hid hhi
  have HDn := Lib.hid hd
  clear h hop hhi hlo hd hple
  go_enter Tryz.func101, Tryz.ntmps101
  go_wp2_with (first
    | (go_at_call 11; refine (lOpen_c _ HD.out HDn.out).mono ?_
       rintro e w1 ⟨lb, A, c, ys, rfl, hys, hL, hown, hrd, hb, hlbw⟩
       rw [HOp.out] at hys hL
       rw [List.length_map] at hL
       have hyl : ys.length = rs.length := by rw [← List.length_map (f := fun y : By => y.l), hys, List.length_map]
       have HYs := Lib.hid hys
       have HL := Lib.hid hL
       have HB1 := Lib.hid hb
       have HO := Lib.hid hown
       have HRd := Lib.hid hrd
       have HLB := Lib.hid hlbw
       rw [hyl] at HO ⊢
       have HYL := Lib.hid hyl
       clear hys hL hown hrd hb hlbw hyl))
  obtain ⟨wb, hwb⟩ : ∃ wb, wb = w1.heap.size := ⟨_, rfl⟩
  have H0 := Lib.hid (show WalAt w.heap.size wb lb (fun k => k = wb) WalD.new (.slice none 0 0) (.slice none 0 0) [] (w1.alloc (.cells #[.pointer (some ⟨lb, 0, none⟩), .slice none 0 0, .slice none 0 0, .int .i64 0] 191 (0, 0))) from
    ⟨Bk.newAt hwb, World.ownsRow_nil _ _ _ _, World.ownsRow_nil _ _ _ _, rfl, (fun y hy => by cases hy), rfl, (fun k hk => by cases hk), (fun k hk => by cases hk), (fun k hk => by subst hk; rw [hwb]; exact ⟨HB1.out.size, by simp⟩), ⟨by simp [WalD.new], by simp [WalD.new], by simp [WalD.new]⟩⟩)
  have HWB := Lib.hid hwb
  have HLW := Lib.hid (show lb < w1.heap.size from HL.out.lt)
  rw [← hwb]
  clear hwb
  go_loopg [2, 3, 25] rs.length (fun gk v2 v3 v25 wr => ∃ (i : Nat) (y : WalD) (R : Nat → Prop) (bv cv : Value) (zs : List Ro), i + gk = rs.length ∧ v25 = .int .i64 (i : Nat) ∧ v2 = .pointer none ∧ v3 = .nilIface ∧ Hid (Hist (rs.take i) y) ∧ WalAt w.heap.size wb lb R y bv cv zs wr ∧ Fr (fun k => w1.heap.size ≤ k) w1 wr ∧ (∀ k, R k → w1.heap.size ≤ k))
  case atStart => exact ⟨0, WalD.new, _, _, _, [], by omega, rfl, rfl, rfl, Lib.hid .nil, H0.out, Fr.of_below (ext_alloc (Below.refl _ _) _), fun k hk => by rw [hk, HWB.out]; exact Nat.le_refl _⟩
  case round =>
    obtain ⟨i, y, R, bv, cv, zs, hik, rfl, rfl, rfl, hhi, hW, hF, hR⟩ := hrel
    have HW := Lib.hid hW
    have HF := Lib.hid hF
    have HR := Lib.hid hR
    have HOw := Lib.hid (own_fr HO.out hF (fun k hk hs => by have := (HO.out.lt k hk).2; omega))
    clear hW hF hR
    by_cases hi : i < rs.length
    · have hiI : (i : Int) < (rs.length : Nat) := by omega
      obtain ⟨r, hr⟩ : ∃ r, rs[i]? = some r := ⟨_, List.getElem?_eq_getElem hi⟩
      obtain ⟨z, hz⟩ : ∃ z, ys[i]? = some z := ⟨_, List.getElem?_eq_getElem (by rw [HYL.out]; exact hi)⟩
      have hzl : z.l = r.bytes := by
        have h1 : (ys.map (·.l))[i]? = (rs.map Rec.bytes)[i]? := by rw [HYs.out]
        rw [List.getElem?_map, List.getElem?_map, hz, hr] at h1
        simpa using h1
      obtain ⟨y', hy1, hy2, hy3⟩ := HHi.out.pre i r hr
      obtain rfl := hhi.out.one hy1
      have HNx := Lib.hid hy3
      have HOK := Lib.hid hy2
      have HRb := Lib.hid (show RdS wr (· < w1.heap.size) 1 z.A z.l.length (bytesC z.l) from by
        have h1 := RdS.of_rd (HRd.out z (List.mem_of_getElem? hz)) (by decide)
        rw [bytesC_flat] at h1
        exact h1.fr HF.out (fun k hk hs => by omega))
      obtain ⟨g, rfl⟩ : ∃ g, gk = g + 1 := ⟨gk - 1, by omega⟩
      obtain ⟨ga, rfl, _, _⟩ := own_some HOw.out (by omega)
      have zc : wr.cell? ⟨ga, (i : Nat), none⟩ = some (.slice z.A z.l.length z.c) := bs_cell HOw.out hz hi
      have HZL := Lib.hid hzl
      clear hr hz hzl hy1 hy2 hy3 hhi
      go_wp2_with (first
        | (go_at_call 156; refine (takes_c r _ z.l z.A z.c _ HW.out HZL.out HRb.out HOK.out).mono ?_
           rintro e w2 ⟨rfl, R2, bv2, cv2, zs2, h1, h2, h3⟩
           have HW2 := Lib.hid h1
           have HF2 := Lib.hid (show Fr (fun k => w1.heap.size ≤ k) w1 w2 from HF.out.trans h2 (fun k hk => .inl (HR.out k hk)))
           have HR2 := Lib.hid (show ∀ k, R2 k → w1.heap.size ≤ k from fun k hk => (h3 k hk).elim (HR.out k) (fun h => Nat.le_trans HF.out.size h))
           clear h1 h2 h3))
      go_roundg g
      case measure => omega
      case rel => exact ⟨i + 1, _, R2, bv2, cv2, zs2, by omega, by go_num, rfl, rfl, HNx, HW2.out, HF2.out, HR2.out⟩
    · obtain rfl : gk = 0 := by omega
      obtain rfl : i = rs.length := by omega
      have hiI : ¬ (rs.length : Int) < (rs.length : Nat) := by omega
      have hx : y = x := (hhi.out).one (by rw [List.take_length]; exact HHi.out)
      subst hx
      clear hhi
      go_wp2_with fail
      go_ret2
      refine ⟨wb, lb, R, rfl, ⟨⟨bv, cv, zs, HW.out⟩, ?_, fun hk => ?_, HLB.out⟩, ?_⟩
      · exact HL.out.fr HF.out (fun hs => by have := HLW.out; omega)
      · have h1 := HR.out _ hk
        have := HLW.out
        omega
      · exact ext_trans HB1.out (HF.out.belowN (fun k hk hs => by omega))
end
end Go.Proofs.YtlmjjhenoadndaaGreatDoor

/- Who holds what, in memory: the Sched; Number, Known, Due. -/
namespace Go.Proofs.YtlmjjhenoadndaaGreatDoor
open Go.RowKit Go.Sort

theorem RdS.frA {S T : Nat → Prop} {w w' : World} {size n : Nat} {A : Option Addr} {xs : List Value} (h : RdS w S size A n xs) (hf : Fr T w w') (hd : ∀ ad, A = some ad → ¬ T ad.block) : RdS w' S size A n xs :=
  ⟨h.1, fun hn => by
    obtain ⟨ad, hA, hS, hl, hc⟩ := h.2 hn
    refine ⟨ad, hA, hS, Nat.lt_of_lt_of_le hl hf.size, fun j u hu => ?_⟩
    exact (World.cell?_of_block (by rw [block_of_add]; exact hf.block _ hl (hd ad hA))).trans (hc j u hu)⟩
theorem WaysIs.frA {B wb : Nat} {R S : Nat → Prop} {p : PlanD} {A K : Option Addr} {c kc : Nat} {w w' : World} (h : WaysIs B wb R p A K c kc w) (hf : Fr S w w') (hR : ∀ k, R k → ¬ S k) (hA : ∀ ad, A = some ad → ¬ S ad.block) : WaysIs B wb R p A K c kc w' := by
  obtain ⟨mb, es, h⟩ := h
  exact ⟨mb, es, h.bk.fr hf (hR _ h.rw), h.ops.frA hf hA, h.kept.fr hf hR, h.map.fr hf (hR _ h.rm), fun x v hx => by
    obtain ⟨s, q, A', c', h1, h2, h3⟩ := h.ent x v hx
    exact ⟨s, q, A', c', h1, h2, h3.fr hf hR⟩, h.rw, h.rm, fun k hk => ⟨(h.bd k hk).1, Nat.lt_of_lt_of_le (h.bd k hk).2 hf.size⟩⟩
structure SchedD where
  every : Nat
  known : Int
  holds : List (Id3 × List Int)
  saved : List Id3
/-- Where a Sched's pieces lie. -/
structure SchX where
  wyb : Nat
  K : Option Addr
  kc : Nat
  Rw : Nat → Prop
  sA : Option Addr
  sc : Nat
  hb : Nat
  hm : List (Id3 × Nat × List Int)
  vb : Nat
def SchX.blk (X : SchX) (k : Nat) : Prop := k = X.hb ∨ k = X.vb ∨ ∃ y ∈ X.hm, k = y.2.1
structure SchedAt (B sb : Nat) (R : Nat → Prop) (p : PlanD) (A : Option Addr) (c : Nat) (X : SchX) (s : SchedD) (w : World) : Prop where
  bk : Bk w sb 196 #[.int .i64 p.parts, .slice A p.ops.length c, .pointer (some ⟨X.wyb, 0, none⟩), .slice X.sA (statesL p.ops).length X.sc, .int .i64 (s.every : Nat), .map (some X.hb), .map (some X.vb), .int .i64 s.known]
  ways : WaysIs B X.wyb X.Rw p A X.K c X.kc w
  st : w.ownsRow B 3 1 (.slice X.sA (statesL p.ops).length X.sc) (statesL p.ops).length (intsC (statesL p.ops))
  hold : MapIs idV w X.hb (X.hm.map fun y => (y.1, .map (some y.2.1)))
  hl : s.holds = X.hm.map fun y => (y.1, y.2.2)
  inn : ∀ y ∈ X.hm, MapIs inV w y.2.1 (y.2.2.map fun n => (n, .int .i64 1))
  nd : (X.hm.map (·.2.1)).Nodup
  sv : MapIs idV w X.vb (s.saved.map fun x => (x, .int .i64 1))
  hv : X.hb ≠ X.vb
  hi : ∀ y ∈ X.hm, y.2.1 ≠ X.hb ∧ y.2.1 ≠ X.vb
  rs : R sb ∧ ¬ X.Rw sb
  rb : ∀ k, X.blk k → R k ∧ ¬ X.Rw k
  rw_ : ∀ k, X.Rw k → R k
  rt : ∀ k, (Value.slice X.sA (statesL p.ops).length X.sc).ownBlock = some k → R k
  bd : ∀ k, R k → B ≤ k ∧ k < w.heap.size
  known : 0 ≤ s.known ∧ s.known ≤ 9223372036854775807
  every : 1 ≤ s.every ∧ s.every ≤ 8
  plan : checkD p = none
def SchedIs (B sb : Nat) (R : Nat → Prop) (p : PlanD) (A : Option Addr) (c : Nat) (s : SchedD) (w : World) : Prop := ∃ X, SchedAt B sb R p A c X s w
section
variable {B sb : Nat} {R S : Nat → Prop} {p : PlanD} {A : Option Addr} {c : Nat} {X : SchX} {s : SchedD} {w w' : World}
theorem SchedAt.fr (h : SchedAt B sb R p A c X s w) (hf : Fr S w w') (hR : ∀ k, R k → ¬ S k) (hB : ∀ k, k < B → ¬ S k) : SchedAt B sb R p A c X s w' :=
  ⟨h.bk.fr hf (hR _ h.rs.1), h.ways.fr hf (fun k hk => hR k (h.rw_ k hk)) hB, own_fr h.st hf (fun k hk => hR k (h.rt k hk)), h.hold.fr hf (hR _ (h.rb _ (.inl rfl)).1), h.hl, fun y hy => (h.inn y hy).fr hf (hR _ (h.rb _ (.inr (.inr ⟨y, hy, rfl⟩))).1), h.nd, h.sv.fr hf (hR _ (h.rb _ (.inr (.inl rfl))).1), h.hv, h.hi, h.rs, h.rb, h.rw_, h.rt, fun k hk => ⟨(h.bd k hk).1, Nat.lt_of_lt_of_le (h.bd k hk).2 hf.size⟩, h.known, h.every, h.plan⟩
theorem SchedIs.fr (h : SchedIs B sb R p A c s w) (hf : Fr S w w') (hR : ∀ k, R k → ¬ S k) (hB : ∀ k, k < B → ¬ S k) : SchedIs B sb R p A c s w' := by
  obtain ⟨X, h⟩ := h
  exact ⟨X, h.fr hf hR hB⟩
theorem SchedIs.ext (h : SchedIs B sb R p A c s w) (hb : Below w.heap.size w w') : SchedIs B sb R p A c s w' := h.fr (S := No) (Fr.of_below hb) (fun _ _ h => h) (fun _ _ h => h)
theorem SchedIs.frA (h : SchedIs B sb R p A c s w) (hf : Fr S w w') (hR : ∀ k, R k → ¬ S k) (hA : ∀ ad, A = some ad → ¬ S ad.block) : SchedIs B sb R p A c s w' := by
  obtain ⟨X, h⟩ := h
  exact ⟨X, h.bk.fr hf (hR _ h.rs.1), h.ways.frA hf (fun k hk => hR k (h.rw_ k hk)) hA, own_fr h.st hf (fun k hk => hR k (h.rt k hk)), h.hold.fr hf (hR _ (h.rb _ (.inl rfl)).1), h.hl, fun y hy => (h.inn y hy).fr hf (hR _ (h.rb _ (.inr (.inr ⟨y, hy, rfl⟩))).1), h.nd, h.sv.fr hf (hR _ (h.rb _ (.inr (.inl rfl))).1), h.hv, h.hi, h.rs, h.rb, h.rw_, h.rt, fun k hk => ⟨(h.bd k hk).1, Nat.lt_of_lt_of_le (h.bd k hk).2 hf.size⟩, h.known, h.every, h.plan⟩
theorem SchedAt.ext (h : SchedAt B sb R p A c X s w) (hb : Below w.heap.size w w') : SchedAt B sb R p A c X s w' := h.fr (S := No) (Fr.of_below hb) (fun _ _ h => h) (fun _ _ h => h)
/-- A cell of the Sched's own block is set: what else it holds stays. -/
theorem SchedAt.put (h : SchedAt B sb R p A c X s w) (n : Int) (hn : 0 ≤ n ∧ n ≤ 9223372036854775807) : SchedAt B sb R p A c X ⟨s.every, n, s.holds, s.saved⟩ (w.setCell ⟨sb, 7, none⟩ (.int .i64 n)) := by
  have hf := Fr.one w sb 7 (.int .i64 n)
  have hBs := (h.bd _ h.rs.1).1
  refine ⟨h.bk.set_ 7 _, h.ways.fr hf (fun k hk e => h.rs.2 (e ▸ hk)) (fun k hk e => by omega), own_far h.bk h.st (by decide) 7 _, h.hold.setCell _ _, h.hl, fun y hy => (h.inn y hy).setCell _ _, h.nd, h.sv.setCell _ _, h.hv, h.hi, h.rs, h.rb, h.rw_, h.rt, fun k hk => ?_, hn, h.every, h.plan⟩
  simpa using h.bd k hk
end
def STurn (B sb : Nat) (R : Nat → Prop) (p : PlanD) (A : Option Addr) (c : Nat) (s' : SchedD) (w : World) (e : Ending) (w' : World) : Prop :=
  e = .returned (.tuple #[]) ∧ ∃ R' : Nat → Prop, SchedIs B sb R' p A c s' w' ∧ Fr R w w' ∧ ∀ k, R' k → R k ∨ w.heap.size ≤ k
section
variable {B sb : Nat} {R : Nat → Prop} {p : PlanD} {A : Option Addr} {c : Nat} {s : SchedD}
set_option maxHeartbeats 4000000 in
theorem number_c (w : World) (h : SchedIs B sb R p A c s w) : Calls Tryz.prog 50 #[.pointer (some ⟨sb, 0, none⟩)] w (Val w (.int .i64 s.known)) := by
  obtain ⟨X, h⟩ := h
  have z7 : w.cell? ⟨sb, 7, none⟩ = some (.int .i64 s.known) := (h.bk.cell 7).trans rfl
  have hl := h.bk.lt
  clear h
  go_enter Tryz.func50, Tryz.ntmps50
  go_wp2
  go_ret
  exact ⟨rfl, rfl⟩
set_option maxHeartbeats 4000000 in
theorem known_c (n : Int) (w : World) (h : SchedIs B sb R p A c s w) (hn : n ≤ 9223372036854775807) : Calls Tryz.prog 102 #[.pointer (some ⟨sb, 0, none⟩), .int .i64 n] w (STurn B sb R p A c ⟨s.every, max s.known n, s.holds, s.saved⟩ w) := by
  obtain ⟨X, h⟩ := h
  have z7 : w.cell? ⟨sb, 7, none⟩ = some (.int .i64 s.known) := (h.bk.cell 7).trans rfl
  have f7 := h.bk.frozen 7
  have hl := h.bk.lt
  have hk := h.known
  have H := Lib.hid h
  clear h
  by_cases hm : s.known < n
  · have HM := Lib.hid (show max s.known n = n by omega)
    go_enter Tryz.func102, Tryz.ntmps102
    go_wp2_with fail
    go_returns
    rw [HM.out]
    exact ⟨rfl, R, ⟨X, H.out.put n (by omega)⟩, Fr.refl.set_ (.inl H.out.rs.1) _, fun k hk => .inl hk⟩
  · have HM := Lib.hid (show max s.known n = s.known by omega)
    go_enter Tryz.func102, Tryz.ntmps102
    go_wp2_with fail
    go_returns
    rw [HM.out]
    exact ⟨rfl, R, ⟨X, H.out.put s.known hk⟩, Fr.refl.set_ (.inl H.out.rs.1) _, fun k hk => .inl hk⟩
end
def dueD (every : Nat) (known : Int) (mark : Nat) : Nat := if known < ((mark + every - mark % every : Nat) : Int) ∨ 60 < mark + every - mark % every then 0 else mark + every - mark % every
section
variable {B sb : Nat} {R : Nat → Prop} {p : PlanD} {A : Option Addr} {c : Nat} {s : SchedD}
set_option maxRecDepth 100000 in
set_option maxHeartbeats 4000000 in
theorem due_c (m : Nat) (w : World) (h : SchedIs B sb R p A c s w) (hm : m ≤ 1000000) : Calls Tryz.prog 112 #[.pointer (some ⟨sb, 0, none⟩), .int .i64 (m : Nat)] w (fun e w' => e = .returned (.int .i64 (dueD s.every s.known m : Nat)) ∧ ∃ q, w' = w.drewN q) := by
  obtain ⟨X, h⟩ := h
  have z7 : w.cell? ⟨sb, 7, none⟩ = some (.int .i64 s.known) := (h.bk.cell 7).trans rfl
  have z4 : w.cell? ⟨sb, 4, none⟩ = some (.int .i64 (s.every : Nat)) := (h.bk.cell 4).trans rfl
  have hl := h.bk.lt
  have hk := h.known
  obtain ⟨he1, he8⟩ := h.every
  obtain ⟨ev, hev⟩ : ∃ ev, ev = s.every := ⟨_, rfl⟩
  obtain ⟨kn, hkn⟩ : ∃ kn, kn = s.known := ⟨_, rfl⟩
  rw [← hev] at z4 he1 he8 ⊢
  rw [← hkn] at z7 hk ⊢
  clear h hev hkn
  have hmod : m % ev < ev := Nat.mod_lt _ (by omega)
  obtain ⟨r, hr⟩ : ∃ r, r = m % ev := ⟨_, rfl⟩
  obtain ⟨b, hb⟩ : ∃ b, b = m + ev - r := ⟨_, rfl⟩
  have HD := Lib.hid (show dueD ev kn m = if kn < (b : Nat) ∨ 60 < b then 0 else b from by unfold dueD; rw [← hr, ← hb])
  have e1 : (m : Int).tmod (ev : Int) = (r : Nat) := by rw [hr]; exact (Int.ofNat_tmod m ev).symm
  have e2 : (m : Int) % (ev : Int) = (r : Nat) := by rw [hr]; exact Int.natCast_emod m ev
  have e3 : (m : Int) + (ev : Nat) - (r : Nat) = (b : Nat) := by omega
  have w1 : IntKind.i64.wrap (9223372036854775807 - (ev : Int)) = 9223372036854775807 - (ev : Int) := IntWalk.i64_in _ (by omega)
  have w2 : IntKind.i64.wrap ((m : Int) + (ev : Nat)) = (m : Int) + (ev : Nat) := IntWalk.i64_in _ (by omega)
  have w3 : IntKind.i64.wrap ((m : Int) + (ev : Nat) - (r : Nat)) = (b : Nat) := by rw [e3]; exact IntWalk.i64_in _ (by omega)
  have u1 : ¬ (9223372036854775807 - (ev : Int) < (m : Nat)) := by omega
  have u0 : ¬ (m : Int) < 0 := by omega
  have hbb : b ≤ 2000000 := by omega
  have hev0 : (ev : Int) ≠ 0 := by omega
  rw [← hr] at hmod
  clear hr hb
  by_cases h1 : kn < (b : Nat)
  · have HE := Lib.hid (show dueD ev kn m = 0 from HD.out.trans (if_pos (.inl h1)))
    go_enter Tryz.func112, Tryz.ntmps112
    go_wp2_with fail
    go_quiet (fail)
    go_wp2_with fail
    go_ret
    rw [HE.out]
    exact ⟨rfl, _, rfl⟩
  · by_cases h2 : 60 < b
    · have h2' : (60 : Int) < (b : Nat) := by omega
      have HE := Lib.hid (show dueD ev kn m = 0 from HD.out.trans (if_pos (.inr h2)))
      go_enter Tryz.func112, Tryz.ntmps112
      go_wp2_with fail
      go_quiet (fail)
      go_wp2_with fail
      go_ret
      rw [HE.out]
      exact ⟨rfl, _, rfl⟩
    · have h2' : ¬ (60 : Int) < (b : Nat) := by omega
      have HE := Lib.hid (show dueD ev kn m = b from HD.out.trans (if_neg (by omega)))
      go_enter Tryz.func112, Tryz.ntmps112
      go_wp2_with fail
      go_quiet (fail)
      go_wp2_with fail
      go_ret
      rw [HE.out]
      exact ⟨rfl, _, rfl⟩
end
end Go.Proofs.YtlmjjhenoadndaaGreatDoor
