/- Calls on a memory whatever the input, by what holds behind them. -/
import Derived.Test.YtgigdhfdpabmoaaDoorMemG
import Derived.Test.YtgigdhfdpabmoaaDoorMemH
namespace Go.Proofs.YtgigdhfdpabmoaaDoor
open Go.RowKit

structure ActC where
  kind : Int
  id : Id3
  A : Option Addr
  cap : Nat
  rows : List Rw
def actC (a : ActC) : List Value := [.int .i64 a.kind, .int .i64 a.id.b, .int .i64 a.id.s, .int .i64 a.id.p, .slice a.A a.rows.length a.cap]
def actsC (l : List ActC) : List Value := l.flatMap actC
theorem actsC_at {l : List ActC} {i : Nat} {x : ActC} (h : l[i]? = some x) {j : Nat} (hj : j < 5) : (actsC l)[i * 5 + j]? = (actC x)[j]? := flat_at actC 5 (fun _ => rfl) l i x h j hj
theorem Rd.acts {w : World} {B : Nat} {e : TypeId} {A : Option Addr} {n : Nat} {l : List ActC} (h : Rd w B e 5 A n (actsC l)) {i : Nat} {y : ActC} (hy : l[i]? = some y) (hn : i < n) :
    ∃ ad, A = some ad ∧ w.cell? (ad.add (i * 5)) = some (.int .i64 y.kind) ∧ w.cell? ⟨(ad.add (i * 5)).block, (ad.add (i * 5)).off + 1, none⟩ = some (.int .i64 y.id.b) ∧ w.cell? ⟨(ad.add (i * 5)).block, (ad.add (i * 5)).off + 2, none⟩ = some (.int .i64 y.id.s) ∧
      w.cell? ⟨(ad.add (i * 5)).block, (ad.add (i * 5)).off + 3, none⟩ = some (.int .i64 y.id.p) ∧ w.cell? ⟨(ad.add (i * 5)).block, (ad.add (i * 5)).off + 4, none⟩ = some (.slice y.A y.rows.length y.cap) := by
  obtain ⟨ad, hA, hc⟩ := h.cell (by omega)
  refine ⟨ad, hA, ?_, ?_, ?_, ?_, ?_⟩
  · exact hc (i * 5) _ (by have := actsC_at hy (j := 0) (by omega); simpa [actC] using this)
  · rw [← add_succ ad (i * 5) 0]; exact hc (i * 5 + 1) _ (by rw [actsC_at hy (by omega)]; rfl)
  · rw [← add_succ ad (i * 5) 1]; exact hc (i * 5 + 2) _ (by rw [actsC_at hy (by omega)]; rfl)
  · rw [← add_succ ad (i * 5) 2]; exact hc (i * 5 + 3) _ (by rw [actsC_at hy (by omega)]; rfl)
  · rw [← add_succ ad (i * 5) 3]; exact hc (i * 5 + 4) _ (by rw [actsC_at hy (by omega)]; rfl)

theorem rwsC_take (l : List Rw) (k : Nat) : rwsC (l.take k) = (rwsC l).take (k * 2) := by
  induction l generalizing k with
  | nil => simp [rwsC]
  | cons x l ih =>
    cases k with
    | zero => simp [rwsC]
    | succ k =>
      have := ih k
      simp only [rwsC, List.take_succ_cons, List.flatMap_cons] at this ⊢
      rw [this, Nat.add_mul]
      simp [rwC]
theorem Rd.takeR {w : World} {B : Nat} {e : TypeId} {A : Option Addr} {n : Nat} {l : List Rw} (h : Rd w B e 2 A n (rwsC l)) (hn : n = l.length) (k : Nat) : Rd w B e 2 A (l.take k).length (rwsC (l.take k)) := by
  refine ⟨rwsC_len _, fun h0 => ?_⟩
  obtain ⟨ad, hA, hb, hc⟩ := h.2 (by rw [List.length_take] at h0; omega)
  refine ⟨ad, hA, hb, fun j u hu => hc j u ?_⟩
  rw [rwsC_take, List.getElem?_take] at hu
  split at hu
  · exact hu
  · cases hu

theorem mask_i64 (x : Int) (m : Nat) (hm : m < 9223372036854775808) : ∃ n : Nat, bits .and .i64 x (m : Int) = n ∧ n ≤ m := by
  unfold bits
  simp only
  have h : (BitVec.ofInt 64 x &&& BitVec.ofInt 64 (m : Int)).toNat ≤ m := by
    rw [BitVec.toNat_and]
    refine Nat.le_trans Nat.and_le_right ?_
    simp
    omega
  exact ⟨(BitVec.ofInt 64 x &&& BitVec.ofInt 64 m).toNat, IntWalk.i64_in (((BitVec.ofInt 64 x &&& BitVec.ofInt 64 (m : Int)).toNat : Nat) : Int) (by omega), h⟩
theorem mask_mod (x : Int) (k : Nat) (hk : 0 < k) : ∃ n : Nat, (bits .and .i64 x 65535).tmod (k : Int) = n ∧ n < k := by
  obtain ⟨n, hn, _⟩ := mask_i64 x 65535 (by omega)
  have hn' : bits .and .i64 x 65535 = n := hn
  exact ⟨n % k, by rw [hn']; exact (Int.ofNat_tmod n k).symm, Nat.mod_lt _ hk⟩

/-! ### a call, whatever it meets -/
structure Step (B : Nat) (w : World) (mb pb n k max : Nat) (w' : World) : Prop where
  mem : ∃ A cap ages ps, MemAt B w' mb pb A cap max ages ps ∧ Inv n k max ages ps
  chg : Chg muM B w w'
def AnyPost (B : Nat) (w : World) (mb pb n k max : Nat) (e : Ending) (w' : World) : Prop := (∃ v, e = .returned v) ∧ Step B w mb pb n k max w'
def PinAny (B : Nat) (w : World) (mb pb n k max : Nat) (e : Ending) (w' : World) : Prop := ∃ b : Bool, e = .returned (.bool b) ∧ Step B w mb pb n (if b then k + 1 else k) max w'
def GetAny (B : Nat) (w : World) (mb pb n k max : Nat) (e : Ending) (w' : World) : Prop := (∃ A m c b, e = .returned (.tuple #[.slice A m c, .bool b])) ∧ Step B w mb pb n k max w'
section
variable (B : Nat) (w : World) (mb pb : Nat) (A : Option Addr) (cap : Nat) (n k max : Nat) (ages : List Id3) (ps : List Pc) (x : Id3)
theorem get_any (h : MemAt B w mb pb A cap max ages ps) (hi : Inv n k max ages ps) (hn : n ≤ 1000) : Calls Tryd.prog 7 #[.pointer (some ⟨mb, 0, none⟩), idV x] w (GetAny B w mb pb (n + 1) k max) := by
  have hlen := hi.len
  cases hp : pget ps x with
  | none =>
    refine (get_miss B w mb pb A cap max ages ps x h hp).mono ?_
    rintro e w' ⟨rfl, hb⟩
    exact ⟨⟨_, _, _, _, rfl⟩, ⟨_, _, _, _, h.ext hb, hi.step⟩, Chg.of_below hb⟩
  | some p =>
    have := hi.rows p (pget_mem hp).1
    refine (get_hit B w mb pb A cap max ages ps x h (by omega) p hp (by omega)).mono ?_
    rintro e w' ⟨A', c', rfl, ⟨A2, cap2, hM⟩, _, _, hC⟩
    exact ⟨⟨_, _, _, _, rfl⟩, ⟨_, _, _, _, hM, hi.rot (by rw [hp]; rfl)⟩, hC⟩
theorem pin_any (h : MemAt B w mb pb A cap max ages ps) (hi : Inv n k max ages ps) (hn : n ≤ 1000) : Calls Tryd.prog 8 #[.pointer (some ⟨mb, 0, none⟩), idV x] w (PinAny B w mb pb (n + 1) k max) := by
  have hlen := hi.len
  cases hp : pget ps x with
  | none =>
    refine (pin_miss B w mb pb A cap max ages ps x h hp).mono ?_
    rintro e w' ⟨rfl, hb⟩
    exact ⟨false, rfl, ⟨_, _, _, _, h.ext hb, hi.step⟩, Chg.of_below hb⟩
  | some p =>
    have := hi.pins p (pget_mem hp).1
    refine (pin_hit B w mb pb A cap max ages ps x h (by omega) p hp (by omega)).mono ?_
    rintro e w' ⟨rfl, ⟨A2, cap2, hM⟩, hC⟩
    exact ⟨true, rfl, ⟨_, _, _, _, hM, hi.pinned hp⟩, hC⟩
theorem put_any (h : MemAt B w mb pb A cap max ages ps) (hi : Inv n k max ages ps) (hn : n ≤ 1000) (hmx : max ≤ 1048576) (A0 : Option Addr) (c0 : Nat) (l : List Rw) (hr : Rd w B 58 2 A0 l.length (rwsC l)) (hl : l.length ≤ 64) :
    Calls Tryd.prog 9 #[.pointer (some ⟨mb, 0, none⟩), idV x, .slice A0 l.length c0] w (AnyPost B w mb pb (n + 1) k max) := by
  have hlen := hi.len
  cases hp : (pget ps x).isSome with
  | true =>
    refine (put_held B w mb pb A cap max ages ps x h (by omega) hp A0 l.length c0).mono ?_
    rintro e w' ⟨rfl, ⟨A2, cap2, hM⟩, hC⟩
    exact ⟨⟨_, rfl⟩, ⟨_, _, _, _, hM, hi.rot hp⟩, hC⟩
  | false =>
    refine (put_new B w mb pb A cap max ages ps x h hp A0 c0 l hr (by omega) hi.used hmx (by omega) (fun y hy => (hi.mem y).1 hy) hi.nd).mono ?_
    rintro e w' ⟨hno, hyes⟩
    rcases Nat.lt_or_ge max (szR l + pinnedN ps) with hlt | hge
    · obtain ⟨v, rfl, _, hb⟩ := hno hlt
      exact ⟨⟨_, rfl⟩, ⟨_, _, _, _, h.ext hb, hi.step⟩, Chg.of_below hb⟩
    · obtain ⟨rfl, ⟨A2, cap2, q, hq, hqr, hqp, hM⟩, hC⟩ := hyes hge
      exact ⟨⟨_, rfl⟩, ⟨_, _, _, _, hM, hi.put hp hl (hi.evd hge) hq hqr hqp⟩, hC⟩
theorem put_some (h : MemAt B w mb pb A cap max ages ps) (hi : Inv n k max ages ps) (hn : n ≤ 1000) (hmx : max ≤ 1048576) (A0 : Option Addr) (c0 : Nat) (l : List Rw) (hr : Rd w B 58 2 A0 l.length (rwsC l)) (m : Nat) (hm : m = (l.take 64).length) :
    Calls Tryd.prog 9 #[.pointer (some ⟨mb, 0, none⟩), idV x, .slice A0 m c0] w (AnyPost B w mb pb (n + 1) k max) := by
  subst hm
  exact put_any B w mb pb A cap n k max ages ps x h hi hn hmx A0 c0 (l.take 64) (hr.takeR rfl 64) (by rw [List.length_take]; omega)
end
end Go.Proofs.YtgigdhfdpabmoaaDoor
