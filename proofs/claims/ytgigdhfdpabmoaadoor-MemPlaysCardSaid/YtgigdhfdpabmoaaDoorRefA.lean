/- The document's memory (tributaryref10.Mem): its cells; at, take, use. -/
import Derived.Test.YtgigdhfdpabmoaaDoorMemM
namespace Go.Proofs.YtgigdhfdpabmoaaDoor
open Go.RowKit Go.Sort
attribute [local go_sem high] id_eqI

section
variable {α : Type} {enc : α → List Value} {te e : TypeId} {z bytes : Nat} {zero : Value}
/-- append of a slice that reads as a list. -/
theorem wp_appN (C : AppC enc te e z bytes zero) {o : Oper} {a : Act} {K : Act → World → Prop} {Q : Exit → Act → World → Prop} (W : World) (s x : Operand)
    (ho : o.op = .call { callee := .builtin .append, args := #[s, x], argTypes := #[te, te] }) (base : Nat) (v : Value) (l : List α) (hs : a.eval s = v)
    (hown : W.ownsRow base e z v l.length (l.flatMap enc)) (y : List α) (ad : Addr) (m c : Nat) (hx : a.eval x = .slice (some ad) m c) (hm : m = y.length) (hn : ∀ j u, (y.flatMap enc)[j]? = some u → W.cell? (ad.add j) = some u)
    (hlen : l.length + y.length ≤ 1073741824) (hbase : base ≤ W.heap.size)
    (h : ∀ A c w', w'.ownsRow base e z (.slice A (l ++ y).length c) (l ++ y).length ((l ++ y).flatMap enc) → W.grownBy w' v.ownBlock → (l ++ y).length ≤ c → K (a.put o.dst (.slice A (l ++ y).length c)) w') :
    o.wp Tryd.prog a W K Q := by
  obtain ⟨i0, hi0, hz0, hz1, hz2⟩ := info_parts C.info
  have hbb : (l.length + m) * bytes ≤ 140737488355328 := Nat.le_trans (Nat.mul_le_mul (show l.length + m ≤ 1073741824 by omega) C.small) (by omega)
  obtain ⟨v', w', hr, h1, h2, _, _⟩ := run_append_own_at (P := Tryd.prog) W base te o.type e i0 _ z bytes C.te hi0 hz0 hz1 hz2 C.zz C.z0 v l.length (l.flatMap enc) hown ad m c (y.flatMap enc) (by rw [flat_len C, hm])
    hn (by intro u hu; rw [List.mem_flatMap] at hu; obtain ⟨q, _, hq⟩ := hu; exact C.one q u hq) (by simp only [maxLen]; omega) hbb hbase
  unfold Oper.wp execOp
  simp only [ho, resolve, invoke, builtin, Sem.run_bind, Sem.run_pure, Result.andThen_ok, List.map_toArray, List.map_cons, List.map_nil, hs, hx, hr]
  have h1' : w'.ownsRow base e z v' (l ++ y).length ((l ++ y).flatMap enc) := by
    rw [List.flatMap_append, List.length_append, ← hm]
    exact h1
  obtain ⟨A', c', rfl, hc'⟩ := own_shape h1'
  exact h _ c' w' h1' h2 hc'
theorem wpList_appN (C : AppC enc te e z bytes zero) {ops : Array Oper} {rest : List Oper} {o : Oper} {a : Act} {Q : Exit → Act → World → Prop} (W : World) (hgd : o.guard = none) (s x : Operand)
    (ho : o.op = .call { callee := .builtin .append, args := #[s, x], argTypes := #[te, te] }) (base : Nat) (v : Value) (l : List α) (hs : a.eval s = v)
    (hown : W.ownsRow base e z v l.length (l.flatMap enc)) (y : List α) (ad : Addr) (m c : Nat) (hx : a.eval x = .slice (some ad) m c) (hm : m = y.length) (hn : ∀ j u, (y.flatMap enc)[j]? = some u → W.cell? (ad.add j) = some u)
    (hlen : l.length + y.length ≤ 1073741824) (hbase : base ≤ W.heap.size)
    (h : ∀ A c w', w'.ownsRow base e z (.slice A (l ++ y).length c) (l ++ y).length ((l ++ y).flatMap enc) → W.grownBy w' v.ownBlock → (l ++ y).length ≤ c → wpList Tryd.prog ops Q rest (a.put o.dst (.slice A (l ++ y).length c)) w') :
    wpList Tryd.prog ops Q (o :: rest) a W :=
  wpList_plain hgd fun _ hK => wp_appN C W s x ho base v l hs hown y ad m c hx hm hn hlen hbase fun A c w' h1 h2 h3 => hK _ _ (h A c w' h1 h2 h3)
end

/-! ### the document's memory -/
structure Rc where
  id : Id3
  A : Option Addr
  cap : Nat
  rows : List Rw
  pins : Nat
def rcC (c : Rc) : List Value := [.int .i64 c.id.b, .int .i64 c.id.s, .int .i64 c.id.p, .slice c.A c.rows.length c.cap, .int .i64 c.pins]
def rcsC (l : List Rc) : List Value := l.flatMap rcC
theorem rc_app : AppC rcC 53 78 5 56 (.agg #[.int .i64 0, .int .i64 0, .int .i64 0, .slice none 0 0, .int .i64 0]) :=
  ⟨Tryd.underlying53, by kernel_rfl, rfl, by decide, fun _ => rfl, fun x u hu => by simp only [rcC, List.mem_cons, List.not_mem_nil, or_false] at hu; rcases hu with rfl | rfl | rfl | rfl | rfl <;> rfl, by decide⟩
theorem Rd.rcs {w : World} {B : Nat} {e : TypeId} {A : Option Addr} {n : Nat} {l : List Rc} (h : Rd w B e 5 A n (rcsC l)) {i : Nat} {y : Rc} (hy : l[i]? = some y) (hn : i < n) :
    ∃ ad, A = some ad ∧ w.cell? (ad.add (i * 5)) = some (.int .i64 y.id.b) ∧ w.cell? ⟨(ad.add (i * 5)).block, (ad.add (i * 5)).off + 1, none⟩ = some (.int .i64 y.id.s) ∧ w.cell? ⟨(ad.add (i * 5)).block, (ad.add (i * 5)).off + 2, none⟩ = some (.int .i64 y.id.p) ∧
      w.cell? ⟨(ad.add (i * 5)).block, (ad.add (i * 5)).off + 3, none⟩ = some (.slice y.A y.rows.length y.cap) ∧ w.cell? ⟨(ad.add (i * 5)).block, (ad.add (i * 5)).off + 4, none⟩ = some (.int .i64 y.pins) := by
  have hat : ∀ j, j < 5 → (rcsC l)[i * 5 + j]? = (rcC y)[j]? := fun j hj => flat_at rcC 5 (fun _ => rfl) l i y hy j hj
  obtain ⟨ad, hA, hc⟩ := h.cell (by omega)
  refine ⟨ad, hA, ?_, ?_, ?_, ?_, ?_⟩
  · exact hc (i * 5) _ (by have := hat 0 (by omega); simpa [rcC] using this)
  · rw [← add_succ ad (i * 5) 0]; exact hc (i * 5 + 1) _ (by rw [hat 1 (by omega)]; rfl)
  · rw [← add_succ ad (i * 5) 1]; exact hc (i * 5 + 2) _ (by rw [hat 2 (by omega)]; rfl)
  · rw [← add_succ ad (i * 5) 2]; exact hc (i * 5 + 3) _ (by rw [hat 3 (by omega)]; rfl)
  · rw [← add_succ ad (i * 5) 3]; exact hc (i * 5 + 4) _ (by rw [hat 4 (by omega)]; rfl)

/-- What methods of the document's memory may change: its own struct and its cells. -/
def muR : Obj → Bool
  | .cells _ e _ => e == 55 || e == 78
  | _ => false
structure RAt (B : Nat) (w : World) (rb : Nat) (A : Option Addr) (cap : Nat) (max : Int) (l : List Rc) : Prop where
  bm : B ≤ rb
  blk : Bk w rb 55 #[.int .i64 max, .slice A l.length cap]
  own : w.ownsRow B 78 5 (.slice A l.length cap) l.length (rcsC l)
  rows : ∀ c ∈ l, Rd w B 58 2 c.A c.rows.length (rwsC c.rows)
section
variable {B : Nat} {w w' : World} {rb : Nat} {A : Option Addr} {cap : Nat} {max : Int} {l : List Rc}
theorem own_ext {base n z : Nat} {e : TypeId} {v : Value} {xs : List Value} (h : w.ownsRow base e z v n xs) (hb : Below w.heap.size w w') : w'.ownsRow base e z v n xs :=
  h.kept (grownBy_of_below hb) (by cases v.ownBlock <;> simp)
theorem RAt.ext (h : RAt B w rb A cap max l) (hb : Below w.heap.size w w') : RAt B w' rb A cap max l :=
  ⟨h.bm, h.blk.ext hb, own_ext h.own hb, fun c hc => (h.rows c hc).ext hb⟩
theorem RAt.alloc (h : RAt B w rb A cap max l) (o : Obj) : RAt B (w.alloc o) rb A cap max l := h.ext ((Below.refl _ _).alloc (Nat.le_refl _) o)
theorem RAt.chg (h : RAt B w rb A cap max l) (hc : Chg muM B w w') : RAt B w' rb A cap max l :=
  ⟨h.bm, h.blk.chg hc (.inr rfl), own_chg h.own hc (fun _ _ => rfl), fun c hc' => (h.rows c hc').chg hc (fun _ _ => rfl)⟩
theorem RAt.c0 (h : RAt B w rb A cap max l) : w.cell? ⟨rb, 0, none⟩ = some (.int .i64 max) := by rw [h.blk.cell]; rfl
theorem RAt.c1 (h : RAt B w rb A cap max l) : w.cell? ⟨rb, 1, none⟩ = some (.slice A l.length cap) := by rw [h.blk.cell]; rfl
theorem RAt.drewN (h : RAt B w rb A cap max l) (n : Nat) : RAt B (w.drewN n) rb A cap max l := h.ext (below_drewN (Below.refl _ _) n)
end

/-- Where a name stands; -1. -/
def rix (l : List Rc) (x : Id3) : Int := match l.findIdx? (fun c => decide (c.id = x)) with | some i => i | none => -1
def IntPost (w : World) (n : Int) (e : Ending) (w' : World) : Prop := e = .returned (.int .i64 n) ∧ Below w.heap.size w w'
theorem rix_hit {l : List Rc} {x : Id3} {i : Nat} {y : Rc} (hy : l[i]? = some y) (hyx : y.id = x) (hpre : ∀ j c, j < i → l[j]? = some c → c.id ≠ x) : rix l x = i := by
  unfold rix
  have : l.findIdx? (fun c => decide (c.id = x)) = some i := by
    rw [List.findIdx?_eq_some_iff_getElem]
    have h1 := List.getElem?_eq_some_iff.1 hy
    refine ⟨h1.1, by rw [h1.2]; simp [hyx], fun j hj => ?_⟩
    have := hpre j _ hj (List.getElem?_eq_getElem (by have := h1.1; omega))
    simpa using this
  rw [this]
theorem rix_miss {l : List Rc} {x : Id3} (hpre : ∀ c ∈ l, c.id ≠ x) : rix l x = -1 := by
  unfold rix
  have : l.findIdx? (fun c => decide (c.id = x)) = none := by
    rw [List.findIdx?_eq_none_iff]
    intro c hc
    simpa using hpre c hc
  rw [this]

set_option maxHeartbeats 1000000 in
theorem at_c (B : Nat) (w : World) (rb : Nat) (A : Option Addr) (cap : Nat) (max : Int) (l : List Rc) (x : Id3) (h : RAt B w rb A cap max l) (hl : l.length ≤ 1000000) :
    Calls Tryd.prog 45 #[.pointer (some ⟨rb, 0, none⟩), idV x] w (IntPost w (rix l x)) := by
  have c1 := h.c1
  have hlt := h.blk.lt
  have HR := Lib.hid h
  clear h
  go_enter Tryd.func45, Tryd.ntmps45
  go_wp2
  go_loopg [5] l.length (fun k v5 wr => ∃ i n, i + k = l.length ∧ v5 = .int .i64 (i : Nat) ∧ Hid (∀ j c, j < i → l[j]? = some c → c.id ≠ x) ∧ wr = (w.alloc (.cells #[.int .i64 x.b, .int .i64 x.s, .int .i64 x.p] 24)).drewN n)
  case atStart => exact ⟨0, 0, by simp, rfl, (fun j c hj => absurd hj (Nat.not_lt_zero _)), rfl⟩
  case round =>
    obtain ⟨i, n, hk, rfl, hpre, rfl⟩ := hrel
    by_cases hi : i < l.length
    · have hy : l[i]? = some (l[i]) := List.getElem?_eq_getElem hi
      generalize l[i] = y at hy
      obtain ⟨ad, rfl, d0, d1, d2, d3, d4⟩ := (Rd.of_own (B := B) (HR.out.own.alloc (.cells #[.int .i64 x.b, .int .i64 x.s, .int .i64 x.p] 24))).rcs hy hi
      have HY := Lib.hid hy
      clear hy
      by_cases hyx : y.id = x
      · have hN : (decide (y.id.b = x.b) && (decide (y.id.s = x.s) && decide (y.id.p = x.p))) = true := by rw [hyx]; simp
        have HE := Lib.hid hyx
        clear hyx
        go_wp2
        go_quiet (fail)
        go_wp2
        go_ret
        exact ⟨by rw [rix_hit HY.out HE.out hpre.out]; rfl, below_drewN (below_drewN (ext_alloc (Below.refl _ _) _) _) _⟩
      · have hN : (decide (y.id.b = x.b) && (decide (y.id.s = x.s) && decide (y.id.p = x.p))) = false := by
          cases hyi : y.id; cases x
          rw [hyi] at hyx
          simp only [Id3.mk.injEq] at hyx
          simp
          omega
        have HE := Lib.hid hyx
        clear hyx
        go_wp2
        go_quiet (fail)
        go_wp2
        go_roundg (gk - 1)
        case measure => omega
        case rel =>
          refine ⟨i + 1, n + nq, by omega, by go_num, fun j c hj hc => ?_, by simp only []⟩
          rcases Nat.lt_or_ge j i with h | h
          · exact hpre.out j c h hc
          · have : j = i := by omega
            subst this
            rw [HY.out] at hc
            cases hc
            exact HE.out
    · have hil : i = l.length := by omega
      subst hil
      go_wp2
      go_ret
      exact ⟨by rw [rix_miss (fun c hc => by obtain ⟨j, hj⟩ := List.mem_iff_getElem?.1 hc; exact hpre.out j c (List.getElem?_eq_some_iff.1 hj).1 hj)]; rfl, below_drewN (ext_alloc (Below.refl _ _) _) _⟩
end Go.Proofs.YtgigdhfdpabmoaaDoor
