/- What stays pinned stays; what is listed is what is held; Same. -/
import Derived.Test.YtgigdhfdpabmoaaDoorMemL
namespace Go.Proofs.YtgigdhfdpabmoaaDoor
open Go.RowKit Go.Sort
attribute [local go_sem high] row_eqI

/-! ### pinned pieces stay -/
theorem evict_keeps (max size : Nat) : ∀ (l ages : List Id3) (ps : List Pc) (p : Pc), (ps.map (·.id)).Nodup → p ∈ ps → 0 < p.pins → p ∈ (evict max size l ages ps).2
  | [], _, _, _, _, hp, _ => hp
  | y :: l, ages, ps, p, hn, hp, h0 => by
    unfold evict
    split
    · exact hp
    · split
      · next hy =>
        refine evict_keeps max size l _ _ p (List.Nodup.sublist (List.Sublist.map _ List.filter_sublist) hn) ?_ h0
        refine List.mem_filter.2 ⟨hp, ?_⟩
        simp only [ne_eq, decide_eq_true_eq]
        rintro rfl
        rw [pget_of_mem hn hp] at hy
        simp at hy
        omega
      · exact evict_keeps max size l _ _ p hn hp h0

/-- Pieces with these rows are held and pinned. -/
def Kept (ps : List Pc) (L : List (Id3 × List Rw)) : Prop := ∀ t ∈ L, ∃ p, pget ps t.1 = some p ∧ 0 < p.pins ∧ p.rows = t.2
theorem pget_setPins_eq (ps : List Pc) (x y : Id3) (m : Nat) : pget (setPins ps x m) y = (pget ps y).map fun q => if q.id = x then { q with pins := m } else q := by
  unfold pget setPins
  rw [List.find?_map]
  congr 2
  funext q
  simp only [Function.comp_apply]
  split <;> rfl
theorem Kept.pinned {ps : List Pc} {L : List (Id3 × List Rw)} (h : Kept ps L) (x : Id3) (m : Nat) : Kept (setPins ps x (m + 1)) L := by
  intro t ht
  obtain ⟨p, hp, h0, hr⟩ := h t ht
  rw [pget_setPins_eq, hp]
  refine ⟨if p.id = x then { p with pins := m + 1 } else p, rfl, ?_, ?_⟩
  · split
    · exact Nat.succ_pos _
    · exact h0
  · split <;> exact hr
theorem Kept.cons {ps : List Pc} {L : List (Id3 × List Rw)} (h : Kept ps L) {x : Id3} {p : Pc} (hp : pget ps x = some p) (h0 : 0 < p.pins) : Kept ps (L ++ [(x, p.rows)]) := by
  intro t ht
  rcases List.mem_append.1 ht with ht | ht
  · exact h t ht
  · rw [List.mem_singleton] at ht
    subst ht
    exact ⟨p, hp, h0, rfl⟩
theorem Kept.put {n k max : Nat} {ages : List Id3} {ps : List Pc} {L : List (Id3 × List Rw)} {l : List Rw} (h : Kept ps L) (hi : Inv n k max ages ps) (hf : szR l + pinnedN ps ≤ max) (q : Pc) (_hq : (pget ps q.id).isSome = false) :
    Kept ((evict max (szR l) ages ages ps).2 ++ [q]) L := by
  intro t ht
  obtain ⟨p, hp, h0, hr⟩ := h t ht
  obtain ⟨hm, hid⟩ := pget_mem hp
  have hev := hi.evd hf
  have hk := evict_keeps max (szR l) ages ages ps p hi.ndp hm h0
  have hg := pget_of_mem (List.Nodup.sublist (List.Sublist.map _ hev.subp) hi.ndp) hk
  refine ⟨p, ?_, h0, hr⟩
  unfold pget at hg ⊢
  rw [List.find?_append]
  rw [hid] at hg
  rw [hg]
  rfl

/-! ### the order of names -/
theorem bef_total {x y : Id3} (h : x ≠ y) (h' : bef y x = false) : bef x y = true := by
  unfold bef at h' ⊢
  by_cases h1 : x.b = y.b
  · by_cases h2 : x.s = y.s
    · rw [if_neg (by simp [h1]), if_neg (by simp [h2])] at h'
      rw [if_neg (by simp [h1]), if_neg (by simp [h2])]
      simp only [decide_eq_false_iff_not, decide_eq_true_eq] at h' ⊢
      have : x.p ≠ y.p := fun h3 => h (by cases x; cases y; simp_all)
      omega
    · rw [if_neg (by simp [h1]), if_pos (fun h => h2 h.symm)] at h'
      rw [if_neg (by simp [h1]), if_pos h2]
      simp only [decide_eq_false_iff_not, decide_eq_true_eq] at h' ⊢
      omega
  · rw [if_pos (fun h => h1 h.symm)] at h'
    rw [if_pos h1]
    simp only [decide_eq_false_iff_not, decide_eq_true_eq] at h' ⊢
    omega

/-! ### the sum of the sizes -/
def usedT (l : List (Id3 × List Rw)) : Nat := (l.map fun t => szR t.2).sum
theorem usedN_T (ps : List Pc) : usedN ps = usedT (ps.map pcT) := by
  induction ps with
  | nil => rfl
  | cons p ps ih => rw [usedN_cons, ih]; simp [usedT, pcT]
theorem usedT_append (a b : List (Id3 × List Rw)) : usedT (a ++ b) = usedT a + usedT b := by simp [usedT]
theorem usedT_perm {l m : List (Id3 × List Rw)} (h : l.Perm m) : usedT l = usedT m := by
  unfold usedT
  exact (h.map _).sum_nat
theorem usedT_take {l : List Pz} {i : Nat} {y : Pz} (h : l[i]? = some y) : usedT ((l.take (i + 1)).map pzT) = usedT ((l.take i).map pzT) + szR y.rows := by
  rw [take_succ_of h]
  simp [usedT, pzT]
theorem usedT_take_le (l : List Pz) (i : Nat) : usedT ((l.take i).map pzT) ≤ usedT (l.map pzT) := by
  have h := usedT_append ((l.take i).map pzT) ((l.drop i).map pzT)
  rw [← List.map_append, List.take_append_drop] at h
  omega

/-! ### Same -/
theorem rw_ne_bool {x y : Rw} (h : ¬ y = x) : (!decide (y.k = x.k) || !decide (y.v = x.v)) = true := by
  cases x; cases y
  simp only [Rw.mk.injEq] at h
  simp
  omega
set_option maxHeartbeats 1000000 in
theorem same_c (B : Nat) (w : World) (A A' : Option Addr) (c c' : Nat) (l l' : List Rw) (h : Rd w B 58 2 A l.length (rwsC l)) (h' : Rd w B 58 2 A' l'.length (rwsC l')) (hl : l.length ≤ 2147483648) :
    Calls Tryd.prog 20 #[.slice A l.length c, .slice A' l'.length c'] w (BoolPost w (decide (l = l'))) := by
  have hlb := hl
  by_cases hlen : l.length = l'.length
  · have hT : ((l.length : Int) != (l'.length : Int)) = false := by simp [hlen]
    have hT2 : (l.length == l'.length) = true := by simp [hlen]
    have HL := Lib.hid hlen
    have H := Lib.hid h
    have H' := Lib.hid h'
    clear h h' hlen
    go_enter Tryd.func20, Tryd.ntmps20
    go_wp2
    go_loopg [5] l.length (fun k v5 wr => ∃ i n, i + k = l.length ∧ v5 = .int .i64 (i : Nat) ∧ l.take i = l'.take i ∧ wr = w.drewN n)
    case atStart => exact ⟨0, 0, by simp, rfl, by simp, rfl⟩
    case round =>
      obtain ⟨i, n, hk, rfl, hpre, rfl⟩ := hrel
      have HP := Lib.hid hpre
      clear hpre
      by_cases hi : i < l.length
      · have hi' : i < l'.length := by have := HL.out; omega
        have hy : l[i]? = some (l[i]) := List.getElem?_eq_getElem hi
        have hy' : l'[i]? = some (l'[i]) := List.getElem?_eq_getElem hi'
        generalize l[i] = y at hy
        generalize l'[i] = y' at hy'
        obtain ⟨ad, rfl, d0, d1⟩ := H.out.rws hy hi
        obtain ⟨ad', rfl, e0, e1⟩ := H'.out.rws hy' hi'
        have HY := Lib.hid hy
        have HY' := Lib.hid hy'
        clear hy hy'
        by_cases hyy : y = y'
        · have hN : (!decide (y.k = y'.k) || !decide (y.v = y'.v)) = false := by rw [hyy]; simp
          have HE := Lib.hid hyy
          clear hyy
          go_wp2
          go_quiet (fail)
          go_wp2
          go_roundg (gk - 1)
          case measure => omega
          case rel => exact ⟨i + 1, n + nq, by omega, by go_num, by rw [take_succ_of HY.out, take_succ_of HY'.out, HP.out, HE.out], rfl⟩
        · have hN := rw_ne_bool hyy
          have HE := Lib.hid hyy
          clear hyy
          go_wp2
          go_quiet (fail)
          go_wp2
          go_ret
          have hne : l ≠ l' := by
            intro e
            have h1 := HY.out
            have h2 := HY'.out
            rw [e, h2] at h1
            exact HE.out (Option.some.inj h1).symm
          exact ⟨by simp [hne], below_drewN (below_drewN (Below.refl _ _) _) _⟩
      · have hil : i = l.length := by omega
        subst hil
        have heq : l = l' := by
          have h1 := HP.out
          rw [List.take_length, HL.out, List.take_length] at h1
          exact h1
        have HQ := Lib.hid heq
        clear heq
        go_wp2
        go_ret
        exact ⟨by simp [HQ.out], below_drewN (Below.refl _ _) _⟩
  · have hT : ((l.length : Int) != (l'.length : Int)) = true := by simp; omega
    have hT2 : (l.length == l'.length) = false := by simp [hlen]
    have hne : l ≠ l' := fun e => hlen (by rw [e])
    have HN := Lib.hid hne
    clear hlen hne h h'
    go_enter Tryd.func20, Tryd.ntmps20
    go_wp2
    go_ret
    exact ⟨by simp [HN.out], Below.refl _ _⟩

/-- What an append to a row of the call's own leaves. -/
def KeepBut (B : Nat) (e' : TypeId) (w w' : World) : Prop := ∀ k o, w.heap[k]? = some o → (k < B ∨ ∀ c f, o ≠ .cells c e' f) → w'.heap[k]? = some o
theorem keepBut_own {w w' : World} {B base : Nat} {e' : TypeId} {z m : Nat} {ys : List Value} {v : Value} (hown : w.ownsRow base e' z v m ys) (hB : B ≤ base) (hg : w.grownBy w' v.ownBlock) : KeepBut B e' w w' := by
  intro k o hk hc
  refine (hg.block k (lt_of_some hk) ?_).trans hk
  intro he
  rcases hown.2 with ⟨hv, _⟩ | ⟨g, c, cur, hv, hb, hgg, _⟩
  · rw [hv] at he; simp [Value.ownBlock] at he
  · rw [hv] at he
    simp only [Value.ownBlock, Option.some.injEq] at he
    subst he
    rcases hc with hc | hc
    · omega
    · rw [hgg] at hk; exact hc _ _ (Option.some.inj hk).symm
theorem KeepBut.bk {B g : Nat} {e' t : TypeId} {w w' : World} {cs : Array Value} (h : KeepBut B e' w w') (hb : Bk w g t cs) (hne : t ≠ e') : Bk w' g t cs := h g _ hb (.inr fun _ _ he => by injection he with _ h; exact hne h)
theorem KeepBut.rd {B size n : Nat} {e' e : TypeId} {w w' : World} {A : Option Addr} {xs : List Value} (h : KeepBut B e' w w') (hr : Rd w B e size A n xs) (hne : e ≠ e') : Rd w' B e size A n xs :=
  hr.keep fun k o hk hc => h k o hk (hc.imp id (by rintro ⟨c, f, rfl⟩ _ _ he; injection he with _ h; exact hne h))
theorem KeepBut.own {B base n z : Nat} {e' e : TypeId} {w w' : World} {v : Value} {xs : List Value} (h : KeepBut B e' w w') (ho : w.ownsRow base e z v n xs) (hne : e ≠ e') : w'.ownsRow base e z v n xs := by
  refine ⟨ho.1, ?_⟩
  rcases ho.2 with h2 | ⟨g, c, cur, hv, hb, hg, r⟩
  · exact .inl h2
  · exact .inr ⟨g, c, cur, hv, hb, h g _ hg (.inr fun _ _ he => by injection he with _ h; exact hne h), r⟩
theorem KeepBut.mem {B mb pb cap : Nat} {e' : TypeId} {w w' : World} {A : Option Addr} {max : Int} {ages : List Id3} {ps : List Pc} (h : KeepBut B e' w w') (hM : MemAt B w mb pb A cap max ages ps) (h1 : 64 ≠ e') (h2 : 24 ≠ e') (h3 : 70 ≠ e') (h4 : 58 ≠ e') : MemAt B w' mb pb A cap max ages ps where
  bm := hM.bm
  bp := hM.bp
  blk := h.bk hM.blk h1
  cap := hM.cap
  ages := h.rd hM.ages h2
  map := by
    obtain ⟨es, cl, ho⟩ := hM.map.obj
    exact hM.map.keep ((h pb _ ho (.inr fun _ _ he => by cases he)).trans ho.symm)
  pcs p hp := ⟨(hM.pcs p hp).base, h.bk (hM.pcs p hp).blk h3, (hM.pcs p hp).cap, h.rd (hM.pcs p hp).rows h4⟩
  nd := hM.nd

theorem own_chg {w w' : World} {mu : Obj → Bool} {B base n size : Nat} {e : TypeId} {v : Value} {xs : List Value} (h : w.ownsRow base e size v n xs) (hc : Chg mu B w w') (hm : ∀ c f, mu (.cells c e f) = false) : w'.ownsRow base e size v n xs := by
  refine ⟨h.1, ?_⟩
  rcases h.2 with h2 | ⟨g, c, cur, hv, hb, hg, r⟩
  · exact .inl h2
  · exact .inr ⟨g, c, cur, hv, hb, hc.block g _ hg (.inr (hm _ _)), r⟩
end Go.Proofs.YtgigdhfdpabmoaaDoor
