/- The document's memory: Pin, Unpin, Ages. -/
import Derived.Test.YtgigdhfdpabmoaaDoorRefD
import Derived.StillTailTactics
import Derived.RegionTactic
import Derived.BigRegion
namespace Go.Proofs.YtgigdhfdpabmoaaDoor
open Go.RowKit Go.Sort
attribute [local go_sem high] id_eqI

theorem own_set {w : World} {base g n cap z : Nat} {e : TypeId} {xs : List Value} (h : w.ownsRow base e z (.slice (some ⟨g, 0, none⟩) n cap) n xs) (j : Nat) (u : Value) :
    (w.setCell ⟨g, j, none⟩ u).ownsRow base e z (.slice (some ⟨g, 0, none⟩) n cap) n (xs.set j u) := by
  refine ⟨by rw [List.length_set]; exact h.1, ?_⟩
  rcases h.2 with ⟨hv, _⟩ | ⟨g', c, cur, hv, hb, hgg, hnc, hcm, hcs, ht⟩
  · cases hv
  · injection hv with h1 _ h2
    injection h1 with h1
    injection h1 with h1
    subst h1
    refine .inr ⟨g, c, cur.setIfInBounds j u, by rw [h2], hb, ?_, hnc, hcm, by simpa using hcs, ?_⟩
    · have := Bk.set_ (w := w) (g := g) (t := e) (cs := cur) hgg j u
      exact this
    · rw [Array.toList_setIfInBounds, List.take_set, ht]
theorem rcs_set {l : List Rc} {i : Nat} {y : Rc} (hy : l[i]? = some y) (p : Nat) : (rcsC l).set (i * 5 + 4) (.int .i64 (p : Nat)) = rcsC (l.set i { y with pins := p }) := by
  induction l generalizing i with
  | nil => simp at hy
  | cons c l ih =>
    cases i with
    | zero =>
      simp only [List.getElem?_cons_zero, Option.some.injEq] at hy
      subst hy
      rfl
    | succ i =>
      simp only [List.getElem?_cons_succ] at hy
      have h1 := ih hy
      show (rcC c ++ rcsC l).set ((i + 1) * 5 + 4) _ = rcC c ++ rcsC (l.set i { y with pins := p })
      rw [List.set_append_right _ _ (by show 5 ≤ _; omega)]
      have h2 : (i + 1) * 5 + 4 - (rcC c).length = i * 5 + 4 := by show (i + 1) * 5 + 4 - 5 = _; omega
      rw [h2, h1]
theorem rc_at {w : World} {B g n cap : Nat} {l : List Rc} (h : w.ownsRow B 78 5 (.slice (some ⟨g, 0, none⟩) n cap) n (rcsC l)) {i : Nat} {y : Rc} (hy : l[i]? = some y) (hn : i < n) :
    w.cell? ⟨g, i * 5, none⟩ = some (.int .i64 y.id.b) ∧ w.cell? ⟨g, i * 5 + 1, none⟩ = some (.int .i64 y.id.s) ∧ w.cell? ⟨g, i * 5 + 2, none⟩ = some (.int .i64 y.id.p) ∧ w.cell? ⟨g, i * 5 + 3, none⟩ = some (.slice y.A y.rows.length y.cap) ∧ w.cell? ⟨g, i * 5 + 4, none⟩ = some (.int .i64 y.pins) := by
  have hat : ∀ j, j < 5 → (rcsC l)[i * 5 + j]? = (rcC y)[j]? := fun j hj => flat_at rcC 5 (fun _ => rfl) l i y hy j hj
  refine ⟨?_, ?_, ?_, ?_, ?_⟩
  · have := hat 0 (by omega); rw [h.cellAt (i * 5) (by omega)]; exact this
  · rw [h.cellAt (i * 5 + 1) (by omega), hat 1 (by omega)]; rfl
  · rw [h.cellAt (i * 5 + 2) (by omega), hat 2 (by omega)]; rfl
  · rw [h.cellAt (i * 5 + 3) (by omega), hat 3 (by omega)]; rfl
  · rw [h.cellAt (i * 5 + 4) (by omega), hat 4 (by omega)]; rfl
theorem RAt.setPins {B : Nat} {w : World} {rb g cap : Nat} {max : Int} {l : List Rc} {i : Nat} {y : Rc} (h : RAt B w rb (some ⟨g, 0, none⟩) cap max l) (hy : l[i]? = some y) (p : Nat) :
    RAt B (w.setCell ⟨g, i * 5 + 4, none⟩ (.int .i64 (p : Nat))) rb (some ⟨g, 0, none⟩) cap max (l.set i { y with pins := p }) := by
  have hne : rb ≠ g := by
    rintro rfl
    rcases h.own.2 with ⟨hv, _⟩ | ⟨g', c, cur, hv, hb, hgg, _⟩
    · cases hv
    · injection hv with h1
      injection h1 with h1
      injection h1 with h1
      subst h1
      have hb := h.blk
      unfold Bk at hb
      rw [hgg] at hb
      cases hb
  have hlen : (l.set i { y with pins := p }).length = l.length := List.length_set ..
  refine ⟨h.bm, ?_, ?_, fun c hc => ?_⟩
  · rw [hlen]; exact h.blk.far (p := ⟨g, i * 5 + 4, none⟩) hne _
  · have h1 := own_set h.own (i * 5 + 4) (.int .i64 (p : Nat))
    rw [rcs_set hy p] at h1
    rw [hlen]
    exact h1
  · have hgB : B ≤ g := by
      rcases h.own.2 with ⟨hv, _⟩ | ⟨g', c, cur, hv, hb, _⟩
      · cases hv
      · injection hv with h1
        injection h1 with h1
        injection h1 with h1
        subst h1
        exact hb
    have hfar : ∀ c' f, w.heap[(⟨g, i * 5 + 4, none⟩ : Addr).block]? ≠ some (.cells c' 58 f) := by
      intro c' f he
      rcases h.own.2 with ⟨hv, _⟩ | ⟨g', c, cur, hv, hb, hgg, _⟩
      · cases hv
      · injection hv with h1
        injection h1 with h1
        injection h1 with h1
        subst h1
        simp only at he
        rw [hgg] at he
        cases he
    have hrow : ∀ c, c ∈ l → Rd (w.setCell ⟨g, i * 5 + 4, none⟩ (.int .i64 (p : Nat))) B 58 2 c.A c.rows.length (rwsC c.rows) := fun c hc => (h.rows c hc).far (p := ⟨g, i * 5 + 4, none⟩) hgB hfar _
    rcases List.mem_or_eq_of_mem_set hc with hc | rfl
    · exact hrow c hc
    · exact hrow y (List.mem_of_getElem? hy)

/-! ### append of a slice that reads as a list, nil or not -/
theorem run_append_of_nil {P : Program} (w : World) (base : Nat) (t ty e : TypeId) (i : TypeInfo) (size : Nat) (ht : P.underlying t = some (.slice e)) (hi : P.info? e = some i)
    (v : Value) (n : Nat) (xs : List Value) (hown : w.ownsRow base e size v n xs) (c : Nat) : (Builtin.append_ #[t, t] ty #[v, .slice none 0 c]).run P w = .ok v w := by
  rcases hown.2 with ⟨rfl, rfl⟩ | ⟨g, cap, cur, rfl, _, _, hnc, _⟩
  · simp [Builtin.append_, run_underlying ht, sizeOf, typeInfo, hi, Builtin.lenOf, Builtin.firstCells]
  · simp [Builtin.append_, run_underlying ht, sizeOf, typeInfo, hi, Builtin.lenOf, Builtin.firstCells, hnc, storeCells]
section
variable {α : Type} {enc : α → List Value} {te e : TypeId} {z bytes : Nat} {zero : Value}
theorem wp_appR (C : AppC enc te e z bytes zero) {o : Oper} {a : Act} {K : Act → World → Prop} {Q : Exit → Act → World → Prop} (W : World) (s x : Operand)
    (ho : o.op = .call { callee := .builtin .append, args := #[s, x], argTypes := #[te, te] }) (base : Nat) (v : Value) (l : List α) (hs : a.eval s = v)
    (hown : W.ownsRow base e z v l.length (l.flatMap enc)) (y : List α) (B : Nat) (A0 : Option Addr) (m c : Nat) (hx : a.eval x = .slice A0 m c) (hm : m = y.length) (hr : Rd W B e z A0 m (y.flatMap enc))
    (hlen : l.length + y.length ≤ 1073741824) (hbase : base ≤ W.heap.size)
    (h : ∀ A c w', w'.ownsRow base e z (.slice A (l ++ y).length c) (l ++ y).length ((l ++ y).flatMap enc) → W.grownBy w' v.ownBlock → (l ++ y).length ≤ c → K (a.put o.dst (.slice A (l ++ y).length c)) w') :
    o.wp Tryd.prog a W K Q := by
  cases A0 with
  | some ad =>
    refine wp_appN C W s x ho base v l hs hown y ad m c hx hm (fun j u hu => ?_) hlen hbase h
    rcases Nat.eq_zero_or_pos m with h0 | h0
    · have hy : y = [] := List.eq_nil_of_length_eq_zero (by omega)
      subst hy
      simp at hu
    · obtain ⟨ad', he, hc⟩ := hr.cell h0
      injection he with he
      subst he
      exact hc j u hu
  | none =>
    obtain ⟨i0, hi0, hz0, hz1, hz2⟩ := info_parts C.info
    have h0 : m = 0 := by
      rcases Nat.eq_zero_or_pos m with h0 | h0
      · exact h0
      · obtain ⟨ad, he, _⟩ := hr.2 h0
        cases he
    subst h0
    have hy : y = [] := List.eq_nil_of_length_eq_zero hm.symm
    subst hy
    have hrun := run_append_of_nil (P := Tryd.prog) W base te o.type e i0 z C.te hi0 v _ _ hown c
    unfold Oper.wp execOp
    simp only [ho, resolve, invoke, builtin, Sem.run_bind, Sem.run_pure, Result.andThen_ok, List.map_toArray, List.map_cons, List.map_nil, hs, hx, hrun]
    obtain ⟨A', c', rfl, hc'⟩ := own_shape hown
    have hh : K (a.put o.dst (.slice A' l.length c')) W := by simpa using h A' c' W (by simpa using hown) (World.grownBy.refl W _) (by simpa using hc')
    exact hh
theorem wpList_appR (C : AppC enc te e z bytes zero) {ops : Array Oper} {rest : List Oper} {o : Oper} {a : Act} {Q : Exit → Act → World → Prop} (W : World) (hgd : o.guard = none) (s x : Operand)
    (ho : o.op = .call { callee := .builtin .append, args := #[s, x], argTypes := #[te, te] }) (base : Nat) (v : Value) (l : List α) (hs : a.eval s = v)
    (hown : W.ownsRow base e z v l.length (l.flatMap enc)) (y : List α) (B : Nat) (A0 : Option Addr) (m c : Nat) (hx : a.eval x = .slice A0 m c) (hm : m = y.length) (hr : Rd W B e z A0 m (y.flatMap enc))
    (hlen : l.length + y.length ≤ 1073741824) (hbase : base ≤ W.heap.size)
    (h : ∀ A c w', w'.ownsRow base e z (.slice A (l ++ y).length c) (l ++ y).length ((l ++ y).flatMap enc) → W.grownBy w' v.ownBlock → (l ++ y).length ≤ c → wpList Tryd.prog ops Q rest (a.put o.dst (.slice A (l ++ y).length c)) w') :
    wpList Tryd.prog ops Q (o :: rest) a W :=
  wpList_plain hgd fun _ hK => wp_appR C W s x ho base v l hs hown y B A0 m c hx hm hr hlen hbase fun A c w' h1 h2 h3 => hK _ _ (h A c w' h1 h2 h3)
theorem step_appR (C : AppC enc te e z bytes zero) {ops : Array Oper} {o : Oper} {a : Act} {K : Act → World → Prop} {Q : Exit → Act → World → Prop} {E : Prop} (W : World) (hgd : o.guard = none) (s x : Operand)
    (ho : o.op = .call { callee := .builtin .append, args := #[s, x], argTypes := #[te, te] }) (base : Nat) (v : Value) (l : List α) (hs : a.eval s = v)
    (hown : W.ownsRow base e z v l.length (l.flatMap enc)) (y : List α) (B : Nat) (A0 : Option Addr) (m c : Nat) (hx : a.eval x = .slice A0 m c) (hm : m = y.length) (hr : Rd W B e z A0 m (y.flatMap enc))
    (hlen : l.length + y.length ≤ 1073741824) (hbase : base ≤ W.heap.size)
    (h : ∀ A c w', w'.ownsRow base e z (.slice A (l ++ y).length c) (l ++ y).length ((l ++ y).flatMap enc) → W.grownBy w' v.ownBlock → (l ++ y).length ≤ c → K (a.put o.dst (.slice A (l ++ y).length c)) w') :
    if Region.wanted o (yielded ops a.tmps) = true then Oper.wp Tryd.prog o a W K Q else E := by
  rw [if_pos (by simp [Region.wanted, hgd])]
  exact wp_appR C W s x ho base v l hs hown y B A0 m c hx hm hr hlen hbase h
end

theorem adr_eq {g i j : Nat} {ad : Addr} (h : ad = ⟨g, 0, none⟩) : (⟨(ad.add (i * 5)).block, (ad.add (i * 5)).off + j, none⟩ : Addr) = ⟨g, i * 5 + j, none⟩ := by
  subst h
  unfold Addr.add
  by_cases h0 : i * 5 = 0
  · rw [if_pos h0, h0]
  · rw [if_neg h0]; simp
theorem muS_R (o : Obj) (h : muR o = false) : muS o = false := by
  cases o <;> simp_all [muR, muS]
theorem RAt.gOf {B : Nat} {w : World} {rb cap : Nat} {ad : Addr} {max : Int} {l : List Rc} (h : RAt B w rb (some ad) cap max l) (hn : 0 < l.length) : ∃ g, ad = ⟨g, 0, none⟩ ∧ B ≤ g ∧ l.length ≤ cap ∧ ∃ cs, Bk w g 78 cs := by
  rcases h.own.2 with ⟨_, h0⟩ | ⟨g, c, cur, hv, hb, hg, hnc, _⟩
  · omega
  · injection hv with h1 _ h2
    injection h1 with h1
    exact ⟨g, h1, hb, by omega, cur, hg⟩

set_option maxHeartbeats 1000000 in
theorem rpin_miss (B : Nat) (w : World) (rb : Nat) (A : Option Addr) (cap : Nat) (max : Int) (l : List Rc) (x : Id3) (h : RAt B w rb A cap max l) (hl : l.length ≤ 1000000) (hx : rix l x = -1) :
    Calls Tryd.prog 26 #[.pointer (some ⟨rb, 0, none⟩), idV x] w (BoolPost w false) := by
  have hat := at_c B (w.alloc (.cells #[.int .i64 x.b, .int .i64 x.s, .int .i64 x.p] 24)) rb A cap max l x (h.alloc _) hl
  rw [hx] at hat
  have HA := Lib.hid hat
  clear hat hx h
  go_enter Tryd.func26, Tryd.ntmps26
  go_wp2_with (first | (go_at_call 45; refine HA.out.mono ?_; rintro e w1 ⟨rfl, hb1⟩))
  go_ret
  exact ⟨rfl, ext_trans (ext_alloc (Below.refl _ _) _) hb1⟩

set_option maxHeartbeats 2000000 in
theorem rpin_hit (B : Nat) (w : World) (rb : Nat) (A : Option Addr) (cap : Nat) (max : Int) (l : List Rc) (x : Id3) (i : Nat) (y : Rc) (h : RAt B w rb A cap max l) (hl : l.length ≤ 1000000) (hx : rix l x = (i : Nat)) (hy : l[i]? = some y) (hyp : y.pins ≤ 1000000) :
    Calls Tryd.prog 26 #[.pointer (some ⟨rb, 0, none⟩), idV x] w (RPost muR B w rb max (cut l i ++ [{ y with pins := y.pins + 1 }]) (.bool true)) := by
  have hi : i < l.length := (List.getElem?_eq_some_iff.1 hy).1
  have hcl : (cut l i).length + 1 = l.length := by simp [cut]; omega
  have hlast : (cut l i ++ [y])[(cut l i).length]? = some y := by simp
  have hat := at_c B (w.alloc (.cells #[.int .i64 x.b, .int .i64 x.s, .int .i64 x.p] 24)) rb A cap max l x (h.alloc _) hl
  rw [hx] at hat
  have HA := Lib.hid hat
  have HR := Lib.hid h
  have HY := Lib.hid hy
  have hi0 : ¬ ((i : Nat) : Int) < 0 := by omega
  have hlen : (cut l i ++ [y]).length = l.length := by rw [List.length_append, List.length_singleton]; exact hcl
  have HLEN := Lib.hid hlen
  have HLAST := Lib.hid hlast
  generalize hN : (cut l i).length = N at hcl hlast
  have hW : IntKind.i64.wrap ((l.length : Int) - 1) = (N : Nat) := by rw [show (l.length : Int) - 1 = (N : Nat) by omega]; exact IntWalk.i64_in _ (by omega)
  have hW2 : IntKind.i64.wrap ((y.pins : Int) + 1) = (y.pins : Int) + 1 := IntWalk.i64_in _ (by omega)
  have hNl : N < l.length := by omega
  have HN := Lib.hid hN
  have HCL := Lib.hid hcl
  clear hat hx h hy hlast hlen hN hcl
  go_enter Tryd.func26, Tryd.ntmps26
  go_upto_region 5 with (first
    | (go_at_call 45; refine HA.out.mono ?_; rintro e w1 ⟨rfl, hb1⟩; have HB1 := Lib.hid hb1; clear hb1)
    | (go_at_call 46; refine (ruse_c B _ rb A cap max l i y ((HR.out.alloc _).ext HB1.out) hl HY.out).mono ?_; rintro e w2 ⟨rfl, ⟨A2, c2, hR2, _⟩, hC2⟩; have HR2 := Lib.hid hR2; have HC2 := Lib.hid hC2; have r2 := hR2.c1; rw [HLEN.out] at r2; clear hR2 hC2))
  obtain ⟨ad, rfl, d0, d1, d2, d3, d4⟩ := (Rd.of_own (B := B) HR2.out.own).rcs (by have h := HLAST.out; rw [HN.out] at h; exact h) (by rw [HLEN.out]; exact hNl)
  obtain ⟨g, hg, hgB, _, cs, hgk⟩ := HR2.out.gOf (by rw [HLEN.out]; omega)
  have HG := Lib.hid hg
  have f4 : w2.frozen? ⟨(ad.add (N * 5)).block, (ad.add (N * 5)).off + 4, none⟩ = false := by rw [adr_eq hg]; exact hgk.frozen _
  have hne : (ad.add (N * 5)).block ≠ rb := by
    rw [block_of_add, hg]
    exact hgk.ne_ HR2.out.blk (by decide)
  have HGK := Lib.hid hgk
  clear hg hgk
  go_region
  all_goals
    go_wp2
    go_ret
    have hR := HR2.out
    rw [HG.out] at hR
    have hS := hR.setPins HLAST.out (y.pins + 1)
    have hset : (cut l i ++ [y]).set (cut l i).length { y with pins := y.pins + 1 } = cut l i ++ [{ y with pins := y.pins + 1 }] := by
      rw [List.set_append_right _ _ (Nat.le_refl _), Nat.sub_self]; rfl
    rw [hset, HN.out] at hS
    rw [adr_eq HG.out]
    refine ⟨rfl, ⟨_, c2, hS.drewN 1⟩, Chg.drew (Chg.set_ (p := ⟨g, N * 5 + 4, none⟩) (((Chg.of_below (ext_trans (ext_alloc (Below.refl _ _) _) HB1.out)).trans HC2.out).weak muS_R (Nat.le_refl _)) HGK.out rfl hgB _)⟩

set_option maxHeartbeats 1000000 in
theorem runpin_miss (B : Nat) (w : World) (rb : Nat) (A : Option Addr) (cap : Nat) (max : Int) (l : List Rc) (x : Id3) (h : RAt B w rb A cap max l) (hl : l.length ≤ 1000000) (hx : rix l x = -1) :
    Calls Tryd.prog 28 #[.pointer (some ⟨rb, 0, none⟩), idV x] w (BoolPost w false) := by
  have hat := at_c B (w.alloc (.cells #[.int .i64 x.b, .int .i64 x.s, .int .i64 x.p] 24)) rb A cap max l x (h.alloc _) hl
  rw [hx] at hat
  have HA := Lib.hid hat
  clear hat hx h
  go_enter Tryd.func28, Tryd.ntmps28
  go_wp2_with (first | (go_at_call 45; refine HA.out.mono ?_; rintro e w1 ⟨rfl, hb1⟩))
  go_ret
  exact ⟨rfl, ext_trans (ext_alloc (Below.refl _ _) _) hb1⟩
set_option maxHeartbeats 1000000 in
theorem runpin_none (B : Nat) (w : World) (rb : Nat) (A : Option Addr) (cap : Nat) (max : Int) (l : List Rc) (x : Id3) (i : Nat) (y : Rc) (h : RAt B w rb A cap max l) (hl : l.length ≤ 1000000) (hx : rix l x = (i : Nat)) (hy : l[i]? = some y) (hyp : y.pins = 0) :
    Calls Tryd.prog 28 #[.pointer (some ⟨rb, 0, none⟩), idV x] w (BoolPost w false) := by
  have hi : i < l.length := (List.getElem?_eq_some_iff.1 hy).1
  have hat := at_c B (w.alloc (.cells #[.int .i64 x.b, .int .i64 x.s, .int .i64 x.p] 24)) rb A cap max l x (h.alloc _) hl
  rw [hx] at hat
  have HA := Lib.hid hat
  have HR := Lib.hid h
  have HY := Lib.hid hy
  have hi0 : ¬ ((i : Nat) : Int) < 0 := by omega
  have hz : ((y.pins : Int) == 0) = true := by simp [hyp]
  clear hat hx h hy hyp
  go_enter Tryd.func28, Tryd.ntmps28
  go_wp2_with (first | (go_at_call 45; refine HA.out.mono ?_; rintro e w1 ⟨rfl, hb1⟩; have HB1 := Lib.hid hb1; clear hb1; have HR1 := Lib.hid ((HR.out.alloc _).ext HB1.out); have r1 := HR1.out.c1; obtain ⟨ad, rfl, d0, d1, d2, d3, d4⟩ := (Rd.of_own (B := B) HR1.out.own).rcs HY.out hi))
  go_ret
  exact ⟨rfl, ext_trans (ext_alloc (Below.refl _ _) _) HB1.out⟩
set_option maxHeartbeats 1000000 in
theorem runpin_hit (B : Nat) (w : World) (rb : Nat) (A : Option Addr) (cap : Nat) (max : Int) (l : List Rc) (x : Id3) (i : Nat) (y : Rc) (h : RAt B w rb A cap max l) (hl : l.length ≤ 1000000) (hx : rix l x = (i : Nat)) (hy : l[i]? = some y) (hyp : 0 < y.pins) (hy1 : y.pins ≤ 1000000) :
    Calls Tryd.prog 28 #[.pointer (some ⟨rb, 0, none⟩), idV x] w (RPost muR B w rb max (l.set i { y with pins := y.pins - 1 }) (.bool true)) := by
  have hi : i < l.length := (List.getElem?_eq_some_iff.1 hy).1
  have hat := at_c B (w.alloc (.cells #[.int .i64 x.b, .int .i64 x.s, .int .i64 x.p] 24)) rb A cap max l x (h.alloc _) hl
  rw [hx] at hat
  have HA := Lib.hid hat
  have HR := Lib.hid h
  have HY := Lib.hid hy
  have hi0 : ¬ ((i : Nat) : Int) < 0 := by omega
  have hz : ((y.pins : Int) == 0) = false := by simp; omega
  clear hat hx h hy
  go_enter Tryd.func28, Tryd.ntmps28
  go_wp2_with (first | (go_at_call 45; refine HA.out.mono ?_; rintro e w1 ⟨rfl, hb1⟩; have HB1 := Lib.hid hb1; clear hb1; have HR1 := Lib.hid ((HR.out.alloc _).ext HB1.out); have r1 := HR1.out.c1; obtain ⟨ad, rfl, d0, d1, d2, d3, d4⟩ := (Rd.of_own (B := B) HR1.out.own).rcs HY.out hi; obtain ⟨g, hg, hgB, _, cs, hgk⟩ := HR1.out.gOf (by omega); have HG := Lib.hid hg; have f4 : w1.frozen? ⟨(ad.add (i * 5)).block, (ad.add (i * 5)).off + 4, none⟩ = false := (by rw [adr_eq hg]; exact hgk.frozen _); have HGK := Lib.hid hgk; clear hg hgk))
  go_ret
  have hR := HR1.out
  rw [HG.out] at hR
  have hS := hR.setPins HY.out (y.pins - 1)
  rw [adr_eq HG.out]
  have hc : (y.pins : Int) - 1 = ((y.pins - 1 : Nat) : Int) := by omega
  rw [hc]
  exact ⟨rfl, ⟨_, cap, hS⟩, Chg.set_ (p := ⟨g, i * 5 + 4, none⟩) (Chg.of_below (ext_trans (ext_alloc (Below.refl _ _) _) HB1.out)) HGK.out rfl hgB _⟩

/-! ### Ages -/
theorem id_app : AppC idC 37 24 3 24 (.agg #[.int .i64 0, .int .i64 0, .int .i64 0]) :=
  ⟨Tryd.underlying37, by kernel_rfl, rfl, by decide, fun _ => rfl, fun x u hu => by simp only [idC, List.mem_cons, List.not_mem_nil, or_false] at hu; rcases hu with rfl | rfl | rfl <;> rfl, by decide⟩
theorem row_app : AppC rwC 25 58 2 16 (.agg #[.int .i64 0, .int .i64 0]) :=
  ⟨Tryd.underlying25, by kernel_rfl, rfl, by decide, fun _ => rfl, fun x u hu => by simp only [rwC, List.mem_cons, List.not_mem_nil, or_false] at hu; rcases hu with rfl | rfl <;> rfl, by decide⟩
def IdsPost (w : World) (l : List Id3) (e : Ending) (w' : World) : Prop :=
  ∃ A c, e = .returned (.slice A l.length c) ∧ w'.ownsRow w.heap.size 24 3 (.slice A l.length c) l.length (idsC l) ∧ Below w.heap.size w w'
set_option maxHeartbeats 1000000 in
theorem rages_c (B : Nat) (w : World) (rb : Nat) (A : Option Addr) (cap : Nat) (max : Int) (l : List Rc) (h : RAt B w rb A cap max l) (hl : l.length ≤ 1000000) :
    Calls Tryd.prog 35 #[.pointer (some ⟨rb, 0, none⟩)] w (IdsPost w (l.map (·.id))) := by
  have hlt := h.blk.lt
  have HR := Lib.hid h
  have hc1 := h.c1
  clear h
  go_enter Tryd.func35, Tryd.ntmps35
  go_wp2
  go_loopg [3, 4] l.length (fun k v3 v4 wr => ∃ j xs, j + k = l.length ∧ v4 = .int .i64 (j : Nat) ∧ Hid (xs = (l.take j).map (·.id)) ∧ wr.ownsRow w.heap.size 24 3 v3 (List.length xs) (idsC xs) ∧ Below w.heap.size w wr)
  case atStart => exact ⟨0, [], by simp, rfl, rfl, World.ownsRow_nil _ _ _ _, Below.refl _ _⟩
  case round =>
    obtain ⟨j, xs, hk, rfl, hxs, hown, hb⟩ := hrel
    have HRw := Lib.hid (HR.out.ext hb)
    have r1 := HRw.out.c1
    have HB := Lib.hid hb
    have HO := Lib.hid hown
    have hxl : xs.length ≤ 1000000 := by rw [hxs.out, List.length_map, List.length_take]; omega
    have hbs := hb.size
    clear hb hown hc1
    by_cases hj : j < l.length
    · have hz : l[j]? = some (l[j]) := List.getElem?_eq_getElem hj
      generalize l[j] = z at hz
      obtain ⟨ad, rfl, d0, d1, d2, d3, d4⟩ := (Rd.of_own (B := B) HRw.out.own).rcs hz hj
      have HZ := Lib.hid hz
      clear hz
      go_wp2_with (first
        | (at_builtin; refine wpList_appE id_app _ rfl (.tmp 14) (.tmp 24) rfl w.heap.size _ xs rfl (HO.out.alloc _) z.id _ rfl (Bk.new _ _ _) (by omega) (by simp only [World.size_alloc]; omega) ?_; intro A2 c2 w2 hown2 hg2 hc2; have HO2 := Lib.hid hown2; have HB2 := Lib.hid (below_grownOwn (ext_alloc HB.out (.cells (idC z.id).toArray 24)) (HO.out.alloc (.cells (idC z.id).toArray 24)) (Nat.le_refl _) hg2); clear hown2 hg2))
      go_roundg (gk - 1)
      case measure => omega
      case rel => exact ⟨j + 1, xs ++ [z.id], by omega, by go_num, Lib.hid (by rw [hxs.out, take_succ_of HZ.out, List.map_append]; rfl), by have h := HO2.out; simp only [List.length_append, List.length_cons, List.length_nil, Nat.zero_add] at h ⊢; exact h, HB2.out⟩
    · have hjl : j = l.length := by omega
      subst hjl
      go_wp2
      go_ret
      have hx := hxs.out
      rw [List.take_length] at hx
      subst hx
      obtain ⟨A2, c2, rfl, _⟩ := own_shape HO.out
      exact ⟨A2, c2, rfl, HO.out, HB.out⟩
end Go.Proofs.YtgigdhfdpabmoaaDoor
