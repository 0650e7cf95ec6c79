/- The document's memory: take, use. -/
import Derived.Test.YtgigdhfdpabmoaaDoorRefA
namespace Go.Proofs.YtgigdhfdpabmoaaDoor
open Go.RowKit Go.Sort
attribute [local go_sem high] id_eqI

/-- Of what was there, the memory's own struct alone may change. -/
def muS : Obj → Bool
  | .cells _ e _ => e == 55
  | _ => false
def RPost (mu : Obj → Bool) (B : Nat) (w : World) (rb : Nat) (max : Int) (l : List Rc) (v : Value) (e : Ending) (w' : World) : Prop :=
  e = .returned v ∧ (∃ A cap, RAt B w' rb A cap max l) ∧ Chg mu B w w'
/-- The same, with cells in a block that was not there. -/
def RNew (mu : Obj → Bool) (B : Nat) (w : World) (rb : Nat) (max : Int) (l : List Rc) (v : Value) (e : Ending) (w' : World) : Prop :=
  e = .returned v ∧ (∃ A cap, RAt B w' rb A cap max l ∧ w'.ownsRow w.heap.size 78 5 (.slice A l.length cap) l.length (rcsC l)) ∧ Chg mu B w w'
def cut (l : List Rc) (i : Nat) : List Rc := l.take i ++ l.drop (i + 1)
theorem rcs_drop {w : World} {B g n cap : Nat} {l : List Rc} (h : w.ownsRow B 78 5 (.slice (some ⟨g, 0, none⟩) n cap) n (rcsC l)) (k : Nat) :
    ∀ j u, ((l.drop k).flatMap rcC)[j]? = some u → w.cell? ((⟨g, 0, none⟩ : Addr).add (k * 5 + j)) = some u := by
  intro j u hu
  have hc := h.cells (g := g) rfl (k * 5 + j) u
  apply hc
  have h1 : rcsC l = rcsC (l.take k) ++ (l.drop k).flatMap rcC := by
    unfold rcsC
    rw [← List.flatMap_append, List.take_append_drop]
  rcases Nat.lt_or_ge k l.length with hk | hk
  · have h2 : (rcsC (l.take k)).length = k * 5 := by
      have := flat_len rc_app (l.take k)
      unfold rcsC
      rw [this, List.length_take, Nat.min_eq_left (by omega)]
    rw [h1, List.getElem?_append_right (by omega), h2, Nat.add_sub_cancel_left]
    exact hu
  · rw [List.drop_eq_nil_of_le hk] at hu
    simp at hu
theorem rcs_take {w : World} {B g n cap : Nat} {l : List Rc} (h : w.ownsRow B 78 5 (.slice (some ⟨g, 0, none⟩) n cap) n (rcsC l)) (k : Nat) :
    ∀ j u, ((l.take k).flatMap rcC)[j]? = some u → w.cell? ((⟨g, 0, none⟩ : Addr).add j) = some u := by
  intro j u hu
  apply h.cells (g := g) rfl j u
  have h1 : rcsC l = (l.take k).flatMap rcC ++ rcsC (l.drop k) := by
    unfold rcsC
    rw [← List.flatMap_append, List.take_append_drop]
  rw [h1]
  have := (List.getElem?_eq_some_iff.1 hu).1
  rw [List.getElem?_append_left this]
  exact hu
theorem own_some {w : World} {base n cap z : Nat} {e : TypeId} {A : Option Addr} {xs : List Value} (h : w.ownsRow base e z (.slice A n cap) n xs) (hn : 0 < n) : ∃ g, A = some ⟨g, 0, none⟩ ∧ base ≤ g ∧ n ≤ cap := by
  rcases h.2 with ⟨_, h0⟩ | ⟨g, c, cur, hv, hb, _, hc, _⟩
  · omega
  · injection hv with h1 _ h2
    exact ⟨g, h1, hb, by omega⟩

theorem chg_new {mu : Obj → Bool} {B : Nat} {a w w' : World} {row : Option Nat} (h : Chg mu B a w) (hg : w.grownBy w' row) (hr : ∀ k, row = some k → a.heap.size ≤ k) : Chg mu B a w' :=
  ⟨hg.os.trans h.os, hg.tape.trans h.tape, hg.output.trans h.output, Nat.le_trans h.size hg.size, fun k o hk hc => by
    have h1 := h.block k o hk hc
    refine (hg.block k (lt_of_some h1) (fun he => ?_)).trans h1
    have h2 := hr k he.symm
    have h3 := lt_of_some hk
    omega⟩
theorem own_far {w : World} {base n z rb : Nat} {e t : TypeId} {v : Value} {xs : List Value} {cs : Array Value} (hb : Bk w rb t cs) (h : w.ownsRow base e z v n xs) (hne : e ≠ t) (o : Nat) (u : Value) : (w.setCell ⟨rb, o, none⟩ u).ownsRow base e z v n xs := by
  refine ⟨h.1, ?_⟩
  rcases h.2 with h2 | ⟨g', c, cur, hv, hbb, hgg, r⟩
  · exact .inl h2
  · refine .inr ⟨g', c, cur, hv, hbb, ?_, r⟩
    rw [Below.heap_setCell _ _ _ _ (fun he => ?_)]
    · exact hgg
    · unfold Bk at hb
      simp only at he
      rw [← he, hgg] at hb
      cases hb
      exact hne rfl
set_option maxHeartbeats 2000000 in
theorem take_c (B : Nat) (w : World) (rb : Nat) (A : Option Addr) (cap : Nat) (max : Int) (l : List Rc) (i : Nat) (h : RAt B w rb A cap max l) (hl : l.length ≤ 1000000) (hi : i < l.length) :
    Calls Tryd.prog 47 #[.pointer (some ⟨rb, 0, none⟩), .int .i64 i] w (RNew muS B w rb max (cut l i) (.tuple #[])) := by
  have c1 := h.c1
  have hlt := h.blk.lt
  have hbm := h.bm
  obtain ⟨g, rfl, hg, hnc⟩ := own_some h.own (by omega)
  have HR := Lib.hid h
  clear h
  have hic : ((i : Nat) : Int) ≤ (cap : Nat) := by omega
  have hi0 : (0 : Int) ≤ ((i : Nat) : Int) := by omega
  have hmin : min i l.length = i := by omega
  have hW : wrap64 ((i : Int) + 1) = (i : Int) + 1 := IntWalk.wrap64_in _ (by omega)
  have hb1 : (0 : Int) ≤ (i : Int) + 1 := by omega
  have hb2 : (i : Int) + 1 ≤ (l.length : Nat) := by omega
  have hxs : ∀ (c : Prop) [Decidable c] (a b : Addr) (m k : Nat), Value.slice (if c then some a else some b) m k = Value.slice (some (if c then a else b)) m k := fun c _ a b m k => by split <;> rfl
  have hnews : ∀ {w1 : World}, w1.ownsRow B 78 5 (.slice (some ⟨g, 0, none⟩) l.length cap) l.length (rcsC l) → ∀ j u, ((l.drop (i + 1)).flatMap rcC)[j]? = some u → w1.cell? ((if cap = i + 1 then (⟨g, 0, none⟩ : Addr) else ⟨g, (i + 1) * 5, none⟩).add j) = some u := by
    intro w1 ho j u hu
    by_cases hc : cap = i + 1
    · rw [List.drop_eq_nil_of_le (by omega)] at hu
      simp at hu
    · rw [if_neg hc]
      have h1 := rcs_drop ho (i + 1) j u hu
      have h2 : (⟨g, (i + 1) * 5, none⟩ : Addr).add j = (⟨g, 0, none⟩ : Addr).add ((i + 1) * 5 + j) := by
        rw [← add_of_add]
        congr 1
        unfold Addr.add
        rw [if_neg (by omega)]
        simp
      rw [h2]
      exact h1
  have HXS := Lib.hid hnc
  go_enter Tryd.func47, Tryd.ntmps47
  go_wp2_with (first
    | (at_builtin; refine wpList_appN rc_app _ rfl (.tmp 5) (.tmp 11) rfl w.heap.size _ [] rfl (World.ownsRow_nil _ _ _ _) (l.take i) ⟨g, 0, none⟩ i cap rfl (by rw [List.length_take]; omega) (rcs_take HR.out.own i) (by simp; omega) (Nat.le_refl _) ?_; intro A1 n1 w1 hown1 hg1 hc1; have HB1 := Lib.hid (show Below w.heap.size w w1 from (Below.refl _ _).grown hg1 (Nat.le_refl _) (fun k hk => by cases hk)); have HR1 := Lib.hid (HR.out.ext HB1.out); have c2 := HR1.out.c1; have f1 := HR1.out.blk.frozen 1; have HO1 := Lib.hid hown1; clear hown1 hg1)
    | (at_builtin; refine wpList_appN rc_app _ rfl (.tmp 14) (.tmp 21) rfl w.heap.size _ (l.take i) rfl (by have h := HO1.out; simp only [List.nil_append, List.length_take, hmin] at h ⊢; exact h) (l.drop (i + 1)) (if cap = i + 1 then ⟨g, 0, none⟩ else ⟨g, (i + 1) * 5, none⟩) (l.length - (i + 1)) (cap - (i + 1)) rfl (by rw [List.length_drop]) (hnews HR1.out.own) (by rw [List.length_take, List.length_drop]; omega) HB1.out.size ?_; intro A2 n2 w2 hown2 hg2 hc2
       have hown1' : w1.ownsRow w.heap.size 78 5 (.slice A1 i n1) (l.take i).length (rcsC (l.take i)) := (by have h := HO1.out; simp only [List.nil_append, List.length_take, hmin] at h ⊢; exact h)
       have HKB := Lib.hid (keepBut_own (B := B) hown1' (by omega) hg2)
       have HB2 := Lib.hid (below_grownOwn HB1.out hown1' (Nat.le_refl _) hg2)
       have HO2 := Lib.hid hown2
       have HR2b := Lib.hid (HKB.out.bk HR1.out.blk (by decide))
       have e1 : w2.frozen? ⟨rb, 1, none⟩ = false := HR2b.out.frozen 1
       have e2 : w2.cell? ⟨rb, 1, none⟩ = some (.slice (some ⟨g, 0, none⟩) l.length cap) := (by rw [HR2b.out.cell]; rfl)
       clear hown2 hg2 hown1'))
  all_goals
    go_end0
    have hcl : i + (l.length - (i + 1)) = (cut l i).length := by simp [cut]; omega
    have hO3 : w2.ownsRow w.heap.size 78 5 (.slice A2 (cut l i).length n2) (cut l i).length (rcsC (cut l i)) := HO2.out
    rw [hcl]
    have hn2 := hc2
    refine ⟨rfl, ⟨A2, n2, ⟨hbm, HR2b.out.set_ 1 _, own_far HR2b.out (own_mono hO3 (by omega)) (by decide) _ _, fun c hc => ?_⟩, own_far HR2b.out hO3 (by decide) _ _⟩, (Chg.of_below HB2.out).set_ (p := ⟨rb, 1, none⟩) HR2b.out rfl hbm _⟩
    have hcm : c ∈ l := by
      rcases List.mem_append.1 hc with h | h
      · exact List.mem_of_mem_take h
      · exact List.mem_of_mem_drop h
    exact (HKB.out.rd (HR1.out.rows c hcm) (by decide)).farBk (p := ⟨rb, 1, none⟩) hbm HR2b.out (by decide) _

set_option maxHeartbeats 2000000 in
theorem ruse_c (B : Nat) (w : World) (rb : Nat) (A : Option Addr) (cap : Nat) (max : Int) (l : List Rc) (i : Nat) (y : Rc) (h : RAt B w rb A cap max l) (hl : l.length ≤ 1000000) (hy : l[i]? = some y) :
    Calls Tryd.prog 46 #[.pointer (some ⟨rb, 0, none⟩), .int .i64 i] w (RNew muS B w rb max (cut l i ++ [y]) (.tuple #[])) := by
  have hi : i < l.length := (List.getElem?_eq_some_iff.1 hy).1
  have c1 := h.c1
  have hlt := h.blk.lt
  have hbm := h.bm
  obtain ⟨ad, rfl, d0, d1, d2, d3, d4⟩ := (Rd.of_own (B := B) h.own).rcs hy hi
  have HR := Lib.hid h
  have HY := Lib.hid hy
  have hcl : (cut l i).length ≤ 1000000 := by have : (cut l i).length = l.length - 1 := by simp [cut]; omega
                                              omega
  clear h hy
  go_enter Tryd.func46, Tryd.ntmps46
  go_upto_region 2 with (first
    | (go_at_call 47; refine (take_c B _ rb (some ad) cap max l i (HR.out.alloc _) hl hi).mono ?_; rintro e w1 ⟨rfl, ⟨A1, cap1, hR1, hN1⟩, hC1⟩; have HN1 := Lib.hid (show w1.ownsRow (w.heap.size + 1) 78 5 (.slice A1 (cut l i).length cap1) (cut l i).length (rcsC (cut l i)) from (own_mono hN1 (by simp))); have HR1 := Lib.hid hR1; have HC1 := Lib.hid (((Chg.refl muS B w).alloc _).trans hC1); have HX1 := Lib.hid ((Bk.new w 78 #[.int .i64 y.id.b, .int .i64 y.id.s, .int .i64 y.id.p, .slice y.A y.rows.length y.cap, .int .i64 y.pins]).chg (mu := muS) (B := B) hC1 (.inr rfl)); have x1 := HX1.out.cell; have r1 := hR1.c1; have hs1 := hC1.size; have f1 := hR1.blk.frozen 1; clear hR1 hC1))
  have hs1' : w.heap.size + 1 ≤ w1.heap.size := by simpa using hs1
  have hrl : rb < w1.heap.size := HR1.out.blk.lt
  have hne1 : rb ≠ w.heap.size := by omega
  have hne2 : w.heap.size ≠ rb := by omega
  have HNd := Lib.hid (show World.ownsRow w1.drew (w.heap.size + 1) 78 5 (.slice A1 (cut l i).length cap1) (cut l i).length (rcsC (cut l i)) from HN1.out)
  have HXd := Lib.hid (show Bk w1.drew w.heap.size 78 #[.int .i64 y.id.b, .int .i64 y.id.s, .int .i64 y.id.p, .slice y.A y.rows.length y.cap, .int .i64 y.pins] from HX1.out)
  have HRd := Lib.hid (show RAt B w1.drew rb A1 cap1 max (cut l i) from HR1.out.drewN 1)
  refine wp_region_held_drew (S := (fun w' => w'.cell? ⟨w.heap.size, 0, none⟩ = some (.int .i64 y.id.b) ∧ w'.cell? ⟨w.heap.size, 1, none⟩ = some (.int .i64 y.id.s) ∧ w'.cell? ⟨w.heap.size, 2, none⟩ = some (.int .i64 y.id.p) ∧ w'.cell? ⟨w.heap.size, 3, none⟩ = some (.slice y.A y.rows.length y.cap) ∧ w'.cell? ⟨w.heap.size, 4, none⟩ = some (.int .i64 y.pins))) (by kernel_rfl) ?_ (fun hHeld => ?_)
  · (first | go_keep)
  refine wpAnyH_take (i := 0) (oi := { dst := some 15, op := Go.Op.move (Go.Operand.tmp 0), type := 52, pos := "ref.go:35", after := #[], guard := none }) (v := ?v0) rfl (by kernel_rfl) (by kernel_rfl) (by kernel_rfl) (fun _ _ _ h => h) (Or.inl ⟨by rfl, ?hy0⟩) (by assumption) ?rest0
  case hy0 => (intro w hSw; (try dsimp only at hSw); go_simp; try (with_reducible rfl))
  simp only [Act.put, List.setIfInBounds_toArray, List.set_cons_zero, List.set_cons_succ]
  refine wpAnyH_take (i := 1) (oi := { dst := some 16, op := Go.Op.move (Go.Operand.tmp 0), type := 52, pos := "ref.go:35", after := #[], guard := none }) (v := ?v1) rfl (by kernel_rfl) (by kernel_rfl) (by kernel_rfl) (fun _ _ _ h => h) (Or.inl ⟨by rfl, ?hy1⟩) (by assumption) ?rest1
  case hy1 => (intro w hSw; (try dsimp only at hSw); go_simp; try (with_reducible rfl))
  simp only [Act.put, List.setIfInBounds_toArray, List.set_cons_zero, List.set_cons_succ]
  refine wpAnyH_take (i := 2) (oi := { dst := some 17, op := Go.Op.nilCheck (Go.Operand.tmp 16), type := 0, pos := "ref.go:35", after := #[{ on := 1, ground := Go.Ground.data }], guard := none }) (v := ?v2) rfl (by kernel_rfl) (by kernel_rfl) (by kernel_rfl) (fun _ _ _ h => h) (Or.inl ⟨by rfl, ?hy2⟩) (by assumption) ?rest2
  case hy2 => (intro w hSw; (try dsimp only at hSw); go_simp; try (with_reducible rfl))
  simp only [Act.put, List.setIfInBounds_toArray, List.set_cons_zero, List.set_cons_succ]
  refine wpAnyH_take (i := 3) (oi := { dst := some 18, op := Go.Op.fieldAddr 55 (Go.Operand.tmp 17) 1, type := 0, pos := "ref.go:35", after := #[{ on := 2, ground := Go.Ground.data }], guard := none }) (v := ?v3) rfl (by kernel_rfl) (by kernel_rfl) (by kernel_rfl) (fun _ _ _ h => h) (Or.inl ⟨by rfl, ?hy3⟩) (by assumption) ?rest3
  case hy3 => (intro w hSw; (try dsimp only at hSw); go_simp; try (with_reducible rfl))
  simp only [Act.put, List.setIfInBounds_toArray, List.set_cons_zero, List.set_cons_succ]
  refine wpAnyH_take (i := 5) (oi := { dst := some 20, op := Go.Op.load 78 (Go.Operand.tmp 4), type := 78, pos := "ref.go:35", after := #[], guard := none }) (v := ?v5) rfl (by kernel_rfl) (by kernel_rfl) (by kernel_rfl) (fun _ _ _ h => h) (Or.inl ⟨by rfl, ?hy5⟩) (by assumption) ?rest5
  case hy5 => (intro w hSw; (try dsimp only at hSw); go_simp; try (with_reducible rfl))
  simp only [Act.put, List.setIfInBounds_toArray, List.set_cons_zero, List.set_cons_succ]
  refine wpAnyH_ready (rs := [4, 6]) (by kernel_rfl) (by simp) ?_
  refine AllReadyH.cons (o := { dst := some 19, op := Go.Op.load 53 (Go.Operand.tmp 18), type := 53, pos := "ref.go:35", after := #[{ on := 3, ground := Go.Ground.data }], guard := none }) rfl (fun K hK => ?_) ?_
  ·
    go_simp
    refine hK.out _ _ ?_ (fun hHeld => ?_)
    · (first | go_keep)
    clear hK K
    try simp only [Act.put, List.setIfInBounds_toArray, List.set_cons_zero, List.set_cons_succ]
    refine wpAnyH_ready (rs := [6]) (by kernel_rfl) (by simp) ?_
    refine AllReadyH.cons (o := { dst := some 21, op := Go.Op.buildSlice 53 1 #[(0, Go.Operand.tmp 20)], type := 53, pos := "ref.go:35", after := #[{ on := 5, ground := Go.Ground.data }], guard := none }) rfl (fun K hK => ?_) ?_
    ·
      go_simp
      refine hK.out _ _ ?_ (fun hHeld => ?_)
      · (first | go_keep)
      clear hK K
      try simp only [Act.put, List.setIfInBounds_toArray, List.set_cons_zero, List.set_cons_succ]
      refine wpAnyH_ready (rs := [7]) (by kernel_rfl) (by simp) ?_
      refine AllReadyH.cons (o := { dst := some 22, op := Go.Op.call { callee := Go.Callee.builtin Go.Builtin.append, args := #[Go.Operand.tmp 19, Go.Operand.tmp 21], argTypes := #[53, 53] }, type := 53, pos := "ref.go:35", after := #[{ on := 4, ground := Go.Ground.data }, { on := 6, ground := Go.Ground.data }], guard := none }) rfl (fun K hK => ?_) ?_
      ·
        refine step_appE rc_app _ rfl (.tmp 19) (.tmp 21) rfl (w.heap.size + 1) _ (cut l i) (by rfl) (HNd.out.alloc _) y _ (by rfl) (Bk.new _ _ _) (by omega) (by simp; omega) ?_
        intro A2 c2 w2 hown2 hg2 hc2
        have hne := own_ne (HNd.out.alloc (.cells (rcC y).toArray 78)) (Nat.lt_succ_self w.heap.size)
        have HX2 := Lib.hid ((HXd.out.alloc (.cells (rcC y).toArray 78)).grown hg2 hne)
        have HKB := Lib.hid (keepBut_own (B := B) (HNd.out.alloc (.cells (rcC y).toArray 78)) (by omega) hg2)
        have HR2b := Lib.hid (HKB.out.bk (HRd.out.blk.alloc (.cells (rcC y).toArray 78)) (by decide))
        have x2 := HX2.out.cell
        have e1 : w2.frozen? ⟨rb, 1, none⟩ = false := HR2b.out.frozen 1
        have e2 : w2.cell? ⟨rb, 1, none⟩ = some (.slice A1 (cut l i).length cap1) := (by rw [HR2b.out.cell]; rfl)
        have HG2 := Lib.hid hg2
        have HO2 := Lib.hid hown2
        clear hg2 hown2 hne
        refine hK.out _ _ ?_ (fun hHeld => ?_)
        · (first | go_keep)
        clear hK K
        try simp only [Act.put, List.setIfInBounds_toArray, List.set_cons_zero, List.set_cons_succ]
        refine wpAnyH_take (i := 8) (oi := { dst := some 23, op := Go.Op.nilCheck (Go.Operand.tmp 15), type := 0, pos := "ref.go:35", after := #[{ on := 0, ground := Go.Ground.data }, { on := 0, ground := Go.Ground.phase }, { on := 1, ground := Go.Ground.phase }, { on := 2, ground := Go.Ground.phase }, { on := 3, ground := Go.Ground.phase }, { on := 4, ground := Go.Ground.phase }, { on := 5, ground := Go.Ground.phase }, { on := 6, ground := Go.Ground.phase }, { on := 7, ground := Go.Ground.phase }], guard := none }) (v := ?v8) rfl (by kernel_rfl) (by kernel_rfl) (by kernel_rfl) (fun _ _ _ h => h) (Or.inl ⟨by rfl, ?hy8⟩) (by assumption) ?rest8
        case hy8 => (intro w hSw; (try dsimp only at hSw); go_simp; try (with_reducible rfl))
        simp only [Act.put, List.setIfInBounds_toArray, List.set_cons_zero, List.set_cons_succ]
        refine wpAnyH_take (i := 9) (oi := { dst := some 24, op := Go.Op.fieldAddr 55 (Go.Operand.tmp 23) 1, type := 0, pos := "ref.go:35", after := #[{ on := 8, ground := Go.Ground.data }, { on := 0, ground := Go.Ground.phase }, { on := 1, ground := Go.Ground.phase }, { on := 2, ground := Go.Ground.phase }, { on := 3, ground := Go.Ground.phase }, { on := 4, ground := Go.Ground.phase }, { on := 5, ground := Go.Ground.phase }, { on := 6, ground := Go.Ground.phase }, { on := 7, ground := Go.Ground.phase }], guard := none }) (v := ?v9) rfl (by kernel_rfl) (by kernel_rfl) (by kernel_rfl) (fun _ _ _ h => h) (Or.inl ⟨by rfl, ?hy9⟩) (by assumption) ?rest9
        case hy9 => (intro w hSw; (try dsimp only at hSw); go_simp; try (with_reducible rfl))
        simp only [Act.put, List.setIfInBounds_toArray, List.set_cons_zero, List.set_cons_succ]
        refine wpAnyH_ready (rs := [10]) (by kernel_rfl) (by simp) ?_
        refine AllReadyH.cons (o := { dst := none, op := Go.Op.store 53 (Go.Operand.tmp 24) (Go.Operand.tmp 22), type := 0, pos := "ref.go:35", after := #[{ on := 9, ground := Go.Ground.data }, { on := 7, ground := Go.Ground.data }, { on := 7, ground := Go.Ground.chain }, { on := 0, ground := Go.Ground.phase }, { on := 1, ground := Go.Ground.phase }, { on := 2, ground := Go.Ground.phase }, { on := 3, ground := Go.Ground.phase }, { on := 4, ground := Go.Ground.phase }, { on := 5, ground := Go.Ground.phase }, { on := 6, ground := Go.Ground.phase }, { on := 7, ground := Go.Ground.phase }], guard := none }) rfl (fun K hK => ?_) ?_
        ·
          go_simp
          refine hK.out _ _ ?_ (fun hHeld => ?_)
          · (first | go_keep)
          clear hK K
          try simp only [Act.put, List.setIfInBounds_toArray, List.set_cons_zero, List.set_cons_succ]
          refine wpAnyH_done (by kernel_rfl) ?_ _
          go_end0
          have hO3 : w2.ownsRow (w.heap.size + 1) 78 5 (.slice A2 (cut l i ++ [y]).length c2) (cut l i ++ [y]).length (rcsC (cut l i ++ [y])) := HO2.out
          have hB2 : Below w1.heap.size w1 w2 ∨ True := .inr trivial
          rw [show (cut l i).length + 1 = (cut l i ++ [y]).length by simp]
          refine ⟨rfl, ⟨A2, c2, ⟨hbm, HR2b.out.set_ 1 _, own_far HR2b.out (own_mono hO3 (by omega)) (by decide) _ _, fun c hc => ?_⟩, own_far HR2b.out (own_mono hO3 (by omega)) (by decide) _ _⟩, ?_⟩
          · have hcm : (c ∈ cut l i) ∨ c = y := by simpa using hc
            rcases hcm with h1 | rfl
            · exact (HKB.out.rd ((HRd.out.rows c h1).alloc _) (by decide)).farBk (p := ⟨rb, 1, none⟩) hbm HR2b.out (by decide) _
            · exact (HKB.out.rd ((Rd.chg (HR.out.rows _ (List.mem_of_getElem? HY.out)) HC1.out (fun _ _ => rfl)).alloc _) (by decide)).farBk (p := ⟨rb, 1, none⟩) hbm HR2b.out (by decide) _
          · exact (chg_new (w' := w2) ((HC1.out.alloc _).drew) HG2.out (fun k hk => by
              have h1 := ((HNd.out.alloc (.cells (rcC y).toArray 78)).lt k hk).1
              omega)).set_ (p := ⟨rb, 1, none⟩) HR2b.out rfl hbm _
        exact AllReadyH.nil
      exact AllReadyH.nil
    exact AllReadyH.nil
  refine AllReadyH.cons (o := { dst := some 21, op := Go.Op.buildSlice 53 1 #[(0, Go.Operand.tmp 20)], type := 53, pos := "ref.go:35", after := #[{ on := 5, ground := Go.Ground.data }], guard := none }) rfl (fun K hK => ?_) ?_
  ·
    go_simp
    refine hK.out _ _ ?_ (fun hHeld => ?_)
    · (first | go_keep)
    clear hK K
    try simp only [Act.put, List.setIfInBounds_toArray, List.set_cons_zero, List.set_cons_succ]
    refine wpAnyH_ready (rs := [4]) (by kernel_rfl) (by simp) ?_
    refine AllReadyH.cons (o := { dst := some 19, op := Go.Op.load 53 (Go.Operand.tmp 18), type := 53, pos := "ref.go:35", after := #[{ on := 3, ground := Go.Ground.data }], guard := none }) rfl (fun K hK => ?_) ?_
    ·
      go_simp
      refine hK.out _ _ ?_ (fun hHeld => ?_)
      · (first | go_keep)
      clear hK K
      try simp only [Act.put, List.setIfInBounds_toArray, List.set_cons_zero, List.set_cons_succ]
      refine wpAnyH_ready (rs := [7]) (by kernel_rfl) (by simp) ?_
      refine AllReadyH.cons (o := { dst := some 22, op := Go.Op.call { callee := Go.Callee.builtin Go.Builtin.append, args := #[Go.Operand.tmp 19, Go.Operand.tmp 21], argTypes := #[53, 53] }, type := 53, pos := "ref.go:35", after := #[{ on := 4, ground := Go.Ground.data }, { on := 6, ground := Go.Ground.data }], guard := none }) rfl (fun K hK => ?_) ?_
      ·
        refine step_appE rc_app _ rfl (.tmp 19) (.tmp 21) rfl (w.heap.size + 1) _ (cut l i) (by rfl) (HNd.out.alloc _) y _ (by rfl) (Bk.new _ _ _) (by omega) (by simp; omega) ?_
        intro A2 c2 w2 hown2 hg2 hc2
        have hne := own_ne (HNd.out.alloc (.cells (rcC y).toArray 78)) (Nat.lt_succ_self w.heap.size)
        have HX2 := Lib.hid ((HXd.out.alloc (.cells (rcC y).toArray 78)).grown hg2 hne)
        have HKB := Lib.hid (keepBut_own (B := B) (HNd.out.alloc (.cells (rcC y).toArray 78)) (by omega) hg2)
        have HR2b := Lib.hid (HKB.out.bk (HRd.out.blk.alloc (.cells (rcC y).toArray 78)) (by decide))
        have x2 := HX2.out.cell
        have e1 : w2.frozen? ⟨rb, 1, none⟩ = false := HR2b.out.frozen 1
        have e2 : w2.cell? ⟨rb, 1, none⟩ = some (.slice A1 (cut l i).length cap1) := (by rw [HR2b.out.cell]; rfl)
        have HG2 := Lib.hid hg2
        have HO2 := Lib.hid hown2
        clear hg2 hown2 hne
        refine hK.out _ _ ?_ (fun hHeld => ?_)
        · (first | go_keep)
        clear hK K
        try simp only [Act.put, List.setIfInBounds_toArray, List.set_cons_zero, List.set_cons_succ]
        refine wpAnyH_take (i := 8) (oi := { dst := some 23, op := Go.Op.nilCheck (Go.Operand.tmp 15), type := 0, pos := "ref.go:35", after := #[{ on := 0, ground := Go.Ground.data }, { on := 0, ground := Go.Ground.phase }, { on := 1, ground := Go.Ground.phase }, { on := 2, ground := Go.Ground.phase }, { on := 3, ground := Go.Ground.phase }, { on := 4, ground := Go.Ground.phase }, { on := 5, ground := Go.Ground.phase }, { on := 6, ground := Go.Ground.phase }, { on := 7, ground := Go.Ground.phase }], guard := none }) (v := ?v8x1) rfl (by kernel_rfl) (by kernel_rfl) (by kernel_rfl) (fun _ _ _ h => h) (Or.inl ⟨by rfl, ?hy8x1⟩) (by assumption) ?rest8x1
        case hy8x1 => (intro w hSw; (try dsimp only at hSw); go_simp; try (with_reducible rfl))
        simp only [Act.put, List.setIfInBounds_toArray, List.set_cons_zero, List.set_cons_succ]
        refine wpAnyH_take (i := 9) (oi := { dst := some 24, op := Go.Op.fieldAddr 55 (Go.Operand.tmp 23) 1, type := 0, pos := "ref.go:35", after := #[{ on := 8, ground := Go.Ground.data }, { on := 0, ground := Go.Ground.phase }, { on := 1, ground := Go.Ground.phase }, { on := 2, ground := Go.Ground.phase }, { on := 3, ground := Go.Ground.phase }, { on := 4, ground := Go.Ground.phase }, { on := 5, ground := Go.Ground.phase }, { on := 6, ground := Go.Ground.phase }, { on := 7, ground := Go.Ground.phase }], guard := none }) (v := ?v9x1) rfl (by kernel_rfl) (by kernel_rfl) (by kernel_rfl) (fun _ _ _ h => h) (Or.inl ⟨by rfl, ?hy9x1⟩) (by assumption) ?rest9x1
        case hy9x1 => (intro w hSw; (try dsimp only at hSw); go_simp; try (with_reducible rfl))
        simp only [Act.put, List.setIfInBounds_toArray, List.set_cons_zero, List.set_cons_succ]
        refine wpAnyH_ready (rs := [10]) (by kernel_rfl) (by simp) ?_
        refine AllReadyH.cons (o := { dst := none, op := Go.Op.store 53 (Go.Operand.tmp 24) (Go.Operand.tmp 22), type := 0, pos := "ref.go:35", after := #[{ on := 9, ground := Go.Ground.data }, { on := 7, ground := Go.Ground.data }, { on := 7, ground := Go.Ground.chain }, { on := 0, ground := Go.Ground.phase }, { on := 1, ground := Go.Ground.phase }, { on := 2, ground := Go.Ground.phase }, { on := 3, ground := Go.Ground.phase }, { on := 4, ground := Go.Ground.phase }, { on := 5, ground := Go.Ground.phase }, { on := 6, ground := Go.Ground.phase }, { on := 7, ground := Go.Ground.phase }], guard := none }) rfl (fun K hK => ?_) ?_
        ·
          go_simp
          refine hK.out _ _ ?_ (fun hHeld => ?_)
          · (first | go_keep)
          clear hK K
          try simp only [Act.put, List.setIfInBounds_toArray, List.set_cons_zero, List.set_cons_succ]
          refine wpAnyH_done (by kernel_rfl) ?_ _
          go_end0
          have hO3 : w2.ownsRow (w.heap.size + 1) 78 5 (.slice A2 (cut l i ++ [y]).length c2) (cut l i ++ [y]).length (rcsC (cut l i ++ [y])) := HO2.out
          have hB2 : Below w1.heap.size w1 w2 ∨ True := .inr trivial
          rw [show (cut l i).length + 1 = (cut l i ++ [y]).length by simp]
          refine ⟨rfl, ⟨A2, c2, ⟨hbm, HR2b.out.set_ 1 _, own_far HR2b.out (own_mono hO3 (by omega)) (by decide) _ _, fun c hc => ?_⟩, own_far HR2b.out (own_mono hO3 (by omega)) (by decide) _ _⟩, ?_⟩
          · have hcm : (c ∈ cut l i) ∨ c = y := by simpa using hc
            rcases hcm with h1 | rfl
            · exact (HKB.out.rd ((HRd.out.rows c h1).alloc _) (by decide)).farBk (p := ⟨rb, 1, none⟩) hbm HR2b.out (by decide) _
            · exact (HKB.out.rd ((Rd.chg (HR.out.rows _ (List.mem_of_getElem? HY.out)) HC1.out (fun _ _ => rfl)).alloc _) (by decide)).farBk (p := ⟨rb, 1, none⟩) hbm HR2b.out (by decide) _
          · exact (chg_new (w' := w2) ((HC1.out.alloc _).drew) HG2.out (fun k hk => by
              have h1 := ((HNd.out.alloc (.cells (rcC y).toArray 78)).lt k hk).1
              omega)).set_ (p := ⟨rb, 1, none⟩) HR2b.out rfl hbm _
        exact AllReadyH.nil
      exact AllReadyH.nil
    exact AllReadyH.nil
  exact AllReadyH.nil
end Go.Proofs.YtgigdhfdpabmoaaDoor
