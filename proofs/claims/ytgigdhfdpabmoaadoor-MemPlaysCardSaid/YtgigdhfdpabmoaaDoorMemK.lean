/- Before; appends of one element, whatever its type; the list of pieces, ahead of the sort. -/
import Derived.Test.YtgigdhfdpabmoaaDoorMemI
import Derived.Sort.Grow
namespace Go.Proofs.YtgigdhfdpabmoaaDoor
open Go.RowKit Go.Sort

/-! ### append of one element that lies in a block of its own -/
section
variable {α : Type} {enc : α → List Value} {te e : TypeId} {z bytes : Nat} {zero : Value}
structure AppC (enc : α → List Value) (te e : TypeId) (z bytes : Nat) (zero : Value) : Prop where
  te : Tryd.prog.underlying te = some (.slice e)
  info : (Tryd.prog.info? e).map (fun i => (i.zero, i.size, i.bytes)) = some (some zero, z, bytes)
  zz : zero.cells.size = z
  z0 : 0 < z
  len : ∀ x, (enc x).length = z
  one : ∀ x, ∀ u ∈ enc x, u.oneCell' = true
  small : bytes ≤ 65536
theorem flat_len (C : AppC enc te e z bytes zero) (l : List α) : (l.flatMap enc).length = l.length * z := by
  induction l with
  | nil => simp
  | cons y l ih => rw [List.flatMap_cons, List.length_append, C.len, ih, List.length_cons, Nat.add_mul]; omega
theorem wp_appE (C : AppC enc te e z bytes zero) {o : Oper} {a : Act} {K : Act → World → Prop} {Q : Exit → Act → World → Prop} (W : World) (s x : Operand)
    (ho : o.op = .call { callee := .builtin .append, args := #[s, x], argTypes := #[te, te] }) (base : Nat) (v : Value) (l : List α) (hs : a.eval s = v)
    (hown : W.ownsRow base e z v l.length (l.flatMap enc)) (y : α) (g : Nat) (hx : a.eval x = .slice (some ⟨g, 0, none⟩) 1 1) (hg : Bk W g e (enc y).toArray) (hlen : l.length ≤ 1073741824) (hbase : base ≤ W.heap.size)
    (h : ∀ A c w', w'.ownsRow base e z (.slice A (l ++ [y]).length c) (l ++ [y]).length ((l ++ [y]).flatMap enc) → W.grownBy w' v.ownBlock → (l ++ [y]).length ≤ c → K (a.put o.dst (.slice A (l ++ [y]).length c)) w') :
    o.wp Tryd.prog a W K Q := by
  obtain ⟨i0, hi0, hz0, hz1, hz2⟩ := info_parts C.info
  have hbb : (l.length + 1) * bytes ≤ 140737488355328 := Nat.le_trans (Nat.mul_le_mul (show l.length + 1 ≤ 1073741825 by omega) C.small) (by omega)
  obtain ⟨v', w', hr, h1, h2, _, _⟩ := run_append_own_at (P := Tryd.prog) W base te o.type e i0 _ z bytes C.te hi0 hz0 hz1 hz2 C.zz C.z0 v l.length (l.flatMap enc) hown ⟨g, 0, none⟩ 1 1 (enc y) (by rw [C.len]; omega)
    (World.news_of_block (cs := (enc y).toArray) (t := e) (fr := (0, 0)) hg) (C.one y) (by simp only [maxLen]; omega) hbb hbase
  unfold Oper.wp execOp
  simp only [ho, resolve, invoke, builtin, Sem.run_bind, Sem.run_pure, Result.andThen_ok, List.map_toArray, List.map_cons, List.map_nil, hs, hx, hr]
  have h1' : w'.ownsRow base e z v' (l ++ [y]).length ((l ++ [y]).flatMap enc) := by
    rw [List.flatMap_append, List.length_append, List.flatMap_singleton]
    exact h1
  have h1'' := h1'
  rcases h1''.2 with ⟨_, hn⟩ | ⟨b, c, cur, hv, _, _, hc, _⟩
  · simp at hn
  · rw [hv] at h1' ⊢
    exact h _ c w' h1' h2 hc
theorem wpList_appE (C : AppC enc te e z bytes zero) {ops : Array Oper} {rest : List Oper} {o : Oper} {a : Act} {Q : Exit → Act → World → Prop} (W : World) (hgd : o.guard = none) (s x : Operand)
    (ho : o.op = .call { callee := .builtin .append, args := #[s, x], argTypes := #[te, te] }) (base : Nat) (v : Value) (l : List α) (hs : a.eval s = v)
    (hown : W.ownsRow base e z v l.length (l.flatMap enc)) (y : α) (g : Nat) (hx : a.eval x = .slice (some ⟨g, 0, none⟩) 1 1) (hg : Bk W g e (enc y).toArray) (hlen : l.length ≤ 1073741824) (hbase : base ≤ W.heap.size)
    (h : ∀ A c w', w'.ownsRow base e z (.slice A (l ++ [y]).length c) (l ++ [y]).length ((l ++ [y]).flatMap enc) → W.grownBy w' v.ownBlock → (l ++ [y]).length ≤ c → wpList Tryd.prog ops Q rest (a.put o.dst (.slice A (l ++ [y]).length c)) w') :
    wpList Tryd.prog ops Q (o :: rest) a W :=
  wpList_plain hgd fun _ hK => wp_appE C W s x ho base v l hs hown y g hx hg hlen hbase fun A c w' h1 h2 h3 => hK _ _ (h A c w' h1 h2 h3)
theorem step_appE (C : AppC enc te e z bytes zero) {ops : Array Oper} {o : Oper} {a : Act} {K : Act → World → Prop} {Q : Exit → Act → World → Prop} {E : Prop} (W : World) (hgd : o.guard = none) (s x : Operand)
    (ho : o.op = .call { callee := .builtin .append, args := #[s, x], argTypes := #[te, te] }) (base : Nat) (v : Value) (l : List α) (hs : a.eval s = v)
    (hown : W.ownsRow base e z v l.length (l.flatMap enc)) (y : α) (g : Nat) (hx : a.eval x = .slice (some ⟨g, 0, none⟩) 1 1) (hg : Bk W g e (enc y).toArray) (hlen : l.length ≤ 1073741824) (hbase : base ≤ W.heap.size)
    (h : ∀ A c w', w'.ownsRow base e z (.slice A (l ++ [y]).length c) (l ++ [y]).length ((l ++ [y]).flatMap enc) → W.grownBy w' v.ownBlock → (l ++ [y]).length ≤ c → K (a.put o.dst (.slice A (l ++ [y]).length c)) w') :
    if Region.wanted o (yielded ops a.tmps) = true then Oper.wp Tryd.prog o a W K Q else E := by
  rw [if_pos (by simp [Region.wanted, hgd])]
  exact wp_appE C W s x ho base v l hs hown y g hx hg hlen hbase h
end

/-! ### pieces as cells -/
structure Pz where
  id : Id3
  A : Option Addr
  cap : Nat
  rows : List Rw
def pzC (p : Pz) : List Value := [.int .i64 p.id.b, .int .i64 p.id.s, .int .i64 p.id.p, .slice p.A p.rows.length p.cap]
theorem pz_app : AppC pzC 45 47 4 48 (.agg #[.int .i64 0, .int .i64 0, .int .i64 0, .slice none 0 0]) :=
  ⟨Tryd.underlying45, by kernel_rfl, rfl, by decide, fun _ => rfl, fun x u hu => by simp only [pzC, List.mem_cons, List.not_mem_nil, or_false] at hu; rcases hu with rfl | rfl | rfl | rfl <;> rfl, by decide⟩
def pzsC (l : List Pz) : List Value := l.flatMap pzC

/-! ### Before -/
def bef (x y : Id3) : Bool := if x.b ≠ y.b then decide (x.b < y.b) else if x.s ≠ y.s then decide (x.s < y.s) else decide (x.p < y.p)
def GrowPost (W : World) (v : Value) (e : Ending) (w' : World) : Prop := e = .returned v ∧ ∃ q os', w' = grow (W.drewN q) os'
theorem grow_below {W : World} {q : Nat} {os : Array Obj} : Below W.heap.size W (grow (W.drewN q) os) :=
  ⟨rfl, rfl, rfl, by simp [grow], fun k hk => by simp only [grow, World.heap_drewN]; rw [Array.getElem?_append_left hk]⟩
theorem before_c (x y : Id3) (W : World) : Calls Tryd.prog 19 #[idV x, idV y] W (GrowPost W (.bool (bef x y))) := by
  have fin : ∀ o1 o2 : Obj, ∃ q os', (W.alloc o1).alloc o2 = grow (W.drewN q) os' := fun o1 o2 => ⟨0, _, by rw [alloc_eq_grow, alloc_eq_grow, grow_grow]; rfl⟩
  have HF := Lib.hid fin
  clear fin
  unfold bef
  by_cases h1 : x.b = y.b
  · by_cases h2 : x.s = y.s
    · rw [if_neg (by simp [h1]), if_neg (by simp [h2])]
      have e1 : (x.b != y.b) = false := by simp [h1]
      have e2 : (x.s != y.s) = false := by simp [h2]
      clear h1 h2
      go_enter Tryd.func19, Tryd.ntmps19
      go_wp2
      go_ret
      exact ⟨rfl, HF.out _ _⟩
    · rw [if_neg (by simp [h1]), if_pos h2]
      have e1 : (x.b != y.b) = false := by simp [h1]
      have e2 : (x.s != y.s) = true := by simp [h2]
      clear h1 h2
      go_enter Tryd.func19, Tryd.ntmps19
      go_wp2
      go_ret
      exact ⟨rfl, HF.out _ _⟩
  · rw [if_pos h1]
    have e1 : (x.b != y.b) = true := by simp [h1]
    clear h1
    go_enter Tryd.func19, Tryd.ntmps19
    go_wp2
    go_ret
    exact ⟨rfl, HF.out _ _⟩

/-- What the sort's closure says. -/
theorem less_c (x y : Pz) (W : World) : Calls Tryd.prog 44 #[.agg (pzC x).toArray, .agg (pzC y).toArray] W (GrowPost W (.int .i64 (if bef x.id y.id then -1 else 1))) := by
  have fin : ∀ (o1 o2 : Obj) q os, ∃ q' os', grow (((W.alloc o1).alloc o2).drewN q) os = grow (W.drewN q') os' := fun o1 o2 q os => ⟨q, _, by
    rw [alloc_eq_grow, alloc_eq_grow, grow_grow]
    show grow (grow (W.drewN q) _) _ = _
    rw [grow_grow]⟩
  have HF := Lib.hid fin
  clear fin
  simp only [pzC]
  cases hb : bef x.id y.id with
  | true =>
    go_enter Tryd.func44, Tryd.ntmps44
    go_wp2_with (first | (go_at_call 19; refine (before_c x.id y.id _).mono ?_; rw [hb]; rintro e w' ⟨rfl, q, os, rfl⟩))
    go_ret
    exact ⟨by simp, HF.out _ _ _ _⟩
  | false =>
    go_enter Tryd.func44, Tryd.ntmps44
    go_wp2_with (first | (go_at_call 19; refine (before_c x.id y.id _).mono ?_; rw [hb]; rintro e w' ⟨rfl, q, os, rfl⟩))
    go_ret
    exact ⟨by simp, HF.out _ _ _ _⟩

/-- What is asked of the sort. -/
def SortPost (W : World) (base : Nat) (A : Option Addr) (l : List Pz) (c : Nat) (e : Ending) (w' : World) : Prop :=
  e = .returned (.tuple #[]) ∧ ∃ l', l'.Perm l ∧ l'.Pairwise (fun x y => bef y.id x.id = false) ∧ w'.ownsRow base 47 4 (.slice A l'.length c) l'.length (pzsC l') ∧ W.grownBy w' (Value.slice A l.length c).ownBlock
def SortC : Prop := ∀ (W : World) (base : Nat) (A : Option Addr) (c : Nat) (l : List Pz), W.ownsRow base 47 4 (.slice A l.length c) l.length (pzsC l) → base ≤ W.heap.size → l.length ≤ 1073741824 →
  Calls Tryd.prog 43 #[.slice A l.length c, .func (.func 44) #[] #[]] W (SortPost W base A l c)
end Go.Proofs.YtgigdhfdpabmoaaDoor
