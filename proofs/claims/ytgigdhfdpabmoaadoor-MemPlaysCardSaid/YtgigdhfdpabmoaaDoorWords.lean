/- The data of this seat: names (api.ID), rows (api.Row), as values and as cells; names as keys of maps. -/
import Derived.Test.YtgigdhfdpabmoaaDoorProg
import Derived.Test.YtgigdhfdpabmoaaDoorMaps
namespace Go.Proofs.YtgigdhfdpabmoaaDoor
open Go.RowKit

structure Id3 where
  b : Int
  s : Int
  p : Int
  deriving DecidableEq
structure Rw where
  k : Int
  v : Int
  deriving DecidableEq

abbrev idV (x : Id3) : Value := .agg #[.int .i64 x.b, .int .i64 x.s, .int .i64 x.p]
def idC (x : Id3) : List Value := [.int .i64 x.b, .int .i64 x.s, .int .i64 x.p]
abbrev rwV (x : Rw) : Value := .agg #[.int .i64 x.k, .int .i64 x.v]
def rwC (x : Rw) : List Value := [.int .i64 x.k, .int .i64 x.v]
def idsC (l : List Id3) : List Value := l.flatMap idC
def rwsC (l : List Rw) : List Value := l.flatMap rwC

theorem idsC_len (l : List Id3) : (idsC l).length = l.length * 3 := by
  induction l with
  | nil => rfl
  | cons x l ih => simp only [idsC, List.flatMap_cons, List.length_append, List.length_cons] at ih ⊢; rw [ih]; simp [idC]; omega
theorem rwsC_len (l : List Rw) : (rwsC l).length = l.length * 2 := by
  induction l with
  | nil => rfl
  | cons x l ih => simp only [rwsC, List.flatMap_cons, List.length_append, List.length_cons] at ih ⊢; rw [ih]; simp [rwC]; omega
theorem flat_at {α : Type} (f : α → List Value) (z : Nat) (hz : ∀ x, (f x).length = z) : ∀ (l : List α) (i : Nat) (x : α), l[i]? = some x → ∀ j, j < z → (l.flatMap f)[i * z + j]? = (f x)[j]?
  | [], _, _, h, _, _ => by simp at h
  | y :: l, 0, x, h, j, hj => by
    simp only [List.getElem?_cons_zero, Option.some.injEq] at h
    subst h
    rw [List.flatMap_cons, List.getElem?_append_left (by rw [hz]; omega)]
    simp
  | y :: l, i + 1, x, h, j, hj => by
    simp only [List.getElem?_cons_succ] at h
    rw [List.flatMap_cons, List.getElem?_append_right (by rw [hz, Nat.add_mul]; omega), hz]
    have := flat_at f z hz l i x h j hj
    rw [← this]
    congr 1
    rw [Nat.add_mul]; omega
theorem idsC_at {l : List Id3} {i : Nat} {x : Id3} (h : l[i]? = some x) {j : Nat} (hj : j < 3) : (idsC l)[i * 3 + j]? = (idC x)[j]? := flat_at idC 3 (fun _ => rfl) l i x h j hj
theorem rwsC_at {l : List Rw} {i : Nat} {x : Rw} (h : l[i]? = some x) {j : Nat} (hj : j < 2) : (rwsC l)[i * 2 + j]? = (rwC x)[j]? := flat_at rwC 2 (fun _ => rfl) l i x h j hj
theorem idsC_append (l m : List Id3) : idsC (l ++ m) = idsC l ++ idsC m := by simp [idsC]
theorem rwsC_append (l m : List Rw) : rwsC (l ++ m) = rwsC l ++ rwsC m := by simp [rwsC]
theorem one_ids (l : List Id3) : ∀ u ∈ idsC l, u.oneCell' = true := by
  intro u hu
  simp only [idsC, List.mem_flatMap] at hu
  obtain ⟨x, _, hx⟩ := hu
  simp only [idC, List.mem_cons, List.not_mem_nil, or_false] at hx
  rcases hx with rfl | rfl | rfl <;> rfl
theorem one_rws (l : List Rw) : ∀ u ∈ rwsC l, u.oneCell' = true := by
  intro u hu
  simp only [rwsC, List.mem_flatMap] at hu
  obtain ⟨x, _, hx⟩ := hu
  simp only [rwC, List.mem_cons, List.not_mem_nil, or_false] at hx
  rcases hx with rfl | rfl <;> rfl

theorem idV_inj (x y : Id3) (h : idV x = idV y) : x = y := by
  cases x; cases y
  simp [idV] at h
  simpa using h

theorem run_eqA {P : Program} {t : TypeId} (ht : P.underlying t = some (.struct (P.fieldsOf t))) (hp : P.stoodInHeld t = false) (w : World) (xs ys : Array Value) :
    (Op.equal t (.agg xs) (.agg ys)).run P w = (Op.eqFields 9999 xs ys (P.fieldsOf t).toList).run P w := run_equalIn_agg w 9999 t xs ys ht hp

theorem eqF_cons {P : Program} {w : World} {f : Field} {fs : List Field} {xs ys : Array Value} {a b : Value} {d : Nat} {r : Bool} (hn : f.name ≠ "_") (ha : (part f.type xs f.offset).run P w = .ok a w) (hb : (part f.type ys f.offset).run P w = .ok b w)
    (he : (Op.equalIn d f.type a b).run P w = .ok r w) : (Op.eqFields d xs ys (f :: fs)).run P w = if r then (Op.eqFields d xs ys fs).run P w else .ok false w := by
  simp only [Op.eqFields, ne_eq, hn, not_false_eq_true, if_true, Sem.run_bind, ha, hb, he, Result.andThen_ok]
  cases r <;> simp

theorem id_equalIn (d : Nat) (x y : Id3) (w : World) : (Op.equalIn (d + 2) 24 (.agg #[.int .i64 x.b, .int .i64 x.s, .int .i64 x.p]) (.agg #[.int .i64 y.b, .int .i64 y.s, .int .i64 y.p])).run Tryd.prog w = .ok (decide (x = y)) w := by
  have hf : (Tryd.prog.fieldsOf 24).toList = [⟨"Batch", 3, 0, false, "", "", 0⟩, ⟨"Set", 3, 1, false, "", "", 8⟩, ⟨"Part", 3, 2, false, "", "", 16⟩] := by kernel_rfl
  rw [run_equalIn_agg w (d + 1) 24 _ _ (by kernel_rfl) (by kernel_rfl), hf]
  have hi : Tryd.prog.underlying 3 = some (.int .i64) := by kernel_rfl
  have he : ∀ a b : Int, (Op.equalIn (d + 1) 3 (.int .i64 a) (.int .i64 b)).run Tryd.prog w = .ok (a == b) w := fun a b => run_equalIn_int w d _ _ _ a b hi
  have e0 : ∀ fs, (Op.eqFields (d + 1) #[.int .i64 x.b, .int .i64 x.s, .int .i64 x.p] #[.int .i64 y.b, .int .i64 y.s, .int .i64 y.p] (⟨"Batch", 3, 0, false, "", "", 0⟩ :: fs)).run Tryd.prog w = if (x.b == y.b) then (Op.eqFields (d + 1) #[.int .i64 x.b, .int .i64 x.s, .int .i64 x.p] #[.int .i64 y.b, .int .i64 y.s, .int .i64 y.p] fs).run Tryd.prog w else .ok false w := fun fs => eqF_cons (by decide) (by kernel_rfl) (by kernel_rfl) (he _ _)
  have e1 : ∀ fs, (Op.eqFields (d + 1) #[.int .i64 x.b, .int .i64 x.s, .int .i64 x.p] #[.int .i64 y.b, .int .i64 y.s, .int .i64 y.p] (⟨"Set", 3, 1, false, "", "", 8⟩ :: fs)).run Tryd.prog w = if (x.s == y.s) then (Op.eqFields (d + 1) #[.int .i64 x.b, .int .i64 x.s, .int .i64 x.p] #[.int .i64 y.b, .int .i64 y.s, .int .i64 y.p] fs).run Tryd.prog w else .ok false w := fun fs => eqF_cons (by decide) (by kernel_rfl) (by kernel_rfl) (he _ _)
  have e2 : ∀ fs, (Op.eqFields (d + 1) #[.int .i64 x.b, .int .i64 x.s, .int .i64 x.p] #[.int .i64 y.b, .int .i64 y.s, .int .i64 y.p] (⟨"Part", 3, 2, false, "", "", 16⟩ :: fs)).run Tryd.prog w = if (x.p == y.p) then (Op.eqFields (d + 1) #[.int .i64 x.b, .int .i64 x.s, .int .i64 x.p] #[.int .i64 y.b, .int .i64 y.s, .int .i64 y.p] fs).run Tryd.prog w else .ok false w := fun fs => eqF_cons (by decide) (by kernel_rfl) (by kernel_rfl) (he _ _)
  rw [e0, e1, e2]
  simp only [Op.eqFields, Sem.run_pure]
  have hxy : x = y ↔ x.b = y.b ∧ x.s = y.s ∧ x.p = y.p := by cases x; cases y; simp
  by_cases h1 : x.b = y.b <;> by_cases h2 : x.s = y.s <;> by_cases h3 : x.p = y.p <;> simp [h1, h2, h3, hxy]

theorem row_equalIn (d : Nat) (x y : Rw) (w : World) : (Op.equalIn (d + 2) 58 (.agg #[.int .i64 x.k, .int .i64 x.v]) (.agg #[.int .i64 y.k, .int .i64 y.v])).run Tryd.prog w = .ok (decide (x = y)) w := by
  have hf : (Tryd.prog.fieldsOf 58).toList = [⟨"K", 3, 0, false, "", "", 0⟩, ⟨"V", 3, 1, false, "", "", 8⟩] := by kernel_rfl
  rw [run_equalIn_agg w (d + 1) 58 _ _ (by kernel_rfl) (by kernel_rfl), hf]
  have hi : Tryd.prog.underlying 3 = some (.int .i64) := by kernel_rfl
  have he : ∀ a b : Int, (Op.equalIn (d + 1) 3 (.int .i64 a) (.int .i64 b)).run Tryd.prog w = .ok (a == b) w := fun a b => run_equalIn_int w d _ _ _ a b hi
  have e0 : ∀ fs, (Op.eqFields (d + 1) #[.int .i64 x.k, .int .i64 x.v] #[.int .i64 y.k, .int .i64 y.v] (⟨"K", 3, 0, false, "", "", 0⟩ :: fs)).run Tryd.prog w = if (x.k == y.k) then (Op.eqFields (d + 1) #[.int .i64 x.k, .int .i64 x.v] #[.int .i64 y.k, .int .i64 y.v] fs).run Tryd.prog w else .ok false w := fun fs => eqF_cons (by decide) (by kernel_rfl) (by kernel_rfl) (he _ _)
  have e1 : ∀ fs, (Op.eqFields (d + 1) #[.int .i64 x.k, .int .i64 x.v] #[.int .i64 y.k, .int .i64 y.v] (⟨"V", 3, 1, false, "", "", 8⟩ :: fs)).run Tryd.prog w = if (x.v == y.v) then (Op.eqFields (d + 1) #[.int .i64 x.k, .int .i64 x.v] #[.int .i64 y.k, .int .i64 y.v] fs).run Tryd.prog w else .ok false w := fun fs => eqF_cons (by decide) (by kernel_rfl) (by kernel_rfl) (he _ _)
  rw [e0, e1]
  simp only [Op.eqFields, Sem.run_pure]
  have hxy : x = y ↔ x.k = y.k ∧ x.v = y.v := by cases x; cases y; simp
  by_cases h1 : x.k = y.k <;> by_cases h2 : x.v = y.v <;> simp [h1, h2, hxy]

/-- For the walk: two names, two rows, compared cell by cell. -/
theorem id_eqI (d : Nat) (a b c a' b' c' : Int) (w : World) : (Op.equalIn (d + 2) 24 (.agg #[.int .i64 a, .int .i64 b, .int .i64 c]) (.agg #[.int .i64 a', .int .i64 b', .int .i64 c'])).run Tryd.prog w = .ok (decide ((⟨a, b, c⟩ : Id3) = ⟨a', b', c'⟩)) w := id_equalIn d ⟨a, b, c⟩ ⟨a', b', c'⟩ w
theorem row_eqI (d : Nat) (a b a' b' : Int) (w : World) : (Op.equalIn (d + 2) 58 (.agg #[.int .i64 a, .int .i64 b]) (.agg #[.int .i64 a', .int .i64 b'])).run Tryd.prog w = .ok (decide ((⟨a, b⟩ : Rw) = ⟨a', b'⟩)) w := row_equalIn d ⟨a, b⟩ ⟨a', b'⟩ w

theorem idKey : KeyC Tryd.prog 24 idV where
  inj := idV_inj
  check em x w := by kernel_rfl
  eq x y w := ⟨decide (x = y), id_equalIn 9998 x y w, by simp⟩
  now x y es e i h := by
    have hu : Tryd.prog.underlying 24 = some (.struct (Tryd.prog.fieldsOf 24)) := by kernel_rfl
    simp [hu, Instr.findNow, h, idV, Instr.sameNow]
  und := ⟨_, (by kernel_rfl : Tryd.prog.underlying 24 = some (.struct (Tryd.prog.fieldsOf 24)))⟩
  stays x w := by
    have : Instr.sameBits 10000 (idV x) (idV x) = true := by simp [Instr.sameBits]
    simp [Instr.keyThatStays, this]

/-! ### an element of a slice of names, of rows, in the walk's own spelling -/
theorem add_succ (a : Addr) (n j : Nat) : a.add (n + (j + 1)) = ⟨(a.add n).block, (a.add n).off + (j + 1), none⟩ := by
  rw [← add_of_add]
  generalize a.add n = c
  unfold Addr.add
  simp
theorem Rd.ids {w : World} {B : Nat} {e : TypeId} {A : Option Addr} {n : Nat} {l : List Id3} (h : Rd w B e 3 A n (idsC l)) {i : Nat} {y : Id3} (hy : l[i]? = some y) (hn : i < n) :
    ∃ ad, A = some ad ∧ w.cell? (ad.add (i * 3)) = some (.int .i64 y.b) ∧ w.cell? ⟨(ad.add (i * 3)).block, (ad.add (i * 3)).off + 1, none⟩ = some (.int .i64 y.s) ∧ w.cell? ⟨(ad.add (i * 3)).block, (ad.add (i * 3)).off + 2, none⟩ = some (.int .i64 y.p) := by
  obtain ⟨ad, hA, hc⟩ := h.cell (by omega)
  refine ⟨ad, hA, ?_, ?_, ?_⟩
  · exact hc (i * 3) _ (by have := idsC_at hy (j := 0) (by omega); simpa [idC] using this)
  · rw [← add_succ ad (i * 3) 0]; exact hc (i * 3 + 1) _ (by rw [idsC_at hy (by omega)]; rfl)
  · rw [← add_succ ad (i * 3) 1]; exact hc (i * 3 + 2) _ (by rw [idsC_at hy (by omega)]; rfl)
theorem Rd.rws {w : World} {B : Nat} {e : TypeId} {A : Option Addr} {n : Nat} {l : List Rw} (h : Rd w B e 2 A n (rwsC l)) {i : Nat} {y : Rw} (hy : l[i]? = some y) (hn : i < n) :
    ∃ ad, A = some ad ∧ w.cell? (ad.add (i * 2)) = some (.int .i64 y.k) ∧ w.cell? ⟨(ad.add (i * 2)).block, (ad.add (i * 2)).off + 1, none⟩ = some (.int .i64 y.v) := by
  obtain ⟨ad, hA, hc⟩ := h.cell (by omega)
  refine ⟨ad, hA, ?_, ?_⟩
  · exact hc (i * 2) _ (by have := rwsC_at hy (j := 0) (by omega); simpa [rwC] using this)
  · rw [← add_succ ad (i * 2) 0]; exact hc (i * 2 + 1) _ (by rw [rwsC_at hy (by omega)]; rfl)
end Go.Proofs.YtgigdhfdpabmoaaDoor
