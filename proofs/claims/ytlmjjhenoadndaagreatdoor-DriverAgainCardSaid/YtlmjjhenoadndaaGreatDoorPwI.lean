/- LogG, WalP, Wal, WalB: laid together. -/
import Derived.Test.YtlmjjhenoadndaaGreatDoorPwH

/- Records on a disk, in plain Lean: what becomes of the records when one is appended. -/
namespace Go.Proofs.YtlmjjhenoadndaaGreatDoor
open Go.RowKit Go.Sort

theorem write_blk {d : DiskD} {n : Nat} {l : List Nat} (h : (d.write n l).2 = true) : (d.write n l).1.blk = fun k => if k = n then some l else d.blk k := by
  unfold DiskD.write at h ⊢
  split
  · next h1 => rw [if_pos h1] at h; cases h
  · next h1 =>
    rw [if_neg h1] at h
    split
    · next h2 => rw [if_pos h2] at h; cases h
    · rfl
theorem write_no {d : DiskD} {n : Nat} {l : List Nat} (h : (d.write n l).2 = false) : (d.write n l).1.blk = d.blk ∧ (d.write n l).1.down = true ∧ (d.write n l).1.life ≤ d.life + 1 ∧ d.life ≤ (d.write n l).1.life := by
  unfold DiskD.write at h ⊢
  split
  · next h1 => exact ⟨rfl, h1, by simp, Nat.le_refl _⟩
  · next h1 =>
    rw [if_neg h1] at h
    split
    · next h2 => exact ⟨rfl, rfl, by simp only [DiskD.cut]; split <;> omega, by simp only [DiskD.cut]; split <;> omega⟩
    · next h2 => rw [if_neg h2] at h; cases h
theorem writeAll_law {recs : List (List Nat)} {b : List Nat} (hl : recs.length + 1 ≤ 1000000) (hN : blocksN b.length ≤ 1000000) : ∀ (m k : Nat) (d : DiskD), k + m = blocksN b.length → LogOk d recs → d.down = false →
    (∀ j, j < k → d.blk (posOf recs + j) = some (blockB (recs.length + 1) b j)) → posOf recs + blocksN b.length ≤ d.room → 0 < m →
    ((writeAll (recs.length + 1) (posOf recs) b m k d).2 = true → LogOk (writeAll (recs.length + 1) (posOf recs) b m k d).1 (recs ++ [b]) ∧ (writeAll (recs.length + 1) (posOf recs) b m k d).1.down = false ∧ (writeAll (recs.length + 1) (posOf recs) b m k d).1.life = d.life) ∧
    ((writeAll (recs.length + 1) (posOf recs) b m k d).2 = false → LogOk (writeAll (recs.length + 1) (posOf recs) b m k d).1 recs ∧ (writeAll (recs.length + 1) (posOf recs) b m k d).1.down = true ∧ (writeAll (recs.length + 1) (posOf recs) b m k d).1.life ≤ d.life + 1 ∧ d.life ≤ (writeAll (recs.length + 1) (posOf recs) b m k d).1.life) ∧
    (writeAll (recs.length + 1) (posOf recs) b m k d).1.room = d.room
  | 0, k, d, _, _, _, _, _, h0 => absurd h0 (by omega)
  | m + 1, k, d, hk, hd, hdn, hpre, hfit, _ => by
    cases hw : (d.write (posOf recs + k) (blockB (recs.length + 1) b k)).2 with
    | false =>
      obtain ⟨h1, h2, h3, h4⟩ := write_no hw
      rw [writeAll, hw]
      exact ⟨(fun h => by cases h), fun _ => ⟨hd.same h1 (write_room _ _ _), h2, h3, h4⟩, write_room _ _ _⟩
    | true =>
      have hb := write_blk hw
      have hr := write_room d (posOf recs + k) (blockB (recs.length + 1) b k)
      have hdn' := write_down hw
      have hlf := write_life hw
      rw [writeAll, hw, if_pos rfl]
      generalize (d.write (posOf recs + k) (blockB (recs.length + 1) b k)).1 = d' at hb hr hdn' hlf ⊢
      by_cases hlast : k + 1 = blocksN b.length
      · obtain rfl : m = 0 := by omega
        rw [writeAll]
        refine ⟨fun _ => ⟨hd.whole hl hN hfit (fun j hj => hpre j (by omega)) (by rw [hb, show blocksN b.length - 1 = k by omega]) hr, hdn', hlf⟩, (fun h => by cases h), hr⟩
      · have h1 := hd.torn (b := b) (k := k) (d' := d') (by omega) hl (by omega) hb hr
        obtain ⟨i1, i2, i3⟩ := writeAll_law hl hN m (k + 1) d' (by omega) h1 hdn' (fun j hj => by
          rw [hb]
          simp only
          by_cases e : j = k
          · rw [if_pos (by omega), e]
          · rw [if_neg (by omega)]
            exact hpre j (by omega)) (by rw [hr]; exact hfit) (by omega)
        exact ⟨fun h => by rw [← hlf]; exact i1 h, fun h => by rw [← hlf]; exact i2 h, i3.trans hr⟩
theorem goneD_no {d : DiskD} {life : Nat} (h : goneD d life = false) : d.down = false ∧ d.life = life := by
  unfold goneD at h
  simp only [Bool.or_eq_false_iff, decide_eq_false_iff_not, ne_eq, Decidable.not_not] at h
  exact h
theorem goneD_iff {d : DiskD} {life : Nat} : goneD d life = true ↔ d.down = true ∨ d.life ≠ life := by
  unfold goneD
  simp
/-- What appending does to the records. -/
theorem appendD_law {d : DiskD} {recs : List (List Nat)} {b : List Nat} {life : Nat} (h : LogOk d recs) (hroom : d.room ≤ 65536) :
    ((appendD d life recs.length (posOf recs) b).2 = none → LogOk (appendD d life recs.length (posOf recs) b).1 (recs ++ [b]) ∧ goneD d life = false ∧ goneD (appendD d life recs.length (posOf recs) b).1 life = false ∧ (appendD d life recs.length (posOf recs) b).1.life = d.life) ∧
    (∀ c, (appendD d life recs.length (posOf recs) b).2 = some c → LogOk (appendD d life recs.length (posOf recs) b).1 recs ∧
      ((c = 71 ∧ (appendD d life recs.length (posOf recs) b).1 = d ∧ d.room - posOf recs < blocksN b.length ∧ goneD d life = false) ∨ (c = 70 ∧ goneD (appendD d life recs.length (posOf recs) b).1 life = true))) ∧
    (appendD d life recs.length (posOf recs) b).1.room = d.room ∧ (appendD d life recs.length (posOf recs) b).1.life ≤ d.life + 1 := by
  have hp := posOf_le recs
  have hfits := h.fits
  unfold appendD
  cases hg : goneD d life with
  | true =>
    rw [if_pos rfl]
    exact ⟨(fun h => by cases h), (fun c hc => by cases hc; exact ⟨h, .inr ⟨rfl, hg⟩⟩), rfl, by simp⟩
  | false =>
    rw [if_neg (by simp)]
    by_cases hf : d.room - posOf recs < blocksN b.length
    · rw [if_pos hf]
      exact ⟨(fun h => by cases h), (fun c hc => by cases hc; exact ⟨h, .inl ⟨rfl, rfl, hf, rfl⟩⟩), rfl, by simp⟩
    · rw [if_neg hf]
      have hb1 := blocksN_pos b.length
      obtain ⟨h1, h2⟩ := goneD_no hg
      obtain ⟨i1, i2, i3⟩ := writeAll_law (recs := recs) (b := b) (by omega) (by omega) (blocksN b.length) 0 d (by omega) h h1 (fun j hj => absurd hj (by omega)) (by omega) (by omega)
      generalize writeAll (recs.length + 1) (posOf recs) b (blocksN b.length) 0 d = x at i1 i2 i3 ⊢
      cases hx : x.2 with
      | true =>
        obtain ⟨j1, j2, j3⟩ := i1 hx
        refine ⟨fun _ => ⟨j1, rfl, ?_, j3⟩, (fun c hc => by simp [hx] at hc), i3, by simp only; omega⟩
        rw [Bool.eq_false_iff]
        intro hh
        rcases goneD_iff.1 hh with hh | hh
        · simp only at hh; rw [j2] at hh; cases hh
        · exact hh (by simp only; omega)
      | false =>
        obtain ⟨j1, j2, j3, j4⟩ := i2 hx
        refine ⟨(fun h => by simp [hx] at h), (fun c hc => ?_), i3, j3⟩
        simp only [hx, Bool.false_eq_true, if_false, Option.some.injEq] at hc
        subst hc
        exact ⟨j1, .inr ⟨rfl, goneD_iff.2 (.inl j2)⟩⟩
end Go.Proofs.YtlmjjhenoadndaaGreatDoor

/- The journal, in plain Lean. -/
namespace Go.Proofs.YtlmjjhenoadndaaGreatDoor
open Go.RowKit Go.Sort

structure WalD where
  blocks : List (List Rw)
  cuts : List Nat
  marked : Nat
inductive Rec where
  | block (l : List Rw)
  | cut
  | mark (n : Nat)
def Rec.bytes : Rec → List Nat
  | .block l => intB 1 ++ rowsB l
  | .cut => intB 2
  | .mark n => intB 3 ++ intB (n : Nat)
def WalD.new : WalD := ⟨[], [], 0⟩
/-- May a record come next. -/
def WalD.ok (x : WalD) : Rec → Prop
  | .block l => l.length ≤ 16 ∧ x.blocks.length < 400 ∧ ∀ r ∈ l, I64 r.k ∧ I64 r.v
  | .cut => x.cuts.length < 60
  | .mark n => x.marked < n ∧ n ≤ x.cuts.length
def WalD.does (x : WalD) : Rec → WalD
  | .block l => ⟨x.blocks ++ [l], x.cuts, x.marked⟩
  | .cut => ⟨x.blocks, x.cuts ++ [x.blocks.length], x.marked⟩
  | .mark n => ⟨x.blocks, x.cuts, n⟩
/-- A journal of these records. -/
inductive Hist : List Rec → WalD → Prop
  | nil : Hist [] WalD.new
  | snoc {rs : List Rec} {x : WalD} (h : Hist rs x) (r : Rec) (hr : x.ok r) : Hist (rs ++ [r]) (x.does r)
structure WalIn (x : WalD) : Prop where
  nb : x.blocks.length ≤ 400
  nc : x.cuts.length ≤ 60
  mkd : x.marked ≤ x.cuts.length
theorem Hist.inn {rs : List Rec} {x : WalD} (h : Hist rs x) : WalIn x := by
  induction h with
  | nil => exact ⟨by simp [WalD.new], by simp [WalD.new], by simp [WalD.new]⟩
  | snoc h r hr ih =>
    cases r with
    | block l => exact ⟨by simp only [WalD.does, List.length_append, List.length_singleton]; have := hr.2.1; omega, ih.nc, ih.mkd⟩
    | cut => exact ⟨ih.nb, by simp only [WalD.does, List.length_append, List.length_singleton]; have := hr; simp only [WalD.ok] at this; omega, by simp only [WalD.does, List.length_append, List.length_singleton]; have := ih.mkd; omega⟩
    | mark n => exact ⟨ih.nb, ih.nc, hr.2⟩
theorem Hist.pre {rs : List Rec} {x : WalD} (h : Hist rs x) : ∀ i r, rs[i]? = some r → ∃ y, Hist (rs.take i) y ∧ y.ok r ∧ Hist (rs.take (i + 1)) (y.does r) := by
  induction h with
  | nil => intro i r hi; simp at hi
  | snoc h r hr ih =>
    rename_i rs x
    intro i r' hi
    rcases Nat.lt_or_ge i rs.length with hlt | hge
    · rw [List.getElem?_append_left hlt] at hi
      rw [List.take_append_of_le_length (by omega), List.take_append_of_le_length (by omega)]
      exact ih i r' hi
    · have hl := (List.getElem?_eq_some_iff.1 hi).1
      simp at hl
      obtain rfl : i = rs.length := by omega
      simp only [List.getElem?_concat_length, Option.some.injEq] at hi
      subst hi
      rw [List.take_left, List.take_of_length_le (by simp)]
      exact ⟨x, h, hr, .snoc h _ hr⟩
theorem Hist.one {rs : List Rec} {x y : WalD} (h : Hist rs x) (k : Hist rs y) : x = y := by
  induction h generalizing y with
  | nil =>
    generalize he : ([] : List Rec) = rs at k
    cases k with
    | nil => rfl
    | snoc k r hr => simp at he
  | snoc h r hr ih =>
    rename_i rs x
    generalize he : rs ++ [r] = rs' at k
    cases k with
    | nil => simp at he
    | snoc k r' hr' =>
      obtain ⟨e1, e2⟩ := List.append_inj' he rfl
      subst e1
      cases e2
      rw [ih k]
theorem rowsB_len {l : List Rw} (hl : l.length ≤ 64) (h : ∀ x ∈ l, I64 x.k ∧ I64 x.v) : (rowsB l).length ≤ 10 + 20 * l.length := by
  unfold rowsB
  rw [List.length_append]
  have h1 := intB_len (n := (l.length : Nat)) (by omega) (by omega)
  have h2 : ∀ m : List Rw, (∀ x ∈ m, I64 x.k ∧ I64 x.v) → (m.flatMap rowB).length ≤ 20 * m.length := by
    intro m
    induction m with
    | nil => intro _; simp
    | cons x m ih =>
      intro hm
      have h3 := ih (fun y hy => hm y (List.mem_cons_of_mem _ hy))
      have h4 := hm x (List.mem_cons_self ..)
      have h5 := intB_len h4.1.1 h4.1.2
      have h6 := intB_len h4.2.1 h4.2.2
      simp only [List.flatMap_cons, List.length_append, rowB, List.length_cons]
      omega
  have := h2 l h
  omega
theorem rowsB_byte (l : List Rw) : ∀ x ∈ rowsB l, x < 256 := by
  intro x hx
  unfold rowsB at hx
  rcases List.mem_append.1 hx with hx | hx
  · exact intB_byte _ _ hx
  · obtain ⟨r, _, hr⟩ := List.mem_flatMap.1 hx
    unfold rowB at hr
    rcases List.mem_append.1 hr with hr | hr
    · exact intB_byte _ _ hr
    · exact intB_byte _ _ hr
theorem intB_pos (n : Int) : 0 < (intB n).length := vB_pos _
theorem Rec.bytes_ok {x : WalD} {r : Rec} (hx : WalIn x) (h : x.ok r) : 0 < r.bytes.length ∧ r.bytes.length ≤ 400 ∧ ∀ b ∈ r.bytes, b < 256 := by
  cases r with
  | block l =>
    have h1 := intB_pos 1
    have h2 := rowsB_len (by have := h.1; omega) h.2.2
    have h3 := intB_len (n := 1) (by omega) (by omega)
    have h4 := h.1
    simp only [Rec.bytes, List.length_append]
    exact ⟨by omega, by omega, fun b hb => (List.mem_append.1 hb).elim (intB_byte _ _) (rowsB_byte _ _)⟩
  | cut =>
    have h3 := intB_len (n := 2) (by omega) (by omega)
    exact ⟨intB_pos 2, by simp only [Rec.bytes]; omega, intB_byte _⟩
  | mark n =>
    have h1 := intB_pos 3
    have h3 := intB_len (n := 3) (by omega) (by omega)
    have h4 := intB_len (n := (n : Nat)) (by omega) (by have := h.2; have := hx.nc; omega)
    simp only [Rec.bytes, List.length_append]
    exact ⟨by omega, by omega, fun b hb => (List.mem_append.1 hb).elim (intB_byte _ _) (intB_byte _ _)⟩
/-- The disk holds the journal. -/
def WalOk (d : DiskD) (x : WalD) (n next : Nat) : Prop := ∃ rs : List Rec, LogOk d (rs.map Rec.bytes) ∧ Hist rs x ∧ n = rs.length ∧ next = posOf (rs.map Rec.bytes)
theorem walOk_new (room : Nat) : WalOk (DiskD.new room) WalD.new 0 0 := ⟨[], logOk_new room, .nil, rfl, rfl⟩
theorem WalOk.same {d d' : DiskD} {x : WalD} {n next : Nat} (h : WalOk d x n next) (hb : d'.blk = d.blk) (hr : d'.room = d.room) : WalOk d' x n next := by
  obtain ⟨rs, h1, h2⟩ := h
  exact ⟨rs, h1.same hb hr, h2⟩
theorem WalOk.inn {d : DiskD} {x : WalD} {n next : Nat} (h : WalOk d x n next) : WalIn x := by
  obtain ⟨rs, _, h2, _⟩ := h
  exact h2.inn
theorem WalOk.le {d : DiskD} {x : WalD} {n next : Nat} (h : WalOk d x n next) : n ≤ next ∧ next ≤ d.room := by
  obtain ⟨rs, h1, _, rfl, rfl⟩ := h
  have := posOf_le (rs.map Rec.bytes)
  rw [List.length_map] at this
  exact ⟨this, h1.fits⟩
/-- A record is appended. -/
theorem WalOk.app {d : DiskD} {x : WalD} {n next life : Nat} {r : Rec} (h : WalOk d x n next) (hroom : d.room ≤ 65536) (hr : x.ok r) :
    ((appendD d life n next r.bytes).2 = none → WalOk (appendD d life n next r.bytes).1 (x.does r) (n + 1) (next + blocksN r.bytes.length) ∧ goneD d life = false ∧ goneD (appendD d life n next r.bytes).1 life = false ∧ (appendD d life n next r.bytes).1.life = d.life) ∧
    (∀ c, (appendD d life n next r.bytes).2 = some c → WalOk (appendD d life n next r.bytes).1 x n next ∧
      ((c = 71 ∧ (appendD d life n next r.bytes).1 = d ∧ d.room - next < blocksN r.bytes.length ∧ goneD d life = false) ∨ (c = 70 ∧ goneD (appendD d life n next r.bytes).1 life = true))) ∧
    (appendD d life n next r.bytes).1.room = d.room ∧ (appendD d life n next r.bytes).1.life ≤ d.life + 1 := by
  obtain ⟨rs, h1, h2, rfl, rfl⟩ := h
  obtain ⟨i1, i2, i3⟩ := appendD_law (b := r.bytes) (life := life) h1 hroom
  rw [List.length_map] at i1 i2 i3
  refine ⟨fun h => ?_, fun c hc => ?_, i3⟩
  · obtain ⟨j1, j2⟩ := i1 h
    exact ⟨⟨rs ++ [r], by rw [List.map_append]; exact j1, .snoc h2 r hr, by simp, by rw [List.map_append]; exact (posOf_snoc _ _).symm⟩, j2⟩
  · obtain ⟨j1, j2⟩ := i2 c hc
    exact ⟨⟨rs, j1, h2, rfl, rfl⟩, j2⟩
end Go.Proofs.YtlmjjhenoadndaaGreatDoor

/- The journal in memory: does, Marked, Batches, the three tests. -/
namespace Go.Proofs.YtlmjjhenoadndaaGreatDoor
open Go.RowKit Go.Sort

section
variable {α : Type} {enc : α → List Value} {te e : TypeId} {z bytes : Nat} {zero : Value}
/-- One element more; where it lies: in the old array or in a new one. -/
theorem wp_appG (C : AppC enc te e z bytes zero) {o : Oper} {a : Act} {K : Act → World → Prop} {Q : Exit → Act → World → Prop} (W : World) (s x : Operand)
    (ho : o.op = .call { callee := .builtin .append, args := #[s, x], argTypes := #[te, te] }) (base : Nat) (v : Value) (l : List α) (hs : a.eval s = v)
    (hown : W.ownsRow base e z v l.length (l.flatMap enc)) (y : α) (g : Nat) (hx : a.eval x = .slice (some ⟨g, 0, none⟩) 1 1) (hg : Bk W g e (enc y).toArray) (hlen : l.length ≤ 1073741824) (hbase : base ≤ W.heap.size)
    (h : ∀ A c w', w'.ownsRow base e z (.slice A (l ++ [y]).length c) (l ++ [y]).length ((l ++ [y]).flatMap enc) → W.grownBy w' v.ownBlock → (l ++ [y]).length ≤ c → ((Value.slice A (l ++ [y]).length c).ownBlock = v.ownBlock ∨ (Value.slice A (l ++ [y]).length c).ownBlock = some W.heap.size) → K (a.put o.dst (.slice A (l ++ [y]).length c)) w') :
    o.wp Tryz.prog a W K Q := by
  obtain ⟨i0, hi0, hz0, hz1, hz2⟩ := info_parts C.info
  have hbb : (l.length + 1) * bytes ≤ 140737488355328 := Nat.le_trans (Nat.mul_le_mul (show l.length + 1 ≤ 1073741825 by omega) C.small) (by omega)
  obtain ⟨v', w', hr, h1, h2, _, h3⟩ := run_append_own_at (P := Tryz.prog) W base te o.type e i0 _ z bytes C.te hi0 hz0 hz1 hz2 C.zz C.z0 v l.length (l.flatMap enc) hown ⟨g, 0, none⟩ 1 1 (enc y) (by rw [C.len]; omega)
    (World.news_of_block (cs := (enc y).toArray) (t := e) (fr := (0, 0)) hg) (C.one y) (by simp only [maxLen]; omega) hbb hbase
  unfold Oper.wp execOp
  simp only [ho, resolve, invoke, builtin, Sem.run_bind, Sem.run_pure, Result.andThen_ok, List.map_toArray, List.map_cons, List.map_nil, hs, hx, hr]
  have h1' : w'.ownsRow base e z v' (l ++ [y]).length ((l ++ [y]).flatMap enc) := by
    rw [List.flatMap_append, List.length_append, List.flatMap_singleton]
    exact h1
  have h1'' := h1'
  rcases h1''.2 with ⟨_, hn⟩ | ⟨b, c, cur, hv, _, _, hc, _⟩
  · simp at hn
  · rw [hv] at h1' h3 ⊢
    exact h _ c w' h1' h2 hc h3
theorem step_appG (C : AppC enc te e z bytes zero) {ops : Array Oper} {o : Oper} {a : Act} {K : Act → World → Prop} {Q : Exit → Act → World → Prop} {E : Prop} (W : World) (hgd : o.guard = none) (s x : Operand)
    (ho : o.op = .call { callee := .builtin .append, args := #[s, x], argTypes := #[te, te] }) (base : Nat) (v : Value) (l : List α) (hs : a.eval s = v)
    (hown : W.ownsRow base e z v l.length (l.flatMap enc)) (y : α) (g : Nat) (hx : a.eval x = .slice (some ⟨g, 0, none⟩) 1 1) (hg : Bk W g e (enc y).toArray) (hlen : l.length ≤ 1073741824) (hbase : base ≤ W.heap.size)
    (h : ∀ A c w', w'.ownsRow base e z (.slice A (l ++ [y]).length c) (l ++ [y]).length ((l ++ [y]).flatMap enc) → W.grownBy w' v.ownBlock → (l ++ [y]).length ≤ c → ((Value.slice A (l ++ [y]).length c).ownBlock = v.ownBlock ∨ (Value.slice A (l ++ [y]).length c).ownBlock = some W.heap.size) → K (a.put o.dst (.slice A (l ++ [y]).length c)) w') :
    if Region.wanted o (yielded ops a.tmps) = true then Oper.wp Tryz.prog o a W K Q else E := by
  rw [if_pos (by simp [Region.wanted, hgd])]
  exact wp_appG C W s x ho base v l hs hown y g hx hg hlen hbase h
end
/-- A block of rows, of its own. -/
structure Ro where
  A : Option Addr
  c : Nat
  l : List Rw
def roC (x : Ro) : List Value := [.slice x.A x.l.length x.c]
theorem ro_app : AppC roC 115 56 1 24 (.slice none 0 0) :=
  ⟨Tryz.underlying115, by kernel_rfl, rfl, by decide, fun _ => rfl, fun x u hu => by simp only [roC, List.mem_cons, List.not_mem_nil, or_false] at hu; subst hu; rfl, by decide⟩
structure WalAt (B wb lb : Nat) (R : Nat → Prop) (x : WalD) (bv cv : Value) (xs : List Ro) (w : World) : Prop where
  bk : Bk w wb 191 #[.pointer (some ⟨lb, 0, none⟩), bv, cv, .int .i64 (x.marked : Nat)]
  ob : w.ownsRow B 56 1 bv xs.length (xs.flatMap roC)
  oc : w.ownsRow B 3 1 cv x.cuts.length (x.cuts.flatMap intC)
  xl : xs.map (·.l) = x.blocks
  ent : ∀ y ∈ xs, w.ownsRow B 74 2 (.slice y.A y.l.length y.c) y.l.length (y.l.flatMap rwC) ∧ ∀ k, (Value.slice y.A y.l.length y.c).ownBlock = some k → R k
  rw_ : R wb
  rb : ∀ k, bv.ownBlock = some k → R k
  rc : ∀ k, cv.ownBlock = some k → R k
  bd : ∀ k, R k → B ≤ k ∧ k < w.heap.size
  inn : WalIn x
section
variable {B wb lb : Nat} {R S : Nat → Prop} {x : WalD} {bv cv : Value} {xs : List Ro} {w w' : World}
theorem WalAt.fr (h : WalAt B wb lb R x bv cv xs w) (hf : Fr S w w') (hR : ∀ k, R k → ¬ S k) : WalAt B wb lb R x bv cv xs w' :=
  ⟨h.bk.fr hf (hR _ h.rw_), own_fr h.ob hf (fun k hk => hR k (h.rb k hk)), own_fr h.oc hf (fun k hk => hR k (h.rc k hk)), h.xl, fun y hy => ⟨own_fr (h.ent y hy).1 hf (fun k hk => hR k ((h.ent y hy).2 k hk)), (h.ent y hy).2⟩, h.rw_, h.rb, h.rc, fun k hk => ⟨(h.bd k hk).1, Nat.lt_of_lt_of_le (h.bd k hk).2 hf.size⟩, h.inn⟩
theorem WalAt.ext (h : WalAt B wb lb R x bv cv xs w) (hb : Below w.heap.size w w') : WalAt B wb lb R x bv cv xs w' := h.fr (S := No) (Fr.of_below hb) (fun _ _ h => h)
theorem WalAt.nb (h : WalAt B wb lb R x bv cv xs w) : xs.length = x.blocks.length := by rw [← h.xl, List.length_map]
end
/-- What a call leaves that turns the journal. -/
def DoesPost (B wb lb : Nat) (R : Nat → Prop) (x' : WalD) (w : World) (e : Ending) (w' : World) : Prop :=
  e = .returned (.tuple #[]) ∧ ∃ (R' : Nat → Prop) (bv cv : Value) (xs : List Ro), WalAt B wb lb R' x' bv cv xs w' ∧ Fr R w w' ∧ ∀ k, R' k → R k ∨ w.heap.size ≤ k
section
variable {B wb lb : Nat} {R : Nat → Prop} {x : WalD} {bv cv : Value} {xs : List Ro}
set_option maxHeartbeats 4000000 in
theorem wMarked_c (w : World) (h : WalAt B wb lb R x bv cv xs w) : Calls Tryz.prog 103 #[.pointer (some ⟨wb, 0, none⟩)] w (Val w (.int .i64 (x.marked : Nat))) := by
  have z3 : w.cell? ⟨wb, 3, none⟩ = some (.int .i64 (x.marked : Nat)) := (h.bk.cell 3).trans rfl
  have hl := h.bk.lt
  clear h
  go_enter Tryz.func103, Tryz.ntmps103
  go_wp2
  go_ret
  exact ⟨rfl, rfl⟩
set_option maxHeartbeats 4000000 in
theorem wBatches_c (w : World) (h : WalAt B wb lb R x bv cv xs w) : Calls Tryz.prog 115 #[.pointer (some ⟨wb, 0, none⟩)] w (Val w (.int .i64 (x.cuts.length : Nat))) := by
  obtain ⟨A, c, rfl, hc⟩ := own_shape h.oc
  have z2 : w.cell? ⟨wb, 2, none⟩ = some (.slice A x.cuts.length c) := (h.bk.cell 2).trans rfl
  have hl := h.bk.lt
  clear h
  go_enter Tryz.func115, Tryz.ntmps115
  go_wp2
  go_ret
  exact ⟨rfl, rfl⟩
set_option maxHeartbeats 4000000 in
theorem wBlocks_n (w : World) (h : WalAt B wb lb R x bv cv xs w) : ∃ A c, bv = .slice A x.blocks.length c ∧ w.cell? ⟨wb, 1, none⟩ = some (.slice A x.blocks.length c) ∧ xs.length ≤ c := by
  obtain ⟨A, c, rfl, hc⟩ := own_shape h.ob
  rw [h.nb] at *
  exact ⟨A, c, rfl, (h.bk.cell 1).trans rfl, by omega⟩
theorem walFault_c (at_ : Int) (n : Nat) (v : Value) (code : Int) (w : World) (h : ErrN w n v code) : Calls Tryz.prog 155 #[.int .i64 at_, v] w (FaultPost w at_ code) := by
  obtain ⟨T, y, rfl⟩ := h.iface
  have HE := Lib.hid h
  clear h
  go_enter Tryz.func155, Tryz.ntmps155
  go_wp2
  go_ret
  exact ⟨_, rfl, ⟨_, _, _, n, rfl, Bk.new _ _ _, HE.out.ext (ext_alloc (Below.refl _ _) _)⟩, ext_alloc (Below.refl _ _) _⟩
end
theorem WalIn.does {x : WalD} {r : Rec} (h : WalIn x) (hr : x.ok r) : WalIn (x.does r) := by
  cases r with
  | block l => exact ⟨by simp only [WalD.does, List.length_append, List.length_singleton]; have := hr.2.1; omega, h.nc, h.mkd⟩
  | cut => exact ⟨h.nb, by simp only [WalD.does, List.length_append, List.length_singleton]; simp only [WalD.ok] at hr; omega, by simp only [WalD.does, List.length_append, List.length_singleton]; have := h.mkd; omega⟩
  | mark n => exact ⟨h.nb, h.nc, hr.2⟩
section
variable {B wb lb : Nat} {R : Nat → Prop} {x : WalD} {bv cv : Value} {xs : List Ro}
theorem does_block_post {l : List Rw} {A1 A2 A4 : Option Addr} {c1 c2 c4 : Nat} {w w2 w4 : World} {o : Obj} (h : WalAt B wb lb R x (.slice A1 xs.length c1) cv xs w) (hok : x.ok (.block l)) (hb2 : Below w.heap.size w w2) (ho2 : w2.ownsRow w.heap.size 74 2 (.slice A2 l.length c2) l.length (l.flatMap rwC))
    (h3 : WalAt B wb lb R x (.slice A1 xs.length c1) cv xs (w2.alloc o)) (ho4 : w4.ownsRow B 56 1 (.slice A4 (xs ++ [(⟨A2, c2, l⟩ : Ro)]).length c4) (xs ++ [(⟨A2, c2, l⟩ : Ro)]).length ((xs ++ [(⟨A2, c2, l⟩ : Ro)]).flatMap roC)) (hg4 : (w2.alloc o).grownBy w4 (Value.slice A1 xs.length c1).ownBlock) (hn4 : (Value.slice A4 (xs ++ [(⟨A2, c2, l⟩ : Ro)]).length c4).ownBlock = (Value.slice A1 xs.length c1).ownBlock ∨ (Value.slice A4 (xs ++ [(⟨A2, c2, l⟩ : Ro)]).length c4).ownBlock = some (w2.alloc o).heap.size) :
    DoesPost B wb lb R (x.does (.block l)) w (.returned (.tuple #[])) (w4.setCell ⟨wb, 1, none⟩ (.slice A4 (xs ++ [(⟨A2, c2, l⟩ : Ro)]).length c4)) := by
  have hk := keepBut_own h3.ob (Nat.le_refl _) hg4
  have hbk := h3.bk.grown hg4 (fun e => own_blk_ne' h3.ob h3.bk (by decide) e.symm)
  have hsz : w.heap.size ≤ w4.heap.size := by have h1 := hb2.size; have h2 := hg4.size; simp only [World.size_alloc] at h2; omega
  have hBw : B ≤ w.heap.size := by have := h.bd _ h.rw_; omega
  have ho2' : w4.ownsRow w.heap.size 74 2 (.slice A2 l.length c2) l.length (l.flatMap rwC) := hk.own (own_ext ho2 (ext_alloc (Below.refl _ _) o)) (by decide)
  have hf4 : Fr R w w4 := by
    have h1 : Fr R w (w2.alloc o) := (Fr.of_below hb2).alloc o
    exact h1.grown hg4 (fun k hk => .inl (h.rb k hk))
  refine ⟨rfl, fun k => R k ∨ (w.heap.size ≤ k ∧ k < w4.heap.size), _, cv, xs ++ [⟨A2, c2, l⟩], ⟨hbk.set_ 1 _, own_far hbk ho4 (by decide) 1 _, own_far hbk (hk.own h3.oc (by decide)) (by decide) 1 _, by simp [WalD.does, h.xl], fun y hy => ?_, .inl h.rw_, fun k hk => ?_, fun k hk => .inl (h.rc k hk), fun k hk => ?_, h.inn.does hok⟩, hf4.set_ (.inl h.rw_) _, fun k hk => hk.imp id And.left⟩
  · rcases List.mem_append.1 hy with hy | hy
    · exact ⟨own_far hbk (hk.own (h3.ent y hy).1 (by decide)) (by decide) 1 _, fun k hk => .inl ((h3.ent y hy).2 k hk)⟩
    · rw [List.mem_singleton] at hy
      subst hy
      refine ⟨own_mono (own_far hbk ho2' (by decide) 1 _) hBw, fun k hk => .inr ?_⟩
      exact ho2'.lt k hk
  · have h1 := ho4.lt k hk
    rcases hn4 with h2 | h2
    · exact .inl (h.rb k (h2.symm.trans hk))
    · rw [h2] at hk
      injection hk with hk
      have := hb2.size
      simp only [World.size_alloc] at hk
      exact .inr ⟨by omega, h1.2⟩
  · rcases hk with hk | hk
    · have := h.bd k hk
      simp only [World.size_setCell]
      omega
    · simp only [World.size_setCell]
      omega
theorem does_cut_post {A2 A4 : Option Addr} {c2 c4 : Nat} {w w3 w4 : World} (h : WalAt B wb lb R x bv (.slice A2 x.cuts.length c2) xs w) (hok : x.ok .cut) (hsz3 : w.heap.size ≤ w3.heap.size) (hf3 : Fr R w w3)
    (h3 : WalAt B wb lb R x bv (.slice A2 x.cuts.length c2) xs w3) (ho4 : w4.ownsRow B 3 1 (.slice A4 (x.cuts ++ [x.blocks.length]).length c4) (x.cuts ++ [x.blocks.length]).length ((x.cuts ++ [x.blocks.length]).flatMap intC)) (hg4 : w3.grownBy w4 (Value.slice A2 x.cuts.length c2).ownBlock) (hn4 : (Value.slice A4 (x.cuts ++ [x.blocks.length]).length c4).ownBlock = (Value.slice A2 x.cuts.length c2).ownBlock ∨ (Value.slice A4 (x.cuts ++ [x.blocks.length]).length c4).ownBlock = some w3.heap.size) :
    DoesPost B wb lb R (x.does .cut) w (.returned (.tuple #[])) (w4.setCell ⟨wb, 2, none⟩ (.slice A4 (x.cuts ++ [x.blocks.length]).length c4)) := by
  have hk := keepBut_own h3.oc (Nat.le_refl _) hg4
  have hbk := h3.bk.grown hg4 (fun e => own_blk_ne' h3.oc h3.bk (by decide) e.symm)
  have hsz : w.heap.size ≤ w4.heap.size := by have h2 := hg4.size; omega
  have hf4 : Fr R w w4 := hf3.grown hg4 (fun k hk => .inl (h.rc k hk))
  refine ⟨rfl, fun k => R k ∨ (w.heap.size ≤ k ∧ k < w4.heap.size), bv, _, xs, ⟨hbk.set_ 2 _, own_far hbk (hk.own h3.ob (by decide)) (by decide) 2 _, own_far hbk ho4 (by decide) 2 _, h.xl, fun y hy => ?_, .inl h.rw_, fun k hk => .inl (h.rb k hk), fun k hk => ?_, fun k hk => ?_, h.inn.does hok⟩, hf4.set_ (.inl h.rw_) _, fun k hk => hk.imp id And.left⟩
  · exact ⟨own_far hbk (hk.own (h3.ent y hy).1 (by decide)) (by decide) 2 _, fun k hk => .inl ((h3.ent y hy).2 k hk)⟩
  · have h1 := ho4.lt k hk
    rcases hn4 with h2 | h2
    · exact .inl (h.rc k (h2.symm.trans hk))
    · rw [h2] at hk
      injection hk with hk
      exact .inr ⟨by omega, h1.2⟩
  · rcases hk with hk | hk
    · have := h.bd k hk
      simp only [World.size_setCell]
      omega
    · have := h.bd _ h.rw_
      simp only [World.size_setCell]
      omega
set_option maxRecDepth 100000 in
set_option maxHeartbeats 8000000 in
theorem does_block (l : List Rw) (A : Option Addr) (c : Nat) (n : Int) (w : World) (h : WalAt B wb lb R x bv cv xs w) (hr : Rd w w.heap.size 74 2 A l.length (l.flatMap rwC)) (hok : x.ok (.block l)) :
    Calls Tryz.prog 207 #[.pointer (some ⟨wb, 0, none⟩), .int .i64 1, .slice A l.length c, .int .i64 n] w (DoesPost B wb lb R (x.does (.block l)) w) := by
  have z1 : w.cell? ⟨wb, 1, none⟩ = some bv := (h.bk.cell 1).trans rfl
  have hl := h.bk.lt
  obtain ⟨A1, c1, rfl, hc1⟩ := own_shape h.ob
  have hl16 := hok.1
  have hnb := h.inn.nb
  have hxs := h.nb
  have HL := Lib.hid (show l.length ≤ 16 from hl16)
  have HX := Lib.hid (show xs.length ≤ 400 by omega)
  have H := Lib.hid h
  have HR := Lib.hid hr
  have HB := Lib.hid (show B ≤ w.heap.size from by have := h.bd _ h.rw_; omega)
  have hok := Lib.hid hok
  clear h hr hl16 hnb hxs
  go_enter Tryz.func207, Tryz.ntmps207
  go_wp2_with fail
  refine wp_region_held_drew (S := fun _ => True) (by kernel_rfl) ?_ (fun hHeld => ?_)
  · go_keep
  refine wpAnyH_take (i := 0) (oi := { dst := some 11, op := Go.Op.move (Go.Operand.tmp 0), type := 102, pos := "wal.go:86", after := #[], guard := none }) (v := ?v1z0) rfl (by kernel_rfl) (by kernel_rfl) (by kernel_rfl) (fun _ _ _ h => h) (Or.inl ⟨by rfl, ?hy1z0⟩) (by assumption) ?rest1z0
  case hy1z0 => (intro w hSw; (try dsimp only at hSw); go_simp; try (with_reducible rfl))
  simp only [Act.put, List.setIfInBounds_toArray, List.set_cons_zero, List.set_cons_succ]
  refine wpAnyH_take (i := 1) (oi := { dst := some 12, op := Go.Op.move (Go.Operand.tmp 0), type := 102, pos := "wal.go:86", after := #[], guard := none }) (v := ?v1z1) rfl (by kernel_rfl) (by kernel_rfl) (by kernel_rfl) (fun _ _ _ h => h) (Or.inl ⟨by rfl, ?hy1z1⟩) (by assumption) ?rest1z1
  case hy1z1 => (intro w hSw; (try dsimp only at hSw); go_simp; try (with_reducible rfl))
  simp only [Act.put, List.setIfInBounds_toArray, List.set_cons_zero, List.set_cons_succ]
  refine wpAnyH_take (i := 2) (oi := { dst := some 13, op := Go.Op.nilCheck (Go.Operand.tmp 12), type := 0, pos := "wal.go:86", after := #[{ on := 1, ground := Go.Ground.data }], guard := none }) (v := ?v1z2) rfl (by kernel_rfl) (by kernel_rfl) (by kernel_rfl) (fun _ _ _ h => h) (Or.inl ⟨by rfl, ?hy1z2⟩) (by assumption) ?rest1z2
  case hy1z2 => (intro w hSw; (try dsimp only at hSw); go_simp; try (with_reducible rfl))
  simp only [Act.put, List.setIfInBounds_toArray, List.set_cons_zero, List.set_cons_succ]
  refine wpAnyH_take (i := 3) (oi := { dst := some 14, op := Go.Op.fieldAddr 191 (Go.Operand.tmp 13) 1, type := 0, pos := "wal.go:86", after := #[{ on := 2, ground := Go.Ground.data }], guard := none }) (v := ?v1z3) rfl (by kernel_rfl) (by kernel_rfl) (by kernel_rfl) (fun _ _ _ h => h) (Or.inl ⟨by rfl, ?hy1z3⟩) (by assumption) ?rest1z3
  case hy1z3 => (intro w hSw; (try dsimp only at hSw); go_simp; try (with_reducible rfl))
  simp only [Act.put, List.setIfInBounds_toArray, List.set_cons_zero, List.set_cons_succ]
  refine wpAnyH_take (i := 5) (oi := { dst := some 16, op := Go.Op.move (Go.Operand.tmp 2), type := 56, pos := "wal.go:86", after := #[], guard := none }) (v := ?v1z5) rfl (by kernel_rfl) (by kernel_rfl) (by kernel_rfl) (fun _ _ _ h => h) (Or.inl ⟨by rfl, ?hy1z5⟩) (by assumption) ?rest1z5
  case hy1z5 => (intro w hSw; (try dsimp only at hSw); go_simp; try (with_reducible rfl))
  simp only [Act.put, List.setIfInBounds_toArray, List.set_cons_zero, List.set_cons_succ]
  refine wpAnyH_ready (rs := [4, 6]) (by kernel_rfl) (by simp) ?_
  refine AllReadyH.cons (o := { dst := some 15, op := Go.Op.load 115 (Go.Operand.tmp 14), type := 115, pos := "wal.go:86", after := #[{ on := 3, ground := Go.Ground.data }], guard := none }) rfl (fun K hK => ?_) ?_
  ·
    go_simp
    refine hK.out _ _ ?_ (fun hHeld => ?_)
    · go_keep
    clear hK K
    try simp only [Act.put, List.setIfInBounds_toArray, List.set_cons_zero, List.set_cons_succ]
    refine wpAnyH_ready (rs := [6]) (by kernel_rfl) (by simp) ?_
    refine AllReadyH.cons (o := { dst := some 17, op := Go.Op.call { callee := Go.Callee.builtin Go.Builtin.append, args := #[Go.Operand.const (Go.Value.slice none 0 0), Go.Operand.tmp 16], argTypes := #[56, 56] }, type := 56, pos := "wal.go:86", after := #[{ on := 5, ground := Go.Ground.data }], guard := none }) rfl (fun K hK => ?_) ?_
    ·
      refine step_appR row_app _ rfl (.const (.slice none 0 0)) (.tmp 16) rfl w.heap.size (.slice none 0 0) [] (by rfl) (World.ownsRow_nil _ _ _ _) l w.heap.size A l.length c (by rfl) rfl (HR.out.ext (below_drewN (Below.refl _ _) 1)) (by have := HL.out; simp only [List.length_nil]; omega) (by simp) ?_
      rw [List.nil_append]
      intro A2 c2 w2 hown2 hg2 hc2
      have HB2 := Lib.hid (show Below w.heap.size w w2 from (Below.drew (Below.refl _ _)).grown hg2 (by simp) (fun k hk => by cases hk))
      have HO2 := Lib.hid hown2
      have H2 := Lib.hid (H.out.ext HB2.out)
      have q1 : w2.cell? ⟨wb, 1, none⟩ = some (.slice A1 xs.length c1) := (H2.out.bk.cell 1).trans rfl
      have q2 := H2.out.bk.lt
      have HE2 := Lib.hid (ext_alloc (Below.refl w2.heap.size w2) (.cells #[.slice A2 l.length c2] 56 (0, 0)))
      have HN2 := Lib.hid (Bk.new w2 56 #[.slice A2 l.length c2])
      have H3 := Lib.hid (H2.out.ext HE2.out)
      have HO3 := Lib.hid (own_ext HO2.out HE2.out)
      clear hown2 hg2
      refine hK.out _ _ ?_ (fun hHeld => ?_)
      · go_keep
      clear hK K
      try simp only [Act.put, List.setIfInBounds_toArray, List.set_cons_zero, List.set_cons_succ]
      refine wpAnyH_ready (rs := [7]) (by kernel_rfl) (by simp) ?_
      refine AllReadyH.cons (o := { dst := some 18, op := Go.Op.buildSlice 115 1 #[(0, Go.Operand.tmp 17)], type := 115, pos := "wal.go:86", after := #[{ on := 6, ground := Go.Ground.data }], guard := none }) rfl (fun K hK => ?_) ?_
      ·
        go_simp
        refine hK.out _ _ ?_ (fun hHeld => ?_)
        · go_keep
        clear hK K
        try simp only [Act.put, List.setIfInBounds_toArray, List.set_cons_zero, List.set_cons_succ]
        refine wpAnyH_ready (rs := [8]) (by kernel_rfl) (by simp) ?_
        refine AllReadyH.cons (o := { dst := some 19, op := Go.Op.call { callee := Go.Callee.builtin Go.Builtin.append, args := #[Go.Operand.tmp 15, Go.Operand.tmp 18], argTypes := #[115, 115] }, type := 115, pos := "wal.go:86", after := #[{ on := 4, ground := Go.Ground.data }, { on := 7, ground := Go.Ground.data }, { on := 6, ground := Go.Ground.chain }], guard := none }) rfl (fun K hK => ?_) ?_
        ·
          refine step_appG ro_app _ rfl (.tmp 15) (.tmp 18) rfl B (.slice A1 xs.length c1) xs (by rfl) H3.out.ob ⟨A2, c2, l⟩ w2.heap.size (by rfl) HN2.out (by have := HX.out; omega) (by have := HB.out; have := HB2.out.size; simp only [World.size_alloc]; omega) ?_
          intro A4 c4 w4 hown4 hg4 hc4 hn4
          have HN4 := Lib.hid hn4
          have HG4 := Lib.hid hg4
          have HO4 := Lib.hid hown4
          have HW4 := Lib.hid (H3.out.bk.grown hg4 (fun e => own_blk_ne' H3.out.ob H3.out.bk (by decide) e.symm))
          have r1 := HW4.out.frozen 1
          have r2 : w4.cell? ⟨wb, 1, none⟩ = some (.slice A1 xs.length c1) := (HW4.out.cell 1).trans rfl
          have r3 := HW4.out.lt
          clear hown4 hg4 hn4
          refine hK.out _ _ ?_ (fun hHeld => ?_)
          · go_keep
          clear hK K
          try simp only [Act.put, List.setIfInBounds_toArray, List.set_cons_zero, List.set_cons_succ]
          refine wpAnyH_take (i := 9) (oi := { dst := some 20, op := Go.Op.nilCheck (Go.Operand.tmp 11), type := 0, pos := "wal.go:86", after := #[{ on := 0, ground := Go.Ground.data }, { on := 0, ground := Go.Ground.phase }, { on := 1, ground := Go.Ground.phase }, { on := 2, ground := Go.Ground.phase }, { on := 3, ground := Go.Ground.phase }, { on := 4, ground := Go.Ground.phase }, { on := 5, ground := Go.Ground.phase }, { on := 6, ground := Go.Ground.phase }, { on := 7, ground := Go.Ground.phase }, { on := 8, ground := Go.Ground.phase }], guard := none }) (v := ?v1z9) rfl (by kernel_rfl) (by kernel_rfl) (by kernel_rfl) (fun _ _ _ h => h) (Or.inl ⟨by rfl, ?hy1z9⟩) (by assumption) ?rest1z9
          case hy1z9 => (intro w hSw; (try dsimp only at hSw); go_simp; try (with_reducible rfl))
          simp only [Act.put, List.setIfInBounds_toArray, List.set_cons_zero, List.set_cons_succ]
          refine wpAnyH_take (i := 10) (oi := { dst := some 21, op := Go.Op.fieldAddr 191 (Go.Operand.tmp 20) 1, type := 0, pos := "wal.go:86", after := #[{ on := 9, ground := Go.Ground.data }, { on := 0, ground := Go.Ground.phase }, { on := 1, ground := Go.Ground.phase }, { on := 2, ground := Go.Ground.phase }, { on := 3, ground := Go.Ground.phase }, { on := 4, ground := Go.Ground.phase }, { on := 5, ground := Go.Ground.phase }, { on := 6, ground := Go.Ground.phase }, { on := 7, ground := Go.Ground.phase }, { on := 8, ground := Go.Ground.phase }], guard := none }) (v := ?v1z10) rfl (by kernel_rfl) (by kernel_rfl) (by kernel_rfl) (fun _ _ _ h => h) (Or.inl ⟨by rfl, ?hy1z10⟩) (by assumption) ?rest1z10
          case hy1z10 => (intro w hSw; (try dsimp only at hSw); go_simp; try (with_reducible rfl))
          simp only [Act.put, List.setIfInBounds_toArray, List.set_cons_zero, List.set_cons_succ]
          refine wpAnyH_ready (rs := [11]) (by kernel_rfl) (by simp) ?_
          refine AllReadyH.cons (o := { dst := none, op := Go.Op.store 115 (Go.Operand.tmp 21) (Go.Operand.tmp 19), type := 0, pos := "wal.go:86", after := #[{ on := 10, ground := Go.Ground.data }, { on := 8, ground := Go.Ground.data }, { on := 8, ground := Go.Ground.chain }, { on := 0, ground := Go.Ground.phase }, { on := 1, ground := Go.Ground.phase }, { on := 2, ground := Go.Ground.phase }, { on := 3, ground := Go.Ground.phase }, { on := 4, ground := Go.Ground.phase }, { on := 5, ground := Go.Ground.phase }, { on := 6, ground := Go.Ground.phase }, { on := 7, ground := Go.Ground.phase }, { on := 8, ground := Go.Ground.phase }], guard := none }) rfl (fun K hK => ?_) ?_
          ·
            go_simp
            refine hK.out _ _ ?_ (fun hHeld => ?_)
            · go_keep
            clear hK K
            try simp only [Act.put]
            refine wpAnyH_done (by kernel_rfl) ?_ _
            go_wp2_with fail
            go_returns
            rw [show xs.length + 1 = (xs ++ [(⟨A2, c2, l⟩ : Ro)]).length from by simp]
            exact does_block_post H.out hok.out HB2.out HO2.out H3.out HO4.out HG4.out HN4.out
          exact AllReadyH.nil
        exact AllReadyH.nil
      exact AllReadyH.nil
    exact AllReadyH.nil
  refine AllReadyH.cons (o := { dst := some 17, op := Go.Op.call { callee := Go.Callee.builtin Go.Builtin.append, args := #[Go.Operand.const (Go.Value.slice none 0 0), Go.Operand.tmp 16], argTypes := #[56, 56] }, type := 56, pos := "wal.go:86", after := #[{ on := 5, ground := Go.Ground.data }], guard := none }) rfl (fun K hK => ?_) ?_
  ·
    refine step_appR row_app _ rfl (.const (.slice none 0 0)) (.tmp 16) rfl w.heap.size (.slice none 0 0) [] (by rfl) (World.ownsRow_nil _ _ _ _) l w.heap.size A l.length c (by rfl) rfl (HR.out.ext (below_drewN (Below.refl _ _) 1)) (by have := HL.out; simp only [List.length_nil]; omega) (by simp) ?_
    rw [List.nil_append]
    intro A2 c2 w2 hown2 hg2 hc2
    have HB2 := Lib.hid (show Below w.heap.size w w2 from (Below.drew (Below.refl _ _)).grown hg2 (by simp) (fun k hk => by cases hk))
    have HO2 := Lib.hid hown2
    have H2 := Lib.hid (H.out.ext HB2.out)
    have q1 : w2.cell? ⟨wb, 1, none⟩ = some (.slice A1 xs.length c1) := (H2.out.bk.cell 1).trans rfl
    have q2 := H2.out.bk.lt
    have HE2 := Lib.hid (ext_alloc (Below.refl w2.heap.size w2) (.cells #[.slice A2 l.length c2] 56 (0, 0)))
    have HN2 := Lib.hid (Bk.new w2 56 #[.slice A2 l.length c2])
    have H3 := Lib.hid (H2.out.ext HE2.out)
    have HO3 := Lib.hid (own_ext HO2.out HE2.out)
    clear hown2 hg2
    refine hK.out _ _ ?_ (fun hHeld => ?_)
    · go_keep
    clear hK K
    try simp only [Act.put, List.setIfInBounds_toArray, List.set_cons_zero, List.set_cons_succ]
    refine wpAnyH_ready (rs := [4, 7]) (by kernel_rfl) (by simp) ?_
    refine AllReadyH.cons (o := { dst := some 15, op := Go.Op.load 115 (Go.Operand.tmp 14), type := 115, pos := "wal.go:86", after := #[{ on := 3, ground := Go.Ground.data }], guard := none }) rfl (fun K hK => ?_) ?_
    ·
      go_simp
      refine hK.out _ _ ?_ (fun hHeld => ?_)
      · go_keep
      clear hK K
      try simp only [Act.put, List.setIfInBounds_toArray, List.set_cons_zero, List.set_cons_succ]
      refine wpAnyH_ready (rs := [7]) (by kernel_rfl) (by simp) ?_
      refine AllReadyH.cons (o := { dst := some 18, op := Go.Op.buildSlice 115 1 #[(0, Go.Operand.tmp 17)], type := 115, pos := "wal.go:86", after := #[{ on := 6, ground := Go.Ground.data }], guard := none }) rfl (fun K hK => ?_) ?_
      ·
        go_simp
        refine hK.out _ _ ?_ (fun hHeld => ?_)
        · go_keep
        clear hK K
        try simp only [Act.put, List.setIfInBounds_toArray, List.set_cons_zero, List.set_cons_succ]
        refine wpAnyH_ready (rs := [8]) (by kernel_rfl) (by simp) ?_
        refine AllReadyH.cons (o := { dst := some 19, op := Go.Op.call { callee := Go.Callee.builtin Go.Builtin.append, args := #[Go.Operand.tmp 15, Go.Operand.tmp 18], argTypes := #[115, 115] }, type := 115, pos := "wal.go:86", after := #[{ on := 4, ground := Go.Ground.data }, { on := 7, ground := Go.Ground.data }, { on := 6, ground := Go.Ground.chain }], guard := none }) rfl (fun K hK => ?_) ?_
        ·
          refine step_appG ro_app _ rfl (.tmp 15) (.tmp 18) rfl B (.slice A1 xs.length c1) xs (by rfl) H3.out.ob ⟨A2, c2, l⟩ w2.heap.size (by rfl) HN2.out (by have := HX.out; omega) (by have := HB.out; have := HB2.out.size; simp only [World.size_alloc]; omega) ?_
          intro A4 c4 w4 hown4 hg4 hc4 hn4
          have HN4 := Lib.hid hn4
          have HG4 := Lib.hid hg4
          have HO4 := Lib.hid hown4
          have HW4 := Lib.hid (H3.out.bk.grown hg4 (fun e => own_blk_ne' H3.out.ob H3.out.bk (by decide) e.symm))
          have r1 := HW4.out.frozen 1
          have r2 : w4.cell? ⟨wb, 1, none⟩ = some (.slice A1 xs.length c1) := (HW4.out.cell 1).trans rfl
          have r3 := HW4.out.lt
          clear hown4 hg4 hn4
          refine hK.out _ _ ?_ (fun hHeld => ?_)
          · go_keep
          clear hK K
          try simp only [Act.put, List.setIfInBounds_toArray, List.set_cons_zero, List.set_cons_succ]
          refine wpAnyH_take (i := 9) (oi := { dst := some 20, op := Go.Op.nilCheck (Go.Operand.tmp 11), type := 0, pos := "wal.go:86", after := #[{ on := 0, ground := Go.Ground.data }, { on := 0, ground := Go.Ground.phase }, { on := 1, ground := Go.Ground.phase }, { on := 2, ground := Go.Ground.phase }, { on := 3, ground := Go.Ground.phase }, { on := 4, ground := Go.Ground.phase }, { on := 5, ground := Go.Ground.phase }, { on := 6, ground := Go.Ground.phase }, { on := 7, ground := Go.Ground.phase }, { on := 8, ground := Go.Ground.phase }], guard := none }) (v := ?v1z9x1) rfl (by kernel_rfl) (by kernel_rfl) (by kernel_rfl) (fun _ _ _ h => h) (Or.inl ⟨by rfl, ?hy1z9x1⟩) (by assumption) ?rest1z9x1
          case hy1z9x1 => (intro w hSw; (try dsimp only at hSw); go_simp; try (with_reducible rfl))
          simp only [Act.put, List.setIfInBounds_toArray, List.set_cons_zero, List.set_cons_succ]
          refine wpAnyH_take (i := 10) (oi := { dst := some 21, op := Go.Op.fieldAddr 191 (Go.Operand.tmp 20) 1, type := 0, pos := "wal.go:86", after := #[{ on := 9, ground := Go.Ground.data }, { on := 0, ground := Go.Ground.phase }, { on := 1, ground := Go.Ground.phase }, { on := 2, ground := Go.Ground.phase }, { on := 3, ground := Go.Ground.phase }, { on := 4, ground := Go.Ground.phase }, { on := 5, ground := Go.Ground.phase }, { on := 6, ground := Go.Ground.phase }, { on := 7, ground := Go.Ground.phase }, { on := 8, ground := Go.Ground.phase }], guard := none }) (v := ?v1z10x1) rfl (by kernel_rfl) (by kernel_rfl) (by kernel_rfl) (fun _ _ _ h => h) (Or.inl ⟨by rfl, ?hy1z10x1⟩) (by assumption) ?rest1z10x1
          case hy1z10x1 => (intro w hSw; (try dsimp only at hSw); go_simp; try (with_reducible rfl))
          simp only [Act.put, List.setIfInBounds_toArray, List.set_cons_zero, List.set_cons_succ]
          refine wpAnyH_ready (rs := [11]) (by kernel_rfl) (by simp) ?_
          refine AllReadyH.cons (o := { dst := none, op := Go.Op.store 115 (Go.Operand.tmp 21) (Go.Operand.tmp 19), type := 0, pos := "wal.go:86", after := #[{ on := 10, ground := Go.Ground.data }, { on := 8, ground := Go.Ground.data }, { on := 8, ground := Go.Ground.chain }, { on := 0, ground := Go.Ground.phase }, { on := 1, ground := Go.Ground.phase }, { on := 2, ground := Go.Ground.phase }, { on := 3, ground := Go.Ground.phase }, { on := 4, ground := Go.Ground.phase }, { on := 5, ground := Go.Ground.phase }, { on := 6, ground := Go.Ground.phase }, { on := 7, ground := Go.Ground.phase }, { on := 8, ground := Go.Ground.phase }], guard := none }) rfl (fun K hK => ?_) ?_
          ·
            go_simp
            refine hK.out _ _ ?_ (fun hHeld => ?_)
            · go_keep
            clear hK K
            try simp only [Act.put]
            refine wpAnyH_done (by kernel_rfl) ?_ _
            go_wp2_with fail
            go_returns
            rw [show xs.length + 1 = (xs ++ [(⟨A2, c2, l⟩ : Ro)]).length from by simp]
            exact does_block_post H.out hok.out HB2.out HO2.out H3.out HO4.out HG4.out HN4.out
          exact AllReadyH.nil
        exact AllReadyH.nil
      exact AllReadyH.nil
    refine AllReadyH.cons (o := { dst := some 18, op := Go.Op.buildSlice 115 1 #[(0, Go.Operand.tmp 17)], type := 115, pos := "wal.go:86", after := #[{ on := 6, ground := Go.Ground.data }], guard := none }) rfl (fun K hK => ?_) ?_
    ·
      go_simp
      refine hK.out _ _ ?_ (fun hHeld => ?_)
      · go_keep
      clear hK K
      try simp only [Act.put, List.setIfInBounds_toArray, List.set_cons_zero, List.set_cons_succ]
      refine wpAnyH_ready (rs := [4]) (by kernel_rfl) (by simp) ?_
      refine AllReadyH.cons (o := { dst := some 15, op := Go.Op.load 115 (Go.Operand.tmp 14), type := 115, pos := "wal.go:86", after := #[{ on := 3, ground := Go.Ground.data }], guard := none }) rfl (fun K hK => ?_) ?_
      ·
        go_simp
        refine hK.out _ _ ?_ (fun hHeld => ?_)
        · go_keep
        clear hK K
        try simp only [Act.put, List.setIfInBounds_toArray, List.set_cons_zero, List.set_cons_succ]
        refine wpAnyH_ready (rs := [8]) (by kernel_rfl) (by simp) ?_
        refine AllReadyH.cons (o := { dst := some 19, op := Go.Op.call { callee := Go.Callee.builtin Go.Builtin.append, args := #[Go.Operand.tmp 15, Go.Operand.tmp 18], argTypes := #[115, 115] }, type := 115, pos := "wal.go:86", after := #[{ on := 4, ground := Go.Ground.data }, { on := 7, ground := Go.Ground.data }, { on := 6, ground := Go.Ground.chain }], guard := none }) rfl (fun K hK => ?_) ?_
        ·
          refine step_appG ro_app _ rfl (.tmp 15) (.tmp 18) rfl B (.slice A1 xs.length c1) xs (by rfl) H3.out.ob ⟨A2, c2, l⟩ w2.heap.size (by rfl) HN2.out (by have := HX.out; omega) (by have := HB.out; have := HB2.out.size; simp only [World.size_alloc]; omega) ?_
          intro A4 c4 w4 hown4 hg4 hc4 hn4
          have HN4 := Lib.hid hn4
          have HG4 := Lib.hid hg4
          have HO4 := Lib.hid hown4
          have HW4 := Lib.hid (H3.out.bk.grown hg4 (fun e => own_blk_ne' H3.out.ob H3.out.bk (by decide) e.symm))
          have r1 := HW4.out.frozen 1
          have r2 : w4.cell? ⟨wb, 1, none⟩ = some (.slice A1 xs.length c1) := (HW4.out.cell 1).trans rfl
          have r3 := HW4.out.lt
          clear hown4 hg4 hn4
          refine hK.out _ _ ?_ (fun hHeld => ?_)
          · go_keep
          clear hK K
          try simp only [Act.put, List.setIfInBounds_toArray, List.set_cons_zero, List.set_cons_succ]
          refine wpAnyH_take (i := 9) (oi := { dst := some 20, op := Go.Op.nilCheck (Go.Operand.tmp 11), type := 0, pos := "wal.go:86", after := #[{ on := 0, ground := Go.Ground.data }, { on := 0, ground := Go.Ground.phase }, { on := 1, ground := Go.Ground.phase }, { on := 2, ground := Go.Ground.phase }, { on := 3, ground := Go.Ground.phase }, { on := 4, ground := Go.Ground.phase }, { on := 5, ground := Go.Ground.phase }, { on := 6, ground := Go.Ground.phase }, { on := 7, ground := Go.Ground.phase }, { on := 8, ground := Go.Ground.phase }], guard := none }) (v := ?v1z9x2) rfl (by kernel_rfl) (by kernel_rfl) (by kernel_rfl) (fun _ _ _ h => h) (Or.inl ⟨by rfl, ?hy1z9x2⟩) (by assumption) ?rest1z9x2
          case hy1z9x2 => (intro w hSw; (try dsimp only at hSw); go_simp; try (with_reducible rfl))
          simp only [Act.put, List.setIfInBounds_toArray, List.set_cons_zero, List.set_cons_succ]
          refine wpAnyH_take (i := 10) (oi := { dst := some 21, op := Go.Op.fieldAddr 191 (Go.Operand.tmp 20) 1, type := 0, pos := "wal.go:86", after := #[{ on := 9, ground := Go.Ground.data }, { on := 0, ground := Go.Ground.phase }, { on := 1, ground := Go.Ground.phase }, { on := 2, ground := Go.Ground.phase }, { on := 3, ground := Go.Ground.phase }, { on := 4, ground := Go.Ground.phase }, { on := 5, ground := Go.Ground.phase }, { on := 6, ground := Go.Ground.phase }, { on := 7, ground := Go.Ground.phase }, { on := 8, ground := Go.Ground.phase }], guard := none }) (v := ?v1z10x2) rfl (by kernel_rfl) (by kernel_rfl) (by kernel_rfl) (fun _ _ _ h => h) (Or.inl ⟨by rfl, ?hy1z10x2⟩) (by assumption) ?rest1z10x2
          case hy1z10x2 => (intro w hSw; (try dsimp only at hSw); go_simp; try (with_reducible rfl))
          simp only [Act.put, List.setIfInBounds_toArray, List.set_cons_zero, List.set_cons_succ]
          refine wpAnyH_ready (rs := [11]) (by kernel_rfl) (by simp) ?_
          refine AllReadyH.cons (o := { dst := none, op := Go.Op.store 115 (Go.Operand.tmp 21) (Go.Operand.tmp 19), type := 0, pos := "wal.go:86", after := #[{ on := 10, ground := Go.Ground.data }, { on := 8, ground := Go.Ground.data }, { on := 8, ground := Go.Ground.chain }, { on := 0, ground := Go.Ground.phase }, { on := 1, ground := Go.Ground.phase }, { on := 2, ground := Go.Ground.phase }, { on := 3, ground := Go.Ground.phase }, { on := 4, ground := Go.Ground.phase }, { on := 5, ground := Go.Ground.phase }, { on := 6, ground := Go.Ground.phase }, { on := 7, ground := Go.Ground.phase }, { on := 8, ground := Go.Ground.phase }], guard := none }) rfl (fun K hK => ?_) ?_
          ·
            go_simp
            refine hK.out _ _ ?_ (fun hHeld => ?_)
            · go_keep
            clear hK K
            try simp only [Act.put]
            refine wpAnyH_done (by kernel_rfl) ?_ _
            go_wp2_with fail
            go_returns
            rw [show xs.length + 1 = (xs ++ [(⟨A2, c2, l⟩ : Ro)]).length from by simp]
            exact does_block_post H.out hok.out HB2.out HO2.out H3.out HO4.out HG4.out HN4.out
          exact AllReadyH.nil
        exact AllReadyH.nil
      exact AllReadyH.nil
    exact AllReadyH.nil
  exact AllReadyH.nil
set_option maxRecDepth 100000 in
set_option maxHeartbeats 8000000 in
theorem does_cut (A : Option Addr) (m c : Nat) (n : Int) (w : World) (h : WalAt B wb lb R x bv cv xs w) (hok : x.ok .cut) :
    Calls Tryz.prog 207 #[.pointer (some ⟨wb, 0, none⟩), .int .i64 2, .slice A m c, .int .i64 n] w (DoesPost B wb lb R (x.does .cut) w) := by
  obtain ⟨A1, c1, hbv, z1, hc1⟩ := wBlocks_n w h
  obtain ⟨A2, c2, rfl, hc2⟩ := own_shape h.oc
  have z2 : w.cell? ⟨wb, 2, none⟩ = some (.slice A2 x.cuts.length c2) := (h.bk.cell 2).trans rfl
  have hl := h.bk.lt
  have HX := Lib.hid h.inn
  have H := Lib.hid h
  have HB := Lib.hid (show B ≤ w.heap.size from by have := h.bd _ h.rw_; omega)
  have HE2 := Lib.hid (ext_alloc (below_drewN (Below.refl w.heap.size w) 1) (.cells #[.int .i64 (x.blocks.length : Nat)] 3 (0, 0)))
  have HN2 := Lib.hid (Bk.new (w.drewN 1) 3 #[.int .i64 (x.blocks.length : Nat)])
  have H3 := Lib.hid (H.out.ext HE2.out)
  have hok := Lib.hid hok
  clear h
  go_enter Tryz.func207, Tryz.ntmps207
  go_wp2_with fail
  refine wp_region_held_drew (S := fun _ => True) (by kernel_rfl) ?_ (fun hHeld => ?_)
  · go_keep
  refine wpAnyH_take (i := 0) (oi := { dst := some 24, op := Go.Op.move (Go.Operand.tmp 0), type := 102, pos := "wal.go:88", after := #[], guard := none }) (v := ?v2z0) rfl (by kernel_rfl) (by kernel_rfl) (by kernel_rfl) (fun _ _ _ h => h) (Or.inl ⟨by rfl, ?hy2z0⟩) (by assumption) ?rest2z0
  case hy2z0 => (intro w hSw; (try dsimp only at hSw); go_simp; try (with_reducible rfl))
  simp only [Act.put, List.setIfInBounds_toArray, List.set_cons_zero, List.set_cons_succ]
  refine wpAnyH_take (i := 1) (oi := { dst := some 25, op := Go.Op.move (Go.Operand.tmp 0), type := 102, pos := "wal.go:88", after := #[], guard := none }) (v := ?v2z1) rfl (by kernel_rfl) (by kernel_rfl) (by kernel_rfl) (fun _ _ _ h => h) (Or.inl ⟨by rfl, ?hy2z1⟩) (by assumption) ?rest2z1
  case hy2z1 => (intro w hSw; (try dsimp only at hSw); go_simp; try (with_reducible rfl))
  simp only [Act.put, List.setIfInBounds_toArray, List.set_cons_zero, List.set_cons_succ]
  refine wpAnyH_take (i := 2) (oi := { dst := some 26, op := Go.Op.nilCheck (Go.Operand.tmp 25), type := 0, pos := "wal.go:88", after := #[{ on := 1, ground := Go.Ground.data }], guard := none }) (v := ?v2z2) rfl (by kernel_rfl) (by kernel_rfl) (by kernel_rfl) (fun _ _ _ h => h) (Or.inl ⟨by rfl, ?hy2z2⟩) (by assumption) ?rest2z2
  case hy2z2 => (intro w hSw; (try dsimp only at hSw); go_simp; try (with_reducible rfl))
  simp only [Act.put, List.setIfInBounds_toArray, List.set_cons_zero, List.set_cons_succ]
  refine wpAnyH_take (i := 3) (oi := { dst := some 27, op := Go.Op.fieldAddr 191 (Go.Operand.tmp 26) 2, type := 0, pos := "wal.go:88", after := #[{ on := 2, ground := Go.Ground.data }], guard := none }) (v := ?v2z3) rfl (by kernel_rfl) (by kernel_rfl) (by kernel_rfl) (fun _ _ _ h => h) (Or.inl ⟨by rfl, ?hy2z3⟩) (by assumption) ?rest2z3
  case hy2z3 => (intro w hSw; (try dsimp only at hSw); go_simp; try (with_reducible rfl))
  simp only [Act.put, List.setIfInBounds_toArray, List.set_cons_zero, List.set_cons_succ]
  refine wpAnyH_take (i := 5) (oi := { dst := some 29, op := Go.Op.move (Go.Operand.tmp 0), type := 102, pos := "wal.go:88", after := #[], guard := none }) (v := ?v2z5) rfl (by kernel_rfl) (by kernel_rfl) (by kernel_rfl) (fun _ _ _ h => h) (Or.inl ⟨by rfl, ?hy2z5⟩) (by assumption) ?rest2z5
  case hy2z5 => (intro w hSw; (try dsimp only at hSw); go_simp; try (with_reducible rfl))
  simp only [Act.put, List.setIfInBounds_toArray, List.set_cons_zero, List.set_cons_succ]
  refine wpAnyH_take (i := 6) (oi := { dst := some 30, op := Go.Op.nilCheck (Go.Operand.tmp 29), type := 0, pos := "wal.go:88", after := #[{ on := 5, ground := Go.Ground.data }], guard := none }) (v := ?v2z6) rfl (by kernel_rfl) (by kernel_rfl) (by kernel_rfl) (fun _ _ _ h => h) (Or.inl ⟨by rfl, ?hy2z6⟩) (by assumption) ?rest2z6
  case hy2z6 => (intro w hSw; (try dsimp only at hSw); go_simp; try (with_reducible rfl))
  simp only [Act.put, List.setIfInBounds_toArray, List.set_cons_zero, List.set_cons_succ]
  refine wpAnyH_take (i := 7) (oi := { dst := some 31, op := Go.Op.fieldAddr 191 (Go.Operand.tmp 30) 1, type := 0, pos := "wal.go:88", after := #[{ on := 6, ground := Go.Ground.data }], guard := none }) (v := ?v2z7) rfl (by kernel_rfl) (by kernel_rfl) (by kernel_rfl) (fun _ _ _ h => h) (Or.inl ⟨by rfl, ?hy2z7⟩) (by assumption) ?rest2z7
  case hy2z7 => (intro w hSw; (try dsimp only at hSw); go_simp; try (with_reducible rfl))
  simp only [Act.put, List.setIfInBounds_toArray, List.set_cons_zero, List.set_cons_succ]
  refine wpAnyH_ready (rs := [4, 8]) (by kernel_rfl) (by simp) ?_
  refine AllReadyH.cons (o := { dst := some 28, op := Go.Op.load 55 (Go.Operand.tmp 27), type := 55, pos := "wal.go:88", after := #[{ on := 3, ground := Go.Ground.data }], guard := none }) rfl (fun K hK => ?_) ?_
  ·
    go_simp
    refine hK.out _ _ ?_ (fun hHeld => ?_)
    · go_keep
    clear hK K
    try simp only [Act.put, List.setIfInBounds_toArray, List.set_cons_zero, List.set_cons_succ]
    refine wpAnyH_ready (rs := [8]) (by kernel_rfl) (by simp) ?_
    refine AllReadyH.cons (o := { dst := some 32, op := Go.Op.load 115 (Go.Operand.tmp 31), type := 115, pos := "wal.go:88", after := #[{ on := 7, ground := Go.Ground.data }], guard := none }) rfl (fun K hK => ?_) ?_
    ·
      go_simp
      refine hK.out _ _ ?_ (fun hHeld => ?_)
      · go_keep
      clear hK K
      try simp only [Act.put, List.setIfInBounds_toArray, List.set_cons_zero, List.set_cons_succ]
      refine wpAnyH_take (i := 9) (oi := { dst := some 33, op := Go.Op.call { callee := Go.Callee.builtin Go.Builtin.len, args := #[Go.Operand.tmp 32], argTypes := #[115] }, type := 3, pos := "wal.go:88", after := #[{ on := 8, ground := Go.Ground.data }], guard := none }) (v := ?v2z9) rfl (by kernel_rfl) (by kernel_rfl) (by kernel_rfl) (fun _ _ _ h => h) (Or.inl ⟨by rfl, ?hy2z9⟩) (by assumption) ?rest2z9
      case hy2z9 => (intro w hSw; (try dsimp only at hSw); go_simp; try (with_reducible rfl))
      simp only [Act.put, List.setIfInBounds_toArray, List.set_cons_zero, List.set_cons_succ]
      refine wpAnyH_ready (rs := [10]) (by kernel_rfl) (by simp) ?_
      refine AllReadyH.cons (o := { dst := some 34, op := Go.Op.buildSlice 55 1 #[(0, Go.Operand.tmp 33)], type := 55, pos := "wal.go:88", after := #[{ on := 9, ground := Go.Ground.data }], guard := none }) rfl (fun K hK => ?_) ?_
      ·
        go_simp
        refine hK.out _ _ ?_ (fun hHeld => ?_)
        · go_keep
        clear hK K
        try simp only [Act.put, List.setIfInBounds_toArray, List.set_cons_zero, List.set_cons_succ]
        refine wpAnyH_ready (rs := [11]) (by kernel_rfl) (by simp) ?_
        refine AllReadyH.cons (o := { dst := some 35, op := Go.Op.call { callee := Go.Callee.builtin Go.Builtin.append, args := #[Go.Operand.tmp 28, Go.Operand.tmp 34], argTypes := #[55, 55] }, type := 55, pos := "wal.go:88", after := #[{ on := 4, ground := Go.Ground.data }, { on := 10, ground := Go.Ground.data }], guard := none }) rfl (fun K hK => ?_) ?_
        ·
          refine step_appG int_app _ rfl (.tmp 28) (.tmp 34) rfl B (.slice A2 x.cuts.length c2) x.cuts (by rfl) H3.out.oc x.blocks.length w.heap.size (by rfl) HN2.out (by have := HX.out.nc; omega) (by have h1 := HB.out; have h2 := HE2.out.size; exact Nat.le_trans h1 h2) ?_
          intro A4 c4 w4 hown4 hg4 hc4 hn4
          have HN4 := Lib.hid hn4
          have HG4 := Lib.hid hg4
          have HO4 := Lib.hid hown4
          have HW4 := Lib.hid (H3.out.bk.grown hg4 (fun e => own_blk_ne' H3.out.oc H3.out.bk (by decide) e.symm))
          have r1 := HW4.out.frozen 2
          have r2 : w4.cell? ⟨wb, 2, none⟩ = some (.slice A2 x.cuts.length c2) := (HW4.out.cell 2).trans rfl
          have r3 := HW4.out.lt
          clear hown4 hg4 hn4
          refine hK.out _ _ ?_ (fun hHeld => ?_)
          · go_keep
          clear hK K
          try simp only [Act.put, List.setIfInBounds_toArray, List.set_cons_zero, List.set_cons_succ]
          refine wpAnyH_take (i := 12) (oi := { dst := some 36, op := Go.Op.nilCheck (Go.Operand.tmp 24), type := 0, pos := "wal.go:88", after := #[{ on := 0, ground := Go.Ground.data }, { on := 0, ground := Go.Ground.phase }, { on := 1, ground := Go.Ground.phase }, { on := 2, ground := Go.Ground.phase }, { on := 3, ground := Go.Ground.phase }, { on := 4, ground := Go.Ground.phase }, { on := 5, ground := Go.Ground.phase }, { on := 6, ground := Go.Ground.phase }, { on := 7, ground := Go.Ground.phase }, { on := 8, ground := Go.Ground.phase }, { on := 9, ground := Go.Ground.phase }, { on := 10, ground := Go.Ground.phase }, { on := 11, ground := Go.Ground.phase }], guard := none }) (v := ?v2z12) rfl (by kernel_rfl) (by kernel_rfl) (by kernel_rfl) (fun _ _ _ h => h) (Or.inl ⟨by rfl, ?hy2z12⟩) (by assumption) ?rest2z12
          case hy2z12 => (intro w hSw; (try dsimp only at hSw); go_simp; try (with_reducible rfl))
          simp only [Act.put, List.setIfInBounds_toArray, List.set_cons_zero, List.set_cons_succ]
          refine wpAnyH_take (i := 13) (oi := { dst := some 37, op := Go.Op.fieldAddr 191 (Go.Operand.tmp 36) 2, type := 0, pos := "wal.go:88", after := #[{ on := 12, ground := Go.Ground.data }, { on := 0, ground := Go.Ground.phase }, { on := 1, ground := Go.Ground.phase }, { on := 2, ground := Go.Ground.phase }, { on := 3, ground := Go.Ground.phase }, { on := 4, ground := Go.Ground.phase }, { on := 5, ground := Go.Ground.phase }, { on := 6, ground := Go.Ground.phase }, { on := 7, ground := Go.Ground.phase }, { on := 8, ground := Go.Ground.phase }, { on := 9, ground := Go.Ground.phase }, { on := 10, ground := Go.Ground.phase }, { on := 11, ground := Go.Ground.phase }], guard := none }) (v := ?v2z13) rfl (by kernel_rfl) (by kernel_rfl) (by kernel_rfl) (fun _ _ _ h => h) (Or.inl ⟨by rfl, ?hy2z13⟩) (by assumption) ?rest2z13
          case hy2z13 => (intro w hSw; (try dsimp only at hSw); go_simp; try (with_reducible rfl))
          simp only [Act.put, List.setIfInBounds_toArray, List.set_cons_zero, List.set_cons_succ]
          refine wpAnyH_ready (rs := [14]) (by kernel_rfl) (by simp) ?_
          refine AllReadyH.cons (o := { dst := none, op := Go.Op.store 55 (Go.Operand.tmp 37) (Go.Operand.tmp 35), type := 0, pos := "wal.go:88", after := #[{ on := 13, ground := Go.Ground.data }, { on := 11, ground := Go.Ground.data }, { on := 11, ground := Go.Ground.chain }, { on := 0, ground := Go.Ground.phase }, { on := 1, ground := Go.Ground.phase }, { on := 2, ground := Go.Ground.phase }, { on := 3, ground := Go.Ground.phase }, { on := 4, ground := Go.Ground.phase }, { on := 5, ground := Go.Ground.phase }, { on := 6, ground := Go.Ground.phase }, { on := 7, ground := Go.Ground.phase }, { on := 8, ground := Go.Ground.phase }, { on := 9, ground := Go.Ground.phase }, { on := 10, ground := Go.Ground.phase }, { on := 11, ground := Go.Ground.phase }], guard := none }) rfl (fun K hK => ?_) ?_
          ·
            go_simp
            refine hK.out _ _ ?_ (fun hHeld => ?_)
            · go_keep
            clear hK K
            try simp only [Act.put]
            refine wpAnyH_done (by kernel_rfl) ?_ _
            go_wp2_with fail
            go_returns
            rw [show x.cuts.length + 1 = (x.cuts ++ [x.blocks.length]).length from by simp]
            exact does_cut_post H.out hok.out (by show w.heap.size ≤ _; simp only [World.size_alloc]; show w.heap.size ≤ w.heap.size + 1; omega) (Fr.of_below HE2.out) H3.out HO4.out HG4.out HN4.out
          exact AllReadyH.nil
        exact AllReadyH.nil
      exact AllReadyH.nil
    exact AllReadyH.nil
  refine AllReadyH.cons (o := { dst := some 32, op := Go.Op.load 115 (Go.Operand.tmp 31), type := 115, pos := "wal.go:88", after := #[{ on := 7, ground := Go.Ground.data }], guard := none }) rfl (fun K hK => ?_) ?_
  ·
    go_simp
    refine hK.out _ _ ?_ (fun hHeld => ?_)
    · go_keep
    clear hK K
    try simp only [Act.put, List.setIfInBounds_toArray, List.set_cons_zero, List.set_cons_succ]
    refine wpAnyH_take (i := 9) (oi := { dst := some 33, op := Go.Op.call { callee := Go.Callee.builtin Go.Builtin.len, args := #[Go.Operand.tmp 32], argTypes := #[115] }, type := 3, pos := "wal.go:88", after := #[{ on := 8, ground := Go.Ground.data }], guard := none }) (v := ?v2z9x1) rfl (by kernel_rfl) (by kernel_rfl) (by kernel_rfl) (fun _ _ _ h => h) (Or.inl ⟨by rfl, ?hy2z9x1⟩) (by assumption) ?rest2z9x1
    case hy2z9x1 => (intro w hSw; (try dsimp only at hSw); go_simp; try (with_reducible rfl))
    simp only [Act.put, List.setIfInBounds_toArray, List.set_cons_zero, List.set_cons_succ]
    refine wpAnyH_ready (rs := [4, 10]) (by kernel_rfl) (by simp) ?_
    refine AllReadyH.cons (o := { dst := some 28, op := Go.Op.load 55 (Go.Operand.tmp 27), type := 55, pos := "wal.go:88", after := #[{ on := 3, ground := Go.Ground.data }], guard := none }) rfl (fun K hK => ?_) ?_
    ·
      go_simp
      refine hK.out _ _ ?_ (fun hHeld => ?_)
      · go_keep
      clear hK K
      try simp only [Act.put, List.setIfInBounds_toArray, List.set_cons_zero, List.set_cons_succ]
      refine wpAnyH_ready (rs := [10]) (by kernel_rfl) (by simp) ?_
      refine AllReadyH.cons (o := { dst := some 34, op := Go.Op.buildSlice 55 1 #[(0, Go.Operand.tmp 33)], type := 55, pos := "wal.go:88", after := #[{ on := 9, ground := Go.Ground.data }], guard := none }) rfl (fun K hK => ?_) ?_
      ·
        go_simp
        refine hK.out _ _ ?_ (fun hHeld => ?_)
        · go_keep
        clear hK K
        try simp only [Act.put, List.setIfInBounds_toArray, List.set_cons_zero, List.set_cons_succ]
        refine wpAnyH_ready (rs := [11]) (by kernel_rfl) (by simp) ?_
        refine AllReadyH.cons (o := { dst := some 35, op := Go.Op.call { callee := Go.Callee.builtin Go.Builtin.append, args := #[Go.Operand.tmp 28, Go.Operand.tmp 34], argTypes := #[55, 55] }, type := 55, pos := "wal.go:88", after := #[{ on := 4, ground := Go.Ground.data }, { on := 10, ground := Go.Ground.data }], guard := none }) rfl (fun K hK => ?_) ?_
        ·
          refine step_appG int_app _ rfl (.tmp 28) (.tmp 34) rfl B (.slice A2 x.cuts.length c2) x.cuts (by rfl) H3.out.oc x.blocks.length w.heap.size (by rfl) HN2.out (by have := HX.out.nc; omega) (by have h1 := HB.out; have h2 := HE2.out.size; exact Nat.le_trans h1 h2) ?_
          intro A4 c4 w4 hown4 hg4 hc4 hn4
          have HN4 := Lib.hid hn4
          have HG4 := Lib.hid hg4
          have HO4 := Lib.hid hown4
          have HW4 := Lib.hid (H3.out.bk.grown hg4 (fun e => own_blk_ne' H3.out.oc H3.out.bk (by decide) e.symm))
          have r1 := HW4.out.frozen 2
          have r2 : w4.cell? ⟨wb, 2, none⟩ = some (.slice A2 x.cuts.length c2) := (HW4.out.cell 2).trans rfl
          have r3 := HW4.out.lt
          clear hown4 hg4 hn4
          refine hK.out _ _ ?_ (fun hHeld => ?_)
          · go_keep
          clear hK K
          try simp only [Act.put, List.setIfInBounds_toArray, List.set_cons_zero, List.set_cons_succ]
          refine wpAnyH_take (i := 12) (oi := { dst := some 36, op := Go.Op.nilCheck (Go.Operand.tmp 24), type := 0, pos := "wal.go:88", after := #[{ on := 0, ground := Go.Ground.data }, { on := 0, ground := Go.Ground.phase }, { on := 1, ground := Go.Ground.phase }, { on := 2, ground := Go.Ground.phase }, { on := 3, ground := Go.Ground.phase }, { on := 4, ground := Go.Ground.phase }, { on := 5, ground := Go.Ground.phase }, { on := 6, ground := Go.Ground.phase }, { on := 7, ground := Go.Ground.phase }, { on := 8, ground := Go.Ground.phase }, { on := 9, ground := Go.Ground.phase }, { on := 10, ground := Go.Ground.phase }, { on := 11, ground := Go.Ground.phase }], guard := none }) (v := ?v2z12x1) rfl (by kernel_rfl) (by kernel_rfl) (by kernel_rfl) (fun _ _ _ h => h) (Or.inl ⟨by rfl, ?hy2z12x1⟩) (by assumption) ?rest2z12x1
          case hy2z12x1 => (intro w hSw; (try dsimp only at hSw); go_simp; try (with_reducible rfl))
          simp only [Act.put, List.setIfInBounds_toArray, List.set_cons_zero, List.set_cons_succ]
          refine wpAnyH_take (i := 13) (oi := { dst := some 37, op := Go.Op.fieldAddr 191 (Go.Operand.tmp 36) 2, type := 0, pos := "wal.go:88", after := #[{ on := 12, ground := Go.Ground.data }, { on := 0, ground := Go.Ground.phase }, { on := 1, ground := Go.Ground.phase }, { on := 2, ground := Go.Ground.phase }, { on := 3, ground := Go.Ground.phase }, { on := 4, ground := Go.Ground.phase }, { on := 5, ground := Go.Ground.phase }, { on := 6, ground := Go.Ground.phase }, { on := 7, ground := Go.Ground.phase }, { on := 8, ground := Go.Ground.phase }, { on := 9, ground := Go.Ground.phase }, { on := 10, ground := Go.Ground.phase }, { on := 11, ground := Go.Ground.phase }], guard := none }) (v := ?v2z13x1) rfl (by kernel_rfl) (by kernel_rfl) (by kernel_rfl) (fun _ _ _ h => h) (Or.inl ⟨by rfl, ?hy2z13x1⟩) (by assumption) ?rest2z13x1
          case hy2z13x1 => (intro w hSw; (try dsimp only at hSw); go_simp; try (with_reducible rfl))
          simp only [Act.put, List.setIfInBounds_toArray, List.set_cons_zero, List.set_cons_succ]
          refine wpAnyH_ready (rs := [14]) (by kernel_rfl) (by simp) ?_
          refine AllReadyH.cons (o := { dst := none, op := Go.Op.store 55 (Go.Operand.tmp 37) (Go.Operand.tmp 35), type := 0, pos := "wal.go:88", after := #[{ on := 13, ground := Go.Ground.data }, { on := 11, ground := Go.Ground.data }, { on := 11, ground := Go.Ground.chain }, { on := 0, ground := Go.Ground.phase }, { on := 1, ground := Go.Ground.phase }, { on := 2, ground := Go.Ground.phase }, { on := 3, ground := Go.Ground.phase }, { on := 4, ground := Go.Ground.phase }, { on := 5, ground := Go.Ground.phase }, { on := 6, ground := Go.Ground.phase }, { on := 7, ground := Go.Ground.phase }, { on := 8, ground := Go.Ground.phase }, { on := 9, ground := Go.Ground.phase }, { on := 10, ground := Go.Ground.phase }, { on := 11, ground := Go.Ground.phase }], guard := none }) rfl (fun K hK => ?_) ?_
          ·
            go_simp
            refine hK.out _ _ ?_ (fun hHeld => ?_)
            · go_keep
            clear hK K
            try simp only [Act.put]
            refine wpAnyH_done (by kernel_rfl) ?_ _
            go_wp2_with fail
            go_returns
            rw [show x.cuts.length + 1 = (x.cuts ++ [x.blocks.length]).length from by simp]
            exact does_cut_post H.out hok.out (by show w.heap.size ≤ _; simp only [World.size_alloc]; show w.heap.size ≤ w.heap.size + 1; omega) (Fr.of_below HE2.out) H3.out HO4.out HG4.out HN4.out
          exact AllReadyH.nil
        exact AllReadyH.nil
      exact AllReadyH.nil
    refine AllReadyH.cons (o := { dst := some 34, op := Go.Op.buildSlice 55 1 #[(0, Go.Operand.tmp 33)], type := 55, pos := "wal.go:88", after := #[{ on := 9, ground := Go.Ground.data }], guard := none }) rfl (fun K hK => ?_) ?_
    ·
      go_simp
      refine hK.out _ _ ?_ (fun hHeld => ?_)
      · go_keep
      clear hK K
      try simp only [Act.put, List.setIfInBounds_toArray, List.set_cons_zero, List.set_cons_succ]
      refine wpAnyH_ready (rs := [4]) (by kernel_rfl) (by simp) ?_
      refine AllReadyH.cons (o := { dst := some 28, op := Go.Op.load 55 (Go.Operand.tmp 27), type := 55, pos := "wal.go:88", after := #[{ on := 3, ground := Go.Ground.data }], guard := none }) rfl (fun K hK => ?_) ?_
      ·
        go_simp
        refine hK.out _ _ ?_ (fun hHeld => ?_)
        · go_keep
        clear hK K
        try simp only [Act.put, List.setIfInBounds_toArray, List.set_cons_zero, List.set_cons_succ]
        refine wpAnyH_ready (rs := [11]) (by kernel_rfl) (by simp) ?_
        refine AllReadyH.cons (o := { dst := some 35, op := Go.Op.call { callee := Go.Callee.builtin Go.Builtin.append, args := #[Go.Operand.tmp 28, Go.Operand.tmp 34], argTypes := #[55, 55] }, type := 55, pos := "wal.go:88", after := #[{ on := 4, ground := Go.Ground.data }, { on := 10, ground := Go.Ground.data }], guard := none }) rfl (fun K hK => ?_) ?_
        ·
          refine step_appG int_app _ rfl (.tmp 28) (.tmp 34) rfl B (.slice A2 x.cuts.length c2) x.cuts (by rfl) H3.out.oc x.blocks.length w.heap.size (by rfl) HN2.out (by have := HX.out.nc; omega) (by have h1 := HB.out; have h2 := HE2.out.size; exact Nat.le_trans h1 h2) ?_
          intro A4 c4 w4 hown4 hg4 hc4 hn4
          have HN4 := Lib.hid hn4
          have HG4 := Lib.hid hg4
          have HO4 := Lib.hid hown4
          have HW4 := Lib.hid (H3.out.bk.grown hg4 (fun e => own_blk_ne' H3.out.oc H3.out.bk (by decide) e.symm))
          have r1 := HW4.out.frozen 2
          have r2 : w4.cell? ⟨wb, 2, none⟩ = some (.slice A2 x.cuts.length c2) := (HW4.out.cell 2).trans rfl
          have r3 := HW4.out.lt
          clear hown4 hg4 hn4
          refine hK.out _ _ ?_ (fun hHeld => ?_)
          · go_keep
          clear hK K
          try simp only [Act.put, List.setIfInBounds_toArray, List.set_cons_zero, List.set_cons_succ]
          refine wpAnyH_take (i := 12) (oi := { dst := some 36, op := Go.Op.nilCheck (Go.Operand.tmp 24), type := 0, pos := "wal.go:88", after := #[{ on := 0, ground := Go.Ground.data }, { on := 0, ground := Go.Ground.phase }, { on := 1, ground := Go.Ground.phase }, { on := 2, ground := Go.Ground.phase }, { on := 3, ground := Go.Ground.phase }, { on := 4, ground := Go.Ground.phase }, { on := 5, ground := Go.Ground.phase }, { on := 6, ground := Go.Ground.phase }, { on := 7, ground := Go.Ground.phase }, { on := 8, ground := Go.Ground.phase }, { on := 9, ground := Go.Ground.phase }, { on := 10, ground := Go.Ground.phase }, { on := 11, ground := Go.Ground.phase }], guard := none }) (v := ?v2z12x2) rfl (by kernel_rfl) (by kernel_rfl) (by kernel_rfl) (fun _ _ _ h => h) (Or.inl ⟨by rfl, ?hy2z12x2⟩) (by assumption) ?rest2z12x2
          case hy2z12x2 => (intro w hSw; (try dsimp only at hSw); go_simp; try (with_reducible rfl))
          simp only [Act.put, List.setIfInBounds_toArray, List.set_cons_zero, List.set_cons_succ]
          refine wpAnyH_take (i := 13) (oi := { dst := some 37, op := Go.Op.fieldAddr 191 (Go.Operand.tmp 36) 2, type := 0, pos := "wal.go:88", after := #[{ on := 12, ground := Go.Ground.data }, { on := 0, ground := Go.Ground.phase }, { on := 1, ground := Go.Ground.phase }, { on := 2, ground := Go.Ground.phase }, { on := 3, ground := Go.Ground.phase }, { on := 4, ground := Go.Ground.phase }, { on := 5, ground := Go.Ground.phase }, { on := 6, ground := Go.Ground.phase }, { on := 7, ground := Go.Ground.phase }, { on := 8, ground := Go.Ground.phase }, { on := 9, ground := Go.Ground.phase }, { on := 10, ground := Go.Ground.phase }, { on := 11, ground := Go.Ground.phase }], guard := none }) (v := ?v2z13x2) rfl (by kernel_rfl) (by kernel_rfl) (by kernel_rfl) (fun _ _ _ h => h) (Or.inl ⟨by rfl, ?hy2z13x2⟩) (by assumption) ?rest2z13x2
          case hy2z13x2 => (intro w hSw; (try dsimp only at hSw); go_simp; try (with_reducible rfl))
          simp only [Act.put, List.setIfInBounds_toArray, List.set_cons_zero, List.set_cons_succ]
          refine wpAnyH_ready (rs := [14]) (by kernel_rfl) (by simp) ?_
          refine AllReadyH.cons (o := { dst := none, op := Go.Op.store 55 (Go.Operand.tmp 37) (Go.Operand.tmp 35), type := 0, pos := "wal.go:88", after := #[{ on := 13, ground := Go.Ground.data }, { on := 11, ground := Go.Ground.data }, { on := 11, ground := Go.Ground.chain }, { on := 0, ground := Go.Ground.phase }, { on := 1, ground := Go.Ground.phase }, { on := 2, ground := Go.Ground.phase }, { on := 3, ground := Go.Ground.phase }, { on := 4, ground := Go.Ground.phase }, { on := 5, ground := Go.Ground.phase }, { on := 6, ground := Go.Ground.phase }, { on := 7, ground := Go.Ground.phase }, { on := 8, ground := Go.Ground.phase }, { on := 9, ground := Go.Ground.phase }, { on := 10, ground := Go.Ground.phase }, { on := 11, ground := Go.Ground.phase }], guard := none }) rfl (fun K hK => ?_) ?_
          ·
            go_simp
            refine hK.out _ _ ?_ (fun hHeld => ?_)
            · go_keep
            clear hK K
            try simp only [Act.put]
            refine wpAnyH_done (by kernel_rfl) ?_ _
            go_wp2_with fail
            go_returns
            rw [show x.cuts.length + 1 = (x.cuts ++ [x.blocks.length]).length from by simp]
            exact does_cut_post H.out hok.out (by show w.heap.size ≤ _; simp only [World.size_alloc]; show w.heap.size ≤ w.heap.size + 1; omega) (Fr.of_below HE2.out) H3.out HO4.out HG4.out HN4.out
          exact AllReadyH.nil
        exact AllReadyH.nil
      exact AllReadyH.nil
    exact AllReadyH.nil
  exact AllReadyH.nil
set_option maxRecDepth 100000 in
set_option maxHeartbeats 8000000 in
theorem does_mark (A : Option Addr) (m c : Nat) (n : Nat) (w : World) (h : WalAt B wb lb R x bv cv xs w) (hok : x.ok (.mark n)) :
    Calls Tryz.prog 207 #[.pointer (some ⟨wb, 0, none⟩), .int .i64 3, .slice A m c, .int .i64 (n : Nat)] w (DoesPost B wb lb R (x.does (.mark n)) w) := by
  have z3 : w.cell? ⟨wb, 3, none⟩ = some (.int .i64 (x.marked : Nat)) := (h.bk.cell 3).trans rfl
  have f3 := h.bk.frozen 3
  have hl := h.bk.lt
  have H := Lib.hid h
  have hok := Lib.hid hok
  clear h
  go_enter Tryz.func207, Tryz.ntmps207
  go_wp2_with fail
  go_returns
  have hf := Fr.one w wb 3 (.int .i64 (n : Nat))
  have hne : ∀ k, (fun k => k = wb) k → R k := fun k hk => by subst hk; exact H.out.rw_
  refine ⟨rfl, R, bv, cv, xs, ⟨H.out.bk.set_ 3 _, own_far H.out.bk H.out.ob (by decide) 3 _, own_far H.out.bk H.out.oc (by decide) 3 _, H.out.xl, fun y hy => ⟨own_far H.out.bk (H.out.ent y hy).1 (by decide) 3 _, (H.out.ent y hy).2⟩, H.out.rw_, H.out.rb, H.out.rc, fun k hk => ⟨(H.out.bd k hk).1, by simpa using (H.out.bd k hk).2⟩, H.out.inn.does hok.out⟩, hf.mono (fun k _ hk => hne k hk), fun k hk => .inl hk⟩
end
end Go.Proofs.YtlmjjhenoadndaaGreatDoor

/- The journal in memory: the tests of the program; append. -/
namespace Go.Proofs.YtlmjjhenoadndaaGreatDoor
open Go.RowKit Go.Sort

def TestPost (w : World) (r : Option Int) (e : Ending) (w' : World) : Prop := (r = none → e = .returned .nilIface ∧ w = w') ∧ (∀ c, r = some c → ∃ a, FaultPost w a c e w')
theorem testPost_none {w : World} {r : Option Int} (hr : r = none) : TestPost w r (.returned .nilIface) w := ⟨fun _ => ⟨rfl, rfl⟩, fun c h => by rw [hr] at h; cases h⟩
theorem testPost_some {w w' : World} {r : Option Int} {c a : Int} {e : Ending} (hr : r = some c) (h : FaultPost w a c e w') : TestPost w r e w' := ⟨(fun h0 => by rw [hr] at h0; cases h0), fun c' h' => by rw [hr] at h'; cases h'; exact ⟨a, h⟩⟩
def blockE (x : WalD) (n : Nat) : Option Int := if 16 < n ∨ 400 ≤ x.blocks.length then some 2 else none
def cutE (x : WalD) : Option Int := if 60 ≤ x.cuts.length then some 2 else none
def markE (x : WalD) (n : Int) : Option Int := if n ≤ x.marked ∨ (x.cuts.length : Int) < n then some 1 else none
section
variable {B wb lb : Nat} {R : Nat → Prop} {x : WalD} {bv cv : Value} {xs : List Ro}
set_option maxHeartbeats 4000000 in
theorem wblock_c (n : Nat) (w : World) (h : WalAt B wb lb R x bv cv xs w) : Calls Tryz.prog 158 #[.pointer (some ⟨wb, 0, none⟩), .int .i64 (n : Nat)] w (TestPost w (blockE x n)) := by
  obtain ⟨A1, c1, hbv, z1, hc1⟩ := wBlocks_n w h
  have hl := h.bk.lt
  have hnb := h.inn.nb
  clear h
  by_cases h1 : 16 < n
  · have h1' : (16 : Int) < (n : Nat) := by omega
    have HE := Lib.hid (show blockE x n = some 2 from if_pos (.inl h1))
    go_enter Tryz.func158, Tryz.ntmps158
    go_wp2_with (first | (go_at_call 155; refine (walFault_c _ 0 _ 2 _ rfl).mono ?_; rintro e w1 ⟨v, rfl, hE, hb⟩))
    go_ret
    exact testPost_some HE.out ⟨v, rfl, hE, hb⟩
  · have h1' : ¬ (16 : Int) < (n : Nat) := by omega
    by_cases h2 : 400 ≤ x.blocks.length
    · have h2' : (400 : Int) ≤ (x.blocks.length : Nat) := by omega
      have HE := Lib.hid (show blockE x n = some 2 from if_pos (.inr h2))
      go_enter Tryz.func158, Tryz.ntmps158
      go_wp2_with (first | (go_at_call 155; refine (walFault_c _ 0 _ 2 _ rfl).mono ?_; rintro e w1 ⟨v, rfl, hE, hb⟩))
      go_ret
      exact testPost_some HE.out ⟨v, rfl, hE, hb⟩
    · have h2' : ¬ (400 : Int) ≤ (x.blocks.length : Nat) := by omega
      have HE := Lib.hid (show blockE x n = none from if_neg (by omega))
      go_enter Tryz.func158, Tryz.ntmps158
      go_wp2_with fail
      go_ret
      exact testPost_none HE.out
set_option maxHeartbeats 4000000 in
theorem wcut_c (w : World) (h : WalAt B wb lb R x bv cv xs w) : Calls Tryz.prog 160 #[.pointer (some ⟨wb, 0, none⟩)] w (TestPost w (cutE x)) := by
  obtain ⟨A2, c2, rfl, hc2⟩ := own_shape h.oc
  have z2 : w.cell? ⟨wb, 2, none⟩ = some (.slice A2 x.cuts.length c2) := (h.bk.cell 2).trans rfl
  have hl := h.bk.lt
  have hnc := h.inn.nc
  clear h
  by_cases h2 : 60 ≤ x.cuts.length
  · have h2' : (60 : Int) ≤ (x.cuts.length : Nat) := by omega
    have HE := Lib.hid (show cutE x = some 2 from if_pos h2)
    go_enter Tryz.func160, Tryz.ntmps160
    go_wp2_with (first | (go_at_call 155; refine (walFault_c _ 0 _ 2 _ rfl).mono ?_; rintro e w1 ⟨v, rfl, hE, hb⟩))
    go_ret
    exact testPost_some HE.out ⟨v, rfl, hE, hb⟩
  · have h2' : ¬ (60 : Int) ≤ (x.cuts.length : Nat) := by omega
    have HE := Lib.hid (show cutE x = none from if_neg (by omega))
    go_enter Tryz.func160, Tryz.ntmps160
    go_wp2_with fail
    go_ret
    exact testPost_none HE.out
set_option maxHeartbeats 4000000 in
theorem wmark_c (n : Int) (w : World) (h : WalAt B wb lb R x bv cv xs w) : Calls Tryz.prog 163 #[.pointer (some ⟨wb, 0, none⟩), .int .i64 n] w (TestPost w (markE x n)) := by
  obtain ⟨A2, c2, rfl, hc2⟩ := own_shape h.oc
  have z2 : w.cell? ⟨wb, 2, none⟩ = some (.slice A2 x.cuts.length c2) := (h.bk.cell 2).trans rfl
  have z3 : w.cell? ⟨wb, 3, none⟩ = some (.int .i64 (x.marked : Nat)) := (h.bk.cell 3).trans rfl
  have hl := h.bk.lt
  have hnc := h.inn.nc
  clear h
  by_cases h1 : n ≤ (x.marked : Nat)
  · have HE := Lib.hid (show markE x n = some 1 from if_pos (.inl h1))
    go_enter Tryz.func163, Tryz.ntmps163
    go_wp2_with (first | (go_at_call 155; refine (walFault_c _ 0 _ 1 _ rfl).mono ?_; rintro e w1 ⟨v, rfl, hE, hb⟩))
    go_ret
    exact testPost_some HE.out ⟨v, rfl, hE, hb⟩
  · by_cases h2 : (x.cuts.length : Int) < n
    · have HE := Lib.hid (show markE x n = some 1 from if_pos (.inr h2))
      go_enter Tryz.func163, Tryz.ntmps163
      go_wp2_with (first | (go_at_call 155; refine (walFault_c _ 0 _ 1 _ rfl).mono ?_; rintro e w1 ⟨v, rfl, hE, hb⟩))
      go_ret
      exact testPost_some HE.out ⟨v, rfl, hE, hb⟩
    · have HE := Lib.hid (show markE x n = none from if_neg (by omega))
      go_enter Tryz.func163, Tryz.ntmps163
      go_wp2_with fail
      go_ret
      exact testPost_none HE.out
end
end Go.Proofs.YtlmjjhenoadndaaGreatDoor
