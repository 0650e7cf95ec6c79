/- LogP, ErrF, LogB, LogC, LogD, LogE: laid together. -/
import Derived.Test.YtipfoljmdeiggaaGreatDoorPwF
import Derived.Test.YtipfoljmdeiggaaGreatDoorPwB

/- Records on a disk, in plain Lean: what a block holds, what is found, what is kept. -/
namespace Go.Proofs.YtipfoljmdeiggaaGreatDoor
open Go.RowKit Go.Sort

/-- How many blocks a record needs. -/
def blocksN (n : Nat) : Nat := max 1 ((n + 55) / 56)
theorem blocksN_pos (n : Nat) : 1 ≤ blocksN n := Nat.le_max_left _ _
def headB (r k : Nat) (last : Bool) : List Nat := intB (r : Nat) ++ (intB (k : Nat) ++ intB (if last then 1 else 0))
def partB (b : List Nat) (k : Nat) : List Nat := (b.drop (56 * k)).take 56
def lastB (b : List Nat) (k : Nat) : Bool := decide (k + 1 = blocksN b.length)
def blockB (r : Nat) (b : List Nat) (k : Nat) : List Nat := headB r k (lastB b k) ++ partB b k
/-- Is a block the place k of the record r: its bytes, and whether it is the last one. -/
def readB (raw : List Nat) (r k : Nat) : Option (List Nat × Bool) :=
  match readI raw 0 with
  | .bad _ => none
  | .ok x a1 => match readI raw (a1 : Nat) with
    | .bad _ => none
    | .ok y a2 => match readI raw (a2 : Nat) with
      | .bad _ => none
      | .ok z a3 =>
        let data := raw.drop a3
        if x = (r : Nat) ∧ y = (k : Nat) ∧ (z = 0 ∨ z = 1) ∧ (data.length = 56 ∨ (z = 1 ∧ data.length < 56 ∧ (0 < data.length ∨ k = 0))) then some (data, decide (z = 1)) else none
theorem intB_small {n : Nat} (h : n ≤ 1000000) : (intB (n : Nat)).length ≤ 3 := by
  unfold intB
  have : zig (n : Nat) = 2 * n := by unfold zig; rw [if_pos (by omega)]; omega
  rw [this]
  exact vB_len 2 (2 * n) (by omega)
theorem intB_0 : intB 0 = [0] := by
  unfold intB
  exact vB_last (by decide)
theorem intB_1 : intB 1 = [2] := by
  unfold intB
  exact vB_last (by decide)
theorem headB_len {r k : Nat} (last : Bool) (hr : r ≤ 1000000) (hk : k ≤ 1000000) : (headB r k last).length ≤ 7 := by
  unfold headB
  have h1 := intB_small hr
  have h2 := intB_small hk
  have h3 : (intB (if last then 1 else 0)).length = 1 := by
    cases last
    · exact congrArg List.length intB_0
    · exact congrArg List.length intB_1
  simp only [List.length_append, h3]
  omega
theorem blockB_len {r k : Nat} (b : List Nat) (hr : r ≤ 1000000) (hk : k ≤ 1000000) : (blockB r b k).length ≤ 63 := by
  unfold blockB
  have h1 := headB_len (lastB b k) hr hk
  have h2 : (partB b k).length ≤ 56 := by unfold partB; rw [List.length_take]; omega
  rw [List.length_append]
  omega
theorem blockB_byte {r k : Nat} {b : List Nat} (hb : ∀ x ∈ b, x < 256) : ∀ x ∈ blockB r b k, x < 256 := by
  intro x hx
  unfold blockB headB at hx
  simp only [List.mem_append] at hx
  rcases hx with (h | h | h) | h
  · exact intB_byte _ x h
  · exact intB_byte _ x h
  · exact intB_byte _ x h
  · exact hb x (List.mem_of_mem_drop (List.mem_of_mem_take h))
/-- The head that was written is read. -/
theorem read_head {r k : Nat} {last : Bool} (p : List Nat) (hr : r ≤ 1000000) (hk : k ≤ 1000000) :
    ∃ a1 a2 a3 : Nat, readI (headB r k last ++ p) 0 = .ok (r : Nat) a1 ∧ readI (headB r k last ++ p) (a1 : Nat) = .ok (k : Nat) a2 ∧ readI (headB r k last ++ p) (a2 : Nat) = .ok (if last then 1 else 0) a3 ∧ (headB r k last ++ p).drop a3 = p := by
  have e : headB r k last ++ p = intB (r : Nat) ++ (intB (k : Nat) ++ (intB (if last then 1 else 0) ++ p)) := by unfold headB; simp [List.append_assoc]
  have e1 : headB r k last ++ p = [] ++ (intB (r : Nat) ++ (intB (k : Nat) ++ (intB (if last then 1 else 0) ++ p))) := by rw [e]; rfl
  have e2 : headB r k last ++ p = intB (r : Nat) ++ (intB (k : Nat) ++ (intB (if last then 1 else 0) ++ p)) := e
  have e3 : headB r k last ++ p = (intB (r : Nat) ++ intB (k : Nat)) ++ (intB (if last then 1 else 0) ++ p) := by rw [e]; simp [List.append_assoc]
  have hl : -9223372036854775808 ≤ (if last then (1 : Int) else 0) ∧ (if last then (1 : Int) else 0) ≤ 9223372036854775807 := by cases last <;> decide
  have r1 := readI_intB [] (intB (k : Nat) ++ (intB (if last then 1 else 0) ++ p)) (n := (r : Nat)) (by omega) (by omega)
  have r2 := readI_intB (intB (r : Nat)) (intB (if last then 1 else 0) ++ p) (n := (k : Nat)) (by omega) (by omega)
  have r3 := readI_intB (intB (r : Nat) ++ intB (k : Nat)) p hl.1 hl.2
  rw [← e1] at r1
  rw [← e2] at r2
  rw [← e3, List.length_append] at r3
  refine ⟨[].length + (intB (r : Nat)).length, (intB (r : Nat)).length + (intB (k : Nat)).length, (intB (r : Nat)).length + (intB (k : Nat)).length + (intB (if last then 1 else 0)).length, r1, ?_, r3, ?_⟩
  · have : (([] : List Nat).length + (intB (r : Nat)).length) = (intB (r : Nat)).length := by simp
    rw [this]
    exact r2
  · rw [e3, ← List.append_assoc]
    have : (intB (r : Nat)).length + (intB (k : Nat)).length + (intB (if last then 1 else 0)).length = (intB (r : Nat) ++ intB (k : Nat) ++ intB (if last then 1 else 0)).length := by simp only [List.length_append]
    rw [this, List.drop_left]
theorem partB_full {b : List Nat} {k : Nat} (hk : k + 1 < blocksN b.length) : (partB b k).length = 56 := by
  unfold partB blocksN at *
  rw [List.length_take, List.length_drop]
  omega
theorem partB_last {b : List Nat} {k : Nat} (hk : k + 1 = blocksN b.length) : (partB b k).length ≤ 56 ∧ (0 < (partB b k).length ∨ k = 0) := by
  unfold partB blocksN at *
  rw [List.length_take, List.length_drop]
  omega
/-- A block that was written is read as it was. -/
theorem readB_blockB {r k : Nat} {b : List Nat} (hr : r ≤ 1000000) (hk : k < blocksN b.length) (hk6 : k ≤ 1000000) : readB (blockB r b k) r k = some (partB b k, lastB b k) := by
  obtain ⟨a1, a2, a3, h1, h2, h3, h4⟩ := read_head (last := lastB b k) (partB b k) hr hk6
  unfold readB blockB
  rw [h1]
  simp only
  rw [h2]
  simp only
  rw [h3]
  simp only
  rw [h4]
  by_cases hl : k + 1 = blocksN b.length
  · have e : lastB b k = true := decide_eq_true hl
    have hp := partB_last hl
    rw [e]
    rw [if_pos]
    · rfl
    · refine ⟨trivial, trivial, .inr rfl, ?_⟩
      rcases Nat.lt_or_ge (partB b k).length 56 with h | h
      · exact .inr ⟨rfl, h, hp.2⟩
      · exact .inl (by omega)
  · have e : lastB b k = false := decide_eq_false hl
    rw [e]
    rw [if_pos]
    · rfl
    · exact ⟨trivial, trivial, .inl rfl, .inl (partB_full (by omega))⟩
/-- Whatever is read of a block that was written is of its record. -/
theorem readB_rec {r k r' k' : Nat} {b : List Nat} {x : List Nat × Bool} (hr : r ≤ 1000000) (hk6 : k ≤ 1000000) (h : readB (blockB r b k) r' k' = some x) : r' = r ∧ x.2 = lastB b k := by
  unfold blockB at h
  generalize lastB b k = l at h ⊢
  obtain ⟨a1, a2, a3, h1, h2, h3, h4⟩ := read_head (last := l) (partB b k) hr hk6
  unfold readB at h
  rw [h1] at h
  simp only at h
  rw [h2] at h
  simp only at h
  rw [h3] at h
  simp only at h
  cases l <;> simp only [if_true, Bool.false_eq_true, if_false] at h <;> split at h
  · next hc =>
    have hx := Option.some.inj h
    rw [← hx]
    exact ⟨by have := hc.1; omega, rfl⟩
  · cases h
  · next hc =>
    have hx := Option.some.inj h
    rw [← hx]
    exact ⟨by have := hc.1; omega, rfl⟩
  · cases h
theorem parts_join (b : List Nat) : ∀ m, (List.range m).flatMap (partB b) = b.take (56 * m)
  | 0 => by simp
  | m + 1 => by
    rw [List.range_succ, List.flatMap_append, parts_join b m]
    simp only [List.flatMap_cons, List.flatMap_nil, List.append_nil]
    unfold partB
    rw [Nat.mul_succ, List.take_add]
theorem parts_all (b : List Nat) : (List.range (blocksN b.length)).flatMap (partB b) = b := by
  rw [parts_join]
  exact List.take_of_length_le (by unfold blocksN; omega)

/-! ### what is found -/
def scan (blk : Nat → Option (List Nat)) : Nat → Nat → List (List Nat) → List Nat → Nat → Nat → List (List Nat) × Nat
  | 0, _, out, _, _, next => (out, next)
  | fuel + 1, at_, out, rec, place, next => match blk at_ with
    | none => (out, next)
    | some b => match readB b (out.length + 1) place with
      | none => (out, next)
      | some (data, true) => scan blk fuel (at_ + 1) (out ++ [rec ++ data]) [] 0 (at_ + 1)
      | some (data, false) => scan blk fuel (at_ + 1) out (rec ++ data) (place + 1) next
def openD (d : DiskD) : List (List Nat) × Nat := scan d.blk d.room 0 [] [] 0 0
/-- The block behind the records. -/
def posOf (recs : List (List Nat)) : Nat := (recs.map fun b => blocksN b.length).sum
theorem posOf_snoc (recs : List (List Nat)) (b : List Nat) : posOf (recs ++ [b]) = posOf recs + blocksN b.length := by unfold posOf; simp
/-- The disk holds these records, and behind them nothing that could be taken for one. -/
structure LogOk (d : DiskD) (recs : List (List Nat)) : Prop where
  fits : posOf recs ≤ d.room
  recd : ∀ i b, recs[i]? = some b → ∀ k, k < blocksN b.length → d.blk (posOf (recs.take i) + k) = some (blockB (i + 1) b k)
  stale : ∀ n raw, posOf recs ≤ n → d.blk n = some raw → ∀ r k x, readB raw r k = some x → r ≤ recs.length ∨ (r = recs.length + 1 ∧ x.2 = false)
theorem posOf_le (recs : List (List Nat)) : recs.length ≤ posOf recs := by
  unfold posOf
  induction recs with
  | nil => simp
  | cons b l ih =>
    have := blocksN_pos b.length
    simp only [List.map_cons, List.sum_cons, List.length_cons]
    omega
theorem scan_stale {d : DiskD} {recs : List (List Nat)} (h : LogOk d recs) : ∀ (fuel at_ place : Nat) (rec : List Nat) (next : Nat), posOf recs ≤ at_ → scan d.blk fuel at_ recs rec place next = (recs, next)
  | 0, _, _, _, _, _ => rfl
  | fuel + 1, at_, place, rec, next, ha => by
    unfold scan
    cases hb : d.blk at_ with
    | none => rfl
    | some raw =>
      simp only
      cases hr : readB raw (recs.length + 1) place with
      | none => rfl
      | some x =>
        obtain ⟨data, l⟩ := x
        rcases h.stale at_ raw ha hb _ _ _ hr with h1 | ⟨_, h2⟩
        · omega
        · simp only at h2
          subst h2
          simp only
          exact scan_stale h fuel (at_ + 1) (place + 1) (rec ++ data) next (by omega)
/-- The rest of one record. -/
theorem scan_rec {d : DiskD} {b : List Nat} {p : Nat} {out : List (List Nat)} {next : Nat} (hl : out.length + 1 ≤ 1000000) (hbl : blocksN b.length ≤ 1000000) (hblk : ∀ k, k < blocksN b.length → d.blk (p + k) = some (blockB (out.length + 1) b k)) :
    ∀ (m k fuel : Nat), k + m = blocksN b.length → 0 < m → m ≤ fuel → scan d.blk fuel (p + k) out ((List.range k).flatMap (partB b)) k next = scan d.blk (fuel - m) (p + blocksN b.length) (out ++ [b]) [] 0 (p + blocksN b.length)
  | 0, _, _, _, h, _ => absurd h (Nat.lt_irrefl _)
  | m + 1, k, fuel, hk, _, hf => by
    obtain ⟨fuel, rfl⟩ : ∃ f, fuel = f + 1 := ⟨fuel - 1, by omega⟩
    rw [scan, hblk k (by omega)]
    simp only
    rw [readB_blockB hl (by omega) (by omega)]
    rcases Nat.eq_zero_or_pos m with h0 | h0
    · subst h0
      have e : lastB b k = true := decide_eq_true hk
      rw [e]
      simp only
      have h1 : (List.range k).flatMap (partB b) ++ partB b k = b := by
        have h2 := parts_all b
        rw [← hk, List.range_succ, List.flatMap_append] at h2
        simpa using h2
      rw [h1, ← hk]
      rfl
    · have e : lastB b k = false := decide_eq_false (by omega)
      rw [e]
      simp only
      have h1 : (List.range k).flatMap (partB b) ++ partB b k = (List.range (k + 1)).flatMap (partB b) := by
        rw [List.range_succ, List.flatMap_append]
        simp
      rw [h1]
      have ih := scan_rec (next := next) hl hbl hblk m (k + 1) fuel (by omega) h0 (by omega)
      rw [show p + k + 1 = p + (k + 1) by omega, ih, show fuel + 1 - (m + 1) = fuel - m by omega]
/-- What is found are the records. -/
theorem openD_ok {d : DiskD} {recs : List (List Nat)} (h : LogOk d recs) (hr : d.room ≤ 65536) : openD d = (recs, posOf recs) := by
  have key : ∀ (m i : Nat), i + m = recs.length → scan d.blk (d.room - posOf (recs.take i)) (posOf (recs.take i)) (recs.take i) [] 0 (posOf (recs.take i)) = (recs, posOf recs) := by
    intro m
    induction m with
    | zero =>
      intro i hi
      have e : recs.take i = recs := List.take_of_length_le (by omega)
      rw [e]
      exact scan_stale h _ _ _ _ _ (Nat.le_refl _)
    | succ m ih =>
      intro i hi
      have hlt : i < recs.length := by omega
      have hg : recs[i]? = some recs[i] := List.getElem?_eq_getElem hlt
      generalize recs[i] = b at hg
      have hs : recs.take (i + 1) = recs.take i ++ [b] := take_succ_of hg
      have hp : posOf (recs.take (i + 1)) = posOf (recs.take i) + blocksN b.length := by rw [hs, posOf_snoc]
      have hple : posOf (recs.take (i + 1)) ≤ posOf recs := by
        have : posOf recs = posOf (recs.take (i + 1)) + posOf (recs.drop (i + 1)) := by
          unfold posOf
          rw [← List.sum_append, ← List.map_append, List.take_append_drop]
        omega
      have hll : (recs.take i).length = i := by rw [List.length_take]; omega
      have hfit := h.fits
      have hcnt := posOf_le recs
      have hb1 := blocksN_pos b.length
      have h1 := scan_rec (d := d) (b := b) (p := posOf (recs.take i)) (out := recs.take i) (next := posOf (recs.take i)) (by rw [hll]; omega) (by omega) (fun k hk => by rw [hll]; exact h.recd i b hg k hk) (blocksN b.length) 0 (d.room - posOf (recs.take i)) (by omega) (by omega) (by omega)
      have h2 := ih (i + 1) (by omega)
      rw [hp, hs] at h2
      simp only [Nat.add_zero, List.range_zero, List.flatMap_nil] at h1
      rw [h1, show d.room - posOf (recs.take i) - blocksN b.length = d.room - (posOf (recs.take i) + blocksN b.length) by omega]
      exact h2
  have := key recs.length 0 (by omega)
  simpa [openD, posOf] using this
theorem logOk_new (room : Nat) : LogOk (DiskD.new room) [] := ⟨Nat.zero_le _, fun i b h => by simp at h, fun n raw _ h => by cases h⟩
/-- A disk whose blocks are the same holds the same. -/
theorem LogOk.same {d d' : DiskD} {recs : List (List Nat)} (h : LogOk d recs) (hb : d'.blk = d.blk) (hr : d'.room = d.room) : LogOk d' recs := ⟨by rw [hr]; exact h.fits, by rw [hb]; exact h.recd, by rw [hb]; exact h.stale⟩
/-- Some blocks of one record more were written, not the last one. -/
theorem LogOk.torn {d : DiskD} {recs : List (List Nat)} {b : List Nat} {k : Nat} {d' : DiskD} (h : LogOk d recs) (hk : k + 1 < blocksN b.length) (hl : recs.length + 1 ≤ 1000000) (hk6 : k ≤ 1000000) (hb : d'.blk = fun n => if n = posOf recs + k then some (blockB (recs.length + 1) b k) else d.blk n) (hr : d'.room = d.room) : LogOk d' recs := by
  refine ⟨by rw [hr]; exact h.fits, fun i b' hi j hj => ?_, fun n raw hn hraw r k' x hx => ?_⟩
  · rw [hb]
    have hlt : i < recs.length := (List.getElem?_eq_some_iff.1 hi).1
    have hs : recs.take (i + 1) = recs.take i ++ [b'] := take_succ_of hi
    have hp : posOf (recs.take (i + 1)) = posOf (recs.take i) + blocksN b'.length := by rw [hs, posOf_snoc]
    have hple : posOf (recs.take (i + 1)) ≤ posOf recs := by
      have : posOf recs = posOf (recs.take (i + 1)) + posOf (recs.drop (i + 1)) := by
        unfold posOf
        rw [← List.sum_append, ← List.map_append, List.take_append_drop]
      omega
    simp only
    rw [if_neg (by omega)]
    exact h.recd i b' hi j hj
  · rw [hb] at hraw
    simp only at hraw
    split at hraw
    · cases hraw
      have := readB_rec hl hk6 hx
      refine .inr ⟨this.1, ?_⟩
      rw [this.2]
      exact decide_eq_false (by omega)
    · exact h.stale n raw hn hraw r k' x hx
/-- The last block of one record more was written. -/
theorem LogOk.whole {d : DiskD} {recs : List (List Nat)} {b : List Nat} {d' : DiskD} (h : LogOk d recs) (_hl : recs.length + 1 ≤ 1000000) (hk6 : blocksN b.length ≤ 1000000) (hfit : posOf recs + blocksN b.length ≤ d.room) (hpre : ∀ k, k + 1 < blocksN b.length → d.blk (posOf recs + k) = some (blockB (recs.length + 1) b k))
    (hb : d'.blk = fun n => if n = posOf recs + (blocksN b.length - 1) then some (blockB (recs.length + 1) b (blocksN b.length - 1)) else d.blk n) (hr : d'.room = d.room) : LogOk d' (recs ++ [b]) := by
  have hb1 := blocksN_pos b.length
  refine ⟨by rw [posOf_snoc, hr]; exact hfit, fun i b' hi j hj => ?_, fun n raw hn hraw r k' x hx => ?_⟩
  · rw [hb]
    simp only
    rcases Nat.lt_or_ge i recs.length with hlt | hge
    · rw [List.getElem?_append_left hlt] at hi
      have hs : recs.take (i + 1) = recs.take i ++ [b'] := take_succ_of hi
      have hp : posOf (recs.take (i + 1)) = posOf (recs.take i) + blocksN b'.length := by rw [hs, posOf_snoc]
      have hple : posOf (recs.take (i + 1)) ≤ posOf recs := by
        have : posOf recs = posOf (recs.take (i + 1)) + posOf (recs.drop (i + 1)) := by
          unfold posOf
          rw [← List.sum_append, ← List.map_append, List.take_append_drop]
        omega
      rw [List.take_append_of_le_length (by omega), if_neg (by omega)]
      exact h.recd i b' hi j hj
    · have hie : i = recs.length := by
        have := (List.getElem?_eq_some_iff.1 hi).1
        simp at this
        omega
      subst hie
      simp only [List.getElem?_concat_length, Option.some.injEq] at hi
      subst hi
      rw [List.take_left]
      by_cases e : j = blocksN b.length - 1
      · rw [if_pos (by omega), e]
      · rw [if_neg (by omega)]
        exact hpre j (by omega)
  · rw [posOf_snoc] at hn
    rw [hb] at hraw
    simp only at hraw
    rw [if_neg (by omega)] at hraw
    rw [List.length_append]
    rcases h.stale n raw (by omega) hraw r k' x hx with h1 | ⟨h1, _⟩
    · exact .inl (by omega)
    · exact .inl (by simp; omega)
end Go.Proofs.YtipfoljmdeiggaaGreatDoor

/- errors.As of a *api.Fault, by walks; of nil. -/
namespace Go.Proofs.YtipfoljmdeiggaaGreatDoor
open Go.RowKit Go.Extern.Stop Go.Stop Go.Extern

theorem valueOfPF (t : Addr) (w : World) : (ReflectliteValue.unpack (.iface 180 (.pointer (some t)))).run Tryz.prog w
    = .ok (.agg #[.pointer (some ⟨1, 180, none⟩), .pointer (some ⟨w.heap.size, 0, none⟩), .int .u64 150]) (w.alloc (.cells #[.pointer (some t)] 180)) := by kernel_rfl
theorem typePF (a : Addr) (w : World) : (ReflectliteValue.methodAny (ReflectliteValue.valueError "reflectlite.Value.Type" 0) (fun t _ _ _ => ReflectliteType.toType t) #[.agg #[.pointer (some ⟨1, 180, none⟩), .pointer (some a), .int .u64 150]]).run Tryz.prog w
    = .ok (.iface 334 (.agg #[.pointer (some ⟨1, 180, none⟩)])) w := by kernel_rfl
theorem kindPF (w : World) : ((ReflectliteType.abiMethod fun t => (fun a : Nat => Value.int IntKind.u8 (a : Int)) <$> Rtype.kind t) #[.pointer (some ⟨1, 180, none⟩)]).run Tryz.prog w = .ok (.int .u8 22) w := by kernel_rfl
theorem kindFF (w : World) : ((ReflectliteType.abiMethod fun t => (fun a : Nat => Value.int IntKind.u8 (a : Int)) <$> Rtype.kind t) #[.pointer (some ⟨1, 178, none⟩)]).run Tryz.prog w = .ok (.int .u8 22) w := by kernel_rfl
theorem partsPF (a : Addr) (w : World) : (ReflectliteValue.parts (.agg #[.pointer (some ⟨1, 180, none⟩), .pointer (some a), .int .u64 150])).run Tryz.prog w = .ok (some (180, a, 150)) w := by kernel_rfl
theorem isNilPF (a p : Addr) (W : World) (ha : W.cell? a = some (.pointer (some p))) :
    (ReflectliteValue.method (ReflectliteValue.valueError "reflectlite.Value.IsNil" 0) ReflectliteValue.isNil #[.agg #[.pointer (some ⟨1, 180, none⟩), .pointer (some a), .int .u64 150]]).run Tryz.prog W = .ok (.bool false) W := by
  rw [rlm]
  simp only [Sem.run_bind, partsPF, Result.andThen]
  simp [ReflectliteValue.isNil, loadVar, isAgg, underlying, Tryz.underlying180, ha, Result.andThen]
theorem elemPF (w : World) : (ReflectliteType.method ReflectliteType.elem #[.agg #[.pointer (some ⟨1, 180, none⟩)]]).run Tryz.prog w = .ok (.iface 334 (.agg #[.pointer (some ⟨1, 178, none⟩)])) w := by kernel_rfl
theorem implementsFF (w : World) : (ReflectliteType.relation "Implements" ReflectliteType.implements_ #[.agg #[.pointer (some ⟨1, 178, none⟩)], .iface 334 (.agg #[.pointer (some ⟨1, 28, none⟩)])]).run Tryz.prog w = .ok (.bool true) w := by kernel_rfl
theorem assignableFF (w : World) : (ReflectliteType.relation "AssignableTo" ReflectliteType.assignableTo #[.agg #[.pointer (some ⟨1, 178, none⟩)], .iface 334 (.agg #[.pointer (some ⟨1, 178, none⟩)])]).run Tryz.prog w = .ok (.bool true) w := by kernel_rfl
theorem valueOfFF (p : Addr) (w : World) : (ReflectliteValue.unpack (.iface 178 (.pointer (some p)))).run Tryz.prog w
    = .ok (.agg #[.pointer (some ⟨1, 178, none⟩), .pointer (some ⟨w.heap.size, 0, none⟩), .int .u64 150]) (w.alloc (.cells #[.pointer (some p)] 178)) := by kernel_rfl
theorem elemOfPF (w : World) : (Rtype.elem? 180).run Tryz.prog w = .ok (some 178) w := by kernel_rfl
theorem mkFF (p : Addr) (w : World) : (ReflectliteValue.mk 178 p ReflectliteValue.flagAddr).run Tryz.prog w = .ok (.agg #[.pointer (some ⟨1, 178, none⟩), .pointer (some p), .int .u64 406]) w := by kernel_rfl
theorem elemVPF (a p : Addr) (W : World) (ha : W.cell? a = some (.pointer (some p))) :
    (ReflectliteValue.method (ReflectliteValue.valueError "reflectlite.Value.Elem" 0) ReflectliteValue.elem #[.agg #[.pointer (some ⟨1, 180, none⟩), .pointer (some a), .int .u64 150]]).run Tryz.prog W
      = .ok (.agg #[.pointer (some ⟨1, 178, none⟩), .pointer (some p), .int .u64 406]) W := by
  rw [rlm]
  simp only [Sem.run_bind, partsPF, Result.andThen]
  simp [ReflectliteValue.elem, loadVar, isAgg, underlying, Tryz.underlying180, ha, Result.andThen, elemOfPF, mkFF]
theorem partsFFa (a : Addr) (w : World) : (ReflectliteValue.parts (.agg #[.pointer (some ⟨1, 178, none⟩), .pointer (some a), .int .u64 406])).run Tryz.prog w = .ok (some (178, a, 406)) w := by kernel_rfl
theorem partsFF (a : Addr) (w : World) : (ReflectliteValue.parts (.agg #[.pointer (some ⟨1, 178, none⟩), .pointer (some a), .int .u64 150])).run Tryz.prog w = .ok (some (178, a, 150)) w := by kernel_rfl
theorem directFF (w : World) : (Rtype.directlyAssignable 178 178).run Tryz.prog w = .ok true w := by kernel_rfl
theorem setFF (ta b p : Addr) (old : Value) (W : World) (hb : W.cell? b = some (.pointer (some p))) (ht : W.cell? ta = some old) (hf : W.frozen? ta = false) :
    (ReflectliteValue.set #[.agg #[.pointer (some ⟨1, 178, none⟩), .pointer (some ta), .int .u64 406], .agg #[.pointer (some ⟨1, 178, none⟩), .pointer (some b), .int .u64 150]]).run Tryz.prog W
      = .ok (.tuple #[]) (W.setCell ta (.pointer (some p))) := by
  rw [rls]
  simp only [Sem.run_bind, partsFFa, partsFF, Result.andThen]
  simp [ReflectliteValue.flagAddr, loadVar, isAgg, underlying, Tryz.underlying178, hb, Result.andThen, directFF, storeVar, Value.cells, storeCells, Addr.add]
  rw [run_store Tryz.prog W ta _ _ (by rfl)]
  simp [ht, hf]
def AsPostF (w : World) (t p : Addr) (e : Ending) (w' : World) : Prop := e = .returned (.bool true) ∧ ∃ wx, Below w.heap.size w wx ∧ w' = wx.setCell t (.pointer (some p))
set_option maxHeartbeats 4000000 in
set_option maxRecDepth 100000 in
theorem asF_c (t a p : Addr) (old : Value) (w : World) (ht : w.cell? t = some old) (hf : w.frozen? t = false) (ha : w.cell? a = some (.pointer (some t))) :
    Calls Tryz.prog 198 #[.iface 178 (.pointer (some p)), .iface 180 (.pointer (some t)), .agg #[.pointer (some ⟨1, 180, none⟩), .pointer (some a), .int .u64 150], .iface 334 (.agg #[.pointer (some ⟨1, 178, none⟩)])] w (AsPostF w t p) := by
  have h53 := @run_callFunc_extern Tryz.prog 195 _ (fun args => ReflectliteValue.unpack (args.getD 0 (.tuple #[]))) Tryz.func195 (by kernel_rfl) (by kernel_rfl) (by kernel_rfl) (by kernel_rfl)
  have h67 := @run_callFunc_extern Tryz.prog 253 _ ReflectliteType.typeOf Tryz.func253 (by kernel_rfl) (by kernel_rfl) (by kernel_rfl) (by kernel_rfl)
  have h100 := @run_callFunc_extern Tryz.prog 392 _ (ReflectliteType.relation "AssignableTo" ReflectliteType.assignableTo) Tryz.func392 (by kernel_rfl) (by kernel_rfl) (by kernel_rfl) (by kernel_rfl)
  have h68 := @run_callFunc_extern Tryz.prog 254 _ (ReflectliteValue.method (ReflectliteValue.valueError "reflectlite.Value.Elem" 0) ReflectliteValue.elem) Tryz.func254 (by kernel_rfl) (by kernel_rfl) (by kernel_rfl) (by kernel_rfl)
  have h69 := @run_callFunc_extern Tryz.prog 255 _ ReflectliteValue.set Tryz.func255 (by kernel_rfl) (by kernel_rfl) (by kernel_rfl) (by kernel_rfl)
  have hF1 := typeOfF
  have mA := methodAssignableTo
  have aF := assignableFF
  have vE := valueOfFF
  have htl := World.block_lt_of_cell? w _ ht
  have hal := World.block_lt_of_cell? w _ ha
  go_enter Tryz.func198, Tryz.ntmps198
  go_wp2_with fail
  go_loopg [0] 0 (fun k v0 wr => v0 = .iface 178 (.pointer (some p)) ∧ Bk wr w.heap.size 283 #[.pointer (some ⟨1, 180, none⟩), .pointer (some a), .int .u64 150] ∧ Below w.heap.size w wr)
  case atStart => exact ⟨rfl, Bk.new _ _ _, ext_alloc (Below.refl _ _) _⟩
  case round =>
    obtain ⟨rfl, hx, hb⟩ := hrel
    have x0 : wr.cell? ⟨w.heap.size, 0, none⟩ = some (.pointer (some ⟨1, 180, none⟩)) := by rw [hx.cell]; rfl
    have x1 : wr.cell? ⟨w.heap.size, 1, none⟩ = some (.pointer (some a)) := by rw [hx.cell]; rfl
    have x2 : wr.cell? ⟨w.heap.size, 2, none⟩ = some (.int .u64 150) := by rw [hx.cell]; rfl
    have el := elemVPF a t wr ((hb.cell hal).trans ha)
    have ht2 : wr.cell? t = some old := (hb.cell htl).trans ht
    have htr := World.block_lt_of_cell? wr _ ht2
    have st := setFF t ⟨wr.heap.size, 0, none⟩ p old (wr.alloc (.cells #[.pointer (some p)] 178)) (by simp) ((World.cell?_alloc_lt _ _ _ htr).trans ht2) ((World.frozen?_alloc_old _ _ _ (by omega)).trans ((hb.frozen htl).trans hf))
    clear ht2 hx
    go_wp2_with fail
    go_ret
    exact ⟨rfl, _, ext_alloc hb _, rfl⟩
set_option maxRecDepth 100000 in
set_option maxHeartbeats 4000000 in
theorem AsF_c (t p : Addr) (old : Value) (w : World) (hg : TypeVar w) (ht : w.cell? t = some old) (hf : w.frozen? t = false) :
    Calls Tryz.prog 107 #[.iface 178 (.pointer (some p)), .iface 180 (.pointer (some t))] w (AsPostF w t p) := by
  have h53 := @run_callFunc_extern Tryz.prog 195 _ (fun args => ReflectliteValue.unpack (args.getD 0 (.tuple #[]))) Tryz.func195 (by kernel_rfl) (by kernel_rfl) (by kernel_rfl) (by kernel_rfl)
  have h54 := @run_callFunc_extern Tryz.prog 196 _ (ReflectliteValue.methodAny (ReflectliteValue.valueError "reflectlite.Value.Type" 0) (fun t _ _ _ => ReflectliteType.toType t)) Tryz.func196 (by kernel_rfl) (by kernel_rfl) (by kernel_rfl) (by kernel_rfl)
  have h55 := @run_callFunc_extern Tryz.prog 197 _ (ReflectliteValue.method (ReflectliteValue.valueError "reflectlite.Value.IsNil" 0) ReflectliteValue.isNil) Tryz.func197 (by kernel_rfl) (by kernel_rfl) (by kernel_rfl) (by kernel_rfl)
  have h90 := @run_callFunc_extern Tryz.prog 381 _ (ReflectliteType.abiMethod fun t => do pure (.int .u8 (← Rtype.kind t))) Tryz.func381 (by kernel_rfl) (by kernel_rfl) (by kernel_rfl) (by kernel_rfl)
  have h102 := @run_callFunc_extern Tryz.prog 394 _ (ReflectliteType.method ReflectliteType.elem) Tryz.func394 (by kernel_rfl) (by kernel_rfl) (by kernel_rfl) (by kernel_rfl)
  have h103 := @run_callFunc_extern Tryz.prog 395 _ (ReflectliteType.relation "Implements" ReflectliteType.implements_) Tryz.func395 (by kernel_rfl) (by kernel_rfl) (by kernel_rfl) (by kernel_rfl)
  have vP := valueOfPF
  have tP := typePF
  have mK := methodKind
  have mE := methodElem
  have mI := methodImplements
  have kP := kindPF
  have kE := kindFF
  have eP := elemPF
  have iE := implementsFF
  have htl := World.block_lt_of_cell? w _ ht
  unfold TypeVar at hg
  have hgl := World.block_lt_of_cell? w _ hg
  have n8 := isNilPF ⟨w.heap.size, 0, none⟩ t ((w.alloc (.cells #[.pointer (some t)] 180)).alloc (.cells #[.pointer (some ⟨1, 180, none⟩), .pointer (some ⟨w.heap.size, 0, none⟩), .int .u64 150] 283)) (by simp)
  have u1 : ((w.alloc (.cells #[.pointer (some t)] 180)).alloc (.cells #[.pointer (some ⟨1, 180, none⟩), .pointer (some ⟨w.heap.size, 0, none⟩), .int .u64 150] 283)).cell? t = some old := by
    rw [World.cell?_alloc_lt _ _ _ (by simp; omega), World.cell?_alloc_lt _ _ _ htl]; exact ht
  have u2 : ((w.alloc (.cells #[.pointer (some t)] 180)).alloc (.cells #[.pointer (some ⟨1, 180, none⟩), .pointer (some ⟨w.heap.size, 0, none⟩), .int .u64 150] 283)).frozen? t = false := by
    rw [World.frozen?_alloc_old _ _ _ (by simp; omega), World.frozen?_alloc_old _ _ _ (Nat.ne_of_lt htl)]; exact hf
  have U1 := Lib.hid u1
  have U2 := Lib.hid u2
  clear u1 u2
  go_enter Tryz.func107, Tryz.ntmps107
  go_wp2_with (first | (go_at_call 198; refine (asF_c t ⟨w.heap.size, 0, none⟩ p old _ U1.out U2.out (by simp)).mono ?_; rintro e w1 ⟨rfl, wx, hbx, rfl⟩))
  go_ret
  exact ⟨rfl, wx, ext_trans (ext_alloc (ext_alloc (Below.refl _ _) _) _) hbx, rfl⟩
set_option maxHeartbeats 1000000 in
theorem As_nil (v : Value) (w : World) : Calls Tryz.prog 107 #[.nilIface, v] w (Val w (.bool false)) := by
  go_enter Tryz.func107, Tryz.ntmps107
  go_wp2
  go_ret
  exact ⟨rfl, rfl⟩
end Go.Proofs.YtipfoljmdeiggaaGreatDoor

/- Records on a disk: fault, Blocks, head, block of the program. -/
namespace Go.Proofs.YtipfoljmdeiggaaGreatDoor
open Go.RowKit Go.Sort

theorem logFault_c (n : Nat) (v : Value) (code : Int) (w : World) (h : ErrN w n v code) : Calls Tryz.prog 95 #[v] w (FaultPost w 0 code) := by
  obtain ⟨T, y, rfl⟩ := h.iface
  have HE := Lib.hid h
  clear h
  go_enter Tryz.func95, Tryz.ntmps95
  go_wp2
  go_ret
  exact ⟨_, rfl, ⟨_, _, _, n, rfl, Bk.new _ _ _, HE.out.ext (ext_alloc (Below.refl _ _) _)⟩, ext_alloc (Below.refl _ _) _⟩
set_option maxHeartbeats 4000000 in
theorem blocks_c (n : Nat) (w : World) (hn : n ≤ 1000000) : Calls Tryz.prog 103 #[.int .i64 (n : Nat)] w (Val w (.int .i64 (blocksN n : Nat))) := by
  obtain ⟨q, hq⟩ : ∃ q, q = n / 56 := ⟨_, rfl⟩
  obtain ⟨r, hr⟩ : ∃ r, r = n % 56 := ⟨_, rfl⟩
  have e1 : (n : Int) / 56 = (q : Nat) := by omega
  have e2 : (n : Int) % 56 = (r : Nat) := by omega
  have HB := Lib.hid (show blocksN n = max 1 (q + min r 1) from by unfold blocksN; omega)
  have hql : q ≤ 20000 := by omega
  have hrl : r < 56 := by omega
  have u0 : decide (((n : Nat) : Int) < 0) = false := decide_eq_false (by omega)
  clear hq hr
  by_cases h1 : 1 < r
  · have h1' : (1 : Int) < (r : Nat) := by omega
    by_cases h2 : 1 < q + 1
    · have h2' : (1 : Int) < (q : Nat) + 1 := by omega
      go_enter Tryz.func103, Tryz.ntmps103
      go_wp2_with fail
      go_ret
      exact ⟨by rw [HB.out, show max 1 (q + min r 1) = q + 1 from by omega]; rfl, rfl⟩
    · have h2' : ¬ (1 : Int) < (q : Nat) + 1 := by omega
      go_enter Tryz.func103, Tryz.ntmps103
      go_wp2_with fail
      go_ret
      exact ⟨by rw [HB.out, show max 1 (q + min r 1) = 1 from by omega]; rfl, rfl⟩
  · have h1' : ¬ (1 : Int) < (r : Nat) := by omega
    by_cases h2 : 1 < q + r
    · have h2' : (1 : Int) < (q : Nat) + (r : Nat) := by omega
      go_enter Tryz.func103, Tryz.ntmps103
      go_wp2_with fail
      go_ret
      exact ⟨by rw [HB.out, show max 1 (q + min r 1) = q + r from by omega]; rfl, rfl⟩
    · have h2' : ¬ (1 : Int) < (q : Nat) + (r : Nat) := by omega
      go_enter Tryz.func103, Tryz.ntmps103
      go_wp2_with fail
      go_ret
      exact ⟨by rw [HB.out, show max 1 (q + min r 1) = 1 from by omega]; rfl, rfl⟩
set_option maxRecDepth 100000 in
set_option maxHeartbeats 4000000 in
theorem head_c (r k : Nat) (last : Bool) (w : World) (hr : r ≤ 1000000) (hk : k ≤ 1000000) : Calls Tryz.prog 106 #[.int .i64 (r : Nat), .int .i64 (k : Nat), .bool last] w (BytesPost w (headB r k last)) := by
  have h1 := intB_small hr
  have h2 := intB_small hk
  cases last with
  | true =>
    have HH := Lib.hid (show headB r k true = (intB (r : Nat) ++ intB (k : Nat)) ++ intB 1 from (by unfold headB; simp [List.append_assoc]))
    have h3 : (intB 1).length ≤ 1 := by rw [intB_1]; exact Nat.le_refl _
    go_enter Tryz.func106, Tryz.ntmps106
    go_wp2_with (first
      | (at_builtin; refine wpList_appR byte_app _ rfl (.tmp 13) (.tmp 15) rfl w.heap.size (.slice A3 l3.length c3) l3 (by rfl) HO5.out (intB 1) 0 A5 (intB 1).length c5 (by rfl) rfl (Rd.of_own HO4.out) (by have := HL3.out; omega) (by have := HB4.out.size; omega) ?_; intro A6 c6 w6 hown6 hg6 hc6
         generalize hl6 : l3 ++ intB 1 = l6 at hown6 hc6 ⊢
         have HO6 := Lib.hid hown6; have HB6 := Lib.hid (below_grownOwn HB4.out HO5.out (Nat.le_refl _) hg6); have HL6 := Lib.hid hl6; clear hown6 hg6 hl6)
      | (have hx := HO3.out.1; clear hx; go_at_call 194; refine (wInt_c 1 _ (by omega) (by omega)).mono ?_; rintro e w4 ⟨A5, c5, rfl, hown, hb⟩
         have HO4 := Lib.hid hown; have HO5 := Lib.hid (own_ext HO3.out hb); have HB4 := Lib.hid (ext_trans HB3.out hb); clear hown hb)
      | (at_builtin; (refine wpList_appR byte_app _ rfl (.tmp 10) (.tmp 12) rfl w.heap.size (.slice A1 (intB (r : Nat)).length c1) (intB (r : Nat)) (by rfl) HO1'.out (intB (k : Nat)) 0 A2 (intB (k : Nat)).length c2 (by rfl) rfl (Rd.of_own HO2.out) (by omega) (by have := HB2.out.size; omega) ?_); intro A3 c3 w3 hown3 hg3 hc3
         generalize hl3 : intB (r : Nat) ++ intB (k : Nat) = l3 at hown3 hc3 ⊢
         have HL3 := Lib.hid (show l3.length ≤ 6 from by rw [← hl3, List.length_append]; omega)
         have HO3 := Lib.hid hown3; have HB3 := Lib.hid (below_grownOwn HB2.out HO1'.out (Nat.le_refl _) hg3); have HE3 := Lib.hid hl3; clear hown3 hg3 hl3)
      | (have hx := HO1.out.1; clear hx; go_at_call 194; refine (wInt_c (k : Nat) _ (by omega) (by omega)).mono ?_; rintro e w2 ⟨A2, c2, rfl, hown, hb⟩
         have HO2 := Lib.hid hown; have HO1' := Lib.hid (own_ext HO1.out hb); have HB2 := Lib.hid (ext_trans HB1.out hb); clear hown hb)
      | (go_at_call 194; refine (wInt_c (r : Nat) _ (by omega) (by omega)).mono ?_; rintro e w1 ⟨A1, c1, rfl, hown, hb⟩
         have HO1 := Lib.hid hown; have HB1 := Lib.hid hb; clear hown hb))
    go_ret
    rw [HH.out, HE3.out, HL6.out]
    exact ⟨A6, c6, rfl, HO6.out, HB6.out⟩
  | false =>
    have HH := Lib.hid (show headB r k false = (intB (r : Nat) ++ intB (k : Nat)) ++ intB 0 from (by unfold headB; simp [List.append_assoc]))
    have h3 : (intB 0).length ≤ 1 := by rw [intB_0]; exact Nat.le_refl _
    go_enter Tryz.func106, Tryz.ntmps106
    go_wp2_with (first
      | (at_builtin; refine wpList_appR byte_app _ rfl (.tmp 13) (.tmp 15) rfl w.heap.size (.slice A3 l3.length c3) l3 (by rfl) HO5.out (intB 0) 0 A5 (intB 0).length c5 (by rfl) rfl (Rd.of_own HO4.out) (by have := HL3.out; omega) (by have := HB4.out.size; omega) ?_; intro A6 c6 w6 hown6 hg6 hc6
         generalize hl6 : l3 ++ intB 0 = l6 at hown6 hc6 ⊢
         have HO6 := Lib.hid hown6; have HB6 := Lib.hid (below_grownOwn HB4.out HO5.out (Nat.le_refl _) hg6); have HL6 := Lib.hid hl6; clear hown6 hg6 hl6)
      | (have hx := HO3.out.1; clear hx; go_at_call 194; refine (wInt_c 0 _ (by omega) (by omega)).mono ?_; rintro e w4 ⟨A5, c5, rfl, hown, hb⟩
         have HO4 := Lib.hid hown; have HO5 := Lib.hid (own_ext HO3.out hb); have HB4 := Lib.hid (ext_trans HB3.out hb); clear hown hb)
      | (at_builtin; (refine wpList_appR byte_app _ rfl (.tmp 10) (.tmp 12) rfl w.heap.size (.slice A1 (intB (r : Nat)).length c1) (intB (r : Nat)) (by rfl) HO1'.out (intB (k : Nat)) 0 A2 (intB (k : Nat)).length c2 (by rfl) rfl (Rd.of_own HO2.out) (by omega) (by have := HB2.out.size; omega) ?_); intro A3 c3 w3 hown3 hg3 hc3
         generalize hl3 : intB (r : Nat) ++ intB (k : Nat) = l3 at hown3 hc3 ⊢
         have HL3 := Lib.hid (show l3.length ≤ 6 from by rw [← hl3, List.length_append]; omega)
         have HO3 := Lib.hid hown3; have HB3 := Lib.hid (below_grownOwn HB2.out HO1'.out (Nat.le_refl _) hg3); have HE3 := Lib.hid hl3; clear hown3 hg3 hl3)
      | (have hx := HO1.out.1; clear hx; go_at_call 194; refine (wInt_c (k : Nat) _ (by omega) (by omega)).mono ?_; rintro e w2 ⟨A2, c2, rfl, hown, hb⟩
         have HO2 := Lib.hid hown; have HO1' := Lib.hid (own_ext HO1.out hb); have HB2 := Lib.hid (ext_trans HB1.out hb); clear hown hb)
      | (go_at_call 194; refine (wInt_c (r : Nat) _ (by omega) (by omega)).mono ?_; rintro e w1 ⟨A1, c1, rfl, hown, hb⟩
         have HO1 := Lib.hid hown; have HB1 := Lib.hid hb; clear hown hb))
    go_ret
    rw [HH.out, HE3.out, HL6.out]
    exact ⟨A6, c6, rfl, HO6.out, HB6.out⟩
end Go.Proofs.YtipfoljmdeiggaaGreatDoor

/- Records on a disk: block of the program. -/
namespace Go.Proofs.YtipfoljmdeiggaaGreatDoor
open Go.RowKit Go.Sort

def BlockPost (r : Option (List Nat × Bool)) (w : World) (e : Ending) (w' : World) : Prop :=
  (∀ data last, r = some (data, last) → ∃ A c, e = .returned (.tuple #[.slice A data.length c, .bool last, .bool true]) ∧ Rd w' w'.heap.size 5 1 A data.length (data.flatMap byC) ∧ Below w.heap.size w w') ∧
  (r = none → ∃ v1 v2, e = .returned (.tuple #[v1, v2, .bool false]) ∧ Below w.heap.size w w')
theorem blockPost_none {r : Option (List Nat × Bool)} {w w' : World} {v1 v2 : Value} (hr : r = none) (hb : Below w.heap.size w w') : BlockPost r w (.returned (.tuple #[v1, v2, .bool false])) w' :=
  ⟨(fun d l h => by rw [hr] at h; cases h), fun _ => ⟨v1, v2, rfl, hb⟩⟩
theorem blockPost_some {r : Option (List Nat × Bool)} {w w' : World} {A : Option Addr} {n c : Nat} {data : List Nat} {last : Bool} (hr : r = some (data, last)) (hn : n = data.length) (hR : Rd w' w'.heap.size 5 1 A data.length (data.flatMap byC)) (hb : Below w.heap.size w w') : BlockPost r w (.returned (.tuple #[.slice A n c, .bool last, .bool true])) w' :=
  ⟨(fun d l h => by rw [hr] at h; cases h; exact ⟨A, c, by rw [hn], hR, hb⟩), fun h => by rw [hr] at h; cases h⟩
/-- Where the reading of a head stands. -/
def HeadSt (raw : List Nat) (j : Nat) (x y z : Int) (a : Nat) : Prop :=
  (j = 0 ∧ a = 0 ∧ x = 0 ∧ y = 0 ∧ z = 0) ∨ (j = 1 ∧ readI raw 0 = .ok x a ∧ y = 0 ∧ z = 0) ∨
  (j = 2 ∧ (∃ a1 : Nat, readI raw 0 = .ok x a1 ∧ readI raw (a1 : Nat) = .ok y a) ∧ z = 0) ∨
  (j = 3 ∧ ∃ a1 a2 : Nat, readI raw 0 = .ok x a1 ∧ readI raw (a1 : Nat) = .ok y a2 ∧ readI raw (a2 : Nat) = .ok z a)
theorem readB_bad {raw : List Nat} {r k j a : Nat} {x y z code : Int} (h : HeadSt raw j x y z a) (hj : j < 3) (hb : readI raw (a : Nat) = .bad code) : readB raw r k = none := by
  unfold readB
  rcases h with ⟨rfl, rfl, _⟩ | ⟨rfl, h1, _⟩ | ⟨rfl, ⟨a1, h1, h2⟩, _⟩ | ⟨rfl, _⟩
  · rw [show ((0 : Nat) : Int) = 0 from rfl] at hb; rw [hb]
  · rw [h1]; simp only; rw [hb]
  · rw [h1]; simp only; rw [h2]; simp only; rw [hb]
  · omega
theorem headSt_next {raw : List Nat} {j a a' : Nat} {x y z n : Int} (h : HeadSt raw j x y z a) (hj : j < 3) (hb : readI raw (a : Nat) = .ok n a') : HeadSt raw (j + 1) (if j = 0 then n else x) (if j = 1 then n else y) (if j = 2 then n else z) a' := by
  rcases h with ⟨rfl, rfl, rfl, rfl, rfl⟩ | ⟨rfl, h1, rfl, rfl⟩ | ⟨rfl, ⟨a1, h1, h2⟩, rfl⟩ | ⟨rfl, _⟩
  · exact .inr (.inl ⟨rfl, hb, rfl, rfl⟩)
  · exact .inr (.inr (.inl ⟨rfl, ⟨a, h1, hb⟩, rfl⟩))
  · exact .inr (.inr (.inr ⟨rfl, a1, a, h1, h2, hb⟩))
  · omega
theorem headSt_le {raw : List Nat} {j a : Nat} {x y z : Int} (h : HeadSt raw j x y z a) : a ≤ raw.length := by
  rcases h with ⟨_, rfl, _⟩ | ⟨_, h1, _⟩ | ⟨_, ⟨a1, h1, h2⟩, _⟩ | ⟨_, a1, a2, _, _, h3⟩
  · exact Nat.zero_le _
  · exact (readI_behind h1).2.2
  · exact (readI_behind h2).2.2
  · exact (readI_behind h3).2.2
theorem readB_done {raw : List Nat} {r k a : Nat} {x y z : Int} (h : HeadSt raw 3 x y z a) : readB raw r k = (if x = (r : Nat) ∧ y = (k : Nat) ∧ (z = 0 ∨ z = 1) ∧ ((raw.drop a).length = 56 ∨ (z = 1 ∧ (raw.drop a).length < 56 ∧ (0 < (raw.drop a).length ∨ k = 0))) then some (raw.drop a, decide (z = 1)) else none) := by
  unfold readB
  rcases h with ⟨h, _⟩ | ⟨h, _⟩ | ⟨h, _⟩ | ⟨_, a1, a2, h1, h2, h3⟩
  · omega
  · omega
  · omega
  · rw [h1]; simp only; rw [h2]; simp only; rw [h3]
/-- Is a block full: the two tests of the program. -/
theorem full_cases (m k : Nat) (z : Int) : ∃ fl : Bool, (fl = true ↔ (m = 56 ∨ (z = 1 ∧ m < 56 ∧ (0 < m ∨ k = 0)))) ∧
    ((fl = true ∧ ((m : Int) == 56) = true) ∨ (fl = false ∧ ((m : Int) == 56) = false ∧ (z == 1) = false) ∨ (fl = false ∧ ((m : Int) == 56) = false ∧ (z == 1) = true ∧ decide ((m : Int) < 56) = false) ∨
      (fl = true ∧ ((m : Int) == 56) = false ∧ (z == 1) = true ∧ decide ((m : Int) < 56) = true ∧ decide (0 < m) = true) ∨
      (fl = true ∧ ((m : Int) == 56) = false ∧ (z == 1) = true ∧ decide ((m : Int) < 56) = true ∧ decide (0 < m) = false ∧ ((k : Int) == 0) = true) ∨
      (fl = false ∧ ((m : Int) == 56) = false ∧ (z == 1) = true ∧ decide ((m : Int) < 56) = true ∧ decide (0 < m) = false ∧ ((k : Int) == 0) = false)) := by
  refine ⟨decide (m = 56 ∨ (z = 1 ∧ m < 56 ∧ (0 < m ∨ k = 0))), by simp, ?_⟩
  simp only [decide_eq_true_eq, decide_eq_false_iff_not, beq_iff_eq, beq_eq_false_iff_ne, ne_eq]
  omega
theorem head_cases (x y z : Int) (r k : Nat) : ∃ hd : Bool, (hd = true ↔ (x = (r : Nat) ∧ y = (k : Nat) ∧ (z = 0 ∨ z = 1))) ∧
    ((hd = false ∧ (x == (r : Int)) = false) ∨ (hd = false ∧ (x == (r : Int)) = true ∧ (y == (k : Int)) = false) ∨ (hd = true ∧ (x == (r : Int)) = true ∧ (y == (k : Int)) = true ∧ (z == 0) = true) ∨
      (hd = true ∧ (x == (r : Int)) = true ∧ (y == (k : Int)) = true ∧ (z == 0) = false ∧ (z == 1) = true) ∨ (hd = false ∧ (x == (r : Int)) = true ∧ (y == (k : Int)) = true ∧ (z == 0) = false ∧ (z == 1) = false)) := by
  refine ⟨decide (x = (r : Nat) ∧ y = (k : Nat) ∧ (z = 0 ∨ z = 1)), by simp, ?_⟩
  simp only [decide_eq_true_eq, decide_eq_false_iff_not, beq_iff_eq, beq_eq_false_iff_ne, ne_eq]
  omega
set_option maxRecDepth 100000 in
set_option maxHeartbeats 16000000 in
theorem block_c (S : Nat → Prop) (raw : List Nat) (A : Option Addr) (c r k : Nat) (w : World) (h : RdS w S 1 A raw.length (bytesC raw)) (hb : ∀ x ∈ raw, x < 256) (hl : raw.length ≤ 1000000) (hc : raw.length ≤ c) :
    Calls Tryz.prog 100 #[.slice A raw.length c, .int .i64 (r : Nat), .int .i64 (k : Nat)] w (BlockPost (readB raw r k) w) := by
  have HO := Lib.hid h
  have HBy := Lib.hid hb
  clear h hb
  go_enter Tryz.func100, Tryz.ntmps100
  go_wp2_with fail
  go_loopg [9, 16] 3 (fun gk v9 v16 wr => ∃ (j a : Nat) (x y z : Int), j + gk = 3 ∧ v16 = .int .i64 (j : Nat) ∧ v9 = .int .i64 (a : Nat) ∧ Hid (HeadSt raw j x y z a) ∧ Bk wr w.heap.size 273 #[.int .i64 x, .int .i64 y, .int .i64 z] ∧ Below w.heap.size w wr)
  case atStart => exact ⟨0, 0, 0, 0, 0, by omega, rfl, rfl, Lib.hid (.inl ⟨rfl, rfl, rfl, rfl, rfl⟩), Bk.new _ _ _, ext_alloc (Below.refl _ _) _⟩
  case round =>
    obtain ⟨j, a, x, y, z, hjk, rfl, rfl, hst, hx, hb⟩ := hrel
    have HX := Lib.hid hx
    have HB := Lib.hid hb
    have x0 : wr.cell? ⟨w.heap.size, 0, none⟩ = some (.int .i64 x) := (hx.cell 0).trans rfl
    have x1 : wr.cell? ⟨w.heap.size, 1, none⟩ = some (.int .i64 y) := (hx.cell 1).trans rfl
    have x2 : wr.cell? ⟨w.heap.size, 2, none⟩ = some (.int .i64 z) := (hx.cell 2).trans rfl
    have hxl := hx.lt
    have hal := headSt_le hst.out
    clear hx hb
    by_cases hj : j < 3
    · cases hq : readI raw (a : Nat) with
      | bad code =>
        have HQ := Lib.hid hq
        have HR := Lib.hid (readB_bad (r := r) (k := k) hst.out hj hq)
        have hji : (j : Int) < 3 := by omega
        clear hq x0 x1 x2
        go_wp2_with (first
          | (go_at_call 192; refine (readInt_c S raw A c (a : Nat) _ (HO.out.ext HB.out) HBy.out hl).mono ?_; rintro e w2 hpost; obtain ⟨v, rfl, hE, hb⟩ := hpost.2 code HQ.out; obtain ⟨fb, s, v', n, rfl, hE⟩ := hE; have HB2 := Lib.hid (ext_trans HB.out hb); clear hE hb hpost))
        go_ret3
        exact blockPost_none HR.out HB2.out
      | ok n a' =>
        have HQ := Lib.hid hq
        have HN := Lib.hid (headSt_next hst.out hj hq)
        have hji : (j : Int) < 3 := by omega
        have hal' := (readI_behind hq).2.2
        clear hq x0 x1 x2
        rcases (show j = 0 ∨ j = 1 ∨ j = 2 by omega) with rfl | rfl | rfl
        all_goals
          go_wp2_with (first
            | (go_at_call 192; refine (readInt_c S raw A c (a : Nat) _ (HO.out.ext HB.out) HBy.out hl).mono ?_; rintro e w2 hpost; obtain ⟨rfl, hb⟩ := hpost.1 n a' HQ.out
               have HX2 := Lib.hid (HX.out.ext hb)
               have HB2 := Lib.hid (ext_trans HB.out hb)
               have x0 : w2.cell? ⟨w.heap.size, 0, none⟩ = some (.int .i64 x) := (HX2.out.cell 0).trans rfl
               have x1 : w2.cell? ⟨w.heap.size, 1, none⟩ = some (.int .i64 y) := (HX2.out.cell 1).trans rfl
               have x2 : w2.cell? ⟨w.heap.size, 2, none⟩ = some (.int .i64 z) := (HX2.out.cell 2).trans rfl
               have f0 := HX2.out.frozen 0
               have f1 := HX2.out.frozen 1
               have f2 := HX2.out.frozen 2
               have hxl2 := HX2.out.lt
               clear hb hpost))
        · go_roundg (gk - 1)
          case measure => omega
          case rel => exact ⟨1, a', n, y, z, by omega, rfl, rfl, HN, HX2.out.set_ 0 _, HB2.out.setCell (Nat.le_refl _) _⟩
        · go_roundg (gk - 1)
          case measure => omega
          case rel => exact ⟨2, a', x, n, z, by omega, rfl, rfl, HN, HX2.out.set_ 1 _, HB2.out.setCell (Nat.le_refl _) _⟩
        · go_roundg (gk - 1)
          case measure => omega
          case rel => exact ⟨3, a', x, y, n, by omega, rfl, rfl, HN, HX2.out.set_ 2 _, HB2.out.setCell (Nat.le_refl _) _⟩
    · obtain rfl : j = 3 := by omega
      have HR := Lib.hid (readB_done (r := r) (k := k) hst.out)
      obtain ⟨m, hm⟩ : ∃ m, m = raw.length - a := ⟨_, rfl⟩
      have hml : (raw.drop a).length = m := by rw [List.length_drop, hm]
      rw [hml] at HR
      have HM := Lib.hid hml
      have e1 : raw.length - a = m := hm.symm
      obtain ⟨fl, hfl, hfc⟩ := full_cases m k z
      obtain ⟨hd, hhd, hhc⟩ := head_cases x y z r k
      have HF := Lib.hid hfl
      have HH := Lib.hid hhd
      have hm56 : m ≤ 1000000 := by omega
      clear hfl hhd hml hm
      have ha0 : 0 < raw.length := by
        rcases hst.out with ⟨h, _⟩ | ⟨h, _⟩ | ⟨h, _⟩ | ⟨_, a1, a2, h1, h2, h3⟩
        · omega
        · omega
        · omega
        · have := readI_behind h3; omega
      obtain ⟨ad, rfl, _⟩ := HO.out.cell ha0
      have HRd := Lib.hid (show Rd wr wr.heap.size 5 1 (some ad) raw.length (raw.flatMap byC) from (by rw [bytesC_flat]; exact (HO.out.ext HB.out).rd (Nat.le_refl _)))
      go_upto_region 11 with fail
      go_cut [6] (fun v6 wx => ∃ A6 c6, v6 = .slice A6 m c6 ∧ Rd wr wr.heap.size 5 1 A6 m ((raw.drop a).flatMap byC) ∧ wr = wx)
      case first =>
        have e1' := Lib.hid e1
        by_cases hca : c = a
        · have hcl : raw.length = a := by omega
          clear e1
          go_wp2_with fail
          go_meet
          have hm0 : m = 0 := by have := e1'.out; omega
          refine ⟨some ad, 0, by rw [hm0], ?_, rfl⟩
          · rw [← e1'.out]; exact Rd.dropG byte_app HRd.out rfl a hal (fun h => by omega)
        · clear e1
          go_wp2_with fail
          go_meet
          refine ⟨some (ad.add a), c - a, by rw [e1'.out], ?_, rfl⟩
          · rw [← e1'.out]; exact Rd.dropG byte_app HRd.out rfl a hal (fun h => by rw [Nat.mul_one])
      case rest =>
        obtain ⟨A6, c6, rfl, hR6, rfl⟩ := hcut
        have HR6 := Lib.hid hR6
        clear hR6 e1
        go_upto_region 13 with fail
        go_cut [7, 15] (fun v7 v15 wx => v7 = .bool (z == 1) ∧ v15 = .bool fl ∧ wr = wx)
        case first =>
          clear hhc
          rcases hfc with ⟨hf, t1⟩ | ⟨hf, t1, t2⟩ | ⟨hf, t1, t2, t3⟩ | ⟨hf, t1, t2, t3, t4⟩ | ⟨hf, t1, t2, t3, t4, t5⟩ | ⟨hf, t1, t2, t3, t4, t5⟩
          all_goals
            have HFL := Lib.hid hf
            clear hf
            go_wp2_with fail
            go_meet
            rw [HFL.out]
            exact ⟨by first | rfl | rw [t2], rfl, rfl⟩
        case rest =>
          obtain ⟨rfl, rfl, rfl⟩ := hcut
          have hzz : (z == 1) = decide (z = 1) := rfl
          have HZ := Lib.hid hzz
          clear hfc hzz
          rcases hhc with ⟨hh, t1⟩ | ⟨hh, t1, t2⟩ | ⟨hh, t1, t2, t3⟩ | ⟨hh, t1, t2, t3, t4⟩ | ⟨hh, t1, t2, t3, t4⟩
          · have HHD := Lib.hid hh
            clear hh
            go_wp2_with fail
            go_ret3
            exact blockPost_none (by rw [HR.out, if_neg (fun h => by have := HH.out.2 ⟨h.1, h.2.1, h.2.2.1⟩; rw [HHD.out] at this; cases this)]) HB.out
          · have HHD := Lib.hid hh
            clear hh
            go_wp2_with fail
            go_ret3
            exact blockPost_none (by rw [HR.out, if_neg (fun h => by have := HH.out.2 ⟨h.1, h.2.1, h.2.2.1⟩; rw [HHD.out] at this; cases this)]) HB.out
          · have HHD := Lib.hid hh
            clear hh
            cases hf : fl with
            | false =>
              have HFL := Lib.hid hf
              go_wp2_with fail
              go_ret3
              exact blockPost_none (by rw [HR.out, if_neg (fun h => by have := HF.out.2 h.2.2.2; rw [HFL.out] at this; cases this)]) HB.out
            | true =>
              have HFL := Lib.hid hf
              have HS := Lib.hid (show readB raw r k = some (raw.drop a, (z == 1)) from (by rw [HR.out, if_pos ⟨(HH.out.1 HHD.out).1, (HH.out.1 HHD.out).2.1, (HH.out.1 HHD.out).2.2, HF.out.1 HFL.out⟩]; rfl))
              go_wp2_with fail
              go_ret3
              exact blockPost_some HS.out HM.out.symm (by rw [HM.out]; exact HR6.out) HB.out
          · have HHD := Lib.hid hh
            clear hh
            cases hf : fl with
            | false =>
              have HFL := Lib.hid hf
              go_wp2_with fail
              go_ret3
              exact blockPost_none (by rw [HR.out, if_neg (fun h => by have := HF.out.2 h.2.2.2; rw [HFL.out] at this; cases this)]) HB.out
            | true =>
              have HFL := Lib.hid hf
              have HS := Lib.hid (show readB raw r k = some (raw.drop a, (z == 1)) from (by rw [HR.out, if_pos ⟨(HH.out.1 HHD.out).1, (HH.out.1 HHD.out).2.1, (HH.out.1 HHD.out).2.2, HF.out.1 HFL.out⟩]; rfl))
              go_wp2_with fail
              go_ret3
              exact blockPost_some HS.out HM.out.symm (by rw [HM.out]; exact HR6.out) HB.out
          · have HHD := Lib.hid hh
            clear hh
            go_wp2_with fail
            go_ret3
            exact blockPost_none (by rw [HR.out, if_neg (fun h => by have := HH.out.2 ⟨h.1, h.2.1, h.2.2.1⟩; rw [HHD.out] at this; cases this)]) HB.out
end Go.Proofs.YtipfoljmdeiggaaGreatDoor

/- Records on a disk: the log in memory; Gone, Left. -/
namespace Go.Proofs.YtipfoljmdeiggaaGreatDoor
open Go.RowKit Go.Sort

theorem quiet_val {P : Program} {f : FuncId} {args : Array Value} {w : World} {n : Nat} {v : Value} (h : Calls P f args (w.drewN n) (Val (w.drewN n) v)) : Calls P f args (w.drewN n) fun e w'' => e = .returned v ∧ ∃ m, w'' = w.drewN m :=
  h.mono fun _ _ ⟨he, hw⟩ => ⟨he, n, hw.symm⟩
theorem quiet_val0 {P : Program} {f : FuncId} {args : Array Value} {w : World} {v : Value} (h : Calls P f args w (Val w v)) : Calls P f args w fun e w'' => e = .returned v ∧ ∃ m, w'' = w.drewN m :=
  h.mono fun _ _ ⟨he, hw⟩ => ⟨he, 0, hw.symm⟩
/-- The log: its block; the life of its disk when it was opened, how many records there are, the block behind them. -/
def LogAt (w : World) (lb db life n next : Nat) : Prop := Bk w lb 169 #[.pointer (some ⟨db, 0, none⟩), .int .i64 (life : Nat), .int .i64 (n : Nat), .int .i64 (next : Nat)]
section
variable {B db lb life n next : Nat} {R : Nat → Prop} {d : DiskD}
theorem DiskIs.drewN {w : World} (h : DiskIs B db R d w) (k : Nat) : DiskIs B db R d (w.drewN k) := h.ext (below_drewN (Below.refl _ _) k)
theorem DiskIs.room_le {w : World} (h : DiskIs B db R d w) : 1 ≤ d.room ∧ d.room ≤ 65536 ∧ d.life ≤ 1000000 := by
  obtain ⟨mb, es, wr, h⟩ := h
  exact ⟨h.room1, h.room2, h.life⟩
def goneD (d : DiskD) (life : Nat) : Bool := d.down || decide (d.life ≠ life)
set_option maxRecDepth 100000 in
set_option maxHeartbeats 4000000 in
theorem gone_c (w : World) (h : DiskIs B db R d w) (hl : LogAt w lb db life n next) : Calls Tryz.prog 102 #[.pointer (some ⟨lb, 0, none⟩)] w (BoolPost w (goneD d life)) := by
  have HD := Lib.hid h
  have z0 : w.cell? ⟨lb, 0, none⟩ = some (.pointer (some ⟨db, 0, none⟩)) := (hl.cell 0).trans rfl
  have z1 : w.cell? ⟨lb, 1, none⟩ = some (.int .i64 (life : Nat)) := (hl.cell 1).trans rfl
  have hll := hl.lt
  cases hd : d.down with
  | true =>
    have HDn := Lib.hid hd
    have HG := Lib.hid (show goneD d life = true from by unfold goneD; rw [hd]; rfl)
    have HC := Lib.hid (fun W h => dDown_c (B := B) (db := db) (R := R) (d := d) W h)
    rw [hd] at HC
    clear h hl hd
    go_enter Tryz.func102, Tryz.ntmps102
    go_wp2_with fail
    go_quiet ((go_at_call 96; exact quiet_val (HC.out _ (HD.out.drewN _))))
    go_wp2_with fail
    go_ret
    rw [HG.out]
    exact ⟨rfl, below_drewN (Below.refl _ _) _⟩
  | false =>
    have HC := Lib.hid (fun W h => dDown_c (B := B) (db := db) (R := R) (d := d) W h)
    rw [hd] at HC
    have HL := Lib.hid (fun W h => dLife_c (B := B) (db := db) (R := R) (d := d) W h)
    have HG := Lib.hid (show goneD d life = decide (d.life ≠ life) from by unfold goneD; rw [hd]; rfl)
    clear h hl hd
    by_cases he : d.life = life
    · have u0 : ((d.life : Int) != (life : Int)) = false := by rw [he]; simp
      have HE := Lib.hid (show decide (d.life ≠ life) = false from by simp [he])
      clear he
      go_enter Tryz.func102, Tryz.ntmps102
      go_wp2_with fail
      go_quiet (first | (go_at_call 96; exact quiet_val (HC.out _ (HD.out.drewN _))) | (go_at_call 97; exact quiet_val (HL.out _ (HD.out.drewN _))))
      go_wp2_with fail
      go_ret
      rw [HG.out, HE.out]
      exact ⟨rfl, below_drewN (Below.refl _ _) _⟩
    · have u0 : ((d.life : Int) != (life : Int)) = true := by rw [bne_iff_ne]; omega
      have HE := Lib.hid (show decide (d.life ≠ life) = true from by simp [he])
      clear he
      go_enter Tryz.func102, Tryz.ntmps102
      go_wp2_with fail
      go_quiet (first | (go_at_call 96; exact quiet_val (HC.out _ (HD.out.drewN _))) | (go_at_call 97; exact quiet_val (HL.out _ (HD.out.drewN _))))
      go_wp2_with fail
      go_ret
      rw [HG.out, HE.out]
      exact ⟨rfl, below_drewN (Below.refl _ _) _⟩
set_option maxRecDepth 100000 in
set_option maxHeartbeats 4000000 in
theorem left_c (w : World) (h : DiskIs B db R d w) (hl : LogAt w lb db life n next) (hn : next ≤ d.room) : Calls Tryz.prog 104 #[.pointer (some ⟨lb, 0, none⟩)] w (IntPost w (d.room - next : Nat)) := by
  have HD := Lib.hid h
  have hr := h.room_le.2.1
  have z0 : w.cell? ⟨lb, 0, none⟩ = some (.pointer (some ⟨db, 0, none⟩)) := (hl.cell 0).trans rfl
  have z3 : w.cell? ⟨lb, 3, none⟩ = some (.int .i64 (next : Nat)) := (hl.cell 3).trans rfl
  have hll := hl.lt
  have HC := Lib.hid (fun W h => dRoom_c (B := B) (db := db) (R := R) (d := d) W h)
  obtain ⟨m, hm⟩ : ∃ m, m = d.room - next := ⟨_, rfl⟩
  have e1 : IntKind.i64.wrap ((d.room : Int) - (next : Nat)) = (m : Nat) := by rw [show (d.room : Int) - (next : Nat) = (m : Nat) by omega]; exact IntWalk.i64_in _ (by omega)
  rw [← hm]
  clear h hl hm
  go_enter Tryz.func104, Tryz.ntmps104
  go_wp2_with fail
  go_quiet ((go_at_call 98; exact quiet_val (HC.out _ (HD.out.drewN _))))
  go_wp2_with fail
  go_ret
  exact ⟨rfl, below_drewN (Below.refl _ _) _⟩
end
end Go.Proofs.YtipfoljmdeiggaaGreatDoor

/- Records on a disk: Open of the program. -/
namespace Go.Proofs.YtipfoljmdeiggaaGreatDoor
open Go.RowKit Go.Sort

/-- A slice of bytes, of its own. -/
structure By where
  A : Option Addr
  c : Nat
  l : List Nat
def bsC (x : By) : List Value := [.slice x.A x.l.length x.c]
theorem bs_app : AppC bsC 25 39 1 24 (.slice none 0 0) :=
  ⟨Tryz.underlying25, by kernel_rfl, rfl, by decide, fun _ => rfl, fun x u hu => by simp only [bsC, List.mem_cons, List.not_mem_nil, or_false] at hu; subst hu; rfl, by decide⟩
/-- A record that was read whole: in a block of bytes below b0. -/
def Fin_ (w : World) (b0 : Nat) (x : By) : Prop := Rd w 0 5 1 x.A x.l.length (x.l.flatMap byC) ∧ (0 < x.l.length → ∃ ad, x.A = some ad ∧ ad.block < b0)
theorem Fin_.ext {w w' : World} {b0 : Nat} {x : By} (h : Fin_ w b0 x) (hb : Below w.heap.size w w') : Fin_ w' b0 x := ⟨h.1.ext hb, h.2⟩
theorem Fin_.mono {w : World} {b0 b1 : Nat} {x : By} (h : Fin_ w b0 x) (hb : b0 ≤ b1) : Fin_ w b1 x := ⟨h.1, fun h0 => by obtain ⟨ad, h1, h2⟩ := h.2 h0; exact ⟨ad, h1, by omega⟩⟩
theorem Fin_.grown {w w' : World} {b0 : Nat} {x : By} {row : Option Nat} (h : Fin_ w b0 x) (hg : w.grownBy w' row) (hr : ∀ k, row = some k → b0 ≤ k) : Fin_ w' b0 x :=
  ⟨h.1.same fun h0 ad hA hl => by
    obtain ⟨ad', hA', hb⟩ := h.2 h0
    rw [hA] at hA'
    injection hA' with hA'
    subst hA'
    exact hg.block _ hl (fun e => by have := hr _ e.symm; omega), h.2⟩
theorem Fin_.grownOwn {w w' : World} {b0 base z m : Nat} {x : By} {e : TypeId} {v : Value} {ys : List Value} (h : Fin_ w b0 x) (hown : w.ownsRow base e z v m ys) (hne : e ≠ 5) (hg : w.grownBy w' v.ownBlock) : Fin_ w' b0 x := ⟨h.1.grownOwn hown hne (Nat.zero_le _) hg, h.2⟩
def LOpenPost (db : Nat) (d : DiskD) (w : World) (e : Ending) (w' : World) : Prop :=
  ∃ (lb : Nat) (A : Option Addr) (c : Nat) (xs : List By), e = .returned (.tuple #[.pointer (some ⟨lb, 0, none⟩), .slice A xs.length c, .nilIface]) ∧ xs.map (·.l) = (openD d).1 ∧ LogAt w' lb db d.life (openD d).1.length (openD d).2 ∧
    w'.ownsRow w.heap.size 39 1 (.slice A xs.length c) xs.length (xs.flatMap bsC) ∧ (∀ x ∈ xs, Rd w' 0 5 1 x.A x.l.length (x.l.flatMap byC)) ∧ Below w.heap.size w w' ∧ w.heap.size ≤ lb
theorem readB_nil (r k : Nat) : readB [] r k = none := by unfold readB readI; rfl
theorem readB_len {raw data : List Nat} {r k : Nat} {last : Bool} (h : readB raw r k = some (data, last)) : data.length ≤ 56 ∧ (∀ x ∈ data, x ∈ raw) := by
  unfold readB at h
  split at h
  · cases h
  · split at h
    · cases h
    · split at h
      · cases h
      · simp only at h
        split at h
        · next hc =>
          have hx := Option.some.inj h
          simp only [Prod.mk.injEq] at hx
          obtain ⟨h1, h2⟩ := hx
          rw [← h1]
          refine ⟨by omega, fun x hx => List.mem_of_mem_drop hx⟩
        · cases h
theorem own_blocks_ne {w : World} {base base' z z' n n' k : Nat} {e e' : TypeId} {v v' : Value} {xs xs' : List Value} (h : w.ownsRow base e z v n xs) (h' : w.ownsRow base' e' z' v' n' xs') (hne : e ≠ e') (hk : v.ownBlock = some k) (hk' : v'.ownBlock = some k) : False := by
  rcases own_ne_own h h' hne with h1 | h1
  · rw [h1] at hk; cases hk
  · rw [hk, hk'] at h1; exact h1 rfl
theorem fin_of_own {w w' : World} {base base' m c n : Nat} {v : Value} {ys : List Value} {A : Option Addr} {rd : List Nat} {o : Obj} (ho : (w.alloc o).ownsRow base 39 m v n ys) (hg : (w.alloc o).grownBy w' v.ownBlock) (h : w.ownsRow base' 5 1 (.slice A rd.length c) rd.length (rd.flatMap byC)) : Fin_ w' w'.heap.size ⟨A, c, rd⟩ := by
  refine ⟨((Rd.of_own (B := 0) h).alloc o).grownOwn ho (by decide) (Nat.zero_le _) hg, fun h0 => ?_⟩
  obtain ⟨gg, hgg, hg1, _⟩ := own_some h h0
  refine ⟨_, hgg, ?_⟩
  have h1 := (h.lt gg (by rw [hgg]; rfl)).2
  have h2 := hg.size
  simp only [World.size_alloc] at h2
  show gg < _
  omega
section
variable {B db : Nat} {R : Nat → Prop} {d : DiskD}
def DReadSome (raw : List Nat) (w : World) (e : Ending) (w' : World) : Prop :=
  ∃ A c, e = .returned (.tuple #[.slice A raw.length c, .bool true, .nilIface]) ∧ RdS w' (fun _ => True) 1 A raw.length (bytesC raw) ∧ raw.length ≤ c ∧ Below w.heap.size w w'
theorem dRead_some {a : Nat} {raw : List Nat} {w : World} (h : DiskIs B db R d w) (hd : d.down = false) (ha : a < d.room) (hr : d.blk a = some raw) : Calls Tryz.prog 99 #[.pointer (some ⟨db, 0, none⟩), .int .i64 (a : Nat)] w (DReadSome raw w) :=
  (dRead_c a w h hd ha).mono fun e w' hp => by
    rw [hr] at hp
    obtain ⟨A, c, he, ho, hb⟩ := hp
    simp only [Option.getD_some, Option.isSome_some] at he ho
    obtain ⟨_, _, hv, hc⟩ := own_shape ho
    have h1 := RdS.of_own (S := fun _ => True) ho (fun _ _ => trivial)
    rw [bytesC_flat] at h1
    exact ⟨A, c, he, h1, by injection hv with _ _ hv; omega, hb⟩
set_option maxRecDepth 100000 in
set_option maxHeartbeats 16000000 in
theorem lOpen_c (w : World) (h : DiskIs B db R d w) (hd : d.down = false) : Calls Tryz.prog 17 #[.pointer (some ⟨db, 0, none⟩)] w (LOpenPost db d w) := by
  have HD := Lib.hid h
  have HDn := Lib.hid hd
  have hroom := h.room_le
  have HC := Lib.hid (fun W h => dDown_c (B := B) (db := db) (R := R) (d := d) W h)
  rw [hd] at HC
  have HLf := Lib.hid (fun W h => dLife_c (B := B) (db := db) (R := R) (d := d) W h)
  have HRm := Lib.hid (fun W h => dRoom_c (B := B) (db := db) (R := R) (d := d) W h)
  have HBy := Lib.hid (show ∀ n l, d.blk n = some l → (∀ x ∈ l, x < 256) ∧ l.length ≤ 64 from by
    obtain ⟨mb, es, wr, h⟩ := h
    intro n l hl
    have h1 := h.all n
    rw [hl] at h1
    cases hg : mget es ((n : Nat) : Int) with
    | none => rw [hg] at h1; cases h1
    | some v =>
      obtain ⟨n', l', A, c, e1, e2, _, _, e3, e4⟩ := h.ent _ _ (mget_mem hg)
      obtain rfl : n' = n := by omega
      rw [hl] at e2
      cases e2
      exact ⟨e3, e4⟩)
  clear h hd
  go_enter Tryz.func17, Tryz.ntmps17
  go_wp2_with (first
    | (go_at_call 96; refine (HC.out _ HD.out).mono ?_; rintro e w' ⟨rfl, rfl⟩)
    | (go_at_call 97; refine (HLf.out _ HD.out).mono ?_; rintro e w' ⟨rfl, rfl⟩))
  obtain ⟨lb, hlbe⟩ : ∃ lb, lb = w.heap.size := ⟨_, rfl⟩
  have hlb : w.heap.size ≤ lb := by omega
  have HL0 := Lib.hid (Bk.new w 169 #[.pointer (some ⟨db, 0, none⟩), .int .i64 (d.life : Nat), .int .i64 0, .int .i64 0])
  rw [← hlbe] at HL0 ⊢
  have HS0 := Lib.hid (show openD d = scan d.blk d.room 0 [] [] 0 0 from rfl)
  clear hlbe
  go_loopg [6, 7, 8, 9] d.room (fun gk v6 v7 v8 v9 wr => ∃ (at_ place nx b0 : Nat) (xs : List By) (rec : List Nat), at_ + gk = d.room ∧ v9 = .int .i64 (at_ : Nat) ∧ v8 = .int .i64 (place : Nat) ∧ place ≤ at_ ∧ xs.length ≤ at_ ∧ rec.length ≤ 64 * at_ ∧ nx ≤ at_ ∧
    Hid (openD d = scan d.blk gk at_ (xs.map (·.l)) rec place nx) ∧ wr.ownsRow w.heap.size 39 1 v6 xs.length (xs.flatMap bsC) ∧ wr.ownsRow b0 5 1 v7 rec.length (rec.flatMap byC) ∧ w.heap.size ≤ b0 ∧ b0 ≤ wr.heap.size ∧
    (∀ x ∈ xs, Fin_ wr b0 x) ∧ Bk wr lb 169 #[.pointer (some ⟨db, 0, none⟩), .int .i64 (d.life : Nat), .int .i64 0, .int .i64 (nx : Nat)] ∧ Below w.heap.size w wr)
  case atStart => exact ⟨0, 0, 0, w.heap.size, [], [], by omega, rfl, rfl, Nat.le_refl _, by simp, by simp, Nat.le_refl _, HS0, World.ownsRow_nil _ _ _ _, World.ownsRow_nil _ _ _ _, Nat.le_refl _, by simp, (fun x hx => by cases hx), HL0.out, ext_alloc (Below.refl _ _) _⟩
  case round =>
    obtain ⟨at_, place, nx, b0, xs, rec, hak, rfl, rfl, hpl, hxl, hrl, hnx, hsc, ho6, ho7, hb01, hb02, hfin, hL, hb⟩ := hrel
    obtain ⟨A6, c6, rfl, hc6⟩ := own_shape ho6
    obtain ⟨A7, c7, rfl, hc7⟩ := own_shape ho7
    have HO6 := Lib.hid ho6
    have HO7 := Lib.hid ho7
    have HF := Lib.hid hfin
    have HL := Lib.hid hL
    have HB := Lib.hid hb
    have HDr := Lib.hid (HD.out.ext hb)
    clear ho6 ho7 hfin hL hb
    by_cases hlt : at_ < d.room
    · obtain ⟨g, rfl⟩ : ∃ g, gk = g + 1 := ⟨gk - 1, by omega⟩
      have HRd := Lib.hid (dRead_c (B := B) (db := db) (R := R) (d := d) at_ wr HDr.out HDn.out hlt)
      cases hbk : d.blk at_ with
      | none =>
        rw [hbk] at HRd
        have HSt := Lib.hid (show openD d = (xs.map (·.l), nx) from (by have h := hsc.out; rw [scan, hbk] at h; exact h))
        clear hbk
        have HBC := Lib.hid (fun W A c h => block_c (fun _ => True) [] A c (xs.length + 1) place W h (by simp) (by simp) (Nat.zero_le _))
        go_upto_region 23 with (first
          | (go_at_call 98; refine (HRm.out _ HDr.out).mono ?_; rintro e w' ⟨rfl, rfl⟩)
          | (go_at_call 99; refine HRd.out.mono ?_; rintro e w2 ⟨A2, c2, rfl, ho2, hb2⟩; have HB2 := Lib.hid hb2; clear ho2 hb2)
          | (go_at_call 100; refine (HBC.out _ _ _ RdS.none_).mono ?_; rw [readB_nil]; rintro e w3 hpost; obtain ⟨v1, v2, rfl, hb3⟩ := hpost.2 rfl; have HB3 := Lib.hid (ext_trans HB2.out hb3); clear hb3 hpost))
        have HL3 := Lib.hid (HL.out.ext HB3.out)
        have HO63 := Lib.hid (own_ext HO6.out HB3.out)
        have HF3 := Lib.hid (fun x hx => (HF.out x hx).ext HB3.out)
        have HBB3 := Lib.hid (ext_trans HB.out HB3.out)
        have HS := Lib.hid (show openD d = (xs.map (·.l), nx) from HSt.out)
        have z1 : w3.cell? ⟨lb, 1, none⟩ = some (.int .i64 (d.life : Nat)) := (HL3.out.cell 1).trans rfl
        have z2 : w3.cell? ⟨lb, 2, none⟩ = some (.int .i64 0) := (HL3.out.cell 2).trans rfl
        have f2 := HL3.out.frozen 2
        have hll := HL3.out.lt
        go_wp2_with fail
        go_ret3
        unfold LOpenPost
        rw [HS.out]
        refine ⟨lb, A6, c6, xs, rfl, by show _ = _; rfl, ?_, ?_, fun x hx => ?_, ?_, hlb⟩
        · show Bk _ lb _ _
          rw [List.length_map]
          exact HL3.out.set_ 2 _
        · exact own_far HL3.out HO63.out (by decide) 2 _
        · exact (HF3.out x hx).1.farBk (Nat.zero_le _) HL3.out (by decide) _
        · exact HBB3.out.setCell (by show w.heap.size ≤ lb; exact hlb) _
      | some raw =>
        have HRd := Lib.hid (dRead_some (w := wr) HDr.out HDn.out hlt hbk)
        obtain ⟨hrby, hr64⟩ := HBy.out at_ raw hbk
        have HRb := Lib.hid hrby
        have HSt := Lib.hid (show openD d = (match readB raw (xs.length + 1) place with
            | none => (xs.map (·.l), nx)
            | some (data, true) => scan d.blk g (at_ + 1) (xs.map (·.l) ++ [rec ++ data]) [] 0 (at_ + 1)
            | some (data, false) => scan d.blk g (at_ + 1) (xs.map (·.l)) (rec ++ data) (place + 1) nx) from (by have h := hsc.out; rw [scan, hbk] at h; simp only [List.length_map] at h; exact h))
        clear hbk hrby
        have HBC := Lib.hid (fun W S A c h hc => block_c S raw A c (xs.length + 1) place W h HRb.out (by omega) hc)
        cases hrd : readB raw (xs.length + 1) place with
        | none =>
          rw [hrd] at HSt HBC
          clear hrd
          go_upto_region 23 with (first
            | (go_at_call 98; refine (HRm.out _ HDr.out).mono ?_; rintro e w' ⟨rfl, rfl⟩)
            | (go_at_call 99; refine HRd.out.mono ?_; rintro e w2 ⟨A2, c2, rfl, hr2, hc2, hb2⟩; have HB2 := Lib.hid hb2; have HR2 := Lib.hid hr2; clear hr2 hb2)
            | (go_at_call 100; refine (HBC.out _ (fun _ => True) _ _ HR2.out hc2).mono ?_; rintro e w3 hpost; obtain ⟨v1, v2, rfl, hb3⟩ := hpost.2 rfl; have HB3 := Lib.hid (ext_trans HB2.out hb3); clear hb3 hpost))
          have HL3 := Lib.hid (HL.out.ext HB3.out)
          have HO63 := Lib.hid (own_ext HO6.out HB3.out)
          have HF3 := Lib.hid (fun x hx => (HF.out x hx).ext HB3.out)
          have HBB3 := Lib.hid (ext_trans HB.out HB3.out)
          have HS := Lib.hid (show openD d = (xs.map (·.l), nx) from HSt.out)
          have z1 : w3.cell? ⟨lb, 1, none⟩ = some (.int .i64 (d.life : Nat)) := (HL3.out.cell 1).trans rfl
          have z2 : w3.cell? ⟨lb, 2, none⟩ = some (.int .i64 0) := (HL3.out.cell 2).trans rfl
          have f2 := HL3.out.frozen 2
          have hll := HL3.out.lt
          go_wp2_with fail
          go_ret3
          unfold LOpenPost
          rw [HS.out]
          refine ⟨lb, A6, c6, xs, rfl, by show _ = _; rfl, ?_, ?_, fun x hx => ?_, ?_, hlb⟩
          · show Bk _ lb _ _
            rw [List.length_map]
            exact HL3.out.set_ 2 _
          · exact own_far HL3.out HO63.out (by decide) 2 _
          · exact (HF3.out x hx).1.farBk (Nat.zero_le _) HL3.out (by decide) _
          · exact HBB3.out.setCell (by show w.heap.size ≤ lb; exact hlb) _
        | some x =>
          obtain ⟨data, last⟩ := x
          rw [hrd] at HSt HBC
          obtain ⟨hd56, hdm⟩ := readB_len hrd
          have HDM := Lib.hid hdm
          clear hrd hdm
          go_upto_region 17 with (first
            | (go_at_call 98; refine (HRm.out _ HDr.out).mono ?_; rintro e w' ⟨rfl, rfl⟩)
            | (go_at_call 99; refine HRd.out.mono ?_; rintro e w2 ⟨A2, c2, rfl, hr2, hc2, hb2⟩; have HB2 := Lib.hid hb2; have HR2 := Lib.hid hr2; clear hr2 hb2)
            | (go_at_call 100; refine (HBC.out _ (fun _ => True) _ _ HR2.out hc2).mono ?_; rintro e w3 hpost; obtain ⟨A3, c3, rfl, hR3, hb3⟩ := hpost.1 data last rfl; have HB3 := Lib.hid (ext_trans HB2.out hb3); have HR3 := Lib.hid hR3; clear hb3 hR3 hpost))
          have HL3 := Lib.hid (HL.out.ext HB3.out)
          have HO63 := Lib.hid (own_ext HO6.out HB3.out)
          have HO73 := Lib.hid (own_ext HO7.out HB3.out)
          have HF3 := Lib.hid (fun x hx => (HF.out x hx).ext HB3.out)
          have HBB3 := Lib.hid (ext_trans HB.out HB3.out)
          have hb3l : b0 ≤ w3.heap.size := Nat.le_trans hb02 HB3.out.size
          have hpl2 : place ≤ 65536 := by omega
          obtain ⟨rd, hrde⟩ : ∃ rd, rd = rec ++ data := ⟨_, rfl⟩
          have hrdl : rd.length = rec.length + data.length := by rw [hrde, List.length_append]
          have HRDL := Lib.hid hrdl
          have HRDE := Lib.hid hrde
          clear hrdl hrde
          cases last with
          | false =>
            have HSn := Lib.hid (show openD d = scan d.blk g (at_ + 1) (xs.map (·.l)) rd (place + 1) nx from (by rw [HRDE.out]; exact HSt.out))
            go_wp2_with (first
              | (at_builtin; refine wpList_appR byte_app _ rfl (.tmp 63) (.tmp 64) rfl b0 (.slice A7 rec.length c7) rec (by rfl) HO73.out data w3.heap.size A3 data.length c3 (by rfl) rfl HR3.out (by omega) hb3l ?_; intro A4 c4 w4 hown4 hg4 hc4
                 rw [← HRDE.out] at hown4 ⊢
                 have HO4 := Lib.hid hown4
                 have HF4 := Lib.hid (fun x hx => (HF3.out x hx).grown hg4 (fun k hk => (HO73.out.lt k hk).1))
                 have HL4 := Lib.hid (HL3.out.grown hg4 (fun e => own_blk_ne' HO73.out HL3.out (by decide) e.symm))
                 have HO64 := Lib.hid (own_fr (S := fun k => (Value.slice A7 rec.length c7).ownBlock = some k) HO63.out (Fr.refl.grown hg4 (fun k hk => .inl hk)) (fun k hk hk' => own_blocks_ne HO63.out HO73.out (by decide) hk hk'))
                 have HB4 := Lib.hid (below_grownOwn HBB3.out HO73.out hb01 hg4)
                 have hs4 := hg4.size
                 clear hown4 hg4))
            go_roundg g
            case measure => omega
            case rel => exact ⟨at_ + 1, place + 1, nx, b0, xs, rd, by omega, by go_num, by go_num, by omega, by omega, by have := HRDL.out; omega, by omega, HSn, HO64.out, HO4.out, hb01, by omega, HF4.out, HL4.out, HB4.out⟩
          | true =>
            have HSn := Lib.hid (show openD d = scan d.blk g (at_ + 1) (xs.map (·.l) ++ [rd]) [] 0 (at_ + 1) from (by rw [HRDE.out]; exact HSt.out))
            have hx0 : xs.length ≤ 65536 := by omega
            go_wp2_with (first
              | (at_builtin
                 refine wpList_appE bs_app _ rfl (.tmp 69) (.tmp 71) rfl w.heap.size (.slice A6 xs.length c6) xs (by rfl) (HO64.out.alloc _) ⟨A4, c4, rd⟩ _ rfl (Bk.new _ _ _) (by omega) (by have := HB4.out.size; simp only [World.size_alloc]; omega) ?_; intro A5 c5 w5 hown5 hg5 hc5
                 have HO5 := Lib.hid hown5
                 have hOa := HO64.out.alloc (.cells (bsC ⟨A4, c4, rd⟩).toArray 39)
                 have HF5 := Lib.hid (fun x hx => ((HF4.out x hx).ext (ext_alloc (Below.refl w4.heap.size w4) (.cells (bsC ⟨A4, c4, rd⟩).toArray 39))).grownOwn hOa (by decide) hg5)
                 have HN5 := Lib.hid (fin_of_own hOa hg5 HO4.out)
                 have HL5 := Lib.hid ((HL4.out.alloc (.cells (bsC ⟨A4, c4, rd⟩).toArray 39)).grown hg5 (fun e => own_blk_ne' hOa (HL4.out.alloc (.cells (bsC ⟨A4, c4, rd⟩).toArray 39)) (by decide) e.symm))
                 have HB5 := Lib.hid (below_grownOwn (ext_alloc HB4.out (.cells (bsC ⟨A4, c4, rd⟩).toArray 39)) hOa (Nat.le_refl _) hg5)
                 have l3 : w5.cell? ⟨lb, 3, none⟩ = some (.int .i64 (nx : Nat)) := (HL5.out.cell 3).trans rfl
                 have lf3 := HL5.out.frozen 3
                 have ll5 := HL5.out.lt
                 have hs5 : w4.heap.size ≤ w5.heap.size := by have := hg5.size; simp only [World.size_alloc] at this; omega
                 clear hown5 hg5 hOa)
              | (at_builtin; refine wpList_appR byte_app _ rfl (.tmp 63) (.tmp 64) rfl b0 (.slice A7 rec.length c7) rec (by rfl) HO73.out data w3.heap.size A3 data.length c3 (by rfl) rfl HR3.out (by omega) hb3l ?_; intro A4 c4 w4 hown4 hg4 hc4
                 rw [← HRDE.out] at hown4 ⊢
                 have HO4 := Lib.hid hown4
                 have HF4 := Lib.hid (fun x hx => (HF3.out x hx).grown hg4 (fun k hk => (HO73.out.lt k hk).1))
                 have HL4 := Lib.hid (HL3.out.grown hg4 (fun e => own_blk_ne' HO73.out HL3.out (by decide) e.symm))
                 have HO64 := Lib.hid (own_fr (S := fun k => (Value.slice A7 rec.length c7).ownBlock = some k) HO63.out (Fr.refl.grown hg4 (fun k hk => .inl hk)) (fun k hk hk' => own_blocks_ne HO63.out HO73.out (by decide) hk hk'))
                 have HB4 := Lib.hid (below_grownOwn HBB3.out HO73.out hb01 hg4)
                 have hs4 := hg4.size
                 clear hown4 hg4))
            go_roundg g
            case measure => omega
            case rel =>
              refine ⟨at_ + 1, 0, at_ + 1, w5.heap.size, xs ++ [⟨A4, c4, rd⟩], [], by omega, by go_num, rfl, by omega, by simp; omega, by simp, Nat.le_refl _, Lib.hid (by rw [HSn.out, List.map_append]; rfl), ?_, World.ownsRow_nil _ _ _ _, by omega, by simp, fun x hx => ?_, ?_, HB5.out.setCell (by show w.heap.size ≤ lb; exact hlb) _⟩
              · have h := own_far HL5.out HO5.out (by decide) 3 (.int .i64 ((at_ : Int) + 1))
                rw [show (xs ++ [(⟨A4, c4, rd⟩ : By)]).length = xs.length + 1 from by simp] at h ⊢
                exact h
              · have hx' : Fin_ w5 w5.heap.size x := by
                  rcases List.mem_append.1 hx with hx | hx
                  · exact (HF5.out x hx).mono (by omega)
                  · rw [List.mem_singleton] at hx; rw [hx]; exact HN5.out
                exact ⟨hx'.1.farBk (Nat.zero_le _) HL5.out (by decide) _, hx'.2⟩
              · exact HL5.out.set_ 3 _
    · have hg0 : gk = 0 := by omega
      subst hg0
      have HS := Lib.hid (show openD d = (xs.map (·.l), nx) from hsc.out)
      have z1 : wr.cell? ⟨lb, 1, none⟩ = some (.int .i64 (d.life : Nat)) := (HL.out.cell 1).trans rfl
      have z2 : wr.cell? ⟨lb, 2, none⟩ = some (.int .i64 0) := (HL.out.cell 2).trans rfl
      have f2 := HL.out.frozen 2
      have hll := HL.out.lt
      go_wp2_with (first | (go_at_call 98; refine (HRm.out _ HDr.out).mono ?_; rintro e w' ⟨rfl, rfl⟩))
      go_ret3
      unfold LOpenPost
      rw [HS.out]
      refine ⟨lb, A6, c6, xs, rfl, by show _ = _; rfl, ?_, ?_, fun x hx => ?_, ?_, hlb⟩
      · show Bk _ lb _ _
        rw [List.length_map]
        exact HL.out.set_ 2 _
      · exact own_far HL.out HO6.out (by decide) 2 _
      · exact (HF.out x hx).1.farBk (Nat.zero_le _) HL.out (by decide) _
      · exact HB.out.setCell (by show w.heap.size ≤ lb; exact hlb) _
end
end Go.Proofs.YtipfoljmdeiggaaGreatDoor
