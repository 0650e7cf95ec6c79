/- WireC, WireD, WireE, Disk, DiskB, DiskC, LogP: laid together. -/
import Derived.Test.YtapjhliglmohgaaGreatDoorPwF
import Derived.Test.YtapjhliglmohgaaGreatDoorPwE
import Derived.Maps.OwnOps
/- Numbers as bytes: wire.ReadInt of the program. -/
namespace Go.Proofs.YtapjhliglmohgaaGreatDoor
open Go.RowKit Go.Sort
end Go.Proofs.YtapjhliglmohgaaGreatDoor
/- Rows as bytes: wire.Rows of the program. -/
namespace Go.Proofs.YtapjhliglmohgaaGreatDoor
open Go.RowKit Go.Sort
end Go.Proofs.YtapjhliglmohgaaGreatDoor
/- Rows as bytes: wire.ReadRows of the program. -/
namespace Go.Proofs.YtapjhliglmohgaaGreatDoor
open Go.RowKit Go.Sort
end Go.Proofs.YtapjhliglmohgaaGreatDoor
/- The stand-in disk, in memory; New, Down, Life, Room, Arm, Cut, Restart. -/
namespace Go.Proofs.YtapjhliglmohgaaGreatDoor
open Go.RowKit Go.Sort
abbrev inV (n : Int) : Value := .int .i64 n
theorem findNow_int (x : Int) : ∀ (es : List MapEntry) (ks : List Int) (i : Nat), es.map (·.key) = ks.map inV →
 (x ∉ ks ∧ Instr.findNow (.int .i64) (.int .i64 x) es i = some none) ∨ ∃ j e, ks[j]? = some x ∧ es[j]? = some e ∧ Instr.findNow (.int .i64) (.int .i64 x) es i = some (some (i + j, e.val))
 | [], ks, i, h => by
   have : ks = [] := by simpa using h.symm
   subst this
   exact .inl ⟨by simp, rfl⟩
 | e :: es, ks, i, h => by
   match ks, h with
   | [], h => simp at h
   | y :: ks, h =>
     simp only [List.map_cons, List.cons.injEq] at h
     obtain ⟨hk, ht⟩ := h
     have hstep : Instr.findNow (.int .i64) (.int .i64 x) (e :: es) i = if x = y then some (some (i, e.val)) else Instr.findNow (.int .i64) (.int .i64 x) es (i + 1) := by
      rw [Instr.findNow, hk]
      show (match Instr.sameNow _ (Value.int IntKind.i64 x) (Value.int IntKind.i64 y) with | some true => _ | some false => _ | none => _) = _
      by_cases hxy : x = y
      · subst hxy
        simp [Instr.sameNow]
      · have hb : (x == y) = false := beq_eq_false_iff_ne.2 hxy
        simp [Instr.sameNow, hb, hxy]
     by_cases hxy : x = y
     · subst hxy
       exact .inr ⟨0, e, by simp, by simp, by rw [hstep]; simp⟩
     · rcases findNow_int x es ks (i + 1) ht with ⟨hn, hrun⟩ | ⟨j, e', h1, h2, h3⟩
       · exact .inl ⟨by simp [hxy, hn], by rw [hstep, if_neg hxy, hrun]⟩
       · exact .inr ⟨j + 1, e', by simpa using h1, by simpa using h2, by rw [hstep, if_neg hxy, h3]; congr 3; omega⟩
theorem intKey : KeyC Tryz.prog 3 inV where
 check em x w := by kernel_rfl
 stays x w := by
  have : Instr.sameBits 10000 (inV x) (inV x) = true := by simp [Instr.sameBits]
  simp [Instr.keyThatStays, this]
 find w x es ks h := by
  have hd : Tryz.prog.underlying 3 = some (.int .i64) := by kernel_rfl
  rcases findNow_int x es ks 0 h with ⟨hn, hrun⟩ | ⟨j, e', h1, h2, h3⟩
  · exact .inl ⟨hn, by simp [Instr.findKey, run_underlying hd, hrun]⟩
  · exact .inr ⟨j, e', h1, h2, by simp [Instr.findKey, run_underlying hd, h3]⟩
structure DiskD where
 room : Nat
 blk : Nat → Option (List Nat)
 down : Bool
 armed : Nat
 life : Nat
structure DiskAt (B db mb : Nat) (R : Nat → Prop) (d : DiskD) (es : List (Int × Value)) (wr : Int) (w : World) : Prop where
 bk : Bk w db 137 #[.int .i64 (d.room : Nat), .map (some mb), .bool d.down, .int .i64 (d.armed : Nat), .int .i64 wr, .int .i64 (d.life : Nat)]
 map : MapIs inV w mb es
 ent : ∀ (k : Int) (v : Value), (k, v) ∈ es → ∃ (n : Nat) (l : List Nat) (A : Option Addr) (c : Nat), k = (n : Nat) ∧ d.blk n = some l ∧ v = .slice A l.length c ∧ RdS w (fun k => R k ∧ k ≠ db) 1 A l.length (bytesC l) ∧ (∀ x ∈ l, x < 256) ∧ l.length ≤ 64
 all : ∀ (n : Nat), (mget es ((n : Nat) : Int)).isSome = (d.blk n).isSome
 rd : R db
 rm : R mb
 bd : ∀ k, R k → B ≤ k ∧ k < w.heap.size
 life : d.life ≤ 1000000
 armed : d.armed ≤ 9223372036854775807
 room1 : 1 ≤ d.room
 room2 : d.room ≤ 65536
def DiskIs (B db : Nat) (R : Nat → Prop) (d : DiskD) (w : World) : Prop := ∃ mb es wr, DiskAt B db mb R d es wr w
section
variable {B db mb : Nat} {R R' S : Nat → Prop} {d d' : DiskD} {es : List (Int × Value)} {wr : Int} {w w' : World}
theorem DiskAt.fr (h : DiskAt B db mb R d es wr w) (hf : Fr S w w') (hR : ∀ k, R k → ¬ S k) : DiskAt B db mb R d es wr w' :=
 ⟨h.bk.fr hf (hR _ h.rd), h.map.fr hf (hR _ h.rm), fun k v hk => by
   obtain ⟨n, l, A, c, h1, h2, h3, h4, h5⟩ := h.ent k v hk
   exact ⟨n, l, A, c, h1, h2, h3, h4.fr hf (fun k hk => hR k hk.1), h5⟩, h.all, h.rd, h.rm, fun k hk => ⟨(h.bd k hk).1, Nat.lt_of_lt_of_le (h.bd k hk).2 hf.size⟩, h.life, h.armed, h.room1, h.room2⟩
theorem DiskIs.fr (h : DiskIs B db R d w) (hf : Fr S w w') (hR : ∀ k, R k → ¬ S k) : DiskIs B db R d w' := by
 obtain ⟨mb, es, wr, h⟩ := h
 exact ⟨mb, es, wr, h.fr hf hR⟩
theorem DiskAt.ext (h : DiskAt B db mb R d es wr w) (hb : Below w.heap.size w w') : DiskAt B db mb R d es wr w' := h.fr (S := No) (Fr.of_below hb) (fun _ _ h => h)
theorem DiskIs.ext (h : DiskIs B db R d w) (hb : Below w.heap.size w w') : DiskIs B db R d w' := h.fr (S := No) (Fr.of_below hb) (fun _ _ h => h)
theorem DiskIs.bd (h : DiskIs B db R d w) : ∀ k, R k → B ≤ k ∧ k < w.heap.size := by
 obtain ⟨mb, es, wr, h⟩ := h
 exact h.bd
theorem DiskIs.rd (h : DiskIs B db R d w) : R db := by
 obtain ⟨mb, es, wr, h⟩ := h
 exact h.rd
/-- A field is set. -/
theorem DiskAt.put (h : DiskAt B db mb R d es wr w) {j : Nat} {u : Value} {wr' : Int} (hb : (#[.int .i64 (d.room : Nat), .map (some mb), .bool d.down, .int .i64 (d.armed : Nat), .int .i64 wr, .int .i64 (d.life : Nat)] : Array Value).setIfInBounds j u = #[.int .i64 (d'.room : Nat), .map (some mb), .bool d'.down, .int .i64 (d'.armed : Nat), .int .i64 wr', .int .i64 (d'.life : Nat)]) (hbl : d'.blk = d.blk) (hr : d'.room = d.room) (hl : d'.life ≤ 1000000) (ha : d'.armed ≤ 9223372036854775807) :
 DiskAt B db mb R d' es wr' (w.setCell ⟨db, j, none⟩ u) := by
 refine ⟨by rw [← hb]; exact h.bk.set_ j u, h.map.setCell _ _, fun k v hk => ?_, by rw [hbl]; exact h.all, h.rd, h.rm, fun k hk => by simpa using h.bd k hk, hl, ha, by rw [hr]; exact h.room1, by rw [hr]; exact h.room2⟩
 obtain ⟨n, l, A, c, h1, h2, h3, h4, h5⟩ := h.ent k v hk
 rw [hbl]
 exact ⟨n, l, A, c, h1, h2, h3, h4.fr (Fr.one w db j u) (fun k hk e => hk.2 e), h5⟩
end
/-! ### what a disk does -/
def DiskD.new (room : Nat) : DiskD := ⟨room, fun _ => none, false, 0, 0⟩
def DiskD.cut (d : DiskD) : DiskD := ⟨d.room, d.blk, true, 0, if d.down then d.life else d.life + 1⟩
section
variable {B db : Nat} {R : Nat → Prop} {d : DiskD}
end
end Go.Proofs.YtapjhliglmohgaaGreatDoor
/- The stand-in disk: met, refused, Read, Write. -/
namespace Go.Proofs.YtapjhliglmohgaaGreatDoor
open Go.RowKit Go.Sort
section
variable {B db : Nat} {R : Nat → Prop} {d : DiskD}
end
end Go.Proofs.YtapjhliglmohgaaGreatDoor
/- The stand-in disk: Write. -/
namespace Go.Proofs.YtapjhliglmohgaaGreatDoor
open Go.RowKit Go.Sort
theorem mget_mset {α : Type} [DecidableEq α] {m : List (α × Value)} {x y : α} {v : Value} (hn : (m.map (·.1)).Nodup) : mget (mset m x v) y = if y = x then some v else mget m y := by
 have hkeys : ∀ z, (∃ u, (z, u) ∈ mset m x v) ↔ z = x ∨ z ∈ m.map (·.1) := by
  intro z
  constructor
  · rintro ⟨u, hu⟩
    rcases mem_mset hu with ⟨rfl, _⟩ | h
    · exact .inl rfl
    · exact .inr (List.mem_map_of_mem (f := Prod.fst) h)
  · unfold mset
    rintro (rfl | h)
    · split
      · next hx =>
        obtain ⟨p, hp, he⟩ := List.mem_map.1 hx
        exact ⟨v, List.mem_map.2 ⟨p, hp, by rw [if_pos he]⟩⟩
      · exact ⟨v, List.mem_append_right _ (by simp)⟩
    · obtain ⟨p, hp, he⟩ := List.mem_map.1 h
      split
      · by_cases hpx : p.1 = x
        · exact ⟨v, List.mem_map.2 ⟨p, hp, by rw [if_pos hpx, ← hpx, he]⟩⟩
        · exact ⟨p.2, List.mem_map.2 ⟨p, hp, by rw [if_neg hpx, ← he]⟩⟩
      · exact ⟨p.2, List.mem_append_left _ (by rw [← he]; exact hp)⟩
 have hnd : ((mset m x v).map (·.1)).Nodup := by
  unfold mset
  split
  · have : (m.map fun p => if p.1 = x then (x, v) else p).map (·.1) = m.map (·.1) := by
      rw [List.map_map]
      refine List.map_congr_left fun p _ => ?_
      simp only [Function.comp]
      split
      · next h => exact h.symm
      · rfl
    rw [this]
    exact hn
  · next hx =>
    rw [List.map_append, List.nodup_append]
    exact ⟨hn, by simp, fun a ha b hb e => by
      simp only [List.map_cons, List.map_nil, List.mem_singleton] at hb
      rw [e, hb] at ha
      exact hx ha⟩
 by_cases hyx : y = x
 · rw [if_pos hyx]
   refine mget_some hnd ?_
   obtain ⟨u, hu⟩ := (hkeys y).2 (.inl hyx)
   rcases mem_mset hu with ⟨_, rfl⟩ | h
   · exact hu
   · have hu2 : (y, v) ∈ mset m x v := by
       unfold mset
       rw [if_pos (by rw [← hyx]; exact List.mem_map_of_mem (f := Prod.fst) h)]
       exact List.mem_map.2 ⟨(y, u), h, by rw [if_pos hyx, hyx]⟩
     exact hu2
 · rw [if_neg hyx]
   cases hg : mget m y with
   | some u =>
     refine mget_some hnd ?_
     have h := mget_mem hg
     unfold mset
     split
     · exact List.mem_map.2 ⟨(y, u), h, by rw [if_neg hyx]⟩
     · exact List.mem_append_left _ h
   | none =>
     refine mget_none fun hy => ?_
     obtain ⟨p, hp, he⟩ := List.mem_map.1 hy
     have h1 := (hkeys y).1 ⟨p.2, by rw [← he]; exact hp⟩
     rcases h1 with h1 | h1
     · exact hyx h1
     · obtain ⟨q, hq, hqe⟩ := List.mem_map.1 h1
       have := mget_some hn (show (y, q.2) ∈ m by rw [← hqe]; exact hq)
       rw [hg] at this
       cases this
section
variable {B db : Nat} {R : Nat → Prop} {d : DiskD}
/-- A block is laid. -/
theorem DiskAt.lay {mb : Nat} {es : List (Int × Value)} {wr : Int} {w w' : World} {n : Nat} {l : List Nat} {A1 : Option Addr} {c1 base : Nat} (h : DiskAt B db mb R d es wr w) (hg : w.grownBy w' (some mb)) (hm : MapIs inV w' mb (mset es ((n : Nat) : Int) (.slice A1 l.length c1)))
 (hown : w.ownsRow base 5 1 (.slice A1 l.length c1) l.length (l.flatMap byC)) (hB : B ≤ base) (hdb : db < base) (hby : ∀ x ∈ l, x < 256) (h64 : l.length ≤ 64) :
 DiskAt B db mb (fun k => R k ∨ (Value.slice A1 l.length c1).ownBlock = some k) ⟨d.room, fun k => if k = n then some l else d.blk k, d.down, d.armed, d.life⟩ (mset es ((n : Nat) : Int) (.slice A1 l.length c1)) wr w' := by
 have hf : Fr (fun k => k = mb) w w' := Fr.map_ hg
 obtain ⟨es0, cl0, hmo⟩ := h.map.obj
 have hnm : ∀ {k : Nat} {cs : Array Value} {t : TypeId} {f : Nat × Nat}, w.heap[k]? = some (.cells cs t f) → k ≠ mb := by
  intro k cs t f hk e
  subst e
  rw [hmo] at hk
  cases hk
 have rds : ∀ {S : Nat → Prop} {n : Nat} {A0 : Option Addr} {xs : List Value}, RdS w S 1 A0 n xs → RdS w' S 1 A0 n xs := by
  intro S n A0 xs hr
  refine ⟨hr.1, fun hn => ?_⟩
  obtain ⟨ad, hA, hS, hl, hc⟩ := hr.2 hn
  refine ⟨ad, hA, hS, Nat.lt_of_lt_of_le hl hf.size, fun j u hu => ?_⟩
  have hp : 0 < xs.length := by rw [hr.1]; omega
  have h0 := hc 0 _ (List.getElem?_eq_getElem hp)
  have hne : ad.block ≠ mb := by
   intro e
   rw [World.cell?] at h0
   rw [block_of_add, e, hmo] at h0
   cases h0
  rw [World.cell?_of_block (w := w) (by rw [block_of_add]; exact hf.block _ hl hne)]
  exact hc j u hu
 refine ⟨h.bk.fr hf (hnm h.bk), hm, fun k v hx => ?_, fun m => ?_, .inl h.rd, .inl h.rm, fun k hk => ?_, h.life, h.armed, h.room1, h.room2⟩
 · rcases mem_mset hx with ⟨rfl, rfl⟩ | hx'
   · refine ⟨n, l, A1, c1, rfl, by simp, rfl, rds ?_, hby, h64⟩
     have := RdS.of_own (S := fun k => (R k ∨ (Value.slice A1 l.length c1).ownBlock = some k) ∧ k ≠ db) hown (fun k hk => ⟨.inr hk, by have := (hown.lt k hk).1; omega⟩)
     rw [bytesC_flat] at this
     exact this
   · by_cases hkn : k = (n : Int)
     · subst hkn
       have h1 := mget_some hm.nodup hx
       rw [mget_mset h.map.nodup, if_pos rfl] at h1
       cases h1
       refine ⟨n, l, A1, c1, rfl, by simp, rfl, rds ?_, hby, h64⟩
       have := RdS.of_own (S := fun k => (R k ∨ (Value.slice A1 l.length c1).ownBlock = some k) ∧ k ≠ db) hown (fun k hk => ⟨.inr hk, by have := (hown.lt k hk).1; omega⟩)
       rw [bytesC_flat] at this
       exact this
     · obtain ⟨n', l', A', c', h1, h2, h3, h4, h5⟩ := h.ent k v hx'
       refine ⟨n', l', A', c', h1, ?_, h3, (rds h4).mono fun k hk => ⟨.inl hk.1, hk.2⟩, h5⟩
       show (if n' = n then _ else _) = _
       rw [if_neg (fun e => hkn (by rw [h1, e])), h2]
 · rw [mget_mset h.map.nodup]
   by_cases e : m = n
   · subst e
     simp
   · have e' : ((m : Nat) : Int) ≠ ((n : Nat) : Int) := by omega
     rw [if_neg e', h.all m]
     simp [e]
 · rcases hk with hk | hk
   · exact ⟨(h.bd k hk).1, Nat.lt_of_lt_of_le (h.bd k hk).2 hf.size⟩
   · have := hown.lt k hk
     exact ⟨by omega, Nat.lt_of_lt_of_le this.2 hf.size⟩
end
end Go.Proofs.YtapjhliglmohgaaGreatDoor
/- Records on a disk, in plain Lean: what a block holds, what is found, what is kept. -/
namespace Go.Proofs.YtapjhliglmohgaaGreatDoor
open Go.RowKit Go.Sort
/-- How many blocks a record needs. -/
def blocksN (n : Nat) : Nat := max 1 ((n + 55) / 56)
theorem blocksN_pos (n : Nat) : 1 ≤ blocksN n := Nat.le_max_left _ _
def headB (r k : Nat) (last : Bool) : List Nat := intB (r : Nat) ++ (intB (k : Nat) ++ intB (if last then 1 else 0))
def partB (b : List Nat) (k : Nat) : List Nat := (b.drop (56 * k)).take 56
def lastB (b : List Nat) (k : Nat) : Bool := decide (k + 1 = blocksN b.length)
def blockB (r : Nat) (b : List Nat) (k : Nat) : List Nat := headB r k (lastB b k) ++ partB b k
/-- Is a block the place k of the record r: its bytes, and whether it is the last one. -/
def readB (raw : List Nat) (r k : Nat) : Option (List Nat × Bool) :=
 match readI raw 0 with
 | .bad _ => none
 | .ok x a1 => match readI raw (a1 : Nat) with
   | .bad _ => none
   | .ok y a2 => match readI raw (a2 : Nat) with
     | .bad _ => none
     | .ok z a3 =>
       let data := raw.drop a3
       if x = (r : Nat) ∧ y = (k : Nat) ∧ (z = 0 ∨ z = 1) ∧ (data.length = 56 ∨ (z = 1 ∧ data.length < 56 ∧ (0 < data.length ∨ k = 0))) then some (data, decide (z = 1)) else none
/-! ### what is found -/
/-- The block behind the records. -/
def posOf (recs : List (List Nat)) : Nat := (recs.map fun b => blocksN b.length).sum
theorem posOf_snoc (recs : List (List Nat)) (b : List Nat) : posOf (recs ++ [b]) = posOf recs + blocksN b.length := by unfold posOf; simp
/-- The disk holds these records, and behind them nothing that could be taken for one. -/
structure LogOk (d : DiskD) (recs : List (List Nat)) : Prop where
 fits : posOf recs ≤ d.room
 recd : ∀ i b, recs[i]? = some b → ∀ k, k < blocksN b.length → d.blk (posOf (recs.take i) + k) = some (blockB (i + 1) b k)
 stale : ∀ n raw, posOf recs ≤ n → d.blk n = some raw → ∀ r k x, readB raw r k = some x → r ≤ recs.length ∨ (r = recs.length + 1 ∧ x.2 = false)
theorem posOf_le (recs : List (List Nat)) : recs.length ≤ posOf recs := by
 unfold posOf
 induction recs with
 | nil => simp
 | cons b l ih =>
   have := blocksN_pos b.length
   simp only [List.map_cons, List.sum_cons, List.length_cons]
   omega
/-- A disk whose blocks are the same holds the same. -/
theorem LogOk.same {d d' : DiskD} {recs : List (List Nat)} (h : LogOk d recs) (hb : d'.blk = d.blk) (hr : d'.room = d.room) : LogOk d' recs := ⟨by rw [hr]; exact h.fits, by rw [hb]; exact h.recd, by rw [hb]; exact h.stale⟩
/-- The last block of one record more was written. -/
theorem LogOk.whole {d : DiskD} {recs : List (List Nat)} {b : List Nat} {d' : DiskD} (h : LogOk d recs) (_hl : recs.length + 1 ≤ 1000000) (hk6 : blocksN b.length ≤ 1000000) (hfit : posOf recs + blocksN b.length ≤ d.room) (hpre : ∀ k, k + 1 < blocksN b.length → d.blk (posOf recs + k) = some (blockB (recs.length + 1) b k))
 (hb : d'.blk = fun n => if n = posOf recs + (blocksN b.length - 1) then some (blockB (recs.length + 1) b (blocksN b.length - 1)) else d.blk n) (hr : d'.room = d.room) : LogOk d' (recs ++ [b]) := by
 have hb1 := blocksN_pos b.length
 refine ⟨by rw [posOf_snoc, hr]; exact hfit, fun i b' hi j hj => ?_, fun n raw hn hraw r k' x hx => ?_⟩
 · rw [hb]
   simp only
   rcases Nat.lt_or_ge i recs.length with hlt | hge
   · rw [List.getElem?_append_left hlt] at hi
     have hs : recs.take (i + 1) = recs.take i ++ [b'] := take_succ_of hi
     have hp : posOf (recs.take (i + 1)) = posOf (recs.take i) + blocksN b'.length := by rw [hs, posOf_snoc]
     have hple : posOf (recs.take (i + 1)) ≤ posOf recs := by
      have : posOf recs = posOf (recs.take (i + 1)) + posOf (recs.drop (i + 1)) := by
       unfold posOf
       rw [← List.sum_append, ← List.map_append, List.take_append_drop]
      omega
     rw [List.take_append_of_le_length (by omega), if_neg (by omega)]
     exact h.recd i b' hi j hj
   · have hie : i = recs.length := by
       have := (List.getElem?_eq_some_iff.1 hi).1
       simp at this
       omega
     subst hie
     simp only [List.getElem?_concat_length, Option.some.injEq] at hi
     subst hi
     rw [List.take_left]
     by_cases e : j = blocksN b.length - 1
     · rw [if_pos (by omega), e]
     · rw [if_neg (by omega)]
       exact hpre j (by omega)
 · rw [posOf_snoc] at hn
   rw [hb] at hraw
   simp only at hraw
   rw [if_neg (by omega)] at hraw
   rw [List.length_append]
   rcases h.stale n raw (by omega) hraw r k' x hx with h1 | ⟨h1, _⟩
   · exact .inl (by omega)
   · exact .inl (by simp; omega)
end Go.Proofs.YtapjhliglmohgaaGreatDoor
