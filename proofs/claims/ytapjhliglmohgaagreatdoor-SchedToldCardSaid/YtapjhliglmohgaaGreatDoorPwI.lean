/- LogG, WalP, AppG, Wal, WalB: laid together. -/
import Derived.Test.YtapjhliglmohgaaGreatDoorPwH
import Derived.Test.YtapjhliglmohgaaGreatDoorPwB
/- Records on a disk, in plain Lean: what becomes of the records when one is appended. -/
namespace Go.Proofs.YtapjhliglmohgaaGreatDoor
open Go.RowKit Go.Sort
end Go.Proofs.YtapjhliglmohgaaGreatDoor
/- The journal, in plain Lean. -/
namespace Go.Proofs.YtapjhliglmohgaaGreatDoor
open Go.RowKit Go.Sort
structure WalD where
 blocks : List (List Rw)
 cuts : List Nat
 marked : Nat
inductive Rec where
 | block (l : List Rw)
 | cut
 | mark (n : Nat)
def Rec.bytes : Rec → List Nat
 | .block l => intB 1 ++ rowsB l
 | .cut => intB 2
 | .mark n => intB 3 ++ intB (n : Nat)
def WalD.new : WalD := ⟨[], [], 0⟩
/-- May a record come next. -/
def WalD.ok (x : WalD) : Rec → Prop
 | .block l => l.length ≤ 16 ∧ x.blocks.length < 400 ∧ ∀ r ∈ l, I64 r.k ∧ I64 r.v
 | .cut => x.cuts.length < 60
 | .mark n => x.marked < n ∧ n ≤ x.cuts.length
def WalD.does (x : WalD) : Rec → WalD
 | .block l => ⟨x.blocks ++ [l], x.cuts, x.marked⟩
 | .cut => ⟨x.blocks, x.cuts ++ [x.blocks.length], x.marked⟩
 | .mark n => ⟨x.blocks, x.cuts, n⟩
/-- A journal of these records. -/
inductive Hist : List Rec → WalD → Prop
 | nil : Hist [] WalD.new
 | snoc {rs : List Rec} {x : WalD} (h : Hist rs x) (r : Rec) (hr : x.ok r) : Hist (rs ++ [r]) (x.does r)
structure WalIn (x : WalD) : Prop where
 nb : x.blocks.length ≤ 400
 nc : x.cuts.length ≤ 60
 mkd : x.marked ≤ x.cuts.length
theorem Hist.inn {rs : List Rec} {x : WalD} (h : Hist rs x) : WalIn x := by
 induction h with
 | nil => exact ⟨by simp [WalD.new], by simp [WalD.new], by simp [WalD.new]⟩
 | snoc h r hr ih =>
   cases r with
   | block l => exact ⟨by simp only [WalD.does, List.length_append, List.length_singleton]; have := hr.2.1; omega, ih.nc, ih.mkd⟩
   | cut => exact ⟨ih.nb, by simp only [WalD.does, List.length_append, List.length_singleton]; have := hr; simp only [WalD.ok] at this; omega, by simp only [WalD.does, List.length_append, List.length_singleton]; have := ih.mkd; omega⟩
   | mark n => exact ⟨ih.nb, ih.nc, hr.2⟩
theorem Hist.pre {rs : List Rec} {x : WalD} (h : Hist rs x) : ∀ i r, rs[i]? = some r → ∃ y, Hist (rs.take i) y ∧ y.ok r ∧ Hist (rs.take (i + 1)) (y.does r) := by
 induction h with
 | nil => intro i r hi; simp at hi
 | snoc h r hr ih =>
   rename_i rs x
   intro i r' hi
   rcases Nat.lt_or_ge i rs.length with hlt | hge
   · rw [List.getElem?_append_left hlt] at hi
     rw [List.take_append_of_le_length (by omega), List.take_append_of_le_length (by omega)]
     exact ih i r' hi
   · have hl := (List.getElem?_eq_some_iff.1 hi).1
     simp at hl
     obtain rfl : i = rs.length := by omega
     simp only [List.getElem?_concat_length, Option.some.injEq] at hi
     subst hi
     rw [List.take_left, List.take_of_length_le (by simp)]
     exact ⟨x, h, hr, .snoc h _ hr⟩
theorem Hist.one {rs : List Rec} {x y : WalD} (h : Hist rs x) (k : Hist rs y) : x = y := by
 induction h generalizing y with
 | nil =>
   generalize he : ([] : List Rec) = rs at k
   cases k with
   | nil => rfl
   | snoc k r hr => simp at he
 | snoc h r hr ih =>
   rename_i rs x
   generalize he : rs ++ [r] = rs' at k
   cases k with
   | nil => simp at he
   | snoc k r' hr' =>
     obtain ⟨e1, e2⟩ := List.append_inj' he rfl
     subst e1
     cases e2
     rw [ih k]
/-- The disk holds the journal. -/
def WalOk (d : DiskD) (x : WalD) (n next : Nat) : Prop := ∃ rs : List Rec, LogOk d (rs.map Rec.bytes) ∧ Hist rs x ∧ n = rs.length ∧ next = posOf (rs.map Rec.bytes)
theorem WalOk.same {d d' : DiskD} {x : WalD} {n next : Nat} (h : WalOk d x n next) (hb : d'.blk = d.blk) (hr : d'.room = d.room) : WalOk d' x n next := by
 obtain ⟨rs, h1, h2⟩ := h
 exact ⟨rs, h1.same hb hr, h2⟩
theorem WalOk.inn {d : DiskD} {x : WalD} {n next : Nat} (h : WalOk d x n next) : WalIn x := by
 obtain ⟨rs, _, h2, _⟩ := h
 exact h2.inn
theorem WalOk.le {d : DiskD} {x : WalD} {n next : Nat} (h : WalOk d x n next) : n ≤ next ∧ next ≤ d.room := by
 obtain ⟨rs, h1, _, rfl, rfl⟩ := h
 have := posOf_le (rs.map Rec.bytes)
 rw [List.length_map] at this
 exact ⟨this, h1.fits⟩
end Go.Proofs.YtapjhliglmohgaaGreatDoor
/- One element more, and where it lies. -/
namespace Go.Proofs.YtapjhliglmohgaaGreatDoor
open Go.RowKit Go.Sort
section
variable {α : Type} {enc : α → List Value} {te e : TypeId} {z bytes : Nat} {zero : Value}
/-- One element more; where it lies: in the old array or in a new one. -/
theorem wp_appG (C : AppC enc te e z bytes zero) {o : Oper} {a : Act} {K : Act → World → Prop} {Q : Exit → Act → World → Prop} (W : World) (s x : Operand)
 (ho : o.op = .call { callee := .builtin .append, args := #[s, x], argTypes := #[te, te] }) (base : Nat) (v : Value) (l : List α) (hs : a.eval s = v)
 (hown : W.ownsRow base e z v l.length (l.flatMap enc)) (y : α) (g : Nat) (hx : a.eval x = .slice (some ⟨g, 0, none⟩) 1 1) (hg : Bk W g e (enc y).toArray) (hlen : l.length ≤ 1073741824) (hbase : base ≤ W.heap.size)
 (h : ∀ A c w', w'.ownsRow base e z (.slice A (l ++ [y]).length c) (l ++ [y]).length ((l ++ [y]).flatMap enc) → W.grownBy w' v.ownBlock → (l ++ [y]).length ≤ c → ((Value.slice A (l ++ [y]).length c).ownBlock = v.ownBlock ∨ (Value.slice A (l ++ [y]).length c).ownBlock = some W.heap.size) → K (a.put o.dst (.slice A (l ++ [y]).length c)) w') :
 o.wp Tryz.prog a W K Q := by
 obtain ⟨i0, hi0, hz0, hz1, hz2⟩ := info_parts C.info
 have hbb : (l.length + 1) * bytes ≤ 140737488355328 := Nat.le_trans (Nat.mul_le_mul (show l.length + 1 ≤ 1073741825 by omega) C.small) (by omega)
 obtain ⟨v', w', hr, h1, h2, _, h3⟩ := run_append_own_at (P := Tryz.prog) W base te o.type e i0 _ z bytes C.te hi0 hz0 hz1 hz2 C.zz C.z0 v l.length (l.flatMap enc) hown ⟨g, 0, none⟩ 1 1 (enc y) (by rw [C.len]; omega)
  (World.news_of_block (cs := (enc y).toArray) (t := e) (fr := (0, 0)) hg) (C.one y) (by simp only [maxLen]; omega) hbb hbase
 unfold Oper.wp execOp
 simp only [ho, resolve, invoke, builtin, Sem.run_bind, Sem.run_pure, Result.andThen_ok, List.map_toArray, List.map_cons, List.map_nil, hs, hx, hr]
 have h1' : w'.ownsRow base e z v' (l ++ [y]).length ((l ++ [y]).flatMap enc) := by
  rw [List.flatMap_append, List.length_append, List.flatMap_singleton]
  exact h1
 have h1'' := h1'
 rcases h1''.2 with ⟨_, hn⟩ | ⟨b, c, cur, hv, _, _, hc, _⟩
 · simp at hn
 · rw [hv] at h1' h3 ⊢
   exact h _ c w' h1' h2 hc h3
theorem step_appG (C : AppC enc te e z bytes zero) {ops : Array Oper} {o : Oper} {a : Act} {K : Act → World → Prop} {Q : Exit → Act → World → Prop} {E : Prop} (W : World) (hgd : o.guard = none) (s x : Operand)
 (ho : o.op = .call { callee := .builtin .append, args := #[s, x], argTypes := #[te, te] }) (base : Nat) (v : Value) (l : List α) (hs : a.eval s = v)
 (hown : W.ownsRow base e z v l.length (l.flatMap enc)) (y : α) (g : Nat) (hx : a.eval x = .slice (some ⟨g, 0, none⟩) 1 1) (hg : Bk W g e (enc y).toArray) (hlen : l.length ≤ 1073741824) (hbase : base ≤ W.heap.size)
 (h : ∀ A c w', w'.ownsRow base e z (.slice A (l ++ [y]).length c) (l ++ [y]).length ((l ++ [y]).flatMap enc) → W.grownBy w' v.ownBlock → (l ++ [y]).length ≤ c → ((Value.slice A (l ++ [y]).length c).ownBlock = v.ownBlock ∨ (Value.slice A (l ++ [y]).length c).ownBlock = some W.heap.size) → K (a.put o.dst (.slice A (l ++ [y]).length c)) w') :
 if Region.wanted o (yielded ops a.tmps) = true then Oper.wp Tryz.prog o a W K Q else E := by
 rw [if_pos (by simp [Region.wanted, hgd])]
 exact wp_appG C W s x ho base v l hs hown y g hx hg hlen hbase h
theorem wpList_appG (C : AppC enc te e z bytes zero) {ops : Array Oper} {rest : List Oper} {o : Oper} {a : Act} {Q : Exit → Act → World → Prop} (W : World) (hgd : o.guard = none) (s x : Operand)
 (ho : o.op = .call { callee := .builtin .append, args := #[s, x], argTypes := #[te, te] }) (base : Nat) (v : Value) (l : List α) (hs : a.eval s = v)
 (hown : W.ownsRow base e z v l.length (l.flatMap enc)) (y : α) (g : Nat) (hx : a.eval x = .slice (some ⟨g, 0, none⟩) 1 1) (hg : Bk W g e (enc y).toArray) (hlen : l.length ≤ 1073741824) (hbase : base ≤ W.heap.size)
 (h : ∀ A c w', w'.ownsRow base e z (.slice A (l ++ [y]).length c) (l ++ [y]).length ((l ++ [y]).flatMap enc) → W.grownBy w' v.ownBlock → (l ++ [y]).length ≤ c → ((Value.slice A (l ++ [y]).length c).ownBlock = v.ownBlock ∨ (Value.slice A (l ++ [y]).length c).ownBlock = some W.heap.size) → wpList Tryz.prog ops Q rest (a.put o.dst (.slice A (l ++ [y]).length c)) w') :
 wpList Tryz.prog ops Q (o :: rest) a W :=
 wpList_plain hgd fun _ hK => wp_appG C W s x ho base v l hs hown y g hx hg hlen hbase fun A c w' h1 h2 h3 h4 => hK _ _ (h A c w' h1 h2 h3 h4)
end
end Go.Proofs.YtapjhliglmohgaaGreatDoor
/- The journal in memory: does, Marked, Batches, the three tests. -/
namespace Go.Proofs.YtapjhliglmohgaaGreatDoor
open Go.RowKit Go.Sort
/-- A block of rows, of its own. -/
structure Ro where
 A : Option Addr
 c : Nat
 l : List Rw
def roC (x : Ro) : List Value := [.slice x.A x.l.length x.c]
structure WalAt (B wb lb : Nat) (R : Nat → Prop) (x : WalD) (bv cv : Value) (xs : List Ro) (w : World) : Prop where
 bk : Bk w wb 165 #[.pointer (some ⟨lb, 0, none⟩), bv, cv, .int .i64 (x.marked : Nat)]
 ob : w.ownsRow B 83 1 bv xs.length (xs.flatMap roC)
 oc : w.ownsRow B 3 1 cv x.cuts.length (x.cuts.flatMap intC)
 xl : xs.map (·.l) = x.blocks
 ent : ∀ y ∈ xs, w.ownsRow B 211 2 (.slice y.A y.l.length y.c) y.l.length (y.l.flatMap rwC) ∧ ∀ k, (Value.slice y.A y.l.length y.c).ownBlock = some k → R k
 rw_ : R wb
 rb : ∀ k, bv.ownBlock = some k → R k
 rc : ∀ k, cv.ownBlock = some k → R k
 bd : ∀ k, R k → B ≤ k ∧ k < w.heap.size
 inn : WalIn x
section
variable {B wb lb : Nat} {R S : Nat → Prop} {x : WalD} {bv cv : Value} {xs : List Ro} {w w' : World}
theorem WalAt.fr (h : WalAt B wb lb R x bv cv xs w) (hf : Fr S w w') (hR : ∀ k, R k → ¬ S k) : WalAt B wb lb R x bv cv xs w' :=
 ⟨h.bk.fr hf (hR _ h.rw_), own_fr h.ob hf (fun k hk => hR k (h.rb k hk)), own_fr h.oc hf (fun k hk => hR k (h.rc k hk)), h.xl, fun y hy => ⟨own_fr (h.ent y hy).1 hf (fun k hk => hR k ((h.ent y hy).2 k hk)), (h.ent y hy).2⟩, h.rw_, h.rb, h.rc, fun k hk => ⟨(h.bd k hk).1, Nat.lt_of_lt_of_le (h.bd k hk).2 hf.size⟩, h.inn⟩
theorem WalAt.ext (h : WalAt B wb lb R x bv cv xs w) (hb : Below w.heap.size w w') : WalAt B wb lb R x bv cv xs w' := h.fr (S := No) (Fr.of_below hb) (fun _ _ h => h)
theorem WalAt.nb (h : WalAt B wb lb R x bv cv xs w) : xs.length = x.blocks.length := by rw [← h.xl, List.length_map]
end
section
variable {B wb lb : Nat} {R : Nat → Prop} {x : WalD} {bv cv : Value} {xs : List Ro}
set_option maxHeartbeats 4000000 in
theorem wBlocks_n (w : World) (h : WalAt B wb lb R x bv cv xs w) : ∃ A c, bv = .slice A x.blocks.length c ∧ w.cell? ⟨wb, 1, none⟩ = some (.slice A x.blocks.length c) ∧ xs.length ≤ c := by
 obtain ⟨A, c, rfl, hc⟩ := own_shape h.ob
 rw [h.nb] at *
 exact ⟨A, c, rfl, (h.bk.cell 1).trans rfl, by omega⟩
end
theorem WalIn.does {x : WalD} {r : Rec} (h : WalIn x) (hr : x.ok r) : WalIn (x.does r) := by
 cases r with
 | block l => exact ⟨by simp only [WalD.does, List.length_append, List.length_singleton]; have := hr.2.1; omega, h.nc, h.mkd⟩
 | cut => exact ⟨h.nb, by simp only [WalD.does, List.length_append, List.length_singleton]; simp only [WalD.ok] at hr; omega, by simp only [WalD.does, List.length_append, List.length_singleton]; have := h.mkd; omega⟩
 | mark n => exact ⟨h.nb, h.nc, hr.2⟩
section
variable {B wb lb : Nat} {R : Nat → Prop} {x : WalD} {bv cv : Value} {xs : List Ro}
end
end Go.Proofs.YtapjhliglmohgaaGreatDoor
/- The journal in memory: the tests of the program; append. -/
namespace Go.Proofs.YtapjhliglmohgaaGreatDoor
open Go.RowKit Go.Sort
section
variable {B wb lb : Nat} {R : Nat → Prop} {x : WalD} {bv cv : Value} {xs : List Ro}
end
end Go.Proofs.YtapjhliglmohgaaGreatDoor
