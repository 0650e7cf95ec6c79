/- Kit, Err, ErrB, Ops, Is: laid together. -/
import Derived.Test.YtapjhliglmohgaaGreatDoorPwA
import Derived.Deep.QuietTactic
import Derived.BigQuiet
import Derived.Outline
import Derived.Deep.RegionHeld3
import Derived.Deep.RegionLaw
import Derived.WalkLawsBesides
import Derived.WalkSpells
import Derived.Deep.LoopGhost
import Derived.Deep.DeepCutAuto
import Derived.Deep.DeepFit
import Derived.Deep.DeepMust
import Derived.Deep.CutBlock
import Derived.Deep.RegionWith
import Derived.RegionTactic
import Derived.BigRegion
import Derived.Sort.Grow
import Derived.LaidEql
import Derived.Stop.Asserts
import Derived.RowKitTokens
import Derived.Lib.IfaceEq
/- General words for walks: appends, rows of the call's own, slices of slices, what a call may have changed. -/
namespace Go.Proofs.YtapjhliglmohgaaGreatDoor
open Go.RowKit Go.Sort
def Val (w : World) (v : Value) (e : Ending) (w' : World) : Prop := e = .returned v ∧ w = w'
def BoolPost (w : World) (b : Bool) (e : Ending) (w' : World) : Prop := e = .returned (.bool b) ∧ Below w.heap.size w w'
def IntPost (w : World) (n : Int) (e : Ending) (w' : World) : Prop := e = .returned (.int .i64 n) ∧ Below w.heap.size w w'
theorem take_succ_of {α : Type} {l : List α} {i : Nat} {y : α} (h : l[i]? = some y) : l.take (i + 1) = l.take i ++ [y] := by
 rw [List.take_add_one, h]; rfl
theorem own_shape {w : World} {base : Nat} {e : TypeId} {size n : Nat} {v : Value} {xs : List Value} (h : w.ownsRow base e size v n xs) : ∃ A c, v = .slice A n c ∧ n ≤ c := by
 rcases h.2 with ⟨hv, hn⟩ | ⟨b, c, cur, hv, _, _, hc, _⟩
 · exact ⟨_, _, by rw [hv, hn], by omega⟩
 · exact ⟨_, _, hv, hc⟩
section
variable {α : Type} {enc : α → List Value} {te e : TypeId} {z bytes : Nat} {zero : Value}
structure AppC (enc : α → List Value) (te e : TypeId) (z bytes : Nat) (zero : Value) : Prop where
 te : Tryz.prog.underlying te = some (.slice e)
 info : (Tryz.prog.info? e).map (fun i => (i.zero, i.size, i.bytes)) = some (some zero, z, bytes)
 zz : zero.cells.size = z
 z0 : 0 < z
 len : ∀ x, (enc x).length = z
 one : ∀ x, ∀ u ∈ enc x, u.oneCell' = true
 small : bytes ≤ 65536
theorem flat_len (C : AppC enc te e z bytes zero) (l : List α) : (l.flatMap enc).length = l.length * z := by
 induction l with
 | nil => simp
 | cons y l ih => rw [List.flatMap_cons, List.length_append, C.len, ih, List.length_cons, Nat.add_mul]; omega
theorem wp_appE (C : AppC enc te e z bytes zero) {o : Oper} {a : Act} {K : Act → World → Prop} {Q : Exit → Act → World → Prop} (W : World) (s x : Operand)
 (ho : o.op = .call { callee := .builtin .append, args := #[s, x], argTypes := #[te, te] }) (base : Nat) (v : Value) (l : List α) (hs : a.eval s = v)
 (hown : W.ownsRow base e z v l.length (l.flatMap enc)) (y : α) (g : Nat) (hx : a.eval x = .slice (some ⟨g, 0, none⟩) 1 1) (hg : Bk W g e (enc y).toArray) (hlen : l.length ≤ 1073741824) (hbase : base ≤ W.heap.size)
 (h : ∀ A c w', w'.ownsRow base e z (.slice A (l ++ [y]).length c) (l ++ [y]).length ((l ++ [y]).flatMap enc) → W.grownBy w' v.ownBlock → (l ++ [y]).length ≤ c → K (a.put o.dst (.slice A (l ++ [y]).length c)) w') :
 o.wp Tryz.prog a W K Q := by
 obtain ⟨i0, hi0, hz0, hz1, hz2⟩ := info_parts C.info
 have hbb : (l.length + 1) * bytes ≤ 140737488355328 := Nat.le_trans (Nat.mul_le_mul (show l.length + 1 ≤ 1073741825 by omega) C.small) (by omega)
 obtain ⟨v', w', hr, h1, h2, _, _⟩ := run_append_own_at (P := Tryz.prog) W base te o.type e i0 _ z bytes C.te hi0 hz0 hz1 hz2 C.zz C.z0 v l.length (l.flatMap enc) hown ⟨g, 0, none⟩ 1 1 (enc y) (by rw [C.len]; omega)
  (World.news_of_block (cs := (enc y).toArray) (t := e) (fr := (0, 0)) hg) (C.one y) (by simp only [maxLen]; omega) hbb hbase
 unfold Oper.wp execOp
 simp only [ho, resolve, invoke, builtin, Sem.run_bind, Sem.run_pure, Result.andThen_ok, List.map_toArray, List.map_cons, List.map_nil, hs, hx, hr]
 have h1' : w'.ownsRow base e z v' (l ++ [y]).length ((l ++ [y]).flatMap enc) := by
  rw [List.flatMap_append, List.length_append, List.flatMap_singleton]
  exact h1
 have h1'' := h1'
 rcases h1''.2 with ⟨_, hn⟩ | ⟨b, c, cur, hv, _, _, hc, _⟩
 · simp at hn
 · rw [hv] at h1' ⊢
   exact h _ c w' h1' h2 hc
theorem wpList_appE (C : AppC enc te e z bytes zero) {ops : Array Oper} {rest : List Oper} {o : Oper} {a : Act} {Q : Exit → Act → World → Prop} (W : World) (hgd : o.guard = none) (s x : Operand)
 (ho : o.op = .call { callee := .builtin .append, args := #[s, x], argTypes := #[te, te] }) (base : Nat) (v : Value) (l : List α) (hs : a.eval s = v)
 (hown : W.ownsRow base e z v l.length (l.flatMap enc)) (y : α) (g : Nat) (hx : a.eval x = .slice (some ⟨g, 0, none⟩) 1 1) (hg : Bk W g e (enc y).toArray) (hlen : l.length ≤ 1073741824) (hbase : base ≤ W.heap.size)
 (h : ∀ A c w', w'.ownsRow base e z (.slice A (l ++ [y]).length c) (l ++ [y]).length ((l ++ [y]).flatMap enc) → W.grownBy w' v.ownBlock → (l ++ [y]).length ≤ c → wpList Tryz.prog ops Q rest (a.put o.dst (.slice A (l ++ [y]).length c)) w') :
 wpList Tryz.prog ops Q (o :: rest) a W :=
 wpList_plain hgd fun _ hK => wp_appE C W s x ho base v l hs hown y g hx hg hlen hbase fun A c w' h1 h2 h3 => hK _ _ (h A c w' h1 h2 h3)
theorem step_appE (C : AppC enc te e z bytes zero) {ops : Array Oper} {o : Oper} {a : Act} {K : Act → World → Prop} {Q : Exit → Act → World → Prop} {E : Prop} (W : World) (hgd : o.guard = none) (s x : Operand)
 (ho : o.op = .call { callee := .builtin .append, args := #[s, x], argTypes := #[te, te] }) (base : Nat) (v : Value) (l : List α) (hs : a.eval s = v)
 (hown : W.ownsRow base e z v l.length (l.flatMap enc)) (y : α) (g : Nat) (hx : a.eval x = .slice (some ⟨g, 0, none⟩) 1 1) (hg : Bk W g e (enc y).toArray) (hlen : l.length ≤ 1073741824) (hbase : base ≤ W.heap.size)
 (h : ∀ A c w', w'.ownsRow base e z (.slice A (l ++ [y]).length c) (l ++ [y]).length ((l ++ [y]).flatMap enc) → W.grownBy w' v.ownBlock → (l ++ [y]).length ≤ c → K (a.put o.dst (.slice A (l ++ [y]).length c)) w') :
 if Region.wanted o (yielded ops a.tmps) = true then Oper.wp Tryz.prog o a W K Q else E := by
 rw [if_pos (by simp [Region.wanted, hgd])]
 exact wp_appE C W s x ho base v l hs hown y g hx hg hlen hbase h
end
def GrowPost (W : World) (v : Value) (e : Ending) (w' : World) : Prop := e = .returned v ∧ ∃ q os', w' = grow (W.drewN q) os'
theorem grownBy_of_below {w w' : World} (hb : Below w.heap.size w w') : w.grownBy w' none := ⟨hb.os, hb.tape, hb.output, hb.size, fun k hk _ => hb.block k hk⟩
theorem own_ne_own {w : World} {base base' : Nat} {e e' : TypeId} {z z' n n' : Nat} {v v' : Value} {xs xs' : List Value} (h : w.ownsRow base e z v n xs) (h' : w.ownsRow base' e' z' v' n' xs') (hne : e ≠ e') : v.ownBlock = none ∨ v.ownBlock ≠ v'.ownBlock := by
 rcases h.2 with ⟨hv, _⟩ | ⟨g, c, cur, hv, _, hg, _⟩
 · left; rw [hv]; rfl
 · right
   rcases h'.2 with ⟨hv', _⟩ | ⟨g', c', cur', hv', _, hg', _⟩
   · rw [hv, hv']; simp [Value.ownBlock]
   · rw [hv, hv']
     simp only [Value.ownBlock, ne_eq, Option.some.injEq]
     rintro rfl
     rw [hg] at hg'
     cases hg'
     exact hne rfl
theorem Rd.grownOwn {w w' : World} {B base : Nat} {e e' : TypeId} {z size n m : Nat} {A : Option Addr} {xs ys : List Value} {v : Value} (h : Rd w B e size A n xs) (hown : w.ownsRow base e' z v m ys) (hne : e' ≠ e) (hB : B ≤ base) (hg : w.grownBy w' v.ownBlock) : Rd w' B e size A n xs :=
 h.keep fun k o hk hc => by
  refine (hg.block k (lt_of_some hk) ?_).trans hk
  intro he
  rcases hown.2 with ⟨hv, _⟩ | ⟨g, c, cur, hv, hb, hgg, _⟩
  · rw [hv] at he; simp [Value.ownBlock] at he
  · rw [hv] at he
    simp only [Value.ownBlock, Option.some.injEq] at he
    subst he
    rcases hc with hc | ⟨c', f, rfl⟩
    · omega
    · rw [hgg] at hk; cases hk; exact hne rfl
theorem IterIs.grownOwn {α : Type} {enc : α → Value} {w w' : World} {r b base : Nat} {m left : List (α × Value)} {e' : TypeId} {z n : Nat} {ys : List Value} {v : Value} (h : IterIs enc w r b m left) (hown : w.ownsRow base e' z v n ys) (hg : w.grownBy w' v.ownBlock) : IterIs enc w' r b m left := by
 obtain ⟨x1, x2, x3, x4, ho⟩ := h.obj
 obtain ⟨es, cl, hm⟩ := h.isMap.obj
 have hne : ∀ k o, w.heap[k]? = some o → (∀ c f, o ≠ .cells c e' f) → some k ≠ v.ownBlock := by
  intro k o hk ho he
  rcases hown.2 with ⟨hv, _⟩ | ⟨g, c, cur, hv, hb, hgg, _⟩
  · rw [hv] at he; simp [Value.ownBlock] at he
  · rw [hv] at he
    simp only [Value.ownBlock, Option.some.injEq] at he
    subst he
    rw [hgg] at hk
    exact ho _ _ (Option.some.inj hk).symm
 exact h.keep (hg.block _ h.lt (hne _ _ ho (by intro c f h; cases h))) (hg.block _ h.isMap.lt (hne _ _ hm (by intro c f h; cases h)))
theorem below_grownOwn {w0 w w' : World} {base : Nat} {e' : TypeId} {z n : Nat} {ys : List Value} {v : Value} (h : Below w0.heap.size w0 w) (hown : w.ownsRow base e' z v n ys) (hB : w0.heap.size ≤ base) (hg : w.grownBy w' v.ownBlock) : Below w0.heap.size w0 w' :=
 h.grown hg h.size (fun k hk => by have := (hown.lt _ hk).1; omega)
/-- What an append to a row of the call's own leaves. -/
def KeepBut (B : Nat) (e' : TypeId) (w w' : World) : Prop := ∀ k o, w.heap[k]? = some o → (k < B ∨ ∀ c f, o ≠ .cells c e' f) → w'.heap[k]? = some o
theorem keepBut_own {w w' : World} {B base : Nat} {e' : TypeId} {z m : Nat} {ys : List Value} {v : Value} (hown : w.ownsRow base e' z v m ys) (hB : B ≤ base) (hg : w.grownBy w' v.ownBlock) : KeepBut B e' w w' := by
 intro k o hk hc
 refine (hg.block k (lt_of_some hk) ?_).trans hk
 intro he
 rcases hown.2 with ⟨hv, _⟩ | ⟨g, c, cur, hv, hb, hgg, _⟩
 · rw [hv] at he; simp [Value.ownBlock] at he
 · rw [hv] at he
   simp only [Value.ownBlock, Option.some.injEq] at he
   subst he
   rcases hc with hc | hc
   · omega
   · rw [hgg] at hk; exact hc _ _ (Option.some.inj hk).symm
theorem KeepBut.bk {B g : Nat} {e' t : TypeId} {w w' : World} {cs : Array Value} (h : KeepBut B e' w w') (hb : Bk w g t cs) (hne : t ≠ e') : Bk w' g t cs := h g _ hb (.inr fun _ _ he => by injection he with _ h; exact hne h)
theorem KeepBut.rd {B size n : Nat} {e' e : TypeId} {w w' : World} {A : Option Addr} {xs : List Value} (h : KeepBut B e' w w') (hr : Rd w B e size A n xs) (hne : e ≠ e') : Rd w' B e size A n xs :=
 hr.keep fun k o hk hc => h k o hk (hc.imp id (by rintro ⟨c, f, rfl⟩ _ _ he; injection he with _ h; exact hne h))
theorem KeepBut.own {B base n z : Nat} {e' e : TypeId} {w w' : World} {v : Value} {xs : List Value} (h : KeepBut B e' w w') (ho : w.ownsRow base e z v n xs) (hne : e ≠ e') : w'.ownsRow base e z v n xs := by
 refine ⟨ho.1, ?_⟩
 rcases ho.2 with h2 | ⟨g, c, cur, hv, hb, hg, r⟩
 · exact .inl h2
 · exact .inr ⟨g, c, cur, hv, hb, h g _ hg (.inr fun _ _ he => by injection he with _ h; exact hne h), r⟩
section
variable {α : Type} {enc : α → List Value} {te e : TypeId} {z bytes : Nat} {zero : Value}
/-- append of a slice that reads as a list. -/
theorem wp_appN (C : AppC enc te e z bytes zero) {o : Oper} {a : Act} {K : Act → World → Prop} {Q : Exit → Act → World → Prop} (W : World) (s x : Operand)
 (ho : o.op = .call { callee := .builtin .append, args := #[s, x], argTypes := #[te, te] }) (base : Nat) (v : Value) (l : List α) (hs : a.eval s = v)
 (hown : W.ownsRow base e z v l.length (l.flatMap enc)) (y : List α) (ad : Addr) (m c : Nat) (hx : a.eval x = .slice (some ad) m c) (hm : m = y.length) (hn : ∀ j u, (y.flatMap enc)[j]? = some u → W.cell? (ad.add j) = some u)
 (hlen : l.length + y.length ≤ 1073741824) (hbase : base ≤ W.heap.size)
 (h : ∀ A c w', w'.ownsRow base e z (.slice A (l ++ y).length c) (l ++ y).length ((l ++ y).flatMap enc) → W.grownBy w' v.ownBlock → (l ++ y).length ≤ c → K (a.put o.dst (.slice A (l ++ y).length c)) w') :
 o.wp Tryz.prog a W K Q := by
 obtain ⟨i0, hi0, hz0, hz1, hz2⟩ := info_parts C.info
 have hbb : (l.length + m) * bytes ≤ 140737488355328 := Nat.le_trans (Nat.mul_le_mul (show l.length + m ≤ 1073741824 by omega) C.small) (by omega)
 obtain ⟨v', w', hr, h1, h2, _, _⟩ := run_append_own_at (P := Tryz.prog) W base te o.type e i0 _ z bytes C.te hi0 hz0 hz1 hz2 C.zz C.z0 v l.length (l.flatMap enc) hown ad m c (y.flatMap enc) (by rw [flat_len C, hm])
  hn (by intro u hu; rw [List.mem_flatMap] at hu; obtain ⟨q, _, hq⟩ := hu; exact C.one q u hq) (by simp only [maxLen]; omega) hbb hbase
 unfold Oper.wp execOp
 simp only [ho, resolve, invoke, builtin, Sem.run_bind, Sem.run_pure, Result.andThen_ok, List.map_toArray, List.map_cons, List.map_nil, hs, hx, hr]
 have h1' : w'.ownsRow base e z v' (l ++ y).length ((l ++ y).flatMap enc) := by
  rw [List.flatMap_append, List.length_append, ← hm]
  exact h1
 obtain ⟨A', c', rfl, hc'⟩ := own_shape h1'
 exact h _ c' w' h1' h2 hc'
end
theorem own_ext {w w' : World} {base n z : Nat} {e : TypeId} {v : Value} {xs : List Value} (h : w.ownsRow base e z v n xs) (hb : Below w.heap.size w w') : w'.ownsRow base e z v n xs :=
 h.kept (grownBy_of_below hb) (by cases v.ownBlock <;> simp)
theorem own_some {w : World} {base n cap z : Nat} {e : TypeId} {A : Option Addr} {xs : List Value} (h : w.ownsRow base e z (.slice A n cap) n xs) (hn : 0 < n) : ∃ g, A = some ⟨g, 0, none⟩ ∧ base ≤ g ∧ n ≤ cap := by
 rcases h.2 with ⟨_, h0⟩ | ⟨g, c, cur, hv, hb, _, hc, _⟩
 · omega
 · injection hv with h1 _ h2
   exact ⟨g, h1, hb, by omega⟩
theorem own_far {w : World} {base n z rb : Nat} {e t : TypeId} {v : Value} {xs : List Value} {cs : Array Value} (hb : Bk w rb t cs) (h : w.ownsRow base e z v n xs) (hne : e ≠ t) (o : Nat) (u : Value) : (w.setCell ⟨rb, o, none⟩ u).ownsRow base e z v n xs := by
 refine ⟨h.1, ?_⟩
 rcases h.2 with h2 | ⟨g', c, cur, hv, hbb, hgg, r⟩
 · exact .inl h2
 · refine .inr ⟨g', c, cur, hv, hbb, ?_, r⟩
   rw [Below.heap_setCell _ _ _ _ (fun he => ?_)]
   · exact hgg
   · unfold Bk at hb
     simp only at he
     rw [← he, hgg] at hb
     cases hb
     exact hne rfl
theorem run_append_of_nil {P : Program} (w : World) (base : Nat) (t ty e : TypeId) (i : TypeInfo) (size : Nat) (ht : P.underlying t = some (.slice e)) (hi : P.info? e = some i)
 (v : Value) (n : Nat) (xs : List Value) (hown : w.ownsRow base e size v n xs) (c : Nat) : (Builtin.append_ #[t, t] ty #[v, .slice none 0 c]).run P w = .ok v w := by
 rcases hown.2 with ⟨rfl, rfl⟩ | ⟨g, cap, cur, rfl, _, _, hnc, _⟩
 · simp [Builtin.append_, run_underlying ht, sizeOf, typeInfo, hi, Builtin.lenOf, Builtin.firstCells]
 · simp [Builtin.append_, run_underlying ht, sizeOf, typeInfo, hi, Builtin.lenOf, Builtin.firstCells, hnc, storeCells]
section
variable {α : Type} {enc : α → List Value} {te e : TypeId} {z bytes : Nat} {zero : Value}
theorem wp_appR (C : AppC enc te e z bytes zero) {o : Oper} {a : Act} {K : Act → World → Prop} {Q : Exit → Act → World → Prop} (W : World) (s x : Operand)
 (ho : o.op = .call { callee := .builtin .append, args := #[s, x], argTypes := #[te, te] }) (base : Nat) (v : Value) (l : List α) (hs : a.eval s = v)
 (hown : W.ownsRow base e z v l.length (l.flatMap enc)) (y : List α) (B : Nat) (A0 : Option Addr) (m c : Nat) (hx : a.eval x = .slice A0 m c) (hm : m = y.length) (hr : Rd W B e z A0 m (y.flatMap enc))
 (hlen : l.length + y.length ≤ 1073741824) (hbase : base ≤ W.heap.size)
 (h : ∀ A c w', w'.ownsRow base e z (.slice A (l ++ y).length c) (l ++ y).length ((l ++ y).flatMap enc) → W.grownBy w' v.ownBlock → (l ++ y).length ≤ c → K (a.put o.dst (.slice A (l ++ y).length c)) w') :
 o.wp Tryz.prog a W K Q := by
 cases A0 with
 | some ad =>
   refine wp_appN C W s x ho base v l hs hown y ad m c hx hm (fun j u hu => ?_) hlen hbase h
   rcases Nat.eq_zero_or_pos m with h0 | h0
   · have hy : y = [] := List.eq_nil_of_length_eq_zero (by omega)
     subst hy
     simp at hu
   · obtain ⟨ad', he, hc⟩ := hr.cell h0
     injection he with he
     subst he
     exact hc j u hu
 | none =>
   obtain ⟨i0, hi0, hz0, hz1, hz2⟩ := info_parts C.info
   have h0 : m = 0 := by
    rcases Nat.eq_zero_or_pos m with h0 | h0
    · exact h0
    · obtain ⟨ad, he, _⟩ := hr.2 h0
      cases he
   subst h0
   have hy : y = [] := List.eq_nil_of_length_eq_zero hm.symm
   subst hy
   have hrun := run_append_of_nil (P := Tryz.prog) W base te o.type e i0 z C.te hi0 v _ _ hown c
   unfold Oper.wp execOp
   simp only [ho, resolve, invoke, builtin, Sem.run_bind, Sem.run_pure, Result.andThen_ok, List.map_toArray, List.map_cons, List.map_nil, hs, hx, hrun]
   obtain ⟨A', c', rfl, hc'⟩ := own_shape hown
   have hh : K (a.put o.dst (.slice A' l.length c')) W := by simpa using h A' c' W (by simpa using hown) (World.grownBy.refl W _) (by simpa using hc')
   exact hh
theorem wpList_appR (C : AppC enc te e z bytes zero) {ops : Array Oper} {rest : List Oper} {o : Oper} {a : Act} {Q : Exit → Act → World → Prop} (W : World) (hgd : o.guard = none) (s x : Operand)
 (ho : o.op = .call { callee := .builtin .append, args := #[s, x], argTypes := #[te, te] }) (base : Nat) (v : Value) (l : List α) (hs : a.eval s = v)
 (hown : W.ownsRow base e z v l.length (l.flatMap enc)) (y : List α) (B : Nat) (A0 : Option Addr) (m c : Nat) (hx : a.eval x = .slice A0 m c) (hm : m = y.length) (hr : Rd W B e z A0 m (y.flatMap enc))
 (hlen : l.length + y.length ≤ 1073741824) (hbase : base ≤ W.heap.size)
 (h : ∀ A c w', w'.ownsRow base e z (.slice A (l ++ y).length c) (l ++ y).length ((l ++ y).flatMap enc) → W.grownBy w' v.ownBlock → (l ++ y).length ≤ c → wpList Tryz.prog ops Q rest (a.put o.dst (.slice A (l ++ y).length c)) w') :
 wpList Tryz.prog ops Q (o :: rest) a W :=
 wpList_plain hgd fun _ hK => wp_appR C W s x ho base v l hs hown y B A0 m c hx hm hr hlen hbase fun A c w' h1 h2 h3 => hK _ _ (h A c w' h1 h2 h3)
end
theorem own_set {w : World} {base g n cap z : Nat} {e : TypeId} {xs : List Value} (h : w.ownsRow base e z (.slice (some ⟨g, 0, none⟩) n cap) n xs) (j : Nat) (u : Value) :
 (w.setCell ⟨g, j, none⟩ u).ownsRow base e z (.slice (some ⟨g, 0, none⟩) n cap) n (xs.set j u) := by
 refine ⟨by rw [List.length_set]; exact h.1, ?_⟩
 rcases h.2 with ⟨hv, _⟩ | ⟨g', c, cur, hv, hb, hgg, hnc, hcm, hcs, ht⟩
 · cases hv
 · injection hv with h1 _ h2
   injection h1 with h1
   injection h1 with h1
   subst h1
   refine .inr ⟨g, c, cur.setIfInBounds j u, by rw [h2], hb, ?_, hnc, hcm, by simpa using hcs, ?_⟩
   · have := Bk.set_ (w := w) (g := g) (t := e) (cs := cur) hgg j u
     exact this
   · rw [Array.toList_setIfInBounds, List.take_set, ht]
section
variable {α : Type} {enc : α → List Value} {te e : TypeId} {z bytes : Nat} {zero : Value} {w : World} {B n : Nat} {A : Option Addr} {l : List α}
end
theorem Rd.same {w w' : World} {B : Nat} {e : TypeId} {size n : Nat} {A : Option Addr} {xs : List Value} (h : Rd w B e size A n xs) (hs : 0 < n → ∀ ad, A = some ad → ad.block < w.heap.size → w'.heap[ad.block]? = w.heap[ad.block]?) : Rd w' B e size A n xs :=
 ⟨h.1, fun hn => by
   obtain ⟨ad, he, hb, hc⟩ := h.2 hn
   rcases Nat.eq_zero_or_pos xs.length with h0 | h0
   · have hx : xs = [] := List.eq_nil_of_length_eq_zero h0
     subst hx
     refine ⟨ad, he, ?_, fun j u hu => by simp at hu⟩
     rcases hb with hb | ⟨c, f, hb⟩
     · exact .inl hb
     · exact .inr ⟨c, f, (hs hn ad he (lt_of_some hb)).trans hb⟩
   · have hc0 := hc 0 _ (List.getElem?_eq_getElem h0)
     have hlt := World.block_lt_of_cell? w _ hc0
     rw [block_of_add] at hlt
     have hall := hs hn ad he hlt
     refine ⟨ad, he, ?_, fun j u hu => ?_⟩
     · rcases hb with hb | ⟨c, f, hb⟩
       · exact .inl hb
       · exact .inr ⟨c, f, hall.trans hb⟩
     · rw [World.cell?_of_block (w := w) (by rw [block_of_add]; exact hall)]
       exact hc j u hu⟩
theorem own_frozen {w : World} {base g n cap z : Nat} {e : TypeId} {xs : List Value} (h : w.ownsRow base e z (.slice (some ⟨g, 0, none⟩) n cap) n xs) (j : Nat) : w.frozen? ⟨g, j, none⟩ = false := by
 rcases h.2 with ⟨hv, _⟩ | ⟨g', c, cur, hv, _, hg, _⟩
 · cases hv
 · injection hv with h1
   injection h1 with h1
   injection h1 with h1
   subst h1
   exact Bk.frozen hg j
theorem own_blk {w : World} {base g n cap z : Nat} {e : TypeId} {xs : List Value} (h : w.ownsRow base e z (.slice (some ⟨g, 0, none⟩) n cap) n xs) : ∃ cs, Bk w g e cs := by
 rcases h.2 with ⟨hv, _⟩ | ⟨g', c, cur, hv, _, hg, _⟩
 · cases hv
 · injection hv with h1
   injection h1 with h1
   injection h1 with h1
   subst h1
   exact ⟨cur, hg⟩
theorem id_app : AppC idC 33 35 3 24 (.agg #[.int .i64 0, .int .i64 0, .int .i64 0]) :=
 ⟨Tryz.underlying33, by kernel_rfl, rfl, by decide, fun _ => rfl, fun x u hu => by simp only [idC, List.mem_cons, List.not_mem_nil, or_false] at hu; rcases hu with rfl | rfl | rfl <;> rfl, by decide⟩
end Go.Proofs.YtapjhliglmohgaaGreatDoor
/- api.Code: the number at the end of a chain of faults, by errors.As at a concrete target; the facts on the model's entries for internal/reflectlite after the guide's worked text (Derived/Test/ToyasAs.lean), turned to this program. -/
namespace Go.Proofs.YtapjhliglmohgaaGreatDoor
open Go.RowKit Go.Extern.Stop Go.Stop Go.Extern
/-- A chain of n faults with a number at its end. -/
def ErrN (w : World) : Nat → Value → Int → Prop
 | 0, v, c => v = .iface 84 (.int .i64 c)
 | n + 1, v, c => ∃ fb s at_ v', v = .iface 169 (.pointer (some ⟨fb, 0, none⟩)) ∧ Bk w fb 171 #[s, at_, v'] ∧ ErrN w n v' c
theorem ErrN.ext {w w' : World} (hb : Below w.heap.size w w') : ∀ {n : Nat} {v : Value} {c : Int}, ErrN w n v c → ErrN w' n v c
 | 0, _, _, h => h
 | _ + 1, _, _, ⟨fb, s, at_, v', h1, h2, h3⟩ => ⟨fb, s, at_, v', h1, h2.ext hb, ErrN.ext hb h3⟩
theorem ErrN.bk {w w' : World} (hb : ∀ g t cs, Bk w g t cs → t = 171 → Bk w' g t cs) : ∀ {n : Nat} {v : Value} {c : Int}, ErrN w n v c → ErrN w' n v c
 | 0, _, _, h => h
 | _ + 1, _, _, ⟨fb, s, at_, v', h1, h2, h3⟩ => ⟨fb, s, at_, v', h1, hb _ _ _ h2 rfl, ErrN.bk hb h3⟩
/-! ### CLOSED FACTS ON THE MODEL's ENTRIES FOR internal/reflectlite, at this program's types -/
theorem valueOfP (t : Addr) (w : World) : (ReflectliteValue.unpack (.iface 192 (.pointer (some t)))).run Tryz.prog w
 = .ok (.agg #[.pointer (some ⟨1, 192, none⟩), .pointer (some ⟨w.heap.size, 0, none⟩), .int .u64 150]) (w.alloc (.cells #[.pointer (some t)] 192)) := by kernel_rfl
theorem typeP (a : Addr) (w : World) : (ReflectliteValue.methodAny (ReflectliteValue.valueError "reflectlite.Value.Type" 0) (fun t _ _ _ => ReflectliteType.toType t) #[.agg #[.pointer (some ⟨1, 192, none⟩), .pointer (some a), .int .u64 150]]).run Tryz.prog w
 = .ok (.iface 275 (.agg #[.pointer (some ⟨1, 192, none⟩)])) w := by kernel_rfl
theorem methodKind (h : Value) (w : World) : (Go.method 442 275 (.agg #[h]) "Kind").run Tryz.prog w = .ok (248, h) w := by kernel_rfl
theorem kindP (w : World) : ((ReflectliteType.abiMethod fun t => (fun a : Nat => Value.int IntKind.u8 (a : Int)) <$> Rtype.kind t) #[.pointer (some ⟨1, 192, none⟩)]).run Tryz.prog w = .ok (.int .u8 22) w := by kernel_rfl
theorem kindE (w : World) : ((ReflectliteType.abiMethod fun t => (fun a : Nat => Value.int IntKind.u8 (a : Int)) <$> Rtype.kind t) #[.pointer (some ⟨1, 84, none⟩)]).run Tryz.prog w = .ok (.int .u8 2) w := by kernel_rfl
theorem rlm (z : Sem Value) (f : TypeId → Addr → Nat → Nat → Sem Value) (v : Value) :
 ReflectliteValue.method z f #[v] = (do match ← ReflectliteValue.parts v with | none => z | some (t, a, fl) => f t a fl (fl % 32)) := rfl
theorem partsP (a : Addr) (w : World) : (ReflectliteValue.parts (.agg #[.pointer (some ⟨1, 192, none⟩), .pointer (some a), .int .u64 150])).run Tryz.prog w = .ok (some (192, a, 150)) w := by kernel_rfl
theorem isNilP (a p : Addr) (W : World) (ha : W.cell? a = some (.pointer (some p))) :
 (ReflectliteValue.method (ReflectliteValue.valueError "reflectlite.Value.IsNil" 0) ReflectliteValue.isNil #[.agg #[.pointer (some ⟨1, 192, none⟩), .pointer (some a), .int .u64 150]]).run Tryz.prog W = .ok (.bool false) W := by
 rw [rlm]
 simp only [Sem.run_bind, partsP, Result.andThen]
 simp [ReflectliteValue.isNil, loadVar, isAgg, underlying, Tryz.underlying192, ha, Result.andThen]
theorem methodElem (h : Value) (w : World) : (Go.method 442 275 (.agg #[h]) "Elem").run Tryz.prog w = .ok (260, .agg #[h]) w := by kernel_rfl
theorem methodImplements (h : Value) (w : World) : (Go.method 442 275 (.agg #[h]) "Implements").run Tryz.prog w = .ok (261, .agg #[h]) w := by kernel_rfl
theorem methodAssignableTo (h : Value) (w : World) : (Go.method 442 275 (.agg #[h]) "AssignableTo").run Tryz.prog w = .ok (258, .agg #[h]) w := by kernel_rfl
theorem methodUnwrap (a : Addr) (w : World) : (Go.method 442 169 (.pointer (some a)) "Unwrap").run Tryz.prog w = .ok (253, .pointer (some a)) w := by kernel_rfl
theorem elemP (w : World) : (ReflectliteType.method ReflectliteType.elem #[.agg #[.pointer (some ⟨1, 192, none⟩)]]).run Tryz.prog w = .ok (.iface 275 (.agg #[.pointer (some ⟨1, 84, none⟩)])) w := by kernel_rfl
theorem implementsE (w : World) : (ReflectliteType.relation "Implements" ReflectliteType.implements_ #[.agg #[.pointer (some ⟨1, 84, none⟩)], .iface 275 (.agg #[.pointer (some ⟨1, 28, none⟩)])]).run Tryz.prog w = .ok (.bool true) w := by kernel_rfl
theorem typeOfE (v : Value) (w : World) : (ReflectliteType.typeOf #[.iface 84 v]).run Tryz.prog w = .ok (.iface 275 (.agg #[.pointer (some ⟨1, 84, none⟩)])) w := by kernel_rfl
theorem typeOfF (v : Value) (w : World) : (ReflectliteType.typeOf #[.iface 169 v]).run Tryz.prog w = .ok (.iface 275 (.agg #[.pointer (some ⟨1, 169, none⟩)])) w := by kernel_rfl
theorem assignableE (w : World) : (ReflectliteType.relation "AssignableTo" ReflectliteType.assignableTo #[.agg #[.pointer (some ⟨1, 84, none⟩)], .iface 275 (.agg #[.pointer (some ⟨1, 84, none⟩)])]).run Tryz.prog w = .ok (.bool true) w := by kernel_rfl
theorem assignableF (w : World) : (ReflectliteType.relation "AssignableTo" ReflectliteType.assignableTo #[.agg #[.pointer (some ⟨1, 169, none⟩)], .iface 275 (.agg #[.pointer (some ⟨1, 84, none⟩)])]).run Tryz.prog w = .ok (.bool false) w := by kernel_rfl
theorem valueOfE (c : Int) (w : World) : (ReflectliteValue.unpack (.iface 84 (.int .i64 c))).run Tryz.prog w
 = .ok (.agg #[.pointer (some ⟨1, 84, none⟩), .pointer (some ⟨w.heap.size, 0, none⟩), .int .u64 130]) (w.alloc (.cells #[.int .i64 c] 84)) := by kernel_rfl
theorem elemOfP (w : World) : (Rtype.elem? 192).run Tryz.prog w = .ok (some 84) w := by kernel_rfl
theorem mkE (p : Addr) (w : World) : (ReflectliteValue.mk 84 p ReflectliteValue.flagAddr).run Tryz.prog w = .ok (.agg #[.pointer (some ⟨1, 84, none⟩), .pointer (some p), .int .u64 386]) w := by kernel_rfl
theorem elemVP (a p : Addr) (W : World) (ha : W.cell? a = some (.pointer (some p))) :
 (ReflectliteValue.method (ReflectliteValue.valueError "reflectlite.Value.Elem" 0) ReflectliteValue.elem #[.agg #[.pointer (some ⟨1, 192, none⟩), .pointer (some a), .int .u64 150]]).run Tryz.prog W
   = .ok (.agg #[.pointer (some ⟨1, 84, none⟩), .pointer (some p), .int .u64 386]) W := by
 rw [rlm]
 simp only [Sem.run_bind, partsP, Result.andThen]
 simp [ReflectliteValue.elem, loadVar, isAgg, underlying, Tryz.underlying192, ha, Result.andThen, elemOfP, mkE]
theorem rls (v x : Value) : ReflectliteValue.set #[v, x] = (do
 let (some (dst, a, fl), some (src, b, _)) := (← ReflectliteValue.parts v, ← ReflectliteValue.parts x)
  | unsupported (.noEntry "extern/(internal/reflectlite.Value).Set.zeroValue")
 if fl / ReflectliteValue.flagAddr % 2 == 0 then unsupported (.noEntry "extern/(internal/reflectlite.Value).Set.unaddressable")
 let val ← loadVar src b
 if ← Rtype.directlyAssignable dst src then storeVar dst a val
 else if ← Rtype.implements dst src then
  if (← Rtype.kind src) == 20 then
   match val with
   | .nilIface => unsupported (.noEntry "extern/reflectlite: a nil value of one interface type handed on as a value of another")
   | _ => storeVar dst a val
  else storeVar dst a (.iface src val)
 else panicString ("reflectlite.Set: value of type " ++ (← Rtype.spelt src) ++ " is not assignable to type " ++ (← Rtype.spelt dst))
 pure (.tuple #[])) := rfl
theorem partsEa (a : Addr) (w : World) : (ReflectliteValue.parts (.agg #[.pointer (some ⟨1, 84, none⟩), .pointer (some a), .int .u64 386])).run Tryz.prog w = .ok (some (84, a, 386)) w := by kernel_rfl
theorem partsE (a : Addr) (w : World) : (ReflectliteValue.parts (.agg #[.pointer (some ⟨1, 84, none⟩), .pointer (some a), .int .u64 130])).run Tryz.prog w = .ok (some (84, a, 130)) w := by kernel_rfl
theorem directE (w : World) : (Rtype.directlyAssignable 84 84).run Tryz.prog w = .ok true w := by kernel_rfl
theorem setE (ta b : Addr) (c : Int) (old : Value) (W : World) (hb : W.cell? b = some (.int .i64 c)) (ht : W.cell? ta = some old) (hf : W.frozen? ta = false) :
 (ReflectliteValue.set #[.agg #[.pointer (some ⟨1, 84, none⟩), .pointer (some ta), .int .u64 386], .agg #[.pointer (some ⟨1, 84, none⟩), .pointer (some b), .int .u64 130]]).run Tryz.prog W
   = .ok (.tuple #[]) (W.setCell ta (.int .i64 c)) := by
 rw [rls]
 simp only [Sem.run_bind, partsEa, partsE, Result.andThen]
 simp [ReflectliteValue.flagAddr, loadVar, isAgg, underlying, Tryz.underlying84, hb, Result.andThen, directE, storeVar, Value.cells, storeCells, Addr.add]
 rw [run_store Tryz.prog W ta _ _ (by rfl)]
 simp [ht, hf]
theorem noAsF (v : Value) (w : World) : (Instr.typeAssert (.iface 169 v) 28 280 true).run Tryz.prog w = .ok (.tuple #[.nilIface, .bool false]) w := run_typeAssert_lacksB Tryz.underlying280 (by kernel_rfl) (by kernel_rfl) v 28 w
theorem unwrapF (v : Value) (w : World) : (Instr.typeAssert (.iface 169 v) 28 283 true).run Tryz.prog w = .ok (.tuple #[.iface 169 v, .bool true]) w := run_typeAssert_hasB Tryz.underlying283 (by kernel_rfl) v 28 w
end Go.Proofs.YtapjhliglmohgaaGreatDoor
/- api.Code by walks over errors.As. -/
namespace Go.Proofs.YtapjhliglmohgaaGreatDoor
open Go.RowKit Go.Extern.Stop Go.Stop Go.Extern
def AsPost (w : World) (t : Addr) (c : Int) (e : Ending) (w' : World) : Prop := e = .returned (.bool true) ∧ ∃ wx, Below w.heap.size w wx ∧ w' = wx.setCell t (.int .i64 c)
set_option maxHeartbeats 4000000 in
set_option maxRecDepth 100000 in
theorem as_c (n : Nat) (v : Value) (c : Int) (t a : Addr) (old : Value) (w : World) (h : ErrN w n v c) (ht : w.cell? t = some old) (hf : w.frozen? t = false) (ha : w.cell? a = some (.pointer (some t))) :
 Calls Tryz.prog 167 #[v, .iface 192 (.pointer (some t)), .agg #[.pointer (some ⟨1, 192, none⟩), .pointer (some a), .int .u64 150], .iface 275 (.agg #[.pointer (some ⟨1, 84, none⟩)])] w (AsPost w t c) := by
 have h53 := @run_callFunc_extern Tryz.prog 164 _ (fun args => ReflectliteValue.unpack (args.getD 0 (.tuple #[]))) Tryz.func164 (by kernel_rfl) (by kernel_rfl) (by kernel_rfl) (by kernel_rfl)
 have h67 := @run_callFunc_extern Tryz.prog 204 _ ReflectliteType.typeOf Tryz.func204 (by kernel_rfl) (by kernel_rfl) (by kernel_rfl) (by kernel_rfl)
 have h100 := @run_callFunc_extern Tryz.prog 258 _ (ReflectliteType.relation "AssignableTo" ReflectliteType.assignableTo) Tryz.func258 (by kernel_rfl) (by kernel_rfl) (by kernel_rfl) (by kernel_rfl)
 have h68 := @run_callFunc_extern Tryz.prog 205 _ (ReflectliteValue.method (ReflectliteValue.valueError "reflectlite.Value.Elem" 0) ReflectliteValue.elem) Tryz.func205 (by kernel_rfl) (by kernel_rfl) (by kernel_rfl) (by kernel_rfl)
 have h69 := @run_callFunc_extern Tryz.prog 206 _ ReflectliteValue.set Tryz.func206 (by kernel_rfl) (by kernel_rfl) (by kernel_rfl) (by kernel_rfl)
 have hE1 := typeOfE
 have hF1 := typeOfF
 have mA := methodAssignableTo
 have aE := assignableE
 have aF := assignableF
 have vE := valueOfE
 have nA := noAsF
 have uF := unwrapF
 have mU := methodUnwrap
 have htl := World.block_lt_of_cell? w _ ht
 have hal := World.block_lt_of_cell? w _ ha
 go_enter Tryz.func167, Tryz.ntmps167
 go_wp2_with fail
 go_loopg [0] n (fun k v0 wr => ErrN wr k v0 c ∧ Bk wr w.heap.size 220 #[.pointer (some ⟨1, 192, none⟩), .pointer (some a), .int .u64 150] ∧ Below w.heap.size w wr)
 case atStart => exact ⟨h.ext (ext_alloc (Below.refl _ _) _), Bk.new _ _ _, ext_alloc (Below.refl _ _) _⟩
 case round =>
  obtain ⟨hn, hx, hb⟩ := hrel
  have x0 : wr.cell? ⟨w.heap.size, 0, none⟩ = some (.pointer (some ⟨1, 192, none⟩)) := by rw [hx.cell]; rfl
  have x1 : wr.cell? ⟨w.heap.size, 1, none⟩ = some (.pointer (some a)) := by rw [hx.cell]; rfl
  have x2 : wr.cell? ⟨w.heap.size, 2, none⟩ = some (.int .u64 150) := by rw [hx.cell]; rfl
  cases gk with
  | zero =>
    obtain rfl : _ = Value.iface 84 (.int .i64 c) := hn
    have el := elemVP a t wr ((hb.cell hal).trans ha)
    have ht2 : wr.cell? t = some old := (hb.cell htl).trans ht
    have htr := World.block_lt_of_cell? wr _ ht2
    have st := setE t ⟨wr.heap.size, 0, none⟩ c old (wr.alloc (.cells #[.int .i64 c] 84)) (by simp) ((World.cell?_alloc_lt _ _ _ htr).trans ht2) ((World.frozen?_alloc_old _ _ _ (by omega)).trans ((hb.frozen htl).trans hf))
    clear hF1 aF nA uF mU ht2 hx
    go_wp2_with fail
    go_ret
    exact ⟨rfl, _, ext_alloc hb _, rfl⟩
  | succ gk =>
    obtain ⟨fb, s, at_, v', rfl, hf1, hv'⟩ := hn
    have hv2 : ∃ T y, v' = .iface T y := by
     cases gk with
     | zero => exact ⟨_, _, hv'⟩
     | succ k => obtain ⟨_, _, _, _, e, _⟩ := hv'; exact ⟨_, _, e⟩
    obtain ⟨T, y, rfl⟩ := hv2
    have f2 : wr.cell? ⟨fb, 2, none⟩ = some (.iface T y) := by rw [hf1.cell]; rfl
    have HX := Lib.hid hx
    have HV := Lib.hid hv'
    clear hE1 aE hx hv'
    go_wp2_with (first | go_in)
    go_roundg gk
    case measure => omega
    case rel => exact ⟨HV.out, HX.out, hb⟩
theorem ErrN.iface {w : World} {n : Nat} {v : Value} {c : Int} (h : ErrN w n v c) : ∃ T y, v = .iface T y := by
 cases n with
 | zero => exact ⟨_, _, h⟩
 | succ k => obtain ⟨_, _, _, _, e, _⟩ := h; exact ⟨_, _, e⟩
/-- The package-level variable errors.errorType, as it is laid. -/
def TypeVar (w : World) : Prop := w.cell? ⟨0, 0, none⟩ = some (.iface 275 (.agg #[.pointer (some ⟨1, 28, none⟩)]))
set_option maxRecDepth 100000 in
set_option maxHeartbeats 4000000 in
theorem As_c (n : Nat) (v : Value) (c : Int) (t : Addr) (old : Value) (w : World) (h : ErrN w n v c) (hg : TypeVar w) (ht : w.cell? t = some old) (hf : w.frozen? t = false) :
 Calls Tryz.prog 126 #[v, .iface 192 (.pointer (some t))] w (AsPost w t c) := by
 have h53 := @run_callFunc_extern Tryz.prog 164 _ (fun args => ReflectliteValue.unpack (args.getD 0 (.tuple #[]))) Tryz.func164 (by kernel_rfl) (by kernel_rfl) (by kernel_rfl) (by kernel_rfl)
 have h54 := @run_callFunc_extern Tryz.prog 165 _ (ReflectliteValue.methodAny (ReflectliteValue.valueError "reflectlite.Value.Type" 0) (fun t _ _ _ => ReflectliteType.toType t)) Tryz.func165 (by kernel_rfl) (by kernel_rfl) (by kernel_rfl) (by kernel_rfl)
 have h55 := @run_callFunc_extern Tryz.prog 166 _ (ReflectliteValue.method (ReflectliteValue.valueError "reflectlite.Value.IsNil" 0) ReflectliteValue.isNil) Tryz.func166 (by kernel_rfl) (by kernel_rfl) (by kernel_rfl) (by kernel_rfl)
 have h90 := @run_callFunc_extern Tryz.prog 248 _ (ReflectliteType.abiMethod fun t => do pure (.int .u8 (← Rtype.kind t))) Tryz.func248 (by kernel_rfl) (by kernel_rfl) (by kernel_rfl) (by kernel_rfl)
 have h102 := @run_callFunc_extern Tryz.prog 260 _ (ReflectliteType.method ReflectliteType.elem) Tryz.func260 (by kernel_rfl) (by kernel_rfl) (by kernel_rfl) (by kernel_rfl)
 have h103 := @run_callFunc_extern Tryz.prog 261 _ (ReflectliteType.relation "Implements" ReflectliteType.implements_) Tryz.func261 (by kernel_rfl) (by kernel_rfl) (by kernel_rfl) (by kernel_rfl)
 have vP := valueOfP
 have tP := typeP
 have mK := methodKind
 have mE := methodElem
 have mI := methodImplements
 have kP := kindP
 have kE := kindE
 have eP := elemP
 have iE := implementsE
 have htl := World.block_lt_of_cell? w _ ht
 unfold TypeVar at hg
 have hgl := World.block_lt_of_cell? w _ hg
 obtain ⟨T, y, rfl⟩ := h.iface
 have n8 := isNilP ⟨w.heap.size, 0, none⟩ t ((w.alloc (.cells #[.pointer (some t)] 192)).alloc (.cells #[.pointer (some ⟨1, 192, none⟩), .pointer (some ⟨w.heap.size, 0, none⟩), .int .u64 150] 220)) (by simp)
 have HE := Lib.hid h
 have u1 : ((w.alloc (.cells #[.pointer (some t)] 192)).alloc (.cells #[.pointer (some ⟨1, 192, none⟩), .pointer (some ⟨w.heap.size, 0, none⟩), .int .u64 150] 220)).cell? t = some old := by
  rw [World.cell?_alloc_lt _ _ _ (by simp; omega), World.cell?_alloc_lt _ _ _ htl]; exact ht
 have u2 : ((w.alloc (.cells #[.pointer (some t)] 192)).alloc (.cells #[.pointer (some ⟨1, 192, none⟩), .pointer (some ⟨w.heap.size, 0, none⟩), .int .u64 150] 220)).frozen? t = false := by
  rw [World.frozen?_alloc_old _ _ _ (by simp; omega), World.frozen?_alloc_old _ _ _ (Nat.ne_of_lt htl)]; exact hf
 have U1 := Lib.hid u1
 have U2 := Lib.hid u2
 clear h u1 u2
 go_enter Tryz.func126, Tryz.ntmps126
 go_wp2_with (first | (go_at_call 167; refine (as_c n _ c t ⟨w.heap.size, 0, none⟩ old _ (HE.out.ext (ext_alloc (ext_alloc (Below.refl _ _) _) _)) U1.out U2.out (by simp)).mono ?_; rintro e w1 ⟨rfl, wx, hbx, rfl⟩))
 go_ret
 exact ⟨rfl, wx, ext_trans (ext_alloc (ext_alloc (Below.refl _ _) _) _) hbx, rfl⟩
def CodePost (w : World) (c : Int) (e : Ending) (w' : World) : Prop := e = .returned (.int .i64 c) ∧ Below w.heap.size w w'
set_option maxHeartbeats 1000000 in
theorem Code_c (n : Nat) (v : Value) (c : Int) (w : World) (h : ErrN w n v c) (hg : TypeVar w) : Calls Tryz.prog 67 #[v] w (CodePost w c) := by
 obtain ⟨T, y, rfl⟩ := h.iface
 have HE := Lib.hid h
 have HG := Lib.hid (show TypeVar (w.alloc (.cells #[.int .i64 0] 84)) from (World.cell?_alloc_lt _ _ _ (World.block_lt_of_cell? w _ hg)).trans hg)
 clear h hg
 go_enter Tryz.func67, Tryz.ntmps67
 go_wp2_with (first | (go_at_call 126; refine (As_c n _ c ⟨w.heap.size, 0, none⟩ (.int .i64 0) _ (HE.out.ext (ext_alloc (Below.refl _ _) _)) HG.out (by simp) (by simp)).mono ?_; rintro e w1 ⟨rfl, wx, hbx, rfl⟩; have hc : wx.cell? ⟨w.heap.size, 0, none⟩ = some (.int .i64 0) := (hbx.cell (p := ⟨w.heap.size, 0, none⟩) (by simp)).trans (by simp); have hc2 := World.cell?_setCell_same wx _ (.int .i64 c) hc))
 go_ret
 exact ⟨rfl, (ext_trans (ext_alloc (Below.refl _ _) _) hbx).setCell (Nat.le_refl _) _⟩
/-- An error with a place: its place, and the number that it wraps at last. -/
def ErrAt (w : World) (v : Value) (at_ code : Int) : Prop := ∃ fb s v' n, v = .iface 169 (.pointer (some ⟨fb, 0, none⟩)) ∧ Bk w fb 171 #[s, .int .i64 at_, v'] ∧ ErrN w n v' code
theorem ErrAt.ext {w w' : World} {v : Value} {at_ code : Int} (h : ErrAt w v at_ code) (hb : Below w.heap.size w w') : ErrAt w' v at_ code := by
 obtain ⟨fb, s, v', n, h1, h2, h3⟩ := h
 exact ⟨fb, s, v', n, h1, h2.ext hb, h3.ext hb⟩
theorem ErrAt.errN {w : World} {v : Value} {at_ code : Int} (h : ErrAt w v at_ code) : ∃ n, ErrN w n v code := by
 obtain ⟨fb, s, v', n, h1, h2, h3⟩ := h
 exact ⟨n + 1, fb, s, _, v', h1, h2, h3⟩
def FaultPost (w : World) (at_ code : Int) (e : Ending) (w' : World) : Prop := ∃ v, e = .returned v ∧ ErrAt w' v at_ code ∧ Below w.heap.size w w'
end Go.Proofs.YtapjhliglmohgaaGreatDoor
/- Operations: what is right, by the program and by the document. -/
namespace Go.Proofs.YtapjhliglmohgaaGreatDoor
open Go.RowKit Go.Sort
/-- An operation as a value; a plan's operations as cells. -/
abbrev opV (o : OpD) : Value := .agg #[.int .i64 o.k, .int .i64 o.a, .int .i64 o.b, .int .i64 o.f, .int .i64 o.c]
def opC (o : OpD) : List Value := [.int .i64 o.k, .int .i64 o.a, .int .i64 o.b, .int .i64 o.f, .int .i64 o.c]
def opsC (l : List OpD) : List Value := l.flatMap opC
theorem kind_cases (k : Int) : k = 1 ∨ k = 2 ∨ k = 3 ∨ k = 4 ∨ k = 5 ∨ k = 6 ∨ k = 7 ∨ k = 8 ∨ (k ≠ 1 ∧ k ≠ 2 ∧ k ≠ 3 ∧ k ≠ 4 ∧ k ≠ 5 ∧ k ≠ 6 ∧ k ≠ 7 ∧ k ≠ 8) := by omega
def fnV (k : Int) : Value := match fnB k with
 | none => .tuple #[.int .i64 0, .int .i64 0, .bool false]
 | some (lo, hi) => .tuple #[.int .i64 lo, .int .i64 hi, .bool true]
theorem functions_c (k : Int) (w : World) : Calls Tryz.prog 207 #[.int .i64 k] w (Val w (fnV k)) := by
 rcases kind_cases k with rfl | rfl | rfl | rfl | rfl | rfl | rfl | rfl | ⟨h1, h2, h3, h4, h5, h6, h7, h8⟩
 iterate 8
  · go_enter Tryz.func207, Tryz.ntmps207
    go_wp2_with fail
    go_ret3
    exact ⟨rfl, rfl⟩
 · have e : fnV k = .tuple #[.int .i64 0, .int .i64 0, .bool false] := by
     unfold fnV fnB
     rw [if_neg (by omega), if_neg (by omega), if_neg (by omega), if_neg (by omega), if_neg (by omega)]
   have e1 : (k == 1) = false := by simp [h1]
   have e2 : (k == 2) = false := by simp [h2]
   have e3 : (k == 3) = false := by simp [h3]
   have e4 : (k == 4) = false := by simp [h4]
   have e5 : (k == 5) = false := by simp [h5]
   have e6 : (k == 6) = false := by simp [h6]
   have e7 : (k == 7) = false := by simp [h7]
   have e8 : (k == 8) = false := by simp [h8]
   have E := Lib.hid e
   clear e h1 h2 h3 h4 h5 h6 h7 h8
   go_enter Tryz.func207, Tryz.ntmps207
   go_wp2_with fail
   go_ret3
   exact ⟨by rw [E.out]; rfl, rfl⟩
def reachD (k : Int) : Int := if wide k then 2 else if narrow k then 1 else 0
theorem reach_c (k : Int) (w : World) : Calls Tryz.prog 155 #[.int .i64 k] w (Val w (.int .i64 (reachD k))) := by
 rcases kind_cases k with rfl | rfl | rfl | rfl | rfl | rfl | rfl | rfl | ⟨h1, h2, h3, h4, h5, h6, h7, h8⟩
 iterate 8
  · go_enter Tryz.func155, Tryz.ntmps155
    go_wp2_with fail
    go_ret
    exact ⟨rfl, rfl⟩
 · have e : reachD k = 0 := by
     unfold reachD wide narrow
     simp [h2, h3, h4, h5, h6, h7, h8]
   have e1 : (k == 1) = false := by simp [h1]
   have e2 : (k == 2) = false := by simp [h2]
   have e3 : (k == 3) = false := by simp [h3]
   have e4 : (k == 4) = false := by simp [h4]
   have e5 : (k == 5) = false := by simp [h5]
   have e6 : (k == 6) = false := by simp [h6]
   have e7 : (k == 7) = false := by simp [h7]
   have e8 : (k == 8) = false := by simp [h8]
   have E := Lib.hid e
   clear e h1 h2 h3 h4 h5 h6 h7 h8
   go_enter Tryz.func155, Tryz.ntmps155
   go_wp2_with fail
   go_ret
   exact ⟨by rw [E.out]; rfl, rfl⟩
theorem wide_c (k : Int) (w : World) : Calls Tryz.prog 109 #[.int .i64 k] w (Val w (.bool (wide k))) := by
 have e : (reachD k == 2) = wide k := by
  unfold reachD
  cases wide k <;> cases narrow k <;> rfl
 go_enter Tryz.func109, Tryz.ntmps109
 go_wp2_with (first | (go_at_call 155; refine (reach_c k _).mono ?_; rintro e w' ⟨rfl, rfl⟩))
 go_ret
 exact ⟨rfl, rfl⟩
theorem narrow_not_wide {k : Int} (h : narrow k = true) : wide k = false := by
 unfold narrow at h
 unfold wide
 simp only [Bool.or_eq_true, decide_eq_true_eq] at h
 simp only [Bool.or_eq_false_iff, decide_eq_false_iff_not]
 omega
theorem narrow_c (k : Int) (w : World) : Calls Tryz.prog 211 #[.int .i64 k] w (Val w (.bool (narrow k))) := by
 have e : (reachD k == 1) = narrow k := by
  unfold reachD
  cases hn : narrow k with
  | true => rw [narrow_not_wide hn]; rfl
  | false => cases wide k <;> rfl
 go_enter Tryz.func211, Tryz.ntmps211
 go_wp2_with (first | (go_at_call 155; refine (reach_c k _).mono ?_; rintro e w' ⟨rfl, rfl⟩))
 go_ret
 exact ⟨rfl, rfl⟩
theorem two_c (k : Int) (w : World) : Calls Tryz.prog 110 #[.int .i64 k] w (Val w (.bool (two k))) := by
 by_cases h5 : k = 5
 · subst h5
   go_enter Tryz.func110, Tryz.ntmps110
   go_wp2_with fail
   go_ret
   exact ⟨rfl, rfl⟩
 · by_cases h7 : k = 7
   · subst h7
     go_enter Tryz.func110, Tryz.ntmps110
     go_wp2_with fail
     go_ret
     exact ⟨rfl, rfl⟩
   · have e5 : (k == 5) = false := by simp [h5]
     have e7 : (k == 7) = false := by simp [h7]
     have E := Lib.hid (show two k = false by simp [two, h5, h7])
     clear h5 h7
     go_enter Tryz.func110, Tryz.ntmps110
     go_wp2_with fail
     go_ret
     exact ⟨by rw [E.out]; rfl, rfl⟩
theorem opsFault_c (at_ : Int) (w : World) : Calls Tryz.prog 208 #[.int .i64 at_] w (FaultPost w at_ 50) := by
 go_enter Tryz.func208, Tryz.ntmps208
 go_wp2
 go_ret
 exact ⟨_, rfl, ⟨_, _, _, 0, rfl, Bk.new _ _ _, rfl⟩, ext_alloc (Below.refl _ _) _⟩
/-- What a check comes to: nil, or an error with a place and a number. -/
def ErrPost (w : World) (r : Option (Nat × Int)) (e : Ending) (w' : World) : Prop :=
 (r = none → e = .returned .nilIface ∧ Below w.heap.size w w') ∧ (∀ at_ code, r = some (at_, code) → FaultPost w at_ code e w')
def rightP (o : OpD) : Option (Nat × Int) := (rightD o).map fun i => (i, 50)
theorem errPost_some {w w' : World} {r : Option (Nat × Int)} {a : Nat} {c : Int} {e : Ending} (hr : r = some (a, c)) (h : FaultPost w a c e w') : ErrPost w r e w' :=
 ⟨(fun h0 => by rw [hr] at h0; cases h0), (fun a' c' h' => by rw [hr] at h'; cases h'; exact h)⟩
theorem errPost_none {w w' : World} {r : Option (Nat × Int)} {e : Ending} (hr : r = none) (h : e = .returned .nilIface ∧ Below w.heap.size w w') : ErrPost w r e w' :=
 ⟨(fun _ => h), (fun a' c' h' => by rw [hr] at h'; cases h')⟩
set_option maxHeartbeats 4000000 in
theorem right_c (o : OpD) (w : World) : Calls Tryz.prog 171 #[opV o] w (ErrPost w (rightP o)) := by
 cases hf : fnB o.k with
 | none =>
   have FB := Lib.hid hf
   have FV := Lib.hid (show fnV o.k = .tuple #[.int .i64 0, .int .i64 0, .bool false] from (by unfold fnV; rw [hf]))
   clear hf
   have HR := Lib.hid (show rightP o = some (0, 50) from (by
    unfold rightP rightD
    rw [FB.out]
    rfl))
   go_enter Tryz.func171, Tryz.ntmps171
   go_wp2_with (first
    | (go_at_call 207; refine (functions_c o.k _).mono ?_; rw [FV.out]; rintro e w' ⟨rfl, rfl⟩)
    | (go_at_call 208; refine (opsFault_c _ _).mono ?_; rintro e w1 ⟨v, rfl, he, hb⟩))
   go_ret
   exact errPost_some HR.out ⟨v, rfl, he, ext_trans (ext_alloc (Below.refl _ _) _) hb⟩
 | some p =>
   obtain ⟨lo, hi⟩ := p
   have FB := Lib.hid hf
   have FV := Lib.hid (show fnV o.k = .tuple #[.int .i64 lo, .int .i64 hi, .bool true] from (by unfold fnV; rw [hf]))
   clear hf
   by_cases f1 : o.f < lo
   ·
     have HR := Lib.hid (show rightP o = some (1, 50) from (by
      unfold rightP rightD
      rw [FB.out]
      simp only []
      rw [if_pos (by omega)]; rfl))
     go_enter Tryz.func171, Tryz.ntmps171
     go_wp2_with (first
      | (go_at_call 207; refine (functions_c o.k _).mono ?_; rw [FV.out]; rintro e w' ⟨rfl, rfl⟩)
      | (go_at_call 208; refine (opsFault_c _ _).mono ?_; rintro e w1 ⟨v, rfl, he, hb⟩))
     go_ret
     exact errPost_some HR.out ⟨v, rfl, he, ext_trans (ext_alloc (Below.refl _ _) _) hb⟩
   by_cases f2 : hi < o.f
   ·
     have HR := Lib.hid (show rightP o = some (1, 50) from (by
      unfold rightP rightD
      rw [FB.out]
      simp only []
      rw [if_pos (by omega)]; rfl))
     go_enter Tryz.func171, Tryz.ntmps171
     go_wp2_with (first
      | (go_at_call 207; refine (functions_c o.k _).mono ?_; rw [FV.out]; rintro e w' ⟨rfl, rfl⟩)
      | (go_at_call 208; refine (opsFault_c _ _).mono ?_; rintro e w1 ⟨v, rfl, he, hb⟩))
     go_ret
     exact errPost_some HR.out ⟨v, rfl, he, ext_trans (ext_alloc (Below.refl _ _) _) hb⟩
   by_cases c1 : o.c < -999999999
   ·
     have HR := Lib.hid (show rightP o = some (2, 50) from (by
      unfold rightP rightD
      rw [FB.out]
      simp only []
      rw [if_neg (by omega), if_pos (by omega)]; rfl))
     go_enter Tryz.func171, Tryz.ntmps171
     go_wp2_with (first
      | (go_at_call 207; refine (functions_c o.k _).mono ?_; rw [FV.out]; rintro e w' ⟨rfl, rfl⟩)
      | (go_at_call 208; refine (opsFault_c _ _).mono ?_; rintro e w1 ⟨v, rfl, he, hb⟩))
     go_ret
     exact errPost_some HR.out ⟨v, rfl, he, ext_trans (ext_alloc (Below.refl _ _) _) hb⟩
   by_cases c2 : 999999999 < o.c
   ·
     have HR := Lib.hid (show rightP o = some (2, 50) from (by
      unfold rightP rightD
      rw [FB.out]
      simp only []
      rw [if_neg (by omega), if_pos (by omega)]; rfl))
     go_enter Tryz.func171, Tryz.ntmps171
     go_wp2_with (first
      | (go_at_call 207; refine (functions_c o.k _).mono ?_; rw [FV.out]; rintro e w' ⟨rfl, rfl⟩)
      | (go_at_call 208; refine (opsFault_c _ _).mono ?_; rintro e w1 ⟨v, rfl, he, hb⟩))
     go_ret
     exact errPost_some HR.out ⟨v, rfl, he, ext_trans (ext_alloc (Below.refl _ _) _) hb⟩
   by_cases c0 : o.c = 0
   ·
     have HR := Lib.hid (show rightP o = none from (by
      unfold rightP rightD
      rw [FB.out]
      simp only []
      rw [if_neg (by omega), if_neg (by omega)]; rfl))
     have e0 : (o.c != 0) = false := by simp [c0]
     have C0 := Lib.hid c0
     clear c0
     go_enter Tryz.func171, Tryz.ntmps171
     go_wp2_with (first
      | (go_at_call 207; refine (functions_c o.k _).mono ?_; rw [FV.out]; rintro e w' ⟨rfl, rfl⟩)
      | (go_at_call 208; refine (opsFault_c _ _).mono ?_; rintro e w1 ⟨v, rfl, he, hb⟩))
     go_ret
     exact errPost_none HR.out ⟨rfl, ext_alloc (Below.refl _ _) _⟩
   by_cases h2 : o.k = 2
   ·
     have HR := Lib.hid (show rightP o = none from (by
      unfold rightP rightD
      rw [FB.out]
      simp only []
      rw [if_neg (by omega), if_neg (by omega)]; rfl))
     have e0 : (o.c != 0) = true := by simp [c0]
     have e2 : (o.k != 2) = false := by simp [h2]
     clear c0 h2
     go_enter Tryz.func171, Tryz.ntmps171
     go_wp2_with (first
      | (go_at_call 207; refine (functions_c o.k _).mono ?_; rw [FV.out]; rintro e w' ⟨rfl, rfl⟩)
      | (go_at_call 208; refine (opsFault_c _ _).mono ?_; rintro e w1 ⟨v, rfl, he, hb⟩))
     go_ret
     exact errPost_none HR.out ⟨rfl, ext_alloc (Below.refl _ _) _⟩
   by_cases h3 : o.k = 3
   ·
     have HR := Lib.hid (show rightP o = none from (by
      unfold rightP rightD
      rw [FB.out]
      simp only []
      rw [if_neg (by omega), if_neg (by omega)]; rfl))
     have e0 : (o.c != 0) = true := by simp [c0]
     have e2 : (o.k != 2) = true := by simp [h2]
     have e3 : (o.k != 3) = false := by simp [h3]
     clear c0 h2 h3
     go_enter Tryz.func171, Tryz.ntmps171
     go_wp2_with (first
      | (go_at_call 207; refine (functions_c o.k _).mono ?_; rw [FV.out]; rintro e w' ⟨rfl, rfl⟩)
      | (go_at_call 208; refine (opsFault_c _ _).mono ?_; rintro e w1 ⟨v, rfl, he, hb⟩))
     go_ret
     exact errPost_none HR.out ⟨rfl, ext_alloc (Below.refl _ _) _⟩
   by_cases h4 : o.k = 4
   ·
     have HR := Lib.hid (show rightP o = none from (by
      unfold rightP rightD
      rw [FB.out]
      simp only []
      rw [if_neg (by omega), if_neg (by omega)]; rfl))
     have e0 : (o.c != 0) = true := by simp [c0]
     have e2 : (o.k != 2) = true := by simp [h2]
     have e3 : (o.k != 3) = true := by simp [h3]
     have e4 : (o.k != 4) = false := by simp [h4]
     clear c0 h2 h3 h4
     go_enter Tryz.func171, Tryz.ntmps171
     go_wp2_with (first
      | (go_at_call 207; refine (functions_c o.k _).mono ?_; rw [FV.out]; rintro e w' ⟨rfl, rfl⟩)
      | (go_at_call 208; refine (opsFault_c _ _).mono ?_; rintro e w1 ⟨v, rfl, he, hb⟩))
     go_ret
     exact errPost_none HR.out ⟨rfl, ext_alloc (Below.refl _ _) _⟩
   ·
     have HR := Lib.hid (show rightP o = some (2, 50) from (by
      unfold rightP rightD
      rw [FB.out]
      simp only []
      rw [if_neg (by omega), if_pos (by omega)]; rfl))
     have e0 : (o.c != 0) = true := by simp [c0]
     have e2 : (o.k != 2) = true := by simp [h2]
     have e3 : (o.k != 3) = true := by simp [h3]
     have e4 : (o.k != 4) = true := by simp [h4]
     clear c0 h2 h3 h4
     go_enter Tryz.func171, Tryz.ntmps171
     go_wp2_with (first
      | (go_at_call 207; refine (functions_c o.k _).mono ?_; rw [FV.out]; rintro e w' ⟨rfl, rfl⟩)
      | (go_at_call 208; refine (opsFault_c _ _).mono ?_; rintro e w1 ⟨v, rfl, he, hb⟩))
     go_ret
     exact errPost_some HR.out ⟨v, rfl, he, ext_trans (ext_alloc (Below.refl _ _) _) hb⟩
end Go.Proofs.YtapjhliglmohgaaGreatDoor
/- errors.Is of a chain of faults against a number. -/
namespace Go.Proofs.YtapjhliglmohgaaGreatDoor
open Go.RowKit Go.Extern.Stop Go.Stop Go.Extern
theorem comparableE (w : World) : ((ReflectliteType.method fun t => do Rtype.noPackHeld "Comparable" t; pure (.bool (← typeInfo t).comparable)) #[.agg #[.pointer (some ⟨1, 84, none⟩)]]).run Tryz.prog w = .ok (.bool true) w := by kernel_rfl
theorem methodComparable (v : Value) (w : World) : (Go.method 442 275 v "Comparable").run Tryz.prog w = .ok (259, v) w := by kernel_rfl
theorem noIsN (v : Value) (xT : TypeId) (w : World) : (Instr.typeAssert (.iface 84 v) xT 303 true).run Tryz.prog w = .ok (.tuple #[.nilIface, .bool false]) w := run_typeAssert_lacksB Tryz.underlying303 (by kernel_rfl) (by kernel_rfl) v xT w
theorem noUnwrapN (v : Value) (xT : TypeId) (w : World) : (Instr.typeAssert (.iface 84 v) xT 283 true).run Tryz.prog w = .ok (.tuple #[.nilIface, .bool false]) w := run_typeAssert_lacksB Tryz.underlying283 (by kernel_rfl) (by kernel_rfl) v xT w
theorem noUnwrapsN (v : Value) (xT : TypeId) (w : World) : (Instr.typeAssert (.iface 84 v) xT 284 true).run Tryz.prog w = .ok (.tuple #[.nilIface, .bool false]) w := run_typeAssert_lacksB Tryz.underlying284 (by kernel_rfl) (by kernel_rfl) v xT w
theorem noIsFt (v : Value) (xT : TypeId) (w : World) : (Instr.typeAssert (.iface 169 v) xT 303 true).run Tryz.prog w = .ok (.tuple #[.nilIface, .bool false]) w := run_typeAssert_lacksB Tryz.underlying303 (by kernel_rfl) (by kernel_rfl) v xT w
set_option maxRecDepth 100000 in
set_option maxHeartbeats 4000000 in
theorem is_c (n : Nat) (v : Value) (c t : Int) (w : World) (h : ErrN w n v c) :
 Calls Tryz.prog 209 #[v, .iface 84 (.int .i64 t), .bool true] w (BoolPost w (decide (c = t))) := by
 have nI := noIsN
 have nU := noUnwrapN
 have nV := noUnwrapsN
 have nF := noIsFt
 have uF := unwrapF
 have mU := methodUnwrap
 go_enter Tryz.func209, Tryz.ntmps209
 go_wp2_with fail
 go_loopg [0] n (fun k v0 wr => ErrN wr k v0 c ∧ Below w.heap.size w wr)
 case atStart => exact ⟨h, Below.refl _ _⟩
 case round =>
  obtain ⟨hn, hb⟩ := hrel
  have HB := Lib.hid hb
  clear hb
  cases gk with
  | zero =>
    obtain rfl : _ = Value.iface 84 (.int .i64 c) := hn
    have q := fun w => Lib.run_eql_iface_int (P := Tryz.prog) (k := .i64) w c t Tryz.underlying28 (by kernel_rfl) Tryz.underlying84
    by_cases hct : c = t
    · have e : (c == t) = true := by simp [hct]
      have E := Lib.hid (show decide (c = t) = true by simp [hct])
      clear hct
      go_wp2_with fail
      go_ret
      exact ⟨by rw [E.out]; rfl, HB.out⟩
    · have e : (c == t) = false := by simp [hct]
      have E := Lib.hid (show decide (c = t) = false by simp [hct])
      clear hct
      go_wp2_with fail
      go_ret
      exact ⟨by rw [E.out]; rfl, HB.out⟩
  | succ gk =>
    obtain ⟨fb, s, at_, v', rfl, hf1, hv'⟩ := hn
    obtain ⟨T, y, rfl⟩ := ErrN.iface hv'
    have f2 : wr.cell? ⟨fb, 2, none⟩ = some (.iface T y) := by rw [hf1.cell]; rfl
    have HV := Lib.hid hv'
    have q := fun w => run_eql_iface_types (P := Tryz.prog) 169 84 (.pointer (some ⟨fb, 0, none⟩)) (.int .i64 t) Tryz.underlying28 (by decide) w
    clear hv' hf1
    go_wp2_with (first | go_in)
    go_roundg gk
    case measure => omega
    case rel => exact ⟨HV.out, HB.out⟩
set_option maxRecDepth 100000 in
theorem Is_c (n : Nat) (v : Value) (c t : Int) (w : World) (h : ErrN w n v c) :
 Calls Tryz.prog 172 #[v, .iface 84 (.int .i64 t)] w (BoolPost w (decide (c = t))) := by
 have h67 := @run_callFunc_extern Tryz.prog 204 _ ReflectliteType.typeOf Tryz.func204 (by kernel_rfl) (by kernel_rfl) (by kernel_rfl) (by kernel_rfl)
 have h32 := @run_callFunc_extern Tryz.prog 259 _ (ReflectliteType.method fun t => do Rtype.noPackHeld "Comparable" t; pure (.bool (← typeInfo t).comparable)) Tryz.func259 (by kernel_rfl) (by kernel_rfl) (by kernel_rfl) (by kernel_rfl)
 have hC := fun w => (h32 #[.agg #[.pointer (some ⟨1, 84, none⟩)]] w).trans (by rw [comparableE w]; rfl : _ = Result.ok (Next.value (.bool true)) w)
 clear h32
 have tE := typeOfE
 have mC := methodComparable
 obtain ⟨T, y, rfl⟩ := h.iface
 have HE := Lib.hid h
 clear h
 go_enter Tryz.func172, Tryz.ntmps172
 go_wp2_with (first | (go_at_call 209; refine (is_c n _ c t _ HE.out).mono ?_; rintro e w1 ⟨rfl, hb⟩))
 go_ret
 exact ⟨rfl, hb⟩
theorem Is_nil (t : Int) (w : World) : Calls Tryz.prog 172 #[.nilIface, .iface 84 (.int .i64 t)] w (BoolPost w false) := by
 have hn := run_eql_iface_nil_left (P := Tryz.prog) w 84 (.int .i64 t) Tryz.underlying28
 go_enter Tryz.func172, Tryz.ntmps172
 go_wp2_with fail
 go_ret
 exact ⟨rfl, Below.refl _ _⟩
end Go.Proofs.YtapjhliglmohgaaGreatDoor
