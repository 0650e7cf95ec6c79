/- Plan, KeptP, Base, Maps, Words: laid together. -/
import Derived.Test.YtapjhliglmohgaaGreatDoorProg
import Derived.WalkKit
import Derived.Below
import Derived.OwnWalk
import Derived.Deep.Draws
import Derived.Deep.AppendLies
import Derived.Maps.AppendAt
import Derived.Laws.OwnMore
import Derived.Laws.Rows
import Derived.Lib.Hide
import Derived.KernelRfl
import Derived.Deep.RegionHeld3
import Derived.Maps.RangeWalk
import Derived.Maps.OwnSet
/- Plans in plain Lean: what is right, which datasets are kept, what a piece needs of its own batch, how great its tree is. -/
namespace Go.Proofs.YtapjhliglmohgaaGreatDoor
structure OpD where
 k : Int
 a : Int
 b : Int
 f : Int
 c : Int
deriving DecidableEq, Inhabited
structure PlanD where
 parts : Int
 ops : List OpD
/-! ### what is right -/
def fnB (k : Int) : Option (Int × Int) :=
 if k = 1 ∨ k = 5 then some (0, 0) else if k = 2 ∨ k = 6 ∨ k = 8 then some (0, 5) else if k = 3 then some (0, 4) else if k = 4 then some (1, 4) else if k = 7 then some (0, 3) else none
/-- Which field of an operation is wrong. -/
def rightD (o : OpD) : Option Nat :=
 match fnB o.k with
 | none => some 0
 | some (lo, hi) => if o.f < lo ∨ hi < o.f then some 1 else if o.c < -999999999 ∨ 999999999 < o.c ∨ (o.c ≠ 0 ∧ o.k ≠ 2 ∧ o.k ≠ 3 ∧ o.k ≠ 4) then some 2 else none
def two (k : Int) : Bool := decide (k = 5) || decide (k = 7)
def wide (k : Int) : Bool := decide (k = 6) || (decide (k = 7) || decide (k = 8))
def narrow (k : Int) : Bool := decide (k = 2) || (decide (k = 3) || (decide (k = 4) || decide (k = 5)))
def inputsD (i : Nat) (o : OpD) : Bool :=
 if decide (i = 0) != decide (o.k = 1) then false
 else if o.k = 1 then decide (o.a = 0) && decide (o.b = 0)
 else if o.a < 0 ∨ (i : Int) ≤ o.a then false
 else if two o.k then decide (0 ≤ o.b) && decide (o.b < i)
 else decide (o.b = 0)
/-- What is wrong with the operations from the i-th on: the place, the number. -/
def opsErr : Nat → List OpD → Option (Nat × Int)
 | _, [] => none
 | i, o :: l => if (rightD o).isSome then some (i, 50) else if inputsD i o then opsErr (i + 1) l else some (i, 51)
def shapeD (p : PlanD) : Option (Nat × Int) :=
 if 12 < p.ops.length then some (0, 2) else if p.ops.length = 0 ∨ p.parts < 1 ∨ 4 < p.parts then some (0, 1) else opsErr 0 p.ops
/-- A plan of the right shape. -/
structure Shaped (p : PlanD) : Prop where
 n0 : 0 < p.ops.length
 n12 : p.ops.length ≤ 12
 p1 : 1 ≤ p.parts
 p4 : p.parts ≤ 4
 op : ∀ i o, p.ops[i]? = some o → rightD o = none ∧ inputsD i o = true
theorem opsErr_none : ∀ (l : List OpD) (i : Nat), opsErr i l = none → ∀ j o, l[j]? = some o → rightD o = none ∧ inputsD (i + j) o = true
 | [], _, _, j, o, h => by simp at h
 | x :: l, i, he, j, o, h => by
   unfold opsErr at he
   split at he
   · cases he
   · next hr =>
     split at he
     · next hi =>
       cases j with
       | zero =>
         simp only [List.getElem?_cons_zero, Option.some.injEq] at h
         subst h
         exact ⟨by simpa using hr, by simpa using hi⟩
       | succ j =>
         have := opsErr_none l (i + 1) he j o (by simpa using h)
         rw [show i + (j + 1) = i + 1 + j by omega]
         exact this
     · cases he
theorem shaped_of {p : PlanD} (h : shapeD p = none) : Shaped p := by
 unfold shapeD at h
 split at h
 · cases h
 · split at h
   · cases h
   · next h1 h2 =>
     refine ⟨by omega, by omega, by omega, by omega, fun i o hi => ?_⟩
     have := opsErr_none p.ops 0 h i o hi
     simpa using this
theorem inputsD_a {i : Nat} {o : OpD} (h : inputsD i o = true) (h1 : o.k ≠ 1) : 0 ≤ o.a ∧ o.a < i := by
 unfold inputsD at h
 by_cases e1 : (decide (i = 0) != decide (o.k = 1)) = true
 · rw [if_pos e1] at h; cases h
 · rw [if_neg e1, if_neg h1] at h
   by_cases e2 : o.a < 0 ∨ (i : Int) ≤ o.a
   · rw [if_pos e2] at h; cases h
   · omega
theorem inputsD_b {i : Nat} {o : OpD} (h : inputsD i o = true) (h1 : two o.k = true) : 0 ≤ o.b ∧ o.b < i := by
 unfold inputsD at h
 have hk : o.k ≠ 1 := by
  intro e
  rw [e] at h1
  cases h1
 by_cases e1 : (decide (i = 0) != decide (o.k = 1)) = true
 · rw [if_pos e1] at h; cases h
 · rw [if_neg e1, if_neg hk] at h
   by_cases e2 : o.a < 0 ∨ (i : Int) ≤ o.a
   · rw [if_pos e2] at h; cases h
   · rw [if_neg e2, if_pos h1] at h
     simpa using h
theorem kind_in {o : OpD} (h : rightD o = none) : o.k = 1 ∨ narrow o.k = true ∨ wide o.k = true := by
 unfold rightD fnB at h
 unfold narrow wide
 by_cases h1 : o.k = 1
 · exact .inl h1
 · right
   simp only [Bool.or_eq_true, decide_eq_true_eq]
   by_cases h2 : o.k = 2 ∨ o.k = 3 ∨ o.k = 4 ∨ o.k = 5 ∨ o.k = 6 ∨ o.k = 7 ∨ o.k = 8
   · omega
   · exfalso
     rw [if_neg (by omega), if_neg (by omega), if_neg (by omega), if_neg (by omega), if_neg (by omega)] at h
     cases h
/-! ### which datasets are kept -/
def keptAt (ops : List OpD) (i : Nat) : Bool :=
 decide (i + 1 = ops.length) || (((ops[i]?).map fun o => decide (o.k = 8)).getD false || ops.any fun o => wide o.k && (decide (o.a = (i : Int)) || (two o.k && decide (o.b = (i : Int)))))
def keptL (ops : List OpD) : List Bool := (List.range ops.length).map (keptAt ops)
/-! ### the way down -/
abbrev Pt := Nat × Nat
def froms (o : OpD) : List Nat := if two o.k then [o.a.toNat, o.b.toNat] else [o.a.toNat]
/-- Where the way goes on from a part of a dataset, in order. -/
def steps (parts : Nat) (o : OpD) (q : Nat) : List Pt :=
 if wide o.k then (froms o).flatMap fun i => (List.range parts).map fun n => (i, n)
 else if narrow o.k then (froms o).map fun i => (i, q)
 else []
def down (ops : List OpD) (parts : Nat) : Nat → Nat → Nat → List Pt → List Pt
 | 0, _, _, out => out
 | fuel + 1, s, q, out => ((ops[s]?).map fun o => (steps parts o q).foldl (fun out y => if keptAt ops y.1 then (if y ∈ out then out else out ++ [y]) else down ops parts fuel y.1 y.2 out) out).getD out
def ownL (ops : List OpD) (parts s q : Nat) : List Pt := down ops parts (s + 1) s q []
theorem froms_lt {i : Nat} {o : OpD} (h : inputsD i o = true) (h1 : o.k ≠ 1) {x : Nat} (hx : x ∈ froms o) : x < i := by
 have ha := inputsD_a h h1
 unfold froms at hx
 split at hx
 · next h2 =>
   have hb := inputsD_b h h2
   simp only [List.mem_cons, List.not_mem_nil, or_false] at hx
   omega
 · simp only [List.mem_cons, List.not_mem_nil, or_false] at hx
   omega
theorem steps_lt {parts i q : Nat} {o : OpD} (h : inputsD i o = true) {y : Pt} (hy : y ∈ steps parts o q) : y.1 < i ∧ (y.2 = q ∨ y.2 < parts) := by
 unfold steps at hy
 by_cases hw : wide o.k = true
 · rw [if_pos hw] at hy
   have hk : o.k ≠ 1 := by intro e; rw [e] at hw; cases hw
   obtain ⟨x, hx, hy⟩ := List.mem_flatMap.1 hy
   obtain ⟨n, hn, rfl⟩ := List.mem_map.1 hy
   exact ⟨froms_lt h hk hx, .inr (List.mem_range.1 hn)⟩
 · rw [if_neg hw] at hy
   by_cases hn : narrow o.k = true
   · rw [if_pos hn] at hy
     have hk : o.k ≠ 1 := by intro e; rw [e] at hn; cases hn
     obtain ⟨x, hx, rfl⟩ := List.mem_map.1 hy
     exact ⟨froms_lt h hk hx, .inl rfl⟩
   · rw [if_neg hn] at hy
     cases hy
/-- What is come to. -/
inductive Reach (ops : List OpD) (parts : Nat) : Nat → Nat → Pt → Prop
 | here {s q : Nat} {o : OpD} {y : Pt} : ops[s]? = some o → y ∈ steps parts o q → keptAt ops y.1 = true → Reach ops parts s q y
 | on {s q : Nat} {o : OpD} {y z : Pt} : ops[s]? = some o → y ∈ steps parts o q → keptAt ops y.1 = false → Reach ops parts y.1 y.2 z → Reach ops parts s q z
section
variable {ops : List OpD} {parts : Nat}
def OpsOk (ops : List OpD) : Prop := ∀ i o, ops[i]? = some o → inputsD i o = true
theorem down_mem (hok : OpsOk ops) : ∀ (fuel s q : Nat) (out : List Pt), s < fuel → ∀ z, z ∈ down ops parts fuel s q out ↔ z ∈ out ∨ Reach ops parts s q z
 | 0, s, q, out, h, z => absurd h (Nat.not_lt_zero _)
 | fuel + 1, s, q, out, h, z => by
   unfold down
   cases ho : ops[s]? with
   | none =>
     simp only [Option.map_none, Option.getD_none]
     constructor
     · exact .inl
     · rintro (h1 | h1)
       · exact h1
       · cases h1 with
         | here h2 _ _ => rw [ho] at h2; cases h2
         | on h2 _ _ _ => rw [ho] at h2; cases h2
   | some o =>
     simp only [Option.map_some, Option.getD_some]
     have key : ∀ (l : List Pt), (∀ y ∈ l, y ∈ steps parts o q) → ∀ out : List Pt, z ∈ l.foldl (fun out y => if keptAt ops y.1 then (if y ∈ out then out else out ++ [y]) else down ops parts fuel y.1 y.2 out) out ↔
      z ∈ out ∨ ∃ y ∈ l, (keptAt ops y.1 = true ∧ z = y) ∨ (keptAt ops y.1 = false ∧ Reach ops parts y.1 y.2 z) := by
      intro l
      induction l with
      | nil => intro _ out; simp
      | cons y l ih =>
        intro hl out
        rw [List.foldl_cons, ih (fun y hy => hl y (List.mem_cons_of_mem _ hy))]
        have hlt := (steps_lt (hok s o ho) (hl y (by simp))).1
        by_cases hk : keptAt ops y.1 = true
        · rw [if_pos hk]
          by_cases hm : y ∈ out
          · rw [if_pos hm]
            constructor
            · rintro (h1 | ⟨y', h1, h2⟩)
              · exact .inl h1
              · exact .inr ⟨y', List.mem_cons_of_mem _ h1, h2⟩
            · rintro (h1 | ⟨y', h1, h2⟩)
              · exact .inl h1
              · rcases List.mem_cons.1 h1 with rfl | h3
                · rcases h2 with ⟨_, rfl⟩ | ⟨h4, _⟩
                  · exact .inl hm
                  · rw [hk] at h4; cases h4
                · exact .inr ⟨y', h3, h2⟩
          · rw [if_neg hm]
            constructor
            · rintro (h1 | ⟨y', h1, h2⟩)
              · rcases List.mem_append.1 h1 with h1 | h1
                · exact .inl h1
                · rw [List.mem_singleton] at h1
                  exact .inr ⟨y, by simp, .inl ⟨hk, h1⟩⟩
              · exact .inr ⟨y', List.mem_cons_of_mem _ h1, h2⟩
            · rintro (h1 | ⟨y', h1, h2⟩)
              · exact .inl (List.mem_append_left _ h1)
              · rcases List.mem_cons.1 h1 with rfl | h3
                · rcases h2 with ⟨_, rfl⟩ | ⟨h4, _⟩
                  · exact .inl (by simp)
                  · rw [hk] at h4; cases h4
                · exact .inr ⟨y', h3, h2⟩
        · have hk' : keptAt ops y.1 = false := by simpa using hk
          rw [if_neg hk]
          rw [down_mem hok fuel y.1 y.2 out (by omega) z]
          constructor
          · rintro ((h1 | h1) | ⟨y', h1, h2⟩)
            · exact .inl h1
            · exact .inr ⟨y, by simp, .inr ⟨hk', h1⟩⟩
            · exact .inr ⟨y', List.mem_cons_of_mem _ h1, h2⟩
          · rintro (h1 | ⟨y', h1, h2⟩)
            · exact .inl (.inl h1)
            · rcases List.mem_cons.1 h1 with rfl | h3
              · rcases h2 with ⟨h4, _⟩ | ⟨_, h4⟩
                · rw [hk'] at h4; cases h4
                · exact .inl (.inr h4)
              · exact .inr ⟨y', h3, h2⟩
     rw [key _ (fun _ h => h)]
     constructor
     · rintro (h1 | ⟨y, hy, ⟨hk, rfl⟩ | ⟨hk, hr⟩⟩)
       · exact .inl h1
       · exact .inr (.here ho hy hk)
       · exact .inr (.on ho hy hk hr)
     · rintro (h1 | h1)
       · exact .inl h1
       · cases h1 with
         | here h2 hy hk =>
           rw [ho] at h2
           cases h2
           exact .inr ⟨_, hy, .inl ⟨hk, rfl⟩⟩
         | on h2 hy hk hr =>
           rw [ho] at h2
           cases h2
           exact .inr ⟨_, hy, .inr ⟨hk, hr⟩⟩
theorem down_nodup : ∀ (fuel s q : Nat) (out : List Pt), out.Nodup → (down ops parts fuel s q out).Nodup
 | 0, _, _, _, h => h
 | fuel + 1, s, q, out, h => by
   unfold down
   cases ho : ops[s]? with
   | none => exact h
   | some o =>
     simp only [Option.map_some, Option.getD_some]
     generalize steps parts o q = l
     induction l generalizing out with
     | nil => exact h
     | cons y l ih =>
       rw [List.foldl_cons]
       refine ih _ ?_
       split
       · split
         · exact h
         · next hm =>
           rw [List.nodup_append]
           refine ⟨h, by simp, fun a ha b hb => ?_⟩
           rw [List.mem_singleton] at hb
           rw [hb]
           rintro rfl
           exact hm ha
       · exact down_nodup fuel y.1 y.2 out h
theorem own_mem (hok : OpsOk ops) (s q : Nat) (z : Pt) : z ∈ ownL ops parts s q ↔ Reach ops parts s q z := by
 unfold ownL
 rw [down_mem hok (s + 1) s q [] (Nat.lt_succ_self _)]
 simp
theorem own_nodup (s q : Nat) : (ownL ops parts s q).Nodup := down_nodup _ _ _ _ List.nodup_nil
theorem Reach.lt (hok : OpsOk ops) {s q : Nat} {z : Pt} (h : Reach ops parts s q z) : z.1 < s ∧ (z.2 = q ∨ z.2 < parts) ∧ keptAt ops z.1 = true := by
 induction h with
 | here ho hy hk =>
   have := steps_lt (hok _ _ ho) hy
   exact ⟨this.1, this.2, hk⟩
 | on ho hy hk hr ih =>
   have := steps_lt (hok _ _ ho) hy
   exact ⟨by omega, by omega, ih.2.2⟩
/-! ### a part is like another one -/
def sw (m : Nat) (q : Nat) : Nat := if q = m then 0 else if q = 0 then m else q
theorem sw_sw (m q : Nat) : sw m (sw m q) = q := by
 unfold sw
 split <;> split <;> (try split) <;> omega
theorem sw_lt {m q n : Nat} (hm : m < n) (hq : q < n) : sw m q < n := by
 unfold sw
 split <;> (try split) <;> omega
def swP (m : Nat) (y : Pt) : Pt := (y.1, sw m y.2)
theorem swP_swP (m : Nat) (y : Pt) : swP m (swP m y) = y := by
 unfold swP
 rw [sw_sw]
theorem steps_sw {m q : Nat} {o : OpD} (hm : m < parts) {y : Pt} (hy : y ∈ steps parts o q) : swP m y ∈ steps parts o (sw m q) := by
 unfold steps at hy ⊢
 split at hy
 · next hw =>
   rw [if_pos hw]
   obtain ⟨x, hx, hy⟩ := List.mem_flatMap.1 hy
   obtain ⟨n, hn, rfl⟩ := List.mem_map.1 hy
   exact List.mem_flatMap.2 ⟨x, hx, List.mem_map.2 ⟨sw m n, List.mem_range.2 (sw_lt hm (List.mem_range.1 hn)), rfl⟩⟩
 · next hw =>
   rw [if_neg hw]
   split at hy
   · next hn =>
     rw [if_pos hn]
     obtain ⟨x, hx, rfl⟩ := List.mem_map.1 hy
     exact List.mem_map.2 ⟨x, hx, rfl⟩
   · cases hy
theorem Reach.sw_ {m : Nat} (hm : m < parts) {s q : Nat} {z : Pt} (h : Reach ops parts s q z) : Reach ops parts s (sw m q) (swP m z) := by
 induction h with
 | here ho hy hk => exact .here ho (steps_sw hm hy) hk
 | on ho hy hk hr ih => exact .on ho (steps_sw hm hy) hk ih
theorem own_perm (hok : OpsOk ops) {s m : Nat} (hm : m < parts) : (ownL ops parts s m).Perm ((ownL ops parts s 0).map (swP m)) := by
 have hinj : ∀ a b : Pt, swP m a = swP m b → a = b := fun a b e => by rw [← swP_swP m a, e, swP_swP]
 have hn2 : ((ownL ops parts s 0).map (swP m)).Nodup := by
  have h0 : (ownL ops parts s 0).Pairwise (fun a b => swP m a ≠ swP m b) := (own_nodup s 0).imp fun h e => h (hinj _ _ e)
  exact List.pairwise_map.2 h0
 rw [List.perm_ext_iff_of_nodup (own_nodup s m) hn2]
 intro z
 rw [own_mem hok]
 have e0 : sw m m = 0 := by unfold sw; rw [if_pos rfl]
 have e1 : sw m 0 = m := by
  unfold sw
  by_cases e : 0 = m
  · rw [if_pos e]; exact e
  · rw [if_neg e, if_pos rfl]
 constructor
 · intro h
   have h1 := h.sw_ hm
   rw [e0] at h1
   exact List.mem_map.2 ⟨swP m z, (own_mem hok s 0 _).2 h1, swP_swP m z⟩
 · intro h
   obtain ⟨y, hy, rfl⟩ := List.mem_map.1 h
   have h1 := ((own_mem hok s 0 y).1 hy).sw_ hm
   rw [e1] at h1
   exact h1
theorem own_sets (hok : OpsOk ops) {s m : Nat} (hm : m < parts) : ((ownL ops parts s m).map Prod.fst).Perm ((ownL ops parts s 0).map Prod.fst) := by
 have h := (own_perm hok hm (s := s)).map Prod.fst
 rw [List.map_map] at h
 exact h
end
/-! ### how great a tree is -/
def capA (n t : Nat) : Nat := min (n + t) 4097
def capS (n : Nat) (l : List Nat) : Nat := l.foldl capA n
theorem capS_eq (l : List Nat) : ∀ n, n ≤ 4097 → capS n l = min (n + l.sum) 4097 := by
 induction l with
 | nil => intro n hn; show n = _; simp; omega
 | cons t l ih =>
   intro n hn
   show capS (capA n t) l = _
   rw [ih _ (by unfold capA; omega), List.sum_cons]
   unfold capA
   omega
theorem capS_le (l : List Nat) {n : Nat} (hn : n ≤ 4097) : capS n l ≤ 4097 := by rw [capS_eq l n hn]; omega
theorem capS_perm {l m : List Nat} (h : l.Perm m) {n : Nat} (hn : n ≤ 4097) : capS n l = capS n m := by
 rw [capS_eq l n hn, capS_eq m n hn, h.sum_nat]
/-- The trees of a batch's datasets, up to the s-th, by those of the batch ahead. -/
def rowT (ops : List OpD) (parts : Nat) (prev : Option (List Nat)) : Nat → List Nat
 | 0 => []
 | s + 1 =>
   let r := rowT ops parts prev s
   r ++ [if keptAt ops s then
    let n := capS 1 ((ownL ops parts s 0).map fun y => r.getD y.1 0)
    match prev with
    | none => n
    | some pr => if ((ops[s]?).map fun o => decide (o.k = 8)).getD false then capA n (pr.getD s 0) else n
    else 0]
def batT (ops : List OpD) (parts : Nat) : Nat → Option (List Nat)
 | 0 => none
 | b + 1 => some (rowT ops parts (batT ops parts b) ops.length)
def maxL (l : List Nat) : Nat := l.foldl max 0
def treeD (ops : List OpD) (parts b : Nat) : Nat := maxL ((batT ops parts b).getD [])
def checkD (p : PlanD) : Option (Nat × Int) :=
 match shapeD p with
 | some e => some e
 | none => if 4096 < treeD p.ops p.parts.toNat 16 then some (p.ops.length, 2) else none
section
variable {ops : List OpD} {parts : Nat}
theorem rowT_len (prev : Option (List Nat)) : ∀ s, (rowT ops parts prev s).length = s
 | 0 => rfl
 | s + 1 => by unfold rowT; simp [rowT_len prev s]
theorem rowT_pre (prev : Option (List Nat)) {i : Nat} : ∀ {s t : Nat}, i < s → s ≤ t → (rowT ops parts prev t).getD i 0 = (rowT ops parts prev s).getD i 0
 | s, 0, h, ht => by omega
 | s, t + 1, h, ht => by
   rcases Nat.lt_or_ge s (t + 1) with h1 | h1
   · rw [← rowT_pre prev h (show s ≤ t by omega)]
     have hl := rowT_len (ops := ops) (parts := parts) prev t
     rw [rowT]
     simp only [List.getD_eq_getElem?_getD]
     rw [List.getElem?_append_left (by omega)]
   · have : s = t + 1 := by omega
     rw [this]
/-- The tree of a dataset's pieces in a batch. -/
def tD (ops : List OpD) (parts b s : Nat) : Nat := ((batT ops parts b).getD []).getD s 0
theorem capA_le {n t : Nat} : capA n t ≤ 4097 := Nat.min_le_right _ _
theorem rowT_at (prev : Option (List Nat)) {s n : Nat} (h : s < n) : (rowT ops parts prev n).getD s 0 = if keptAt ops s then
 let m := capS 1 ((ownL ops parts s 0).map fun y => (rowT ops parts prev s).getD y.1 0)
 match prev with
 | none => m
 | some pr => if ((ops[s]?).map fun o => decide (o.k = 8)).getD false then capA m (pr.getD s 0) else m
 else 0 := by
 rw [rowT_pre prev (Nat.lt_succ_self s) h]
 have hl := rowT_len (ops := ops) (parts := parts) prev s
 conv => lhs; rw [rowT]
 simp only [List.getD_eq_getElem?_getD]
 rw [List.getElem?_append_right (by omega), hl, Nat.sub_self]
 rfl
/-- What the program reckons of any part is what stands in the row. -/
theorem tD_step (hok : OpsOk ops) {b s q : Nat} (hs : s < ops.length) (hq : q < parts) (hk : keptAt ops s = true) :
 tD ops parts (b + 1) s = (if 0 < b ∧ ((ops[s]?).map fun o => decide (o.k = 8)).getD false = true then capA (capS 1 ((ownL ops parts s q).map fun y => tD ops parts (b + 1) y.1)) (tD ops parts b s) else capS 1 ((ownL ops parts s q).map fun y => tD ops parts (b + 1) y.1)) := by
 have hrow : ∀ y, y < s → tD ops parts (b + 1) y = (rowT ops parts (batT ops parts b) s).getD y 0 := fun y hy => by
  show (rowT ops parts (batT ops parts b) ops.length).getD y 0 = _
  rw [rowT_pre _ hy (by omega)]
 have hsum : capS 1 ((ownL ops parts s q).map fun y => tD ops parts (b + 1) y.1) = capS 1 ((ownL ops parts s 0).map fun y => (rowT ops parts (batT ops parts b) s).getD y.1 0) := by
  have h1 : ((ownL ops parts s q).map fun y => tD ops parts (b + 1) y.1) = ((ownL ops parts s q).map Prod.fst).map (tD ops parts (b + 1)) := by rw [List.map_map]; rfl
  have h2 : ((ownL ops parts s 0).map fun y => (rowT ops parts (batT ops parts b) s).getD y.1 0) = ((ownL ops parts s 0).map Prod.fst).map (tD ops parts (b + 1)) := by
   rw [List.map_map]
   refine List.map_congr_left fun y hy => ?_
   exact (hrow y.1 ((own_mem hok s 0 y).1 hy |>.lt hok).1).symm
  rw [h1, h2]
  exact capS_perm ((own_sets hok hq).map _) (by omega)
 rw [hsum]
 show (rowT ops parts (batT ops parts b) ops.length).getD s 0 = _
 rw [rowT_at _ hs, if_pos hk]
 cases b with
 | zero => rfl
 | succ b =>
   show (if ((ops[s]?).map fun o => decide (o.k = 8)).getD false = true then capA _ (tD ops parts (b + 1) s) else _) = _
   by_cases h8 : ((ops[s]?).map fun o => decide (o.k = 8)).getD false = true
   · rw [if_pos h8, if_pos ⟨Nat.succ_pos _, h8⟩]
   · rw [if_neg h8, if_neg (fun h => h8 h.2)]
theorem tD_le (b s : Nat) : tD ops parts b s ≤ 4097 := by
 cases b with
 | zero => exact Nat.zero_le _
 | succ b =>
   show (rowT ops parts (batT ops parts b) ops.length).getD s 0 ≤ _
   rcases Nat.lt_or_ge s ops.length with h | h
   · rw [rowT_at _ h]
     split
     · cases batT ops parts b with
       | none => exact capS_le _ (by omega)
       | some pr =>
         simp only
         split
         · exact capA_le
         · exact capS_le _ (by omega)
     · omega
   · rw [List.getD_eq_getElem?_getD, List.getElem?_eq_none (by rw [rowT_len]; omega)]
     exact Nat.zero_le _
theorem tD_no {b s : Nat} (h : keptAt ops s = false) : tD ops parts b s = 0 := by
 cases b with
 | zero => rfl
 | succ b =>
   show (rowT ops parts (batT ops parts b) ops.length).getD s 0 = _
   rcases Nat.lt_or_ge s ops.length with h1 | h1
   · rw [rowT_at _ h1, h]; rfl
   · rw [List.getD_eq_getElem?_getD, List.getElem?_eq_none (by rw [rowT_len]; omega)]
     rfl
end
end Go.Proofs.YtapjhliglmohgaaGreatDoor
/- Which datasets are kept, operation by operation: in plain Lean. -/
namespace Go.Proofs.YtapjhliglmohgaaGreatDoor
def stAt (ops : List OpD) (x : Nat) : Bool := ((ops[x]?).map fun o => decide (o.k = 8)).getD false
def useOf (x : Nat) (o : OpD) : Bool := wide o.k && (decide (o.a = (x : Int)) || (two o.k && decide (o.b = (x : Int))))
/-- What is known of a dataset behind the first j operations. -/
def kAt (ops : List OpD) (last : Bool) (j x : Nat) : Bool := (last && decide (x + 1 = ops.length)) || ((decide (x < j) && stAt ops x) || (ops.take j).any (useOf x))
def kL (ops : List OpD) (last : Bool) (j : Nat) : List Bool := (List.range ops.length).map (kAt ops last j)
theorem kL_len (ops : List OpD) (last : Bool) (j : Nat) : (kL ops last j).length = ops.length := by simp [kL]
theorem kL_get {ops : List OpD} {last : Bool} {j x : Nat} (h : x < ops.length) : (kL ops last j)[x]? = some (kAt ops last j x) := by
 simp [kL, h]
theorem kL_none {ops : List OpD} {last : Bool} {j x : Nat} (h : ¬ x < ops.length) : (kL ops last j)[x]? = none := by
 rw [List.getElem?_eq_none]
 rw [kL_len]
 omega
theorem kL_zero (ops : List OpD) : kL ops false 0 = List.replicate ops.length false := by
 apply List.ext_getElem?
 intro x
 by_cases h : x < ops.length
 · rw [kL_get h, List.getElem?_replicate, if_pos h]
   simp [kAt]
 · rw [kL_none h, List.getElem?_replicate, if_neg h]
theorem kL_zero' {ops : List OpD} (h : 0 < ops.length) : kL ops true 0 = (List.replicate ops.length false).set (ops.length - 1) true := by
 apply List.ext_getElem?
 intro x
 by_cases hx : x < ops.length
 · rw [kL_get hx, List.getElem?_set, List.getElem?_replicate, if_pos hx]
   by_cases e : ops.length - 1 = x
   · rw [if_pos e, List.length_replicate, if_pos (show ops.length - 1 < ops.length by omega)]
     have : x + 1 = ops.length := by omega
     simp [kAt, this]
   · rw [if_neg e]
     have : ¬ x + 1 = ops.length := by omega
     simp [kAt, this]
 · rw [kL_none hx, List.getElem?_eq_none]
   simp
   omega
theorem kAt_succ {ops : List OpD} {last : Bool} {j : Nat} {o : OpD} (ho : ops[j]? = some o) (x : Nat) : kAt ops last (j + 1) x = (kAt ops last j x || (decide (x = j) && decide (o.k = 8)) || useOf x o) := by
 have ht : ops.take (j + 1) = ops.take j ++ [o] := by
  rw [List.take_add_one, ho]; rfl
 unfold kAt
 rw [ht, List.any_append, List.any_cons, List.any_nil, Bool.or_false]
 by_cases e : x = j
 · subst e
   have h1 : stAt ops x = decide (o.k = 8) := by unfold stAt; rw [ho]; rfl
   rw [h1]
   have h2 : decide (x < x + 1) = true := by simp
   have h3 : decide (x < x) = false := by simp
   rw [h2, h3]
   cases (last && decide (x + 1 = ops.length)) <;> cases decide (o.k = 8) <;> cases (ops.take x).any (useOf x) <;> cases useOf x o <;> simp
 · have h2 : decide (x < j + 1) = decide (x < j) := by
     by_cases h : x < j
     · simp [h, Nat.lt_succ_of_lt h]
     · have : ¬ x < j + 1 := by omega
       simp [h, this]
   rw [h2]
   cases (last && decide (x + 1 = ops.length)) <;> cases (decide (x < j) && stAt ops x) <;> cases (ops.take j).any (useOf x) <;> cases useOf x o <;> simp [e]
/-- What one operation does to the list. -/
def kStep (o : OpD) (j : Nat) (l : List Bool) : List Bool :=
 let l1 := if o.k = 8 then l.set j true else l
 if wide o.k = true then (if two o.k = true then (l1.set o.a.toNat true).set o.b.toNat true else l1.set o.a.toNat true) else l1
theorem kStep_len (o : OpD) (j : Nat) (l : List Bool) : (kStep o j l).length = l.length := by
 unfold kStep
 simp only
 split <;> split <;> (try split) <;> simp
theorem kL_step {ops : List OpD} {last : Bool} {j : Nat} {o : OpD} (ho : ops[j]? = some o) (ha : o.k ≠ 1 → 0 ≤ o.a) (hb : two o.k = true → 0 ≤ o.b) : kL ops last (j + 1) = kStep o j (kL ops last j) := by
 have hj : j < ops.length := (List.getElem?_eq_some_iff.1 ho).1
 apply List.ext_getElem?
 intro x
 by_cases hx : x < ops.length
 · rw [kL_get hx, kAt_succ ho]
   have h1 : (if o.k = 8 then (kL ops last j).set j true else kL ops last j)[x]? = some (kAt ops last j x || (decide (x = j) && decide (o.k = 8))) := by
    by_cases h8 : o.k = 8
    · rw [if_pos h8, List.getElem?_set, kL_len, kL_get hx]
      by_cases e : j = x
      · subst e
        rw [if_pos rfl, if_pos hj]
        simp [h8]
      · rw [if_neg e]
        have : ¬ x = j := fun h => e h.symm
        simp [this]
    · rw [if_neg h8, kL_get hx]
      simp [h8]
   have hlen1 : (if o.k = 8 then (kL ops last j).set j true else kL ops last j).length = ops.length := by split <;> simp [kL_len]
   unfold kStep
   simp only
   generalize (if o.k = 8 then (kL ops last j).set j true else kL ops last j) = l1 at h1 hlen1
   generalize (kAt ops last j x || (decide (x = j) && decide (o.k = 8))) = v at h1
   unfold useOf
   by_cases hw : wide o.k = true
   · have hk1 : o.k ≠ 1 := by intro e; rw [e] at hw; cases hw
     have ea : (o.a = (x : Int)) ↔ o.a.toNat = x := by have := ha hk1; omega
     rw [if_pos hw, hw]
     by_cases ht : two o.k = true
     · have eb : (o.b = (x : Int)) ↔ o.b.toNat = x := by have := hb ht; omega
       rw [if_pos ht, ht, List.getElem?_set, List.length_set, List.getElem?_set, hlen1, h1]
       by_cases e2 : o.b.toNat = x
       · rw [if_pos e2, if_pos (by rw [e2]; exact hx)]
         simp [eb.2 e2]
       · rw [if_neg e2]
         by_cases e1 : o.a.toNat = x
         · rw [if_pos e1, if_pos (by rw [e1]; exact hx)]
           simp [ea.2 e1]
         · rw [if_neg e1]
           have n1 : ¬ o.a = (x : Int) := fun h => e1 (ea.1 h)
           have n2 : ¬ o.b = (x : Int) := fun h => e2 (eb.1 h)
           simp [n1, n2]
     · have ht' : two o.k = false := by simpa using ht
       rw [if_neg ht, ht', List.getElem?_set, hlen1, h1]
       by_cases e1 : o.a.toNat = x
       · rw [if_pos e1, if_pos (by rw [e1]; exact hx)]
         simp [ea.2 e1]
       · rw [if_neg e1]
         have n1 : ¬ o.a = (x : Int) := fun h => e1 (ea.1 h)
         simp [n1]
   · have hw' : wide o.k = false := by simpa using hw
     rw [if_neg hw, hw', h1]
     simp
 · rw [kL_none hx, List.getElem?_eq_none]
   rw [kStep_len, kL_len]
   omega
theorem kL_full (ops : List OpD) : kL ops true ops.length = keptL ops := by
 unfold kL keptL
 refine List.map_congr_left fun x hx => ?_
 have h := List.mem_range.1 hx
 unfold kAt keptAt stAt useOf
 rw [List.take_length]
 simp [h]
theorem kL_last {ops : List OpD} (h : 0 < ops.length) (j : Nat) : (kL ops false j).set (ops.length - 1) true = kL ops true j := by
 apply List.ext_getElem?
 intro x
 by_cases hx : x < ops.length
 · rw [kL_get hx, List.getElem?_set, kL_len, kL_get hx]
   by_cases e : ops.length - 1 = x
   · rw [if_pos e, if_pos (show ops.length - 1 < ops.length by omega)]
     have : x + 1 = ops.length := by omega
     simp [kAt, this]
   · rw [if_neg e]
     have : ¬ x + 1 = ops.length := by omega
     simp [kAt, this]
 · rw [kL_none hx, List.getElem?_eq_none]
   simp [kL_len]
   omega
end Go.Proofs.YtapjhliglmohgaaGreatDoor
/- Words for memory, used by the walks of this seat: what a call may have changed (Chg), slices that read as a list (Rd), blocks known whole (Bk), rows and names as cells. -/
namespace Go.Proofs.YtapjhliglmohgaaGreatDoor
open Go.RowKit
/-! ### what may have changed: objects of the kinds 'mu' in blocks from B on, and nothing else -/
structure Chg (mu : Obj → Bool) (B : Nat) (w w' : World) : Prop where
 os : w'.os = w.os
 tape : w'.tape = w.tape
 output : w'.output = w.output
 size : w.heap.size ≤ w'.heap.size
 block : ∀ k o, w.heap[k]? = some o → (k < B ∨ mu o = false) → w'.heap[k]? = some o
theorem lt_of_some {w : World} {k : Nat} {o : Obj} (h : w.heap[k]? = some o) : k < w.heap.size := by
 rcases Nat.lt_or_ge k w.heap.size with hlt | hge
 · exact hlt
 · rw [Array.getElem?_eq_none hge] at h; cases h
section
variable {mu mu' : Obj → Bool} {B B' : Nat} {a b c w w' w1 : World}
theorem Chg.refl (mu : Obj → Bool) (B : Nat) (w : World) : Chg mu B w w := ⟨rfl, rfl, rfl, Nat.le_refl _, fun _ _ h _ => h⟩
theorem Chg.trans (h : Chg mu B a b) (k : Chg mu B b c) : Chg mu B a c :=
 ⟨k.os.trans h.os, k.tape.trans h.tape, k.output.trans h.output, Nat.le_trans h.size k.size, fun i o hi hc => k.block i o (h.block i o hi hc) hc⟩
theorem Chg.of_below (hb : Below w.heap.size w w') : Chg mu B w w' :=
 ⟨hb.os, hb.tape, hb.output, hb.size, fun k _ hk _ => (hb.block k (lt_of_some hk)).trans hk⟩
theorem Chg.drewN (h : Chg mu B a w) (n : Nat) : Chg mu B a (w.drewN n) := ⟨h.os, h.tape, h.output, h.size, h.block⟩
theorem Chg.drew (h : Chg mu B a w) : Chg mu B a w.drew := ⟨h.os, h.tape, h.output, h.size, h.block⟩
theorem Chg.alloc (h : Chg mu B a w) (o : Obj) : Chg mu B a (w.alloc o) :=
 h.trans (Chg.of_below ((Below.refl _ _).alloc (Nat.le_refl _) o))
theorem Chg.below (h : Chg mu B w w') (hB : B ≤ w.heap.size) : Below B w w' :=
 ⟨h.os, h.tape, h.output, h.size, fun k hk => by
   have hlt : k < w.heap.size := by omega
   obtain ⟨o, ho⟩ : ∃ o, w.heap[k]? = some o := ⟨_, Array.getElem?_eq_getElem hlt⟩
   rw [ho, h.block k o ho (.inl hk)]⟩
theorem Chg.set_ (h : Chg mu B a w) {p : Addr} {o : Obj} (ho : w.heap[p.block]? = some o) (hm : mu o = true) (hB : B ≤ p.block) (u : Value) : Chg mu B a (w.setCell p u) :=
 h.trans ⟨rfl, rfl, rfl, by simp [World.setCell], fun k o' hk hc => by
  by_cases e : k = p.block
  · subst e
    rw [ho] at hk
    cases hk
    rcases hc with hc | hc
    · omega
    · rw [hm] at hc; cases hc
  · rw [Below.heap_setCell _ _ _ _ e]; exact hk⟩
theorem Chg.grown {row : Option Nat} (h : Chg mu B a w) (hg : w.grownBy w' row) (hr : ∀ k, row = some k → B ≤ k ∧ (∀ o, w.heap[k]? = some o → mu o = true)) : Chg mu B a w' :=
 h.trans ⟨hg.os, hg.tape, hg.output, hg.size, fun k o hk hc => by
  refine (hg.block k (lt_of_some hk) (fun e => ?_)).trans hk
  obtain ⟨h1, h2⟩ := hr k e.symm
  rcases hc with hc | hc
  · omega
  · rw [h2 o hk] at hc; cases hc⟩
theorem Chg.cell (h : Chg mu B w w') {p : Addr} {v : Value} (hv : w.cell? p = some v) {o : Obj} (ho : w.heap[p.block]? = some o) (hc : p.block < B ∨ mu o = false) : w'.cell? p = some v := by
 rw [World.cell?_of_block (w := w) ((h.block _ _ ho hc).trans ho.symm)]; exact hv
end
theorem below_drewN {B : Nat} {a w : World} (h : Below B a w) (n : Nat) : Below B a (w.drewN n) := ⟨h.os, h.tape, h.output, h.size, h.block⟩
/-- One call behind another, each of which leaves what it found. -/
theorem ext_trans {a b c : World} (h : Below a.heap.size a b) (k : Below b.heap.size b c) : Below a.heap.size a c := h.trans (k.mono h.size)
theorem ext_alloc {a b : World} (h : Below a.heap.size a b) (o : Obj) : Below a.heap.size a (b.alloc o) := h.alloc h.size o
/-! ### a block that is known whole -/
def Bk (w : World) (g : Nat) (t : TypeId) (cs : Array Value) : Prop := w.heap[g]? = some (.cells cs t (0, 0))
section
variable {w w' : World} {g : Nat} {t : TypeId} {cs : Array Value} {mu : Obj → Bool} {B : Nat}
theorem Bk.lt (h : Bk w g t cs) : g < w.heap.size := lt_of_some h
theorem Bk.cell (h : Bk w g t cs) (i : Nat) : w.cell? ⟨g, i, none⟩ = cs[i]? := cell_of_row w g i cs t (0, 0) h
theorem Bk.frozen (h : Bk w g t cs) (i : Nat) : w.frozen? ⟨g, i, none⟩ = false := by
 unfold Bk at h
 simp [World.frozen?, h]
theorem Bk.new (w : World) (t : TypeId) (cs : Array Value) : Bk (w.alloc (.cells cs t)) w.heap.size t cs := heap_alloc_new w _
theorem Bk.newAt {w : World} {t : TypeId} {cs : Array Value} {g : Nat} (hg : g = w.heap.size) : Bk (w.alloc (.cells cs t)) g t cs := by subst hg; exact Bk.new w t cs
theorem Bk.drew (h : Bk w g t cs) : Bk w.drew g t cs := h
theorem Bk.drewN (h : Bk w g t cs) (n : Nat) : Bk (w.drewN n) g t cs := h
theorem Bk.alloc (h : Bk w g t cs) (o : Obj) : Bk (w.alloc o) g t cs := (Below.heap_alloc w o g h.lt).trans h
theorem Bk.set_ (h : Bk w g t cs) (i : Nat) (u : Value) : Bk (w.setCell ⟨g, i, none⟩ u) g t (cs.setIfInBounds i u) := by
 unfold Bk at h ⊢
 simp [World.setCell, Array.getElem?_modify, h]
theorem Bk.far (h : Bk w g t cs) {p : Addr} (hp : g ≠ p.block) (u : Value) : Bk (w.setCell p u) g t cs := (Below.heap_setCell w p u g hp).trans h
theorem Bk.below {B : Nat} (h : Bk w g t cs) (hb : Below B w w') (hg : g < B) : Bk w' g t cs := (hb.block g hg).trans h
theorem Bk.ext (h : Bk w g t cs) (hb : Below w.heap.size w w') : Bk w' g t cs := h.below hb h.lt
theorem Bk.grown {row : Option Nat} (h : Bk w g t cs) (hb : w.grownBy w' row) (hg : some g ≠ row) : Bk w' g t cs := (hb.block g h.lt hg).trans h
theorem Bk.ne_ {g' : Nat} {t' : TypeId} {cs' : Array Value} (h : Bk w g t cs) (h' : Bk w g' t' cs') (hne : t ≠ t') : g ≠ g' := by
 rintro rfl
 unfold Bk at h h'
 rw [h] at h'
 injection h' with h'
 injection h' with _ ht
 exact hne ht
end
/-! ### a slice that reads as a list of cells: below B whatever it lies in, from B on in a block of its own element type -/
theorem block_of_add (a : Addr) (n : Nat) : (a.add n).block = a.block := by unfold Addr.add; split <;> rfl
theorem add_of_add (a : Addr) (i j : Nat) : (a.add i).add j = a.add (i + j) := by
 unfold Addr.add
 by_cases hi : i = 0 <;> by_cases hj : j = 0 <;> simp [hi, hj, Nat.add_assoc]
def Rd (w : World) (B : Nat) (e : TypeId) (size : Nat) (A : Option Addr) (n : Nat) (xs : List Value) : Prop :=
 xs.length = n * size ∧ (0 < n → ∃ ad, A = some ad ∧ (ad.block < B ∨ ∃ c f, w.heap[ad.block]? = some (.cells c e f)) ∧ ∀ j u, xs[j]? = some u → w.cell? (ad.add j) = some u)
section
variable {w w' : World} {B B' : Nat} {e : TypeId} {size n : Nat} {A : Option Addr} {xs : List Value} {mu : Obj → Bool}
theorem Rd.none_ : Rd w B e size A 0 [] := ⟨by simp, fun h => absurd h (by omega)⟩
theorem Rd.keep (h : Rd w B e size A n xs) (hk : ∀ k o, w.heap[k]? = some o → (k < B ∨ ∃ c f, o = .cells c e f) → w'.heap[k]? = some o) : Rd w' B e size A n xs :=
 ⟨h.1, fun hn => by
   obtain ⟨ad, he, hb, hc⟩ := h.2 hn
   rcases Nat.eq_zero_or_pos xs.length with h0 | h0
   · refine ⟨ad, he, ?_, fun j u hu => ?_⟩
     · rcases hb with hb | ⟨c, f, hb⟩
       · exact .inl hb
       · exact .inr ⟨c, f, hk _ _ hb (.inr ⟨c, f, rfl⟩)⟩
     · have : xs = [] := List.eq_nil_of_length_eq_zero h0
       subst this
       simp at hu
   · have hc0 := hc 0 _ (List.getElem?_eq_getElem h0)
     have hlt := World.block_lt_of_cell? w _ hc0
     rw [block_of_add] at hlt
     have ho : w.heap[ad.block]? = some (w.heap[ad.block]'hlt) := Array.getElem?_eq_getElem hlt
     have hall : w'.heap[ad.block]? = w.heap[ad.block]? := by
      rcases hb with hb | ⟨c, f, hb⟩
      · rw [ho]; exact hk _ _ ho (.inl hb)
      · rw [hb]; exact hk _ _ hb (.inr ⟨c, f, rfl⟩)
     refine ⟨ad, he, ?_, fun j u hu => ?_⟩
     · rcases hb with hb | ⟨c, f, hb⟩
       · exact .inl hb
       · exact .inr ⟨c, f, hall.trans hb⟩
     · rw [World.cell?_of_block (w := w) (by rw [block_of_add]; exact hall)]
       exact hc j u hu⟩
theorem Rd.ext (h : Rd w B e size A n xs) (hb : Below w.heap.size w w') : Rd w' B e size A n xs :=
 h.keep fun k _ hk _ => (hb.block k (lt_of_some hk)).trans hk
theorem Rd.drew (h : Rd w B e size A n xs) : Rd w.drew B e size A n xs := h
theorem Rd.drewN (h : Rd w B e size A n xs) (k : Nat) : Rd (w.drewN k) B e size A n xs := h
theorem Rd.alloc (h : Rd w B e size A n xs) (o : Obj) : Rd (w.alloc o) B e size A n xs := h.ext ((Below.refl _ _).alloc (Nat.le_refl _) o)
theorem Rd.far (h : Rd w B e size A n xs) {p : Addr} (hB : B ≤ p.block) (hp : ∀ c f, w.heap[p.block]? ≠ some (.cells c e f)) (u : Value) : Rd (w.setCell p u) B e size A n xs :=
 h.keep fun k o hk hc => by
  rw [Below.heap_setCell _ _ _ _ (fun e => ?_)]
  · exact hk
  · subst e
    rcases hc with hc | ⟨c, f, rfl⟩
    · omega
    · exact hp c f hk
theorem Rd.farBk (h : Rd w B e size A n xs) {p : Addr} {t : TypeId} {cs : Array Value} (hB : B ≤ p.block) (hp : Bk w p.block t cs) (hne : t ≠ e) (u : Value) : Rd (w.setCell p u) B e size A n xs :=
 h.far hB (fun c f hc => by
  unfold Bk at hp
  rw [hp] at hc
  cases hc
  exact hne rfl) u
theorem Rd.cell (h : Rd w B e size A n xs) (hn : 0 < n) : ∃ ad, A = some ad ∧ ∀ j u, xs[j]? = some u → w.cell? (ad.add j) = some u := by
 obtain ⟨ad, he, _, hc⟩ := h.2 hn
 exact ⟨ad, he, hc⟩
theorem Rd.of_own {base cap : Nat} {g : Option Addr} (h : w.ownsRow base e size (.slice g n cap) n xs) : Rd w B e size g n xs := by
 refine ⟨h.1, fun hn => ?_⟩
 have h' := h
 rcases h'.2 with ⟨hv, h0⟩ | ⟨b, c, cur, hv, _, hh, _⟩
 · omega
 · have hA : g = some ⟨b, 0, none⟩ := by injection hv
   subst hA
   exact ⟨_, rfl, .inr ⟨_, _, hh⟩, h.cells (g := b) rfl⟩
theorem own_mono {base base' : Nat} {v : Value} (h : w.ownsRow base e size v n xs) (hb : base' ≤ base) : w.ownsRow base' e size v n xs := by
 refine ⟨h.1, ?_⟩
 rcases h.2 with h2 | ⟨g, cap, cur, hv, hg, r⟩
 · exact .inl h2
 · exact .inr ⟨g, cap, cur, hv, by omega, r⟩
theorem Rd.len (h : Rd w B e size A n xs) : xs.length = n * size := h.1
end
end Go.Proofs.YtapjhliglmohgaaGreatDoor
/- Maps whose keys are read by a code 'enc': what a block holds as an association list in the order in which its entries were laid, and what lookup, store, delete, clear, len and range do to it. -/
namespace Go.Proofs.YtapjhliglmohgaaGreatDoor
open Go.RowKit Go.ChangeMaps
/-- What a key's type may give: a code of the keys, one to one, whose comparisons run. -/
structure KeyS (P : Program) (k : TypeId) {α : Type} (enc : α → Value) : Prop where
 inj : ∀ x y, enc x = enc y → x = y
 check : ∀ (em : Bool) (x : α) (w : World), (Instr.checkKey em 10000 k (enc x)).run P w = .ok () w
 eq : ∀ (x y : α) (w : World), ∃ r : Bool, (Op.equal k (enc x) (enc y)).run P w = .ok r w ∧ (r = true ↔ x = y)
 now : ∀ (x y : α) (es : List MapEntry) (e : MapEntry) (i : Nat), e.key = enc y → (do Instr.findNow (← P.underlying k) (enc x) (e :: es) i : Option (Option (Nat × Value))) = none
 und : ∃ d, P.underlying k = some d
 stays : ∀ (x : α) (w : World), (Instr.keyThatStays (enc x) (enc x)).run P w = .ok (enc x) w
section
variable {P : Program} {k : TypeId} {α : Type} {enc : α → Value}
theorem run_findAsking_enc (C : KeyS P k enc) (w : World) (x : α) : ∀ (es : List MapEntry) (ks : List α) (i : Nat), es.map (·.key) = ks.map enc →
 (x ∉ ks ∧ (Instr.findAsking k (enc x) es i).run P w = .ok none w) ∨
 ∃ j e, ks[j]? = some x ∧ es[j]? = some e ∧ (Instr.findAsking k (enc x) es i).run P w = .ok (some (i + j, e.val)) w
 | [], ks, i, h => by
   have : ks = [] := by simpa using h.symm
   subst this
   exact .inl ⟨by simp, rfl⟩
 | e :: es, ks, i, h => by
   match ks, h with
   | [], h => simp at h
   | y :: ks, h =>
     simp only [List.map_cons, List.cons.injEq] at h
     obtain ⟨hk, ht⟩ := h
     obtain ⟨r, hr, hiff⟩ := C.eq x y w
     have hstep : (Instr.findAsking k (enc x) (e :: es) i).run P w = (if r then (.ok (some (i, e.val)) w : Result _) else (Instr.findAsking k (enc x) es (i + 1)).run P w) := by
      rw [Instr.findAsking]
      simp only [Sem.run_bind, hk, hr, Result.andThen_ok]
      cases r <;> rfl
     by_cases hxy : x = y
     · have hr1 : r = true := hiff.2 hxy
       subst hr1
       subst hxy
       exact .inr ⟨0, e, by simp, by simp, by rw [hstep]; simp⟩
     · have hr0 : r = false := by
         cases r
         · rfl
         · exact absurd (hiff.1 rfl) hxy
       subst hr0
       rcases run_findAsking_enc C w x es ks (i + 1) ht with ⟨hn, hrun⟩ | ⟨j, e', h1, h2, h3⟩
       · exact .inl ⟨by simp [hxy, hn], by rw [hstep]; simpa using hrun⟩
       · exact .inr ⟨j + 1, e', by simpa using h1, by simpa using h2, by rw [hstep]; simp only [Bool.false_eq_true, if_false]; rw [h3]; congr 3; omega⟩
theorem run_findKey_encS (C : KeyS P k enc) (w : World) (x : α) (es : List MapEntry) (ks : List α) (h : es.map (·.key) = ks.map enc) :
 (x ∉ ks ∧ (Instr.findKey k (enc x) es).run P w = .ok none w) ∨
 ∃ j e, ks[j]? = some x ∧ es[j]? = some e ∧ (Instr.findKey k (enc x) es).run P w = .ok (some (j, e.val)) w := by
 obtain ⟨d, hd⟩ := C.und
 cases es with
 | nil =>
   have : ks = [] := by simpa using h.symm
   subst this
   exact .inl ⟨by simp, by simp [Instr.findKey, run_underlying hd, Instr.findNow]⟩
 | cons e es =>
   match ks, h with
   | [], h => simp at h
   | y :: ks, h =>
     have hk : e.key = enc y := by simp at h; exact h.1
     have hn := C.now x y es e 0 hk
     simp only [hd, Option.bind_eq_bind, Option.bind_some] at hn
     have hstep : (Instr.findKey k (enc x) (e :: es)).run P w = (Instr.findAsking k (enc x) (e :: es) 0).run P w := by
      simp [Instr.findKey, run_underlying hd, hn]
     rw [hstep]
     rcases run_findAsking_enc C w x (e :: es) (y :: ks) 0 h with h1 | ⟨j, e', h1, h2, h3⟩
     · exact .inl h1
     · exact .inr ⟨j, e', h1, h2, by simpa using h3⟩
/-- What a key's type must give: a key is found where it lies. -/
structure KeyC (P : Program) (k : TypeId) {α : Type} (enc : α → Value) : Prop where
 check : ∀ (em : Bool) (x : α) (w : World), (Instr.checkKey em 10000 k (enc x)).run P w = .ok () w
 stays : ∀ (x : α) (w : World), (Instr.keyThatStays (enc x) (enc x)).run P w = .ok (enc x) w
 find : ∀ (w : World) (x : α) (es : List MapEntry) (ks : List α), es.map (·.key) = ks.map enc →
  (x ∉ ks ∧ (Instr.findKey k (enc x) es).run P w = .ok none w) ∨
  ∃ j e, ks[j]? = some x ∧ es[j]? = some e ∧ (Instr.findKey k (enc x) es).run P w = .ok (some (j, e.val)) w
theorem KeyS.c (C : KeyS P k enc) : KeyC P k enc := ⟨C.check, C.stays, fun w x es ks h => run_findKey_encS C w x es ks h⟩
theorem run_findKey_enc (C : KeyC P k enc) (w : World) (x : α) (es : List MapEntry) (ks : List α) (h : es.map (·.key) = ks.map enc) :
 (x ∉ ks ∧ (Instr.findKey k (enc x) es).run P w = .ok none w) ∨
 ∃ j e, ks[j]? = some x ∧ es[j]? = some e ∧ (Instr.findKey k (enc x) es).run P w = .ok (some (j, e.val)) w := C.find w x es ks h
/-- Block b is a map that holds m, an association list in the order in which its keys were first laid. -/
def MapIs (enc : α → Value) (w : World) (b : Nat) (m : List (α × Value)) : Prop :=
 ∃ es clock, w.heap[b]? = some (.map es clock) ∧ es.toList.map (fun e => (e.key, e.val)) = m.map (fun p => (enc p.1, p.2)) ∧
  (es.toList.map (·.born)).Nodup ∧ (∀ e ∈ es.toList, e.born < clock) ∧ (m.map (·.1)).Nodup
/-- The list with x's value laid. -/
def mset [DecidableEq α] (m : List (α × Value)) (x : α) (v : Value) : List (α × Value) :=
 if x ∈ m.map (·.1) then m.map (fun p => if p.1 = x then (x, v) else p) else m ++ [(x, v)]
def mdel [DecidableEq α] (m : List (α × Value)) (x : α) : List (α × Value) := m.filter (fun p => decide (p.1 ≠ x))
def mget [DecidableEq α] (m : List (α × Value)) (x : α) : Option Value := (m.find? (fun p => decide (p.1 = x))).map (·.2)
variable {w : World} {b : Nat} {m : List (α × Value)}
theorem MapIs.lt (h : MapIs enc w b m) : b < w.heap.size := by
 obtain ⟨es, clock, hb, _⟩ := h
 exact lt_of_some hb
theorem MapIs.obj (h : MapIs enc w b m) : ∃ es clock, w.heap[b]? = some (.map es clock) := by
 obtain ⟨es, clock, hb, _⟩ := h
 exact ⟨es, clock, hb⟩
theorem MapIs.keep {w' : World} (h : MapIs enc w b m) (hb : w'.heap[b]? = w.heap[b]?) : MapIs enc w' b m := by
 obtain ⟨es, clock, h1, r⟩ := h
 exact ⟨es, clock, hb.trans h1, r⟩
theorem MapIs.ext {w' : World} (h : MapIs enc w b m) (hb : Below w.heap.size w w') : MapIs enc w' b m := h.keep (hb.block b h.lt)
theorem MapIs.setCell (h : MapIs enc w b m) (p : Addr) (v : Value) : MapIs enc (w.setCell p v) b m := by
 obtain ⟨es, clock, hb, r⟩ := h
 refine ⟨es, clock, ?_, r⟩
 simp only [World.setCell, Array.getElem?_modify, hb]
 split <;> simp
theorem MapIs.alloc (h : MapIs enc w b m) (o : Obj) : MapIs enc (w.alloc o) b m := h.ext ((Below.refl _ _).alloc (Nat.le_refl _) o)
theorem MapIs.drew (h : MapIs enc w b m) : MapIs enc w.drew b m := h
theorem MapIs.drewN (h : MapIs enc w b m) (n : Nat) : MapIs enc (w.drewN n) b m := h
theorem MapIs.grown {w' : World} {row : Option Nat} (h : MapIs enc w b m) (hg : w.grownBy w' row) (hr : some b ≠ row) : MapIs enc w' b m := h.keep (hg.block b h.lt hr)
theorem MapIs.ne_cells (h : MapIs enc w b m) {g : Nat} {cs : Array Value} {t : TypeId} {f : Nat × Nat} (hg : w.heap[g]? = some (.cells cs t f)) : b ≠ g := by
 rintro rfl
 obtain ⟨es, clock, hb, _⟩ := h
 rw [hb] at hg
 cases hg
theorem MapIs.nodup (h : MapIs enc w b m) : (m.map (·.1)).Nodup := by
 obtain ⟨_, _, _, _, _, _, h⟩ := h
 exact h
theorem MapIs.made (enc : α → Value) (w : World) : MapIs enc (w.alloc (.map #[] 0)) w.heap.size ([] : List (α × Value)) :=
 ⟨#[], 0, heap_alloc_new w _, by simp, by simp, by simp, by simp⟩
theorem mget_none [DecidableEq α] {x : α} (h : x ∉ m.map (·.1)) : mget m x = none := by
 unfold mget
 rw [List.find?_eq_none.2 (fun p hp => by
  simp only [decide_eq_true_eq]
  rintro rfl
  exact h (List.mem_map_of_mem hp))]
 rfl
theorem mget_some [DecidableEq α] {x : α} {v : Value} (hn : (m.map (·.1)).Nodup) (h : (x, v) ∈ m) : mget m x = some v := by
 unfold mget
 induction m with
 | nil => cases h
 | cons p m ih =>
   simp only [List.map_cons, List.nodup_cons] at hn
   rcases List.mem_cons.1 h with rfl | h
   · simp
   · have hne : p.1 ≠ x := by
       rintro rfl
       exact hn.1 (List.mem_map_of_mem (f := (·.1)) h)
     simp only [List.find?_cons, hne, decide_false]
     exact ih hn.2 h
theorem keys_of (es : Array MapEntry) (m : List (α × Value)) (h : es.toList.map (fun e => (e.key, e.val)) = m.map (fun p => (enc p.1, p.2))) : es.toList.map (·.key) = (m.map (·.1)).map enc := by
 have := congrArg (List.map Prod.fst) h
 simpa [List.map_map, Function.comp_def] using this
theorem val_at (es : Array MapEntry) (m : List (α × Value)) (h : es.toList.map (fun e => (e.key, e.val)) = m.map (fun p => (enc p.1, p.2))) {j : Nat} {e : MapEntry} (he : es.toList[j]? = some e) {x : α} (hx : (m.map (·.1))[j]? = some x) :
 m[j]? = some (x, e.val) := by
 have := congrArg (fun l => l[j]?) h
 simp only [List.getElem?_map, he, Option.map_some] at this
 rw [List.getElem?_map] at hx
 cases hm : m[j]? with
 | none => rw [hm] at hx; cases hx
 | some p =>
   rw [hm] at this hx
   simp only [Option.map_some, Option.some.injEq, Prod.mk.injEq] at this hx
   rw [← hx, this.2]
/-- 'v, ok := m[x]'. -/
theorem MapIs.lookup_ok [DecidableEq α] (h : MapIs enc w b m) (C : KeyC P k enc) {t e : TypeId} (ht : P.underlying t = some (.map k e)) {z : Value} (hz : (zeroValue e).run P w = .ok z w) (x : α) :
 (Instr.lookup t (.map (some b)) (enc x) true).run P w = .ok (.tuple #[(mget m x).getD z, .bool (mget m x).isSome]) w := by
 obtain ⟨es, clock, hb, hm, _, _, hn⟩ := h
 have hks := keys_of es m hm
 rcases run_findKey_enc C w x es.toList (m.map (·.1)) hks with ⟨hx, hf⟩ | ⟨j, e0, hx, he, hf⟩
 · rw [mget_none hx]
   simp [Instr.lookup, run_underlying ht, MapKept.run_getObj_map hb, C.check, hf, hz]
 · have hv := val_at es m hm he hx
   rw [mget_some hn (List.mem_of_getElem? hv)]
   simp [Instr.lookup, run_underlying ht, MapKept.run_getObj_map hb, C.check, hf]
/-- 'm[x]'. -/
theorem MapIs.lookup [DecidableEq α] (h : MapIs enc w b m) (C : KeyC P k enc) {t e : TypeId} (ht : P.underlying t = some (.map k e)) {z : Value} (hz : (zeroValue e).run P w = .ok z w) (x : α) :
 (Instr.lookup t (.map (some b)) (enc x) false).run P w = .ok ((mget m x).getD z) w := by
 obtain ⟨es, clock, hb, hm, _, _, hn⟩ := h
 have hks := keys_of es m hm
 rcases run_findKey_enc C w x es.toList (m.map (·.1)) hks with ⟨hx, hf⟩ | ⟨j, e0, hx, he, hf⟩
 · rw [mget_none hx]
   simp [Instr.lookup, run_underlying ht, MapKept.run_getObj_map hb, C.check, hf, hz]
 · have hv := val_at es m hm he hx
   rw [mget_some hn (List.mem_of_getElem? hv)]
   simp [Instr.lookup, run_underlying ht, MapKept.run_getObj_map hb, C.check, hf]
theorem grownBy_setBlock (hb : ∃ es clock, w.heap[b]? = some (.map es clock)) (o : Obj) : w.grownBy (setBlock w b o) (some b) := by
 obtain ⟨es, clock, hb⟩ := hb
 exact ⟨rfl, rfl, rfl, by simp [setBlock], fun i _ hi => heap_setBlock_other hb o (fun e => hi (by rw [e]))⟩
theorem map_set_at [DecidableEq α] (hn : (m.map (·.1)).Nodup) {x : α} {v : Value} {j : Nat} (hx : (m.map (·.1))[j]? = some x) : m.map (fun p => if p.1 = x then (x, v) else p) = m.set j (x, v) := by
 apply List.ext_getElem?
 intro i
 rw [List.getElem?_map, List.getElem?_set]
 by_cases hij : j = i
 · subst hij
   have hlt : j < m.length := by
    have := (List.getElem?_eq_some_iff.1 hx).1
    simpa using this
   rw [List.getElem?_map] at hx
   rw [List.getElem?_eq_getElem hlt] at hx ⊢
   simp only [Option.map_some, Option.some.injEq] at hx
   simp [hx, hlt]
 · rw [if_neg hij]
   cases hi : m[i]? with
   | none => rfl
   | some p =>
     simp only [Option.map_some, Option.some.injEq]
     rw [if_neg]
     intro hp
     have hi' : (m.map (·.1))[i]? = some x := by rw [List.getElem?_map, hi]; simp [hp]
     have h1 := (List.getElem?_eq_some_iff.1 hx)
     have h2 := (List.getElem?_eq_some_iff.1 hi')
     have hpw := List.pairwise_iff_getElem.1 hn
     rcases Nat.lt_or_gt_of_ne hij with hl | hl
     · exact hpw j i h1.1 h2.1 hl (h1.2.trans h2.2.symm)
     · exact hpw i j h2.1 h1.1 hl (h2.2.trans h1.2.symm)
/-- 'm[x] = v'. -/
theorem MapIs.store [DecidableEq α] (h : MapIs enc w b m) (C : KeyC P k enc) {t e : TypeId} (ht : P.underlying t = some (.map k e)) (x : α) (v : Value) :
 ∃ w', (Instr.mapUpdate t (.map (some b)) (enc x) v).run P w = .ok () w' ∧ MapIs enc w' b (mset m x v) ∧ w.grownBy w' (some b) ∧ w'.heap.size = w.heap.size := by
 obtain ⟨es, clock, hb, hm, hnb, hlt, hn⟩ := h
 have hks := keys_of es m hm
 rcases run_findKey_enc C w x es.toList (m.map (·.1)) hks with ⟨hx, hf⟩ | ⟨j, e0, hx, he, hf⟩
 · refine ⟨setBlock w b (.map (es.push { key := enc x, val := v, born := clock }) (clock + 1)), ?_, ⟨_, _, heap_setBlock_same hb _, ?_, ?_, ?_, ?_⟩, grownBy_setBlock ⟨_, _, hb⟩ _, by simp [setBlock]⟩
   · simp [Instr.mapUpdate, run_underlying ht, MapKept.run_getObj_map hb, C.check, hf, MapKept.run_setObj_map _ hb, setBlock]
   · simp [mset, hx, hm]
   · simp only [Array.toList_push, List.map_append, List.map_cons, List.map_nil]
     rw [List.nodup_append]
     refine ⟨hnb, by simp, ?_⟩
     intro a ha c hc
     simp only [List.mem_cons, List.not_mem_nil, or_false] at hc
     subst hc
     obtain ⟨e, he, rfl⟩ := List.mem_map.1 ha
     have := hlt e he
     omega
   · intro e he
     simp only [Array.toList_push, List.mem_append, List.mem_cons, List.not_mem_nil, or_false] at he
     rcases he with he | rfl
     · have := hlt e he; omega
     · simp
   · unfold mset
     rw [if_neg hx, List.map_append, List.nodup_append]
     exact ⟨hn, by simp, by intro a ha c hc; simp at hc; subst hc; exact fun e => hx (e ▸ ha)⟩
 · have hmem : x ∈ m.map (·.1) := List.mem_iff_getElem?.2 ⟨j, hx⟩
   have hkey : e0.key = enc x := by
    have := congrArg (fun l => l[j]?) hks
    simp only [List.getElem?_map, he, Option.map_some] at this
    rw [List.getElem?_map] at hx
    cases hmj : m[j]? with
    | none => rw [hmj] at hx; cases hx
    | some p =>
      rw [hmj] at this hx
      simp only [Option.map_some, Option.some.injEq] at this hx
      rw [this, hx]
   have hej : es[j]? = some e0 := by simpa using he
   have hjlt : j < es.size := (Array.getElem?_eq_some_iff.1 hej).1
   have hes : es[j] = e0 := (Array.getElem?_eq_some_iff.1 hej).2
   have hmod : (es.modify j fun e => { e with key := enc x, val := v }).toList = es.toList.set j { e0 with key := enc x, val := v } := by
    apply List.ext_getElem?
    intro i
    rw [Array.toList_modify, List.getElem?_modify, List.getElem?_set]
    by_cases hij : j = i
    · subst hij
      simp [hjlt, hes]
    · simp [hij]
   refine ⟨setBlock w b (.map (es.modify j fun e => { e with key := enc x, val := v }) clock), ?_, ⟨_, _, heap_setBlock_same hb _, ?_, ?_, ?_, ?_⟩, grownBy_setBlock ⟨_, _, hb⟩ _, by simp [setBlock]⟩
   · simp [Instr.mapUpdate, run_underlying ht, MapKept.run_getObj_map hb, C.check, hf, MapKept.run_setObj_map _ hb, setBlock, hej, hkey, C.stays]
   · rw [hmod, List.map_set, hm]
     unfold mset
     rw [if_pos hmem, map_set_at hn hx, List.map_set]
   · rw [hmod, List.map_set]
     have : (es.toList.map (·.born)).set j e0.born = es.toList.map (·.born) := by
      apply List.ext_getElem?
      intro i
      rw [List.getElem?_set]
      split
      · rename_i hij; subst hij; simp [hjlt, hes]
      · rfl
     rw [this]; exact hnb
   · intro e hmem'
     rw [hmod] at hmem'
     rcases List.mem_or_eq_of_mem_set hmem' with h1 | h1
     · exact hlt e h1
     · subst h1; exact hlt e0 (List.mem_of_getElem? he)
   · unfold mset
     rw [if_pos hmem, map_set_at hn hx, List.map_set]
     have : (m.map (·.1)).set j x = m.map (·.1) := by
      apply List.ext_getElem?
      intro i
      rw [List.getElem?_set]
      split
      · rename_i hij
        subst hij
        rw [hx, if_pos (List.getElem?_eq_some_iff.1 hx).1]
      · rfl
     rw [this]; exact hn
theorem filter_ne_eraseIdx [DecidableEq α] (hn : (m.map (·.1)).Nodup) {x : α} {j : Nat} (hx : (m.map (·.1))[j]? = some x) : mdel m x = m.eraseIdx j := by
 unfold mdel
 induction m generalizing j with
 | nil => simp at hx
 | cons p m ih =>
   simp only [List.map_cons, List.nodup_cons] at hn
   cases j with
   | zero =>
     simp only [List.map_cons, List.getElem?_cons_zero, Option.some.injEq] at hx
     subst hx
     simp only [List.filter_cons, ne_eq, not_true_eq_false, decide_false, Bool.false_eq_true, if_false, List.eraseIdx_zero, List.tail_cons]
     refine List.filter_eq_self.2 fun q hq => ?_
     simp only [decide_not, Bool.not_eq_true', decide_eq_false_iff_not]
     intro e
     exact hn.1 (e ▸ List.mem_map_of_mem hq)
   | succ j =>
     simp only [List.map_cons, List.getElem?_cons_succ] at hx
     have hne : p.1 ≠ x := by
      rintro rfl
      exact hn.1 (List.mem_of_getElem? hx)
     simp only [List.filter_cons, ne_eq, hne, not_false_eq_true, decide_true, if_true, List.eraseIdx_cons_succ]
     rw [← ih hn.2 hx]
/-- 'delete(m, x)'. -/
theorem MapIs.drop [DecidableEq α] (h : MapIs enc w b m) (C : KeyC P k enc) {t e : TypeId} (ht : P.underlying t = some (.map k e)) (ty : TypeId) (x : α) :
 ∃ w', (Builtin.delete_ #[t, k] ty #[.map (some b), enc x]).run P w = .ok (.tuple #[]) w' ∧ MapIs enc w' b (mdel m x) ∧ w.grownBy w' (some b) ∧ w'.heap.size = w.heap.size := by
 obtain ⟨es, clock, hb, hm, hnb, hlt, hn⟩ := h
 have hks := keys_of es m hm
 rcases run_findKey_enc C w x es.toList (m.map (·.1)) hks with ⟨hx, hf⟩ | ⟨j, e0, hx, he, hf⟩
 · refine ⟨setBlock w b (.map es clock), ?_, ⟨_, _, heap_setBlock_same hb _, ?_, hnb, hlt, ?_⟩, grownBy_setBlock ⟨_, _, hb⟩ _, by simp [setBlock]⟩
   · simp [Builtin.delete_, run_underlying ht, MapKept.run_getObj_map hb, C.check, hf, MapKept.run_setObj_map _ hb, setBlock]
   · have : mdel m x = m := List.filter_eq_self.2 fun q hq => by
       simp only [decide_not, Bool.not_eq_true', decide_eq_false_iff_not]
       intro e
       exact hx (e ▸ List.mem_map_of_mem hq)
     rw [this]; exact hm
   · exact List.Nodup.sublist (List.Sublist.map _ (List.filter_sublist ..)) hn
 · have hjlt : j < es.size := by have := (List.getElem?_eq_some_iff.1 he).1; simpa using this
   have her : (es.eraseIdxIfInBounds j).toList = es.toList.eraseIdx j := by simp [Array.eraseIdxIfInBounds, hjlt]
   refine ⟨setBlock w b (.map (es.eraseIdxIfInBounds j) clock), ?_, ⟨_, _, heap_setBlock_same hb _, ?_, ?_, ?_, ?_⟩, grownBy_setBlock ⟨_, _, hb⟩ _, by simp [setBlock]⟩
   · simp [Builtin.delete_, run_underlying ht, MapKept.run_getObj_map hb, C.check, hf, MapKept.run_setObj_map _ hb, setBlock]
   · rw [her, filter_ne_eraseIdx hn hx, ChangeMaps.map_eraseIdx, ChangeMaps.map_eraseIdx, hm]
   · rw [her, ChangeMaps.map_eraseIdx]
     exact List.Nodup.sublist (List.eraseIdx_sublist ..) hnb
   · intro e hmem
     rw [her] at hmem
     exact hlt e (List.mem_of_mem_eraseIdx hmem)
   · exact List.Nodup.sublist (List.Sublist.map _ (List.filter_sublist ..)) hn
/-- 'clear(m)'. -/
theorem MapIs.clear (h : MapIs enc w b m) {t e : TypeId} (ht : P.underlying t = some (.map k e)) (ty : TypeId) :
 ∃ w', (Builtin.clear_ #[t] ty #[.map (some b)]).run P w = .ok (.tuple #[]) w' ∧ MapIs enc w' b ([] : List (α × Value)) ∧ w.grownBy w' (some b) ∧ w'.heap.size = w.heap.size := by
 obtain ⟨es, clock, hb, hm, hnb, hlt, hn⟩ := h
 exact ⟨setBlock w b (.map #[] clock), by simp [Builtin.clear_, run_underlying ht, MapKept.run_getObj_map hb, MapKept.run_setObj_map _ hb, setBlock],
   ⟨_, _, heap_setBlock_same hb _, by simp, by simp, by simp, by simp⟩, grownBy_setBlock ⟨_, _, hb⟩ _, by simp [setBlock]⟩
/-- 'len(m)'. -/
theorem MapIs.len (h : MapIs enc w b m) {t e : TypeId} (ht : P.underlying t = some (.map k e)) (ty : TypeId) : (Builtin.len_ #[t] ty #[.map (some b)]).run P w = .ok (.int .i64 m.length) w := by
 obtain ⟨es, clock, hb, hm, _⟩ := h
 have : es.size = m.length := by have := congrArg List.length hm; simpa using this
 simp [Builtin.len_, run_underlying ht, MapKept.run_getObj_map hb, goInt, this]
/-! ### ranging over a map that does not turn meanwhile -/
/-- Block r is an iterator over the map in block b, which holds m; 'left' is still to come. -/
def IterIs (enc : α → Value) (w : World) (r b : Nat) (m left : List (α × Value)) : Prop :=
 ∃ es clock seen, w.heap[b]? = some (.map es clock) ∧ es.toList.map (fun e => (e.key, e.val)) = m.map (fun p => (enc p.1, p.2)) ∧
  (es.toList.map (·.born)).Nodup ∧ (∀ e ∈ es.toList, e.born < clock) ∧ (m.map (·.1)).Nodup ∧ w.heap[r]? = some (.mapIter (some b) clock seen clock) ∧
  (es.toList.filter (fun e => !seen.contains e.born)).map (fun e => (e.key, e.val)) = left.map (fun p => (enc p.1, p.2))
variable {r : Nat} {left : List (α × Value)}
theorem IterIs.isMap (h : IterIs enc w r b m left) : MapIs enc w b m := by
 obtain ⟨es, clock, seen, h1, h2, h3, h4, h5, _⟩ := h
 exact ⟨es, clock, h1, h2, h3, h4, h5⟩
theorem IterIs.lt (h : IterIs enc w r b m left) : r < w.heap.size := by
 obtain ⟨es, clock, seen, h1, h2, h3, h4, h5, h6, _⟩ := h
 exact lt_of_some h6
theorem IterIs.obj (h : IterIs enc w r b m left) : ∃ a b c d, w.heap[r]? = some (.mapIter a b c d) := by
 obtain ⟨es, clock, seen, h1, h2, h3, h4, h5, h6, _⟩ := h
 exact ⟨_, _, _, _, h6⟩
theorem IterIs.keep {w' : World} (h : IterIs enc w r b m left) (hr : w'.heap[r]? = w.heap[r]?) (hb : w'.heap[b]? = w.heap[b]?) : IterIs enc w' r b m left := by
 obtain ⟨es, clock, seen, h1, h2, h3, h4, h5, h6, h7⟩ := h
 exact ⟨es, clock, seen, hb.trans h1, h2, h3, h4, h5, hr.trans h6, h7⟩
theorem IterIs.ext {w' : World} (h : IterIs enc w r b m left) (hb : Below w.heap.size w w') : IterIs enc w' r b m left := h.keep (hb.block _ h.lt) (hb.block _ h.isMap.lt)
theorem IterIs.setCell (h : IterIs enc w r b m left) (p : Addr) (v : Value) : IterIs enc (w.setCell p v) r b m left := by
 obtain ⟨es, clock, seen, h1, h2, h3, h4, h5, h6, h7⟩ := h
 refine ⟨es, clock, seen, ?_, h2, h3, h4, h5, ?_, h7⟩
 · simp only [World.setCell, Array.getElem?_modify, h1]; split <;> simp
 · simp only [World.setCell, Array.getElem?_modify, h6]; split <;> simp
/-- 'range m'. -/
theorem MapIs.range (h : MapIs enc w b m) {t e : TypeId} (ht : P.underlying t = some (.map k e)) :
 ∃ o, (Instr.range t (.map (some b))).run P w = .ok (.pointer (some ⟨w.heap.size, 0, none⟩)) (w.alloc o) ∧ IterIs enc (w.alloc o) w.heap.size b m m ∧ ∃ x y z u, o = .mapIter x y z u := by
 obtain ⟨es, clock, hb, hm, hnb, hlt, hn⟩ := h
 have hblt := lt_of_some hb
 refine ⟨.mapIter (some b) clock #[] clock, ?_, ⟨es, clock, #[], (Below.heap_alloc w _ b hblt).trans hb, hm, hnb, hlt, hn, heap_alloc_new w _, ?_⟩, ⟨_, _, _, _, rfl⟩⟩
 · simp [Instr.range, run_underlying ht, MapKept.run_getObj_map hb, newObj, Sem.run]
 · rw [List.filter_eq_self.2 (by simp)]; exact hm
theorem filter_push_perm (es : List MapEntry) (seen : Array Nat) (e : MapEntry) :
 es.filter (fun x => !(seen.push e.born).contains x.born) = (es.filter (fun x => !seen.contains x.born)).filter (fun x => decide (x.born ≠ e.born)) := by
 rw [List.filter_filter]
 refine List.filter_congr fun x _ => ?_
 simp only [Array.contains_push, Bool.not_or]
 by_cases hx : x.born = e.born <;> simp [hx]
/-- The step: nothing is left, or one that is left has come. -/
theorem IterIs.next (h : IterIs enc w r b m left) (ty : TypeId) :
 (left = [] ∧ (Instr.next (.pointer (some ⟨r, 0, none⟩)) false ty).run P w = .ok (.tuple #[.bool false]) w) ∨
 ∃ p l1 l2 w', left = l1 ++ p :: l2 ∧ (Instr.next (.pointer (some ⟨r, 0, none⟩)) false ty).run P w = .ok (.tuple #[.bool true, enc p.1, p.2]) w' ∧ IterIs enc w' r b m (l1 ++ l2) ∧
  w.grownBy w' (some r) ∧ w'.heap.size = w.heap.size ∧ (Instr.entry (.pointer (some ⟨r, 0, none⟩))).run P w' = .ok (.tuple #[enc p.1, p.2]) w' := by
 obtain ⟨es, clock, seen, h1, h2, h3, h4, h5, h6, h7⟩ := h
 rcases run_next_at (P := P) w ty r b clock clock seen es clock h6 h1 h4 (Nat.le_refl _) with ⟨h0, hrun⟩ | ⟨e, he, w1, hw1, hrun⟩
 · refine .inl ⟨?_, hrun⟩
   have hl : (es.toList.filter (fun e => !seen.contains e.born)) = [] := by
    have : (leftOf es seen).toList = [] := by simpa using h0
    simpa [leftOf] using this
   rw [hl] at h7
   simpa using h7.symm
 · right
   have hel : e ∈ es.toList.filter (fun e => !seen.contains e.born) := by simpa [leftOf] using he
   have hees : e ∈ es.toList := (List.mem_filter.1 hel).1
   obtain ⟨j, hj⟩ := List.mem_iff_getElem?.1 hel
   have hjl : ∃ p, left[j]? = some p ∧ e.key = enc p.1 ∧ e.val = p.2 := by
    have := congrArg (fun l => l[j]?) h7
    simp only [List.getElem?_map, hj, Option.map_some] at this
    cases hl : left[j]? with
    | none => rw [hl] at this; cases this
    | some p =>
      rw [hl] at this
      simp only [Option.map_some, Option.some.injEq, Prod.mk.injEq] at this
      exact ⟨p, rfl, this.1, this.2⟩
   obtain ⟨p, hp, hk, hv⟩ := hjl
   have hjlt := (List.getElem?_eq_some_iff.1 hp).1
   have hsplit : left = left.take j ++ p :: left.drop (j + 1) := by
    have := (List.getElem?_eq_some_iff.1 hp).2
    rw [← this, List.getElem_cons_drop hjlt, List.take_append_drop]
   have hr1 : w1.heap[r]? = some (.mapIter (some b) clock seen clock) := by rcases hw1 with rfl | rfl <;> exact h6
   have hb1 : w1.heap[b]? = some (.map es clock) := by rcases hw1 with rfl | rfl <;> exact h1
   have hne : b ≠ r := by rintro rfl; rw [h1] at h6; cases h6
   have hrlt := lt_of_some hr1
   have hset_r : (setBlock w1 r (.mapIter (some b) clock (seen.push e.born) clock)).heap[r]? = some (.mapIter (some b) clock (seen.push e.born) clock) := by simp [setBlock, hrlt]
   have hset_b : (setBlock w1 r (.mapIter (some b) clock (seen.push e.born) clock)).heap[b]? = some (.map es clock) := by
    simp only [setBlock, Array.getElem?_setIfInBounds]
    rw [if_neg (fun e => hne e.symm)]; exact hb1
   have hsz : (setBlock w1 r (.mapIter (some b) clock (seen.push e.born) clock)).heap.size = w.heap.size := by rcases hw1 with rfl | rfl <;> simp [setBlock]
   have hnl : ((es.toList.filter (fun e => !seen.contains e.born)).map (·.born)).Nodup := List.Nodup.sublist (List.Sublist.map _ (List.filter_sublist ..)) h3
   refine ⟨p, left.take j, left.drop (j + 1), _, hsplit, ?_, ⟨es, clock, seen.push e.born, hset_b, h2, h3, h4, h5, hset_r, ?_⟩, ?_, hsz, ?_⟩
   · rw [hrun, hk, hv]
   · rw [filter_push_perm]
     generalize (es.toList.filter (fun e => !seen.contains e.born)) = L at hj h7 hnl
     have hL : L.filter (fun x => decide (x.born ≠ e.born)) = L.eraseIdx j := by
      clear h7 hel hjlt hsplit hp
      induction L generalizing j with
      | nil => simp at hj
      | cons q L ih =>
        simp only [List.map_cons, List.nodup_cons] at hnl
        cases j with
        | zero =>
          simp only [List.getElem?_cons_zero, Option.some.injEq] at hj
          subst hj
          simp only [List.filter_cons, ne_eq, not_true_eq_false, decide_false, Bool.false_eq_true, if_false, List.eraseIdx_zero, List.tail_cons]
          refine List.filter_eq_self.2 fun x hx => ?_
          simp only [decide_not, Bool.not_eq_true', decide_eq_false_iff_not]
          intro hxe
          exact hnl.1 (hxe ▸ List.mem_map_of_mem hx)
        | succ j =>
          simp only [List.getElem?_cons_succ] at hj
          have hqe : q.born ≠ e.born := by
           intro hq
           exact hnl.1 (hq ▸ List.mem_map_of_mem (List.mem_of_getElem? hj))
          simp only [List.filter_cons, ne_eq, hqe, not_false_eq_true, decide_true, if_true, List.eraseIdx_cons_succ]
          rw [← ih j hj hnl.2]
     rw [hL, ChangeMaps.map_eraseIdx, h7, ← ChangeMaps.map_eraseIdx, List.eraseIdx_eq_take_drop_succ]
   · refine ⟨?_, ?_, ?_, Nat.le_of_eq hsz.symm, fun i _ hi => ?_⟩
     · rcases hw1 with rfl | rfl <;> rfl
     · rcases hw1 with rfl | rfl <;> rfl
     · rcases hw1 with rfl | rfl <;> rfl
     · simp only [setBlock, Array.getElem?_setIfInBounds]
       rw [if_neg (fun e => hi (by rw [e]))]
       rcases hw1 with rfl | rfl <;> rfl
   · have := run_entry_at (P := P) _ r b clock seen es clock e hset_r hset_b hees h3
     rw [this, hk, hv]
end
section
variable {P : Program} {k : TypeId} {α β : Type} {enc : α → Value} (w : World) {ops : Array Oper} {rest : List Oper} {o : Oper} {a : Act} {Q : Exit → Act → World → Prop}
/-- 'range m', for the walk. -/
theorem wpList_range_is (hg : o.guard = none) (m : Operand) (t : TypeId) (hop : o.op = Op.range t m) (e : TypeId) (ht : P.underlying t = some (.map k e)) (b : Nat) (l : List (α × Value))
 (hm : a.eval m = .map (some b)) (h : MapIs enc w b l)
 (hK : ∀ ob, IterIs enc (w.alloc ob) w.heap.size b l l → wpList P ops Q rest (a.put o.dst (.pointer (some ⟨w.heap.size, 0, none⟩))) (w.alloc ob)) :
 wpList P ops Q (o :: rest) a w := by
 refine wpList_plain hg fun K' hK' => ?_
 obtain ⟨ob, hrun, hi, _⟩ := h.range ht
 unfold Oper.wp
 simp [execOp, hop, hm, hrun, Result.andThen]
 exact hK' _ _ (hK ob hi)
/-- The step, for the walk: the list is given as what 'fk' and 'fv' make of things of one's own. -/
theorem wpList_next_is (hg : o.guard = none) (it : Operand) (hop : o.op = Op.next it false) (fk : β → α) (fv : β → Value) (b r : Nat) (m : List (α × Value)) (left : List β)
 (hit : a.eval it = .pointer (some ⟨r, 0, none⟩)) (h : IterIs enc w r b m (left.map fun q => (fk q, fv q)))
 (hDone : left = [] → wpList P ops Q rest (a.put o.dst (.tuple #[.bool false])) w)
 (hMore : ∀ (q : β) (l1 l2 : List β) (w' : World), left = l1 ++ q :: l2 → IterIs enc w' r b m ((l1 ++ l2).map fun q => (fk q, fv q)) → w.grownBy w' (some r) → w'.heap.size = w.heap.size →
   (Instr.entry (.pointer (some ⟨r, 0, none⟩))).run P w' = .ok (.tuple #[enc (fk q), fv q]) w' → wpList P ops Q rest (a.put o.dst (.tuple #[.bool true, enc (fk q), fv q])) w') :
 wpList P ops Q (o :: rest) a w := by
 refine wpList_plain hg fun K' hK' => ?_
 unfold Oper.wp
 rcases h.next (P := P) o.type with ⟨h0, hrun⟩ | ⟨p, l1, l2, w', hl, hrun, hi, hgr, hsz, hen⟩
 · simp [execOp, hop, hit, hrun, Result.andThen]
   exact hK' _ _ (hDone (by simpa using h0))
 · obtain ⟨m1, m2, rfl, h1, h2⟩ := List.map_eq_append_iff.1 hl
   obtain ⟨q, m3, rfl, hq, h3⟩ := List.map_eq_cons_iff.1 h2
   subst hq h1 h3
   simp [execOp, hop, hit, hrun, Result.andThen]
   exact hK' _ _ (hMore q m1 m3 w' rfl (by rw [List.map_append]; exact hi) hgr hsz hen)
/-- .. in a region that draws. -/
theorem step_store_is [DecidableEq α] {K : Act → World → Prop} {E : Prop} (hg : o.guard = none) (m x v : Operand) (t : TypeId) (hop : o.op = Op.mapUpdate t m x v) (C : KeyC P k enc) (e : TypeId) (ht : P.underlying t = some (.map k e)) (b : Nat) (l : List (α × Value))
 (hm : a.eval m = .map (some b)) (h : MapIs enc w b l) (key : α) (val : Value) (hx : a.eval x = enc key) (hv : a.eval v = val)
 (hK : ∀ w', MapIs enc w' b (mset l key val) → w.grownBy w' (some b) → w'.heap.size = w.heap.size → K (a.put o.dst undef) w') :
 if Region.wanted o (yielded ops a.tmps) = true then Oper.wp P o a w K Q else E := by
 rw [if_pos (by simp [Region.wanted, hg])]
 obtain ⟨w', hrun, h1, h2, h3⟩ := h.store C ht key val
 unfold Oper.wp
 simp [execOp, hop, hm, hx, hv, hrun, Result.andThen]
 exact hK w' h1 h2 h3
end
end Go.Proofs.YtapjhliglmohgaaGreatDoor
/- The data of this seat: names (api.ID), rows (api.Row), as values and as cells; names as keys of maps. -/
namespace Go.Proofs.YtapjhliglmohgaaGreatDoor
open Go.RowKit
structure Id3 where
 b : Int
 s : Int
 p : Int
 deriving DecidableEq
structure Rw where
 k : Int
 v : Int
 deriving DecidableEq
abbrev idV (x : Id3) : Value := .agg #[.int .i64 x.b, .int .i64 x.s, .int .i64 x.p]
def idC (x : Id3) : List Value := [.int .i64 x.b, .int .i64 x.s, .int .i64 x.p]
def rwC (x : Rw) : List Value := [.int .i64 x.k, .int .i64 x.v]
def idsC (l : List Id3) : List Value := l.flatMap idC
theorem idsC_len (l : List Id3) : (idsC l).length = l.length * 3 := by
 induction l with
 | nil => rfl
 | cons x l ih => simp only [idsC, List.flatMap_cons, List.length_append, List.length_cons] at ih ⊢; rw [ih]; simp [idC]; omega
theorem flat_at {α : Type} (f : α → List Value) (z : Nat) (hz : ∀ x, (f x).length = z) : ∀ (l : List α) (i : Nat) (x : α), l[i]? = some x → ∀ j, j < z → (l.flatMap f)[i * z + j]? = (f x)[j]?
 | [], _, _, h, _, _ => by simp at h
 | y :: l, 0, x, h, j, hj => by
   simp only [List.getElem?_cons_zero, Option.some.injEq] at h
   subst h
   rw [List.flatMap_cons, List.getElem?_append_left (by rw [hz]; omega)]
   simp
 | y :: l, i + 1, x, h, j, hj => by
   simp only [List.getElem?_cons_succ] at h
   rw [List.flatMap_cons, List.getElem?_append_right (by rw [hz, Nat.add_mul]; omega), hz]
   have := flat_at f z hz l i x h j hj
   rw [← this]
   congr 1
   rw [Nat.add_mul]; omega
theorem idsC_at {l : List Id3} {i : Nat} {x : Id3} (h : l[i]? = some x) {j : Nat} (hj : j < 3) : (idsC l)[i * 3 + j]? = (idC x)[j]? := flat_at idC 3 (fun _ => rfl) l i x h j hj
theorem idV_inj (x y : Id3) (h : idV x = idV y) : x = y := by
 cases x; cases y
 simp [idV] at h
 simpa using h
theorem eqF_cons {P : Program} {w : World} {f : Field} {fs : List Field} {xs ys : Array Value} {a b : Value} {d : Nat} {r : Bool} (hn : f.name ≠ "_") (ha : (part f.type xs f.offset).run P w = .ok a w) (hb : (part f.type ys f.offset).run P w = .ok b w)
 (he : (Op.equalIn d f.type a b).run P w = .ok r w) : (Op.eqFields d xs ys (f :: fs)).run P w = if r then (Op.eqFields d xs ys fs).run P w else .ok false w := by
 simp only [Op.eqFields, ne_eq, hn, not_false_eq_true, if_true, Sem.run_bind, ha, hb, he, Result.andThen_ok]
 cases r <;> simp
theorem id_equalIn (d : Nat) (x y : Id3) (w : World) : (Op.equalIn (d + 2) 35 (.agg #[.int .i64 x.b, .int .i64 x.s, .int .i64 x.p]) (.agg #[.int .i64 y.b, .int .i64 y.s, .int .i64 y.p])).run Tryz.prog w = .ok (decide (x = y)) w := by
 have hf : (Tryz.prog.fieldsOf 35).toList = [⟨"Batch", 3, 0, false, "", "", 0⟩, ⟨"Set", 3, 1, false, "", "", 8⟩, ⟨"Part", 3, 2, false, "", "", 16⟩] := by kernel_rfl
 rw [run_equalIn_agg w (d + 1) 35 _ _ (by kernel_rfl) (by kernel_rfl), hf]
 have hi : Tryz.prog.underlying 3 = some (.int .i64) := by kernel_rfl
 have he : ∀ a b : Int, (Op.equalIn (d + 1) 3 (.int .i64 a) (.int .i64 b)).run Tryz.prog w = .ok (a == b) w := fun a b => run_equalIn_int w d _ _ _ a b hi
 have e0 : ∀ fs, (Op.eqFields (d + 1) #[.int .i64 x.b, .int .i64 x.s, .int .i64 x.p] #[.int .i64 y.b, .int .i64 y.s, .int .i64 y.p] (⟨"Batch", 3, 0, false, "", "", 0⟩ :: fs)).run Tryz.prog w = if (x.b == y.b) then (Op.eqFields (d + 1) #[.int .i64 x.b, .int .i64 x.s, .int .i64 x.p] #[.int .i64 y.b, .int .i64 y.s, .int .i64 y.p] fs).run Tryz.prog w else .ok false w := fun fs => eqF_cons (by decide) (by kernel_rfl) (by kernel_rfl) (he _ _)
 have e1 : ∀ fs, (Op.eqFields (d + 1) #[.int .i64 x.b, .int .i64 x.s, .int .i64 x.p] #[.int .i64 y.b, .int .i64 y.s, .int .i64 y.p] (⟨"Set", 3, 1, false, "", "", 8⟩ :: fs)).run Tryz.prog w = if (x.s == y.s) then (Op.eqFields (d + 1) #[.int .i64 x.b, .int .i64 x.s, .int .i64 x.p] #[.int .i64 y.b, .int .i64 y.s, .int .i64 y.p] fs).run Tryz.prog w else .ok false w := fun fs => eqF_cons (by decide) (by kernel_rfl) (by kernel_rfl) (he _ _)
 have e2 : ∀ fs, (Op.eqFields (d + 1) #[.int .i64 x.b, .int .i64 x.s, .int .i64 x.p] #[.int .i64 y.b, .int .i64 y.s, .int .i64 y.p] (⟨"Part", 3, 2, false, "", "", 16⟩ :: fs)).run Tryz.prog w = if (x.p == y.p) then (Op.eqFields (d + 1) #[.int .i64 x.b, .int .i64 x.s, .int .i64 x.p] #[.int .i64 y.b, .int .i64 y.s, .int .i64 y.p] fs).run Tryz.prog w else .ok false w := fun fs => eqF_cons (by decide) (by kernel_rfl) (by kernel_rfl) (he _ _)
 rw [e0, e1, e2]
 simp only [Op.eqFields, Sem.run_pure]
 have hxy : x = y ↔ x.b = y.b ∧ x.s = y.s ∧ x.p = y.p := by cases x; cases y; simp
 by_cases h1 : x.b = y.b <;> by_cases h2 : x.s = y.s <;> by_cases h3 : x.p = y.p <;> simp [h1, h2, h3, hxy]
/-- For the walk: two names, two rows, compared cell by cell. -/
theorem id_eqI (d : Nat) (a b c a' b' c' : Int) (w : World) : (Op.equalIn (d + 2) 35 (.agg #[.int .i64 a, .int .i64 b, .int .i64 c]) (.agg #[.int .i64 a', .int .i64 b', .int .i64 c'])).run Tryz.prog w = .ok (decide ((⟨a, b, c⟩ : Id3) = ⟨a', b', c'⟩)) w := id_equalIn d ⟨a, b, c⟩ ⟨a', b', c'⟩ w
theorem idKeyS : KeyS Tryz.prog 35 idV where
 inj := idV_inj
 check em x w := by kernel_rfl
 eq x y w := ⟨decide (x = y), id_equalIn 9998 x y w, by simp⟩
 now x y es e i h := by
  have hu : Tryz.prog.underlying 35 = some (.struct (Tryz.prog.fieldsOf 35)) := by kernel_rfl
  simp [hu, Instr.findNow, h, idV, Instr.sameNow]
 und := ⟨_, (by kernel_rfl : Tryz.prog.underlying 35 = some (.struct (Tryz.prog.fieldsOf 35)))⟩
 stays x w := by
  have : Instr.sameBits 10000 (idV x) (idV x) = true := by simp [Instr.sameBits]
  simp [Instr.keyThatStays, this]
theorem idKey : KeyC Tryz.prog 35 idV := idKeyS.c
/-! ### an element of a slice of names, of rows, in the walk's own spelling -/
theorem add_succ (a : Addr) (n j : Nat) : a.add (n + (j + 1)) = ⟨(a.add n).block, (a.add n).off + (j + 1), none⟩ := by
 rw [← add_of_add]
 generalize a.add n = c
 unfold Addr.add
 simp
theorem Rd.ids {w : World} {B : Nat} {e : TypeId} {A : Option Addr} {n : Nat} {l : List Id3} (h : Rd w B e 3 A n (idsC l)) {i : Nat} {y : Id3} (hy : l[i]? = some y) (hn : i < n) :
 ∃ ad, A = some ad ∧ w.cell? (ad.add (i * 3)) = some (.int .i64 y.b) ∧ w.cell? ⟨(ad.add (i * 3)).block, (ad.add (i * 3)).off + 1, none⟩ = some (.int .i64 y.s) ∧ w.cell? ⟨(ad.add (i * 3)).block, (ad.add (i * 3)).off + 2, none⟩ = some (.int .i64 y.p) := by
 obtain ⟨ad, hA, hc⟩ := h.cell (by omega)
 refine ⟨ad, hA, ?_, ?_, ?_⟩
 · exact hc (i * 3) _ (by have := idsC_at hy (j := 0) (by omega); simpa [idC] using this)
 · rw [← add_succ ad (i * 3) 0]; exact hc (i * 3 + 1) _ (by rw [idsC_at hy (by omega)]; rfl)
 · rw [← add_succ ad (i * 3) 1]; exact hc (i * 3 + 2) _ (by rw [idsC_at hy (by omega)]; rfl)
end Go.Proofs.YtapjhliglmohgaaGreatDoor
