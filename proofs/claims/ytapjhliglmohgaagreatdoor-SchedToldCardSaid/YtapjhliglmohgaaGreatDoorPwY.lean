/- SortT, SortH, Open, Lift, Args, ArgsS: laid together. -/
import Derived.Test.YtapjhliglmohgaaGreatDoorProg
import Derived.Test.YtapjhliglmohgaaGreatDoorPwO
import Derived.Test.YtapjhliglmohgaaGreatDoorPwA
import Derived.Test.YtapjhliglmohgaaGreatDoorRows
import Derived.Test.YtapjhliglmohgaaGreatDoorPwB
import Derived.Test.YtapjhliglmohgaaGreatDoorPwI
import Derived.Test.YtapjhliglmohgaaGreatDoorPwW
import Derived.Shelf.SlSortCmp.WholeK
import Derived.Shelf.SlSortCmp.NoneTotal
import Derived.ProofKit
import Derived.Deep.Slices
import Derived.WideShapes
import Derived.ChangeSame
import Derived.ChangeVars
import Derived.JoinedOf
import Derived.LaidLaws
import Derived.LaidHandle
import Derived.Stop.Joined
import Derived.ChangeOld
/- slices.SortFunc at this seat: the layout of its functions and types, written by the kit tool lay-plain.mjs. -/
namespace Go.Proofs
open Go.Shelf
def Tryz.sortId_ren : Go.Shelf.Ren := ⟨fun | 6 => 118 | 15 => 158 | 14 => 157 | 28 => 202 | 29 => 203 | 20 => 194 | 21 => 195 | 22 => 196 | 23 => 197 | 24 => 198 | 25 => 199 | 26 => 200 | 27 => 201 | 46 => 220 | 47 => 221 | 48 => 222 | 49 => 223 | 50 => 224 | 57 => 233 | n => n, fun | 22 => 33 | 24 => 35 | 25 => 185 | 3 => 3 | 39 => 215 | 0 => 0 | 53 => 271 | 55 => 273 | 4 => 4 | 46 => 265 | 45 => 264 | 50 => 234 | 5 => 5 | 9 => 9 | 66 => 297 | 70 => 301 | 76 => 311 | 77 => 61 | n => n, fun | n => n⟩
theorem Tryz.sortId : Go.Proofs.SlLaysF0.n6 Tryz.prog Tryz.sortId_ren := {
 mixed := by kernel_rfl
 f6 := ⟨Tryz.f118.name, by decide, Tryz.func118.trans (congrArg some (by kernel_rfl))⟩
 f14 := ⟨Tryz.f157.name, by decide, Tryz.func157.trans (congrArg some (by kernel_rfl))⟩
 f15 := Tryz.func158.trans (congrArg some (by kernel_rfl))
 f20 := ⟨Tryz.f194.name, by decide, Tryz.func194.trans (congrArg some (by kernel_rfl))⟩
 f21 := ⟨Tryz.f195.name, by decide, Tryz.func195.trans (congrArg some (by kernel_rfl))⟩
 f22 := ⟨Tryz.f196.name, by decide, Tryz.func196.trans (congrArg some (by kernel_rfl))⟩
 f23 := ⟨Tryz.f197.name, by decide, Tryz.func197.trans (congrArg some (by kernel_rfl))⟩
 f24 := ⟨Tryz.f198.name, by decide, Tryz.func198.trans (congrArg some (by kernel_rfl))⟩
 f25 := ⟨Tryz.f199.name, by decide, Tryz.func199.trans (congrArg some (by kernel_rfl))⟩
 f26 := ⟨Tryz.f200.name, by decide, Tryz.func200.trans (congrArg some (by kernel_rfl))⟩
 f27 := ⟨Tryz.f201.name, by decide, Tryz.func201.trans (congrArg some (by kernel_rfl))⟩
 f28 := Tryz.func202.trans (congrArg some (by kernel_rfl))
 f29 := Tryz.func203.trans (congrArg some (by kernel_rfl))
 f46 := ⟨Tryz.f220.name, by decide, Tryz.func220.trans (congrArg some (by kernel_rfl))⟩
 f47 := Tryz.func221.trans (congrArg some (by kernel_rfl))
 f48 := Tryz.func222.trans (congrArg some (by kernel_rfl))
 f49 := ⟨Tryz.f223.name, by decide, Tryz.func223.trans (congrArg some (by kernel_rfl))⟩
 f50 := ⟨Tryz.f224.name, by decide, Tryz.func224.trans (congrArg some (by kernel_rfl))⟩
 f57 := ⟨Tryz.f233.name, by decide, Tryz.func233.trans (congrArg some (by kernel_rfl))⟩
 t0 := Tryz.underlying0
 a0 := Tryz.isAgg0
 z0 := Tryz.sizeOf0
 v0 := Tryz.zeroValue0
 t3 := Tryz.underlying3
 a3 := Tryz.isAgg3
 z3 := Tryz.sizeOf3
 v3 := Tryz.zeroValue3
 t4 := Tryz.underlying4
 a4 := Tryz.isAgg4
 z4 := Tryz.sizeOf4
 v4 := Tryz.zeroValue4
 t5 := Tryz.underlying5
 a5 := Tryz.isAgg5
 z5 := Tryz.sizeOf5
 v5 := Tryz.zeroValue5
 t9 := Tryz.underlying9
 a9 := Tryz.isAgg9
 z9 := Tryz.sizeOf9
 v9 := Tryz.zeroValue9
 t22 := Tryz.underlying33
 a22 := Tryz.isAgg33
 z22 := Tryz.sizeOf33
 v22 := Tryz.zeroValue33
 t25 := Tryz.underlying185
 a25 := Tryz.isAgg185
 z25 := Tryz.sizeOf185
 v25 := Tryz.zeroValue185
 t39 := Tryz.underlying215
 a39 := Tryz.isAgg215
 z39 := Tryz.sizeOf215
 v39 := Tryz.zeroValue215
 t45 := Tryz.underlying264
 a45 := Tryz.isAgg264
 z45 := Tryz.sizeOf264
 v45 := Tryz.zeroValue264
 t46 := Tryz.underlying265
 a46 := Tryz.isAgg265
 z46 := Tryz.sizeOf265
 v46 := Tryz.zeroValue265
 t50 := Tryz.underlying234
 a50 := Tryz.isAgg234
 z50 := Tryz.sizeOf234
 v50 := Tryz.zeroValue234
 t53 := Tryz.underlying271
 a53 := Tryz.isAgg271
 z53 := Tryz.sizeOf271
 v53 := Tryz.zeroValue271
 t55 := Tryz.underlying273
 a55 := Tryz.isAgg273
 z55 := Tryz.sizeOf273
 v55 := Tryz.zeroValue273
 t66 := Tryz.underlying297
 a66 := Tryz.isAgg297
 z66 := Tryz.sizeOf297
 v66 := Tryz.zeroValue297
 t70 := Tryz.underlying301
 a70 := Tryz.isAgg301
 z70 := Tryz.sizeOf301
 v70 := Tryz.zeroValue301
 t76 := Tryz.underlying311
 a76 := Tryz.isAgg311
 z76 := Tryz.sizeOf311
 v76 := Tryz.zeroValue311
 t77 := Tryz.underlying61
 a77 := Tryz.isAgg61
 z77 := Tryz.sizeOf61
 v77 := Tryz.zeroValue61 }
end Go.Proofs
/- The sort of names does what is asked of it: by the library's law of slices.SortFunc. -/
namespace Go.Proofs.YtapjhliglmohgaaGreatDoor
open Go.RowKit Go.Sort Go.Shelf
instance : Inhabited Id3 := ⟨⟨0, 0, 0⟩⟩
def lessH (x y : Id3) : Int := if bef x y then -1 else 1
theorem ltOf_lessH (x y : Id3) : ltOf lessH x y = bef x y := by
 unfold ltOf lessH
 cases bef x y <;> rfl
theorem lessH_swo : SWO (ltOf lessH) where
 irrefl x := by rw [ltOf_lessH, ← Bool.not_eq_true, bef_iff]; omega
 trans x y z h1 h2 := by rw [ltOf_lessH, bef_iff] at *; omega
 ntrans x y z h1 h2 := by rw [ltOf_lessH, ← Bool.not_eq_true, bef_iff] at *; omega
theorem flatK_id (l : List Id3) : (flatK idC 3 l.toArray).toList = idsC l := by
 apply List.ext_getElem?
 intro t
 have hlen : (idsC l).length = l.length * 3 := flat_len id_app l
 by_cases ht : t < l.length * 3
 · have hi : t / 3 < l.length := by omega
   have hy : l[t / 3]? = some l[t / 3] := List.getElem?_eq_getElem hi
   have h1 := flat_at idC 3 (fun _ => rfl) l (t / 3) _ hy (t % 3) (Nat.mod_lt _ (by omega))
   rw [show t / 3 * 3 + t % 3 = t by omega] at h1
   have h2 : (flatK idC 3 l.toArray).toList[t]? = some ((flatK idC 3 l.toArray)[t]!) := by
    rw [Array.getElem?_toList, getElem!_pos _ t (by simp; exact ht), Array.getElem?_eq_getElem]
   rw [h2, get_flatK _ _ _ _ (by simpa using ht)]
   show _ = (l.flatMap idC)[t]?
   rw [h1]
   have h3 : l.toArray[t / 3]! = l[t / 3] := by rw [getElem!_pos _ _ (by simpa using hi)]; simp
   rw [h3]
   have h4 : t % 3 < (idC l[t / 3]).length := by show t % 3 < 3; omega
   rw [List.getElem?_eq_getElem h4, getElem!_pos (idC l[t / 3]) (t % 3) h4]
 · rw [List.getElem?_eq_none (l := (flatK idC 3 l.toArray).toList) (by simp; omega), List.getElem?_eq_none (l := idsC l) (by rw [hlen]; omega)]
theorem sortH_c : SortH := by
 intro W base A c l hown hbase hlen
 rcases List.eq_nil_or_concat l with rfl | hne
 · have h := AnyF.slices_SortFunc_none Tryz.sortId A c (.func (.func 119) #[] #[]) W
   refine Calls.mono (show Calls Tryz.prog 118 _ _ _ from h) ?_
   rintro e w' ⟨rfl, rfl⟩
   exact ⟨rfl, [], List.Perm.refl _, List.Pairwise.nil, hown, ⟨rfl, rfl, rfl, Nat.le_refl _, fun _ _ _ => rfl⟩⟩
 · have hpos : 0 < l.length := by obtain ⟨_, _, rfl⟩ := hne; simp
   have hown' := hown
   rcases hown.2 with ⟨_, h0⟩ | ⟨g, cap, cur, hv, hb, hgg, hnc, hcm, hcs, htake⟩
   · omega
   · injection hv with hA _ hc
     subst hA hc
     have eg : ∀ args w, (callFunc 119 args).run Tryz.prog w = .ok (.enter 119 args) w := enters_of Tryz.func119 (by kernel_rfl) rfl
     have hH : HoldsK idC 3 W g 0 l.toArray := by
      intro j hj
      have hj' : j < l.length * 3 := by simpa using hj
      rw [Nat.zero_add]
      refine ⟨?_, hown'.frozenAt j⟩
      rw [hown'.cellAt j hj', ← flatK_id, Array.getElem?_toList, Array.getElem?_eq_getElem hj, getElem!_pos _ j hj]
      rfl
     have hcon := AnyQ.slices_SortFunc Tryz.sortId 3 Tryz.isAgg35 Tryz.sizeOf35 idC (fun _ => rfl) id_app.one lessH lessH_swo 119 #[] g 0 c l.toArray W eg (fun _ _ _ _ x y => lessH_c x y _) hH (lt_of_some hgg) (by simp; omega)
     have hsz : l.toArray.size = l.length := by simp
     rw [hsz] at hcon
     refine Calls.mono (show Calls Tryz.prog 118 _ _ _ from hcon) ?_
     rintro e w' ⟨rfl, d', n, os, ⟨hd1, _, hd3⟩, hsrt, rfl⟩
     have hdl : d'.toList.length = l.length := by rw [Array.length_toList, hd1]; simp
     have hF : (flatK idC 3 d').toList = idsC d'.toList := by have := flatK_id d'.toList; simpa using this
     have hFs : (flatK idC 3 d').size = l.length * 3 := by rw [size_flatK, hd1]; simp
     have hheap : (sortWorldK idC 3 W g 0 n d' os).heap = W.heap.modify g (onCells (putCells id 0 (flatK idC 3 d'))) ++ os := rfl
     refine ⟨rfl, d'.toList, ?_, ?_, ?_, ⟨rfl, rfl, rfl, ?_, ?_⟩⟩
     · have h1 : (d'.extract 0 l.length).toList = d'.toList := by rw [← hdl, Array.length_toList]; simp
       have h2 : (l.toArray.extract 0 l.length).toList = l := by simp
       rw [h1, h2] at hd3
       exact hd3
     · rw [List.pairwise_iff_getElem]
       intro i j hi hj hij
       have h1 := hsrt i j (Nat.zero_le _) hij (by rw [hdl] at hj; exact hj)
       rw [ltOf_lessH, getElem!_pos _ _ (by simpa using hj), getElem!_pos _ _ (by simpa using hi)] at h1
       simpa using h1
     · rw [hdl]
       refine ⟨by rw [← hdl]; exact flat_len id_app _, .inr ⟨g, c, putCells id 0 (flatK idC 3 d') cur, rfl, hb, ?_, hnc, hcm, by simp [putCells, hcs], ?_⟩⟩
       · rw [hheap, Array.getElem?_append_left (by simp; exact lt_of_some hgg), Array.getElem?_modify, if_pos rfl, hgg]
         rfl
       · apply List.ext_getElem?
         intro t
         rw [List.getElem?_take, ← hF]
         by_cases ht : t < l.length * 3
         · have htc : t < cur.size := by rw [hcs]; have := Nat.mul_le_mul_right 3 hnc; omega
           rw [if_pos ht, Array.getElem?_toList, Array.getElem?_toList]
           unfold putCells
           rw [Array.getElem?_mapIdx, Array.getElem?_eq_getElem htc, Array.getElem?_eq_getElem (by rw [hFs]; exact ht)]
           simp [hFs, ht]
         · rw [if_neg ht, List.getElem?_eq_none (by rw [Array.length_toList, hFs]; omega)]
     · rw [hheap]; simp
     · intro k hk hne'
       rw [hheap, Array.getElem?_append_left (by simpa using hk), Array.getElem?_modify]
       rw [if_neg]
       intro he
       subst he
       exact hne' rfl
end Go.Proofs.YtapjhliglmohgaaGreatDoor
/- An argument that came in, opened type by type: what its cells are. -/
namespace Go.Proofs.YtapjhliglmohgaaGreatDoor
open Go.ChangeShapes Go.WideShapes Go.RowKit Go.Deep
/-- Whatever reads as a t is the cells of some a that is 'ok'. -/
def Opens {H : Type} (enc : TypeId × Value → H) (P : Program) (w : World) (t : TypeId) {α : Type} (cells : α → List Value) (ok : α → Prop) : Prop :=
 ∀ fuel cs x, DataW.trod enc P w 0 (fun _ => true) true fuel t cs = some x → ∃ a, cs = cells a ∧ ok a
/-- The same of a struct's fields, from the offset 'off' on. -/
def FOpens {H : Type} (enc : TypeId × Value → H) (P : Program) (w : World) (fs : List Field) (off : Nat) {α : Type} (cells : α → List Value) (ok : α → Prop) : Prop :=
 ∀ (cs : List Value) (n : Nat), cs.length = (fs.map fun f => P.cellsOf f.type).sum → (∀ f ∈ fs, ∃ y, DataW.trod enc P w 0 (fun _ => true) true n f.type ((cs.drop (f.offset - off)).take (P.cellsOf f.type)) = some y) → ∃ a, cs = cells a ∧ ok a
/-- A slice that came in. -/
structure Sl (α : Type) where
 A : Option Addr
 cap : Nat
 l : List α
section
variable {H : Type} {enc : TypeId × Value → H} {P : Program} {w : World} {t e : TypeId} {α β : Type} {cells : α → List Value} {ok : α → Prop}
theorem Opens.int {k : IntKind} (ht : P.underlying t = some (.int k)) : Opens enc P w t (fun n : Int => [.int k n]) (fun n => (Lit.int k n).wf = true) := by
 intro fuel cs x h
 obtain ⟨n, rfl, _, hw⟩ := DataW.trod_int ht h
 exact ⟨n, rfl, hw⟩
theorem Opens.bool (ht : P.underlying t = some .bool) : Opens enc P w t (fun b : Bool => [.bool b]) (fun _ => True) := by
 intro fuel cs x h
 obtain ⟨b, rfl, _⟩ := DataW.trod_bool ht h
 exact ⟨b, rfl, trivial⟩
theorem Opens.map {cells' : β → List Value} {ok' : β → Prop} (h : Opens enc P w t cells ok) (f : α → β) (hc : ∀ a, cells a = cells' (f a)) (hk : ∀ a, ok a → ok' (f a)) : Opens enc P w t cells' ok' := by
 intro fuel cs x hx
 obtain ⟨a, rfl, ha⟩ := h fuel cs x hx
 exact ⟨f a, hc a, hk a ha⟩
theorem FOpens.nil (off : Nat) : FOpens enc P w [] off (fun _ : Unit => []) (fun _ => True) := by
 intro cs n hl _
 exact ⟨(), List.eq_nil_of_length_eq_zero hl, trivial⟩
theorem FOpens.cons {f : Field} {fs : List Field} {off : Nat} {cells' : β → List Value} {ok' : β → Prop} (h : Opens enc P w f.type cells ok) (hck : (decide (f.offset = off) && fs.all fun g => decide (off + P.cellsOf f.type ≤ g.offset)) = true) (hfs : FOpens enc P w fs (off + P.cellsOf f.type) cells' ok') : FOpens enc P w (f :: fs) off (fun a : α × β => cells a.1 ++ cells' a.2) (fun a => ok a.1 ∧ ok' a.2) := by
 rw [Bool.and_eq_true, decide_eq_true_eq, List.all_eq_true] at hck
 obtain ⟨ho, hge0⟩ := hck
 have hge : ∀ g ∈ fs, off + P.cellsOf f.type ≤ g.offset := fun g hg => by simpa using hge0 g hg
 intro cs n hl hf
 rw [List.map_cons, List.sum_cons] at hl
 obtain ⟨y, hy⟩ := hf f (by simp)
 rw [ho, Nat.sub_self, List.drop_zero] at hy
 obtain ⟨a, ha, hka⟩ := h _ _ _ hy
 obtain ⟨b, hb, hkb⟩ := hfs (cs.drop (P.cellsOf f.type)) n (by rw [List.length_drop]; omega) (fun g hg => by
  obtain ⟨z, hz⟩ := hf g (List.mem_cons_of_mem _ hg)
  refine ⟨z, ?_⟩
  rw [List.drop_drop, show P.cellsOf f.type + (g.offset - (off + P.cellsOf f.type)) = g.offset - off by have := hge g hg; omega]
  exact hz)
 exact ⟨(a, b), by show cs = cells a ++ cells' b; rw [← ha, ← hb, List.take_append_drop], hka, hkb⟩
theorem Opens.struct {fs : Array Field} (ht : P.underlying t = some (.struct fs)) (hs : P.cellsOf t = (fs.toList.map fun f => P.cellsOf f.type).sum) (h : FOpens enc P w fs.toList 0 cells ok) : Opens enc P w t cells ok := by
 intro fuel cs x hx
 obtain ⟨xs, n, _, _, hl, hlen, hf⟩ := DataW.trod_struct ht hx
 refine h cs n (hl.trans hs) fun f hf' => ?_
 obtain ⟨i, hi⟩ := List.mem_iff_getElem?.1 hf'
 have hi' : fs[i]? = some f := by simpa using hi
 have hlt : i < xs.length := by rw [hlen]; rcases Nat.lt_or_ge i fs.size with h | h; exact h; rw [Array.getElem?_eq_none h] at hi'; cases hi'
 refine ⟨xs[i], ?_⟩
 rw [Nat.sub_zero, hf i f hi', List.getElem?_eq_getElem hlt]
theorem Opens.slice {z : Nat} (ht : P.underlying t = some (.slice e)) (hz : P.cellsOf e = z) (h0 : 0 < z) (hc : ∀ a, (cells a).length = z) (h : Opens enc P w e cells ok) :
 Opens enc P w t (fun s : Sl α => [.slice s.A s.l.length s.cap]) (fun s => s.l.length ≤ s.cap ∧ s.cap ≤ maxLen ∧ Rd w w.heap.size e z s.A s.l.length (s.l.flatMap cells) ∧ ∀ a ∈ s.l, ok a) := by
 intro fuel cs x hx
 rcases open_slice ht hx with ⟨rfl, _⟩ | ⟨a, len, cap, m, n, D, Pl, rfl, _, hl, hm, hmm, _, hi⟩
 · exact ⟨⟨none, 0, []⟩, rfl, Nat.zero_le _, Nat.zero_le _, Rd.none_, by simp⟩
 rw [hz] at hi
 have hml : len ≤ m := by rw [hmm]; simp only [if_true]; exact hl
 have hall : ∀ k, k ≤ len → ∃ l : List α, l.length = k ∧ (∀ j u, (l.flatMap cells)[j]? = some u → w.cell? (a.add j) = some u) ∧ ∀ x ∈ l, ok x := by
  intro k
  induction k with
  | zero => intro _; exact ⟨[], rfl, by simp, by simp⟩
  | succ k ih =>
    intro hk
    obtain ⟨l, hll, hlc, hlo⟩ := ih (by omega)
    obtain ⟨cs', h1, h2⟩ := hi k (by omega)
    obtain ⟨_, hlen, hcell⟩ := World.cells?_some h1
    obtain ⟨b, rfl, hb⟩ := h _ _ _ h2
    refine ⟨l ++ [b], by simp [hll], fun j u hu => ?_, fun x hx => ?_⟩
    · rw [List.flatMap_append, List.flatMap_singleton] at hu
      have hfl : (l.flatMap cells).length = k * z := by
       rw [← hll]
       clear hll hlc hlo hu
       induction l with
       | nil => simp
       | cons y l ih' => rw [List.flatMap_cons, List.length_append, hc, ih', List.length_cons, Nat.add_mul]; omega
      rcases Nat.lt_or_ge j (k * z) with hj | hj
      · rw [List.getElem?_append_left (by omega)] at hu
        exact hlc j u hu
      · rw [List.getElem?_append_right (by omega), hfl] at hu
        have hjz : j - k * z < z := by
         rcases Nat.lt_or_ge (j - k * z) z with h | h
         · exact h
         · rw [List.getElem?_eq_none (by rw [hc]; exact h)] at hu; cases hu
        have := hcell (j - k * z) hjz
        rw [Go.Proofs.YtapjhliglmohgaaGreatDoor.add_of_add, show k * z + (j - k * z) = j by omega, hu] at this
        exact this
    · rcases List.mem_append.1 hx with hx | hx
      · exact hlo x hx
      · rw [List.mem_singleton] at hx; rw [hx]; exact hb
 obtain ⟨l, hll, hlc, hlo⟩ := hall len (Nat.le_refl _)
 have hfl : (l.flatMap cells).length = l.length * z := by
  clear hll hlc hlo
  induction l with
  | nil => simp
  | cons y l ih' => rw [List.flatMap_cons, List.length_append, hc, ih', List.length_cons, Nat.add_mul]; omega
 refine ⟨⟨some a, cap, l⟩, by simp [hll], by simp only [hll]; exact hl, hm, ⟨hfl, fun hn => ⟨a, rfl, .inl ?_, hlc⟩⟩, hlo⟩
 have hp : 0 < (l.flatMap cells).length := by rw [hfl]; exact Nat.mul_pos hn h0
 have := World.block_lt_of_cell? w _ (hlc 0 _ (List.getElem?_eq_getElem hp))
 rwa [block_of_add] at this
theorem Opens.Trod {v : Value} {d : DataW H} {p : List MemPlace} (h : Opens enc P w t cells ok) (hd : DataW.Trod enc P w 0 (fun _ => true) true t v d p) : ∃ a, v.cells.toList = cells a ∧ ok a := by
 obtain ⟨fuel, hf⟩ := hd
 exact h _ _ _ hf
end
end Go.Proofs.YtapjhliglmohgaaGreatDoor
/- From a walk that leaves what it found to a law's row, with errors.errorType laid. -/
namespace Go.Proofs.YtapjhliglmohgaaGreatDoor
open Go.ChangeShapes Go.WideShapes Go.RowKit
theorem own_ : ownKnob Tryz.prog.godebug = none := by kernel_rfl
theorem laidOut_ : laidOutB Tryz.prog = true := by kernel_rfl
theorem et_ : Tryz.prog.globalNamed "errors.errorType" = some 0 := by kernel_rfl
theorem rt_ : (Tryz.prog.cutTypes.find? (·.1 == "internal/reflectlite.rtype")).map (·.2) = some 275 := by kernel_rfl
theorem oneRow_ : ((List.range Tryz.prog.types.size).filter fun t => Tryz.prog.rowNamed t [101, 114, 114, 111, 114]) = [28] := by kernel_rfl
theorem typeVar_of_laid {W : World} (h : laidMetH Tryz.prog [("errors.errorType", Rows.laid_errors_errorType)] W) : TypeVar W := by
 have h' : laidMet Tryz.prog [] W ∧ handlesMet Tryz.prog [("errors.errorType", Rows.laid_errors_errorType)] W := h
 obtain ⟨name, u, ty, e1, e2, e3, e4, e5⟩ := h'.2 _ (List.mem_singleton.2 rfl)
 have en : name = [101, 114, 114, 111, 114] := (Option.some.inj e1).symm
 subst en
 obtain rfl := Option.some.inj (rt_.symm.trans e2)
 have hm : ty ∈ (List.range Tryz.prog.types.size).filter fun t => Tryz.prog.rowNamed t [101, 114, 114, 111, 114] := List.mem_filter.2 ⟨List.mem_range.2 e3, e4⟩
 rw [oneRow_] at hm
 obtain rfl := List.mem_singleton.1 hm
 have hh : typeHandle Tryz.prog 28 = .pointer (some ⟨1, 28, none⟩) := by kernel_rfl
 rw [hh] at e5
 unfold TypeVar
 simpa using World.var?_cell et_ e5 0
/-- A world that meets the condition. -/
noncomputable def laidWorld (os : Os) : World :=
 let w0 := World.holding Tryz.prog os ⟨#[], #[], []⟩
 { w0 with heap := w0.heap.modify 0 fun
     | .cells _ t frozen => .cells #[.iface 275 (.agg #[.pointer (some ⟨1, 28, none⟩)])] t frozen
     | o => o }
theorem laidWorld_met (os : Os) (args : Array Value) : laidMetH Tryz.prog [("errors.errorType", Rows.laid_errors_errorType)] ((laidWorld os).forCall (fun _ _ => 0) ⟨#[], args, []⟩).memory :=
 laidMetH_of_parts (laidMet_nil _ _) (by kernel_rfl)
theorem trodAll_below {H : Type} {enc : TypeId × Value → H} {W W' : World} (hb : Below W.heap.size W W') : ∀ {ts : List TypeId} {vs : List Value} {ds : List (DataW H)} {ps : List MemPlace},
 (∀ t ∈ ts, Tryz.prog.readableRec t = true ∧ t < Tryz.prog.types.size) → DataW.TrodAll enc Tryz.prog W 0 (fun _ => true) true ts vs ds ps → DataW.TrodAll enc Tryz.prog W' 0 (fun b => decide (b < W.heap.size)) true ts vs ds ps
 | [], [], [], _, _, h => h
 | [], _ :: _, _, _, _, h => h.elim
 | [], [], _ :: _, _, _, h => h.elim
 | _ :: _, [], _, _, _, h => h.elim
 | _ :: _, _ :: _, [], _, _, h => h.elim
 | t :: ts, v :: vs, d :: ds, ps, ht, h => by
   obtain ⟨p, q, h1, h2, rfl⟩ := h
   have hlt : ∀ x ∈ p, x.block < W.heap.size := by obtain ⟨m, hm⟩ := h1; exact DataW.trod_lt m _ _ _ hm
   exact ⟨p, q, Below.trod laidOut_ (ht t (by simp)).1 (ht t (by simp)).2 h1 hb hlt, trodAll_below hb (fun t' h' => ht t' (List.mem_cons_of_mem _ h')) h2, rfl⟩
theorem trodAll_len {H : Type} {enc : TypeId × Value → H} {W : World} : ∀ {ts : List TypeId} {vs : List Value} {ds : List (DataW H)} {ps : List MemPlace},
 DataW.TrodAll enc Tryz.prog W 0 (fun _ => true) true ts vs ds ps → ds.length = ts.length
 | [], [], [], _, _ => rfl
 | [], _ :: _, _, _, h => h.elim
 | [], [], _ :: _, _, h => h.elim
 | _ :: _, [], _, _, h => h.elim
 | _ :: _, _ :: _, [], _, h => h.elim
 | t :: ts, v :: vs, d :: ds, ps, h => by
   obtain ⟨p, q, _, h2, _⟩ := h
   simp [trodAll_len h2]
section
variable {H : Type} {enc : TypeId × Value → H}
set_option maxRecDepth 100000 in
/-- The row's step, whatever the law. -/
theorem lift_ (os : Os) (started : os.Started) (f : FuncId) (fn : Func) (s : ChangeSpec) (ws : Array Value) (fuel : Nat) (hvars : s.vars = [])
 (noInit : Tryz.prog.inits.idxOf? f = none) (hfn : Tryz.prog.funcs[f]? = some fn) (hres : fn.resultTypes = #[4])
 (hok : Input.okWideB Tryz.prog ((laidWorld os).forCall (fun _ _ => 0) ⟨#[], ws, []⟩) f ⟨#[], ws, []⟩ = true)
 (hpre : s.preB enc Tryz.prog fn [] false ((laidWorld os).forCall (fun _ _ => 0) ⟨#[], ws, []⟩).memory ws fuel = true)
 (hsz : s.sizedB enc Tryz.prog fn false ((laidWorld os).forCall (fun _ _ => 0) ⟨#[], ws, []⟩).memory ws fuel = true)
 (hspec : ∀ ds : List (DataW H), ds.length = fn.params.toList.length → s.fn H (ds ++ []) = { results := [.lit (.bool true)], args := ds })
 (hread : ∀ t ∈ fn.params.toList, Tryz.prog.readableRec t = true ∧ t < Tryz.prog.types.size)
 (walk : ∀ (W : World) (base : Nat) (args : Array Value) (ds : List (DataW H)) (p : List MemPlace), (∀ (j : Nat) t v, fn.params[j]? = some t → args[j]? = some v → Value.okWide Tryz.prog W .any base t v) →
   DataW.TrodAll enc Tryz.prog W 0 (fun _ => true) true fn.params.toList args.toList ds p → TypeVar W → Calls Tryz.prog f args W (BoolPost W true)) :
 ReturnsInHanded {} Tryz.checked os f .any (fun w args => (s.pre enc Tryz.prog fn [] false w args ∧ laidMetH Tryz.prog [("errors.errorType", Rows.laid_errors_errorType)] w) ∧ sizedMet enc Tryz.prog fn (OpenSpec.ofChange s) false w args)
  (s.post enc Tryz.prog fn false true false false) := by
 refine returnsInHanded_of_change_and (C := Tryz.checked) (X := fun w _ => laidMetH Tryz.prog [("errors.errorType", Rows.laid_errors_errorType)] w) (fun _ _ _ hh h => h.of_heap hh) own_ started noInit hfn
   (ChangeSpec.witness_at (enc := enc) (C := Tryz.checked) (os := os) (X := fun w _ => laidMetH Tryz.prog [("errors.errorType", Rows.laid_errors_errorType)] w) false (laidWorld os) ws fuel rfl (by kernel_rfl) (by kernel_rfl) hok hpre hsz (laidWorld_met os _)) ?_
 intro W base args ds gs before hval hW _ _ hL _
 have hW' := hW
 obtain ⟨p, q, hA, hV, rfl, hfz, hnd⟩ := hW
 rw [hvars] at hV
 have hg0 : gs = [] ∧ q = [] := by
  cases gs with
  | nil => exact ⟨rfl, hV⟩
  | cons g r => exact absurd hV (by intro h; cases h)
 obtain ⟨rfl, rfl⟩ := hg0
 have hlen : ds.length = fn.params.toList.length := trodAll_len hA
 refine (walk W base args ds p hval hA (typeVar_of_laid hL)).mono fun e W' ⟨he, hb⟩ => ?_
 subst he
 refine ⟨_, rfl, _, _, _, [], p, [], hW', ?_, ?_, ?_, hb.frame _, fun h => by cases h⟩
 · rw [hspec ds hlen, hres]
   exact trodAll_mk1 (shut_bool Tryz.underlying4 true)
 · rw [hspec ds hlen]
   exact trodAll_below hb hread hA
 · rw [hspec ds hlen, hvars]
   rfl
end
end Go.Proofs.YtapjhliglmohgaaGreatDoor
/- The arguments of this seat's laws, opened. -/
namespace Go.Proofs.YtapjhliglmohgaaGreatDoor
open Go.ChangeShapes Go.WideShapes Go.RowKit
theorem i64_wf {n : Int} (h : (Lit.int .i64 n).wf = true) : I64 n := by
 have h' : (decide (IntKind.i64.min ≤ n) && decide (n ≤ IntKind.i64.max)) = true := h
 rw [Bool.and_eq_true, decide_eq_true_eq, decide_eq_true_eq] at h'
 have e1 : IntKind.i64.min = -9223372036854775808 := by decide
 have e2 : IntKind.i64.max = 9223372036854775807 := by decide
 unfold I64
 omega
def slC {α : Type} (s : Sl α) : List Value := [.slice s.A s.l.length s.cap]
def slOk {α : Type} (W : World) (e : TypeId) (z : Nat) (cells : α → List Value) (ok : α → Prop) (s : Sl α) : Prop := s.l.length ≤ s.cap ∧ s.cap ≤ maxLen ∧ Rd W W.heap.size e z s.A s.l.length (s.l.flatMap cells) ∧ ∀ a ∈ s.l, ok a
set_option maxRecDepth 100000 in
theorem opens_op {H : Type} {enc : TypeId × Value → H} {W : World} : Opens enc Tryz.prog W 48 opC (fun _ => True) :=
 (Opens.struct Tryz.underlying48 (by kernel_rfl) (FOpens.cons (Opens.int Tryz.underlying3) (by kernel_rfl) (FOpens.cons (Opens.int Tryz.underlying3) (by kernel_rfl) (FOpens.cons (Opens.int Tryz.underlying3) (by kernel_rfl) (FOpens.cons (Opens.int Tryz.underlying3) (by kernel_rfl) (FOpens.cons (Opens.int Tryz.underlying3) (by kernel_rfl) (FOpens.nil _))))))).map
   (fun a => (⟨a.1, a.2.1, a.2.2.1, a.2.2.2.1, a.2.2.2.2.1⟩ : OpD)) (fun _ => rfl) (fun _ _ => trivial)
theorem opens_ops {H : Type} {enc : TypeId × Value → H} {W : World} : Opens enc Tryz.prog W 22 slC (slOk W 48 5 opC (fun _ => True)) :=
 Opens.slice Tryz.underlying22 (by kernel_rfl) (by decide) (fun _ => rfl) opens_op
structure PlC where
 parts : Int
 s : Sl OpD
set_option maxRecDepth 100000 in
theorem opens_plan {H : Type} {enc : TypeId × Value → H} {W : World} : Opens enc Tryz.prog W 24 (fun a : PlC => [.int .i64 a.parts] ++ slC a.s) (fun a => slOk W 48 5 opC (fun _ => True) a.s) :=
 (Opens.struct Tryz.underlying24 (by kernel_rfl) (FOpens.cons (Opens.int Tryz.underlying3) (by kernel_rfl) (FOpens.cons opens_ops (by kernel_rfl) (FOpens.nil _)))).map (fun a => (⟨a.1, a.2.1⟩ : PlC)) (fun _ => rfl) (fun _ h => h.2.1)
set_option maxRecDepth 100000 in
theorem arg_slice {H : Type} {enc : TypeId × Value → H} {W : World} {base : Nat} {t e : TypeId} {α : Type} {ok : Sl α → Prop} {v : Value} {d : DataW H} {p : List MemPlace} (ht : Tryz.prog.underlying t = some (.slice e)) (ho : Opens enc Tryz.prog W t slC ok)
 (hv : Value.okWide Tryz.prog W .any base t v) (hd : DataW.Trod enc Tryz.prog W 0 (fun _ => true) true t v d p) : ∃ s : Sl α, v = .slice s.A s.l.length s.cap ∧ ok s := by
 obtain ⟨A, n, c, rfl⟩ := okWide_slice ht hv
 obtain ⟨s, hs, hk⟩ := ho.Trod hd
 refine ⟨s, ?_, hk⟩
 simpa [Value.cells, slC] using hs
set_option maxRecDepth 100000 in
theorem arg_plan {H : Type} {enc : TypeId × Value → H} {W : World} {base : Nat} {v : Value} {d : DataW H} {p : List MemPlace} (hv : Value.okWide Tryz.prog W .any base 24 v) (hd : DataW.Trod enc Tryz.prog W 0 (fun _ => true) true 24 v d p) :
 ∃ (q : PlanD) (A : Option Addr) (c : Nat), v = planV q A c ∧ RdS W (· < W.heap.size) 5 A q.ops.length (opsC q.ops) := by
 obtain ⟨cs, rfl, _⟩ := okWide_struct Tryz.underlying24 hv
 obtain ⟨x, hx, h1, h2, h3, _⟩ := opens_plan.Trod hd
 refine ⟨⟨x.parts, x.s.l⟩, x.s.A, x.s.cap, ?_, RdS.of_rd h3 (by decide)⟩
 have hx' : cs.toList = [.int .i64 x.parts, .slice x.s.A x.s.l.length x.s.cap] := hx
 congr 1
 exact Array.ext' (by rw [hx'])
set_option maxRecDepth 100000 in
theorem arg_int {H : Type} {enc : TypeId × Value → H} {W : World} {base : Nat} {v : Value} {d : DataW H} {p : List MemPlace} (hv : Value.okWide Tryz.prog W .any base 3 v) (hd : DataW.Trod enc Tryz.prog W 0 (fun _ => true) true 3 v d p) : ∃ n : Int, v = .int .i64 n ∧ I64 n := by
 obtain ⟨n, rfl, _, _, hw⟩ := open_int Tryz.underlying3 hv hd
 exact ⟨n, rfl, i64_wf hw⟩
end Go.Proofs.YtapjhliglmohgaaGreatDoor
/- The acts of the sched's laws, opened. -/
namespace Go.Proofs.YtapjhliglmohgaaGreatDoor
open Go.ChangeShapes Go.WideShapes Go.RowKit
set_option maxRecDepth 100000 in
theorem opens_id {H : Type} {enc : TypeId × Value → H} {W : World} : Opens enc Tryz.prog W 35 idC (fun x => I64 x.b ∧ I64 x.s ∧ I64 x.p) :=
 (Opens.struct Tryz.underlying35 (by kernel_rfl) (FOpens.cons (Opens.int Tryz.underlying3) (by kernel_rfl) (FOpens.cons (Opens.int Tryz.underlying3) (by kernel_rfl) (FOpens.cons (Opens.int Tryz.underlying3) (by kernel_rfl) (FOpens.nil _))))).map (fun a => (⟨a.1, a.2.1, a.2.2.1⟩ : Id3)) (fun _ => rfl) (fun _ h => ⟨i64_wf h.1, i64_wf h.2.1, i64_wf h.2.2.1⟩)
set_option maxRecDepth 100000 in
theorem opens_actS {H : Type} {enc : TypeId × Value → H} {W : World} : Opens enc Tryz.prog W 37 actS ActSOk :=
 (Opens.struct Tryz.underlying37 (by kernel_rfl) (FOpens.cons (Opens.int Tryz.underlying3) (by kernel_rfl) (FOpens.cons (Opens.int Tryz.underlying3) (by kernel_rfl) (FOpens.cons (Opens.int Tryz.underlying3) (by kernel_rfl) (FOpens.cons opens_id (by kernel_rfl) (FOpens.cons (Opens.bool Tryz.underlying4) (by kernel_rfl) (FOpens.nil _))))))).map
   (fun a => (⟨a.1, a.2.1, a.2.2.1, a.2.2.2.1, a.2.2.2.2.1⟩ : ActS)) (fun _ => rfl) (fun a h => by
     obtain ⟨_, hn, hm, hx, _⟩ := h
     exact ⟨i64_wf hn, i64_wf hm, hx.1⟩)
theorem opens_actsS {H : Type} {enc : TypeId × Value → H} {W : World} : Opens enc Tryz.prog W 25 slC (slOk W 37 7 actS ActSOk) :=
 Opens.slice Tryz.underlying25 (by kernel_rfl) (by decide) (fun _ => rfl) opens_actS
set_option maxRecDepth 100000 in
theorem arg_id {H : Type} {enc : TypeId × Value → H} {W : World} {base : Nat} {v : Value} {d : DataW H} {p : List MemPlace} (hv : Value.okWide Tryz.prog W .any base 35 v) (hd : DataW.Trod enc Tryz.prog W 0 (fun _ => true) true 35 v d p) : ∃ x : Id3, v = idV x ∧ I64 x.b ∧ I64 x.s ∧ I64 x.p := by
 obtain ⟨cs, rfl, _⟩ := okWide_struct Tryz.underlying35 hv
 obtain ⟨x, hx, hk⟩ := opens_id.Trod hd
 refine ⟨x, ?_, hk⟩
 have hx' : cs.toList = [.int .i64 x.b, .int .i64 x.s, .int .i64 x.p] := hx
 show Value.agg cs = .agg #[.int .i64 x.b, .int .i64 x.s, .int .i64 x.p]
 congr 1
 exact Array.ext' (by rw [hx'])
theorem trodAll_five {H : Type} {enc : TypeId × Value → H} {P : Program} {w : World} {base : Nat} {spare : Nat → Bool} {held : Bool} {t0 t1 t2 t3 t4 : TypeId} {args : Array Value} {ds : List (DataW H)} {ps : List MemPlace} (h : DataW.TrodAll enc P w base spare held [t0, t1, t2, t3, t4] args.toList ds ps) :
 ∃ v0 v1 v2 v3 v4 d0 d1 d2 d3 d4 p0 p1 p2 p3 p4, args = #[v0, v1, v2, v3, v4] ∧ ds = [d0, d1, d2, d3, d4] ∧ ps = p0 ++ p1 ++ p2 ++ p3 ++ p4 ∧ DataW.Trod enc P w base spare held t0 v0 d0 p0 ∧ DataW.Trod enc P w base spare held t1 v1 d1 p1 ∧ DataW.Trod enc P w base spare held t2 v2 d2 p2 ∧ DataW.Trod enc P w base spare held t3 v3 d3 p3 ∧ DataW.Trod enc P w base spare held t4 v4 d4 p4 := by
 obtain ⟨v0, vs0, d0, ds0, p0, q0, hargs, rfl, rfl, h0, hr0⟩ := trodAll_cons h
 obtain ⟨v1, vs1, d1, ds1, p1, q1, rfl, rfl, rfl, h1, hr1⟩ := trodAll_cons hr0
 obtain ⟨v2, vs2, d2, ds2, p2, q2, rfl, rfl, rfl, h2, hr2⟩ := trodAll_cons hr1
 obtain ⟨v3, vs3, d3, ds3, p3, q3, rfl, rfl, rfl, h3, hr3⟩ := trodAll_cons hr2
 obtain ⟨v4, vs4, d4, ds4, p4, q4, rfl, rfl, rfl, h4, hr4⟩ := trodAll_cons hr3
 obtain ⟨rfl, rfl, rfl⟩ := trodAll_nil hr4
 exact ⟨v0, v1, v2, v3, v4, d0, d1, d2, d3, d4, p0, p1, p2, p3, p4, by cases args; simp_all, rfl, by simp, h0, h1, h2, h3, h4⟩
end Go.Proofs.YtapjhliglmohgaaGreatDoor
