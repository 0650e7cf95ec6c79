/- The sort of pieces does what is asked of it: by the library's law of slices.SortFunc. -/
import Derived.Test.YtgigdhfdpabmoaaDoorSortT
import Derived.Test.YtgigdhfdpabmoaaDoorMemK
import Derived.Shelf.SlSortCmp.NoneTotal
namespace Go.Proofs.YtgigdhfdpabmoaaDoor
open Go.RowKit Go.Sort Go.Shelf

instance : Inhabited Pz := ⟨⟨⟨0, 0, 0⟩, none, 0, []⟩⟩
theorem bef_iff (x y : Id3) : bef x y = true ↔ x.b < y.b ∨ (x.b = y.b ∧ (x.s < y.s ∨ (x.s = y.s ∧ x.p < y.p))) := by
  unfold bef
  by_cases h1 : x.b = y.b
  · by_cases h2 : x.s = y.s
    · rw [if_neg (by simp [h1]), if_neg (by simp [h2]), decide_eq_true_eq]; omega
    · rw [if_neg (by simp [h1]), if_pos h2, decide_eq_true_eq]; omega
  · rw [if_pos h1, decide_eq_true_eq]; omega
def lessI (x y : Pz) : Int := if bef x.id y.id then -1 else 1
theorem ltOf_less (x y : Pz) : ltOf lessI x y = bef x.id y.id := by
  unfold ltOf lessI
  cases bef x.id y.id <;> rfl
theorem less_swo : SWO (ltOf lessI) where
  irrefl x := by rw [ltOf_less, ← Bool.not_eq_true, bef_iff]; omega
  trans x y z h1 h2 := by rw [ltOf_less, bef_iff] at *; omega
  ntrans x y z h1 h2 := by rw [ltOf_less, ← Bool.not_eq_true, bef_iff] at *; omega
theorem flatK_pz (l : List Pz) : (flatK pzC 4 l.toArray).toList = pzsC l := by
  apply List.ext_getElem?
  intro t
  have hlen : (pzsC l).length = l.length * 4 := flat_len pz_app l
  by_cases ht : t < l.length * 4
  · have hi : t / 4 < l.length := by omega
    have hy : l[t / 4]? = some l[t / 4] := List.getElem?_eq_getElem hi
    have h1 := flat_at pzC 4 (fun _ => rfl) l (t / 4) _ hy (t % 4) (Nat.mod_lt _ (by omega))
    rw [show t / 4 * 4 + t % 4 = t by omega] at h1
    have h2 : (flatK pzC 4 l.toArray).toList[t]? = some ((flatK pzC 4 l.toArray)[t]!) := by
      rw [Array.getElem?_toList, getElem!_pos _ t (by simp; exact ht), Array.getElem?_eq_getElem]
    rw [h2, get_flatK _ _ _ _ (by simpa using ht)]
    show _ = (l.flatMap pzC)[t]?
    rw [h1]
    have h3 : l.toArray[t / 4]! = l[t / 4] := by rw [getElem!_pos _ _ (by simpa using hi)]; simp
    rw [h3]
    have h4 : t % 4 < (pzC l[t / 4]).length := by show t % 4 < 4; omega
    rw [List.getElem?_eq_getElem h4, getElem!_pos (pzC l[t / 4]) (t % 4) h4]
  · rw [List.getElem?_eq_none (l := (flatK pzC 4 l.toArray).toList) (by simp; omega), List.getElem?_eq_none (l := pzsC l) (by rw [hlen]; omega)]

theorem sort_c : SortC := by
  intro W base A c l hown hbase hlen
  rcases List.eq_nil_or_concat l with rfl | hne
  · have h := AnyF.slices_SortFunc_none Tryd.sortPz A c (.func (.func 44) #[] #[]) W
    refine Calls.mono (show Calls Tryd.prog 43 _ _ _ from h) ?_
    rintro e w' ⟨rfl, rfl⟩
    exact ⟨rfl, [], List.Perm.refl _, List.Pairwise.nil, hown, ⟨rfl, rfl, rfl, Nat.le_refl _, fun _ _ _ => rfl⟩⟩
  · have hpos : 0 < l.length := by obtain ⟨_, _, rfl⟩ := hne; simp
    have hown' := hown
    rcases hown.2 with ⟨_, h0⟩ | ⟨g, cap, cur, hv, hb, hgg, hnc, hcm, hcs, htake⟩
    · omega
    · injection hv with hA _ hc
      subst hA hc
      have eg : ∀ args w, (callFunc 44 args).run Tryd.prog w = .ok (.enter 44 args) w := enters_of Tryd.func44 (by kernel_rfl) rfl
      have hH : HoldsK pzC 4 W g 0 l.toArray := by
        intro j hj
        have hj' : j < l.length * 4 := by simpa using hj
        rw [Nat.zero_add]
        refine ⟨?_, hown'.frozenAt j⟩
        rw [hown'.cellAt j hj', ← flatK_pz, Array.getElem?_toList, Array.getElem?_eq_getElem hj, getElem!_pos _ j hj]
        rfl
      have hcon := AnyQ.slices_SortFunc Tryd.sortPz 4 Tryd.isAgg47 Tryd.sizeOf47 pzC (fun _ => rfl) pz_app.one lessI less_swo 44 #[] g 0 c l.toArray W eg (fun _ _ _ _ x y => less_c x y _) hH (lt_of_some hgg) (by simp; omega)
      have hsz : l.toArray.size = l.length := by simp
      rw [hsz] at hcon
      refine Calls.mono (show Calls Tryd.prog 43 _ _ _ from hcon) ?_
      rintro e w' ⟨rfl, d', n, os, ⟨hd1, _, hd3⟩, hsrt, rfl⟩
      have hdl : d'.toList.length = l.length := by rw [Array.length_toList, hd1]; simp
      have hF : (flatK pzC 4 d').toList = pzsC d'.toList := by have := flatK_pz d'.toList; simpa using this
      have hFs : (flatK pzC 4 d').size = l.length * 4 := by rw [size_flatK, hd1]; simp
      have hheap : (sortWorldK pzC 4 W g 0 n d' os).heap = W.heap.modify g (onCells (putCells id 0 (flatK pzC 4 d'))) ++ os := rfl
      refine ⟨rfl, d'.toList, ?_, ?_, ?_, ⟨rfl, rfl, rfl, ?_, ?_⟩⟩
      · have h1 : (d'.extract 0 l.length).toList = d'.toList := by rw [← hdl, Array.length_toList]; simp
        have h2 : (l.toArray.extract 0 l.length).toList = l := by simp
        rw [h1, h2] at hd3
        exact hd3
      · rw [List.pairwise_iff_getElem]
        intro i j hi hj hij
        have h1 := hsrt i j (Nat.zero_le _) hij (by rw [hdl] at hj; exact hj)
        rw [ltOf_less, getElem!_pos _ _ (by simpa using hj), getElem!_pos _ _ (by simpa using hi)] at h1
        simpa using h1
      · rw [hdl]
        refine ⟨by rw [← hdl]; exact flat_len pz_app _, .inr ⟨g, c, putCells id 0 (flatK pzC 4 d') cur, rfl, hb, ?_, hnc, hcm, by simp [putCells, hcs], ?_⟩⟩
        · rw [hheap, Array.getElem?_append_left (by simp; exact lt_of_some hgg), Array.getElem?_modify, if_pos rfl, hgg]
          rfl
        · apply List.ext_getElem?
          intro t
          rw [List.getElem?_take, ← hF]
          by_cases ht : t < l.length * 4
          · have htc : t < cur.size := by rw [hcs]; have := Nat.mul_le_mul_right 4 hnc; omega
            rw [if_pos ht, Array.getElem?_toList, Array.getElem?_toList]
            unfold putCells
            rw [Array.getElem?_mapIdx, Array.getElem?_eq_getElem htc, Array.getElem?_eq_getElem (by rw [hFs]; exact ht)]
            simp [hFs, ht]
          · rw [if_neg ht, List.getElem?_eq_none (by rw [Array.length_toList, hFs]; omega)]
      · rw [hheap]; simp
      · intro k hk hne'
        rw [hheap, Array.getElem?_append_left (by simpa using hk), Array.getElem?_modify]
        rw [if_neg]
        intro he
        subst he
        exact hne' rfl
end Go.Proofs.YtgigdhfdpabmoaaDoor
