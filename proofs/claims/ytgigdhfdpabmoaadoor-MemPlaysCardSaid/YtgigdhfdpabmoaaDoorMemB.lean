/- without, used: the order of age. -/
import Derived.Test.YtgigdhfdpabmoaaDoorMemA
namespace Go.Proofs.YtgigdhfdpabmoaaDoor
open Go.RowKit

theorem id_info : (Tryd.prog.info? 24).map (fun i => (i.zero, i.size, i.bytes)) = some (some (.agg #[.int .i64 0, .int .i64 0, .int .i64 0]), 3, 24) := by kernel_rfl
theorem row_info : (Tryd.prog.info? 58).map (fun i => (i.zero, i.size, i.bytes)) = some (some (.agg #[.int .i64 0, .int .i64 0]), 2, 16) := by kernel_rfl

/-- append of one name to a row of the call's own: the name lies in a block g that is known. -/
theorem wp_app_id {o : Oper} {a : Act} {K : Act → World → Prop} {Q : Exit → Act → World → Prop} (W : World) (s x : Operand)
    (ho : o.op = .call { callee := .builtin .append, args := #[s, x], argTypes := #[37, 37] }) (base : Nat) (v : Value) (l : List Id3) (hs : a.eval s = v)
    (hown : W.ownsRow base 24 3 v l.length (idsC l)) (y : Id3) (g : Nat) (hx : a.eval x = .slice (some ⟨g, 0, none⟩) 1 1) (hg : Bk W g 24 #[.int .i64 y.b, .int .i64 y.s, .int .i64 y.p]) (hlen : l.length ≤ 2147483648) (hbase : base ≤ W.heap.size)
    (h : ∀ A c w', w'.ownsRow base 24 3 (.slice A (l ++ [y]).length c) (l ++ [y]).length (idsC (l ++ [y])) → W.grownBy w' v.ownBlock → (l ++ [y]).length ≤ c → K (a.put o.dst (.slice A (l ++ [y]).length c)) w') :
    o.wp Tryd.prog a W K Q := by
  obtain ⟨i0, hi0, hz0, hz1, hz2⟩ := info_parts id_info
  obtain ⟨v', w', hr, h1, h2, _, _⟩ := run_append_own_at (P := Tryd.prog) W base 37 o.type 24 i0 _ 3 24 Tryd.underlying37 hi0 hz0 hz1 hz2 rfl (by omega) v l.length (idsC l) hown ⟨g, 0, none⟩ 1 1 (idC y) rfl
    (World.news_of_block (cs := #[.int .i64 y.b, .int .i64 y.s, .int .i64 y.p]) (t := 24) (fr := (0, 0)) hg) (by simp [idC, Value.oneCell']) (by simp only [maxLen]; omega) (by omega) hbase
  unfold Oper.wp execOp
  simp only [ho, resolve, invoke, builtin, Sem.run_bind, Sem.run_pure, Result.andThen_ok, List.map_toArray, List.map_cons, List.map_nil, hs, hx, hr]
  have h1' : w'.ownsRow base 24 3 v' (l ++ [y]).length (idsC (l ++ [y])) := by
    rw [idsC_append, List.length_append]
    simpa [idsC] using h1
  have h1'' := h1'
  rcases h1''.2 with ⟨_, hn⟩ | ⟨b, c, cur, hv, _, _, hc, _⟩
  · simp at hn
  · rw [hv] at h1' ⊢
    exact h _ c w' h1' h2 hc
theorem wpList_app_id {ops : Array Oper} {rest : List Oper} {o : Oper} {a : Act} {Q : Exit → Act → World → Prop} (W : World) (hgd : o.guard = none) (s x : Operand)
    (ho : o.op = .call { callee := .builtin .append, args := #[s, x], argTypes := #[37, 37] }) (base : Nat) (v : Value) (l : List Id3) (hs : a.eval s = v)
    (hown : W.ownsRow base 24 3 v l.length (idsC l)) (y : Id3) (g : Nat) (hx : a.eval x = .slice (some ⟨g, 0, none⟩) 1 1) (hg : Bk W g 24 #[.int .i64 y.b, .int .i64 y.s, .int .i64 y.p]) (hlen : l.length ≤ 2147483648) (hbase : base ≤ W.heap.size)
    (h : ∀ A c w', w'.ownsRow base 24 3 (.slice A (l ++ [y]).length c) (l ++ [y]).length (idsC (l ++ [y])) → W.grownBy w' v.ownBlock → (l ++ [y]).length ≤ c → wpList Tryd.prog ops Q rest (a.put o.dst (.slice A (l ++ [y]).length c)) w') :
    wpList Tryd.prog ops Q (o :: rest) a W :=
  wpList_plain hgd fun _ hK => wp_app_id W s x ho base v l hs hown y g hx hg hlen hbase fun A c w' h1 h2 h3 => hK _ _ (h A c w' h1 h2 h3)
theorem step_app_id {ops : Array Oper} {o : Oper} {a : Act} {K : Act → World → Prop} {Q : Exit → Act → World → Prop} {E : Prop} (W : World) (hgd : o.guard = none) (s x : Operand)
    (ho : o.op = .call { callee := .builtin .append, args := #[s, x], argTypes := #[37, 37] }) (base : Nat) (v : Value) (l : List Id3) (hs : a.eval s = v)
    (hown : W.ownsRow base 24 3 v l.length (idsC l)) (y : Id3) (g : Nat) (hx : a.eval x = .slice (some ⟨g, 0, none⟩) 1 1) (hg : Bk W g 24 #[.int .i64 y.b, .int .i64 y.s, .int .i64 y.p]) (hlen : l.length ≤ 2147483648) (hbase : base ≤ W.heap.size)
    (h : ∀ A c w', w'.ownsRow base 24 3 (.slice A (l ++ [y]).length c) (l ++ [y]).length (idsC (l ++ [y])) → W.grownBy w' v.ownBlock → (l ++ [y]).length ≤ c → K (a.put o.dst (.slice A (l ++ [y]).length c)) w') :
    if Region.wanted o (yielded ops a.tmps) = true then Oper.wp Tryd.prog o a W K Q else E := by
  rw [if_pos (by simp [Region.wanted, hgd])]
  exact wp_app_id W s x ho base v l hs hown y g hx hg hlen hbase h

def wo (l : List Id3) (x : Id3) : List Id3 := l.filter (fun y => decide (y ≠ x))
theorem take_succ_of {α : Type} {l : List α} {i : Nat} {y : α} (h : l[i]? = some y) : l.take (i + 1) = l.take i ++ [y] := by
  rw [List.take_add_one, h]; rfl
theorem wo_hit {l : List Id3} {x y : Id3} {i : Nat} (h : l[i]? = some y) (he : y = x) : wo (l.take (i + 1)) x = wo (l.take i) x := by
  rw [take_succ_of h]; simp [wo, he]
theorem wo_miss {l : List Id3} {x y : Id3} {i : Nat} (h : l[i]? = some y) (he : ¬ y = x) : wo (l.take (i + 1)) x = wo (l.take i) x ++ [y] := by
  rw [take_succ_of h]; simp [wo, he]
theorem ne_bool {x y : Id3} (h : ¬ y = x) : (!decide (y.b = x.b) || (!decide (y.s = x.s) || !decide (y.p = x.p))) = true := by
  cases x; cases y
  simp only [Id3.mk.injEq] at h
  simp
  omega
theorem wo_len (l : List Id3) (x : Id3) : (wo l x).length ≤ l.length := List.length_filter_le _ _
attribute [local go_sem high] id_eqI

def WoPost (w : World) (l : List Id3) (e : Ending) (w' : World) : Prop := ∃ A c, e = .returned (.slice A l.length c) ∧ w'.ownsRow (w.heap.size + 1) 24 3 (.slice A l.length c) l.length (idsC l) ∧ l.length ≤ c ∧ Below w.heap.size w w'
theorem own_shape {w : World} {base : Nat} {e : TypeId} {size n : Nat} {v : Value} {xs : List Value} (h : w.ownsRow base e size v n xs) : ∃ A c, v = .slice A n c ∧ n ≤ c := by
  rcases h.2 with ⟨hv, hn⟩ | ⟨b, c, cur, hv, _, _, hc, _⟩
  · exact ⟨_, _, by rw [hv, hn], by omega⟩
  · exact ⟨_, _, hv, hc⟩

set_option maxHeartbeats 1000000 in
theorem without_c (B : Nat) (w : World) (mb pb : Nat) (A : Option Addr) (cap : Nat) (max : Int) (ages : List Id3) (ps : List Pc) (x : Id3) (h : MemAt B w mb pb A cap max ages ps) (hs : ages.length ≤ 1000000) :
    Calls Tryd.prog 48 #[.pointer (some ⟨mb, 0, none⟩), idV x] w (WoPost w (wo ages x)) := by
  have h2 := h.c2
  have hlt := World.block_lt_of_cell? w _ h2
  have HA := Lib.hid h.ages
  clear h
  go_enter Tryd.func48, Tryd.ntmps48
  go_wp2
  go_loopg [5, 13] ages.length (fun k v5 v13 wr => ∃ i : Nat, i + k = ages.length ∧ v13 = .int .i64 i ∧ wr.ownsRow (w.heap.size + 1) 24 3 v5 (wo (ages.take i) x).length (idsC (wo (ages.take i) x)) ∧
    Bk wr w.heap.size 24 #[.int .i64 x.b, .int .i64 x.s, .int .i64 x.p] ∧ Below w.heap.size w wr)
  case atStart => exact ⟨0, by simp, rfl, World.ownsRow_nil _ _ _ _, Bk.new _ _ _, ext_alloc (Below.refl _ _) _⟩
  case round =>
    obtain ⟨i, hk, rfl, hown, hx, hb⟩ := hrel
    by_cases hlt2 : i < ages.length
    · have HX := Lib.hid hx
      have hc0 : wr.cell? ⟨w.heap.size, 0, none⟩ = some (.int .i64 x.b) := by rw [hx.cell]; rfl
      have hc1 : wr.cell? ⟨w.heap.size, 1, none⟩ = some (.int .i64 x.s) := by rw [hx.cell]; rfl
      have hc2 : wr.cell? ⟨w.heap.size, 2, none⟩ = some (.int .i64 x.p) := by rw [hx.cell]; rfl
      have hy : ages[i]? = some (ages[i]) := List.getElem?_eq_getElem hlt2
      generalize ages[i] = y at hy
      obtain ⟨ad, hA, d0, d1, d2⟩ := (HA.out.ext hb).ids hy hlt2
      subst hA
      have hsz : w.heap.size < wr.heap.size := hx.lt
      have HY := Lib.hid hy
      clear hx hy
      by_cases hyx : y = x
      · have hT : decide (y.b = x.b ∧ y.s = x.s ∧ y.p = x.p) = true := by rw [hyx]; simp
        have hT2 : y.b = x.b ∧ y.s = x.s ∧ y.p = x.p := by rw [hyx]; simp
        have HE := Lib.hid hyx
        have HO := Lib.hid hown
        clear hyx hown
        go_wp2_with fail
        go_roundg (gk - 1)
        case measure => omega
        case rel => exact ⟨i + 1, by omega, by go_num, by rw [wo_hit HY.out HE.out]; exact HO.out.alloc _, HX.out.alloc _, ext_alloc hb _⟩
      · have hT := ne_bool hyx
        have HE := Lib.hid hyx
        clear hyx
        have hwl := wo_len (ages.take i) x
        have htl : (ages.take i).length ≤ ages.length := by rw [List.length_take]; omega
        go_wp2_with (first | (at_builtin; refine wpList_app_id _ rfl (.tmp 20) (.tmp 22) rfl (w.heap.size + 1) _ (wo (ages.take i) x) rfl ((hown.alloc _).alloc _) y _ rfl ?_ ?_ ?_ ?_))
        · have := Bk.new (wr.alloc (.cells #[.int .i64 y.b, .int .i64 y.s, .int .i64 y.p] 24)) 24 #[.int .i64 y.b, .int .i64 y.s, .int .i64 y.p]
          simpa using this
        · omega
        · simp; omega
        · intro A1 c1 w1 hown1 hg1 hl1
          have hx1 := ((HX.out.alloc (.cells #[.int .i64 y.b, .int .i64 y.s, .int .i64 y.p] 24)).alloc (.cells #[.int .i64 y.b, .int .i64 y.s, .int .i64 y.p] 24)).grown hg1 (by
            intro he
            have := (hown.lt _ he.symm).1
            omega)
          have hb1 : Below w.heap.size w w1 := (ext_alloc (ext_alloc hb _) _).grown hg1 (by simp; omega) (by
            intro k hk
            have := (hown.lt _ hk).1
            omega)
          go_wp2
          go_roundg (gk - 1)
          case measure => omega
          case rel => exact ⟨i + 1, by omega, by go_num, by rw [wo_miss HY.out HE.out, List.length_append]; exact hown1, hx1, hb1⟩
    · have hi : i = ages.length := by omega
      subst hi
      go_wp2
      go_ret
      rw [List.take_length] at hown
      obtain ⟨A2, c2, rfl, hc2⟩ := own_shape hown
      exact ⟨_, _, rfl, hown, hc2, hb⟩

/-- Behind a method: the memory with other ages and pieces, and what may have changed. -/
def MPost (B : Nat) (w : World) (mb pb : Nat) (max : Int) (ages : List Id3) (ps : List Pc) (v : Value) (e : Ending) (w' : World) : Prop :=
  e = .returned v ∧ (∃ A cap, MemAt B w' mb pb A cap max ages ps) ∧ Chg muM B w w'

set_option maxHeartbeats 4000000 in
theorem use_c (B : Nat) (w : World) (mb pb : Nat) (A : Option Addr) (cap : Nat) (max : Int) (ages : List Id3) (ps : List Pc) (x : Id3) (h : MemAt B w mb pb A cap max ages ps) (hs : ages.length ≤ 1000000) :
    Calls Tryd.prog 39 #[.pointer (some ⟨mb, 0, none⟩), idV x] w (MPost B w mb pb max (wo ages x ++ [x]) ps (.tuple #[])) := by
  have hlt := h.blk.lt
  have HM := Lib.hid h
  clear h
  have hwl := wo_len ages x
  go_enter Tryd.func39, Tryd.ntmps39
  go_wp2_with fail
  have hne1 : mb ≠ w.heap.size := by omega
  have hne2 : w.heap.size ≠ mb := by omega
  go_region_held3 (fun w' => w'.cell? ⟨w.heap.size, 0, none⟩ = some (.int .i64 x.b) ∧ w'.cell? ⟨w.heap.size, 1, none⟩ = some (.int .i64 x.s) ∧ w'.cell? ⟨w.heap.size, 2, none⟩ = some (.int .i64 x.p))
    (go_keep)
    (first
      | (go_at_call 48; refine (without_c B _ mb pb A cap max ages ps x (by exact HM.out.ext (by repeat (first | exact Below.refl _ _ | refine ext_alloc ?_ _ | refine Below.drew ?_))) hs).mono ?_
         rintro e w1 ⟨A1, c1, rfl, hown, hc1, hb⟩
         have hz : w.heap.size < w1.heap.size := (by have := hb.size; simp only [World.size_alloc, World.size_drew] at this; omega)
         replace hown := own_mono hown (base' := w.heap.size + 1) (by simp; try omega)
         have HW := Lib.hid (show Below w.heap.size w w1 from ext_trans (by repeat (first | exact Below.refl _ _ | refine ext_alloc ?_ _ | refine Below.drew ?_)) hb)
         have HXB : Bk w1 w.heap.size 24 #[.int .i64 x.b, .int .i64 x.s, .int .i64 x.p] := (by first | exact (Bk.new _ _ _).drew.ext hb | exact ((Bk.new _ _ _).alloc _).drew.ext hb)
         have q0 : w1.cell? ⟨w.heap.size, 0, none⟩ = some (.int .i64 x.b) := (by rw [HXB.cell]; rfl)
         have q1 : w1.cell? ⟨w.heap.size, 1, none⟩ = some (.int .i64 x.s) := (by rw [HXB.cell]; rfl)
         have q2 : w1.cell? ⟨w.heap.size, 2, none⟩ = some (.int .i64 x.p) := (by rw [HXB.cell]; rfl))
      | (refine step_app_id _ rfl (.tmp 7) (.tmp 9) rfl (w.heap.size + 1) _ (wo ages x) (by rfl) (by first | exact hown | exact hown.alloc _) x _ (by rfl) (by first | exact Bk.new _ _ _ | exact (Bk.newAt (by simp)).drew.ext hb) (by omega) (by first | omega | (simp; omega)) ?_
         intro A2 c2 w2 hown2 hg2 hc2
         have HX2 : Bk w2 w.heap.size 24 #[.int .i64 x.b, .int .i64 x.s, .int .i64 x.p] := (by first | exact HXB.grown hg2 (own_ne hown (Nat.lt_succ_self _)) | exact (HXB.alloc _).grown hg2 (own_ne hown (Nat.lt_succ_self _)))
         have q0' : w2.cell? ⟨w.heap.size, 0, none⟩ = some (.int .i64 x.b) := (by rw [HX2.cell]; rfl)
         have q1' : w2.cell? ⟨w.heap.size, 1, none⟩ = some (.int .i64 x.s) := (by rw [HX2.cell]; rfl)
         have q2' : w2.cell? ⟨w.heap.size, 2, none⟩ = some (.int .i64 x.p) := (by rw [HX2.cell]; rfl)
         have HB : Bk w2 mb 64 #[.int .i64 max, .map (some pb), .slice A ages.length cap] := (by first | exact (HM.out.blk.ext HW.out).grown hg2 (own_ne hown (by omega)) | exact ((HM.out.blk.ext HW.out).alloc _).grown hg2 (own_ne hown (by omega)))
         have hb2 : w2.cell? ⟨mb, 2, none⟩ = some (.slice A ages.length cap) := (by rw [HB.cell]; rfl)
         have hf2 := HB.frozen 2
         clear HB HX2))
  all_goals
    go_end0
    have HW2 : Below w.heap.size w w2 := (by first | exact HW.out.grown hg2 HW.out.size (fun k hk => by have := (hown.lt _ hk).1; omega) | exact (ext_alloc HW.out _).grown hg2 (ext_alloc HW.out _).size (fun k hk => by have := (hown.lt _ hk).1; omega))
    have hM2 := HM.out.ext HW2
    have hS := hM2.setAges hc2 (Rd.of_own hown2)
    simp only [List.length_append, List.length_cons, List.length_nil, Nat.zero_add] at hS
    refine ⟨rfl, ⟨_, _, hS⟩, (Chg.of_below HW2).set_ (p := ⟨mb, 2, none⟩) hM2.blk rfl hM2.bm _⟩
end Go.Proofs.YtgigdhfdpabmoaaDoor
