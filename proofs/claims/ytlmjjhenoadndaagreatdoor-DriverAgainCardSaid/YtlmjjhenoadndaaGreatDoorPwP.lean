/- SchedG, SchedH, SchedI, DrvJ, KeepsP: laid together. -/
import Derived.Test.YtlmjjhenoadndaaGreatDoorPwM
import Derived.Test.YtlmjjhenoadndaaGreatDoorPwO
import Derived.WalkSpells

/- Who holds what: the map of maps; Told, Lost in plain Lean. -/
namespace Go.Proofs.YtlmjjhenoadndaaGreatDoor
open Go.RowKit Go.Sort

def insI (l : List Int) (n : Int) : List Int := if n ∈ l then l else l ++ [n]
def delI (l : List Int) (n : Int) : List Int := l.filter fun m => decide (m ≠ n)
theorem insI_mset (l : List Int) (n : Int) : (insI l n).map (fun y => (y, (.int .i64 1 : Value))) = mset (l.map fun y => (y, (.int .i64 1 : Value))) n (.int .i64 1) := by
  unfold insI mset
  rw [List.map_map]
  have e : l.map ((·.1) ∘ fun y : Int => (y, (.int .i64 1 : Value))) = l := by
    rw [show ((·.1) ∘ fun y : Int => (y, (.int .i64 1 : Value))) = id from rfl, List.map_id]
  rw [e]
  split
  · rw [List.map_map]
    apply List.map_congr_left
    intro y _
    simp only [Function.comp]
    split
    · next h => rw [h]
    · rfl
  · rw [List.map_append]; rfl
theorem delI_mdel (l : List Int) (n : Int) : (delI l n).map (fun y => (y, (.int .i64 1 : Value))) = mdel (l.map fun y => (y, (.int .i64 1 : Value))) n := by
  unfold delI mdel
  rw [List.filter_map]
  rfl
/-- Who holds what, where the list of one piece is turned. -/
def holdUpd (f : List Int → List Int) (x : Id3) (l : List (Id3 × List Int)) : List (Id3 × List Int) := l.map fun y => (y.1, if y.1 = x then f y.2 else y.2)
def holdAdd (l : List (Id3 × List Int)) (x : Id3) : List (Id3 × List Int) := if x ∈ l.map (·.1) then l else l ++ [(x, [])]
def holdPut (l : List (Id3 × List Int)) (x : Id3) (n : Int) : List (Id3 × List Int) := holdUpd (fun m => insI m n) x (holdAdd l x)
def holdDrop (l : List (Id3 × List Int)) (x : Id3) : List (Id3 × List Int) := l.filter fun y => decide (y.1 ≠ x)
def holdOf (l : List (Id3 × List Int)) (x : Id3) : List Int := ((l.find? fun y => decide (y.1 = x)).map (·.2)).getD []
def holdCut (l : List (Id3 × List Int)) (x : Id3) (n : Int) : List (Id3 × List Int) := if delI (holdOf l x) n = [] then holdDrop l x else holdUpd (fun m => delI m n) x l
def SchedD.told (s : SchedD) (p : PlanD) (x : Id3) (n : Int) : SchedD := if rightB p x = true ∧ 1 ≤ n ∧ n ≤ 4 then ⟨s.every, s.known, holdPut s.holds x n, s.saved⟩ else s
def SchedD.lost (s : SchedD) (x : Id3) (n : Int) : SchedD := ⟨s.every, s.known, holdCut s.holds x n, s.saved⟩
theorem told_every (s : SchedD) (p : PlanD) (x : Id3) (n : Int) : (s.told p x n).every = s.every := by unfold SchedD.told; split <;> rfl
/-- The same, of the blocks. -/
def hmUpd (f : List Int → List Int) (x : Id3) (l : List (Id3 × Nat × List Int)) : List (Id3 × Nat × List Int) := l.map fun y => (y.1, y.2.1, if y.1 = x then f y.2.2 else y.2.2)
def hmDrop (l : List (Id3 × Nat × List Int)) (x : Id3) : List (Id3 × Nat × List Int) := l.filter fun y => decide (y.1 ≠ x)
theorem hmUpd_holds (f : List Int → List Int) (x : Id3) (l : List (Id3 × Nat × List Int)) : (hmUpd f x l).map (fun y => (y.1, y.2.2)) = holdUpd f x (l.map fun y => (y.1, y.2.2)) := by
  unfold hmUpd holdUpd
  rw [List.map_map, List.map_map]
  rfl
theorem hmUpd_blk (f : List Int → List Int) (x : Id3) (l : List (Id3 × Nat × List Int)) : (hmUpd f x l).map (fun y => (y.1, (.map (some y.2.1) : Value))) = l.map (fun y => (y.1, (.map (some y.2.1) : Value))) := by
  unfold hmUpd
  rw [List.map_map]
  rfl
theorem hmUpd_nd (f : List Int → List Int) (x : Id3) (l : List (Id3 × Nat × List Int)) : (hmUpd f x l).map (·.2.1) = l.map (·.2.1) := by
  unfold hmUpd
  rw [List.map_map]
  rfl
theorem hmUpd_mem {f : List Int → List Int} {x : Id3} {l : List (Id3 × Nat × List Int)} {y : Id3 × Nat × List Int} (h : y ∈ hmUpd f x l) : ∃ z ∈ l, y = (z.1, z.2.1, if z.1 = x then f z.2.2 else z.2.2) := by
  unfold hmUpd at h
  obtain ⟨z, hz, rfl⟩ := List.mem_map.1 h
  exact ⟨z, hz, rfl⟩
theorem hmDrop_holds (x : Id3) (l : List (Id3 × Nat × List Int)) : (hmDrop l x).map (fun y => (y.1, y.2.2)) = holdDrop (l.map fun y => (y.1, y.2.2)) x := by
  unfold hmDrop holdDrop
  rw [List.filter_map]
  rfl
theorem hmDrop_blk (x : Id3) (l : List (Id3 × Nat × List Int)) : (hmDrop l x).map (fun y => (y.1, (.map (some y.2.1) : Value))) = mdel (l.map (fun y => (y.1, (.map (some y.2.1) : Value)))) x := by
  unfold hmDrop mdel
  rw [List.filter_map]
  rfl
/-- One block of these is turned, the others stay. -/
theorem block_one {l : List (Id3 × Nat × List Int)} (hn : (l.map (·.2.1)).Nodup) {y z : Id3 × Nat × List Int} (hy : y ∈ l) (hz : z ∈ l) (he : y.2.1 = z.2.1) : y = z := by
  induction l with
  | nil => cases hy
  | cons a l ih =>
    simp only [List.map_cons, List.nodup_cons] at hn
    rcases List.mem_cons.1 hy with rfl | hy'
    · rcases List.mem_cons.1 hz with rfl | hz'
      · rfl
      · exact absurd (he ▸ List.mem_map_of_mem (f := (·.2.1)) hz') hn.1
    · rcases List.mem_cons.1 hz with rfl | hz'
      · exact absurd (he ▸ List.mem_map_of_mem (f := (·.2.1)) hy') hn.1
      · exact ih hn.2 hy' hz'
theorem key_one {l : List (Id3 × Nat × List Int)} (hn : (l.map (·.1)).Nodup) {y z : Id3 × Nat × List Int} (hy : y ∈ l) (hz : z ∈ l) (he : y.1 = z.1) : y = z := by
  induction l with
  | nil => cases hy
  | cons a l ih =>
    simp only [List.map_cons, List.nodup_cons] at hn
    rcases List.mem_cons.1 hy with rfl | hy'
    · rcases List.mem_cons.1 hz with rfl | hz'
      · rfl
      · exact absurd (he ▸ List.mem_map_of_mem (f := (·.1)) hz') hn.1
    · rcases List.mem_cons.1 hz with rfl | hz'
      · exact absurd (he ▸ List.mem_map_of_mem (f := (·.1)) hy') hn.1
      · exact ih hn.2 hy' hz'
section
variable {B sb : Nat} {R : Nat → Prop} {p : PlanD} {A : Option Addr} {c : Nat} {X : SchX} {s : SchedD} {w w' : World}
theorem SchedAt.keys (h : SchedAt B sb R p A c X s w) : (X.hm.map (·.1)).Nodup := by
  have := h.hold.nodup
  rw [List.map_map] at this
  exact this
theorem SchedAt.st_ne (h : SchedAt B sb R p A c X s w) {m : Nat} (hm : ∀ cs t f, w.heap[m]? ≠ some (.cells cs t f)) : ∀ k, (Value.slice X.sA (statesL p.ops).length X.sc).ownBlock = some k → ¬ k = m := fun k hk e => by
  obtain ⟨cs, hb⟩ : ∃ cs, Bk w k 3 cs := by
    rcases h.st.2 with ⟨hv, _⟩ | ⟨g, cp, cur, hv, _, hh, _⟩
    · rw [hv] at hk; cases hk
    · rw [hv] at hk; injection hk with hk; subst hk; exact ⟨cur, hh⟩
  subst e
  exact hm _ _ _ hb
theorem MapIs.no_cells {α : Type} {enc : α → Value} {m : List (α × Value)} {b : Nat} (h : MapIs enc w b m) : ∀ cs t f, w.heap[b]? ≠ some (.cells cs t f) := by
  intro cs t f hc
  obtain ⟨es, cl, ho⟩ := h.obj
  rw [ho] at hc
  cases hc
/-- An inner map is turned. -/
theorem SchedAt.inner (h : SchedAt B sb R p A c X s w) {y : Id3 × Nat × List Int} (hy : y ∈ X.hm) {f : List Int → List Int} (hm : MapIs inV w' y.2.1 ((f y.2.2).map fun n => (n, .int .i64 1))) (hg : w.grownBy w' (some y.2.1)) (hs : w'.heap.size = w.heap.size) :
    SchedAt B sb R p A c ⟨X.wyb, X.K, X.kc, X.Rw, X.sA, X.sc, X.hb, hmUpd f y.1 X.hm, X.vb⟩ ⟨s.every, s.known, holdUpd f y.1 s.holds, s.saved⟩ w' := by
  have hf := Fr.map_ hg
  have hi := h.inn y hy
  have hyR := h.rb y.2.1 (.inr (.inr ⟨y, hy, rfl⟩))
  have hBs := (h.bd _ hyR.1).1
  have hne : ∀ {cs t}, ∀ g, Bk w g t cs → ¬ g = y.2.1 := fun g hb e => hi.no_cells _ _ _ (e ▸ hb)
  refine ⟨h.bk.fr hf (hne _ h.bk), h.ways.fr hf (fun k hk e => hyR.2 (e ▸ hk)) (fun k hk e => by omega), own_fr h.st hf (h.st_ne hi.no_cells), ?_, ?_, fun z hz => ?_, ?_, h.sv.fr hf (fun e => (h.hi y hy).2 e.symm), h.hv, fun z hz => ?_, h.rs, fun k hk => ?_, h.rw_, h.rt, fun k hk => by rw [hs]; exact h.bd k hk, h.known, h.every, h.plan⟩
  · show MapIs idV w' X.hb ((hmUpd f y.1 X.hm).map _)
    rw [hmUpd_blk]
    exact h.hold.fr hf (fun e => (h.hi y hy).1 e.symm)
  · show holdUpd f y.1 s.holds = _
    rw [hmUpd_holds, h.hl]
  · obtain ⟨z', hz', rfl⟩ := hmUpd_mem hz
    by_cases e : z'.1 = y.1
    · obtain rfl := key_one h.keys hz' hy e
      simp only [if_true]
      exact hm
    · simp only [if_neg e]
      refine (h.inn z' hz').fr hf (fun e2 => e ?_)
      rw [block_one h.nd hz' hy e2]
  · show ((hmUpd f y.1 X.hm).map (·.2.1)).Nodup
    rw [hmUpd_nd]
    exact h.nd
  · obtain ⟨z', hz', rfl⟩ := hmUpd_mem hz
    exact h.hi z' hz'
  · rcases hk with rfl | rfl | ⟨z, hz, rfl⟩
    · exact h.rb _ (.inl rfl)
    · exact h.rb _ (.inr (.inl rfl))
    · obtain ⟨z', hz', rfl⟩ := hmUpd_mem hz
      exact h.rb _ (.inr (.inr ⟨z', hz', rfl⟩))
/-- A piece is forgotten. -/
theorem SchedAt.outer (h : SchedAt B sb R p A c X s w) (x : Id3) (hm : MapIs idV w' X.hb (mdel (X.hm.map fun y => (y.1, (.map (some y.2.1) : Value))) x)) (hg : w.grownBy w' (some X.hb)) (hs : w'.heap.size = w.heap.size) :
    SchedAt B sb R p A c ⟨X.wyb, X.K, X.kc, X.Rw, X.sA, X.sc, X.hb, hmDrop X.hm x, X.vb⟩ ⟨s.every, s.known, holdDrop s.holds x, s.saved⟩ w' := by
  have hf := Fr.map_ hg
  have hi := h.hold
  have hyR := h.rb X.hb (.inl rfl)
  have hBs := (h.bd _ hyR.1).1
  have hne : ∀ {cs t}, ∀ g, Bk w g t cs → ¬ g = X.hb := fun g hb e => hi.no_cells _ _ _ (e ▸ hb)
  have hsub : ∀ z, z ∈ hmDrop X.hm x → z ∈ X.hm := fun z hz => (List.mem_filter.1 hz).1
  refine ⟨h.bk.fr hf (hne _ h.bk), h.ways.fr hf (fun k hk e => hyR.2 (e ▸ hk)) (fun k hk e => by omega), own_fr h.st hf (h.st_ne hi.no_cells), ?_, ?_, fun z hz => (h.inn z (hsub z hz)).fr hf (h.hi z (hsub z hz)).1, ?_, h.sv.fr hf (fun e => h.hv e.symm), h.hv, fun z hz => h.hi z (hsub z hz), h.rs, fun k hk => ?_, h.rw_, h.rt, fun k hk => by rw [hs]; exact h.bd k hk, h.known, h.every, h.plan⟩
  · show MapIs idV w' X.hb ((hmDrop X.hm x).map _)
    rw [hmDrop_blk]
    exact hm
  · show holdDrop s.holds x = _
    rw [hmDrop_holds, h.hl]
  · exact List.Nodup.sublist (List.Sublist.map _ (List.filter_sublist ..)) h.nd
  · rcases hk with rfl | rfl | ⟨z, hz, rfl⟩
    · exact h.rb _ (.inl rfl)
    · exact h.rb _ (.inr (.inl rfl))
    · exact h.rb _ (.inr (.inr ⟨z, hsub z hz, rfl⟩))
/-- A piece that nobody knew of: an empty map, laid behind all that is there. -/
theorem SchedAt.fresh (h : SchedAt B sb R p A c X s w) {x : Id3} {nb : Nat} {w1 : World} (hx : x ∉ X.hm.map (·.1)) (h1 : Below w.heap.size w w1) (hn : MapIs inV w1 nb ([] : List (Int × Value))) (hnb : w.heap.size ≤ nb) (hm : MapIs idV w' X.hb (mset (X.hm.map fun y => (y.1, (.map (some y.2.1) : Value))) x (.map (some nb)))) (hg : w1.grownBy w' (some X.hb)) (hs : w'.heap.size = w1.heap.size) :
    SchedAt B sb (fun k => R k ∨ k = nb) p A c ⟨X.wyb, X.K, X.kc, X.Rw, X.sA, X.sc, X.hb, X.hm ++ [(x, nb, [])], X.vb⟩ ⟨s.every, s.known, holdAdd s.holds x, s.saved⟩ w' := by
  have hf := Fr.map_ hg
  have h' := h.ext h1
  have hi := h'.hold
  have hyR := h.rb X.hb (.inl rfl)
  have hBs := (h.bd _ hyR.1).1
  have hz1 := h1.size
  have hne : ∀ {cs t}, ∀ g, Bk w1 g t cs → ¬ g = X.hb := fun g hb e => hi.no_cells _ _ _ (e ▸ hb)
  have hnR : ∀ k, R k → k ≠ nb := fun k hk e => by have := (h.bd k hk).2; omega
  have hnl := hn.lt
  refine ⟨h'.bk.fr hf (hne _ h'.bk), h'.ways.fr hf (fun k hk e => hyR.2 (e ▸ hk)) (fun k hk e => by omega), own_fr h'.st hf (h'.st_ne hi.no_cells), ?_, ?_, fun z hz => ?_, ?_, h'.sv.fr hf (fun e => h.hv e.symm), h.hv, fun z hz => ?_, ⟨.inl h.rs.1, h.rs.2⟩, fun k hk => ?_, fun k hk => .inl (h.rw_ k hk), fun k hk => .inl (h.rt k hk), fun k hk => ?_, h.known, h.every, h.plan⟩
  · show MapIs idV w' X.hb ((X.hm ++ [(x, nb, [])]).map _)
    rw [mset, if_neg (by rw [List.map_map]; exact hx)] at hm
    rw [List.map_append]
    exact hm
  · show holdAdd s.holds x = _
    unfold holdAdd
    rw [h.hl, if_neg (by rw [List.map_map]; exact hx), List.map_append]
    rfl
  · rcases List.mem_append.1 hz with hz | hz
    · exact (h'.inn z hz).fr hf (h.hi z hz).1
    · obtain rfl := List.mem_singleton.1 hz
      exact hn.fr hf (fun e => by have := (h.bd _ hyR.1).2; have e' : nb = X.hb := e; omega)
  · show ((X.hm ++ [(x, nb, [])]).map (fun y : Id3 × Nat × List Int => y.2.1)).Nodup
    rw [List.map_append, List.nodup_append]
    refine ⟨h.nd, by simp, fun a ha b hb => ?_⟩
    obtain ⟨z, hz, rfl⟩ := List.mem_map.1 ha
    obtain rfl := List.mem_singleton.1 hb
    exact hnR _ (h.rb _ (.inr (.inr ⟨z, hz, rfl⟩))).1
  · rcases List.mem_append.1 hz with hz | hz
    · exact h.hi z hz
    · obtain rfl := List.mem_singleton.1 hz
      exact ⟨fun e => hnR _ hyR.1 e.symm, fun e => hnR _ (h.rb _ (.inr (.inl rfl))).1 e.symm⟩
  · rcases hk with rfl | rfl | ⟨z, hz, rfl⟩
    · exact ⟨.inl hyR.1, hyR.2⟩
    · exact ⟨.inl (h.rb _ (.inr (.inl rfl))).1, (h.rb _ (.inr (.inl rfl))).2⟩
    · rcases List.mem_append.1 hz with hz | hz
      · exact ⟨.inl (h.rb _ (.inr (.inr ⟨z, hz, rfl⟩))).1, (h.rb _ (.inr (.inr ⟨z, hz, rfl⟩))).2⟩
      · obtain rfl := List.mem_singleton.1 hz
        exact ⟨.inr rfl, fun hk => hnR _ (h.rw_ _ hk) rfl⟩
  · rw [hs]
    rcases hk with hk | rfl
    · have := h.bd k hk; omega
    · have := (h.bd _ hyR.1); omega
end
end Go.Proofs.YtlmjjhenoadndaaGreatDoor

/- Who holds what: Told, Lost of the program. -/
namespace Go.Proofs.YtlmjjhenoadndaaGreatDoor
open Go.RowKit Go.Sort

theorem zero_ii (w : World) : (zeroValue 198).run Tryz.prog w = .ok (.map none) w := by kernel_rfl
theorem mget_hm_some {hm : List (Id3 × Nat × List Int)} (hn : (hm.map (·.1)).Nodup) {y : Id3 × Nat × List Int} (hy : y ∈ hm) : mget (hm.map fun y => (y.1, (.map (some y.2.1) : Value))) y.1 = some (.map (some y.2.1)) :=
  mget_some (by rw [List.map_map]; exact hn) (List.mem_map.2 ⟨y, hy, rfl⟩)
theorem mget_hm_none {hm : List (Id3 × Nat × List Int)} {x : Id3} (hx : x ∉ hm.map (·.1)) : mget (hm.map fun y => (y.1, (.map (some y.2.1) : Value))) x = none :=
  mget_none (by rw [List.map_map]; exact hx)
theorem holdAdd_in {l : List (Id3 × List Int)} {x : Id3} (h : x ∈ l.map (·.1)) : holdAdd l x = l := if_pos h
theorem mget_mset_new {α : Type} [DecidableEq α] {m : List (α × Value)} {x : α} {v : Value} (hn : ((mset m x v).map (·.1)).Nodup) (hx : x ∉ m.map (·.1)) : mget (mset m x v) x = some v := by
  refine mget_some hn ?_
  unfold mset
  rw [if_neg hx]
  simp
section
variable {B sb : Nat} {R : Nat → Prop} {p : PlanD} {A : Option Addr} {c : Nat} {s : SchedD}
theorem told_in {X : SchX} {y : Id3 × Nat × List Int} {n : Int} {w w1 w2 : World} (h : SchedAt B sb R p A c X s w1) (hb : Below w.heap.size w w1) (hy : y ∈ X.hm) (hm : MapIs inV w2 y.2.1 (mset (y.2.2.map fun m => (m, (.int .i64 1 : Value))) n (.int .i64 1))) (hg : w1.grownBy w2 (some y.2.1)) (hs : w2.heap.size = w1.heap.size) (hr : rightB p y.1 = true ∧ 1 ≤ n ∧ n ≤ 4) :
    STurn B sb R p A c (s.told p y.1 n) w (.returned (.tuple #[])) w2 := by
  have hk : y.1 ∈ s.holds.map (·.1) := by
    rw [h.hl, List.map_map]
    exact List.mem_map.2 ⟨y, hy, rfl⟩
  have h2 := h.inner (f := fun m => insI m n) hy (by rw [insI_mset]; exact hm) hg hs
  have h3 : SchedIs B sb R p A c (s.told p y.1 n) w2 := by
    unfold SchedD.told
    rw [if_pos hr]
    unfold holdPut
    rw [holdAdd_in hk]
    exact ⟨_, h2⟩
  exact ⟨rfl, R, h3, (Fr.of_below hb).grown hg (fun k hk => .inl (by injection hk with hk; rw [← hk]; exact (h.rb _ (.inr (.inr ⟨y, hy, rfl⟩))).1)), fun k hk => .inl hk⟩
theorem told_new {X : SchX} {x : Id3} {n : Int} {nb : Nat} {w w1 w2 w3 w4 w5 : World} (h : SchedAt B sb R p A c X s w1) (hb : Below w.heap.size w w1) (hx : x ∉ X.hm.map (·.1)) (h12 : Below w1.heap.size w1 w2) (hn : MapIs inV w2 nb ([] : List (Int × Value))) (hnb : w1.heap.size ≤ nb) (hm : MapIs idV w3 X.hb (mset (X.hm.map fun y => (y.1, (.map (some y.2.1) : Value))) x (.map (some nb)))) (hg : w2.grownBy w3 (some X.hb)) (hs : w3.heap.size = w2.heap.size)
    (h34 : Below w3.heap.size w3 w4) (hm5 : MapIs inV w5 nb (mset ([] : List (Int × Value)) n (.int .i64 1))) (hg5 : w4.grownBy w5 (some nb)) (hs5 : w5.heap.size = w4.heap.size) (hr : rightB p x = true ∧ 1 ≤ n ∧ n ≤ 4) :
    STurn B sb R p A c (s.told p x n) w (.returned (.tuple #[])) w5 := by
  have hbs := hb.size
  have h3 := (h.fresh hx h12 hn hnb hm hg hs).ext h34
  have h5 := h3.inner (f := fun m => insI m n) (y := (x, nb, [])) (List.mem_append.2 (.inr (List.mem_singleton.2 rfl))) (by show MapIs inV w5 nb ((insI [] n).map _); rw [insI_mset]; exact hm5) hg5 hs5
  have h6 : SchedIs B sb (fun k => R k ∨ k = nb) p A c (s.told p x n) w5 := by
    unfold SchedD.told
    rw [if_pos hr]
    exact ⟨_, h5⟩
  exact ⟨rfl, _, h6, ((((Fr.of_below hb).ext h12).grown hg (fun k hk => .inl (by injection hk with hk; rw [← hk]; exact (h.rb _ (.inl rfl)).1))).ext h34).grown hg5 (fun k hk => .inr (by injection hk with hk; omega)), fun k hk => Or.imp id (fun e => by omega) hk⟩
set_option maxRecDepth 100000 in
set_option maxHeartbeats 8000000 in
theorem told_c (x : Id3) (n : Int) (w : World) (h : SchedIs B sb R p A c s w) : Calls Tryz.prog 109 #[.pointer (some ⟨sb, 0, none⟩), idV x, .int .i64 n] w (STurn B sb R p A c (s.told p x n) w) := by
  obtain ⟨X, h⟩ := h
  obtain ⟨xb, xs, xp⟩ := x
  obtain ⟨W, hW⟩ : ∃ W, W = w.alloc (.cells #[.int .i64 xb, .int .i64 xs, .int .i64 xp] 61 (0, 0)) := ⟨_, rfl⟩
  have HBW := Lib.hid (show Below w.heap.size w W from by rw [hW]; exact ext_alloc (Below.refl _ _) _)
  have HXW := Lib.hid (show Bk W w.heap.size 61 #[.int .i64 xb, .int .i64 xs, .int .i64 xp] from by rw [hW]; exact Bk.new _ _ _)
  have H := Lib.hid (h.ext HBW.out)
  have HWW := Lib.hid hW
  clear h hW
  have c0 : W.cell? ⟨w.heap.size, 0, none⟩ = some (.int .i64 xb) := (HXW.out.cell 0).trans rfl
  have c1 : W.cell? ⟨w.heap.size, 1, none⟩ = some (.int .i64 xs) := (HXW.out.cell 1).trans rfl
  have c2 : W.cell? ⟨w.heap.size, 2, none⟩ = some (.int .i64 xp) := (HXW.out.cell 2).trans rfl
  have l0 := HXW.out.lt
  cases hh : rightB p ⟨xb, xs, xp⟩ with
  | false =>
    have HH := Lib.hid hh
    have HV := Lib.hid (show s.told p ⟨xb, xs, xp⟩ n = s from by unfold SchedD.told; rw [hh]; simp)
    clear hh
    go_enter Tryz.func109, Tryz.ntmps109
    go_upto_region 1 with fail
    rw [← HWW.out]
    go_wp2_with (first
      | (go_at_call 161; refine (sright_c (B := B) (R := R) (p := p) (A := A) (c := c) (s := s) ⟨xb, xs, xp⟩ _ ⟨X, H.out⟩).mono ?_; rw [HH.out]; rintro e w1 ⟨rfl, hb⟩; have HB1 := Lib.hid hb; clear hb))
    go_returns
    rw [HV.out]
    exact ⟨rfl, R, ⟨X, H.out.ext HB1.out⟩, Fr.of_below (ext_trans HBW.out HB1.out), fun k hk => .inl hk⟩
  | true =>
    have HH := Lib.hid hh
    by_cases hn : 1 ≤ n ∧ n ≤ 4
    · have HN := Lib.hid (show rightB p ⟨xb, xs, xp⟩ = true ∧ 1 ≤ n ∧ n ≤ 4 from ⟨hh, hn⟩)
      have u1 : ¬ n < 1 := by omega
      have u4 : ¬ 4 < n := by omega
      clear hh
      by_cases hx : (⟨xb, xs, xp⟩ : Id3) ∈ X.hm.map (·.1)
      · obtain ⟨y, hy, hyx⟩ := List.mem_map.1 hx
        have HY := Lib.hid hy
        have HYX := Lib.hid hyx
        have HG := Lib.hid (show mget (X.hm.map fun y => (y.1, (.map (some y.2.1) : Value))) ⟨xb, xs, xp⟩ = some (.map (some y.2.1)) from by rw [← hyx]; exact mget_hm_some H.out.keys hy)
        have qM : ∀ (w : World) (r : Option Nat), (binOp .eql 198 (.map r) (.map none)).run Tryz.prog w = .ok (.bool r.isNone) w := fun w r => run_eql_map_nil w _ _ _ r Tryz.underlying198
        clear hx hy hyx
        go_enter Tryz.func109, Tryz.ntmps109
        go_upto_region 1 with fail
        rw [← HWW.out]
        go_wp2_with (first
          | (go_at_call 161; refine (sright_c (B := B) (R := R) (p := p) (A := A) (c := c) (s := s) ⟨xb, xs, xp⟩ _ ⟨X, H.out⟩).mono ?_; rw [HH.out]; rintro e w1 ⟨rfl, hb⟩; have HB1 := Lib.hid hb
             have q0 := (World.cell?_of_block (a := ⟨w.heap.size, 0, none⟩) (hb.block _ l0)).trans c0
             have q1 := (World.cell?_of_block (a := ⟨w.heap.size, 1, none⟩) (hb.block _ l0)).trans c1
             have q2 := (World.cell?_of_block (a := ⟨w.heap.size, 2, none⟩) (hb.block _ l0)).trans c2
             have ql := Nat.lt_of_lt_of_le l0 hb.size
             have H1 := Lib.hid (H.out.ext hb)
             have q5 : w1.cell? ⟨sb, 5, none⟩ = some (.map (some X.hb)) := (H1.out.bk.cell 5).trans rfl
             have qs := H1.out.bk.lt
             clear hb))
        have hlk := fun m => (H1.out.hold.drewN m).lookup idKey (t := 193) (e := 198) (by kernel_rfl) (zero_ii _) (⟨xb, xs, xp⟩ : Id3)
        simp only [HG.out, Option.getD_some, idV] at hlk
        go_quiet (fail)
        go_wp2_with fail
        obtain ⟨w3, hrun3, hm3, hg3, hs3⟩ := ((H1.out.inn y HY.out).drewN (nq + 1)).store intKey Tryz.underlying198 n (.int .i64 1)
        have HM3 := Lib.hid hm3
        have HG3 := Lib.hid hg3
        have HZ3 := Lib.hid hs3
        simp only [inV] at hrun3
        clear hm3 hg3 hs3
        go_region
        go_wp2_with fail
        go_returns
        have HF := told_in (w := w) (w1 := w1.drewN (nq + 1)) (n := n) (H1.out.ext (below_drewN (Below.refl _ _) (nq + 1))) (ext_trans HBW.out (below_drewN HB1.out (nq + 1))) HY.out HM3.out HG3.out HZ3.out (by rw [HYX.out]; exact HN.out)
        rw [HYX.out] at HF
        exact HF
      · have HX0 := Lib.hid hx
        have HG := Lib.hid (show mget (X.hm.map fun y => (y.1, (.map (some y.2.1) : Value))) ⟨xb, xs, xp⟩ = none from mget_hm_none hx)
        have hmm := @run_makeMap Tryz.prog
        have qM : ∀ (w : World) (r : Option Nat), (binOp .eql 198 (.map r) (.map none)).run Tryz.prog w = .ok (.bool r.isNone) w := fun w r => run_eql_map_nil w _ _ _ r Tryz.underlying198
        clear hx
        go_enter Tryz.func109, Tryz.ntmps109
        go_upto_region 1 with fail
        rw [← HWW.out]
        go_wp2_with (first
          | (go_at_call 161; refine (sright_c (B := B) (R := R) (p := p) (A := A) (c := c) (s := s) ⟨xb, xs, xp⟩ _ ⟨X, H.out⟩).mono ?_; rw [HH.out]; rintro e w1 ⟨rfl, hb⟩; have HB1 := Lib.hid hb
             have HX1 := Lib.hid (HXW.out.ext hb)
             have q0 : w1.cell? ⟨w.heap.size, 0, none⟩ = some (.int .i64 xb) := (HX1.out.cell 0).trans rfl
             have q1 : w1.cell? ⟨w.heap.size, 1, none⟩ = some (.int .i64 xs) := (HX1.out.cell 1).trans rfl
             have q2 : w1.cell? ⟨w.heap.size, 2, none⟩ = some (.int .i64 xp) := (HX1.out.cell 2).trans rfl
             have ql := HX1.out.lt
             have H1 := Lib.hid (H.out.ext hb)
             have q5 : w1.cell? ⟨sb, 5, none⟩ = some (.map (some X.hb)) := (H1.out.bk.cell 5).trans rfl
             have qs := H1.out.bk.lt
             clear hb))
        have hlk := fun m => (H1.out.hold.drewN m).lookup idKey (t := 193) (e := 198) (by kernel_rfl) (zero_ii _) (⟨xb, xs, xp⟩ : Id3)
        simp only [HG.out, Option.getD_none, idV] at hlk
        go_quiet (fail)
        clear hlk
        go_wp2_with fail
        refine wp_region_held_drew (S := (fun w' => w'.cell? ⟨w.heap.size, 0, none⟩ = some (.int .i64 xb) ∧ w'.cell? ⟨w.heap.size, 1, none⟩ = some (.int .i64 xs) ∧ w'.cell? ⟨w.heap.size, 2, none⟩ = some (.int .i64 xp) ∧ w'.cell? ⟨sb, 5, none⟩ = some (.map (some X.hb)))) (by kernel_rfl) ?_ (fun hHeld => ?_)
        · (first | exact ⟨s0, s1, s2, s5⟩ | exact ⟨r0, r1, r2, r5⟩ | exact ⟨q0, q1, q2, q5⟩ | go_keep)
        refine wpAnyH_take (i := 0) (oi := { dst := some 25, op := Go.Op.move (Go.Operand.tmp 0), type := 104, pos := "sched.go:51", after := #[], guard := none }) (v := ?v1z0) rfl (by kernel_rfl) (by kernel_rfl) (by kernel_rfl) (fun _ _ _ h => h) (Or.inl ⟨by rfl, ?hy1z0⟩) (by assumption) ?rest1z0
        case hy1z0 => (intro w hSw; (try dsimp only at hSw); go_simp; try (with_reducible rfl))
        simp only [Act.put, List.setIfInBounds_toArray, List.set_cons_zero, List.set_cons_succ]
        refine wpAnyH_take (i := 1) (oi := { dst := some 26, op := Go.Op.nilCheck (Go.Operand.tmp 25), type := 0, pos := "sched.go:51", after := #[{ on := 0, ground := Go.Ground.data }], guard := none }) (v := ?v1z1) rfl (by kernel_rfl) (by kernel_rfl) (by kernel_rfl) (fun _ _ _ h => h) (Or.inl ⟨by rfl, ?hy1z1⟩) (by assumption) ?rest1z1
        case hy1z1 => (intro w hSw; (try dsimp only at hSw); go_simp; try (with_reducible rfl))
        simp only [Act.put, List.setIfInBounds_toArray, List.set_cons_zero, List.set_cons_succ]
        refine wpAnyH_take (i := 2) (oi := { dst := some 27, op := Go.Op.fieldAddr 196 (Go.Operand.tmp 26) 4, type := 0, pos := "sched.go:51", after := #[{ on := 1, ground := Go.Ground.data }], guard := none }) (v := ?v1z2) rfl (by kernel_rfl) (by kernel_rfl) (by kernel_rfl) (fun _ _ _ h => h) (Or.inl ⟨by rfl, ?hy1z2⟩) (by assumption) ?rest1z2
        case hy1z2 => (intro w hSw; (try dsimp only at hSw); go_simp; try (with_reducible rfl))
        simp only [Act.put, List.setIfInBounds_toArray, List.set_cons_zero, List.set_cons_succ]
        refine wpAnyH_take (i := 3) (oi := { dst := some 28, op := Go.Op.load 193 (Go.Operand.tmp 27), type := 193, pos := "sched.go:51", after := #[{ on := 2, ground := Go.Ground.data }], guard := none }) (v := ?v1z3) rfl (by kernel_rfl) (by kernel_rfl) (by kernel_rfl) (fun _ _ _ h => h) (Or.inl ⟨by rfl, ?hy1z3⟩) (by assumption) ?rest1z3
        case hy1z3 => (intro w hSw; (try dsimp only at hSw); go_simp; try (with_reducible rfl))
        simp only [Act.put, List.setIfInBounds_toArray, List.set_cons_zero, List.set_cons_succ]
        refine wpAnyH_take (i := 4) (oi := { dst := some 29, op := Go.Op.load 61 (Go.Operand.tmp 4), type := 61, pos := "sched.go:51", after := #[], guard := none }) (v := ?v1z4) rfl (by kernel_rfl) (by kernel_rfl) (by kernel_rfl) (fun _ _ _ h => h) (Or.inl ⟨by rfl, ?hy1z4⟩) (by assumption) ?rest1z4
        case hy1z4 => (intro w hSw; (try dsimp only at hSw); go_simp; try (with_reducible rfl))
        simp only [Act.put, List.setIfInBounds_toArray, List.set_cons_zero, List.set_cons_succ]
        refine wpAnyH_ready (rs := [5]) (by kernel_rfl) (by simp) ?_
        refine AllReadyH.cons (o := { dst := some 30, op := Go.Op.makeMap 198 none, type := 198, pos := "sched.go:51", after := #[], guard := none }) rfl (fun K hK => ?_) ?_
        ·
          refine step_makeMap (enc := inV) _ rfl 198 rfl (by first | exact hmm _ _ | simp [hmm]) ?_
          intro wm nb hmN hb hbN hszN
          have HB2 := Lib.hid (show Below w1.heap.size w1 wm from ext_trans (by first | exact below_drewN (Below.refl _ _) (nq + 1) | exact below_drewN (below_drewN (Below.refl _ _) nq) 1) hb)
          have HMn := Lib.hid hmN
          have HbN := Lib.hid (show w1.heap.size ≤ nb from by rw [hbN]; exact Nat.le_refl _)
          have HX2 := Lib.hid (HX1.out.ext HB2.out)
          have r0 : wm.cell? ⟨w.heap.size, 0, none⟩ = some (.int .i64 xb) := (HX2.out.cell 0).trans rfl
          have r1 : wm.cell? ⟨w.heap.size, 1, none⟩ = some (.int .i64 xs) := (HX2.out.cell 1).trans rfl
          have r2 : wm.cell? ⟨w.heap.size, 2, none⟩ = some (.int .i64 xp) := (HX2.out.cell 2).trans rfl
          have H2 := Lib.hid (H1.out.ext HB2.out)
          have r5 : wm.cell? ⟨sb, 5, none⟩ = some (.map (some X.hb)) := (H2.out.bk.cell 5).trans rfl
          clear hmN hb hbN hszN
          refine hK.out _ _ ?_ (fun hHeld => ?_)
          · (first | exact ⟨s0, s1, s2, s5⟩ | exact ⟨r0, r1, r2, r5⟩ | exact ⟨q0, q1, q2, q5⟩ | go_keep)
          clear hK K
          try simp only [Act.put, List.setIfInBounds_toArray, List.set_cons_zero, List.set_cons_succ]
          refine wpAnyH_ready (rs := [6]) (by kernel_rfl) (by simp) ?_
          refine AllReadyH.cons (o := { dst := none, op := Go.Op.mapUpdate 193 (Go.Operand.tmp 28) (Go.Operand.tmp 29) (Go.Operand.tmp 30), type := 0, pos := "sched.go:51", after := #[{ on := 3, ground := Go.Ground.data }, { on := 4, ground := Go.Ground.data }, { on := 5, ground := Go.Ground.data }, { on := 0, ground := Go.Ground.phase }, { on := 1, ground := Go.Ground.phase }, { on := 2, ground := Go.Ground.phase }, { on := 3, ground := Go.Ground.phase }, { on := 4, ground := Go.Ground.phase }, { on := 5, ground := Go.Ground.phase }], guard := none }) rfl (fun K hK => ?_) ?_
          ·
            refine step_store_is _ rfl (.tmp 28) (.tmp 29) (.tmp 30) 193 rfl idKey 198 (by kernel_rfl) X.hb _ (by rfl) H2.out.hold (⟨xb, xs, xp⟩ : Id3) (.map (some nb)) (by rfl) (by rfl) ?_
            intro w3 hm3 hg3 hs3
            have HM3 := Lib.hid hm3
            have HG3 := Lib.hid hg3
            have HZ3 := Lib.hid hs3
            have HX3 := Lib.hid (HX2.out.grown hg3 (fun e => by injection e with e; exact H2.out.hold.ne_cells HX2.out e.symm))
            have HS3 := Lib.hid (H2.out.bk.grown hg3 (fun e => by injection e with e; exact H2.out.hold.ne_cells H2.out.bk e.symm))
            have s0 : w3.cell? ⟨w.heap.size, 0, none⟩ = some (.int .i64 xb) := (HX3.out.cell 0).trans rfl
            have s1 : w3.cell? ⟨w.heap.size, 1, none⟩ = some (.int .i64 xs) := (HX3.out.cell 1).trans rfl
            have s2 : w3.cell? ⟨w.heap.size, 2, none⟩ = some (.int .i64 xp) := (HX3.out.cell 2).trans rfl
            have s5 : w3.cell? ⟨sb, 5, none⟩ = some (.map (some X.hb)) := (HS3.out.cell 5).trans rfl
            clear hm3 hg3 hs3
            refine hK.out _ _ ?_ (fun hHeld => ?_)
            · (first | exact ⟨s0, s1, s2, s5⟩ | exact ⟨r0, r1, r2, r5⟩ | exact ⟨q0, q1, q2, q5⟩ | go_keep)
            clear hK K
            try simp only [Act.put]
            refine wpAnyH_done (by kernel_rfl) ?_ _
            have HN3 := Lib.hid (HMn.out.grown HG3.out (fun e => by injection e with e; have := H1.out.hold.lt; have := HbN.out; omega))
            have sl := HX3.out.lt
            have ss := HS3.out.lt
            have hlk4 := (HM3.out.drew).lookup idKey (t := 193) (e := 198) (by kernel_rfl) (zero_ii _) (⟨xb, xs, xp⟩ : Id3)
            simp only [mget_mset_new HM3.out.nodup (by rw [List.map_map]; exact HX0.out), Option.getD_some, idV] at hlk4
            obtain ⟨w5, hrun5, hm5, hg5, hs5⟩ := (HN3.out.drew).store intKey Tryz.underlying198 n (.int .i64 1)
            have HM5 := Lib.hid hm5
            have HG5 := Lib.hid hg5
            have HZ5 := Lib.hid hs5
            simp only [inV] at hrun5
            clear hm5 hg5 hs5 r0 r1 r2 r5 q0 q1 q2 q5
            go_wp2_with fail
            go_region
            go_wp2_with fail
            go_returns
            exact told_new (w := w) (w1 := w1) (w2 := wm) (w3 := w3) (w4 := w3.drew) H1.out (ext_trans HBW.out HB1.out) HX0.out HB2.out HMn.out HbN.out HM3.out HG3.out HZ3.out (below_drewN (Below.refl _ _) 1) HM5.out HG5.out HZ5.out HN.out
          exact AllReadyH.nil
        exact AllReadyH.nil
    · have HV := Lib.hid (show s.told p ⟨xb, xs, xp⟩ n = s from by unfold SchedD.told; rw [if_neg (fun h => hn h.2)])
      clear hh
      by_cases hn1 : n < 1
      · go_enter Tryz.func109, Tryz.ntmps109
        go_upto_region 1 with fail
        rw [← HWW.out]
        go_wp2_with (first
          | (go_at_call 161; refine (sright_c (B := B) (R := R) (p := p) (A := A) (c := c) (s := s) ⟨xb, xs, xp⟩ _ ⟨X, H.out⟩).mono ?_; rw [HH.out]; rintro e w1 ⟨rfl, hb⟩; have HB1 := Lib.hid hb; clear hb))
        go_returns
        rw [HV.out]
        exact ⟨rfl, R, ⟨X, H.out.ext HB1.out⟩, Fr.of_below (ext_trans HBW.out HB1.out), fun k hk => .inl hk⟩
      · have hn4 : 4 < n := by omega
        go_enter Tryz.func109, Tryz.ntmps109
        go_upto_region 1 with fail
        rw [← HWW.out]
        go_wp2_with (first
          | (go_at_call 161; refine (sright_c (B := B) (R := R) (p := p) (A := A) (c := c) (s := s) ⟨xb, xs, xp⟩ _ ⟨X, H.out⟩).mono ?_; rw [HH.out]; rintro e w1 ⟨rfl, hb⟩; have HB1 := Lib.hid hb; clear hb))
        go_returns
        rw [HV.out]
        exact ⟨rfl, R, ⟨X, H.out.ext HB1.out⟩, Fr.of_below (ext_trans HBW.out HB1.out), fun k hk => .inl hk⟩
end
end Go.Proofs.YtlmjjhenoadndaaGreatDoor

/- Who holds what: Lost of the program. -/
namespace Go.Proofs.YtlmjjhenoadndaaGreatDoor
open Go.RowKit Go.Sort

theorem holdOf_in {l : List (Id3 × List Int)} (hn : (l.map (·.1)).Nodup) {y : Id3 × List Int} (hy : y ∈ l) : holdOf l y.1 = y.2 := by
  unfold holdOf
  induction l with
  | nil => cases hy
  | cons a l ih =>
    simp only [List.map_cons, List.nodup_cons] at hn
    rw [List.find?_cons]
    rcases List.mem_cons.1 hy with rfl | hy'
    · simp
    · have hne : a.1 ≠ y.1 := fun e => hn.1 (e ▸ List.mem_map_of_mem hy')
      rw [decide_eq_false hne]
      exact ih hn.2 hy'
theorem holdOf_out {l : List (Id3 × List Int)} {x : Id3} (hx : x ∉ l.map (·.1)) : holdOf l x = [] := by
  unfold holdOf
  rw [List.find?_eq_none.2 (fun y hy h => hx (by have e : y.1 = x := of_decide_eq_true h; rw [← e]; exact List.mem_map_of_mem hy))]
  rfl
theorem holdDrop_upd (f : List Int → List Int) (x : Id3) (l : List (Id3 × List Int)) : holdDrop (holdUpd f x l) x = holdDrop l x := by
  unfold holdDrop holdUpd
  induction l with
  | nil => rfl
  | cons a l ih =>
    rw [List.map_cons, List.filter_cons, List.filter_cons, ih]
    by_cases h : a.1 = x
    · simp [h]
    · simp [h]
section
variable {B sb : Nat} {R : Nat → Prop} {p : PlanD} {A : Option Addr} {c : Nat} {s : SchedD}
theorem run_delete_none (n : Int) (w : World) : (Builtin.delete_ #[198, 3] 0 #[.map none, .int .i64 n]).run Tryz.prog w = .ok (.tuple #[]) w := by
  simp [Builtin.delete_, run_underlying Tryz.underlying198, intKey.check]
theorem SchedAt.holdOf_y {X : SchX} {w : World} (h : SchedAt B sb R p A c X s w) {y : Id3 × Nat × List Int} (hy : y ∈ X.hm) : holdOf s.holds y.1 = y.2.2 := by
  rw [h.hl]
  exact holdOf_in (y := (y.1, y.2.2)) (by rw [List.map_map]; exact h.keys) (List.mem_map.2 ⟨y, hy, rfl⟩)
theorem lost_more {X : SchX} {y : Id3 × Nat × List Int} {n : Int} {w w1 w2 w3 : World} (h : SchedAt B sb R p A c X s w1) (hb : Below w.heap.size w w1) (hy : y ∈ X.hm) (hm : MapIs inV w2 y.2.1 (mdel (y.2.2.map fun m => (m, (.int .i64 1 : Value))) n)) (hg : w1.grownBy w2 (some y.2.1)) (hs : w2.heap.size = w1.heap.size) (hb3 : Below w2.heap.size w2 w3) (hne : delI y.2.2 n ≠ []) :
    STurn B sb R p A c (s.lost y.1 n) w (.returned (.tuple #[])) w3 := by
  have h2 := (h.inner (f := fun m => delI m n) hy (by rw [delI_mdel]; exact hm) hg hs).ext hb3
  have h3 : SchedIs B sb R p A c (s.lost y.1 n) w3 := by
    unfold SchedD.lost holdCut
    rw [h.holdOf_y hy, if_neg hne]
    exact ⟨_, h2⟩
  exact ⟨rfl, R, h3, ((Fr.of_below hb).grown hg (fun k hk => .inl (by injection hk with hk; rw [← hk]; exact (h.rb _ (.inr (.inr ⟨y, hy, rfl⟩))).1))).ext hb3, fun k hk => .inl hk⟩
theorem lost_last {X : SchX} {y : Id3 × Nat × List Int} {n : Int} {w w1 w2 w3 w4 : World} (h : SchedAt B sb R p A c X s w1) (hb : Below w.heap.size w w1) (hy : y ∈ X.hm) (hm : MapIs inV w2 y.2.1 (mdel (y.2.2.map fun m => (m, (.int .i64 1 : Value))) n)) (hg : w1.grownBy w2 (some y.2.1)) (hs : w2.heap.size = w1.heap.size) (hb3 : Below w2.heap.size w2 w3) (he : delI y.2.2 n = [])
    (hm4 : MapIs idV w4 X.hb (mdel (X.hm.map fun y => (y.1, (.map (some y.2.1) : Value))) y.1)) (hg4 : w3.grownBy w4 (some X.hb)) (hs4 : w4.heap.size = w3.heap.size) :
    STurn B sb R p A c (s.lost y.1 n) w (.returned (.tuple #[])) w4 := by
  have h2 := (h.inner (f := fun m => delI m n) hy (by rw [delI_mdel]; exact hm) hg hs).ext hb3
  have h3 := h2.outer y.1 (by show MapIs idV w4 X.hb (mdel ((hmUpd _ y.1 X.hm).map _) y.1); rw [hmUpd_blk]; exact hm4) hg4 hs4
  have h4 : SchedIs B sb R p A c (s.lost y.1 n) w4 := by
    unfold SchedD.lost holdCut
    rw [h.holdOf_y hy, if_pos he, ← holdDrop_upd (fun m => delI m n)]
    exact ⟨_, h3⟩
  exact ⟨rfl, R, h4, (((Fr.of_below hb).grown hg (fun k hk => .inl (by injection hk with hk; rw [← hk]; exact (h.rb _ (.inr (.inr ⟨y, hy, rfl⟩))).1))).ext hb3).grown hg4 (fun k hk => .inl (by injection hk with hk; rw [← hk]; exact (h.rb _ (.inl rfl)).1)), fun k hk => .inl hk⟩
theorem lost_none {X : SchX} {x : Id3} {n : Int} {w w3 w4 : World} (h : SchedAt B sb R p A c X s w3) (hb : Below w.heap.size w w3) (hx : x ∉ X.hm.map (·.1)) (hm4 : MapIs idV w4 X.hb (mdel (X.hm.map fun y => (y.1, (.map (some y.2.1) : Value))) x)) (hg4 : w3.grownBy w4 (some X.hb)) (hs4 : w4.heap.size = w3.heap.size) :
    STurn B sb R p A c (s.lost x n) w (.returned (.tuple #[])) w4 := by
  have h3 := h.outer x hm4 hg4 hs4
  have h4 : SchedIs B sb R p A c (s.lost x n) w4 := by
    unfold SchedD.lost holdCut
    rw [holdOf_out (by rw [h.hl, List.map_map]; exact hx), if_pos (show delI [] n = [] from rfl)]
    exact ⟨_, h3⟩
  exact ⟨rfl, R, h4, (Fr.of_below hb).grown hg4 (fun k hk => .inl (by injection hk with hk; rw [← hk]; exact (h.rb _ (.inl rfl)).1)), fun k hk => .inl hk⟩
set_option maxRecDepth 100000 in
set_option maxHeartbeats 8000000 in
theorem lost_c (x : Id3) (n : Int) (w : World) (h : SchedIs B sb R p A c s w) : Calls Tryz.prog 110 #[.pointer (some ⟨sb, 0, none⟩), .agg #[.int .i64 x.b, .int .i64 x.s, .int .i64 x.p, .int .i64 n]] w (STurn B sb R p A c (s.lost x n) w) := by
  obtain ⟨X, h⟩ := h
  obtain ⟨xb, xs, xp⟩ := x
  obtain ⟨W, hW⟩ : ∃ W, W = w.alloc (.cells #[.int .i64 xb, .int .i64 xs, .int .i64 xp, .int .i64 n] 92 (0, 0)) := ⟨_, rfl⟩
  have HBW := Lib.hid (show Below w.heap.size w W from by rw [hW]; exact ext_alloc (Below.refl _ _) _)
  have HXW := Lib.hid (show Bk W w.heap.size 92 #[.int .i64 xb, .int .i64 xs, .int .i64 xp, .int .i64 n] from by rw [hW]; exact Bk.new _ _ _)
  have H := Lib.hid (h.ext HBW.out)
  have HWW := Lib.hid hW
  clear h hW
  have c0 : W.cell? ⟨w.heap.size, 0, none⟩ = some (.int .i64 xb) := (HXW.out.cell 0).trans rfl
  have c1 : W.cell? ⟨w.heap.size, 1, none⟩ = some (.int .i64 xs) := (HXW.out.cell 1).trans rfl
  have c2 : W.cell? ⟨w.heap.size, 2, none⟩ = some (.int .i64 xp) := (HXW.out.cell 2).trans rfl
  have c3 : W.cell? ⟨w.heap.size, 3, none⟩ = some (.int .i64 n) := (HXW.out.cell 3).trans rfl
  have c5 : W.cell? ⟨sb, 5, none⟩ = some (.map (some X.hb)) := (H.out.bk.cell 5).trans rfl
  have l0 := HXW.out.lt
  have ls := H.out.bk.lt
  by_cases hx : (⟨xb, xs, xp⟩ : Id3) ∈ X.hm.map (·.1)
  · obtain ⟨y, hy, hyx⟩ := List.mem_map.1 hx
    have HY := Lib.hid hy
    have HYX := Lib.hid hyx
    have HG := Lib.hid (show mget (X.hm.map fun y => (y.1, (.map (some y.2.1) : Value))) ⟨xb, xs, xp⟩ = some (.map (some y.2.1)) from by rw [← hyx]; exact mget_hm_some H.out.keys hy)
    have hlk := (H.out.hold.drew).lookup idKey (t := 193) (e := 198) (by kernel_rfl) (zero_ii _) (⟨xb, xs, xp⟩ : Id3)
    simp only [HG.out, Option.getD_some, idV] at hlk
    obtain ⟨w2, hrun2, hm2, hg2, hs2⟩ := ((H.out.inn y hy).drew).drop intKey Tryz.underlying198 0 n
    have HM2 := Lib.hid hm2
    have HG2 := Lib.hid hg2
    have HZ2 := Lib.hid hs2
    simp only [inV] at hrun2
    have HX2 := Lib.hid ((HXW.out.ext (below_drewN (Below.refl _ _) 1)).grown hg2 (fun e => by injection e with e; exact (H.out.inn y hy).ne_cells HXW.out e.symm))
    have HS2 := Lib.hid ((H.out.bk.ext (below_drewN (Below.refl _ _) 1)).grown hg2 (fun e => by injection e with e; exact (H.out.inn y hy).ne_cells H.out.bk e.symm))
    have q0 : w2.cell? ⟨w.heap.size, 0, none⟩ = some (.int .i64 xb) := (HX2.out.cell 0).trans rfl
    have q1 : w2.cell? ⟨w.heap.size, 1, none⟩ = some (.int .i64 xs) := (HX2.out.cell 1).trans rfl
    have q2 : w2.cell? ⟨w.heap.size, 2, none⟩ = some (.int .i64 xp) := (HX2.out.cell 2).trans rfl
    have q5 : w2.cell? ⟨sb, 5, none⟩ = some (.map (some X.hb)) := (HS2.out.cell 5).trans rfl
    have ql := HX2.out.lt
    have qs := HS2.out.lt
    have HH2 := Lib.hid ((H.out.hold.drew).grown hg2 (fun e => by injection e with e; exact (H.out.hi y hy).1 e.symm))
    have hlk2 := fun m => (HH2.out.drewN m).lookup idKey (t := 193) (e := 198) (by kernel_rfl) (zero_ii _) (⟨xb, xs, xp⟩ : Id3)
    simp only [HG.out, Option.getD_some, idV] at hlk2
    have hln := fun m => (hm2.drewN m).len Tryz.underlying198 3
    have hll : (mdel (y.2.2.map fun n => (n, (.int .i64 1 : Value))) n).length = (delI y.2.2 n).length := by rw [← delI_mdel, List.length_map]
    rw [hll] at hln
    clear hx hy hyx hm2 hg2 hs2 hll
    by_cases he : delI y.2.2 n = []
    · have HE := Lib.hid he
      rw [he] at hln
      simp only [List.length_nil, Int.ofNat_zero] at hln
      clear he
      go_enter Tryz.func110, Tryz.ntmps110
      go_upto_region 1 with fail
      rw [← HWW.out]
      go_region
      clear hlk hrun2 c0 c1 c2 c3 c5
      go_wp2_with fail
      go_quiet (fail)
      obtain ⟨w4, hrun4, hm4, hg4, hs4⟩ := (HH2.out.drewN (nq + 1)).drop idKey Tryz.underlying193 0 (⟨xb, xs, xp⟩ : Id3)
      have HM4 := Lib.hid hm4
      have HG4 := Lib.hid hg4
      have HZ4 := Lib.hid hs4
      simp only [idV] at hrun4
      clear hm4 hg4 hs4
      go_wp2_with fail
      go_region
      go_wp2_with fail
      go_returns
      have HF := lost_last (w := w) (w1 := W.drew) (n := n) (w3 := w2.drewN (nq + 1)) (H.out.ext (below_drewN (Below.refl _ _) 1)) (below_drewN HBW.out 1) HY.out HM2.out HG2.out HZ2.out (below_drewN (Below.refl _ _) (nq + 1)) HE.out (by rw [HYX.out]; exact HM4.out) HG4.out HZ4.out
      rw [HYX.out] at HF
      exact HF
    · have HE := Lib.hid he
      obtain ⟨nl, hnl⟩ : ∃ nl, nl = (delI y.2.2 n).length := ⟨_, rfl⟩
      rw [← hnl] at hln
      have hnl0 : ((nl : Int) == 0) = false := by
        have : (delI y.2.2 n).length ≠ 0 := fun h => he (List.eq_nil_of_length_eq_zero h)
        rw [beq_eq_false_iff_ne]
        omega
      clear he hnl
      go_enter Tryz.func110, Tryz.ntmps110
      go_upto_region 1 with fail
      rw [← HWW.out]
      go_region
      clear hlk hrun2 c0 c1 c2 c3 c5
      go_wp2_with fail
      go_quiet (fail)
      go_wp2_with fail
      go_returns
      have HF := lost_more (w := w) (w1 := W.drew) (n := n) (w3 := w2.drewN nq) (H.out.ext (below_drewN (Below.refl _ _) 1)) (below_drewN HBW.out 1) HY.out HM2.out HG2.out HZ2.out (below_drewN (Below.refl _ _) nq) HE.out
      rw [HYX.out] at HF
      exact HF
  · have HX0 := Lib.hid hx
    have HG := Lib.hid (show mget (X.hm.map fun y => (y.1, (.map (some y.2.1) : Value))) ⟨xb, xs, xp⟩ = none from mget_hm_none hx)
    have hlk := (H.out.hold.drew).lookup idKey (t := 193) (e := 198) (by kernel_rfl) (zero_ii _) (⟨xb, xs, xp⟩ : Id3)
    simp only [HG.out, Option.getD_none, idV] at hlk
    have hrd := run_delete_none n
    clear hx
    go_enter Tryz.func110, Tryz.ntmps110
    go_upto_region 1 with fail
    rw [← HWW.out]
    go_region
    go_wp2_with fail
    have hlk2 := fun m => (H.out.hold.drewN m).lookup idKey (t := 193) (e := 198) (by kernel_rfl) (zero_ii _) (⟨xb, xs, xp⟩ : Id3)
    simp only [HG.out, Option.getD_none, idV] at hlk2
    go_quiet (fail)
    obtain ⟨w4, hrun4, hm4, hg4, hs4⟩ := (H.out.hold.drewN (1 + nq + 1)).drop idKey Tryz.underlying193 0 (⟨xb, xs, xp⟩ : Id3)
    have HM4 := Lib.hid hm4
    have HG4 := Lib.hid hg4
    have HZ4 := Lib.hid hs4
    simp only [idV] at hrun4
    clear hm4 hg4 hs4
    go_wp2_with fail
    go_region
    go_wp2_with fail
    go_returns
    exact lost_none (w := w) (w3 := W.drewN (1 + nq + 1)) (n := n) (H.out.ext (below_drewN (Below.refl _ _) (1 + nq + 1))) (below_drewN HBW.out (1 + nq + 1)) HX0.out HM4.out HG4.out HZ4.out
end
end Go.Proofs.YtlmjjhenoadndaaGreatDoor

/- The driver: Hear of the program, MDone and MFail. (Printed by mkhear.py.) -/
namespace Go.Proofs.YtlmjjhenoadndaaGreatDoor
open Go.RowKit Go.Sort

def DrvD.tolds (v : DrvD) (p : PlanD) (x : Id3) (n : Int) : DrvD := ⟨v.s.told p x n, v.x, v.n, v.next, v.life, v.gone⟩
def DrvD.losts (v : DrvD) (x : Id3) (n : Int) : DrvD := ⟨v.s.lost x n, v.x, v.n, v.next, v.life, v.gone⟩
section
variable {B : Nat} {X : DrvX} {p : PlanD} {A : Option Addr} {c : Nat} {v : DrvD} {d : DiskD}
set_option maxRecDepth 100000 in
set_option maxHeartbeats 16000000 in
theorem hear_told (m : MsgD) (w : World) (h : DrvAt B X p A c v d w) (hk : m.kind = 2) (hlf : d.life + 2 ≤ 1000000) :
    Calls Tryz.prog 45 #[.pointer (some ⟨X.vb, 0, none⟩), .agg m.cs] w (HPost B X p A c (hearD p v (v.tolds p m.id m.worker) d) w) := by
  have HX := Lib.hid (Bk.new w 94 m.cs)
  have HU := Lib.hid (vup_c _ (h.ext (ext_alloc (Below.refl w.heap.size w) (.cells m.cs 94 (0, 0)))))
  have H := Lib.hid h
  have hvl := h.bk.lt
  obtain ⟨mk, mw, mid, mdp, mh, my, ml, mlw, mr, mn⟩ := m
  simp only at hk
  subst hk
  cases hd : v.down d with
  | true =>
    have HD := Lib.hid hd
    have HV := Lib.hid (show hearD p v (v.tolds p mid mw) d = (some 70, v, d) from by unfold hearD; rw [hd]; rfl)
    clear h hd
    go_enter Tryz.func45, Tryz.ntmps45
    go_wp2_with (first
      | (go_at_call 105; refine HU.out.mono ?_; rintro e w1 hpost; obtain ⟨ve, rfl, hE, hb⟩ := hpost.2 HD.out; obtain ⟨n7, hn7⟩ := hE.errN; obtain ⟨T7, y7, rfl⟩ := hn7.iface; have HE := Lib.hid hE; have HB := Lib.hid (ext_trans (ext_alloc (Below.refl w.heap.size w) _) hb); clear hpost hE hb hn7))
    go_ret
    rw [HV.out]
    exact ⟨(fun h => by cases h), fun code h => by cases h; exact ⟨_, _, rfl, HE.out⟩, H.out.turn HB.out⟩
  | false =>
    have HD := Lib.hid hd
    have HV := Lib.hid (show hearD p v (v.tolds p mid mw) d = marksD p 61 (v.tolds p mid mw) d from by unfold hearD; rw [hd]; rfl)
    have hvw := h.vo.1
    clear h hd
    go_enter Tryz.func45, Tryz.ntmps45
    go_upto_region 9 with (first
      | (go_at_call 105; refine HU.out.mono ?_; rintro e w1 hpost; obtain ⟨rfl, hb⟩ := hpost.1 HD.out
         have HX1 := Lib.hid (HX.out.ext hb)
         have H1 := Lib.hid ((H.out.ext (ext_alloc (Below.refl w.heap.size w) (.cells _ 94 (0, 0)))).ext hb)
         have q0 : w1.cell? ⟨w.heap.size, 0, none⟩ = some (.int .i64 2) := (HX1.out.cell 0).trans rfl
         have q1a : w1.cell? ⟨w.heap.size, 2, none⟩ = some (.int .i64 mid.b) := (HX1.out.cell 2).trans rfl
         have q1b : w1.cell? ⟨w.heap.size, 3, none⟩ = some (.int .i64 mid.s) := (HX1.out.cell 3).trans rfl
         have q1c : w1.cell? ⟨w.heap.size, 4, none⟩ = some (.int .i64 mid.p) := (HX1.out.cell 4).trans rfl
         have q1d : w1.cell? ⟨w.heap.size, 1, none⟩ = some (.int .i64 mw) := (HX1.out.cell 1).trans rfl
         have q2 : w1.cell? ⟨X.vb, 0, none⟩ = some (.pointer (some ⟨X.sb, 0, none⟩)) := (H1.out.bk.cell 0).trans rfl
         have ql := HX1.out.lt
         have qv := H1.out.bk.lt
         have HB := Lib.hid (ext_trans (ext_alloc (Below.refl w.heap.size w) _) hb); clear hpost hb))
    refine wp_region_held_drew (S := (fun w' => w'.cell? ⟨X.vb, 0, none⟩ = some (.pointer (some ⟨X.sb, 0, none⟩)) ∧ w'.cell? ⟨w.heap.size, 0, none⟩ = some (.int .i64 2) ∧ w'.cell? ⟨w.heap.size, 2, none⟩ = some (.int .i64 mid.b) ∧ w'.cell? ⟨w.heap.size, 3, none⟩ = some (.int .i64 mid.s) ∧ w'.cell? ⟨w.heap.size, 4, none⟩ = some (.int .i64 mid.p) ∧ w'.cell? ⟨w.heap.size, 1, none⟩ = some (.int .i64 mw))) (by kernel_rfl) ?_ (fun hHeld => ?_)
    · (first | exact ⟨r2, r0, r1a, r1b, r1c, r1d⟩ | exact ⟨q2, q0, q1a, q1b, q1c, q1d⟩ | go_keep)
    refine wpAnyH_take (i := 0) (oi := { dst := some 24, op := Go.Op.move (Go.Operand.tmp 0), type := 86, pos := "driver.go:117", after := #[], guard := none }) (v := ?v1z0) rfl (by kernel_rfl) (by kernel_rfl) (by kernel_rfl) (fun _ _ _ h => h) (Or.inl ⟨by rfl, ?hy1z0⟩) (by assumption) ?rest1z0
    case hy1z0 => (intro w hSw; (try dsimp only at hSw); go_simp; try (with_reducible rfl))
    simp only [Act.put, List.setIfInBounds_toArray, List.set_cons_zero, List.set_cons_succ]
    refine wpAnyH_take (i := 1) (oi := { dst := some 25, op := Go.Op.nilCheck (Go.Operand.tmp 24), type := 0, pos := "driver.go:117", after := #[{ on := 0, ground := Go.Ground.data }], guard := none }) (v := ?v1z1) rfl (by kernel_rfl) (by kernel_rfl) (by kernel_rfl) (fun _ _ _ h => h) (Or.inl ⟨by rfl, ?hy1z1⟩) (by assumption) ?rest1z1
    case hy1z1 => (intro w hSw; (try dsimp only at hSw); go_simp; try (with_reducible rfl))
    simp only [Act.put, List.setIfInBounds_toArray, List.set_cons_zero, List.set_cons_succ]
    refine wpAnyH_take (i := 2) (oi := { dst := some 26, op := Go.Op.fieldAddr 106 (Go.Operand.tmp 25) 0, type := 0, pos := "driver.go:117", after := #[{ on := 1, ground := Go.Ground.data }], guard := none }) (v := ?v1z2) rfl (by kernel_rfl) (by kernel_rfl) (by kernel_rfl) (fun _ _ _ h => h) (Or.inl ⟨by rfl, ?hy1z2⟩) (by assumption) ?rest1z2
    case hy1z2 => (intro w hSw; (try dsimp only at hSw); go_simp; try (with_reducible rfl))
    simp only [Act.put, List.setIfInBounds_toArray, List.set_cons_zero, List.set_cons_succ]
    refine wpAnyH_take (i := 3) (oi := { dst := some 27, op := Go.Op.load 104 (Go.Operand.tmp 26), type := 104, pos := "driver.go:117", after := #[{ on := 2, ground := Go.Ground.data }], guard := none }) (v := ?v1z3) rfl (by kernel_rfl) (by kernel_rfl) (by kernel_rfl) (fun _ _ _ h => h) (Or.inl ⟨by rfl, ?hy1z3⟩) (by assumption) ?rest1z3
    case hy1z3 => (intro w hSw; (try dsimp only at hSw); go_simp; try (with_reducible rfl))
    simp only [Act.put, List.setIfInBounds_toArray, List.set_cons_zero, List.set_cons_succ]
    refine wpAnyH_take (i := 4) (oi := { dst := some 28, op := Go.Op.fieldAddr 94 (Go.Operand.tmp 3) 2, type := 0, pos := "driver.go:117", after := #[], guard := none }) (v := ?v1z4) rfl (by kernel_rfl) (by kernel_rfl) (by kernel_rfl) (fun _ _ _ h => h) (Or.inl ⟨by rfl, ?hy1z4⟩) (by assumption) ?rest1z4
    case hy1z4 => (intro w hSw; (try dsimp only at hSw); go_simp; try (with_reducible rfl))
    simp only [Act.put, List.setIfInBounds_toArray, List.set_cons_zero, List.set_cons_succ]
    refine wpAnyH_take (i := 5) (oi := { dst := some 29, op := Go.Op.load 61 (Go.Operand.tmp 28), type := 61, pos := "driver.go:117", after := #[{ on := 4, ground := Go.Ground.data }], guard := none }) (v := ?v1z5) rfl (by kernel_rfl) (by kernel_rfl) (by kernel_rfl) (fun _ _ _ h => h) (Or.inl ⟨by rfl, ?hy1z5⟩) (by assumption) ?rest1z5
    case hy1z5 => (intro w hSw; (try dsimp only at hSw); go_simp; try (with_reducible rfl))
    simp only [Act.put, List.setIfInBounds_toArray, List.set_cons_zero, List.set_cons_succ]
    refine wpAnyH_take (i := 6) (oi := { dst := some 30, op := Go.Op.fieldAddr 94 (Go.Operand.tmp 3) 1, type := 0, pos := "driver.go:117", after := #[], guard := none }) (v := ?v1z6) rfl (by kernel_rfl) (by kernel_rfl) (by kernel_rfl) (fun _ _ _ h => h) (Or.inl ⟨by rfl, ?hy1z6⟩) (by assumption) ?rest1z6
    case hy1z6 => (intro w hSw; (try dsimp only at hSw); go_simp; try (with_reducible rfl))
    simp only [Act.put, List.setIfInBounds_toArray, List.set_cons_zero, List.set_cons_succ]
    refine wpAnyH_take (i := 7) (oi := { dst := some 31, op := Go.Op.load 3 (Go.Operand.tmp 30), type := 3, pos := "driver.go:117", after := #[{ on := 6, ground := Go.Ground.data }], guard := none }) (v := ?v1z7) rfl (by kernel_rfl) (by kernel_rfl) (by kernel_rfl) (fun _ _ _ h => h) (Or.inl ⟨by rfl, ?hy1z7⟩) (by assumption) ?rest1z7
    case hy1z7 => (intro w hSw; (try dsimp only at hSw); go_simp; try (with_reducible rfl))
    simp only [Act.put, List.setIfInBounds_toArray, List.set_cons_zero, List.set_cons_succ]
    refine wpAnyH_ready (rs := [8]) (by kernel_rfl) (by simp) ?_
    refine AllReadyH.cons (o := { dst := some 32, op := Go.Op.call { callee := Go.Callee.value (Go.Operand.func 109), args := #[Go.Operand.tmp 27, Go.Operand.tmp 29, Go.Operand.tmp 31], argTypes := #[104, 61, 3] }, type := 0, pos := "driver.go:117", after := #[{ on := 3, ground := Go.Ground.data }, { on := 5, ground := Go.Ground.data }, { on := 7, ground := Go.Ground.data }], guard := none }) rfl (fun K hK => ?_) ?_
    ·
      go_simp
      go_at_call 109
      refine (told_c mid mw _ (H1.out.ext (below_drewN (Below.refl _ _) 1)).sched).mono ?_
      rintro e w2 hT
      obtain rfl := hT.1
      have HTu := Lib.hid (((H1.out.ext (below_drewN (Below.refl _ _) 1)).sturn hT (told_every _ _ _ _)))
      obtain ⟨_, R9, _, hF9, _⟩ := hT
      have hs9 : w1.heap.size ≤ w2.heap.size := hF9.size
      have hnb : ¬ X.Rs w.heap.size := fun hk => by have := (H.out.sched.bd _ hk).2; omega
      have r2 := (World.cell?_of_block (a := ⟨X.vb, 0, none⟩) (hF9.block X.vb qv hvw)).trans q2
      have r0 := (World.cell?_of_block (a := ⟨w.heap.size, 0, none⟩) (hF9.block w.heap.size ql hnb)).trans q0
      have r1a := (World.cell?_of_block (a := ⟨w.heap.size, 2, none⟩) (hF9.block w.heap.size ql hnb)).trans q1a
      have r1b := (World.cell?_of_block (a := ⟨w.heap.size, 3, none⟩) (hF9.block w.heap.size ql hnb)).trans q1b
      have r1c := (World.cell?_of_block (a := ⟨w.heap.size, 4, none⟩) (hF9.block w.heap.size ql hnb)).trans q1c
      have r1d := (World.cell?_of_block (a := ⟨w.heap.size, 1, none⟩) (hF9.block w.heap.size ql hnb)).trans q1d
      clear hF9
      refine hK.out _ _ ?_ (fun hHeld => ?_)
      · (first | exact ⟨r2, r0, r1a, r1b, r1c, r1d⟩ | exact ⟨q2, q0, q1a, q1b, q1c, q1d⟩ | go_keep)
      clear hK K
      try simp only [Act.put, List.setIfInBounds_toArray, List.set_cons_zero, List.set_cons_succ]
      refine wpAnyH_done (by kernel_rfl) ?_ _
      obtain ⟨X2, hX2, hXv, hXr⟩ := (VTurn.pre (HTu.out) (below_drewN (Below.refl w1.heap.size w1) 1))
      have H2 := Lib.hid hX2
      have HT2 := Lib.hid (VTurn.pre (show VTurn B X p A c _ d w1 w2 from ⟨X2, hX2, hXv, hXr⟩) HB.out)
      have s0 : w2.cell? ⟨X.vb, 0, none⟩ = some (.pointer (some ⟨X2.sb, 0, none⟩)) := by rw [← hXv]; exact (hX2.bk.cell 0).trans rfl
      have sl : X.vb < w2.heap.size := by rw [← hXv]; exact hX2.bk.lt
      have hm60 : v.x.marked ≤ 60 := by have := H.out.pre.wal.inn.mkd; have := H.out.pre.wal.inn.nc; omega
      have HMk := Lib.hid (fun q => (show Calls Tryz.prog 46 #[.pointer (some ⟨X.vb, 0, none⟩)] (w2.drewN q) (Val (w2.drewN q) (.int .i64 (v.x.marked : Nat))) from by rw [← hXv]; exact vMark_c (v := v.tolds p mid mw) _ (H2.out.ext (below_drewN (Below.refl _ _) q))))
      obtain ⟨du, hdu⟩ : ∃ du, du = dueD (v.tolds p mid mw).s.every (v.tolds p mid mw).s.known (v.tolds p mid mw).x.marked := ⟨_, rfl⟩
      have HDu := Lib.hid (fun q => (show Calls Tryz.prog 112 #[.pointer (some ⟨X2.sb, 0, none⟩), .int .i64 (v.x.marked : Nat)] (w2.drewN q) (fun e w' => e = .returned (.int .i64 (du : Nat)) ∧ ∃ q', w' = w2.drewN q') from by rw [hdu]; exact (due_c v.x.marked (w2.drewN q) (H2.out.sched.ext (below_drewN (Below.refl _ _) q)) (by omega)).mono (fun e w' ⟨h1, q', h2⟩ => ⟨h1, q + q', by rw [h2]; simp⟩)))
      clear r2 hHeld hX2 hXr hXv HTu r1a r1b r1c r1d
      go_wp2_with fail
      clear r0
      go_quiet (first
        | (go_at_call 46; exact quiet_val (HMk.out _))
        | (go_at_call 112; exact HDu.out _))
      go_wp2_with fail
      rw [hdu]
      have HT3 := Lib.hid (HT2.out.ext (below_drewN (Below.refl w2.heap.size w2) nq))
      clear HMk HDu hdu s0 sl
      go_loopg [4, 6, 7, 8] 61 (fun gk v4 v6 v7 v8 wr => ∃ (v1 : DrvD) (d1 : DiskD), v4 = .nilIface ∧ v6 = .int .i64 (dueD v1.s.every v1.s.known v1.x.marked : Nat) ∧ Hid (VTurn B X p A c v1 d1 w wr) ∧ Hid (hearD p v (v.tolds p mid mw) d = marksD p gk v1 d1) ∧ 61 ≤ gk + v1.x.marked ∧ d1.life = d.life)
      case atStart => exact ⟨v.tolds p mid mw, d, rfl, rfl, HT3, HV, by omega, rfl⟩
      case round =>
        obtain ⟨v1, d1, rfl, rfl, hT, hM, hge, hlf1⟩ := hrel
        obtain ⟨X1, hX1, hXv, hXr⟩ := hT.out
        have H4 := Lib.hid hX1
        have HXv := Lib.hid hXv
        have HXr := Lib.hid hXr
        have s0 : wr.cell? ⟨X.vb, 0, none⟩ = some (.pointer (some ⟨X1.sb, 0, none⟩)) := by rw [← hXv]; exact (hX1.bk.cell 0).trans rfl
        have s4 : wr.cell? ⟨X.vb, 4, none⟩ = some (.pointer (some ⟨X1.wb, 0, none⟩)) := by rw [← hXv]; exact (hX1.bk.cell 4).trans rfl
        have sl : X.vb < wr.heap.size := by rw [← hXv]; exact hX1.bk.lt
        have hin := hX1.pre.wal.inn
        have hm1 : v1.x.marked ≤ 60 := by have := hin.mkd; have := hin.nc; omega
        have hev1 : 1 ≤ v1.s.every := by obtain ⟨Y, hY⟩ := hX1.sched; exact hY.every.1
        have hgk : 0 < gk := by omega
        obtain ⟨g, rfl⟩ : ∃ g, gk = g + 1 := ⟨gk - 1, by omega⟩
        have hDG := Lib.hid (fun h0 => due_gt (m := v1.x.marked) (known := v1.s.known) hev1 h0)
        obtain ⟨b, hb⟩ : ∃ b, b = dueD v1.s.every v1.s.known v1.x.marked := ⟨_, rfl⟩
        have HMs := Lib.hid (show marksD p (g + 1) v1 d1 = (if b = 0 ∨ unsavedL p v1.s.saved (b : Nat) ≠ [] then (none, v1, d1) else match (v1.step d1 (markE v1.x (b : Nat)) (.mark b)).1 with
          | none => marksD p g (v1.step d1 (markE v1.x (b : Nat)) (.mark b)).2.1 (v1.step d1 (markE v1.x (b : Nat)) (.mark b)).2.2
          | some _ => v1.step d1 (markE v1.x (b : Nat)) (.mark b)) from by rw [hb]; rfl)
        rw [← hb] at hDG ⊢
        clear hb hX1 hXv hXr hin
        by_cases hb0 : b = 0
        · subst hb0
          have HE := Lib.hid (hM.out.trans (HMs.out.trans (if_pos (.inl rfl))))
          go_wp2_with fail
          go_ret
          rw [HE.out]
          exact ⟨fun _ => rfl, (fun code h => by cases h), hT.out⟩
        · have hbI : ((b : Nat) : Int) ≠ 0 := by omega
          have hbn : (((b : Nat) : Int) != 0) = true := by rw [bne_iff_ne]; exact hbI
          obtain ⟨hb1, hb60, hb2, hb3, hb4⟩ := hDG.out hb0
          have HWh := Lib.hid (whole_c (b : Nat) wr H4.out.sched)
          cases hun : decide (unsavedL p v1.s.saved (b : Nat) = []) with
          | false =>
            rw [hun] at HWh
            have HE := Lib.hid (hM.out.trans (HMs.out.trans (if_pos (.inr (of_decide_eq_false hun)))))
            clear hun
            go_wp2_with (first
              | (go_at_call 113; refine HWh.out.mono ?_; rintro e w5 ⟨rfl, hb5⟩; have HB5 := Lib.hid hb5; clear hb5))
            go_ret
            rw [HE.out]
            exact ⟨fun _ => rfl, (fun code h => by cases h), hT.out.ext HB5.out⟩
          | true =>
            rw [hun] at HWh
            have hor : ¬ (b = 0 ∨ unsavedL p v1.s.saved (b : Nat) ≠ []) := fun h => h.elim hb0 (fun h => h (of_decide_eq_true hun))
            cases hy : (stepW d1 v1.life v1.n v1.next (markE v1.x (b : Nat)) (.mark b)).2 with
            | none =>
              have HY := Lib.hid hy
              have HP2 := (show v1.step d1 (markE v1.x (b : Nat)) (.mark b) = (none, v1.app (.mark b), (stepW d1 v1.life v1.n v1.next (markE v1.x (b : Nat)) (.mark b)).1) from by unfold DrvD.step; simp only [hy])
              have HE := Lib.hid (show hearD p v (v.tolds p mid mw) d = marksD p g (v1.app (.mark b)) (stepW d1 v1.life v1.n v1.next (markE v1.x (b : Nat)) (.mark b)).1 from by rw [hM.out, HMs.out, if_neg hor, HP2])
              have HLf := Lib.hid (stepW_life (life := v1.life) H4.out.pre.ok H4.out.pre.disk.room_le.2.1 (fun h0 => markE_ok h0) hy)
              clear hun hy hor HP2
              go_wp2_with (first
                | (go_at_call 113; refine HWh.out.mono ?_; rintro e w5 ⟨rfl, hb5⟩; have HB5 := Lib.hid hb5
                   have H5 := Lib.hid (H4.out.ext hb5)
                   have q4 := (World.cell?_of_block (a := ⟨X.vb, 4, none⟩) (hb5.block _ sl)).trans s4
                   clear hb5)
                | (go_at_call 114; refine (wMark_c b _ H5.out.pre).mono ?_; rintro e w6 hs; obtain ⟨rfl, _⟩ := hs.1 HY.out; have HT6 := Lib.hid (H5.out.yes (fun h0 => markE_ok h0) (by omega) HY.out hs); clear hs)
                | (go_at_call 106; refine (told_ok (X := X) _ _).mono ?_; rintro e w7 ⟨rfl, hb7⟩; have HB7 := Lib.hid hb7; clear hb7))
              obtain ⟨X7, hX7, h7v, h7r⟩ := (HT6.out.pre HB5.out).ext HB7.out
              have hX7v : X7.vb = X.vb := h7v.trans HXv.out
              have H7 := Lib.hid hX7
              have HT7 := Lib.hid (hT.out.trans2 H4.out ⟨HXv.out, HXr.out⟩ ⟨X7, hX7, h7v, h7r⟩)
              have t0 : w7.cell? ⟨X.vb, 0, none⟩ = some (.pointer (some ⟨X7.sb, 0, none⟩)) := by rw [← hX7v]; exact (hX7.bk.cell 0).trans rfl
              have tl : X.vb < w7.heap.size := by rw [← hX7v]; exact hX7.bk.lt
              have HMk := Lib.hid (fun q => (show Calls Tryz.prog 46 #[.pointer (some ⟨X.vb, 0, none⟩)] (w7.drewN q) (Val (w7.drewN q) (.int .i64 (b : Nat))) from by rw [← hX7v]; exact vMark_c (v := v1.app (.mark b)) _ (H7.out.ext (below_drewN (Below.refl _ _) q))))
              obtain ⟨du, hdu⟩ : ∃ du, du = dueD v1.s.every v1.s.known b := ⟨_, rfl⟩
              have HDu := Lib.hid (fun q => (show Calls Tryz.prog 112 #[.pointer (some ⟨X7.sb, 0, none⟩), .int .i64 (b : Nat)] (w7.drewN q) (fun e w' => e = .returned (.int .i64 (du : Nat)) ∧ ∃ q', w' = w7.drewN q') from by rw [hdu]; exact (due_c b (w7.drewN q) (H7.out.sched.ext (below_drewN (Below.refl _ _) q)) (by omega)).mono (fun e w' ⟨h1, q', h2⟩ => ⟨h1, q + q', by rw [h2]; simp⟩)))
              clear hX7 h7v h7r hX7v
              go_quiet (first
                | (go_at_call 46; exact quiet_val (HMk.out _))
                | (go_at_call 112; exact HDu.out _))
              go_wp2_with fail
              rw [hdu]
              go_roundg g
              case measure => omega
              case rel => exact ⟨v1.app (.mark b), _, rfl, rfl, Lib.hid (HT7.out.ext (below_drewN (Below.refl _ _) _)), HE, by show 61 ≤ g + b; omega, HLf.out.trans hlf1⟩
            | some code =>
              have HY := Lib.hid hy
              have HP2 := (show v1.step d1 (markE v1.x (b : Nat)) (.mark b) = (some code, v1.no code, (stepW d1 v1.life v1.n v1.next (markE v1.x (b : Nat)) (.mark b)).1) from by unfold DrvD.step; simp only [hy])
              have HE := Lib.hid (show hearD p v (v.tolds p mid mw) d = (some code, v1.no code, (stepW d1 v1.life v1.n v1.next (markE v1.x (b : Nat)) (.mark b)).1) from by rw [hM.out, HMs.out, if_neg hor, HP2])
              clear hun hy hor HP2
              go_wp2_with (first
                | (go_at_call 113; refine HWh.out.mono ?_; rintro e w5 ⟨rfl, hb5⟩; have HB5 := Lib.hid hb5
                   have H5 := Lib.hid (H4.out.ext hb5)
                   have q4 := (World.cell?_of_block (a := ⟨X.vb, 4, none⟩) (hb5.block _ sl)).trans s4
                   clear hb5)
                | (go_at_call 114; refine (wMark_c b _ H5.out.pre).mono ?_; rintro e w6 hs; obtain ⟨v7, a7, rfl, hE, _⟩ := hs.2 code HY.out
                   obtain ⟨n7, hn7⟩ := hE.errN; obtain ⟨T7, y7, rfl⟩ := hn7.iface
                   obtain ⟨X6, hX6, h6v, h6r⟩ := H5.out.noo (fun h0 => markE_ok h0) (by omega) HY.out hs
                   have HX6 := Lib.hid hX6; have H6v := Lib.hid (h6v.trans HXv.out); have H6w := Lib.hid h6v; have H6r := Lib.hid h6r; have HN7 := Lib.hid hn7
                   clear hs hE hn7 hX6 h6v h6r)
                | (go_at_call 106; rw [← H6v.out]; refine (told_no _ _ _ n7 code _ HX6.out HN7.out).mono ?_; rintro e w8 ⟨ve, rfl, hE, hT8⟩; obtain ⟨n9, hn9⟩ := hE.errN; obtain ⟨T9, y9, rfl⟩ := hn9.iface; clear hn9; have HE8 := Lib.hid hE; have HT8 := Lib.hid hT8; clear hE hT8))
              go_ret
              rw [HE.out]
              exact ⟨(fun h => by cases h), fun code' h => by cases h; exact ⟨_, 0, rfl, HE8.out⟩, hT.out.trans2 H4.out ⟨HXv.out, HXr.out⟩ (noo_turn HB5.out ⟨H6w.out, H6r.out⟩ HX6.out HT8.out)⟩
    exact AllReadyH.nil
set_option maxRecDepth 100000 in
set_option maxHeartbeats 16000000 in
theorem hear_lost (m : MsgD) (w : World) (h : DrvAt B X p A c v d w) (hk : m.kind = 3) (hlf : d.life + 2 ≤ 1000000) :
    Calls Tryz.prog 45 #[.pointer (some ⟨X.vb, 0, none⟩), .agg m.cs] w (HPost B X p A c (hearD p v (v.losts m.lost m.lw) d) w) := by
  have HX := Lib.hid (Bk.new w 94 m.cs)
  have HU := Lib.hid (vup_c _ (h.ext (ext_alloc (Below.refl w.heap.size w) (.cells m.cs 94 (0, 0)))))
  have H := Lib.hid h
  have hvl := h.bk.lt
  obtain ⟨mk, mw, mid, mdp, mh, my, ml, mlw, mr, mn⟩ := m
  simp only at hk
  subst hk
  cases hd : v.down d with
  | true =>
    have HD := Lib.hid hd
    have HV := Lib.hid (show hearD p v (v.losts ml mlw) d = (some 70, v, d) from by unfold hearD; rw [hd]; rfl)
    clear h hd
    go_enter Tryz.func45, Tryz.ntmps45
    go_wp2_with (first
      | (go_at_call 105; refine HU.out.mono ?_; rintro e w1 hpost; obtain ⟨ve, rfl, hE, hb⟩ := hpost.2 HD.out; obtain ⟨n7, hn7⟩ := hE.errN; obtain ⟨T7, y7, rfl⟩ := hn7.iface; have HE := Lib.hid hE; have HB := Lib.hid (ext_trans (ext_alloc (Below.refl w.heap.size w) _) hb); clear hpost hE hb hn7))
    go_ret
    rw [HV.out]
    exact ⟨(fun h => by cases h), fun code h => by cases h; exact ⟨_, _, rfl, HE.out⟩, H.out.turn HB.out⟩
  | false =>
    have HD := Lib.hid hd
    have HV := Lib.hid (show hearD p v (v.losts ml mlw) d = marksD p 61 (v.losts ml mlw) d from by unfold hearD; rw [hd]; rfl)
    have hvw := h.vo.1
    clear h hd
    go_enter Tryz.func45, Tryz.ntmps45
    go_upto_region 10 with (first
      | (go_at_call 105; refine HU.out.mono ?_; rintro e w1 hpost; obtain ⟨rfl, hb⟩ := hpost.1 HD.out
         have HX1 := Lib.hid (HX.out.ext hb)
         have H1 := Lib.hid ((H.out.ext (ext_alloc (Below.refl w.heap.size w) (.cells _ 94 (0, 0)))).ext hb)
         have q0 : w1.cell? ⟨w.heap.size, 0, none⟩ = some (.int .i64 3) := (HX1.out.cell 0).trans rfl
         have q1a : w1.cell? ⟨w.heap.size, 8, none⟩ = some (.int .i64 ml.b) := (HX1.out.cell 8).trans rfl
         have q1b : w1.cell? ⟨w.heap.size, 9, none⟩ = some (.int .i64 ml.s) := (HX1.out.cell 9).trans rfl
         have q1c : w1.cell? ⟨w.heap.size, 10, none⟩ = some (.int .i64 ml.p) := (HX1.out.cell 10).trans rfl
         have q1d : w1.cell? ⟨w.heap.size, 11, none⟩ = some (.int .i64 mlw) := (HX1.out.cell 11).trans rfl
         have q2 : w1.cell? ⟨X.vb, 0, none⟩ = some (.pointer (some ⟨X.sb, 0, none⟩)) := (H1.out.bk.cell 0).trans rfl
         have ql := HX1.out.lt
         have qv := H1.out.bk.lt
         have HB := Lib.hid (ext_trans (ext_alloc (Below.refl w.heap.size w) _) hb); clear hpost hb))
    refine wp_region_held_drew (S := (fun w' => w'.cell? ⟨X.vb, 0, none⟩ = some (.pointer (some ⟨X.sb, 0, none⟩)) ∧ w'.cell? ⟨w.heap.size, 0, none⟩ = some (.int .i64 3) ∧ w'.cell? ⟨w.heap.size, 8, none⟩ = some (.int .i64 ml.b) ∧ w'.cell? ⟨w.heap.size, 9, none⟩ = some (.int .i64 ml.s) ∧ w'.cell? ⟨w.heap.size, 10, none⟩ = some (.int .i64 ml.p) ∧ w'.cell? ⟨w.heap.size, 11, none⟩ = some (.int .i64 mlw))) (by kernel_rfl) ?_ (fun hHeld => ?_)
    · (first | exact ⟨r2, r0, r1a, r1b, r1c, r1d⟩ | exact ⟨q2, q0, q1a, q1b, q1c, q1d⟩ | go_keep)
    refine wpAnyH_take (i := 0) (oi := { dst := some 33, op := Go.Op.move (Go.Operand.tmp 0), type := 86, pos := "driver.go:119", after := #[], guard := none }) (v := ?v2z0) rfl (by kernel_rfl) (by kernel_rfl) (by kernel_rfl) (fun _ _ _ h => h) (Or.inl ⟨by rfl, ?hy2z0⟩) (by assumption) ?rest2z0
    case hy2z0 => (intro w hSw; (try dsimp only at hSw); go_simp; try (with_reducible rfl))
    simp only [Act.put, List.setIfInBounds_toArray, List.set_cons_zero, List.set_cons_succ]
    refine wpAnyH_take (i := 1) (oi := { dst := some 34, op := Go.Op.nilCheck (Go.Operand.tmp 33), type := 0, pos := "driver.go:119", after := #[{ on := 0, ground := Go.Ground.data }], guard := none }) (v := ?v2z1) rfl (by kernel_rfl) (by kernel_rfl) (by kernel_rfl) (fun _ _ _ h => h) (Or.inl ⟨by rfl, ?hy2z1⟩) (by assumption) ?rest2z1
    case hy2z1 => (intro w hSw; (try dsimp only at hSw); go_simp; try (with_reducible rfl))
    simp only [Act.put, List.setIfInBounds_toArray, List.set_cons_zero, List.set_cons_succ]
    refine wpAnyH_take (i := 2) (oi := { dst := some 35, op := Go.Op.fieldAddr 106 (Go.Operand.tmp 34) 0, type := 0, pos := "driver.go:119", after := #[{ on := 1, ground := Go.Ground.data }], guard := none }) (v := ?v2z2) rfl (by kernel_rfl) (by kernel_rfl) (by kernel_rfl) (fun _ _ _ h => h) (Or.inl ⟨by rfl, ?hy2z2⟩) (by assumption) ?rest2z2
    case hy2z2 => (intro w hSw; (try dsimp only at hSw); go_simp; try (with_reducible rfl))
    simp only [Act.put, List.setIfInBounds_toArray, List.set_cons_zero, List.set_cons_succ]
    refine wpAnyH_take (i := 3) (oi := { dst := some 36, op := Go.Op.load 104 (Go.Operand.tmp 35), type := 104, pos := "driver.go:119", after := #[{ on := 2, ground := Go.Ground.data }], guard := none }) (v := ?v2z3) rfl (by kernel_rfl) (by kernel_rfl) (by kernel_rfl) (fun _ _ _ h => h) (Or.inl ⟨by rfl, ?hy2z3⟩) (by assumption) ?rest2z3
    case hy2z3 => (intro w hSw; (try dsimp only at hSw); go_simp; try (with_reducible rfl))
    simp only [Act.put, List.setIfInBounds_toArray, List.set_cons_zero, List.set_cons_succ]
    refine wpAnyH_take (i := 4) (oi := { dst := some 37, op := Go.Op.fieldAddr 94 (Go.Operand.tmp 3) 6, type := 0, pos := "driver.go:119", after := #[], guard := none }) (v := ?v2z4) rfl (by kernel_rfl) (by kernel_rfl) (by kernel_rfl) (fun _ _ _ h => h) (Or.inl ⟨by rfl, ?hy2z4⟩) (by assumption) ?rest2z4
    case hy2z4 => (intro w hSw; (try dsimp only at hSw); go_simp; try (with_reducible rfl))
    simp only [Act.put, List.setIfInBounds_toArray, List.set_cons_zero, List.set_cons_succ]
    refine wpAnyH_take (i := 5) (oi := { dst := some 38, op := Go.Op.load 92 (Go.Operand.tmp 37), type := 92, pos := "driver.go:119", after := #[{ on := 4, ground := Go.Ground.data }], guard := none }) (v := ?v2z5) rfl (by kernel_rfl) (by kernel_rfl) (by kernel_rfl) (fun _ _ _ h => h) (Or.inl ⟨by rfl, ?hy2z5⟩) (by assumption) ?rest2z5
    case hy2z5 => (intro w hSw; (try dsimp only at hSw); go_simp; try (with_reducible rfl))
    simp only [Act.put, List.setIfInBounds_toArray, List.set_cons_zero, List.set_cons_succ]
    refine wpAnyH_ready (rs := [6]) (by kernel_rfl) (by simp) ?_
    refine AllReadyH.cons (o := { dst := some 39, op := Go.Op.call { callee := Go.Callee.value (Go.Operand.func 110), args := #[Go.Operand.tmp 36, Go.Operand.tmp 38], argTypes := #[104, 92] }, type := 0, pos := "driver.go:119", after := #[{ on := 3, ground := Go.Ground.data }, { on := 5, ground := Go.Ground.data }], guard := none }) rfl (fun K hK => ?_) ?_
    ·
      go_simp
      go_at_call 110
      refine (lost_c ml mlw _ (H1.out.ext (below_drewN (Below.refl _ _) 1)).sched).mono ?_
      rintro e w2 hT
      obtain rfl := hT.1
      have HTu := Lib.hid (((H1.out.ext (below_drewN (Below.refl _ _) 1)).sturn hT rfl))
      obtain ⟨_, R9, _, hF9, _⟩ := hT
      have hs9 : w1.heap.size ≤ w2.heap.size := hF9.size
      have hnb : ¬ X.Rs w.heap.size := fun hk => by have := (H.out.sched.bd _ hk).2; omega
      have r2 := (World.cell?_of_block (a := ⟨X.vb, 0, none⟩) (hF9.block X.vb qv hvw)).trans q2
      have r0 := (World.cell?_of_block (a := ⟨w.heap.size, 0, none⟩) (hF9.block w.heap.size ql hnb)).trans q0
      have r1a := (World.cell?_of_block (a := ⟨w.heap.size, 8, none⟩) (hF9.block w.heap.size ql hnb)).trans q1a
      have r1b := (World.cell?_of_block (a := ⟨w.heap.size, 9, none⟩) (hF9.block w.heap.size ql hnb)).trans q1b
      have r1c := (World.cell?_of_block (a := ⟨w.heap.size, 10, none⟩) (hF9.block w.heap.size ql hnb)).trans q1c
      have r1d := (World.cell?_of_block (a := ⟨w.heap.size, 11, none⟩) (hF9.block w.heap.size ql hnb)).trans q1d
      clear hF9
      refine hK.out _ _ ?_ (fun hHeld => ?_)
      · (first | exact ⟨r2, r0, r1a, r1b, r1c, r1d⟩ | exact ⟨q2, q0, q1a, q1b, q1c, q1d⟩ | go_keep)
      clear hK K
      try simp only [Act.put, List.setIfInBounds_toArray, List.set_cons_zero, List.set_cons_succ]
      refine wpAnyH_done (by kernel_rfl) ?_ _
      obtain ⟨X2, hX2, hXv, hXr⟩ := (VTurn.pre (HTu.out) (below_drewN (Below.refl w1.heap.size w1) 1))
      have H2 := Lib.hid hX2
      have HT2 := Lib.hid (VTurn.pre (show VTurn B X p A c _ d w1 w2 from ⟨X2, hX2, hXv, hXr⟩) HB.out)
      have s0 : w2.cell? ⟨X.vb, 0, none⟩ = some (.pointer (some ⟨X2.sb, 0, none⟩)) := by rw [← hXv]; exact (hX2.bk.cell 0).trans rfl
      have sl : X.vb < w2.heap.size := by rw [← hXv]; exact hX2.bk.lt
      have hm60 : v.x.marked ≤ 60 := by have := H.out.pre.wal.inn.mkd; have := H.out.pre.wal.inn.nc; omega
      have HMk := Lib.hid (fun q => (show Calls Tryz.prog 46 #[.pointer (some ⟨X.vb, 0, none⟩)] (w2.drewN q) (Val (w2.drewN q) (.int .i64 (v.x.marked : Nat))) from by rw [← hXv]; exact vMark_c (v := v.losts ml mlw) _ (H2.out.ext (below_drewN (Below.refl _ _) q))))
      obtain ⟨du, hdu⟩ : ∃ du, du = dueD (v.losts ml mlw).s.every (v.losts ml mlw).s.known (v.losts ml mlw).x.marked := ⟨_, rfl⟩
      have HDu := Lib.hid (fun q => (show Calls Tryz.prog 112 #[.pointer (some ⟨X2.sb, 0, none⟩), .int .i64 (v.x.marked : Nat)] (w2.drewN q) (fun e w' => e = .returned (.int .i64 (du : Nat)) ∧ ∃ q', w' = w2.drewN q') from by rw [hdu]; exact (due_c v.x.marked (w2.drewN q) (H2.out.sched.ext (below_drewN (Below.refl _ _) q)) (by omega)).mono (fun e w' ⟨h1, q', h2⟩ => ⟨h1, q + q', by rw [h2]; simp⟩)))
      clear r2 hHeld hX2 hXr hXv HTu r1a r1b r1c r1d
      go_wp2_with fail
      clear r0
      go_quiet (first
        | (go_at_call 46; exact quiet_val (HMk.out _))
        | (go_at_call 112; exact HDu.out _))
      go_wp2_with fail
      rw [hdu]
      have HT3 := Lib.hid (HT2.out.ext (below_drewN (Below.refl w2.heap.size w2) nq))
      clear HMk HDu hdu s0 sl
      go_loopg [4, 6, 7, 8] 61 (fun gk v4 v6 v7 v8 wr => ∃ (v1 : DrvD) (d1 : DiskD), v4 = .nilIface ∧ v6 = .int .i64 (dueD v1.s.every v1.s.known v1.x.marked : Nat) ∧ Hid (VTurn B X p A c v1 d1 w wr) ∧ Hid (hearD p v (v.losts ml mlw) d = marksD p gk v1 d1) ∧ 61 ≤ gk + v1.x.marked ∧ d1.life = d.life)
      case atStart => exact ⟨v.losts ml mlw, d, rfl, rfl, HT3, HV, by omega, rfl⟩
      case round =>
        obtain ⟨v1, d1, rfl, rfl, hT, hM, hge, hlf1⟩ := hrel
        obtain ⟨X1, hX1, hXv, hXr⟩ := hT.out
        have H4 := Lib.hid hX1
        have HXv := Lib.hid hXv
        have HXr := Lib.hid hXr
        have s0 : wr.cell? ⟨X.vb, 0, none⟩ = some (.pointer (some ⟨X1.sb, 0, none⟩)) := by rw [← hXv]; exact (hX1.bk.cell 0).trans rfl
        have s4 : wr.cell? ⟨X.vb, 4, none⟩ = some (.pointer (some ⟨X1.wb, 0, none⟩)) := by rw [← hXv]; exact (hX1.bk.cell 4).trans rfl
        have sl : X.vb < wr.heap.size := by rw [← hXv]; exact hX1.bk.lt
        have hin := hX1.pre.wal.inn
        have hm1 : v1.x.marked ≤ 60 := by have := hin.mkd; have := hin.nc; omega
        have hev1 : 1 ≤ v1.s.every := by obtain ⟨Y, hY⟩ := hX1.sched; exact hY.every.1
        have hgk : 0 < gk := by omega
        obtain ⟨g, rfl⟩ : ∃ g, gk = g + 1 := ⟨gk - 1, by omega⟩
        have hDG := Lib.hid (fun h0 => due_gt (m := v1.x.marked) (known := v1.s.known) hev1 h0)
        obtain ⟨b, hb⟩ : ∃ b, b = dueD v1.s.every v1.s.known v1.x.marked := ⟨_, rfl⟩
        have HMs := Lib.hid (show marksD p (g + 1) v1 d1 = (if b = 0 ∨ unsavedL p v1.s.saved (b : Nat) ≠ [] then (none, v1, d1) else match (v1.step d1 (markE v1.x (b : Nat)) (.mark b)).1 with
          | none => marksD p g (v1.step d1 (markE v1.x (b : Nat)) (.mark b)).2.1 (v1.step d1 (markE v1.x (b : Nat)) (.mark b)).2.2
          | some _ => v1.step d1 (markE v1.x (b : Nat)) (.mark b)) from by rw [hb]; rfl)
        rw [← hb] at hDG ⊢
        clear hb hX1 hXv hXr hin
        by_cases hb0 : b = 0
        · subst hb0
          have HE := Lib.hid (hM.out.trans (HMs.out.trans (if_pos (.inl rfl))))
          go_wp2_with fail
          go_ret
          rw [HE.out]
          exact ⟨fun _ => rfl, (fun code h => by cases h), hT.out⟩
        · have hbI : ((b : Nat) : Int) ≠ 0 := by omega
          have hbn : (((b : Nat) : Int) != 0) = true := by rw [bne_iff_ne]; exact hbI
          obtain ⟨hb1, hb60, hb2, hb3, hb4⟩ := hDG.out hb0
          have HWh := Lib.hid (whole_c (b : Nat) wr H4.out.sched)
          cases hun : decide (unsavedL p v1.s.saved (b : Nat) = []) with
          | false =>
            rw [hun] at HWh
            have HE := Lib.hid (hM.out.trans (HMs.out.trans (if_pos (.inr (of_decide_eq_false hun)))))
            clear hun
            go_wp2_with (first
              | (go_at_call 113; refine HWh.out.mono ?_; rintro e w5 ⟨rfl, hb5⟩; have HB5 := Lib.hid hb5; clear hb5))
            go_ret
            rw [HE.out]
            exact ⟨fun _ => rfl, (fun code h => by cases h), hT.out.ext HB5.out⟩
          | true =>
            rw [hun] at HWh
            have hor : ¬ (b = 0 ∨ unsavedL p v1.s.saved (b : Nat) ≠ []) := fun h => h.elim hb0 (fun h => h (of_decide_eq_true hun))
            cases hy : (stepW d1 v1.life v1.n v1.next (markE v1.x (b : Nat)) (.mark b)).2 with
            | none =>
              have HY := Lib.hid hy
              have HP2 := (show v1.step d1 (markE v1.x (b : Nat)) (.mark b) = (none, v1.app (.mark b), (stepW d1 v1.life v1.n v1.next (markE v1.x (b : Nat)) (.mark b)).1) from by unfold DrvD.step; simp only [hy])
              have HE := Lib.hid (show hearD p v (v.losts ml mlw) d = marksD p g (v1.app (.mark b)) (stepW d1 v1.life v1.n v1.next (markE v1.x (b : Nat)) (.mark b)).1 from by rw [hM.out, HMs.out, if_neg hor, HP2])
              have HLf := Lib.hid (stepW_life (life := v1.life) H4.out.pre.ok H4.out.pre.disk.room_le.2.1 (fun h0 => markE_ok h0) hy)
              clear hun hy hor HP2
              go_wp2_with (first
                | (go_at_call 113; refine HWh.out.mono ?_; rintro e w5 ⟨rfl, hb5⟩; have HB5 := Lib.hid hb5
                   have H5 := Lib.hid (H4.out.ext hb5)
                   have q4 := (World.cell?_of_block (a := ⟨X.vb, 4, none⟩) (hb5.block _ sl)).trans s4
                   clear hb5)
                | (go_at_call 114; refine (wMark_c b _ H5.out.pre).mono ?_; rintro e w6 hs; obtain ⟨rfl, _⟩ := hs.1 HY.out; have HT6 := Lib.hid (H5.out.yes (fun h0 => markE_ok h0) (by omega) HY.out hs); clear hs)
                | (go_at_call 106; refine (told_ok (X := X) _ _).mono ?_; rintro e w7 ⟨rfl, hb7⟩; have HB7 := Lib.hid hb7; clear hb7))
              obtain ⟨X7, hX7, h7v, h7r⟩ := (HT6.out.pre HB5.out).ext HB7.out
              have hX7v : X7.vb = X.vb := h7v.trans HXv.out
              have H7 := Lib.hid hX7
              have HT7 := Lib.hid (hT.out.trans2 H4.out ⟨HXv.out, HXr.out⟩ ⟨X7, hX7, h7v, h7r⟩)
              have t0 : w7.cell? ⟨X.vb, 0, none⟩ = some (.pointer (some ⟨X7.sb, 0, none⟩)) := by rw [← hX7v]; exact (hX7.bk.cell 0).trans rfl
              have tl : X.vb < w7.heap.size := by rw [← hX7v]; exact hX7.bk.lt
              have HMk := Lib.hid (fun q => (show Calls Tryz.prog 46 #[.pointer (some ⟨X.vb, 0, none⟩)] (w7.drewN q) (Val (w7.drewN q) (.int .i64 (b : Nat))) from by rw [← hX7v]; exact vMark_c (v := v1.app (.mark b)) _ (H7.out.ext (below_drewN (Below.refl _ _) q))))
              obtain ⟨du, hdu⟩ : ∃ du, du = dueD v1.s.every v1.s.known b := ⟨_, rfl⟩
              have HDu := Lib.hid (fun q => (show Calls Tryz.prog 112 #[.pointer (some ⟨X7.sb, 0, none⟩), .int .i64 (b : Nat)] (w7.drewN q) (fun e w' => e = .returned (.int .i64 (du : Nat)) ∧ ∃ q', w' = w7.drewN q') from by rw [hdu]; exact (due_c b (w7.drewN q) (H7.out.sched.ext (below_drewN (Below.refl _ _) q)) (by omega)).mono (fun e w' ⟨h1, q', h2⟩ => ⟨h1, q + q', by rw [h2]; simp⟩)))
              clear hX7 h7v h7r hX7v
              go_quiet (first
                | (go_at_call 46; exact quiet_val (HMk.out _))
                | (go_at_call 112; exact HDu.out _))
              go_wp2_with fail
              rw [hdu]
              go_roundg g
              case measure => omega
              case rel => exact ⟨v1.app (.mark b), _, rfl, rfl, Lib.hid (HT7.out.ext (below_drewN (Below.refl _ _) _)), HE, by show 61 ≤ g + b; omega, HLf.out.trans hlf1⟩
            | some code =>
              have HY := Lib.hid hy
              have HP2 := (show v1.step d1 (markE v1.x (b : Nat)) (.mark b) = (some code, v1.no code, (stepW d1 v1.life v1.n v1.next (markE v1.x (b : Nat)) (.mark b)).1) from by unfold DrvD.step; simp only [hy])
              have HE := Lib.hid (show hearD p v (v.losts ml mlw) d = (some code, v1.no code, (stepW d1 v1.life v1.n v1.next (markE v1.x (b : Nat)) (.mark b)).1) from by rw [hM.out, HMs.out, if_neg hor, HP2])
              clear hun hy hor HP2
              go_wp2_with (first
                | (go_at_call 113; refine HWh.out.mono ?_; rintro e w5 ⟨rfl, hb5⟩; have HB5 := Lib.hid hb5
                   have H5 := Lib.hid (H4.out.ext hb5)
                   have q4 := (World.cell?_of_block (a := ⟨X.vb, 4, none⟩) (hb5.block _ sl)).trans s4
                   clear hb5)
                | (go_at_call 114; refine (wMark_c b _ H5.out.pre).mono ?_; rintro e w6 hs; obtain ⟨v7, a7, rfl, hE, _⟩ := hs.2 code HY.out
                   obtain ⟨n7, hn7⟩ := hE.errN; obtain ⟨T7, y7, rfl⟩ := hn7.iface
                   obtain ⟨X6, hX6, h6v, h6r⟩ := H5.out.noo (fun h0 => markE_ok h0) (by omega) HY.out hs
                   have HX6 := Lib.hid hX6; have H6v := Lib.hid (h6v.trans HXv.out); have H6w := Lib.hid h6v; have H6r := Lib.hid h6r; have HN7 := Lib.hid hn7
                   clear hs hE hn7 hX6 h6v h6r)
                | (go_at_call 106; rw [← H6v.out]; refine (told_no _ _ _ n7 code _ HX6.out HN7.out).mono ?_; rintro e w8 ⟨ve, rfl, hE, hT8⟩; obtain ⟨n9, hn9⟩ := hE.errN; obtain ⟨T9, y9, rfl⟩ := hn9.iface; clear hn9; have HE8 := Lib.hid hE; have HT8 := Lib.hid hT8; clear hE hT8))
              go_ret
              rw [HE.out]
              exact ⟨(fun h => by cases h), fun code' h => by cases h; exact ⟨_, 0, rfl, HE8.out⟩, hT.out.trans2 H4.out ⟨HXv.out, HXr.out⟩ (noo_turn HB5.out ⟨H6w.out, H6r.out⟩ HX6.out HT8.out)⟩
    exact AllReadyH.nil
end
end Go.Proofs.YtlmjjhenoadndaaGreatDoor

/- What a driver keeps, and how far it runs ahead: in plain Lean; its calls, whatever they meet. -/
namespace Go.Proofs.YtlmjjhenoadndaaGreatDoor
open Go.RowKit Go.Sort

/-- A driver of that Every, so many batches cut, behind at most so many acts. -/
structure KSt (e b i : Nat) (v : DrvD) (d : DiskD) : Prop where
  ev : v.s.every = e
  nc : v.x.cuts.length = b
  mod : v.x.marked % e = 0
  lag : b ≤ v.x.marked + 2 * e
  kn : (v.x.marked : Int) ≤ v.s.known
  life : d.life ≤ i
theorem KSt.upto {e b i j : Nat} {v : DrvD} {d : DiskD} (h : KSt e b i v d) (hj : i ≤ j) : KSt e b j v d := ⟨h.ev, h.nc, h.mod, h.lag, h.kn, Nat.le_trans h.life hj⟩
/-- A record handed in: what is behind it. -/
theorem step_any {v : DrvD} {d : DiskD} {t : Option Int} {r : Rec} (h : WalOk d v.x v.n v.next) (hroom : d.room ≤ 65536) (hr : t = none → v.x.ok r) :
    ((v.step d t r).1 = none → (v.step d t r).2.1 = v.app r ∧ t = none ∧ WalOk (v.step d t r).2.2 (v.x.does r) (v.n + 1) (v.next + blocksN r.bytes.length) ∧ (v.step d t r).2.2.life = d.life ∧ (v.step d t r).2.2.room = d.room) ∧
    (∀ c, (v.step d t r).1 = some c → (v.step d t r).2.1 = v.no c ∧ (v.step d t r).2.2.life ≤ d.life + 1) := by
  obtain ⟨h1, h2, h3, h4⟩ := stepW_law (life := v.life) h hroom hr
  unfold DrvD.step
  refine ⟨fun hn => ?_, fun c hc => ?_⟩
  · simp only at hn ⊢
    rw [hn]
    refine ⟨rfl, ?_, h1 hn, ?_, h3⟩
    · cases t with
      | none => rfl
      | some c => cases hn
    · exact stepW_life h hroom hr hn
  · simp only at hc ⊢
    rw [hc]
    exact ⟨rfl, h4⟩
theorem push_keep {e b i : Nat} {v : DrvD} {d : DiskD} {l : List Rw} (hS : KSt e b i v d) (h : WalOk d v.x v.n v.next) (hroom : d.room ≤ 65536) (h64 : ∀ r ∈ l, I64 r.k ∧ I64 r.v) :
    KSt e b (i + 1) (pushD v d l).2.1 (pushD v d l).2.2 ∧ (pushD v d l).2.1.x.marked = v.x.marked := by
  unfold pushD
  split
  · exact ⟨hS.upto (by omega), rfl⟩
  · obtain ⟨h1, h2⟩ := step_any (t := blockE v.x l.length) (r := .block l) h hroom (fun h0 => blockE_ok h64 h0)
    cases hy : (v.step d (blockE v.x l.length) (.block l)).1 with
    | none =>
      obtain ⟨k1, _, _, k2, _⟩ := h1 hy
      rw [k1]
      exact ⟨⟨hS.ev, hS.nc, hS.mod, hS.lag, hS.kn, by rw [k2]; have := hS.life; omega⟩, rfl⟩
    | some c =>
      obtain ⟨k1, k2⟩ := h2 c hy
      rw [k1]
      exact ⟨⟨hS.ev, hS.nc, hS.mod, hS.lag, hS.kn, by have := hS.life; omega⟩, rfl⟩
theorem cut_keep {e b i : Nat} {v : DrvD} {d : DiskD} (hS : KSt e b i v d) (h : WalOk d v.x v.n v.next) (hroom : d.room ≤ 65536) :
    ((cutD v d).1 = none → b + 1 ≤ v.x.marked + 2 * e ∧ KSt e (b + 1) (i + 1) (cutD v d).2.1 (cutD v d).2.2 ∧ (cutD v d).2.1.x.marked = v.x.marked) ∧
    (∀ c, (cutD v d).1 = some c → KSt e b (i + 1) (cutD v d).2.1 (cutD v d).2.2 ∧ (cutD v d).2.1.x.marked = v.x.marked ∧ (c = 90 → ¬ b + 1 ≤ v.x.marked + 2 * e)) := by
  unfold cutD
  split
  · exact ⟨(fun h0 => by cases h0), fun c hc => by cases hc; exact ⟨hS.upto (by omega), rfl, fun h0 => by omega⟩⟩
  · split
    · next hl =>
      rw [hS.ev, hS.nc] at hl
      exact ⟨(fun h0 => by cases h0), fun c hc => by cases hc; exact ⟨hS.upto (by omega), rfl, fun _ => by omega⟩⟩
    · next hl =>
      rw [hS.ev, hS.nc] at hl
      obtain ⟨h1, h2⟩ := step_any (t := cutE v.x) (r := .cut) h hroom (fun h0 => cutE_ok h0)
      refine ⟨fun hy => ?_, fun c hy => ?_⟩
      · obtain ⟨k1, _, _, k2, _⟩ := h1 hy
        rw [k1]
        refine ⟨by omega, ⟨hS.ev, ?_, hS.mod, ?_, hS.kn, by rw [k2]; have := hS.life; omega⟩, rfl⟩
        · show (v.x.cuts ++ [v.x.blocks.length]).length = b + 1
          rw [List.length_append, hS.nc]
          rfl
        · show b + 1 ≤ v.x.marked + 2 * e
          omega
      · obtain ⟨k1, k2⟩ := h2 c hy
        rw [k1]
        refine ⟨⟨hS.ev, hS.nc, hS.mod, hS.lag, hS.kn, by have := hS.life; omega⟩, rfl, fun h9 => ?_⟩
        subst h9
        have h5 : (stepW d v.life v.n v.next (cutE v.x) .cut).2 = some 90 := hy
        exact absurd rfl (stepW_ne (x := v.x) h hroom (fun h0 => cutE_ok h0) cutE_ne h5)
theorem marks_keep {e b i : Nat} {p : PlanD} (he : 1 ≤ e) : ∀ (f : Nat) (v : DrvD) (d : DiskD), KSt e b i v d → WalOk d v.x v.n v.next → d.room ≤ 65536 → KSt e b (i + 1) (marksD p f v d).2.1 (marksD p f v d).2.2 ∧ v.x.marked ≤ (marksD p f v d).2.1.x.marked
  | 0, v, d, hS, _, _ => ⟨hS.upto (by omega), Nat.le_refl _⟩
  | f + 1, v, d, hS, h, hroom => by
    rw [marksD]
    split
    · exact ⟨hS.upto (by omega), Nat.le_refl _⟩
    · next hn =>
      have hd0 : dueD v.s.every v.s.known v.x.marked ≠ 0 := fun h0 => hn (.inl h0)
      obtain ⟨g1, g2, g3, g4, g5⟩ := due_gt (by rw [hS.ev]; exact he) hd0
      generalize hbd : dueD v.s.every v.s.known v.x.marked = bd at *
      obtain ⟨h1, h2⟩ := step_any (t := markE v.x (bd : Nat)) (r := .mark bd) h hroom (fun h0 => markE_ok h0)
      cases hy : (v.step d (markE v.x (bd : Nat)) (.mark bd)).1 with
      | none =>
        obtain ⟨k1, k0, k3, k2, k4⟩ := h1 hy
        simp only
        rw [k1]
        have hS' : KSt e b i (v.app (.mark bd)) (v.step d (markE v.x (bd : Nat)) (.mark bd)).2.2 := by
          refine ⟨hS.ev, hS.nc, ?_, ?_, g3, by rw [k2]; exact hS.life⟩
          · show bd % e = 0
            rw [← hS.ev]
            exact g4
          · show b ≤ bd + 2 * e
            have := hS.lag
            omega
        obtain ⟨r1, r2⟩ := marks_keep he f (v.app (.mark bd)) _ hS' k3 (by rw [k4]; exact hroom)
        exact ⟨r1, Nat.le_trans (Nat.le_of_lt g1) r2⟩
      | some c =>
        obtain ⟨k1, k2⟩ := h2 c hy
        simp only
        rw [k1]
        exact ⟨⟨hS.ev, hS.nc, hS.mod, hS.lag, hS.kn, by have := hS.life; omega⟩, Nat.le_refl _⟩
theorem hear_keep {e b i : Nat} {p : PlanD} {v v1 : DrvD} {d : DiskD} (he : 1 ≤ e) (hS : KSt e b i v d) (h : WalOk d v.x v.n v.next) (hroom : d.room ≤ 65536) (hx : v1.x = v.x ∧ v1.n = v.n ∧ v1.next = v.next ∧ v1.s.every = v.s.every ∧ v.s.known ≤ v1.s.known) :
    KSt e b (i + 1) (hearD p v v1 d).2.1 (hearD p v v1 d).2.2 ∧ v.x.marked ≤ (hearD p v v1 d).2.1.x.marked := by
  obtain ⟨x1, x2, x3, x4, x5⟩ := hx
  unfold hearD
  split
  · exact ⟨hS.upto (by omega), Nat.le_refl _⟩
  · have hS1 : KSt e b i v1 d := ⟨x4.trans hS.ev, by rw [x1]; exact hS.nc, by rw [x1]; exact hS.mod, by rw [x1]; exact hS.lag, by rw [x1]; exact Int.le_trans hS.kn x5, hS.life⟩
    have := marks_keep (p := p) he 61 v1 d hS1 (by rw [x1, x2, x3]; exact h) hroom
    rw [x1] at this
    exact this
theorem told_known (s : SchedD) (p : PlanD) (x : Id3) (n : Int) : (s.told p x n).known = s.known := by unfold SchedD.told; split <;> rfl
theorem save_known (s : SchedD) (p : PlanD) (x : Id3) : (s.save p x).known = s.known := by unfold SchedD.save; split <;> rfl
end Go.Proofs.YtlmjjhenoadndaaGreatDoor
