/- SchedG, SchedH, SchedI, Bef, HeldA, KitB, SortB, HoldsW, LineQ: laid together. -/
import Derived.Test.YtapjhliglmohgaaGreatDoorPwN
import Derived.Test.YtapjhliglmohgaaGreatDoorPwB
import Derived.Test.YtapjhliglmohgaaGreatDoorPwL
import Derived.WalkSpells
/- Who holds what: the map of maps; Told, Lost in plain Lean. -/
namespace Go.Proofs.YtapjhliglmohgaaGreatDoor
open Go.RowKit Go.Sort
def insI (l : List Int) (n : Int) : List Int := if n ∈ l then l else l ++ [n]
def delI (l : List Int) (n : Int) : List Int := l.filter fun m => decide (m ≠ n)
theorem insI_mset (l : List Int) (n : Int) : (insI l n).map (fun y => (y, (.int .i64 1 : Value))) = mset (l.map fun y => (y, (.int .i64 1 : Value))) n (.int .i64 1) := by
 unfold insI mset
 rw [List.map_map]
 have e : l.map ((·.1) ∘ fun y : Int => (y, (.int .i64 1 : Value))) = l := by
  rw [show ((·.1) ∘ fun y : Int => (y, (.int .i64 1 : Value))) = id from rfl, List.map_id]
 rw [e]
 split
 · rw [List.map_map]
   apply List.map_congr_left
   intro y _
   simp only [Function.comp]
   split
   · next h => rw [h]
   · rfl
 · rw [List.map_append]; rfl
theorem delI_mdel (l : List Int) (n : Int) : (delI l n).map (fun y => (y, (.int .i64 1 : Value))) = mdel (l.map fun y => (y, (.int .i64 1 : Value))) n := by
 unfold delI mdel
 rw [List.filter_map]
 rfl
/-- Who holds what, where the list of one piece is turned. -/
def holdUpd (f : List Int → List Int) (x : Id3) (l : List (Id3 × List Int)) : List (Id3 × List Int) := l.map fun y => (y.1, if y.1 = x then f y.2 else y.2)
def holdAdd (l : List (Id3 × List Int)) (x : Id3) : List (Id3 × List Int) := if x ∈ l.map (·.1) then l else l ++ [(x, [])]
def holdPut (l : List (Id3 × List Int)) (x : Id3) (n : Int) : List (Id3 × List Int) := holdUpd (fun m => insI m n) x (holdAdd l x)
def holdDrop (l : List (Id3 × List Int)) (x : Id3) : List (Id3 × List Int) := l.filter fun y => decide (y.1 ≠ x)
def holdOf (l : List (Id3 × List Int)) (x : Id3) : List Int := ((l.find? fun y => decide (y.1 = x)).map (·.2)).getD []
def holdCut (l : List (Id3 × List Int)) (x : Id3) (n : Int) : List (Id3 × List Int) := if delI (holdOf l x) n = [] then holdDrop l x else holdUpd (fun m => delI m n) x l
def SchedD.told (s : SchedD) (p : PlanD) (x : Id3) (n : Int) : SchedD := if rightB p x = true ∧ 1 ≤ n ∧ n ≤ 4 then ⟨s.every, s.known, holdPut s.holds x n, s.saved⟩ else s
def SchedD.lost (s : SchedD) (x : Id3) (n : Int) : SchedD := ⟨s.every, s.known, holdCut s.holds x n, s.saved⟩
/-- The same, of the blocks. -/
def hmUpd (f : List Int → List Int) (x : Id3) (l : List (Id3 × Nat × List Int)) : List (Id3 × Nat × List Int) := l.map fun y => (y.1, y.2.1, if y.1 = x then f y.2.2 else y.2.2)
def hmDrop (l : List (Id3 × Nat × List Int)) (x : Id3) : List (Id3 × Nat × List Int) := l.filter fun y => decide (y.1 ≠ x)
theorem hmUpd_holds (f : List Int → List Int) (x : Id3) (l : List (Id3 × Nat × List Int)) : (hmUpd f x l).map (fun y => (y.1, y.2.2)) = holdUpd f x (l.map fun y => (y.1, y.2.2)) := by
 unfold hmUpd holdUpd
 rw [List.map_map, List.map_map]
 rfl
theorem hmUpd_blk (f : List Int → List Int) (x : Id3) (l : List (Id3 × Nat × List Int)) : (hmUpd f x l).map (fun y => (y.1, (.map (some y.2.1) : Value))) = l.map (fun y => (y.1, (.map (some y.2.1) : Value))) := by
 unfold hmUpd
 rw [List.map_map]
 rfl
theorem hmUpd_nd (f : List Int → List Int) (x : Id3) (l : List (Id3 × Nat × List Int)) : (hmUpd f x l).map (·.2.1) = l.map (·.2.1) := by
 unfold hmUpd
 rw [List.map_map]
 rfl
theorem hmUpd_mem {f : List Int → List Int} {x : Id3} {l : List (Id3 × Nat × List Int)} {y : Id3 × Nat × List Int} (h : y ∈ hmUpd f x l) : ∃ z ∈ l, y = (z.1, z.2.1, if z.1 = x then f z.2.2 else z.2.2) := by
 unfold hmUpd at h
 obtain ⟨z, hz, rfl⟩ := List.mem_map.1 h
 exact ⟨z, hz, rfl⟩
theorem hmDrop_holds (x : Id3) (l : List (Id3 × Nat × List Int)) : (hmDrop l x).map (fun y => (y.1, y.2.2)) = holdDrop (l.map fun y => (y.1, y.2.2)) x := by
 unfold hmDrop holdDrop
 rw [List.filter_map]
 rfl
theorem hmDrop_blk (x : Id3) (l : List (Id3 × Nat × List Int)) : (hmDrop l x).map (fun y => (y.1, (.map (some y.2.1) : Value))) = mdel (l.map (fun y => (y.1, (.map (some y.2.1) : Value)))) x := by
 unfold hmDrop mdel
 rw [List.filter_map]
 rfl
/-- One block of these is turned, the others stay. -/
theorem block_one {l : List (Id3 × Nat × List Int)} (hn : (l.map (·.2.1)).Nodup) {y z : Id3 × Nat × List Int} (hy : y ∈ l) (hz : z ∈ l) (he : y.2.1 = z.2.1) : y = z := by
 induction l with
 | nil => cases hy
 | cons a l ih =>
   simp only [List.map_cons, List.nodup_cons] at hn
   rcases List.mem_cons.1 hy with rfl | hy'
   · rcases List.mem_cons.1 hz with rfl | hz'
     · rfl
     · exact absurd (he ▸ List.mem_map_of_mem (f := (·.2.1)) hz') hn.1
   · rcases List.mem_cons.1 hz with rfl | hz'
     · exact absurd (he ▸ List.mem_map_of_mem (f := (·.2.1)) hy') hn.1
     · exact ih hn.2 hy' hz'
theorem key_one {l : List (Id3 × Nat × List Int)} (hn : (l.map (·.1)).Nodup) {y z : Id3 × Nat × List Int} (hy : y ∈ l) (hz : z ∈ l) (he : y.1 = z.1) : y = z := by
 induction l with
 | nil => cases hy
 | cons a l ih =>
   simp only [List.map_cons, List.nodup_cons] at hn
   rcases List.mem_cons.1 hy with rfl | hy'
   · rcases List.mem_cons.1 hz with rfl | hz'
     · rfl
     · exact absurd (he ▸ List.mem_map_of_mem (f := (·.1)) hz') hn.1
   · rcases List.mem_cons.1 hz with rfl | hz'
     · exact absurd (he ▸ List.mem_map_of_mem (f := (·.1)) hy') hn.1
     · exact ih hn.2 hy' hz'
section
variable {B sb : Nat} {R : Nat → Prop} {p : PlanD} {A : Option Addr} {c : Nat} {X : SchX} {s : SchedD} {w w' : World}
theorem SchedAt.keys (h : SchedAt B sb R p A c X s w) : (X.hm.map (·.1)).Nodup := by
 have := h.hold.nodup
 rw [List.map_map] at this
 exact this
theorem SchedAt.st_ne (h : SchedAt B sb R p A c X s w) {m : Nat} (hm : ∀ cs t f, w.heap[m]? ≠ some (.cells cs t f)) : ∀ k, (Value.slice X.sA (statesL p.ops).length X.sc).ownBlock = some k → ¬ k = m := fun k hk e => by
 obtain ⟨cs, hb⟩ : ∃ cs, Bk w k 3 cs := by
  rcases h.st.2 with ⟨hv, _⟩ | ⟨g, cp, cur, hv, _, hh, _⟩
  · rw [hv] at hk; cases hk
  · rw [hv] at hk; injection hk with hk; subst hk; exact ⟨cur, hh⟩
 subst e
 exact hm _ _ _ hb
theorem MapIs.no_cells {α : Type} {enc : α → Value} {m : List (α × Value)} {b : Nat} (h : MapIs enc w b m) : ∀ cs t f, w.heap[b]? ≠ some (.cells cs t f) := by
 intro cs t f hc
 obtain ⟨es, cl, ho⟩ := h.obj
 rw [ho] at hc
 cases hc
/-- An inner map is turned. -/
theorem SchedAt.inner (h : SchedAt B sb R p A c X s w) {y : Id3 × Nat × List Int} (hy : y ∈ X.hm) {f : List Int → List Int} (hm : MapIs inV w' y.2.1 ((f y.2.2).map fun n => (n, .int .i64 1))) (hg : w.grownBy w' (some y.2.1)) (hs : w'.heap.size = w.heap.size) :
 SchedAt B sb R p A c ⟨X.wyb, X.K, X.kc, X.Rw, X.sA, X.sc, X.hb, hmUpd f y.1 X.hm, X.vb⟩ ⟨s.every, s.known, holdUpd f y.1 s.holds, s.saved⟩ w' := by
 have hf := Fr.map_ hg
 have hi := h.inn y hy
 have hyR := h.rb y.2.1 (.inr (.inr ⟨y, hy, rfl⟩))
 have hBs := (h.bd _ hyR.1).1
 have hne : ∀ {cs t}, ∀ g, Bk w g t cs → ¬ g = y.2.1 := fun g hb e => hi.no_cells _ _ _ (e ▸ hb)
 refine ⟨h.bk.fr hf (hne _ h.bk), h.ways.fr hf (fun k hk e => hyR.2 (e ▸ hk)) (fun k hk e => by omega), own_fr h.st hf (h.st_ne hi.no_cells), ?_, ?_, fun z hz => ?_, ?_, h.sv.fr hf (fun e => (h.hi y hy).2 e.symm), h.hv, fun z hz => ?_, h.rs, fun k hk => ?_, h.rw_, h.rt, fun k hk => by rw [hs]; exact h.bd k hk, h.known, h.every, h.plan⟩
 · show MapIs idV w' X.hb ((hmUpd f y.1 X.hm).map _)
   rw [hmUpd_blk]
   exact h.hold.fr hf (fun e => (h.hi y hy).1 e.symm)
 · show holdUpd f y.1 s.holds = _
   rw [hmUpd_holds, h.hl]
 · obtain ⟨z', hz', rfl⟩ := hmUpd_mem hz
   by_cases e : z'.1 = y.1
   · obtain rfl := key_one h.keys hz' hy e
     simp only [if_true]
     exact hm
   · simp only [if_neg e]
     refine (h.inn z' hz').fr hf (fun e2 => e ?_)
     rw [block_one h.nd hz' hy e2]
 · show ((hmUpd f y.1 X.hm).map (·.2.1)).Nodup
   rw [hmUpd_nd]
   exact h.nd
 · obtain ⟨z', hz', rfl⟩ := hmUpd_mem hz
   exact h.hi z' hz'
 · rcases hk with rfl | rfl | ⟨z, hz, rfl⟩
   · exact h.rb _ (.inl rfl)
   · exact h.rb _ (.inr (.inl rfl))
   · obtain ⟨z', hz', rfl⟩ := hmUpd_mem hz
     exact h.rb _ (.inr (.inr ⟨z', hz', rfl⟩))
/-- A piece is forgotten. -/
theorem SchedAt.outer (h : SchedAt B sb R p A c X s w) (x : Id3) (hm : MapIs idV w' X.hb (mdel (X.hm.map fun y => (y.1, (.map (some y.2.1) : Value))) x)) (hg : w.grownBy w' (some X.hb)) (hs : w'.heap.size = w.heap.size) :
 SchedAt B sb R p A c ⟨X.wyb, X.K, X.kc, X.Rw, X.sA, X.sc, X.hb, hmDrop X.hm x, X.vb⟩ ⟨s.every, s.known, holdDrop s.holds x, s.saved⟩ w' := by
 have hf := Fr.map_ hg
 have hi := h.hold
 have hyR := h.rb X.hb (.inl rfl)
 have hBs := (h.bd _ hyR.1).1
 have hne : ∀ {cs t}, ∀ g, Bk w g t cs → ¬ g = X.hb := fun g hb e => hi.no_cells _ _ _ (e ▸ hb)
 have hsub : ∀ z, z ∈ hmDrop X.hm x → z ∈ X.hm := fun z hz => (List.mem_filter.1 hz).1
 refine ⟨h.bk.fr hf (hne _ h.bk), h.ways.fr hf (fun k hk e => hyR.2 (e ▸ hk)) (fun k hk e => by omega), own_fr h.st hf (h.st_ne hi.no_cells), ?_, ?_, fun z hz => (h.inn z (hsub z hz)).fr hf (h.hi z (hsub z hz)).1, ?_, h.sv.fr hf (fun e => h.hv e.symm), h.hv, fun z hz => h.hi z (hsub z hz), h.rs, fun k hk => ?_, h.rw_, h.rt, fun k hk => by rw [hs]; exact h.bd k hk, h.known, h.every, h.plan⟩
 · show MapIs idV w' X.hb ((hmDrop X.hm x).map _)
   rw [hmDrop_blk]
   exact hm
 · show holdDrop s.holds x = _
   rw [hmDrop_holds, h.hl]
 · exact List.Nodup.sublist (List.Sublist.map _ (List.filter_sublist ..)) h.nd
 · rcases hk with rfl | rfl | ⟨z, hz, rfl⟩
   · exact h.rb _ (.inl rfl)
   · exact h.rb _ (.inr (.inl rfl))
   · exact h.rb _ (.inr (.inr ⟨z, hsub z hz, rfl⟩))
/-- A piece that nobody knew of: an empty map, laid behind all that is there. -/
theorem SchedAt.fresh (h : SchedAt B sb R p A c X s w) {x : Id3} {nb : Nat} {w1 : World} (hx : x ∉ X.hm.map (·.1)) (h1 : Below w.heap.size w w1) (hn : MapIs inV w1 nb ([] : List (Int × Value))) (hnb : w.heap.size ≤ nb) (hm : MapIs idV w' X.hb (mset (X.hm.map fun y => (y.1, (.map (some y.2.1) : Value))) x (.map (some nb)))) (hg : w1.grownBy w' (some X.hb)) (hs : w'.heap.size = w1.heap.size) :
 SchedAt B sb (fun k => R k ∨ k = nb) p A c ⟨X.wyb, X.K, X.kc, X.Rw, X.sA, X.sc, X.hb, X.hm ++ [(x, nb, [])], X.vb⟩ ⟨s.every, s.known, holdAdd s.holds x, s.saved⟩ w' := by
 have hf := Fr.map_ hg
 have h' := h.ext h1
 have hi := h'.hold
 have hyR := h.rb X.hb (.inl rfl)
 have hBs := (h.bd _ hyR.1).1
 have hz1 := h1.size
 have hne : ∀ {cs t}, ∀ g, Bk w1 g t cs → ¬ g = X.hb := fun g hb e => hi.no_cells _ _ _ (e ▸ hb)
 have hnR : ∀ k, R k → k ≠ nb := fun k hk e => by have := (h.bd k hk).2; omega
 have hnl := hn.lt
 refine ⟨h'.bk.fr hf (hne _ h'.bk), h'.ways.fr hf (fun k hk e => hyR.2 (e ▸ hk)) (fun k hk e => by omega), own_fr h'.st hf (h'.st_ne hi.no_cells), ?_, ?_, fun z hz => ?_, ?_, h'.sv.fr hf (fun e => h.hv e.symm), h.hv, fun z hz => ?_, ⟨.inl h.rs.1, h.rs.2⟩, fun k hk => ?_, fun k hk => .inl (h.rw_ k hk), fun k hk => ⟨.inl (h.rt k hk).1, (h.rt k hk).2⟩, fun k hk => ?_, h.known, h.every, h.plan⟩
 · show MapIs idV w' X.hb ((X.hm ++ [(x, nb, [])]).map _)
   rw [mset, if_neg (by rw [List.map_map]; exact hx)] at hm
   rw [List.map_append]
   exact hm
 · show holdAdd s.holds x = _
   unfold holdAdd
   rw [h.hl, if_neg (by rw [List.map_map]; exact hx), List.map_append]
   rfl
 · rcases List.mem_append.1 hz with hz | hz
   · exact (h'.inn z hz).fr hf (h.hi z hz).1
   · obtain rfl := List.mem_singleton.1 hz
     exact hn.fr hf (fun e => by have := (h.bd _ hyR.1).2; have e' : nb = X.hb := e; omega)
 · show ((X.hm ++ [(x, nb, [])]).map (fun y : Id3 × Nat × List Int => y.2.1)).Nodup
   rw [List.map_append, List.nodup_append]
   refine ⟨h.nd, by simp, fun a ha b hb => ?_⟩
   obtain ⟨z, hz, rfl⟩ := List.mem_map.1 ha
   obtain rfl := List.mem_singleton.1 hb
   exact hnR _ (h.rb _ (.inr (.inr ⟨z, hz, rfl⟩))).1
 · rcases List.mem_append.1 hz with hz | hz
   · exact h.hi z hz
   · obtain rfl := List.mem_singleton.1 hz
     exact ⟨fun e => hnR _ hyR.1 e.symm, fun e => hnR _ (h.rb _ (.inr (.inl rfl))).1 e.symm⟩
 · rcases hk with rfl | rfl | ⟨z, hz, rfl⟩
   · exact ⟨.inl hyR.1, hyR.2⟩
   · exact ⟨.inl (h.rb _ (.inr (.inl rfl))).1, (h.rb _ (.inr (.inl rfl))).2⟩
   · rcases List.mem_append.1 hz with hz | hz
     · exact ⟨.inl (h.rb _ (.inr (.inr ⟨z, hz, rfl⟩))).1, (h.rb _ (.inr (.inr ⟨z, hz, rfl⟩))).2⟩
     · obtain rfl := List.mem_singleton.1 hz
       exact ⟨.inr rfl, fun hk => hnR _ (h.rw_ _ hk) rfl⟩
 · rw [hs]
   rcases hk with hk | rfl
   · have := h.bd k hk; omega
   · have := (h.bd _ hyR.1); omega
end
end Go.Proofs.YtapjhliglmohgaaGreatDoor
/- Who holds what: Told, Lost of the program. -/
namespace Go.Proofs.YtapjhliglmohgaaGreatDoor
open Go.RowKit Go.Sort
theorem zero_ii (w : World) : (zeroValue 116).run Tryz.prog w = .ok (.map none) w := by kernel_rfl
theorem mget_hm_some {hm : List (Id3 × Nat × List Int)} (hn : (hm.map (·.1)).Nodup) {y : Id3 × Nat × List Int} (hy : y ∈ hm) : mget (hm.map fun y => (y.1, (.map (some y.2.1) : Value))) y.1 = some (.map (some y.2.1)) :=
 mget_some (by rw [List.map_map]; exact hn) (List.mem_map.2 ⟨y, hy, rfl⟩)
theorem mget_hm_none {hm : List (Id3 × Nat × List Int)} {x : Id3} (hx : x ∉ hm.map (·.1)) : mget (hm.map fun y => (y.1, (.map (some y.2.1) : Value))) x = none :=
 mget_none (by rw [List.map_map]; exact hx)
theorem holdAdd_in {l : List (Id3 × List Int)} {x : Id3} (h : x ∈ l.map (·.1)) : holdAdd l x = l := if_pos h
theorem mget_mset_new {α : Type} [DecidableEq α] {m : List (α × Value)} {x : α} {v : Value} (hn : ((mset m x v).map (·.1)).Nodup) (hx : x ∉ m.map (·.1)) : mget (mset m x v) x = some v := by
 refine mget_some hn ?_
 unfold mset
 rw [if_neg hx]
 simp
section
variable {B sb : Nat} {R : Nat → Prop} {p : PlanD} {A : Option Addr} {c : Nat} {s : SchedD}
theorem told_in {X : SchX} {y : Id3 × Nat × List Int} {n : Int} {w w1 w2 : World} (h : SchedAt B sb R p A c X s w1) (hb : Below w.heap.size w w1) (hy : y ∈ X.hm) (hm : MapIs inV w2 y.2.1 (mset (y.2.2.map fun m => (m, (.int .i64 1 : Value))) n (.int .i64 1))) (hg : w1.grownBy w2 (some y.2.1)) (hs : w2.heap.size = w1.heap.size) (hr : rightB p y.1 = true ∧ 1 ≤ n ∧ n ≤ 4) :
 STurn B sb R p A c (s.told p y.1 n) w (.returned (.tuple #[])) w2 := by
 have hk : y.1 ∈ s.holds.map (·.1) := by
  rw [h.hl, List.map_map]
  exact List.mem_map.2 ⟨y, hy, rfl⟩
 have h2 := h.inner (f := fun m => insI m n) hy (by rw [insI_mset]; exact hm) hg hs
 have h3 : SchedIs B sb R p A c (s.told p y.1 n) w2 := by
  unfold SchedD.told
  rw [if_pos hr]
  unfold holdPut
  rw [holdAdd_in hk]
  exact ⟨_, h2⟩
 exact ⟨rfl, R, h3, (Fr.of_below hb).grown hg (fun k hk => .inl (by injection hk with hk; rw [← hk]; exact (h.rb _ (.inr (.inr ⟨y, hy, rfl⟩))).1)), fun k hk => .inl hk⟩
theorem told_new {X : SchX} {x : Id3} {n : Int} {nb : Nat} {w w1 w2 w3 w4 w5 : World} (h : SchedAt B sb R p A c X s w1) (hb : Below w.heap.size w w1) (hx : x ∉ X.hm.map (·.1)) (h12 : Below w1.heap.size w1 w2) (hn : MapIs inV w2 nb ([] : List (Int × Value))) (hnb : w1.heap.size ≤ nb) (hm : MapIs idV w3 X.hb (mset (X.hm.map fun y => (y.1, (.map (some y.2.1) : Value))) x (.map (some nb)))) (hg : w2.grownBy w3 (some X.hb)) (hs : w3.heap.size = w2.heap.size)
 (h34 : Below w3.heap.size w3 w4) (hm5 : MapIs inV w5 nb (mset ([] : List (Int × Value)) n (.int .i64 1))) (hg5 : w4.grownBy w5 (some nb)) (hs5 : w5.heap.size = w4.heap.size) (hr : rightB p x = true ∧ 1 ≤ n ∧ n ≤ 4) :
 STurn B sb R p A c (s.told p x n) w (.returned (.tuple #[])) w5 := by
 have hbs := hb.size
 have h3 := (h.fresh hx h12 hn hnb hm hg hs).ext h34
 have h5 := h3.inner (f := fun m => insI m n) (y := (x, nb, [])) (List.mem_append.2 (.inr (List.mem_singleton.2 rfl))) (by show MapIs inV w5 nb ((insI [] n).map _); rw [insI_mset]; exact hm5) hg5 hs5
 have h6 : SchedIs B sb (fun k => R k ∨ k = nb) p A c (s.told p x n) w5 := by
  unfold SchedD.told
  rw [if_pos hr]
  exact ⟨_, h5⟩
 exact ⟨rfl, _, h6, ((((Fr.of_below hb).ext h12).grown hg (fun k hk => .inl (by injection hk with hk; rw [← hk]; exact (h.rb _ (.inl rfl)).1))).ext h34).grown hg5 (fun k hk => .inr (by injection hk with hk; omega)), fun k hk => Or.imp id (fun e => by omega) hk⟩
set_option maxRecDepth 100000 in
set_option maxHeartbeats 8000000 in
theorem told_c (x : Id3) (n : Int) (w : World) (h : SchedIs B sb R p A c s w) : Calls Tryz.prog 11 #[.pointer (some ⟨sb, 0, none⟩), idV x, .int .i64 n] w (STurn B sb R p A c (s.told p x n) w) := by
 obtain ⟨X, h⟩ := h
 obtain ⟨xb, xs, xp⟩ := x
 obtain ⟨W, hW⟩ : ∃ W, W = w.alloc (.cells #[.int .i64 xb, .int .i64 xs, .int .i64 xp] 35 (0, 0)) := ⟨_, rfl⟩
 have HBW := Lib.hid (show Below w.heap.size w W from by rw [hW]; exact ext_alloc (Below.refl _ _) _)
 have HXW := Lib.hid (show Bk W w.heap.size 35 #[.int .i64 xb, .int .i64 xs, .int .i64 xp] from by rw [hW]; exact Bk.new _ _ _)
 have H := Lib.hid (h.ext HBW.out)
 have HWW := Lib.hid hW
 clear h hW
 have c0 : W.cell? ⟨w.heap.size, 0, none⟩ = some (.int .i64 xb) := (HXW.out.cell 0).trans rfl
 have c1 : W.cell? ⟨w.heap.size, 1, none⟩ = some (.int .i64 xs) := (HXW.out.cell 1).trans rfl
 have c2 : W.cell? ⟨w.heap.size, 2, none⟩ = some (.int .i64 xp) := (HXW.out.cell 2).trans rfl
 have l0 := HXW.out.lt
 cases hh : rightB p ⟨xb, xs, xp⟩ with
 | false =>
   have HH := Lib.hid hh
   have HV := Lib.hid (show s.told p ⟨xb, xs, xp⟩ n = s from by unfold SchedD.told; rw [hh]; simp)
   clear hh
   go_enter Tryz.func11, Tryz.ntmps11
   go_upto_region 1 with fail
   rw [← HWW.out]
   go_wp2_with (first
    | (go_at_call 59; refine (sright_c (B := B) (R := R) (p := p) (A := A) (c := c) (s := s) ⟨xb, xs, xp⟩ _ ⟨X, H.out⟩).mono ?_; rw [HH.out]; rintro e w1 ⟨rfl, hb⟩; have HB1 := Lib.hid hb; clear hb))
   go_returns
   rw [HV.out]
   exact ⟨rfl, R, ⟨X, H.out.ext HB1.out⟩, Fr.of_below (ext_trans HBW.out HB1.out), fun k hk => .inl hk⟩
 | true =>
   have HH := Lib.hid hh
   by_cases hn : 1 ≤ n ∧ n ≤ 4
   · have HN := Lib.hid (show rightB p ⟨xb, xs, xp⟩ = true ∧ 1 ≤ n ∧ n ≤ 4 from ⟨hh, hn⟩)
     have u1 : ¬ n < 1 := by omega
     have u4 : ¬ 4 < n := by omega
     clear hh
     by_cases hx : (⟨xb, xs, xp⟩ : Id3) ∈ X.hm.map (·.1)
     · obtain ⟨y, hy, hyx⟩ := List.mem_map.1 hx
       have HY := Lib.hid hy
       have HYX := Lib.hid hyx
       have HG := Lib.hid (show mget (X.hm.map fun y => (y.1, (.map (some y.2.1) : Value))) ⟨xb, xs, xp⟩ = some (.map (some y.2.1)) from by rw [← hyx]; exact mget_hm_some H.out.keys hy)
       have qM : ∀ (w : World) (r : Option Nat), (binOp .eql 116 (.map r) (.map none)).run Tryz.prog w = .ok (.bool r.isNone) w := fun w r => run_eql_map_nil w _ _ _ r Tryz.underlying116
       clear hx hy hyx
       go_enter Tryz.func11, Tryz.ntmps11
       go_upto_region 1 with fail
       rw [← HWW.out]
       go_wp2_with (first
        | (go_at_call 59; refine (sright_c (B := B) (R := R) (p := p) (A := A) (c := c) (s := s) ⟨xb, xs, xp⟩ _ ⟨X, H.out⟩).mono ?_; rw [HH.out]; rintro e w1 ⟨rfl, hb⟩; have HB1 := Lib.hid hb
           have q0 := (World.cell?_of_block (a := ⟨w.heap.size, 0, none⟩) (hb.block _ l0)).trans c0
           have q1 := (World.cell?_of_block (a := ⟨w.heap.size, 1, none⟩) (hb.block _ l0)).trans c1
           have q2 := (World.cell?_of_block (a := ⟨w.heap.size, 2, none⟩) (hb.block _ l0)).trans c2
           have ql := Nat.lt_of_lt_of_le l0 hb.size
           have H1 := Lib.hid (H.out.ext hb)
           have q5 : w1.cell? ⟨sb, 5, none⟩ = some (.map (some X.hb)) := (H1.out.bk.cell 5).trans rfl
           have qs := H1.out.bk.lt
           clear hb))
       have hlk := fun m => (H1.out.hold.drewN m).lookup idKey (t := 109) (e := 116) (by kernel_rfl) (zero_ii _) (⟨xb, xs, xp⟩ : Id3)
       simp only [HG.out, Option.getD_some, idV] at hlk
       go_quiet (fail)
       go_wp2_with fail
       obtain ⟨w3, hrun3, hm3, hg3, hs3⟩ := ((H1.out.inn y HY.out).drewN (nq + 1)).store intKey Tryz.underlying116 n (.int .i64 1)
       have HM3 := Lib.hid hm3
       have HG3 := Lib.hid hg3
       have HZ3 := Lib.hid hs3
       simp only [inV] at hrun3
       clear hm3 hg3 hs3
       go_region
       go_wp2_with fail
       go_returns
       have HF := told_in (w := w) (w1 := w1.drewN (nq + 1)) (n := n) (H1.out.ext (below_drewN (Below.refl _ _) (nq + 1))) (ext_trans HBW.out (below_drewN HB1.out (nq + 1))) HY.out HM3.out HG3.out HZ3.out (by rw [HYX.out]; exact HN.out)
       rw [HYX.out] at HF
       exact HF
     · have HX0 := Lib.hid hx
       have HG := Lib.hid (show mget (X.hm.map fun y => (y.1, (.map (some y.2.1) : Value))) ⟨xb, xs, xp⟩ = none from mget_hm_none hx)
       have hmm := @run_makeMap Tryz.prog
       have qM : ∀ (w : World) (r : Option Nat), (binOp .eql 116 (.map r) (.map none)).run Tryz.prog w = .ok (.bool r.isNone) w := fun w r => run_eql_map_nil w _ _ _ r Tryz.underlying116
       clear hx
       go_enter Tryz.func11, Tryz.ntmps11
       go_upto_region 1 with fail
       rw [← HWW.out]
       go_wp2_with (first
        | (go_at_call 59; refine (sright_c (B := B) (R := R) (p := p) (A := A) (c := c) (s := s) ⟨xb, xs, xp⟩ _ ⟨X, H.out⟩).mono ?_; rw [HH.out]; rintro e w1 ⟨rfl, hb⟩; have HB1 := Lib.hid hb
           have HX1 := Lib.hid (HXW.out.ext hb)
           have q0 : w1.cell? ⟨w.heap.size, 0, none⟩ = some (.int .i64 xb) := (HX1.out.cell 0).trans rfl
           have q1 : w1.cell? ⟨w.heap.size, 1, none⟩ = some (.int .i64 xs) := (HX1.out.cell 1).trans rfl
           have q2 : w1.cell? ⟨w.heap.size, 2, none⟩ = some (.int .i64 xp) := (HX1.out.cell 2).trans rfl
           have ql := HX1.out.lt
           have H1 := Lib.hid (H.out.ext hb)
           have q5 : w1.cell? ⟨sb, 5, none⟩ = some (.map (some X.hb)) := (H1.out.bk.cell 5).trans rfl
           have qs := H1.out.bk.lt
           clear hb))
       have hlk := fun m => (H1.out.hold.drewN m).lookup idKey (t := 109) (e := 116) (by kernel_rfl) (zero_ii _) (⟨xb, xs, xp⟩ : Id3)
       simp only [HG.out, Option.getD_none, idV] at hlk
       go_quiet (fail)
       clear hlk
       go_wp2_with fail
       refine wp_region_held_drew (S := (fun w' => w'.cell? ⟨w.heap.size, 0, none⟩ = some (.int .i64 xb) ∧ w'.cell? ⟨w.heap.size, 1, none⟩ = some (.int .i64 xs) ∧ w'.cell? ⟨w.heap.size, 2, none⟩ = some (.int .i64 xp) ∧ w'.cell? ⟨sb, 5, none⟩ = some (.map (some X.hb)))) (by kernel_rfl) ?_ (fun hHeld => ?_)
       · (first | exact ⟨s0, s1, s2, s5⟩ | exact ⟨r0, r1, r2, r5⟩ | exact ⟨q0, q1, q2, q5⟩ | go_keep)
       refine wpAnyH_take (i := 0) (oi := ⟨some 25, .move (.tmp 0), 26, "sched.go:51", #[], none⟩) (v := ?v1z0) rfl (by kernel_rfl) (by kernel_rfl) (by kernel_rfl) (fun _ _ _ h => h) (Or.inl ⟨by rfl, ?hy1z0⟩) (by assumption) ?rest1z0
       case hy1z0 => (intro w hSw; (try dsimp only at hSw); go_simp; try (with_reducible rfl))
       simp only [Act.put, List.setIfInBounds_toArray, List.set_cons_zero, List.set_cons_succ]
       refine wpAnyH_take (i := 1) (oi := ⟨some 26, .nilCheck (.tmp 25), 0, "sched.go:51", #[⟨0, .data⟩], none⟩) (v := ?v1z1) rfl (by kernel_rfl) (by kernel_rfl) (by kernel_rfl) (fun _ _ _ h => h) (Or.inl ⟨by rfl, ?hy1z1⟩) (by assumption) ?rest1z1
       case hy1z1 => (intro w hSw; (try dsimp only at hSw); go_simp; try (with_reducible rfl))
       simp only [Act.put, List.setIfInBounds_toArray, List.set_cons_zero, List.set_cons_succ]
       refine wpAnyH_take (i := 2) (oi := ⟨some 27, .fieldAddr 112 (.tmp 26) 4, 0, "sched.go:51", #[⟨1, .data⟩], none⟩) (v := ?v1z2) rfl (by kernel_rfl) (by kernel_rfl) (by kernel_rfl) (fun _ _ _ h => h) (Or.inl ⟨by rfl, ?hy1z2⟩) (by assumption) ?rest1z2
       case hy1z2 => (intro w hSw; (try dsimp only at hSw); go_simp; try (with_reducible rfl))
       simp only [Act.put, List.setIfInBounds_toArray, List.set_cons_zero, List.set_cons_succ]
       refine wpAnyH_take (i := 3) (oi := ⟨some 28, .load 109 (.tmp 27), 109, "sched.go:51", #[⟨2, .data⟩], none⟩) (v := ?v1z3) rfl (by kernel_rfl) (by kernel_rfl) (by kernel_rfl) (fun _ _ _ h => h) (Or.inl ⟨by rfl, ?hy1z3⟩) (by assumption) ?rest1z3
       case hy1z3 => (intro w hSw; (try dsimp only at hSw); go_simp; try (with_reducible rfl))
       simp only [Act.put, List.setIfInBounds_toArray, List.set_cons_zero, List.set_cons_succ]
       refine wpAnyH_take (i := 4) (oi := ⟨some 29, .load 35 (.tmp 4), 35, "sched.go:51", #[], none⟩) (v := ?v1z4) rfl (by kernel_rfl) (by kernel_rfl) (by kernel_rfl) (fun _ _ _ h => h) (Or.inl ⟨by rfl, ?hy1z4⟩) (by assumption) ?rest1z4
       case hy1z4 => (intro w hSw; (try dsimp only at hSw); go_simp; try (with_reducible rfl))
       simp only [Act.put, List.setIfInBounds_toArray, List.set_cons_zero, List.set_cons_succ]
       refine wpAnyH_ready (rs := [5]) (by kernel_rfl) (by simp) ?_
       refine AllReadyH.cons (o := ⟨some 30, .makeMap 116 none, 116, "sched.go:51", #[], none⟩) rfl (fun K hK => ?_) ?_
       ·
         refine step_makeMap (enc := inV) _ rfl 116 rfl (by first | exact hmm _ _ | simp [hmm]) ?_
         intro wm nb hmN hb hbN hszN
         have HB2 := Lib.hid (show Below w1.heap.size w1 wm from ext_trans (by first | exact below_drewN (Below.refl _ _) (nq + 1) | exact below_drewN (below_drewN (Below.refl _ _) nq) 1) hb)
         have HMn := Lib.hid hmN
         have HbN := Lib.hid (show w1.heap.size ≤ nb from by rw [hbN]; exact Nat.le_refl _)
         have HX2 := Lib.hid (HX1.out.ext HB2.out)
         have r0 : wm.cell? ⟨w.heap.size, 0, none⟩ = some (.int .i64 xb) := (HX2.out.cell 0).trans rfl
         have r1 : wm.cell? ⟨w.heap.size, 1, none⟩ = some (.int .i64 xs) := (HX2.out.cell 1).trans rfl
         have r2 : wm.cell? ⟨w.heap.size, 2, none⟩ = some (.int .i64 xp) := (HX2.out.cell 2).trans rfl
         have H2 := Lib.hid (H1.out.ext HB2.out)
         have r5 : wm.cell? ⟨sb, 5, none⟩ = some (.map (some X.hb)) := (H2.out.bk.cell 5).trans rfl
         clear hmN hb hbN hszN
         refine hK.out _ _ ?_ (fun hHeld => ?_)
         · (first | exact ⟨s0, s1, s2, s5⟩ | exact ⟨r0, r1, r2, r5⟩ | exact ⟨q0, q1, q2, q5⟩ | go_keep)
         clear hK K
         try simp only [Act.put, List.setIfInBounds_toArray, List.set_cons_zero, List.set_cons_succ]
         refine wpAnyH_ready (rs := [6]) (by kernel_rfl) (by simp) ?_
         refine AllReadyH.cons (o := ⟨none, .mapUpdate 109 (.tmp 28) (.tmp 29) (.tmp 30), 0, "sched.go:51", #[⟨3, .data⟩, ⟨4, .data⟩, ⟨5, .data⟩, ⟨0, .phase⟩, ⟨1, .phase⟩, ⟨2, .phase⟩, ⟨3, .phase⟩, ⟨4, .phase⟩, ⟨5, .phase⟩], none⟩) rfl (fun K hK => ?_) ?_
         ·
           refine step_store_is _ rfl (.tmp 28) (.tmp 29) (.tmp 30) 109 rfl idKey 116 (by kernel_rfl) X.hb _ (by rfl) H2.out.hold (⟨xb, xs, xp⟩ : Id3) (.map (some nb)) (by rfl) (by rfl) ?_
           intro w3 hm3 hg3 hs3
           have HM3 := Lib.hid hm3
           have HG3 := Lib.hid hg3
           have HZ3 := Lib.hid hs3
           have HX3 := Lib.hid (HX2.out.grown hg3 (fun e => by injection e with e; exact H2.out.hold.ne_cells HX2.out e.symm))
           have HS3 := Lib.hid (H2.out.bk.grown hg3 (fun e => by injection e with e; exact H2.out.hold.ne_cells H2.out.bk e.symm))
           have s0 : w3.cell? ⟨w.heap.size, 0, none⟩ = some (.int .i64 xb) := (HX3.out.cell 0).trans rfl
           have s1 : w3.cell? ⟨w.heap.size, 1, none⟩ = some (.int .i64 xs) := (HX3.out.cell 1).trans rfl
           have s2 : w3.cell? ⟨w.heap.size, 2, none⟩ = some (.int .i64 xp) := (HX3.out.cell 2).trans rfl
           have s5 : w3.cell? ⟨sb, 5, none⟩ = some (.map (some X.hb)) := (HS3.out.cell 5).trans rfl
           clear hm3 hg3 hs3
           refine hK.out _ _ ?_ (fun hHeld => ?_)
           · (first | exact ⟨s0, s1, s2, s5⟩ | exact ⟨r0, r1, r2, r5⟩ | exact ⟨q0, q1, q2, q5⟩ | go_keep)
           clear hK K
           try simp only [Act.put]
           refine wpAnyH_done (by kernel_rfl) ?_ _
           have HN3 := Lib.hid (HMn.out.grown HG3.out (fun e => by injection e with e; have := H1.out.hold.lt; have := HbN.out; omega))
           have sl := HX3.out.lt
           have ss := HS3.out.lt
           have hlk4 := (HM3.out.drew).lookup idKey (t := 109) (e := 116) (by kernel_rfl) (zero_ii _) (⟨xb, xs, xp⟩ : Id3)
           simp only [mget_mset_new HM3.out.nodup (by rw [List.map_map]; exact HX0.out), Option.getD_some, idV] at hlk4
           obtain ⟨w5, hrun5, hm5, hg5, hs5⟩ := (HN3.out.drew).store intKey Tryz.underlying116 n (.int .i64 1)
           have HM5 := Lib.hid hm5
           have HG5 := Lib.hid hg5
           have HZ5 := Lib.hid hs5
           simp only [inV] at hrun5
           clear hm5 hg5 hs5 r0 r1 r2 r5 q0 q1 q2 q5
           go_wp2_with fail
           go_region
           go_wp2_with fail
           go_returns
           exact told_new (w := w) (w1 := w1) (w2 := wm) (w3 := w3) (w4 := w3.drew) H1.out (ext_trans HBW.out HB1.out) HX0.out HB2.out HMn.out HbN.out HM3.out HG3.out HZ3.out (below_drewN (Below.refl _ _) 1) HM5.out HG5.out HZ5.out HN.out
         exact AllReadyH.nil
       exact AllReadyH.nil
   · have HV := Lib.hid (show s.told p ⟨xb, xs, xp⟩ n = s from by unfold SchedD.told; rw [if_neg (fun h => hn h.2)])
     clear hh
     by_cases hn1 : n < 1
     · go_enter Tryz.func11, Tryz.ntmps11
       go_upto_region 1 with fail
       rw [← HWW.out]
       go_wp2_with (first
        | (go_at_call 59; refine (sright_c (B := B) (R := R) (p := p) (A := A) (c := c) (s := s) ⟨xb, xs, xp⟩ _ ⟨X, H.out⟩).mono ?_; rw [HH.out]; rintro e w1 ⟨rfl, hb⟩; have HB1 := Lib.hid hb; clear hb))
       go_returns
       rw [HV.out]
       exact ⟨rfl, R, ⟨X, H.out.ext HB1.out⟩, Fr.of_below (ext_trans HBW.out HB1.out), fun k hk => .inl hk⟩
     · have hn4 : 4 < n := by omega
       go_enter Tryz.func11, Tryz.ntmps11
       go_upto_region 1 with fail
       rw [← HWW.out]
       go_wp2_with (first
        | (go_at_call 59; refine (sright_c (B := B) (R := R) (p := p) (A := A) (c := c) (s := s) ⟨xb, xs, xp⟩ _ ⟨X, H.out⟩).mono ?_; rw [HH.out]; rintro e w1 ⟨rfl, hb⟩; have HB1 := Lib.hid hb; clear hb))
       go_returns
       rw [HV.out]
       exact ⟨rfl, R, ⟨X, H.out.ext HB1.out⟩, Fr.of_below (ext_trans HBW.out HB1.out), fun k hk => .inl hk⟩
end
end Go.Proofs.YtapjhliglmohgaaGreatDoor
/- Who holds what: Lost of the program. -/
namespace Go.Proofs.YtapjhliglmohgaaGreatDoor
open Go.RowKit Go.Sort
theorem holdOf_in {l : List (Id3 × List Int)} (hn : (l.map (·.1)).Nodup) {y : Id3 × List Int} (hy : y ∈ l) : holdOf l y.1 = y.2 := by
 unfold holdOf
 induction l with
 | nil => cases hy
 | cons a l ih =>
   simp only [List.map_cons, List.nodup_cons] at hn
   rw [List.find?_cons]
   rcases List.mem_cons.1 hy with rfl | hy'
   · simp
   · have hne : a.1 ≠ y.1 := fun e => hn.1 (e ▸ List.mem_map_of_mem hy')
     rw [decide_eq_false hne]
     exact ih hn.2 hy'
theorem holdOf_out {l : List (Id3 × List Int)} {x : Id3} (hx : x ∉ l.map (·.1)) : holdOf l x = [] := by
 unfold holdOf
 rw [List.find?_eq_none.2 (fun y hy h => hx (by have e : y.1 = x := of_decide_eq_true h; rw [← e]; exact List.mem_map_of_mem hy))]
 rfl
theorem holdDrop_upd (f : List Int → List Int) (x : Id3) (l : List (Id3 × List Int)) : holdDrop (holdUpd f x l) x = holdDrop l x := by
 unfold holdDrop holdUpd
 induction l with
 | nil => rfl
 | cons a l ih =>
   rw [List.map_cons, List.filter_cons, List.filter_cons, ih]
   by_cases h : a.1 = x
   · simp [h]
   · simp [h]
section
variable {B sb : Nat} {R : Nat → Prop} {p : PlanD} {A : Option Addr} {c : Nat} {s : SchedD}
theorem run_delete_none (n : Int) (w : World) : (Builtin.delete_ #[116, 3] 0 #[.map none, .int .i64 n]).run Tryz.prog w = .ok (.tuple #[]) w := by
 simp [Builtin.delete_, run_underlying Tryz.underlying116, intKey.check]
theorem SchedAt.holdOf_y {X : SchX} {w : World} (h : SchedAt B sb R p A c X s w) {y : Id3 × Nat × List Int} (hy : y ∈ X.hm) : holdOf s.holds y.1 = y.2.2 := by
 rw [h.hl]
 exact holdOf_in (y := (y.1, y.2.2)) (by rw [List.map_map]; exact h.keys) (List.mem_map.2 ⟨y, hy, rfl⟩)
theorem lost_more {X : SchX} {y : Id3 × Nat × List Int} {n : Int} {w w1 w2 w3 : World} (h : SchedAt B sb R p A c X s w1) (hb : Below w.heap.size w w1) (hy : y ∈ X.hm) (hm : MapIs inV w2 y.2.1 (mdel (y.2.2.map fun m => (m, (.int .i64 1 : Value))) n)) (hg : w1.grownBy w2 (some y.2.1)) (hs : w2.heap.size = w1.heap.size) (hb3 : Below w2.heap.size w2 w3) (hne : delI y.2.2 n ≠ []) :
 STurn B sb R p A c (s.lost y.1 n) w (.returned (.tuple #[])) w3 := by
 have h2 := (h.inner (f := fun m => delI m n) hy (by rw [delI_mdel]; exact hm) hg hs).ext hb3
 have h3 : SchedIs B sb R p A c (s.lost y.1 n) w3 := by
  unfold SchedD.lost holdCut
  rw [h.holdOf_y hy, if_neg hne]
  exact ⟨_, h2⟩
 exact ⟨rfl, R, h3, ((Fr.of_below hb).grown hg (fun k hk => .inl (by injection hk with hk; rw [← hk]; exact (h.rb _ (.inr (.inr ⟨y, hy, rfl⟩))).1))).ext hb3, fun k hk => .inl hk⟩
theorem lost_last {X : SchX} {y : Id3 × Nat × List Int} {n : Int} {w w1 w2 w3 w4 : World} (h : SchedAt B sb R p A c X s w1) (hb : Below w.heap.size w w1) (hy : y ∈ X.hm) (hm : MapIs inV w2 y.2.1 (mdel (y.2.2.map fun m => (m, (.int .i64 1 : Value))) n)) (hg : w1.grownBy w2 (some y.2.1)) (hs : w2.heap.size = w1.heap.size) (hb3 : Below w2.heap.size w2 w3) (he : delI y.2.2 n = [])
 (hm4 : MapIs idV w4 X.hb (mdel (X.hm.map fun y => (y.1, (.map (some y.2.1) : Value))) y.1)) (hg4 : w3.grownBy w4 (some X.hb)) (hs4 : w4.heap.size = w3.heap.size) :
 STurn B sb R p A c (s.lost y.1 n) w (.returned (.tuple #[])) w4 := by
 have h2 := (h.inner (f := fun m => delI m n) hy (by rw [delI_mdel]; exact hm) hg hs).ext hb3
 have h3 := h2.outer y.1 (by show MapIs idV w4 X.hb (mdel ((hmUpd _ y.1 X.hm).map _) y.1); rw [hmUpd_blk]; exact hm4) hg4 hs4
 have h4 : SchedIs B sb R p A c (s.lost y.1 n) w4 := by
  unfold SchedD.lost holdCut
  rw [h.holdOf_y hy, if_pos he, ← holdDrop_upd (fun m => delI m n)]
  exact ⟨_, h3⟩
 exact ⟨rfl, R, h4, (((Fr.of_below hb).grown hg (fun k hk => .inl (by injection hk with hk; rw [← hk]; exact (h.rb _ (.inr (.inr ⟨y, hy, rfl⟩))).1))).ext hb3).grown hg4 (fun k hk => .inl (by injection hk with hk; rw [← hk]; exact (h.rb _ (.inl rfl)).1)), fun k hk => .inl hk⟩
theorem lost_none {X : SchX} {x : Id3} {n : Int} {w w3 w4 : World} (h : SchedAt B sb R p A c X s w3) (hb : Below w.heap.size w w3) (hx : x ∉ X.hm.map (·.1)) (hm4 : MapIs idV w4 X.hb (mdel (X.hm.map fun y => (y.1, (.map (some y.2.1) : Value))) x)) (hg4 : w3.grownBy w4 (some X.hb)) (hs4 : w4.heap.size = w3.heap.size) :
 STurn B sb R p A c (s.lost x n) w (.returned (.tuple #[])) w4 := by
 have h3 := h.outer x hm4 hg4 hs4
 have h4 : SchedIs B sb R p A c (s.lost x n) w4 := by
  unfold SchedD.lost holdCut
  rw [holdOf_out (by rw [h.hl, List.map_map]; exact hx), if_pos (show delI [] n = [] from rfl)]
  exact ⟨_, h3⟩
 exact ⟨rfl, R, h4, (Fr.of_below hb).grown hg4 (fun k hk => .inl (by injection hk with hk; rw [← hk]; exact (h.rb _ (.inl rfl)).1)), fun k hk => .inl hk⟩
set_option maxRecDepth 100000 in
set_option maxHeartbeats 8000000 in
theorem lost_c (x : Id3) (n : Int) (w : World) (h : SchedIs B sb R p A c s w) : Calls Tryz.prog 22 #[.pointer (some ⟨sb, 0, none⟩), .agg #[.int .i64 x.b, .int .i64 x.s, .int .i64 x.p, .int .i64 n]] w (STurn B sb R p A c (s.lost x n) w) := by
 obtain ⟨X, h⟩ := h
 obtain ⟨xb, xs, xp⟩ := x
 obtain ⟨W, hW⟩ : ∃ W, W = w.alloc (.cells #[.int .i64 xb, .int .i64 xs, .int .i64 xp, .int .i64 n] 57 (0, 0)) := ⟨_, rfl⟩
 have HBW := Lib.hid (show Below w.heap.size w W from by rw [hW]; exact ext_alloc (Below.refl _ _) _)
 have HXW := Lib.hid (show Bk W w.heap.size 57 #[.int .i64 xb, .int .i64 xs, .int .i64 xp, .int .i64 n] from by rw [hW]; exact Bk.new _ _ _)
 have H := Lib.hid (h.ext HBW.out)
 have HWW := Lib.hid hW
 clear h hW
 have c0 : W.cell? ⟨w.heap.size, 0, none⟩ = some (.int .i64 xb) := (HXW.out.cell 0).trans rfl
 have c1 : W.cell? ⟨w.heap.size, 1, none⟩ = some (.int .i64 xs) := (HXW.out.cell 1).trans rfl
 have c2 : W.cell? ⟨w.heap.size, 2, none⟩ = some (.int .i64 xp) := (HXW.out.cell 2).trans rfl
 have c3 : W.cell? ⟨w.heap.size, 3, none⟩ = some (.int .i64 n) := (HXW.out.cell 3).trans rfl
 have c5 : W.cell? ⟨sb, 5, none⟩ = some (.map (some X.hb)) := (H.out.bk.cell 5).trans rfl
 have l0 := HXW.out.lt
 have ls := H.out.bk.lt
 by_cases hx : (⟨xb, xs, xp⟩ : Id3) ∈ X.hm.map (·.1)
 · obtain ⟨y, hy, hyx⟩ := List.mem_map.1 hx
   have HY := Lib.hid hy
   have HYX := Lib.hid hyx
   have HG := Lib.hid (show mget (X.hm.map fun y => (y.1, (.map (some y.2.1) : Value))) ⟨xb, xs, xp⟩ = some (.map (some y.2.1)) from by rw [← hyx]; exact mget_hm_some H.out.keys hy)
   have hlk := (H.out.hold.drew).lookup idKey (t := 109) (e := 116) (by kernel_rfl) (zero_ii _) (⟨xb, xs, xp⟩ : Id3)
   simp only [HG.out, Option.getD_some, idV] at hlk
   obtain ⟨w2, hrun2, hm2, hg2, hs2⟩ := ((H.out.inn y hy).drew).drop intKey Tryz.underlying116 0 n
   have HM2 := Lib.hid hm2
   have HG2 := Lib.hid hg2
   have HZ2 := Lib.hid hs2
   simp only [inV] at hrun2
   have HX2 := Lib.hid ((HXW.out.ext (below_drewN (Below.refl _ _) 1)).grown hg2 (fun e => by injection e with e; exact (H.out.inn y hy).ne_cells HXW.out e.symm))
   have HS2 := Lib.hid ((H.out.bk.ext (below_drewN (Below.refl _ _) 1)).grown hg2 (fun e => by injection e with e; exact (H.out.inn y hy).ne_cells H.out.bk e.symm))
   have q0 : w2.cell? ⟨w.heap.size, 0, none⟩ = some (.int .i64 xb) := (HX2.out.cell 0).trans rfl
   have q1 : w2.cell? ⟨w.heap.size, 1, none⟩ = some (.int .i64 xs) := (HX2.out.cell 1).trans rfl
   have q2 : w2.cell? ⟨w.heap.size, 2, none⟩ = some (.int .i64 xp) := (HX2.out.cell 2).trans rfl
   have q5 : w2.cell? ⟨sb, 5, none⟩ = some (.map (some X.hb)) := (HS2.out.cell 5).trans rfl
   have ql := HX2.out.lt
   have qs := HS2.out.lt
   have HH2 := Lib.hid ((H.out.hold.drew).grown hg2 (fun e => by injection e with e; exact (H.out.hi y hy).1 e.symm))
   have hlk2 := fun m => (HH2.out.drewN m).lookup idKey (t := 109) (e := 116) (by kernel_rfl) (zero_ii _) (⟨xb, xs, xp⟩ : Id3)
   simp only [HG.out, Option.getD_some, idV] at hlk2
   have hln := fun m => (hm2.drewN m).len Tryz.underlying116 3
   have hll : (mdel (y.2.2.map fun n => (n, (.int .i64 1 : Value))) n).length = (delI y.2.2 n).length := by rw [← delI_mdel, List.length_map]
   rw [hll] at hln
   clear hx hy hyx hm2 hg2 hs2 hll
   by_cases he : delI y.2.2 n = []
   · have HE := Lib.hid he
     rw [he] at hln
     simp only [List.length_nil, Int.ofNat_zero] at hln
     clear he
     go_enter Tryz.func22, Tryz.ntmps22
     go_upto_region 1 with fail
     rw [← HWW.out]
     go_region
     clear hlk hrun2 c0 c1 c2 c3 c5
     go_wp2_with fail
     go_quiet (fail)
     obtain ⟨w4, hrun4, hm4, hg4, hs4⟩ := (HH2.out.drewN (nq + 1)).drop idKey Tryz.underlying109 0 (⟨xb, xs, xp⟩ : Id3)
     have HM4 := Lib.hid hm4
     have HG4 := Lib.hid hg4
     have HZ4 := Lib.hid hs4
     simp only [idV] at hrun4
     clear hm4 hg4 hs4
     go_wp2_with fail
     go_region
     go_wp2_with fail
     go_returns
     have HF := lost_last (w := w) (w1 := W.drew) (n := n) (w3 := w2.drewN (nq + 1)) (H.out.ext (below_drewN (Below.refl _ _) 1)) (below_drewN HBW.out 1) HY.out HM2.out HG2.out HZ2.out (below_drewN (Below.refl _ _) (nq + 1)) HE.out (by rw [HYX.out]; exact HM4.out) HG4.out HZ4.out
     rw [HYX.out] at HF
     exact HF
   · have HE := Lib.hid he
     obtain ⟨nl, hnl⟩ : ∃ nl, nl = (delI y.2.2 n).length := ⟨_, rfl⟩
     rw [← hnl] at hln
     have hnl0 : ((nl : Int) == 0) = false := by
      have : (delI y.2.2 n).length ≠ 0 := fun h => he (List.eq_nil_of_length_eq_zero h)
      rw [beq_eq_false_iff_ne]
      omega
     clear he hnl
     go_enter Tryz.func22, Tryz.ntmps22
     go_upto_region 1 with fail
     rw [← HWW.out]
     go_region
     clear hlk hrun2 c0 c1 c2 c3 c5
     go_wp2_with fail
     go_quiet (fail)
     go_wp2_with fail
     go_returns
     have HF := lost_more (w := w) (w1 := W.drew) (n := n) (w3 := w2.drewN nq) (H.out.ext (below_drewN (Below.refl _ _) 1)) (below_drewN HBW.out 1) HY.out HM2.out HG2.out HZ2.out (below_drewN (Below.refl _ _) nq) HE.out
     rw [HYX.out] at HF
     exact HF
 · have HX0 := Lib.hid hx
   have HG := Lib.hid (show mget (X.hm.map fun y => (y.1, (.map (some y.2.1) : Value))) ⟨xb, xs, xp⟩ = none from mget_hm_none hx)
   have hlk := (H.out.hold.drew).lookup idKey (t := 109) (e := 116) (by kernel_rfl) (zero_ii _) (⟨xb, xs, xp⟩ : Id3)
   simp only [HG.out, Option.getD_none, idV] at hlk
   have hrd := run_delete_none n
   clear hx
   go_enter Tryz.func22, Tryz.ntmps22
   go_upto_region 1 with fail
   rw [← HWW.out]
   go_region
   go_wp2_with fail
   have hlk2 := fun m => (H.out.hold.drewN m).lookup idKey (t := 109) (e := 116) (by kernel_rfl) (zero_ii _) (⟨xb, xs, xp⟩ : Id3)
   simp only [HG.out, Option.getD_none, idV] at hlk2
   go_quiet (fail)
   obtain ⟨w4, hrun4, hm4, hg4, hs4⟩ := (H.out.hold.drewN (1 + nq + 1)).drop idKey Tryz.underlying109 0 (⟨xb, xs, xp⟩ : Id3)
   have HM4 := Lib.hid hm4
   have HG4 := Lib.hid hg4
   have HZ4 := Lib.hid hs4
   simp only [idV] at hrun4
   clear hm4 hg4 hs4
   go_wp2_with fail
   go_region
   go_wp2_with fail
   go_returns
   exact lost_none (w := w) (w3 := W.drewN (1 + nq + 1)) (n := n) (H.out.ext (below_drewN (Below.refl _ _) (1 + nq + 1))) (below_drewN HBW.out (1 + nq + 1)) HX0.out HM4.out HG4.out HZ4.out
end
end Go.Proofs.YtapjhliglmohgaaGreatDoor
/- rows.Before of names. -/
namespace Go.Proofs.YtapjhliglmohgaaGreatDoor
open Go.RowKit Go.Sort
def bef (x y : Id3) : Bool := if x.b ≠ y.b then decide (x.b < y.b) else if x.s ≠ y.s then decide (x.s < y.s) else decide (x.p < y.p)
theorem before_c (x y : Id3) (W : World) : Calls Tryz.prog 120 #[idV x, idV y] W (GrowPost W (.bool (bef x y))) := by
 have fin : ∀ o1 o2 : Obj, ∃ q os', (W.alloc o1).alloc o2 = grow (W.drewN q) os' := fun o1 o2 => ⟨0, _, by rw [alloc_eq_grow, alloc_eq_grow, grow_grow]; rfl⟩
 have HF := Lib.hid fin
 clear fin
 unfold bef
 by_cases h1 : x.b = y.b
 · by_cases h2 : x.s = y.s
   · rw [if_neg (by simp [h1]), if_neg (by simp [h2])]
     have e1 : (x.b != y.b) = false := by simp [h1]
     have e2 : (x.s != y.s) = false := by simp [h2]
     clear h1 h2
     go_enter Tryz.func120, Tryz.ntmps120
     go_wp2
     go_ret
     exact ⟨rfl, HF.out _ _⟩
   · rw [if_neg (by simp [h1]), if_pos h2]
     have e1 : (x.b != y.b) = false := by simp [h1]
     have e2 : (x.s != y.s) = true := by simp [h2]
     clear h1 h2
     go_enter Tryz.func120, Tryz.ntmps120
     go_wp2
     go_ret
     exact ⟨rfl, HF.out _ _⟩
 · rw [if_pos h1]
   have e1 : (x.b != y.b) = true := by simp [h1]
   clear h1
   go_enter Tryz.func120, Tryz.ntmps120
   go_wp2
   go_ret
   exact ⟨rfl, HF.out _ _⟩
theorem bef_iff (x y : Id3) : bef x y = true ↔ x.b < y.b ∨ (x.b = y.b ∧ (x.s < y.s ∨ (x.s = y.s ∧ x.p < y.p))) := by
 unfold bef
 by_cases h1 : x.b = y.b
 · by_cases h2 : x.s = y.s
   · rw [if_neg (by simp [h1]), if_neg (by simp [h2]), decide_eq_true_eq]; omega
   · rw [if_neg (by simp [h1]), if_pos h2, decide_eq_true_eq]; omega
 · rw [if_pos h1, decide_eq_true_eq]; omega
end Go.Proofs.YtapjhliglmohgaaGreatDoor
/- Who holds what: held of the program, given what the sort does. -/
namespace Go.Proofs.YtapjhliglmohgaaGreatDoor
open Go.RowKit Go.Sort
/-- What the sort's closure says. -/
theorem lessH_c (x y : Id3) (W : World) : Calls Tryz.prog 119 #[.agg (idC x).toArray, .agg (idC y).toArray] W (GrowPost W (.int .i64 (if bef x y then -1 else 1))) := by
 have fin : ∀ (o1 o2 : Obj) q os, ∃ q' os', grow (((W.alloc o1).alloc o2).drewN q) os = grow (W.drewN q') os' := fun o1 o2 q os => ⟨q, _, by
  rw [alloc_eq_grow, alloc_eq_grow, grow_grow]
  show grow (grow (W.drewN q) _) _ = _
  rw [grow_grow]⟩
 have HF := Lib.hid fin
 clear fin
 simp only [idC]
 cases hb : bef x y with
 | true =>
   go_enter Tryz.func119, Tryz.ntmps119
   go_wp2_with (first | (go_at_call 120; refine (before_c x y _).mono ?_; rw [hb]; rintro e w' ⟨rfl, q, os, rfl⟩))
   go_ret
   exact ⟨by simp, HF.out _ _ _ _⟩
 | false =>
   go_enter Tryz.func119, Tryz.ntmps119
   go_wp2_with (first | (go_at_call 120; refine (before_c x y _).mono ?_; rw [hb]; rintro e w' ⟨rfl, q, os, rfl⟩))
   go_ret
   exact ⟨by simp, HF.out _ _ _ _⟩
/-- What is asked of the sort. -/
def SortHPost (W : World) (base : Nat) (A : Option Addr) (l : List Id3) (c : Nat) (e : Ending) (w' : World) : Prop :=
 e = .returned (.tuple #[]) ∧ ∃ l', l'.Perm l ∧ l'.Pairwise (fun x y => bef y x = false) ∧ w'.ownsRow base 35 3 (.slice A l'.length c) l'.length (idsC l') ∧ W.grownBy w' (Value.slice A l.length c).ownBlock
def SortH : Prop := ∀ (W : World) (base : Nat) (A : Option Addr) (c : Nat) (l : List Id3), W.ownsRow base 35 3 (.slice A l.length c) l.length (idsC l) → base ≤ W.heap.size → l.length ≤ 1073741824 →
 Calls Tryz.prog 118 #[.slice A l.length c, .func (.func 119) #[] #[]] W (SortHPost W base A l c)
def HeldPost (w : World) (ks : List Id3) (e : Ending) (w' : World) : Prop :=
 ∃ A c l, e = .returned (.slice A l.length c) ∧ l.Perm ks ∧ l.Pairwise (fun x y => bef y x = false) ∧ w'.ownsRow w.heap.size 35 3 (.slice A l.length c) l.length (idsC l) ∧ Below w.heap.size w w'
section
variable {B sb : Nat} {R : Nat → Prop} {p : PlanD} {A : Option Addr} {c : Nat} {s : SchedD}
set_option maxRecDepth 100000 in
set_option maxHeartbeats 8000000 in
theorem held_c (hsort : SortH) (w : World) (h : SchedIs B sb R p A c s w) (hlen : s.holds.length ≤ 1000000) :
 Calls Tryz.prog 63 #[.pointer (some ⟨sb, 0, none⟩)] w (HeldPost w (s.holds.map (·.1))) := by
 obtain ⟨X, h⟩ := h
 have h1 : w.cell? ⟨sb, 5, none⟩ = some (.map (some X.hb)) := (h.bk.cell 5).trans rfl
 have hlt := h.bk.lt
 have hm := h.hold
 have hzl : X.hm.length ≤ 1000000 := by
  rw [h.hl, List.length_map] at hlen
  exact hlen
 have HZZ := Lib.hid (show s.holds.map (·.1) = X.hm.map (·.1) from by rw [h.hl, List.map_map]; rfl)
 obtain ⟨zs, hzs⟩ : ∃ zs, zs = X.hm := ⟨_, rfl⟩
 rw [← hzs] at hm hzl HZZ
 clear h hzs hlen
 have HS := Lib.hid hsort
 clear hsort
 go_enter Tryz.func63, Tryz.ntmps63
 go_wp2_with (first | (at_range; refine wpList_range_is _ rfl _ 109 rfl 116 Tryz.underlying109 X.hb _ rfl hm ?_; intro ob hi; go_frame))
 go_loopg [3] zs.length (fun k v3 wr => ∃ (left : List (Id3 × Nat × List Int)) (l : List Id3), left.length = k ∧ IterIs idV wr w.heap.size X.hb (zs.map fun q => (q.1, .map (some q.2.1))) (left.map fun q => (q.1, .map (some q.2.1))) ∧
  wr.ownsRow w.heap.size 35 3 v3 l.length (idsC l) ∧ Hid ((l ++ left.map (·.1)).Perm (zs.map (·.1))) ∧ l.length + left.length = zs.length ∧ Below w.heap.size w wr)
 case atStart => exact ⟨zs, [], rfl, hi, World.ownsRow_nil _ _ _ _, Lib.hid (List.Perm.refl _), by simp, ext_alloc (Below.refl _ _) _⟩
 case round =>
  obtain ⟨left, l, hk, hit, hown, hperm, hll, hb⟩ := hrel
  clear hi
  obtain ⟨A0, d0, rfl, hd0⟩ := own_shape hown
  go_wp2_with (first | (at_next; refine wpList_next_is _ rfl _ rfl (fun q : Id3 × Nat × List Int => q.1) (fun q => .map (some q.2.1)) X.hb w.heap.size _ left rfl hit ?_ ?_))
  · intro hl
    subst hl
    have hlb : l.length ≤ 1073741824 := by simp only [List.length_nil] at hll; omega
    go_wp2_with (first | (go_at_call 118; refine (HS.out _ w.heap.size A0 d0 l hown hb.size hlb).mono ?_; rintro e w2 ⟨rfl, l', hp', hsrt, hown2, hg2⟩))
    go_ret
    have hpl : l'.length = l.length := hp'.length_eq
    refine ⟨A0, d0, l', by rw [hpl]; rfl, ?_, hsrt, hown2, below_grownOwn hb hown (Nat.le_refl _) hg2⟩
    rw [HZZ.out]
    refine hp'.trans ?_
    simpa using hperm.out
  · intro q qn ql l1 l2 w1 hl hi1 hg1 hs1 hen
    have hbw1 : Below w.heap.size w w1 := hb.grown hg1 hb.size (fun k hk => by cases hk; exact Nat.le_refl _)
    have hk1 : (l1 ++ l2).length < gk := by rw [← hk, hl]; simp
    obtain ⟨x1, x2, x3, x4, hobj⟩ := hit.obj
    have hown1 : w1.ownsRow w.heap.size 35 3 (.slice A0 l.length d0) l.length (idsC l) := hown.kept hg1 (by
     rcases hown.2 with ⟨hv, _⟩ | ⟨g, c, cur, hv, _, hg, _⟩
     · left; rw [hv]; rfl
     · right; rw [hv]; simp only [Value.ownBlock, ne_eq, Option.some.injEq]; rintro rfl; rw [hobj] at hg; cases hg)
    have HI1 := Lib.hid hi1
    have HOW := Lib.hid hown1
    have HBW := Lib.hid hbw1
    have HLL := Lib.hid hl
    have HPE := Lib.hid hperm.out
    have hwl : w.heap.size ≤ w1.heap.size := hbw1.size
    have hlb : l.length ≤ 1000000 := by omega
    clear hi1 hown1 hbw1 hl hown hit hperm hb hg1 hobj hs1
    simp only [idV] at hen ⊢
    obtain ⟨qb, qs, qp⟩ := q
    have HE1 := Lib.hid (ext_alloc (ext_alloc (Below.refl w1.heap.size w1) (.cells #[.int .i64 qb, .int .i64 qs, .int .i64 qp] 35 (0, 0))) (.cells #[.int .i64 qb, .int .i64 qs, .int .i64 qp] 35 (0, 0)))
    have HO2 := Lib.hid (own_ext HOW.out HE1.out)
    have HN2 := Lib.hid (Bk.newAt (w := w1.alloc (.cells #[.int .i64 qb, .int .i64 qs, .int .i64 qp] 35 (0, 0))) (t := 35) (cs := #[.int .i64 qb, .int .i64 qs, .int .i64 qp]) (g := w1.heap.size + 1) (by simp))
    go_wp2_with (first
     | (at_builtin; refine wpList_appE id_app _ rfl (.tmp 14) (.tmp 16) rfl w.heap.size _ l (by rfl) HO2.out (⟨qb, qs, qp⟩ : Id3) (w1.heap.size + 1) (by rfl) HN2.out (by omega) (by have h2 := HE1.out.size; omega) ?_
        intro A3 c3 w3 hown3 hg3 hc3
        have HO3 := Lib.hid hown3
        have HG3 := Lib.hid hg3
        clear hown3 hg3))
    go_roundg (l1 ++ l2).length
    case measure => exact hk1
    case rel =>
     refine ⟨l1 ++ l2, l ++ [⟨qb, qs, qp⟩], rfl, ((by rw [List.map_append]; exact HI1.out.ext HE1.out : IterIs _ _ _ _ _ _).grownOwn HO2.out HG3.out), (by have h := HO3.out; simp only [List.length_append, List.length_cons, List.length_nil, Nat.zero_add] at h ⊢; exact h), Lib.hid ?_, ?_, below_grownOwn (ext_trans HBW.out HE1.out) HO2.out (Nat.le_refl _) HG3.out⟩
     · have hp := HPE.out
       rw [HLL.out] at hp
       refine List.Perm.trans ?_ hp
       simp only [List.map_append, List.map_cons, List.append_assoc, List.singleton_append]
       exact List.Perm.append_left _ List.perm_middle.symm
     · have hh := HLL.out
       rw [hh] at hll
       simp only [List.length_append, List.length_cons, List.length_nil] at hll ⊢
       omega
end
end Go.Proofs.YtapjhliglmohgaaGreatDoor
/- append of a slice that came in, of any length that the reach admits. -/
namespace Go.Proofs.YtapjhliglmohgaaGreatDoor
open Go.RowKit Go.Sort
section
variable {α : Type} {enc : α → List Value} {te e : TypeId} {z bytes : Nat} {zero : Value}
end
/-- A hold. -/
structure Hd where
 id : Id3
 w : Int
deriving DecidableEq
def hdC (h : Hd) : List Value := [.int .i64 h.id.b, .int .i64 h.id.s, .int .i64 h.id.p, .int .i64 h.w]
theorem hold_app : AppC hdC 54 57 4 32 (.agg #[.int .i64 0, .int .i64 0, .int .i64 0, .int .i64 0]) :=
 ⟨Tryz.underlying54, by kernel_rfl, rfl, by decide, fun _ => rfl, fun x u hu => by simp only [hdC, List.mem_cons, List.not_mem_nil, or_false] at hu; rcases hu with rfl | rfl | rfl | rfl <;> rfl, by decide⟩
end Go.Proofs.YtapjhliglmohgaaGreatDoor
/- Names in order, in plain Lean; who holds what, in order. -/
namespace Go.Proofs.YtapjhliglmohgaaGreatDoor
open Go.RowKit Go.Sort
def insB (x : Id3) : List Id3 → List Id3
 | [] => [x]
 | y :: l => if bef x y then x :: y :: l else y :: insB x l
def sortB (l : List Id3) : List Id3 := l.foldr insB []
theorem insB_perm (x : Id3) : ∀ l, (insB x l).Perm (x :: l)
 | [] => List.Perm.refl _
 | y :: l => by
   unfold insB
   split
   · exact List.Perm.refl _
   · exact ((insB_perm x l).cons y).trans (List.Perm.swap x y l)
theorem sortB_perm : ∀ l, (sortB l).Perm l
 | [] => List.Perm.refl _
 | x :: l => (insB_perm x (sortB l)).trans ((sortB_perm l).cons x)
theorem bef_false {x y : Id3} : bef x y = false ↔ ¬ (x.b < y.b ∨ (x.b = y.b ∧ (x.s < y.s ∨ (x.s = y.s ∧ x.p < y.p)))) := by
 rw [← bef_iff, Bool.not_eq_true]
theorem insB_sorted (x : Id3) : ∀ l : List Id3, l.Pairwise (fun x y => bef y x = false) → (insB x l).Pairwise (fun x y => bef y x = false)
 | [], _ => List.pairwise_singleton _ _
 | y :: l, h => by
   rw [List.pairwise_cons] at h
   unfold insB
   split
   · next hb =>
     rw [bef_iff] at hb
     refine List.pairwise_cons.2 ⟨fun z hz => ?_, List.pairwise_cons.2 h⟩
     rw [bef_false]
     rcases List.mem_cons.1 hz with rfl | hz
     · omega
     · have h1 := h.1 z hz
       rw [bef_false] at h1
       omega
   · next hb =>
     rw [Bool.not_eq_true] at hb
     refine List.pairwise_cons.2 ⟨fun z hz => ?_, insB_sorted x l h.2⟩
     rcases List.mem_cons.1 ((insB_perm x l).mem_iff.1 hz) with rfl | hz
     · exact hb
     · exact h.1 z hz
theorem sortB_sorted : ∀ l : List Id3, (sortB l).Pairwise (fun x y => bef y x = false)
 | [] => List.Pairwise.nil
 | x :: l => insB_sorted x _ (sortB_sorted l)
theorem bef_eq {x y : Id3} (h1 : bef x y = false) (h2 : bef y x = false) : x = y := by
 rw [bef_false] at h1 h2
 cases x
 cases y
 simp only [Id3.mk.injEq] at *
 omega
theorem sortB_eq {l ks : List Id3} (hp : l.Perm ks) (hs : l.Pairwise (fun x y => bef y x = false)) : l = sortB ks :=
 List.Perm.eq_of_pairwise (le := fun x y => bef y x = false) (fun _ _ _ _ h1 h2 => bef_eq h2 h1) hs (sortB_sorted ks) (hp.trans (sortB_perm ks).symm)
/-- The held pieces, in order. -/
def heldL (s : SchedD) : List Id3 := sortB (s.holds.map (·.1))
theorem heldL_len (s : SchedD) : (heldL s).length = s.holds.length := by
 unfold heldL
 rw [(sortB_perm _).length_eq, List.length_map]
theorem heldL_mem {s : SchedD} {x : Id3} : x ∈ heldL s ↔ x ∈ s.holds.map (·.1) := (sortB_perm _).mem_iff
/-- Which of 1 .. k are in a list, in order. -/
def onesL (ws : List Int) (k : Nat) : List Int := ((List.range k).map fun i => ((i + 1 : Nat) : Int)).filter fun n => decide (n ∈ ws)
theorem onesL_succ (ws : List Int) (k : Nat) : onesL ws (k + 1) = onesL ws k ++ (if ((k + 1 : Nat) : Int) ∈ ws then [((k + 1 : Nat) : Int)] else []) := by
 unfold onesL
 rw [List.range_succ, List.map_append, List.filter_append]
 congr 1
 simp only [List.map_cons, List.map_nil, List.filter_cons, List.filter_nil]
 split
 · next h => rw [if_pos (by simpa using h)]
 · next h => rw [if_neg (by simpa using h)]
theorem onesL_len (ws : List Int) (k : Nat) : (onesL ws k).length ≤ k := by
 unfold onesL
 refine Nat.le_trans (List.length_filter_le _ _) ?_
 simp
def hsOf (l : List (Id3 × List Int)) (x : Id3) (k : Nat) : List Hd := (onesL (holdOf l x) k).map fun n => ⟨x, n⟩
theorem hsOf_succ (l : List (Id3 × List Int)) (x : Id3) (k : Nat) : hsOf l x (k + 1) = hsOf l x k ++ (if ((k + 1 : Nat) : Int) ∈ holdOf l x then [⟨x, ((k + 1 : Nat) : Int)⟩] else []) := by
 unfold hsOf
 rw [onesL_succ, List.map_append]
 congr 1
 split <;> rfl
theorem hsOf_len (l : List (Id3 × List Int)) (x : Id3) (k : Nat) : (hsOf l x k).length ≤ k := by
 unfold hsOf
 rw [List.length_map]
 exact onesL_len _ _
def hsTo (l : List (Id3 × List Int)) (hs : List Id3) : List Hd := hs.flatMap fun x => hsOf l x 4
/-- Who holds what, in order. -/
def holdsL (s : SchedD) : List Hd := hsTo s.holds (heldL s)
theorem hsTo_len (l : List (Id3 × List Int)) (hs : List Id3) : (hsTo l hs).length ≤ 4 * hs.length := by
 unfold hsTo
 induction hs with
 | nil => simp
 | cons x hs ih => rw [List.flatMap_cons, List.length_append, List.length_cons]; have := hsOf_len l x 4; omega
def HsPost (w : World) (l : List Hd) (e : Ending) (w' : World) : Prop :=
 ∃ A c, e = .returned (.slice A l.length c) ∧ w'.ownsRow w.heap.size 57 4 (.slice A l.length c) l.length (l.flatMap hdC) ∧ Below w.heap.size w w'
end Go.Proofs.YtapjhliglmohgaaGreatDoor
/- Who holds what: Holds of the program. -/
namespace Go.Proofs.YtapjhliglmohgaaGreatDoor
open Go.RowKit Go.Sort
section
variable {B sb : Nat} {R : Nat → Prop} {p : PlanD} {A : Option Addr} {c : Nat} {s : SchedD}
theorem zero_intH (w : World) : (zeroValue 3).run Tryz.prog w = .ok (.int .i64 0) w := by kernel_rfl
theorem mget_onesI (l : List Int) (x : Int) : mget (l.map fun y => (y, (.int .i64 1 : Value))) x = if x ∈ l then some (.int .i64 1) else none := by
 induction l with
 | nil => rfl
 | cons y l ih =>
   unfold mget at ih ⊢
   simp only [List.map_cons, List.find?_cons, List.mem_cons]
   by_cases h : y = x
   · subst h
     simp
   · rw [decide_eq_false h]
     simp only
     rw [ih]
     by_cases h2 : x ∈ l
     · rw [if_pos h2, if_pos (.inr h2)]
     · rw [if_neg h2, if_neg (fun h3 => h3.elim (fun e => h e.symm) h2)]
set_option maxRecDepth 100000 in
set_option maxHeartbeats 16000000 in
theorem holds_c (hsort : SortH) (w : World) (h : SchedIs B sb R p A c s w) (hlen : s.holds.length ≤ 1000000) :
 Calls Tryz.prog 21 #[.pointer (some ⟨sb, 0, none⟩)] w (HsPost w (holdsL s)) := by
 have HC := Lib.hid (held_c hsort w h hlen)
 obtain ⟨X, h⟩ := h
 have H := Lib.hid h
 have hlt := h.bk.lt
 have hll := heldL_len s
 have HMem := Lib.hid (fun x => (heldL_mem (s := s) (x := x)).1)
 obtain ⟨l, hl⟩ : ∃ l, l = heldL s := ⟨_, rfl⟩
 have HL := Lib.hid (show holdsL s = hsTo s.holds l from by rw [hl]; rfl)
 have HSo := Lib.hid (fun (l' : List Id3) h1 h2 => (hl.trans (sortB_eq (l := l') h1 h2).symm))
 rw [← hl] at hll HMem
 have hl6 : l.length ≤ 1000000 := by omega
 clear h hlen hl hll
 go_enter Tryz.func21, Tryz.ntmps21
 go_wp2_with (first
  | (go_at_call 63; refine HC.out.mono ?_; rintro e w1 ⟨A1, c1, l1, rfl, h1, h2, hown, hb⟩
     obtain rfl := HSo.out l1 h1 h2
     have HO1 := Lib.hid hown
     have HB1 := Lib.hid hb
     clear h1 h2 hown hb))
 have H1 := Lib.hid (H.out.ext HB1.out)
 go_loopg [3, 5, 6, 10] l.length (fun gk v3 v5 v6 v10 wr => ∃ i : Nat, i + gk = l.length ∧ v10 = .int .i64 (i : Nat) ∧ Hid (wr.ownsRow w.heap.size 57 4 v3 (hsTo s.holds (l.take i)).length ((hsTo s.holds (l.take i)).flatMap hdC)) ∧ Hid (wr.ownsRow w.heap.size 35 3 (.slice A1 l.length c1) l.length (idsC l)) ∧ Hid (Below w.heap.size w wr))
 case atStart => exact ⟨0, by omega, rfl, Lib.hid (World.ownsRow_nil _ _ _ _), HO1, HB1⟩
 case round =>
  obtain ⟨i, hik, rfl, HV, HO, HB⟩ := hrel
  obtain ⟨A5, c5, rfl, hc5⟩ := own_shape HV.out
  by_cases hi : i < l.length
  · have hy : l[i]? = some (l[i]) := List.getElem?_eq_getElem hi
    generalize l[i] = x at hy
    obtain ⟨ad, rfl, d0, d1, d2⟩ := (Rd.of_own (B := 0) HO.out).ids hy hi
    have HTk := Lib.hid (show hsTo s.holds (l.take (i + 1)) = hsTo s.holds (l.take i) ++ hsOf s.holds x 4 from by unfold hsTo; rw [flatMap_take_succ _ hy])
    have HXm := Lib.hid (HMem.out x (List.mem_of_getElem? hy))
    have hal := hsTo_len s.holds (l.take i)
    rw [List.length_take] at hal
    obtain ⟨acc, hacc⟩ : ∃ acc, acc = hsTo s.holds (l.take i) := ⟨_, rfl⟩
    rw [← hacc] at HV HTk hal hc5 ⊢
    have hal2 : acc.length ≤ 4000000 := by omega
    clear hal hacc hy
    obtain ⟨wo, rfl⟩ : ∃ wo : World, wo = wr := ⟨_, rfl⟩
    obtain ⟨go, rfl⟩ : ∃ go : Nat, go = gk := ⟨_, rfl⟩
    have hgo : 0 < go := by omega
    obtain ⟨y, hy, hyx⟩ := List.mem_map.1 (show x ∈ X.hm.map (·.1) from by have h1 := HXm.out; rw [H.out.hl, List.map_map] at h1; exact h1)
    have HY := Lib.hid hy
    have HYX := Lib.hid hyx
    have HOf := Lib.hid (show holdOf s.holds x = y.2.2 from by rw [← hyx]; exact H.out.holdOf_y hy)
    have HG := Lib.hid (show mget (X.hm.map fun y => (y.1, (.map (some y.2.1) : Value))) x = some (.map (some y.2.1)) from by rw [← hyx]; exact mget_hm_some H.out.keys hy)
    clear hy hyx
    obtain ⟨WY, hWY⟩ : ∃ WY, WY = wo.alloc (.cells #[.int .i64 x.b, .int .i64 x.s, .int .i64 x.p] 35 (0, 0)) := ⟨_, rfl⟩
    have HBY := Lib.hid (show Below wo.heap.size wo WY from by rw [hWY]; exact ext_alloc (Below.refl _ _) _)
    have HXY := Lib.hid (show Bk WY wo.heap.size 35 #[.int .i64 x.b, .int .i64 x.s, .int .i64 x.p] from by rw [hWY]; exact Bk.new _ _ _)
    have HWY := Lib.hid hWY
    have hbo := HB.out.size
    clear hWY
    go_upto_region 5 with fail
    rw [← HWY.out]
    go_wp2_with fail
    go_loopg [3, 6] 4 (fun gk v3 v6 wr => ∃ k : Nat, k + gk = 4 ∧ v6 = .int .i64 ((k + 1 : Nat) : Int) ∧ Hid (wr.ownsRow w.heap.size 57 4 v3 (acc ++ hsOf s.holds x k).length ((acc ++ hsOf s.holds x k).flatMap hdC)) ∧ Hid (wr.ownsRow w.heap.size 35 3 (.slice (some ad) l.length c1) l.length (idsC l)) ∧ Hid (Bk wr wo.heap.size 35 #[.int .i64 x.b, .int .i64 x.s, .int .i64 x.p]) ∧ Hid (Below w.heap.size w wr))
    case atStart => exact ⟨0, by omega, rfl, Lib.hid (by rw [show hsOf s.holds x 0 = [] from rfl, List.append_nil]; exact own_ext HV.out HBY.out), Lib.hid (own_ext HO.out HBY.out), HXY, Lib.hid (HB.out.trans (HBY.out.mono hbo))⟩
    case round =>
     obtain ⟨k, hkk, rfl, HV2, HO2, HX2, HB2⟩ := hrel
     obtain ⟨A6, c6, rfl, hc6⟩ := own_shape HV2.out
     have hul := hsOf_len s.holds x k
     obtain ⟨bcc, hbcc⟩ : ∃ bcc, bcc = acc ++ hsOf s.holds x k := ⟨_, rfl⟩
     have hlen : bcc.length ≤ 4000004 := by rw [hbcc, List.length_append]; omega
     have HSu := Lib.hid (show acc ++ hsOf s.holds x (k + 1) = bcc ++ (if ((k + 1 : Nat) : Int) ∈ holdOf s.holds x then [⟨x, ((k + 1 : Nat) : Int)⟩] else []) from by rw [hsOf_succ, hbcc, List.append_assoc])
     have HSe := Lib.hid hbcc
     rw [← hbcc] at HV2 hc6 ⊢
     clear hbcc hul
     by_cases hk : k < 4
     · have hk4 : ((k + 1 : Nat) : Int) ≤ 4 := by omega
       have HS2 := Lib.hid (H.out.ext HB2.out)
       have x0 : wr.cell? ⟨wo.heap.size, 0, none⟩ = some (.int .i64 x.b) := (HX2.out.cell 0).trans rfl
       have x1 : wr.cell? ⟨wo.heap.size, 1, none⟩ = some (.int .i64 x.s) := (HX2.out.cell 1).trans rfl
       have x2 : wr.cell? ⟨wo.heap.size, 2, none⟩ = some (.int .i64 x.p) := (HX2.out.cell 2).trans rfl
       have z5 : wr.cell? ⟨sb, 5, none⟩ = some (.map (some X.hb)) := (HS2.out.bk.cell 5).trans rfl
       have xl := HX2.out.lt
       have sl := HS2.out.bk.lt
       obtain ⟨kk, hkk1⟩ : ∃ kk : Int, kk = ((k + 1 : Nat) : Int) := ⟨_, rfl⟩
       rw [← hkk1] at hk4 HSu ⊢
       have hk0 : 0 ≤ kk := by omega
       have HKK := Lib.hid hkk1
       have hlk := fun m => (HS2.out.hold.drewN m).lookup idKey (t := 109) (e := 116) (by kernel_rfl) (zero_ii _) x
       simp only [HG.out, Option.getD_some, idV] at hlk
       have hlk2 := fun m => ((HS2.out.inn y HY.out).drewN m).lookup intKey (t := 116) (e := 3) (by kernel_rfl) (zero_intH _) kk
       rw [HOf.out] at HSu
       clear hkk1
       by_cases hin : kk ∈ y.2.2
       · simp only [mget_onesI, if_pos hin, Option.getD_some, inV] at hlk2
         rw [if_pos hin] at HSu
         clear hin
         go_wp2_with fail
         go_quiet (fail)
         have HE1 := Lib.hid (ext_alloc (below_drewN (Below.refl wr.heap.size wr) nq) (.cells #[.int .i64 x.b, .int .i64 x.s, .int .i64 x.p, .int .i64 kk] 57 (0, 0)))
         have HO3 := Lib.hid (own_ext HV2.out HE1.out)
         have HN3 := Lib.hid (Bk.newAt (w := wr.drewN nq) (t := 57) (cs := #[.int .i64 x.b, .int .i64 x.s, .int .i64 x.p, .int .i64 kk]) (g := wr.heap.size) (by show _ = wr.heap.size; rfl))
         go_wp2_with (first
          | (at_builtin; refine wpList_appE hold_app _ rfl (.tmp 27) (.tmp 31) rfl w.heap.size _ bcc (by rfl) HO3.out (⟨x, kk⟩ : Hd) (wr.heap.size) (by rfl) HN3.out (by omega) (by have h1 := HB2.out.size; have h2 := HE1.out.size; omega) ?_
             intro A7 c7 w7 hown7 hg7 hc7
             have HO7 := Lib.hid hown7
             have HG7 := Lib.hid hg7
             clear hown7 hg7))
         have HKi := Lib.hid (show kk + 1 = ((k + 1 + 1 : Nat) : Int) from by have := HKK.out; omega)
         go_roundg (gk - 1)
         case measure => omega
         case rel =>
          refine ⟨k + 1, by omega, by rw [← HKi.out], Lib.hid ?_, Lib.hid ((own_ext HO2.out HE1.out).kept HG7.out (own_ne_own (own_ext HO2.out HE1.out) HO3.out (by decide))), Lib.hid ((HX2.out.ext HE1.out).grown HG7.out (fun e => own_ne_bk HO3.out (HX2.out.ext HE1.out) (by decide) e.symm)), Lib.hid (below_grownOwn (ext_trans HB2.out HE1.out) HO3.out (Nat.le_refl _) HG7.out)⟩
          rw [HSu.out]
          have h := HO7.out
          simp only [List.length_append, List.length_cons, List.length_nil, Nat.zero_add] at h ⊢
          exact h
       · simp only [mget_onesI, if_neg hin, Option.getD_none, inV] at hlk2
         rw [if_neg hin, List.append_nil] at HSu
         clear hin
         go_wp2_with fail
         go_quiet (fail)
         go_wp2_with fail
         have HKi := Lib.hid (show kk + 1 = ((k + 1 + 1 : Nat) : Int) from by have := HKK.out; omega)
         go_roundg (gk - 1)
         case measure => omega
         case rel =>
          refine ⟨k + 1, by omega, by rw [← HKi.out], Lib.hid ?_, Lib.hid (own_ext HO2.out (below_drewN (Below.refl _ _) _)), Lib.hid (HX2.out.drewN _), Lib.hid (below_drewN HB2.out _)⟩
          rw [HSu.out]
          exact own_ext HV2.out (below_drewN (Below.refl _ _) _)
     · have hk4 : k = 4 := by omega
       subst hk4
       rw [← HTk.out] at HSe
       go_wp2_with fail
       go_roundg (go - 1)
       case measure => omega
       case rel =>
        refine ⟨i + 1, by omega, by go_num, ?_, HO2, HB2⟩
        rw [← HSe.out]
        exact HV2
  · have hil : i = l.length := by omega
    subst hil
    rw [List.take_length] at HV
    rw [List.take_length]
    rw [← HL.out] at HV
    rw [← HL.out]
    go_wp2_with fail
    go_ret
    exact ⟨A5, c5, rfl, HV.out, HB.out⟩
end
end Go.Proofs.YtapjhliglmohgaaGreatDoor
/- The walk through a lineage, in plain Lean: what stays true. -/
namespace Go.Proofs.YtapjhliglmohgaaGreatDoor
open Go.RowKit Go.Sort
structure LnOk (p : PlanD) (mark : Int) (d : LnD) : Prop where
 snd : d.seen.Nodup
 sc : ∀ x ∈ d.seen, CanD p mark x
 und : d.used.Nodup
 uc : ∀ x ∈ d.used, CanD p mark x
 rl : d.ready.length ≤ d.seen.length
 dp : 0 ≤ d.depth ∧ d.depth ≤ 100000
theorem can_len {p : PlanD} {mark : Int} (hp : Shaped p) {l : List Id3} (hn : l.Nodup) (hc : ∀ x ∈ l, CanD p mark x) : l.length ≤ 816 := by
 have hn12 := hp.n12
 have hp4 := hp.p4
 have hb : ∀ x ∈ l, max mark 0 ≤ x.b ∧ x.b - max mark 0 ≤ 16 ∧ 0 ≤ x.s ∧ x.s < 12 ∧ 0 ≤ x.p ∧ x.p < 4 := by
  intro x hx
  have h := hc x hx
  obtain ⟨h1, s, q, hs, hq, hsl, hql⟩ := hasB_parts h.has
  have hn := h.near
  refine ⟨?_, hn, by omega, by omega, by omega, by omega⟩
  rcases h.up with h2 | h2
  · omega
  · unfold leafD at h2
    simp only [Bool.and_eq_true, decide_eq_true_eq] at h2
    have := h2.1.1.1.1.1
    omega
 have h1 : (l.map fun x => (x.b - max mark 0).toNat * 48 + x.s.toNat * 4 + x.p.toNat).Nodup := by
  refine List.pairwise_map.2 (List.Pairwise.imp_of_mem ?_ hn)
  intro a b ha hb' hab e
  have h2 := hb a ha
  have h3 := hb b hb'
  apply hab
  have e0 : (a.b - max mark 0).toNat = (b.b - max mark 0).toNat := by omega
  have e1 : a.s = b.s := by omega
  have e2 : a.p = b.p := by omega
  have e3 : a.b = b.b := by omega
  cases a
  cases b
  simp only at e1 e2 e3
  rw [e1, e2, e3]
 have h2 := nodup_lt_len 816 _ h1 (fun k hk => by
  obtain ⟨x, hx, rfl⟩ := List.mem_map.1 hk
  have := hb x hx
  omega)
 rw [List.length_map] at h2
 exact h2
section
variable {p : PlanD} {mark : Int} {held : List Id3}
theorem LnOk.lens {d : LnD} (h : LnOk p mark d) (hp : Shaped p) : d.seen.length ≤ 816 ∧ d.ready.length ≤ 816 ∧ d.used.length ≤ 816 := by
 have h1 := can_len hp h.snd h.sc
 have h2 := can_len hp h.und h.uc
 have := h.rl
 omega
theorem LnOk.at_ {d : LnD} (h : LnOk p mark d) {s : Int} (h0 : 0 ≤ s) (h1 : s ≤ 100000) : LnOk p mark (d.at_ s) := ⟨h.snd, h.sc, h.und, h.uc, h.rl, by have := h.dp; show 0 ≤ max d.depth s ∧ max d.depth s ≤ 100000; omega⟩
theorem nodup_snoc {l : List Id3} {x : Id3} (h : l.Nodup) (hx : x ∉ l) : (l ++ [x]).Nodup := by
 rw [List.nodup_append]
 refine ⟨h, by simp, fun a ha b hb => ?_⟩
 rw [List.mem_singleton] at hb
 subst hb
 exact fun e => hx (e ▸ ha)
theorem all_snoc {l : List Id3} {x : Id3} {Q : Id3 → Prop} (h : ∀ y ∈ l, Q y) (hx : Q x) : ∀ y ∈ l ++ [x], Q y := by
 intro y hy
 rcases List.mem_append.1 hy with hy | hy
 · exact h y hy
 · rw [List.mem_singleton] at hy
   exact hy ▸ hx
theorem LnOk.use {d : LnD} (h : LnOk p mark d) {x : Id3} (hx : x ∉ d.used) (hc : CanD p mark x) : LnOk p mark (d.use x) := ⟨h.snd, h.sc, nodup_snoc h.und hx, all_snoc h.uc hc, h.rl, h.dp⟩
theorem LnOk.see {d : LnD} (h : LnOk p mark d) {x : Id3} (hx : x ∉ d.seen) (hc : CanD p mark x) : LnOk p mark (d.see x) ∧ (d.see x).ready.length + 1 ≤ (d.see x).seen.length := by
 have h1 : (d.see x).seen.length = d.seen.length + 1 := by show (d.seen ++ [x]).length = _; rw [List.length_append]; rfl
 have h2 := h.rl
 refine ⟨⟨nodup_snoc h.snd hx, all_snoc h.sc hc, h.und, h.uc, ?_, h.dp⟩, ?_⟩
 · rw [h1]
   show d.ready.length ≤ _
   omega
 · rw [h1]
   show d.ready.length + 1 ≤ _
   omega
theorem LnOk.rdy {d : LnD} (h : LnOk p mark d) {x : Id3} (hr : d.ready.length + 1 ≤ d.seen.length) : LnOk p mark (d.rdy x) := ⟨h.snd, h.sc, h.und, h.uc, by show (d.ready ++ [x]).length ≤ _; rw [List.length_append]; exact hr, h.dp⟩
/-- What a walk adds: at most as many that can be made as that must be. -/
def Adds (d e : LnD) : Prop := e.ready.length + d.seen.length ≤ e.seen.length + d.ready.length
theorem Adds.trans {a b c : LnD} (h : Adds a b) (k : Adds b c) : Adds a c := by unfold Adds at *; omega
theorem comeD_ok (hp : Shaped p) : ∀ (n : Nat) (d : LnD) (x : Id3) (steps : Int), LnOk p mark d → CanD p mark x → 0 ≤ steps → steps + n ≤ 100000 → LnOk p mark (comeD p mark held n d x steps) ∧ Adds d (comeD p mark held n d x steps)
 | 0, d, x, steps, h, _, _, _ => ⟨h, Nat.le_of_eq (Nat.add_comm _ _)⟩
 | n + 1, d, x, steps, h, hc, h0, hn => by
   have hat := h.at_ h0 (by omega)
   unfold comeD
   split
   · split
     · exact ⟨hat, by unfold Adds; show d.ready.length + d.seen.length ≤ d.seen.length + d.ready.length; omega⟩
     · split
       · exact ⟨hat, by unfold Adds; show d.ready.length + d.seen.length ≤ d.seen.length + d.ready.length; omega⟩
       · next hu => exact ⟨hat.use hu hc, by unfold Adds; show d.ready.length + d.seen.length ≤ d.seen.length + d.ready.length; omega⟩
   · next ht =>
     split
     · exact ⟨hat, by unfold Adds; show d.ready.length + d.seen.length ≤ d.seen.length + d.ready.length; omega⟩
     · next hs =>
       have hl : leafD p x mark = false := by
        cases hl : leafD p x mark with
        | false => rfl
        | true => exact absurd (by unfold thereD; rw [hl]; rfl) ht
       obtain ⟨k1, k2⟩ := hat.see hs hc
       have hfold : ∀ (l : List Id3) (a : LnD × Bool), (∀ y ∈ l, CanD p mark y) → LnOk p mark a.1 → LnOk p mark (l.foldl (stepsD p mark held fun e y => comeD p mark held n e y (steps + 1)) a).1 ∧ Adds a.1 (l.foldl (stepsD p mark held fun e y => comeD p mark held n e y (steps + 1)) a).1 := by
        intro l
        induction l with
        | nil => intro a _ ha; exact ⟨ha, Nat.le_of_eq (Nat.add_comm _ _)⟩
        | cons y l ih =>
          intro a hy ha
          obtain ⟨j1, j2⟩ := comeD_ok hp n a.1 y (steps + 1) ha (hy y (List.mem_cons_self ..)) (by omega) (by omega)
          obtain ⟨j3, j4⟩ := ih (stepsD p mark held (fun e y => comeD p mark held n e y (steps + 1)) a y) (fun z hz => hy z (List.mem_cons_of_mem _ hz)) j1
          exact ⟨j3, Adds.trans j2 j4⟩
       obtain ⟨m1, m2⟩ := hfold (needsX p x) ((d.at_ steps).see x, true) (fun y hy => (needs_can hp hc hl hy).1) k1
       have hsl : ((d.at_ steps).see x).seen.length = d.seen.length + 1 := by show (d.seen ++ [x]).length = _; rw [List.length_append]; rfl
       have hrl : ((d.at_ steps).see x).ready.length = d.ready.length := rfl
       unfold Adds at m2
       simp only at m2
       rw [hsl, hrl] at m2
       have hdr := h.rl
       simp only
       split
       · refine ⟨m1.rdy (by omega), ?_⟩
         unfold Adds LnD.rdy
         simp only [List.length_append, List.length_cons, List.length_nil]
         omega
       · exact ⟨m1, by unfold Adds; omega⟩
end
end Go.Proofs.YtapjhliglmohgaaGreatDoor
