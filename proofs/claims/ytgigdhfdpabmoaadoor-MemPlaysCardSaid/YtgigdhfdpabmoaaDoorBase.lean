/- Words for memory, used by the walks of this seat: what a call may have changed (Chg), slices that read as a list (Rd), blocks known whole (Bk), rows and names as cells. -/
import Derived.WalkKit
import Derived.Below
import Derived.OwnWalk
import Derived.Deep.Draws
import Derived.Deep.AppendLies
import Derived.Maps.AppendAt
import Derived.Laws.OwnMore
import Derived.Laws.Rows
import Derived.Lib.Hide
import Derived.KernelRfl
import Derived.Deep.RegionHeld3
namespace Go.Proofs.YtgigdhfdpabmoaaDoor
open Go.RowKit

/-! ### what may have changed: objects of the kinds 'mu' in blocks from B on, and nothing else -/
structure Chg (mu : Obj → Bool) (B : Nat) (w w' : World) : Prop where
  os : w'.os = w.os
  tape : w'.tape = w.tape
  output : w'.output = w.output
  size : w.heap.size ≤ w'.heap.size
  block : ∀ k o, w.heap[k]? = some o → (k < B ∨ mu o = false) → w'.heap[k]? = some o

theorem lt_of_some {w : World} {k : Nat} {o : Obj} (h : w.heap[k]? = some o) : k < w.heap.size := by
  rcases Nat.lt_or_ge k w.heap.size with hlt | hge
  · exact hlt
  · rw [Array.getElem?_eq_none hge] at h; cases h

section
variable {mu mu' : Obj → Bool} {B B' : Nat} {a b c w w' w1 : World}
theorem Chg.refl (mu : Obj → Bool) (B : Nat) (w : World) : Chg mu B w w := ⟨rfl, rfl, rfl, Nat.le_refl _, fun _ _ h _ => h⟩
theorem Chg.trans (h : Chg mu B a b) (k : Chg mu B b c) : Chg mu B a c :=
  ⟨k.os.trans h.os, k.tape.trans h.tape, k.output.trans h.output, Nat.le_trans h.size k.size, fun i o hi hc => k.block i o (h.block i o hi hc) hc⟩
theorem Chg.of_below (hb : Below w.heap.size w w') : Chg mu B w w' :=
  ⟨hb.os, hb.tape, hb.output, hb.size, fun k _ hk _ => (hb.block k (lt_of_some hk)).trans hk⟩
theorem Chg.drewN (h : Chg mu B a w) (n : Nat) : Chg mu B a (w.drewN n) := ⟨h.os, h.tape, h.output, h.size, h.block⟩
theorem Chg.drew (h : Chg mu B a w) : Chg mu B a w.drew := ⟨h.os, h.tape, h.output, h.size, h.block⟩
theorem Chg.alloc (h : Chg mu B a w) (o : Obj) : Chg mu B a (w.alloc o) :=
  h.trans (Chg.of_below ((Below.refl _ _).alloc (Nat.le_refl _) o))
theorem Chg.weak (h : Chg mu B w w') (hm : ∀ o, mu' o = false → mu o = false) (hB : B' ≤ B) : Chg mu' B' w w' :=
  ⟨h.os, h.tape, h.output, h.size, fun k o hk hc => h.block k o hk (hc.imp (fun h => by omega) (hm o))⟩
theorem Chg.below (h : Chg mu B w w') (hB : B ≤ w.heap.size) : Below B w w' :=
  ⟨h.os, h.tape, h.output, h.size, fun k hk => by
    have hlt : k < w.heap.size := by omega
    obtain ⟨o, ho⟩ : ∃ o, w.heap[k]? = some o := ⟨_, Array.getElem?_eq_getElem hlt⟩
    rw [ho, h.block k o ho (.inl hk)]⟩
theorem Chg.set_ (h : Chg mu B a w) {p : Addr} {o : Obj} (ho : w.heap[p.block]? = some o) (hm : mu o = true) (hB : B ≤ p.block) (u : Value) : Chg mu B a (w.setCell p u) :=
  h.trans ⟨rfl, rfl, rfl, by simp [World.setCell], fun k o' hk hc => by
    by_cases e : k = p.block
    · subst e
      rw [ho] at hk
      cases hk
      rcases hc with hc | hc
      · omega
      · rw [hm] at hc; cases hc
    · rw [Below.heap_setCell _ _ _ _ e]; exact hk⟩
theorem Chg.grown {row : Option Nat} (h : Chg mu B a w) (hg : w.grownBy w' row) (hr : ∀ k, row = some k → B ≤ k ∧ (∀ o, w.heap[k]? = some o → mu o = true)) : Chg mu B a w' :=
  h.trans ⟨hg.os, hg.tape, hg.output, hg.size, fun k o hk hc => by
    refine (hg.block k (lt_of_some hk) (fun e => ?_)).trans hk
    obtain ⟨h1, h2⟩ := hr k e.symm
    rcases hc with hc | hc
    · omega
    · rw [h2 o hk] at hc; cases hc⟩
theorem Chg.cell (h : Chg mu B w w') {p : Addr} {v : Value} (hv : w.cell? p = some v) {o : Obj} (ho : w.heap[p.block]? = some o) (hc : p.block < B ∨ mu o = false) : w'.cell? p = some v := by
  rw [World.cell?_of_block (w := w) ((h.block _ _ ho hc).trans ho.symm)]; exact hv
end

theorem below_drewN {B : Nat} {a w : World} (h : Below B a w) (n : Nat) : Below B a (w.drewN n) := ⟨h.os, h.tape, h.output, h.size, h.block⟩
/-- One call behind another, each of which leaves what it found. -/
theorem ext_trans {a b c : World} (h : Below a.heap.size a b) (k : Below b.heap.size b c) : Below a.heap.size a c := h.trans (k.mono h.size)
theorem ext_alloc {a b : World} (h : Below a.heap.size a b) (o : Obj) : Below a.heap.size a (b.alloc o) := h.alloc h.size o

/-- What stood below reads as it did: two rules for the walk. -/
theorem bcell {W w1 : World} (hb : Below W.heap.size W w1) : (∀ b o, b < W.heap.size → w1.cell? ⟨b, o, none⟩ = W.cell? ⟨b, o, none⟩) ∧ (∀ b o, b < W.heap.size → w1.frozen? ⟨b, o, none⟩ = W.frozen? ⟨b, o, none⟩) :=
  ⟨fun b o h => hb.cell (p := ⟨b, o, none⟩) h, fun b o h => hb.frozen (p := ⟨b, o, none⟩) h⟩

/-! ### a block that is known whole -/
def Bk (w : World) (g : Nat) (t : TypeId) (cs : Array Value) : Prop := w.heap[g]? = some (.cells cs t (0, 0))
section
variable {w w' : World} {g : Nat} {t : TypeId} {cs : Array Value} {mu : Obj → Bool} {B : Nat}
theorem Bk.lt (h : Bk w g t cs) : g < w.heap.size := lt_of_some h
theorem Bk.cell (h : Bk w g t cs) (i : Nat) : w.cell? ⟨g, i, none⟩ = cs[i]? := cell_of_row w g i cs t (0, 0) h
theorem Bk.frozen (h : Bk w g t cs) (i : Nat) : w.frozen? ⟨g, i, none⟩ = false := by
  unfold Bk at h
  simp [World.frozen?, h]
theorem Bk.new (w : World) (t : TypeId) (cs : Array Value) : Bk (w.alloc (.cells cs t)) w.heap.size t cs := heap_alloc_new w _
theorem Bk.newAt {w : World} {t : TypeId} {cs : Array Value} {g : Nat} (hg : g = w.heap.size) : Bk (w.alloc (.cells cs t)) g t cs := by subst hg; exact Bk.new w t cs
theorem Bk.drew (h : Bk w g t cs) : Bk w.drew g t cs := h
theorem Bk.drewN (h : Bk w g t cs) (n : Nat) : Bk (w.drewN n) g t cs := h
theorem Bk.alloc (h : Bk w g t cs) (o : Obj) : Bk (w.alloc o) g t cs := (Below.heap_alloc w o g h.lt).trans h
theorem Bk.set_ (h : Bk w g t cs) (i : Nat) (u : Value) : Bk (w.setCell ⟨g, i, none⟩ u) g t (cs.setIfInBounds i u) := by
  unfold Bk at h ⊢
  simp [World.setCell, Array.getElem?_modify, h]
theorem Bk.far (h : Bk w g t cs) {p : Addr} (hp : g ≠ p.block) (u : Value) : Bk (w.setCell p u) g t cs := (Below.heap_setCell w p u g hp).trans h
theorem Bk.below {B : Nat} (h : Bk w g t cs) (hb : Below B w w') (hg : g < B) : Bk w' g t cs := (hb.block g hg).trans h
theorem Bk.ext (h : Bk w g t cs) (hb : Below w.heap.size w w') : Bk w' g t cs := h.below hb h.lt
theorem Bk.grown {row : Option Nat} (h : Bk w g t cs) (hb : w.grownBy w' row) (hg : some g ≠ row) : Bk w' g t cs := (hb.block g h.lt hg).trans h
theorem Bk.chg (h : Bk w g t cs) (hb : Chg mu B w w') (hc : g < B ∨ mu (.cells cs t (0, 0)) = false) : Bk w' g t cs := hb.block g _ h hc
theorem Bk.ne_ {g' : Nat} {t' : TypeId} {cs' : Array Value} (h : Bk w g t cs) (h' : Bk w g' t' cs') (hne : t ≠ t') : g ≠ g' := by
  rintro rfl
  unfold Bk at h h'
  rw [h] at h'
  injection h' with h'
  injection h' with _ ht
  exact hne ht
end

/-! ### a slice that reads as a list of cells: below B whatever it lies in, from B on in a block of its own element type -/
theorem block_of_add (a : Addr) (n : Nat) : (a.add n).block = a.block := by unfold Addr.add; split <;> rfl
theorem add_of_add (a : Addr) (i j : Nat) : (a.add i).add j = a.add (i + j) := by
  unfold Addr.add
  by_cases hi : i = 0 <;> by_cases hj : j = 0 <;> simp [hi, hj, Nat.add_assoc]

def Rd (w : World) (B : Nat) (e : TypeId) (size : Nat) (A : Option Addr) (n : Nat) (xs : List Value) : Prop :=
  xs.length = n * size ∧ (0 < n → ∃ ad, A = some ad ∧ (ad.block < B ∨ ∃ c f, w.heap[ad.block]? = some (.cells c e f)) ∧ ∀ j u, xs[j]? = some u → w.cell? (ad.add j) = some u)

section
variable {w w' : World} {B B' : Nat} {e : TypeId} {size n : Nat} {A : Option Addr} {xs : List Value} {mu : Obj → Bool}
theorem Rd.none_ : Rd w B e size A 0 [] := ⟨by simp, fun h => absurd h (by omega)⟩
theorem Rd.keep (h : Rd w B e size A n xs) (hk : ∀ k o, w.heap[k]? = some o → (k < B ∨ ∃ c f, o = .cells c e f) → w'.heap[k]? = some o) : Rd w' B e size A n xs :=
  ⟨h.1, fun hn => by
    obtain ⟨ad, he, hb, hc⟩ := h.2 hn
    rcases Nat.eq_zero_or_pos xs.length with h0 | h0
    · refine ⟨ad, he, ?_, fun j u hu => ?_⟩
      · rcases hb with hb | ⟨c, f, hb⟩
        · exact .inl hb
        · exact .inr ⟨c, f, hk _ _ hb (.inr ⟨c, f, rfl⟩)⟩
      · have : xs = [] := List.eq_nil_of_length_eq_zero h0
        subst this
        simp at hu
    · have hc0 := hc 0 _ (List.getElem?_eq_getElem h0)
      have hlt := World.block_lt_of_cell? w _ hc0
      rw [block_of_add] at hlt
      have ho : w.heap[ad.block]? = some (w.heap[ad.block]'hlt) := Array.getElem?_eq_getElem hlt
      have hall : w'.heap[ad.block]? = w.heap[ad.block]? := by
        rcases hb with hb | ⟨c, f, hb⟩
        · rw [ho]; exact hk _ _ ho (.inl hb)
        · rw [hb]; exact hk _ _ hb (.inr ⟨c, f, rfl⟩)
      refine ⟨ad, he, ?_, fun j u hu => ?_⟩
      · rcases hb with hb | ⟨c, f, hb⟩
        · exact .inl hb
        · exact .inr ⟨c, f, hall.trans hb⟩
      · rw [World.cell?_of_block (w := w) (by rw [block_of_add]; exact hall)]
        exact hc j u hu⟩
theorem Rd.chg (h : Rd w B e size A n xs) (hu : Chg mu B w w') (hm : ∀ c f, mu (.cells c e f) = false) : Rd w' B e size A n xs :=
  h.keep fun k o hk hc => hu.block k o hk (hc.imp id (fun ⟨c, f, he⟩ => by rw [he]; exact hm c f))
theorem Rd.ext (h : Rd w B e size A n xs) (hb : Below w.heap.size w w') : Rd w' B e size A n xs :=
  h.keep fun k _ hk _ => (hb.block k (lt_of_some hk)).trans hk
theorem Rd.drew (h : Rd w B e size A n xs) : Rd w.drew B e size A n xs := h
theorem Rd.drewN (h : Rd w B e size A n xs) (k : Nat) : Rd (w.drewN k) B e size A n xs := h
theorem Rd.alloc (h : Rd w B e size A n xs) (o : Obj) : Rd (w.alloc o) B e size A n xs := h.ext ((Below.refl _ _).alloc (Nat.le_refl _) o)
theorem Rd.far (h : Rd w B e size A n xs) {p : Addr} (hB : B ≤ p.block) (hp : ∀ c f, w.heap[p.block]? ≠ some (.cells c e f)) (u : Value) : Rd (w.setCell p u) B e size A n xs :=
  h.keep fun k o hk hc => by
    rw [Below.heap_setCell _ _ _ _ (fun e => ?_)]
    · exact hk
    · subst e
      rcases hc with hc | ⟨c, f, rfl⟩
      · omega
      · exact hp c f hk
theorem Rd.farBk (h : Rd w B e size A n xs) {p : Addr} {t : TypeId} {cs : Array Value} (hB : B ≤ p.block) (hp : Bk w p.block t cs) (hne : t ≠ e) (u : Value) : Rd (w.setCell p u) B e size A n xs :=
  h.far hB (fun c f hc => by
    unfold Bk at hp
    rw [hp] at hc
    cases hc
    exact hne rfl) u
theorem Rd.cell (h : Rd w B e size A n xs) (hn : 0 < n) : ∃ ad, A = some ad ∧ ∀ j u, xs[j]? = some u → w.cell? (ad.add j) = some u := by
  obtain ⟨ad, he, _, hc⟩ := h.2 hn
  exact ⟨ad, he, hc⟩
theorem Rd.of_own {base cap : Nat} {g : Option Addr} (h : w.ownsRow base e size (.slice g n cap) n xs) : Rd w B e size g n xs := by
  refine ⟨h.1, fun hn => ?_⟩
  have h' := h
  rcases h'.2 with ⟨hv, h0⟩ | ⟨b, c, cur, hv, _, hh, _⟩
  · omega
  · have hA : g = some ⟨b, 0, none⟩ := by injection hv
    subst hA
    exact ⟨_, rfl, .inr ⟨_, _, hh⟩, h.cells (g := b) rfl⟩
theorem own_mono {base base' : Nat} {v : Value} (h : w.ownsRow base e size v n xs) (hb : base' ≤ base) : w.ownsRow base' e size v n xs := by
  refine ⟨h.1, ?_⟩
  rcases h.2 with h2 | ⟨g, cap, cur, hv, hg, r⟩
  · exact .inl h2
  · exact .inr ⟨g, cap, cur, hv, by omega, r⟩
theorem own_ne {base k : Nat} {v : Value} (h : w.ownsRow base e size v n xs) (hk : k < base) : some k ≠ v.ownBlock := by
  intro he
  have := (h.lt _ he.symm).1
  omega
theorem Rd.len (h : Rd w B e size A n xs) : xs.length = n * size := h.1
theorem Rd.rebase (h : Rd w B e size A n xs) (hB : B ≤ B') : Rd w B' e size A n xs :=
  ⟨h.1, fun hn => by
    obtain ⟨ad, he, hb, hc⟩ := h.2 hn
    exact ⟨ad, he, hb.imp (fun h => by omega) id, hc⟩⟩
end
/-- In a region: what is asked of the world may be raised on the way. -/
theorem wpAnyH_raise {P : Program} {md : Region.Mode} {ops : Array Oper} {Q : Exit → Act → World → Prop} {S S' : World → Prop} (h : ∀ w, S' w → S w) :
    ∀ (fuel : Nat) (listed : Array Bool) (a : Act) (w : World), wpAnyH P md ops Q S' fuel listed a w → wpAnyH P md ops Q S fuel listed a w
  | 0, _, _, _, H => H
  | fuel + 1, _, _, _, H => ⟨H.1, fun i hi => wpOp_mono (fun a' w' h' => ⟨h w' h'.1, wpAnyH_raise h fuel _ a' w' h'.2⟩) (H.2 i hi)⟩
end Go.Proofs.YtgigdhfdpabmoaaDoor
