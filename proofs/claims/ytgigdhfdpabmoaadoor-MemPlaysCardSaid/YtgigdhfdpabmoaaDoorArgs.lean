/- The arguments of this seat's laws, opened. -/
import Derived.Test.YtgigdhfdpabmoaaDoorMemI
import Derived.Test.YtgigdhfdpabmoaaDoorLift
namespace Go.Proofs.YtgigdhfdpabmoaaDoor
open Go.ChangeShapes Go.WideShapes Go.RowKit

set_option maxRecDepth 100000 in
theorem opens_id {H : Type} {enc : TypeId × Value → H} {W : World} : Opens enc Tryd.prog W 24 idC (fun _ => True) :=
  (Opens.struct Tryd.underlying24 (by kernel_rfl) (FOpens.cons (Opens.int Tryd.underlying3) (by kernel_rfl) (FOpens.cons (Opens.int Tryd.underlying3) (by kernel_rfl) (FOpens.cons (Opens.int Tryd.underlying3) (by kernel_rfl) (FOpens.nil _))))).map (fun a => (⟨a.1, a.2.1, a.2.2.1⟩ : Id3)) (fun _ => rfl) (fun _ _ => trivial)
set_option maxRecDepth 100000 in
theorem opens_row {H : Type} {enc : TypeId × Value → H} {W : World} : Opens enc Tryd.prog W 58 rwC (fun _ => True) :=
  (Opens.struct Tryd.underlying58 (by kernel_rfl) (FOpens.cons (Opens.int Tryd.underlying3) (by kernel_rfl) (FOpens.cons (Opens.int Tryd.underlying3) (by kernel_rfl) (FOpens.nil _)))).map (fun a => (⟨a.1, a.2.1⟩ : Rw)) (fun _ => rfl) (fun _ _ => trivial)
def slC {α : Type} (s : Sl α) : List Value := [.slice s.A s.l.length s.cap]
def slOk {α : Type} (W : World) (e : TypeId) (z : Nat) (cells : α → List Value) (ok : α → Prop) (s : Sl α) : Prop := s.l.length ≤ s.cap ∧ s.cap ≤ maxLen ∧ Rd W W.heap.size e z s.A s.l.length (s.l.flatMap cells) ∧ ∀ a ∈ s.l, ok a
theorem opens_rows {H : Type} {enc : TypeId × Value → H} {W : World} : Opens enc Tryd.prog W 25 slC (slOk W 58 2 rwC (fun _ => True)) :=
  Opens.slice Tryd.underlying25 (by kernel_rfl) (by decide) (fun _ => rfl) opens_row
set_option maxRecDepth 100000 in
theorem opens_act {H : Type} {enc : TypeId × Value → H} {W : World} : Opens enc Tryd.prog W 32 actC (fun a => a.rows.length ≤ a.cap ∧ Rd W W.heap.size 58 2 a.A a.rows.length (rwsC a.rows)) :=
  (Opens.struct Tryd.underlying32 (by kernel_rfl) (FOpens.cons (Opens.int Tryd.underlying3) (by kernel_rfl) (FOpens.cons opens_id (by kernel_rfl) (FOpens.cons opens_rows (by kernel_rfl) (FOpens.nil _))))).map
    (fun a => (⟨a.1, a.2.1, a.2.2.1.A, a.2.2.1.cap, a.2.2.1.l⟩ : ActC)) (fun _ => rfl) (fun _ h => ⟨h.2.2.1.1, h.2.2.1.2.2.1⟩)
theorem opens_acts {H : Type} {enc : TypeId × Value → H} {W : World} : Opens enc Tryd.prog W 22 slC (slOk W 32 5 actC (fun a => a.rows.length ≤ a.cap ∧ Rd W W.heap.size 58 2 a.A a.rows.length (rwsC a.rows))) :=
  Opens.slice Tryd.underlying22 (by kernel_rfl) (by decide) (fun _ => rfl) opens_act

set_option maxRecDepth 100000 in
theorem arg_slice {H : Type} {enc : TypeId × Value → H} {W : World} {base : Nat} {t e : TypeId} {α : Type} {ok : Sl α → Prop} {v : Value} {d : DataW H} {p : List MemPlace} (ht : Tryd.prog.underlying t = some (.slice e)) (ho : Opens enc Tryd.prog W t slC ok)
    (hv : Value.okWide Tryd.prog W .any base t v) (hd : DataW.Trod enc Tryd.prog W 0 (fun _ => true) true t v d p) : ∃ s : Sl α, v = .slice s.A s.l.length s.cap ∧ ok s := by
  obtain ⟨A, n, c, rfl⟩ := okWide_slice ht hv
  obtain ⟨s, hs, hk⟩ := ho.Trod hd
  refine ⟨s, ?_, hk⟩
  simpa [Value.cells, slC] using hs
set_option maxRecDepth 100000 in
theorem arg_id {H : Type} {enc : TypeId × Value → H} {W : World} {base : Nat} {v : Value} {d : DataW H} {p : List MemPlace} (hv : Value.okWide Tryd.prog W .any base 24 v) (hd : DataW.Trod enc Tryd.prog W 0 (fun _ => true) true 24 v d p) : ∃ x : Id3, v = idV x := by
  obtain ⟨cs, rfl, _⟩ := okWide_struct Tryd.underlying24 hv
  obtain ⟨x, hx, _⟩ := opens_id.Trod hd
  refine ⟨x, ?_⟩
  have hx' : cs.toList = idC x := hx
  congr 1
  exact Array.ext' (by rw [hx']; rfl)
set_option maxRecDepth 100000 in
theorem arg_int {H : Type} {enc : TypeId × Value → H} {W : World} {base : Nat} {v : Value} {d : DataW H} {p : List MemPlace} (hv : Value.okWide Tryd.prog W .any base 3 v) (hd : DataW.Trod enc Tryd.prog W 0 (fun _ => true) true 3 v d p) : ∃ n : Int, v = .int .i64 n ∧ (Lit.int .i64 n).wf = true := by
  obtain ⟨n, rfl, _, _, hw⟩ := open_int Tryd.underlying3 hv hd
  exact ⟨n, rfl, hw⟩

end Go.Proofs.YtgigdhfdpabmoaaDoor
