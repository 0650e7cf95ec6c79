/-
  NARROWER THAN 'FOR EVERY INPUT', by the rows' own cells (each row's printed sentence says how): SchedOnce: laid · SchedTold: laid · SchedPlays: laid · SchedNext: laid · DriverPlays: laid.
  DERIVED. THE GIVEN ROWS OF THIS SEAT. 5 by the template 'for every input the law returns true; each argument reads behind the call as it read before'; 0 by the template 'total and deterministic' (their statements: YtapjhliglmohgaaGreatDoorTotals.lean).
  GIVEN WITH THE SEED: the statements are not yours to turn. If you find one false, say at which input.
  Laid BY PROGRAM, IN A SANDBOX (cutbox-rows.mjs): the forced cells as the released guide's own fill.sh prints them over the translation a8f240f1deab2786… (all of the seat's roots in one cut). By AI agents, Wed Nov 11 2026. No macro, syntax, notation, axiom, sorry.
-/
import Derived.Test.YtapjhliglmohgaaGreatDoorChecked
import GoSem.Claim
import GoSem.ClaimJoined
import GoSem.ClaimMapViews
import Derived.JoinedTies
import Derived.KernelRfl
namespace Go.Proofs.YtapjhliglmohgaaGreatDoor
/- THE CELL 'sum', in the pinned program and in every row, IS THE sha256 OF THE DUMP (.gsa) THAT YtapjhliglmohgaaGreatDoorProg.lean LOADS. Nothing in Lean hashes anything: it is a label: what it is worth is what the hold of that sum in a sandbox is worth. -/
noncomputable def Tryz.pinned : Pinned := { name := "ytapjhliglmohgaagreatdoor", sum := "a8f240f1deab27860991833e7efd9286de73471feb256df2a1ce900b3e677b5b", checked := Tryz.checked }
namespace Rows
def none {H : Type} : Left H := { results := [], args := [] }

/- WHAT THE LISTED PACKAGE-LEVEL VARIABLES READ AS WHEN THE CALL BEGINS. Each datum BY PROGRAM (the guide's laid-datum.mjs) off the statement by which the dump's own 'gosem.cut.vars' lays the variable. In a bare row this is a premise. The card (YtapjhliglmohgaaGreatDoorCards.lean) ties it to the program's text. -/
def laid_errors_errorType {H : Type} : DataW H := .iface "internal/reflectlite.rtype" (.agg [.ptr (.lit (.string [101, 114, 114, 111, 114]))])

/-- 'tributarylaw16.SchedOnce': WHATEVER THE INPUT: true; the input reads as it did. -/
def schedOnceSpec : ChangeSpec := { name := "schedOnce", fn := fun _ => fun
  | [d1, d2, d3, d4, d5] => { results := [.lit (.bool true)], args := [d1, d2, d3, d4, d5] }
  | _ => none }
def schedOnceRow : OpenClaim := { program := "ytapjhliglmohgaagreatdoor", sum := "a8f240f1deab27860991833e7efd9286de73471feb256df2a1ce900b3e677b5b", func := "tributary/tributarylaw16.SchedOnce", spec := "schedOnce", inPlace := ["internal/reflectlite.TypeOf", "internal/reflectlite.ValueOf", "(internal/reflectlite.Value).Type", "(internal/reflectlite.Value).IsNil", "(internal/reflectlite.Value).Elem", "(internal/reflectlite.Value).Set"], unfollowed := true, recurses := true, named := ["errors.errorType"], plainKeys := false, apart := false, laid := [("errors.errorType", laid_errors_errorType)] }
def SchedOnceSaid : Prop := schedOnceRow.holds Tryz.pinned (OpenSpec.ofChange schedOnceSpec)

/-- ITS FALSE NEIGHBOUR: 'it returns false'. Refute it at one input. -/
def schedOnceWrong : ChangeSpec := { name := "schedOnce", fn := fun _ => fun
  | [d1, d2, d3, d4, d5] => { results := [.lit (.bool false)], args := [d1, d2, d3, d4, d5] }
  | _ => none }
def SchedOnceWrongFalsely : Prop := schedOnceRow.holds Tryz.pinned (OpenSpec.ofChange schedOnceWrong)

/-- 'tributarylaw16.SchedTold': WHATEVER THE INPUT: true; the input reads as it did. -/
def schedToldSpec : ChangeSpec := { name := "schedTold", fn := fun _ => fun
  | [d1, d2, d3, d4, d5] => { results := [.lit (.bool true)], args := [d1, d2, d3, d4, d5] }
  | _ => none }
def schedToldRow : OpenClaim := { program := "ytapjhliglmohgaagreatdoor", sum := "a8f240f1deab27860991833e7efd9286de73471feb256df2a1ce900b3e677b5b", func := "tributary/tributarylaw16.SchedTold", spec := "schedTold", inPlace := ["internal/reflectlite.TypeOf", "internal/reflectlite.ValueOf", "(internal/reflectlite.Value).Type", "(internal/reflectlite.Value).IsNil", "(internal/reflectlite.Value).Elem", "(internal/reflectlite.Value).Set"], unfollowed := true, recurses := true, named := ["errors.errorType"], plainKeys := false, apart := false, laid := [("errors.errorType", laid_errors_errorType)] }
def SchedToldSaid : Prop := schedToldRow.holds Tryz.pinned (OpenSpec.ofChange schedToldSpec)

/-- ITS FALSE NEIGHBOUR: 'it returns false'. Refute it at one input. -/
def schedToldWrong : ChangeSpec := { name := "schedTold", fn := fun _ => fun
  | [d1, d2, d3, d4, d5] => { results := [.lit (.bool false)], args := [d1, d2, d3, d4, d5] }
  | _ => none }
def SchedToldWrongFalsely : Prop := schedToldRow.holds Tryz.pinned (OpenSpec.ofChange schedToldWrong)

/-- 'tributarylaw16.SchedPlays': WHATEVER THE INPUT: true; the input reads as it did. -/
def schedPlaysSpec : ChangeSpec := { name := "schedPlays", fn := fun _ => fun
  | [d1, d2, d3, d4] => { results := [.lit (.bool true)], args := [d1, d2, d3, d4] }
  | _ => none }
def schedPlaysRow : OpenClaim := { program := "ytapjhliglmohgaagreatdoor", sum := "a8f240f1deab27860991833e7efd9286de73471feb256df2a1ce900b3e677b5b", func := "tributary/tributarylaw16.SchedPlays", spec := "schedPlays", inPlace := ["internal/reflectlite.TypeOf", "internal/reflectlite.ValueOf", "(internal/reflectlite.Value).Type", "(internal/reflectlite.Value).IsNil", "(internal/reflectlite.Value).Elem", "(internal/reflectlite.Value).Set"], unfollowed := true, recurses := true, named := ["errors.errorType"], plainKeys := false, apart := false, laid := [("errors.errorType", laid_errors_errorType)] }
def SchedPlaysSaid : Prop := schedPlaysRow.holds Tryz.pinned (OpenSpec.ofChange schedPlaysSpec)

/-- ITS FALSE NEIGHBOUR: 'it returns false'. Refute it at one input. -/
def schedPlaysWrong : ChangeSpec := { name := "schedPlays", fn := fun _ => fun
  | [d1, d2, d3, d4] => { results := [.lit (.bool false)], args := [d1, d2, d3, d4] }
  | _ => none }
def SchedPlaysWrongFalsely : Prop := schedPlaysRow.holds Tryz.pinned (OpenSpec.ofChange schedPlaysWrong)

/-- 'tributarylaw16.SchedNext': WHATEVER THE INPUT: true; the input reads as it did. -/
def schedNextSpec : ChangeSpec := { name := "schedNext", fn := fun _ => fun
  | [d1, d2, d3, d4, d5] => { results := [.lit (.bool true)], args := [d1, d2, d3, d4, d5] }
  | _ => none }
def schedNextRow : OpenClaim := { program := "ytapjhliglmohgaagreatdoor", sum := "a8f240f1deab27860991833e7efd9286de73471feb256df2a1ce900b3e677b5b", func := "tributary/tributarylaw16.SchedNext", spec := "schedNext", inPlace := ["internal/reflectlite.TypeOf", "internal/reflectlite.ValueOf", "(internal/reflectlite.Value).Type", "(internal/reflectlite.Value).IsNil", "(internal/reflectlite.Value).Elem", "(internal/reflectlite.Value).Set"], unfollowed := true, recurses := true, named := ["errors.errorType"], plainKeys := false, apart := false, laid := [("errors.errorType", laid_errors_errorType)] }
def SchedNextSaid : Prop := schedNextRow.holds Tryz.pinned (OpenSpec.ofChange schedNextSpec)

/-- ITS FALSE NEIGHBOUR: 'it returns false'. Refute it at one input. -/
def schedNextWrong : ChangeSpec := { name := "schedNext", fn := fun _ => fun
  | [d1, d2, d3, d4, d5] => { results := [.lit (.bool false)], args := [d1, d2, d3, d4, d5] }
  | _ => none }
def SchedNextWrongFalsely : Prop := schedNextRow.holds Tryz.pinned (OpenSpec.ofChange schedNextWrong)

/-- 'tributarylaw17.DriverPlays': WHATEVER THE INPUT: true; the input reads as it did. -/
def driverPlaysSpec : ChangeSpec := { name := "driverPlays", fn := fun _ => fun
  | [d1, d2, d3] => { results := [.lit (.bool true)], args := [d1, d2, d3] }
  | _ => none }
def driverPlaysRow : OpenClaim := { program := "ytapjhliglmohgaagreatdoor", sum := "a8f240f1deab27860991833e7efd9286de73471feb256df2a1ce900b3e677b5b", func := "tributary/tributarylaw17.DriverPlays", spec := "driverPlays", inPlace := ["internal/reflectlite.TypeOf", "internal/reflectlite.ValueOf", "(internal/reflectlite.Value).Type", "(internal/reflectlite.Value).IsNil", "(internal/reflectlite.Value).Elem", "(internal/reflectlite.Value).Set"], unfollowed := true, recurses := true, named := ["errors.errorType"], plainKeys := false, apart := false, laid := [("errors.errorType", laid_errors_errorType)] }
def DriverPlaysSaid : Prop := driverPlaysRow.holds Tryz.pinned (OpenSpec.ofChange driverPlaysSpec)

/-- ITS FALSE NEIGHBOUR: 'it returns false'. Refute it at one input. -/
def driverPlaysWrong : ChangeSpec := { name := "driverPlays", fn := fun _ => fun
  | [d1, d2, d3] => { results := [.lit (.bool false)], args := [d1, d2, d3] }
  | _ => none }
def DriverPlaysWrongFalsely : Prop := driverPlaysRow.holds Tryz.pinned (OpenSpec.ofChange driverPlaysWrong)

/- THE SECOND FORM. 'bulk': how many values and letters a reading holds, each counted each time it is reached (what is shared counts as often as it is met; a slice's spare places count too). A statement '..UptoSaid' is the law's where the arguments, and the package variables that the reading takes, are together of bulk at most 1048576: NARROWER than '..Said'. Prove '..Said' where nothing that the law and all that it calls make is longer than what came in: it says more and counts as full. Else prove '..UptoSaid'. A law counts once. -/
mutual
def uptoBulk {H : Type} : DataW H → Nat
  | .lit (.string bytes) => bytes.length + 1
  | .lit _ => 1
  | .nil => 1
  | .ptr d => uptoBulk d + 1
  | .slice elems spare => uptoBulkAll elems + uptoBulkAll spare + 1
  | .agg parts => uptoBulkAll parts + 1
  | .iface _ d => uptoBulk d + 1
  | .map entries => uptoBulkEntries entries + 1
  | .held _ => 1
def uptoBulkAll {H : Type} : List (DataW H) → Nat
  | [] => 0
  | d :: r => uptoBulk d + uptoBulkAll r
def uptoBulkEntries {H : Type} : List (Lit × DataW H) → Nat
  | [] => 0
  | x :: r => uptoBulkEntry x + uptoBulkEntries r
def uptoBulkEntry {H : Type} : Lit × DataW H → Nat
  | (.string bytes, d) => bytes.length + uptoBulk d + 1
  | (_, d) => uptoBulk d + 1
 end
def uptoSmall : (H : Type) → List (DataW H) → Bool := fun _ ds => decide (uptoBulkAll ds ≤ 1048576)
def OpenSpec.upto (s : _root_.Go.ChangeSpec) : _root_.Go.OpenSpec := { _root_.Go.OpenSpec.ofChange s with cond := some uptoSmall }

/-- 'tributarylaw16.SchedOnce', WHERE WHAT IT READS IS OF BULK AT MOST 1048576: true; the input reads as it did. -/
def schedOnceUptoRow : OpenClaim := { program := "ytapjhliglmohgaagreatdoor", sum := "a8f240f1deab27860991833e7efd9286de73471feb256df2a1ce900b3e677b5b", func := "tributary/tributarylaw16.SchedOnce", spec := "schedOnce", inPlace := ["internal/reflectlite.TypeOf", "internal/reflectlite.ValueOf", "(internal/reflectlite.Value).Type", "(internal/reflectlite.Value).IsNil", "(internal/reflectlite.Value).Elem", "(internal/reflectlite.Value).Set"], unfollowed := true, recurses := true, named := ["errors.errorType"], plainKeys := false, apart := false, laid := [("errors.errorType", laid_errors_errorType)], narrowed := true }
def SchedOnceUptoSaid : Prop := schedOnceUptoRow.holds Tryz.pinned (OpenSpec.upto schedOnceSpec)

/-- 'tributarylaw16.SchedTold', WHERE WHAT IT READS IS OF BULK AT MOST 1048576: true; the input reads as it did. -/
def schedToldUptoRow : OpenClaim := { program := "ytapjhliglmohgaagreatdoor", sum := "a8f240f1deab27860991833e7efd9286de73471feb256df2a1ce900b3e677b5b", func := "tributary/tributarylaw16.SchedTold", spec := "schedTold", inPlace := ["internal/reflectlite.TypeOf", "internal/reflectlite.ValueOf", "(internal/reflectlite.Value).Type", "(internal/reflectlite.Value).IsNil", "(internal/reflectlite.Value).Elem", "(internal/reflectlite.Value).Set"], unfollowed := true, recurses := true, named := ["errors.errorType"], plainKeys := false, apart := false, laid := [("errors.errorType", laid_errors_errorType)], narrowed := true }
def SchedToldUptoSaid : Prop := schedToldUptoRow.holds Tryz.pinned (OpenSpec.upto schedToldSpec)

/-- 'tributarylaw16.SchedPlays', WHERE WHAT IT READS IS OF BULK AT MOST 1048576: true; the input reads as it did. -/
def schedPlaysUptoRow : OpenClaim := { program := "ytapjhliglmohgaagreatdoor", sum := "a8f240f1deab27860991833e7efd9286de73471feb256df2a1ce900b3e677b5b", func := "tributary/tributarylaw16.SchedPlays", spec := "schedPlays", inPlace := ["internal/reflectlite.TypeOf", "internal/reflectlite.ValueOf", "(internal/reflectlite.Value).Type", "(internal/reflectlite.Value).IsNil", "(internal/reflectlite.Value).Elem", "(internal/reflectlite.Value).Set"], unfollowed := true, recurses := true, named := ["errors.errorType"], plainKeys := false, apart := false, laid := [("errors.errorType", laid_errors_errorType)], narrowed := true }
def SchedPlaysUptoSaid : Prop := schedPlaysUptoRow.holds Tryz.pinned (OpenSpec.upto schedPlaysSpec)

/-- 'tributarylaw16.SchedNext', WHERE WHAT IT READS IS OF BULK AT MOST 1048576: true; the input reads as it did. -/
def schedNextUptoRow : OpenClaim := { program := "ytapjhliglmohgaagreatdoor", sum := "a8f240f1deab27860991833e7efd9286de73471feb256df2a1ce900b3e677b5b", func := "tributary/tributarylaw16.SchedNext", spec := "schedNext", inPlace := ["internal/reflectlite.TypeOf", "internal/reflectlite.ValueOf", "(internal/reflectlite.Value).Type", "(internal/reflectlite.Value).IsNil", "(internal/reflectlite.Value).Elem", "(internal/reflectlite.Value).Set"], unfollowed := true, recurses := true, named := ["errors.errorType"], plainKeys := false, apart := false, laid := [("errors.errorType", laid_errors_errorType)], narrowed := true }
def SchedNextUptoSaid : Prop := schedNextUptoRow.holds Tryz.pinned (OpenSpec.upto schedNextSpec)

/-- 'tributarylaw17.DriverPlays', WHERE WHAT IT READS IS OF BULK AT MOST 1048576: true; the input reads as it did. -/
def driverPlaysUptoRow : OpenClaim := { program := "ytapjhliglmohgaagreatdoor", sum := "a8f240f1deab27860991833e7efd9286de73471feb256df2a1ce900b3e677b5b", func := "tributary/tributarylaw17.DriverPlays", spec := "driverPlays", inPlace := ["internal/reflectlite.TypeOf", "internal/reflectlite.ValueOf", "(internal/reflectlite.Value).Type", "(internal/reflectlite.Value).IsNil", "(internal/reflectlite.Value).Elem", "(internal/reflectlite.Value).Set"], unfollowed := true, recurses := true, named := ["errors.errorType"], plainKeys := false, apart := false, laid := [("errors.errorType", laid_errors_errorType)], narrowed := true }
def DriverPlaysUptoSaid : Prop := driverPlaysUptoRow.holds Tryz.pinned (OpenSpec.upto driverPlaysSpec)

end Rows
end Go.Proofs.YtapjhliglmohgaaGreatDoor
