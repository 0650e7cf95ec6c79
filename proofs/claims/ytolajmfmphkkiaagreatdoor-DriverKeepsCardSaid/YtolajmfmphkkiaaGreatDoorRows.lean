/-
  NARROWER THAN 'FOR EVERY INPUT', by the rows' own cells (each row's printed sentence says how): DriverMarks: laid · DriverPower: laid · DriverKeeps: laid · SchedOnce: laid · SchedTold: laid · SchedPlays: laid · SchedNext: laid.
  DERIVED. THE GIVEN ROWS OF THIS SEAT. 7 by the template 'for every input the law returns true; each argument reads behind the call as it read before'; 0 by the template 'total and deterministic' (their statements: YtolajmfmphkkiaaGreatDoorTotals.lean).
  GIVEN WITH THE SEED: the statements are not yours to turn. If you find one false, say at which input.
  Laid BY PROGRAM, IN A SANDBOX (cutbox-rows.mjs): the forced cells as the released guide's own fill.sh prints them over the translation 5b3f2ab4b87ef75e… (all of the seat's roots in one cut). By AI agents, Wed Nov 11 2026. No macro, syntax, notation, axiom, sorry.
-/
import Derived.Test.YtolajmfmphkkiaaGreatDoorChecked
import GoSem.Claim
import GoSem.ClaimJoined
import GoSem.ClaimMapViews
import Derived.JoinedTies
import Derived.KernelRfl
namespace Go.Proofs.YtolajmfmphkkiaaGreatDoor
/- THE CELL 'sum', in the pinned program and in every row, IS THE sha256 OF THE DUMP (.gsa) THAT YtolajmfmphkkiaaGreatDoorProg.lean LOADS. Nothing in Lean hashes anything: it is a label: what it is worth is what the hold of that sum in a sandbox is worth. -/
noncomputable def Tryz.pinned : Pinned := { name := "ytolajmfmphkkiaagreatdoor", sum := "5b3f2ab4b87ef75e35ac5216fe69a1e5660697cd00a3add8a3d599e0bde0789b", checked := Tryz.checked }
namespace Rows
def none {H : Type} : Left H := { results := [], args := [] }

/- WHAT THE LISTED PACKAGE-LEVEL VARIABLES READ AS WHEN THE CALL BEGINS. Each datum BY PROGRAM (the guide's laid-datum.mjs) off the statement by which the dump's own 'gosem.cut.vars' lays the variable. In a bare row this is a premise. The card (YtolajmfmphkkiaaGreatDoorCards.lean) ties it to the program's text. -/
def laid_errors_errorType {H : Type} : DataW H := .iface "internal/reflectlite.rtype" (.agg [.ptr (.lit (.string [101, 114, 114, 111, 114]))])

/-- 'tributarylaw17.DriverMarks': WHATEVER THE INPUT: true; the input reads as it did. -/
def driverMarksSpec : ChangeSpec := { name := "driverMarks", fn := fun _ => fun
  | [d1, d2, d3] => { results := [.lit (.bool true)], args := [d1, d2, d3] }
  | _ => none }
def driverMarksRow : OpenClaim := { program := "ytolajmfmphkkiaagreatdoor", sum := "5b3f2ab4b87ef75e35ac5216fe69a1e5660697cd00a3add8a3d599e0bde0789b", func := "tributary/tributarylaw17.DriverMarks", spec := "driverMarks", inPlace := ["internal/reflectlite.TypeOf", "internal/reflectlite.ValueOf", "(internal/reflectlite.Value).Type", "(internal/reflectlite.Value).IsNil", "(internal/reflectlite.Value).Elem", "(internal/reflectlite.Value).Set"], unfollowed := true, recurses := true, named := ["errors.errorType"], plainKeys := false, apart := false, laid := [("errors.errorType", laid_errors_errorType)] }
def DriverMarksSaid : Prop := driverMarksRow.holds Tryz.pinned (OpenSpec.ofChange driverMarksSpec)

/-- ITS FALSE NEIGHBOUR: 'it returns false'. Refute it at one input. -/
def driverMarksWrong : ChangeSpec := { name := "driverMarks", fn := fun _ => fun
  | [d1, d2, d3] => { results := [.lit (.bool false)], args := [d1, d2, d3] }
  | _ => none }
def DriverMarksWrongFalsely : Prop := driverMarksRow.holds Tryz.pinned (OpenSpec.ofChange driverMarksWrong)

/-- 'tributarylaw17.DriverPower': WHATEVER THE INPUT: true; the input reads as it did. -/
def driverPowerSpec : ChangeSpec := { name := "driverPower", fn := fun _ => fun
  | [d1, d2, d3] => { results := [.lit (.bool true)], args := [d1, d2, d3] }
  | _ => none }
def driverPowerRow : OpenClaim := { program := "ytolajmfmphkkiaagreatdoor", sum := "5b3f2ab4b87ef75e35ac5216fe69a1e5660697cd00a3add8a3d599e0bde0789b", func := "tributary/tributarylaw17.DriverPower", spec := "driverPower", inPlace := ["internal/reflectlite.TypeOf", "internal/reflectlite.ValueOf", "(internal/reflectlite.Value).Type", "(internal/reflectlite.Value).IsNil", "(internal/reflectlite.Value).Elem", "(internal/reflectlite.Value).Set"], unfollowed := true, recurses := true, named := ["errors.errorType"], plainKeys := false, apart := false, laid := [("errors.errorType", laid_errors_errorType)] }
def DriverPowerSaid : Prop := driverPowerRow.holds Tryz.pinned (OpenSpec.ofChange driverPowerSpec)

/-- ITS FALSE NEIGHBOUR: 'it returns false'. Refute it at one input. -/
def driverPowerWrong : ChangeSpec := { name := "driverPower", fn := fun _ => fun
  | [d1, d2, d3] => { results := [.lit (.bool false)], args := [d1, d2, d3] }
  | _ => none }
def DriverPowerWrongFalsely : Prop := driverPowerRow.holds Tryz.pinned (OpenSpec.ofChange driverPowerWrong)

/-- 'tributarylaw17.DriverKeeps': WHATEVER THE INPUT: true; the input reads as it did. -/
def driverKeepsSpec : ChangeSpec := { name := "driverKeeps", fn := fun _ => fun
  | [d1, d2, d3] => { results := [.lit (.bool true)], args := [d1, d2, d3] }
  | _ => none }
def driverKeepsRow : OpenClaim := { program := "ytolajmfmphkkiaagreatdoor", sum := "5b3f2ab4b87ef75e35ac5216fe69a1e5660697cd00a3add8a3d599e0bde0789b", func := "tributary/tributarylaw17.DriverKeeps", spec := "driverKeeps", inPlace := ["internal/reflectlite.TypeOf", "internal/reflectlite.ValueOf", "(internal/reflectlite.Value).Type", "(internal/reflectlite.Value).IsNil", "(internal/reflectlite.Value).Elem", "(internal/reflectlite.Value).Set"], unfollowed := true, recurses := true, named := ["errors.errorType"], plainKeys := false, apart := false, laid := [("errors.errorType", laid_errors_errorType)] }
def DriverKeepsSaid : Prop := driverKeepsRow.holds Tryz.pinned (OpenSpec.ofChange driverKeepsSpec)

/-- ITS FALSE NEIGHBOUR: 'it returns false'. Refute it at one input. -/
def driverKeepsWrong : ChangeSpec := { name := "driverKeeps", fn := fun _ => fun
  | [d1, d2, d3] => { results := [.lit (.bool false)], args := [d1, d2, d3] }
  | _ => none }
def DriverKeepsWrongFalsely : Prop := driverKeepsRow.holds Tryz.pinned (OpenSpec.ofChange driverKeepsWrong)

/-- 'tributarylaw16.SchedOnce': WHATEVER THE INPUT: true; the input reads as it did. -/
def schedOnceSpec : ChangeSpec := { name := "schedOnce", fn := fun _ => fun
  | [d1, d2, d3, d4, d5] => { results := [.lit (.bool true)], args := [d1, d2, d3, d4, d5] }
  | _ => none }
def schedOnceRow : OpenClaim := { program := "ytolajmfmphkkiaagreatdoor", sum := "5b3f2ab4b87ef75e35ac5216fe69a1e5660697cd00a3add8a3d599e0bde0789b", func := "tributary/tributarylaw16.SchedOnce", spec := "schedOnce", inPlace := ["internal/reflectlite.TypeOf", "internal/reflectlite.ValueOf", "(internal/reflectlite.Value).Type", "(internal/reflectlite.Value).IsNil", "(internal/reflectlite.Value).Elem", "(internal/reflectlite.Value).Set"], unfollowed := true, recurses := true, named := ["errors.errorType"], plainKeys := false, apart := false, laid := [("errors.errorType", laid_errors_errorType)] }
def SchedOnceSaid : Prop := schedOnceRow.holds Tryz.pinned (OpenSpec.ofChange schedOnceSpec)

/-- ITS FALSE NEIGHBOUR: 'it returns false'. Refute it at one input. -/
def schedOnceWrong : ChangeSpec := { name := "schedOnce", fn := fun _ => fun
  | [d1, d2, d3, d4, d5] => { results := [.lit (.bool false)], args := [d1, d2, d3, d4, d5] }
  | _ => none }
def SchedOnceWrongFalsely : Prop := schedOnceRow.holds Tryz.pinned (OpenSpec.ofChange schedOnceWrong)

/-- 'tributarylaw16.SchedTold': WHATEVER THE INPUT: true; the input reads as it did. -/
def schedToldSpec : ChangeSpec := { name := "schedTold", fn := fun _ => fun
  | [d1, d2, d3, d4, d5] => { results := [.lit (.bool true)], args := [d1, d2, d3, d4, d5] }
  | _ => none }
def schedToldRow : OpenClaim := { program := "ytolajmfmphkkiaagreatdoor", sum := "5b3f2ab4b87ef75e35ac5216fe69a1e5660697cd00a3add8a3d599e0bde0789b", func := "tributary/tributarylaw16.SchedTold", spec := "schedTold", inPlace := ["internal/reflectlite.TypeOf", "internal/reflectlite.ValueOf", "(internal/reflectlite.Value).Type", "(internal/reflectlite.Value).IsNil", "(internal/reflectlite.Value).Elem", "(internal/reflectlite.Value).Set"], unfollowed := true, recurses := true, named := ["errors.errorType"], plainKeys := false, apart := false, laid := [("errors.errorType", laid_errors_errorType)] }
def SchedToldSaid : Prop := schedToldRow.holds Tryz.pinned (OpenSpec.ofChange schedToldSpec)

/-- ITS FALSE NEIGHBOUR: 'it returns false'. Refute it at one input. -/
def schedToldWrong : ChangeSpec := { name := "schedTold", fn := fun _ => fun
  | [d1, d2, d3, d4, d5] => { results := [.lit (.bool false)], args := [d1, d2, d3, d4, d5] }
  | _ => none }
def SchedToldWrongFalsely : Prop := schedToldRow.holds Tryz.pinned (OpenSpec.ofChange schedToldWrong)

/-- 'tributarylaw16.SchedPlays': WHATEVER THE INPUT: true; the input reads as it did. -/
def schedPlaysSpec : ChangeSpec := { name := "schedPlays", fn := fun _ => fun
  | [d1, d2, d3, d4] => { results := [.lit (.bool true)], args := [d1, d2, d3, d4] }
  | _ => none }
def schedPlaysRow : OpenClaim := { program := "ytolajmfmphkkiaagreatdoor", sum := "5b3f2ab4b87ef75e35ac5216fe69a1e5660697cd00a3add8a3d599e0bde0789b", func := "tributary/tributarylaw16.SchedPlays", spec := "schedPlays", inPlace := ["internal/reflectlite.TypeOf", "internal/reflectlite.ValueOf", "(internal/reflectlite.Value).Type", "(internal/reflectlite.Value).IsNil", "(internal/reflectlite.Value).Elem", "(internal/reflectlite.Value).Set"], unfollowed := true, recurses := true, named := ["errors.errorType"], plainKeys := false, apart := false, laid := [("errors.errorType", laid_errors_errorType)] }
def SchedPlaysSaid : Prop := schedPlaysRow.holds Tryz.pinned (OpenSpec.ofChange schedPlaysSpec)

/-- ITS FALSE NEIGHBOUR: 'it returns false'. Refute it at one input. -/
def schedPlaysWrong : ChangeSpec := { name := "schedPlays", fn := fun _ => fun
  | [d1, d2, d3, d4] => { results := [.lit (.bool false)], args := [d1, d2, d3, d4] }
  | _ => none }
def SchedPlaysWrongFalsely : Prop := schedPlaysRow.holds Tryz.pinned (OpenSpec.ofChange schedPlaysWrong)

/-- 'tributarylaw16.SchedNext': WHATEVER THE INPUT: true; the input reads as it did. -/
def schedNextSpec : ChangeSpec := { name := "schedNext", fn := fun _ => fun
  | [d1, d2, d3, d4, d5] => { results := [.lit (.bool true)], args := [d1, d2, d3, d4, d5] }
  | _ => none }
def schedNextRow : OpenClaim := { program := "ytolajmfmphkkiaagreatdoor", sum := "5b3f2ab4b87ef75e35ac5216fe69a1e5660697cd00a3add8a3d599e0bde0789b", func := "tributary/tributarylaw16.SchedNext", spec := "schedNext", inPlace := ["internal/reflectlite.TypeOf", "internal/reflectlite.ValueOf", "(internal/reflectlite.Value).Type", "(internal/reflectlite.Value).IsNil", "(internal/reflectlite.Value).Elem", "(internal/reflectlite.Value).Set"], unfollowed := true, recurses := true, named := ["errors.errorType"], plainKeys := false, apart := false, laid := [("errors.errorType", laid_errors_errorType)] }
def SchedNextSaid : Prop := schedNextRow.holds Tryz.pinned (OpenSpec.ofChange schedNextSpec)

/-- ITS FALSE NEIGHBOUR: 'it returns false'. Refute it at one input. -/
def schedNextWrong : ChangeSpec := { name := "schedNext", fn := fun _ => fun
  | [d1, d2, d3, d4, d5] => { results := [.lit (.bool false)], args := [d1, d2, d3, d4, d5] }
  | _ => none }
def SchedNextWrongFalsely : Prop := schedNextRow.holds Tryz.pinned (OpenSpec.ofChange schedNextWrong)

/- THE SECOND FORM. 'bulk': how many values and letters a reading holds, each counted each time it is reached (what is shared counts as often as it is met; a slice's spare places count too). A statement '..UptoSaid' is the law's where the arguments, and the package variables that the reading takes, are together of bulk at most 1048576: NARROWER than '..Said'. Prove '..Said' where nothing that the law and all that it calls make is longer than what came in: it says more and counts as full. Else prove '..UptoSaid'. A law counts once. -/
mutual
def uptoBulk {H : Type} : DataW H → Nat
  | .lit (.string bytes) => bytes.length + 1
  | .lit _ => 1
  | .nil => 1
  | .ptr d => uptoBulk d + 1
  | .slice elems spare => uptoBulkAll elems + uptoBulkAll spare + 1
  | .agg parts => uptoBulkAll parts + 1
  | .iface _ d => uptoBulk d + 1
  | .map entries => uptoBulkEntries entries + 1
  | .held _ => 1
def uptoBulkAll {H : Type} : List (DataW H) → Nat
  | [] => 0
  | d :: r => uptoBulk d + uptoBulkAll r
def uptoBulkEntries {H : Type} : List (Lit × DataW H) → Nat
  | [] => 0
  | x :: r => uptoBulkEntry x + uptoBulkEntries r
def uptoBulkEntry {H : Type} : Lit × DataW H → Nat
  | (.string bytes, d) => bytes.length + uptoBulk d + 1
  | (_, d) => uptoBulk d + 1
 end
def uptoSmall : (H : Type) → List (DataW H) → Bool := fun _ ds => decide (uptoBulkAll ds ≤ 1048576)
def OpenSpec.upto (s : _root_.Go.ChangeSpec) : _root_.Go.OpenSpec := { _root_.Go.OpenSpec.ofChange s with cond := some uptoSmall }

/-- 'tributarylaw17.DriverMarks', WHERE WHAT IT READS IS OF BULK AT MOST 1048576: true; the input reads as it did. -/
def driverMarksUptoRow : OpenClaim := { program := "ytolajmfmphkkiaagreatdoor", sum := "5b3f2ab4b87ef75e35ac5216fe69a1e5660697cd00a3add8a3d599e0bde0789b", func := "tributary/tributarylaw17.DriverMarks", spec := "driverMarks", inPlace := ["internal/reflectlite.TypeOf", "internal/reflectlite.ValueOf", "(internal/reflectlite.Value).Type", "(internal/reflectlite.Value).IsNil", "(internal/reflectlite.Value).Elem", "(internal/reflectlite.Value).Set"], unfollowed := true, recurses := true, named := ["errors.errorType"], plainKeys := false, apart := false, laid := [("errors.errorType", laid_errors_errorType)], narrowed := true }
def DriverMarksUptoSaid : Prop := driverMarksUptoRow.holds Tryz.pinned (OpenSpec.upto driverMarksSpec)

/-- 'tributarylaw17.DriverPower', WHERE WHAT IT READS IS OF BULK AT MOST 1048576: true; the input reads as it did. -/
def driverPowerUptoRow : OpenClaim := { program := "ytolajmfmphkkiaagreatdoor", sum := "5b3f2ab4b87ef75e35ac5216fe69a1e5660697cd00a3add8a3d599e0bde0789b", func := "tributary/tributarylaw17.DriverPower", spec := "driverPower", inPlace := ["internal/reflectlite.TypeOf", "internal/reflectlite.ValueOf", "(internal/reflectlite.Value).Type", "(internal/reflectlite.Value).IsNil", "(internal/reflectlite.Value).Elem", "(internal/reflectlite.Value).Set"], unfollowed := true, recurses := true, named := ["errors.errorType"], plainKeys := false, apart := false, laid := [("errors.errorType", laid_errors_errorType)], narrowed := true }
def DriverPowerUptoSaid : Prop := driverPowerUptoRow.holds Tryz.pinned (OpenSpec.upto driverPowerSpec)

/-- 'tributarylaw17.DriverKeeps', WHERE WHAT IT READS IS OF BULK AT MOST 1048576: true; the input reads as it did. -/
def driverKeepsUptoRow : OpenClaim := { program := "ytolajmfmphkkiaagreatdoor", sum := "5b3f2ab4b87ef75e35ac5216fe69a1e5660697cd00a3add8a3d599e0bde0789b", func := "tributary/tributarylaw17.DriverKeeps", spec := "driverKeeps", inPlace := ["internal/reflectlite.TypeOf", "internal/reflectlite.ValueOf", "(internal/reflectlite.Value).Type", "(internal/reflectlite.Value).IsNil", "(internal/reflectlite.Value).Elem", "(internal/reflectlite.Value).Set"], unfollowed := true, recurses := true, named := ["errors.errorType"], plainKeys := false, apart := false, laid := [("errors.errorType", laid_errors_errorType)], narrowed := true }
def DriverKeepsUptoSaid : Prop := driverKeepsUptoRow.holds Tryz.pinned (OpenSpec.upto driverKeepsSpec)

/-- 'tributarylaw16.SchedOnce', WHERE WHAT IT READS IS OF BULK AT MOST 1048576: true; the input reads as it did. -/
def schedOnceUptoRow : OpenClaim := { program := "ytolajmfmphkkiaagreatdoor", sum := "5b3f2ab4b87ef75e35ac5216fe69a1e5660697cd00a3add8a3d599e0bde0789b", func := "tributary/tributarylaw16.SchedOnce", spec := "schedOnce", inPlace := ["internal/reflectlite.TypeOf", "internal/reflectlite.ValueOf", "(internal/reflectlite.Value).Type", "(internal/reflectlite.Value).IsNil", "(internal/reflectlite.Value).Elem", "(internal/reflectlite.Value).Set"], unfollowed := true, recurses := true, named := ["errors.errorType"], plainKeys := false, apart := false, laid := [("errors.errorType", laid_errors_errorType)], narrowed := true }
def SchedOnceUptoSaid : Prop := schedOnceUptoRow.holds Tryz.pinned (OpenSpec.upto schedOnceSpec)

/-- 'tributarylaw16.SchedTold', WHERE WHAT IT READS IS OF BULK AT MOST 1048576: true; the input reads as it did. -/
def schedToldUptoRow : OpenClaim := { program := "ytolajmfmphkkiaagreatdoor", sum := "5b3f2ab4b87ef75e35ac5216fe69a1e5660697cd00a3add8a3d599e0bde0789b", func := "tributary/tributarylaw16.SchedTold", spec := "schedTold", inPlace := ["internal/reflectlite.TypeOf", "internal/reflectlite.ValueOf", "(internal/reflectlite.Value).Type", "(internal/reflectlite.Value).IsNil", "(internal/reflectlite.Value).Elem", "(internal/reflectlite.Value).Set"], unfollowed := true, recurses := true, named := ["errors.errorType"], plainKeys := false, apart := false, laid := [("errors.errorType", laid_errors_errorType)], narrowed := true }
def SchedToldUptoSaid : Prop := schedToldUptoRow.holds Tryz.pinned (OpenSpec.upto schedToldSpec)

/-- 'tributarylaw16.SchedPlays', WHERE WHAT IT READS IS OF BULK AT MOST 1048576: true; the input reads as it did. -/
def schedPlaysUptoRow : OpenClaim := { program := "ytolajmfmphkkiaagreatdoor", sum := "5b3f2ab4b87ef75e35ac5216fe69a1e5660697cd00a3add8a3d599e0bde0789b", func := "tributary/tributarylaw16.SchedPlays", spec := "schedPlays", inPlace := ["internal/reflectlite.TypeOf", "internal/reflectlite.ValueOf", "(internal/reflectlite.Value).Type", "(internal/reflectlite.Value).IsNil", "(internal/reflectlite.Value).Elem", "(internal/reflectlite.Value).Set"], unfollowed := true, recurses := true, named := ["errors.errorType"], plainKeys := false, apart := false, laid := [("errors.errorType", laid_errors_errorType)], narrowed := true }
def SchedPlaysUptoSaid : Prop := schedPlaysUptoRow.holds Tryz.pinned (OpenSpec.upto schedPlaysSpec)

/-- 'tributarylaw16.SchedNext', WHERE WHAT IT READS IS OF BULK AT MOST 1048576: true; the input reads as it did. -/
def schedNextUptoRow : OpenClaim := { program := "ytolajmfmphkkiaagreatdoor", sum := "5b3f2ab4b87ef75e35ac5216fe69a1e5660697cd00a3add8a3d599e0bde0789b", func := "tributary/tributarylaw16.SchedNext", spec := "schedNext", inPlace := ["internal/reflectlite.TypeOf", "internal/reflectlite.ValueOf", "(internal/reflectlite.Value).Type", "(internal/reflectlite.Value).IsNil", "(internal/reflectlite.Value).Elem", "(internal/reflectlite.Value).Set"], unfollowed := true, recurses := true, named := ["errors.errorType"], plainKeys := false, apart := false, laid := [("errors.errorType", laid_errors_errorType)], narrowed := true }
def SchedNextUptoSaid : Prop := schedNextUptoRow.holds Tryz.pinned (OpenSpec.upto schedNextSpec)

end Rows
end Go.Proofs.YtolajmfmphkkiaaGreatDoor
