/-
  No cell of these rows narrows 'for every input' (looked for: loops, veiled, ifaces, maps, wideKeys, modest, calm, conditions, laid).
  DERIVED. THE GIVEN ROWS OF THIS SEAT. 10 by the template 'for every input the law returns true; each argument reads behind the call as it read before'; 0 by the template 'total and deterministic' (their statements: YtcgjlpdkobmpnaaGreatTotals.lean).
  GIVEN WITH THE SEED: the statements are not yours to turn. If you find one false, say at which input.
  Laid BY PROGRAM, IN A SANDBOX (cutbox-rows.mjs): the forced cells as the released guide's own fill.sh prints them over the translation 8d8775834f9ed074… (all of the seat's roots in one cut). By AI agents, Wed Nov 11 2026. No macro, syntax, notation, axiom, sorry.
-/
import Derived.Test.YtcgjlpdkobmpnaaGreatChecked
import GoSem.Claim
import GoSem.ClaimJoined
import GoSem.ClaimMapViews
import Derived.JoinedTies
import Derived.KernelRfl
namespace Go.Proofs.YtcgjlpdkobmpnaaGreat
/- THE CELL 'sum', in the pinned program and in every row, IS THE sha256 OF THE DUMP (.gsa) THAT YtcgjlpdkobmpnaaGreatProg.lean LOADS. Nothing in Lean hashes anything: it is a label: what it is worth is what the hold of that sum in a sandbox is worth. -/
noncomputable def Tryz.pinned : Pinned := { name := "ytcgjlpdkobmpnaagreat", sum := "8d8775834f9ed074a1c9e39c8811041ce73f19e251ccb143f5b13bccd8e00322", checked := Tryz.checked }
namespace Rows
def none {H : Type} : Left H := { results := [], args := [] }

/-- 'clapperlaw22.FactsTurns': WHATEVER THE INPUT: true; the input reads as it did. -/
def factsTurnsSpec : ChangeSpec := { name := "factsTurns", fn := fun _ => fun
  | [d1, d2, d3, d4, d5] => { results := [.lit (.bool true)], args := [d1, d2, d3, d4, d5] }
  | _ => none }
def factsTurnsRow : OpenClaim := { program := "ytcgjlpdkobmpnaagreat", sum := "8d8775834f9ed074a1c9e39c8811041ce73f19e251ccb143f5b13bccd8e00322", func := "clapper/clapperlaw22.FactsTurns", spec := "factsTurns", inPlace := ["math/bits.Add64", "math/bits.Sub64", "slices.overlaps[clapper/api.Chain]"], unfollowed := true, recurses := true, plainKeys := false, apart := false }
def FactsTurnsSaid : Prop := factsTurnsRow.holds Tryz.pinned (OpenSpec.ofChange factsTurnsSpec)

/-- ITS FALSE NEIGHBOUR: 'it returns false'. Refute it at one input. -/
def factsTurnsWrong : ChangeSpec := { name := "factsTurns", fn := fun _ => fun
  | [d1, d2, d3, d4, d5] => { results := [.lit (.bool false)], args := [d1, d2, d3, d4, d5] }
  | _ => none }
def FactsTurnsWrongFalsely : Prop := factsTurnsRow.holds Tryz.pinned (OpenSpec.ofChange factsTurnsWrong)

/-- 'clapperlaw22.FactsMore': WHATEVER THE INPUT: true; the input reads as it did. -/
def factsMoreSpec : ChangeSpec := { name := "factsMore", fn := fun _ => fun
  | [d1, d2, d3, d4] => { results := [.lit (.bool true)], args := [d1, d2, d3, d4] }
  | _ => none }
def factsMoreRow : OpenClaim := { program := "ytcgjlpdkobmpnaagreat", sum := "8d8775834f9ed074a1c9e39c8811041ce73f19e251ccb143f5b13bccd8e00322", func := "clapper/clapperlaw22.FactsMore", spec := "factsMore", inPlace := ["math/bits.Add64", "math/bits.Sub64", "slices.overlaps[clapper/api.Chain]"], unfollowed := true, recurses := true, plainKeys := false, apart := false }
def FactsMoreSaid : Prop := factsMoreRow.holds Tryz.pinned (OpenSpec.ofChange factsMoreSpec)

/-- ITS FALSE NEIGHBOUR: 'it returns false'. Refute it at one input. -/
def factsMoreWrong : ChangeSpec := { name := "factsMore", fn := fun _ => fun
  | [d1, d2, d3, d4] => { results := [.lit (.bool false)], args := [d1, d2, d3, d4] }
  | _ => none }
def FactsMoreWrongFalsely : Prop := factsMoreRow.holds Tryz.pinned (OpenSpec.ofChange factsMoreWrong)

/-- 'clapperlaw18.DeviceOpens': WHATEVER THE INPUT: true; the input reads as it did. -/
def deviceOpensSpec : ChangeSpec := { name := "deviceOpens", fn := fun _ => fun
  | [d1, d2, d3] => { results := [.lit (.bool true)], args := [d1, d2, d3] }
  | _ => none }
def deviceOpensRow : OpenClaim := { program := "ytcgjlpdkobmpnaagreat", sum := "8d8775834f9ed074a1c9e39c8811041ce73f19e251ccb143f5b13bccd8e00322", func := "clapper/clapperlaw18.DeviceOpens", spec := "deviceOpens", inPlace := ["math/bits.Add64", "math/bits.Sub64"], unfollowed := true, recurses := true, plainKeys := false, apart := false }
def DeviceOpensSaid : Prop := deviceOpensRow.holds Tryz.pinned (OpenSpec.ofChange deviceOpensSpec)

/-- ITS FALSE NEIGHBOUR: 'it returns false'. Refute it at one input. -/
def deviceOpensWrong : ChangeSpec := { name := "deviceOpens", fn := fun _ => fun
  | [d1, d2, d3] => { results := [.lit (.bool false)], args := [d1, d2, d3] }
  | _ => none }
def DeviceOpensWrongFalsely : Prop := deviceOpensRow.holds Tryz.pinned (OpenSpec.ofChange deviceOpensWrong)

/-- 'clapperlaw18.DeviceVerdicts': WHATEVER THE INPUT: true; the input reads as it did. -/
def deviceVerdictsSpec : ChangeSpec := { name := "deviceVerdicts", fn := fun _ => fun
  | [d1, d2, d3, d4, d5, d6] => { results := [.lit (.bool true)], args := [d1, d2, d3, d4, d5, d6] }
  | _ => none }
def deviceVerdictsRow : OpenClaim := { program := "ytcgjlpdkobmpnaagreat", sum := "8d8775834f9ed074a1c9e39c8811041ce73f19e251ccb143f5b13bccd8e00322", func := "clapper/clapperlaw18.DeviceVerdicts", spec := "deviceVerdicts", inPlace := ["math/bits.Add64", "math/bits.Sub64"], unfollowed := true, recurses := true, plainKeys := false, apart := false }
def DeviceVerdictsSaid : Prop := deviceVerdictsRow.holds Tryz.pinned (OpenSpec.ofChange deviceVerdictsSpec)

/-- ITS FALSE NEIGHBOUR: 'it returns false'. Refute it at one input. -/
def deviceVerdictsWrong : ChangeSpec := { name := "deviceVerdicts", fn := fun _ => fun
  | [d1, d2, d3, d4, d5, d6] => { results := [.lit (.bool false)], args := [d1, d2, d3, d4, d5, d6] }
  | _ => none }
def DeviceVerdictsWrongFalsely : Prop := deviceVerdictsRow.holds Tryz.pinned (OpenSpec.ofChange deviceVerdictsWrong)

/-- 'clapperlaw18.DeviceChains': WHATEVER THE INPUT: true; the input reads as it did. -/
def deviceChainsSpec : ChangeSpec := { name := "deviceChains", fn := fun _ => fun
  | [d] => { results := [.lit (.bool true)], args := [d] }
  | _ => none }
def deviceChainsRow : OpenClaim := { program := "ytcgjlpdkobmpnaagreat", sum := "8d8775834f9ed074a1c9e39c8811041ce73f19e251ccb143f5b13bccd8e00322", func := "clapper/clapperlaw18.DeviceChains", spec := "deviceChains", inPlace := ["math/bits.Add64", "math/bits.Sub64"], unfollowed := true, recurses := true, plainKeys := false, apart := false }
def DeviceChainsSaid : Prop := deviceChainsRow.holds Tryz.pinned (OpenSpec.ofChange deviceChainsSpec)

/-- ITS FALSE NEIGHBOUR: 'it returns false'. Refute it at one input. -/
def deviceChainsWrong : ChangeSpec := { name := "deviceChains", fn := fun _ => fun
  | [d] => { results := [.lit (.bool false)], args := [d] }
  | _ => none }
def DeviceChainsWrongFalsely : Prop := deviceChainsRow.holds Tryz.pinned (OpenSpec.ofChange deviceChainsWrong)

/-- 'clapperlaw23.CasesLater': WHATEVER THE INPUT: true; the input reads as it did. -/
def casesLaterSpec : ChangeSpec := { name := "casesLater", fn := fun _ => fun
  | [d1, d2, d3] => { results := [.lit (.bool true)], args := [d1, d2, d3] }
  | _ => none }
def casesLaterRow : OpenClaim := { program := "ytcgjlpdkobmpnaagreat", sum := "8d8775834f9ed074a1c9e39c8811041ce73f19e251ccb143f5b13bccd8e00322", func := "clapper/clapperlaw23.CasesLater", spec := "casesLater", inPlace := ["math/bits.Add64", "math/bits.Sub64", "slices.overlaps[clapper/api.Chain]"], unfollowed := true, recurses := true, plainKeys := false, apart := false }
def CasesLaterSaid : Prop := casesLaterRow.holds Tryz.pinned (OpenSpec.ofChange casesLaterSpec)

/-- ITS FALSE NEIGHBOUR: 'it returns false'. Refute it at one input. -/
def casesLaterWrong : ChangeSpec := { name := "casesLater", fn := fun _ => fun
  | [d1, d2, d3] => { results := [.lit (.bool false)], args := [d1, d2, d3] }
  | _ => none }
def CasesLaterWrongFalsely : Prop := casesLaterRow.holds Tryz.pinned (OpenSpec.ofChange casesLaterWrong)

/-- 'clapperlaw23.CasesRevoked': WHATEVER THE INPUT: true; the input reads as it did. -/
def casesRevokedSpec : ChangeSpec := { name := "casesRevoked", fn := fun _ => fun
  | [d1, d2, d3] => { results := [.lit (.bool true)], args := [d1, d2, d3] }
  | _ => none }
def casesRevokedRow : OpenClaim := { program := "ytcgjlpdkobmpnaagreat", sum := "8d8775834f9ed074a1c9e39c8811041ce73f19e251ccb143f5b13bccd8e00322", func := "clapper/clapperlaw23.CasesRevoked", spec := "casesRevoked", inPlace := ["math/bits.Add64", "math/bits.Sub64", "slices.overlaps[clapper/api.Chain]"], unfollowed := true, recurses := true, plainKeys := false, apart := false }
def CasesRevokedSaid : Prop := casesRevokedRow.holds Tryz.pinned (OpenSpec.ofChange casesRevokedSpec)

/-- ITS FALSE NEIGHBOUR: 'it returns false'. Refute it at one input. -/
def casesRevokedWrong : ChangeSpec := { name := "casesRevoked", fn := fun _ => fun
  | [d1, d2, d3] => { results := [.lit (.bool false)], args := [d1, d2, d3] }
  | _ => none }
def CasesRevokedWrongFalsely : Prop := casesRevokedRow.holds Tryz.pinned (OpenSpec.ofChange casesRevokedWrong)

/-- 'clapperlaw24.OfficeOpens': WHATEVER THE INPUT: true; the input reads as it did. -/
def officeOpensSpec : ChangeSpec := { name := "officeOpens", fn := fun _ => fun
  | [d1, d2] => { results := [.lit (.bool true)], args := [d1, d2] }
  | _ => none }
def officeOpensRow : OpenClaim := { program := "ytcgjlpdkobmpnaagreat", sum := "8d8775834f9ed074a1c9e39c8811041ce73f19e251ccb143f5b13bccd8e00322", func := "clapper/clapperlaw24.OfficeOpens", spec := "officeOpens", inPlace := ["math/bits.Add64", "math/bits.Sub64", "slices.overlaps[clapper/api.Chain]"], unfollowed := true, recurses := true, plainKeys := false, apart := false }
def OfficeOpensSaid : Prop := officeOpensRow.holds Tryz.pinned (OpenSpec.ofChange officeOpensSpec)

/-- ITS FALSE NEIGHBOUR: 'it returns false'. Refute it at one input. -/
def officeOpensWrong : ChangeSpec := { name := "officeOpens", fn := fun _ => fun
  | [d1, d2] => { results := [.lit (.bool false)], args := [d1, d2] }
  | _ => none }
def OfficeOpensWrongFalsely : Prop := officeOpensRow.holds Tryz.pinned (OpenSpec.ofChange officeOpensWrong)

/-- 'clapperlaw24.OfficeLetters': WHATEVER THE INPUT: true; the input reads as it did. -/
def officeLettersSpec : ChangeSpec := { name := "officeLetters", fn := fun _ => fun
  | [d1, d2, d3] => { results := [.lit (.bool true)], args := [d1, d2, d3] }
  | _ => none }
def officeLettersRow : OpenClaim := { program := "ytcgjlpdkobmpnaagreat", sum := "8d8775834f9ed074a1c9e39c8811041ce73f19e251ccb143f5b13bccd8e00322", func := "clapper/clapperlaw24.OfficeLetters", spec := "officeLetters", inPlace := ["math/bits.Add64", "math/bits.Sub64", "slices.overlaps[clapper/api.Chain]"], unfollowed := true, recurses := true, plainKeys := false, apart := false }
def OfficeLettersSaid : Prop := officeLettersRow.holds Tryz.pinned (OpenSpec.ofChange officeLettersSpec)

/-- ITS FALSE NEIGHBOUR: 'it returns false'. Refute it at one input. -/
def officeLettersWrong : ChangeSpec := { name := "officeLetters", fn := fun _ => fun
  | [d1, d2, d3] => { results := [.lit (.bool false)], args := [d1, d2, d3] }
  | _ => none }
def OfficeLettersWrongFalsely : Prop := officeLettersRow.holds Tryz.pinned (OpenSpec.ofChange officeLettersWrong)

/-- 'clapperlaw24.OfficeKeeps': WHATEVER THE INPUT: true; the input reads as it did. -/
def officeKeepsSpec : ChangeSpec := { name := "officeKeeps", fn := fun _ => fun
  | [d1, d2] => { results := [.lit (.bool true)], args := [d1, d2] }
  | _ => none }
def officeKeepsRow : OpenClaim := { program := "ytcgjlpdkobmpnaagreat", sum := "8d8775834f9ed074a1c9e39c8811041ce73f19e251ccb143f5b13bccd8e00322", func := "clapper/clapperlaw24.OfficeKeeps", spec := "officeKeeps", inPlace := ["math/bits.Add64", "math/bits.Sub64", "slices.overlaps[clapper/api.Chain]"], unfollowed := true, recurses := true, plainKeys := false, apart := false }
def OfficeKeepsSaid : Prop := officeKeepsRow.holds Tryz.pinned (OpenSpec.ofChange officeKeepsSpec)

/-- ITS FALSE NEIGHBOUR: 'it returns false'. Refute it at one input. -/
def officeKeepsWrong : ChangeSpec := { name := "officeKeeps", fn := fun _ => fun
  | [d1, d2] => { results := [.lit (.bool false)], args := [d1, d2] }
  | _ => none }
def OfficeKeepsWrongFalsely : Prop := officeKeepsRow.holds Tryz.pinned (OpenSpec.ofChange officeKeepsWrong)

/- THE SECOND FORM. 'bulk': how many values and letters a reading holds, each counted each time it is reached (what is shared counts as often as it is met; a slice's spare places count too). A statement '..UptoSaid' is the law's where the arguments, and the package variables that the reading takes, are together of bulk at most 1048576: NARROWER than '..Said'. Prove '..Said' where nothing that the law and all that it calls make is longer than what came in: it says more and counts as full. Else prove '..UptoSaid'. A law counts once. -/
mutual
def uptoBulk {H : Type} : DataW H → Nat
  | .lit (.string bytes) => bytes.length + 1
  | .lit _ => 1
  | .nil => 1
  | .ptr d => uptoBulk d + 1
  | .slice elems spare => uptoBulkAll elems + uptoBulkAll spare + 1
  | .agg parts => uptoBulkAll parts + 1
  | .iface _ d => uptoBulk d + 1
  | .map entries => uptoBulkEntries entries + 1
  | .held _ => 1
def uptoBulkAll {H : Type} : List (DataW H) → Nat
  | [] => 0
  | d :: r => uptoBulk d + uptoBulkAll r
def uptoBulkEntries {H : Type} : List (Lit × DataW H) → Nat
  | [] => 0
  | x :: r => uptoBulkEntry x + uptoBulkEntries r
def uptoBulkEntry {H : Type} : Lit × DataW H → Nat
  | (.string bytes, d) => bytes.length + uptoBulk d + 1
  | (_, d) => uptoBulk d + 1
 end
def uptoSmall : (H : Type) → List (DataW H) → Bool := fun _ ds => decide (uptoBulkAll ds ≤ 1048576)
def OpenSpec.upto (s : _root_.Go.ChangeSpec) : _root_.Go.OpenSpec := { _root_.Go.OpenSpec.ofChange s with cond := some uptoSmall }

/-- 'clapperlaw22.FactsTurns', WHERE WHAT IT READS IS OF BULK AT MOST 1048576: true; the input reads as it did. -/
def factsTurnsUptoRow : OpenClaim := { program := "ytcgjlpdkobmpnaagreat", sum := "8d8775834f9ed074a1c9e39c8811041ce73f19e251ccb143f5b13bccd8e00322", func := "clapper/clapperlaw22.FactsTurns", spec := "factsTurns", inPlace := ["math/bits.Add64", "math/bits.Sub64", "slices.overlaps[clapper/api.Chain]"], unfollowed := true, recurses := true, plainKeys := false, apart := false, narrowed := true }
def FactsTurnsUptoSaid : Prop := factsTurnsUptoRow.holds Tryz.pinned (OpenSpec.upto factsTurnsSpec)

/-- 'clapperlaw22.FactsMore', WHERE WHAT IT READS IS OF BULK AT MOST 1048576: true; the input reads as it did. -/
def factsMoreUptoRow : OpenClaim := { program := "ytcgjlpdkobmpnaagreat", sum := "8d8775834f9ed074a1c9e39c8811041ce73f19e251ccb143f5b13bccd8e00322", func := "clapper/clapperlaw22.FactsMore", spec := "factsMore", inPlace := ["math/bits.Add64", "math/bits.Sub64", "slices.overlaps[clapper/api.Chain]"], unfollowed := true, recurses := true, plainKeys := false, apart := false, narrowed := true }
def FactsMoreUptoSaid : Prop := factsMoreUptoRow.holds Tryz.pinned (OpenSpec.upto factsMoreSpec)

/-- 'clapperlaw18.DeviceOpens', WHERE WHAT IT READS IS OF BULK AT MOST 1048576: true; the input reads as it did. -/
def deviceOpensUptoRow : OpenClaim := { program := "ytcgjlpdkobmpnaagreat", sum := "8d8775834f9ed074a1c9e39c8811041ce73f19e251ccb143f5b13bccd8e00322", func := "clapper/clapperlaw18.DeviceOpens", spec := "deviceOpens", inPlace := ["math/bits.Add64", "math/bits.Sub64"], unfollowed := true, recurses := true, plainKeys := false, apart := false, narrowed := true }
def DeviceOpensUptoSaid : Prop := deviceOpensUptoRow.holds Tryz.pinned (OpenSpec.upto deviceOpensSpec)

/-- 'clapperlaw18.DeviceVerdicts', WHERE WHAT IT READS IS OF BULK AT MOST 1048576: true; the input reads as it did. -/
def deviceVerdictsUptoRow : OpenClaim := { program := "ytcgjlpdkobmpnaagreat", sum := "8d8775834f9ed074a1c9e39c8811041ce73f19e251ccb143f5b13bccd8e00322", func := "clapper/clapperlaw18.DeviceVerdicts", spec := "deviceVerdicts", inPlace := ["math/bits.Add64", "math/bits.Sub64"], unfollowed := true, recurses := true, plainKeys := false, apart := false, narrowed := true }
def DeviceVerdictsUptoSaid : Prop := deviceVerdictsUptoRow.holds Tryz.pinned (OpenSpec.upto deviceVerdictsSpec)

/-- 'clapperlaw18.DeviceChains', WHERE WHAT IT READS IS OF BULK AT MOST 1048576: true; the input reads as it did. -/
def deviceChainsUptoRow : OpenClaim := { program := "ytcgjlpdkobmpnaagreat", sum := "8d8775834f9ed074a1c9e39c8811041ce73f19e251ccb143f5b13bccd8e00322", func := "clapper/clapperlaw18.DeviceChains", spec := "deviceChains", inPlace := ["math/bits.Add64", "math/bits.Sub64"], unfollowed := true, recurses := true, plainKeys := false, apart := false, narrowed := true }
def DeviceChainsUptoSaid : Prop := deviceChainsUptoRow.holds Tryz.pinned (OpenSpec.upto deviceChainsSpec)

/-- 'clapperlaw23.CasesLater', WHERE WHAT IT READS IS OF BULK AT MOST 1048576: true; the input reads as it did. -/
def casesLaterUptoRow : OpenClaim := { program := "ytcgjlpdkobmpnaagreat", sum := "8d8775834f9ed074a1c9e39c8811041ce73f19e251ccb143f5b13bccd8e00322", func := "clapper/clapperlaw23.CasesLater", spec := "casesLater", inPlace := ["math/bits.Add64", "math/bits.Sub64", "slices.overlaps[clapper/api.Chain]"], unfollowed := true, recurses := true, plainKeys := false, apart := false, narrowed := true }
def CasesLaterUptoSaid : Prop := casesLaterUptoRow.holds Tryz.pinned (OpenSpec.upto casesLaterSpec)

/-- 'clapperlaw23.CasesRevoked', WHERE WHAT IT READS IS OF BULK AT MOST 1048576: true; the input reads as it did. -/
def casesRevokedUptoRow : OpenClaim := { program := "ytcgjlpdkobmpnaagreat", sum := "8d8775834f9ed074a1c9e39c8811041ce73f19e251ccb143f5b13bccd8e00322", func := "clapper/clapperlaw23.CasesRevoked", spec := "casesRevoked", inPlace := ["math/bits.Add64", "math/bits.Sub64", "slices.overlaps[clapper/api.Chain]"], unfollowed := true, recurses := true, plainKeys := false, apart := false, narrowed := true }
def CasesRevokedUptoSaid : Prop := casesRevokedUptoRow.holds Tryz.pinned (OpenSpec.upto casesRevokedSpec)

/-- 'clapperlaw24.OfficeOpens', WHERE WHAT IT READS IS OF BULK AT MOST 1048576: true; the input reads as it did. -/
def officeOpensUptoRow : OpenClaim := { program := "ytcgjlpdkobmpnaagreat", sum := "8d8775834f9ed074a1c9e39c8811041ce73f19e251ccb143f5b13bccd8e00322", func := "clapper/clapperlaw24.OfficeOpens", spec := "officeOpens", inPlace := ["math/bits.Add64", "math/bits.Sub64", "slices.overlaps[clapper/api.Chain]"], unfollowed := true, recurses := true, plainKeys := false, apart := false, narrowed := true }
def OfficeOpensUptoSaid : Prop := officeOpensUptoRow.holds Tryz.pinned (OpenSpec.upto officeOpensSpec)

/-- 'clapperlaw24.OfficeLetters', WHERE WHAT IT READS IS OF BULK AT MOST 1048576: true; the input reads as it did. -/
def officeLettersUptoRow : OpenClaim := { program := "ytcgjlpdkobmpnaagreat", sum := "8d8775834f9ed074a1c9e39c8811041ce73f19e251ccb143f5b13bccd8e00322", func := "clapper/clapperlaw24.OfficeLetters", spec := "officeLetters", inPlace := ["math/bits.Add64", "math/bits.Sub64", "slices.overlaps[clapper/api.Chain]"], unfollowed := true, recurses := true, plainKeys := false, apart := false, narrowed := true }
def OfficeLettersUptoSaid : Prop := officeLettersUptoRow.holds Tryz.pinned (OpenSpec.upto officeLettersSpec)

/-- 'clapperlaw24.OfficeKeeps', WHERE WHAT IT READS IS OF BULK AT MOST 1048576: true; the input reads as it did. -/
def officeKeepsUptoRow : OpenClaim := { program := "ytcgjlpdkobmpnaagreat", sum := "8d8775834f9ed074a1c9e39c8811041ce73f19e251ccb143f5b13bccd8e00322", func := "clapper/clapperlaw24.OfficeKeeps", spec := "officeKeeps", inPlace := ["math/bits.Add64", "math/bits.Sub64", "slices.overlaps[clapper/api.Chain]"], unfollowed := true, recurses := true, plainKeys := false, apart := false, narrowed := true }
def OfficeKeepsUptoSaid : Prop := officeKeepsUptoRow.holds Tryz.pinned (OpenSpec.upto officeKeepsSpec)

end Rows
end Go.Proofs.YtcgjlpdkobmpnaaGreat
