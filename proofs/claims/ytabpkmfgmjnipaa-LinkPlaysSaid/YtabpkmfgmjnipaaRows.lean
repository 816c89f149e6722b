/-
  No cell of these rows narrows 'for every input' (looked for: loops, veiled, ifaces, maps, wideKeys, modest, calm, conditions, laid).
  DERIVED. THE GIVEN ROWS OF THIS SEAT. 5 by the template 'for every input the law returns true; each argument reads behind the call as it read before'; 0 by the template 'total and deterministic' (their statements: YtabpkmfgmjnipaaTotals.lean).
  GIVEN WITH THE SEED: the statements are not yours to turn. If you find one false, say at which input.
  Laid BY PROGRAM, IN A SANDBOX (cutbox-rows.mjs): the forced cells as the released guide's own fill.sh prints them over the translation 1f37cb213e2f7eaf… (all of the seat's roots in one cut). By AI agents, Wed Nov 11 2026. No macro, syntax, notation, axiom, sorry.
-/
import Derived.Test.YtabpkmfgmjnipaaChecked
import GoSem.Claim
import GoSem.ClaimJoined
import GoSem.ClaimMapViews
import Derived.JoinedTies
import Derived.KernelRfl
namespace Go.Proofs.Ytabpkmfgmjnipaa
/- THE CELL 'sum', in the pinned program and in every row, IS THE sha256 OF THE DUMP (.gsa) THAT YtabpkmfgmjnipaaProg.lean LOADS. Nothing in Lean hashes anything: it is a label: what it is worth is what the hold of that sum in a sandbox is worth. -/
noncomputable def Try.pinned : Pinned := { name := "ytabpkmfgmjnipaa", sum := "1f37cb213e2f7eaf88c802c70dff5428cc835dfd1a0a8386163d8d1466644220", checked := Try.checked }
namespace Rows
def none {H : Type} : Left H := { results := [], args := [] }

/-- 'clapperlaw20.LinkPlays': WHATEVER THE INPUT: true; the input reads as it did. -/
def linkPlaysSpec : ChangeSpec := { name := "linkPlays", fn := fun _ => fun
  | [d] => { results := [.lit (.bool true)], args := [d] }
  | _ => none }
def linkPlaysRow : OpenClaim := { program := "ytabpkmfgmjnipaa", sum := "1f37cb213e2f7eaf88c802c70dff5428cc835dfd1a0a8386163d8d1466644220", func := "clapper/clapperlaw20.LinkPlays", spec := "linkPlays", apart := false }
def LinkPlaysSaid : Prop := linkPlaysRow.holds Try.pinned (OpenSpec.ofChange linkPlaysSpec)

/-- ITS FALSE NEIGHBOUR: 'it returns false'. Refute it at one input. -/
def linkPlaysWrong : ChangeSpec := { name := "linkPlays", fn := fun _ => fun
  | [d] => { results := [.lit (.bool false)], args := [d] }
  | _ => none }
def LinkPlaysWrongFalsely : Prop := linkPlaysRow.holds Try.pinned (OpenSpec.ofChange linkPlaysWrong)

/-- 'clapperlaw13.RouteEarliest': WHATEVER THE INPUT: true; the input reads as it did. -/
def routeEarliestSpec : ChangeSpec := { name := "routeEarliest", fn := fun _ => fun
  | [d1, d2, d3, d4, d5] => { results := [.lit (.bool true)], args := [d1, d2, d3, d4, d5] }
  | _ => none }
def routeEarliestRow : OpenClaim := { program := "ytabpkmfgmjnipaa", sum := "1f37cb213e2f7eaf88c802c70dff5428cc835dfd1a0a8386163d8d1466644220", func := "clapper/clapperlaw13.RouteEarliest", spec := "routeEarliest", unfollowed := true, recurses := true, apart := false }
def RouteEarliestSaid : Prop := routeEarliestRow.holds Try.pinned (OpenSpec.ofChange routeEarliestSpec)

/-- ITS FALSE NEIGHBOUR: 'it returns false'. Refute it at one input. -/
def routeEarliestWrong : ChangeSpec := { name := "routeEarliest", fn := fun _ => fun
  | [d1, d2, d3, d4, d5] => { results := [.lit (.bool false)], args := [d1, d2, d3, d4, d5] }
  | _ => none }
def RouteEarliestWrongFalsely : Prop := routeEarliestRow.holds Try.pinned (OpenSpec.ofChange routeEarliestWrong)

/-- 'clapperlaw13.RouteLater': WHATEVER THE INPUT: true; the input reads as it did. -/
def routeLaterSpec : ChangeSpec := { name := "routeLater", fn := fun _ => fun
  | [d1, d2, d3, d4, d5, d6, d7] => { results := [.lit (.bool true)], args := [d1, d2, d3, d4, d5, d6, d7] }
  | _ => none }
def routeLaterRow : OpenClaim := { program := "ytabpkmfgmjnipaa", sum := "1f37cb213e2f7eaf88c802c70dff5428cc835dfd1a0a8386163d8d1466644220", func := "clapper/clapperlaw13.RouteLater", spec := "routeLater", unfollowed := true, recurses := true, apart := false }
def RouteLaterSaid : Prop := routeLaterRow.holds Try.pinned (OpenSpec.ofChange routeLaterSpec)

/-- ITS FALSE NEIGHBOUR: 'it returns false'. Refute it at one input. -/
def routeLaterWrong : ChangeSpec := { name := "routeLater", fn := fun _ => fun
  | [d1, d2, d3, d4, d5, d6, d7] => { results := [.lit (.bool false)], args := [d1, d2, d3, d4, d5, d6, d7] }
  | _ => none }
def RouteLaterWrongFalsely : Prop := routeLaterRow.holds Try.pinned (OpenSpec.ofChange routeLaterWrong)

/-- 'clapperlaw13.RouteOn': WHATEVER THE INPUT: true; the input reads as it did. -/
def routeOnSpec : ChangeSpec := { name := "routeOn", fn := fun _ => fun
  | [d1, d2, d3, d4, d5, d6] => { results := [.lit (.bool true)], args := [d1, d2, d3, d4, d5, d6] }
  | _ => none }
def routeOnRow : OpenClaim := { program := "ytabpkmfgmjnipaa", sum := "1f37cb213e2f7eaf88c802c70dff5428cc835dfd1a0a8386163d8d1466644220", func := "clapper/clapperlaw13.RouteOn", spec := "routeOn", unfollowed := true, recurses := true, apart := false }
def RouteOnSaid : Prop := routeOnRow.holds Try.pinned (OpenSpec.ofChange routeOnSpec)

/-- ITS FALSE NEIGHBOUR: 'it returns false'. Refute it at one input. -/
def routeOnWrong : ChangeSpec := { name := "routeOn", fn := fun _ => fun
  | [d1, d2, d3, d4, d5, d6] => { results := [.lit (.bool false)], args := [d1, d2, d3, d4, d5, d6] }
  | _ => none }
def RouteOnWrongFalsely : Prop := routeOnRow.holds Try.pinned (OpenSpec.ofChange routeOnWrong)

/-- 'clapperlaw13.RouteBy': WHATEVER THE INPUT: true; the input reads as it did. -/
def routeBySpec : ChangeSpec := { name := "routeBy", fn := fun _ => fun
  | [d1, d2, d3, d4, d5, d6] => { results := [.lit (.bool true)], args := [d1, d2, d3, d4, d5, d6] }
  | _ => none }
def routeByRow : OpenClaim := { program := "ytabpkmfgmjnipaa", sum := "1f37cb213e2f7eaf88c802c70dff5428cc835dfd1a0a8386163d8d1466644220", func := "clapper/clapperlaw13.RouteBy", spec := "routeBy", unfollowed := true, recurses := true, apart := false }
def RouteBySaid : Prop := routeByRow.holds Try.pinned (OpenSpec.ofChange routeBySpec)

/-- ITS FALSE NEIGHBOUR: 'it returns false'. Refute it at one input. -/
def routeByWrong : ChangeSpec := { name := "routeBy", fn := fun _ => fun
  | [d1, d2, d3, d4, d5, d6] => { results := [.lit (.bool false)], args := [d1, d2, d3, d4, d5, d6] }
  | _ => none }
def RouteByWrongFalsely : Prop := routeByRow.holds Try.pinned (OpenSpec.ofChange routeByWrong)

/- THE SECOND FORM. 'bulk': how many values and letters a reading holds, each counted each time it is reached (what is shared counts as often as it is met; a slice's spare places count too). A statement '..UptoSaid' is the law's where the arguments, and the package variables that the reading takes, are together of bulk at most 1048576: NARROWER than '..Said'. Prove '..Said' where nothing that the law and all that it calls make is longer than what came in: it says more and counts as full. Else prove '..UptoSaid'. A law counts once. -/
mutual
def uptoBulk {H : Type} : DataW H → Nat
  | .lit (.string bytes) => bytes.length + 1
  | .lit _ => 1
  | .nil => 1
  | .ptr d => uptoBulk d + 1
  | .slice elems spare => uptoBulkAll elems + uptoBulkAll spare + 1
  | .agg parts => uptoBulkAll parts + 1
  | .iface _ d => uptoBulk d + 1
  | .map entries => uptoBulkEntries entries + 1
  | .held _ => 1
def uptoBulkAll {H : Type} : List (DataW H) → Nat
  | [] => 0
  | d :: r => uptoBulk d + uptoBulkAll r
def uptoBulkEntries {H : Type} : List (Lit × DataW H) → Nat
  | [] => 0
  | x :: r => uptoBulkEntry x + uptoBulkEntries r
def uptoBulkEntry {H : Type} : Lit × DataW H → Nat
  | (.string bytes, d) => bytes.length + uptoBulk d + 1
  | (_, d) => uptoBulk d + 1
 end
def uptoSmall : (H : Type) → List (DataW H) → Bool := fun _ ds => decide (uptoBulkAll ds ≤ 1048576)
def OpenSpec.upto (s : _root_.Go.ChangeSpec) : _root_.Go.OpenSpec := { _root_.Go.OpenSpec.ofChange s with cond := some uptoSmall }

/-- 'clapperlaw20.LinkPlays', WHERE WHAT IT READS IS OF BULK AT MOST 1048576: true; the input reads as it did. -/
def linkPlaysUptoRow : OpenClaim := { program := "ytabpkmfgmjnipaa", sum := "1f37cb213e2f7eaf88c802c70dff5428cc835dfd1a0a8386163d8d1466644220", func := "clapper/clapperlaw20.LinkPlays", spec := "linkPlays", apart := false, narrowed := true }
def LinkPlaysUptoSaid : Prop := linkPlaysUptoRow.holds Try.pinned (OpenSpec.upto linkPlaysSpec)

/-- 'clapperlaw13.RouteEarliest', WHERE WHAT IT READS IS OF BULK AT MOST 1048576: true; the input reads as it did. -/
def routeEarliestUptoRow : OpenClaim := { program := "ytabpkmfgmjnipaa", sum := "1f37cb213e2f7eaf88c802c70dff5428cc835dfd1a0a8386163d8d1466644220", func := "clapper/clapperlaw13.RouteEarliest", spec := "routeEarliest", unfollowed := true, recurses := true, apart := false, narrowed := true }
def RouteEarliestUptoSaid : Prop := routeEarliestUptoRow.holds Try.pinned (OpenSpec.upto routeEarliestSpec)

/-- 'clapperlaw13.RouteLater', WHERE WHAT IT READS IS OF BULK AT MOST 1048576: true; the input reads as it did. -/
def routeLaterUptoRow : OpenClaim := { program := "ytabpkmfgmjnipaa", sum := "1f37cb213e2f7eaf88c802c70dff5428cc835dfd1a0a8386163d8d1466644220", func := "clapper/clapperlaw13.RouteLater", spec := "routeLater", unfollowed := true, recurses := true, apart := false, narrowed := true }
def RouteLaterUptoSaid : Prop := routeLaterUptoRow.holds Try.pinned (OpenSpec.upto routeLaterSpec)

/-- 'clapperlaw13.RouteOn', WHERE WHAT IT READS IS OF BULK AT MOST 1048576: true; the input reads as it did. -/
def routeOnUptoRow : OpenClaim := { program := "ytabpkmfgmjnipaa", sum := "1f37cb213e2f7eaf88c802c70dff5428cc835dfd1a0a8386163d8d1466644220", func := "clapper/clapperlaw13.RouteOn", spec := "routeOn", unfollowed := true, recurses := true, apart := false, narrowed := true }
def RouteOnUptoSaid : Prop := routeOnUptoRow.holds Try.pinned (OpenSpec.upto routeOnSpec)

/-- 'clapperlaw13.RouteBy', WHERE WHAT IT READS IS OF BULK AT MOST 1048576: true; the input reads as it did. -/
def routeByUptoRow : OpenClaim := { program := "ytabpkmfgmjnipaa", sum := "1f37cb213e2f7eaf88c802c70dff5428cc835dfd1a0a8386163d8d1466644220", func := "clapper/clapperlaw13.RouteBy", spec := "routeBy", unfollowed := true, recurses := true, apart := false, narrowed := true }
def RouteByUptoSaid : Prop := routeByUptoRow.holds Try.pinned (OpenSpec.upto routeBySpec)

end Rows
end Go.Proofs.Ytabpkmfgmjnipaa
