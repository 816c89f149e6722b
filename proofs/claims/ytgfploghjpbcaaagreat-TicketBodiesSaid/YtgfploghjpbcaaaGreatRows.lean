/-
  No cell of these rows narrows 'for every input' (looked for: loops, veiled, ifaces, maps, wideKeys, modest, calm, conditions, laid).
  DERIVED. THE GIVEN ROWS OF THIS SEAT. 10 by the template 'for every input the law returns true; each argument reads behind the call as it read before'; 0 by the template 'total and deterministic' (their statements: YtgfploghjpbcaaaGreatTotals.lean).
  GIVEN WITH THE SEED: the statements are not yours to turn. If you find one false, say at which input.
  Laid BY PROGRAM, IN A SANDBOX (cutbox-rows.mjs): the forced cells as the released guide's own fill.sh prints them over the translation 6753071595bd5557… (all of the seat's roots in one cut). By AI agents, Wed Nov 11 2026. No macro, syntax, notation, axiom, sorry.
-/
import Derived.Test.YtgfploghjpbcaaaGreatChecked
import GoSem.Claim
import GoSem.ClaimJoined
import GoSem.ClaimMapViews
import Derived.JoinedTies
import Derived.KernelRfl
namespace Go.Proofs.YtgfploghjpbcaaaGreat
/- THE CELL 'sum', in the pinned program and in every row, IS THE sha256 OF THE DUMP (.gsa) THAT YtgfploghjpbcaaaGreatProg.lean LOADS. Nothing in Lean hashes anything: it is a label: what it is worth is what the hold of that sum in a sandbox is worth. -/
noncomputable def Tryz.pinned : Pinned := { name := "ytgfploghjpbcaaagreat", sum := "6753071595bd5557fb4f05b3ba9930c7f71be03b7ee78f40493a364b88f55c31", checked := Tryz.checked }
namespace Rows
def none {H : Type} : Left H := { results := [], args := [] }

/-- 'clapperlaw07.SignSigns': WHATEVER THE INPUT: true; the input reads as it did. -/
def signSignsSpec : ChangeSpec := { name := "signSigns", fn := fun _ => fun
  | [d1, d2] => { results := [.lit (.bool true)], args := [d1, d2] }
  | _ => none }
def signSignsRow : OpenClaim := { program := "ytgfploghjpbcaaagreat", sum := "6753071595bd5557fb4f05b3ba9930c7f71be03b7ee78f40493a364b88f55c31", func := "clapper/clapperlaw07.SignSigns", spec := "signSigns", inPlace := ["math/bits.Add64", "math/bits.Sub64"], unfollowed := true, recurses := true, apart := false }
def SignSignsSaid : Prop := signSignsRow.holds Tryz.pinned (OpenSpec.ofChange signSignsSpec)

/-- ITS FALSE NEIGHBOUR: 'it returns false'. Refute it at one input. -/
def signSignsWrong : ChangeSpec := { name := "signSigns", fn := fun _ => fun
  | [d1, d2] => { results := [.lit (.bool false)], args := [d1, d2] }
  | _ => none }
def SignSignsWrongFalsely : Prop := signSignsRow.holds Tryz.pinned (OpenSpec.ofChange signSignsWrong)

/-- 'clapperlaw07.SignVerifies': WHATEVER THE INPUT: true; the input reads as it did. -/
def signVerifiesSpec : ChangeSpec := { name := "signVerifies", fn := fun _ => fun
  | [d1, d2, d3] => { results := [.lit (.bool true)], args := [d1, d2, d3] }
  | _ => none }
def signVerifiesRow : OpenClaim := { program := "ytgfploghjpbcaaagreat", sum := "6753071595bd5557fb4f05b3ba9930c7f71be03b7ee78f40493a364b88f55c31", func := "clapper/clapperlaw07.SignVerifies", spec := "signVerifies", inPlace := ["math/bits.Add64", "math/bits.Sub64"], unfollowed := true, recurses := true, apart := false }
def SignVerifiesSaid : Prop := signVerifiesRow.holds Tryz.pinned (OpenSpec.ofChange signVerifiesSpec)

/-- ITS FALSE NEIGHBOUR: 'it returns false'. Refute it at one input. -/
def signVerifiesWrong : ChangeSpec := { name := "signVerifies", fn := fun _ => fun
  | [d1, d2, d3] => { results := [.lit (.bool false)], args := [d1, d2, d3] }
  | _ => none }
def SignVerifiesWrongFalsely : Prop := signVerifiesRow.holds Tryz.pinned (OpenSpec.ofChange signVerifiesWrong)

/-- 'clapperlaw09.TicketOpens': WHATEVER THE INPUT: true; the input reads as it did. -/
def ticketOpensSpec : ChangeSpec := { name := "ticketOpens", fn := fun _ => fun
  | [d1, d2] => { results := [.lit (.bool true)], args := [d1, d2] }
  | _ => none }
def ticketOpensRow : OpenClaim := { program := "ytgfploghjpbcaaagreat", sum := "6753071595bd5557fb4f05b3ba9930c7f71be03b7ee78f40493a364b88f55c31", func := "clapper/clapperlaw09.TicketOpens", spec := "ticketOpens", inPlace := ["math/bits.Add64", "math/bits.Sub64"], unfollowed := true, recurses := true, apart := false }
def TicketOpensSaid : Prop := ticketOpensRow.holds Tryz.pinned (OpenSpec.ofChange ticketOpensSpec)

/-- ITS FALSE NEIGHBOUR: 'it returns false'. Refute it at one input. -/
def ticketOpensWrong : ChangeSpec := { name := "ticketOpens", fn := fun _ => fun
  | [d1, d2] => { results := [.lit (.bool false)], args := [d1, d2] }
  | _ => none }
def TicketOpensWrongFalsely : Prop := ticketOpensRow.holds Tryz.pinned (OpenSpec.ofChange ticketOpensWrong)

/-- 'clapperlaw17.RecordChains': WHATEVER THE INPUT: true; the input reads as it did. -/
def recordChainsSpec : ChangeSpec := { name := "recordChains", fn := fun _ => fun
  | [d1, d2, d3] => { results := [.lit (.bool true)], args := [d1, d2, d3] }
  | _ => none }
def recordChainsRow : OpenClaim := { program := "ytgfploghjpbcaaagreat", sum := "6753071595bd5557fb4f05b3ba9930c7f71be03b7ee78f40493a364b88f55c31", func := "clapper/clapperlaw17.RecordChains", spec := "recordChains", inPlace := ["math/bits.Add64", "math/bits.Sub64"], unfollowed := true, recurses := true, apart := false }
def RecordChainsSaid : Prop := recordChainsRow.holds Tryz.pinned (OpenSpec.ofChange recordChainsSpec)

/-- ITS FALSE NEIGHBOUR: 'it returns false'. Refute it at one input. -/
def recordChainsWrong : ChangeSpec := { name := "recordChains", fn := fun _ => fun
  | [d1, d2, d3] => { results := [.lit (.bool false)], args := [d1, d2, d3] }
  | _ => none }
def RecordChainsWrongFalsely : Prop := recordChainsRow.holds Tryz.pinned (OpenSpec.ofChange recordChainsWrong)

/-- 'clapperlaw10.KeysChecks': WHATEVER THE INPUT: true; the input reads as it did. -/
def keysChecksSpec : ChangeSpec := { name := "keysChecks", fn := fun _ => fun
  | [d1, d2, d3] => { results := [.lit (.bool true)], args := [d1, d2, d3] }
  | _ => none }
def keysChecksRow : OpenClaim := { program := "ytgfploghjpbcaaagreat", sum := "6753071595bd5557fb4f05b3ba9930c7f71be03b7ee78f40493a364b88f55c31", func := "clapper/clapperlaw10.KeysChecks", spec := "keysChecks", inPlace := ["math/bits.Add64", "math/bits.Sub64"], unfollowed := true, recurses := true, apart := false }
def KeysChecksSaid : Prop := keysChecksRow.holds Tryz.pinned (OpenSpec.ofChange keysChecksSpec)

/-- ITS FALSE NEIGHBOUR: 'it returns false'. Refute it at one input. -/
def keysChecksWrong : ChangeSpec := { name := "keysChecks", fn := fun _ => fun
  | [d1, d2, d3] => { results := [.lit (.bool false)], args := [d1, d2, d3] }
  | _ => none }
def KeysChecksWrongFalsely : Prop := keysChecksRow.holds Tryz.pinned (OpenSpec.ofChange keysChecksWrong)

/-- 'clapperlaw17.RecordOpens': WHATEVER THE INPUT: true; the input reads as it did. -/
def recordOpensSpec : ChangeSpec := { name := "recordOpens", fn := fun _ => fun
  | [d1, d2] => { results := [.lit (.bool true)], args := [d1, d2] }
  | _ => none }
def recordOpensRow : OpenClaim := { program := "ytgfploghjpbcaaagreat", sum := "6753071595bd5557fb4f05b3ba9930c7f71be03b7ee78f40493a364b88f55c31", func := "clapper/clapperlaw17.RecordOpens", spec := "recordOpens", inPlace := ["math/bits.Add64", "math/bits.Sub64"], unfollowed := true, recurses := true, apart := false }
def RecordOpensSaid : Prop := recordOpensRow.holds Tryz.pinned (OpenSpec.ofChange recordOpensSpec)

/-- ITS FALSE NEIGHBOUR: 'it returns false'. Refute it at one input. -/
def recordOpensWrong : ChangeSpec := { name := "recordOpens", fn := fun _ => fun
  | [d1, d2] => { results := [.lit (.bool false)], args := [d1, d2] }
  | _ => none }
def RecordOpensWrongFalsely : Prop := recordOpensRow.holds Tryz.pinned (OpenSpec.ofChange recordOpensWrong)

/-- 'clapperlaw09.TicketBodies': WHATEVER THE INPUT: true; the input reads as it did. -/
def ticketBodiesSpec : ChangeSpec := { name := "ticketBodies", fn := fun _ => fun
  | [d1, d2] => { results := [.lit (.bool true)], args := [d1, d2] }
  | _ => none }
def ticketBodiesRow : OpenClaim := { program := "ytgfploghjpbcaaagreat", sum := "6753071595bd5557fb4f05b3ba9930c7f71be03b7ee78f40493a364b88f55c31", func := "clapper/clapperlaw09.TicketBodies", spec := "ticketBodies", inPlace := ["math/bits.Add64", "math/bits.Sub64"], unfollowed := true, recurses := true, apart := false }
def TicketBodiesSaid : Prop := ticketBodiesRow.holds Tryz.pinned (OpenSpec.ofChange ticketBodiesSpec)

/-- ITS FALSE NEIGHBOUR: 'it returns false'. Refute it at one input. -/
def ticketBodiesWrong : ChangeSpec := { name := "ticketBodies", fn := fun _ => fun
  | [d1, d2] => { results := [.lit (.bool false)], args := [d1, d2] }
  | _ => none }
def TicketBodiesWrongFalsely : Prop := ticketBodiesRow.holds Tryz.pinned (OpenSpec.ofChange ticketBodiesWrong)

/-- 'clapperlaw14.FareCovers': WHATEVER THE INPUT: true; the input reads as it did. -/
def fareCoversSpec : ChangeSpec := { name := "fareCovers", fn := fun _ => fun
  | [d1, d2, d3, d4] => { results := [.lit (.bool true)], args := [d1, d2, d3, d4] }
  | _ => none }
def fareCoversRow : OpenClaim := { program := "ytgfploghjpbcaaagreat", sum := "6753071595bd5557fb4f05b3ba9930c7f71be03b7ee78f40493a364b88f55c31", func := "clapper/clapperlaw14.FareCovers", spec := "fareCovers", inPlace := ["math/bits.Add64", "math/bits.Sub64"], unfollowed := true, recurses := true, apart := false }
def FareCoversSaid : Prop := fareCoversRow.holds Tryz.pinned (OpenSpec.ofChange fareCoversSpec)

/-- ITS FALSE NEIGHBOUR: 'it returns false'. Refute it at one input. -/
def fareCoversWrong : ChangeSpec := { name := "fareCovers", fn := fun _ => fun
  | [d1, d2, d3, d4] => { results := [.lit (.bool false)], args := [d1, d2, d3, d4] }
  | _ => none }
def FareCoversWrongFalsely : Prop := fareCoversRow.holds Tryz.pinned (OpenSpec.ofChange fareCoversWrong)

/-- 'clapperlaw14.FareVerdicts': WHATEVER THE INPUT: true; the input reads as it did. -/
def fareVerdictsSpec : ChangeSpec := { name := "fareVerdicts", fn := fun _ => fun
  | [d1, d2, d3, d4, d5, d6] => { results := [.lit (.bool true)], args := [d1, d2, d3, d4, d5, d6] }
  | _ => none }
def fareVerdictsRow : OpenClaim := { program := "ytgfploghjpbcaaagreat", sum := "6753071595bd5557fb4f05b3ba9930c7f71be03b7ee78f40493a364b88f55c31", func := "clapper/clapperlaw14.FareVerdicts", spec := "fareVerdicts", inPlace := ["math/bits.Add64", "math/bits.Sub64"], unfollowed := true, recurses := true, apart := false }
def FareVerdictsSaid : Prop := fareVerdictsRow.holds Tryz.pinned (OpenSpec.ofChange fareVerdictsSpec)

/-- ITS FALSE NEIGHBOUR: 'it returns false'. Refute it at one input. -/
def fareVerdictsWrong : ChangeSpec := { name := "fareVerdicts", fn := fun _ => fun
  | [d1, d2, d3, d4, d5, d6] => { results := [.lit (.bool false)], args := [d1, d2, d3, d4, d5, d6] }
  | _ => none }
def FareVerdictsWrongFalsely : Prop := fareVerdictsRow.holds Tryz.pinned (OpenSpec.ofChange fareVerdictsWrong)

/-- 'clapperlaw17.RecordBodies': WHATEVER THE INPUT: true; the input reads as it did. -/
def recordBodiesSpec : ChangeSpec := { name := "recordBodies", fn := fun _ => fun
  | [d1, d2] => { results := [.lit (.bool true)], args := [d1, d2] }
  | _ => none }
def recordBodiesRow : OpenClaim := { program := "ytgfploghjpbcaaagreat", sum := "6753071595bd5557fb4f05b3ba9930c7f71be03b7ee78f40493a364b88f55c31", func := "clapper/clapperlaw17.RecordBodies", spec := "recordBodies", inPlace := ["math/bits.Add64", "math/bits.Sub64"], unfollowed := true, recurses := true, apart := false }
def RecordBodiesSaid : Prop := recordBodiesRow.holds Tryz.pinned (OpenSpec.ofChange recordBodiesSpec)

/-- ITS FALSE NEIGHBOUR: 'it returns false'. Refute it at one input. -/
def recordBodiesWrong : ChangeSpec := { name := "recordBodies", fn := fun _ => fun
  | [d1, d2] => { results := [.lit (.bool false)], args := [d1, d2] }
  | _ => none }
def RecordBodiesWrongFalsely : Prop := recordBodiesRow.holds Tryz.pinned (OpenSpec.ofChange recordBodiesWrong)

/- THE SECOND FORM. 'bulk': how many values and letters a reading holds, each counted each time it is reached (what is shared counts as often as it is met; a slice's spare places count too). A statement '..UptoSaid' is the law's where the arguments, and the package variables that the reading takes, are together of bulk at most 1048576: NARROWER than '..Said'. Prove '..Said' where nothing that the law and all that it calls make is longer than what came in: it says more and counts as full. Else prove '..UptoSaid'. A law counts once. -/
mutual
def uptoBulk {H : Type} : DataW H → Nat
  | .lit (.string bytes) => bytes.length + 1
  | .lit _ => 1
  | .nil => 1
  | .ptr d => uptoBulk d + 1
  | .slice elems spare => uptoBulkAll elems + uptoBulkAll spare + 1
  | .agg parts => uptoBulkAll parts + 1
  | .iface _ d => uptoBulk d + 1
  | .map entries => uptoBulkEntries entries + 1
  | .held _ => 1
def uptoBulkAll {H : Type} : List (DataW H) → Nat
  | [] => 0
  | d :: r => uptoBulk d + uptoBulkAll r
def uptoBulkEntries {H : Type} : List (Lit × DataW H) → Nat
  | [] => 0
  | x :: r => uptoBulkEntry x + uptoBulkEntries r
def uptoBulkEntry {H : Type} : Lit × DataW H → Nat
  | (.string bytes, d) => bytes.length + uptoBulk d + 1
  | (_, d) => uptoBulk d + 1
 end
def uptoSmall : (H : Type) → List (DataW H) → Bool := fun _ ds => decide (uptoBulkAll ds ≤ 1048576)
def OpenSpec.upto (s : _root_.Go.ChangeSpec) : _root_.Go.OpenSpec := { _root_.Go.OpenSpec.ofChange s with cond := some uptoSmall }

/-- 'clapperlaw07.SignSigns', WHERE WHAT IT READS IS OF BULK AT MOST 1048576: true; the input reads as it did. -/
def signSignsUptoRow : OpenClaim := { program := "ytgfploghjpbcaaagreat", sum := "6753071595bd5557fb4f05b3ba9930c7f71be03b7ee78f40493a364b88f55c31", func := "clapper/clapperlaw07.SignSigns", spec := "signSigns", inPlace := ["math/bits.Add64", "math/bits.Sub64"], unfollowed := true, recurses := true, apart := false, narrowed := true }
def SignSignsUptoSaid : Prop := signSignsUptoRow.holds Tryz.pinned (OpenSpec.upto signSignsSpec)

/-- 'clapperlaw07.SignVerifies', WHERE WHAT IT READS IS OF BULK AT MOST 1048576: true; the input reads as it did. -/
def signVerifiesUptoRow : OpenClaim := { program := "ytgfploghjpbcaaagreat", sum := "6753071595bd5557fb4f05b3ba9930c7f71be03b7ee78f40493a364b88f55c31", func := "clapper/clapperlaw07.SignVerifies", spec := "signVerifies", inPlace := ["math/bits.Add64", "math/bits.Sub64"], unfollowed := true, recurses := true, apart := false, narrowed := true }
def SignVerifiesUptoSaid : Prop := signVerifiesUptoRow.holds Tryz.pinned (OpenSpec.upto signVerifiesSpec)

/-- 'clapperlaw09.TicketOpens', WHERE WHAT IT READS IS OF BULK AT MOST 1048576: true; the input reads as it did. -/
def ticketOpensUptoRow : OpenClaim := { program := "ytgfploghjpbcaaagreat", sum := "6753071595bd5557fb4f05b3ba9930c7f71be03b7ee78f40493a364b88f55c31", func := "clapper/clapperlaw09.TicketOpens", spec := "ticketOpens", inPlace := ["math/bits.Add64", "math/bits.Sub64"], unfollowed := true, recurses := true, apart := false, narrowed := true }
def TicketOpensUptoSaid : Prop := ticketOpensUptoRow.holds Tryz.pinned (OpenSpec.upto ticketOpensSpec)

/-- 'clapperlaw17.RecordChains', WHERE WHAT IT READS IS OF BULK AT MOST 1048576: true; the input reads as it did. -/
def recordChainsUptoRow : OpenClaim := { program := "ytgfploghjpbcaaagreat", sum := "6753071595bd5557fb4f05b3ba9930c7f71be03b7ee78f40493a364b88f55c31", func := "clapper/clapperlaw17.RecordChains", spec := "recordChains", inPlace := ["math/bits.Add64", "math/bits.Sub64"], unfollowed := true, recurses := true, apart := false, narrowed := true }
def RecordChainsUptoSaid : Prop := recordChainsUptoRow.holds Tryz.pinned (OpenSpec.upto recordChainsSpec)

/-- 'clapperlaw10.KeysChecks', WHERE WHAT IT READS IS OF BULK AT MOST 1048576: true; the input reads as it did. -/
def keysChecksUptoRow : OpenClaim := { program := "ytgfploghjpbcaaagreat", sum := "6753071595bd5557fb4f05b3ba9930c7f71be03b7ee78f40493a364b88f55c31", func := "clapper/clapperlaw10.KeysChecks", spec := "keysChecks", inPlace := ["math/bits.Add64", "math/bits.Sub64"], unfollowed := true, recurses := true, apart := false, narrowed := true }
def KeysChecksUptoSaid : Prop := keysChecksUptoRow.holds Tryz.pinned (OpenSpec.upto keysChecksSpec)

/-- 'clapperlaw17.RecordOpens', WHERE WHAT IT READS IS OF BULK AT MOST 1048576: true; the input reads as it did. -/
def recordOpensUptoRow : OpenClaim := { program := "ytgfploghjpbcaaagreat", sum := "6753071595bd5557fb4f05b3ba9930c7f71be03b7ee78f40493a364b88f55c31", func := "clapper/clapperlaw17.RecordOpens", spec := "recordOpens", inPlace := ["math/bits.Add64", "math/bits.Sub64"], unfollowed := true, recurses := true, apart := false, narrowed := true }
def RecordOpensUptoSaid : Prop := recordOpensUptoRow.holds Tryz.pinned (OpenSpec.upto recordOpensSpec)

/-- 'clapperlaw09.TicketBodies', WHERE WHAT IT READS IS OF BULK AT MOST 1048576: true; the input reads as it did. -/
def ticketBodiesUptoRow : OpenClaim := { program := "ytgfploghjpbcaaagreat", sum := "6753071595bd5557fb4f05b3ba9930c7f71be03b7ee78f40493a364b88f55c31", func := "clapper/clapperlaw09.TicketBodies", spec := "ticketBodies", inPlace := ["math/bits.Add64", "math/bits.Sub64"], unfollowed := true, recurses := true, apart := false, narrowed := true }
def TicketBodiesUptoSaid : Prop := ticketBodiesUptoRow.holds Tryz.pinned (OpenSpec.upto ticketBodiesSpec)

/-- 'clapperlaw14.FareCovers', WHERE WHAT IT READS IS OF BULK AT MOST 1048576: true; the input reads as it did. -/
def fareCoversUptoRow : OpenClaim := { program := "ytgfploghjpbcaaagreat", sum := "6753071595bd5557fb4f05b3ba9930c7f71be03b7ee78f40493a364b88f55c31", func := "clapper/clapperlaw14.FareCovers", spec := "fareCovers", inPlace := ["math/bits.Add64", "math/bits.Sub64"], unfollowed := true, recurses := true, apart := false, narrowed := true }
def FareCoversUptoSaid : Prop := fareCoversUptoRow.holds Tryz.pinned (OpenSpec.upto fareCoversSpec)

/-- 'clapperlaw14.FareVerdicts', WHERE WHAT IT READS IS OF BULK AT MOST 1048576: true; the input reads as it did. -/
def fareVerdictsUptoRow : OpenClaim := { program := "ytgfploghjpbcaaagreat", sum := "6753071595bd5557fb4f05b3ba9930c7f71be03b7ee78f40493a364b88f55c31", func := "clapper/clapperlaw14.FareVerdicts", spec := "fareVerdicts", inPlace := ["math/bits.Add64", "math/bits.Sub64"], unfollowed := true, recurses := true, apart := false, narrowed := true }
def FareVerdictsUptoSaid : Prop := fareVerdictsUptoRow.holds Tryz.pinned (OpenSpec.upto fareVerdictsSpec)

/-- 'clapperlaw17.RecordBodies', WHERE WHAT IT READS IS OF BULK AT MOST 1048576: true; the input reads as it did. -/
def recordBodiesUptoRow : OpenClaim := { program := "ytgfploghjpbcaaagreat", sum := "6753071595bd5557fb4f05b3ba9930c7f71be03b7ee78f40493a364b88f55c31", func := "clapper/clapperlaw17.RecordBodies", spec := "recordBodies", inPlace := ["math/bits.Add64", "math/bits.Sub64"], unfollowed := true, recurses := true, apart := false, narrowed := true }
def RecordBodiesUptoSaid : Prop := recordBodiesUptoRow.holds Tryz.pinned (OpenSpec.upto recordBodiesSpec)

end Rows
end Go.Proofs.YtgfploghjpbcaaaGreat
