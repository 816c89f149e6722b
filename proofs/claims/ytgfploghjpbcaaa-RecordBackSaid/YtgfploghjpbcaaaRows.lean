/-
  No cell of these rows narrows 'for every input' (looked for: loops, veiled, ifaces, maps, wideKeys, modest, calm, conditions, laid).
  DERIVED. THE GIVEN ROWS OF THIS SEAT. 8 by the template 'for every input the law returns true; each argument reads behind the call as it read before'; 0 by the template 'total and deterministic' (their statements: YtgfploghjpbcaaaTotals.lean).
  GIVEN WITH THE SEED: the statements are not yours to turn. If you find one false, say at which input.
  Laid BY PROGRAM, IN A SANDBOX (cutbox-rows.mjs): the forced cells as the released guide's own fill.sh prints them over the translation c2833fb5affe483f… (all of the seat's roots in one cut). By AI agents, Wed Nov 11 2026. No macro, syntax, notation, axiom, sorry.
-/
import Derived.Test.YtgfploghjpbcaaaChecked
import GoSem.Claim
import GoSem.ClaimJoined
import GoSem.ClaimMapViews
import Derived.JoinedTies
import Derived.KernelRfl
namespace Go.Proofs.Ytgfploghjpbcaaa
/- THE CELL 'sum', in the pinned program and in every row, IS THE sha256 OF THE DUMP (.gsa) THAT YtgfploghjpbcaaaProg.lean LOADS. Nothing in Lean hashes anything: it is a label: what it is worth is what the hold of that sum in a sandbox is worth. -/
noncomputable def Try.pinned : Pinned := { name := "ytgfploghjpbcaaa", sum := "c2833fb5affe483fd92135cbc919904874026f8e645a46f6fada30983efb26ba", checked := Try.checked }
namespace Rows
def none {H : Type} : Left H := { results := [], args := [] }

/-- 'clapperlaw07.SignBytes': WHATEVER THE INPUT: true; the input reads as it did. -/
def signBytesSpec : ChangeSpec := { name := "signBytes", fn := fun _ => fun
  | [d1, d2] => { results := [.lit (.bool true)], args := [d1, d2] }
  | _ => none }
def signBytesRow : OpenClaim := { program := "ytgfploghjpbcaaa", sum := "c2833fb5affe483fd92135cbc919904874026f8e645a46f6fada30983efb26ba", func := "clapper/clapperlaw07.SignBytes", spec := "signBytes", inPlace := ["math/bits.Add64", "math/bits.Sub64"], unfollowed := true, recurses := true, apart := false }
def SignBytesSaid : Prop := signBytesRow.holds Try.pinned (OpenSpec.ofChange signBytesSpec)

/-- ITS FALSE NEIGHBOUR: 'it returns false'. Refute it at one input. -/
def signBytesWrong : ChangeSpec := { name := "signBytes", fn := fun _ => fun
  | [d1, d2] => { results := [.lit (.bool false)], args := [d1, d2] }
  | _ => none }
def SignBytesWrongFalsely : Prop := signBytesRow.holds Try.pinned (OpenSpec.ofChange signBytesWrong)

/-- 'clapperlaw07.SignTurns': WHATEVER THE INPUT: true; the input reads as it did. -/
def signTurnsSpec : ChangeSpec := { name := "signTurns", fn := fun _ => fun
  | [d1, d2, d3] => { results := [.lit (.bool true)], args := [d1, d2, d3] }
  | _ => none }
def signTurnsRow : OpenClaim := { program := "ytgfploghjpbcaaa", sum := "c2833fb5affe483fd92135cbc919904874026f8e645a46f6fada30983efb26ba", func := "clapper/clapperlaw07.SignTurns", spec := "signTurns", inPlace := ["math/bits.Add64", "math/bits.Sub64"], unfollowed := true, recurses := true, apart := false }
def SignTurnsSaid : Prop := signTurnsRow.holds Try.pinned (OpenSpec.ofChange signTurnsSpec)

/-- ITS FALSE NEIGHBOUR: 'it returns false'. Refute it at one input. -/
def signTurnsWrong : ChangeSpec := { name := "signTurns", fn := fun _ => fun
  | [d1, d2, d3] => { results := [.lit (.bool false)], args := [d1, d2, d3] }
  | _ => none }
def SignTurnsWrongFalsely : Prop := signTurnsRow.holds Try.pinned (OpenSpec.ofChange signTurnsWrong)

/-- 'clapperlaw07.SignHolds': WHATEVER THE INPUT: true; the input reads as it did. -/
def signHoldsSpec : ChangeSpec := { name := "signHolds", fn := fun _ => fun
  | [d1, d2] => { results := [.lit (.bool true)], args := [d1, d2] }
  | _ => none }
def signHoldsRow : OpenClaim := { program := "ytgfploghjpbcaaa", sum := "c2833fb5affe483fd92135cbc919904874026f8e645a46f6fada30983efb26ba", func := "clapper/clapperlaw07.SignHolds", spec := "signHolds", inPlace := ["math/bits.Add64", "math/bits.Sub64"], unfollowed := true, recurses := true, apart := false }
def SignHoldsSaid : Prop := signHoldsRow.holds Try.pinned (OpenSpec.ofChange signHoldsSpec)

/-- ITS FALSE NEIGHBOUR: 'it returns false'. Refute it at one input. -/
def signHoldsWrong : ChangeSpec := { name := "signHolds", fn := fun _ => fun
  | [d1, d2] => { results := [.lit (.bool false)], args := [d1, d2] }
  | _ => none }
def SignHoldsWrongFalsely : Prop := signHoldsRow.holds Try.pinned (OpenSpec.ofChange signHoldsWrong)

/-- 'clapperlaw17.RecordLinks': WHATEVER THE INPUT: true; the input reads as it did. -/
def recordLinksSpec : ChangeSpec := { name := "recordLinks", fn := fun _ => fun
  | [d1, d2, d3, d4] => { results := [.lit (.bool true)], args := [d1, d2, d3, d4] }
  | _ => none }
def recordLinksRow : OpenClaim := { program := "ytgfploghjpbcaaa", sum := "c2833fb5affe483fd92135cbc919904874026f8e645a46f6fada30983efb26ba", func := "clapper/clapperlaw17.RecordLinks", spec := "recordLinks", inPlace := ["math/bits.Add64", "math/bits.Sub64"], unfollowed := true, recurses := true, apart := false }
def RecordLinksSaid : Prop := recordLinksRow.holds Try.pinned (OpenSpec.ofChange recordLinksSpec)

/-- ITS FALSE NEIGHBOUR: 'it returns false'. Refute it at one input. -/
def recordLinksWrong : ChangeSpec := { name := "recordLinks", fn := fun _ => fun
  | [d1, d2, d3, d4] => { results := [.lit (.bool false)], args := [d1, d2, d3, d4] }
  | _ => none }
def RecordLinksWrongFalsely : Prop := recordLinksRow.holds Try.pinned (OpenSpec.ofChange recordLinksWrong)

/-- 'clapperlaw10.KeysFinds': WHATEVER THE INPUT: true; the input reads as it did. -/
def keysFindsSpec : ChangeSpec := { name := "keysFinds", fn := fun _ => fun
  | [d1, d2, d3] => { results := [.lit (.bool true)], args := [d1, d2, d3] }
  | _ => none }
def keysFindsRow : OpenClaim := { program := "ytgfploghjpbcaaa", sum := "c2833fb5affe483fd92135cbc919904874026f8e645a46f6fada30983efb26ba", func := "clapper/clapperlaw10.KeysFinds", spec := "keysFinds", inPlace := ["math/bits.Add64", "math/bits.Sub64"], unfollowed := true, recurses := true, apart := false }
def KeysFindsSaid : Prop := keysFindsRow.holds Try.pinned (OpenSpec.ofChange keysFindsSpec)

/-- ITS FALSE NEIGHBOUR: 'it returns false'. Refute it at one input. -/
def keysFindsWrong : ChangeSpec := { name := "keysFinds", fn := fun _ => fun
  | [d1, d2, d3] => { results := [.lit (.bool false)], args := [d1, d2, d3] }
  | _ => none }
def KeysFindsWrongFalsely : Prop := keysFindsRow.holds Try.pinned (OpenSpec.ofChange keysFindsWrong)

/-- 'clapperlaw09.TicketBack': WHATEVER THE INPUT: true; the input reads as it did. -/
def ticketBackSpec : ChangeSpec := { name := "ticketBack", fn := fun _ => fun
  | [d1, d2, d3] => { results := [.lit (.bool true)], args := [d1, d2, d3] }
  | _ => none }
def ticketBackRow : OpenClaim := { program := "ytgfploghjpbcaaa", sum := "c2833fb5affe483fd92135cbc919904874026f8e645a46f6fada30983efb26ba", func := "clapper/clapperlaw09.TicketBack", spec := "ticketBack", inPlace := ["math/bits.Add64", "math/bits.Sub64"], unfollowed := true, recurses := true, apart := false }
def TicketBackSaid : Prop := ticketBackRow.holds Try.pinned (OpenSpec.ofChange ticketBackSpec)

/-- ITS FALSE NEIGHBOUR: 'it returns false'. Refute it at one input. -/
def ticketBackWrong : ChangeSpec := { name := "ticketBack", fn := fun _ => fun
  | [d1, d2, d3] => { results := [.lit (.bool false)], args := [d1, d2, d3] }
  | _ => none }
def TicketBackWrongFalsely : Prop := ticketBackRow.holds Try.pinned (OpenSpec.ofChange ticketBackWrong)

/-- 'clapperlaw14.FareValid': WHATEVER THE INPUT: true; the input reads as it did. -/
def fareValidSpec : ChangeSpec := { name := "fareValid", fn := fun _ => fun
  | [d1, d2, d3, d4, d5, d6, d7] => { results := [.lit (.bool true)], args := [d1, d2, d3, d4, d5, d6, d7] }
  | _ => none }
def fareValidRow : OpenClaim := { program := "ytgfploghjpbcaaa", sum := "c2833fb5affe483fd92135cbc919904874026f8e645a46f6fada30983efb26ba", func := "clapper/clapperlaw14.FareValid", spec := "fareValid", inPlace := ["math/bits.Add64", "math/bits.Sub64"], unfollowed := true, recurses := true, apart := false }
def FareValidSaid : Prop := fareValidRow.holds Try.pinned (OpenSpec.ofChange fareValidSpec)

/-- ITS FALSE NEIGHBOUR: 'it returns false'. Refute it at one input. -/
def fareValidWrong : ChangeSpec := { name := "fareValid", fn := fun _ => fun
  | [d1, d2, d3, d4, d5, d6, d7] => { results := [.lit (.bool false)], args := [d1, d2, d3, d4, d5, d6, d7] }
  | _ => none }
def FareValidWrongFalsely : Prop := fareValidRow.holds Try.pinned (OpenSpec.ofChange fareValidWrong)

/-- 'clapperlaw17.RecordBack': WHATEVER THE INPUT: true; the input reads as it did. -/
def recordBackSpec : ChangeSpec := { name := "recordBack", fn := fun _ => fun
  | [d1, d2, d3] => { results := [.lit (.bool true)], args := [d1, d2, d3] }
  | _ => none }
def recordBackRow : OpenClaim := { program := "ytgfploghjpbcaaa", sum := "c2833fb5affe483fd92135cbc919904874026f8e645a46f6fada30983efb26ba", func := "clapper/clapperlaw17.RecordBack", spec := "recordBack", inPlace := ["math/bits.Add64", "math/bits.Sub64"], unfollowed := true, recurses := true, apart := false }
def RecordBackSaid : Prop := recordBackRow.holds Try.pinned (OpenSpec.ofChange recordBackSpec)

/-- ITS FALSE NEIGHBOUR: 'it returns false'. Refute it at one input. -/
def recordBackWrong : ChangeSpec := { name := "recordBack", fn := fun _ => fun
  | [d1, d2, d3] => { results := [.lit (.bool false)], args := [d1, d2, d3] }
  | _ => none }
def RecordBackWrongFalsely : Prop := recordBackRow.holds Try.pinned (OpenSpec.ofChange recordBackWrong)

/- THE SECOND FORM. 'bulk': how many values and letters a reading holds, each counted each time it is reached (what is shared counts as often as it is met; a slice's spare places count too). A statement '..UptoSaid' is the law's where the arguments, and the package variables that the reading takes, are together of bulk at most 1048576: NARROWER than '..Said'. Prove '..Said' where nothing that the law and all that it calls make is longer than what came in: it says more and counts as full. Else prove '..UptoSaid'. A law counts once. -/
mutual
def uptoBulk {H : Type} : DataW H → Nat
  | .lit (.string bytes) => bytes.length + 1
  | .lit _ => 1
  | .nil => 1
  | .ptr d => uptoBulk d + 1
  | .slice elems spare => uptoBulkAll elems + uptoBulkAll spare + 1
  | .agg parts => uptoBulkAll parts + 1
  | .iface _ d => uptoBulk d + 1
  | .map entries => uptoBulkEntries entries + 1
  | .held _ => 1
def uptoBulkAll {H : Type} : List (DataW H) → Nat
  | [] => 0
  | d :: r => uptoBulk d + uptoBulkAll r
def uptoBulkEntries {H : Type} : List (Lit × DataW H) → Nat
  | [] => 0
  | x :: r => uptoBulkEntry x + uptoBulkEntries r
def uptoBulkEntry {H : Type} : Lit × DataW H → Nat
  | (.string bytes, d) => bytes.length + uptoBulk d + 1
  | (_, d) => uptoBulk d + 1
 end
def uptoSmall : (H : Type) → List (DataW H) → Bool := fun _ ds => decide (uptoBulkAll ds ≤ 1048576)
def OpenSpec.upto (s : _root_.Go.ChangeSpec) : _root_.Go.OpenSpec := { _root_.Go.OpenSpec.ofChange s with cond := some uptoSmall }

/-- 'clapperlaw07.SignBytes', WHERE WHAT IT READS IS OF BULK AT MOST 1048576: true; the input reads as it did. -/
def signBytesUptoRow : OpenClaim := { program := "ytgfploghjpbcaaa", sum := "c2833fb5affe483fd92135cbc919904874026f8e645a46f6fada30983efb26ba", func := "clapper/clapperlaw07.SignBytes", spec := "signBytes", inPlace := ["math/bits.Add64", "math/bits.Sub64"], unfollowed := true, recurses := true, apart := false, narrowed := true }
def SignBytesUptoSaid : Prop := signBytesUptoRow.holds Try.pinned (OpenSpec.upto signBytesSpec)

/-- 'clapperlaw07.SignTurns', WHERE WHAT IT READS IS OF BULK AT MOST 1048576: true; the input reads as it did. -/
def signTurnsUptoRow : OpenClaim := { program := "ytgfploghjpbcaaa", sum := "c2833fb5affe483fd92135cbc919904874026f8e645a46f6fada30983efb26ba", func := "clapper/clapperlaw07.SignTurns", spec := "signTurns", inPlace := ["math/bits.Add64", "math/bits.Sub64"], unfollowed := true, recurses := true, apart := false, narrowed := true }
def SignTurnsUptoSaid : Prop := signTurnsUptoRow.holds Try.pinned (OpenSpec.upto signTurnsSpec)

/-- 'clapperlaw07.SignHolds', WHERE WHAT IT READS IS OF BULK AT MOST 1048576: true; the input reads as it did. -/
def signHoldsUptoRow : OpenClaim := { program := "ytgfploghjpbcaaa", sum := "c2833fb5affe483fd92135cbc919904874026f8e645a46f6fada30983efb26ba", func := "clapper/clapperlaw07.SignHolds", spec := "signHolds", inPlace := ["math/bits.Add64", "math/bits.Sub64"], unfollowed := true, recurses := true, apart := false, narrowed := true }
def SignHoldsUptoSaid : Prop := signHoldsUptoRow.holds Try.pinned (OpenSpec.upto signHoldsSpec)

/-- 'clapperlaw17.RecordLinks', WHERE WHAT IT READS IS OF BULK AT MOST 1048576: true; the input reads as it did. -/
def recordLinksUptoRow : OpenClaim := { program := "ytgfploghjpbcaaa", sum := "c2833fb5affe483fd92135cbc919904874026f8e645a46f6fada30983efb26ba", func := "clapper/clapperlaw17.RecordLinks", spec := "recordLinks", inPlace := ["math/bits.Add64", "math/bits.Sub64"], unfollowed := true, recurses := true, apart := false, narrowed := true }
def RecordLinksUptoSaid : Prop := recordLinksUptoRow.holds Try.pinned (OpenSpec.upto recordLinksSpec)

/-- 'clapperlaw10.KeysFinds', WHERE WHAT IT READS IS OF BULK AT MOST 1048576: true; the input reads as it did. -/
def keysFindsUptoRow : OpenClaim := { program := "ytgfploghjpbcaaa", sum := "c2833fb5affe483fd92135cbc919904874026f8e645a46f6fada30983efb26ba", func := "clapper/clapperlaw10.KeysFinds", spec := "keysFinds", inPlace := ["math/bits.Add64", "math/bits.Sub64"], unfollowed := true, recurses := true, apart := false, narrowed := true }
def KeysFindsUptoSaid : Prop := keysFindsUptoRow.holds Try.pinned (OpenSpec.upto keysFindsSpec)

/-- 'clapperlaw09.TicketBack', WHERE WHAT IT READS IS OF BULK AT MOST 1048576: true; the input reads as it did. -/
def ticketBackUptoRow : OpenClaim := { program := "ytgfploghjpbcaaa", sum := "c2833fb5affe483fd92135cbc919904874026f8e645a46f6fada30983efb26ba", func := "clapper/clapperlaw09.TicketBack", spec := "ticketBack", inPlace := ["math/bits.Add64", "math/bits.Sub64"], unfollowed := true, recurses := true, apart := false, narrowed := true }
def TicketBackUptoSaid : Prop := ticketBackUptoRow.holds Try.pinned (OpenSpec.upto ticketBackSpec)

/-- 'clapperlaw14.FareValid', WHERE WHAT IT READS IS OF BULK AT MOST 1048576: true; the input reads as it did. -/
def fareValidUptoRow : OpenClaim := { program := "ytgfploghjpbcaaa", sum := "c2833fb5affe483fd92135cbc919904874026f8e645a46f6fada30983efb26ba", func := "clapper/clapperlaw14.FareValid", spec := "fareValid", inPlace := ["math/bits.Add64", "math/bits.Sub64"], unfollowed := true, recurses := true, apart := false, narrowed := true }
def FareValidUptoSaid : Prop := fareValidUptoRow.holds Try.pinned (OpenSpec.upto fareValidSpec)

/-- 'clapperlaw17.RecordBack', WHERE WHAT IT READS IS OF BULK AT MOST 1048576: true; the input reads as it did. -/
def recordBackUptoRow : OpenClaim := { program := "ytgfploghjpbcaaa", sum := "c2833fb5affe483fd92135cbc919904874026f8e645a46f6fada30983efb26ba", func := "clapper/clapperlaw17.RecordBack", spec := "recordBack", inPlace := ["math/bits.Add64", "math/bits.Sub64"], unfollowed := true, recurses := true, apart := false, narrowed := true }
def RecordBackUptoSaid : Prop := recordBackUptoRow.holds Try.pinned (OpenSpec.upto recordBackSpec)

end Rows
end Go.Proofs.Ytgfploghjpbcaaa
