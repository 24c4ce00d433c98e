/-
  No cell of these rows narrows 'for every input' (looked for: loops, veiled, ifaces, maps, wideKeys, modest, calm, conditions, laid).
  DERIVED. THE GIVEN ROWS OF THIS SEAT. 12 by the template 'for every input the law returns true; each argument reads behind the call as it read before'; 0 by the template 'total and deterministic' (their statements: YteeiiahmhmbepaaTotals.lean).
  GIVEN WITH THE SEED: the statements are not yours to turn. If you find one false, say at which input.
  Laid BY PROGRAM, IN A SANDBOX (cutbox-rows.mjs): the forced cells as the released guide's own fill.sh prints them over the translation b52da7b46b82623b… (all of the seat's roots in one cut). By AI agents, Wed Nov 11 2026. No macro, syntax, notation, axiom, sorry.
-/
import Derived.Test.YteeiiahmhmbepaaChecked
import GoSem.Claim
import GoSem.ClaimJoined
import GoSem.ClaimMapViews
import Derived.JoinedTies
import Derived.KernelRfl
namespace Go.Proofs.Yteeiiahmhmbepaa
/- THE CELL 'sum', in the pinned program and in every row, IS THE sha256 OF THE DUMP (.gsa) THAT YteeiiahmhmbepaaProg.lean LOADS. Nothing in Lean hashes anything: it is a label: what it is worth is what the hold of that sum in a sandbox is worth. -/
noncomputable def Try.pinned : Pinned := { name := "yteeiiahmhmbepaa", sum := "b52da7b46b82623b8cf95cb12041ead7d359981359c01b7c0da4c5cce72e3be0", checked := Try.checked }
namespace Rows
def none {H : Type} : Left H := { results := [], args := [] }

/-- 'recouplaw05.CentsParts': WHATEVER THE INPUT: true; the input reads as it did. -/
def centsPartsSpec : ChangeSpec := { name := "centsParts", fn := fun _ => fun
  | [d1, d2, d3, d4] => { results := [.lit (.bool true)], args := [d1, d2, d3, d4] }
  | _ => none }
def centsPartsRow : OpenClaim := { program := "yteeiiahmhmbepaa", sum := "b52da7b46b82623b8cf95cb12041ead7d359981359c01b7c0da4c5cce72e3be0", func := "recoup/recouplaw05.CentsParts", spec := "centsParts", named := ["math/bits.divideError", "math/bits.overflowError"], apart := false }
def CentsPartsSaid : Prop := centsPartsRow.holds Try.pinned (OpenSpec.ofChange centsPartsSpec)

/-- ITS FALSE NEIGHBOUR: 'it returns false'. Refute it at one input. -/
def centsPartsWrong : ChangeSpec := { name := "centsParts", fn := fun _ => fun
  | [d1, d2, d3, d4] => { results := [.lit (.bool false)], args := [d1, d2, d3, d4] }
  | _ => none }
def CentsPartsWrongFalsely : Prop := centsPartsRow.holds Try.pinned (OpenSpec.ofChange centsPartsWrong)

/-- 'recouplaw05.CentsSums': WHATEVER THE INPUT: true; the input reads as it did. -/
def centsSumsSpec : ChangeSpec := { name := "centsSums", fn := fun _ => fun
  | [d1, d2] => { results := [.lit (.bool true)], args := [d1, d2] }
  | _ => none }
def centsSumsRow : OpenClaim := { program := "yteeiiahmhmbepaa", sum := "b52da7b46b82623b8cf95cb12041ead7d359981359c01b7c0da4c5cce72e3be0", func := "recoup/recouplaw05.CentsSums", spec := "centsSums", named := ["math/bits.divideError", "math/bits.overflowError"], apart := false }
def CentsSumsSaid : Prop := centsSumsRow.holds Try.pinned (OpenSpec.ofChange centsSumsSpec)

/-- ITS FALSE NEIGHBOUR: 'it returns false'. Refute it at one input. -/
def centsSumsWrong : ChangeSpec := { name := "centsSums", fn := fun _ => fun
  | [d1, d2] => { results := [.lit (.bool false)], args := [d1, d2] }
  | _ => none }
def CentsSumsWrongFalsely : Prop := centsSumsRow.holds Try.pinned (OpenSpec.ofChange centsSumsWrong)

/-- 'recouplaw05.CentsTimes': WHATEVER THE INPUT: true; the input reads as it did. -/
def centsTimesSpec : ChangeSpec := { name := "centsTimes", fn := fun _ => fun
  | [d1, d2] => { results := [.lit (.bool true)], args := [d1, d2] }
  | _ => none }
def centsTimesRow : OpenClaim := { program := "yteeiiahmhmbepaa", sum := "b52da7b46b82623b8cf95cb12041ead7d359981359c01b7c0da4c5cce72e3be0", func := "recoup/recouplaw05.CentsTimes", spec := "centsTimes", named := ["math/bits.divideError", "math/bits.overflowError"], apart := false }
def CentsTimesSaid : Prop := centsTimesRow.holds Try.pinned (OpenSpec.ofChange centsTimesSpec)

/-- ITS FALSE NEIGHBOUR: 'it returns false'. Refute it at one input. -/
def centsTimesWrong : ChangeSpec := { name := "centsTimes", fn := fun _ => fun
  | [d1, d2] => { results := [.lit (.bool false)], args := [d1, d2] }
  | _ => none }
def CentsTimesWrongFalsely : Prop := centsTimesRow.holds Try.pinned (OpenSpec.ofChange centsTimesWrong)

/-- 'recouplaw05.CentsAll': WHATEVER THE INPUT: true; the input reads as it did. -/
def centsAllSpec : ChangeSpec := { name := "centsAll", fn := fun _ => fun
  | [d] => { results := [.lit (.bool true)], args := [d] }
  | _ => none }
def centsAllRow : OpenClaim := { program := "yteeiiahmhmbepaa", sum := "b52da7b46b82623b8cf95cb12041ead7d359981359c01b7c0da4c5cce72e3be0", func := "recoup/recouplaw05.CentsAll", spec := "centsAll", named := ["math/bits.divideError", "math/bits.overflowError"], apart := false }
def CentsAllSaid : Prop := centsAllRow.holds Try.pinned (OpenSpec.ofChange centsAllSpec)

/-- ITS FALSE NEIGHBOUR: 'it returns false'. Refute it at one input. -/
def centsAllWrong : ChangeSpec := { name := "centsAll", fn := fun _ => fun
  | [d] => { results := [.lit (.bool false)], args := [d] }
  | _ => none }
def CentsAllWrongFalsely : Prop := centsAllRow.holds Try.pinned (OpenSpec.ofChange centsAllWrong)

/-- 'recouplaw09.RuleMay': WHATEVER THE INPUT: true; the input reads as it did. -/
def ruleMaySpec : ChangeSpec := { name := "ruleMay", fn := fun _ => fun
  | [d1, d2, d3] => { results := [.lit (.bool true)], args := [d1, d2, d3] }
  | _ => none }
def ruleMayRow : OpenClaim := { program := "yteeiiahmhmbepaa", sum := "b52da7b46b82623b8cf95cb12041ead7d359981359c01b7c0da4c5cce72e3be0", func := "recoup/recouplaw09.RuleMay", spec := "ruleMay", unfollowed := true, recurses := true, apart := false }
def RuleMaySaid : Prop := ruleMayRow.holds Try.pinned (OpenSpec.ofChange ruleMaySpec)

/-- ITS FALSE NEIGHBOUR: 'it returns false'. Refute it at one input. -/
def ruleMayWrong : ChangeSpec := { name := "ruleMay", fn := fun _ => fun
  | [d1, d2, d3] => { results := [.lit (.bool false)], args := [d1, d2, d3] }
  | _ => none }
def RuleMayWrongFalsely : Prop := ruleMayRow.holds Try.pinned (OpenSpec.ofChange ruleMayWrong)

/-- 'recouplaw09.RuleBounds': WHATEVER THE INPUT: true; the input reads as it did. -/
def ruleBoundsSpec : ChangeSpec := { name := "ruleBounds", fn := fun _ => fun
  | [d1, d2, d3, d4, d5] => { results := [.lit (.bool true)], args := [d1, d2, d3, d4, d5] }
  | _ => none }
def ruleBoundsRow : OpenClaim := { program := "yteeiiahmhmbepaa", sum := "b52da7b46b82623b8cf95cb12041ead7d359981359c01b7c0da4c5cce72e3be0", func := "recoup/recouplaw09.RuleBounds", spec := "ruleBounds", unfollowed := true, recurses := true, named := ["math/bits.divideError", "math/bits.overflowError"], apart := false }
def RuleBoundsSaid : Prop := ruleBoundsRow.holds Try.pinned (OpenSpec.ofChange ruleBoundsSpec)

/-- ITS FALSE NEIGHBOUR: 'it returns false'. Refute it at one input. -/
def ruleBoundsWrong : ChangeSpec := { name := "ruleBounds", fn := fun _ => fun
  | [d1, d2, d3, d4, d5] => { results := [.lit (.bool false)], args := [d1, d2, d3, d4, d5] }
  | _ => none }
def RuleBoundsWrongFalsely : Prop := ruleBoundsRow.holds Try.pinned (OpenSpec.ofChange ruleBoundsWrong)

/-- 'recouplaw09.RuleWorth': WHATEVER THE INPUT: true; the input reads as it did. -/
def ruleWorthSpec : ChangeSpec := { name := "ruleWorth", fn := fun _ => fun
  | [d1, d2, d3, d4] => { results := [.lit (.bool true)], args := [d1, d2, d3, d4] }
  | _ => none }
def ruleWorthRow : OpenClaim := { program := "yteeiiahmhmbepaa", sum := "b52da7b46b82623b8cf95cb12041ead7d359981359c01b7c0da4c5cce72e3be0", func := "recoup/recouplaw09.RuleWorth", spec := "ruleWorth", unfollowed := true, recurses := true, named := ["math/bits.divideError", "math/bits.overflowError"], apart := false }
def RuleWorthSaid : Prop := ruleWorthRow.holds Try.pinned (OpenSpec.ofChange ruleWorthSpec)

/-- ITS FALSE NEIGHBOUR: 'it returns false'. Refute it at one input. -/
def ruleWorthWrong : ChangeSpec := { name := "ruleWorth", fn := fun _ => fun
  | [d1, d2, d3, d4] => { results := [.lit (.bool false)], args := [d1, d2, d3, d4] }
  | _ => none }
def RuleWorthWrongFalsely : Prop := ruleWorthRow.holds Try.pinned (OpenSpec.ofChange ruleWorthWrong)

/-- 'recouplaw09.RuleBack': WHATEVER THE INPUT: true; the input reads as it did. -/
def ruleBackSpec : ChangeSpec := { name := "ruleBack", fn := fun _ => fun
  | [d1, d2, d3, d4] => { results := [.lit (.bool true)], args := [d1, d2, d3, d4] }
  | _ => none }
def ruleBackRow : OpenClaim := { program := "yteeiiahmhmbepaa", sum := "b52da7b46b82623b8cf95cb12041ead7d359981359c01b7c0da4c5cce72e3be0", func := "recoup/recouplaw09.RuleBack", spec := "ruleBack", unfollowed := true, recurses := true, named := ["math/bits.divideError", "math/bits.overflowError"], apart := false }
def RuleBackSaid : Prop := ruleBackRow.holds Try.pinned (OpenSpec.ofChange ruleBackSpec)

/-- ITS FALSE NEIGHBOUR: 'it returns false'. Refute it at one input. -/
def ruleBackWrong : ChangeSpec := { name := "ruleBack", fn := fun _ => fun
  | [d1, d2, d3, d4] => { results := [.lit (.bool false)], args := [d1, d2, d3, d4] }
  | _ => none }
def RuleBackWrongFalsely : Prop := ruleBackRow.holds Try.pinned (OpenSpec.ofChange ruleBackWrong)

/-- 'recouplaw07.LedgerPosts': WHATEVER THE INPUT: true; the input reads as it did. -/
def ledgerPostsSpec : ChangeSpec := { name := "ledgerPosts", fn := fun _ => fun
  | [d1, d2] => { results := [.lit (.bool true)], args := [d1, d2] }
  | _ => none }
def ledgerPostsRow : OpenClaim := { program := "yteeiiahmhmbepaa", sum := "b52da7b46b82623b8cf95cb12041ead7d359981359c01b7c0da4c5cce72e3be0", func := "recoup/recouplaw07.LedgerPosts", spec := "ledgerPosts", apart := false }
def LedgerPostsSaid : Prop := ledgerPostsRow.holds Try.pinned (OpenSpec.ofChange ledgerPostsSpec)

/-- ITS FALSE NEIGHBOUR: 'it returns false'. Refute it at one input. -/
def ledgerPostsWrong : ChangeSpec := { name := "ledgerPosts", fn := fun _ => fun
  | [d1, d2] => { results := [.lit (.bool false)], args := [d1, d2] }
  | _ => none }
def LedgerPostsWrongFalsely : Prop := ledgerPostsRow.holds Try.pinned (OpenSpec.ofChange ledgerPostsWrong)

/-- 'recouplaw07.LedgerBack': WHATEVER THE INPUT: true; the input reads as it did. -/
def ledgerBackSpec : ChangeSpec := { name := "ledgerBack", fn := fun _ => fun
  | [d1, d2] => { results := [.lit (.bool true)], args := [d1, d2] }
  | _ => none }
def ledgerBackRow : OpenClaim := { program := "yteeiiahmhmbepaa", sum := "b52da7b46b82623b8cf95cb12041ead7d359981359c01b7c0da4c5cce72e3be0", func := "recoup/recouplaw07.LedgerBack", spec := "ledgerBack", apart := false }
def LedgerBackSaid : Prop := ledgerBackRow.holds Try.pinned (OpenSpec.ofChange ledgerBackSpec)

/-- ITS FALSE NEIGHBOUR: 'it returns false'. Refute it at one input. -/
def ledgerBackWrong : ChangeSpec := { name := "ledgerBack", fn := fun _ => fun
  | [d1, d2] => { results := [.lit (.bool false)], args := [d1, d2] }
  | _ => none }
def LedgerBackWrongFalsely : Prop := ledgerBackRow.holds Try.pinned (OpenSpec.ofChange ledgerBackWrong)

/-- 'recouplaw07.LedgerOdd': WHATEVER THE INPUT: true; the input reads as it did. -/
def ledgerOddSpec : ChangeSpec := { name := "ledgerOdd", fn := fun _ => fun
  | [d1, d2] => { results := [.lit (.bool true)], args := [d1, d2] }
  | _ => none }
def ledgerOddRow : OpenClaim := { program := "yteeiiahmhmbepaa", sum := "b52da7b46b82623b8cf95cb12041ead7d359981359c01b7c0da4c5cce72e3be0", func := "recoup/recouplaw07.LedgerOdd", spec := "ledgerOdd", apart := false }
def LedgerOddSaid : Prop := ledgerOddRow.holds Try.pinned (OpenSpec.ofChange ledgerOddSpec)

/-- ITS FALSE NEIGHBOUR: 'it returns false'. Refute it at one input. -/
def ledgerOddWrong : ChangeSpec := { name := "ledgerOdd", fn := fun _ => fun
  | [d1, d2] => { results := [.lit (.bool false)], args := [d1, d2] }
  | _ => none }
def LedgerOddWrongFalsely : Prop := ledgerOddRow.holds Try.pinned (OpenSpec.ofChange ledgerOddWrong)

/-- 'recouplaw07.LedgerTotals': WHATEVER THE INPUT: true; the input reads as it did. -/
def ledgerTotalsSpec : ChangeSpec := { name := "ledgerTotals", fn := fun _ => fun
  | [d1, d2] => { results := [.lit (.bool true)], args := [d1, d2] }
  | _ => none }
def ledgerTotalsRow : OpenClaim := { program := "yteeiiahmhmbepaa", sum := "b52da7b46b82623b8cf95cb12041ead7d359981359c01b7c0da4c5cce72e3be0", func := "recoup/recouplaw07.LedgerTotals", spec := "ledgerTotals", apart := false }
def LedgerTotalsSaid : Prop := ledgerTotalsRow.holds Try.pinned (OpenSpec.ofChange ledgerTotalsSpec)

/-- ITS FALSE NEIGHBOUR: 'it returns false'. Refute it at one input. -/
def ledgerTotalsWrong : ChangeSpec := { name := "ledgerTotals", fn := fun _ => fun
  | [d1, d2] => { results := [.lit (.bool false)], args := [d1, d2] }
  | _ => none }
def LedgerTotalsWrongFalsely : Prop := ledgerTotalsRow.holds Try.pinned (OpenSpec.ofChange ledgerTotalsWrong)

/- THE SECOND FORM. 'bulk': how many values and letters a reading holds, each counted each time it is reached (what is shared counts as often as it is met; a slice's spare places count too). A statement '..UptoSaid' is the law's where the arguments, and the package variables that the reading takes, are together of bulk at most 1048576: NARROWER than '..Said'. Prove '..Said' where nothing that the law and all that it calls make is longer than what came in: it says more and counts as full. Else prove '..UptoSaid'. A law counts once. -/
mutual
def uptoBulk {H : Type} : DataW H → Nat
  | .lit (.string bytes) => bytes.length + 1
  | .lit _ => 1
  | .nil => 1
  | .ptr d => uptoBulk d + 1
  | .slice elems spare => uptoBulkAll elems + uptoBulkAll spare + 1
  | .agg parts => uptoBulkAll parts + 1
  | .iface _ d => uptoBulk d + 1
  | .map entries => uptoBulkEntries entries + 1
  | .held _ => 1
def uptoBulkAll {H : Type} : List (DataW H) → Nat
  | [] => 0
  | d :: r => uptoBulk d + uptoBulkAll r
def uptoBulkEntries {H : Type} : List (Lit × DataW H) → Nat
  | [] => 0
  | x :: r => uptoBulkEntry x + uptoBulkEntries r
def uptoBulkEntry {H : Type} : Lit × DataW H → Nat
  | (.string bytes, d) => bytes.length + uptoBulk d + 1
  | (_, d) => uptoBulk d + 1
 end
def uptoSmall : (H : Type) → List (DataW H) → Bool := fun _ ds => decide (uptoBulkAll ds ≤ 1048576)
def OpenSpec.upto (s : _root_.Go.ChangeSpec) : _root_.Go.OpenSpec := { _root_.Go.OpenSpec.ofChange s with cond := some uptoSmall }

/-- 'recouplaw05.CentsParts', WHERE WHAT IT READS IS OF BULK AT MOST 1048576: true; the input reads as it did. -/
def centsPartsUptoRow : OpenClaim := { program := "yteeiiahmhmbepaa", sum := "b52da7b46b82623b8cf95cb12041ead7d359981359c01b7c0da4c5cce72e3be0", func := "recoup/recouplaw05.CentsParts", spec := "centsParts", named := ["math/bits.divideError", "math/bits.overflowError"], apart := false, narrowed := true }
def CentsPartsUptoSaid : Prop := centsPartsUptoRow.holds Try.pinned (OpenSpec.upto centsPartsSpec)

/-- 'recouplaw05.CentsSums', WHERE WHAT IT READS IS OF BULK AT MOST 1048576: true; the input reads as it did. -/
def centsSumsUptoRow : OpenClaim := { program := "yteeiiahmhmbepaa", sum := "b52da7b46b82623b8cf95cb12041ead7d359981359c01b7c0da4c5cce72e3be0", func := "recoup/recouplaw05.CentsSums", spec := "centsSums", named := ["math/bits.divideError", "math/bits.overflowError"], apart := false, narrowed := true }
def CentsSumsUptoSaid : Prop := centsSumsUptoRow.holds Try.pinned (OpenSpec.upto centsSumsSpec)

/-- 'recouplaw05.CentsTimes', WHERE WHAT IT READS IS OF BULK AT MOST 1048576: true; the input reads as it did. -/
def centsTimesUptoRow : OpenClaim := { program := "yteeiiahmhmbepaa", sum := "b52da7b46b82623b8cf95cb12041ead7d359981359c01b7c0da4c5cce72e3be0", func := "recoup/recouplaw05.CentsTimes", spec := "centsTimes", named := ["math/bits.divideError", "math/bits.overflowError"], apart := false, narrowed := true }
def CentsTimesUptoSaid : Prop := centsTimesUptoRow.holds Try.pinned (OpenSpec.upto centsTimesSpec)

/-- 'recouplaw05.CentsAll', WHERE WHAT IT READS IS OF BULK AT MOST 1048576: true; the input reads as it did. -/
def centsAllUptoRow : OpenClaim := { program := "yteeiiahmhmbepaa", sum := "b52da7b46b82623b8cf95cb12041ead7d359981359c01b7c0da4c5cce72e3be0", func := "recoup/recouplaw05.CentsAll", spec := "centsAll", named := ["math/bits.divideError", "math/bits.overflowError"], apart := false, narrowed := true }
def CentsAllUptoSaid : Prop := centsAllUptoRow.holds Try.pinned (OpenSpec.upto centsAllSpec)

/-- 'recouplaw09.RuleMay', WHERE WHAT IT READS IS OF BULK AT MOST 1048576: true; the input reads as it did. -/
def ruleMayUptoRow : OpenClaim := { program := "yteeiiahmhmbepaa", sum := "b52da7b46b82623b8cf95cb12041ead7d359981359c01b7c0da4c5cce72e3be0", func := "recoup/recouplaw09.RuleMay", spec := "ruleMay", unfollowed := true, recurses := true, apart := false, narrowed := true }
def RuleMayUptoSaid : Prop := ruleMayUptoRow.holds Try.pinned (OpenSpec.upto ruleMaySpec)

/-- 'recouplaw09.RuleBounds', WHERE WHAT IT READS IS OF BULK AT MOST 1048576: true; the input reads as it did. -/
def ruleBoundsUptoRow : OpenClaim := { program := "yteeiiahmhmbepaa", sum := "b52da7b46b82623b8cf95cb12041ead7d359981359c01b7c0da4c5cce72e3be0", func := "recoup/recouplaw09.RuleBounds", spec := "ruleBounds", unfollowed := true, recurses := true, named := ["math/bits.divideError", "math/bits.overflowError"], apart := false, narrowed := true }
def RuleBoundsUptoSaid : Prop := ruleBoundsUptoRow.holds Try.pinned (OpenSpec.upto ruleBoundsSpec)

/-- 'recouplaw09.RuleWorth', WHERE WHAT IT READS IS OF BULK AT MOST 1048576: true; the input reads as it did. -/
def ruleWorthUptoRow : OpenClaim := { program := "yteeiiahmhmbepaa", sum := "b52da7b46b82623b8cf95cb12041ead7d359981359c01b7c0da4c5cce72e3be0", func := "recoup/recouplaw09.RuleWorth", spec := "ruleWorth", unfollowed := true, recurses := true, named := ["math/bits.divideError", "math/bits.overflowError"], apart := false, narrowed := true }
def RuleWorthUptoSaid : Prop := ruleWorthUptoRow.holds Try.pinned (OpenSpec.upto ruleWorthSpec)

/-- 'recouplaw09.RuleBack', WHERE WHAT IT READS IS OF BULK AT MOST 1048576: true; the input reads as it did. -/
def ruleBackUptoRow : OpenClaim := { program := "yteeiiahmhmbepaa", sum := "b52da7b46b82623b8cf95cb12041ead7d359981359c01b7c0da4c5cce72e3be0", func := "recoup/recouplaw09.RuleBack", spec := "ruleBack", unfollowed := true, recurses := true, named := ["math/bits.divideError", "math/bits.overflowError"], apart := false, narrowed := true }
def RuleBackUptoSaid : Prop := ruleBackUptoRow.holds Try.pinned (OpenSpec.upto ruleBackSpec)

/-- 'recouplaw07.LedgerPosts', WHERE WHAT IT READS IS OF BULK AT MOST 1048576: true; the input reads as it did. -/
def ledgerPostsUptoRow : OpenClaim := { program := "yteeiiahmhmbepaa", sum := "b52da7b46b82623b8cf95cb12041ead7d359981359c01b7c0da4c5cce72e3be0", func := "recoup/recouplaw07.LedgerPosts", spec := "ledgerPosts", apart := false, narrowed := true }
def LedgerPostsUptoSaid : Prop := ledgerPostsUptoRow.holds Try.pinned (OpenSpec.upto ledgerPostsSpec)

/-- 'recouplaw07.LedgerBack', WHERE WHAT IT READS IS OF BULK AT MOST 1048576: true; the input reads as it did. -/
def ledgerBackUptoRow : OpenClaim := { program := "yteeiiahmhmbepaa", sum := "b52da7b46b82623b8cf95cb12041ead7d359981359c01b7c0da4c5cce72e3be0", func := "recoup/recouplaw07.LedgerBack", spec := "ledgerBack", apart := false, narrowed := true }
def LedgerBackUptoSaid : Prop := ledgerBackUptoRow.holds Try.pinned (OpenSpec.upto ledgerBackSpec)

/-- 'recouplaw07.LedgerOdd', WHERE WHAT IT READS IS OF BULK AT MOST 1048576: true; the input reads as it did. -/
def ledgerOddUptoRow : OpenClaim := { program := "yteeiiahmhmbepaa", sum := "b52da7b46b82623b8cf95cb12041ead7d359981359c01b7c0da4c5cce72e3be0", func := "recoup/recouplaw07.LedgerOdd", spec := "ledgerOdd", apart := false, narrowed := true }
def LedgerOddUptoSaid : Prop := ledgerOddUptoRow.holds Try.pinned (OpenSpec.upto ledgerOddSpec)

/-- 'recouplaw07.LedgerTotals', WHERE WHAT IT READS IS OF BULK AT MOST 1048576: true; the input reads as it did. -/
def ledgerTotalsUptoRow : OpenClaim := { program := "yteeiiahmhmbepaa", sum := "b52da7b46b82623b8cf95cb12041ead7d359981359c01b7c0da4c5cce72e3be0", func := "recoup/recouplaw07.LedgerTotals", spec := "ledgerTotals", apart := false, narrowed := true }
def LedgerTotalsUptoSaid : Prop := ledgerTotalsUptoRow.holds Try.pinned (OpenSpec.upto ledgerTotalsSpec)

end Rows
end Go.Proofs.Yteeiiahmhmbepaa
