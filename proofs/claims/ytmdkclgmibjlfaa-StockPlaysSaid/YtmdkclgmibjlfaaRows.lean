/-
  No cell of these rows narrows 'for every input' (looked for: loops, veiled, ifaces, maps, wideKeys, modest, calm, conditions, laid).
  DERIVED. THE GIVEN ROWS OF THIS SEAT. 11 by the template 'for every input the law returns true; each argument reads behind the call as it read before'; 0 by the template 'total and deterministic' (their statements: YtmdkclgmibjlfaaTotals.lean).
  GIVEN WITH THE SEED: the statements are not yours to turn. If you find one false, say at which input.
  Laid BY PROGRAM, IN A SANDBOX (cutbox-rows.mjs): the forced cells as the released guide's own fill.sh prints them over the translation 3d851cff933c57bd… (all of the seat's roots in one cut). By AI agents, Wed Nov 11 2026. No macro, syntax, notation, axiom, sorry.
-/
import Derived.Test.YtmdkclgmibjlfaaChecked
import GoSem.Claim
import GoSem.ClaimJoined
import GoSem.ClaimMapViews
import Derived.JoinedTies
import Derived.KernelRfl
namespace Go.Proofs.Ytmdkclgmibjlfaa
/- THE CELL 'sum', in the pinned program and in every row, IS THE sha256 OF THE DUMP (.gsa) THAT YtmdkclgmibjlfaaProg.lean LOADS. Nothing in Lean hashes anything: it is a label: what it is worth is what the hold of that sum in a sandbox is worth. -/
noncomputable def Try.pinned : Pinned := { name := "ytmdkclgmibjlfaa", sum := "3d851cff933c57bdd1b567d2cebd9a4462e949fb4e8d185ef41ac920d02a3198", checked := Try.checked }
namespace Rows
def none {H : Type} : Left H := { results := [], args := [] }

/-- 'recouplaw11.StockMay': WHATEVER THE INPUT: true; the input reads as it did. -/
def stockMaySpec : ChangeSpec := { name := "stockMay", fn := fun _ => fun
  | [d1, d2] => { results := [.lit (.bool true)], args := [d1, d2] }
  | _ => none }
def stockMayRow : OpenClaim := { program := "ytmdkclgmibjlfaa", sum := "3d851cff933c57bdd1b567d2cebd9a4462e949fb4e8d185ef41ac920d02a3198", func := "recoup/recouplaw11.StockMay", spec := "stockMay", apart := false }
def StockMaySaid : Prop := stockMayRow.holds Try.pinned (OpenSpec.ofChange stockMaySpec)

/-- ITS FALSE NEIGHBOUR: 'it returns false'. Refute it at one input. -/
def stockMayWrong : ChangeSpec := { name := "stockMay", fn := fun _ => fun
  | [d1, d2] => { results := [.lit (.bool false)], args := [d1, d2] }
  | _ => none }
def StockMayWrongFalsely : Prop := stockMayRow.holds Try.pinned (OpenSpec.ofChange stockMayWrong)

/-- 'recouplaw11.StockStays': WHATEVER THE INPUT: true; the input reads as it did. -/
def stockStaysSpec : ChangeSpec := { name := "stockStays", fn := fun _ => fun
  | [d1, d2] => { results := [.lit (.bool true)], args := [d1, d2] }
  | _ => none }
def stockStaysRow : OpenClaim := { program := "ytmdkclgmibjlfaa", sum := "3d851cff933c57bdd1b567d2cebd9a4462e949fb4e8d185ef41ac920d02a3198", func := "recoup/recouplaw11.StockStays", spec := "stockStays", apart := false }
def StockStaysSaid : Prop := stockStaysRow.holds Try.pinned (OpenSpec.ofChange stockStaysSpec)

/-- ITS FALSE NEIGHBOUR: 'it returns false'. Refute it at one input. -/
def stockStaysWrong : ChangeSpec := { name := "stockStays", fn := fun _ => fun
  | [d1, d2] => { results := [.lit (.bool false)], args := [d1, d2] }
  | _ => none }
def StockStaysWrongFalsely : Prop := stockStaysRow.holds Try.pinned (OpenSpec.ofChange stockStaysWrong)

/-- 'recouplaw11.StockPlays': WHATEVER THE INPUT: true; the input reads as it did. -/
def stockPlaysSpec : ChangeSpec := { name := "stockPlays", fn := fun _ => fun
  | [d1, d2, d3] => { results := [.lit (.bool true)], args := [d1, d2, d3] }
  | _ => none }
def stockPlaysRow : OpenClaim := { program := "ytmdkclgmibjlfaa", sum := "3d851cff933c57bdd1b567d2cebd9a4462e949fb4e8d185ef41ac920d02a3198", func := "recoup/recouplaw11.StockPlays", spec := "stockPlays", apart := false }
def StockPlaysSaid : Prop := stockPlaysRow.holds Try.pinned (OpenSpec.ofChange stockPlaysSpec)

/-- ITS FALSE NEIGHBOUR: 'it returns false'. Refute it at one input. -/
def stockPlaysWrong : ChangeSpec := { name := "stockPlays", fn := fun _ => fun
  | [d1, d2, d3] => { results := [.lit (.bool false)], args := [d1, d2, d3] }
  | _ => none }
def StockPlaysWrongFalsely : Prop := stockPlaysRow.holds Try.pinned (OpenSpec.ofChange stockPlaysWrong)

/-- 'recouplaw11.StockClones': WHATEVER THE INPUT: true; the input reads as it did. -/
def stockClonesSpec : ChangeSpec := { name := "stockClones", fn := fun _ => fun
  | [d1, d2, d3] => { results := [.lit (.bool true)], args := [d1, d2, d3] }
  | _ => none }
def stockClonesRow : OpenClaim := { program := "ytmdkclgmibjlfaa", sum := "3d851cff933c57bdd1b567d2cebd9a4462e949fb4e8d185ef41ac920d02a3198", func := "recoup/recouplaw11.StockClones", spec := "stockClones", apart := false }
def StockClonesSaid : Prop := stockClonesRow.holds Try.pinned (OpenSpec.ofChange stockClonesSpec)

/-- ITS FALSE NEIGHBOUR: 'it returns false'. Refute it at one input. -/
def stockClonesWrong : ChangeSpec := { name := "stockClones", fn := fun _ => fun
  | [d1, d2, d3] => { results := [.lit (.bool false)], args := [d1, d2, d3] }
  | _ => none }
def StockClonesWrongFalsely : Prop := stockClonesRow.holds Try.pinned (OpenSpec.ofChange stockClonesWrong)

/-- 'recouplaw19.CarrierPlays': WHATEVER THE INPUT: true; the input reads as it did. -/
def carrierPlaysSpec : ChangeSpec := { name := "carrierPlays", fn := fun _ => fun
  | [d1, d2] => { results := [.lit (.bool true)], args := [d1, d2] }
  | _ => none }
def carrierPlaysRow : OpenClaim := { program := "ytmdkclgmibjlfaa", sum := "3d851cff933c57bdd1b567d2cebd9a4462e949fb4e8d185ef41ac920d02a3198", func := "recoup/recouplaw19.CarrierPlays", spec := "carrierPlays", apart := false }
def CarrierPlaysSaid : Prop := carrierPlaysRow.holds Try.pinned (OpenSpec.ofChange carrierPlaysSpec)

/-- ITS FALSE NEIGHBOUR: 'it returns false'. Refute it at one input. -/
def carrierPlaysWrong : ChangeSpec := { name := "carrierPlays", fn := fun _ => fun
  | [d1, d2] => { results := [.lit (.bool false)], args := [d1, d2] }
  | _ => none }
def CarrierPlaysWrongFalsely : Prop := carrierPlaysRow.holds Try.pinned (OpenSpec.ofChange carrierPlaysWrong)

/-- 'recouplaw19.CarrierNil': WHATEVER THE INPUT: true; the input reads as it did. -/
def carrierNilSpec : ChangeSpec := { name := "carrierNil", fn := fun _ => fun
  | [d1, d2] => { results := [.lit (.bool true)], args := [d1, d2] }
  | _ => none }
def carrierNilRow : OpenClaim := { program := "ytmdkclgmibjlfaa", sum := "3d851cff933c57bdd1b567d2cebd9a4462e949fb4e8d185ef41ac920d02a3198", func := "recoup/recouplaw19.CarrierNil", spec := "carrierNil", apart := false }
def CarrierNilSaid : Prop := carrierNilRow.holds Try.pinned (OpenSpec.ofChange carrierNilSpec)

/-- ITS FALSE NEIGHBOUR: 'it returns false'. Refute it at one input. -/
def carrierNilWrong : ChangeSpec := { name := "carrierNil", fn := fun _ => fun
  | [d1, d2] => { results := [.lit (.bool false)], args := [d1, d2] }
  | _ => none }
def CarrierNilWrongFalsely : Prop := carrierNilRow.holds Try.pinned (OpenSpec.ofChange carrierNilWrong)

/-- 'recouplaw20.BankPlays': WHATEVER THE INPUT: true; the input reads as it did. -/
def bankPlaysSpec : ChangeSpec := { name := "bankPlays", fn := fun _ => fun
  | [d1, d2] => { results := [.lit (.bool true)], args := [d1, d2] }
  | _ => none }
def bankPlaysRow : OpenClaim := { program := "ytmdkclgmibjlfaa", sum := "3d851cff933c57bdd1b567d2cebd9a4462e949fb4e8d185ef41ac920d02a3198", func := "recoup/recouplaw20.BankPlays", spec := "bankPlays", apart := false }
def BankPlaysSaid : Prop := bankPlaysRow.holds Try.pinned (OpenSpec.ofChange bankPlaysSpec)

/-- ITS FALSE NEIGHBOUR: 'it returns false'. Refute it at one input. -/
def bankPlaysWrong : ChangeSpec := { name := "bankPlays", fn := fun _ => fun
  | [d1, d2] => { results := [.lit (.bool false)], args := [d1, d2] }
  | _ => none }
def BankPlaysWrongFalsely : Prop := bankPlaysRow.holds Try.pinned (OpenSpec.ofChange bankPlaysWrong)

/-- 'recouplaw20.BankOnce': WHATEVER THE INPUT: true; the input reads as it did. -/
def bankOnceSpec : ChangeSpec := { name := "bankOnce", fn := fun _ => fun
  | [d1, d2, d3, d4] => { results := [.lit (.bool true)], args := [d1, d2, d3, d4] }
  | _ => none }
def bankOnceRow : OpenClaim := { program := "ytmdkclgmibjlfaa", sum := "3d851cff933c57bdd1b567d2cebd9a4462e949fb4e8d185ef41ac920d02a3198", func := "recoup/recouplaw20.BankOnce", spec := "bankOnce", apart := false }
def BankOnceSaid : Prop := bankOnceRow.holds Try.pinned (OpenSpec.ofChange bankOnceSpec)

/-- ITS FALSE NEIGHBOUR: 'it returns false'. Refute it at one input. -/
def bankOnceWrong : ChangeSpec := { name := "bankOnce", fn := fun _ => fun
  | [d1, d2, d3, d4] => { results := [.lit (.bool false)], args := [d1, d2, d3, d4] }
  | _ => none }
def BankOnceWrongFalsely : Prop := bankOnceRow.holds Try.pinned (OpenSpec.ofChange bankOnceWrong)

/-- 'recouplaw20.BankNil': WHATEVER THE INPUT: true; the input reads as it did. -/
def bankNilSpec : ChangeSpec := { name := "bankNil", fn := fun _ => fun
  | [d1, d2, d3] => { results := [.lit (.bool true)], args := [d1, d2, d3] }
  | _ => none }
def bankNilRow : OpenClaim := { program := "ytmdkclgmibjlfaa", sum := "3d851cff933c57bdd1b567d2cebd9a4462e949fb4e8d185ef41ac920d02a3198", func := "recoup/recouplaw20.BankNil", spec := "bankNil", apart := false }
def BankNilSaid : Prop := bankNilRow.holds Try.pinned (OpenSpec.ofChange bankNilSpec)

/-- ITS FALSE NEIGHBOUR: 'it returns false'. Refute it at one input. -/
def bankNilWrong : ChangeSpec := { name := "bankNil", fn := fun _ => fun
  | [d1, d2, d3] => { results := [.lit (.bool false)], args := [d1, d2, d3] }
  | _ => none }
def BankNilWrongFalsely : Prop := bankNilRow.holds Try.pinned (OpenSpec.ofChange bankNilWrong)

/-- 'recouplaw21.HousePlays': WHATEVER THE INPUT: true; the input reads as it did. -/
def housePlaysSpec : ChangeSpec := { name := "housePlays", fn := fun _ => fun
  | [d1, d2] => { results := [.lit (.bool true)], args := [d1, d2] }
  | _ => none }
def housePlaysRow : OpenClaim := { program := "ytmdkclgmibjlfaa", sum := "3d851cff933c57bdd1b567d2cebd9a4462e949fb4e8d185ef41ac920d02a3198", func := "recoup/recouplaw21.HousePlays", spec := "housePlays", apart := false }
def HousePlaysSaid : Prop := housePlaysRow.holds Try.pinned (OpenSpec.ofChange housePlaysSpec)

/-- ITS FALSE NEIGHBOUR: 'it returns false'. Refute it at one input. -/
def housePlaysWrong : ChangeSpec := { name := "housePlays", fn := fun _ => fun
  | [d1, d2] => { results := [.lit (.bool false)], args := [d1, d2] }
  | _ => none }
def HousePlaysWrongFalsely : Prop := housePlaysRow.holds Try.pinned (OpenSpec.ofChange housePlaysWrong)

/-- 'recouplaw21.HouseNil': WHATEVER THE INPUT: true; the input reads as it did. -/
def houseNilSpec : ChangeSpec := { name := "houseNil", fn := fun _ => fun
  | [d1, d2] => { results := [.lit (.bool true)], args := [d1, d2] }
  | _ => none }
def houseNilRow : OpenClaim := { program := "ytmdkclgmibjlfaa", sum := "3d851cff933c57bdd1b567d2cebd9a4462e949fb4e8d185ef41ac920d02a3198", func := "recoup/recouplaw21.HouseNil", spec := "houseNil", apart := false }
def HouseNilSaid : Prop := houseNilRow.holds Try.pinned (OpenSpec.ofChange houseNilSpec)

/-- ITS FALSE NEIGHBOUR: 'it returns false'. Refute it at one input. -/
def houseNilWrong : ChangeSpec := { name := "houseNil", fn := fun _ => fun
  | [d1, d2] => { results := [.lit (.bool false)], args := [d1, d2] }
  | _ => none }
def HouseNilWrongFalsely : Prop := houseNilRow.holds Try.pinned (OpenSpec.ofChange houseNilWrong)

/- THE SECOND FORM. 'bulk': how many values and letters a reading holds, each counted each time it is reached (what is shared counts as often as it is met; a slice's spare places count too). A statement '..UptoSaid' is the law's where the arguments, and the package variables that the reading takes, are together of bulk at most 1048576: NARROWER than '..Said'. Prove '..Said' where nothing that the law and all that it calls make is longer than what came in: it says more and counts as full. Else prove '..UptoSaid'. A law counts once. -/
mutual
def uptoBulk {H : Type} : DataW H → Nat
  | .lit (.string bytes) => bytes.length + 1
  | .lit _ => 1
  | .nil => 1
  | .ptr d => uptoBulk d + 1
  | .slice elems spare => uptoBulkAll elems + uptoBulkAll spare + 1
  | .agg parts => uptoBulkAll parts + 1
  | .iface _ d => uptoBulk d + 1
  | .map entries => uptoBulkEntries entries + 1
  | .held _ => 1
def uptoBulkAll {H : Type} : List (DataW H) → Nat
  | [] => 0
  | d :: r => uptoBulk d + uptoBulkAll r
def uptoBulkEntries {H : Type} : List (Lit × DataW H) → Nat
  | [] => 0
  | x :: r => uptoBulkEntry x + uptoBulkEntries r
def uptoBulkEntry {H : Type} : Lit × DataW H → Nat
  | (.string bytes, d) => bytes.length + uptoBulk d + 1
  | (_, d) => uptoBulk d + 1
 end
def uptoSmall : (H : Type) → List (DataW H) → Bool := fun _ ds => decide (uptoBulkAll ds ≤ 1048576)
def OpenSpec.upto (s : _root_.Go.ChangeSpec) : _root_.Go.OpenSpec := { _root_.Go.OpenSpec.ofChange s with cond := some uptoSmall }

/-- 'recouplaw11.StockMay', WHERE WHAT IT READS IS OF BULK AT MOST 1048576: true; the input reads as it did. -/
def stockMayUptoRow : OpenClaim := { program := "ytmdkclgmibjlfaa", sum := "3d851cff933c57bdd1b567d2cebd9a4462e949fb4e8d185ef41ac920d02a3198", func := "recoup/recouplaw11.StockMay", spec := "stockMay", apart := false, narrowed := true }
def StockMayUptoSaid : Prop := stockMayUptoRow.holds Try.pinned (OpenSpec.upto stockMaySpec)

/-- 'recouplaw11.StockStays', WHERE WHAT IT READS IS OF BULK AT MOST 1048576: true; the input reads as it did. -/
def stockStaysUptoRow : OpenClaim := { program := "ytmdkclgmibjlfaa", sum := "3d851cff933c57bdd1b567d2cebd9a4462e949fb4e8d185ef41ac920d02a3198", func := "recoup/recouplaw11.StockStays", spec := "stockStays", apart := false, narrowed := true }
def StockStaysUptoSaid : Prop := stockStaysUptoRow.holds Try.pinned (OpenSpec.upto stockStaysSpec)

/-- 'recouplaw11.StockPlays', WHERE WHAT IT READS IS OF BULK AT MOST 1048576: true; the input reads as it did. -/
def stockPlaysUptoRow : OpenClaim := { program := "ytmdkclgmibjlfaa", sum := "3d851cff933c57bdd1b567d2cebd9a4462e949fb4e8d185ef41ac920d02a3198", func := "recoup/recouplaw11.StockPlays", spec := "stockPlays", apart := false, narrowed := true }
def StockPlaysUptoSaid : Prop := stockPlaysUptoRow.holds Try.pinned (OpenSpec.upto stockPlaysSpec)

/-- 'recouplaw11.StockClones', WHERE WHAT IT READS IS OF BULK AT MOST 1048576: true; the input reads as it did. -/
def stockClonesUptoRow : OpenClaim := { program := "ytmdkclgmibjlfaa", sum := "3d851cff933c57bdd1b567d2cebd9a4462e949fb4e8d185ef41ac920d02a3198", func := "recoup/recouplaw11.StockClones", spec := "stockClones", apart := false, narrowed := true }
def StockClonesUptoSaid : Prop := stockClonesUptoRow.holds Try.pinned (OpenSpec.upto stockClonesSpec)

/-- 'recouplaw19.CarrierPlays', WHERE WHAT IT READS IS OF BULK AT MOST 1048576: true; the input reads as it did. -/
def carrierPlaysUptoRow : OpenClaim := { program := "ytmdkclgmibjlfaa", sum := "3d851cff933c57bdd1b567d2cebd9a4462e949fb4e8d185ef41ac920d02a3198", func := "recoup/recouplaw19.CarrierPlays", spec := "carrierPlays", apart := false, narrowed := true }
def CarrierPlaysUptoSaid : Prop := carrierPlaysUptoRow.holds Try.pinned (OpenSpec.upto carrierPlaysSpec)

/-- 'recouplaw19.CarrierNil', WHERE WHAT IT READS IS OF BULK AT MOST 1048576: true; the input reads as it did. -/
def carrierNilUptoRow : OpenClaim := { program := "ytmdkclgmibjlfaa", sum := "3d851cff933c57bdd1b567d2cebd9a4462e949fb4e8d185ef41ac920d02a3198", func := "recoup/recouplaw19.CarrierNil", spec := "carrierNil", apart := false, narrowed := true }
def CarrierNilUptoSaid : Prop := carrierNilUptoRow.holds Try.pinned (OpenSpec.upto carrierNilSpec)

/-- 'recouplaw20.BankPlays', WHERE WHAT IT READS IS OF BULK AT MOST 1048576: true; the input reads as it did. -/
def bankPlaysUptoRow : OpenClaim := { program := "ytmdkclgmibjlfaa", sum := "3d851cff933c57bdd1b567d2cebd9a4462e949fb4e8d185ef41ac920d02a3198", func := "recoup/recouplaw20.BankPlays", spec := "bankPlays", apart := false, narrowed := true }
def BankPlaysUptoSaid : Prop := bankPlaysUptoRow.holds Try.pinned (OpenSpec.upto bankPlaysSpec)

/-- 'recouplaw20.BankOnce', WHERE WHAT IT READS IS OF BULK AT MOST 1048576: true; the input reads as it did. -/
def bankOnceUptoRow : OpenClaim := { program := "ytmdkclgmibjlfaa", sum := "3d851cff933c57bdd1b567d2cebd9a4462e949fb4e8d185ef41ac920d02a3198", func := "recoup/recouplaw20.BankOnce", spec := "bankOnce", apart := false, narrowed := true }
def BankOnceUptoSaid : Prop := bankOnceUptoRow.holds Try.pinned (OpenSpec.upto bankOnceSpec)

/-- 'recouplaw20.BankNil', WHERE WHAT IT READS IS OF BULK AT MOST 1048576: true; the input reads as it did. -/
def bankNilUptoRow : OpenClaim := { program := "ytmdkclgmibjlfaa", sum := "3d851cff933c57bdd1b567d2cebd9a4462e949fb4e8d185ef41ac920d02a3198", func := "recoup/recouplaw20.BankNil", spec := "bankNil", apart := false, narrowed := true }
def BankNilUptoSaid : Prop := bankNilUptoRow.holds Try.pinned (OpenSpec.upto bankNilSpec)

/-- 'recouplaw21.HousePlays', WHERE WHAT IT READS IS OF BULK AT MOST 1048576: true; the input reads as it did. -/
def housePlaysUptoRow : OpenClaim := { program := "ytmdkclgmibjlfaa", sum := "3d851cff933c57bdd1b567d2cebd9a4462e949fb4e8d185ef41ac920d02a3198", func := "recoup/recouplaw21.HousePlays", spec := "housePlays", apart := false, narrowed := true }
def HousePlaysUptoSaid : Prop := housePlaysUptoRow.holds Try.pinned (OpenSpec.upto housePlaysSpec)

/-- 'recouplaw21.HouseNil', WHERE WHAT IT READS IS OF BULK AT MOST 1048576: true; the input reads as it did. -/
def houseNilUptoRow : OpenClaim := { program := "ytmdkclgmibjlfaa", sum := "3d851cff933c57bdd1b567d2cebd9a4462e949fb4e8d185ef41ac920d02a3198", func := "recoup/recouplaw21.HouseNil", spec := "houseNil", apart := false, narrowed := true }
def HouseNilUptoSaid : Prop := houseNilUptoRow.holds Try.pinned (OpenSpec.upto houseNilSpec)

end Rows
end Go.Proofs.Ytmdkclgmibjlfaa
