/-
  No cell of these rows narrows 'for every input' (looked for: loops, veiled, ifaces, maps, wideKeys, modest, calm, conditions, laid).
  DERIVED. THE GIVEN ROWS OF THIS SEAT. 7 by the template 'for every input the law returns true; each argument reads behind the call as it read before'; 0 by the template 'total and deterministic' (their statements: YtcbbmgohdcabeaaTotals.lean).
  GIVEN WITH THE SEED: the statements are not yours to turn. If you find one false, say at which input.
  Laid BY PROGRAM, IN A SANDBOX (cutbox-rows.mjs): the forced cells as the released guide's own fill.sh prints them over the translation e039914b65721831… (all of the seat's roots in one cut). By AI agents, Wed Nov 11 2026. No macro, syntax, notation, axiom, sorry.
-/
import Derived.Test.YtcbbmgohdcabeaaChecked
import GoSem.Claim
import GoSem.ClaimJoined
import GoSem.ClaimMapViews
import Derived.JoinedTies
import Derived.KernelRfl
namespace Go.Proofs.Ytcbbmgohdcabeaa
/- THE CELL 'sum', in the pinned program and in every row, IS THE sha256 OF THE DUMP (.gsa) THAT YtcbbmgohdcabeaaProg.lean LOADS. Nothing in Lean hashes anything: it is a label: what it is worth is what the hold of that sum in a sandbox is worth. -/
noncomputable def Try.pinned : Pinned := { name := "ytcbbmgohdcabeaa", sum := "e039914b65721831e312e0fbee68cb1b856070e1bf482148274ad15dfb1c7b78", checked := Try.checked }
namespace Rows
def none {H : Type} : Left H := { results := [], args := [] }

/-- 'viceroylaw11.CapsTwice': WHATEVER THE INPUT: true; the input reads as it did. -/
def capsTwiceSpec : ChangeSpec := { name := "capsTwice", fn := fun _ => fun
  | [d1, d2, d3, d4] => { results := [.lit (.bool true)], args := [d1, d2, d3, d4] }
  | _ => none }
def capsTwiceRow : OpenClaim := { program := "ytcbbmgohdcabeaa", sum := "e039914b65721831e312e0fbee68cb1b856070e1bf482148274ad15dfb1c7b78", func := "viceroy/viceroylaw11.CapsTwice", spec := "capsTwice", apart := false }
def CapsTwiceSaid : Prop := capsTwiceRow.holds Try.pinned (OpenSpec.ofChange capsTwiceSpec)

/-- ITS FALSE NEIGHBOUR: 'it returns false'. Refute it at one input. -/
def capsTwiceWrong : ChangeSpec := { name := "capsTwice", fn := fun _ => fun
  | [d1, d2, d3, d4] => { results := [.lit (.bool false)], args := [d1, d2, d3, d4] }
  | _ => none }
def CapsTwiceWrongFalsely : Prop := capsTwiceRow.holds Try.pinned (OpenSpec.ofChange capsTwiceWrong)

/-- 'viceroylaw11.CapsCopies': WHATEVER THE INPUT: true; the input reads as it did. -/
def capsCopiesSpec : ChangeSpec := { name := "capsCopies", fn := fun _ => fun
  | [d] => { results := [.lit (.bool true)], args := [d] }
  | _ => none }
def capsCopiesRow : OpenClaim := { program := "ytcbbmgohdcabeaa", sum := "e039914b65721831e312e0fbee68cb1b856070e1bf482148274ad15dfb1c7b78", func := "viceroy/viceroylaw11.CapsCopies", spec := "capsCopies", apart := false }
def CapsCopiesSaid : Prop := capsCopiesRow.holds Try.pinned (OpenSpec.ofChange capsCopiesSpec)

/-- ITS FALSE NEIGHBOUR: 'it returns false'. Refute it at one input. -/
def capsCopiesWrong : ChangeSpec := { name := "capsCopies", fn := fun _ => fun
  | [d] => { results := [.lit (.bool false)], args := [d] }
  | _ => none }
def CapsCopiesWrongFalsely : Prop := capsCopiesRow.holds Try.pinned (OpenSpec.ofChange capsCopiesWrong)

/-- 'viceroytop.Names': WHATEVER THE INPUT: true; the input reads as it did. -/
def namesSpec : ChangeSpec := { name := "names", fn := fun _ => fun
  | [] => { results := [.lit (.bool true)], args := [] }
  | _ => none }
def namesRow : OpenClaim := { program := "ytcbbmgohdcabeaa", sum := "e039914b65721831e312e0fbee68cb1b856070e1bf482148274ad15dfb1c7b78", func := "viceroy/viceroytop.Names", spec := "names", apart := false }
def NamesSaid : Prop := namesRow.holds Try.pinned (OpenSpec.ofChange namesSpec)

/-- ITS FALSE NEIGHBOUR: 'it returns false'. Refute it at one input. -/
def namesWrong : ChangeSpec := { name := "names", fn := fun _ => fun
  | [] => { results := [.lit (.bool false)], args := [] }
  | _ => none }
def NamesWrongFalsely : Prop := namesRow.holds Try.pinned (OpenSpec.ofChange namesWrong)

/-- 'viceroylaw11.CapsDerives': WHATEVER THE INPUT: true; the input reads as it did. -/
def capsDerivesSpec : ChangeSpec := { name := "capsDerives", fn := fun _ => fun
  | [d1, d2, d3, d4, d5, d6] => { results := [.lit (.bool true)], args := [d1, d2, d3, d4, d5, d6] }
  | _ => none }
def capsDerivesRow : OpenClaim := { program := "ytcbbmgohdcabeaa", sum := "e039914b65721831e312e0fbee68cb1b856070e1bf482148274ad15dfb1c7b78", func := "viceroy/viceroylaw11.CapsDerives", spec := "capsDerives", apart := false }
def CapsDerivesSaid : Prop := capsDerivesRow.holds Try.pinned (OpenSpec.ofChange capsDerivesSpec)

/-- ITS FALSE NEIGHBOUR: 'it returns false'. Refute it at one input. -/
def capsDerivesWrong : ChangeSpec := { name := "capsDerives", fn := fun _ => fun
  | [d1, d2, d3, d4, d5, d6] => { results := [.lit (.bool false)], args := [d1, d2, d3, d4, d5, d6] }
  | _ => none }
def CapsDerivesWrongFalsely : Prop := capsDerivesRow.holds Try.pinned (OpenSpec.ofChange capsDerivesWrong)

/-- 'viceroylaw11.CapsLess': WHATEVER THE INPUT: true; the input reads as it did. -/
def capsLessSpec : ChangeSpec := { name := "capsLess", fn := fun _ => fun
  | [d1, d2, d3, d4, d5] => { results := [.lit (.bool true)], args := [d1, d2, d3, d4, d5] }
  | _ => none }
def capsLessRow : OpenClaim := { program := "ytcbbmgohdcabeaa", sum := "e039914b65721831e312e0fbee68cb1b856070e1bf482148274ad15dfb1c7b78", func := "viceroy/viceroylaw11.CapsLess", spec := "capsLess", apart := false }
def CapsLessSaid : Prop := capsLessRow.holds Try.pinned (OpenSpec.ofChange capsLessSpec)

/-- ITS FALSE NEIGHBOUR: 'it returns false'. Refute it at one input. -/
def capsLessWrong : ChangeSpec := { name := "capsLess", fn := fun _ => fun
  | [d1, d2, d3, d4, d5] => { results := [.lit (.bool false)], args := [d1, d2, d3, d4, d5] }
  | _ => none }
def CapsLessWrongFalsely : Prop := capsLessRow.holds Try.pinned (OpenSpec.ofChange capsLessWrong)

/-- 'viceroylaw11.CapsWords': WHATEVER THE INPUT: true; the input reads as it did. -/
def capsWordsSpec : ChangeSpec := { name := "capsWords", fn := fun _ => fun
  | [d1, d2] => { results := [.lit (.bool true)], args := [d1, d2] }
  | _ => none }
def capsWordsRow : OpenClaim := { program := "ytcbbmgohdcabeaa", sum := "e039914b65721831e312e0fbee68cb1b856070e1bf482148274ad15dfb1c7b78", func := "viceroy/viceroylaw11.CapsWords", spec := "capsWords", apart := false }
def CapsWordsSaid : Prop := capsWordsRow.holds Try.pinned (OpenSpec.ofChange capsWordsSpec)

/-- ITS FALSE NEIGHBOUR: 'it returns false'. Refute it at one input. -/
def capsWordsWrong : ChangeSpec := { name := "capsWords", fn := fun _ => fun
  | [d1, d2] => { results := [.lit (.bool false)], args := [d1, d2] }
  | _ => none }
def CapsWordsWrongFalsely : Prop := capsWordsRow.holds Try.pinned (OpenSpec.ofChange capsWordsWrong)

/-- 'viceroylaw11.CapsBack': WHATEVER THE INPUT: true; the input reads as it did. -/
def capsBackSpec : ChangeSpec := { name := "capsBack", fn := fun _ => fun
  | [d1, d2] => { results := [.lit (.bool true)], args := [d1, d2] }
  | _ => none }
def capsBackRow : OpenClaim := { program := "ytcbbmgohdcabeaa", sum := "e039914b65721831e312e0fbee68cb1b856070e1bf482148274ad15dfb1c7b78", func := "viceroy/viceroylaw11.CapsBack", spec := "capsBack", apart := false }
def CapsBackSaid : Prop := capsBackRow.holds Try.pinned (OpenSpec.ofChange capsBackSpec)

/-- ITS FALSE NEIGHBOUR: 'it returns false'. Refute it at one input. -/
def capsBackWrong : ChangeSpec := { name := "capsBack", fn := fun _ => fun
  | [d1, d2] => { results := [.lit (.bool false)], args := [d1, d2] }
  | _ => none }
def CapsBackWrongFalsely : Prop := capsBackRow.holds Try.pinned (OpenSpec.ofChange capsBackWrong)

/- THE SECOND FORM. 'bulk': how many values and letters a reading holds, each counted each time it is reached (what is shared counts as often as it is met; a slice's spare places count too). A statement '..UptoSaid' is the law's where the arguments, and the package variables that the reading takes, are together of bulk at most 1048576: NARROWER than '..Said'. Prove '..Said' where nothing that the law and all that it calls make is longer than what came in: it says more and counts as full. Else prove '..UptoSaid'. A law counts once. -/
mutual
def uptoBulk {H : Type} : DataW H → Nat
  | .lit (.string bytes) => bytes.length + 1
  | .lit _ => 1
  | .nil => 1
  | .ptr d => uptoBulk d + 1
  | .slice elems spare => uptoBulkAll elems + uptoBulkAll spare + 1
  | .agg parts => uptoBulkAll parts + 1
  | .iface _ d => uptoBulk d + 1
  | .map entries => uptoBulkEntries entries + 1
  | .held _ => 1
def uptoBulkAll {H : Type} : List (DataW H) → Nat
  | [] => 0
  | d :: r => uptoBulk d + uptoBulkAll r
def uptoBulkEntries {H : Type} : List (Lit × DataW H) → Nat
  | [] => 0
  | x :: r => uptoBulkEntry x + uptoBulkEntries r
def uptoBulkEntry {H : Type} : Lit × DataW H → Nat
  | (.string bytes, d) => bytes.length + uptoBulk d + 1
  | (_, d) => uptoBulk d + 1
 end
def uptoSmall : (H : Type) → List (DataW H) → Bool := fun _ ds => decide (uptoBulkAll ds ≤ 1048576)
def OpenSpec.upto (s : _root_.Go.ChangeSpec) : _root_.Go.OpenSpec := { _root_.Go.OpenSpec.ofChange s with cond := some uptoSmall }

/-- 'viceroylaw11.CapsTwice', WHERE WHAT IT READS IS OF BULK AT MOST 1048576: true; the input reads as it did. -/
def capsTwiceUptoRow : OpenClaim := { program := "ytcbbmgohdcabeaa", sum := "e039914b65721831e312e0fbee68cb1b856070e1bf482148274ad15dfb1c7b78", func := "viceroy/viceroylaw11.CapsTwice", spec := "capsTwice", apart := false, narrowed := true }
def CapsTwiceUptoSaid : Prop := capsTwiceUptoRow.holds Try.pinned (OpenSpec.upto capsTwiceSpec)

/-- 'viceroylaw11.CapsCopies', WHERE WHAT IT READS IS OF BULK AT MOST 1048576: true; the input reads as it did. -/
def capsCopiesUptoRow : OpenClaim := { program := "ytcbbmgohdcabeaa", sum := "e039914b65721831e312e0fbee68cb1b856070e1bf482148274ad15dfb1c7b78", func := "viceroy/viceroylaw11.CapsCopies", spec := "capsCopies", apart := false, narrowed := true }
def CapsCopiesUptoSaid : Prop := capsCopiesUptoRow.holds Try.pinned (OpenSpec.upto capsCopiesSpec)

/-- 'viceroytop.Names', WHERE WHAT IT READS IS OF BULK AT MOST 1048576: true; the input reads as it did. -/
def namesUptoRow : OpenClaim := { program := "ytcbbmgohdcabeaa", sum := "e039914b65721831e312e0fbee68cb1b856070e1bf482148274ad15dfb1c7b78", func := "viceroy/viceroytop.Names", spec := "names", apart := false, narrowed := true }
def NamesUptoSaid : Prop := namesUptoRow.holds Try.pinned (OpenSpec.upto namesSpec)

/-- 'viceroylaw11.CapsDerives', WHERE WHAT IT READS IS OF BULK AT MOST 1048576: true; the input reads as it did. -/
def capsDerivesUptoRow : OpenClaim := { program := "ytcbbmgohdcabeaa", sum := "e039914b65721831e312e0fbee68cb1b856070e1bf482148274ad15dfb1c7b78", func := "viceroy/viceroylaw11.CapsDerives", spec := "capsDerives", apart := false, narrowed := true }
def CapsDerivesUptoSaid : Prop := capsDerivesUptoRow.holds Try.pinned (OpenSpec.upto capsDerivesSpec)

/-- 'viceroylaw11.CapsLess', WHERE WHAT IT READS IS OF BULK AT MOST 1048576: true; the input reads as it did. -/
def capsLessUptoRow : OpenClaim := { program := "ytcbbmgohdcabeaa", sum := "e039914b65721831e312e0fbee68cb1b856070e1bf482148274ad15dfb1c7b78", func := "viceroy/viceroylaw11.CapsLess", spec := "capsLess", apart := false, narrowed := true }
def CapsLessUptoSaid : Prop := capsLessUptoRow.holds Try.pinned (OpenSpec.upto capsLessSpec)

/-- 'viceroylaw11.CapsWords', WHERE WHAT IT READS IS OF BULK AT MOST 1048576: true; the input reads as it did. -/
def capsWordsUptoRow : OpenClaim := { program := "ytcbbmgohdcabeaa", sum := "e039914b65721831e312e0fbee68cb1b856070e1bf482148274ad15dfb1c7b78", func := "viceroy/viceroylaw11.CapsWords", spec := "capsWords", apart := false, narrowed := true }
def CapsWordsUptoSaid : Prop := capsWordsUptoRow.holds Try.pinned (OpenSpec.upto capsWordsSpec)

/-- 'viceroylaw11.CapsBack', WHERE WHAT IT READS IS OF BULK AT MOST 1048576: true; the input reads as it did. -/
def capsBackUptoRow : OpenClaim := { program := "ytcbbmgohdcabeaa", sum := "e039914b65721831e312e0fbee68cb1b856070e1bf482148274ad15dfb1c7b78", func := "viceroy/viceroylaw11.CapsBack", spec := "capsBack", apart := false, narrowed := true }
def CapsBackUptoSaid : Prop := capsBackUptoRow.holds Try.pinned (OpenSpec.upto capsBackSpec)

end Rows
end Go.Proofs.Ytcbbmgohdcabeaa
