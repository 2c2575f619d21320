/-
  No cell of these rows narrows 'for every input' (looked for: loops, veiled, ifaces, maps, wideKeys, modest, calm, conditions, laid).
  DERIVED. THE GIVEN ROWS OF THIS SEAT. 5 by the template 'for every input the law returns true; each argument reads behind the call as it read before'; 0 by the template 'total and deterministic' (their statements: YtmehieloehlepaaTotals.lean).
  GIVEN WITH THE SEED: the statements are not yours to turn. If you find one false, say at which input.
  Laid BY PROGRAM, IN A SANDBOX (cutbox-rows.mjs): the forced cells as the released guide's own fill.sh prints them over the translation b877d1521a143e95… (all of the seat's roots in one cut). By AI agents, Wed Nov 11 2026. No macro, syntax, notation, axiom, sorry.
-/
import Derived.Test.YtmehieloehlepaaChecked
import GoSem.Claim
import GoSem.ClaimJoined
import GoSem.ClaimMapViews
import Derived.JoinedTies
import Derived.KernelRfl
namespace Go.Proofs.Ytmehieloehlepaa
/- THE CELL 'sum', in the pinned program and in every row, IS THE sha256 OF THE DUMP (.gsa) THAT YtmehieloehlepaaProg.lean LOADS. Nothing in Lean hashes anything: it is a label: what it is worth is what the hold of that sum in a sandbox is worth. -/
noncomputable def Try.pinned : Pinned := { name := "ytmehieloehlepaa", sum := "b877d1521a143e95cdda44f97a985731d9dfd326536b862464afd602ffc65781", checked := Try.checked }
namespace Rows
def none {H : Type} : Left H := { results := [], args := [] }

/-- 'viceroylaw07.GicServes': WHATEVER THE INPUT: true; the input reads as it did. -/
def gicServesSpec : ChangeSpec := { name := "gicServes", fn := fun _ => fun
  | [d] => { results := [.lit (.bool true)], args := [d] }
  | _ => none }
def gicServesRow : OpenClaim := { program := "ytmehieloehlepaa", sum := "b877d1521a143e95cdda44f97a985731d9dfd326536b862464afd602ffc65781", func := "viceroy/viceroylaw07.GicServes", spec := "gicServes", unfollowed := true, recurses := true, apart := false }
def GicServesSaid : Prop := gicServesRow.holds Try.pinned (OpenSpec.ofChange gicServesSpec)

/-- ITS FALSE NEIGHBOUR: 'it returns false'. Refute it at one input. -/
def gicServesWrong : ChangeSpec := { name := "gicServes", fn := fun _ => fun
  | [d] => { results := [.lit (.bool false)], args := [d] }
  | _ => none }
def GicServesWrongFalsely : Prop := gicServesRow.holds Try.pinned (OpenSpec.ofChange gicServesWrong)

/-- 'viceroylaw07.GicMasks': WHATEVER THE INPUT: true; the input reads as it did. -/
def gicMasksSpec : ChangeSpec := { name := "gicMasks", fn := fun _ => fun
  | [d1, d2, d3] => { results := [.lit (.bool true)], args := [d1, d2, d3] }
  | _ => none }
def gicMasksRow : OpenClaim := { program := "ytmehieloehlepaa", sum := "b877d1521a143e95cdda44f97a985731d9dfd326536b862464afd602ffc65781", func := "viceroy/viceroylaw07.GicMasks", spec := "gicMasks", unfollowed := true, recurses := true, apart := false }
def GicMasksSaid : Prop := gicMasksRow.holds Try.pinned (OpenSpec.ofChange gicMasksSpec)

/-- ITS FALSE NEIGHBOUR: 'it returns false'. Refute it at one input. -/
def gicMasksWrong : ChangeSpec := { name := "gicMasks", fn := fun _ => fun
  | [d1, d2, d3] => { results := [.lit (.bool false)], args := [d1, d2, d3] }
  | _ => none }
def GicMasksWrongFalsely : Prop := gicMasksRow.holds Try.pinned (OpenSpec.ofChange gicMasksWrong)

/-- 'viceroylaw07.GicPlays': WHATEVER THE INPUT: true; the input reads as it did. -/
def gicPlaysSpec : ChangeSpec := { name := "gicPlays", fn := fun _ => fun
  | [d] => { results := [.lit (.bool true)], args := [d] }
  | _ => none }
def gicPlaysRow : OpenClaim := { program := "ytmehieloehlepaa", sum := "b877d1521a143e95cdda44f97a985731d9dfd326536b862464afd602ffc65781", func := "viceroy/viceroylaw07.GicPlays", spec := "gicPlays", unfollowed := true, recurses := true, apart := false }
def GicPlaysSaid : Prop := gicPlaysRow.holds Try.pinned (OpenSpec.ofChange gicPlaysSpec)

/-- ITS FALSE NEIGHBOUR: 'it returns false'. Refute it at one input. -/
def gicPlaysWrong : ChangeSpec := { name := "gicPlays", fn := fun _ => fun
  | [d] => { results := [.lit (.bool false)], args := [d] }
  | _ => none }
def GicPlaysWrongFalsely : Prop := gicPlaysRow.holds Try.pinned (OpenSpec.ofChange gicPlaysWrong)

/-- 'viceroylaw07.GicUrgent': WHATEVER THE INPUT: true; the input reads as it did. -/
def gicUrgentSpec : ChangeSpec := { name := "gicUrgent", fn := fun _ => fun
  | [d] => { results := [.lit (.bool true)], args := [d] }
  | _ => none }
def gicUrgentRow : OpenClaim := { program := "ytmehieloehlepaa", sum := "b877d1521a143e95cdda44f97a985731d9dfd326536b862464afd602ffc65781", func := "viceroy/viceroylaw07.GicUrgent", spec := "gicUrgent", unfollowed := true, recurses := true, apart := false }
def GicUrgentSaid : Prop := gicUrgentRow.holds Try.pinned (OpenSpec.ofChange gicUrgentSpec)

/-- ITS FALSE NEIGHBOUR: 'it returns false'. Refute it at one input. -/
def gicUrgentWrong : ChangeSpec := { name := "gicUrgent", fn := fun _ => fun
  | [d] => { results := [.lit (.bool false)], args := [d] }
  | _ => none }
def GicUrgentWrongFalsely : Prop := gicUrgentRow.holds Try.pinned (OpenSpec.ofChange gicUrgentWrong)

/-- 'viceroylaw07.GicNests': WHATEVER THE INPUT: true; the input reads as it did. -/
def gicNestsSpec : ChangeSpec := { name := "gicNests", fn := fun _ => fun
  | [d1, d2] => { results := [.lit (.bool true)], args := [d1, d2] }
  | _ => none }
def gicNestsRow : OpenClaim := { program := "ytmehieloehlepaa", sum := "b877d1521a143e95cdda44f97a985731d9dfd326536b862464afd602ffc65781", func := "viceroy/viceroylaw07.GicNests", spec := "gicNests", unfollowed := true, recurses := true, apart := false }
def GicNestsSaid : Prop := gicNestsRow.holds Try.pinned (OpenSpec.ofChange gicNestsSpec)

/-- ITS FALSE NEIGHBOUR: 'it returns false'. Refute it at one input. -/
def gicNestsWrong : ChangeSpec := { name := "gicNests", fn := fun _ => fun
  | [d1, d2] => { results := [.lit (.bool false)], args := [d1, d2] }
  | _ => none }
def GicNestsWrongFalsely : Prop := gicNestsRow.holds Try.pinned (OpenSpec.ofChange gicNestsWrong)

/- THE SECOND FORM. 'bulk': how many values and letters a reading holds, each counted each time it is reached (what is shared counts as often as it is met; a slice's spare places count too). A statement '..UptoSaid' is the law's where the arguments, and the package variables that the reading takes, are together of bulk at most 1048576: NARROWER than '..Said'. Prove '..Said' where nothing that the law and all that it calls make is longer than what came in: it says more and counts as full. Else prove '..UptoSaid'. A law counts once. -/
mutual
def uptoBulk {H : Type} : DataW H → Nat
  | .lit (.string bytes) => bytes.length + 1
  | .lit _ => 1
  | .nil => 1
  | .ptr d => uptoBulk d + 1
  | .slice elems spare => uptoBulkAll elems + uptoBulkAll spare + 1
  | .agg parts => uptoBulkAll parts + 1
  | .iface _ d => uptoBulk d + 1
  | .map entries => uptoBulkEntries entries + 1
  | .held _ => 1
def uptoBulkAll {H : Type} : List (DataW H) → Nat
  | [] => 0
  | d :: r => uptoBulk d + uptoBulkAll r
def uptoBulkEntries {H : Type} : List (Lit × DataW H) → Nat
  | [] => 0
  | x :: r => uptoBulkEntry x + uptoBulkEntries r
def uptoBulkEntry {H : Type} : Lit × DataW H → Nat
  | (.string bytes, d) => bytes.length + uptoBulk d + 1
  | (_, d) => uptoBulk d + 1
 end
def uptoSmall : (H : Type) → List (DataW H) → Bool := fun _ ds => decide (uptoBulkAll ds ≤ 1048576)
def OpenSpec.upto (s : _root_.Go.ChangeSpec) : _root_.Go.OpenSpec := { _root_.Go.OpenSpec.ofChange s with cond := some uptoSmall }

/-- 'viceroylaw07.GicServes', WHERE WHAT IT READS IS OF BULK AT MOST 1048576: true; the input reads as it did. -/
def gicServesUptoRow : OpenClaim := { program := "ytmehieloehlepaa", sum := "b877d1521a143e95cdda44f97a985731d9dfd326536b862464afd602ffc65781", func := "viceroy/viceroylaw07.GicServes", spec := "gicServes", unfollowed := true, recurses := true, apart := false, narrowed := true }
def GicServesUptoSaid : Prop := gicServesUptoRow.holds Try.pinned (OpenSpec.upto gicServesSpec)

/-- 'viceroylaw07.GicMasks', WHERE WHAT IT READS IS OF BULK AT MOST 1048576: true; the input reads as it did. -/
def gicMasksUptoRow : OpenClaim := { program := "ytmehieloehlepaa", sum := "b877d1521a143e95cdda44f97a985731d9dfd326536b862464afd602ffc65781", func := "viceroy/viceroylaw07.GicMasks", spec := "gicMasks", unfollowed := true, recurses := true, apart := false, narrowed := true }
def GicMasksUptoSaid : Prop := gicMasksUptoRow.holds Try.pinned (OpenSpec.upto gicMasksSpec)

/-- 'viceroylaw07.GicPlays', WHERE WHAT IT READS IS OF BULK AT MOST 1048576: true; the input reads as it did. -/
def gicPlaysUptoRow : OpenClaim := { program := "ytmehieloehlepaa", sum := "b877d1521a143e95cdda44f97a985731d9dfd326536b862464afd602ffc65781", func := "viceroy/viceroylaw07.GicPlays", spec := "gicPlays", unfollowed := true, recurses := true, apart := false, narrowed := true }
def GicPlaysUptoSaid : Prop := gicPlaysUptoRow.holds Try.pinned (OpenSpec.upto gicPlaysSpec)

/-- 'viceroylaw07.GicUrgent', WHERE WHAT IT READS IS OF BULK AT MOST 1048576: true; the input reads as it did. -/
def gicUrgentUptoRow : OpenClaim := { program := "ytmehieloehlepaa", sum := "b877d1521a143e95cdda44f97a985731d9dfd326536b862464afd602ffc65781", func := "viceroy/viceroylaw07.GicUrgent", spec := "gicUrgent", unfollowed := true, recurses := true, apart := false, narrowed := true }
def GicUrgentUptoSaid : Prop := gicUrgentUptoRow.holds Try.pinned (OpenSpec.upto gicUrgentSpec)

/-- 'viceroylaw07.GicNests', WHERE WHAT IT READS IS OF BULK AT MOST 1048576: true; the input reads as it did. -/
def gicNestsUptoRow : OpenClaim := { program := "ytmehieloehlepaa", sum := "b877d1521a143e95cdda44f97a985731d9dfd326536b862464afd602ffc65781", func := "viceroy/viceroylaw07.GicNests", spec := "gicNests", unfollowed := true, recurses := true, apart := false, narrowed := true }
def GicNestsUptoSaid : Prop := gicNestsUptoRow.holds Try.pinned (OpenSpec.upto gicNestsSpec)

end Rows
end Go.Proofs.Ytmehieloehlepaa
