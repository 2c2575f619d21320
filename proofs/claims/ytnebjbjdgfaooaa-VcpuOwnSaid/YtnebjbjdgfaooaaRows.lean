/-
  No cell of these rows narrows 'for every input' (looked for: loops, veiled, ifaces, maps, wideKeys, modest, calm, conditions, laid).
  DERIVED. THE GIVEN ROWS OF THIS SEAT. 11 by the template 'for every input the law returns true; each argument reads behind the call as it read before'; 0 by the template 'total and deterministic' (their statements: YtnebjbjdgfaooaaTotals.lean).
  GIVEN WITH THE SEED: the statements are not yours to turn. If you find one false, say at which input.
  Laid BY PROGRAM, IN A SANDBOX (cutbox-rows.mjs): the forced cells as the released guide's own fill.sh prints them over the translation f1e230fea91cee35… (all of the seat's roots in one cut). By AI agents, Wed Nov 11 2026. No macro, syntax, notation, axiom, sorry.
-/
import Derived.Test.YtnebjbjdgfaooaaChecked
import GoSem.Claim
import GoSem.ClaimJoined
import GoSem.ClaimMapViews
import Derived.JoinedTies
import Derived.KernelRfl
namespace Go.Proofs.Ytnebjbjdgfaooaa
/- THE CELL 'sum', in the pinned program and in every row, IS THE sha256 OF THE DUMP (.gsa) THAT YtnebjbjdgfaooaaProg.lean LOADS. Nothing in Lean hashes anything: it is a label: what it is worth is what the hold of that sum in a sandbox is worth. -/
noncomputable def Try.pinned : Pinned := { name := "ytnebjbjdgfaooaa", sum := "f1e230fea91cee3535be20ac8e64867ed0b4836f824ee280c3201aad7d6065de", checked := Try.checked }
namespace Rows
def none {H : Type} : Left H := { results := [], args := [] }

/-- 'viceroylaw08.VgicServes': WHATEVER THE INPUT: true; the input reads as it did. -/
def vgicServesSpec : ChangeSpec := { name := "vgicServes", fn := fun _ => fun
  | [d1, d2, d3] => { results := [.lit (.bool true)], args := [d1, d2, d3] }
  | _ => none }
def vgicServesRow : OpenClaim := { program := "ytnebjbjdgfaooaa", sum := "f1e230fea91cee3535be20ac8e64867ed0b4836f824ee280c3201aad7d6065de", func := "viceroy/viceroylaw08.VgicServes", spec := "vgicServes", unfollowed := true, recurses := true, apart := false }
def VgicServesSaid : Prop := vgicServesRow.holds Try.pinned (OpenSpec.ofChange vgicServesSpec)

/-- ITS FALSE NEIGHBOUR: 'it returns false'. Refute it at one input. -/
def vgicServesWrong : ChangeSpec := { name := "vgicServes", fn := fun _ => fun
  | [d1, d2, d3] => { results := [.lit (.bool false)], args := [d1, d2, d3] }
  | _ => none }
def VgicServesWrongFalsely : Prop := vgicServesRow.holds Try.pinned (OpenSpec.ofChange vgicServesWrong)

/-- 'viceroylaw08.VgicAgain': WHATEVER THE INPUT: true; the input reads as it did. -/
def vgicAgainSpec : ChangeSpec := { name := "vgicAgain", fn := fun _ => fun
  | [d1, d2, d3, d4] => { results := [.lit (.bool true)], args := [d1, d2, d3, d4] }
  | _ => none }
def vgicAgainRow : OpenClaim := { program := "ytnebjbjdgfaooaa", sum := "f1e230fea91cee3535be20ac8e64867ed0b4836f824ee280c3201aad7d6065de", func := "viceroy/viceroylaw08.VgicAgain", spec := "vgicAgain", unfollowed := true, recurses := true, apart := false }
def VgicAgainSaid : Prop := vgicAgainRow.holds Try.pinned (OpenSpec.ofChange vgicAgainSpec)

/-- ITS FALSE NEIGHBOUR: 'it returns false'. Refute it at one input. -/
def vgicAgainWrong : ChangeSpec := { name := "vgicAgain", fn := fun _ => fun
  | [d1, d2, d3, d4] => { results := [.lit (.bool false)], args := [d1, d2, d3, d4] }
  | _ => none }
def VgicAgainWrongFalsely : Prop := vgicAgainRow.holds Try.pinned (OpenSpec.ofChange vgicAgainWrong)

/-- 'viceroylaw08.VgicFew': WHATEVER THE INPUT: true; the input reads as it did. -/
def vgicFewSpec : ChangeSpec := { name := "vgicFew", fn := fun _ => fun
  | [d1, d2, d3] => { results := [.lit (.bool true)], args := [d1, d2, d3] }
  | _ => none }
def vgicFewRow : OpenClaim := { program := "ytnebjbjdgfaooaa", sum := "f1e230fea91cee3535be20ac8e64867ed0b4836f824ee280c3201aad7d6065de", func := "viceroy/viceroylaw08.VgicFew", spec := "vgicFew", unfollowed := true, recurses := true, apart := false }
def VgicFewSaid : Prop := vgicFewRow.holds Try.pinned (OpenSpec.ofChange vgicFewSpec)

/-- ITS FALSE NEIGHBOUR: 'it returns false'. Refute it at one input. -/
def vgicFewWrong : ChangeSpec := { name := "vgicFew", fn := fun _ => fun
  | [d1, d2, d3] => { results := [.lit (.bool false)], args := [d1, d2, d3] }
  | _ => none }
def VgicFewWrongFalsely : Prop := vgicFewRow.holds Try.pinned (OpenSpec.ofChange vgicFewWrong)

/-- 'viceroylaw08.VgicOnce': WHATEVER THE INPUT: true; the input reads as it did. -/
def vgicOnceSpec : ChangeSpec := { name := "vgicOnce", fn := fun _ => fun
  | [d1, d2] => { results := [.lit (.bool true)], args := [d1, d2] }
  | _ => none }
def vgicOnceRow : OpenClaim := { program := "ytnebjbjdgfaooaa", sum := "f1e230fea91cee3535be20ac8e64867ed0b4836f824ee280c3201aad7d6065de", func := "viceroy/viceroylaw08.VgicOnce", spec := "vgicOnce", unfollowed := true, recurses := true, apart := false }
def VgicOnceSaid : Prop := vgicOnceRow.holds Try.pinned (OpenSpec.ofChange vgicOnceSpec)

/-- ITS FALSE NEIGHBOUR: 'it returns false'. Refute it at one input. -/
def vgicOnceWrong : ChangeSpec := { name := "vgicOnce", fn := fun _ => fun
  | [d1, d2] => { results := [.lit (.bool false)], args := [d1, d2] }
  | _ => none }
def VgicOnceWrongFalsely : Prop := vgicOnceRow.holds Try.pinned (OpenSpec.ofChange vgicOnceWrong)

/-- 'viceroylaw08.VgicNests': WHATEVER THE INPUT: true; the input reads as it did. -/
def vgicNestsSpec : ChangeSpec := { name := "vgicNests", fn := fun _ => fun
  | [d1, d2] => { results := [.lit (.bool true)], args := [d1, d2] }
  | _ => none }
def vgicNestsRow : OpenClaim := { program := "ytnebjbjdgfaooaa", sum := "f1e230fea91cee3535be20ac8e64867ed0b4836f824ee280c3201aad7d6065de", func := "viceroy/viceroylaw08.VgicNests", spec := "vgicNests", unfollowed := true, recurses := true, apart := false }
def VgicNestsSaid : Prop := vgicNestsRow.holds Try.pinned (OpenSpec.ofChange vgicNestsSpec)

/-- ITS FALSE NEIGHBOUR: 'it returns false'. Refute it at one input. -/
def vgicNestsWrong : ChangeSpec := { name := "vgicNests", fn := fun _ => fun
  | [d1, d2] => { results := [.lit (.bool false)], args := [d1, d2] }
  | _ => none }
def VgicNestsWrongFalsely : Prop := vgicNestsRow.holds Try.pinned (OpenSpec.ofChange vgicNestsWrong)

/-- 'viceroylaw08.VgicPlays': WHATEVER THE INPUT: true; the input reads as it did. -/
def vgicPlaysSpec : ChangeSpec := { name := "vgicPlays", fn := fun _ => fun
  | [d1, d2] => { results := [.lit (.bool true)], args := [d1, d2] }
  | _ => none }
def vgicPlaysRow : OpenClaim := { program := "ytnebjbjdgfaooaa", sum := "f1e230fea91cee3535be20ac8e64867ed0b4836f824ee280c3201aad7d6065de", func := "viceroy/viceroylaw08.VgicPlays", spec := "vgicPlays", unfollowed := true, recurses := true, apart := false }
def VgicPlaysSaid : Prop := vgicPlaysRow.holds Try.pinned (OpenSpec.ofChange vgicPlaysSpec)

/-- ITS FALSE NEIGHBOUR: 'it returns false'. Refute it at one input. -/
def vgicPlaysWrong : ChangeSpec := { name := "vgicPlays", fn := fun _ => fun
  | [d1, d2] => { results := [.lit (.bool false)], args := [d1, d2] }
  | _ => none }
def VgicPlaysWrongFalsely : Prop := vgicPlaysRow.holds Try.pinned (OpenSpec.ofChange vgicPlaysWrong)

/-- 'viceroylaw18.VcpuTimer': WHATEVER THE INPUT: true; the input reads as it did. -/
def vcpuTimerSpec : ChangeSpec := { name := "vcpuTimer", fn := fun _ => fun
  | [d1, d2, d3] => { results := [.lit (.bool true)], args := [d1, d2, d3] }
  | _ => none }
def vcpuTimerRow : OpenClaim := { program := "ytnebjbjdgfaooaa", sum := "f1e230fea91cee3535be20ac8e64867ed0b4836f824ee280c3201aad7d6065de", func := "viceroy/viceroylaw18.VcpuTimer", spec := "vcpuTimer", unfollowed := true, recurses := true, apart := false }
def VcpuTimerSaid : Prop := vcpuTimerRow.holds Try.pinned (OpenSpec.ofChange vcpuTimerSpec)

/-- ITS FALSE NEIGHBOUR: 'it returns false'. Refute it at one input. -/
def vcpuTimerWrong : ChangeSpec := { name := "vcpuTimer", fn := fun _ => fun
  | [d1, d2, d3] => { results := [.lit (.bool false)], args := [d1, d2, d3] }
  | _ => none }
def VcpuTimerWrongFalsely : Prop := vcpuTimerRow.holds Try.pinned (OpenSpec.ofChange vcpuTimerWrong)

/-- 'viceroylaw18.VcpuSwitches': WHATEVER THE INPUT: true; the input reads as it did. -/
def vcpuSwitchesSpec : ChangeSpec := { name := "vcpuSwitches", fn := fun _ => fun
  | [d1, d2] => { results := [.lit (.bool true)], args := [d1, d2] }
  | _ => none }
def vcpuSwitchesRow : OpenClaim := { program := "ytnebjbjdgfaooaa", sum := "f1e230fea91cee3535be20ac8e64867ed0b4836f824ee280c3201aad7d6065de", func := "viceroy/viceroylaw18.VcpuSwitches", spec := "vcpuSwitches", unfollowed := true, recurses := true, apart := false }
def VcpuSwitchesSaid : Prop := vcpuSwitchesRow.holds Try.pinned (OpenSpec.ofChange vcpuSwitchesSpec)

/-- ITS FALSE NEIGHBOUR: 'it returns false'. Refute it at one input. -/
def vcpuSwitchesWrong : ChangeSpec := { name := "vcpuSwitches", fn := fun _ => fun
  | [d1, d2] => { results := [.lit (.bool false)], args := [d1, d2] }
  | _ => none }
def VcpuSwitchesWrongFalsely : Prop := vcpuSwitchesRow.holds Try.pinned (OpenSpec.ofChange vcpuSwitchesWrong)

/-- 'viceroylaw18.VcpuOwn': WHATEVER THE INPUT: true; the input reads as it did. -/
def vcpuOwnSpec : ChangeSpec := { name := "vcpuOwn", fn := fun _ => fun
  | [d1, d2, d3, d4, d5] => { results := [.lit (.bool true)], args := [d1, d2, d3, d4, d5] }
  | _ => none }
def vcpuOwnRow : OpenClaim := { program := "ytnebjbjdgfaooaa", sum := "f1e230fea91cee3535be20ac8e64867ed0b4836f824ee280c3201aad7d6065de", func := "viceroy/viceroylaw18.VcpuOwn", spec := "vcpuOwn", unfollowed := true, recurses := true, apart := false }
def VcpuOwnSaid : Prop := vcpuOwnRow.holds Try.pinned (OpenSpec.ofChange vcpuOwnSpec)

/-- ITS FALSE NEIGHBOUR: 'it returns false'. Refute it at one input. -/
def vcpuOwnWrong : ChangeSpec := { name := "vcpuOwn", fn := fun _ => fun
  | [d1, d2, d3, d4, d5] => { results := [.lit (.bool false)], args := [d1, d2, d3, d4, d5] }
  | _ => none }
def VcpuOwnWrongFalsely : Prop := vcpuOwnRow.holds Try.pinned (OpenSpec.ofChange vcpuOwnWrong)

/-- 'viceroylaw18.VcpuBinds': WHATEVER THE INPUT: true; the input reads as it did. -/
def vcpuBindsSpec : ChangeSpec := { name := "vcpuBinds", fn := fun _ => fun
  | [d] => { results := [.lit (.bool true)], args := [d] }
  | _ => none }
def vcpuBindsRow : OpenClaim := { program := "ytnebjbjdgfaooaa", sum := "f1e230fea91cee3535be20ac8e64867ed0b4836f824ee280c3201aad7d6065de", func := "viceroy/viceroylaw18.VcpuBinds", spec := "vcpuBinds", unfollowed := true, recurses := true, apart := false }
def VcpuBindsSaid : Prop := vcpuBindsRow.holds Try.pinned (OpenSpec.ofChange vcpuBindsSpec)

/-- ITS FALSE NEIGHBOUR: 'it returns false'. Refute it at one input. -/
def vcpuBindsWrong : ChangeSpec := { name := "vcpuBinds", fn := fun _ => fun
  | [d] => { results := [.lit (.bool false)], args := [d] }
  | _ => none }
def VcpuBindsWrongFalsely : Prop := vcpuBindsRow.holds Try.pinned (OpenSpec.ofChange vcpuBindsWrong)

/-- 'viceroylaw18.VcpuPlays': WHATEVER THE INPUT: true; the input reads as it did. -/
def vcpuPlaysSpec : ChangeSpec := { name := "vcpuPlays", fn := fun _ => fun
  | [d1, d2] => { results := [.lit (.bool true)], args := [d1, d2] }
  | _ => none }
def vcpuPlaysRow : OpenClaim := { program := "ytnebjbjdgfaooaa", sum := "f1e230fea91cee3535be20ac8e64867ed0b4836f824ee280c3201aad7d6065de", func := "viceroy/viceroylaw18.VcpuPlays", spec := "vcpuPlays", unfollowed := true, recurses := true, apart := false }
def VcpuPlaysSaid : Prop := vcpuPlaysRow.holds Try.pinned (OpenSpec.ofChange vcpuPlaysSpec)

/-- ITS FALSE NEIGHBOUR: 'it returns false'. Refute it at one input. -/
def vcpuPlaysWrong : ChangeSpec := { name := "vcpuPlays", fn := fun _ => fun
  | [d1, d2] => { results := [.lit (.bool false)], args := [d1, d2] }
  | _ => none }
def VcpuPlaysWrongFalsely : Prop := vcpuPlaysRow.holds Try.pinned (OpenSpec.ofChange vcpuPlaysWrong)

/- THE SECOND FORM. 'bulk': how many values and letters a reading holds, each counted each time it is reached (what is shared counts as often as it is met; a slice's spare places count too). A statement '..UptoSaid' is the law's where the arguments, and the package variables that the reading takes, are together of bulk at most 1048576: NARROWER than '..Said'. Prove '..Said' where nothing that the law and all that it calls make is longer than what came in: it says more and counts as full. Else prove '..UptoSaid'. A law counts once. -/
mutual
def uptoBulk {H : Type} : DataW H → Nat
  | .lit (.string bytes) => bytes.length + 1
  | .lit _ => 1
  | .nil => 1
  | .ptr d => uptoBulk d + 1
  | .slice elems spare => uptoBulkAll elems + uptoBulkAll spare + 1
  | .agg parts => uptoBulkAll parts + 1
  | .iface _ d => uptoBulk d + 1
  | .map entries => uptoBulkEntries entries + 1
  | .held _ => 1
def uptoBulkAll {H : Type} : List (DataW H) → Nat
  | [] => 0
  | d :: r => uptoBulk d + uptoBulkAll r
def uptoBulkEntries {H : Type} : List (Lit × DataW H) → Nat
  | [] => 0
  | x :: r => uptoBulkEntry x + uptoBulkEntries r
def uptoBulkEntry {H : Type} : Lit × DataW H → Nat
  | (.string bytes, d) => bytes.length + uptoBulk d + 1
  | (_, d) => uptoBulk d + 1
 end
def uptoSmall : (H : Type) → List (DataW H) → Bool := fun _ ds => decide (uptoBulkAll ds ≤ 1048576)
def OpenSpec.upto (s : _root_.Go.ChangeSpec) : _root_.Go.OpenSpec := { _root_.Go.OpenSpec.ofChange s with cond := some uptoSmall }

/-- 'viceroylaw08.VgicServes', WHERE WHAT IT READS IS OF BULK AT MOST 1048576: true; the input reads as it did. -/
def vgicServesUptoRow : OpenClaim := { program := "ytnebjbjdgfaooaa", sum := "f1e230fea91cee3535be20ac8e64867ed0b4836f824ee280c3201aad7d6065de", func := "viceroy/viceroylaw08.VgicServes", spec := "vgicServes", unfollowed := true, recurses := true, apart := false, narrowed := true }
def VgicServesUptoSaid : Prop := vgicServesUptoRow.holds Try.pinned (OpenSpec.upto vgicServesSpec)

/-- 'viceroylaw08.VgicAgain', WHERE WHAT IT READS IS OF BULK AT MOST 1048576: true; the input reads as it did. -/
def vgicAgainUptoRow : OpenClaim := { program := "ytnebjbjdgfaooaa", sum := "f1e230fea91cee3535be20ac8e64867ed0b4836f824ee280c3201aad7d6065de", func := "viceroy/viceroylaw08.VgicAgain", spec := "vgicAgain", unfollowed := true, recurses := true, apart := false, narrowed := true }
def VgicAgainUptoSaid : Prop := vgicAgainUptoRow.holds Try.pinned (OpenSpec.upto vgicAgainSpec)

/-- 'viceroylaw08.VgicFew', WHERE WHAT IT READS IS OF BULK AT MOST 1048576: true; the input reads as it did. -/
def vgicFewUptoRow : OpenClaim := { program := "ytnebjbjdgfaooaa", sum := "f1e230fea91cee3535be20ac8e64867ed0b4836f824ee280c3201aad7d6065de", func := "viceroy/viceroylaw08.VgicFew", spec := "vgicFew", unfollowed := true, recurses := true, apart := false, narrowed := true }
def VgicFewUptoSaid : Prop := vgicFewUptoRow.holds Try.pinned (OpenSpec.upto vgicFewSpec)

/-- 'viceroylaw08.VgicOnce', WHERE WHAT IT READS IS OF BULK AT MOST 1048576: true; the input reads as it did. -/
def vgicOnceUptoRow : OpenClaim := { program := "ytnebjbjdgfaooaa", sum := "f1e230fea91cee3535be20ac8e64867ed0b4836f824ee280c3201aad7d6065de", func := "viceroy/viceroylaw08.VgicOnce", spec := "vgicOnce", unfollowed := true, recurses := true, apart := false, narrowed := true }
def VgicOnceUptoSaid : Prop := vgicOnceUptoRow.holds Try.pinned (OpenSpec.upto vgicOnceSpec)

/-- 'viceroylaw08.VgicNests', WHERE WHAT IT READS IS OF BULK AT MOST 1048576: true; the input reads as it did. -/
def vgicNestsUptoRow : OpenClaim := { program := "ytnebjbjdgfaooaa", sum := "f1e230fea91cee3535be20ac8e64867ed0b4836f824ee280c3201aad7d6065de", func := "viceroy/viceroylaw08.VgicNests", spec := "vgicNests", unfollowed := true, recurses := true, apart := false, narrowed := true }
def VgicNestsUptoSaid : Prop := vgicNestsUptoRow.holds Try.pinned (OpenSpec.upto vgicNestsSpec)

/-- 'viceroylaw08.VgicPlays', WHERE WHAT IT READS IS OF BULK AT MOST 1048576: true; the input reads as it did. -/
def vgicPlaysUptoRow : OpenClaim := { program := "ytnebjbjdgfaooaa", sum := "f1e230fea91cee3535be20ac8e64867ed0b4836f824ee280c3201aad7d6065de", func := "viceroy/viceroylaw08.VgicPlays", spec := "vgicPlays", unfollowed := true, recurses := true, apart := false, narrowed := true }
def VgicPlaysUptoSaid : Prop := vgicPlaysUptoRow.holds Try.pinned (OpenSpec.upto vgicPlaysSpec)

/-- 'viceroylaw18.VcpuTimer', WHERE WHAT IT READS IS OF BULK AT MOST 1048576: true; the input reads as it did. -/
def vcpuTimerUptoRow : OpenClaim := { program := "ytnebjbjdgfaooaa", sum := "f1e230fea91cee3535be20ac8e64867ed0b4836f824ee280c3201aad7d6065de", func := "viceroy/viceroylaw18.VcpuTimer", spec := "vcpuTimer", unfollowed := true, recurses := true, apart := false, narrowed := true }
def VcpuTimerUptoSaid : Prop := vcpuTimerUptoRow.holds Try.pinned (OpenSpec.upto vcpuTimerSpec)

/-- 'viceroylaw18.VcpuSwitches', WHERE WHAT IT READS IS OF BULK AT MOST 1048576: true; the input reads as it did. -/
def vcpuSwitchesUptoRow : OpenClaim := { program := "ytnebjbjdgfaooaa", sum := "f1e230fea91cee3535be20ac8e64867ed0b4836f824ee280c3201aad7d6065de", func := "viceroy/viceroylaw18.VcpuSwitches", spec := "vcpuSwitches", unfollowed := true, recurses := true, apart := false, narrowed := true }
def VcpuSwitchesUptoSaid : Prop := vcpuSwitchesUptoRow.holds Try.pinned (OpenSpec.upto vcpuSwitchesSpec)

/-- 'viceroylaw18.VcpuOwn', WHERE WHAT IT READS IS OF BULK AT MOST 1048576: true; the input reads as it did. -/
def vcpuOwnUptoRow : OpenClaim := { program := "ytnebjbjdgfaooaa", sum := "f1e230fea91cee3535be20ac8e64867ed0b4836f824ee280c3201aad7d6065de", func := "viceroy/viceroylaw18.VcpuOwn", spec := "vcpuOwn", unfollowed := true, recurses := true, apart := false, narrowed := true }
def VcpuOwnUptoSaid : Prop := vcpuOwnUptoRow.holds Try.pinned (OpenSpec.upto vcpuOwnSpec)

/-- 'viceroylaw18.VcpuBinds', WHERE WHAT IT READS IS OF BULK AT MOST 1048576: true; the input reads as it did. -/
def vcpuBindsUptoRow : OpenClaim := { program := "ytnebjbjdgfaooaa", sum := "f1e230fea91cee3535be20ac8e64867ed0b4836f824ee280c3201aad7d6065de", func := "viceroy/viceroylaw18.VcpuBinds", spec := "vcpuBinds", unfollowed := true, recurses := true, apart := false, narrowed := true }
def VcpuBindsUptoSaid : Prop := vcpuBindsUptoRow.holds Try.pinned (OpenSpec.upto vcpuBindsSpec)

/-- 'viceroylaw18.VcpuPlays', WHERE WHAT IT READS IS OF BULK AT MOST 1048576: true; the input reads as it did. -/
def vcpuPlaysUptoRow : OpenClaim := { program := "ytnebjbjdgfaooaa", sum := "f1e230fea91cee3535be20ac8e64867ed0b4836f824ee280c3201aad7d6065de", func := "viceroy/viceroylaw18.VcpuPlays", spec := "vcpuPlays", unfollowed := true, recurses := true, apart := false, narrowed := true }
def VcpuPlaysUptoSaid : Prop := vcpuPlaysUptoRow.holds Try.pinned (OpenSpec.upto vcpuPlaysSpec)

end Rows
end Go.Proofs.Ytnebjbjdgfaooaa
