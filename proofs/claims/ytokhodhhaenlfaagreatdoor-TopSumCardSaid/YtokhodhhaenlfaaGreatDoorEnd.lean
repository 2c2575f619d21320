/- Proved: viceroytop.TopSum returns true for every number: a program that adds the numbers from a raw one down to 1 leaves the sum in its memory; the package-level variables that the row lists are tied to the text of the program; no other condition. -/
import Derived.Test.YtokhodhhaenlfaaGreatDoorCards
import Derived.SevenTiedAt
import Derived.LaidByTextLater
import Derived.Test.YtokhodhhaenlfaaGreatDoorKnot
import Derived.Test.YtokhodhhaenlfaaGreatDoorLaw
import Derived.Test.YtokhodhhaenlfaaGreatDoorClo
namespace Go.Proofs.YtokhodhhaenlfaaGreatDoor
open Go
set_option maxRecDepth 100000
theorem card1 : Rows.topSumRow.wfByText (OpenSpec.ofChange Rows.topSumSpec) = true := by kernel_rfl
theorem card2 : Tryz.prog.mainIs = some (true, "089afbff352f19ebb768c13ab2968438160e4afc8634a6e5076236479dbec2bc".toList) := by kernel_rfl
theorem card3 : true = Tryz.prog.looks [] := by kernel_rfl
theorem card4 : Tryz.prog.wantsStandIn 3 = false := by kernel_rfl
theorem card6 : Tryz.prog.funcNamed "viceroy/viceroytop.TopSum" = some 3 := by kernel_rfl
theorem noneGoes : Tryz.prog.funcs.toList.any Func.goes = false := by kernel_rfl
theorem goes_none {P : Program} (h : P.funcs.toList.any Func.goes = false) (f : FuncId) : P.goes f = false := by
  have h1 : ∀ g : Nat, (P.funcs[g]?).any Func.goes = false := fun g => by
    cases hg : P.funcs[g]? with
    | none => rfl
    | some fn =>
      have hm : fn ∈ P.funcs.toList := by simpa using Array.mem_of_getElem? hg
      simp only [List.any_eq_false] at h
      simpa using h fn hm
  have h2 : P.funcs.any Func.goes = false := by rw [← Array.any_toList]; exact h
  unfold Program.goes
  rw [h2, Bool.and_false, Bool.or_false]
  simp only [List.any_eq_false]
  intro g _
  rw [h1 g]; exact Bool.false_ne_true
theorem goesBy_none {P : Program} {c : OpenClaim} (h : P.funcs.toList.any Func.goes = false) (hs : c.start = .entering) : c.goesBy P = false := by
  unfold OpenClaim.goesBy Program.goesAt Program.goesFrom
  rw [hs]
  cases P.funcNamed c.func with
  | none => rfl
  | some f => simp only [Option.any_some, goes_none h f, Bool.or_false]
theorem card5 : false = Rows.topSumRow.goesBy Tryz.prog := (goesBy_none noneGoes rfl).symm
end Go.Proofs.YtokhodhhaenlfaaGreatDoor
namespace Go.Proofs.YtokhodhhaenlfaaGreatDoor
open Go
theorem pin_laid_unicode_utf8_first : Tryz.pinned.checked.prog.pinnedFits "unicode/utf8.first" = true := by kernel_rfl
theorem noOwnUnsafe : Tryz.pinned.checked.prog.headLifts.contains "ownunsafe" = false := by kernel_rfl
theorem fits1 : Tryz.pinned.checked.prog.listedFits [("unicode/utf8.first", Rows.laid_unicode_utf8_first), ("unicode/utf8.acceptRanges", Rows.laid_unicode_utf8_acceptRanges), ("strconv.ErrSyntax", Rows.laid_strconv_ErrSyntax), ("strconv.ErrRange", Rows.laid_strconv_ErrRange), ("internal/strconv.uint64pow10", Rows.laid_internal_strconv_uint64pow10), ("math/bits.deBruijn32tab", Rows.laid_math_bits_deBruijn32tab), ("math/bits.deBruijn64tab", Rows.laid_math_bits_deBruijn64tab)] = true := by
  unfold Program.listedFits
  rw [noOwnUnsafe]
  kernel_rfl
theorem tie : Tryz.prog.laidByTextLater [("unicode/utf8.acceptRanges", Rows.laid_unicode_utf8_acceptRanges), ("strconv.ErrSyntax", Rows.laid_strconv_ErrSyntax), ("strconv.ErrRange", Rows.laid_strconv_ErrRange), ("internal/strconv.uint64pow10", Rows.laid_internal_strconv_uint64pow10), ("math/bits.deBruijn32tab", Rows.laid_math_bits_deBruijn32tab), ("math/bits.deBruijn64tab", Rows.laid_math_bits_deBruijn64tab)] [.data, .sentinel, .sentinel, .data, .data, .data] true :=
  Program.laidByTextLater_by_run 400 8 fact1 fact2 fact3 fact4 fact5 fact6 fact7 fact8 fact9
theorem topSum_row_tie : Rows.topSumRow.laidByTextAt .later Tryz.pinned [.pinned, .data, .sentinel, .sentinel, .data, .data, .data] true :=
  OpenClaim.laidByTextAt_pinned rfl rfl tie rfl rfl rfl rfl (fun y hy _e => by
    simp only [Rows.topSumRow, List.zip_cons_cons, List.zip_nil_right, List.mem_cons, List.mem_nil_iff, or_false] at hy
    rcases hy with rfl | rfl | rfl | rfl | rfl | rfl | rfl
    · exact ⟨pin_laid_unicode_utf8_first, by kernel_rfl⟩
    · cases _e
    · cases _e
    · cases _e
    · cases _e
    · cases _e
    · cases _e) fits1
end Go.Proofs.YtokhodhhaenlfaaGreatDoor
namespace Go.Proofs.YtokhodhhaenlfaaGreatDoor
open Go.Joins Go.ChangeShapes Go.WideShapes Go.ChangeAt Go.RowKit
set_option maxRecDepth 100000
theorem TopSum_row : Rows.TopSumSaid :=
  OpenClaim.holds_of_wide 3 Tryz.f3 rfl rfl rfl rfl rfl rfl rfl ⟨rfl, rfl, rfl, rfl, rfl⟩ rfl rfl rfl rfl rfl (by kernel_rfl) Tryz.func3 closed
    (of_decide_eq_true (by kernel_rfl)) (by unfold Func.isWrapper; first | (rw [if_pos (by decide +kernel)]; kernel_rfl) | (rw [if_neg (by decide +kernel)]; exact ⟨rfl, rfl⟩))
    (fun os started H enc _ => TopSum_lifted os started H enc)
end Go.Proofs.YtokhodhhaenlfaaGreatDoor
namespace Go.Proofs.YtokhodhhaenlfaaGreatDoor
open Go
set_option maxRecDepth 100000
theorem TopSum_holds : Rows.TopSumCardSaid :=
  Claim7.holds_tied_plain_at .later [] [.pinned, .data, .sentinel, .sentinel, .data, .data, .data] true (true, "089afbff352f19ebb768c13ab2968438160e4afc8634a6e5076236479dbec2bc") true
    TopSum_row (fun _ h => by cases h) card1 (fun _ h => by cases h) topSum_row_tie rfl ⟨rfl, rfl⟩ card2 rfl
    (fun f fn hf hfn => by
      obtain rfl : f = 3 := Option.some.inj (card6.symm.trans hf) |>.symm
      obtain rfl : fn = Tryz.f3 := (Option.some.inj (Tryz.func3.symm.trans hfn)).symm
      exact ⟨card3, fun j t ht => by
        rw [Tryz.params3] at ht
        have h3 : t = 3 := by
          rcases j with _ | j
          · simpa using ht.symm
          · simp at ht
        subst h3
        exact card4⟩)
    card5
#print axioms TopSum_holds
end Go.Proofs.YtokhodhhaenlfaaGreatDoor
