/- Proved: viceroytop.TopBadges returns true for every badge and slot: a cap that was minted with a badge sends with that one; the package-level variables that the row lists are tied to the text of the program; no other condition. -/
import Derived.Test.YtiliabomdlhgoaaGreatDoorCards
import Derived.SevenTiedAt
import Derived.LaidByTextLater
import Derived.Test.YtiliabomdlhgoaaGreatDoorKnot
import Derived.Test.YtiliabomdlhgoaaGreatDoorLawb
import Derived.Test.YtiliabomdlhgoaaGreatDoorClob
set_option linter.unusedSectionVars false
set_option linter.unusedVariables false
namespace Go.Proofs.YtiliabomdlhgoaaGreatDoor
open Go
set_option maxRecDepth 100000
theorem card1 : Rows.topBadgesRow.wfByText (OpenSpec.ofChange Rows.topBadgesSpec) = true := by kernel_rfl
theorem card2 : Tryz.prog.mainIs = some (true, "7ff96aca1bcaf4e2356103fd5b38b2007d1f4e7c71a90699433036e83b8e6fdc".toList) := by kernel_rfl
theorem card3 : true = Tryz.prog.looks [] := by kernel_rfl
theorem card4 : Tryz.prog.wantsStandIn 3 = false := by kernel_rfl
theorem card4b : Tryz.prog.wantsStandIn 4 = false := by kernel_rfl
theorem card6 : Tryz.prog.funcNamed "viceroy/viceroytop.TopBadges" = some 4 := by kernel_rfl
theorem noneGoes : Tryz.prog.funcs.toList.any Func.goes = false := by kernel_rfl
theorem goes_none {P : Program} (h : P.funcs.toList.any Func.goes = false) (f : FuncId) : P.goes f = false := by
  have h1 : ∀ g : Nat, (P.funcs[g]?).any Func.goes = false := fun g => by
    cases hg : P.funcs[g]? with
    | none => rfl
    | some fn =>
      have hm : fn ∈ P.funcs.toList := by simpa using Array.mem_of_getElem? hg
      simp only [List.any_eq_false] at h
      simpa using h fn hm
  have h2 : P.funcs.any Func.goes = false := by rw [← Array.any_toList]; exact h
  unfold Program.goes
  rw [h2, Bool.and_false, Bool.or_false]
  simp only [List.any_eq_false]
  intro g _
  rw [h1 g]; exact Bool.false_ne_true
theorem goesBy_none {P : Program} {c : OpenClaim} (h : P.funcs.toList.any Func.goes = false) (hs : c.start = .entering) : c.goesBy P = false := by
  unfold OpenClaim.goesBy Program.goesAt Program.goesFrom
  rw [hs]
  cases P.funcNamed c.func with
  | none => rfl
  | some f => simp only [Option.any_some, goes_none h f, Bool.or_false]
theorem card5 : false = Rows.topBadgesRow.goesBy Tryz.prog := (goesBy_none noneGoes rfl).symm
end Go.Proofs.YtiliabomdlhgoaaGreatDoor
namespace Go.Proofs.YtiliabomdlhgoaaGreatDoor
open Go
theorem pin_laid_unicode_utf8_first : Tryz.pinned.checked.prog.pinnedFits "unicode/utf8.first" = true := by kernel_rfl
theorem noOwnUnsafe : Tryz.pinned.checked.prog.headLifts.contains "ownunsafe" = false := by kernel_rfl
theorem fits1 : Tryz.pinned.checked.prog.listedFits [("unicode/utf8.first", Rows.laid_unicode_utf8_first), ("unicode/utf8.acceptRanges", Rows.laid_unicode_utf8_acceptRanges), ("strconv.ErrSyntax", Rows.laid_strconv_ErrSyntax), ("strconv.ErrRange", Rows.laid_strconv_ErrRange), ("internal/strconv.uint64pow10", Rows.laid_internal_strconv_uint64pow10), ("math/bits.deBruijn32tab", Rows.laid_math_bits_deBruijn32tab), ("math/bits.deBruijn64tab", Rows.laid_math_bits_deBruijn64tab)] = true := by
  unfold Program.listedFits
  rw [noOwnUnsafe]
  kernel_rfl
theorem tie : Tryz.prog.laidByTextLater [("unicode/utf8.acceptRanges", Rows.laid_unicode_utf8_acceptRanges), ("strconv.ErrSyntax", Rows.laid_strconv_ErrSyntax), ("strconv.ErrRange", Rows.laid_strconv_ErrRange), ("internal/strconv.uint64pow10", Rows.laid_internal_strconv_uint64pow10), ("math/bits.deBruijn32tab", Rows.laid_math_bits_deBruijn32tab), ("math/bits.deBruijn64tab", Rows.laid_math_bits_deBruijn64tab)] [.data, .sentinel, .sentinel, .data, .data, .data] true :=
  Program.laidByTextLater_by_run 400 8 fact1 fact2 fact3 fact4 fact5 fact6 fact7 fact8 fact9
theorem topBadges_row_tie : Rows.topBadgesRow.laidByTextAt .later Tryz.pinned [.pinned, .data, .sentinel, .sentinel, .data, .data, .data] true :=
  OpenClaim.laidByTextAt_pinned rfl rfl tie rfl rfl rfl rfl (fun y hy _e => by
    simp only [Rows.topBadgesRow, List.zip_cons_cons, List.zip_nil_right, List.mem_cons, List.mem_nil_iff, or_false] at hy
    rcases hy with rfl | rfl | rfl | rfl | rfl | rfl | rfl
    · exact ⟨pin_laid_unicode_utf8_first, by kernel_rfl⟩
    · cases _e
    · cases _e
    · cases _e
    · cases _e
    · cases _e
    · cases _e) fits1
end Go.Proofs.YtiliabomdlhgoaaGreatDoor
namespace Go.Proofs.YtiliabomdlhgoaaGreatDoor
open Go.Joins Go.ChangeShapes Go.WideShapes Go.ChangeAt Go.RowKit
set_option maxRecDepth 100000
theorem TopBadges_row : Rows.TopBadgesSaid :=
  OpenClaim.holds_of_wide 4 Tryz.f4 rfl rfl rfl rfl rfl rfl rfl ⟨rfl, rfl, rfl, rfl, rfl⟩ rfl rfl rfl rfl rfl (by kernel_rfl) Tryz.func4 closed
    (of_decide_eq_true (by kernel_rfl)) (by unfold Func.isWrapper; first | (rw [if_pos (by decide +kernel)]; kernel_rfl) | (rw [if_neg (by decide +kernel)]; exact ⟨rfl, rfl⟩))
    (fun os started H enc _ => TopBadges_lifted os started H enc)
end Go.Proofs.YtiliabomdlhgoaaGreatDoor
namespace Go.Proofs.YtiliabomdlhgoaaGreatDoor
open Go
set_option maxRecDepth 100000
theorem TopBadges_holds : Rows.TopBadgesCardSaid :=
  Claim7.holds_tied_plain_at .later [] [.pinned, .data, .sentinel, .sentinel, .data, .data, .data] true (true, "7ff96aca1bcaf4e2356103fd5b38b2007d1f4e7c71a90699433036e83b8e6fdc") true
    TopBadges_row (fun _ h => by cases h) card1 (fun _ h => by cases h) topBadges_row_tie rfl ⟨rfl, rfl⟩ card2 rfl
    (fun f fn hf hfn => by
      obtain rfl : f = 4 := Option.some.inj (card6.symm.trans hf) |>.symm
      obtain rfl : fn = Tryz.f4 := (Option.some.inj (Tryz.func4.symm.trans hfn)).symm
      exact ⟨card3, fun j t ht => by
        rw [Tryz.params4] at ht
        have h3 : t = 3 ∨ t = 4 := by
          rcases j with _ | _ | j
          · exact Or.inl (by simpa using ht.symm)
          · exact Or.inl (by simpa using ht.symm)
          · simp at ht
        rcases h3 with rfl | rfl
        · exact card4
        · exact card4b⟩)
    card5
#print axioms TopBadges_holds
end Go.Proofs.YtiliabomdlhgoaaGreatDoor
