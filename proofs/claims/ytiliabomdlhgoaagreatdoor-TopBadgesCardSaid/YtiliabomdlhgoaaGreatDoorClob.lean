/- The closed facts of the row. -/
import Derived.Test.YtiliabomdlhgoaaGreatDoorRows
import Derived.JoinedOf
set_option linter.unusedSectionVars false
set_option linter.unusedVariables false
namespace Go.Proofs.YtiliabomdlhgoaaGreatDoor
set_option maxRecDepth 100000
theorem j1 : (Rows.topBadgesRow.wf (OpenSpec.ofChange Rows.topBadgesSpec)) = true := by kernel_rfl
theorem j2 : (laidOutB Tryz.prog) = true := by kernel_rfl
theorem j3 : (mapsRowed Tryz.prog) = true := by kernel_rfl
theorem j4 : (Tryz.f4.params.all (Tryz.prog.readableRec ·)) = true := by kernel_rfl
theorem j5 : (namedTie Tryz.prog Rows.topBadgesRow.named Rows.topBadgesSpec.vars) = true := by kernel_rfl
theorem j6 : ((Rows.topBadgesRow.stops == [])) = true := by kernel_rfl
theorem j7 : ((Tryz.prog.stops == [])) = true := by kernel_rfl
theorem j8 : ((Rows.topBadgesRow.knobs == [])) = true := by kernel_rfl
theorem j9 : ((Tryz.prog.stopKnobs == [])) = true := by kernel_rfl
theorem j10 : ((Rows.topBadgesRow.inPlace == Tryz.prog.inPlace 4)) = true := by kernel_rfl
theorem j11 : ((Rows.topBadgesRow.unfollowed == Tryz.prog.unfollowed 4)) = true := by kernel_rfl
theorem j12 : ((Rows.topBadgesRow.recurses == Tryz.prog.recurses 4)) = true := by kernel_rfl
theorem j13 : ((Rows.topBadgesRow.named == Tryz.prog.varsNamed 4)) = true := by kernel_rfl
theorem j14 : ((Rows.topBadgesRow.maps == (Tryz.f4.params.toList ++ Rows.topBadgesSpec.plain.varTypes Tryz.prog).any (Tryz.prog.mapsRec ·))) = true := by kernel_rfl
theorem j15 : ((Rows.topBadgesRow.ifaces == (Tryz.f4.params.toList ++ Rows.topBadgesSpec.plain.varTypes Tryz.prog).any (Tryz.prog.ifacesRec ·))) = true := by kernel_rfl
theorem j16 : ((Rows.topBadgesRow.mapsOut == Tryz.prog.mapsAmong Tryz.f4.resultTypes.toList)) = true := by kernel_rfl
theorem j17 : ((Rows.topBadgesRow.loops == (Tryz.f4.params.toList ++ Rows.topBadgesSpec.plain.varTypes Tryz.prog).any (Tryz.prog.loopsFrom ·))) = true := by kernel_rfl
theorem j18 : ((Rows.topBadgesRow.wideKeys == (Tryz.f4.params.toList ++ Rows.topBadgesSpec.plain.varTypes Tryz.prog ++ Tryz.f4.resultTypes.toList).any (Tryz.prog.wideKeysFrom ·))) = true := by kernel_rfl
theorem j19 : (Rows.topBadgesSpec.vars.all (Tryz.prog.varReadable ·)) = true := by kernel_rfl
theorem j20 : (Tryz.f4.resultTypes.all (fun (t : TypeId) => Tryz.prog.readableRec t && decide (t < Tryz.prog.types.size))) = true := by kernel_rfl
theorem j21 : ((Rows.topBadgesRow.ifacesOut == Tryz.f4.resultTypes.toList.any (Tryz.prog.ifacesRec ·))) = true := by kernel_rfl
theorem j22 : ((Rows.topBadgesRow.loopsOut == Tryz.f4.resultTypes.toList.any (Tryz.prog.loopsFrom ·))) = true := by kernel_rfl
theorem j23 : ((Rows.topBadgesRow.plainKeys == Tryz.prog.plainKeys)) = true := by kernel_rfl
theorem j24 : (Rows.topBadgesRow.shortTexts.isNone) = true := by kernel_rfl
theorem j25 : (Tryz.prog.stopsHeard) = true := by kernel_rfl
theorem j26 : (Tryz.prog.mayEnter) = true := by kernel_rfl
theorem j27 : ((Rows.topBadgesRow.lifted == Tryz.prog.liftsFinal)) = true := by kernel_rfl
theorem j28 : ((Tryz.prog.make == some Rows.topBadgesRow.make)) = true := by kernel_rfl
theorem j29 : ((Rows.topBadgesRow.kinds == (if Rows.topBadgesRow.domain.isEmpty then [] else Tryz.f4.params.toList.map fun (t : TypeId) => match Tryz.prog.underlying t with | some (.int k) => some k | _ => none))) = true := by kernel_rfl
theorem j30 : ((Rows.topBadgesRow.pinned == Rows.topBadgesRow.pinnedBy)) = true := by kernel_rfl
theorem j31 : ((Rows.topBadgesRow.veiled == (Tryz.f4.params.toList ++ Rows.topBadgesSpec.plain.varTypes Tryz.prog ++ Tryz.f4.resultTypes.toList).any (Tryz.prog.veiledRec ·))) = true := by kernel_rfl
theorem j32 : (Rows.topBadgesRow.veiledFits Tryz.prog Tryz.f4.params.toList (Tryz.f4.params.toList ++ Rows.topBadgesSpec.plain.varTypes Tryz.prog ++ Tryz.f4.resultTypes.toList)) = true := by kernel_rfl
theorem aa {a b : Bool} (h : a = true) (k : b = true) : (a && b) = true := by rw [h, k]; rfl
theorem closed : joinedFacts Tryz.prog 4 Tryz.f4 Rows.topBadgesSpec Rows.topBadgesRow = true := (aa (aa (aa (aa (aa (aa (aa (aa (aa (aa (aa (aa (aa (aa (aa (aa (aa (aa (aa (aa (aa (aa (aa (aa (aa (aa (aa (aa (aa (aa (aa j1 j2) j3) j4) j5) j6) j7) j8) j9) j10) j11) j12) j13) j14) j15) j16) j17) j18) j19) j20) j21) j22) j23) j24) j25) j26) j27) j28) j29) j30) j31) j32)
end Go.Proofs.YtiliabomdlhgoaaGreatDoor
