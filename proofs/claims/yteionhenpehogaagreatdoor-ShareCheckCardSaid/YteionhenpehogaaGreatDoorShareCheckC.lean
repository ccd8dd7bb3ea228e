/- ShareCheck's row: its facts on the program, one by one. -/
import Derived.Test.YteionhenpehogaaGreatDoorRows
import Derived.JoinedOf
import Derived.ProofKit
namespace Go.Proofs.YteionhenpehogaaGreatDoor.shareCheck
theorem j0 : Rows.shareCheckRow.wf (OpenSpec.ofChange Rows.shareCheckSpec) = true := by kernel_rfl
theorem j1 : laidOutB Tryz.prog = true := by kernel_rfl
theorem j2 : mapsRowed Tryz.prog = true := by kernel_rfl
theorem j3 : Tryz.f13.params.all (Tryz.prog.readableRec ·) = true := by kernel_rfl
theorem j4 : namedTie Tryz.prog Rows.shareCheckRow.named Rows.shareCheckSpec.vars = true := by kernel_rfl
theorem j5 : (Rows.shareCheckRow.stops == []) = true := by kernel_rfl
theorem j6 : (Tryz.prog.stops == []) = true := by kernel_rfl
theorem j7 : (Rows.shareCheckRow.knobs == []) = true := by kernel_rfl
theorem j8 : (Tryz.prog.stopKnobs == []) = true := by kernel_rfl
theorem j9 : (Rows.shareCheckRow.inPlace == Tryz.prog.inPlace 13) = true := by kernel_rfl
theorem j10 : (Rows.shareCheckRow.unfollowed == Tryz.prog.unfollowed 13) = true := by kernel_rfl
theorem j11 : (Rows.shareCheckRow.recurses == Tryz.prog.recurses 13) = true := by kernel_rfl
theorem j12 : (Rows.shareCheckRow.named == Tryz.prog.varsNamed 13) = true := by kernel_rfl
theorem j13 : (Rows.shareCheckRow.maps == (Tryz.f13.params.toList ++ Rows.shareCheckSpec.plain.varTypes Tryz.prog).any (Tryz.prog.mapsRec ·)) = true := by kernel_rfl
theorem j14 : (Rows.shareCheckRow.ifaces == (Tryz.f13.params.toList ++ Rows.shareCheckSpec.plain.varTypes Tryz.prog).any (Tryz.prog.ifacesRec ·)) = true := by kernel_rfl
theorem j15 : (Rows.shareCheckRow.mapsOut == Tryz.prog.mapsAmong Tryz.f13.resultTypes.toList) = true := by kernel_rfl
theorem j16 : (Rows.shareCheckRow.loops == (Tryz.f13.params.toList ++ Rows.shareCheckSpec.plain.varTypes Tryz.prog).any (Tryz.prog.loopsFrom ·)) = true := by kernel_rfl
theorem j17 : (Rows.shareCheckRow.wideKeys == (Tryz.f13.params.toList ++ Rows.shareCheckSpec.plain.varTypes Tryz.prog ++ Tryz.f13.resultTypes.toList).any (Tryz.prog.wideKeysFrom ·)) = true := by kernel_rfl
theorem j18 : Rows.shareCheckSpec.vars.all (Tryz.prog.varReadable ·) = true := by kernel_rfl
theorem j19 : Tryz.f13.resultTypes.all (fun t => Tryz.prog.readableRec t && decide (t < Tryz.prog.types.size)) = true := by kernel_rfl
theorem j20 : (Rows.shareCheckRow.ifacesOut == Tryz.f13.resultTypes.toList.any (Tryz.prog.ifacesRec ·)) = true := by kernel_rfl
theorem j21 : (Rows.shareCheckRow.loopsOut == Tryz.f13.resultTypes.toList.any (Tryz.prog.loopsFrom ·)) = true := by kernel_rfl
theorem j22 : (Rows.shareCheckRow.plainKeys == Tryz.prog.plainKeys) = true := by kernel_rfl
theorem j23 : Rows.shareCheckRow.shortTexts.isNone = true := by kernel_rfl
theorem j24 : Tryz.prog.stopsHeard = true := by kernel_rfl
theorem j25 : Tryz.prog.mayEnter = true := by kernel_rfl
theorem j26 : (Rows.shareCheckRow.lifted == Tryz.prog.liftsFinal) = true := by kernel_rfl
theorem j27 : (Tryz.prog.make == some Rows.shareCheckRow.make) = true := by kernel_rfl
theorem j28 : (Rows.shareCheckRow.kinds == (if Rows.shareCheckRow.domain.isEmpty then [] else Tryz.f13.params.toList.map fun t => match Tryz.prog.underlying t with | some (.int k) => some k | _ => none)) = true := by kernel_rfl
theorem j29 : (Rows.shareCheckRow.pinned == Rows.shareCheckRow.pinnedBy) = true := by kernel_rfl
theorem j30 : (Rows.shareCheckRow.veiled == (Tryz.f13.params.toList ++ Rows.shareCheckSpec.plain.varTypes Tryz.prog ++ Tryz.f13.resultTypes.toList).any (Tryz.prog.veiledRec ·)) = true := by kernel_rfl
theorem j31 : Rows.shareCheckRow.veiledFits Tryz.prog Tryz.f13.params.toList (Tryz.f13.params.toList ++ Rows.shareCheckSpec.plain.varTypes Tryz.prog ++ Tryz.f13.resultTypes.toList) = true := by kernel_rfl
theorem and_tt {a b : Bool} (h : a = true) (k : b = true) : (a && b) = true := by rw [h, k]; rfl
set_option maxRecDepth 100000 in
theorem closed : joinedFacts Tryz.prog 13 Tryz.f13 Rows.shareCheckSpec Rows.shareCheckRow = true := by
  delta joinedFacts
  exact and_tt (and_tt (and_tt (and_tt (and_tt (and_tt (and_tt (and_tt (and_tt (and_tt (and_tt (and_tt (and_tt (and_tt (and_tt (and_tt (and_tt (and_tt (and_tt (and_tt (and_tt (and_tt (and_tt (and_tt (and_tt (and_tt (and_tt (and_tt (and_tt (and_tt (and_tt j0 j1) j2) j3) j4) j5) j6) j7) j8) j9) j10) j11) j12) j13) j14) j15) j16) j17) j18) j19) j20) j21) j22) j23) j24) j25) j26) j27) j28) j29) j30) j31
end Go.Proofs.YteionhenpehogaaGreatDoor.shareCheck
