import Derived.Test.YteionhenpehogaaGreatDoorRows
import Derived.JoinedOf
import Derived.ProofKit
namespace Go.Proofs.YteionhenpehogaaGreatDoor.wholeOwnership
theorem j0 : Rows.wholeOwnershipRow.wf (OpenSpec.ofChange Rows.wholeOwnershipSpec) = true := by kernel_rfl
theorem j1 : laidOutB Tryz.prog = true := by kernel_rfl
theorem j2 : mapsRowed Tryz.prog = true := by kernel_rfl
theorem j3 : Tryz.f4.params.all (Tryz.prog.readableRec ·) = true := by kernel_rfl
theorem j4 : namedTie Tryz.prog Rows.wholeOwnershipRow.named Rows.wholeOwnershipSpec.vars = true := by kernel_rfl
theorem j5 : (Rows.wholeOwnershipRow.stops == []) = true := by kernel_rfl
theorem j6 : (Tryz.prog.stops == []) = true := by kernel_rfl
theorem j7 : (Rows.wholeOwnershipRow.knobs == []) = true := by kernel_rfl
theorem j8 : (Tryz.prog.stopKnobs == []) = true := by kernel_rfl
theorem j9 : (Rows.wholeOwnershipRow.inPlace == Tryz.prog.inPlace 4) = true := by kernel_rfl
theorem j10 : (Rows.wholeOwnershipRow.unfollowed == Tryz.prog.unfollowed 4) = true := by kernel_rfl
theorem j11 : (Rows.wholeOwnershipRow.recurses == Tryz.prog.recurses 4) = true := by kernel_rfl
theorem j12 : (Rows.wholeOwnershipRow.named == Tryz.prog.varsNamed 4) = true := by kernel_rfl
theorem j13 : (Rows.wholeOwnershipRow.maps == (Tryz.f4.params.toList ++ Rows.wholeOwnershipSpec.plain.varTypes Tryz.prog).any (Tryz.prog.mapsRec ·)) = true := by kernel_rfl
theorem j14 : (Rows.wholeOwnershipRow.ifaces == (Tryz.f4.params.toList ++ Rows.wholeOwnershipSpec.plain.varTypes Tryz.prog).any (Tryz.prog.ifacesRec ·)) = true := by kernel_rfl
theorem j15 : (Rows.wholeOwnershipRow.mapsOut == Tryz.prog.mapsAmong Tryz.f4.resultTypes.toList) = true := by kernel_rfl
theorem j16 : (Rows.wholeOwnershipRow.loops == (Tryz.f4.params.toList ++ Rows.wholeOwnershipSpec.plain.varTypes Tryz.prog).any (Tryz.prog.loopsFrom ·)) = true := by kernel_rfl
theorem j17 : (Rows.wholeOwnershipRow.wideKeys == (Tryz.f4.params.toList ++ Rows.wholeOwnershipSpec.plain.varTypes Tryz.prog ++ Tryz.f4.resultTypes.toList).any (Tryz.prog.wideKeysFrom ·)) = true := by kernel_rfl
theorem j18 : Rows.wholeOwnershipSpec.vars.all (Tryz.prog.varReadable ·) = true := by kernel_rfl
theorem j19 : Tryz.f4.resultTypes.all (fun t => Tryz.prog.readableRec t && decide (t < Tryz.prog.types.size)) = true := by kernel_rfl
theorem j20 : (Rows.wholeOwnershipRow.ifacesOut == Tryz.f4.resultTypes.toList.any (Tryz.prog.ifacesRec ·)) = true := by kernel_rfl
theorem j21 : (Rows.wholeOwnershipRow.loopsOut == Tryz.f4.resultTypes.toList.any (Tryz.prog.loopsFrom ·)) = true := by kernel_rfl
theorem j22 : (Rows.wholeOwnershipRow.plainKeys == Tryz.prog.plainKeys) = true := by kernel_rfl
theorem j23 : Rows.wholeOwnershipRow.shortTexts.isNone = true := by kernel_rfl
theorem j24 : Tryz.prog.stopsHeard = true := by kernel_rfl
theorem j25 : Tryz.prog.mayEnter = true := by kernel_rfl
theorem j26 : (Rows.wholeOwnershipRow.lifted == Tryz.prog.liftsFinal) = true := by kernel_rfl
theorem j27 : (Tryz.prog.make == some Rows.wholeOwnershipRow.make) = true := by kernel_rfl
theorem j28 : (Rows.wholeOwnershipRow.kinds == (if Rows.wholeOwnershipRow.domain.isEmpty then [] else Tryz.f4.params.toList.map fun t => match Tryz.prog.underlying t with | some (.int k) => some k | _ => none)) = true := by kernel_rfl
theorem j29 : (Rows.wholeOwnershipRow.pinned == Rows.wholeOwnershipRow.pinnedBy) = true := by kernel_rfl
theorem j30 : (Rows.wholeOwnershipRow.veiled == (Tryz.f4.params.toList ++ Rows.wholeOwnershipSpec.plain.varTypes Tryz.prog ++ Tryz.f4.resultTypes.toList).any (Tryz.prog.veiledRec ·)) = true := by kernel_rfl
theorem j31 : Rows.wholeOwnershipRow.veiledFits Tryz.prog Tryz.f4.params.toList (Tryz.f4.params.toList ++ Rows.wholeOwnershipSpec.plain.varTypes Tryz.prog ++ Tryz.f4.resultTypes.toList) = true := by kernel_rfl
theorem and_tt {a b : Bool} (h : a = true) (k : b = true) : (a && b) = true := by rw [h, k]; rfl
set_option maxRecDepth 100000 in
theorem closed : joinedFacts Tryz.prog 4 Tryz.f4 Rows.wholeOwnershipSpec Rows.wholeOwnershipRow = true := by
 delta joinedFacts
 exact and_tt (and_tt (and_tt (and_tt (and_tt (and_tt (and_tt (and_tt (and_tt (and_tt (and_tt (and_tt (and_tt (and_tt (and_tt (and_tt (and_tt (and_tt (and_tt (and_tt (and_tt (and_tt (and_tt (and_tt (and_tt (and_tt (and_tt (and_tt (and_tt (and_tt (and_tt j0 j1) j2) j3) j4) j5) j6) j7) j8) j9) j10) j11) j12) j13) j14) j15) j16) j17) j18) j19) j20) j21) j22) j23) j24) j25) j26) j27) j28) j29) j30) j31
end Go.Proofs.YteionhenpehogaaGreatDoor.wholeOwnership
