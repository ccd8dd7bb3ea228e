import Derived.Test.YteionhenpehogaaGreatDoorRows
import Derived.JoinedOf
import Derived.ProofKit
namespace Go.Proofs.YteionhenpehogaaGreatDoor.shareEffective
theorem j0 : Rows.shareEffectiveRow.wf (OpenSpec.ofChange Rows.shareEffectiveSpec) = true := by kernel_rfl
theorem j1 : laidOutB Tryz.prog = true := by kernel_rfl
theorem j2 : mapsRowed Tryz.prog = true := by kernel_rfl
theorem j3 : Tryz.f8.params.all (Tryz.prog.readableRec ·) = true := by kernel_rfl
theorem j4 : namedTie Tryz.prog Rows.shareEffectiveRow.named Rows.shareEffectiveSpec.vars = true := by kernel_rfl
theorem j5 : (Rows.shareEffectiveRow.stops == []) = true := by kernel_rfl
theorem j6 : (Tryz.prog.stops == []) = true := by kernel_rfl
theorem j7 : (Rows.shareEffectiveRow.knobs == []) = true := by kernel_rfl
theorem j8 : (Tryz.prog.stopKnobs == []) = true := by kernel_rfl
theorem j9 : (Rows.shareEffectiveRow.inPlace == Tryz.prog.inPlace 8) = true := by kernel_rfl
theorem j10 : (Rows.shareEffectiveRow.unfollowed == Tryz.prog.unfollowed 8) = true := by kernel_rfl
theorem j11 : (Rows.shareEffectiveRow.recurses == Tryz.prog.recurses 8) = true := by kernel_rfl
theorem j12 : (Rows.shareEffectiveRow.named == Tryz.prog.varsNamed 8) = true := by kernel_rfl
theorem j13 : (Rows.shareEffectiveRow.maps == (Tryz.f8.params.toList ++ Rows.shareEffectiveSpec.plain.varTypes Tryz.prog).any (Tryz.prog.mapsRec ·)) = true := by kernel_rfl
theorem j14 : (Rows.shareEffectiveRow.ifaces == (Tryz.f8.params.toList ++ Rows.shareEffectiveSpec.plain.varTypes Tryz.prog).any (Tryz.prog.ifacesRec ·)) = true := by kernel_rfl
theorem j15 : (Rows.shareEffectiveRow.mapsOut == Tryz.prog.mapsAmong Tryz.f8.resultTypes.toList) = true := by kernel_rfl
theorem j16 : (Rows.shareEffectiveRow.loops == (Tryz.f8.params.toList ++ Rows.shareEffectiveSpec.plain.varTypes Tryz.prog).any (Tryz.prog.loopsFrom ·)) = true := by kernel_rfl
theorem j17 : (Rows.shareEffectiveRow.wideKeys == (Tryz.f8.params.toList ++ Rows.shareEffectiveSpec.plain.varTypes Tryz.prog ++ Tryz.f8.resultTypes.toList).any (Tryz.prog.wideKeysFrom ·)) = true := by kernel_rfl
theorem j18 : Rows.shareEffectiveSpec.vars.all (Tryz.prog.varReadable ·) = true := by kernel_rfl
theorem j19 : Tryz.f8.resultTypes.all (fun t => Tryz.prog.readableRec t && decide (t < Tryz.prog.types.size)) = true := by kernel_rfl
theorem j20 : (Rows.shareEffectiveRow.ifacesOut == Tryz.f8.resultTypes.toList.any (Tryz.prog.ifacesRec ·)) = true := by kernel_rfl
theorem j21 : (Rows.shareEffectiveRow.loopsOut == Tryz.f8.resultTypes.toList.any (Tryz.prog.loopsFrom ·)) = true := by kernel_rfl
theorem j22 : (Rows.shareEffectiveRow.plainKeys == Tryz.prog.plainKeys) = true := by kernel_rfl
theorem j23 : Rows.shareEffectiveRow.shortTexts.isNone = true := by kernel_rfl
theorem j24 : Tryz.prog.stopsHeard = true := by kernel_rfl
theorem j25 : Tryz.prog.mayEnter = true := by kernel_rfl
theorem j26 : (Rows.shareEffectiveRow.lifted == Tryz.prog.liftsFinal) = true := by kernel_rfl
theorem j27 : (Tryz.prog.make == some Rows.shareEffectiveRow.make) = true := by kernel_rfl
theorem j28 : (Rows.shareEffectiveRow.kinds == (if Rows.shareEffectiveRow.domain.isEmpty then [] else Tryz.f8.params.toList.map fun t => match Tryz.prog.underlying t with | some (.int k) => some k | _ => none)) = true := by kernel_rfl
theorem j29 : (Rows.shareEffectiveRow.pinned == Rows.shareEffectiveRow.pinnedBy) = true := by kernel_rfl
theorem j30 : (Rows.shareEffectiveRow.veiled == (Tryz.f8.params.toList ++ Rows.shareEffectiveSpec.plain.varTypes Tryz.prog ++ Tryz.f8.resultTypes.toList).any (Tryz.prog.veiledRec ·)) = true := by kernel_rfl
theorem j31 : Rows.shareEffectiveRow.veiledFits Tryz.prog Tryz.f8.params.toList (Tryz.f8.params.toList ++ Rows.shareEffectiveSpec.plain.varTypes Tryz.prog ++ Tryz.f8.resultTypes.toList) = true := by kernel_rfl
theorem and_tt {a b : Bool} (h : a = true) (k : b = true) : (a && b) = true := by rw [h, k]; rfl
set_option maxRecDepth 100000 in
theorem closed : joinedFacts Tryz.prog 8 Tryz.f8 Rows.shareEffectiveSpec Rows.shareEffectiveRow = true := by
 delta joinedFacts
 exact and_tt (and_tt (and_tt (and_tt (and_tt (and_tt (and_tt (and_tt (and_tt (and_tt (and_tt (and_tt (and_tt (and_tt (and_tt (and_tt (and_tt (and_tt (and_tt (and_tt (and_tt (and_tt (and_tt (and_tt (and_tt (and_tt (and_tt (and_tt (and_tt (and_tt (and_tt j0 j1) j2) j3) j4) j5) j6) j7) j8) j9) j10) j11) j12) j13) j14) j15) j16) j17) j18) j19) j20) j21) j22) j23) j24) j25) j26) j27) j28) j29) j30) j31
end Go.Proofs.YteionhenpehogaaGreatDoor.shareEffective
