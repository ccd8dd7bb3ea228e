/- ShareSingle's row: its facts on the program, one by one. -/
import Derived.Test.YteionhenpehogaaGreatDoorRows
import Derived.JoinedOf
import Derived.ProofKit
namespace Go.Proofs.YteionhenpehogaaGreatDoor.shareSingle
theorem j0 : Rows.shareSingleRow.wf (OpenSpec.ofChange Rows.shareSingleSpec) = true := by kernel_rfl
theorem j1 : laidOutB Tryz.prog = true := by kernel_rfl
theorem j2 : mapsRowed Tryz.prog = true := by kernel_rfl
theorem j3 : Tryz.f9.params.all (Tryz.prog.readableRec ·) = true := by kernel_rfl
theorem j4 : namedTie Tryz.prog Rows.shareSingleRow.named Rows.shareSingleSpec.vars = true := by kernel_rfl
theorem j5 : (Rows.shareSingleRow.stops == []) = true := by kernel_rfl
theorem j6 : (Tryz.prog.stops == []) = true := by kernel_rfl
theorem j7 : (Rows.shareSingleRow.knobs == []) = true := by kernel_rfl
theorem j8 : (Tryz.prog.stopKnobs == []) = true := by kernel_rfl
theorem j9 : (Rows.shareSingleRow.inPlace == Tryz.prog.inPlace 9) = true := by kernel_rfl
theorem j10 : (Rows.shareSingleRow.unfollowed == Tryz.prog.unfollowed 9) = true := by kernel_rfl
theorem j11 : (Rows.shareSingleRow.recurses == Tryz.prog.recurses 9) = true := by kernel_rfl
theorem j12 : (Rows.shareSingleRow.named == Tryz.prog.varsNamed 9) = true := by kernel_rfl
theorem j13 : (Rows.shareSingleRow.maps == (Tryz.f9.params.toList ++ Rows.shareSingleSpec.plain.varTypes Tryz.prog).any (Tryz.prog.mapsRec ·)) = true := by kernel_rfl
theorem j14 : (Rows.shareSingleRow.ifaces == (Tryz.f9.params.toList ++ Rows.shareSingleSpec.plain.varTypes Tryz.prog).any (Tryz.prog.ifacesRec ·)) = true := by kernel_rfl
theorem j15 : (Rows.shareSingleRow.mapsOut == Tryz.prog.mapsAmong Tryz.f9.resultTypes.toList) = true := by kernel_rfl
theorem j16 : (Rows.shareSingleRow.loops == (Tryz.f9.params.toList ++ Rows.shareSingleSpec.plain.varTypes Tryz.prog).any (Tryz.prog.loopsFrom ·)) = true := by kernel_rfl
theorem j17 : (Rows.shareSingleRow.wideKeys == (Tryz.f9.params.toList ++ Rows.shareSingleSpec.plain.varTypes Tryz.prog ++ Tryz.f9.resultTypes.toList).any (Tryz.prog.wideKeysFrom ·)) = true := by kernel_rfl
theorem j18 : Rows.shareSingleSpec.vars.all (Tryz.prog.varReadable ·) = true := by kernel_rfl
theorem j19 : Tryz.f9.resultTypes.all (fun t => Tryz.prog.readableRec t && decide (t < Tryz.prog.types.size)) = true := by kernel_rfl
theorem j20 : (Rows.shareSingleRow.ifacesOut == Tryz.f9.resultTypes.toList.any (Tryz.prog.ifacesRec ·)) = true := by kernel_rfl
theorem j21 : (Rows.shareSingleRow.loopsOut == Tryz.f9.resultTypes.toList.any (Tryz.prog.loopsFrom ·)) = true := by kernel_rfl
theorem j22 : (Rows.shareSingleRow.plainKeys == Tryz.prog.plainKeys) = true := by kernel_rfl
theorem j23 : Rows.shareSingleRow.shortTexts.isNone = true := by kernel_rfl
theorem j24 : Tryz.prog.stopsHeard = true := by kernel_rfl
theorem j25 : Tryz.prog.mayEnter = true := by kernel_rfl
theorem j26 : (Rows.shareSingleRow.lifted == Tryz.prog.liftsFinal) = true := by kernel_rfl
theorem j27 : (Tryz.prog.make == some Rows.shareSingleRow.make) = true := by kernel_rfl
theorem j28 : (Rows.shareSingleRow.kinds == (if Rows.shareSingleRow.domain.isEmpty then [] else Tryz.f9.params.toList.map fun t => match Tryz.prog.underlying t with | some (.int k) => some k | _ => none)) = true := by kernel_rfl
theorem j29 : (Rows.shareSingleRow.pinned == Rows.shareSingleRow.pinnedBy) = true := by kernel_rfl
theorem j30 : (Rows.shareSingleRow.veiled == (Tryz.f9.params.toList ++ Rows.shareSingleSpec.plain.varTypes Tryz.prog ++ Tryz.f9.resultTypes.toList).any (Tryz.prog.veiledRec ·)) = true := by kernel_rfl
theorem j31 : Rows.shareSingleRow.veiledFits Tryz.prog Tryz.f9.params.toList (Tryz.f9.params.toList ++ Rows.shareSingleSpec.plain.varTypes Tryz.prog ++ Tryz.f9.resultTypes.toList) = true := by kernel_rfl
theorem and_tt {a b : Bool} (h : a = true) (k : b = true) : (a && b) = true := by rw [h, k]; rfl
set_option maxRecDepth 100000 in
theorem closed : joinedFacts Tryz.prog 9 Tryz.f9 Rows.shareSingleSpec Rows.shareSingleRow = true := by
  delta joinedFacts
  exact and_tt (and_tt (and_tt (and_tt (and_tt (and_tt (and_tt (and_tt (and_tt (and_tt (and_tt (and_tt (and_tt (and_tt (and_tt (and_tt (and_tt (and_tt (and_tt (and_tt (and_tt (and_tt (and_tt (and_tt (and_tt (and_tt (and_tt (and_tt (and_tt (and_tt (and_tt j0 j1) j2) j3) j4) j5) j6) j7) j8) j9) j10) j11) j12) j13) j14) j15) j16) j17) j18) j19) j20) j21) j22) j23) j24) j25) j26) j27) j28) j29) j30) j31
end Go.Proofs.YteionhenpehogaaGreatDoor.shareSingle
