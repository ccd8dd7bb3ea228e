/-
  No cell of these rows narrows 'for every input' (looked for: loops, veiled, ifaces, maps, wideKeys, modest, calm, conditions, laid).
  DERIVED. THE GIVEN ROWS OF THIS SEAT. 7 by the template 'for every input the law returns true; each argument reads behind the call as it read before'; 0 by the template 'total and deterministic' (their statements: YtnkdcmloehandaaTotals.lean).
  GIVEN WITH THE SEED: the statements are not yours to turn. If you find one false, say at which input.
  Laid BY PROGRAM, IN A SANDBOX (cutbox-rows.mjs): the forced cells as the released guide's own fill.sh prints them over the translation f1dbe83b6f29f407… (all of the seat's roots in one cut). By AI agents, Wed Nov 11 2026. No macro, syntax, notation, axiom, sorry.
-/
import Derived.Test.YtnkdcmloehandaaChecked
import GoSem.Claim
import GoSem.ClaimJoined
import GoSem.ClaimMapViews
import Derived.JoinedTies
import Derived.KernelRfl
namespace Go.Proofs.Ytnkdcmloehandaa
/- THE CELL 'sum', in the pinned program and in every row, IS THE sha256 OF THE DUMP (.gsa) THAT YtnkdcmloehandaaProg.lean LOADS. Nothing in Lean hashes anything: it is a label: what it is worth is what the hold of that sum in a sandbox is worth. -/
noncomputable def Try.pinned : Pinned := { name := "ytnkdcmloehandaa", sum := "f1dbe83b6f29f4070122e7f6481f101bec2f4df0f7c727cf8c427fc235a4162a", checked := Try.checked }
namespace Rows
def none {H : Type} : Left H := { results := [], args := [] }

/-- 'tallystonelaw21.GraphReach': WHATEVER THE INPUT: true; the input reads as it did. -/
def graphReachSpec : ChangeSpec := { name := "graphReach", fn := fun _ => fun
  | [d1, d2] => { results := [.lit (.bool true)], args := [d1, d2] }
  | _ => none }
def graphReachRow : OpenClaim := { program := "ytnkdcmloehandaa", sum := "f1dbe83b6f29f4070122e7f6481f101bec2f4df0f7c727cf8c427fc235a4162a", func := "tallystone/tallystonelaw21.GraphReach", spec := "graphReach", apart := false }
def GraphReachSaid : Prop := graphReachRow.holds Try.pinned (OpenSpec.ofChange graphReachSpec)

/-- ITS FALSE NEIGHBOUR: 'it returns false'. Refute it at one input. -/
def graphReachWrong : ChangeSpec := { name := "graphReach", fn := fun _ => fun
  | [d1, d2] => { results := [.lit (.bool false)], args := [d1, d2] }
  | _ => none }
def GraphReachWrongFalsely : Prop := graphReachRow.holds Try.pinned (OpenSpec.ofChange graphReachWrong)

/-- 'tallystonelaw21.GraphClosed': WHATEVER THE INPUT: true; the input reads as it did. -/
def graphClosedSpec : ChangeSpec := { name := "graphClosed", fn := fun _ => fun
  | [d] => { results := [.lit (.bool true)], args := [d] }
  | _ => none }
def graphClosedRow : OpenClaim := { program := "ytnkdcmloehandaa", sum := "f1dbe83b6f29f4070122e7f6481f101bec2f4df0f7c727cf8c427fc235a4162a", func := "tallystone/tallystonelaw21.GraphClosed", spec := "graphClosed", apart := false }
def GraphClosedSaid : Prop := graphClosedRow.holds Try.pinned (OpenSpec.ofChange graphClosedSpec)

/-- ITS FALSE NEIGHBOUR: 'it returns false'. Refute it at one input. -/
def graphClosedWrong : ChangeSpec := { name := "graphClosed", fn := fun _ => fun
  | [d] => { results := [.lit (.bool false)], args := [d] }
  | _ => none }
def GraphClosedWrongFalsely : Prop := graphClosedRow.holds Try.pinned (OpenSpec.ofChange graphClosedWrong)

/-- 'tallystonelaw21.GraphComponents': WHATEVER THE INPUT: true; the input reads as it did. -/
def graphComponentsSpec : ChangeSpec := { name := "graphComponents", fn := fun _ => fun
  | [d] => { results := [.lit (.bool true)], args := [d] }
  | _ => none }
def graphComponentsRow : OpenClaim := { program := "ytnkdcmloehandaa", sum := "f1dbe83b6f29f4070122e7f6481f101bec2f4df0f7c727cf8c427fc235a4162a", func := "tallystone/tallystonelaw21.GraphComponents", spec := "graphComponents", apart := false }
def GraphComponentsSaid : Prop := graphComponentsRow.holds Try.pinned (OpenSpec.ofChange graphComponentsSpec)

/-- ITS FALSE NEIGHBOUR: 'it returns false'. Refute it at one input. -/
def graphComponentsWrong : ChangeSpec := { name := "graphComponents", fn := fun _ => fun
  | [d] => { results := [.lit (.bool false)], args := [d] }
  | _ => none }
def GraphComponentsWrongFalsely : Prop := graphComponentsRow.holds Try.pinned (OpenSpec.ofChange graphComponentsWrong)

/-- 'tallystonelaw21.GraphOrder': WHATEVER THE INPUT: true; the input reads as it did. -/
def graphOrderSpec : ChangeSpec := { name := "graphOrder", fn := fun _ => fun
  | [d] => { results := [.lit (.bool true)], args := [d] }
  | _ => none }
def graphOrderRow : OpenClaim := { program := "ytnkdcmloehandaa", sum := "f1dbe83b6f29f4070122e7f6481f101bec2f4df0f7c727cf8c427fc235a4162a", func := "tallystone/tallystonelaw21.GraphOrder", spec := "graphOrder", apart := false }
def GraphOrderSaid : Prop := graphOrderRow.holds Try.pinned (OpenSpec.ofChange graphOrderSpec)

/-- ITS FALSE NEIGHBOUR: 'it returns false'. Refute it at one input. -/
def graphOrderWrong : ChangeSpec := { name := "graphOrder", fn := fun _ => fun
  | [d] => { results := [.lit (.bool false)], args := [d] }
  | _ => none }
def GraphOrderWrongFalsely : Prop := graphOrderRow.holds Try.pinned (OpenSpec.ofChange graphOrderWrong)

/-- 'tallystonelaw21.GraphOutside': WHATEVER THE INPUT: true; the input reads as it did. -/
def graphOutsideSpec : ChangeSpec := { name := "graphOutside", fn := fun _ => fun
  | [d1, d2] => { results := [.lit (.bool true)], args := [d1, d2] }
  | _ => none }
def graphOutsideRow : OpenClaim := { program := "ytnkdcmloehandaa", sum := "f1dbe83b6f29f4070122e7f6481f101bec2f4df0f7c727cf8c427fc235a4162a", func := "tallystone/tallystonelaw21.GraphOutside", spec := "graphOutside", apart := false }
def GraphOutsideSaid : Prop := graphOutsideRow.holds Try.pinned (OpenSpec.ofChange graphOutsideSpec)

/-- ITS FALSE NEIGHBOUR: 'it returns false'. Refute it at one input. -/
def graphOutsideWrong : ChangeSpec := { name := "graphOutside", fn := fun _ => fun
  | [d1, d2] => { results := [.lit (.bool false)], args := [d1, d2] }
  | _ => none }
def GraphOutsideWrongFalsely : Prop := graphOutsideRow.holds Try.pinned (OpenSpec.ofChange graphOutsideWrong)

/-- 'tallystonelaw21.GraphTransitive': WHATEVER THE INPUT: true; the input reads as it did. -/
def graphTransitiveSpec : ChangeSpec := { name := "graphTransitive", fn := fun _ => fun
  | [d1, d2] => { results := [.lit (.bool true)], args := [d1, d2] }
  | _ => none }
def graphTransitiveRow : OpenClaim := { program := "ytnkdcmloehandaa", sum := "f1dbe83b6f29f4070122e7f6481f101bec2f4df0f7c727cf8c427fc235a4162a", func := "tallystone/tallystonelaw21.GraphTransitive", spec := "graphTransitive", apart := false }
def GraphTransitiveSaid : Prop := graphTransitiveRow.holds Try.pinned (OpenSpec.ofChange graphTransitiveSpec)

/-- ITS FALSE NEIGHBOUR: 'it returns false'. Refute it at one input. -/
def graphTransitiveWrong : ChangeSpec := { name := "graphTransitive", fn := fun _ => fun
  | [d1, d2] => { results := [.lit (.bool false)], args := [d1, d2] }
  | _ => none }
def GraphTransitiveWrongFalsely : Prop := graphTransitiveRow.holds Try.pinned (OpenSpec.ofChange graphTransitiveWrong)

/-- 'tallystonelaw21.GraphCycles': WHATEVER THE INPUT: true; the input reads as it did. -/
def graphCyclesSpec : ChangeSpec := { name := "graphCycles", fn := fun _ => fun
  | [d] => { results := [.lit (.bool true)], args := [d] }
  | _ => none }
def graphCyclesRow : OpenClaim := { program := "ytnkdcmloehandaa", sum := "f1dbe83b6f29f4070122e7f6481f101bec2f4df0f7c727cf8c427fc235a4162a", func := "tallystone/tallystonelaw21.GraphCycles", spec := "graphCycles", apart := false }
def GraphCyclesSaid : Prop := graphCyclesRow.holds Try.pinned (OpenSpec.ofChange graphCyclesSpec)

/-- ITS FALSE NEIGHBOUR: 'it returns false'. Refute it at one input. -/
def graphCyclesWrong : ChangeSpec := { name := "graphCycles", fn := fun _ => fun
  | [d] => { results := [.lit (.bool false)], args := [d] }
  | _ => none }
def GraphCyclesWrongFalsely : Prop := graphCyclesRow.holds Try.pinned (OpenSpec.ofChange graphCyclesWrong)

/- THE SECOND FORM. 'bulk': how many values and letters a reading holds, each counted each time it is reached (what is shared counts as often as it is met; a slice's spare places count too). A statement '..UptoSaid' is the law's where the arguments, and the package variables that the reading takes, are together of bulk at most 1048576: NARROWER than '..Said'. Prove '..Said' where nothing that the law and all that it calls make is longer than what came in: it says more and counts as full. Else prove '..UptoSaid'. A law counts once. -/
mutual
def uptoBulk {H : Type} : DataW H → Nat
  | .lit (.string bytes) => bytes.length + 1
  | .lit _ => 1
  | .nil => 1
  | .ptr d => uptoBulk d + 1
  | .slice elems spare => uptoBulkAll elems + uptoBulkAll spare + 1
  | .agg parts => uptoBulkAll parts + 1
  | .iface _ d => uptoBulk d + 1
  | .map entries => uptoBulkEntries entries + 1
  | .held _ => 1
def uptoBulkAll {H : Type} : List (DataW H) → Nat
  | [] => 0
  | d :: r => uptoBulk d + uptoBulkAll r
def uptoBulkEntries {H : Type} : List (Lit × DataW H) → Nat
  | [] => 0
  | x :: r => uptoBulkEntry x + uptoBulkEntries r
def uptoBulkEntry {H : Type} : Lit × DataW H → Nat
  | (.string bytes, d) => bytes.length + uptoBulk d + 1
  | (_, d) => uptoBulk d + 1
 end
def uptoSmall : (H : Type) → List (DataW H) → Bool := fun _ ds => decide (uptoBulkAll ds ≤ 1048576)
def OpenSpec.upto (s : _root_.Go.ChangeSpec) : _root_.Go.OpenSpec := { _root_.Go.OpenSpec.ofChange s with cond := some uptoSmall }

/-- 'tallystonelaw21.GraphReach', WHERE WHAT IT READS IS OF BULK AT MOST 1048576: true; the input reads as it did. -/
def graphReachUptoRow : OpenClaim := { program := "ytnkdcmloehandaa", sum := "f1dbe83b6f29f4070122e7f6481f101bec2f4df0f7c727cf8c427fc235a4162a", func := "tallystone/tallystonelaw21.GraphReach", spec := "graphReach", apart := false, narrowed := true }
def GraphReachUptoSaid : Prop := graphReachUptoRow.holds Try.pinned (OpenSpec.upto graphReachSpec)

/-- 'tallystonelaw21.GraphClosed', WHERE WHAT IT READS IS OF BULK AT MOST 1048576: true; the input reads as it did. -/
def graphClosedUptoRow : OpenClaim := { program := "ytnkdcmloehandaa", sum := "f1dbe83b6f29f4070122e7f6481f101bec2f4df0f7c727cf8c427fc235a4162a", func := "tallystone/tallystonelaw21.GraphClosed", spec := "graphClosed", apart := false, narrowed := true }
def GraphClosedUptoSaid : Prop := graphClosedUptoRow.holds Try.pinned (OpenSpec.upto graphClosedSpec)

/-- 'tallystonelaw21.GraphComponents', WHERE WHAT IT READS IS OF BULK AT MOST 1048576: true; the input reads as it did. -/
def graphComponentsUptoRow : OpenClaim := { program := "ytnkdcmloehandaa", sum := "f1dbe83b6f29f4070122e7f6481f101bec2f4df0f7c727cf8c427fc235a4162a", func := "tallystone/tallystonelaw21.GraphComponents", spec := "graphComponents", apart := false, narrowed := true }
def GraphComponentsUptoSaid : Prop := graphComponentsUptoRow.holds Try.pinned (OpenSpec.upto graphComponentsSpec)

/-- 'tallystonelaw21.GraphOrder', WHERE WHAT IT READS IS OF BULK AT MOST 1048576: true; the input reads as it did. -/
def graphOrderUptoRow : OpenClaim := { program := "ytnkdcmloehandaa", sum := "f1dbe83b6f29f4070122e7f6481f101bec2f4df0f7c727cf8c427fc235a4162a", func := "tallystone/tallystonelaw21.GraphOrder", spec := "graphOrder", apart := false, narrowed := true }
def GraphOrderUptoSaid : Prop := graphOrderUptoRow.holds Try.pinned (OpenSpec.upto graphOrderSpec)

/-- 'tallystonelaw21.GraphOutside', WHERE WHAT IT READS IS OF BULK AT MOST 1048576: true; the input reads as it did. -/
def graphOutsideUptoRow : OpenClaim := { program := "ytnkdcmloehandaa", sum := "f1dbe83b6f29f4070122e7f6481f101bec2f4df0f7c727cf8c427fc235a4162a", func := "tallystone/tallystonelaw21.GraphOutside", spec := "graphOutside", apart := false, narrowed := true }
def GraphOutsideUptoSaid : Prop := graphOutsideUptoRow.holds Try.pinned (OpenSpec.upto graphOutsideSpec)

/-- 'tallystonelaw21.GraphTransitive', WHERE WHAT IT READS IS OF BULK AT MOST 1048576: true; the input reads as it did. -/
def graphTransitiveUptoRow : OpenClaim := { program := "ytnkdcmloehandaa", sum := "f1dbe83b6f29f4070122e7f6481f101bec2f4df0f7c727cf8c427fc235a4162a", func := "tallystone/tallystonelaw21.GraphTransitive", spec := "graphTransitive", apart := false, narrowed := true }
def GraphTransitiveUptoSaid : Prop := graphTransitiveUptoRow.holds Try.pinned (OpenSpec.upto graphTransitiveSpec)

/-- 'tallystonelaw21.GraphCycles', WHERE WHAT IT READS IS OF BULK AT MOST 1048576: true; the input reads as it did. -/
def graphCyclesUptoRow : OpenClaim := { program := "ytnkdcmloehandaa", sum := "f1dbe83b6f29f4070122e7f6481f101bec2f4df0f7c727cf8c427fc235a4162a", func := "tallystone/tallystonelaw21.GraphCycles", spec := "graphCycles", apart := false, narrowed := true }
def GraphCyclesUptoSaid : Prop := graphCyclesUptoRow.holds Try.pinned (OpenSpec.upto graphCyclesSpec)

end Rows
end Go.Proofs.Ytnkdcmloehandaa
