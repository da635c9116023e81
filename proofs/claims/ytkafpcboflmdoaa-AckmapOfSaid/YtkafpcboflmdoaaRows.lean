/-
  No cell of these rows narrows 'for every input' (looked for: loops, veiled, ifaces, maps, wideKeys, modest, calm, conditions, laid).
  DERIVED. THE GIVEN ROWS OF THIS SEAT. 3 by the template 'for every input the law returns true; each argument reads behind the call as it read before'; 0 by the template 'total and deterministic' (their statements: YtkafpcboflmdoaaTotals.lean).
  GIVEN WITH THE SEED: the statements are not yours to turn. If you find one false, say at which input.
  Laid BY PROGRAM, IN A SANDBOX (cutbox-rows.mjs): the forced cells as the released guide's own fill.sh prints them over the translation 213b8188a24f3000… (all of the seat's roots in one cut). By AI agents, Wed Nov 11 2026. No macro, syntax, notation, axiom, sorry.
-/
import Derived.Test.YtkafpcboflmdoaaChecked
import GoSem.Claim
import GoSem.ClaimJoined
import GoSem.ClaimMapViews
import Derived.JoinedTies
import Derived.KernelRfl
namespace Go.Proofs.Ytkafpcboflmdoaa
/- THE CELL 'sum', in the pinned program and in every row, IS THE sha256 OF THE DUMP (.gsa) THAT YtkafpcboflmdoaaProg.lean LOADS. Nothing in Lean hashes anything: it is a label: what it is worth is what the hold of that sum in a sandbox is worth. -/
noncomputable def Try.pinned : Pinned := { name := "ytkafpcboflmdoaa", sum := "213b8188a24f3000a6a5a1a1411af30147cddda425ea6110a9547bdbd9032224", checked := Try.checked }
namespace Rows
def none {H : Type} : Left H := { results := [], args := [] }

/-- 'shuttlelaw15.AckmapOf': WHATEVER THE INPUT: true; the input reads as it did. -/
def ackmapOfSpec : ChangeSpec := { name := "ackmapOf", fn := fun _ => fun
  | [d1, d2, d3] => { results := [.lit (.bool true)], args := [d1, d2, d3] }
  | _ => none }
def ackmapOfRow : OpenClaim := { program := "ytkafpcboflmdoaa", sum := "213b8188a24f3000a6a5a1a1411af30147cddda425ea6110a9547bdbd9032224", func := "shuttle/shuttlelaw15.AckmapOf", spec := "ackmapOf", apart := false }
def AckmapOfSaid : Prop := ackmapOfRow.holds Try.pinned (OpenSpec.ofChange ackmapOfSpec)

/-- ITS FALSE NEIGHBOUR: 'it returns false'. Refute it at one input. -/
def ackmapOfWrong : ChangeSpec := { name := "ackmapOf", fn := fun _ => fun
  | [d1, d2, d3] => { results := [.lit (.bool false)], args := [d1, d2, d3] }
  | _ => none }
def AckmapOfWrongFalsely : Prop := ackmapOfRow.holds Try.pinned (OpenSpec.ofChange ackmapOfWrong)

/-- 'shuttlelaw15.AckmapGrows': WHATEVER THE INPUT: true; the input reads as it did. -/
def ackmapGrowsSpec : ChangeSpec := { name := "ackmapGrows", fn := fun _ => fun
  | [d1, d2, d3] => { results := [.lit (.bool true)], args := [d1, d2, d3] }
  | _ => none }
def ackmapGrowsRow : OpenClaim := { program := "ytkafpcboflmdoaa", sum := "213b8188a24f3000a6a5a1a1411af30147cddda425ea6110a9547bdbd9032224", func := "shuttle/shuttlelaw15.AckmapGrows", spec := "ackmapGrows", apart := false }
def AckmapGrowsSaid : Prop := ackmapGrowsRow.holds Try.pinned (OpenSpec.ofChange ackmapGrowsSpec)

/-- ITS FALSE NEIGHBOUR: 'it returns false'. Refute it at one input. -/
def ackmapGrowsWrong : ChangeSpec := { name := "ackmapGrows", fn := fun _ => fun
  | [d1, d2, d3] => { results := [.lit (.bool false)], args := [d1, d2, d3] }
  | _ => none }
def AckmapGrowsWrongFalsely : Prop := ackmapGrowsRow.holds Try.pinned (OpenSpec.ofChange ackmapGrowsWrong)

/-- 'shuttlelaw15.AckmapHas': WHATEVER THE INPUT: true; the input reads as it did. -/
def ackmapHasSpec : ChangeSpec := { name := "ackmapHas", fn := fun _ => fun
  | [d1, d2, d3] => { results := [.lit (.bool true)], args := [d1, d2, d3] }
  | _ => none }
def ackmapHasRow : OpenClaim := { program := "ytkafpcboflmdoaa", sum := "213b8188a24f3000a6a5a1a1411af30147cddda425ea6110a9547bdbd9032224", func := "shuttle/shuttlelaw15.AckmapHas", spec := "ackmapHas", apart := false }
def AckmapHasSaid : Prop := ackmapHasRow.holds Try.pinned (OpenSpec.ofChange ackmapHasSpec)

/-- ITS FALSE NEIGHBOUR: 'it returns false'. Refute it at one input. -/
def ackmapHasWrong : ChangeSpec := { name := "ackmapHas", fn := fun _ => fun
  | [d1, d2, d3] => { results := [.lit (.bool false)], args := [d1, d2, d3] }
  | _ => none }
def AckmapHasWrongFalsely : Prop := ackmapHasRow.holds Try.pinned (OpenSpec.ofChange ackmapHasWrong)

/- THE SECOND FORM. 'bulk': how many values and letters a reading holds, each counted each time it is reached (what is shared counts as often as it is met; a slice's spare places count too). A statement '..UptoSaid' is the law's where the arguments, and the package variables that the reading takes, are together of bulk at most 1048576: NARROWER than '..Said'. Prove '..Said' where nothing that the law and all that it calls make is longer than what came in: it says more and counts as full. Else prove '..UptoSaid'. A law counts once. -/
mutual
def uptoBulk {H : Type} : DataW H → Nat
  | .lit (.string bytes) => bytes.length + 1
  | .lit _ => 1
  | .nil => 1
  | .ptr d => uptoBulk d + 1
  | .slice elems spare => uptoBulkAll elems + uptoBulkAll spare + 1
  | .agg parts => uptoBulkAll parts + 1
  | .iface _ d => uptoBulk d + 1
  | .map entries => uptoBulkEntries entries + 1
  | .held _ => 1
def uptoBulkAll {H : Type} : List (DataW H) → Nat
  | [] => 0
  | d :: r => uptoBulk d + uptoBulkAll r
def uptoBulkEntries {H : Type} : List (Lit × DataW H) → Nat
  | [] => 0
  | x :: r => uptoBulkEntry x + uptoBulkEntries r
def uptoBulkEntry {H : Type} : Lit × DataW H → Nat
  | (.string bytes, d) => bytes.length + uptoBulk d + 1
  | (_, d) => uptoBulk d + 1
 end
def uptoSmall : (H : Type) → List (DataW H) → Bool := fun _ ds => decide (uptoBulkAll ds ≤ 1048576)
def OpenSpec.upto (s : _root_.Go.ChangeSpec) : _root_.Go.OpenSpec := { _root_.Go.OpenSpec.ofChange s with cond := some uptoSmall }

/-- 'shuttlelaw15.AckmapOf', WHERE WHAT IT READS IS OF BULK AT MOST 1048576: true; the input reads as it did. -/
def ackmapOfUptoRow : OpenClaim := { program := "ytkafpcboflmdoaa", sum := "213b8188a24f3000a6a5a1a1411af30147cddda425ea6110a9547bdbd9032224", func := "shuttle/shuttlelaw15.AckmapOf", spec := "ackmapOf", apart := false, narrowed := true }
def AckmapOfUptoSaid : Prop := ackmapOfUptoRow.holds Try.pinned (OpenSpec.upto ackmapOfSpec)

/-- 'shuttlelaw15.AckmapGrows', WHERE WHAT IT READS IS OF BULK AT MOST 1048576: true; the input reads as it did. -/
def ackmapGrowsUptoRow : OpenClaim := { program := "ytkafpcboflmdoaa", sum := "213b8188a24f3000a6a5a1a1411af30147cddda425ea6110a9547bdbd9032224", func := "shuttle/shuttlelaw15.AckmapGrows", spec := "ackmapGrows", apart := false, narrowed := true }
def AckmapGrowsUptoSaid : Prop := ackmapGrowsUptoRow.holds Try.pinned (OpenSpec.upto ackmapGrowsSpec)

/-- 'shuttlelaw15.AckmapHas', WHERE WHAT IT READS IS OF BULK AT MOST 1048576: true; the input reads as it did. -/
def ackmapHasUptoRow : OpenClaim := { program := "ytkafpcboflmdoaa", sum := "213b8188a24f3000a6a5a1a1411af30147cddda425ea6110a9547bdbd9032224", func := "shuttle/shuttlelaw15.AckmapHas", spec := "ackmapHas", apart := false, narrowed := true }
def AckmapHasUptoSaid : Prop := ackmapHasUptoRow.holds Try.pinned (OpenSpec.upto ackmapHasSpec)

end Rows
end Go.Proofs.Ytkafpcboflmdoaa
