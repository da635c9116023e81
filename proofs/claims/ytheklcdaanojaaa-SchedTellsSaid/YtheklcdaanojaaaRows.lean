/-
  No cell of these rows narrows 'for every input' (looked for: loops, veiled, ifaces, maps, wideKeys, modest, calm, conditions, laid).
  DERIVED. THE GIVEN ROWS OF THIS SEAT. 5 by the template 'for every input the law returns true; each argument reads behind the call as it read before'; 0 by the template 'total and deterministic' (their statements: YtheklcdaanojaaaTotals.lean).
  GIVEN WITH THE SEED: the statements are not yours to turn. If you find one false, say at which input.
  Laid BY PROGRAM, IN A SANDBOX (cutbox-rows.mjs): the forced cells as the released guide's own fill.sh prints them over the translation 97e83af9251efb5f… (all of the seat's roots in one cut). By AI agents, Wed Nov 11 2026. No macro, syntax, notation, axiom, sorry.
-/
import Derived.Test.YtheklcdaanojaaaChecked
import GoSem.Claim
import GoSem.ClaimJoined
import GoSem.ClaimMapViews
import Derived.JoinedTies
import Derived.KernelRfl
namespace Go.Proofs.Ytheklcdaanojaaa
/- THE CELL 'sum', in the pinned program and in every row, IS THE sha256 OF THE DUMP (.gsa) THAT YtheklcdaanojaaaProg.lean LOADS. Nothing in Lean hashes anything: it is a label: what it is worth is what the hold of that sum in a sandbox is worth. -/
noncomputable def Try.pinned : Pinned := { name := "ytheklcdaanojaaa", sum := "97e83af9251efb5f64f2b22b7201cac275c7a7eda2d3bb9d0e3c254c8d60388d", checked := Try.checked }
namespace Rows
def none {H : Type} : Left H := { results := [], args := [] }

/-- 'shuttlelaw21.RateTells': WHATEVER THE INPUT: true; the input reads as it did. -/
def rateTellsSpec : ChangeSpec := { name := "rateTells", fn := fun _ => fun
  | [d1, d2, d3] => { results := [.lit (.bool true)], args := [d1, d2, d3] }
  | _ => none }
def rateTellsRow : OpenClaim := { program := "ytheklcdaanojaaa", sum := "97e83af9251efb5f64f2b22b7201cac275c7a7eda2d3bb9d0e3c254c8d60388d", func := "shuttle/shuttlelaw21.RateTells", spec := "rateTells", apart := false }
def RateTellsSaid : Prop := rateTellsRow.holds Try.pinned (OpenSpec.ofChange rateTellsSpec)

/-- ITS FALSE NEIGHBOUR: 'it returns false'. Refute it at one input. -/
def rateTellsWrong : ChangeSpec := { name := "rateTells", fn := fun _ => fun
  | [d1, d2, d3] => { results := [.lit (.bool false)], args := [d1, d2, d3] }
  | _ => none }
def RateTellsWrongFalsely : Prop := rateTellsRow.holds Try.pinned (OpenSpec.ofChange rateTellsWrong)

/-- 'shuttlelaw21.RateRuns': WHATEVER THE INPUT: true; the input reads as it did. -/
def rateRunsSpec : ChangeSpec := { name := "rateRuns", fn := fun _ => fun
  | [d] => { results := [.lit (.bool true)], args := [d] }
  | _ => none }
def rateRunsRow : OpenClaim := { program := "ytheklcdaanojaaa", sum := "97e83af9251efb5f64f2b22b7201cac275c7a7eda2d3bb9d0e3c254c8d60388d", func := "shuttle/shuttlelaw21.RateRuns", spec := "rateRuns", apart := false }
def RateRunsSaid : Prop := rateRunsRow.holds Try.pinned (OpenSpec.ofChange rateRunsSpec)

/-- ITS FALSE NEIGHBOUR: 'it returns false'. Refute it at one input. -/
def rateRunsWrong : ChangeSpec := { name := "rateRuns", fn := fun _ => fun
  | [d] => { results := [.lit (.bool false)], args := [d] }
  | _ => none }
def RateRunsWrongFalsely : Prop := rateRunsRow.holds Try.pinned (OpenSpec.ofChange rateRunsWrong)

/-- 'shuttlelaw21.RateWorse': WHATEVER THE INPUT: true; the input reads as it did. -/
def rateWorseSpec : ChangeSpec := { name := "rateWorse", fn := fun _ => fun
  | [d1, d2, d3] => { results := [.lit (.bool true)], args := [d1, d2, d3] }
  | _ => none }
def rateWorseRow : OpenClaim := { program := "ytheklcdaanojaaa", sum := "97e83af9251efb5f64f2b22b7201cac275c7a7eda2d3bb9d0e3c254c8d60388d", func := "shuttle/shuttlelaw21.RateWorse", spec := "rateWorse", apart := false }
def RateWorseSaid : Prop := rateWorseRow.holds Try.pinned (OpenSpec.ofChange rateWorseSpec)

/-- ITS FALSE NEIGHBOUR: 'it returns false'. Refute it at one input. -/
def rateWorseWrong : ChangeSpec := { name := "rateWorse", fn := fun _ => fun
  | [d1, d2, d3] => { results := [.lit (.bool false)], args := [d1, d2, d3] }
  | _ => none }
def RateWorseWrongFalsely : Prop := rateWorseRow.holds Try.pinned (OpenSpec.ofChange rateWorseWrong)

/-- 'shuttlelaw22.SchedTells': WHATEVER THE INPUT: true; the input reads as it did. -/
def schedTellsSpec : ChangeSpec := { name := "schedTells", fn := fun _ => fun
  | [d1, d2] => { results := [.lit (.bool true)], args := [d1, d2] }
  | _ => none }
def schedTellsRow : OpenClaim := { program := "ytheklcdaanojaaa", sum := "97e83af9251efb5f64f2b22b7201cac275c7a7eda2d3bb9d0e3c254c8d60388d", func := "shuttle/shuttlelaw22.SchedTells", spec := "schedTells", apart := false }
def SchedTellsSaid : Prop := schedTellsRow.holds Try.pinned (OpenSpec.ofChange schedTellsSpec)

/-- ITS FALSE NEIGHBOUR: 'it returns false'. Refute it at one input. -/
def schedTellsWrong : ChangeSpec := { name := "schedTells", fn := fun _ => fun
  | [d1, d2] => { results := [.lit (.bool false)], args := [d1, d2] }
  | _ => none }
def SchedTellsWrongFalsely : Prop := schedTellsRow.holds Try.pinned (OpenSpec.ofChange schedTellsWrong)

/-- 'shuttlelaw22.SchedFour': WHATEVER THE INPUT: true; the input reads as it did. -/
def schedFourSpec : ChangeSpec := { name := "schedFour", fn := fun _ => fun
  | [d] => { results := [.lit (.bool true)], args := [d] }
  | _ => none }
def schedFourRow : OpenClaim := { program := "ytheklcdaanojaaa", sum := "97e83af9251efb5f64f2b22b7201cac275c7a7eda2d3bb9d0e3c254c8d60388d", func := "shuttle/shuttlelaw22.SchedFour", spec := "schedFour", apart := false }
def SchedFourSaid : Prop := schedFourRow.holds Try.pinned (OpenSpec.ofChange schedFourSpec)

/-- ITS FALSE NEIGHBOUR: 'it returns false'. Refute it at one input. -/
def schedFourWrong : ChangeSpec := { name := "schedFour", fn := fun _ => fun
  | [d] => { results := [.lit (.bool false)], args := [d] }
  | _ => none }
def SchedFourWrongFalsely : Prop := schedFourRow.holds Try.pinned (OpenSpec.ofChange schedFourWrong)

/- THE SECOND FORM. 'bulk': how many values and letters a reading holds, each counted each time it is reached (what is shared counts as often as it is met; a slice's spare places count too). A statement '..UptoSaid' is the law's where the arguments, and the package variables that the reading takes, are together of bulk at most 1048576: NARROWER than '..Said'. Prove '..Said' where nothing that the law and all that it calls make is longer than what came in: it says more and counts as full. Else prove '..UptoSaid'. A law counts once. -/
mutual
def uptoBulk {H : Type} : DataW H → Nat
  | .lit (.string bytes) => bytes.length + 1
  | .lit _ => 1
  | .nil => 1
  | .ptr d => uptoBulk d + 1
  | .slice elems spare => uptoBulkAll elems + uptoBulkAll spare + 1
  | .agg parts => uptoBulkAll parts + 1
  | .iface _ d => uptoBulk d + 1
  | .map entries => uptoBulkEntries entries + 1
  | .held _ => 1
def uptoBulkAll {H : Type} : List (DataW H) → Nat
  | [] => 0
  | d :: r => uptoBulk d + uptoBulkAll r
def uptoBulkEntries {H : Type} : List (Lit × DataW H) → Nat
  | [] => 0
  | x :: r => uptoBulkEntry x + uptoBulkEntries r
def uptoBulkEntry {H : Type} : Lit × DataW H → Nat
  | (.string bytes, d) => bytes.length + uptoBulk d + 1
  | (_, d) => uptoBulk d + 1
 end
def uptoSmall : (H : Type) → List (DataW H) → Bool := fun _ ds => decide (uptoBulkAll ds ≤ 1048576)
def OpenSpec.upto (s : _root_.Go.ChangeSpec) : _root_.Go.OpenSpec := { _root_.Go.OpenSpec.ofChange s with cond := some uptoSmall }

/-- 'shuttlelaw21.RateTells', WHERE WHAT IT READS IS OF BULK AT MOST 1048576: true; the input reads as it did. -/
def rateTellsUptoRow : OpenClaim := { program := "ytheklcdaanojaaa", sum := "97e83af9251efb5f64f2b22b7201cac275c7a7eda2d3bb9d0e3c254c8d60388d", func := "shuttle/shuttlelaw21.RateTells", spec := "rateTells", apart := false, narrowed := true }
def RateTellsUptoSaid : Prop := rateTellsUptoRow.holds Try.pinned (OpenSpec.upto rateTellsSpec)

/-- 'shuttlelaw21.RateRuns', WHERE WHAT IT READS IS OF BULK AT MOST 1048576: true; the input reads as it did. -/
def rateRunsUptoRow : OpenClaim := { program := "ytheklcdaanojaaa", sum := "97e83af9251efb5f64f2b22b7201cac275c7a7eda2d3bb9d0e3c254c8d60388d", func := "shuttle/shuttlelaw21.RateRuns", spec := "rateRuns", apart := false, narrowed := true }
def RateRunsUptoSaid : Prop := rateRunsUptoRow.holds Try.pinned (OpenSpec.upto rateRunsSpec)

/-- 'shuttlelaw21.RateWorse', WHERE WHAT IT READS IS OF BULK AT MOST 1048576: true; the input reads as it did. -/
def rateWorseUptoRow : OpenClaim := { program := "ytheklcdaanojaaa", sum := "97e83af9251efb5f64f2b22b7201cac275c7a7eda2d3bb9d0e3c254c8d60388d", func := "shuttle/shuttlelaw21.RateWorse", spec := "rateWorse", apart := false, narrowed := true }
def RateWorseUptoSaid : Prop := rateWorseUptoRow.holds Try.pinned (OpenSpec.upto rateWorseSpec)

/-- 'shuttlelaw22.SchedTells', WHERE WHAT IT READS IS OF BULK AT MOST 1048576: true; the input reads as it did. -/
def schedTellsUptoRow : OpenClaim := { program := "ytheklcdaanojaaa", sum := "97e83af9251efb5f64f2b22b7201cac275c7a7eda2d3bb9d0e3c254c8d60388d", func := "shuttle/shuttlelaw22.SchedTells", spec := "schedTells", apart := false, narrowed := true }
def SchedTellsUptoSaid : Prop := schedTellsUptoRow.holds Try.pinned (OpenSpec.upto schedTellsSpec)

/-- 'shuttlelaw22.SchedFour', WHERE WHAT IT READS IS OF BULK AT MOST 1048576: true; the input reads as it did. -/
def schedFourUptoRow : OpenClaim := { program := "ytheklcdaanojaaa", sum := "97e83af9251efb5f64f2b22b7201cac275c7a7eda2d3bb9d0e3c254c8d60388d", func := "shuttle/shuttlelaw22.SchedFour", spec := "schedFour", apart := false, narrowed := true }
def SchedFourUptoSaid : Prop := schedFourUptoRow.holds Try.pinned (OpenSpec.upto schedFourSpec)

end Rows
end Go.Proofs.Ytheklcdaanojaaa
