/-
  No cell of these rows narrows 'for every input' (looked for: loops, veiled, ifaces, maps, wideKeys, modest, calm, conditions, laid).
  DERIVED. THE GIVEN ROWS OF THIS SEAT. 6 by the template 'for every input the law returns true; each argument reads behind the call as it read before'; 0 by the template 'total and deterministic' (their statements: YtpkoaleebabmdaaTotals.lean).
  GIVEN WITH THE SEED: the statements are not yours to turn. If you find one false, say at which input.
  Laid BY PROGRAM, IN A SANDBOX (cutbox-rows.mjs): the forced cells as the released guide's own fill.sh prints them over the translation 6f5a4043ebb58f46… (all of the seat's roots in one cut). By AI agents, Wed Nov 11 2026. No macro, syntax, notation, axiom, sorry.
-/
import Derived.Test.YtpkoaleebabmdaaChecked
import GoSem.Claim
import GoSem.ClaimJoined
import GoSem.ClaimMapViews
import Derived.JoinedTies
import Derived.KernelRfl
namespace Go.Proofs.Ytpkoaleebabmdaa
/- THE CELL 'sum', in the pinned program and in every row, IS THE sha256 OF THE DUMP (.gsa) THAT YtpkoaleebabmdaaProg.lean LOADS. Nothing in Lean hashes anything: it is a label: what it is worth is what the hold of that sum in a sandbox is worth. -/
noncomputable def Try.pinned : Pinned := { name := "ytpkoaleebabmdaa", sum := "6f5a4043ebb58f4627672a37001661e41a4b59c8c627eed9ed35b0842154d72e", checked := Try.checked }
namespace Rows
def none {H : Type} : Left H := { results := [], args := [] }

/-- 'shuttlelaw14.SeqPlus': WHATEVER THE INPUT: true; the input reads as it did. -/
def seqPlusSpec : ChangeSpec := { name := "seqPlus", fn := fun _ => fun
  | [d1, d2] => { results := [.lit (.bool true)], args := [d1, d2] }
  | _ => none }
def seqPlusRow : OpenClaim := { program := "ytpkoaleebabmdaa", sum := "6f5a4043ebb58f4627672a37001661e41a4b59c8c627eed9ed35b0842154d72e", func := "shuttle/shuttlelaw14.SeqPlus", spec := "seqPlus", apart := false }
def SeqPlusSaid : Prop := seqPlusRow.holds Try.pinned (OpenSpec.ofChange seqPlusSpec)

/-- ITS FALSE NEIGHBOUR: 'it returns false'. Refute it at one input. -/
def seqPlusWrong : ChangeSpec := { name := "seqPlus", fn := fun _ => fun
  | [d1, d2] => { results := [.lit (.bool false)], args := [d1, d2] }
  | _ => none }
def SeqPlusWrongFalsely : Prop := seqPlusRow.holds Try.pinned (OpenSpec.ofChange seqPlusWrong)

/-- 'shuttlelaw14.SeqOrder': WHATEVER THE INPUT: true; the input reads as it did. -/
def seqOrderSpec : ChangeSpec := { name := "seqOrder", fn := fun _ => fun
  | [d1, d2, d3] => { results := [.lit (.bool true)], args := [d1, d2, d3] }
  | _ => none }
def seqOrderRow : OpenClaim := { program := "ytpkoaleebabmdaa", sum := "6f5a4043ebb58f4627672a37001661e41a4b59c8c627eed9ed35b0842154d72e", func := "shuttle/shuttlelaw14.SeqOrder", spec := "seqOrder", apart := false }
def SeqOrderSaid : Prop := seqOrderRow.holds Try.pinned (OpenSpec.ofChange seqOrderSpec)

/-- ITS FALSE NEIGHBOUR: 'it returns false'. Refute it at one input. -/
def seqOrderWrong : ChangeSpec := { name := "seqOrder", fn := fun _ => fun
  | [d1, d2, d3] => { results := [.lit (.bool false)], args := [d1, d2, d3] }
  | _ => none }
def SeqOrderWrongFalsely : Prop := seqOrderRow.holds Try.pinned (OpenSpec.ofChange seqOrderWrong)

/-- 'shuttlelaw14.SeqAhead': WHATEVER THE INPUT: true; the input reads as it did. -/
def seqAheadSpec : ChangeSpec := { name := "seqAhead", fn := fun _ => fun
  | [d1, d2, d3] => { results := [.lit (.bool true)], args := [d1, d2, d3] }
  | _ => none }
def seqAheadRow : OpenClaim := { program := "ytpkoaleebabmdaa", sum := "6f5a4043ebb58f4627672a37001661e41a4b59c8c627eed9ed35b0842154d72e", func := "shuttle/shuttlelaw14.SeqAhead", spec := "seqAhead", apart := false }
def SeqAheadSaid : Prop := seqAheadRow.holds Try.pinned (OpenSpec.ofChange seqAheadSpec)

/-- ITS FALSE NEIGHBOUR: 'it returns false'. Refute it at one input. -/
def seqAheadWrong : ChangeSpec := { name := "seqAhead", fn := fun _ => fun
  | [d1, d2, d3] => { results := [.lit (.bool false)], args := [d1, d2, d3] }
  | _ => none }
def SeqAheadWrongFalsely : Prop := seqAheadRow.holds Try.pinned (OpenSpec.ofChange seqAheadWrong)

/-- 'shuttlelaw20.BackoffWaits': WHATEVER THE INPUT: true; the input reads as it did. -/
def backoffWaitsSpec : ChangeSpec := { name := "backoffWaits", fn := fun _ => fun
  | [d] => { results := [.lit (.bool true)], args := [d] }
  | _ => none }
def backoffWaitsRow : OpenClaim := { program := "ytpkoaleebabmdaa", sum := "6f5a4043ebb58f4627672a37001661e41a4b59c8c627eed9ed35b0842154d72e", func := "shuttle/shuttlelaw20.BackoffWaits", spec := "backoffWaits", apart := false }
def BackoffWaitsSaid : Prop := backoffWaitsRow.holds Try.pinned (OpenSpec.ofChange backoffWaitsSpec)

/-- ITS FALSE NEIGHBOUR: 'it returns false'. Refute it at one input. -/
def backoffWaitsWrong : ChangeSpec := { name := "backoffWaits", fn := fun _ => fun
  | [d] => { results := [.lit (.bool false)], args := [d] }
  | _ => none }
def BackoffWaitsWrongFalsely : Prop := backoffWaitsRow.holds Try.pinned (OpenSpec.ofChange backoffWaitsWrong)

/-- 'shuttlelaw20.BackoffTotals': WHATEVER THE INPUT: true; the input reads as it did. -/
def backoffTotalsSpec : ChangeSpec := { name := "backoffTotals", fn := fun _ => fun
  | [d] => { results := [.lit (.bool true)], args := [d] }
  | _ => none }
def backoffTotalsRow : OpenClaim := { program := "ytpkoaleebabmdaa", sum := "6f5a4043ebb58f4627672a37001661e41a4b59c8c627eed9ed35b0842154d72e", func := "shuttle/shuttlelaw20.BackoffTotals", spec := "backoffTotals", apart := false }
def BackoffTotalsSaid : Prop := backoffTotalsRow.holds Try.pinned (OpenSpec.ofChange backoffTotalsSpec)

/-- ITS FALSE NEIGHBOUR: 'it returns false'. Refute it at one input. -/
def backoffTotalsWrong : ChangeSpec := { name := "backoffTotals", fn := fun _ => fun
  | [d] => { results := [.lit (.bool false)], args := [d] }
  | _ => none }
def BackoffTotalsWrongFalsely : Prop := backoffTotalsRow.holds Try.pinned (OpenSpec.ofChange backoffTotalsWrong)

/-- 'shuttlelaw20.BackoffAdds': WHATEVER THE INPUT: true; the input reads as it did. -/
def backoffAddsSpec : ChangeSpec := { name := "backoffAdds", fn := fun _ => fun
  | [d] => { results := [.lit (.bool true)], args := [d] }
  | _ => none }
def backoffAddsRow : OpenClaim := { program := "ytpkoaleebabmdaa", sum := "6f5a4043ebb58f4627672a37001661e41a4b59c8c627eed9ed35b0842154d72e", func := "shuttle/shuttlelaw20.BackoffAdds", spec := "backoffAdds", apart := false }
def BackoffAddsSaid : Prop := backoffAddsRow.holds Try.pinned (OpenSpec.ofChange backoffAddsSpec)

/-- ITS FALSE NEIGHBOUR: 'it returns false'. Refute it at one input. -/
def backoffAddsWrong : ChangeSpec := { name := "backoffAdds", fn := fun _ => fun
  | [d] => { results := [.lit (.bool false)], args := [d] }
  | _ => none }
def BackoffAddsWrongFalsely : Prop := backoffAddsRow.holds Try.pinned (OpenSpec.ofChange backoffAddsWrong)

/- THE SECOND FORM. 'bulk': how many values and letters a reading holds, each counted each time it is reached (what is shared counts as often as it is met; a slice's spare places count too). A statement '..UptoSaid' is the law's where the arguments, and the package variables that the reading takes, are together of bulk at most 1048576: NARROWER than '..Said'. Prove '..Said' where nothing that the law and all that it calls make is longer than what came in: it says more and counts as full. Else prove '..UptoSaid'. A law counts once. -/
mutual
def uptoBulk {H : Type} : DataW H → Nat
  | .lit (.string bytes) => bytes.length + 1
  | .lit _ => 1
  | .nil => 1
  | .ptr d => uptoBulk d + 1
  | .slice elems spare => uptoBulkAll elems + uptoBulkAll spare + 1
  | .agg parts => uptoBulkAll parts + 1
  | .iface _ d => uptoBulk d + 1
  | .map entries => uptoBulkEntries entries + 1
  | .held _ => 1
def uptoBulkAll {H : Type} : List (DataW H) → Nat
  | [] => 0
  | d :: r => uptoBulk d + uptoBulkAll r
def uptoBulkEntries {H : Type} : List (Lit × DataW H) → Nat
  | [] => 0
  | x :: r => uptoBulkEntry x + uptoBulkEntries r
def uptoBulkEntry {H : Type} : Lit × DataW H → Nat
  | (.string bytes, d) => bytes.length + uptoBulk d + 1
  | (_, d) => uptoBulk d + 1
 end
def uptoSmall : (H : Type) → List (DataW H) → Bool := fun _ ds => decide (uptoBulkAll ds ≤ 1048576)
def OpenSpec.upto (s : _root_.Go.ChangeSpec) : _root_.Go.OpenSpec := { _root_.Go.OpenSpec.ofChange s with cond := some uptoSmall }

/-- 'shuttlelaw14.SeqPlus', WHERE WHAT IT READS IS OF BULK AT MOST 1048576: true; the input reads as it did. -/
def seqPlusUptoRow : OpenClaim := { program := "ytpkoaleebabmdaa", sum := "6f5a4043ebb58f4627672a37001661e41a4b59c8c627eed9ed35b0842154d72e", func := "shuttle/shuttlelaw14.SeqPlus", spec := "seqPlus", apart := false, narrowed := true }
def SeqPlusUptoSaid : Prop := seqPlusUptoRow.holds Try.pinned (OpenSpec.upto seqPlusSpec)

/-- 'shuttlelaw14.SeqOrder', WHERE WHAT IT READS IS OF BULK AT MOST 1048576: true; the input reads as it did. -/
def seqOrderUptoRow : OpenClaim := { program := "ytpkoaleebabmdaa", sum := "6f5a4043ebb58f4627672a37001661e41a4b59c8c627eed9ed35b0842154d72e", func := "shuttle/shuttlelaw14.SeqOrder", spec := "seqOrder", apart := false, narrowed := true }
def SeqOrderUptoSaid : Prop := seqOrderUptoRow.holds Try.pinned (OpenSpec.upto seqOrderSpec)

/-- 'shuttlelaw14.SeqAhead', WHERE WHAT IT READS IS OF BULK AT MOST 1048576: true; the input reads as it did. -/
def seqAheadUptoRow : OpenClaim := { program := "ytpkoaleebabmdaa", sum := "6f5a4043ebb58f4627672a37001661e41a4b59c8c627eed9ed35b0842154d72e", func := "shuttle/shuttlelaw14.SeqAhead", spec := "seqAhead", apart := false, narrowed := true }
def SeqAheadUptoSaid : Prop := seqAheadUptoRow.holds Try.pinned (OpenSpec.upto seqAheadSpec)

/-- 'shuttlelaw20.BackoffWaits', WHERE WHAT IT READS IS OF BULK AT MOST 1048576: true; the input reads as it did. -/
def backoffWaitsUptoRow : OpenClaim := { program := "ytpkoaleebabmdaa", sum := "6f5a4043ebb58f4627672a37001661e41a4b59c8c627eed9ed35b0842154d72e", func := "shuttle/shuttlelaw20.BackoffWaits", spec := "backoffWaits", apart := false, narrowed := true }
def BackoffWaitsUptoSaid : Prop := backoffWaitsUptoRow.holds Try.pinned (OpenSpec.upto backoffWaitsSpec)

/-- 'shuttlelaw20.BackoffTotals', WHERE WHAT IT READS IS OF BULK AT MOST 1048576: true; the input reads as it did. -/
def backoffTotalsUptoRow : OpenClaim := { program := "ytpkoaleebabmdaa", sum := "6f5a4043ebb58f4627672a37001661e41a4b59c8c627eed9ed35b0842154d72e", func := "shuttle/shuttlelaw20.BackoffTotals", spec := "backoffTotals", apart := false, narrowed := true }
def BackoffTotalsUptoSaid : Prop := backoffTotalsUptoRow.holds Try.pinned (OpenSpec.upto backoffTotalsSpec)

/-- 'shuttlelaw20.BackoffAdds', WHERE WHAT IT READS IS OF BULK AT MOST 1048576: true; the input reads as it did. -/
def backoffAddsUptoRow : OpenClaim := { program := "ytpkoaleebabmdaa", sum := "6f5a4043ebb58f4627672a37001661e41a4b59c8c627eed9ed35b0842154d72e", func := "shuttle/shuttlelaw20.BackoffAdds", spec := "backoffAdds", apart := false, narrowed := true }
def BackoffAddsUptoSaid : Prop := backoffAddsUptoRow.holds Try.pinned (OpenSpec.upto backoffAddsSpec)

end Rows
end Go.Proofs.Ytpkoaleebabmdaa
