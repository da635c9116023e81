/-
  No cell of these rows narrows 'for every input' (looked for: loops, veiled, ifaces, maps, wideKeys, modest, calm, conditions, laid).
  DERIVED. THE GIVEN ROWS OF THIS SEAT. 4 by the template 'for every input the law returns true; each argument reads behind the call as it read before'; 0 by the template 'total and deterministic' (their statements: YtdakfabdegiboaaTotals.lean).
  GIVEN WITH THE SEED: the statements are not yours to turn. If you find one false, say at which input.
  Laid BY PROGRAM, IN A SANDBOX (cutbox-rows.mjs): the forced cells as the released guide's own fill.sh prints them over the translation f968ee721cf56897… (all of the seat's roots in one cut). By AI agents, Wed Nov 11 2026. No macro, syntax, notation, axiom, sorry.
-/
import Derived.Test.YtdakfabdegiboaaChecked
import GoSem.Claim
import GoSem.ClaimJoined
import GoSem.ClaimMapViews
import Derived.JoinedTies
import Derived.KernelRfl
namespace Go.Proofs.Ytdakfabdegiboaa
/- THE CELL 'sum', in the pinned program and in every row, IS THE sha256 OF THE DUMP (.gsa) THAT YtdakfabdegiboaaProg.lean LOADS. Nothing in Lean hashes anything: it is a label: what it is worth is what the hold of that sum in a sandbox is worth. -/
noncomputable def Try.pinned : Pinned := { name := "ytdakfabdegiboaa", sum := "f968ee721cf5689783c51209cde85c7e635f269e183db53b1711688908a66223", checked := Try.checked }
namespace Rows
def none {H : Type} : Left H := { results := [], args := [] }

/-- 'shuttletop.ShuttleBursts': WHATEVER THE INPUT: true; the input reads as it did. -/
def shuttleBurstsSpec : ChangeSpec := { name := "shuttleBursts", fn := fun _ => fun
  | [d1, d2, d3] => { results := [.lit (.bool true)], args := [d1, d2, d3] }
  | _ => none }
def shuttleBurstsRow : OpenClaim := { program := "ytdakfabdegiboaa", sum := "f968ee721cf5689783c51209cde85c7e635f269e183db53b1711688908a66223", func := "shuttle/shuttletop.ShuttleBursts", spec := "shuttleBursts", unfollowed := true, recurses := true, apart := false }
def ShuttleBurstsSaid : Prop := shuttleBurstsRow.holds Try.pinned (OpenSpec.ofChange shuttleBurstsSpec)

/-- ITS FALSE NEIGHBOUR: 'it returns false'. Refute it at one input. -/
def shuttleBurstsWrong : ChangeSpec := { name := "shuttleBursts", fn := fun _ => fun
  | [d1, d2, d3] => { results := [.lit (.bool false)], args := [d1, d2, d3] }
  | _ => none }
def ShuttleBurstsWrongFalsely : Prop := shuttleBurstsRow.holds Try.pinned (OpenSpec.ofChange shuttleBurstsWrong)

/-- 'shuttlelaw33.ShuffleSquare': WHATEVER THE INPUT: true; the input reads as it did. -/
def shuffleSquareSpec : ChangeSpec := { name := "shuffleSquare", fn := fun _ => fun
  | [d1, d2] => { results := [.lit (.bool true)], args := [d1, d2] }
  | _ => none }
def shuffleSquareRow : OpenClaim := { program := "ytdakfabdegiboaa", sum := "f968ee721cf5689783c51209cde85c7e635f269e183db53b1711688908a66223", func := "shuttle/shuttlelaw33.ShuffleSquare", spec := "shuffleSquare", unfollowed := true, recurses := true, apart := false }
def ShuffleSquareSaid : Prop := shuffleSquareRow.holds Try.pinned (OpenSpec.ofChange shuffleSquareSpec)

/-- ITS FALSE NEIGHBOUR: 'it returns false'. Refute it at one input. -/
def shuffleSquareWrong : ChangeSpec := { name := "shuffleSquare", fn := fun _ => fun
  | [d1, d2] => { results := [.lit (.bool false)], args := [d1, d2] }
  | _ => none }
def ShuffleSquareWrongFalsely : Prop := shuffleSquareRow.holds Try.pinned (OpenSpec.ofChange shuffleSquareWrong)

/-- 'shuttlelaw33.ShuffleOrders': WHATEVER THE INPUT: true; the input reads as it did. -/
def shuffleOrdersSpec : ChangeSpec := { name := "shuffleOrders", fn := fun _ => fun
  | [d1, d2] => { results := [.lit (.bool true)], args := [d1, d2] }
  | _ => none }
def shuffleOrdersRow : OpenClaim := { program := "ytdakfabdegiboaa", sum := "f968ee721cf5689783c51209cde85c7e635f269e183db53b1711688908a66223", func := "shuttle/shuttlelaw33.ShuffleOrders", spec := "shuffleOrders", unfollowed := true, recurses := true, apart := false }
def ShuffleOrdersSaid : Prop := shuffleOrdersRow.holds Try.pinned (OpenSpec.ofChange shuffleOrdersSpec)

/-- ITS FALSE NEIGHBOUR: 'it returns false'. Refute it at one input. -/
def shuffleOrdersWrong : ChangeSpec := { name := "shuffleOrders", fn := fun _ => fun
  | [d1, d2] => { results := [.lit (.bool false)], args := [d1, d2] }
  | _ => none }
def ShuffleOrdersWrongFalsely : Prop := shuffleOrdersRow.holds Try.pinned (OpenSpec.ofChange shuffleOrdersWrong)

/-- 'shuttlelaw33.ShufflePuts': WHATEVER THE INPUT: true; the input reads as it did. -/
def shufflePutsSpec : ChangeSpec := { name := "shufflePuts", fn := fun _ => fun
  | [d1, d2] => { results := [.lit (.bool true)], args := [d1, d2] }
  | _ => none }
def shufflePutsRow : OpenClaim := { program := "ytdakfabdegiboaa", sum := "f968ee721cf5689783c51209cde85c7e635f269e183db53b1711688908a66223", func := "shuttle/shuttlelaw33.ShufflePuts", spec := "shufflePuts", unfollowed := true, recurses := true, apart := false }
def ShufflePutsSaid : Prop := shufflePutsRow.holds Try.pinned (OpenSpec.ofChange shufflePutsSpec)

/-- ITS FALSE NEIGHBOUR: 'it returns false'. Refute it at one input. -/
def shufflePutsWrong : ChangeSpec := { name := "shufflePuts", fn := fun _ => fun
  | [d1, d2] => { results := [.lit (.bool false)], args := [d1, d2] }
  | _ => none }
def ShufflePutsWrongFalsely : Prop := shufflePutsRow.holds Try.pinned (OpenSpec.ofChange shufflePutsWrong)

/- THE SECOND FORM. 'bulk': how many values and letters a reading holds, each counted each time it is reached (what is shared counts as often as it is met; a slice's spare places count too). A statement '..UptoSaid' is the law's where the arguments, and the package variables that the reading takes, are together of bulk at most 1048576: NARROWER than '..Said'. Prove '..Said' where nothing that the law and all that it calls make is longer than what came in: it says more and counts as full. Else prove '..UptoSaid'. A law counts once. -/
mutual
def uptoBulk {H : Type} : DataW H → Nat
  | .lit (.string bytes) => bytes.length + 1
  | .lit _ => 1
  | .nil => 1
  | .ptr d => uptoBulk d + 1
  | .slice elems spare => uptoBulkAll elems + uptoBulkAll spare + 1
  | .agg parts => uptoBulkAll parts + 1
  | .iface _ d => uptoBulk d + 1
  | .map entries => uptoBulkEntries entries + 1
  | .held _ => 1
def uptoBulkAll {H : Type} : List (DataW H) → Nat
  | [] => 0
  | d :: r => uptoBulk d + uptoBulkAll r
def uptoBulkEntries {H : Type} : List (Lit × DataW H) → Nat
  | [] => 0
  | x :: r => uptoBulkEntry x + uptoBulkEntries r
def uptoBulkEntry {H : Type} : Lit × DataW H → Nat
  | (.string bytes, d) => bytes.length + uptoBulk d + 1
  | (_, d) => uptoBulk d + 1
 end
def uptoSmall : (H : Type) → List (DataW H) → Bool := fun _ ds => decide (uptoBulkAll ds ≤ 1048576)
def OpenSpec.upto (s : _root_.Go.ChangeSpec) : _root_.Go.OpenSpec := { _root_.Go.OpenSpec.ofChange s with cond := some uptoSmall }

/-- 'shuttletop.ShuttleBursts', WHERE WHAT IT READS IS OF BULK AT MOST 1048576: true; the input reads as it did. -/
def shuttleBurstsUptoRow : OpenClaim := { program := "ytdakfabdegiboaa", sum := "f968ee721cf5689783c51209cde85c7e635f269e183db53b1711688908a66223", func := "shuttle/shuttletop.ShuttleBursts", spec := "shuttleBursts", unfollowed := true, recurses := true, apart := false, narrowed := true }
def ShuttleBurstsUptoSaid : Prop := shuttleBurstsUptoRow.holds Try.pinned (OpenSpec.upto shuttleBurstsSpec)

/-- 'shuttlelaw33.ShuffleSquare', WHERE WHAT IT READS IS OF BULK AT MOST 1048576: true; the input reads as it did. -/
def shuffleSquareUptoRow : OpenClaim := { program := "ytdakfabdegiboaa", sum := "f968ee721cf5689783c51209cde85c7e635f269e183db53b1711688908a66223", func := "shuttle/shuttlelaw33.ShuffleSquare", spec := "shuffleSquare", unfollowed := true, recurses := true, apart := false, narrowed := true }
def ShuffleSquareUptoSaid : Prop := shuffleSquareUptoRow.holds Try.pinned (OpenSpec.upto shuffleSquareSpec)

/-- 'shuttlelaw33.ShuffleOrders', WHERE WHAT IT READS IS OF BULK AT MOST 1048576: true; the input reads as it did. -/
def shuffleOrdersUptoRow : OpenClaim := { program := "ytdakfabdegiboaa", sum := "f968ee721cf5689783c51209cde85c7e635f269e183db53b1711688908a66223", func := "shuttle/shuttlelaw33.ShuffleOrders", spec := "shuffleOrders", unfollowed := true, recurses := true, apart := false, narrowed := true }
def ShuffleOrdersUptoSaid : Prop := shuffleOrdersUptoRow.holds Try.pinned (OpenSpec.upto shuffleOrdersSpec)

/-- 'shuttlelaw33.ShufflePuts', WHERE WHAT IT READS IS OF BULK AT MOST 1048576: true; the input reads as it did. -/
def shufflePutsUptoRow : OpenClaim := { program := "ytdakfabdegiboaa", sum := "f968ee721cf5689783c51209cde85c7e635f269e183db53b1711688908a66223", func := "shuttle/shuttlelaw33.ShufflePuts", spec := "shufflePuts", unfollowed := true, recurses := true, apart := false, narrowed := true }
def ShufflePutsUptoSaid : Prop := shufflePutsUptoRow.holds Try.pinned (OpenSpec.upto shufflePutsSpec)

end Rows
end Go.Proofs.Ytdakfabdegiboaa
