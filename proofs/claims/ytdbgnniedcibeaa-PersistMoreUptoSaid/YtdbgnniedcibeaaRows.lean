/-
  No cell of these rows narrows 'for every input' (looked for: loops, veiled, ifaces, maps, wideKeys, modest, calm, conditions, laid).
  DERIVED. THE GIVEN ROWS OF THIS SEAT. 8 by the template 'for every input the law returns true; each argument reads behind the call as it read before'; 0 by the template 'total and deterministic' (their statements: YtdbgnniedcibeaaTotals.lean).
  GIVEN WITH THE SEED: the statements are not yours to turn. If you find one false, say at which input.
  Laid BY PROGRAM, IN A SANDBOX (cutbox-rows.mjs): the forced cells as the released guide's own fill.sh prints them over the translation 68c32f066db34160… (all of the seat's roots in one cut). By AI agents, Wed Nov 11 2026. No macro, syntax, notation, axiom, sorry.
-/
import Derived.Test.YtdbgnniedcibeaaChecked
import GoSem.Claim
import GoSem.ClaimJoined
import GoSem.ClaimMapViews
import Derived.JoinedTies
import Derived.KernelRfl
namespace Go.Proofs.Ytdbgnniedcibeaa
/- THE CELL 'sum', in the pinned program and in every row, IS THE sha256 OF THE DUMP (.gsa) THAT YtdbgnniedcibeaaProg.lean LOADS. Nothing in Lean hashes anything: it is a label: what it is worth is what the hold of that sum in a sandbox is worth. -/
noncomputable def Try.pinned : Pinned := { name := "ytdbgnniedcibeaa", sum := "68c32f066db34160c60e4ea68164bceeb3cbe52de303819a0795f297ec0f58cd", checked := Try.checked }
namespace Rows
def none {H : Type} : Left H := { results := [], args := [] }

/-- 'ontimelaw32.PersistLines': WHATEVER THE INPUT: true; the input reads as it did. -/
def persistLinesSpec : ChangeSpec := { name := "persistLines", fn := fun _ => fun
  | [d1, d2] => { results := [.lit (.bool true)], args := [d1, d2] }
  | _ => none }
def persistLinesRow : OpenClaim := { program := "ytdbgnniedcibeaa", sum := "68c32f066db34160c60e4ea68164bceeb3cbe52de303819a0795f297ec0f58cd", func := "ontime/ontimelaw32.PersistLines", spec := "persistLines", recurses := true, apart := false }
def PersistLinesSaid : Prop := persistLinesRow.holds Try.pinned (OpenSpec.ofChange persistLinesSpec)

/-- ITS FALSE NEIGHBOUR: 'it returns false'. Refute it at one input. -/
def persistLinesWrong : ChangeSpec := { name := "persistLines", fn := fun _ => fun
  | [d1, d2] => { results := [.lit (.bool false)], args := [d1, d2] }
  | _ => none }
def PersistLinesWrongFalsely : Prop := persistLinesRow.holds Try.pinned (OpenSpec.ofChange persistLinesWrong)

/-- 'ontimelaw32.PersistMore': WHATEVER THE INPUT: true; the input reads as it did. -/
def persistMoreSpec : ChangeSpec := { name := "persistMore", fn := fun _ => fun
  | [d1, d2, d3] => { results := [.lit (.bool true)], args := [d1, d2, d3] }
  | _ => none }
def persistMoreRow : OpenClaim := { program := "ytdbgnniedcibeaa", sum := "68c32f066db34160c60e4ea68164bceeb3cbe52de303819a0795f297ec0f58cd", func := "ontime/ontimelaw32.PersistMore", spec := "persistMore", unfollowed := true, recurses := true, apart := false }
def PersistMoreSaid : Prop := persistMoreRow.holds Try.pinned (OpenSpec.ofChange persistMoreSpec)

/-- ITS FALSE NEIGHBOUR: 'it returns false'. Refute it at one input. -/
def persistMoreWrong : ChangeSpec := { name := "persistMore", fn := fun _ => fun
  | [d1, d2, d3] => { results := [.lit (.bool false)], args := [d1, d2, d3] }
  | _ => none }
def PersistMoreWrongFalsely : Prop := persistMoreRow.holds Try.pinned (OpenSpec.ofChange persistMoreWrong)

/-- 'ontimelaw32.PersistParts': WHATEVER THE INPUT: true; the input reads as it did. -/
def persistPartsSpec : ChangeSpec := { name := "persistParts", fn := fun _ => fun
  | [d1, d2, d3] => { results := [.lit (.bool true)], args := [d1, d2, d3] }
  | _ => none }
def persistPartsRow : OpenClaim := { program := "ytdbgnniedcibeaa", sum := "68c32f066db34160c60e4ea68164bceeb3cbe52de303819a0795f297ec0f58cd", func := "ontime/ontimelaw32.PersistParts", spec := "persistParts", recurses := true, apart := false }
def PersistPartsSaid : Prop := persistPartsRow.holds Try.pinned (OpenSpec.ofChange persistPartsSpec)

/-- ITS FALSE NEIGHBOUR: 'it returns false'. Refute it at one input. -/
def persistPartsWrong : ChangeSpec := { name := "persistParts", fn := fun _ => fun
  | [d1, d2, d3] => { results := [.lit (.bool false)], args := [d1, d2, d3] }
  | _ => none }
def PersistPartsWrongFalsely : Prop := persistPartsRow.holds Try.pinned (OpenSpec.ofChange persistPartsWrong)

/-- 'ontimelaw32.PersistFits': WHATEVER THE INPUT: true; the input reads as it did. -/
def persistFitsSpec : ChangeSpec := { name := "persistFits", fn := fun _ => fun
  | [d1, d2] => { results := [.lit (.bool true)], args := [d1, d2] }
  | _ => none }
def persistFitsRow : OpenClaim := { program := "ytdbgnniedcibeaa", sum := "68c32f066db34160c60e4ea68164bceeb3cbe52de303819a0795f297ec0f58cd", func := "ontime/ontimelaw32.PersistFits", spec := "persistFits", recurses := true, apart := false }
def PersistFitsSaid : Prop := persistFitsRow.holds Try.pinned (OpenSpec.ofChange persistFitsSpec)

/-- ITS FALSE NEIGHBOUR: 'it returns false'. Refute it at one input. -/
def persistFitsWrong : ChangeSpec := { name := "persistFits", fn := fun _ => fun
  | [d1, d2] => { results := [.lit (.bool false)], args := [d1, d2] }
  | _ => none }
def PersistFitsWrongFalsely : Prop := persistFitsRow.holds Try.pinned (OpenSpec.ofChange persistFitsWrong)

/-- 'ontimelaw32.PersistMisses': WHATEVER THE INPUT: true; the input reads as it did. -/
def persistMissesSpec : ChangeSpec := { name := "persistMisses", fn := fun _ => fun
  | [d1, d2, d3] => { results := [.lit (.bool true)], args := [d1, d2, d3] }
  | _ => none }
def persistMissesRow : OpenClaim := { program := "ytdbgnniedcibeaa", sum := "68c32f066db34160c60e4ea68164bceeb3cbe52de303819a0795f297ec0f58cd", func := "ontime/ontimelaw32.PersistMisses", spec := "persistMisses", inPlace := ["slices.overlaps[int]"], unfollowed := true, recurses := true, apart := false }
def PersistMissesSaid : Prop := persistMissesRow.holds Try.pinned (OpenSpec.ofChange persistMissesSpec)

/-- ITS FALSE NEIGHBOUR: 'it returns false'. Refute it at one input. -/
def persistMissesWrong : ChangeSpec := { name := "persistMisses", fn := fun _ => fun
  | [d1, d2, d3] => { results := [.lit (.bool false)], args := [d1, d2, d3] }
  | _ => none }
def PersistMissesWrongFalsely : Prop := persistMissesRow.holds Try.pinned (OpenSpec.ofChange persistMissesWrong)

/-- 'ontimelaw32.PersistFlushes': WHATEVER THE INPUT: true; the input reads as it did. -/
def persistFlushesSpec : ChangeSpec := { name := "persistFlushes", fn := fun _ => fun
  | [d1, d2, d3, d4] => { results := [.lit (.bool true)], args := [d1, d2, d3, d4] }
  | _ => none }
def persistFlushesRow : OpenClaim := { program := "ytdbgnniedcibeaa", sum := "68c32f066db34160c60e4ea68164bceeb3cbe52de303819a0795f297ec0f58cd", func := "ontime/ontimelaw32.PersistFlushes", spec := "persistFlushes", inPlace := ["slices.overlaps[int]"], unfollowed := true, recurses := true, apart := false }
def PersistFlushesSaid : Prop := persistFlushesRow.holds Try.pinned (OpenSpec.ofChange persistFlushesSpec)

/-- ITS FALSE NEIGHBOUR: 'it returns false'. Refute it at one input. -/
def persistFlushesWrong : ChangeSpec := { name := "persistFlushes", fn := fun _ => fun
  | [d1, d2, d3, d4] => { results := [.lit (.bool false)], args := [d1, d2, d3, d4] }
  | _ => none }
def PersistFlushesWrongFalsely : Prop := persistFlushesRow.holds Try.pinned (OpenSpec.ofChange persistFlushesWrong)

/-- 'ontimelaw32.PersistStays': WHATEVER THE INPUT: true; the input reads as it did. -/
def persistStaysSpec : ChangeSpec := { name := "persistStays", fn := fun _ => fun
  | [d1, d2, d3] => { results := [.lit (.bool true)], args := [d1, d2, d3] }
  | _ => none }
def persistStaysRow : OpenClaim := { program := "ytdbgnniedcibeaa", sum := "68c32f066db34160c60e4ea68164bceeb3cbe52de303819a0795f297ec0f58cd", func := "ontime/ontimelaw32.PersistStays", spec := "persistStays", inPlace := ["slices.overlaps[int]"], unfollowed := true, recurses := true, apart := false }
def PersistStaysSaid : Prop := persistStaysRow.holds Try.pinned (OpenSpec.ofChange persistStaysSpec)

/-- ITS FALSE NEIGHBOUR: 'it returns false'. Refute it at one input. -/
def persistStaysWrong : ChangeSpec := { name := "persistStays", fn := fun _ => fun
  | [d1, d2, d3] => { results := [.lit (.bool false)], args := [d1, d2, d3] }
  | _ => none }
def PersistStaysWrongFalsely : Prop := persistStaysRow.holds Try.pinned (OpenSpec.ofChange persistStaysWrong)

/-- 'ontimelaw32.PersistCold': WHATEVER THE INPUT: true; the input reads as it did. -/
def persistColdSpec : ChangeSpec := { name := "persistCold", fn := fun _ => fun
  | [d1, d2, d3] => { results := [.lit (.bool true)], args := [d1, d2, d3] }
  | _ => none }
def persistColdRow : OpenClaim := { program := "ytdbgnniedcibeaa", sum := "68c32f066db34160c60e4ea68164bceeb3cbe52de303819a0795f297ec0f58cd", func := "ontime/ontimelaw32.PersistCold", spec := "persistCold", inPlace := ["slices.overlaps[int]"], recurses := true, apart := false }
def PersistColdSaid : Prop := persistColdRow.holds Try.pinned (OpenSpec.ofChange persistColdSpec)

/-- ITS FALSE NEIGHBOUR: 'it returns false'. Refute it at one input. -/
def persistColdWrong : ChangeSpec := { name := "persistCold", fn := fun _ => fun
  | [d1, d2, d3] => { results := [.lit (.bool false)], args := [d1, d2, d3] }
  | _ => none }
def PersistColdWrongFalsely : Prop := persistColdRow.holds Try.pinned (OpenSpec.ofChange persistColdWrong)

/- THE SECOND FORM. 'bulk': how many values and letters a reading holds, each counted each time it is reached (what is shared counts as often as it is met; a slice's spare places count too). A statement '..UptoSaid' is the law's where the arguments, and the package variables that the reading takes, are together of bulk at most 1048576: NARROWER than '..Said'. Prove '..Said' where nothing that the law and all that it calls make is longer than what came in: it says more and counts as full. Else prove '..UptoSaid'. A law counts once. -/
mutual
def uptoBulk {H : Type} : DataW H → Nat
  | .lit (.string bytes) => bytes.length + 1
  | .lit _ => 1
  | .nil => 1
  | .ptr d => uptoBulk d + 1
  | .slice elems spare => uptoBulkAll elems + uptoBulkAll spare + 1
  | .agg parts => uptoBulkAll parts + 1
  | .iface _ d => uptoBulk d + 1
  | .map entries => uptoBulkEntries entries + 1
  | .held _ => 1
def uptoBulkAll {H : Type} : List (DataW H) → Nat
  | [] => 0
  | d :: r => uptoBulk d + uptoBulkAll r
def uptoBulkEntries {H : Type} : List (Lit × DataW H) → Nat
  | [] => 0
  | x :: r => uptoBulkEntry x + uptoBulkEntries r
def uptoBulkEntry {H : Type} : Lit × DataW H → Nat
  | (.string bytes, d) => bytes.length + uptoBulk d + 1
  | (_, d) => uptoBulk d + 1
 end
def uptoSmall : (H : Type) → List (DataW H) → Bool := fun _ ds => decide (uptoBulkAll ds ≤ 1048576)
def OpenSpec.upto (s : _root_.Go.ChangeSpec) : _root_.Go.OpenSpec := { _root_.Go.OpenSpec.ofChange s with cond := some uptoSmall }

/-- 'ontimelaw32.PersistLines', WHERE WHAT IT READS IS OF BULK AT MOST 1048576: true; the input reads as it did. -/
def persistLinesUptoRow : OpenClaim := { program := "ytdbgnniedcibeaa", sum := "68c32f066db34160c60e4ea68164bceeb3cbe52de303819a0795f297ec0f58cd", func := "ontime/ontimelaw32.PersistLines", spec := "persistLines", recurses := true, apart := false, narrowed := true }
def PersistLinesUptoSaid : Prop := persistLinesUptoRow.holds Try.pinned (OpenSpec.upto persistLinesSpec)

/-- 'ontimelaw32.PersistMore', WHERE WHAT IT READS IS OF BULK AT MOST 1048576: true; the input reads as it did. -/
def persistMoreUptoRow : OpenClaim := { program := "ytdbgnniedcibeaa", sum := "68c32f066db34160c60e4ea68164bceeb3cbe52de303819a0795f297ec0f58cd", func := "ontime/ontimelaw32.PersistMore", spec := "persistMore", unfollowed := true, recurses := true, apart := false, narrowed := true }
def PersistMoreUptoSaid : Prop := persistMoreUptoRow.holds Try.pinned (OpenSpec.upto persistMoreSpec)

/-- 'ontimelaw32.PersistParts', WHERE WHAT IT READS IS OF BULK AT MOST 1048576: true; the input reads as it did. -/
def persistPartsUptoRow : OpenClaim := { program := "ytdbgnniedcibeaa", sum := "68c32f066db34160c60e4ea68164bceeb3cbe52de303819a0795f297ec0f58cd", func := "ontime/ontimelaw32.PersistParts", spec := "persistParts", recurses := true, apart := false, narrowed := true }
def PersistPartsUptoSaid : Prop := persistPartsUptoRow.holds Try.pinned (OpenSpec.upto persistPartsSpec)

/-- 'ontimelaw32.PersistFits', WHERE WHAT IT READS IS OF BULK AT MOST 1048576: true; the input reads as it did. -/
def persistFitsUptoRow : OpenClaim := { program := "ytdbgnniedcibeaa", sum := "68c32f066db34160c60e4ea68164bceeb3cbe52de303819a0795f297ec0f58cd", func := "ontime/ontimelaw32.PersistFits", spec := "persistFits", recurses := true, apart := false, narrowed := true }
def PersistFitsUptoSaid : Prop := persistFitsUptoRow.holds Try.pinned (OpenSpec.upto persistFitsSpec)

/-- 'ontimelaw32.PersistMisses', WHERE WHAT IT READS IS OF BULK AT MOST 1048576: true; the input reads as it did. -/
def persistMissesUptoRow : OpenClaim := { program := "ytdbgnniedcibeaa", sum := "68c32f066db34160c60e4ea68164bceeb3cbe52de303819a0795f297ec0f58cd", func := "ontime/ontimelaw32.PersistMisses", spec := "persistMisses", inPlace := ["slices.overlaps[int]"], unfollowed := true, recurses := true, apart := false, narrowed := true }
def PersistMissesUptoSaid : Prop := persistMissesUptoRow.holds Try.pinned (OpenSpec.upto persistMissesSpec)

/-- 'ontimelaw32.PersistFlushes', WHERE WHAT IT READS IS OF BULK AT MOST 1048576: true; the input reads as it did. -/
def persistFlushesUptoRow : OpenClaim := { program := "ytdbgnniedcibeaa", sum := "68c32f066db34160c60e4ea68164bceeb3cbe52de303819a0795f297ec0f58cd", func := "ontime/ontimelaw32.PersistFlushes", spec := "persistFlushes", inPlace := ["slices.overlaps[int]"], unfollowed := true, recurses := true, apart := false, narrowed := true }
def PersistFlushesUptoSaid : Prop := persistFlushesUptoRow.holds Try.pinned (OpenSpec.upto persistFlushesSpec)

/-- 'ontimelaw32.PersistStays', WHERE WHAT IT READS IS OF BULK AT MOST 1048576: true; the input reads as it did. -/
def persistStaysUptoRow : OpenClaim := { program := "ytdbgnniedcibeaa", sum := "68c32f066db34160c60e4ea68164bceeb3cbe52de303819a0795f297ec0f58cd", func := "ontime/ontimelaw32.PersistStays", spec := "persistStays", inPlace := ["slices.overlaps[int]"], unfollowed := true, recurses := true, apart := false, narrowed := true }
def PersistStaysUptoSaid : Prop := persistStaysUptoRow.holds Try.pinned (OpenSpec.upto persistStaysSpec)

/-- 'ontimelaw32.PersistCold', WHERE WHAT IT READS IS OF BULK AT MOST 1048576: true; the input reads as it did. -/
def persistColdUptoRow : OpenClaim := { program := "ytdbgnniedcibeaa", sum := "68c32f066db34160c60e4ea68164bceeb3cbe52de303819a0795f297ec0f58cd", func := "ontime/ontimelaw32.PersistCold", spec := "persistCold", inPlace := ["slices.overlaps[int]"], recurses := true, apart := false, narrowed := true }
def PersistColdUptoSaid : Prop := persistColdUptoRow.holds Try.pinned (OpenSpec.upto persistColdSpec)

end Rows
end Go.Proofs.Ytdbgnniedcibeaa
