/-
  No cell of these rows narrows 'for every input' (looked for: loops, veiled, ifaces, maps, wideKeys, modest, calm, conditions, laid).
  DERIVED. THE GIVEN ROWS OF THIS SEAT. 11 by the template 'for every input the law returns true; each argument reads behind the call as it read before'; 0 by the template 'total and deterministic' (their statements: YtbkddgeocmkegaaTotals.lean).
  GIVEN WITH THE SEED: the statements are not yours to turn. If you find one false, say at which input.
  Laid BY PROGRAM, IN A SANDBOX (cutbox-rows.mjs): the forced cells as the released guide's own fill.sh prints them over the translation cc30e64ed2680dea… (all of the seat's roots in one cut). By AI agents, Wed Nov 11 2026. No macro, syntax, notation, axiom, sorry.
-/
import Derived.Test.YtbkddgeocmkegaaChecked
import GoSem.Claim
import GoSem.ClaimJoined
import GoSem.ClaimMapViews
import Derived.JoinedTies
import Derived.KernelRfl
namespace Go.Proofs.Ytbkddgeocmkegaa
/- THE CELL 'sum', in the pinned program and in every row, IS THE sha256 OF THE DUMP (.gsa) THAT YtbkddgeocmkegaaProg.lean LOADS. Nothing in Lean hashes anything: it is a label: what it is worth is what the hold of that sum in a sandbox is worth. -/
noncomputable def Try.pinned : Pinned := { name := "ytbkddgeocmkegaa", sum := "cc30e64ed2680dea12f0ff30c1956eb58108f1e63787d4dd649f16be1bc359a0", checked := Try.checked }
namespace Rows
def none {H : Type} : Left H := { results := [], args := [] }

/-- 'greenscreenlaw10.RecordSplits': WHATEVER THE INPUT: true; the input reads as it did. -/
def recordSplitsSpec : ChangeSpec := { name := "recordSplits", fn := fun _ => fun
  | [d1, d2] => { results := [.lit (.bool true)], args := [d1, d2] }
  | _ => none }
def recordSplitsRow : OpenClaim := { program := "ytbkddgeocmkegaa", sum := "cc30e64ed2680dea12f0ff30c1956eb58108f1e63787d4dd649f16be1bc359a0", func := "greenscreen/greenscreenlaw10.RecordSplits", spec := "recordSplits", apart := false }
def RecordSplitsSaid : Prop := recordSplitsRow.holds Try.pinned (OpenSpec.ofChange recordSplitsSpec)

/-- ITS FALSE NEIGHBOUR: 'it returns false'. Refute it at one input. -/
def recordSplitsWrong : ChangeSpec := { name := "recordSplits", fn := fun _ => fun
  | [d1, d2] => { results := [.lit (.bool false)], args := [d1, d2] }
  | _ => none }
def RecordSplitsWrongFalsely : Prop := recordSplitsRow.holds Try.pinned (OpenSpec.ofChange recordSplitsWrong)

/-- 'greenscreentop.WholePrefix': WHATEVER THE INPUT: true; the input reads as it did. -/
def wholePrefixSpec : ChangeSpec := { name := "wholePrefix", fn := fun _ => fun
  | [d1, d2, d3, d4] => { results := [.lit (.bool true)], args := [d1, d2, d3, d4] }
  | _ => none }
def wholePrefixRow : OpenClaim := { program := "ytbkddgeocmkegaa", sum := "cc30e64ed2680dea12f0ff30c1956eb58108f1e63787d4dd649f16be1bc359a0", func := "greenscreen/greenscreentop.WholePrefix", spec := "wholePrefix", unfollowed := true, recurses := true, apart := false }
def WholePrefixSaid : Prop := wholePrefixRow.holds Try.pinned (OpenSpec.ofChange wholePrefixSpec)

/-- ITS FALSE NEIGHBOUR: 'it returns false'. Refute it at one input. -/
def wholePrefixWrong : ChangeSpec := { name := "wholePrefix", fn := fun _ => fun
  | [d1, d2, d3, d4] => { results := [.lit (.bool false)], args := [d1, d2, d3, d4] }
  | _ => none }
def WholePrefixWrongFalsely : Prop := wholePrefixRow.holds Try.pinned (OpenSpec.ofChange wholePrefixWrong)

/-- 'greenscreenlaw10.RecordBack': WHATEVER THE INPUT: true; the input reads as it did. -/
def recordBackSpec : ChangeSpec := { name := "recordBack", fn := fun _ => fun
  | [d1, d2] => { results := [.lit (.bool true)], args := [d1, d2] }
  | _ => none }
def recordBackRow : OpenClaim := { program := "ytbkddgeocmkegaa", sum := "cc30e64ed2680dea12f0ff30c1956eb58108f1e63787d4dd649f16be1bc359a0", func := "greenscreen/greenscreenlaw10.RecordBack", spec := "recordBack", apart := false }
def RecordBackSaid : Prop := recordBackRow.holds Try.pinned (OpenSpec.ofChange recordBackSpec)

/-- ITS FALSE NEIGHBOUR: 'it returns false'. Refute it at one input. -/
def recordBackWrong : ChangeSpec := { name := "recordBack", fn := fun _ => fun
  | [d1, d2] => { results := [.lit (.bool false)], args := [d1, d2] }
  | _ => none }
def RecordBackWrongFalsely : Prop := recordBackRow.holds Try.pinned (OpenSpec.ofChange recordBackWrong)

/-- 'greenscreenlaw19.CaretMoves': WHATEVER THE INPUT: true; the input reads as it did. -/
def caretMovesSpec : ChangeSpec := { name := "caretMoves", fn := fun _ => fun
  | [d1, d2, d3, d4, d5] => { results := [.lit (.bool true)], args := [d1, d2, d3, d4, d5] }
  | _ => none }
def caretMovesRow : OpenClaim := { program := "ytbkddgeocmkegaa", sum := "cc30e64ed2680dea12f0ff30c1956eb58108f1e63787d4dd649f16be1bc359a0", func := "greenscreen/greenscreenlaw19.CaretMoves", spec := "caretMoves", unfollowed := true, recurses := true, apart := false }
def CaretMovesSaid : Prop := caretMovesRow.holds Try.pinned (OpenSpec.ofChange caretMovesSpec)

/-- ITS FALSE NEIGHBOUR: 'it returns false'. Refute it at one input. -/
def caretMovesWrong : ChangeSpec := { name := "caretMoves", fn := fun _ => fun
  | [d1, d2, d3, d4, d5] => { results := [.lit (.bool false)], args := [d1, d2, d3, d4, d5] }
  | _ => none }
def CaretMovesWrongFalsely : Prop := caretMovesRow.holds Try.pinned (OpenSpec.ofChange caretMovesWrong)

/-- 'greenscreenlaw17.WipeInsides': WHATEVER THE INPUT: true; the input reads as it did. -/
def wipeInsidesSpec : ChangeSpec := { name := "wipeInsides", fn := fun _ => fun
  | [d1, d2, d3] => { results := [.lit (.bool true)], args := [d1, d2, d3] }
  | _ => none }
def wipeInsidesRow : OpenClaim := { program := "ytbkddgeocmkegaa", sum := "cc30e64ed2680dea12f0ff30c1956eb58108f1e63787d4dd649f16be1bc359a0", func := "greenscreen/greenscreenlaw17.WipeInsides", spec := "wipeInsides", unfollowed := true, recurses := true, apart := false }
def WipeInsidesSaid : Prop := wipeInsidesRow.holds Try.pinned (OpenSpec.ofChange wipeInsidesSpec)

/-- ITS FALSE NEIGHBOUR: 'it returns false'. Refute it at one input. -/
def wipeInsidesWrong : ChangeSpec := { name := "wipeInsides", fn := fun _ => fun
  | [d1, d2, d3] => { results := [.lit (.bool false)], args := [d1, d2, d3] }
  | _ => none }
def WipeInsidesWrongFalsely : Prop := wipeInsidesRow.holds Try.pinned (OpenSpec.ofChange wipeInsidesWrong)

/-- 'greenscreenlaw17.WipeKeeps': WHATEVER THE INPUT: true; the input reads as it did. -/
def wipeKeepsSpec : ChangeSpec := { name := "wipeKeeps", fn := fun _ => fun
  | [d1, d2, d3] => { results := [.lit (.bool true)], args := [d1, d2, d3] }
  | _ => none }
def wipeKeepsRow : OpenClaim := { program := "ytbkddgeocmkegaa", sum := "cc30e64ed2680dea12f0ff30c1956eb58108f1e63787d4dd649f16be1bc359a0", func := "greenscreen/greenscreenlaw17.WipeKeeps", spec := "wipeKeeps", unfollowed := true, recurses := true, apart := false }
def WipeKeepsSaid : Prop := wipeKeepsRow.holds Try.pinned (OpenSpec.ofChange wipeKeepsSpec)

/-- ITS FALSE NEIGHBOUR: 'it returns false'. Refute it at one input. -/
def wipeKeepsWrong : ChangeSpec := { name := "wipeKeeps", fn := fun _ => fun
  | [d1, d2, d3] => { results := [.lit (.bool false)], args := [d1, d2, d3] }
  | _ => none }
def WipeKeepsWrongFalsely : Prop := wipeKeepsRow.holds Try.pinned (OpenSpec.ofChange wipeKeepsWrong)

/-- 'greenscreenlaw16.PaintPlays': WHATEVER THE INPUT: true; the input reads as it did. -/
def paintPlaysSpec : ChangeSpec := { name := "paintPlays", fn := fun _ => fun
  | [d1, d2, d3, d4] => { results := [.lit (.bool true)], args := [d1, d2, d3, d4] }
  | _ => none }
def paintPlaysRow : OpenClaim := { program := "ytbkddgeocmkegaa", sum := "cc30e64ed2680dea12f0ff30c1956eb58108f1e63787d4dd649f16be1bc359a0", func := "greenscreen/greenscreenlaw16.PaintPlays", spec := "paintPlays", unfollowed := true, recurses := true, apart := false }
def PaintPlaysSaid : Prop := paintPlaysRow.holds Try.pinned (OpenSpec.ofChange paintPlaysSpec)

/-- ITS FALSE NEIGHBOUR: 'it returns false'. Refute it at one input. -/
def paintPlaysWrong : ChangeSpec := { name := "paintPlays", fn := fun _ => fun
  | [d1, d2, d3, d4] => { results := [.lit (.bool false)], args := [d1, d2, d3, d4] }
  | _ => none }
def PaintPlaysWrongFalsely : Prop := paintPlaysRow.holds Try.pinned (OpenSpec.ofChange paintPlaysWrong)

/-- 'greenscreenlaw16.PaintKeeps': WHATEVER THE INPUT: true; the input reads as it did. -/
def paintKeepsSpec : ChangeSpec := { name := "paintKeeps", fn := fun _ => fun
  | [d1, d2, d3, d4, d5] => { results := [.lit (.bool true)], args := [d1, d2, d3, d4, d5] }
  | _ => none }
def paintKeepsRow : OpenClaim := { program := "ytbkddgeocmkegaa", sum := "cc30e64ed2680dea12f0ff30c1956eb58108f1e63787d4dd649f16be1bc359a0", func := "greenscreen/greenscreenlaw16.PaintKeeps", spec := "paintKeeps", unfollowed := true, recurses := true, apart := false }
def PaintKeepsSaid : Prop := paintKeepsRow.holds Try.pinned (OpenSpec.ofChange paintKeepsSpec)

/-- ITS FALSE NEIGHBOUR: 'it returns false'. Refute it at one input. -/
def paintKeepsWrong : ChangeSpec := { name := "paintKeeps", fn := fun _ => fun
  | [d1, d2, d3, d4, d5] => { results := [.lit (.bool false)], args := [d1, d2, d3, d4, d5] }
  | _ => none }
def PaintKeepsWrongFalsely : Prop := paintKeepsRow.holds Try.pinned (OpenSpec.ofChange paintKeepsWrong)

/-- 'greenscreenlaw07.TalkNames': WHATEVER THE INPUT: true; the input reads as it did. -/
def talkNamesSpec : ChangeSpec := { name := "talkNames", fn := fun _ => fun
  | [d1, d2] => { results := [.lit (.bool true)], args := [d1, d2] }
  | _ => none }
def talkNamesRow : OpenClaim := { program := "ytbkddgeocmkegaa", sum := "cc30e64ed2680dea12f0ff30c1956eb58108f1e63787d4dd649f16be1bc359a0", func := "greenscreen/greenscreenlaw07.TalkNames", spec := "talkNames", apart := false }
def TalkNamesSaid : Prop := talkNamesRow.holds Try.pinned (OpenSpec.ofChange talkNamesSpec)

/-- ITS FALSE NEIGHBOUR: 'it returns false'. Refute it at one input. -/
def talkNamesWrong : ChangeSpec := { name := "talkNames", fn := fun _ => fun
  | [d1, d2] => { results := [.lit (.bool false)], args := [d1, d2] }
  | _ => none }
def TalkNamesWrongFalsely : Prop := talkNamesRow.holds Try.pinned (OpenSpec.ofChange talkNamesWrong)

/-- 'greenscreenlaw16.PaintCuts': WHATEVER THE INPUT: true; the input reads as it did. -/
def paintCutsSpec : ChangeSpec := { name := "paintCuts", fn := fun _ => fun
  | [d1, d2, d3, d4, d5] => { results := [.lit (.bool true)], args := [d1, d2, d3, d4, d5] }
  | _ => none }
def paintCutsRow : OpenClaim := { program := "ytbkddgeocmkegaa", sum := "cc30e64ed2680dea12f0ff30c1956eb58108f1e63787d4dd649f16be1bc359a0", func := "greenscreen/greenscreenlaw16.PaintCuts", spec := "paintCuts", unfollowed := true, recurses := true, apart := false }
def PaintCutsSaid : Prop := paintCutsRow.holds Try.pinned (OpenSpec.ofChange paintCutsSpec)

/-- ITS FALSE NEIGHBOUR: 'it returns false'. Refute it at one input. -/
def paintCutsWrong : ChangeSpec := { name := "paintCuts", fn := fun _ => fun
  | [d1, d2, d3, d4, d5] => { results := [.lit (.bool false)], args := [d1, d2, d3, d4, d5] }
  | _ => none }
def PaintCutsWrongFalsely : Prop := paintCutsRow.holds Try.pinned (OpenSpec.ofChange paintCutsWrong)

/-- 'greenscreenlaw16.PaintRounds': WHATEVER THE INPUT: true; the input reads as it did. -/
def paintRoundsSpec : ChangeSpec := { name := "paintRounds", fn := fun _ => fun
  | [d1, d2, d3, d4, d5] => { results := [.lit (.bool true)], args := [d1, d2, d3, d4, d5] }
  | _ => none }
def paintRoundsRow : OpenClaim := { program := "ytbkddgeocmkegaa", sum := "cc30e64ed2680dea12f0ff30c1956eb58108f1e63787d4dd649f16be1bc359a0", func := "greenscreen/greenscreenlaw16.PaintRounds", spec := "paintRounds", unfollowed := true, recurses := true, apart := false }
def PaintRoundsSaid : Prop := paintRoundsRow.holds Try.pinned (OpenSpec.ofChange paintRoundsSpec)

/-- ITS FALSE NEIGHBOUR: 'it returns false'. Refute it at one input. -/
def paintRoundsWrong : ChangeSpec := { name := "paintRounds", fn := fun _ => fun
  | [d1, d2, d3, d4, d5] => { results := [.lit (.bool false)], args := [d1, d2, d3, d4, d5] }
  | _ => none }
def PaintRoundsWrongFalsely : Prop := paintRoundsRow.holds Try.pinned (OpenSpec.ofChange paintRoundsWrong)

/- THE SECOND FORM. 'bulk': how many values and letters a reading holds, each counted each time it is reached (what is shared counts as often as it is met; a slice's spare places count too). A statement '..UptoSaid' is the law's where the arguments, and the package variables that the reading takes, are together of bulk at most 1048576: NARROWER than '..Said'. Prove '..Said' where nothing that the law and all that it calls make is longer than what came in: it says more and counts as full. Else prove '..UptoSaid'. A law counts once. -/
mutual
def uptoBulk {H : Type} : DataW H → Nat
  | .lit (.string bytes) => bytes.length + 1
  | .lit _ => 1
  | .nil => 1
  | .ptr d => uptoBulk d + 1
  | .slice elems spare => uptoBulkAll elems + uptoBulkAll spare + 1
  | .agg parts => uptoBulkAll parts + 1
  | .iface _ d => uptoBulk d + 1
  | .map entries => uptoBulkEntries entries + 1
  | .held _ => 1
def uptoBulkAll {H : Type} : List (DataW H) → Nat
  | [] => 0
  | d :: r => uptoBulk d + uptoBulkAll r
def uptoBulkEntries {H : Type} : List (Lit × DataW H) → Nat
  | [] => 0
  | x :: r => uptoBulkEntry x + uptoBulkEntries r
def uptoBulkEntry {H : Type} : Lit × DataW H → Nat
  | (.string bytes, d) => bytes.length + uptoBulk d + 1
  | (_, d) => uptoBulk d + 1
 end
def uptoSmall : (H : Type) → List (DataW H) → Bool := fun _ ds => decide (uptoBulkAll ds ≤ 1048576)
def OpenSpec.upto (s : _root_.Go.ChangeSpec) : _root_.Go.OpenSpec := { _root_.Go.OpenSpec.ofChange s with cond := some uptoSmall }

/-- 'greenscreenlaw10.RecordSplits', WHERE WHAT IT READS IS OF BULK AT MOST 1048576: true; the input reads as it did. -/
def recordSplitsUptoRow : OpenClaim := { program := "ytbkddgeocmkegaa", sum := "cc30e64ed2680dea12f0ff30c1956eb58108f1e63787d4dd649f16be1bc359a0", func := "greenscreen/greenscreenlaw10.RecordSplits", spec := "recordSplits", apart := false, narrowed := true }
def RecordSplitsUptoSaid : Prop := recordSplitsUptoRow.holds Try.pinned (OpenSpec.upto recordSplitsSpec)

/-- 'greenscreentop.WholePrefix', WHERE WHAT IT READS IS OF BULK AT MOST 1048576: true; the input reads as it did. -/
def wholePrefixUptoRow : OpenClaim := { program := "ytbkddgeocmkegaa", sum := "cc30e64ed2680dea12f0ff30c1956eb58108f1e63787d4dd649f16be1bc359a0", func := "greenscreen/greenscreentop.WholePrefix", spec := "wholePrefix", unfollowed := true, recurses := true, apart := false, narrowed := true }
def WholePrefixUptoSaid : Prop := wholePrefixUptoRow.holds Try.pinned (OpenSpec.upto wholePrefixSpec)

/-- 'greenscreenlaw10.RecordBack', WHERE WHAT IT READS IS OF BULK AT MOST 1048576: true; the input reads as it did. -/
def recordBackUptoRow : OpenClaim := { program := "ytbkddgeocmkegaa", sum := "cc30e64ed2680dea12f0ff30c1956eb58108f1e63787d4dd649f16be1bc359a0", func := "greenscreen/greenscreenlaw10.RecordBack", spec := "recordBack", apart := false, narrowed := true }
def RecordBackUptoSaid : Prop := recordBackUptoRow.holds Try.pinned (OpenSpec.upto recordBackSpec)

/-- 'greenscreenlaw19.CaretMoves', WHERE WHAT IT READS IS OF BULK AT MOST 1048576: true; the input reads as it did. -/
def caretMovesUptoRow : OpenClaim := { program := "ytbkddgeocmkegaa", sum := "cc30e64ed2680dea12f0ff30c1956eb58108f1e63787d4dd649f16be1bc359a0", func := "greenscreen/greenscreenlaw19.CaretMoves", spec := "caretMoves", unfollowed := true, recurses := true, apart := false, narrowed := true }
def CaretMovesUptoSaid : Prop := caretMovesUptoRow.holds Try.pinned (OpenSpec.upto caretMovesSpec)

/-- 'greenscreenlaw17.WipeInsides', WHERE WHAT IT READS IS OF BULK AT MOST 1048576: true; the input reads as it did. -/
def wipeInsidesUptoRow : OpenClaim := { program := "ytbkddgeocmkegaa", sum := "cc30e64ed2680dea12f0ff30c1956eb58108f1e63787d4dd649f16be1bc359a0", func := "greenscreen/greenscreenlaw17.WipeInsides", spec := "wipeInsides", unfollowed := true, recurses := true, apart := false, narrowed := true }
def WipeInsidesUptoSaid : Prop := wipeInsidesUptoRow.holds Try.pinned (OpenSpec.upto wipeInsidesSpec)

/-- 'greenscreenlaw17.WipeKeeps', WHERE WHAT IT READS IS OF BULK AT MOST 1048576: true; the input reads as it did. -/
def wipeKeepsUptoRow : OpenClaim := { program := "ytbkddgeocmkegaa", sum := "cc30e64ed2680dea12f0ff30c1956eb58108f1e63787d4dd649f16be1bc359a0", func := "greenscreen/greenscreenlaw17.WipeKeeps", spec := "wipeKeeps", unfollowed := true, recurses := true, apart := false, narrowed := true }
def WipeKeepsUptoSaid : Prop := wipeKeepsUptoRow.holds Try.pinned (OpenSpec.upto wipeKeepsSpec)

/-- 'greenscreenlaw16.PaintPlays', WHERE WHAT IT READS IS OF BULK AT MOST 1048576: true; the input reads as it did. -/
def paintPlaysUptoRow : OpenClaim := { program := "ytbkddgeocmkegaa", sum := "cc30e64ed2680dea12f0ff30c1956eb58108f1e63787d4dd649f16be1bc359a0", func := "greenscreen/greenscreenlaw16.PaintPlays", spec := "paintPlays", unfollowed := true, recurses := true, apart := false, narrowed := true }
def PaintPlaysUptoSaid : Prop := paintPlaysUptoRow.holds Try.pinned (OpenSpec.upto paintPlaysSpec)

/-- 'greenscreenlaw16.PaintKeeps', WHERE WHAT IT READS IS OF BULK AT MOST 1048576: true; the input reads as it did. -/
def paintKeepsUptoRow : OpenClaim := { program := "ytbkddgeocmkegaa", sum := "cc30e64ed2680dea12f0ff30c1956eb58108f1e63787d4dd649f16be1bc359a0", func := "greenscreen/greenscreenlaw16.PaintKeeps", spec := "paintKeeps", unfollowed := true, recurses := true, apart := false, narrowed := true }
def PaintKeepsUptoSaid : Prop := paintKeepsUptoRow.holds Try.pinned (OpenSpec.upto paintKeepsSpec)

/-- 'greenscreenlaw07.TalkNames', WHERE WHAT IT READS IS OF BULK AT MOST 1048576: true; the input reads as it did. -/
def talkNamesUptoRow : OpenClaim := { program := "ytbkddgeocmkegaa", sum := "cc30e64ed2680dea12f0ff30c1956eb58108f1e63787d4dd649f16be1bc359a0", func := "greenscreen/greenscreenlaw07.TalkNames", spec := "talkNames", apart := false, narrowed := true }
def TalkNamesUptoSaid : Prop := talkNamesUptoRow.holds Try.pinned (OpenSpec.upto talkNamesSpec)

/-- 'greenscreenlaw16.PaintCuts', WHERE WHAT IT READS IS OF BULK AT MOST 1048576: true; the input reads as it did. -/
def paintCutsUptoRow : OpenClaim := { program := "ytbkddgeocmkegaa", sum := "cc30e64ed2680dea12f0ff30c1956eb58108f1e63787d4dd649f16be1bc359a0", func := "greenscreen/greenscreenlaw16.PaintCuts", spec := "paintCuts", unfollowed := true, recurses := true, apart := false, narrowed := true }
def PaintCutsUptoSaid : Prop := paintCutsUptoRow.holds Try.pinned (OpenSpec.upto paintCutsSpec)

/-- 'greenscreenlaw16.PaintRounds', WHERE WHAT IT READS IS OF BULK AT MOST 1048576: true; the input reads as it did. -/
def paintRoundsUptoRow : OpenClaim := { program := "ytbkddgeocmkegaa", sum := "cc30e64ed2680dea12f0ff30c1956eb58108f1e63787d4dd649f16be1bc359a0", func := "greenscreen/greenscreenlaw16.PaintRounds", spec := "paintRounds", unfollowed := true, recurses := true, apart := false, narrowed := true }
def PaintRoundsUptoSaid : Prop := paintRoundsUptoRow.holds Try.pinned (OpenSpec.upto paintRoundsSpec)

end Rows
end Go.Proofs.Ytbkddgeocmkegaa
