/-
  NARROWER THAN 'FOR EVERY INPUT', by the rows' own cells (each row's printed sentence says how): ScreenCursor: laid · ScreenPlays: laid · ScreenGuards: laid · ScreenMoves: laid · ScreenCopies: laid · ScreenFeeds: laid · ScreenNil: laid · ScreenGrows: laid.
  DERIVED. THE GIVEN ROWS OF THIS SEAT. 8 by the template 'for every input the law returns true; each argument reads behind the call as it read before'; 0 by the template 'total and deterministic' (their statements: YtbnkfiaggehmgaaGreatDoorTotals.lean).
  GIVEN WITH THE SEED: the statements are not yours to turn. If you find one false, say at which input.
  Laid BY PROGRAM, IN A SANDBOX (cutbox-rows.mjs): the forced cells as the released guide's own fill.sh prints them over the translation 160ddf426559dd2d… (all of the seat's roots in one cut). By AI agents, Wed Nov 11 2026. No macro, syntax, notation, axiom, sorry.
-/
import Derived.Test.YtbnkfiaggehmgaaGreatDoorChecked
import GoSem.Claim
import GoSem.ClaimJoined
import GoSem.ClaimMapViews
import Derived.JoinedTies
import Derived.KernelRfl
namespace Go.Proofs.YtbnkfiaggehmgaaGreatDoor
/- THE CELL 'sum', in the pinned program and in every row, IS THE sha256 OF THE DUMP (.gsa) THAT YtbnkfiaggehmgaaGreatDoorProg.lean LOADS. Nothing in Lean hashes anything: it is a label: what it is worth is what the hold of that sum in a sandbox is worth. -/
noncomputable def Tryz.pinned : Pinned := { name := "ytbnkfiaggehmgaagreatdoor", sum := "160ddf426559dd2df4143465cce0b20585a58cba8635e9cb35824219bb1c4dec", checked := Tryz.checked }
namespace Rows
def none {H : Type} : Left H := { results := [], args := [] }

/- WHAT THE LISTED PACKAGE-LEVEL VARIABLES READ AS WHEN THE CALL BEGINS. Each datum BY PROGRAM (the guide's laid-datum.mjs) off the statement by which the dump's own 'gosem.cut.vars' lays the variable. In a bare row this is a premise. The card (YtbnkfiaggehmgaaGreatDoorCards.lean) ties it to the program's text. -/
def laid_vizard_screen_Blank {H : Type} : DataW H := .agg [.lit (.int .i32 32), .lit (.int .i64 0), .lit (.bool false), .lit (.int .i64 0)]

/-- 'vizardlaw09.ScreenCursor': WHATEVER THE INPUT: true; the input reads as it did. -/
def screenCursorSpec : ChangeSpec := { name := "screenCursor", fn := fun _ => fun
  | [d1, d2, d3] => { results := [.lit (.bool true)], args := [d1, d2, d3] }
  | _ => none }
def screenCursorRow : OpenClaim := { program := "ytbnkfiaggehmgaagreatdoor", sum := "160ddf426559dd2df4143465cce0b20585a58cba8635e9cb35824219bb1c4dec", func := "vizard/vizardlaw09.ScreenCursor", spec := "screenCursor", unfollowed := true, recurses := true, named := ["vizard/screen.Blank"], apart := false, laid := [("vizard/screen.Blank", laid_vizard_screen_Blank)] }
def ScreenCursorSaid : Prop := screenCursorRow.holds Tryz.pinned (OpenSpec.ofChange screenCursorSpec)

/-- ITS FALSE NEIGHBOUR: 'it returns false'. Refute it at one input. -/
def screenCursorWrong : ChangeSpec := { name := "screenCursor", fn := fun _ => fun
  | [d1, d2, d3] => { results := [.lit (.bool false)], args := [d1, d2, d3] }
  | _ => none }
def ScreenCursorWrongFalsely : Prop := screenCursorRow.holds Tryz.pinned (OpenSpec.ofChange screenCursorWrong)

/-- 'vizardlaw09.ScreenPlays': WHATEVER THE INPUT: true; the input reads as it did. -/
def screenPlaysSpec : ChangeSpec := { name := "screenPlays", fn := fun _ => fun
  | [d1, d2] => { results := [.lit (.bool true)], args := [d1, d2] }
  | _ => none }
def screenPlaysRow : OpenClaim := { program := "ytbnkfiaggehmgaagreatdoor", sum := "160ddf426559dd2df4143465cce0b20585a58cba8635e9cb35824219bb1c4dec", func := "vizard/vizardlaw09.ScreenPlays", spec := "screenPlays", unfollowed := true, recurses := true, named := ["vizard/screen.Blank"], apart := false, laid := [("vizard/screen.Blank", laid_vizard_screen_Blank)] }
def ScreenPlaysSaid : Prop := screenPlaysRow.holds Tryz.pinned (OpenSpec.ofChange screenPlaysSpec)

/-- ITS FALSE NEIGHBOUR: 'it returns false'. Refute it at one input. -/
def screenPlaysWrong : ChangeSpec := { name := "screenPlays", fn := fun _ => fun
  | [d1, d2] => { results := [.lit (.bool false)], args := [d1, d2] }
  | _ => none }
def ScreenPlaysWrongFalsely : Prop := screenPlaysRow.holds Tryz.pinned (OpenSpec.ofChange screenPlaysWrong)

/-- 'vizardlaw09.ScreenGuards': WHATEVER THE INPUT: true; the input reads as it did. -/
def screenGuardsSpec : ChangeSpec := { name := "screenGuards", fn := fun _ => fun
  | [d1, d2] => { results := [.lit (.bool true)], args := [d1, d2] }
  | _ => none }
def screenGuardsRow : OpenClaim := { program := "ytbnkfiaggehmgaagreatdoor", sum := "160ddf426559dd2df4143465cce0b20585a58cba8635e9cb35824219bb1c4dec", func := "vizard/vizardlaw09.ScreenGuards", spec := "screenGuards", inPlace := ["maps.clone"], unfollowed := true, recurses := true, named := ["vizard/screen.Blank"], apart := false, laid := [("vizard/screen.Blank", laid_vizard_screen_Blank)] }
def ScreenGuardsSaid : Prop := screenGuardsRow.holds Tryz.pinned (OpenSpec.ofChange screenGuardsSpec)

/-- ITS FALSE NEIGHBOUR: 'it returns false'. Refute it at one input. -/
def screenGuardsWrong : ChangeSpec := { name := "screenGuards", fn := fun _ => fun
  | [d1, d2] => { results := [.lit (.bool false)], args := [d1, d2] }
  | _ => none }
def ScreenGuardsWrongFalsely : Prop := screenGuardsRow.holds Tryz.pinned (OpenSpec.ofChange screenGuardsWrong)

/-- 'vizardlaw09.ScreenMoves': WHATEVER THE INPUT: true; the input reads as it did. -/
def screenMovesSpec : ChangeSpec := { name := "screenMoves", fn := fun _ => fun
  | [d1, d2] => { results := [.lit (.bool true)], args := [d1, d2] }
  | _ => none }
def screenMovesRow : OpenClaim := { program := "ytbnkfiaggehmgaagreatdoor", sum := "160ddf426559dd2df4143465cce0b20585a58cba8635e9cb35824219bb1c4dec", func := "vizard/vizardlaw09.ScreenMoves", spec := "screenMoves", inPlace := ["maps.clone"], unfollowed := true, recurses := true, named := ["vizard/screen.Blank"], apart := false, laid := [("vizard/screen.Blank", laid_vizard_screen_Blank)] }
def ScreenMovesSaid : Prop := screenMovesRow.holds Tryz.pinned (OpenSpec.ofChange screenMovesSpec)

/-- ITS FALSE NEIGHBOUR: 'it returns false'. Refute it at one input. -/
def screenMovesWrong : ChangeSpec := { name := "screenMoves", fn := fun _ => fun
  | [d1, d2] => { results := [.lit (.bool false)], args := [d1, d2] }
  | _ => none }
def ScreenMovesWrongFalsely : Prop := screenMovesRow.holds Tryz.pinned (OpenSpec.ofChange screenMovesWrong)

/-- 'vizardlaw09.ScreenCopies': WHATEVER THE INPUT: true; the input reads as it did. -/
def screenCopiesSpec : ChangeSpec := { name := "screenCopies", fn := fun _ => fun
  | [d1, d2] => { results := [.lit (.bool true)], args := [d1, d2] }
  | _ => none }
def screenCopiesRow : OpenClaim := { program := "ytbnkfiaggehmgaagreatdoor", sum := "160ddf426559dd2df4143465cce0b20585a58cba8635e9cb35824219bb1c4dec", func := "vizard/vizardlaw09.ScreenCopies", spec := "screenCopies", inPlace := ["maps.clone"], unfollowed := true, recurses := true, named := ["vizard/screen.Blank"], apart := false, laid := [("vizard/screen.Blank", laid_vizard_screen_Blank)] }
def ScreenCopiesSaid : Prop := screenCopiesRow.holds Tryz.pinned (OpenSpec.ofChange screenCopiesSpec)

/-- ITS FALSE NEIGHBOUR: 'it returns false'. Refute it at one input. -/
def screenCopiesWrong : ChangeSpec := { name := "screenCopies", fn := fun _ => fun
  | [d1, d2] => { results := [.lit (.bool false)], args := [d1, d2] }
  | _ => none }
def ScreenCopiesWrongFalsely : Prop := screenCopiesRow.holds Tryz.pinned (OpenSpec.ofChange screenCopiesWrong)

/-- 'vizardlaw09.ScreenFeeds': WHATEVER THE INPUT: true; the input reads as it did. -/
def screenFeedsSpec : ChangeSpec := { name := "screenFeeds", fn := fun _ => fun
  | [d1, d2] => { results := [.lit (.bool true)], args := [d1, d2] }
  | _ => none }
def screenFeedsRow : OpenClaim := { program := "ytbnkfiaggehmgaagreatdoor", sum := "160ddf426559dd2df4143465cce0b20585a58cba8635e9cb35824219bb1c4dec", func := "vizard/vizardlaw09.ScreenFeeds", spec := "screenFeeds", inPlace := ["maps.clone"], unfollowed := true, recurses := true, named := ["vizard/screen.Blank"], apart := false, laid := [("vizard/screen.Blank", laid_vizard_screen_Blank)] }
def ScreenFeedsSaid : Prop := screenFeedsRow.holds Tryz.pinned (OpenSpec.ofChange screenFeedsSpec)

/-- ITS FALSE NEIGHBOUR: 'it returns false'. Refute it at one input. -/
def screenFeedsWrong : ChangeSpec := { name := "screenFeeds", fn := fun _ => fun
  | [d1, d2] => { results := [.lit (.bool false)], args := [d1, d2] }
  | _ => none }
def ScreenFeedsWrongFalsely : Prop := screenFeedsRow.holds Tryz.pinned (OpenSpec.ofChange screenFeedsWrong)

/-- 'vizardlaw09.ScreenNil': WHATEVER THE INPUT: true; the input reads as it did. -/
def screenNilSpec : ChangeSpec := { name := "screenNil", fn := fun _ => fun
  | [d] => { results := [.lit (.bool true)], args := [d] }
  | _ => none }
def screenNilRow : OpenClaim := { program := "ytbnkfiaggehmgaagreatdoor", sum := "160ddf426559dd2df4143465cce0b20585a58cba8635e9cb35824219bb1c4dec", func := "vizard/vizardlaw09.ScreenNil", spec := "screenNil", inPlace := ["maps.clone"], unfollowed := true, recurses := true, named := ["vizard/screen.Blank"], apart := false, laid := [("vizard/screen.Blank", laid_vizard_screen_Blank)] }
def ScreenNilSaid : Prop := screenNilRow.holds Tryz.pinned (OpenSpec.ofChange screenNilSpec)

/-- ITS FALSE NEIGHBOUR: 'it returns false'. Refute it at one input. -/
def screenNilWrong : ChangeSpec := { name := "screenNil", fn := fun _ => fun
  | [d] => { results := [.lit (.bool false)], args := [d] }
  | _ => none }
def ScreenNilWrongFalsely : Prop := screenNilRow.holds Tryz.pinned (OpenSpec.ofChange screenNilWrong)

/-- 'vizardlaw09.ScreenGrows': WHATEVER THE INPUT: true; the input reads as it did. -/
def screenGrowsSpec : ChangeSpec := { name := "screenGrows", fn := fun _ => fun
  | [d1, d2] => { results := [.lit (.bool true)], args := [d1, d2] }
  | _ => none }
def screenGrowsRow : OpenClaim := { program := "ytbnkfiaggehmgaagreatdoor", sum := "160ddf426559dd2df4143465cce0b20585a58cba8635e9cb35824219bb1c4dec", func := "vizard/vizardlaw09.ScreenGrows", spec := "screenGrows", inPlace := ["maps.clone"], unfollowed := true, recurses := true, named := ["vizard/screen.Blank"], apart := false, laid := [("vizard/screen.Blank", laid_vizard_screen_Blank)] }
def ScreenGrowsSaid : Prop := screenGrowsRow.holds Tryz.pinned (OpenSpec.ofChange screenGrowsSpec)

/-- ITS FALSE NEIGHBOUR: 'it returns false'. Refute it at one input. -/
def screenGrowsWrong : ChangeSpec := { name := "screenGrows", fn := fun _ => fun
  | [d1, d2] => { results := [.lit (.bool false)], args := [d1, d2] }
  | _ => none }
def ScreenGrowsWrongFalsely : Prop := screenGrowsRow.holds Tryz.pinned (OpenSpec.ofChange screenGrowsWrong)

/- THE SECOND FORM. 'bulk': how many values and letters a reading holds, each counted each time it is reached (what is shared counts as often as it is met; a slice's spare places count too). A statement '..UptoSaid' is the law's where the arguments, and the package variables that the reading takes, are together of bulk at most 1048576: NARROWER than '..Said'. Prove '..Said' where nothing that the law and all that it calls make is longer than what came in: it says more and counts as full. Else prove '..UptoSaid'. A law counts once. -/
mutual
def uptoBulk {H : Type} : DataW H → Nat
  | .lit (.string bytes) => bytes.length + 1
  | .lit _ => 1
  | .nil => 1
  | .ptr d => uptoBulk d + 1
  | .slice elems spare => uptoBulkAll elems + uptoBulkAll spare + 1
  | .agg parts => uptoBulkAll parts + 1
  | .iface _ d => uptoBulk d + 1
  | .map entries => uptoBulkEntries entries + 1
  | .held _ => 1
def uptoBulkAll {H : Type} : List (DataW H) → Nat
  | [] => 0
  | d :: r => uptoBulk d + uptoBulkAll r
def uptoBulkEntries {H : Type} : List (Lit × DataW H) → Nat
  | [] => 0
  | x :: r => uptoBulkEntry x + uptoBulkEntries r
def uptoBulkEntry {H : Type} : Lit × DataW H → Nat
  | (.string bytes, d) => bytes.length + uptoBulk d + 1
  | (_, d) => uptoBulk d + 1
 end
def uptoSmall : (H : Type) → List (DataW H) → Bool := fun _ ds => decide (uptoBulkAll ds ≤ 1048576)
def OpenSpec.upto (s : _root_.Go.ChangeSpec) : _root_.Go.OpenSpec := { _root_.Go.OpenSpec.ofChange s with cond := some uptoSmall }

/-- 'vizardlaw09.ScreenCursor', WHERE WHAT IT READS IS OF BULK AT MOST 1048576: true; the input reads as it did. -/
def screenCursorUptoRow : OpenClaim := { program := "ytbnkfiaggehmgaagreatdoor", sum := "160ddf426559dd2df4143465cce0b20585a58cba8635e9cb35824219bb1c4dec", func := "vizard/vizardlaw09.ScreenCursor", spec := "screenCursor", unfollowed := true, recurses := true, named := ["vizard/screen.Blank"], apart := false, laid := [("vizard/screen.Blank", laid_vizard_screen_Blank)], narrowed := true }
def ScreenCursorUptoSaid : Prop := screenCursorUptoRow.holds Tryz.pinned (OpenSpec.upto screenCursorSpec)

/-- 'vizardlaw09.ScreenPlays', WHERE WHAT IT READS IS OF BULK AT MOST 1048576: true; the input reads as it did. -/
def screenPlaysUptoRow : OpenClaim := { program := "ytbnkfiaggehmgaagreatdoor", sum := "160ddf426559dd2df4143465cce0b20585a58cba8635e9cb35824219bb1c4dec", func := "vizard/vizardlaw09.ScreenPlays", spec := "screenPlays", unfollowed := true, recurses := true, named := ["vizard/screen.Blank"], apart := false, laid := [("vizard/screen.Blank", laid_vizard_screen_Blank)], narrowed := true }
def ScreenPlaysUptoSaid : Prop := screenPlaysUptoRow.holds Tryz.pinned (OpenSpec.upto screenPlaysSpec)

/-- 'vizardlaw09.ScreenGuards', WHERE WHAT IT READS IS OF BULK AT MOST 1048576: true; the input reads as it did. -/
def screenGuardsUptoRow : OpenClaim := { program := "ytbnkfiaggehmgaagreatdoor", sum := "160ddf426559dd2df4143465cce0b20585a58cba8635e9cb35824219bb1c4dec", func := "vizard/vizardlaw09.ScreenGuards", spec := "screenGuards", inPlace := ["maps.clone"], unfollowed := true, recurses := true, named := ["vizard/screen.Blank"], apart := false, laid := [("vizard/screen.Blank", laid_vizard_screen_Blank)], narrowed := true }
def ScreenGuardsUptoSaid : Prop := screenGuardsUptoRow.holds Tryz.pinned (OpenSpec.upto screenGuardsSpec)

/-- 'vizardlaw09.ScreenMoves', WHERE WHAT IT READS IS OF BULK AT MOST 1048576: true; the input reads as it did. -/
def screenMovesUptoRow : OpenClaim := { program := "ytbnkfiaggehmgaagreatdoor", sum := "160ddf426559dd2df4143465cce0b20585a58cba8635e9cb35824219bb1c4dec", func := "vizard/vizardlaw09.ScreenMoves", spec := "screenMoves", inPlace := ["maps.clone"], unfollowed := true, recurses := true, named := ["vizard/screen.Blank"], apart := false, laid := [("vizard/screen.Blank", laid_vizard_screen_Blank)], narrowed := true }
def ScreenMovesUptoSaid : Prop := screenMovesUptoRow.holds Tryz.pinned (OpenSpec.upto screenMovesSpec)

/-- 'vizardlaw09.ScreenCopies', WHERE WHAT IT READS IS OF BULK AT MOST 1048576: true; the input reads as it did. -/
def screenCopiesUptoRow : OpenClaim := { program := "ytbnkfiaggehmgaagreatdoor", sum := "160ddf426559dd2df4143465cce0b20585a58cba8635e9cb35824219bb1c4dec", func := "vizard/vizardlaw09.ScreenCopies", spec := "screenCopies", inPlace := ["maps.clone"], unfollowed := true, recurses := true, named := ["vizard/screen.Blank"], apart := false, laid := [("vizard/screen.Blank", laid_vizard_screen_Blank)], narrowed := true }
def ScreenCopiesUptoSaid : Prop := screenCopiesUptoRow.holds Tryz.pinned (OpenSpec.upto screenCopiesSpec)

/-- 'vizardlaw09.ScreenFeeds', WHERE WHAT IT READS IS OF BULK AT MOST 1048576: true; the input reads as it did. -/
def screenFeedsUptoRow : OpenClaim := { program := "ytbnkfiaggehmgaagreatdoor", sum := "160ddf426559dd2df4143465cce0b20585a58cba8635e9cb35824219bb1c4dec", func := "vizard/vizardlaw09.ScreenFeeds", spec := "screenFeeds", inPlace := ["maps.clone"], unfollowed := true, recurses := true, named := ["vizard/screen.Blank"], apart := false, laid := [("vizard/screen.Blank", laid_vizard_screen_Blank)], narrowed := true }
def ScreenFeedsUptoSaid : Prop := screenFeedsUptoRow.holds Tryz.pinned (OpenSpec.upto screenFeedsSpec)

/-- 'vizardlaw09.ScreenNil', WHERE WHAT IT READS IS OF BULK AT MOST 1048576: true; the input reads as it did. -/
def screenNilUptoRow : OpenClaim := { program := "ytbnkfiaggehmgaagreatdoor", sum := "160ddf426559dd2df4143465cce0b20585a58cba8635e9cb35824219bb1c4dec", func := "vizard/vizardlaw09.ScreenNil", spec := "screenNil", inPlace := ["maps.clone"], unfollowed := true, recurses := true, named := ["vizard/screen.Blank"], apart := false, laid := [("vizard/screen.Blank", laid_vizard_screen_Blank)], narrowed := true }
def ScreenNilUptoSaid : Prop := screenNilUptoRow.holds Tryz.pinned (OpenSpec.upto screenNilSpec)

/-- 'vizardlaw09.ScreenGrows', WHERE WHAT IT READS IS OF BULK AT MOST 1048576: true; the input reads as it did. -/
def screenGrowsUptoRow : OpenClaim := { program := "ytbnkfiaggehmgaagreatdoor", sum := "160ddf426559dd2df4143465cce0b20585a58cba8635e9cb35824219bb1c4dec", func := "vizard/vizardlaw09.ScreenGrows", spec := "screenGrows", inPlace := ["maps.clone"], unfollowed := true, recurses := true, named := ["vizard/screen.Blank"], apart := false, laid := [("vizard/screen.Blank", laid_vizard_screen_Blank)], narrowed := true }
def ScreenGrowsUptoSaid : Prop := screenGrowsUptoRow.holds Tryz.pinned (OpenSpec.upto screenGrowsSpec)

end Rows
end Go.Proofs.YtbnkfiaggehmgaaGreatDoor
