/-
  NARROWER THAN 'FOR EVERY INPUT', by the rows' own cells (each row's printed sentence says how): AdmAddress: laid · AdmNil: laid · AdmPieces: laid · AdmFolds: laid · AdmGuards: laid · AdmPlays: laid · AdmResets: laid.
  DERIVED. THE GIVEN ROWS OF THIS SEAT. 7 by the template 'for every input the law returns true; each argument reads behind the call as it read before'; 0 by the template 'total and deterministic' (their statements: YtncgigapgklhcaaGreatDoorTotals.lean).
  GIVEN WITH THE SEED: the statements are not yours to turn. If you find one false, say at which input.
  Laid BY PROGRAM, IN A SANDBOX (cutbox-rows.mjs): the forced cells as the released guide's own fill.sh prints them over the translation fa6e21e937fb62be… (all of the seat's roots in one cut). By AI agents, Wed Nov 11 2026. No macro, syntax, notation, axiom, sorry.
-/
import Derived.Test.YtncgigapgklhcaaGreatDoorChecked
import GoSem.Claim
import GoSem.ClaimJoined
import GoSem.ClaimMapViews
import Derived.JoinedTies
import Derived.KernelRfl
namespace Go.Proofs.YtncgigapgklhcaaGreatDoor
/- THE CELL 'sum', in the pinned program and in every row, IS THE sha256 OF THE DUMP (.gsa) THAT YtncgigapgklhcaaGreatDoorProg.lean LOADS. Nothing in Lean hashes anything: it is a label: what it is worth is what the hold of that sum in a sandbox is worth. -/
noncomputable def Tryz.pinned : Pinned := { name := "ytncgigapgklhcaagreatdoor", sum := "fa6e21e937fb62beff0283b6899709bf729c430d495770cf25fee4571007d1ea", checked := Tryz.checked }
namespace Rows
def none {H : Type} : Left H := { results := [], args := [] }

/- WHAT THE LISTED PACKAGE-LEVEL VARIABLES READ AS WHEN THE CALL BEGINS. Each datum BY PROGRAM (the guide's laid-datum.mjs) off the statement by which the dump's own 'gosem.cut.vars' lays the variable. In a bare row this is a premise. The card (YtncgigapgklhcaaGreatDoorCards.lean) ties it to the program's text. -/
def laid_vizard_screen_Blank {H : Type} : DataW H := .agg [.lit (.int .i32 32), .lit (.int .i64 0), .lit (.bool false), .lit (.int .i64 0)]

/-- 'vizardlaw18.AdmAddress': WHATEVER THE INPUT: true; the input reads as it did. -/
def admAddressSpec : ChangeSpec := { name := "admAddress", fn := fun _ => fun
  | [d1, d2, d3] => { results := [.lit (.bool true)], args := [d1, d2, d3] }
  | _ => none }
def admAddressRow : OpenClaim := { program := "ytncgigapgklhcaagreatdoor", sum := "fa6e21e937fb62beff0283b6899709bf729c430d495770cf25fee4571007d1ea", func := "vizard/vizardlaw18.AdmAddress", spec := "admAddress", unfollowed := true, recurses := true, named := ["vizard/screen.Blank"], apart := false, laid := [("vizard/screen.Blank", laid_vizard_screen_Blank)] }
def AdmAddressSaid : Prop := admAddressRow.holds Tryz.pinned (OpenSpec.ofChange admAddressSpec)

/-- ITS FALSE NEIGHBOUR: 'it returns false'. Refute it at one input. -/
def admAddressWrong : ChangeSpec := { name := "admAddress", fn := fun _ => fun
  | [d1, d2, d3] => { results := [.lit (.bool false)], args := [d1, d2, d3] }
  | _ => none }
def AdmAddressWrongFalsely : Prop := admAddressRow.holds Tryz.pinned (OpenSpec.ofChange admAddressWrong)

/-- 'vizardlaw18.AdmNil': WHATEVER THE INPUT: true; the input reads as it did. -/
def admNilSpec : ChangeSpec := { name := "admNil", fn := fun _ => fun
  | [d] => { results := [.lit (.bool true)], args := [d] }
  | _ => none }
def admNilRow : OpenClaim := { program := "ytncgigapgklhcaagreatdoor", sum := "fa6e21e937fb62beff0283b6899709bf729c430d495770cf25fee4571007d1ea", func := "vizard/vizardlaw18.AdmNil", spec := "admNil", unfollowed := true, recurses := true, named := ["vizard/screen.Blank"], apart := false, laid := [("vizard/screen.Blank", laid_vizard_screen_Blank)] }
def AdmNilSaid : Prop := admNilRow.holds Tryz.pinned (OpenSpec.ofChange admNilSpec)

/-- ITS FALSE NEIGHBOUR: 'it returns false'. Refute it at one input. -/
def admNilWrong : ChangeSpec := { name := "admNil", fn := fun _ => fun
  | [d] => { results := [.lit (.bool false)], args := [d] }
  | _ => none }
def AdmNilWrongFalsely : Prop := admNilRow.holds Tryz.pinned (OpenSpec.ofChange admNilWrong)

/-- 'vizardlaw18.AdmPieces': WHATEVER THE INPUT: true; the input reads as it did. -/
def admPiecesSpec : ChangeSpec := { name := "admPieces", fn := fun _ => fun
  | [d1, d2] => { results := [.lit (.bool true)], args := [d1, d2] }
  | _ => none }
def admPiecesRow : OpenClaim := { program := "ytncgigapgklhcaagreatdoor", sum := "fa6e21e937fb62beff0283b6899709bf729c430d495770cf25fee4571007d1ea", func := "vizard/vizardlaw18.AdmPieces", spec := "admPieces", unfollowed := true, recurses := true, named := ["vizard/screen.Blank"], apart := false, laid := [("vizard/screen.Blank", laid_vizard_screen_Blank)] }
def AdmPiecesSaid : Prop := admPiecesRow.holds Tryz.pinned (OpenSpec.ofChange admPiecesSpec)

/-- ITS FALSE NEIGHBOUR: 'it returns false'. Refute it at one input. -/
def admPiecesWrong : ChangeSpec := { name := "admPieces", fn := fun _ => fun
  | [d1, d2] => { results := [.lit (.bool false)], args := [d1, d2] }
  | _ => none }
def AdmPiecesWrongFalsely : Prop := admPiecesRow.holds Tryz.pinned (OpenSpec.ofChange admPiecesWrong)

/-- 'vizardlaw18.AdmFolds': WHATEVER THE INPUT: true; the input reads as it did. -/
def admFoldsSpec : ChangeSpec := { name := "admFolds", fn := fun _ => fun
  | [d1, d2] => { results := [.lit (.bool true)], args := [d1, d2] }
  | _ => none }
def admFoldsRow : OpenClaim := { program := "ytncgigapgklhcaagreatdoor", sum := "fa6e21e937fb62beff0283b6899709bf729c430d495770cf25fee4571007d1ea", func := "vizard/vizardlaw18.AdmFolds", spec := "admFolds", unfollowed := true, recurses := true, named := ["vizard/screen.Blank"], apart := false, laid := [("vizard/screen.Blank", laid_vizard_screen_Blank)] }
def AdmFoldsSaid : Prop := admFoldsRow.holds Tryz.pinned (OpenSpec.ofChange admFoldsSpec)

/-- ITS FALSE NEIGHBOUR: 'it returns false'. Refute it at one input. -/
def admFoldsWrong : ChangeSpec := { name := "admFolds", fn := fun _ => fun
  | [d1, d2] => { results := [.lit (.bool false)], args := [d1, d2] }
  | _ => none }
def AdmFoldsWrongFalsely : Prop := admFoldsRow.holds Tryz.pinned (OpenSpec.ofChange admFoldsWrong)

/-- 'vizardlaw18.AdmGuards': WHATEVER THE INPUT: true; the input reads as it did. -/
def admGuardsSpec : ChangeSpec := { name := "admGuards", fn := fun _ => fun
  | [d1, d2, d3] => { results := [.lit (.bool true)], args := [d1, d2, d3] }
  | _ => none }
def admGuardsRow : OpenClaim := { program := "ytncgigapgklhcaagreatdoor", sum := "fa6e21e937fb62beff0283b6899709bf729c430d495770cf25fee4571007d1ea", func := "vizard/vizardlaw18.AdmGuards", spec := "admGuards", inPlace := ["maps.clone"], unfollowed := true, recurses := true, named := ["vizard/screen.Blank"], apart := false, laid := [("vizard/screen.Blank", laid_vizard_screen_Blank)] }
def AdmGuardsSaid : Prop := admGuardsRow.holds Tryz.pinned (OpenSpec.ofChange admGuardsSpec)

/-- ITS FALSE NEIGHBOUR: 'it returns false'. Refute it at one input. -/
def admGuardsWrong : ChangeSpec := { name := "admGuards", fn := fun _ => fun
  | [d1, d2, d3] => { results := [.lit (.bool false)], args := [d1, d2, d3] }
  | _ => none }
def AdmGuardsWrongFalsely : Prop := admGuardsRow.holds Tryz.pinned (OpenSpec.ofChange admGuardsWrong)

/-- 'vizardlaw18.AdmPlays': WHATEVER THE INPUT: true; the input reads as it did. -/
def admPlaysSpec : ChangeSpec := { name := "admPlays", fn := fun _ => fun
  | [d1, d2] => { results := [.lit (.bool true)], args := [d1, d2] }
  | _ => none }
def admPlaysRow : OpenClaim := { program := "ytncgigapgklhcaagreatdoor", sum := "fa6e21e937fb62beff0283b6899709bf729c430d495770cf25fee4571007d1ea", func := "vizard/vizardlaw18.AdmPlays", spec := "admPlays", unfollowed := true, recurses := true, named := ["vizard/screen.Blank"], apart := false, laid := [("vizard/screen.Blank", laid_vizard_screen_Blank)] }
def AdmPlaysSaid : Prop := admPlaysRow.holds Tryz.pinned (OpenSpec.ofChange admPlaysSpec)

/-- ITS FALSE NEIGHBOUR: 'it returns false'. Refute it at one input. -/
def admPlaysWrong : ChangeSpec := { name := "admPlays", fn := fun _ => fun
  | [d1, d2] => { results := [.lit (.bool false)], args := [d1, d2] }
  | _ => none }
def AdmPlaysWrongFalsely : Prop := admPlaysRow.holds Tryz.pinned (OpenSpec.ofChange admPlaysWrong)

/-- 'vizardlaw18.AdmResets': WHATEVER THE INPUT: true; the input reads as it did. -/
def admResetsSpec : ChangeSpec := { name := "admResets", fn := fun _ => fun
  | [d1, d2, d3] => { results := [.lit (.bool true)], args := [d1, d2, d3] }
  | _ => none }
def admResetsRow : OpenClaim := { program := "ytncgigapgklhcaagreatdoor", sum := "fa6e21e937fb62beff0283b6899709bf729c430d495770cf25fee4571007d1ea", func := "vizard/vizardlaw18.AdmResets", spec := "admResets", unfollowed := true, recurses := true, named := ["vizard/screen.Blank"], apart := false, laid := [("vizard/screen.Blank", laid_vizard_screen_Blank)] }
def AdmResetsSaid : Prop := admResetsRow.holds Tryz.pinned (OpenSpec.ofChange admResetsSpec)

/-- ITS FALSE NEIGHBOUR: 'it returns false'. Refute it at one input. -/
def admResetsWrong : ChangeSpec := { name := "admResets", fn := fun _ => fun
  | [d1, d2, d3] => { results := [.lit (.bool false)], args := [d1, d2, d3] }
  | _ => none }
def AdmResetsWrongFalsely : Prop := admResetsRow.holds Tryz.pinned (OpenSpec.ofChange admResetsWrong)

/- THE SECOND FORM. 'bulk': how many values and letters a reading holds, each counted each time it is reached (what is shared counts as often as it is met; a slice's spare places count too). A statement '..UptoSaid' is the law's where the arguments, and the package variables that the reading takes, are together of bulk at most 1048576: NARROWER than '..Said'. Prove '..Said' where nothing that the law and all that it calls make is longer than what came in: it says more and counts as full. Else prove '..UptoSaid'. A law counts once. -/
mutual
def uptoBulk {H : Type} : DataW H → Nat
  | .lit (.string bytes) => bytes.length + 1
  | .lit _ => 1
  | .nil => 1
  | .ptr d => uptoBulk d + 1
  | .slice elems spare => uptoBulkAll elems + uptoBulkAll spare + 1
  | .agg parts => uptoBulkAll parts + 1
  | .iface _ d => uptoBulk d + 1
  | .map entries => uptoBulkEntries entries + 1
  | .held _ => 1
def uptoBulkAll {H : Type} : List (DataW H) → Nat
  | [] => 0
  | d :: r => uptoBulk d + uptoBulkAll r
def uptoBulkEntries {H : Type} : List (Lit × DataW H) → Nat
  | [] => 0
  | x :: r => uptoBulkEntry x + uptoBulkEntries r
def uptoBulkEntry {H : Type} : Lit × DataW H → Nat
  | (.string bytes, d) => bytes.length + uptoBulk d + 1
  | (_, d) => uptoBulk d + 1
 end
def uptoSmall : (H : Type) → List (DataW H) → Bool := fun _ ds => decide (uptoBulkAll ds ≤ 1048576)
def OpenSpec.upto (s : _root_.Go.ChangeSpec) : _root_.Go.OpenSpec := { _root_.Go.OpenSpec.ofChange s with cond := some uptoSmall }

/-- 'vizardlaw18.AdmAddress', WHERE WHAT IT READS IS OF BULK AT MOST 1048576: true; the input reads as it did. -/
def admAddressUptoRow : OpenClaim := { program := "ytncgigapgklhcaagreatdoor", sum := "fa6e21e937fb62beff0283b6899709bf729c430d495770cf25fee4571007d1ea", func := "vizard/vizardlaw18.AdmAddress", spec := "admAddress", unfollowed := true, recurses := true, named := ["vizard/screen.Blank"], apart := false, laid := [("vizard/screen.Blank", laid_vizard_screen_Blank)], narrowed := true }
def AdmAddressUptoSaid : Prop := admAddressUptoRow.holds Tryz.pinned (OpenSpec.upto admAddressSpec)

/-- 'vizardlaw18.AdmNil', WHERE WHAT IT READS IS OF BULK AT MOST 1048576: true; the input reads as it did. -/
def admNilUptoRow : OpenClaim := { program := "ytncgigapgklhcaagreatdoor", sum := "fa6e21e937fb62beff0283b6899709bf729c430d495770cf25fee4571007d1ea", func := "vizard/vizardlaw18.AdmNil", spec := "admNil", unfollowed := true, recurses := true, named := ["vizard/screen.Blank"], apart := false, laid := [("vizard/screen.Blank", laid_vizard_screen_Blank)], narrowed := true }
def AdmNilUptoSaid : Prop := admNilUptoRow.holds Tryz.pinned (OpenSpec.upto admNilSpec)

/-- 'vizardlaw18.AdmPieces', WHERE WHAT IT READS IS OF BULK AT MOST 1048576: true; the input reads as it did. -/
def admPiecesUptoRow : OpenClaim := { program := "ytncgigapgklhcaagreatdoor", sum := "fa6e21e937fb62beff0283b6899709bf729c430d495770cf25fee4571007d1ea", func := "vizard/vizardlaw18.AdmPieces", spec := "admPieces", unfollowed := true, recurses := true, named := ["vizard/screen.Blank"], apart := false, laid := [("vizard/screen.Blank", laid_vizard_screen_Blank)], narrowed := true }
def AdmPiecesUptoSaid : Prop := admPiecesUptoRow.holds Tryz.pinned (OpenSpec.upto admPiecesSpec)

/-- 'vizardlaw18.AdmFolds', WHERE WHAT IT READS IS OF BULK AT MOST 1048576: true; the input reads as it did. -/
def admFoldsUptoRow : OpenClaim := { program := "ytncgigapgklhcaagreatdoor", sum := "fa6e21e937fb62beff0283b6899709bf729c430d495770cf25fee4571007d1ea", func := "vizard/vizardlaw18.AdmFolds", spec := "admFolds", unfollowed := true, recurses := true, named := ["vizard/screen.Blank"], apart := false, laid := [("vizard/screen.Blank", laid_vizard_screen_Blank)], narrowed := true }
def AdmFoldsUptoSaid : Prop := admFoldsUptoRow.holds Tryz.pinned (OpenSpec.upto admFoldsSpec)

/-- 'vizardlaw18.AdmGuards', WHERE WHAT IT READS IS OF BULK AT MOST 1048576: true; the input reads as it did. -/
def admGuardsUptoRow : OpenClaim := { program := "ytncgigapgklhcaagreatdoor", sum := "fa6e21e937fb62beff0283b6899709bf729c430d495770cf25fee4571007d1ea", func := "vizard/vizardlaw18.AdmGuards", spec := "admGuards", inPlace := ["maps.clone"], unfollowed := true, recurses := true, named := ["vizard/screen.Blank"], apart := false, laid := [("vizard/screen.Blank", laid_vizard_screen_Blank)], narrowed := true }
def AdmGuardsUptoSaid : Prop := admGuardsUptoRow.holds Tryz.pinned (OpenSpec.upto admGuardsSpec)

/-- 'vizardlaw18.AdmPlays', WHERE WHAT IT READS IS OF BULK AT MOST 1048576: true; the input reads as it did. -/
def admPlaysUptoRow : OpenClaim := { program := "ytncgigapgklhcaagreatdoor", sum := "fa6e21e937fb62beff0283b6899709bf729c430d495770cf25fee4571007d1ea", func := "vizard/vizardlaw18.AdmPlays", spec := "admPlays", unfollowed := true, recurses := true, named := ["vizard/screen.Blank"], apart := false, laid := [("vizard/screen.Blank", laid_vizard_screen_Blank)], narrowed := true }
def AdmPlaysUptoSaid : Prop := admPlaysUptoRow.holds Tryz.pinned (OpenSpec.upto admPlaysSpec)

/-- 'vizardlaw18.AdmResets', WHERE WHAT IT READS IS OF BULK AT MOST 1048576: true; the input reads as it did. -/
def admResetsUptoRow : OpenClaim := { program := "ytncgigapgklhcaagreatdoor", sum := "fa6e21e937fb62beff0283b6899709bf729c430d495770cf25fee4571007d1ea", func := "vizard/vizardlaw18.AdmResets", spec := "admResets", unfollowed := true, recurses := true, named := ["vizard/screen.Blank"], apart := false, laid := [("vizard/screen.Blank", laid_vizard_screen_Blank)], narrowed := true }
def AdmResetsUptoSaid : Prop := admResetsUptoRow.holds Tryz.pinned (OpenSpec.upto admResetsSpec)

end Rows
end Go.Proofs.YtncgigapgklhcaaGreatDoor
