/-
  NARROWER THAN 'FOR EVERY INPUT', by the rows' own cells (each row's printed sentence says how): AttrPaints: laid · AttrApart: laid · AttrKeeps: laid · AttrNames: laid · AttrBack: laid.
  DERIVED. THE GIVEN ROWS OF THIS SEAT. 5 by the template 'for every input the law returns true; each argument reads behind the call as it read before'; 0 by the template 'total and deterministic' (their statements: YtdakiocgaihcnaaDoorTotals.lean).
  GIVEN WITH THE SEED: the statements are not yours to turn. If you find one false, say at which input.
  Laid BY PROGRAM, IN A SANDBOX (cutbox-rows.mjs): the forced cells as the released guide's own fill.sh prints them over the translation 12211100508671fb… (all of the seat's roots in one cut). By AI agents, Wed Nov 11 2026. No macro, syntax, notation, axiom, sorry.
-/
import Derived.Test.YtdakiocgaihcnaaDoorChecked
import GoSem.PinnedTables
import GoSem.Claim
import GoSem.ClaimJoined
import GoSem.ClaimMapViews
import Derived.JoinedTies
import Derived.KernelRfl
namespace Go.Proofs.YtdakiocgaihcnaaDoor
/- THE CELL 'sum', in the pinned program and in every row, IS THE sha256 OF THE DUMP (.gsa) THAT YtdakiocgaihcnaaDoorProg.lean LOADS. Nothing in Lean hashes anything: it is a label: what it is worth is what the hold of that sum in a sandbox is worth. -/
noncomputable def Tryd.pinned : Pinned := { name := "ytdakiocgaihcnaadoor", sum := "12211100508671fb35b3536bafbe1ae74f4326984213a86ff37df2efbd47346b", checked := Tryd.checked }
namespace Rows
def none {H : Type} : Left H := { results := [], args := [] }

/- WHAT THE LISTED PACKAGE-LEVEL VARIABLES READ AS WHEN THE CALL BEGINS. Each datum BY PROGRAM (the guide's laid-datum.mjs) off the statement by which the dump's own 'gosem.cut.vars' lays the variable. In a bare row this is a premise. The card (YtdakiocgaihcnaaDoorCards.lean) ties it to the program's text. -/
def laid_vizard_attr_names {H : Type} : DataW H := .agg [.agg [.lit (.int .i64 1), .lit (.string [98, 111, 108, 100])], .agg [.lit (.int .i64 2), .lit (.string [100, 105, 109])], .agg [.lit (.int .i64 4), .lit (.string [117, 110, 100, 101, 114])], .agg [.lit (.int .i64 8), .lit (.string [98, 108, 105, 110, 107])], .agg [.lit (.int .i64 16), .lit (.string [114, 101, 118, 101, 114, 115, 101])], .agg [.lit (.int .i64 32), .lit (.string [104, 105, 100, 100, 101, 110])]]
def laid_unicode_utf8_acceptRanges {H : Type} : DataW H := .agg [.agg [.lit (.int .u8 128), .lit (.int .u8 191)], .agg [.lit (.int .u8 160), .lit (.int .u8 191)], .agg [.lit (.int .u8 128), .lit (.int .u8 159)], .agg [.lit (.int .u8 144), .lit (.int .u8 191)], .agg [.lit (.int .u8 128), .lit (.int .u8 143)], .agg [.lit (.int .u8 0), .lit (.int .u8 0)], .agg [.lit (.int .u8 0), .lit (.int .u8 0)], .agg [.lit (.int .u8 0), .lit (.int .u8 0)], .agg [.lit (.int .u8 0), .lit (.int .u8 0)], .agg [.lit (.int .u8 0), .lit (.int .u8 0)], .agg [.lit (.int .u8 0), .lit (.int .u8 0)], .agg [.lit (.int .u8 0), .lit (.int .u8 0)], .agg [.lit (.int .u8 0), .lit (.int .u8 0)], .agg [.lit (.int .u8 0), .lit (.int .u8 0)], .agg [.lit (.int .u8 0), .lit (.int .u8 0)], .agg [.lit (.int .u8 0), .lit (.int .u8 0)]]
/-- One of Go's own tables, pinned by name: the form's constant. -/
def laid_unicode_utf8_first : DataW Unit := Go.Pinned.utf8First

/-- 'vizardlaw03.AttrPaints': WHATEVER THE INPUT: true; the input reads as it did. -/
def attrPaintsSpec : ChangeSpec := { name := "attrPaints", fn := fun _ => fun
  | [d1, d2, d3] => { results := [.lit (.bool true)], args := [d1, d2, d3] }
  | _ => none }
def attrPaintsRow : OpenClaim := { program := "ytdakiocgaihcnaadoor", sum := "12211100508671fb35b3536bafbe1ae74f4326984213a86ff37df2efbd47346b", func := "vizard/vizardlaw03.AttrPaints", spec := "attrPaints", inPlace := ["internal/abi.NoEscape", "internal/bytealg.MakeNoZero"], unfollowed := true, recurses := true, named := ["vizard/attr.names"], apart := false, laid := [("vizard/attr.names", laid_vizard_attr_names)] }
def AttrPaintsSaid : Prop := attrPaintsRow.holds Tryd.pinned (OpenSpec.ofChange attrPaintsSpec)

/-- ITS FALSE NEIGHBOUR: 'it returns false'. Refute it at one input. -/
def attrPaintsWrong : ChangeSpec := { name := "attrPaints", fn := fun _ => fun
  | [d1, d2, d3] => { results := [.lit (.bool false)], args := [d1, d2, d3] }
  | _ => none }
def AttrPaintsWrongFalsely : Prop := attrPaintsRow.holds Tryd.pinned (OpenSpec.ofChange attrPaintsWrong)

/-- 'vizardlaw03.AttrApart': WHATEVER THE INPUT: true; the input reads as it did. -/
def attrApartSpec : ChangeSpec := { name := "attrApart", fn := fun _ => fun
  | [d1, d2, d3] => { results := [.lit (.bool true)], args := [d1, d2, d3] }
  | _ => none }
def attrApartRow : OpenClaim := { program := "ytdakiocgaihcnaadoor", sum := "12211100508671fb35b3536bafbe1ae74f4326984213a86ff37df2efbd47346b", func := "vizard/vizardlaw03.AttrApart", spec := "attrApart", inPlace := ["internal/abi.NoEscape", "internal/bytealg.MakeNoZero"], unfollowed := true, recurses := true, named := ["vizard/attr.names"], apart := false, laid := [("vizard/attr.names", laid_vizard_attr_names)] }
def AttrApartSaid : Prop := attrApartRow.holds Tryd.pinned (OpenSpec.ofChange attrApartSpec)

/-- ITS FALSE NEIGHBOUR: 'it returns false'. Refute it at one input. -/
def attrApartWrong : ChangeSpec := { name := "attrApart", fn := fun _ => fun
  | [d1, d2, d3] => { results := [.lit (.bool false)], args := [d1, d2, d3] }
  | _ => none }
def AttrApartWrongFalsely : Prop := attrApartRow.holds Tryd.pinned (OpenSpec.ofChange attrApartWrong)

/-- 'vizardlaw03.AttrKeeps': WHATEVER THE INPUT: true; the input reads as it did. -/
def attrKeepsSpec : ChangeSpec := { name := "attrKeeps", fn := fun _ => fun
  | [d1, d2] => { results := [.lit (.bool true)], args := [d1, d2] }
  | _ => none }
def attrKeepsRow : OpenClaim := { program := "ytdakiocgaihcnaadoor", sum := "12211100508671fb35b3536bafbe1ae74f4326984213a86ff37df2efbd47346b", func := "vizard/vizardlaw03.AttrKeeps", spec := "attrKeeps", inPlace := ["internal/abi.NoEscape", "internal/bytealg.MakeNoZero"], unfollowed := true, recurses := true, named := ["vizard/attr.names"], apart := false, laid := [("vizard/attr.names", laid_vizard_attr_names)] }
def AttrKeepsSaid : Prop := attrKeepsRow.holds Tryd.pinned (OpenSpec.ofChange attrKeepsSpec)

/-- ITS FALSE NEIGHBOUR: 'it returns false'. Refute it at one input. -/
def attrKeepsWrong : ChangeSpec := { name := "attrKeeps", fn := fun _ => fun
  | [d1, d2] => { results := [.lit (.bool false)], args := [d1, d2] }
  | _ => none }
def AttrKeepsWrongFalsely : Prop := attrKeepsRow.holds Tryd.pinned (OpenSpec.ofChange attrKeepsWrong)

/-- 'vizardlaw03.AttrNames': WHATEVER THE INPUT: true; the input reads as it did. -/
def attrNamesSpec : ChangeSpec := { name := "attrNames", fn := fun _ => fun
  | [d1, d2] => { results := [.lit (.bool true)], args := [d1, d2] }
  | _ => none }
def attrNamesRow : OpenClaim := { program := "ytdakiocgaihcnaadoor", sum := "12211100508671fb35b3536bafbe1ae74f4326984213a86ff37df2efbd47346b", func := "vizard/vizardlaw03.AttrNames", spec := "attrNames", inPlace := ["internal/abi.NoEscape", "internal/bytealg.MakeNoZero", "internal/bytealg.CountString", "internal/bytealg.IndexByteString", "internal/bytealg.IndexString"], unfollowed := true, recurses := true, named := ["vizard/attr.names", "unicode/utf8.first", "unicode/utf8.acceptRanges", "internal/bytealg.MaxLen"], apart := false, laid := [("unicode/utf8.acceptRanges", laid_unicode_utf8_acceptRanges), ("vizard/attr.names", laid_vizard_attr_names), ("unicode/utf8.first", laid_unicode_utf8_first)] }
def AttrNamesSaid : Prop := attrNamesRow.holds Tryd.pinned (OpenSpec.ofChange attrNamesSpec)

/-- ITS FALSE NEIGHBOUR: 'it returns false'. Refute it at one input. -/
def attrNamesWrong : ChangeSpec := { name := "attrNames", fn := fun _ => fun
  | [d1, d2] => { results := [.lit (.bool false)], args := [d1, d2] }
  | _ => none }
def AttrNamesWrongFalsely : Prop := attrNamesRow.holds Tryd.pinned (OpenSpec.ofChange attrNamesWrong)

/-- 'vizardlaw03.AttrBack': WHATEVER THE INPUT: true; the input reads as it did. -/
def attrBackSpec : ChangeSpec := { name := "attrBack", fn := fun _ => fun
  | [d1, d2, d3] => { results := [.lit (.bool true)], args := [d1, d2, d3] }
  | _ => none }
def attrBackRow : OpenClaim := { program := "ytdakiocgaihcnaadoor", sum := "12211100508671fb35b3536bafbe1ae74f4326984213a86ff37df2efbd47346b", func := "vizard/vizardlaw03.AttrBack", spec := "attrBack", inPlace := ["internal/abi.NoEscape", "internal/bytealg.MakeNoZero", "internal/bytealg.CountString", "internal/bytealg.IndexByteString", "internal/bytealg.IndexString"], unfollowed := true, recurses := true, named := ["vizard/attr.names", "unicode/utf8.first", "unicode/utf8.acceptRanges", "internal/bytealg.MaxLen"], apart := false, laid := [("unicode/utf8.acceptRanges", laid_unicode_utf8_acceptRanges), ("vizard/attr.names", laid_vizard_attr_names), ("unicode/utf8.first", laid_unicode_utf8_first)] }
def AttrBackSaid : Prop := attrBackRow.holds Tryd.pinned (OpenSpec.ofChange attrBackSpec)

/-- ITS FALSE NEIGHBOUR: 'it returns false'. Refute it at one input. -/
def attrBackWrong : ChangeSpec := { name := "attrBack", fn := fun _ => fun
  | [d1, d2, d3] => { results := [.lit (.bool false)], args := [d1, d2, d3] }
  | _ => none }
def AttrBackWrongFalsely : Prop := attrBackRow.holds Tryd.pinned (OpenSpec.ofChange attrBackWrong)

/- THE SECOND FORM. 'bulk': how many values and letters a reading holds, each counted each time it is reached (what is shared counts as often as it is met; a slice's spare places count too). A statement '..UptoSaid' is the law's where the arguments, and the package variables that the reading takes, are together of bulk at most 1048576: NARROWER than '..Said'. Prove '..Said' where nothing that the law and all that it calls make is longer than what came in: it says more and counts as full. Else prove '..UptoSaid'. A law counts once. -/
mutual
def uptoBulk {H : Type} : DataW H → Nat
  | .lit (.string bytes) => bytes.length + 1
  | .lit _ => 1
  | .nil => 1
  | .ptr d => uptoBulk d + 1
  | .slice elems spare => uptoBulkAll elems + uptoBulkAll spare + 1
  | .agg parts => uptoBulkAll parts + 1
  | .iface _ d => uptoBulk d + 1
  | .map entries => uptoBulkEntries entries + 1
  | .held _ => 1
def uptoBulkAll {H : Type} : List (DataW H) → Nat
  | [] => 0
  | d :: r => uptoBulk d + uptoBulkAll r
def uptoBulkEntries {H : Type} : List (Lit × DataW H) → Nat
  | [] => 0
  | x :: r => uptoBulkEntry x + uptoBulkEntries r
def uptoBulkEntry {H : Type} : Lit × DataW H → Nat
  | (.string bytes, d) => bytes.length + uptoBulk d + 1
  | (_, d) => uptoBulk d + 1
 end
def uptoSmall : (H : Type) → List (DataW H) → Bool := fun _ ds => decide (uptoBulkAll ds ≤ 1048576)
def OpenSpec.upto (s : _root_.Go.ChangeSpec) : _root_.Go.OpenSpec := { _root_.Go.OpenSpec.ofChange s with cond := some uptoSmall }

/-- 'vizardlaw03.AttrPaints', WHERE WHAT IT READS IS OF BULK AT MOST 1048576: true; the input reads as it did. -/
def attrPaintsUptoRow : OpenClaim := { program := "ytdakiocgaihcnaadoor", sum := "12211100508671fb35b3536bafbe1ae74f4326984213a86ff37df2efbd47346b", func := "vizard/vizardlaw03.AttrPaints", spec := "attrPaints", inPlace := ["internal/abi.NoEscape", "internal/bytealg.MakeNoZero"], unfollowed := true, recurses := true, named := ["vizard/attr.names"], apart := false, laid := [("vizard/attr.names", laid_vizard_attr_names)], narrowed := true }
def AttrPaintsUptoSaid : Prop := attrPaintsUptoRow.holds Tryd.pinned (OpenSpec.upto attrPaintsSpec)

/-- 'vizardlaw03.AttrApart', WHERE WHAT IT READS IS OF BULK AT MOST 1048576: true; the input reads as it did. -/
def attrApartUptoRow : OpenClaim := { program := "ytdakiocgaihcnaadoor", sum := "12211100508671fb35b3536bafbe1ae74f4326984213a86ff37df2efbd47346b", func := "vizard/vizardlaw03.AttrApart", spec := "attrApart", inPlace := ["internal/abi.NoEscape", "internal/bytealg.MakeNoZero"], unfollowed := true, recurses := true, named := ["vizard/attr.names"], apart := false, laid := [("vizard/attr.names", laid_vizard_attr_names)], narrowed := true }
def AttrApartUptoSaid : Prop := attrApartUptoRow.holds Tryd.pinned (OpenSpec.upto attrApartSpec)

/-- 'vizardlaw03.AttrKeeps', WHERE WHAT IT READS IS OF BULK AT MOST 1048576: true; the input reads as it did. -/
def attrKeepsUptoRow : OpenClaim := { program := "ytdakiocgaihcnaadoor", sum := "12211100508671fb35b3536bafbe1ae74f4326984213a86ff37df2efbd47346b", func := "vizard/vizardlaw03.AttrKeeps", spec := "attrKeeps", inPlace := ["internal/abi.NoEscape", "internal/bytealg.MakeNoZero"], unfollowed := true, recurses := true, named := ["vizard/attr.names"], apart := false, laid := [("vizard/attr.names", laid_vizard_attr_names)], narrowed := true }
def AttrKeepsUptoSaid : Prop := attrKeepsUptoRow.holds Tryd.pinned (OpenSpec.upto attrKeepsSpec)

/-- 'vizardlaw03.AttrNames', WHERE WHAT IT READS IS OF BULK AT MOST 1048576: true; the input reads as it did. -/
def attrNamesUptoRow : OpenClaim := { program := "ytdakiocgaihcnaadoor", sum := "12211100508671fb35b3536bafbe1ae74f4326984213a86ff37df2efbd47346b", func := "vizard/vizardlaw03.AttrNames", spec := "attrNames", inPlace := ["internal/abi.NoEscape", "internal/bytealg.MakeNoZero", "internal/bytealg.CountString", "internal/bytealg.IndexByteString", "internal/bytealg.IndexString"], unfollowed := true, recurses := true, named := ["vizard/attr.names", "unicode/utf8.first", "unicode/utf8.acceptRanges", "internal/bytealg.MaxLen"], apart := false, laid := [("unicode/utf8.acceptRanges", laid_unicode_utf8_acceptRanges), ("vizard/attr.names", laid_vizard_attr_names), ("unicode/utf8.first", laid_unicode_utf8_first)], narrowed := true }
def AttrNamesUptoSaid : Prop := attrNamesUptoRow.holds Tryd.pinned (OpenSpec.upto attrNamesSpec)

/-- 'vizardlaw03.AttrBack', WHERE WHAT IT READS IS OF BULK AT MOST 1048576: true; the input reads as it did. -/
def attrBackUptoRow : OpenClaim := { program := "ytdakiocgaihcnaadoor", sum := "12211100508671fb35b3536bafbe1ae74f4326984213a86ff37df2efbd47346b", func := "vizard/vizardlaw03.AttrBack", spec := "attrBack", inPlace := ["internal/abi.NoEscape", "internal/bytealg.MakeNoZero", "internal/bytealg.CountString", "internal/bytealg.IndexByteString", "internal/bytealg.IndexString"], unfollowed := true, recurses := true, named := ["vizard/attr.names", "unicode/utf8.first", "unicode/utf8.acceptRanges", "internal/bytealg.MaxLen"], apart := false, laid := [("unicode/utf8.acceptRanges", laid_unicode_utf8_acceptRanges), ("vizard/attr.names", laid_vizard_attr_names), ("unicode/utf8.first", laid_unicode_utf8_first)], narrowed := true }
def AttrBackUptoSaid : Prop := attrBackUptoRow.holds Tryd.pinned (OpenSpec.upto attrBackSpec)

end Rows
end Go.Proofs.YtdakiocgaihcnaaDoor
