/-
  No cell of these rows narrows 'for every input' (looked for: loops, veiled, ifaces, maps, wideKeys, modest, calm, conditions, laid).
  DERIVED. THE GIVEN ROWS OF THIS SEAT. 6 by the template 'for every input the law returns true; each argument reads behind the call as it read before'; 0 by the template 'total and deterministic' (their statements: YtdakiocgaihcnaaTotals.lean).
  GIVEN WITH THE SEED: the statements are not yours to turn. If you find one false, say at which input.
  Laid BY PROGRAM, IN A SANDBOX (cutbox-rows.mjs): the forced cells as the released guide's own fill.sh prints them over the translation 439073c522fbea24… (all of the seat's roots in one cut). By AI agents, Wed Nov 11 2026. No macro, syntax, notation, axiom, sorry.
-/
import Derived.Test.YtdakiocgaihcnaaChecked
import GoSem.Claim
import GoSem.ClaimJoined
import GoSem.ClaimMapViews
import Derived.JoinedTies
import Derived.KernelRfl
namespace Go.Proofs.Ytdakiocgaihcnaa
/- THE CELL 'sum', in the pinned program and in every row, IS THE sha256 OF THE DUMP (.gsa) THAT YtdakiocgaihcnaaProg.lean LOADS. Nothing in Lean hashes anything: it is a label: what it is worth is what the hold of that sum in a sandbox is worth. -/
noncomputable def Try.pinned : Pinned := { name := "ytdakiocgaihcnaa", sum := "439073c522fbea2434cccd494514bdf393d0a0ed87e359089b5ceedafff0114d", checked := Try.checked }
namespace Rows
def none {H : Type} : Left H := { results := [], args := [] }

/-- 'vizardlaw10.ParamsNumbers': WHATEVER THE INPUT: true; the input reads as it did. -/
def paramsNumbersSpec : ChangeSpec := { name := "paramsNumbers", fn := fun _ => fun
  | [d1, d2, d3] => { results := [.lit (.bool true)], args := [d1, d2, d3] }
  | _ => none }
def paramsNumbersRow : OpenClaim := { program := "ytdakiocgaihcnaa", sum := "439073c522fbea2434cccd494514bdf393d0a0ed87e359089b5ceedafff0114d", func := "vizard/vizardlaw10.ParamsNumbers", spec := "paramsNumbers", inPlace := ["internal/bytealg.IndexByteString", "internal/bytealg.IndexString"], unfollowed := true, recurses := true, named := ["internal/bytealg.MaxLen"], apart := false }
def ParamsNumbersSaid : Prop := paramsNumbersRow.holds Try.pinned (OpenSpec.ofChange paramsNumbersSpec)

/-- ITS FALSE NEIGHBOUR: 'it returns false'. Refute it at one input. -/
def paramsNumbersWrong : ChangeSpec := { name := "paramsNumbers", fn := fun _ => fun
  | [d1, d2, d3] => { results := [.lit (.bool false)], args := [d1, d2, d3] }
  | _ => none }
def ParamsNumbersWrongFalsely : Prop := paramsNumbersRow.holds Try.pinned (OpenSpec.ofChange paramsNumbersWrong)

/-- 'vizardlaw10.ParamsJoins': WHATEVER THE INPUT: true; the input reads as it did. -/
def paramsJoinsSpec : ChangeSpec := { name := "paramsJoins", fn := fun _ => fun
  | [d1, d2] => { results := [.lit (.bool true)], args := [d1, d2] }
  | _ => none }
def paramsJoinsRow : OpenClaim := { program := "ytdakiocgaihcnaa", sum := "439073c522fbea2434cccd494514bdf393d0a0ed87e359089b5ceedafff0114d", func := "vizard/vizardlaw10.ParamsJoins", spec := "paramsJoins", inPlace := ["internal/bytealg.IndexByteString", "internal/bytealg.IndexString"], unfollowed := true, recurses := true, named := ["internal/bytealg.MaxLen"], apart := false }
def ParamsJoinsSaid : Prop := paramsJoinsRow.holds Try.pinned (OpenSpec.ofChange paramsJoinsSpec)

/-- ITS FALSE NEIGHBOUR: 'it returns false'. Refute it at one input. -/
def paramsJoinsWrong : ChangeSpec := { name := "paramsJoins", fn := fun _ => fun
  | [d1, d2] => { results := [.lit (.bool false)], args := [d1, d2] }
  | _ => none }
def ParamsJoinsWrongFalsely : Prop := paramsJoinsRow.holds Try.pinned (OpenSpec.ofChange paramsJoinsWrong)

/-- 'vizardlaw10.ParamsZeros': WHATEVER THE INPUT: true; the input reads as it did. -/
def paramsZerosSpec : ChangeSpec := { name := "paramsZeros", fn := fun _ => fun
  | [d1, d2] => { results := [.lit (.bool true)], args := [d1, d2] }
  | _ => none }
def paramsZerosRow : OpenClaim := { program := "ytdakiocgaihcnaa", sum := "439073c522fbea2434cccd494514bdf393d0a0ed87e359089b5ceedafff0114d", func := "vizard/vizardlaw10.ParamsZeros", spec := "paramsZeros", inPlace := ["internal/bytealg.IndexByteString", "internal/bytealg.IndexString"], unfollowed := true, recurses := true, named := ["internal/bytealg.MaxLen"], apart := false }
def ParamsZerosSaid : Prop := paramsZerosRow.holds Try.pinned (OpenSpec.ofChange paramsZerosSpec)

/-- ITS FALSE NEIGHBOUR: 'it returns false'. Refute it at one input. -/
def paramsZerosWrong : ChangeSpec := { name := "paramsZeros", fn := fun _ => fun
  | [d1, d2] => { results := [.lit (.bool false)], args := [d1, d2] }
  | _ => none }
def ParamsZerosWrongFalsely : Prop := paramsZerosRow.holds Try.pinned (OpenSpec.ofChange paramsZerosWrong)

/-- 'vizardlaw10.ParamsBounds': WHATEVER THE INPUT: true; the input reads as it did. -/
def paramsBoundsSpec : ChangeSpec := { name := "paramsBounds", fn := fun _ => fun
  | [d1, d2] => { results := [.lit (.bool true)], args := [d1, d2] }
  | _ => none }
def paramsBoundsRow : OpenClaim := { program := "ytdakiocgaihcnaa", sum := "439073c522fbea2434cccd494514bdf393d0a0ed87e359089b5ceedafff0114d", func := "vizard/vizardlaw10.ParamsBounds", spec := "paramsBounds", inPlace := ["internal/bytealg.IndexByteString", "internal/bytealg.IndexString"], unfollowed := true, recurses := true, named := ["internal/bytealg.MaxLen"], apart := false }
def ParamsBoundsSaid : Prop := paramsBoundsRow.holds Try.pinned (OpenSpec.ofChange paramsBoundsSpec)

/-- ITS FALSE NEIGHBOUR: 'it returns false'. Refute it at one input. -/
def paramsBoundsWrong : ChangeSpec := { name := "paramsBounds", fn := fun _ => fun
  | [d1, d2] => { results := [.lit (.bool false)], args := [d1, d2] }
  | _ => none }
def ParamsBoundsWrongFalsely : Prop := paramsBoundsRow.holds Try.pinned (OpenSpec.ofChange paramsBoundsWrong)

/-- 'vizardlaw10.ParamsNil': WHATEVER THE INPUT: true; the input reads as it did. -/
def paramsNilSpec : ChangeSpec := { name := "paramsNil", fn := fun _ => fun
  | [d] => { results := [.lit (.bool true)], args := [d] }
  | _ => none }
def paramsNilRow : OpenClaim := { program := "ytdakiocgaihcnaa", sum := "439073c522fbea2434cccd494514bdf393d0a0ed87e359089b5ceedafff0114d", func := "vizard/vizardlaw10.ParamsNil", spec := "paramsNil", inPlace := ["internal/bytealg.IndexByteString", "internal/bytealg.IndexString"], unfollowed := true, recurses := true, named := ["internal/bytealg.MaxLen"], apart := false }
def ParamsNilSaid : Prop := paramsNilRow.holds Try.pinned (OpenSpec.ofChange paramsNilSpec)

/-- ITS FALSE NEIGHBOUR: 'it returns false'. Refute it at one input. -/
def paramsNilWrong : ChangeSpec := { name := "paramsNil", fn := fun _ => fun
  | [d] => { results := [.lit (.bool false)], args := [d] }
  | _ => none }
def ParamsNilWrongFalsely : Prop := paramsNilRow.holds Try.pinned (OpenSpec.ofChange paramsNilWrong)

/-- 'vizardlaw10.ParamsPlays': WHATEVER THE INPUT: true; the input reads as it did. -/
def paramsPlaysSpec : ChangeSpec := { name := "paramsPlays", fn := fun _ => fun
  | [d1, d2, d3] => { results := [.lit (.bool true)], args := [d1, d2, d3] }
  | _ => none }
def paramsPlaysRow : OpenClaim := { program := "ytdakiocgaihcnaa", sum := "439073c522fbea2434cccd494514bdf393d0a0ed87e359089b5ceedafff0114d", func := "vizard/vizardlaw10.ParamsPlays", spec := "paramsPlays", inPlace := ["internal/bytealg.IndexByteString", "internal/bytealg.IndexString"], unfollowed := true, recurses := true, named := ["internal/bytealg.MaxLen"], apart := false }
def ParamsPlaysSaid : Prop := paramsPlaysRow.holds Try.pinned (OpenSpec.ofChange paramsPlaysSpec)

/-- ITS FALSE NEIGHBOUR: 'it returns false'. Refute it at one input. -/
def paramsPlaysWrong : ChangeSpec := { name := "paramsPlays", fn := fun _ => fun
  | [d1, d2, d3] => { results := [.lit (.bool false)], args := [d1, d2, d3] }
  | _ => none }
def ParamsPlaysWrongFalsely : Prop := paramsPlaysRow.holds Try.pinned (OpenSpec.ofChange paramsPlaysWrong)

/- THE SECOND FORM. 'bulk': how many values and letters a reading holds, each counted each time it is reached (what is shared counts as often as it is met; a slice's spare places count too). A statement '..UptoSaid' is the law's where the arguments, and the package variables that the reading takes, are together of bulk at most 1048576: NARROWER than '..Said'. Prove '..Said' where nothing that the law and all that it calls make is longer than what came in: it says more and counts as full. Else prove '..UptoSaid'. A law counts once. -/
mutual
def uptoBulk {H : Type} : DataW H → Nat
  | .lit (.string bytes) => bytes.length + 1
  | .lit _ => 1
  | .nil => 1
  | .ptr d => uptoBulk d + 1
  | .slice elems spare => uptoBulkAll elems + uptoBulkAll spare + 1
  | .agg parts => uptoBulkAll parts + 1
  | .iface _ d => uptoBulk d + 1
  | .map entries => uptoBulkEntries entries + 1
  | .held _ => 1
def uptoBulkAll {H : Type} : List (DataW H) → Nat
  | [] => 0
  | d :: r => uptoBulk d + uptoBulkAll r
def uptoBulkEntries {H : Type} : List (Lit × DataW H) → Nat
  | [] => 0
  | x :: r => uptoBulkEntry x + uptoBulkEntries r
def uptoBulkEntry {H : Type} : Lit × DataW H → Nat
  | (.string bytes, d) => bytes.length + uptoBulk d + 1
  | (_, d) => uptoBulk d + 1
 end
def uptoSmall : (H : Type) → List (DataW H) → Bool := fun _ ds => decide (uptoBulkAll ds ≤ 1048576)
def OpenSpec.upto (s : _root_.Go.ChangeSpec) : _root_.Go.OpenSpec := { _root_.Go.OpenSpec.ofChange s with cond := some uptoSmall }

/-- 'vizardlaw10.ParamsNumbers', WHERE WHAT IT READS IS OF BULK AT MOST 1048576: true; the input reads as it did. -/
def paramsNumbersUptoRow : OpenClaim := { program := "ytdakiocgaihcnaa", sum := "439073c522fbea2434cccd494514bdf393d0a0ed87e359089b5ceedafff0114d", func := "vizard/vizardlaw10.ParamsNumbers", spec := "paramsNumbers", inPlace := ["internal/bytealg.IndexByteString", "internal/bytealg.IndexString"], unfollowed := true, recurses := true, named := ["internal/bytealg.MaxLen"], apart := false, narrowed := true }
def ParamsNumbersUptoSaid : Prop := paramsNumbersUptoRow.holds Try.pinned (OpenSpec.upto paramsNumbersSpec)

/-- 'vizardlaw10.ParamsJoins', WHERE WHAT IT READS IS OF BULK AT MOST 1048576: true; the input reads as it did. -/
def paramsJoinsUptoRow : OpenClaim := { program := "ytdakiocgaihcnaa", sum := "439073c522fbea2434cccd494514bdf393d0a0ed87e359089b5ceedafff0114d", func := "vizard/vizardlaw10.ParamsJoins", spec := "paramsJoins", inPlace := ["internal/bytealg.IndexByteString", "internal/bytealg.IndexString"], unfollowed := true, recurses := true, named := ["internal/bytealg.MaxLen"], apart := false, narrowed := true }
def ParamsJoinsUptoSaid : Prop := paramsJoinsUptoRow.holds Try.pinned (OpenSpec.upto paramsJoinsSpec)

/-- 'vizardlaw10.ParamsZeros', WHERE WHAT IT READS IS OF BULK AT MOST 1048576: true; the input reads as it did. -/
def paramsZerosUptoRow : OpenClaim := { program := "ytdakiocgaihcnaa", sum := "439073c522fbea2434cccd494514bdf393d0a0ed87e359089b5ceedafff0114d", func := "vizard/vizardlaw10.ParamsZeros", spec := "paramsZeros", inPlace := ["internal/bytealg.IndexByteString", "internal/bytealg.IndexString"], unfollowed := true, recurses := true, named := ["internal/bytealg.MaxLen"], apart := false, narrowed := true }
def ParamsZerosUptoSaid : Prop := paramsZerosUptoRow.holds Try.pinned (OpenSpec.upto paramsZerosSpec)

/-- 'vizardlaw10.ParamsBounds', WHERE WHAT IT READS IS OF BULK AT MOST 1048576: true; the input reads as it did. -/
def paramsBoundsUptoRow : OpenClaim := { program := "ytdakiocgaihcnaa", sum := "439073c522fbea2434cccd494514bdf393d0a0ed87e359089b5ceedafff0114d", func := "vizard/vizardlaw10.ParamsBounds", spec := "paramsBounds", inPlace := ["internal/bytealg.IndexByteString", "internal/bytealg.IndexString"], unfollowed := true, recurses := true, named := ["internal/bytealg.MaxLen"], apart := false, narrowed := true }
def ParamsBoundsUptoSaid : Prop := paramsBoundsUptoRow.holds Try.pinned (OpenSpec.upto paramsBoundsSpec)

/-- 'vizardlaw10.ParamsNil', WHERE WHAT IT READS IS OF BULK AT MOST 1048576: true; the input reads as it did. -/
def paramsNilUptoRow : OpenClaim := { program := "ytdakiocgaihcnaa", sum := "439073c522fbea2434cccd494514bdf393d0a0ed87e359089b5ceedafff0114d", func := "vizard/vizardlaw10.ParamsNil", spec := "paramsNil", inPlace := ["internal/bytealg.IndexByteString", "internal/bytealg.IndexString"], unfollowed := true, recurses := true, named := ["internal/bytealg.MaxLen"], apart := false, narrowed := true }
def ParamsNilUptoSaid : Prop := paramsNilUptoRow.holds Try.pinned (OpenSpec.upto paramsNilSpec)

/-- 'vizardlaw10.ParamsPlays', WHERE WHAT IT READS IS OF BULK AT MOST 1048576: true; the input reads as it did. -/
def paramsPlaysUptoRow : OpenClaim := { program := "ytdakiocgaihcnaa", sum := "439073c522fbea2434cccd494514bdf393d0a0ed87e359089b5ceedafff0114d", func := "vizard/vizardlaw10.ParamsPlays", spec := "paramsPlays", inPlace := ["internal/bytealg.IndexByteString", "internal/bytealg.IndexString"], unfollowed := true, recurses := true, named := ["internal/bytealg.MaxLen"], apart := false, narrowed := true }
def ParamsPlaysUptoSaid : Prop := paramsPlaysUptoRow.holds Try.pinned (OpenSpec.upto paramsPlaysSpec)

end Rows
end Go.Proofs.Ytdakiocgaihcnaa
