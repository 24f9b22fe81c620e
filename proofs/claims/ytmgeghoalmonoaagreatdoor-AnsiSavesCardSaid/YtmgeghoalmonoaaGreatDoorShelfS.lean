/-
  DERIVED: THE SHELF's CONTRACTS AT THIS DUMP, IN PLAIN WORDS (tools/lay-plain.mjs out of 'TryzShelf.lean', which tools/lay-shelf.mjs wrote): THE SAME DECLARATIONS UNDER THE SAME NAMES: 'import', 'namespace', 'open', 'def', 'theorem' AND NOTHING ELSE: no command of the shelf's: FOR A HAND-IN. Each laying: the table of numbers ('.._ren') and one theorem, a field a fact of the dump's own or the kernel's comparison; each contract: ONE APPLICATION.
-/
import Derived.Shelf.Strings.Builder1
import Derived.Shelf.Small.Strs
import Derived.Shelf.Strings.BuilderF
import Derived.Shelf.Strconv.Atoi
import Derived.Shelf.Strconv.Itoa3
import Derived.Shelf.LaysM
import Derived.Shelf.Strings.Search1
import Derived.Shelf.Strings.Search2
import Derived.Shelf.Strings.Cut
import Derived.Shelf.Strings.Shaped
import Derived.Shelf.Bits.Mul64
import Derived.Shelf.Strings.BuilderCap
import Derived.Shelf.Strings.Builder2
import Derived.Test.YtmgeghoalmonoaaGreatDoorProg
namespace Go.Proofs
open Go.Shelf
def Tryz.lays169_ren : Go.Shelf.Ren := ⟨fun | 169 => 114 | n => n, fun | 70 => 194 | 9 => 9 | 0 => 0 | 72 => 196 | 37 => 80 | 127 => 234 | 3 => 3 | 5 => 5 | n => n, fun | n => n⟩
theorem Tryz.lays169 : Go.Proofs.Lays.n169 Tryz.prog Tryz.lays169_ren := {
  mixed := by kernel_rfl
  f169 := Tryz.func114.trans (congrArg some (by kernel_rfl))
  t0 := Tryz.underlying0
  a0 := Tryz.isAgg0
  z0 := Tryz.sizeOf0
  v0 := Tryz.zeroValue0
  t3 := Tryz.underlying3
  a3 := Tryz.isAgg3
  z3 := Tryz.sizeOf3
  v3 := Tryz.zeroValue3
  t9 := Tryz.underlying9
  a9 := Tryz.isAgg9
  z9 := Tryz.sizeOf9
  v9 := Tryz.zeroValue9
  t37 := Tryz.underlying80
  a37 := Tryz.isAgg80
  z37 := Tryz.sizeOf80
  v37 := Tryz.zeroValue80
  t70 := Tryz.underlying194
  a70 := Tryz.isAgg194
  z70 := Tryz.sizeOf194
  v70 := Tryz.zeroValue194
  t72 := Tryz.underlying196
  a72 := Tryz.isAgg196
  z72 := Tryz.sizeOf196
  v72 := Tryz.zeroValue196
  t127 := Tryz.underlying234
  a127 := Tryz.isAgg234
  z127 := Tryz.sizeOf234
  v127 := Tryz.zeroValue234 }
theorem Tryz.Builder_Extra_169 : Builder.Extra Tryz.prog Tryz.lays169_ren := {
  sizeBuilder := by kernel_rfl
  liesBuilder := by kernel_rfl
  t5 := Tryz.underlying5
  a5 := Tryz.isAgg5
  z5 := Tryz.sizeOf5
  v5 := Tryz.zeroValue5
  infoByte := by kernel_rfl
  cellsByte := by kernel_rfl
  sizeByte := by kernel_rfl
  neB5 := by decide }
open Go.RowKit in
/-- (*strings.Builder).String: "String returns the accumulated string.": WHATEVER THE BUILDER HOLDS. (LAID: no walk: one application.) -/
theorem Tryz.Builder_String_any (B b : Nat) (l : List UInt8) (w : World) (h : Lib.IsBuilder 196 5 B b (Lib.byteCells l) w) (hBw : B ≤ w.heap.size) :
    Calls Tryz.prog 114 #[.pointer (some ⟨b, 0, none⟩)] w fun e w' => e = .returned (.string ⟨l.toArray⟩) ∧ Below B w w' := Any.Builder_String_any Tryz.lays169 Tryz.Builder_Extra_169 B b l w h hBw
def Tryz.lays137_ren : Go.Shelf.Ren := ⟨fun | 137 => 151 | 217 => 162 | 266 => 174 | n => n, fun | 9 => 9 | 5 => 5 | 3 => 3 | n => n, fun | n => n⟩
theorem Tryz.lays137 : Go.Proofs.Lays.n137 Tryz.prog Tryz.lays137_ren := {
  mixed := by kernel_rfl
  f137 := Tryz.func151.trans (congrArg some (by kernel_rfl))
  f217 := Tryz.func162.trans (congrArg some (by kernel_rfl))
  f266 := Tryz.func174.trans (congrArg some (by kernel_rfl))
  t3 := Tryz.underlying3
  a3 := Tryz.isAgg3
  z3 := Tryz.sizeOf3
  v3 := Tryz.zeroValue3
  t5 := Tryz.underlying5
  a5 := Tryz.isAgg5
  z5 := Tryz.sizeOf5
  v5 := Tryz.zeroValue5
  t9 := Tryz.underlying9
  a9 := Tryz.isAgg9
  z9 := Tryz.sizeOf9
  v9 := Tryz.zeroValue9 }
open Go.RowKit in
/-- strings.IndexByte: "IndexByte returns the index of the first instance of c in s, or -1 if c is not present in s.": IT RETURNS 'Lib.indexByte s c'; the world is as it was. (LAID: no walk: one application.) -/
theorem Tryz.strings_IndexByte (s : ByteArray) (c : Int) (w : World) :
    Calls Tryz.prog 151 #[.string s, .int .u8 c] w fun e w' => e = .returned (.int .i64 (Lib.indexByte s.data.toList c.toNat.toUInt8)) ∧ w' = w := Any.strings_IndexByte Tryz.lays137 s c w
def Tryz.lays172_ren : Go.Shelf.Ren := ⟨fun | 172 => 150 | 244 => 160 | 245 => 161 | 247 => 169 | 279 => 170 | 280 => 171 | 281 => 172 | 282 => 173 | 287 => 176 | 316 => 177 | 171 => 92 | 205 => 178 | 321 => 179 | 322 => 180 | 243 => 111 | 246 => 138 | 283 => 146 | 284 => 147 | 285 => 148 | 286 => 149 | 129 => 156 | 317 => 155 | 318 => 157 | 319 => 158 | 320 => 159 | 337 => 167 | 338 => 168 | n => n, fun | 9 => 9 | 3 => 3 | 75 => 198 | 76 => 199 | 4 => 4 | 5 => 5 | 167 => 258 | 37 => 80 | 0 => 0 | 85 => 259 | 2 => 2 | 168 => 261 | 53 => 176 | 175 => 267 | 46 => 150 | 210 => 271 | 127 => 234 | 145 => 276 | 143 => 274 | 21 => 21 | 171 => 239 | 173 => 242 | 212 => 252 | 51 => 173 | 20 => 20 | 213 => 253 | 232 => 265 | 233 => 266 | 80 => 36 | n => n, fun | 15 => 5 | 16 => 6 | 17 => 1 | 18 => 3 | 19 => 4 | n => n⟩
theorem Tryz.lays172 : Go.Proofs.Lays.n172 Tryz.prog Tryz.lays172_ren := {
  mixed := by kernel_rfl
  f129 := Tryz.func156.trans (congrArg some (by kernel_rfl))
  f171 := Tryz.func92.trans (congrArg some (by kernel_rfl))
  f172 := Tryz.func150.trans (congrArg some (by kernel_rfl))
  f205 := Tryz.func178.trans (congrArg some (by kernel_rfl))
  f243 := Tryz.func111.trans (congrArg some (by kernel_rfl))
  f244 := Tryz.func160.trans (congrArg some (by kernel_rfl))
  f245 := Tryz.func161.trans (congrArg some (by kernel_rfl))
  f246 := Tryz.func138.trans (congrArg some (by kernel_rfl))
  f247 := Tryz.func169.trans (congrArg some (by kernel_rfl))
  f279 := Tryz.func170.trans (congrArg some (by kernel_rfl))
  f280 := Tryz.func171.trans (congrArg some (by kernel_rfl))
  f281 := Tryz.func172.trans (congrArg some (by kernel_rfl))
  f282 := Tryz.func173.trans (congrArg some (by kernel_rfl))
  f283 := Tryz.func146.trans (congrArg some (by kernel_rfl))
  f284 := Tryz.func147.trans (congrArg some (by kernel_rfl))
  f285 := Tryz.func148.trans (congrArg some (by kernel_rfl))
  f286 := Tryz.func149.trans (congrArg some (by kernel_rfl))
  f287 := Tryz.func176.trans (congrArg some (by kernel_rfl))
  f316 := Tryz.func177.trans (congrArg some (by kernel_rfl))
  f317 := Tryz.func155.trans (congrArg some (by kernel_rfl))
  f318 := Tryz.func157.trans (congrArg some (by kernel_rfl))
  f319 := Tryz.func158.trans (congrArg some (by kernel_rfl))
  f320 := Tryz.func159.trans (congrArg some (by kernel_rfl))
  f321 := Tryz.func179.trans (congrArg some (by kernel_rfl))
  f322 := Tryz.func180.trans (congrArg some (by kernel_rfl))
  f337 := Tryz.func167.trans (congrArg some (by kernel_rfl))
  f338 := Tryz.func168.trans (congrArg some (by kernel_rfl))
  t0 := Tryz.underlying0
  a0 := Tryz.isAgg0
  z0 := Tryz.sizeOf0
  v0 := Tryz.zeroValue0
  t2 := Tryz.underlying2
  a2 := Tryz.isAgg2
  z2 := Tryz.sizeOf2
  v2 := Tryz.zeroValue2
  t3 := Tryz.underlying3
  a3 := Tryz.isAgg3
  z3 := Tryz.sizeOf3
  v3 := Tryz.zeroValue3
  t4 := Tryz.underlying4
  a4 := Tryz.isAgg4
  z4 := Tryz.sizeOf4
  v4 := Tryz.zeroValue4
  t5 := Tryz.underlying5
  a5 := Tryz.isAgg5
  z5 := Tryz.sizeOf5
  v5 := Tryz.zeroValue5
  t9 := Tryz.underlying9
  a9 := Tryz.isAgg9
  z9 := Tryz.sizeOf9
  v9 := Tryz.zeroValue9
  t20 := Tryz.underlying20
  a20 := Tryz.isAgg20
  z20 := Tryz.sizeOf20
  v20 := Tryz.zeroValue20
  t21 := Tryz.underlying21
  a21 := Tryz.isAgg21
  z21 := Tryz.sizeOf21
  v21 := Tryz.zeroValue21
  t37 := Tryz.underlying80
  a37 := Tryz.isAgg80
  z37 := Tryz.sizeOf80
  v37 := Tryz.zeroValue80
  t46 := Tryz.underlying150
  a46 := Tryz.isAgg150
  z46 := Tryz.sizeOf150
  v46 := Tryz.zeroValue150
  t51 := Tryz.underlying173
  a51 := Tryz.isAgg173
  z51 := Tryz.sizeOf173
  v51 := Tryz.zeroValue173
  t53 := Tryz.underlying176
  a53 := Tryz.isAgg176
  z53 := Tryz.sizeOf176
  v53 := Tryz.zeroValue176
  t75 := Tryz.underlying198
  a75 := Tryz.isAgg198
  z75 := Tryz.sizeOf198
  v75 := Tryz.zeroValue198
  t76 := Tryz.underlying199
  a76 := Tryz.isAgg199
  z76 := Tryz.sizeOf199
  v76 := Tryz.zeroValue199
  t85 := Tryz.underlying259
  a85 := Tryz.isAgg259
  z85 := Tryz.sizeOf259
  v85 := Tryz.zeroValue259
  t127 := Tryz.underlying234
  a127 := Tryz.isAgg234
  z127 := Tryz.sizeOf234
  v127 := Tryz.zeroValue234
  t143 := Tryz.underlying274
  a143 := Tryz.isAgg274
  z143 := Tryz.sizeOf274
  v143 := Tryz.zeroValue274
  t145 := Tryz.underlying276
  a145 := Tryz.isAgg276
  z145 := Tryz.sizeOf276
  v145 := Tryz.zeroValue276
  t167 := Tryz.underlying258
  a167 := Tryz.isAgg258
  z167 := Tryz.sizeOf258
  v167 := Tryz.zeroValue258
  t168 := Tryz.underlying261
  a168 := Tryz.isAgg261
  z168 := Tryz.sizeOf261
  v168 := Tryz.zeroValue261
  t171 := Tryz.underlying239
  a171 := Tryz.isAgg239
  z171 := Tryz.sizeOf239
  v171 := Tryz.zeroValue239
  t173 := Tryz.underlying242
  a173 := Tryz.isAgg242
  z173 := Tryz.sizeOf242
  v173 := Tryz.zeroValue242
  t175 := Tryz.underlying267
  a175 := Tryz.isAgg267
  z175 := Tryz.sizeOf267
  v175 := Tryz.zeroValue267
  t210 := Tryz.underlying271
  a210 := Tryz.isAgg271
  z210 := Tryz.sizeOf271
  v210 := Tryz.zeroValue271
  t212 := Tryz.underlying252
  a212 := Tryz.isAgg252
  z212 := Tryz.sizeOf252
  v212 := Tryz.zeroValue252
  t213 := Tryz.underlying253
  a213 := Tryz.isAgg253
  z213 := Tryz.sizeOf253
  t232 := Tryz.underlying265
  a232 := Tryz.isAgg265
  z232 := Tryz.sizeOf265
  v232 := Tryz.zeroValue265
  t233 := Tryz.underlying266
  a233 := Tryz.isAgg266
  z233 := Tryz.sizeOf266
  v233 := Tryz.zeroValue266
  g15 := by kernel_rfl
  g16 := by kernel_rfl
  g17 := by kernel_rfl
  g18 := by kernel_rfl
  g19 := by kernel_rfl }
open Go.RowKit in
/-- strconv.Atoi: "Atoi is equivalent to ParseInt(s, 10, 0), converted to type int.": AT A DECIMAL NUMERAL OF AT MOST 18 BYTES: its value, and a nil error. The world behind the call: the one new row that the library's '[]byte(s)' lays. (LAID: no walk: one application.) -/
theorem Tryz.strconv_Atoi (s : ByteArray) (n : Int) (hl : s.size ≤ 18) (h : Lib.atoi s.data.toList = some n) (w : World) :
    Calls Tryz.prog 150 #[.string s] w fun e w' => e = .returned (.tuple #[.int .i64 n, .nilIface]) ∧ ∃ t, w' = Lib.bytesWorld w 5 t := Any.strconv_Atoi Tryz.lays172 s n hl h w
def Tryz.lays171_ren : Go.Shelf.Ren := ⟨fun | 171 => 92 | 243 => 111 | 246 => 138 | 283 => 146 | 284 => 147 | 285 => 148 | 286 => 149 | 129 => 156 | 317 => 155 | 318 => 157 | 319 => 158 | 320 => 159 | 337 => 167 | 338 => 168 | n => n, fun | 3 => 3 | 9 => 9 | 2 => 2 | 4 => 4 | 171 => 239 | 0 => 0 | 53 => 176 | 37 => 80 | 5 => 5 | 173 => 242 | 212 => 252 | 51 => 173 | 20 => 20 | 213 => 253 | 46 => 150 | 232 => 265 | 233 => 266 | n => n, fun | 17 => 1 | 18 => 3 | 19 => 4 | n => n⟩
theorem Tryz.lays171 : Go.Proofs.Lays.n171 Tryz.prog Tryz.lays171_ren := {
  mixed := by kernel_rfl
  f129 := Tryz.func156.trans (congrArg some (by kernel_rfl))
  f171 := Tryz.func92.trans (congrArg some (by kernel_rfl))
  f243 := Tryz.func111.trans (congrArg some (by kernel_rfl))
  f246 := Tryz.func138.trans (congrArg some (by kernel_rfl))
  f283 := Tryz.func146.trans (congrArg some (by kernel_rfl))
  f284 := Tryz.func147.trans (congrArg some (by kernel_rfl))
  f285 := Tryz.func148.trans (congrArg some (by kernel_rfl))
  f286 := Tryz.func149.trans (congrArg some (by kernel_rfl))
  f317 := Tryz.func155.trans (congrArg some (by kernel_rfl))
  f318 := Tryz.func157.trans (congrArg some (by kernel_rfl))
  f319 := Tryz.func158.trans (congrArg some (by kernel_rfl))
  f320 := Tryz.func159.trans (congrArg some (by kernel_rfl))
  f337 := Tryz.func167.trans (congrArg some (by kernel_rfl))
  f338 := Tryz.func168.trans (congrArg some (by kernel_rfl))
  t0 := Tryz.underlying0
  a0 := Tryz.isAgg0
  z0 := Tryz.sizeOf0
  v0 := Tryz.zeroValue0
  t2 := Tryz.underlying2
  a2 := Tryz.isAgg2
  z2 := Tryz.sizeOf2
  v2 := Tryz.zeroValue2
  t3 := Tryz.underlying3
  a3 := Tryz.isAgg3
  z3 := Tryz.sizeOf3
  v3 := Tryz.zeroValue3
  t4 := Tryz.underlying4
  a4 := Tryz.isAgg4
  z4 := Tryz.sizeOf4
  v4 := Tryz.zeroValue4
  t5 := Tryz.underlying5
  a5 := Tryz.isAgg5
  z5 := Tryz.sizeOf5
  v5 := Tryz.zeroValue5
  t9 := Tryz.underlying9
  a9 := Tryz.isAgg9
  z9 := Tryz.sizeOf9
  v9 := Tryz.zeroValue9
  t20 := Tryz.underlying20
  a20 := Tryz.isAgg20
  z20 := Tryz.sizeOf20
  v20 := Tryz.zeroValue20
  t37 := Tryz.underlying80
  a37 := Tryz.isAgg80
  z37 := Tryz.sizeOf80
  v37 := Tryz.zeroValue80
  t46 := Tryz.underlying150
  a46 := Tryz.isAgg150
  z46 := Tryz.sizeOf150
  v46 := Tryz.zeroValue150
  t51 := Tryz.underlying173
  a51 := Tryz.isAgg173
  z51 := Tryz.sizeOf173
  v51 := Tryz.zeroValue173
  t53 := Tryz.underlying176
  a53 := Tryz.isAgg176
  z53 := Tryz.sizeOf176
  v53 := Tryz.zeroValue176
  t171 := Tryz.underlying239
  a171 := Tryz.isAgg239
  z171 := Tryz.sizeOf239
  v171 := Tryz.zeroValue239
  t173 := Tryz.underlying242
  a173 := Tryz.isAgg242
  z173 := Tryz.sizeOf242
  v173 := Tryz.zeroValue242
  t212 := Tryz.underlying252
  a212 := Tryz.isAgg252
  z212 := Tryz.sizeOf252
  v212 := Tryz.zeroValue252
  t213 := Tryz.underlying253
  a213 := Tryz.isAgg253
  z213 := Tryz.sizeOf253
  t232 := Tryz.underlying265
  a232 := Tryz.isAgg265
  z232 := Tryz.sizeOf265
  v232 := Tryz.zeroValue265
  t233 := Tryz.underlying266
  a233 := Tryz.isAgg266
  z233 := Tryz.sizeOf266
  v233 := Tryz.zeroValue266
  g17 := by kernel_rfl
  g18 := by kernel_rfl
  g19 := by kernel_rfl }
open Go.RowKit Go.Sort Go.Lib in
/-- THE ROAD WITHOUT THE TABLE: 0 <= i < 100: NO PREMISE ON THE WORLD, AND THE WORLD IS AS IT WAS: a row that keeps its argument in that range need list no table ('laid = []'). (LAID: no walk: one application.) -/
theorem Tryz.strconv_Itoa_small (i : Nat) (hi : i < 100) (w : World) :
    Calls Tryz.prog 92 #[.int .i64 i] w fun e w' => e = .returned (.string ⟨(Lib.decDigits i).toArray⟩) ∧ w' = w := Any.strconv_Itoa_small Tryz.lays171 i hi w
def Tryz.lays219_ren : Go.Shelf.Ren := ⟨fun | 219 => 154 | 217 => 162 | 225 => 164 | 224 => 165 | 267 => 166 | 266 => 174 | 314 => 175 | n => n, fun | 9 => 9 | 3 => 3 | 4 => 4 | 5 => 5 | 46 => 150 | 146 => 174 | 51 => 173 | n => n, fun | 1 => 2 | n => n⟩
theorem Tryz.lays219 : Go.Proofs.Lays.n219 Tryz.prog Tryz.lays219_ren := {
  mixed := by kernel_rfl
  f217 := Tryz.func162.trans (congrArg some (by kernel_rfl))
  f219 := Tryz.func154.trans (congrArg some (by kernel_rfl))
  f224 := Tryz.func165.trans (congrArg some (by kernel_rfl))
  f225 := Tryz.func164.trans (congrArg some (by kernel_rfl))
  f266 := Tryz.func174.trans (congrArg some (by kernel_rfl))
  f267 := Tryz.func166.trans (congrArg some (by kernel_rfl))
  f314 := Tryz.func175.trans (congrArg some (by kernel_rfl))
  t3 := Tryz.underlying3
  a3 := Tryz.isAgg3
  z3 := Tryz.sizeOf3
  v3 := Tryz.zeroValue3
  t4 := Tryz.underlying4
  a4 := Tryz.isAgg4
  z4 := Tryz.sizeOf4
  v4 := Tryz.zeroValue4
  t5 := Tryz.underlying5
  a5 := Tryz.isAgg5
  z5 := Tryz.sizeOf5
  v5 := Tryz.zeroValue5
  t9 := Tryz.underlying9
  a9 := Tryz.isAgg9
  z9 := Tryz.sizeOf9
  v9 := Tryz.zeroValue9
  t46 := Tryz.underlying150
  a46 := Tryz.isAgg150
  z46 := Tryz.sizeOf150
  v46 := Tryz.zeroValue150
  t51 := Tryz.underlying173
  a51 := Tryz.isAgg173
  z51 := Tryz.sizeOf173
  v51 := Tryz.zeroValue173
  t146 := Tryz.underlying174
  a146 := Tryz.isAgg174
  z146 := Tryz.sizeOf174
  v146 := Tryz.zeroValue174
  g1 := by kernel_rfl }
open Go.RowKit Go.Lib in
/-- internal/stringslite.Index (what strings.Index calls) AT A substr OF ONE BYTE c: IT RETURNS 'Lib.indexByte s c'; the world is as it was. (LAID: no walk: one application.) -/
theorem Tryz.stringslite_Index_one (s : ByteArray) (c : UInt8) (w : World) :
    Calls Tryz.prog 154 #[.string s, .string ⟨#[c]⟩] w fun e w' => e = .returned (.int .i64 (Lib.indexByte s.data.toList c)) ∧ w' = w := Any.stringslite_Index_one Tryz.lays219 s c w
end Go.Proofs
