/-
  DERIVED: THE SHELF's CONTRACTS AT THIS DUMP, IN PLAIN WORDS (tools/lay-plain.mjs out of 'TryzShelfG.lean', which tools/lay-shelf.mjs wrote): THE SAME DECLARATIONS UNDER THE SAME NAMES: 'import', 'namespace', 'open', 'def', 'theorem' AND NOTHING ELSE: no command of the shelf's: FOR A HAND-IN. Each laying: the table of numbers ('.._ren') and one theorem, a field a fact of the dump's own or the kernel's comparison; each contract: ONE APPLICATION.
-/
import Derived.Shelf.SlIterI.Nil
import Derived.Shelf.SortM.Plain
import Derived.Shelf.SortM.SortNone
import Derived.Shelf.SlicesE.IndexFunc
import Derived.Ground.GgzProg
import Derived.Ground.SlgmProg
import Derived.Ground.SlmcProg
import Derived.Ground.SlmdProg
import Derived.Ground.SlgfProg
import Derived.Shelf.SlMaps.Clone
import Derived.Shelf.SlMaps.DeleteFunc
import Derived.Test.YtbnkfiaggehmgaaGreatDoorProg
namespace Go.Proofs
open Go.Shelf
def Tryz.keysA_ren : Go.Shelf.Ren := ⟨fun | 7 => 109 | 10 => 148 | n => n, fun | 23 => 126 | 26 => 3 | 3 => 140 | 28 => 152 | 0 => 0 | 27 => 151 | 33 => 136 | 4 => 4 | n => n, fun | n => n⟩
theorem Tryz.keysA : Go.Proofs.SlLaysZI.n7 Tryz.prog Tryz.keysA_ren := {
  mixed := by kernel_rfl
  f7 := ⟨Tryz.f109.name, by decide, Tryz.func109.trans (congrArg some (by kernel_rfl))⟩
  f10 := ⟨Tryz.f148.name, by decide, Tryz.func148.trans (congrArg some (by kernel_rfl))⟩
  t0 := Tryz.underlying0
  a0 := Tryz.isAgg0
  z0 := Tryz.sizeOf0
  v0 := Tryz.zeroValue0
  t4 := Tryz.underlying4
  a4 := Tryz.isAgg4
  z4 := Tryz.sizeOf4
  v4 := Tryz.zeroValue4
  t23 := Tryz.underlying126
  a23 := Tryz.isAgg126
  z23 := Tryz.sizeOf126
  v23 := Tryz.zeroValue126
  t26 := Tryz.underlying3
  a26 := Tryz.isAgg3
  z26 := Tryz.sizeOf3
  v26 := Tryz.zeroValue3
  t27 := Tryz.underlying151
  a27 := Tryz.isAgg151
  z27 := Tryz.sizeOf151
  v27 := Tryz.zeroValue151
  t28 := Tryz.underlying152
  a28 := Tryz.isAgg152
  z28 := Tryz.sizeOf152
  v28 := Tryz.zeroValue152
  t33 := Tryz.underlying136
  a33 := Tryz.isAgg136
  z33 := Tryz.sizeOf136
  v33 := Tryz.zeroValue136 }
def Tryz.sortedA_ren : Go.Shelf.Ren := ⟨fun | 6 => 108 | 8 => 146 | 9 => 147 | 11 => 162 | 13 => 164 | 12 => 163 | 23 => 176 | 24 => 177 | 14 => 167 | 15 => 168 | 16 => 169 | 17 => 170 | 18 => 171 | 19 => 172 | 20 => 173 | 21 => 174 | 22 => 175 | 25 => 178 | 26 => 179 | 27 => 180 | 28 => 181 | 29 => 182 | 30 => 183 | 31 => 184 | n => n, fun | 26 => 3 | 28 => 152 | 24 => 65 | 0 => 0 | 3 => 3 | 37 => 162 | 48 => 197 | 50 => 200 | 4 => 4 | 40 => 214 | 39 => 213 | 45 => 218 | 5 => 5 | 9 => 9 | 51 => 222 | 55 => 226 | 57 => 228 | 58 => 171 | 33 => 136 | n => n, fun | n => n⟩
theorem Tryz.sortedA : Go.Proofs.SlLaysZI.n6 Tryz.prog Tryz.sortedA_ren := {
  mixed := by kernel_rfl
  f6 := ⟨Tryz.f108.name, by decide, Tryz.func108.trans (congrArg some (by kernel_rfl))⟩
  f8 := ⟨Tryz.f146.name, by decide, Tryz.func146.trans (congrArg some (by kernel_rfl))⟩
  f11 := ⟨Tryz.f162.name, by decide, Tryz.func162.trans (congrArg some (by kernel_rfl))⟩
  t0 := Tryz.underlying0
  a0 := Tryz.isAgg0
  z0 := Tryz.sizeOf0
  v0 := Tryz.zeroValue0
  t24 := Tryz.underlying65
  a24 := Tryz.isAgg65
  z24 := Tryz.sizeOf65
  v24 := Tryz.zeroValue65
  t26 := Tryz.underlying3
  a26 := Tryz.isAgg3
  z26 := Tryz.sizeOf3
  v26 := Tryz.zeroValue3
  t28 := Tryz.underlying152
  a28 := Tryz.isAgg152
  z28 := Tryz.sizeOf152
  v28 := Tryz.zeroValue152
  i26 := by kernel_rfl }
def Tryz.sortA_ren : Go.Shelf.Ren := ⟨fun | 5 => 147 | 8 => 164 | 7 => 163 | 19 => 176 | 20 => 177 | 10 => 167 | 11 => 168 | 12 => 169 | 13 => 170 | 14 => 171 | 15 => 172 | 16 => 173 | 17 => 174 | 18 => 175 | 30 => 178 | 31 => 179 | 32 => 180 | 33 => 181 | 34 => 182 | 35 => 183 | 40 => 184 | n => n, fun | 23 => 65 | 25 => 3 | 3 => 3 | 32 => 162 | 22 => 65 | 0 => 0 | 44 => 197 | 46 => 200 | 4 => 4 | 36 => 214 | 35 => 213 | 41 => 218 | 5 => 5 | 9 => 9 | 53 => 222 | 57 => 226 | 63 => 228 | 64 => 171 | n => n, fun | n => n⟩
theorem Tryz.sortA : Go.Proofs.SlLaysM.n5 Tryz.prog Tryz.sortA_ren := {
  mixed := by kernel_rfl
  f5 := ⟨Tryz.f147.name, by decide, Tryz.func147.trans (congrArg some (by kernel_rfl))⟩
  f7 := ⟨Tryz.f163.name, by decide, Tryz.func163.trans (congrArg some (by kernel_rfl))⟩
  f8 := Tryz.func164.trans (congrArg some (by kernel_rfl))
  f10 := ⟨Tryz.f167.name, by decide, Tryz.func167.trans (congrArg some (by kernel_rfl))⟩
  f11 := ⟨Tryz.f168.name, by decide, Tryz.func168.trans (congrArg some (by kernel_rfl))⟩
  f12 := ⟨Tryz.f169.name, by decide, Tryz.func169.trans (congrArg some (by kernel_rfl))⟩
  f13 := ⟨Tryz.f170.name, by decide, Tryz.func170.trans (congrArg some (by kernel_rfl))⟩
  f14 := ⟨Tryz.f171.name, by decide, Tryz.func171.trans (congrArg some (by kernel_rfl))⟩
  f15 := ⟨Tryz.f172.name, by decide, Tryz.func172.trans (congrArg some (by kernel_rfl))⟩
  f16 := ⟨Tryz.f173.name, by decide, Tryz.func173.trans (congrArg some (by kernel_rfl))⟩
  f17 := ⟨Tryz.f174.name, by decide, Tryz.func174.trans (congrArg some (by kernel_rfl))⟩
  f18 := ⟨Tryz.f175.name, by decide, Tryz.func175.trans (congrArg some (by kernel_rfl))⟩
  f19 := Tryz.func176.trans (congrArg some (by kernel_rfl))
  f20 := Tryz.func177.trans (congrArg some (by kernel_rfl))
  f30 := ⟨Tryz.f178.name, by decide, Tryz.func178.trans (congrArg some (by kernel_rfl))⟩
  f31 := Tryz.func179.trans (congrArg some (by kernel_rfl))
  f32 := Tryz.func180.trans (congrArg some (by kernel_rfl))
  f33 := ⟨Tryz.f181.name, by decide, Tryz.func181.trans (congrArg some (by kernel_rfl))⟩
  f34 := ⟨Tryz.f182.name, by decide, Tryz.func182.trans (congrArg some (by kernel_rfl))⟩
  f35 := ⟨Tryz.f183.name, by decide, Tryz.func183.trans (congrArg some (by kernel_rfl))⟩
  f40 := ⟨Tryz.f184.name, by decide, Tryz.func184.trans (congrArg some (by kernel_rfl))⟩
  t0 := Tryz.underlying0
  a0 := Tryz.isAgg0
  z0 := Tryz.sizeOf0
  v0 := Tryz.zeroValue0
  t3 := Tryz.underlying3
  a3 := Tryz.isAgg3
  z3 := Tryz.sizeOf3
  v3 := Tryz.zeroValue3
  t4 := Tryz.underlying4
  a4 := Tryz.isAgg4
  z4 := Tryz.sizeOf4
  v4 := Tryz.zeroValue4
  t5 := Tryz.underlying5
  a5 := Tryz.isAgg5
  z5 := Tryz.sizeOf5
  v5 := Tryz.zeroValue5
  t9 := Tryz.underlying9
  a9 := Tryz.isAgg9
  z9 := Tryz.sizeOf9
  v9 := Tryz.zeroValue9
  t22 := Tryz.underlying65
  a22 := Tryz.isAgg65
  z22 := Tryz.sizeOf65
  v22 := Tryz.zeroValue65
  t23 := Tryz.underlying65
  a23 := Tryz.isAgg65
  z23 := Tryz.sizeOf65
  v23 := Tryz.zeroValue65
  t25 := Tryz.underlying3
  a25 := Tryz.isAgg3
  z25 := Tryz.sizeOf3
  v25 := Tryz.zeroValue3
  t32 := Tryz.underlying162
  a32 := Tryz.isAgg162
  z32 := Tryz.sizeOf162
  v32 := Tryz.zeroValue162
  t35 := Tryz.underlying213
  a35 := Tryz.isAgg213
  z35 := Tryz.sizeOf213
  v35 := Tryz.zeroValue213
  t36 := Tryz.underlying214
  a36 := Tryz.isAgg214
  z36 := Tryz.sizeOf214
  v36 := Tryz.zeroValue214
  t41 := Tryz.underlying218
  a41 := Tryz.isAgg218
  z41 := Tryz.sizeOf218
  v41 := Tryz.zeroValue218
  t44 := Tryz.underlying197
  a44 := Tryz.isAgg197
  z44 := Tryz.sizeOf197
  v44 := Tryz.zeroValue197
  t46 := Tryz.underlying200
  a46 := Tryz.isAgg200
  z46 := Tryz.sizeOf200
  v46 := Tryz.zeroValue200
  t53 := Tryz.underlying222
  a53 := Tryz.isAgg222
  z53 := Tryz.sizeOf222
  v53 := Tryz.zeroValue222
  t57 := Tryz.underlying226
  a57 := Tryz.isAgg226
  z57 := Tryz.sizeOf226
  v57 := Tryz.zeroValue226
  t63 := Tryz.underlying228
  a63 := Tryz.isAgg228
  z63 := Tryz.sizeOf228
  v63 := Tryz.zeroValue228
  t64 := Tryz.underlying171
  a64 := Tryz.isAgg171
  z64 := Tryz.sizeOf171
  v64 := Tryz.zeroValue171 }
def Tryz.cloneA_ren : Go.Shelf.Ren := ⟨fun | 5 => 100 | 7 => 136 | n => n, fun | 23 => 126 | 25 => 3 | 3 => 140 | 4 => 4 | 20 => 20 | n => n, fun | n => n⟩
theorem Tryz.cloneA : Go.Proofs.SlLaysW.n5 Tryz.prog Tryz.cloneA_ren := {
  mixed := by kernel_rfl
  f5 := ⟨Tryz.f100.name, by decide, Tryz.func100.trans (congrArg some (by kernel_rfl))⟩
  f7 := Tryz.func136.trans (congrArg some (by kernel_rfl))
  t4 := Tryz.underlying4
  a4 := Tryz.isAgg4
  z4 := Tryz.sizeOf4
  v4 := Tryz.zeroValue4
  t20 := Tryz.underlying20
  a20 := Tryz.isAgg20
  z20 := Tryz.sizeOf20
  v20 := Tryz.zeroValue20
  t23 := Tryz.underlying126
  a23 := Tryz.isAgg126
  z23 := Tryz.sizeOf126
  v23 := Tryz.zeroValue126 }
def Tryz.idxA_ren : Go.Shelf.Ren := ⟨fun | 6 => 150 | n => n, fun | 22 => 65 | 23 => 3 | 25 => 136 | 3 => 3 | 0 => 0 | 4 => 4 | n => n, fun | n => n⟩
theorem Tryz.idxA : Go.Proofs.SlLaysH.n6 Tryz.prog Tryz.idxA_ren := {
  mixed := by kernel_rfl
  f6 := ⟨Tryz.f150.name, by decide, Tryz.func150.trans (congrArg some (by kernel_rfl))⟩
  t0 := Tryz.underlying0
  a0 := Tryz.isAgg0
  z0 := Tryz.sizeOf0
  v0 := Tryz.zeroValue0
  t3 := Tryz.underlying3
  a3 := Tryz.isAgg3
  z3 := Tryz.sizeOf3
  v3 := Tryz.zeroValue3
  t4 := Tryz.underlying4
  a4 := Tryz.isAgg4
  z4 := Tryz.sizeOf4
  v4 := Tryz.zeroValue4
  t22 := Tryz.underlying65
  a22 := Tryz.isAgg65
  z22 := Tryz.sizeOf65
  v22 := Tryz.zeroValue65
  a23 := Tryz.isAgg3
  z23 := Tryz.sizeOf3
  t25 := Tryz.underlying136
  a25 := Tryz.isAgg136
  z25 := Tryz.sizeOf136
  v25 := Tryz.zeroValue136 }
def Tryz.anyA_ren : Go.Shelf.Ren := ⟨fun | 8 => 116 | 6 => 150 | n => n, fun | 22 => 65 | 23 => 3 | 25 => 136 | 4 => 4 | 3 => 3 | 0 => 0 | n => n, fun | n => n⟩
theorem Tryz.anyA : Go.Proofs.SlLaysH.n8 Tryz.prog Tryz.anyA_ren := {
  mixed := by kernel_rfl
  f6 := ⟨Tryz.f150.name, by decide, Tryz.func150.trans (congrArg some (by kernel_rfl))⟩
  f8 := ⟨Tryz.f116.name, by decide, Tryz.func116.trans (congrArg some (by kernel_rfl))⟩
  t0 := Tryz.underlying0
  a0 := Tryz.isAgg0
  z0 := Tryz.sizeOf0
  v0 := Tryz.zeroValue0
  t3 := Tryz.underlying3
  a3 := Tryz.isAgg3
  z3 := Tryz.sizeOf3
  v3 := Tryz.zeroValue3
  t4 := Tryz.underlying4
  a4 := Tryz.isAgg4
  z4 := Tryz.sizeOf4
  v4 := Tryz.zeroValue4
  t22 := Tryz.underlying65
  a22 := Tryz.isAgg65
  z22 := Tryz.sizeOf65
  v22 := Tryz.zeroValue65
  a23 := Tryz.isAgg3
  z23 := Tryz.sizeOf3
  t25 := Tryz.underlying136
  a25 := Tryz.isAgg136
  z25 := Tryz.sizeOf136
  v25 := Tryz.zeroValue136 }
end Go.Proofs
