import Derived.Test.YtncgigapgklhcaaGreatDoorCards
import Derived.Test.YtncgigapgklhcaaGreatDoorTie
import Derived.WalkKit
import Derived.ProofKit
import Derived.OpenShut
import Derived.ShutString
import Derived.Deep.DeepHandedRow
import Derived.Lib.LaidTab
import Derived.Test.YtncgigapgklhcaaGreatDoorAdmLaid
import Derived.Test.YtncgigapgklhcaaGreatDoorLawAPl
import Derived.Lay

/- 'AdmPlays' (vizard/vizardlaw18.AdmPlays), the card: for every input that the row takes the Go function returns true, and each argument reads afterwards as it read before. -/
namespace Go.Proofs.YtncgigapgklhcaaGreatDoor.admPlays
open Go.Proofs.YtncgigapgklhcaaGreatDoor Go.ChangeShapes Go.WideShapes Go.ChangeAt Go.RowKit
open Go.ChangeMaps (open_string shut_string)
set_option linter.unusedVariables false

theorem own : ownKnob Tryz.prog.godebug = none := by kernel_rfl

set_option maxRecDepth 100000 in
theorem contract (H : Type) (enc : TypeId × Value → H) (W : World) (base : Nat) (args : Array Value) (ds gs : List (DataW H)) (before : List MemPlace)
 (hval : ∀ (j : Nat) t v, Tryz.f8.params[j]? = some t → args[j]? = some v → Value.okWide Tryz.prog W .any base t v)
 (hW : DataW.Whole enc Tryz.prog Tryz.f8.params.toList Rows.admPlaysSpec.vars false W args.toList ds gs before) (hL : laidMetH Tryz.prog Rows.admPlaysRow.laid W) :
 Calls Tryz.prog 8 args W fun e W' => ∃ v, e = .returned v ∧ Rows.admPlaysSpec.post enc Tryz.prog Tryz.f8 false true false false W args v W' := by
 have hW' := hW
 obtain ⟨p, q, hA0, hV, rfl, hfz, hnd⟩ := hW
 have hA : DataW.TrodAll enc Tryz.prog W 0 (fun _ => true) true Tryz.f8.params.toList args.toList ds p := hA0
 rw [Tryz.params8] at hA hval
 obtain ⟨v0, vs0, d0, ds0, p0, q0, hargs0, rfl, rfl, h0, r0⟩ := trodAll_cons hA
 obtain ⟨v1, vs1, d1, ds1, p1, q1, hargs1, rfl, rfl, h1, r1⟩ := trodAll_cons r0
 obtain ⟨rfl, rfl, rfl⟩ := trodAll_nil r1
 obtain rfl : args = #[v0, v1] := by cases args; simp_all
 obtain ⟨rfl, rfl⟩ := trodVars_none hV
 have k0 := h0
 have lt0 : ∀ x ∈ p0, x.block < W.heap.size := by obtain ⟨m, hm⟩ := k0; exact DataW.trod_lt m _ _ _ hm
 obtain ⟨cs0, rfl, hz0⟩ := okWide_struct Tryz.underlying23 (hval 0 23 v0 rfl rfl)
 obtain ⟨fuel0, hf0⟩ := h0
 obtain ⟨o0, hc0⟩ := open_sz (show DataW.trod enc Tryz.prog W 0 (fun _ => true) true fuel0 23 cs0.toList = some (d0, p0) from hf0)
 obtain rfl : cs0 = _ := Array.toList_inj.1 hc0
 obtain ⟨a1, rfl, rfl, rfl, w1⟩ := open_string Tryz.underlying9 (hval 1 9 v1 rfl rfl) h1
 clear hA0
 have hb := blank_laid hL
 refine (law_apl o0.row o0.col a1 W hb).mono fun e W' ⟨he, bel⟩ => ?_
 subst he
 exact ⟨_, rfl, _, _, _, [], _, [], hW', trodAll_mk1 (shut_bool Tryz.underlying4 _), (trodAll_cons_mk (Below.trod laidOut (by kernel_rfl) (of_decide_eq_true (by kernel_rfl)) k0 bel lt0) (trodAll_cons_mk (shut_string Tryz.underlying9 w1) trodAll_mk0)), rfl, bel.frame _, fun h => by cases h⟩

/-- A world for the witness: the listed variables laid. -/
noncomputable def laidWorld (os : Os) : World := World.laidAll Tryz.prog os Rows.admPlaysRow.laid
theorem laid_met (os : Os) : laidMet Tryz.prog Rows.admPlaysRow.laid ((laidWorld os).forCall (fun _ _ => 0) ⟨#[], #[.agg #[.int .i64 0, .int .i64 0], .string ByteArray.empty], []⟩).memory := laidMet_laidAll _ (by kernel_rfl) (by kernel_rfl)
theorem reads (os : Os) {H : Type} (enc : TypeId × Value → H) : ∃ places, DataW.whole enc Tryz.prog ((laidWorld os).forCall (fun _ _ => 0) ⟨#[], #[.agg #[.int .i64 0, .int .i64 0], .string ByteArray.empty], []⟩).memory Tryz.f8.params.toList Rows.admPlaysSpec.vars false (#[.agg #[.int .i64 0, .int .i64 0], .string ByteArray.empty] : Array Value).toList 8 = some ([.agg [.lit (.int .i64 0), .lit (.int .i64 0)], .lit (.string [])], [], places) :=
 ⟨[], by kernel_rfl⟩

set_option maxRecDepth 100000 in
theorem lifted (os : Os) (started : os.Started) (H : Type) (enc : TypeId × Value → H) (F : Stop.Interp) :
 ReturnsInHanded {} Tryz.checked os 8 .any ((OpenSpec.ofChange Rows.admPlaysSpec).preRow enc Tryz.prog Tryz.f8 Rows.admPlaysRow.domain false Rows.admPlaysRow.laid) (((OpenSpec.ofChange Rows.admPlaysSpec).at F).post enc Tryz.prog Tryz.f8 false true false false) := by
 obtain ⟨places, hx⟩ := reads os enc
 refine returnsInHanded_of_row (C := Tryz.checked) (s := OpenSpec.ofChange Rows.admPlaysSpec) own started (by kernel_rfl) Tryz.func8
  (witness_row_at (enc := enc) (C := Tryz.checked) false (laidWorld os) #[.agg #[.int .i64 0, .int .i64 0], .string ByteArray.empty] (World.laidAll_os _ _ _) (by kernel_rfl) (by kernel_rfl) (by kernel_rfl)
    (OpenSpec.preRow_of_cond 8 hx (by kernel_rfl) (fun k hk => by cases hk) (by kernel_rfl) (laid_met os))) ?_
 intro W base args ds gs before hval hW _ hcond _ hL _ _
 exact contract H enc W base args ds gs before hval hW hL

theorem and_mk {a b : Bool} (ha : a = true) (hb : b = true) : (a && b) = true := by rw [ha, hb]; rfl
theorem fnamed : Tryz.pinned.checked.prog.funcNamed Rows.admPlaysRow.func = some 8 := by kernel_rfl
theorem j0 : (let P := Tryz.pinned.checked.prog; let f := 8; let fn := Tryz.f8; let s := (OpenSpec.ofChange Rows.admPlaysSpec).bare; let c := Rows.admPlaysRow; c.wf (OpenSpec.ofChange s)) = true := by kernel_rfl
theorem j1 : (let P := Tryz.pinned.checked.prog; let f := 8; let fn := Tryz.f8; let s := (OpenSpec.ofChange Rows.admPlaysSpec).bare; let c := Rows.admPlaysRow; laidOutB P) = true := by kernel_rfl
theorem j2 : (let P := Tryz.pinned.checked.prog; let f := 8; let fn := Tryz.f8; let s := (OpenSpec.ofChange Rows.admPlaysSpec).bare; let c := Rows.admPlaysRow; mapsRowed P) = true := by kernel_rfl
theorem j3 : (let P := Tryz.pinned.checked.prog; let f := 8; let fn := Tryz.f8; let s := (OpenSpec.ofChange Rows.admPlaysSpec).bare; let c := Rows.admPlaysRow; fn.params.all (P.readableRec ·)) = true := by kernel_rfl
theorem j4 : (let P := Tryz.pinned.checked.prog; let f := 8; let fn := Tryz.f8; let s := (OpenSpec.ofChange Rows.admPlaysSpec).bare; let c := Rows.admPlaysRow; namedTie P c.named s.vars) = true := by kernel_rfl
theorem j5 : (let P := Tryz.pinned.checked.prog; let f := 8; let fn := Tryz.f8; let s := (OpenSpec.ofChange Rows.admPlaysSpec).bare; let c := Rows.admPlaysRow; (c.stops == [])) = true := by kernel_rfl
theorem j6 : (let P := Tryz.pinned.checked.prog; let f := 8; let fn := Tryz.f8; let s := (OpenSpec.ofChange Rows.admPlaysSpec).bare; let c := Rows.admPlaysRow; (P.stops == [])) = true := by kernel_rfl
theorem j7 : (let P := Tryz.pinned.checked.prog; let f := 8; let fn := Tryz.f8; let s := (OpenSpec.ofChange Rows.admPlaysSpec).bare; let c := Rows.admPlaysRow; (c.knobs == [])) = true := by kernel_rfl
theorem j8 : (let P := Tryz.pinned.checked.prog; let f := 8; let fn := Tryz.f8; let s := (OpenSpec.ofChange Rows.admPlaysSpec).bare; let c := Rows.admPlaysRow; (P.stopKnobs == [])) = true := by kernel_rfl
theorem j9 : (let P := Tryz.pinned.checked.prog; let f := 8; let fn := Tryz.f8; let s := (OpenSpec.ofChange Rows.admPlaysSpec).bare; let c := Rows.admPlaysRow; (c.inPlace == P.inPlace f)) = true := by kernel_rfl
theorem j10 : (let P := Tryz.pinned.checked.prog; let f := 8; let fn := Tryz.f8; let s := (OpenSpec.ofChange Rows.admPlaysSpec).bare; let c := Rows.admPlaysRow; (c.unfollowed == P.unfollowed f)) = true := by kernel_rfl
theorem j11 : (let P := Tryz.pinned.checked.prog; let f := 8; let fn := Tryz.f8; let s := (OpenSpec.ofChange Rows.admPlaysSpec).bare; let c := Rows.admPlaysRow; (c.recurses == P.recurses f)) = true := by kernel_rfl
theorem j12 : (let P := Tryz.pinned.checked.prog; let f := 8; let fn := Tryz.f8; let s := (OpenSpec.ofChange Rows.admPlaysSpec).bare; let c := Rows.admPlaysRow; (c.named == P.varsNamed f)) = true := by kernel_rfl
theorem j13 : (let P := Tryz.pinned.checked.prog; let f := 8; let fn := Tryz.f8; let s := (OpenSpec.ofChange Rows.admPlaysSpec).bare; let c := Rows.admPlaysRow; (c.maps == (fn.params.toList ++ s.plain.varTypes P).any (P.mapsRec ·))) = true := by kernel_rfl
theorem j14 : (let P := Tryz.pinned.checked.prog; let f := 8; let fn := Tryz.f8; let s := (OpenSpec.ofChange Rows.admPlaysSpec).bare; let c := Rows.admPlaysRow; (c.ifaces == (fn.params.toList ++ s.plain.varTypes P).any (P.ifacesRec ·))) = true := by kernel_rfl
theorem j15 : (let P := Tryz.pinned.checked.prog; let f := 8; let fn := Tryz.f8; let s := (OpenSpec.ofChange Rows.admPlaysSpec).bare; let c := Rows.admPlaysRow; (c.mapsOut == P.mapsAmong fn.resultTypes.toList)) = true := by kernel_rfl
theorem j16 : (let P := Tryz.pinned.checked.prog; let f := 8; let fn := Tryz.f8; let s := (OpenSpec.ofChange Rows.admPlaysSpec).bare; let c := Rows.admPlaysRow; (c.loops == (fn.params.toList ++ s.plain.varTypes P).any (P.loopsFrom ·))) = true := by kernel_rfl
theorem j17 : (let P := Tryz.pinned.checked.prog; let f := 8; let fn := Tryz.f8; let s := (OpenSpec.ofChange Rows.admPlaysSpec).bare; let c := Rows.admPlaysRow; (c.wideKeys == (fn.params.toList ++ s.plain.varTypes P ++ fn.resultTypes.toList).any (P.wideKeysFrom ·))) = true := by kernel_rfl
theorem j18 : (let P := Tryz.pinned.checked.prog; let f := 8; let fn := Tryz.f8; let s := (OpenSpec.ofChange Rows.admPlaysSpec).bare; let c := Rows.admPlaysRow; s.vars.all (P.varReadable ·)) = true := by kernel_rfl
theorem j19 : (let P := Tryz.pinned.checked.prog; let f := 8; let fn := Tryz.f8; let s := (OpenSpec.ofChange Rows.admPlaysSpec).bare; let c := Rows.admPlaysRow; fn.resultTypes.all (fun t => P.readableRec t && decide (t < P.types.size))) = true := by kernel_rfl
theorem j20 : (let P := Tryz.pinned.checked.prog; let f := 8; let fn := Tryz.f8; let s := (OpenSpec.ofChange Rows.admPlaysSpec).bare; let c := Rows.admPlaysRow; (c.ifacesOut == fn.resultTypes.toList.any (P.ifacesRec ·))) = true := by kernel_rfl
theorem j21 : (let P := Tryz.pinned.checked.prog; let f := 8; let fn := Tryz.f8; let s := (OpenSpec.ofChange Rows.admPlaysSpec).bare; let c := Rows.admPlaysRow; (c.loopsOut == fn.resultTypes.toList.any (P.loopsFrom ·))) = true := by kernel_rfl
theorem j22 : (let P := Tryz.pinned.checked.prog; let f := 8; let fn := Tryz.f8; let s := (OpenSpec.ofChange Rows.admPlaysSpec).bare; let c := Rows.admPlaysRow; (c.plainKeys == P.plainKeys)) = true := by kernel_rfl
theorem j23 : (let P := Tryz.pinned.checked.prog; let f := 8; let fn := Tryz.f8; let s := (OpenSpec.ofChange Rows.admPlaysSpec).bare; let c := Rows.admPlaysRow; c.shortTexts.isNone) = true := by kernel_rfl
theorem j24 : (let P := Tryz.pinned.checked.prog; let f := 8; let fn := Tryz.f8; let s := (OpenSpec.ofChange Rows.admPlaysSpec).bare; let c := Rows.admPlaysRow; P.stopsHeard) = true := by kernel_rfl
theorem j25 : (let P := Tryz.pinned.checked.prog; let f := 8; let fn := Tryz.f8; let s := (OpenSpec.ofChange Rows.admPlaysSpec).bare; let c := Rows.admPlaysRow; P.mayEnter) = true := by kernel_rfl
theorem j26 : (let P := Tryz.pinned.checked.prog; let f := 8; let fn := Tryz.f8; let s := (OpenSpec.ofChange Rows.admPlaysSpec).bare; let c := Rows.admPlaysRow; (c.lifted == P.liftsFinal)) = true := by kernel_rfl
theorem j27 : (let P := Tryz.pinned.checked.prog; let f := 8; let fn := Tryz.f8; let s := (OpenSpec.ofChange Rows.admPlaysSpec).bare; let c := Rows.admPlaysRow; (P.make == some c.make)) = true := by kernel_rfl
theorem j28 : (let P := Tryz.pinned.checked.prog; let f := 8; let fn := Tryz.f8; let s := (OpenSpec.ofChange Rows.admPlaysSpec).bare; let c := Rows.admPlaysRow; (c.kinds == (if c.domain.isEmpty then [] else fn.params.toList.map fun t => match P.underlying t with | some (.int k) => some k | _ => none))) = true := by kernel_rfl
theorem j29 : (let P := Tryz.pinned.checked.prog; let f := 8; let fn := Tryz.f8; let s := (OpenSpec.ofChange Rows.admPlaysSpec).bare; let c := Rows.admPlaysRow; (c.pinned == c.pinnedBy)) = true := by kernel_rfl
theorem j30 : (let P := Tryz.pinned.checked.prog; let f := 8; let fn := Tryz.f8; let s := (OpenSpec.ofChange Rows.admPlaysSpec).bare; let c := Rows.admPlaysRow; (c.veiled == (fn.params.toList ++ s.plain.varTypes P ++ fn.resultTypes.toList).any (P.veiledRec ·))) = true := by kernel_rfl
theorem j31 : (let P := Tryz.pinned.checked.prog; let f := 8; let fn := Tryz.f8; let s := (OpenSpec.ofChange Rows.admPlaysSpec).bare; let c := Rows.admPlaysRow; c.veiledFits P fn.params.toList (fn.params.toList ++ s.plain.varTypes P ++ fn.resultTypes.toList)) = true := by kernel_rfl
set_option maxRecDepth 100000 in
theorem closed : joinedFacts Tryz.pinned.checked.prog 8 Tryz.f8 (OpenSpec.ofChange Rows.admPlaysSpec).bare Rows.admPlaysRow = true := by
 have h := (and_mk (and_mk (and_mk (and_mk (and_mk (and_mk (and_mk (and_mk (and_mk (and_mk (and_mk (and_mk (and_mk (and_mk (and_mk (and_mk (and_mk (and_mk (and_mk (and_mk (and_mk (and_mk (and_mk (and_mk (and_mk (and_mk (and_mk (and_mk (and_mk (and_mk (and_mk j0 j1) j2) j3) j4) j5) j6) j7) j8) j9) j10) j11) j12) j13) j14) j15) j16) j17) j18) j19) j20) j21) j22) j23) j24) j25) j26) j27) j28) j29) j30) j31)
 unfold joinedFacts
 exact h
theorem inst : Tryz.f8.isInstance Tryz.pinned.checked.prog Rows.admPlaysRow.origin Rows.admPlaysRow.targs := of_decide_eq_true (by kernel_rfl)
theorem wrap : Tryz.f8.isWrapper Tryz.pinned.checked.prog Rows.admPlaysRow.wrapper Rows.admPlaysRow.mainSum := by
 unfold Func.isWrapper; first | (rw [if_pos (by decide +kernel)]; kernel_rfl) | (rw [if_neg (by decide +kernel)]; exact ⟨rfl, rfl⟩)
theorem said : Rows.AdmPlaysSaid :=
 OpenClaim.holds_of_cond 8 Tryz.f8 rfl rfl rfl rfl rfl rfl rfl ⟨rfl, rfl, rfl, rfl, rfl⟩ rfl rfl rfl rfl rfl fnamed Tryz.func8 closed inst wrap
  (fun os started H enc _ F => by rw [OpenClaim.pre_eq_preRow]; exact lifted os started H enc F)

theorem want9 : Tryz.prog.wantsStandIn 9 = false := by kernel_rfl
theorem want23 : Tryz.prog.wantsStandIn 23 = false := by kernel_rfl
theorem plain (f : FuncId) (fn : Func) (hf : Tryz.pinned.checked.prog.funcNamed "vizard/vizardlaw18.AdmPlays" = some f) (hfn : Tryz.pinned.checked.prog.funcs[f]? = some fn) :
 true = Tryz.pinned.checked.prog.looks [] ∧ ∀ (j : Nat) t, fn.params[j]? = some t → Tryz.pinned.checked.prog.wantsStandIn t = false := by
 obtain rfl : f = 8 := Option.some.inj ((show Tryz.prog.funcNamed "vizard/vizardlaw18.AdmPlays" = some 8 by kernel_rfl).symm.trans hf) |>.symm
 obtain rfl : fn = Tryz.f8 := (Option.some.inj (Tryz.func8.symm.trans hfn)).symm
 refine ⟨by kernel_rfl, fun j t ht => ?_⟩
 rw [Tryz.params8] at ht
 have : t = 9 ∨ t = 23 := by
  have h := Array.mem_of_getElem? ht
  simp at h
  first | exact h | (rcases h with rfl | rfl | rfl <;> simp)
 rcases this with rfl | rfl
 · exact want9
 · exact want23

/-- The card. -/
theorem card : Rows.AdmPlaysCardSaid :=
 Claim7.holds_tied_plain_at .later [] _ _ _ _ said (fun _ h => by cases h) (by kernel_rfl) (fun _ h => by cases h) admPlays_row_tie rfl ⟨rfl, rfl⟩ (by kernel_rfl) rfl plain (by kernel_rfl)
#print axioms card
end Go.Proofs.YtncgigapgklhcaaGreatDoor.admPlays
