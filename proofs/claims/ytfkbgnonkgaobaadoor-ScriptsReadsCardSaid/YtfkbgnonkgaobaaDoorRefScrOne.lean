/- Walks: One of vizardref23. -/
import Derived.Test.YtfkbgnonkgaobaaDoorRefScrWords
import Derived.Test.YtfkbgnonkgaobaaDoorScrText
import Derived.Test.YtfkbgnonkgaobaaDoorParTold
import Derived.Deep.CutBlock
import Derived.Deep.RegionHeld
namespace Go.Proofs.YtfkbgnonkgaobaaDoor
open Go.RowKit
set_option linter.unusedSimpArgs false
set_option linter.unusedVariables false

theorem rdAt_some {ws : List (List UInt8)} {i : Nat} {x : List UInt8} (h : ws[i]? = some x) : Vz.rdAt ws i = Vz.rdNum x := by unfold Vz.rdAt; rw [h]
theorem rdAt_none {ws : List (List UInt8)} {i : Nat} (h : ws.length ≤ i) : Vz.rdAt ws i = -1 := by unfold Vz.rdAt; rw [List.getElem?_eq_none h]

theorem nine_other {W : World} {g g' : Nat} {o : Obj} (h : W.heap[g]? = some o) (hne : g ≠ g') (v0 v1 v2 v3 v4 v5 v6 v7 v8 : Value) :
    (((((((((W.setCell ⟨g', 0, none⟩ v0).setCell ⟨g', 1, none⟩ v1).setCell ⟨g', 2, none⟩ v2).setCell ⟨g', 3, none⟩ v3).setCell ⟨g', 4, none⟩ v4).setCell ⟨g', 5, none⟩ v5).setCell ⟨g', 6, none⟩ v6).setCell ⟨g', 7, none⟩ v7).setCell ⟨g', 8, none⟩ v8).heap[g]? = some o :=
  (heap_set_other 8 _ hne).trans ((heap_set_other 7 _ hne).trans ((heap_set_other 6 _ hne).trans ((heap_set_other 5 _ hne).trans ((heap_set_other 4 _ hne).trans ((heap_set_other 3 _ hne).trans ((heap_set_other 2 _ hne).trans ((heap_set_other 1 _ hne).trans ((heap_set_other 0 _ hne).trans h))))))))
set_option maxHeartbeats 1000000 in
theorem res_one (tmps : Array Value) (W : World) (g : Nat) (a0 a1 a2 a3 a4 a5 a6 a7 a8 : Value) (b : Bool) (ht : tmps[2]?.getD undef = .pointer (some ⟨g, 0, none⟩)) (hb : tmps[3]?.getD undef = .bool b) (h : W.heap[g]? = some (.cells #[a0, a1, a2, a3, a4, a5, a6, a7, a8] 31 (0, 0))) :
    Sem.run Tryd.prog (results Tryd.f28 tmps) W = .ok (.tuple #[.agg #[a0, a1, a2, a3, a4, a5, a6, a7, a8], .bool b]) W := by
  obtain ⟨z0, z1, z2, z3, z4, z5, z6, z7, z8⟩ := nine_cells h
  unfold results
  rw [Tryd.results28]
  simp [ht, hb, go_sem, z0, z1, z2, z3, z4, z5, z6, z7, z8]
def anyT (ws : List (List UInt8)) (k : Nat) (wd : List UInt8) : Bool := ((ws.drop 3).take (k - 3)).any (· == wd)
theorem anyT_step (ws : List (List UInt8)) (k : Nat) (wd : List UInt8) (h : 3 ≤ k) (hk : k < ws.length) : anyT ws (k + 1) wd = (anyT ws k wd || (ws[k]?.getD [] == wd)) := by
  unfold anyT
  rw [show k + 1 - 3 = (k - 3) + 1 by omega, List.take_add_one, List.any_append, List.getElem?_drop, show 3 + (k - 3) = k by omega, List.getElem?_eq_getElem hk]
  simp
theorem anyT_all (ws : List (List UInt8)) (k : Nat) (wd : List UInt8) (h : 3 ≤ k) (hk : ws.length ≤ k) : anyT ws k wd = (ws.drop 3).any (· == wd) := by
  unfold anyT
  rw [List.take_of_length_le (by rw [List.length_drop]; omega)]
theorem wrap_u8 (b : UInt8) : IntKind.u8.wrap (b.toNat : Int) = (b.toNat : Int) := by
  have : ∀ n : Fin 256, IntKind.u8.wrap (n.val : Int) = (n.val : Int) := by decide +kernel
  exact this ⟨b.toNat, b.toNat_lt⟩
theorem rdTold_eq (ws : List (List UInt8)) (w0 : List UInt8) (d : Int) (h : ws[0]?.getD [] = w0) (hd : Vz.doOf w0 = d) : Vz.rdTold ws =
    if d = 1 then { Vz.Stp.nil with d := 1, text := match ws[1]? with | some w => Vz.unhexP w | none => [] }
    else if d = 2 then { Vz.Stp.nil with d := 2, kind := Vz.rdAt ws 1, code := Vz.rdAt ws 2, shift := (ws.drop 3).any (· == Vz.shiftW), ctrl := (ws.drop 3).any (· == Vz.ctrlW) }
    else if d = 5 then { Vz.Stp.nil with d := 5, rows := Vz.rdAt ws 1, cols := Vz.rdAt ws 2 }
    else if d = 6 then ⟨6, [], 0, 0, false, false, 0, 0, Vz.rdAt ws 1⟩
    else { Vz.Stp.nil with d := d } := by
  unfold Vz.rdTold
  rw [h, hd]
  rfl
theorem wds_cell {B n g : Nat} {W : World} {ws : List (List UInt8)} (h : Wds B W (some ⟨g, 0, none⟩) n ws) {i : Nat} (hi : i < n) : W.cell? ⟨g, i, none⟩ = some (.string ⟨(ws[i]?.getD []).toArray⟩) ∧ g < B := by
  obtain ⟨b, o, he, hb, hc⟩ := h.2 (by omega)
  obtain ⟨rfl, rfl⟩ : g = b ∧ 0 = o := by injection he with he; injection he with h1 h2; exact ⟨h1, h2⟩
  have := hc i hi
  rw [Nat.zero_add] at this
  exact ⟨this, hb⟩

set_option maxRecDepth 100000 in
set_option maxHeartbeats 20000000 in
theorem one_any (s : ByteArray) (hs : s.size ≤ 1000) (w : World) : Calls Tryd.prog 28 #[.string s] w fun e W' => e = .returned (.tuple #[stpV (Vz.rdTold (Vz.splitS s.data.toList)), .bool (Vz.rdOne s.data.toList)]) ∧ Below w.heap.size w W' := by
  have HWS := Lib.hid (rdwords_any s hs)
  have hwl : ∀ x ∈ Vz.splitS s.data.toList, x.length ≤ 1000 := fun x hx => by have := Vz.splitS_sum _ x hx; have e : s.data.toList.length = s.size := rfl; omega
  have hn0 := Vz.splitS_ne s.data.toList
  have hsl := Vz.splitS_len s.data.toList
  have hsz : s.data.toList.length = s.size := rfl
  have hb0 : Below w.heap.size w (w.alloc (.cells #[.int .i64 0, .string ⟨#[]⟩, .int .i64 0, .int .i64 0, .bool false, .bool false, .int .i64 0, .int .i64 0, .int .i64 0] 31)) := (Below.refl _ _).alloc (Nat.le_refl _) _
  have hr0 := box_new w (.cells #[.int .i64 0, .string ⟨#[]⟩, .int .i64 0, .int .i64 0, .bool false, .bool false, .int .i64 0, .int .i64 0, .int .i64 0] 31)
  have HB0 := Lib.hid hb0
  have HR0 := Lib.hid hr0
  generalize hws : Vz.splitS s.data.toList = ws at HWS hwl hn0 hsl ⊢
  have hw1 : 1 ≤ ws.length := by cases ws with
    | nil => exact absurd rfl hn0
    | cons a r => simp
  have HWL := Lib.hid hwl
  have HWSP := Lib.hid hws
  have HSZ := Lib.hid hsz
  clear hwl hws hb0 hr0 hn0 hsz
  go_enter Tryd.func28, Tryd.ntmps28
  go_upto_if 15 with (go_at_call 41; refine (HWS.out _).mono ?_; rintro e w2 ⟨g, n, cap, rfl, hn, hW, hb2⟩; have HN := Lib.hid hn; clear hn)
  have hB2 := below_join HB0.out hb2
  have hr2 := (hb2.block w.heap.size (by simp)).trans HR0.out
  have HR2 := Lib.hid hr2
  have hn1 : 1 ≤ n := by have := HN.out; omega
  have hn10 : n ≤ 1001 := by have := HN.out; have := HSZ.out; omega
  have hgB := (wds_cell hW (i := 0) (by omega)).2
  have hx0 := box_new w2 (.cells #[.int .i64 0, .string ⟨#[]⟩, .int .i64 0, .int .i64 0, .bool false, .bool false, .int .i64 0, .int .i64 0, .int .i64 0] 31)
  have hbX : Below w2.heap.size w2 (w2.alloc (.cells #[.int .i64 0, .string ⟨#[]⟩, .int .i64 0, .int .i64 0, .bool false, .bool false, .int .i64 0, .int .i64 0, .int .i64 0] 31)) := (Below.refl _ _).alloc (Nat.le_refl _) _
  have HX0 := Lib.hid hx0
  have HBX := Lib.hid hbX
  have HWX : Hid (Wds w2.heap.size (w2.alloc (.cells #[.int .i64 0, .string ⟨#[]⟩, .int .i64 0, .int .i64 0, .bool false, .bool false, .int .i64 0, .int .i64 0, .int .i64 0] 31)) (some ⟨g, 0, none⟩) n ws) := hW.below hbX (Nat.le_refl _)
  have HNUM := Lib.hid (fun (i : Nat) (hi : i < n) W' => rdnum_any ⟨(ws[i]?.getD []).toArray⟩ (by
    have := HWL.out (ws[i]?.getD []) (by rw [List.getElem?_eq_getElem (by have := HN.out; omega)]; exact List.getElem_mem _)
    show (ws[i]?.getD []).toArray.size ≤ 100000
    simp
    omega) W')
  have HAT : Hid (∀ i, i < n → Vz.rdNum (ws[i]?.getD []) = Vz.rdAt ws i) := fun i hi => by
    have h : i < ws.length := by have := HN.out; omega
    rw [rdAt_some (List.getElem?_eq_getElem h), List.getElem?_eq_getElem h]
    rfl
  have HAN : Hid (∀ i, n ≤ i → Vz.rdAt ws i = -1) := fun i hi => rdAt_none (by have := HN.out; omega)
  clear hW hb2 hr2 hx0 hbX hsl hw1 HWS HB0 HR0
  generalize hWX : w2.alloc (.cells #[.int .i64 0, .string ⟨#[]⟩, .int .i64 0, .int .i64 0, .bool false, .bool false, .int .i64 0, .int .i64 0, .int .i64 0] 31) = wx at HX0 HBX HWX ⊢
  have HWXE := Lib.hid hWX
  clear hWX
  go_cut [6] from 13 to 19 (fun s6 wy => s6 = .int .i64 (Vz.rdAt ws 1) ∧ wy = wx)
  case first =>
    by_cases h1 : 1 < n
    · have h1' : (1 : Int) < (n : Int) := by omega
      have c1 := (wds_cell HWX.out (i := 1) h1).1
      have HC1 := Lib.hid (HNUM.out 1 h1)
      have HA1 := Lib.hid (HAT.out 1 h1)
      generalize ws[1]?.getD [] = x1 at c1 HC1 HA1
      go_wp2_with (go_at_call 42; refine (HC1.out _).mono ?_; rintro e w' ⟨rfl, hw⟩; obtain rfl := hw.symm; clear hw)
      go_meet
      exact ⟨by rw [← HA1.out], rfl⟩
    · have h1' : ¬ (1 : Int) < (n : Int) := by omega
      have HA1 := Lib.hid (HAN.out 1 (by omega))
      go_wp2_with fail
      go_meet
      exact ⟨by rw [HA1.out], rfl⟩
  case rest =>
  obtain ⟨rfl, rfl⟩ := hcut
  go_upto_if 22 with fail
  go_cut [7] from 20 to 26 (fun s7 wy => s7 = .int .i64 (Vz.rdAt ws 2) ∧ wy = wc)
  case first =>
    by_cases h1 : 2 < n
    · have h1' : (2 : Int) < (n : Int) := by omega
      have c1 := (wds_cell HWX.out (i := 2) h1).1
      have HC1 := Lib.hid (HNUM.out 2 h1)
      have HA1 := Lib.hid (HAT.out 2 h1)
      generalize ws[2]?.getD [] = x1 at c1 HC1 HA1
      go_wp2_with (go_at_call 42; refine (HC1.out _).mono ?_; rintro e w' ⟨rfl, hw⟩; obtain rfl := hw.symm; clear hw)
      go_meet
      exact ⟨by rw [← HA1.out], rfl⟩
    · have h1' : ¬ (2 : Int) < (n : Int) := by omega
      have HA1 := Lib.hid (HAN.out 2 (by omega))
      go_wp2_with fail
      go_meet
      exact ⟨by rw [HA1.out], rfl⟩
  case rest =>
  obtain ⟨rfl, rfl⟩ := hcut
  have c0 := (wds_cell HWX.out (i := 0) (by omega)).1
  generalize hw0 : ws[0]?.getD [] = w0 at c0
  have HW0 := Lib.hid hw0
  clear hw0
  go_upto_block 0 with fail
  generalize hX : Vz.rdTold ws = X
  have HX := Lib.hid hX
  clear hX
  go_cut [] from 27 to 121 (fun wy => wy.heap[w2.heap.size]? = some (.cells #[.int .i64 X.d, .string ⟨X.text.toArray⟩, .int .i64 X.kind, .int .i64 X.code, .bool X.shift, .bool X.ctrl, .int .i64 X.rows, .int .i64 X.cols, .int .i64 X.to] 31 (0, 0)) ∧ Below w2.heap.size w2 wy)
  case first =>
    obtain ⟨z0, z1, z2, z3, z4, z5, z6, z7, z8⟩ := nine_cells HX0.out
    have f0 := frozen_row HX0.out 0
    by_cases h1 : w0 = [102, 101, 101, 100]
    · have HXE := Lib.hid (rdTold_eq ws w0 1 HW0.out (by rw [h1]; decide))
      subst h1
      by_cases h1n : 1 < n
      · have h1' : (1 : Int) < (n : Int) := by omega
        have c1 := (wds_cell HWX.out (i := 1) h1n).1
        have hws1 : ws[1]? = some (ws[1]?.getD []) := by
          have h : 1 < ws.length := by have := HN.out; omega
          rw [List.getElem?_eq_getElem h]
          rfl
        have ht1 := HWL.out _ (List.mem_of_getElem? hws1)
        generalize ws[1]?.getD [] = x1 at c1 hws1 ht1
        rw [hws1] at HXE
        obtain ⟨T1, hT1⟩ : ∃ T1 : ByteArray, (⟨x1.toArray⟩ : ByteArray) = T1 := ⟨_, rfl⟩
        have hTx : T1.data.toList = x1 := by rw [← hT1]
        have hTs : T1.size ≤ 1000 := by rw [← hT1]; show x1.toArray.size ≤ 1000; simpa using ht1
        rw [hT1] at c1
        have HTX := Lib.hid hTx
        have c1w := (HBX.out.cell (p := ⟨g, 1, none⟩) hgB).symm.trans c1
        have hlenT : T1.data.toList.length = T1.size := rfl
        have HLT := Lib.hid hlenT
        have HRV := Lib.hid rdval_any
        clear hws1 ht1 hT1 hTx hlenT
        go_wp2_with fail
        go_loopw [8] (fun i wr => ∃ i1 j : Nat, i1 ≤ T1.size ∧ i = .int .i64 i1 ∧ i1 = 2 * j ∧ wr.heap[w2.heap.size]? = some (.cells #[.int .i64 1, .string ⟨(Vz.unhexP (T1.data.toList.take i1)).toArray⟩, .int .i64 0, .int .i64 0, .bool false, .bool false, .int .i64 0, .int .i64 0, .int .i64 0] 31 (0, 0)) ∧ Below w2.heap.size w2 wr) (fun i _ => T1.size - (intOf i).toNat)
        case atStart => exact ⟨0, 0, Nat.zero_le _, rfl, rfl, heap_set_same HX0.out 0 _, HBX.out.setCell (p := ⟨w2.heap.size, 0, none⟩) (Nat.le_refl _) _⟩
        case round =>
          obtain ⟨i1, j, hj, rfl, hij, hx, hB⟩ := hrel
          have HIJ := Lib.hid hij
          have HXX := Lib.hid hx
          have c1r := (hB.cell (p := ⟨g, 1, none⟩) hgB).trans c1w
          clear hij c1 c1w z0 z1 z2 z3 z4 z5 z6 z7 z8 f0
          by_cases hlt : i1 + 1 < T1.size
          · have ht := take_two T1 i1 hlt
            obtain ⟨x, hxx⟩ : ∃ x, T1[i1]'(Nat.lt_of_succ_lt hlt) = x := ⟨_, rfl⟩
            obtain ⟨y, hy⟩ : ∃ y, T1[i1 + 1]'hlt = y := ⟨_, rfl⟩
            rw [hxx, hy] at ht
            have HT := Lib.hid ht
            have hlt1 : i1 < T1.size := by omega
            have hlt2 : (0 : Int) ≤ (i1 : Int) + 1 ∧ (i1 : Int) + 1 < (T1.size : Int) := ⟨by omega, by omega⟩
            have hz1 := (nine_cells hx).2.1
            have hf1 := frozen_row hx 1
            have hys : (⟨(Vz.unhexP (T1.data.toList.take i1)).toArray⟩ : ByteArray).size ≤ 1000 := by
              have := Vz.unhexP_le (T1.data.toList.take i1)
              rw [List.length_take] at this
              show (Vz.unhexP (T1.data.toList.take i1)).toArray.size ≤ 1000
              simp
              omega
            generalize hY : (⟨(Vz.unhexP (T1.data.toList.take i1)).toArray⟩ : ByteArray) = Y at hz1 hys
            have HY := Lib.hid hY
            have hcb : decide ((i1 : Int) + 1 < (T1.size : Int)) = true := decide_eq_true (by omega)
            have hwi : IntKind.i64.wrap ((i1 : Int) + 1) = ((i1 + 1 : Nat) : Int) := by rw [IntKind.wrap_i64]; omega
            obtain ⟨Bt, hBt⟩ : ∃ Bt, UInt8.ofNat (16 * Vz.hexV x + Vz.hexV y) = Bt := ⟨_, rfl⟩
            have hva := Vz.hexV_lt x
            have hvb := Vz.hexV_lt y
            have hBn : ((Bt.toNat : Nat) : Int) = 16 * (Vz.hexV x : Int) + (Vz.hexV y : Int) := by rw [← hBt]; simp; omega
            rw [← Vz.rdVal_hexV, ← Vz.rdVal_hexV] at hBn
            rw [← Vz.rdVal_hexV] at hva hvb
            generalize hra : Vz.rdVal x = ra at hBn hva
            generalize hrb : Vz.rdVal y = rb at hBn hvb
            have hm1 : IntKind.i64.wrap (16 * (ra : Int)) = 16 * (ra : Int) := wrap_small (by omega) (by omega)
            have hm2 : wrap64 (16 * (ra : Int)) = 16 * (ra : Int) := by unfold wrap64; omega
            have hm3 : IntKind.i64.wrap (16 * (ra : Int) + (rb : Int)) = (Bt.toNat : Int) := by rw [hBn]; exact wrap_small (by omega) (by omega)
            have hm4 : wrap64 (16 * (ra : Int) + (rb : Int)) = (Bt.toNat : Int) := by unfold wrap64; omega
            have hm5 : IntKind.u8.wrap (Bt.toNat : Int) = (Bt.toNat : Int) := wrap_u8 Bt
            have HBT := Lib.hid hBt
            have hgn : ¬ w2.heap.size = g := by omega
            clear hBt hBn
            have hB8 : (wr.alloc (.cells #[.int .u8 (Bt.toNat : Int)] 5)).drew.ownsRow wr.heap.size 5 1 (.slice (some ⟨wr.heap.size, 0, none⟩) 1 1) 1 (bytesV [Bt]) :=
              ⟨rfl, .inr ⟨_, 1, _, rfl, Nat.le_refl _, box_new _ _, Nat.le_refl _, by decide, rfl, rfl⟩⟩
            have hcv := conv_own (l := [Bt]) hB8
            have hza : ∀ o, (wr.alloc o).cell? ⟨w2.heap.size, 1, none⟩ = some (.string Y) := fun o => cell_alloc_all hz1 o
            have hfa : ∀ o, (wr.alloc o).frozen? ⟨w2.heap.size, 1, none⟩ = false := fun o => frozen_row ((Below.heap_alloc wr o _ (Array.getElem?_eq_some_iff.1 hx).1).trans hx) 1
            have hY1 : ¬ 9223372036854775807 < Y.size + 1 := by omega
            have HYY : Hid (Y ++ ⟨[Bt].toArray⟩ = ⟨(Vz.unhexP (T1.data.toList.take i1) ++ [Bt]).toArray⟩) := by
              show _ = _
              rw [← HY.out]
              apply ByteArray.ext
              rw [ByteArray.data_append]
              simp
            have hl3 : (T1.data.toList.take i1).length = 2 * j := by rw [List.length_take]; have := HIJ.out; have := HLT.out; omega
            have HFIN : Hid (((wr.alloc (.cells #[.int .u8 (Bt.toNat : Int)] 5)).setCell ⟨w2.heap.size, 1, none⟩ (.string (Y ++ ⟨#[Bt]⟩))).drew.heap[w2.heap.size]? = some (.cells #[.int .i64 1, .string ⟨(Vz.unhexP (T1.data.toList.take (i1 + 2))).toArray⟩, .int .i64 0, .int .i64 0, .bool false, .bool false, .int .i64 0, .int .i64 0, .int .i64 0] 31 (0, 0))) := by
              show _ = _
              rw [HT.out, unhexP_two j _ x y hl3, HBT.out, ← HYY.out]
              exact heap_set_same ((Below.heap_alloc wr _ _ (Array.getElem?_eq_some_iff.1 hx).1).trans hx) 1 _
            have HBEL : Hid (Below w2.heap.size w2 ((wr.alloc (.cells #[.int .u8 (Bt.toNat : Int)] 5)).setCell ⟨w2.heap.size, 1, none⟩ (.string (Y ++ ⟨#[Bt]⟩))).drew) := ((hB.alloc hB.size _).setCell (p := ⟨w2.heap.size, 1, none⟩) (Nat.le_refl _) _).drew
            clear ht hx hY hB8 hva hvb hl3
            go_upto_region 16 with fail
            refine wp_region_noPanic ?_
            refine wp_region_held_drew (S := fun W : World => W.cell? ⟨g, 1, none⟩ = some (.string T1)) (by kernel_rfl) (c1r) (fun hHeld => ?_)
            refine wpAnyH_take (i := 0) (v := ?_) rfl (by kernel_rfl) (by kernel_rfl) (by kernel_rfl) (fun _ _ _ h => h) (Or.inl ⟨by rfl, ?hy1⟩) hHeld ?_
            case hy1 => (intro w hSw; (try dsimp only at hSw); go_simp; try with_reducible rfl)
            try simp only [Act.put, List.getElem_toArray, List.getElem_cons_zero, List.getElem_cons_succ, List.setIfInBounds_toArray, List.set_cons_zero, List.set_cons_succ]
            refine wpAnyH_take (i := 2) (v := ?_) rfl (by kernel_rfl) (by kernel_rfl) (by kernel_rfl) (fun _ _ _ h => h) (Or.inl ⟨by rfl, ?hy2⟩) hHeld ?_
            case hy2 => (intro w hSw; (try dsimp only at hSw); go_simp; try with_reducible rfl)
            try simp only [Act.put, List.getElem_toArray, List.getElem_cons_zero, List.getElem_cons_succ, List.setIfInBounds_toArray, List.set_cons_zero, List.set_cons_succ]
            refine wpAnyH_take (i := 3) (v := ?_) rfl (by kernel_rfl) (by kernel_rfl) (by kernel_rfl) (fun _ _ _ h => h) (Or.inl ⟨by rfl, ?hy3⟩) hHeld ?_
            case hy3 => (intro w hSw; (try dsimp only at hSw); go_simp; try with_reducible rfl)
            try simp only [Act.put, List.getElem_toArray, List.getElem_cons_zero, List.getElem_cons_succ, List.setIfInBounds_toArray, List.set_cons_zero, List.set_cons_succ]
            refine wpAnyH_take (i := 4) (v := ?_) rfl (by kernel_rfl) (by kernel_rfl) (by kernel_rfl) (fun _ _ _ h => h) (Or.inl ⟨by rfl, ?hy4⟩) hHeld ?_
            case hy4 => (intro w hSw; (try dsimp only at hSw); go_simp; try with_reducible rfl)
            try simp only [Act.put, List.getElem_toArray, List.getElem_cons_zero, List.getElem_cons_succ, List.setIfInBounds_toArray, List.set_cons_zero, List.set_cons_succ]
            refine wpAnyH_take (i := 5) (v := ?_) rfl (by kernel_rfl) (by kernel_rfl) (by kernel_rfl) (fun _ _ _ h => h) (Or.inl ⟨by rfl, ?hy5⟩) hHeld ?_
            case hy5 => (intro w hSw; (try dsimp only at hSw); go_simp; try with_reducible rfl)
            try simp only [Act.put, List.getElem_toArray, List.getElem_cons_zero, List.getElem_cons_succ, List.setIfInBounds_toArray, List.set_cons_zero, List.set_cons_succ]
            refine wpAnyH_take (i := 6) (v := ?_) rfl (by kernel_rfl) (by kernel_rfl) (by kernel_rfl) (fun _ _ _ h => h) (Or.inl ⟨by rfl, ?hy6⟩) hHeld ?_
            case hy6 => (intro w hSw; (try dsimp only at hSw); go_simp; try with_reducible rfl)
            try simp only [Act.put, List.getElem_toArray, List.getElem_cons_zero, List.getElem_cons_succ, List.setIfInBounds_toArray, List.set_cons_zero, List.set_cons_succ]
            refine wpAnyH_take (i := 9) (v := ?_) rfl (by kernel_rfl) (by kernel_rfl) (by kernel_rfl) (fun _ _ _ h => h) (Or.inl ⟨by rfl, ?hy7⟩) hHeld ?_
            case hy7 => (intro w hSw; (try dsimp only at hSw); go_simp; try with_reducible rfl)
            try simp only [Act.put, List.getElem_toArray, List.getElem_cons_zero, List.getElem_cons_succ, List.setIfInBounds_toArray, List.set_cons_zero, List.set_cons_succ]
            refine wpAnyH_take (i := 10) (v := ?_) rfl (by kernel_rfl) (by kernel_rfl) (by kernel_rfl) (fun _ _ _ h => h) (Or.inl ⟨by rfl, ?hy8⟩) hHeld ?_
            case hy8 => (intro w hSw; (try dsimp only at hSw); go_simp; try with_reducible rfl)
            try simp only [Act.put, List.getElem_toArray, List.getElem_cons_zero, List.getElem_cons_succ, List.setIfInBounds_toArray, List.set_cons_zero, List.set_cons_succ]
            refine wpAnyH_take (i := 11) (v := ?_) rfl (by kernel_rfl) (by kernel_rfl) (by kernel_rfl) (fun _ _ _ h => h) (Or.inl ⟨by rfl, ?hy9⟩) hHeld ?_
            case hy9 => (intro w hSw; (try dsimp only at hSw); go_simp; try with_reducible rfl)
            try simp only [Act.put, List.getElem_toArray, List.getElem_cons_zero, List.getElem_cons_succ, List.setIfInBounds_toArray, List.set_cons_zero, List.set_cons_succ]
            refine wpAnyH_take (i := 12) (v := ?_) rfl (by kernel_rfl) (by kernel_rfl) (by kernel_rfl) (fun _ _ _ h => h) (Or.inl ⟨by rfl, ?hy10⟩) hHeld ?_
            case hy10 => (intro w hSw; (try dsimp only at hSw); go_simp; try with_reducible rfl)
            try simp only [Act.put, List.getElem_toArray, List.getElem_cons_zero, List.getElem_cons_succ, List.setIfInBounds_toArray, List.set_cons_zero, List.set_cons_succ]
            refine wpAnyH_take (i := 13) (v := ?_) rfl (by kernel_rfl) (by kernel_rfl) (by kernel_rfl) (fun _ _ _ h => h) (Or.inl ⟨by rfl, ?hy11⟩) hHeld ?_
            case hy11 => (intro w hSw; (try dsimp only at hSw); go_simp; try with_reducible rfl)
            try simp only [Act.put, List.getElem_toArray, List.getElem_cons_zero, List.getElem_cons_succ, List.setIfInBounds_toArray, List.set_cons_zero, List.set_cons_succ]
            refine wpAnyH_take (i := 14) (v := ?_) rfl (by kernel_rfl) (by kernel_rfl) (by kernel_rfl) (fun _ _ _ h => h) (Or.inl ⟨by rfl, ?hy12⟩) hHeld ?_
            case hy12 => (intro w hSw; (try dsimp only at hSw); go_simp; try with_reducible rfl)
            try simp only [Act.put, List.getElem_toArray, List.getElem_cons_zero, List.getElem_cons_succ, List.setIfInBounds_toArray, List.set_cons_zero, List.set_cons_succ]
            refine wpAnyH_ready (rs := [1, 7]) (by kernel_rfl) (by simp) ?_
            refine (AllReadyH.cons rfl (fun K hK => ?_) (AllReadyH.cons rfl (fun K hK => ?_) AllReadyH.nil))
            · go_simp
              refine hK.out _ _ (hHeld) (fun hHeld2 => ?_)
              clear hHeld hK K
              have hHeld := hHeld2
              clear hHeld2
              try simp only [Act.put, List.getElem_toArray, List.getElem_cons_zero, List.getElem_cons_succ, List.setIfInBounds_toArray, List.set_cons_zero, List.set_cons_succ]
              refine wpAnyH_ready (rs := [7]) (by kernel_rfl) (by simp) ?_
              refine AllReadyH.cons rfl (fun K hK => ?_) AllReadyH.nil
              go_simp
              go_at_call 43; refine (HRV.out _ _).mono ?_; rintro e w' ⟨rfl, rfl⟩; rw [hra]
              go_wp2_with fail
              refine hK.out _ _ (hHeld) (fun hHeld2 => ?_)
              clear hHeld hK K
              have hHeld := hHeld2
              clear hHeld2
              try simp only [Act.put, List.getElem_toArray, List.getElem_cons_zero, List.getElem_cons_succ, List.setIfInBounds_toArray, List.set_cons_zero, List.set_cons_succ]
              refine wpAnyH_take (i := 8) (v := ?_) rfl (by kernel_rfl) (by kernel_rfl) (by kernel_rfl) (fun _ _ _ h => h) (Or.inl ⟨by rfl, ?hy13⟩) hHeld ?_
              case hy13 => (intro w hSw; (try dsimp only at hSw); go_simp; try with_reducible rfl)
              try simp only [Act.put, List.getElem_toArray, List.getElem_cons_zero, List.getElem_cons_succ, List.setIfInBounds_toArray, List.set_cons_zero, List.set_cons_succ]
              refine wpAnyH_ready (rs := [15]) (by kernel_rfl) (by simp) ?_
              refine AllReadyH.cons rfl (fun K hK => ?_) AllReadyH.nil
              go_simp
              go_at_call 43; refine (HRV.out _ _).mono ?_; rintro e w' ⟨rfl, rfl⟩; rw [hrb]
              go_wp2_with fail
              refine hK.out _ _ (hHeld) (fun hHeld2 => ?_)
              clear hHeld hK K
              have hHeld := hHeld2
              clear hHeld2
              try simp only [Act.put, List.getElem_toArray, List.getElem_cons_zero, List.getElem_cons_succ, List.setIfInBounds_toArray, List.set_cons_zero, List.set_cons_succ]
              refine wpAnyH_take (i := 16) (v := ?_) rfl (by kernel_rfl) (by kernel_rfl) (by kernel_rfl) (fun _ _ _ h => h) (Or.inl ⟨by rfl, ?hy14⟩) hHeld ?_
              case hy14 => (intro w hSw; (try dsimp only at hSw); go_simp; try with_reducible rfl)
              try simp only [Act.put, List.getElem_toArray, List.getElem_cons_zero, List.getElem_cons_succ, List.setIfInBounds_toArray, List.set_cons_zero, List.set_cons_succ]
              refine wpAnyH_take (i := 17) (v := ?_) rfl (by kernel_rfl) (by kernel_rfl) (by kernel_rfl) (fun _ _ _ h => h) (Or.inl ⟨by rfl, ?hy15⟩) hHeld ?_
              case hy15 => (intro w hSw; (try dsimp only at hSw); go_simp; try with_reducible rfl)
              try simp only [Act.put, List.getElem_toArray, List.getElem_cons_zero, List.getElem_cons_succ, List.setIfInBounds_toArray, List.set_cons_zero, List.set_cons_succ]
              refine wpAnyH_ready (rs := [18]) (by kernel_rfl) (by simp) ?_
              refine AllReadyH.cons rfl (fun K hK => ?_) AllReadyH.nil
              go_simp
              refine hK.out _ _ (cell_alloc_all hHeld _) (fun hHeld2 => ?_)
              clear hHeld hK K
              have hHeld := hHeld2
              clear hHeld2
              try simp only [Act.put, List.getElem_toArray, List.getElem_cons_zero, List.getElem_cons_succ, List.setIfInBounds_toArray, List.set_cons_zero, List.set_cons_succ]
              refine wpAnyH_ready (rs := [19]) (by kernel_rfl) (by simp) ?_
              refine AllReadyH.cons rfl (fun K hK => ?_) AllReadyH.nil
              go_simp
              refine hK.out _ _ (hHeld) (fun hHeld2 => ?_)
              clear hHeld hK K
              have hHeld := hHeld2
              clear hHeld2
              try simp only [Act.put, List.getElem_toArray, List.getElem_cons_zero, List.getElem_cons_succ, List.setIfInBounds_toArray, List.set_cons_zero, List.set_cons_succ]
              refine wpAnyH_take (i := 20) (v := ?_) rfl (by kernel_rfl) (by kernel_rfl) (by kernel_rfl) (fun _ _ _ h => h) (Or.inl ⟨by rfl, ?hy16⟩) hHeld ?_
              case hy16 => (intro w hSw; (try dsimp only at hSw); go_simp; try with_reducible rfl)
              try simp only [Act.put, List.getElem_toArray, List.getElem_cons_zero, List.getElem_cons_succ, List.setIfInBounds_toArray, List.set_cons_zero, List.set_cons_succ]
              refine wpAnyH_take (i := 21) (v := ?_) rfl (by kernel_rfl) (by kernel_rfl) (by kernel_rfl) (fun _ _ _ h => h) (Or.inl ⟨by rfl, ?hy17⟩) hHeld ?_
              case hy17 => (intro w hSw; (try dsimp only at hSw); go_simp; try with_reducible rfl)
              try simp only [Act.put, List.getElem_toArray, List.getElem_cons_zero, List.getElem_cons_succ, List.setIfInBounds_toArray, List.set_cons_zero, List.set_cons_succ]
              refine wpAnyH_ready (rs := [22]) (by kernel_rfl) (by simp) ?_
              refine AllReadyH.cons rfl (fun K hK => ?_) AllReadyH.nil
              go_simp
              refine hK.out _ _ ((World.cell?_setCell_far _ _ _ _ hgn).trans hHeld) (fun hHeld2 => ?_)
              clear hHeld hK K
              have hHeld := hHeld2
              clear hHeld2
              try simp only [Act.put, List.getElem_toArray, List.getElem_cons_zero, List.getElem_cons_succ, List.setIfInBounds_toArray, List.set_cons_zero, List.set_cons_succ]
              refine wpAnyH_done (by kernel_rfl) ?_ _
              refine NoPanic.normal ?_
              go_wp2_with fail
              refine ⟨⟨i1 + 2, j + 1, by omega, by go_num, by have := HIJ.out; omega, ?_, ?_⟩, by simp [intOf]; omega⟩
              · exact HFIN.out
              · exact HBEL.out
            · go_simp
              go_at_call 43; refine (HRV.out _ _).mono ?_; rintro e w' ⟨rfl, rfl⟩; rw [hra]
              go_wp2_with fail
              refine hK.out _ _ (hHeld) (fun hHeld2 => ?_)
              clear hHeld hK K
              have hHeld := hHeld2
              clear hHeld2
              try simp only [Act.put, List.getElem_toArray, List.getElem_cons_zero, List.getElem_cons_succ, List.setIfInBounds_toArray, List.set_cons_zero, List.set_cons_succ]
              refine wpAnyH_take (i := 8) (v := ?_) rfl (by kernel_rfl) (by kernel_rfl) (by kernel_rfl) (fun _ _ _ h => h) (Or.inl ⟨by rfl, ?hy18⟩) hHeld ?_
              case hy18 => (intro w hSw; (try dsimp only at hSw); go_simp; try with_reducible rfl)
              try simp only [Act.put, List.getElem_toArray, List.getElem_cons_zero, List.getElem_cons_succ, List.setIfInBounds_toArray, List.set_cons_zero, List.set_cons_succ]
              refine wpAnyH_ready (rs := [1, 15]) (by kernel_rfl) (by simp) ?_
              refine (AllReadyH.cons rfl (fun K hK => ?_) (AllReadyH.cons rfl (fun K hK => ?_) AllReadyH.nil))
              · go_simp
                refine hK.out _ _ (hHeld) (fun hHeld2 => ?_)
                clear hHeld hK K
                have hHeld := hHeld2
                clear hHeld2
                try simp only [Act.put, List.getElem_toArray, List.getElem_cons_zero, List.getElem_cons_succ, List.setIfInBounds_toArray, List.set_cons_zero, List.set_cons_succ]
                refine wpAnyH_ready (rs := [15]) (by kernel_rfl) (by simp) ?_
                refine AllReadyH.cons rfl (fun K hK => ?_) AllReadyH.nil
                go_simp
                go_at_call 43; refine (HRV.out _ _).mono ?_; rintro e w' ⟨rfl, rfl⟩; rw [hrb]
                go_wp2_with fail
                refine hK.out _ _ (hHeld) (fun hHeld2 => ?_)
                clear hHeld hK K
                have hHeld := hHeld2
                clear hHeld2
                try simp only [Act.put, List.getElem_toArray, List.getElem_cons_zero, List.getElem_cons_succ, List.setIfInBounds_toArray, List.set_cons_zero, List.set_cons_succ]
                refine wpAnyH_take (i := 16) (v := ?_) rfl (by kernel_rfl) (by kernel_rfl) (by kernel_rfl) (fun _ _ _ h => h) (Or.inl ⟨by rfl, ?hy19⟩) hHeld ?_
                case hy19 => (intro w hSw; (try dsimp only at hSw); go_simp; try with_reducible rfl)
                try simp only [Act.put, List.getElem_toArray, List.getElem_cons_zero, List.getElem_cons_succ, List.setIfInBounds_toArray, List.set_cons_zero, List.set_cons_succ]
                refine wpAnyH_take (i := 17) (v := ?_) rfl (by kernel_rfl) (by kernel_rfl) (by kernel_rfl) (fun _ _ _ h => h) (Or.inl ⟨by rfl, ?hy20⟩) hHeld ?_
                case hy20 => (intro w hSw; (try dsimp only at hSw); go_simp; try with_reducible rfl)
                try simp only [Act.put, List.getElem_toArray, List.getElem_cons_zero, List.getElem_cons_succ, List.setIfInBounds_toArray, List.set_cons_zero, List.set_cons_succ]
                refine wpAnyH_ready (rs := [18]) (by kernel_rfl) (by simp) ?_
                refine AllReadyH.cons rfl (fun K hK => ?_) AllReadyH.nil
                go_simp
                refine hK.out _ _ (cell_alloc_all hHeld _) (fun hHeld2 => ?_)
                clear hHeld hK K
                have hHeld := hHeld2
                clear hHeld2
                try simp only [Act.put, List.getElem_toArray, List.getElem_cons_zero, List.getElem_cons_succ, List.setIfInBounds_toArray, List.set_cons_zero, List.set_cons_succ]
                refine wpAnyH_ready (rs := [19]) (by kernel_rfl) (by simp) ?_
                refine AllReadyH.cons rfl (fun K hK => ?_) AllReadyH.nil
                go_simp
                refine hK.out _ _ (hHeld) (fun hHeld2 => ?_)
                clear hHeld hK K
                have hHeld := hHeld2
                clear hHeld2
                try simp only [Act.put, List.getElem_toArray, List.getElem_cons_zero, List.getElem_cons_succ, List.setIfInBounds_toArray, List.set_cons_zero, List.set_cons_succ]
                refine wpAnyH_take (i := 20) (v := ?_) rfl (by kernel_rfl) (by kernel_rfl) (by kernel_rfl) (fun _ _ _ h => h) (Or.inl ⟨by rfl, ?hy21⟩) hHeld ?_
                case hy21 => (intro w hSw; (try dsimp only at hSw); go_simp; try with_reducible rfl)
                try simp only [Act.put, List.getElem_toArray, List.getElem_cons_zero, List.getElem_cons_succ, List.setIfInBounds_toArray, List.set_cons_zero, List.set_cons_succ]
                refine wpAnyH_take (i := 21) (v := ?_) rfl (by kernel_rfl) (by kernel_rfl) (by kernel_rfl) (fun _ _ _ h => h) (Or.inl ⟨by rfl, ?hy22⟩) hHeld ?_
                case hy22 => (intro w hSw; (try dsimp only at hSw); go_simp; try with_reducible rfl)
                try simp only [Act.put, List.getElem_toArray, List.getElem_cons_zero, List.getElem_cons_succ, List.setIfInBounds_toArray, List.set_cons_zero, List.set_cons_succ]
                refine wpAnyH_ready (rs := [22]) (by kernel_rfl) (by simp) ?_
                refine AllReadyH.cons rfl (fun K hK => ?_) AllReadyH.nil
                go_simp
                refine hK.out _ _ ((World.cell?_setCell_far _ _ _ _ hgn).trans hHeld) (fun hHeld2 => ?_)
                clear hHeld hK K
                have hHeld := hHeld2
                clear hHeld2
                try simp only [Act.put, List.getElem_toArray, List.getElem_cons_zero, List.getElem_cons_succ, List.setIfInBounds_toArray, List.set_cons_zero, List.set_cons_succ]
                refine wpAnyH_done (by kernel_rfl) ?_ _
                refine NoPanic.normal ?_
                go_wp2_with fail
                refine ⟨⟨i1 + 2, j + 1, by omega, by go_num, by have := HIJ.out; omega, ?_, ?_⟩, by simp [intOf]; omega⟩
                · exact HFIN.out
                · exact HBEL.out
              · go_simp
                go_at_call 43; refine (HRV.out _ _).mono ?_; rintro e w' ⟨rfl, rfl⟩; rw [hrb]
                go_wp2_with fail
                refine hK.out _ _ (hHeld) (fun hHeld2 => ?_)
                clear hHeld hK K
                have hHeld := hHeld2
                clear hHeld2
                try simp only [Act.put, List.getElem_toArray, List.getElem_cons_zero, List.getElem_cons_succ, List.setIfInBounds_toArray, List.set_cons_zero, List.set_cons_succ]
                refine wpAnyH_take (i := 16) (v := ?_) rfl (by kernel_rfl) (by kernel_rfl) (by kernel_rfl) (fun _ _ _ h => h) (Or.inl ⟨by rfl, ?hy23⟩) hHeld ?_
                case hy23 => (intro w hSw; (try dsimp only at hSw); go_simp; try with_reducible rfl)
                try simp only [Act.put, List.getElem_toArray, List.getElem_cons_zero, List.getElem_cons_succ, List.setIfInBounds_toArray, List.set_cons_zero, List.set_cons_succ]
                refine wpAnyH_take (i := 17) (v := ?_) rfl (by kernel_rfl) (by kernel_rfl) (by kernel_rfl) (fun _ _ _ h => h) (Or.inl ⟨by rfl, ?hy24⟩) hHeld ?_
                case hy24 => (intro w hSw; (try dsimp only at hSw); go_simp; try with_reducible rfl)
                try simp only [Act.put, List.getElem_toArray, List.getElem_cons_zero, List.getElem_cons_succ, List.setIfInBounds_toArray, List.set_cons_zero, List.set_cons_succ]
                refine wpAnyH_ready (rs := [1, 18]) (by kernel_rfl) (by simp) ?_
                refine (AllReadyH.cons rfl (fun K hK => ?_) (AllReadyH.cons rfl (fun K hK => ?_) AllReadyH.nil))
                · go_simp
                  refine hK.out _ _ (hHeld) (fun hHeld2 => ?_)
                  clear hHeld hK K
                  have hHeld := hHeld2
                  clear hHeld2
                  try simp only [Act.put, List.getElem_toArray, List.getElem_cons_zero, List.getElem_cons_succ, List.setIfInBounds_toArray, List.set_cons_zero, List.set_cons_succ]
                  refine wpAnyH_ready (rs := [18]) (by kernel_rfl) (by simp) ?_
                  refine AllReadyH.cons rfl (fun K hK => ?_) AllReadyH.nil
                  go_simp
                  refine hK.out _ _ (cell_alloc_all hHeld _) (fun hHeld2 => ?_)
                  clear hHeld hK K
                  have hHeld := hHeld2
                  clear hHeld2
                  try simp only [Act.put, List.getElem_toArray, List.getElem_cons_zero, List.getElem_cons_succ, List.setIfInBounds_toArray, List.set_cons_zero, List.set_cons_succ]
                  refine wpAnyH_ready (rs := [19]) (by kernel_rfl) (by simp) ?_
                  refine AllReadyH.cons rfl (fun K hK => ?_) AllReadyH.nil
                  go_simp
                  refine hK.out _ _ (hHeld) (fun hHeld2 => ?_)
                  clear hHeld hK K
                  have hHeld := hHeld2
                  clear hHeld2
                  try simp only [Act.put, List.getElem_toArray, List.getElem_cons_zero, List.getElem_cons_succ, List.setIfInBounds_toArray, List.set_cons_zero, List.set_cons_succ]
                  refine wpAnyH_take (i := 20) (v := ?_) rfl (by kernel_rfl) (by kernel_rfl) (by kernel_rfl) (fun _ _ _ h => h) (Or.inl ⟨by rfl, ?hy25⟩) hHeld ?_
                  case hy25 => (intro w hSw; (try dsimp only at hSw); go_simp; try with_reducible rfl)
                  try simp only [Act.put, List.getElem_toArray, List.getElem_cons_zero, List.getElem_cons_succ, List.setIfInBounds_toArray, List.set_cons_zero, List.set_cons_succ]
                  refine wpAnyH_take (i := 21) (v := ?_) rfl (by kernel_rfl) (by kernel_rfl) (by kernel_rfl) (fun _ _ _ h => h) (Or.inl ⟨by rfl, ?hy26⟩) hHeld ?_
                  case hy26 => (intro w hSw; (try dsimp only at hSw); go_simp; try with_reducible rfl)
                  try simp only [Act.put, List.getElem_toArray, List.getElem_cons_zero, List.getElem_cons_succ, List.setIfInBounds_toArray, List.set_cons_zero, List.set_cons_succ]
                  refine wpAnyH_ready (rs := [22]) (by kernel_rfl) (by simp) ?_
                  refine AllReadyH.cons rfl (fun K hK => ?_) AllReadyH.nil
                  go_simp
                  refine hK.out _ _ ((World.cell?_setCell_far _ _ _ _ hgn).trans hHeld) (fun hHeld2 => ?_)
                  clear hHeld hK K
                  have hHeld := hHeld2
                  clear hHeld2
                  try simp only [Act.put, List.getElem_toArray, List.getElem_cons_zero, List.getElem_cons_succ, List.setIfInBounds_toArray, List.set_cons_zero, List.set_cons_succ]
                  refine wpAnyH_done (by kernel_rfl) ?_ _
                  refine NoPanic.normal ?_
                  go_wp2_with fail
                  refine ⟨⟨i1 + 2, j + 1, by omega, by go_num, by have := HIJ.out; omega, ?_, ?_⟩, by simp [intOf]; omega⟩
                  · exact HFIN.out
                  · exact HBEL.out
                · go_simp
                  refine hK.out _ _ (cell_alloc_all hHeld _) (fun hHeld2 => ?_)
                  clear hHeld hK K
                  have hHeld := hHeld2
                  clear hHeld2
                  try simp only [Act.put, List.getElem_toArray, List.getElem_cons_zero, List.getElem_cons_succ, List.setIfInBounds_toArray, List.set_cons_zero, List.set_cons_succ]
                  refine wpAnyH_ready (rs := [1, 19]) (by kernel_rfl) (by simp) ?_
                  refine (AllReadyH.cons rfl (fun K hK => ?_) (AllReadyH.cons rfl (fun K hK => ?_) AllReadyH.nil))
                  · go_simp
                    refine hK.out _ _ (hHeld) (fun hHeld2 => ?_)
                    clear hHeld hK K
                    have hHeld := hHeld2
                    clear hHeld2
                    try simp only [Act.put, List.getElem_toArray, List.getElem_cons_zero, List.getElem_cons_succ, List.setIfInBounds_toArray, List.set_cons_zero, List.set_cons_succ]
                    refine wpAnyH_ready (rs := [19]) (by kernel_rfl) (by simp) ?_
                    refine AllReadyH.cons rfl (fun K hK => ?_) AllReadyH.nil
                    go_simp
                    refine hK.out _ _ (hHeld) (fun hHeld2 => ?_)
                    clear hHeld hK K
                    have hHeld := hHeld2
                    clear hHeld2
                    try simp only [Act.put, List.getElem_toArray, List.getElem_cons_zero, List.getElem_cons_succ, List.setIfInBounds_toArray, List.set_cons_zero, List.set_cons_succ]
                    refine wpAnyH_take (i := 20) (v := ?_) rfl (by kernel_rfl) (by kernel_rfl) (by kernel_rfl) (fun _ _ _ h => h) (Or.inl ⟨by rfl, ?hy27⟩) hHeld ?_
                    case hy27 => (intro w hSw; (try dsimp only at hSw); go_simp; try with_reducible rfl)
                    try simp only [Act.put, List.getElem_toArray, List.getElem_cons_zero, List.getElem_cons_succ, List.setIfInBounds_toArray, List.set_cons_zero, List.set_cons_succ]
                    refine wpAnyH_take (i := 21) (v := ?_) rfl (by kernel_rfl) (by kernel_rfl) (by kernel_rfl) (fun _ _ _ h => h) (Or.inl ⟨by rfl, ?hy28⟩) hHeld ?_
                    case hy28 => (intro w hSw; (try dsimp only at hSw); go_simp; try with_reducible rfl)
                    try simp only [Act.put, List.getElem_toArray, List.getElem_cons_zero, List.getElem_cons_succ, List.setIfInBounds_toArray, List.set_cons_zero, List.set_cons_succ]
                    refine wpAnyH_ready (rs := [22]) (by kernel_rfl) (by simp) ?_
                    refine AllReadyH.cons rfl (fun K hK => ?_) AllReadyH.nil
                    go_simp
                    refine hK.out _ _ ((World.cell?_setCell_far _ _ _ _ hgn).trans hHeld) (fun hHeld2 => ?_)
                    clear hHeld hK K
                    have hHeld := hHeld2
                    clear hHeld2
                    try simp only [Act.put, List.getElem_toArray, List.getElem_cons_zero, List.getElem_cons_succ, List.setIfInBounds_toArray, List.set_cons_zero, List.set_cons_succ]
                    refine wpAnyH_done (by kernel_rfl) ?_ _
                    refine NoPanic.normal ?_
                    go_wp2_with fail
                    refine ⟨⟨i1 + 2, j + 1, by omega, by go_num, by have := HIJ.out; omega, ?_, ?_⟩, by simp [intOf]; omega⟩
                    · exact HFIN.out
                    · exact HBEL.out
                  · go_simp
                    refine hK.out _ _ (hHeld) (fun hHeld2 => ?_)
                    clear hHeld hK K
                    have hHeld := hHeld2
                    clear hHeld2
                    try simp only [Act.put, List.getElem_toArray, List.getElem_cons_zero, List.getElem_cons_succ, List.setIfInBounds_toArray, List.set_cons_zero, List.set_cons_succ]
                    refine wpAnyH_ready (rs := [1]) (by kernel_rfl) (by simp) ?_
                    refine AllReadyH.cons rfl (fun K hK => ?_) AllReadyH.nil
                    go_simp
                    refine hK.out _ _ (hHeld) (fun hHeld2 => ?_)
                    clear hHeld hK K
                    have hHeld := hHeld2
                    clear hHeld2
                    try simp only [Act.put, List.getElem_toArray, List.getElem_cons_zero, List.getElem_cons_succ, List.setIfInBounds_toArray, List.set_cons_zero, List.set_cons_succ]
                    refine wpAnyH_take (i := 20) (v := ?_) rfl (by kernel_rfl) (by kernel_rfl) (by kernel_rfl) (fun _ _ _ h => h) (Or.inl ⟨by rfl, ?hy29⟩) hHeld ?_
                    case hy29 => (intro w hSw; (try dsimp only at hSw); go_simp; try with_reducible rfl)
                    try simp only [Act.put, List.getElem_toArray, List.getElem_cons_zero, List.getElem_cons_succ, List.setIfInBounds_toArray, List.set_cons_zero, List.set_cons_succ]
                    refine wpAnyH_take (i := 21) (v := ?_) rfl (by kernel_rfl) (by kernel_rfl) (by kernel_rfl) (fun _ _ _ h => h) (Or.inl ⟨by rfl, ?hy30⟩) hHeld ?_
                    case hy30 => (intro w hSw; (try dsimp only at hSw); go_simp; try with_reducible rfl)
                    try simp only [Act.put, List.getElem_toArray, List.getElem_cons_zero, List.getElem_cons_succ, List.setIfInBounds_toArray, List.set_cons_zero, List.set_cons_succ]
                    refine wpAnyH_ready (rs := [22]) (by kernel_rfl) (by simp) ?_
                    refine AllReadyH.cons rfl (fun K hK => ?_) AllReadyH.nil
                    go_simp
                    refine hK.out _ _ ((World.cell?_setCell_far _ _ _ _ hgn).trans hHeld) (fun hHeld2 => ?_)
                    clear hHeld hK K
                    have hHeld := hHeld2
                    clear hHeld2
                    try simp only [Act.put, List.getElem_toArray, List.getElem_cons_zero, List.getElem_cons_succ, List.setIfInBounds_toArray, List.set_cons_zero, List.set_cons_succ]
                    refine wpAnyH_done (by kernel_rfl) ?_ _
                    refine NoPanic.normal ?_
                    go_wp2_with fail
                    refine ⟨⟨i1 + 2, j + 1, by omega, by go_num, by have := HIJ.out; omega, ?_, ?_⟩, by simp [intOf]; omega⟩
                    · exact HFIN.out
                    · exact HBEL.out
          · have hcb : decide ((i1 : Int) + 1 < (T1.size : Int)) = false := decide_eq_false (by omega)
            have hu : Vz.unhexP (T1.data.toList.take i1) = Vz.unhexP T1.data.toList := by
              have hij := HIJ.out
              by_cases he : i1 = T1.size
              · rw [List.take_of_length_le (by rw [HLT.out]; omega)]
              · have h1 : i1 < T1.size := by omega
                have h2 : T1.data.toList = T1.data.toList.take i1 ++ [T1[i1]'h1] := by
                  rw [← take_at T1 i1 h1, List.take_of_length_le (by rw [HLT.out]; omega)]
                have h3 := unhexP_odd j (T1.data.toList.take i1) (T1[i1]'h1) (by rw [List.length_take]; have := HLT.out; omega)
                rw [← h2] at h3
                exact h3.symm
            have HU := Lib.hid hu
            clear hu hx
            have hwi : IntKind.i64.wrap ((i1 : Int) + 1) = ((i1 + 1 : Nat) : Int) := by rw [IntKind.wrap_i64]; omega
            go_wp2_with fail
            go_meet
            refine ⟨?_, hB⟩
            have hq := HXX.out
            rw [HU.out, HTX.out] at hq
            rw [← HX.out, HXE.out]
            exact hq
      · have h1' : ¬ (1 : Int) < (n : Int) := by omega
        have hws1 : ws[1]? = none := List.getElem?_eq_none (by have := HN.out; omega)
        rw [hws1] at HXE
        clear hws1
        go_wp2_with fail
        go_meet
        refine ⟨?_, HBX.out.setCell (p := ⟨w2.heap.size, 0, none⟩) (Nat.le_refl _) _⟩
        rw [← HX.out, HXE.out]; exact heap_set_same HX0.out 0 _
    by_cases h2 : w0 = [112, 114, 101, 115, 115]
    · have HXE := Lib.hid (rdTold_eq ws w0 2 HW0.out (by rw [h2]; decide))
      subst h2
      clear h1
      have f2 := frozen_row HX0.out 2
      have f3 := frozen_row HX0.out 3
      have f4 := frozen_row HX0.out 4
      have f5 := frozen_row HX0.out 5
      have CW : Hid (∀ k, k < n → w2.cell? ⟨g, k, none⟩ = some (.string ⟨(ws[k]?.getD []).toArray⟩)) := fun k hk => (HBX.out.cell (p := ⟨g, k, none⟩) hgB).symm.trans (wds_cell HWX.out hk).1
      have hini : Hid ((((((wc.setCell ⟨w2.heap.size, 0, none⟩ (.int .i64 2)).setCell ⟨w2.heap.size, 2, none⟩ (.int .i64 (Vz.rdAt ws 1))).setCell ⟨w2.heap.size, 3, none⟩ (.int .i64 (Vz.rdAt ws 2))).setCell ⟨w2.heap.size, 4, none⟩ (.bool false)).setCell ⟨w2.heap.size, 5, none⟩ (.bool false)).heap[w2.heap.size]? = some (.cells #[.int .i64 2, .string ⟨#[]⟩, .int .i64 (Vz.rdAt ws 1), .int .i64 (Vz.rdAt ws 2), .bool false, .bool false, .int .i64 0, .int .i64 0, .int .i64 0] 31 (0, 0))) :=
        heap_set_same (heap_set_same (heap_set_same (heap_set_same (heap_set_same HX0.out 0 _) 2 _) 3 _) 4 _) 5 _
      go_wp2_with fail
      go_loopw [9] (fun i wr => ∃ k : Nat, 3 ≤ k ∧ (k ≤ n ∨ k = 3) ∧ i = .int .i64 k ∧ wr.heap[w2.heap.size]? = some (.cells #[.int .i64 2, .string ⟨#[]⟩, .int .i64 (Vz.rdAt ws 1), .int .i64 (Vz.rdAt ws 2), .bool (anyT ws k Vz.shiftW), .bool (anyT ws k Vz.ctrlW), .int .i64 0, .int .i64 0, .int .i64 0] 31 (0, 0)) ∧ Below w2.heap.size w2 wr) (fun i _ => n - (intOf i).toNat)
      case atStart => exact ⟨3, Nat.le_refl _, .inr rfl, rfl, hini.out, ((((HBX.out.setCell (p := ⟨w2.heap.size, 0, none⟩) (Nat.le_refl _) _).setCell (p := ⟨w2.heap.size, 2, none⟩) (Nat.le_refl _) _).setCell (p := ⟨w2.heap.size, 3, none⟩) (Nat.le_refl _) _).setCell (p := ⟨w2.heap.size, 4, none⟩) (Nat.le_refl _) _).setCell (p := ⟨w2.heap.size, 5, none⟩) (Nat.le_refl _) _⟩
      case round =>
        obtain ⟨k, hk3, hkn, rfl, hx, hB⟩ := hrel
        have HXX := Lib.hid hx
        clear z0 z1 z2 z3 z4 z5 z6 z7 z8 f0 f2 f3 f4 f5 hini
        by_cases hlt : k < n
        · have hkl : k < ws.length := by have := HN.out; omega
          have hl := (hB.cell (p := ⟨g, k, none⟩) hgB).trans (CW.out k hlt)
          have hs1 := anyT_step ws k Vz.shiftW hk3 hkl
          have hs2 := anyT_step ws k Vz.ctrlW hk3 hkl
          generalize ws[k]?.getD [] = x at hl hs1 hs2
          have e1 : (x == Vz.shiftW) = (x == [115, 104, 105, 102, 116]) := rfl
          have e2 : (x == Vz.ctrlW) = (x == [99, 116, 114, 108]) := rfl
          rw [e1] at hs1
          rw [e2] at hs2
          have hltI : (k : Int) < (n : Int) := by omega
          obtain ⟨b1, hb1⟩ : ∃ b1, (x == ([115, 104, 105, 102, 116] : List UInt8)) = b1 := ⟨_, rfl⟩
          obtain ⟨b2, hb2⟩ : ∃ b2, (x == ([99, 116, 114, 108] : List UInt8)) = b2 := ⟨_, rfl⟩
          rw [hb1] at hs1
          rw [hb2] at hs2
          have HS1 := Lib.hid hs1
          have HS2 := Lib.hid hs2
          clear hs1 hs2 e1 e2 hkl
          generalize anyT ws k Vz.shiftW = bs at hx HXX HS1
          generalize anyT ws k Vz.ctrlW = bc at hx HXX HS2
          obtain ⟨z0, z1, z2, z3, z4, z5, z6, z7, z8⟩ := nine_cells hx
          have f4 := frozen_row hx 4
          have f5 := frozen_row hx 5
          clear z0 z1 z2 z3 z6 z7 z8 hx
          cases bs
          all_goals cases bc
          all_goals
            go_wp2_with fail
            refine ⟨⟨k + 1, by omega, .inl (by omega), by go_num, ?_, (hB.setCell (p := ⟨w2.heap.size, 4, none⟩) (Nat.le_refl _) _).setCell (p := ⟨w2.heap.size, 5, none⟩) (Nat.le_refl _) _⟩, by simp [intOf]; omega⟩
            rw [HS1.out, HS2.out]
            exact heap_set_same (heap_set_same HXX.out 4 _) 5 _
        · have hltI : ¬ (k : Int) < (n : Int) := by omega
          have hs1 := anyT_all ws k Vz.shiftW hk3 (by have := HN.out; omega)
          have hs2 := anyT_all ws k Vz.ctrlW hk3 (by have := HN.out; omega)
          have HS1 := Lib.hid hs1
          have HS2 := Lib.hid hs2
          clear hx hs1 hs2
          go_wp2_with fail
          go_meet
          refine ⟨?_, hB⟩
          have hq := HXX.out
          rw [HS1.out, HS2.out] at hq
          rw [← HX.out, HXE.out]
          exact hq
    by_cases h3 : w0 = [100, 114, 97, 105, 110]
    · have HXE := Lib.hid (rdTold_eq ws w0 3 HW0.out (by rw [h3]; decide))
      subst h3
      clear h1 h2
      go_wp2_with fail
      go_meet
      refine ⟨?_, HBX.out.setCell (p := ⟨w2.heap.size, 0, none⟩) (Nat.le_refl _) _⟩
      rw [← HX.out, HXE.out]; exact heap_set_same HX0.out 0 _
      
    by_cases h4 : w0 = [114, 101, 115, 101, 116]
    · have HXE := Lib.hid (rdTold_eq ws w0 4 HW0.out (by rw [h4]; decide))
      subst h4
      clear h1 h2 h3
      go_wp2_with fail
      go_meet
      refine ⟨?_, HBX.out.setCell (p := ⟨w2.heap.size, 0, none⟩) (Nat.le_refl _) _⟩
      rw [← HX.out, HXE.out]; exact heap_set_same HX0.out 0 _
      
    by_cases h5 : w0 = [114, 101, 115, 105, 122, 101]
    · have HXE := Lib.hid (rdTold_eq ws w0 5 HW0.out (by rw [h5]; decide))
      subst h5
      clear h1 h2 h3 h4
      have f6 := frozen_row HX0.out 6
      have f7 := frozen_row HX0.out 7
      go_wp2_with fail
      go_meet
      refine ⟨?_, ((HBX.out.setCell (p := ⟨w2.heap.size, 0, none⟩) (Nat.le_refl _) _).setCell (p := ⟨w2.heap.size, 6, none⟩) (Nat.le_refl _) _).setCell (p := ⟨w2.heap.size, 7, none⟩) (Nat.le_refl _) _⟩
      rw [← HX.out, HXE.out]; exact heap_set_same (heap_set_same (heap_set_same HX0.out 0 _) 6 _) 7 _
    by_cases h6 : w0 = [115, 119, 105, 116, 99, 104]
    · have HXE := Lib.hid (rdTold_eq ws w0 6 HW0.out (by rw [h6]; decide))
      subst h6
      clear h1 h2 h3 h4 h5
      have f8 := frozen_row HX0.out 8
      go_wp2_with fail
      go_meet
      refine ⟨?_, (HBX.out.setCell (p := ⟨w2.heap.size, 0, none⟩) (Nat.le_refl _) _).setCell (p := ⟨w2.heap.size, 8, none⟩) (Nat.le_refl _) _⟩
      rw [← HX.out, HXE.out]; exact heap_set_same (heap_set_same HX0.out 0 _) 8 _
    have HXE := Lib.hid (rdTold_eq ws w0 0 HW0.out (by unfold Vz.doOf Vz.feedW Vz.pressW Vz.drainW Vz.resetW Vz.resizeW Vz.switchW; rw [if_neg h1, if_neg h2, if_neg h3, if_neg h4, if_neg h5, if_neg h6]))
    have g1 : ((⟨w0.toArray⟩ : ByteArray).toList == [102, 101, 101, 100]) = false := by rw [ByteArray.toList_eq]; simpa using h1
    have g2 : ((⟨w0.toArray⟩ : ByteArray).toList == [112, 114, 101, 115, 115]) = false := by rw [ByteArray.toList_eq]; simpa using h2
    have g3 : ((⟨w0.toArray⟩ : ByteArray).toList == [100, 114, 97, 105, 110]) = false := by rw [ByteArray.toList_eq]; simpa using h3
    have g4 : ((⟨w0.toArray⟩ : ByteArray).toList == [114, 101, 115, 101, 116]) = false := by rw [ByteArray.toList_eq]; simpa using h4
    have g5 : ((⟨w0.toArray⟩ : ByteArray).toList == [114, 101, 115, 105, 122, 101]) = false := by rw [ByteArray.toList_eq]; simpa using h5
    have g6 : ((⟨w0.toArray⟩ : ByteArray).toList == [115, 119, 105, 116, 99, 104]) = false := by rw [ByteArray.toList_eq]; simpa using h6
    clear h1 h2 h3 h4 h5 h6
    generalize (⟨w0.toArray⟩ : ByteArray) = T0 at c0 g1 g2 g3 g4 g5 g6
    go_wp2_with fail
    go_meet
    refine ⟨?_, HBX.out⟩
    rw [← HX.out, HXE.out]
    exact HX0.out
  case rest =>
  obtain ⟨hx, hbc⟩ := hcut
  have hr := (hbc.block w.heap.size (Array.getElem?_eq_some_iff.1 HR2.out).1).trans HR2.out
  have hbt := (hB2.trans (hbc.mono hB2.size)).drew
  have hw2 : w.heap.size < w2.heap.size := (Array.getElem?_eq_some_iff.1 HR2.out).1
  have hlt : w2.heap.size < wc.drew.heap.size := (Array.getElem?_eq_some_iff.1 hx).1
  have HONE : Hid (Vz.rdOne s.data.toList = (X.right && decide (X.line = s.data.toList ++ [10]))) := by
    show _ = _
    unfold Vz.rdOne
    rw [HWSP.out, HX.out]
  have HRT := Lib.hid (right_any X)
  have hXT : X.text.length ≤ 1000 := by rw [← HX.out]; exact Vz.rdTold_text ws 1000 HWL.out
  have HXT := Lib.hid hXT
  unfold stpV at HRT
  clear hbc hXT hB2 HX0 HBX HWX HNUM HAT HAN c0 HW0 HWXE
  cases hxr : X.right with
  | false =>
    rw [hxr] at HRT
    have HV : Hid (Vz.rdOne s.data.toList = false) := by show _ = _; rw [HONE.out, hxr]; rfl
    clear hxr
    go_upto_region 35 with fail
    refine wp_region_noPanic ?_
    refine wp_region_held_drew (S := fun W : World => W.cell? ⟨w2.heap.size, 0, none⟩ = some (.int .i64 X.d) ∧ W.cell? ⟨w2.heap.size, 1, none⟩ = some (.string ⟨X.text.toArray⟩) ∧ W.cell? ⟨w2.heap.size, 2, none⟩ = some (.int .i64 X.kind) ∧ W.cell? ⟨w2.heap.size, 3, none⟩ = some (.int .i64 X.code) ∧ W.cell? ⟨w2.heap.size, 4, none⟩ = some (.bool X.shift) ∧ W.cell? ⟨w2.heap.size, 5, none⟩ = some (.bool X.ctrl) ∧ W.cell? ⟨w2.heap.size, 6, none⟩ = some (.int .i64 X.rows) ∧ W.cell? ⟨w2.heap.size, 7, none⟩ = some (.int .i64 X.cols) ∧ W.cell? ⟨w2.heap.size, 8, none⟩ = some (.int .i64 X.to)) (by kernel_rfl) (nine_cells hx) (fun hHeld => ?_)
    refine wpAnyH_take (i := 0) (v := ?_) rfl (by kernel_rfl) (by kernel_rfl) (by kernel_rfl) (fun _ _ _ h => h) (Or.inl ⟨by rfl, ?hy0⟩) hHeld ?_
    case hy0 => (intro w hSw; (try dsimp only at hSw); go_simp; try with_reducible rfl)
    try simp only [Act.put, List.getElem_toArray, List.getElem_cons_zero, List.getElem_cons_succ, List.setIfInBounds_toArray, List.set_cons_zero, List.set_cons_succ]
    refine wpAnyH_take (i := 1) (v := ?_) rfl (by kernel_rfl) (by kernel_rfl) (by kernel_rfl) (fun _ _ _ h => h) (Or.inl ⟨by rfl, ?hy1⟩) hHeld ?_
    case hy1 => (intro w hSw; (try dsimp only at hSw); go_simp; try with_reducible rfl)
    try simp only [Act.put, List.getElem_toArray, List.getElem_cons_zero, List.getElem_cons_succ, List.setIfInBounds_toArray, List.set_cons_zero, List.set_cons_succ]
    refine wpAnyH_ready (rs := [2]) (by kernel_rfl) (by simp) ?_
    refine AllReadyH.cons rfl (fun K hK => ?_) AllReadyH.nil
    go_simp
    go_at_call 9; refine (HRT.out _).mono ?_; rintro e wB ⟨rfl, hbC⟩; have hr := (hbC.block w.heap.size (by omega)).trans hr; have hx := (hbC.block w2.heap.size (by omega)).trans hx; have hbt := below_join hbt hbC; have hlt := Nat.lt_of_lt_of_le hlt hbC.size; clear hbC
    go_wp2_with fail
    refine hK.out _ _ (nine_cells hx) (fun hHeld2 => ?_)
    clear hHeld hK K
    have hHeld := hHeld2
    clear hHeld2
    try simp only [Act.put, List.getElem_toArray, List.getElem_cons_zero, List.getElem_cons_succ, List.setIfInBounds_toArray, List.set_cons_zero, List.set_cons_succ]
    refine wpAnyH_take (i := 3) (v := ?_) rfl (by kernel_rfl) (by kernel_rfl) (by kernel_rfl) (fun _ _ _ h => h) (Or.inl ⟨by rfl, ?hy3⟩) hHeld ?_
    case hy3 => (intro w hSw; (try dsimp only at hSw); go_simp; try with_reducible rfl)
    try simp only [Act.put, List.getElem_toArray, List.getElem_cons_zero, List.getElem_cons_succ, List.setIfInBounds_toArray, List.set_cons_zero, List.set_cons_succ]
    refine wpAnyH_take (i := 4) (v := undef) rfl (by kernel_rfl) (by kernel_rfl) (by kernel_rfl) (fun _ _ _ h => h) (Or.inr ⟨by rfl, rfl⟩) hHeld ?_
    try simp only [Act.put, List.getElem_toArray, List.getElem_cons_zero, List.getElem_cons_succ, List.setIfInBounds_toArray, List.set_cons_zero, List.set_cons_succ]
    refine wpAnyH_take (i := 5) (v := undef) rfl (by kernel_rfl) (by kernel_rfl) (by kernel_rfl) (fun _ _ _ h => h) (Or.inr ⟨by rfl, rfl⟩) hHeld ?_
    try simp only [Act.put, List.getElem_toArray, List.getElem_cons_zero, List.getElem_cons_succ, List.setIfInBounds_toArray, List.set_cons_zero, List.set_cons_succ]
    refine wpAnyH_take (i := 6) (v := undef) rfl (by kernel_rfl) (by kernel_rfl) (by kernel_rfl) (fun _ _ _ h => h) (Or.inr ⟨by rfl, rfl⟩) hHeld ?_
    try simp only [Act.put, List.getElem_toArray, List.getElem_cons_zero, List.getElem_cons_succ, List.setIfInBounds_toArray, List.set_cons_zero, List.set_cons_succ]
    refine wpAnyH_take (i := 7) (v := undef) rfl (by kernel_rfl) (by kernel_rfl) (by kernel_rfl) (fun _ _ _ h => h) (Or.inr ⟨by rfl, rfl⟩) hHeld ?_
    try simp only [Act.put, List.getElem_toArray, List.getElem_cons_zero, List.getElem_cons_succ, List.setIfInBounds_toArray, List.set_cons_zero, List.set_cons_succ]
    refine wpAnyH_take (i := 8) (v := undef) rfl (by kernel_rfl) (by kernel_rfl) (by kernel_rfl) (fun _ _ _ h => h) (Or.inr ⟨by rfl, rfl⟩) hHeld ?_
    try simp only [Act.put, List.getElem_toArray, List.getElem_cons_zero, List.getElem_cons_succ, List.setIfInBounds_toArray, List.set_cons_zero, List.set_cons_succ]
    refine wpAnyH_take (i := 9) (v := ?_) rfl (by kernel_rfl) (by kernel_rfl) (by kernel_rfl) (fun _ _ _ h => h) (Or.inl ⟨by rfl, ?hy9⟩) hHeld ?_
    case hy9 => (intro w hSw; (try dsimp only at hSw); go_simp; try with_reducible rfl)
    try simp only [Act.put, List.getElem_toArray, List.getElem_cons_zero, List.getElem_cons_succ, List.setIfInBounds_toArray, List.set_cons_zero, List.set_cons_succ]
    refine wpAnyH_ready (rs := [10]) (by kernel_rfl) (by simp) ?_
    refine AllReadyH.cons rfl (fun K hK => ?_) AllReadyH.nil
    obtain ⟨r0, r1, r2, r3, r4, r5, r6, r7, r8⟩ := nine_cells hr
    have fr0 := frozen_row hr 0
    have fr1 := frozen_row hr 1
    have fr2 := frozen_row hr 2
    have fr3 := frozen_row hr 3
    have fr4 := frozen_row hr 4
    have fr5 := frozen_row hr 5
    have fr6 := frozen_row hr 6
    have fr7 := frozen_row hr 7
    have fr8 := frozen_row hr 8
    go_simp
    refine hK.out _ _ (nine_cells (nine_other hx (by omega) _ _ _ _ _ _ _ _ _)) (fun hHeld2 => ?_)
    clear hHeld hK K r0 r1 r2 r3 r4 r5 r6 r7 r8 fr0 fr1 fr2 fr3 fr4 fr5 fr6 fr7 fr8
    have hHeld := hHeld2
    clear hHeld2
    try simp only [Act.put, List.getElem_toArray, List.getElem_cons_zero, List.getElem_cons_succ, List.setIfInBounds_toArray, List.set_cons_zero, List.set_cons_succ]
    refine wpAnyH_take (i := 11) (v := ?_) rfl (by kernel_rfl) (by kernel_rfl) (by kernel_rfl) (fun _ _ _ h => h) (Or.inl ⟨by rfl, ?hy11⟩) hHeld ?_
    case hy11 => (intro w hSw; (try dsimp only at hSw); go_simp; try with_reducible rfl)
    try simp only [Act.put, List.getElem_toArray, List.getElem_cons_zero, List.getElem_cons_succ, List.setIfInBounds_toArray, List.set_cons_zero, List.set_cons_succ]
    refine wpAnyH_done (by kernel_rfl) ?_ _
    refine NoPanic.normal ?_
    clear hHeld
    have hres := nine_set (v0 := .int .i64 X.d) (v1 := .string ⟨X.text.toArray⟩) (v2 := .int .i64 X.kind) (v3 := .int .i64 X.code) (v4 := .bool X.shift) (v5 := .bool X.ctrl) (v6 := .int .i64 X.rows) (v7 := .int .i64 X.cols) (v8 := .int .i64 X.to) hr
    have hbel := below_nine (v0 := .int .i64 X.d) (v1 := .string ⟨X.text.toArray⟩) (v2 := .int .i64 X.kind) (v3 := .int .i64 X.code) (v4 := .bool X.shift) (v5 := .bool X.ctrl) (v6 := .int .i64 X.rows) (v7 := .int .i64 X.cols) (v8 := .int .i64 X.to) hbt (Nat.le_refl _)
    have HRES := Lib.hid hres
    have HBEL := Lib.hid hbel
    clear hres hbel hr hx
    go_wp2_with fail
    refine bodyPost_ret (res_one _ _ w.heap.size _ _ _ _ _ _ _ _ _ _ rfl rfl HRES.out) rfl ⟨?_, HBEL.out⟩
    rw [HV.out, HX.out]
    rfl
  | true =>
    rw [hxr] at HRT
    have HLN := Lib.hid (refline_any X hxr HXT.out)
    unfold stpV at HLN
    obtain ⟨b, hbl⟩ : ∃ b : Bool, (X.line == (s ++ ⟨#[10]⟩ : ByteArray).toList) = b := ⟨_, rfl⟩
    have HV : Hid (Vz.rdOne s.data.toList = b) := by
      show _ = _
      rw [HONE.out, hxr, ← hbl, ByteArray.toList_eq, ByteArray.data_append]
      simp
      by_cases h : X.line = s.data.toList ++ [10]
      · simp [h]
      · simp [h]
    have hs2 : ¬ 9223372036854775807 < s.size + 1 := by omega
    have HBL := Lib.hid hbl
    clear hxr hbl
    go_upto_region 35 with fail
    refine wp_region_noPanic ?_
    refine wp_region_held_drew (S := fun W : World => W.cell? ⟨w2.heap.size, 0, none⟩ = some (.int .i64 X.d) ∧ W.cell? ⟨w2.heap.size, 1, none⟩ = some (.string ⟨X.text.toArray⟩) ∧ W.cell? ⟨w2.heap.size, 2, none⟩ = some (.int .i64 X.kind) ∧ W.cell? ⟨w2.heap.size, 3, none⟩ = some (.int .i64 X.code) ∧ W.cell? ⟨w2.heap.size, 4, none⟩ = some (.bool X.shift) ∧ W.cell? ⟨w2.heap.size, 5, none⟩ = some (.bool X.ctrl) ∧ W.cell? ⟨w2.heap.size, 6, none⟩ = some (.int .i64 X.rows) ∧ W.cell? ⟨w2.heap.size, 7, none⟩ = some (.int .i64 X.cols) ∧ W.cell? ⟨w2.heap.size, 8, none⟩ = some (.int .i64 X.to)) (by kernel_rfl) (nine_cells hx) (fun hHeld => ?_)
    refine wpAnyH_take (i := 0) (v := ?_) rfl (by kernel_rfl) (by kernel_rfl) (by kernel_rfl) (fun _ _ _ h => h) (Or.inl ⟨by rfl, ?hy0⟩) hHeld ?_
    case hy0 => (intro w hSw; (try dsimp only at hSw); go_simp; try with_reducible rfl)
    try simp only [Act.put, List.getElem_toArray, List.getElem_cons_zero, List.getElem_cons_succ, List.setIfInBounds_toArray, List.set_cons_zero, List.set_cons_succ]
    refine wpAnyH_take (i := 1) (v := ?_) rfl (by kernel_rfl) (by kernel_rfl) (by kernel_rfl) (fun _ _ _ h => h) (Or.inl ⟨by rfl, ?hy1⟩) hHeld ?_
    case hy1 => (intro w hSw; (try dsimp only at hSw); go_simp; try with_reducible rfl)
    try simp only [Act.put, List.getElem_toArray, List.getElem_cons_zero, List.getElem_cons_succ, List.setIfInBounds_toArray, List.set_cons_zero, List.set_cons_succ]
    refine wpAnyH_ready (rs := [2]) (by kernel_rfl) (by simp) ?_
    refine AllReadyH.cons rfl (fun K hK => ?_) AllReadyH.nil
    go_simp
    go_at_call 9; refine (HRT.out _).mono ?_; rintro e wB ⟨rfl, hbC⟩; have hr := (hbC.block w.heap.size (by omega)).trans hr; have hx := (hbC.block w2.heap.size (by omega)).trans hx; have hbt := below_join hbt hbC; have hlt := Nat.lt_of_lt_of_le hlt hbC.size; clear hbC
    go_wp2_with fail
    refine hK.out _ _ (nine_cells hx) (fun hHeld2 => ?_)
    clear hHeld hK K
    have hHeld := hHeld2
    clear hHeld2
    try simp only [Act.put, List.getElem_toArray, List.getElem_cons_zero, List.getElem_cons_succ, List.setIfInBounds_toArray, List.set_cons_zero, List.set_cons_succ]
    refine wpAnyH_take (i := 3) (v := ?_) rfl (by kernel_rfl) (by kernel_rfl) (by kernel_rfl) (fun _ _ _ h => h) (Or.inl ⟨by rfl, ?hy3⟩) hHeld ?_
    case hy3 => (intro w hSw; (try dsimp only at hSw); go_simp; try with_reducible rfl)
    try simp only [Act.put, List.getElem_toArray, List.getElem_cons_zero, List.getElem_cons_succ, List.setIfInBounds_toArray, List.set_cons_zero, List.set_cons_succ]
    refine wpAnyH_take (i := 4) (v := ?_) rfl (by kernel_rfl) (by kernel_rfl) (by kernel_rfl) (fun _ _ _ h => h) (Or.inl ⟨by rfl, ?hy4⟩) hHeld ?_
    case hy4 => (intro w hSw; (try dsimp only at hSw); go_simp; try with_reducible rfl)
    try simp only [Act.put, List.getElem_toArray, List.getElem_cons_zero, List.getElem_cons_succ, List.setIfInBounds_toArray, List.set_cons_zero, List.set_cons_succ]
    refine wpAnyH_take (i := 6) (v := ?_) rfl (by kernel_rfl) (by kernel_rfl) (by kernel_rfl) (fun _ _ _ h => h) (Or.inl ⟨by rfl, ?hy6⟩) hHeld ?_
    case hy6 => (intro w hSw; (try dsimp only at hSw); go_simp; try with_reducible rfl)
    try simp only [Act.put, List.getElem_toArray, List.getElem_cons_zero, List.getElem_cons_succ, List.setIfInBounds_toArray, List.set_cons_zero, List.set_cons_succ]
    refine wpAnyH_take (i := 7) (v := ?_) rfl (by kernel_rfl) (by kernel_rfl) (by kernel_rfl) (fun _ _ _ h => h) (Or.inl ⟨by rfl, ?hy7⟩) hHeld ?_
    case hy7 => (intro w hSw; (try dsimp only at hSw); go_simp; try with_reducible rfl)
    try simp only [Act.put, List.getElem_toArray, List.getElem_cons_zero, List.getElem_cons_succ, List.setIfInBounds_toArray, List.set_cons_zero, List.set_cons_succ]
    refine wpAnyH_ready (rs := [5]) (by kernel_rfl) (by simp) ?_
    refine AllReadyH.cons rfl (fun K hK => ?_) AllReadyH.nil
    go_simp
    go_at_call 12; refine (HLN.out _).mono ?_; rintro e wC ⟨rfl, hbC⟩; have hr := (hbC.block w.heap.size (by omega)).trans hr; have hx := (hbC.block w2.heap.size (by omega)).trans hx; have hbt := below_join hbt hbC; have hlt := Nat.lt_of_lt_of_le hlt hbC.size; clear hbC
    go_wp2_with fail
    refine hK.out _ _ (nine_cells hx) (fun hHeld2 => ?_)
    clear hHeld hK K
    have hHeld := hHeld2
    clear hHeld2
    try simp only [Act.put, List.getElem_toArray, List.getElem_cons_zero, List.getElem_cons_succ, List.setIfInBounds_toArray, List.set_cons_zero, List.set_cons_succ]
    refine wpAnyH_take (i := 8) (v := ?_) rfl (by kernel_rfl) (by kernel_rfl) (by kernel_rfl) (fun _ _ _ h => h) (Or.inl ⟨by rfl, ?hy8⟩) hHeld ?_
    case hy8 => (intro w hSw; (try dsimp only at hSw); go_simp; rw [HBL.out])
    try simp only [Act.put, List.getElem_toArray, List.getElem_cons_zero, List.getElem_cons_succ, List.setIfInBounds_toArray, List.set_cons_zero, List.set_cons_succ]
    refine wpAnyH_take (i := 9) (v := ?_) rfl (by kernel_rfl) (by kernel_rfl) (by kernel_rfl) (fun _ _ _ h => h) (Or.inl ⟨by rfl, ?hy9⟩) hHeld ?_
    case hy9 => (intro w hSw; (try dsimp only at hSw); go_simp; try with_reducible rfl)
    try simp only [Act.put, List.getElem_toArray, List.getElem_cons_zero, List.getElem_cons_succ, List.setIfInBounds_toArray, List.set_cons_zero, List.set_cons_succ]
    refine wpAnyH_ready (rs := [10]) (by kernel_rfl) (by simp) ?_
    refine AllReadyH.cons rfl (fun K hK => ?_) AllReadyH.nil
    obtain ⟨r0, r1, r2, r3, r4, r5, r6, r7, r8⟩ := nine_cells hr
    have fr0 := frozen_row hr 0
    have fr1 := frozen_row hr 1
    have fr2 := frozen_row hr 2
    have fr3 := frozen_row hr 3
    have fr4 := frozen_row hr 4
    have fr5 := frozen_row hr 5
    have fr6 := frozen_row hr 6
    have fr7 := frozen_row hr 7
    have fr8 := frozen_row hr 8
    go_simp
    refine hK.out _ _ (nine_cells (nine_other hx (by omega) _ _ _ _ _ _ _ _ _)) (fun hHeld2 => ?_)
    clear hHeld hK K r0 r1 r2 r3 r4 r5 r6 r7 r8 fr0 fr1 fr2 fr3 fr4 fr5 fr6 fr7 fr8
    have hHeld := hHeld2
    clear hHeld2
    try simp only [Act.put, List.getElem_toArray, List.getElem_cons_zero, List.getElem_cons_succ, List.setIfInBounds_toArray, List.set_cons_zero, List.set_cons_succ]
    refine wpAnyH_take (i := 11) (v := ?_) rfl (by kernel_rfl) (by kernel_rfl) (by kernel_rfl) (fun _ _ _ h => h) (Or.inl ⟨by rfl, ?hy11⟩) hHeld ?_
    case hy11 => (intro w hSw; (try dsimp only at hSw); go_simp; try with_reducible rfl)
    try simp only [Act.put, List.getElem_toArray, List.getElem_cons_zero, List.getElem_cons_succ, List.setIfInBounds_toArray, List.set_cons_zero, List.set_cons_succ]
    refine wpAnyH_done (by kernel_rfl) ?_ _
    refine NoPanic.normal ?_
    clear hHeld
    have hres := nine_set (v0 := .int .i64 X.d) (v1 := .string ⟨X.text.toArray⟩) (v2 := .int .i64 X.kind) (v3 := .int .i64 X.code) (v4 := .bool X.shift) (v5 := .bool X.ctrl) (v6 := .int .i64 X.rows) (v7 := .int .i64 X.cols) (v8 := .int .i64 X.to) hr
    have hbel := below_nine (v0 := .int .i64 X.d) (v1 := .string ⟨X.text.toArray⟩) (v2 := .int .i64 X.kind) (v3 := .int .i64 X.code) (v4 := .bool X.shift) (v5 := .bool X.ctrl) (v6 := .int .i64 X.rows) (v7 := .int .i64 X.cols) (v8 := .int .i64 X.to) hbt (Nat.le_refl _)
    have HRES := Lib.hid hres
    have HBEL := Lib.hid hbel
    clear hres hbel hr hx
    go_wp2_with fail
    refine bodyPost_ret (res_one _ _ w.heap.size _ _ _ _ _ _ _ _ _ _ rfl rfl HRES.out) rfl ⟨?_, HBEL.out⟩
    rw [HV.out, HX.out]
    rfl
end Go.Proofs.YtfkbgnonkgaobaaDoor
