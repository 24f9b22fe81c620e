/- Walks: words of vizardref23. -/
import Derived.Test.YtfkbgnonkgaobaaDoorRefScrPlain
import Derived.Test.YtfkbgnonkgaobaaDoorParUse
import Derived.Test.YtfkbgnonkgaobaaDoorRefScrNum
import Derived.Deep.RegionHeld3
import Derived.StillTailTactics
namespace Go.Proofs.YtfkbgnonkgaobaaDoor
open Go.RowKit
set_option linter.unusedSimpArgs false
set_option linter.unusedVariables false

/-- The last of an owned row's texts is stored anew. -/
theorem row_last {W : World} {base g cap : Nat} {K : List (List UInt8)} {x y : List UInt8} (h : W.ownsRow base 9 1 (.slice (some ⟨g, 0, none⟩) (K.length + 1) cap) (K.length + 1) (strsV (K ++ [x]))) :
    (W.setCell ⟨g, K.length, none⟩ (.string ⟨y.toArray⟩)).ownsRow base 9 1 (.slice (some ⟨g, 0, none⟩) (K.length + 1) cap) (K.length + 1) (strsV (K ++ [y])) := by
  obtain ⟨h1, h2⟩ := h
  rcases h2 with ⟨hv, _⟩ | ⟨g', cap', cur, hv, hb, hg, hn, hc, hs, ht⟩
  · cases hv
  · injection hv with e1 e2 e3
    injection e1 with e1
    injection e1 with e1
    subst e1
    subst e3
    refine ⟨by simp [strsV], .inr ⟨g, cap, cur.setIfInBounds K.length (.string ⟨y.toArray⟩), rfl, hb, heap_set_same hg K.length _, hn, hc, by simpa using hs, ?_⟩⟩
    rw [Array.toList_setIfInBounds]
    rw [Nat.mul_one] at ht ⊢
    have hlt : K.length < cur.toList.length := by simp; omega
    rw [List.take_succ_eq_append_getElem (by simpa using hlt)]
    have e : (cur.toList.set K.length (Value.string ⟨y.toArray⟩)).take K.length = (cur.toList.take (K.length + 1)).take K.length := by
      rw [List.take_set_of_le (Nat.le_refl _), List.take_take, Nat.min_eq_left (by omega)]
    rw [e, ht]
    simp [strsV]
theorem row_cell {W : World} {base g cap n : Nat} {L : List (List UInt8)} (h : W.ownsRow base 9 1 (.slice (some ⟨g, 0, none⟩) n cap) n (strsV L)) {i : Nat} {x : List UInt8} (hi : L[i]? = some x) :
    W.cell? ⟨g, i, none⟩ = some (.string ⟨x.toArray⟩) ∧ W.frozen? ⟨g, i, none⟩ = false ∧ i < n := by
  obtain ⟨h1, h2⟩ := h
  have hl : i < L.length := (List.getElem?_eq_some_iff.1 hi).1
  rcases h2 with ⟨hv, _⟩ | ⟨g', cap', cur, hv, hb, hg, hn, hc, hs, ht⟩
  · cases hv
  · injection hv with e1 e2 e3
    injection e1 with e1
    injection e1 with e1
    subst e1
    have hn2 : i < n := by simp [strsV] at h1; omega
    refine ⟨?_, frozen_row hg i, hn2⟩
    rw [cell_of_row _ _ _ _ _ _ hg]
    have : (cur.toList.take (n * 1))[i]? = some (.string ⟨x.toArray⟩) := by rw [ht]; simp [strsV, hi]
    rw [List.getElem?_take, if_pos (by omega)] at this
    simpa using this
theorem wds_row {W : World} {base g cap n : Nat} {L : List (List UInt8)} (h : W.ownsRow base 9 1 (.slice (some ⟨g, 0, none⟩) n cap) n (strsV L)) : Wds W.heap.size W (some ⟨g, 0, none⟩) n L := by
  have hl : L.length = n := by have := h.1; simp [strsV] at this; omega
  refine ⟨hl.symm, fun h0 => ⟨g, 0, rfl, ?_, fun i hi => ?_⟩⟩
  · obtain ⟨h1, h2⟩ := h
    rcases h2 with ⟨hv, _⟩ | ⟨g', cap', cur, hv, hb, hg, _⟩
    · cases hv
    · injection hv with e1 e2 e3
      injection e1 with e1
      injection e1 with e1
      subst e1
      exact (Array.getElem?_eq_some_iff.1 hg).1
  · have hlt : i < L.length := by omega
    have := (row_cell h (List.getElem?_eq_getElem hlt)).1
    rw [Nat.zero_add, this, List.getElem?_eq_getElem hlt]
    rfl
theorem byte_ext (s : ByteArray) (k : Nat) (h : k < s.size) : s.extract k (k + 1) = ⟨#[s[k]'h]⟩ := by
  apply ByteArray.ext
  rw [ByteArray.data_extract]
  apply Array.toList_inj.1
  rw [Array.toList_extract, List.extract_eq_take_drop]
  have := drop_at s k h
  rw [this, show k + 1 - k = 1 by omega]
  rfl
theorem byte_run (s : ByteArray) (k : Nat) (h : k < s.size) (W : World) : Sem.run Tryd.prog (Instr.slice 9 (.string s) (some (.int .i64 (k : Int))) (some (.int .i64 ((k : Int) + 1))) none) W = .ok (.string ⟨#[s[k]'h]⟩) W := by
  have := run_slice_string (P := Tryd.prog) W 9 s .i64 .i64 k (k + 1) Tryd.underlying9 (by omega) (by omega) (by omega)
  have e2 := byte_ext s k h
  rw [show ((k : Int)).toNat = k by omega, show ((k : Int) + 1).toNat = k + 1 by omega, e2] at this
  exact this

set_option maxRecDepth 100000 in
set_option maxHeartbeats 1000000 in
theorem rdwords_any (s : ByteArray) (hs : s.size ≤ 1000) (w : World) : Calls Tryd.prog 41 #[.string s] w fun e W' => ∃ g n cap, e = .returned (.slice (some ⟨g, 0, none⟩) n cap) ∧ n = (Vz.splitS s.data.toList).length ∧
    Wds W'.heap.size W' (some ⟨g, 0, none⟩) n (Vz.splitS s.data.toList) ∧ Below w.heap.size w W' := by
  obtain ⟨i0, hi, hz0, hz1, hz2⟩ := info_parts infoStr
  have hlen : s.data.toList.length = s.size := rfl
  have hb0 : Below w.heap.size w (w.alloc (.cells #[.string ⟨#[]⟩] 9)) := (Below.refl _ _).alloc (Nat.le_refl _) _
  have hr0 : (w.alloc (.cells #[.string ⟨#[]⟩] 9)).ownsRow w.heap.size 9 1 (.slice (some ⟨w.heap.size, 0, none⟩) 1 1) 1 (strsV [[]]) :=
    ⟨rfl, .inr ⟨_, 1, _, rfl, Nat.le_refl _, box_new _ _, Nat.le_refl _, by decide, rfl, rfl⟩⟩
  have HB0 := Lib.hid hb0
  have HR0 := Lib.hid hr0
  have HLEN := Lib.hid hlen
  clear hb0 hr0 hlen
  go_enter Tryd.func41, Tryd.ntmps41
  go_wp2_with fail
  go_loopw [3, 4] (fun o i wr => ∃ g n cap k : Nat, k ≤ s.size ∧ o = .slice (some ⟨g, 0, none⟩) n cap ∧ i = .int .i64 k ∧ wr.ownsRow w.heap.size 9 1 (.slice (some ⟨g, 0, none⟩) n cap) n (strsV (Vz.splitS (s.data.toList.take k))) ∧ Below w.heap.size w wr) (fun _ i _ => s.size - (intOf i).toNat)
  case atStart => exact ⟨_, 1, 1, 0, Nat.zero_le _, rfl, rfl, HR0.out, HB0.out⟩
  case round =>
    obtain ⟨g, n, cap, k, hk, rfl, rfl, hr, hB⟩ := hrel
    have HR := Lib.hid hr
    have hnl : n = (Vz.splitS (s.data.toList.take k)).length := by have := hr.1; simp [strsV] at this; omega
    have hns : n ≤ 1001 := by
      have := Vz.splitS_len (s.data.toList.take k)
      rw [List.length_take] at this
      have := HLEN.out
      omega
    have HNL := Lib.hid hnl
    clear hr hnl
    by_cases hlt : k < s.size
    · have ht := take_at s k hlt
      obtain ⟨x, hx⟩ : ∃ x, s[k]'hlt = x := ⟨_, rfl⟩
      rw [hx] at ht
      have HT := Lib.hid ht
      clear ht
      by_cases h32 : x = 32
      · subst h32
        go_wp2_with (at_builtin; refine wpList_append_own _ rfl _ _ 64 rfl w.heap.size 9 i0 (.string ⟨#[]⟩) 1 16 Tryd.underlying64 hi hz0 hz1 hz2 rfl (by decide) _ _ _ rfl (HR.out.alloc _) ⟨wr.heap.size, 0, none⟩ 1 1 [.string ⟨#[]⟩] rfl rfl (cell_one_new _ _ _) (by simp [Value.oneCell']) (by unfold maxLen; omega) (by omega) (by have := hB.size; simp; omega) ?_; intro v' w8 hown' hgrow _; obtain ⟨g', cap', rfl⟩ := ownsRow_succ hown')
        refine ⟨⟨g', n + 1, cap', k + 1, hlt, rfl, rfl, ?_, (hB.alloc hB.size _).grown hgrow (by have := hB.size; simp; omega) (fun j e => ownsRow_bs HR.out e)⟩, by simp [intOf]; omega⟩
        rw [HT.out, Vz.splitS_blank]
        have e : strsV (Vz.splitS (List.take k s.data.toList) ++ [[]]) = strsV (Vz.splitS (List.take k s.data.toList)) ++ [Value.string ⟨#[]⟩] := by simp [strsV]
        rw [e]
        exact hown'
      · obtain ⟨ws, y, e1, e2⟩ := Vz.splitS_snoc (s.data.toList.take k) x h32
        have hys : (⟨y.toArray⟩ : ByteArray).size ≤ 1000 := by
          have := Vz.splitS_sum (s.data.toList.take k) y (by rw [e1]; simp)
          rw [List.length_take] at this
          show y.toArray.size ≤ 1000
          simp
          omega
        have hr := HR.out
        have hn := HNL.out
        rw [e1] at hr hn
        obtain rfl : n = ws.length + 1 := by simpa using hn
        obtain ⟨hc, hf, -⟩ := row_cell hr (i := ws.length) (x := y) (by simp)
        have HLAST := Lib.hid (row_last (y := y ++ [x]) hr)
        have hgB : w.heap.size ≤ g := ownsRow_bs hr rfl
        have HE2 := Lib.hid e2
        have hbr := byte_ext s k hlt
        rw [hx] at hbr
        have h32' : ((x.toNat : Int) == 32) = false := by
          have : x.toNat ≠ 32 := fun e => h32 (by rw [← UInt8.toNat_inj, e]; rfl)
          simp
          omega
        have HYX : Hid ((⟨y.toArray⟩ : ByteArray) ++ ⟨#[x]⟩ = ⟨(y ++ [x]).toArray⟩) := by
          show _ = _
          apply ByteArray.ext
          rw [ByteArray.data_append]
          simp
        clear HR HNL hr hn e1 e2 h32
        generalize ws.length = q at hns hc hf HLAST ⊢
        generalize (⟨y.toArray⟩ : ByteArray) = Y at hys hc HYX
        have hwr := wrap_small (n := (q : Int)) (by omega) (by omega)
        have hwk := wrap_small (n := (k : Int) + 1) (by omega) (by omega)
        have hk1 : (k : Int) + 1 ≤ (s.size : Int) := by omega
        have hk0 : (0 : Int) ≤ (k : Int) + 1 := by omega
        have hY1 : ¬ 9223372036854775807 < Y.size + 1 := by omega
        have hkk : (k : Int) ≤ (k : Int) + 1 := by omega
        have hq1 : (q : Int) < (q : Int) + 1 := by omega
        have hq0 : (0 : Int) ≤ (q : Int) := by omega
        go_upto_region 7 with fail
        go_still_tail 17, (by kernel_rfl)
        change wpList _ _ _ _ _ wr.drew
        go_wp2_with fail
        refine ⟨⟨g, q + 1, cap, k + 1, hlt, rfl, rfl, ?_, (hB.setCell (p := ⟨g, q, none⟩) hgB _).drew⟩, by simp [intOf]; omega⟩
        rw [HT.out, HE2.out, HYX.out]
        exact HLAST.out
    · obtain rfl : k = s.size := by omega
      have htk : s.data.toList.take s.size = s.data.toList := List.take_of_length_le (by rw [HLEN.out]; exact Nat.le_refl _)
      have HTK := Lib.hid htk
      clear htk
      go_wp2_with fail
      go_ret
      have h9 := HR.out
      have h8 := HNL.out
      rw [HTK.out] at h9 h8
      exact ⟨_, _, _, rfl, h8, wds_row h9, hB⟩
end Go.Proofs.YtfkbgnonkgaobaaDoor
