/- The walk of ScriptsPrints. -/
import Derived.Test.YtfkbgnonkgaobaaDoorScrPrint
namespace Go.Proofs.YtfkbgnonkgaobaaDoor
open Go.RowKit
set_option linter.unusedSimpArgs false
set_option linter.unusedVariables false

/-- The lines of those steps that may be. -/
def wantL (L : List Vz.Stp) : List UInt8 := linesL (L.filter fun x => x.right)
theorem wantL_true (L : List Vz.Stp) (x : Vz.Stp) (h : x.right = true) : wantL (L ++ [x]) = wantL L ++ x.line := by
  unfold wantL
  rw [List.filter_append, List.filter_cons_of_pos (by simpa using h), List.filter_nil, linesL_snoc]
theorem wantL_false (L : List Vz.Stp) (x : Vz.Stp) (h : x.right = false) : wantL (L ++ [x]) = wantL L := by
  unfold wantL
  rw [List.filter_append, List.filter_cons_of_neg (by simp [h]), List.filter_nil, List.append_nil]
theorem wantL_all (L : List Vz.Stp) (h : L.all Vz.Stp.right = true) : wantL L = linesL L := by
  unfold wantL
  rw [List.filter_eq_self.2 (fun a ha => by rw [List.all_eq_true] at h; exact h a ha)]
theorem wantL_len (L : List Vz.Stp) (ht : ∀ x ∈ L, x.text.length ≤ 100) : (wantL L).length ≤ 240 * L.length := by
  have h := linesL_len (L.filter fun x => x.right) (fun x hx => (List.mem_filter.1 hx).2) (fun x hx => ht x (List.mem_filter.1 hx).1)
  have h2 := List.length_filter_le (fun x : Vz.Stp => x.right) L
  unfold wantL
  omega

set_option maxRecDepth 100000 in
set_option maxHeartbeats 4000000 in
theorem law_prints (A : Option Addr) (m c : Nat) (L : List Vz.Stp) (w : World) (hI : Steps w.heap.size w A m L) (hm : m ≤ maxLen) (hp : PowTab w) :
    Calls Tryd.prog 3 #[.slice A m c] w fun e w' => e = .returned (.bool true) ∧ Below w.heap.size w w' := by
  have HI := Lib.hid hI
  have HP := Lib.hid hp
  have HML : Hid (m = L.length) := hI.1
  have HF := Lib.hid (few_any A m c L w hI hm)
  have HA := Lib.hid awake_any
  clear hI hm hp
  go_enter Tryd.func3, Tryd.ntmps3
  go_wp2_with fail
  refine HF.out.mono ?_
  rintro e w1 ⟨⟨fb, rfl, hf⟩, hb1⟩
  have HB1 := Lib.hid hb1
  cases fb with
  | false =>
    clear hf
    go_wp2_with (go_at_call 8; refine (HA.out _ (HP.out.below HB1.out)).mono ?_; rintro e w2 ⟨rfl, hb2⟩)
    go_ret
    exact ⟨rfl, below_join HB1.out hb2⟩
  | true =>
  obtain ⟨hm30, htx⟩ := hf rfl
  have ht : ∀ x ∈ L, x.text.length ≤ 100 := fun x hx => by
    obtain ⟨j, hj, rfl⟩ := List.getElem_of_mem hx
    have := htx j (by have := HML.out; omega)
    rwa [List.getElem?_eq_getElem hj] at this
  have HT := Lib.hid ht
  have HP1 := Lib.hid (HP.out.below hb1)
  have HI1 := Lib.hid (HI.out.below hb1 (Nat.le_refl _))
  have HM30 := Lib.hid hm30
  have HPR := Lib.hid (fun W (hb : Below w.heap.size w W) => print_any A m c L W ((HI.out.below hb (Nat.le_refl _)).more hb.size) hm30 ht (HP.out.below hb))
  have HC := Lib.hid check_any
  have HR := Lib.hid right_any
  have HPL := Lib.hid plain_any
  have HLN := Lib.hid refline_any
  clear hf htx ht hb1 hm30
  go_wp2_with fail
  go_loopw [3, 4, 5] (fun wa rt i wr => ∃ k : Nat, k ≤ m ∧ i = .int .i64 k ∧ rt = .bool ((L.take k).all Vz.Stp.right) ∧ wa = .string ⟨(wantL (L.take k)).toArray⟩ ∧ Below w.heap.size w wr) (fun _ _ i _ => m - (intOf i).toNat)
  case atStart => exact ⟨0, Nat.zero_le _, rfl, rfl, rfl, HB1.out⟩
  case round =>
    obtain ⟨k, hk, rfl, rfl, rfl, hB⟩ := hrel
    by_cases hlt : k < m
    · obtain ⟨b, o, rfl, hbB, hx⟩ := (HI.out.below hB (Nat.le_refl _)).at_ hlt
      have hkL : k < L.length := by have := HML.out; omega
      have htk : L.take (k + 1) = L.take k ++ [L[k]?.getD Vz.Stp.nil] := by rw [List.take_add_one, List.getElem?_eq_getElem hkL]; rfl
      have hxt := HT.out _ (getD_mem hkL)
      generalize L[k]?.getD Vz.Stp.nil = x at hx htk hxt
      have HTK := Lib.hid htk
      have HXT := Lib.hid hxt
      have HHX := Lib.hid hx
      obtain ⟨h0, h1, h2, h3, h4, h5, h6, h7, h8⟩ := hx
      have HCX := Lib.hid (HC.out x)
      have HRX := Lib.hid (HR.out x)
      have HPX := Lib.hid (HPL.out x)
      have hws : (⟨(wantL (L.take k)).toArray⟩ : ByteArray).size ≤ 10000 := by
        show (wantL (L.take k)).toArray.size ≤ 10000
        have h9 := wantL_len (L.take k) (fun y hy => HT.out y (List.mem_of_mem_take hy))
        rw [List.length_take] at h9
        have := HM30.out
        have := HML.out
        simp
        omega
      have hBs := hB.size
      have hm3 := HM30.out
      generalize hW : (⟨(wantL (L.take k)).toArray⟩ : ByteArray) = W0 at hws
      have HW := Lib.hid hW
      clear htk hxt hkL hW
      have hcell : ∀ W : World, Below wr.heap.size wr W → ∀ p : Addr, p.block < w.heap.size → W.cell? p = wr.cell? p := fun W hb p hp => hb.cell (by omega)
      have HCE := Lib.hid hcell
      clear hcell
      cases hxr : x.right with
      | false =>
        rw [hxr] at HCX HRX
        have HXR := Lib.hid hxr
        unfold stpV at HCX HRX HPX
        simp only [Bool.false_eq_true, if_false] at HCX
        clear hxr
        cases hal : (L.take k).all Vz.Stp.right
        all_goals
          have HAL := Lib.hid hal
          have hfl := True.intro
          clear hal
          go_wp2_with (first
            | (go_at_call 10; refine (HPX.out _).mono ?_; rintro e wA ⟨rfl, hbA⟩)
            | (go_at_call 9; refine (HRX.out _).mono ?_; rintro e wB ⟨rfl, hbB2⟩; have hb2 := below_join hbA hbB2; have hcB := HCE.out _ hb2)
            | (go_at_call 11; clear hfl; refine (HCX.out _).mono ?_; rintro e wC ⟨rfl, hbC⟩; have hb3 := below_join hb2 hbC; have hcC := HCE.out _ hb3)
            | (go_at_call 11; refine (HCX.out _).mono ?_; rintro e wD ⟨rfl, hbD⟩; have hb4 := below_join hb3 hbD))
          exact ⟨⟨k + 1, by omega, by go_num, by rw [HTK.out, List.all_append, HAL.out]; simp [HXR.out], by rw [HTK.out, wantL_false _ _ HXR.out, HW.out], below_join hB hb4⟩, by simp [intOf]; omega⟩
      | true =>
        rw [hxr] at HCX HRX
        have HXR := Lib.hid hxr
        have HLX := Lib.hid (HLN.out x hxr (Nat.le_trans HXT.out (by decide)))
        unfold stpV at HCX HRX HPX HLX
        simp only [if_true] at HCX
        have hls : (⟨x.line.toArray⟩ : ByteArray).size ≤ 300 := by
          show x.line.toArray.size ≤ 300
          have := Vz.Stp.line_len x hxr
          have := HXT.out
          simp
          omega
        have HWL : Hid (W0 ++ ⟨x.line.toArray⟩ = ⟨(wantL (L.take (k + 1))).toArray⟩) := by
          show _ = _
          rw [HTK.out, wantL_true _ _ HXR.out, ← HW.out]
          apply ByteArray.ext
          rw [ByteArray.data_append]
          simp
        clear hxr
        generalize (⟨x.line.toArray⟩ : ByteArray) = D at HLX hls HWL
        cases hal : (L.take k).all Vz.Stp.right
        all_goals
          have HAL := Lib.hid hal
          have hfl := True.intro
          clear hal
          go_wp2_with (first
            | (go_at_call 10; clear hfl; refine (HPX.out _).mono ?_; rintro e wA ⟨rfl, hbA⟩)
            | (go_at_call 9; refine (HRX.out _).mono ?_; rintro e wB ⟨rfl, hbB2⟩; have hb2 := below_join hbA hbB2; have hcB := HCE.out _ hb2)
            | (go_at_call 11; refine (HCX.out _).mono ?_; rintro e wC ⟨rfl, hbC⟩; have hb3 := below_join hb2 hbC; have hcC := HCE.out _ hb3)
            | (go_at_call 10; refine (HPX.out _).mono ?_; rintro e wD ⟨rfl, hbD⟩; have hb4 := below_join hb3 hbD)
            | (go_at_call 12; refine (HLX.out _).mono ?_; rintro e wE ⟨rfl, hbE⟩; have hb5 := below_join hb4 hbE))
          exact ⟨⟨k + 1, by omega, by go_num, by rw [HTK.out, List.all_append, HAL.out]; simp [HXR.out], by rw [← HWL.out], below_join hB hb5⟩, by simp [intOf]; omega⟩
    · have hkm : k = m := by omega
      have HKM := Lib.hid hkm
      have HPX := Lib.hid (HPR.out wr hB)
      have HPw := Lib.hid (HP.out.below hB)
      have hta : L.take k = L := List.take_of_length_le (by have := HML.out; omega)
      rw [hta]
      clear hkm hta
      cases hal : L.all Vz.Stp.right with
      | false =>
        have hpv : printV L = .tuple #[.string ⟨#[]⟩, .int .i64 1] := by unfold printV; rw [hal]; rfl
        rw [hpv] at HPX
        clear hpv hal
        go_wp2_with (first
          | (go_at_call 13; refine HPX.out.mono ?_; rintro e wA ⟨rfl, hbA⟩)
          | (go_at_call 8; refine (HA.out _ (HPw.out.below hbA)).mono ?_; rintro e wB ⟨rfl, hbB2⟩))
        go_ret
        exact ⟨rfl, below_join (below_join hB hbA) hbB2⟩
      | true =>
        have hpv : printV L = .tuple #[.string ⟨(wantL L).toArray⟩, .int .i64 0] := by unfold printV; rw [hal, wantL_all L hal]; rfl
        rw [hpv] at HPX
        clear hpv hal
        generalize (⟨(wantL L).toArray⟩ : ByteArray) = W0 at HPX ⊢
        go_wp2_with (first
          | (go_at_call 13; refine HPX.out.mono ?_; rintro e wA ⟨rfl, hbA⟩)
          | (go_at_call 8; refine (HA.out _ (HPw.out.below hbA)).mono ?_; rintro e wB ⟨rfl, hbB2⟩))
        go_ret
        exact ⟨rfl, below_join (below_join hB hbA) hbB2⟩
end Go.Proofs.YtfkbgnonkgaobaaDoor
