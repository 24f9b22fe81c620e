/- Walk: SgrNumbers of vizardlaw13. -/
import Derived.Test.YtjfnmjgfbkcaaaaDoorSgrText
import Derived.Test.YtjfnmjgfbkcaaaaDoorSgrNumbers
import Derived.Test.YtjfnmjgfbkcaaaaDoorSgrRow
import Derived.Laws.Strings2
import Derived.BigQuiet
import Derived.Deep.QuietTactic
namespace Go.Proofs.YtjfnmjgfbkcaaaaDoor
open Go.RowKit

theorem text_head (S : List UInt8) : ((⟨([27, 91] ++ S ++ [109] : List UInt8).toArray⟩ : ByteArray).extract 0 2).toList = [27, 91] := by
  rw [ByteArray.toList_eq, ByteArray.data_extract]
  simp
theorem text_mid (S : List UInt8) : ((⟨([27, 91] ++ S ++ [109] : List UInt8).toArray⟩ : ByteArray).extract 2 (2 + S.length)).data.toList = S := by
  rw [ByteArray.data_extract]
  simp

set_option maxRecDepth 100000 in
set_option maxHeartbeats 1000000 in
theorem law_numbers (A : Option Addr) (m c : Nat) (zs : List Int) (w : World) (h : IsRow .i64 w A m c zs) (ht : PowTab w) :
    Calls Tryd.prog 9 #[.slice A m c] w fun e w' => e = .returned (.bool true) ∧ Below w.heap.size w w' := by
  have HW := Lib.hid awake_any
  by_cases hout : m < 1 ∨ 100 < m
  · clear h ht
    rcases hout with h | h
    all_goals
      go_enter Tryd.func9, Tryd.ntmps9
      go_wp2_with fail
      refine (HW.out _).mono ?_
      rintro e w4 ⟨rfl, hb4⟩
      go_wp2_with fail
      go_ret
      exact ⟨rfl, hb4⟩
  have h1 : 1 ≤ m := by omega
  have h100 : m ≤ 100 := by omega
  clear hout
  have hI := h.ints
  have hL := hI.1
  generalize zs.take m = L at hI hL
  have HI := Lib.hid hI
  clear h hI
  have HT := Lib.hid (text_any w.heap.size A m c L h100 w HI.out (Nat.le_refl _) ht)
  have hsl := Vz.semi_len L
  have hne : Vz.semi L ≠ [] := Vz.semi_ne L (by rintro rfl; simp at hL; omega)
  have hpos : 0 < (Vz.semi L).length := List.length_pos_iff.2 hne
  have hnum := Vz.numbers_semi L (by rintro rfl; simp at hL; omega)
  have hh : ((⟨(Vz.textL L).toArray⟩ : ByteArray).extract 0 2).toList = (⟨#[27, 91]⟩ : ByteArray).toList := (text_head (Vz.semi L)).trans (by rw [ByteArray.toList_eq])
  have hd := text_mid (Vz.semi L)
  have hsz : (⟨(Vz.textL L).toArray⟩ : ByteArray).size = 2 + (Vz.semi L).length + 1 := by show (Vz.textL L).toArray.size = _; unfold Vz.textL; simp; omega
  have hlast : ∀ (h : 2 + (Vz.semi L).length < (⟨(Vz.textL L).toArray⟩ : ByteArray).size), ((⟨(Vz.textL L).toArray⟩ : ByteArray)[2 + (Vz.semi L).length]'h) = 109 := by
    intro h
    have h2 : (Vz.textL L)[2 + (Vz.semi L).length]? = some 109 := by
      unfold Vz.textL
      rw [Nat.add_comm]
      simp
    exact (List.getElem?_eq_some_iff.1 h2).2
  change ((⟨(Vz.textL L).toArray⟩ : ByteArray).extract 2 (2 + (Vz.semi L).length)).data.toList = Vz.semi L at hd
  have hSn := hnum
  rw [← hd] at hSn
  generalize (⟨(Vz.textL L).toArray⟩ : ByteArray) = T at HT hh hd hsz hlast hSn
  have hu : 3 ≤ 2 + (Vz.semi L).length ∧ 2 + (Vz.semi L).length ≤ 602 := by omega
  generalize 2 + (Vz.semi L).length = u at hu hsz hlast hd hSn
  obtain ⟨hu3, hu6⟩ := hu
  have HN := Lib.hid (numbers_any (T.extract 2 u) (by rw [ByteArray.size_extract]; omega))
  rw [hSn] at HN
  have hl3 : (((T[u]'(by omega)).toNat : Int) != 109) = false := by rw [hlast (by omega)]; rfl
  have hhb : ((T.extract 0 2).toList == [27, 91]) = true := by rw [hh, ByteArray.toList_eq]; rfl
  have HLL := Lib.hid hL
  have HSN := Lib.hid hSn
  have hcut : ∀ W : World, Sem.run Tryd.prog (Instr.slice 9 (.string T) (some (.int .i64 2)) (some (.int .i64 (u : Int))) none) W = .ok (.string (T.extract 2 u)) W := fun W => by
    have := run_slice_string (P := Tryd.prog) W 9 T .i64 .i64 2 u Tryd.underlying9 (by decide) (by omega) (by omega)
    simpa using this
  clear hlast hd hSn hnum hne hL ht hsl hpos hh
  go_enter Tryd.func9, Tryd.ntmps9
  go_wp2_with fail
  refine HT.out.mono ?_
  rintro e w1 ⟨rfl, hb1⟩
  go_wp2_with fail
  refine (HN.out _).mono ?_
  rintro e w2 ⟨v, rfl, hown, hb2⟩
  have hln : (List.map (fun x => ((Vz.clipN x : Nat) : Int)) L).length = m := by rw [List.length_map]; exact HLL.out.symm
  obtain ⟨A2, c2, rfl, hI2⟩ := Ints.of_own hown
  rw [hln] at hI2 ⊢
  have HI2 := Lib.hid hI2
  have hb02 := below_join hb1 hb2
  have HI1 := Lib.hid (HI.out.below hb02 (Nat.le_refl _))
  clear hown hI2 hln hcut hl3 hhb
  go_wp2_with fail
  go_loopw [6] (fun i wr => ∃ j q : Nat, j ≤ m ∧ i = .int .i64 j ∧ wr = w2.drewN q) (fun i _ => m - (intOf i).toNat)
  case atStart => exact ⟨0, 0, Nat.zero_le _, rfl, rfl⟩
  case round =>
    obtain ⟨j, q, hj, rfl, rfl⟩ := hrel
    by_cases hlt : j < m
    · obtain ⟨b, o, rfl, hc⟩ := HI1.out.at_ hlt
      obtain ⟨b', o', rfl, hc'⟩ := HI2.out.at_ hlt
      have hjL : j < L.length := by have := HLL.out; omega
      have e : (L.map fun x => ((Vz.clipN x : Nat) : Int))[j]?.getD 0 = ((Vz.clipN (L[j]?.getD 0) : Nat) : Int) := by
        rw [List.getElem?_map, List.getElem?_eq_getElem hjL]; rfl
      rw [e] at hc'
      generalize L[j]?.getD 0 = x at hc hc' e
      have hcx := Vz.clipN_int x
      generalize Vz.clipN x = y at hc' hcx e
      have hne : ((y : Int) != min (max x 0) 9999) = false := by rw [hcx]; simp
      clear e hjL
      go_wp2
      go_quiet (fail)
      go_wp2
      exact ⟨⟨j + 1, q + nq, by omega, by go_num, rfl⟩, by simp [intOf]; omega⟩
    · obtain rfl : j = m := by omega
      go_wp2_with fail
      refine (HW.out _).mono ?_
      rintro e w4 ⟨rfl, hb4⟩
      go_wp2_with fail
      go_ret
      exact ⟨rfl, below_join (below_drewN hb02 q) hb4⟩
end Go.Proofs.YtjfnmjgfbkcaaaaDoor
