/- The walk of ParamsBounds. -/
import Derived.Test.YtdakiocgaihcnaaBuf
import Derived.Test.YtdakiocgaihcnaaPlainC
namespace Go.Proofs.Ytdakiocgaihcnaa
open Go.RowKit

theorem take_snoc (s : ByteArray) (k : Nat) (h : k < s.size) : s.data.toList.take (k + 1) = s.data.toList.take k ++ [s[k]] := by
  rw [List.take_succ_eq_append_getElem (by simpa using h)]; rfl

set_option maxHeartbeats 4000000 in
set_option maxRecDepth 100000 in
theorem law_bounds (most : Int) (s : ByteArray) (_h1 : (Lit.int .i64 most).wf = true) (hs : s.size ≤ maxLen) (w : World) :
    Calls Try.prog 6 #[.int .i64 most, .string s] w fun e w' => e = .returned (.bool true) ∧ Below w.heap.size w w' := by
  unfold maxLen at hs
  by_cases hm : most < 1 ∨ 64 < most
  · have HN := Lib.hid (new_no most hm w)
    clear hm
    go_enter Try.func6, Try.ntmps6
    go_wp2_with (first | (go_at_call 14; refine HN.out.mono ?_; rintro e w1 ⟨rfl, rfl⟩) | (go_at_call 9; refine (awake_any _).mono ?_; rintro e w2 ⟨rfl, hB2⟩))
    go_ret
    exact ⟨rfl, hB2⟩
  have hm1 : 1 ≤ most := by omega
  have hm2 : most ≤ 64 := by omega
  clear hm
  have HN := Lib.hid (new_ok most hm1 hm2 w)
  have hB1 : Below w.heap.size w (w.alloc (.cells #[.slice none 0 0, .int .i64 most, .int .i64 0] 53)) := (Below.refl _ _).alloc (Nat.le_refl _) _
  by_cases hl : 300 < s.size
  · go_enter Try.func6, Try.ntmps6
    go_wp2_with (first | (go_at_call 14; refine HN.out.mono ?_; rintro e w1 ⟨rfl, rfl⟩) | (go_at_call 9; refine (awake_any _).mono ?_; rintro e w2 ⟨rfl, hB2⟩))
    go_ret
    exact ⟨rfl, below_join hB1 hB2⟩
  obtain ⟨M, rfl⟩ := Int.eq_ofNat_of_zero_le (by omega : 0 ≤ most)
  have hbuf : Buf w.heap.size (w.alloc (.cells #[.slice none 0 0, .int .i64 M, .int .i64 0] 53)) w.heap.size (.slice none 0 0) [] M 0 :=
    ⟨Nat.le_refl _, by show (w.heap.push _)[w.heap.size]? = _; simp, World.ownsRow_nil _ _ _ _⟩
  have HBU := Lib.hid hbuf
  have hsz1 : (w.alloc (.cells #[.slice none 0 0, .int .i64 M, .int .i64 0] 53)).heap.size = w.heap.size + 1 := World.size_alloc _ _
  generalize w.alloc (.cells #[.slice none 0 0, .int .i64 M, .int .i64 0] 53) = w1 at HN HBU hB1 hsz1
  have HSZ := Lib.hid hsz1
  clear hbuf hsz1
  go_enter Try.func6, Try.ntmps6
  go_wp2_with (go_at_call 14; refine HN.out.mono ?_; rintro e w2 ⟨rfl, rfl⟩)
  go_loopw [7, 8] (fun t i wr => ∃ (k j d : Nat) (v : Value), k ≤ s.size ∧ k = j + d ∧ j ≤ M ∧ (j < M → d = 0) ∧ i = .int .i64 k ∧ t = .int .i64 j ∧ Buf w.heap.size wr w.heap.size v (s.data.toList.take j) M d ∧ Below w.heap.size w wr) (fun _ i _ => s.size - (intOf i).toNat)
  case atStart => exact ⟨0, 0, 0, _, Nat.zero_le _, rfl, Nat.zero_le _, fun _ => rfl, rfl, rfl, HBU.out, hB1⟩
  case round =>
    obtain ⟨k, j, d, v, hk, hkj, hjM, hd, rfl, rfl, hbuf, hB⟩ := hrel
    have hll : (s.data.toList.take j).length = j := by rw [List.length_take, ← Lib.size_eq]; omega
    by_cases hlt : k < s.size
    · by_cases hjm : j < M
      · obtain rfl : d = 0 := hd hjm
        obtain rfl : k = j := by omega
        have HP := Lib.hid (push_room w.heap.size w.heap.size v (s.data.toList.take k) M 0 s[k] wr hbuf hB.size (by rw [hll]; omega) (by omega))
        have HT := Lib.hid (take_snoc s k hlt)
        clear hbuf hll hd hkj
        go_wp2_with (go_at_call 15; refine HP.out.mono ?_; rintro e w2 ⟨rfl, v', hb', hB', _⟩)
        exact ⟨⟨k + 1, k + 1, 0, v', by omega, rfl, by omega, fun _ => rfl, by go_num, by go_num, by rw [HT.out]; exact hb', hB.trans hB'⟩, by simp [intOf]; omega⟩
      · have HP := Lib.hid (push_full w.heap.size w.heap.size v (s.data.toList.take j) M d s[k].toNat wr hbuf (by rw [hll]; omega) (by omega) (by omega) (by omega))
        have HK := Lib.hid hkj
        clear hbuf hll hd hkj
        go_wp2_with (go_at_call 15; refine HP.out.mono ?_; rintro e w2 ⟨rfl, hb', hB', _⟩)
        exact ⟨⟨k + 1, j, d + 1, v, by omega, by have := HK.out; omega, hjM, fun h => absurd h hjm, by go_num, rfl, hb', hB.trans hB'⟩, by simp [intOf]; omega⟩
    · obtain rfl : k = s.size := by omega
      clear hlt hk
      obtain ⟨hfb, hf0, hf1⟩ := Vz.numbers_facts (s.data.toList.take j)
      have HY := Lib.hid (bytes_any w.heap.size w.heap.size v (s.data.toList.take j) M d wr hbuf)
      have HL := Lib.hid (lost_any w.heap.size w.heap.size v (s.data.toList.take j) M d wr hbuf)
      have HNB := Lib.hid (bnumbers_any w.heap.size w.heap.size v (s.data.toList.take j) M d wr hbuf (by omega))
      have hcnt : (s.data.toList.take j).count 59 ≤ j := Nat.le_trans List.count_le_length (by omega)
      generalize Vz.numbers (s.data.toList.take j) = NN at hfb hf0 hf1 HNB
      obtain ⟨l, b⟩ := NN
      simp only at hfb hf0 hf1 HNB
      clear hbuf
      have hts : (⟨(s.data.toList.take j).toArray⟩ : ByteArray).size = j := by show (s.data.toList.take j).toArray.size = j; simpa using hll
      have htl : (⟨(s.data.toList.take j).toArray⟩ : ByteArray).data.toList = s.data.toList.take j := by simp
      have hex : (s.extract 0 j).toList = (⟨(s.data.toList.take j).toArray⟩ : ByteArray).toList := by rw [Lib.extract_toList, ByteArray.toList_eq]; simp
      generalize (⟨(s.data.toList.take j).toArray⟩ : ByteArray) = t at HY hts htl hex
      have HTL := Lib.hid htl
      have HLL := Lib.hid hll
      have HFB := Lib.hid hfb
      have HF0 := Lib.hid hf0
      have HF1 := Lib.hid hf1
      have hj1 : (j : Int) ≤ s.size := by omega
      have hj2 : (j : Int) ≤ M := by omega
      have hmin : min (s.size : Int) (M : Int) = j := by omega
      have hdd : ((d : Int) != (s.size : Int) - (j : Int)) = false := by rw [bne_eq_false_iff_eq]; omega
      have hdl : (d : Int) ≤ 300 := by omega
      clear htl hll hfb hf0 hf1 hkj hd
      go_wp2_with (first | (go_at_call 16; refine HY.out.mono ?_; rintro e w3 ⟨rfl, rfl⟩) | (go_at_call 17; refine HL.out.mono ?_; rintro e w3 ⟨rfl, rfl⟩))
      go_loop [10, 11] (fun n i => ∃ (k : Nat), k ≤ j ∧ i = .int .i64 k ∧ n = .int .i64 ((t.data.toList.take k).count 59)) (fun _ i => j - (intOf i).toNat)
      case atStart => exact ⟨0, Nat.zero_le _, rfl, rfl⟩
      case round =>
        obtain ⟨k, hk, rfl, rfl⟩ := hrel
        have hcl : (t.data.toList.take k).count 59 ≤ k := Nat.le_trans List.count_le_length (by simp; omega)
        have hcl' : (((t.data.toList.take k).count 59 : Nat) : Int) ≤ k := by omega
        by_cases hlt : k < j
        · have htk : k < t.size := by omega
          have hsn := take_snoc t k htk
          by_cases hc : t[k] = 59
          · have hcb : ((t[k].toNat : Int) == 59) = true := by rw [hc]; rfl
            have HE : Hid ((t.data.toList.take (k + 1)).count 59 = (t.data.toList.take k).count 59 + 1) := by
              show _ = _
              rw [hsn, List.count_append, hc]; simp
            clear hc hsn
            go_wp2
            exact ⟨⟨k + 1, by omega, by go_num, by rw [HE.out]; go_num⟩, by simp [intOf]; omega⟩
          · have hcb : ((t[k].toNat : Int) == 59) = false := by
              rw [beq_eq_false_iff_ne]; intro e; exact hc (UInt8.toNat_inj.1 (by simpa using (by omega : t[k].toNat = 59)))
            have HE : Hid ((t.data.toList.take (k + 1)).count 59 = (t.data.toList.take k).count 59) := by
              show _ = _
              rw [hsn, List.count_append]; simp [hc]
            clear hc hsn
            go_wp2
            exact ⟨⟨k + 1, by omega, by go_num, by rw [HE.out]⟩, by simp [intOf]; omega⟩
        · obtain rfl : k = j := by omega
          rw [List.take_of_length_le (by rw [HTL.out, HLL.out]; exact Nat.le_refl _), HTL.out] at hcl' ⊢
          clear hcl
          generalize (s.data.toList.take k).count 59 = N at hcl' HF1 hcnt
          have hle : l.length ≤ k + 1 := by
            cases b with
            | false => rw [HF0.out rfl]; simp
            | true => rw [HF1.out rfl]; split <;> omega
          go_wp2_with fail
          refine HNB.out.mono ?_
          rintro e w3 ⟨u, rfl, hown, hB3⟩
          obtain ⟨A, c, rfl, hI⟩ := Ints.of_own hown
          clear hown HNB
          go_wp2_with fail
          go_loop [14] (fun i => ∃ (m : Nat), m ≤ l.length ∧ i = .int .i64 m) (fun i => l.length - (intOf i).toNat)
          case atStart => exact ⟨0, Nat.zero_le _, rfl⟩
          case round =>
            obtain ⟨m, hm, rfl⟩ := hrel
            by_cases hltm : m < l.length
            · obtain ⟨bb, oo, rfl, hcell⟩ := hI.at_ hltm
              have hx1 := HFB.out (l[m]?.getD 0) (by rw [List.getElem?_eq_getElem hltm]; exact List.getElem_mem hltm)
              clear hI HFB HF0 HF1
              generalize l[m]?.getD 0 = x at hcell hx1
              obtain ⟨hx1, hx2⟩ := hx1
              go_wp2
              exact ⟨⟨m + 1, by omega, by go_num⟩, by simp [intOf]; omega⟩
            · clear hI HFB
              cases b with
              | false =>
                have hl0 := HF0.out rfl
                subst hl0
                clear HF0 HF1
                go_wp2_with (go_at_call 9; refine (awake_any _).mono ?_; rintro e w4 ⟨rfl, hB4⟩)
                go_ret
                exact ⟨rfl, below_join (below_join hB hB3) hB4⟩
              | true =>
                have hl1 := HF1.out rfl
                by_cases hj0 : k = 0
                · have hl0 : l = [] := List.eq_nil_of_length_eq_zero (by rw [hl1, hj0]; simp)
                  have hk0 : ((k : Int) == 0) = true := by simp [hj0]
                  have hk1 : (!decide (0 < (k : Int))) = true := by simp [hj0]
                  subst hl0
                  clear HF0 HF1 hl1 hj0
                  go_wp2_with (go_at_call 9; refine (awake_any _).mono ?_; rintro e w4 ⟨rfl, hB4⟩)
                  go_ret
                  exact ⟨rfl, below_join (below_join hB hB3) hB4⟩
                · have hl0 : l.length = N + 1 := by
                    rw [hl1, if_neg]
                    intro e
                    have := congrArg List.length e
                    rw [HLL.out] at this
                    simp at this
                    omega
                  have hk0 : ((k : Int) == 0) = false := by simp; omega
                  have hk1 : (0 : Int) < (k : Int) := by omega
                  clear HF0 HF1 hl1 hj0
                  go_wp2_with (go_at_call 9; refine (awake_any _).mono ?_; rintro e w4 ⟨rfl, hB4⟩)
                  go_ret
                  exact ⟨rfl, below_join (below_join hB hB3) hB4⟩
end Go.Proofs.Ytdakiocgaihcnaa
