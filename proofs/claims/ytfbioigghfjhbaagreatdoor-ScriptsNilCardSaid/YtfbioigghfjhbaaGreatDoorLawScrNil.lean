/- The walk of ScriptsNil. -/
import Derived.Test.YtfbioigghfjhbaaGreatDoorScrPrint
namespace Go.Proofs.YtfbioigghfjhbaaGreatDoor
open Go.RowKit
set_option linter.unusedSimpArgs false
set_option linter.unusedVariables false

theorem infoAns : (Tryz.prog.info? 30).map (fun i => (i.zero, i.size, i.bytes)) = some (some (.agg #[.int .i64 0, .string ⟨#[]⟩]), 2, 24) := by kernel_rfl
/-- As many answers that the player is nil. -/
def ansV : Nat → List Value
  | 0 => []
  | k + 1 => ansV k ++ [.int .i64 2, .string ⟨#[]⟩]
theorem ansV_len (k : Nat) : (ansV k).length = 2 * k := by
  induction k with
  | zero => rfl
  | succ k ih => simp only [ansV, List.length_append, ih, List.length_cons, List.length_nil]; omega
theorem ansV_at : ∀ (m k : Nat), k < m → (ansV m)[2 * k]? = some (.int .i64 2) ∧ (ansV m)[2 * k + 1]? = some (.string ⟨#[]⟩)
  | 0, k, h => absurd h (by omega)
  | m + 1, k, h => by
    have hl := ansV_len m
    by_cases hk : k < m
    · obtain ⟨h1, h2⟩ := ansV_at m k hk
      constructor
      · simp only [ansV]; rw [List.getElem?_append_left (by omega)]; exact h1
      · simp only [ansV]; rw [List.getElem?_append_left (by omega)]; exact h2
    · obtain rfl : k = m := by omega
      constructor
      · simp only [ansV]; rw [List.getElem?_append_right (by omega), hl]; simp
      · simp only [ansV]; rw [List.getElem?_append_right (by omega), hl, show 2 * k + 1 - 2 * k = 1 by omega]; rfl

theorem one_nil (x : Vz.Stp) (w : World) : Calls Tryz.prog 12 #[.pointer none, stpV x] w fun e w' => e = .returned (.agg #[.int .i64 2, .string ⟨#[]⟩]) ∧ Below w.heap.size w w' := by
  unfold stpV
  go_enter Tryz.func12, Tryz.ntmps12
  go_wp2_with fail
  refine bodyPost_ret (v := .agg #[_, _]) (by simp [results, Tryz.results12, go_sem]) rfl ⟨rfl, ?_⟩
  exact ((Below.refl _ _).alloc (Nat.le_refl _) _).alloc (by simp) _
theorem log_nil (w : World) : Calls Tryz.prog 7 #[.pointer none] w fun e w' => e = .returned (.slice none 0 0) ∧ w = w' := by
  go_enter Tryz.func7, Tryz.ntmps7
  go_wp2_with fail
  go_ret
  exact ⟨rfl, rfl⟩
theorem again_nil (w : World) : Calls Tryz.prog 8 #[.pointer none] w fun e w' => e = .returned (.pointer none) ∧ w = w' := by
  go_enter Tryz.func8, Tryz.ntmps8
  go_wp2_with fail
  go_ret
  exact ⟨rfl, rfl⟩
theorem rows_nil (w : World) : Calls Tryz.prog 10 #[.pointer none] w fun e w' => e = .returned (.slice none 0 0) ∧ w = w' := by
  go_enter Tryz.func10, Tryz.ntmps10
  go_wp2_with fail
  go_ret
  exact ⟨rfl, rfl⟩
theorem shot_nil (w : World) : Calls Tryz.prog 9 #[.pointer none] w fun e w' => e = .returned (.agg #[.int .i64 0, .int .i64 0, .int .i64 0, .int .i64 0, .int .i64 0, .string ⟨#[]⟩, .int .i64 0, .bool false]) ∧ Below w.heap.size w w' := by
  go_enter Tryz.func9, Tryz.ntmps9
  go_wp2_with fail
  refine bodyPost_ret (v := .agg #[_, _, _, _, _, _, _, _]) (by simp [results, Tryz.results9, go_sem]) rfl ⟨rfl, ?_⟩
  exact (Below.refl _ _).alloc (Nat.le_refl _) _

set_option maxRecDepth 100000 in
set_option maxHeartbeats 2000000 in
theorem play_nil (A : Option Addr) (m c : Nat) (L : List Vz.Stp) (w : World) (hI : Steps w.heap.size w A m L) (hm : m ≤ 30) :
    Calls Tryz.prog 6 #[.pointer none, .slice A m c] w fun e w' => ∃ v, e = .returned v ∧ w'.ownsRow w.heap.size 30 2 v m (ansV m) ∧ Below w.heap.size w w' := by
  obtain ⟨i0, hi, hz0, hz1, hz2⟩ := info_parts infoAns
  have HI := Lib.hid hI
  have HO := Lib.hid one_nil
  clear hI
  go_enter Tryz.func6, Tryz.ntmps6
  go_wp2_with fail
  go_loopw [5, 10] (fun v i wr => ∃ k : Nat, k ≤ m ∧ i = .int .i64 k ∧ wr.ownsRow w.heap.size 30 2 v k (ansV k) ∧ Below w.heap.size w wr) (fun _ i _ => m - (intOf i).toNat)
  case atStart => exact ⟨0, Nat.zero_le _, rfl, World.ownsRow_nil _ _ _ _, Below.refl _ _⟩
  case round =>
    obtain ⟨k, hk, rfl, hown, hB⟩ := hrel
    by_cases hlt : k < m
    · obtain ⟨b, o, rfl, hbB, hx⟩ := (HI.out.below hB (Nat.le_refl _)).at_ hlt
      generalize L[k]?.getD Vz.Stp.nil = x at hx
      obtain ⟨h0, h1, h2, h3, h4, h5, h6, h7, h8⟩ := hx
      have HOX := Lib.hid (HO.out x)
      unfold stpV at HOX
      have hBs := hB.size
      have hbA : Below wr.heap.size wr (wr.alloc (.cells #[.int .i64 x.d, .string ⟨x.text.toArray⟩, .int .i64 x.kind, .int .i64 x.code, .bool x.shift, .bool x.ctrl, .int .i64 x.rows, .int .i64 x.cols, .int .i64 x.to] 45)) := (Below.refl _ _).alloc (Nat.le_refl _) _
      have HBA := Lib.hid hbA
      have HOW := Lib.hid hown
      obtain ⟨va, vc, rfl⟩ := ownsRow_sl hown
      clear hbA hown
      go_wp2_with fail
      refine (HOX.out _).mono ?_
      rintro e w1 ⟨rfl, hb1⟩
      have hbw := below_join HBA.out hb1
      have o2 := ownsRow_keep HOW.out hbw
      have hws := hbw.size
      go_wp2_with (at_builtin; refine wpList_append_own _ rfl _ _ 26 rfl w.heap.size 30 i0 (.agg #[.int .i64 0, .string ⟨#[]⟩]) 2 24 Tryz.underlying26 hi hz0 hz1 hz2 rfl (by decide) _ _ _ rfl (o2.alloc _) ⟨w1.heap.size, 0, none⟩ 1 1 [.int .i64 2, .string ⟨#[]⟩] rfl rfl (cells_two _ _ _ _) (by simp [Value.oneCell']) (by unfold maxLen; omega) (by omega) (by simp; omega) ?_; intro v' w3 hown' hgrow _)
      exact ⟨⟨k + 1, by omega, by go_num, hown', (((hB.trans (hbw.mono hBs))).alloc (by omega) _).grown hgrow (by simp; omega) (fun j e => ownsRow_bs HOW.out e)⟩, by simp [intOf]; omega⟩
    · obtain rfl : k = m := by omega
      have HOW := Lib.hid hown
      obtain ⟨va, vc, rfl⟩ := ownsRow_sl hown
      clear hown
      go_wp2_with fail
      go_ret
      exact ⟨_, rfl, HOW.out, hB⟩

set_option maxRecDepth 100000 in
set_option maxHeartbeats 2000000 in
theorem law_scr_nil (A : Option Addr) (m c : Nat) (L : List Vz.Stp) (w : World) (hI : Steps w.heap.size w A m L) (hm : m ≤ maxLen) (hp : PowTab w) :
    Calls Tryz.prog 3 #[.slice A m c] w fun e w' => e = .returned (.bool true) ∧ Below w.heap.size w w' := by
  have HI := Lib.hid hI
  have HP := Lib.hid hp
  have HF := Lib.hid (few_any A m c L w hI hm)
  have HA := Lib.hid awake_any
  have HLO := Lib.hid log_nil
  have HAG := Lib.hid again_nil
  have HRO := Lib.hid rows_nil
  have HSH := Lib.hid shot_nil
  clear hI hm hp
  go_enter Tryz.func3, Tryz.ntmps3
  go_wp2_with fail
  refine HF.out.mono ?_
  rintro e w1 ⟨⟨fb, rfl, hf⟩, hb1⟩
  have HB1 := Lib.hid hb1
  cases fb with
  | false =>
    clear hf
    go_wp2_with (go_at_call 5; refine (HA.out _ (HP.out.below HB1.out)).mono ?_; rintro e w2 ⟨rfl, hb2⟩)
    go_ret
    exact ⟨rfl, below_join HB1.out hb2⟩
  | true =>
  obtain ⟨hm30, -⟩ := hf rfl
  have HPL := Lib.hid (play_nil A m c L w1 ((HI.out.below hb1 (Nat.le_refl _)).more hb1.size) hm30)
  clear hf hb1
  go_wp2_with fail
  refine HPL.out.mono ?_
  rintro e w2 ⟨v, rfl, hown, hb2⟩
  have HOW := Lib.hid hown
  have HB2 := Lib.hid (below_join HB1.out hb2)
  obtain ⟨va, vc, rfl⟩ := ownsRow_sl hown
  clear hown hb2
  go_wp2_with fail
  go_loopw [5] (fun i wr => ∃ k : Nat, k ≤ m ∧ i = .int .i64 k ∧ wr = w2) (fun i _ => m - (intOf i).toNat)
  case atStart => exact ⟨0, Nat.zero_le _, rfl, rfl⟩
  case round =>
    obtain ⟨k, hk, rfl, rfl⟩ := hrel
    by_cases hlt : k < m
    · obtain ⟨g, hva⟩ : ∃ g, va = some ⟨g, 0, none⟩ := by
        rcases HOW.out.2 with ⟨_, h0⟩ | ⟨g, cap, cur, hv, _⟩
        · omega
        · exact ⟨g, by injection hv⟩
      subst hva
      obtain ⟨e1, e2⟩ := ansV_at m k hlt
      have c1 := HOW.out.cells (g := g) rfl (2 * k) _ e1
      have c2 := HOW.out.cells (g := g) rfl (2 * k + 1) _ e2
      have a1 : (⟨g, 0, none⟩ : Addr).add (2 * k) = ⟨g, k * 2, none⟩ := by unfold Addr.add; split <;> simp_all [Nat.mul_comm]
      have a2 : (⟨g, 0, none⟩ : Addr).add (2 * k + 1) = ⟨g, k * 2 + 1, none⟩ := by unfold Addr.add; split <;> simp_all [Nat.mul_comm]
      rw [a1] at c1
      rw [a2] at c2
      clear e1 e2 a1 a2
      go_wp2_with fail
      exact ⟨⟨k + 1, by omega, by go_num, by first | rfl | trivial⟩, by simp [intOf]; omega⟩
    · obtain rfl : k = m := by omega
      go_wp2_with (first
        | (go_at_call 7; refine (HLO.out _).mono ?_; rintro e w3 ⟨rfl, rfl⟩)
        | (go_at_call 8; refine (HAG.out _).mono ?_; rintro e w3 ⟨rfl, rfl⟩)
        | (go_at_call 10; refine (HRO.out _).mono ?_; rintro e w3 ⟨rfl, rfl⟩)
        | (go_at_call 9; refine (HSH.out _).mono ?_; rintro e w4 ⟨rfl, hb4⟩; have hb4' := below_join HB2.out hb4)
        | (go_at_call 5; refine (HA.out _ (HP.out.below hb4')).mono ?_; rintro e w5 ⟨rfl, hb5⟩))
      go_ret
      exact ⟨rfl, below_join hb4' hb5⟩
end Go.Proofs.YtfbioigghfjhbaaGreatDoor
