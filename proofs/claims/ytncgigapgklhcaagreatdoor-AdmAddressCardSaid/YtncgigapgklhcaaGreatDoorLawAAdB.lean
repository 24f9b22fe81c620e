import Derived.Test.YtncgigapgklhcaaGreatDoorLawAAd

/- The law AdmAddress, whole: for all sizes and bytes it answers true. -/
namespace Go.Proofs.YtncgigapgklhcaaGreatDoor
open Go.RowKit
set_option linter.unusedSimpArgs false
set_option linter.unusedVariables false
attribute [local go_sem] alloc_drewN setCell_drewN World.cell?_alloc_some frozen_alloc_some size_f0 size_f1

/-- What is not asked: only the chapter's example. -/
theorem law_aad_no (r c : Int) (b d : UInt8) (w : World) (hbl : Blanked w) (h : fewS r c = false ∨ (fewS r c = true ∧ b % 128 = 27) ∨ (fewS r c = true ∧ b % 128 ≠ 27 ∧ d % 128 = 27)) : Calls Tryz.prog 3 #[.agg #[.int .i64 r, .int .i64 c], .int .u8 b.toNat, .int .u8 d.toNat] w fun e w' => e = .returned (.bool true) ∧ Below w.heap.size w w' := by
  have HAW := Lib.hid (fun W (hb : Below w.heap.size w W) => awake_any W (hbl.below hb))
  have HFW := Lib.hid (fun W => few_any r c W)
  obtain ⟨x0, x1, g0, g1⟩ := row2 (heap_alloc_new w (.cells #[.int .i64 r, .int .i64 c] 23))
  have HB0 := Lib.hid (below1 w (.cells #[.int .i64 r, .int .i64 c] 23))
  have e1 : ((b.toNat : Int).tmod 128) = ((b % 128).toNat : Int) := by
    rw [UInt8.toNat_mod]
    exact (Int.ofNat_tmod b.toNat 128).symm
  have e2 : ((d.toNat : Int).tmod 128) = ((d % 128).toNat : Int) := by
    rw [UInt8.toNat_mod]
    exact (Int.ofNat_tmod d.toNat 128).symm
  clear hbl
  rcases h with h | ⟨h, hb⟩ | ⟨h, hb, hd⟩
  · rw [h] at HFW
    clear e1 e2
    go_enter Tryz.func3, Tryz.ntmps3
    go_wp2_with (first
      | (go_at_call 10; refine (HFW.out _).mono ?_; rintro e w1 ⟨rfl, hb1⟩; have HB1 := Lib.hid (Below.later HB0.out hb1 HB0.out.size); clear hb1)
      | (go_at_call 11; refine (HAW.out _ HB1.out).mono ?_; rintro e w9 ⟨rfl, hb9⟩; have HB9 := Lib.hid (Below.later HB1.out hb9 HB1.out.size); clear hb9))
    go_ret
    exact ⟨rfl, HB9.out⟩
  · rw [h] at HFW
    rw [hb] at e1
    have e3 : ((b.toNat : Int).tmod 128) = 27 := e1
    clear e1 e2 hb h
    go_enter Tryz.func3, Tryz.ntmps3
    go_wp2_with (first
      | (go_at_call 10; refine (HFW.out _).mono ?_; rintro e w1 ⟨rfl, hb1⟩; have HB1 := Lib.hid (Below.later HB0.out hb1 HB0.out.size); clear hb1)
      | (go_at_call 11; refine (HAW.out _ HB1.out).mono ?_; rintro e w9 ⟨rfl, hb9⟩; have HB9 := Lib.hid (Below.later HB1.out hb9 HB1.out.size); clear hb9))
    go_ret
    exact ⟨rfl, HB9.out⟩
  · rw [h] at HFW
    rw [hd] at e2
    have e3 : ((d.toNat : Int).tmod 128) = 27 := e2
    have e4 : (((b % 128).toNat : Int) == 27) = false := by
      have : (b % 128).toNat ≠ 27 := fun e => hb (UInt8.toNat_inj.1 e)
      rw [beq_eq_false_iff_ne]
      omega
    generalize (b % 128).toNat = bm at *
    clear e2 hb hd h
    go_enter Tryz.func3, Tryz.ntmps3
    go_wp2_with (first
      | (go_at_call 10; refine (HFW.out _).mono ?_; rintro e w1 ⟨rfl, hb1⟩; have HB1 := Lib.hid (Below.later HB0.out hb1 HB0.out.size); clear hb1)
      | (go_at_call 11; refine (HAW.out _ HB1.out).mono ?_; rintro e w9 ⟨rfl, hb9⟩; have HB9 := Lib.hid (Below.later HB1.out hb9 HB1.out.size); clear hb9))
    go_ret
    exact ⟨rfl, HB9.out⟩
theorem law_aad (r c : Int) (b d : UInt8) (w : World) (hbl : Blanked w) : Calls Tryz.prog 3 #[.agg #[.int .i64 r, .int .i64 c], .int .u8 b.toNat, .int .u8 d.toNat] w fun e w' => e = .returned (.bool true) ∧ Below w.heap.size w w' := by
  cases hf : fewS r c with
  | false => exact law_aad_no r c b d w hbl (.inl hf)
  | true =>
    by_cases hb : b % 128 = 27
    · exact law_aad_no r c b d w hbl (.inr (.inl ⟨hf, hb⟩))
    · by_cases hd : d % 128 = 27
      · exact law_aad_no r c b d w hbl (.inr (.inr ⟨hf, hb, hd⟩))
      · have hf' : 1 ≤ r ∧ r ≤ 6 ∧ 1 ≤ c ∧ c ≤ 12 := of_decide_eq_true hf
        obtain ⟨R, rfl⟩ := Int.eq_ofNat_of_zero_le (show 0 ≤ r by omega)
        obtain ⟨C, rfl⟩ := Int.eq_ofNat_of_zero_le (show 0 ≤ c by omega)
        exact law_aad_main R C hf b d hb hd w hbl
end Go.Proofs.YtncgigapgklhcaaGreatDoor
