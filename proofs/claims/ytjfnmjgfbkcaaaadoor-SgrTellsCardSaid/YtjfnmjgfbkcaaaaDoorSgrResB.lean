/- Plain: Reverse turned changes the colours with one another. -/
import Derived.Test.YtjfnmjgfbkcaaaaDoorSgrRes
namespace Go.Proofs.YtjfnmjgfbkcaaaaDoor
open Go.RowKit

theorem xor_16 (n : Nat) (h : n < 16384) : n ^^^ 16 = n + 16 - n / 16 % 2 * 32 := by
  have := Vz.all2_spec 14 0 (fun n => n ^^^ 16 == n + 16 - n / 16 % 2 * 32) (by decide +kernel) n (Nat.zero_le _) (by omega)
  simp only [beq_iff_eq] at this
  exact this
theorem xor_parts (n r : Nat) (hr : r = n + 16 - n / 16 % 2 * 32) : r % 2 = n % 2 ∧ r / 2 % 2 = n / 2 % 2 ∧ r / 4 % 2 = n / 4 % 2 ∧ r / 8 % 2 = n / 8 % 2 ∧ r / 32 = n / 32 ∧ r / 16 % 2 = 1 - n / 16 % 2 := by
  subst hr
  refine ⟨?_, ?_, ?_, ?_, ?_, ?_⟩ <;> omega
theorem xor_high (n r : Nat) (h : r / 32 = n / 32) : r / 64 % 2 = n / 64 % 2 ∧ r / 128 % 2 = n / 128 % 2 ∧ r / 256 = n / 256 ∧ r / 2048 = n / 2048 := by
  have e64 : ∀ x : Nat, x / 64 = x / 32 / 2 := fun x => by omega
  have e128 : ∀ x : Nat, x / 128 = x / 32 / 4 := fun x => by omega
  have e256 : ∀ x : Nat, x / 256 = x / 32 / 8 := fun x => by omega
  have e2048 : ∀ x : Nat, x / 2048 = x / 32 / 64 := fun x => by omega
  rw [e64, e64 n, e128, e128 n, e256, e256 n, e2048, e2048 n, h]
  exact ⟨rfl, rfl, rfl, rfl⟩
theorem may_xor (n : Nat) (h : Vz.MayP n) : Vz.MayP (n ^^^ 16) := by
  have hx := xor_16 n h.1
  generalize n ^^^ 16 = r at hx
  obtain ⟨-, -, -, -, k32, -⟩ := xor_parts n r hx
  obtain ⟨k64, k128, k256, -⟩ := xor_high n r k32
  unfold Vz.MayP at h ⊢
  clear hx
  refine ⟨by omega, by omega, ?_⟩
  rcases h.2.2 with h6 | h6
  · left; omega
  · right; omega
def resW (c16 fo ba x1 x2 x4 x8 x32 : Nat) : Value :=
  .agg #[.int .i64 (if c16 = 1 then (ba : Nat) else (fo : Nat)), .int .i64 (if c16 = 1 then (fo : Nat) else (ba : Nat)), .bool (x1 == 1), .bool (x2 == 1), .bool (x4 == 1), .bool (x8 == 1), .bool (x32 == 1)]
theorem resV_eq (n : Nat) : resV n = resW (n / 16 % 2) (Vz.colN n / 256 % 8) (Vz.colN n / 2048) (n % 2) (n / 2 % 2) (n / 4 % 2) (n / 8 % 2) (n / 32 % 2) := rfl
theorem resW_swap (c fo ba x1 x2 x4 x8 x32 : Nat) (hc : c = 0 ∨ c = 1) : ∃ f g : Int, ∃ b0 b1 b2 b3 b4 : Bool, resW c fo ba x1 x2 x4 x8 x32 = .agg #[.int .i64 f, .int .i64 g, .bool b0, .bool b1, .bool b2, .bool b3, .bool b4] ∧ resW (1 - c) fo ba x1 x2 x4 x8 x32 = .agg #[.int .i64 g, .int .i64 f, .bool b0, .bool b1, .bool b2, .bool b3, .bool b4] := by
  rcases hc with rfl | rfl
  · exact ⟨_, _, _, _, _, _, _, rfl, rfl⟩
  · exact ⟨_, _, _, _, _, _, _, rfl, rfl⟩
theorem col_256 (n r : Nat) (hn : Vz.MayP n) (hr : Vz.MayP r) (k64 : r / 64 % 2 = n / 64 % 2) (k256 : r / 256 = n / 256) : Vz.colN r / 256 = Vz.colN n / 256 := by
  unfold Vz.colN
  rw [k64]
  by_cases h6 : n / 64 % 2 = 1
  · rw [if_pos h6, if_pos h6]; exact k256
  · rw [if_neg h6, if_neg h6]
    have h1 := Vz.mayP_small n hn (by omega)
    have h2 := Vz.mayP_small r hr (by omega)
    clear hn hr k64 h6 k256
    omega
theorem div_2048 (x : Nat) : x / 2048 = x / 256 / 8 := by omega
theorem res_xor (n : Nat) (h : Vz.MayP n) : ∃ f g : Int, ∃ b0 b1 b2 b3 b4 : Bool, resV n = .agg #[.int .i64 f, .int .i64 g, .bool b0, .bool b1, .bool b2, .bool b3, .bool b4] ∧ resV (n ^^^ 16) = .agg #[.int .i64 g, .int .i64 f, .bool b0, .bool b1, .bool b2, .bool b3, .bool b4] := by
  have hx := xor_16 n h.1
  have hm := may_xor n h
  generalize n ^^^ 16 = r at hx hm
  obtain ⟨k1, k2, k4, k8, k32, k16⟩ := xor_parts n r hx
  obtain ⟨k64, k128, k256, -⟩ := xor_high n r k32
  have cc := col_256 n r h hm k64 k256
  have c2 : Vz.colN r / 2048 = Vz.colN n / 2048 := by rw [div_2048, div_2048 (Vz.colN n), cc]
  have c1 : Vz.colN r / 256 % 8 = Vz.colN n / 256 % 8 := by rw [cc]
  have e32 : r / 32 % 2 = n / 32 % 2 := by rw [k32]
  have e16 : n / 16 % 2 = 0 ∨ n / 16 % 2 = 1 := Nat.mod_two_eq_zero_or_one _
  rw [resV_eq, resV_eq, k1, k2, k4, k8, e32, c1, c2, k16]
  exact resW_swap _ _ _ _ _ _ _ _ e16
end Go.Proofs.YtjfnmjgfbkcaaaaDoor
