/- Walks: sgr.Resolve. -/
import Derived.Test.YtjfnmjgfbkcaaaaDoorLawTwice
namespace Go.Proofs.YtjfnmjgfbkcaaaaDoor
open Go.RowKit

/-- What attributes come to. -/
def resV (n : Nat) : Value :=
  .agg #[.int .i64 (if n / 16 % 2 = 1 then (Vz.colN n / 2048 : Nat) else (Vz.colN n / 256 % 8 : Nat)), .int .i64 (if n / 16 % 2 = 1 then (Vz.colN n / 256 % 8 : Nat) else (Vz.colN n / 2048 : Nat)), .bool (n % 2 == 1), .bool (n / 2 % 2 == 1), .bool (n / 4 % 2 == 1), .bool (n / 8 % 2 == 1), .bool (n / 32 % 2 == 1)]

theorem col_quo (c : Nat) (hc : c < 16384) : bits .and .i64 (c : Int) 1792 = ((c / 256 % 8 * 256 : Nat) : Int) ∧ bits .and .i64 (c : Int) 14336 = ((c / 2048 * 2048 : Nat) : Int) := by
  have hcb := Vz.col_bits c hc
  constructor
  · rw [show (1792 : Int) = ((1792 : Nat) : Int) from rfl, Vz.and64 c 1792 (by omega) (by decide), hcb.2.2.2.1]
  · rw [show (14336 : Int) = ((14336 : Nat) : Int) from rfl, Vz.and64 c 14336 (by omega) (by decide), hcb.2.2.2.2]
theorem quo_256 (k : Nat) : ((k * 256 : Nat) : Int).tdiv 256 = k := by rw [Int.tdiv_eq_ediv_of_nonneg (by omega)]; omega
theorem quo_2048 (k : Nat) : ((k * 2048 : Nat) : Int).tdiv 2048 = k := by rw [Int.tdiv_eq_ediv_of_nonneg (by omega)]; omega

set_option maxRecDepth 100000 in
set_option maxHeartbeats 1000000 in
theorem resolve_any (a : Int) (w : World) :
    Calls Tryd.prog 20 #[.int .i64 a] w fun e w' => e = .returned (resV (startN a)) ∧ Below w.heap.size w w' := by
  have HR := Lib.hid (right_any a)
  have hm := startN_may a
  generalize startN a = n at HR hm
  have hn := hm.1
  have HC := Lib.hid (coloured_any n hm)
  have hcm := (Vz.mayP_colN n hm).1.1
  have HV : Hid (resV n = .agg #[.int .i64 (if n / 16 % 2 = 1 then (Vz.colN n / 2048 : Nat) else (Vz.colN n / 256 % 8 : Nat)), .int .i64 (if n / 16 % 2 = 1 then (Vz.colN n / 256 % 8 : Nat) else (Vz.colN n / 2048 : Nat)), .bool (n % 2 == 1), .bool (n / 2 % 2 == 1), .bool (n / 4 % 2 == 1), .bool (n / 8 % 2 == 1), .bool (n / 32 % 2 == 1)]) := rfl
  obtain ⟨e1, e2⟩ := col_quo _ hcm
  generalize Vz.colN n = c at HC hcm HV e1 e2
  have hc1 : c / 256 % 8 < 8 := Nat.mod_lt _ (by decide)
  have hc2 : c / 2048 < 8 := by omega
  generalize c / 256 % 8 = c1 at HV e1 hc1
  generalize c / 2048 = c2 at HV e2 hc2
  have q1 := quo_256 c1
  have q2 := quo_2048 c2
  obtain ⟨⟨l1, l2, l4, l8⟩, l16, l32, -⟩ := Vz.land_bits n hn
  have t1 : (bits .and .i64 (n : Int) 1 != 0) = _ := (Vz.and_test n 1 (by omega) (by decide)).trans l1
  have t2 : (bits .and .i64 (n : Int) 2 != 0) = _ := (Vz.and_test n 2 (by omega) (by decide)).trans l2
  have t4 : (bits .and .i64 (n : Int) 4 != 0) = _ := (Vz.and_test n 4 (by omega) (by decide)).trans l4
  have t8 : (bits .and .i64 (n : Int) 8 != 0) = _ := (Vz.and_test n 8 (by omega) (by decide)).trans l8
  have t32 : (bits .and .i64 (n : Int) 32 != 0) = _ := (Vz.and_test n 32 (by omega) (by decide)).trans l32
  have t16 : (bits .and .i64 (n : Int) 16 != 0) = _ := (Vz.and_test n 16 (by omega) (by decide)).trans l16
  clear l1 l2 l4 l8 l16 l32 hm hn hcm
  generalize (n % 2 == 1) = x1 at t1 HV
  generalize (n / 2 % 2 == 1) = x2 at t2 HV
  generalize (n / 4 % 2 == 1) = x4 at t4 HV
  generalize (n / 8 % 2 == 1) = x8 at t8 HV
  generalize (n / 32 % 2 == 1) = x32 at t32 HV
  by_cases h16 : n / 16 % 2 = 1
  · simp only [if_pos h16] at HV
    rw [show (n / 16 % 2 == 1) = true by simp [h16]] at t16
    clear h16
    go_enter Tryd.func20, Tryd.ntmps20
    go_wp2_with fail
    refine (HR.out _).mono ?_
    rintro e w1 ⟨rfl, rfl⟩
    go_wp2_with fail
    refine (HC.out _).mono ?_
    rintro e w1 ⟨rfl, rfl⟩
    go_wp2_with go_in
    refine bodyPost_ret (v := .agg #[.int .i64 c2, .int .i64 c1, .bool x1, .bool x2, .bool x4, .bool x8, .bool x32]) (by simp [results, Tryd.results20, go_sem]) rfl ⟨by rw [HV.out], (((Below.refl _ _).alloc (Nat.le_refl _) _).alloc (by simp) _).alloc (by simp; omega) _⟩
  · simp only [if_neg h16] at HV
    rw [show (n / 16 % 2 == 1) = false by simp [h16]] at t16
    clear h16
    go_enter Tryd.func20, Tryd.ntmps20
    go_wp2_with fail
    refine (HR.out _).mono ?_
    rintro e w1 ⟨rfl, rfl⟩
    go_wp2_with fail
    refine (HC.out _).mono ?_
    rintro e w1 ⟨rfl, rfl⟩
    go_wp2_with go_in
    refine bodyPost_ret (v := .agg #[.int .i64 c1, .int .i64 c2, .bool x1, .bool x2, .bool x4, .bool x8, .bool x32]) (by simp [results, Tryd.results20, go_sem]) rfl ⟨by rw [HV.out], (((Below.refl _ _).alloc (Nat.le_refl _) _).alloc (by simp) _).alloc (by simp; omega) _⟩

end Go.Proofs.YtjfnmjgfbkcaaaaDoor
