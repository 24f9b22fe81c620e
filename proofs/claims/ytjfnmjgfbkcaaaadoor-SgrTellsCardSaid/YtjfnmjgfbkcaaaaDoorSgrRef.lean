/- Walks: Of, one, paint, Number, Apply of vizardref13. -/
import Derived.Test.YtjfnmjgfbkcaaaaDoorSgrApply
import Derived.BigQuiet
import Derived.Deep.QuietTactic
namespace Go.Proofs.YtjfnmjgfbkcaaaaDoor
open Go.RowKit

/-- Attributes told one by one. -/
structure Lk where
  b0 : Bool
  b1 : Bool
  b2 : Bool
  b3 : Bool
  b4 : Bool
  b5 : Bool
  b6 : Bool
  f : Int
  g : Int
def Lk.v (k : Lk) : Value := .agg #[.bool k.b0, .bool k.b1, .bool k.b2, .bool k.b3, .bool k.b4, .bool k.b5, .bool k.b6, .int .i64 k.f, .int .i64 k.g]
def Lk.zero : Lk := ⟨false, false, false, false, false, false, false, 0, 0⟩
def lkOf (n : Nat) : Lk := ⟨(n : Int) % 2 == 1, (n : Int) / 2 % 2 == 1, (n : Int) / 4 % 2 == 1, (n : Int) / 8 % 2 == 1, (n : Int) / 16 % 2 == 1, (n : Int) / 32 % 2 == 1, (n : Int) / 64 % 2 == 1, (n : Int) / 256 % 8, (n : Int) / 2048⟩
def Lk.paint (k : Lk) : Lk := if k.b6 = true then k else { k with b6 := true, f := 7, g := 0 }

/-- What a number makes, told one by one. -/
def Lk.one (k : Lk) (x : Int) : Lk :=
  if x = 0 then Lk.zero
  else if x = 1 then { k with b0 := true }
  else if x = 2 then { k with b1 := true }
  else if x = 4 then { k with b2 := true }
  else if x = 5 then { k with b3 := true }
  else if x = 7 then { k with b4 := true }
  else if x = 8 then { k with b5 := true }
  else if x = 22 then { k with b0 := false, b1 := false }
  else if x = 24 then { k with b2 := false }
  else if x = 25 then { k with b3 := false }
  else if x = 27 then { k with b4 := false }
  else if x = 28 then { k with b5 := false }
  else if x = 39 then (if k.b6 = true then { k with f := 7 } else k)
  else if x = 49 then (if k.b6 = true then { k with g := 0 } else k)
  else if 30 ≤ x ∧ x ≤ 37 then { k.paint with f := x - 30 }
  else if 40 ≤ x ∧ x ≤ 47 then { k.paint with g := x - 40 }
  else k

set_option maxHeartbeats 4000000 in
theorem paint_any (k : Lk) (w : World) :
    Calls Tryd.prog 39 #[k.v] w fun e w' => e = .returned k.paint.v ∧ Below w.heap.size w w' := by
  obtain ⟨b0, b1, b2, b3, b4, b5, b6, f, g⟩ := k
  cases b6
  all_goals
    simp only [Lk.paint, Lk.v, Bool.false_eq_true, if_false, if_true]
    go_enter Tryd.func39, Tryd.ntmps39
    go_wp2
    refine bodyPost_ret (v := .agg #[_, _, _, _, _, _, _, _, _]) (by simp [results, Tryd.results39, go_sem]) rfl ⟨rfl, ?_⟩
    exact ((Below.refl _ _).alloc (Nat.le_refl _) _).alloc (by simp) _

set_option maxHeartbeats 4000000 in
theorem rof_no (a : Int) (hm : Vz.mayI a = false) (w : World) :
    Calls Tryd.prog 11 #[.int .i64 a] w fun e w' => e = .returned (.tuple #[Lk.zero.v, .bool false]) ∧ Below w.heap.size w w' := by
  by_cases h0 : a < 0
  · clear hm
    go_enter Tryd.func11, Tryd.ntmps11
    go_wp2
    refine bodyPost_ret (v := .tuple #[Lk.zero.v, .bool false]) (by simp [results, Tryd.results11, go_sem]; rfl) rfl ⟨rfl, (Below.refl _ _).alloc (Nat.le_refl _) _⟩
  by_cases h1 : 16384 ≤ a
  · clear hm
    go_enter Tryd.func11, Tryd.ntmps11
    go_wp2
    refine bodyPost_ret (v := .tuple #[Lk.zero.v, .bool false]) (by simp [results, Tryd.results11, go_sem]; rfl) rfl ⟨rfl, (Below.refl _ _).alloc (Nat.le_refl _) _⟩
  have h2 : 0 ≤ a := by omega
  have h3 : a < 16384 := by omega
  clear h0 h1
  by_cases h7 : (a / 128 % 2 == 1) = true
  · clear hm
    go_enter Tryd.func11, Tryd.ntmps11
    go_wp2
    refine bodyPost_ret (v := .tuple #[Lk.zero.v, .bool false]) (by simp [results, Tryd.results11, go_sem]; rfl) rfl ⟨rfl, ((Below.refl _ _).alloc (Nat.le_refl _) _).alloc (by simp) _⟩
  · have h7' : (a / 128 % 2 == 1) = false := by simpa using h7
    have h6 : (a / 64 % 2 == 1) = false ∧ 64 ≤ a := by
      unfold Vz.mayI at hm
      rw [decide_eq_true h2, decide_eq_true h3, h7'] at hm
      simp at hm
      exact ⟨by simp; omega, hm.2⟩
    obtain ⟨h6, h64⟩ := h6
    have hp : 0 < a / 256 % 8 + a / 2048 := by
      simp at h7' h6
      omega
    clear hm h7
    go_enter Tryd.func11, Tryd.ntmps11
    go_wp2
    refine bodyPost_ret (v := .tuple #[Lk.zero.v, .bool false]) (by simp [results, Tryd.results11, go_sem]; rfl) rfl ⟨rfl, ((Below.refl _ _).alloc (Nat.le_refl _) _).alloc (by simp) _⟩

set_option maxHeartbeats 4000000 in
theorem rof_yes (n : Nat) (hm : Vz.MayP n) (w : World) :
    Calls Tryd.prog 11 #[.int .i64 n] w fun e w' => e = .returned (.tuple #[(lkOf n).v, .bool true]) ∧ Below w.heap.size w w' := by
  have h3 := hm.1
  have h7 : ((n : Int) / 128 % 2 == 1) = false := by have := hm.2.1; simp; omega
  by_cases h6 : n / 64 % 2 = 1
  · have h6' : ((n : Int) / 64 % 2 == 1) = true := by simp; omega
    have HV : Hid ((lkOf n).v = .agg #[.bool ((n : Int) % 2 == 1), .bool ((n : Int) / 2 % 2 == 1), .bool ((n : Int) / 4 % 2 == 1), .bool ((n : Int) / 8 % 2 == 1), .bool ((n : Int) / 16 % 2 == 1), .bool ((n : Int) / 32 % 2 == 1), .bool true, .int .i64 ((n : Int) / 256 % 8), .int .i64 ((n : Int) / 2048)]) := by show _ = _; unfold lkOf Lk.v; rw [h6']
    clear hm h6
    go_enter Tryd.func11, Tryd.ntmps11
    go_wp2
    refine bodyPost_ret (v := .tuple #[(lkOf n).v, .bool true]) (by rw [HV.out]; simp [results, Tryd.results11, go_sem]) rfl ⟨rfl, ((Below.refl _ _).alloc (Nat.le_refl _) _).alloc (by simp) _⟩
  · have h6' : ((n : Int) / 64 % 2 == 1) = false := by simp; omega
    have hl := Vz.mayP_small n hm (by omega)
    have hp : ¬ (0 : Int) < (n : Int) / 256 % 8 + (n : Int) / 2048 := by omega
    have HV : Hid ((lkOf n).v = .agg #[.bool ((n : Int) % 2 == 1), .bool ((n : Int) / 2 % 2 == 1), .bool ((n : Int) / 4 % 2 == 1), .bool ((n : Int) / 8 % 2 == 1), .bool ((n : Int) / 16 % 2 == 1), .bool ((n : Int) / 32 % 2 == 1), .bool false, .int .i64 ((n : Int) / 256 % 8), .int .i64 ((n : Int) / 2048)]) := by show _ = _; unfold lkOf Lk.v; rw [h6']
    clear hm h6 hl
    go_enter Tryd.func11, Tryd.ntmps11
    go_wp2
    refine bodyPost_ret (v := .tuple #[(lkOf n).v, .bool true]) (by rw [HV.out]; simp [results, Tryd.results11, go_sem]) rfl ⟨rfl, ((Below.refl _ _).alloc (Nat.le_refl _) _).alloc (by simp) _⟩
end Go.Proofs.YtjfnmjgfbkcaaaaDoor
