/- Walks: bare of a step, within. -/
import Derived.Test.YtfkbgnonkgaobaaDoorScrOpen
import Derived.Test.YtfkbgnonkgaobaaDoorWords
import Derived.Maps.AppendAt
import Derived.WalkSpells
namespace Go.Proofs.YtfkbgnonkgaobaaDoor
open Go.RowKit
set_option linter.unusedSimpArgs false
set_option linter.unusedVariables false

set_option maxHeartbeats 2000000 in
theorem bare_any (x : Vz.Stp) (w : World) : Calls Tryd.prog 18 #[stpV x] w fun e w' => e = .returned (stpV x.bare) ∧ Below w.heap.size w w' := by
  obtain ⟨d, t, k, c, s, l, r, o, z⟩ := x
  have hfin : ∀ v : Value, v = stpV (Vz.Stp.bare ⟨d, t, k, c, s, l, r, o, z⟩) → Ending.returned v = .returned (stpV (Vz.Stp.bare ⟨d, t, k, c, s, l, r, o, z⟩)) := fun v h => by rw [h]
  have HF := Lib.hid hfin
  clear hfin
  have hb : ∀ a b c : Obj, Below w.heap.size w (((w.alloc a).alloc b).alloc c) := fun a b c => (((Below.refl _ _).alloc (Nat.le_refl _) _).alloc (by simp) _).alloc (by simp; omega) _
  have HB := Lib.hid hb
  clear hb
  have hds : d = 1 ∨ d = 2 ∨ d = 5 ∨ d = 6 ∨ (d ≠ 1 ∧ d ≠ 2 ∧ d ≠ 5 ∧ d ≠ 6) := by omega
  rcases hds with rfl | rfl | rfl | rfl | ⟨h1, h2, h5, h6⟩
  · have HV : Hid (Value.agg #[.int .i64 1, .string ⟨t.toArray⟩, .int .i64 0, .int .i64 0, .bool false, .bool false, .int .i64 0, .int .i64 0, .int .i64 0] = stpV (Vz.Stp.bare ⟨1, t, k, c, s, l, r, o, z⟩)) := by
      show _ = _
      unfold Vz.Stp.bare stpV Vz.Stp.nil
      simp
    unfold stpV
    simp only
    go_enter Tryd.func18, Tryd.ntmps18
    go_wp2
    refine bodyPost_ret (v := .agg #[_, _, _, _, _, _, _, _, _]) (by simp [results, Tryd.results18, go_sem]) rfl ⟨HF.out _ HV.out, HB.out _ _ _⟩
  · have HV : Hid (Value.agg #[.int .i64 2, .string ⟨#[]⟩, .int .i64 k, .int .i64 c, .bool s, .bool l, .int .i64 0, .int .i64 0, .int .i64 0] = stpV (Vz.Stp.bare ⟨2, t, k, c, s, l, r, o, z⟩)) := by
      show _ = _
      unfold Vz.Stp.bare stpV Vz.Stp.nil
      simp
    unfold stpV
    simp only
    go_enter Tryd.func18, Tryd.ntmps18
    go_wp2
    refine bodyPost_ret (v := .agg #[_, _, _, _, _, _, _, _, _]) (by simp [results, Tryd.results18, go_sem]) rfl ⟨HF.out _ HV.out, HB.out _ _ _⟩
  · have HV : Hid (Value.agg #[.int .i64 5, .string ⟨#[]⟩, .int .i64 0, .int .i64 0, .bool false, .bool false, .int .i64 r, .int .i64 o, .int .i64 0] = stpV (Vz.Stp.bare ⟨5, t, k, c, s, l, r, o, z⟩)) := by
      show _ = _
      unfold Vz.Stp.bare stpV Vz.Stp.nil
      simp
    unfold stpV
    simp only
    go_enter Tryd.func18, Tryd.ntmps18
    go_wp2
    refine bodyPost_ret (v := .agg #[_, _, _, _, _, _, _, _, _]) (by simp [results, Tryd.results18, go_sem]) rfl ⟨HF.out _ HV.out, HB.out _ _ _⟩
  · have HV : Hid (Value.agg #[.int .i64 6, .string ⟨#[]⟩, .int .i64 0, .int .i64 0, .bool false, .bool false, .int .i64 0, .int .i64 0, .int .i64 z] = stpV (Vz.Stp.bare ⟨6, t, k, c, s, l, r, o, z⟩)) := by
      show _ = _
      unfold Vz.Stp.bare stpV Vz.Stp.nil
      simp
    unfold stpV
    simp only
    go_enter Tryd.func18, Tryd.ntmps18
    go_wp2
    refine bodyPost_ret (v := .agg #[_, _, _, _, _, _, _, _, _]) (by simp [results, Tryd.results18, go_sem]) rfl ⟨HF.out _ HV.out, HB.out _ _ _⟩
  · have HV : Hid (Value.agg #[.int .i64 d, .string ⟨#[]⟩, .int .i64 0, .int .i64 0, .bool false, .bool false, .int .i64 0, .int .i64 0, .int .i64 0] = stpV (Vz.Stp.bare ⟨d, t, k, c, s, l, r, o, z⟩)) := by
      show _ = _
      unfold Vz.Stp.bare stpV Vz.Stp.nil
      simp [h1, h2, h5, h6]
    have b1 : (d == 1) = false := by simpa using h1
    have b2 : (d == 2) = false := by simpa using h2
    have b5 : (d == 5) = false := by simpa using h5
    have b6 : (d == 6) = false := by simpa using h6
    clear h1 h2 h5 h6
    unfold stpV
    simp only
    go_enter Tryd.func18, Tryd.ntmps18
    go_wp2
    refine bodyPost_ret (v := .agg #[_, _, _, _, _, _, _, _, _]) (by simp [results, Tryd.results18, go_sem]) rfl ⟨HF.out _ HV.out, HB.out _ _ _⟩

/-! ### within -/
theorem clo_any (m n : Int) (bx : Nat) (w : World) (h : w.cell? ⟨bx, 0, none⟩ = some (.int .i64 m)) :
    Calls Tryd.prog 30 #[.int .i64 n, .pointer (some ⟨bx, 0, none⟩)] w fun e w' => e = .returned (.bool (!(Vz.small n m))) ∧ w = w' := by
  by_cases h0 : n < 0
  · have HR : Hid (Vz.small n m = false) := by show _ = _; unfold Vz.small; rw [decide_eq_false (by omega : ¬ 0 ≤ n)]; rfl
    go_enter Tryd.func30, Tryd.ntmps30
    go_wp2
    go_ret
    exact ⟨ret1 (by rw [HR.out]; rfl), rfl⟩
  · have HR : Hid ((!(Vz.small n m)) = decide (m < n)) := by
      show _ = _
      unfold Vz.small
      rw [decide_eq_true (by omega : 0 ≤ n), Bool.true_and, ← decide_not]
      exact decide_eq_decide.2 (by omega)
    go_enter Tryd.func30, Tryd.ntmps30
    go_wp2
    go_ret
    exact ⟨ret1 (by rw [HR.out]; rfl), rfl⟩

set_option maxHeartbeats 1000000 in
theorem index_any (m : Int) (bx B : Nat) (A : Option Addr) (n c : Nat) (L : List Int) (w : World) (hI : Ints B w A n L) (hn : n ≤ 1000) (hB : B ≤ w.heap.size) (h : w.cell? ⟨bx, 0, none⟩ = some (.int .i64 m)) :
    Calls Tryd.prog 44 #[.slice A n c, .func (.func 30) #[] #[.pointer (some ⟨bx, 0, none⟩)]] w fun e w' => (∃ r : Int, e = .returned (.int .i64 r) ∧ decide (0 ≤ r) = !(L.all fun x => Vz.small x m)) ∧ w' = w := by
  have HC := Lib.hid (fun k => clo_any m k bx w h)
  have HI := Lib.hid hI
  clear h hI
  go_enter Tryd.func44, Tryd.ntmps44
  go_wp2
  go_loopw [8] (fun i wr => ∃ k : Nat, k ≤ n ∧ i = .int .i64 k ∧ wr = w ∧ (∀ j, j < k → Vz.small (L[j]?.getD 0) m = true)) (fun i _ => n - (intOf i).toNat)
  case atStart => exact ⟨0, Nat.zero_le _, rfl, rfl, fun j hj => absurd hj (by omega)⟩
  case round =>
    obtain ⟨k, hk, rfl, rfl, hj⟩ := hrel
    have HJ := Lib.hid hj
    clear hj
    by_cases hlt : k < n
    · obtain ⟨b, o, rfl, hc⟩ := HI.out.at_ hlt
      have HK := Lib.hid (HC.out (L[k]?.getD 0))
      have hkL : k < L.length := by have := HI.out.1; omega
      have HE := Lib.hid (rfl : L[k]?.getD 0 = L[k]?.getD 0)
      generalize hx : L[k]?.getD 0 = x at hc HK
      have HX := Lib.hid hx
      clear hx HE
      cases hs : Vz.small x m
      all_goals
        rw [hs] at HK
        have HS := Lib.hid hs
        clear hs
        go_wp2_with (go_at_call 30; refine HK.out.mono ?_; rintro e w1 ⟨rfl, rfl⟩)
      · go_ret
        refine ⟨⟨k, rfl, ?_⟩, rfl⟩
        have : (L.all fun x => Vz.small x m) = false := by
          rw [List.all_eq_false]
          refine ⟨x, ?_, by rw [HS.out]; decide⟩
          rw [← HX.out, List.getElem?_eq_getElem hkL]
          exact List.getElem_mem hkL
        rw [this]
        exact decide_eq_true (by omega)
      · exact ⟨⟨k + 1, by omega, by go_num, by first | rfl | trivial, fun j hj => by
          rcases Nat.lt_succ_iff_lt_or_eq.1 hj with h | h
          · exact HJ.out j h
          · rw [h, HX.out]; exact HS.out⟩, by simp [intOf]; omega⟩
    · have hkn : k = n := by omega
      have HN := Lib.hid hkn
      go_wp2
      go_ret
      refine ⟨⟨-1, rfl, ?_⟩, rfl⟩
      have : (L.all fun x => Vz.small x m) = true := by
        rw [List.all_eq_true]
        intro x hx
        obtain ⟨j, hj, rfl⟩ := List.getElem_of_mem hx
        have := HJ.out j (by have := HI.out.1; have := HN.out; omega)
        rwa [List.getElem?_eq_getElem hj] at this
      rw [this]
      rfl

set_option maxHeartbeats 1000000 in
theorem within_any (m : Int) (A : Option Addr) (n c : Nat) (L : List Int) (w : World) (hI : Ints w.heap.size w A n L) (hn : n ≤ 1000) :
    Calls Tryd.prog 19 #[.int .i64 m, .slice A n c] w fun e w' => e = .returned (.bool (L.all fun x => Vz.small x m)) ∧ Below w.heap.size w w' := by
  have hB1 : Below w.heap.size w (w.alloc (.cells #[.int .i64 m] 3)) := (Below.refl _ _).alloc (Nat.le_refl _) _
  have hc1 : (w.alloc (.cells #[.int .i64 m] 3)).cell? ⟨w.heap.size, 0, none⟩ = some (.int .i64 m) := cell_one_new w (.int .i64 m) 3 0 _ rfl
  have HX := Lib.hid (index_any m w.heap.size w.heap.size A n c L _ (hI.below hB1 (Nat.le_refl _)) hn hB1.size hc1)
  have HBB := Lib.hid hB1
  clear hB1 hc1 hI
  generalize (L.all fun x => Vz.small x m) = r at HX
  go_enter Tryd.func19, Tryd.ntmps19
  go_wp2_with (first | (go_at_call 44; refine HX.out.mono ?_; rintro e w1 ⟨⟨q, rfl, hq⟩, rfl⟩) | go_in)
  go_ret
  exact ⟨rfl, HBB.out⟩
end Go.Proofs.YtfkbgnonkgaobaaDoor
