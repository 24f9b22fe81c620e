/- The walk of AttrApart. -/
import Derived.Test.YtdakiocgaihcnaaDoorAttrRef
import Derived.Test.YtdakiocgaihcnaaDoorParsePlain
namespace Vz
theorem paintI_both (n : Nat) (f b : Int) (hf : 0 ≤ f) (hb : 0 ≤ b) : paintI n f b = (n : Int) % 64 + 64 + 256 * f + 2048 * b := by
  unfold paintI pickF pickB
  rw [if_pos hf, if_pos hb]
theorem paint_may_ok (k : Nat) (f b : Int) (hk : k < 64) (hf : 0 ≤ f) (hf' : f ≤ 7) (hb : 0 ≤ b) (hb' : b ≤ 7) : mayI ((k : Int) + 64 + 256 * f + 2048 * b) = true := by
  unfold mayI
  have h1 : ((k : Int) + 64 + 256 * f + 2048 * b) / 128 % 2 = 0 := by omega
  have h2 : ((k : Int) + 64 + 256 * f + 2048 * b) / 64 % 2 = 1 := by omega
  rw [h1, h2, decide_eq_true (show 0 ≤ (k : Int) + 64 + 256 * f + 2048 * b by omega), decide_eq_true (show (k : Int) + 64 + 256 * f + 2048 * b < 16384 by omega)]
  rfl
theorem paint_cols (k : Nat) (f b : Int) (hk : k < 64) (hf : 0 ≤ f) (hf' : f ≤ 7) (hb : 0 ≤ b) (hb' : b ≤ 7) (h16 : k / 16 % 2 = 0) (h32 : k / 32 % 2 = 0) : coloursI ((k : Int) + 64 + 256 * f + 2048 * b) = (f, b) := by
  rw [coloursI_may (paint_may_ok k f b hk hf hf' hb hb')]
  have h1 : ((k : Int) + 64 + 256 * f + 2048 * b) / 64 % 2 = 1 := by omega
  have h2 : ((k : Int) + 64 + 256 * f + 2048 * b) / 16 % 2 = 0 := by omega
  have h3 : ((k : Int) + 64 + 256 * f + 2048 * b) / 32 % 2 = 0 := by omega
  have h4 : ((k : Int) + 64 + 256 * f + 2048 * b) / 256 % 8 = f := by omega
  have h5 : ((k : Int) + 64 + 256 * f + 2048 * b) / 2048 % 8 = b := by omega
  rw [h1, h2, h3, h4, h5]
  rfl
end Vz
namespace Go.Proofs.YtdakiocgaihcnaaDoor
open Go.RowKit

def fourV (l0 l1 l2 l3 : Int) : Value := .agg #[.int .i64 l0, .int .i64 l1, .int .i64 l2, .int .i64 l3]

theorem awake_after (w w1 : World) (t : TypeId) (fr : Nat × Nat) (hg : w.heap[0]? = some (.cells names12a t fr)) (hB : Below w.heap.size w w1) :
    Calls Tryd.prog 12 #[] w1 fun e w' => e = .returned (.bool true) ∧ Below w.heap.size w w' := by
  have hglt : 0 < w.heap.size := (Array.getElem?_eq_some_iff.1 hg).1
  refine (awake_any w1 t fr ((hB.block 0 hglt).trans hg)).mono ?_
  rintro e w2 ⟨rfl, hB2⟩
  exact ⟨rfl, below_join hB hB2⟩
theorem names_after (n : Nat) (hm : Vz.mayI n = true) (w w1 : World) (t : TypeId) (fr : Nat × Nat) (hg : w.heap[0]? = some (.cells names12a t fr)) (hB : Below w.heap.size w w1) :
    Calls Tryd.prog 14 #[.int .i64 n] w1 fun e w' => e = .returned (.string ⟨(Vz.namesL n).toArray⟩) ∧ Below w.heap.size w w' ∧ Below w1.heap.size w1 w' := by
  have hglt : 0 < w.heap.size := (Array.getElem?_eq_some_iff.1 hg).1
  refine (names_any n hm w1 t fr ((hB.block 0 hglt).trans hg)).mono ?_
  rintro e w2 ⟨rfl, hB2⟩
  exact ⟨rfl, below_join hB hB2, hB2⟩

theorem strs_eq (n m : Nat) (hn : Vz.mayI n = true) (hm : Vz.mayI m = true) : ((⟨(Vz.namesL n).toArray⟩ : ByteArray).toList == (⟨(Vz.namesL m).toArray⟩ : ByteArray).toList) = (n == m) := by
  rw [ByteArray.toList_eq, ByteArray.toList_eq]
  by_cases h : n = m
  · subst h
    simp
  · have h1 : ¬ (Vz.namesL n = Vz.namesL m) := fun e => h (Vz.names_inj n m hn hm e)
    rw [beq_eq_false_iff_ne.2 h, beq_eq_false_iff_ne]
    simpa using h1

/-- The paints of AttrApart. -/
theorem paints (n : Nat) (l0 l1 l2 l3 : Int) (a0 : 0 ≤ l0) (b0 : l0 ≤ 7) (a1 : 0 ≤ l1) (b1 : l1 ≤ 7) (a2 : 0 ≤ l2) (b2 : l2 ≤ 7) (a3 : 0 ≤ l3) (b3 : l3 ≤ 7) :
    ∃ x z : Nat, Vz.paintI n l0 l1 = x ∧ Vz.mayI x = true ∧ Vz.paintI x l2 l3 = z ∧ Vz.paintI n l2 l3 = z ∧ z < 16384 ∧ Vz.mayI z = true ∧ (n / 16 % 2 = 0 → n / 32 % 2 = 0 → Vz.coloursI z = (l2, l3)) := by
  have h1 := Vz.paintI_both n l0 l1 a0 a1
  have h2 := Vz.paintI_both n l2 l3 a2 a3
  obtain ⟨x, hx⟩ : ∃ x : Nat, Vz.paintI n l0 l1 = x := ⟨(Vz.paintI n l0 l1).toNat, by omega⟩
  obtain ⟨z, hz⟩ : ∃ z : Nat, Vz.paintI n l2 l3 = z := ⟨(Vz.paintI n l2 l3).toNat, by omega⟩
  have h3 := Vz.paintI_both x l2 l3 a2 a3
  have hk : ((n % 64 : Nat) : Int) = (n : Int) % 64 := by omega
  have hx64 : (x : Int) % 64 = (n : Int) % 64 := by omega
  refine ⟨x, z, hx, ?_, by omega, hz, by omega, ?_, ?_⟩
  · rw [← hx, h1, ← hk]; exact Vz.paint_may_ok _ _ _ (by omega) a0 b0 a1 b1
  · rw [← hz, h2, ← hk]; exact Vz.paint_may_ok _ _ _ (by omega) a2 b2 a3 b3
  · intro h16 h32
    rw [← hz, h2, ← hk]
    exact Vz.paint_cols _ _ _ (by omega) a2 b2 a3 b3 (by omega) (by omega)

set_option maxRecDepth 100000 in
set_option maxHeartbeats 4000000 in
theorem law_apart (a b l0 l1 l2 l3 : Int) (h1 : -9223372036854775808 ≤ a) (h2 : a < 9223372036854775808) (h3 : -9223372036854775808 ≤ b) (h4 : b < 9223372036854775808) (w : World) (t : TypeId) (fr : Nat × Nat) (hg : w.heap[0]? = some (.cells names12a t fr)) :
    Calls Tryd.prog 4 #[.int .i64 a, .int .i64 b, fourV l0 l1 l2 l3] w fun e w' => e = .returned (.bool true) ∧ Below w.heap.size w w' := by
  have HR := Lib.hid (fun W => rmay_any a h1 h2 W)
  have HR2 := Lib.hid (fun W => rmay_any b h3 h4 W)
  have HAW := Lib.hid (fun W => awake_after w W t fr hg)
  unfold fourV
  cases hm : Vz.mayI a with
  | false =>
    rw [hm] at HR
    clear hm hg h1 h2 h3 h4
    go_enter Tryd.func4, Tryd.ntmps4
    go_wp2_with (first
      | (go_at_call 11; refine (HR.out _).mono ?_; rintro e w1 ⟨rfl, rfl⟩))
    refine (HAW.out _ ((Below.refl _ _).alloc (Nat.le_refl _) _)).mono ?_
    rintro e w2 ⟨rfl, hB2⟩
    go_wp2_with fail
    go_ret
    exact ⟨rfl, hB2⟩
  | true =>
    rw [hm] at HR
    cases hm2 : Vz.mayI b with
    | false =>
      rw [hm2] at HR2
      clear hm hm2 hg h1 h2 h3 h4
      go_enter Tryd.func4, Tryd.ntmps4
      go_wp2_with fail
      refine (HR.out _).mono ?_
      rintro e w1 ⟨rfl, rfl⟩
      go_wp2_with fail
      refine (HR2.out _).mono ?_
      rintro e w1 ⟨rfl, rfl⟩
      go_wp2_with fail
      refine (HAW.out _ ((Below.refl _ _).alloc (Nat.le_refl _) _)).mono ?_
      rintro e w2 ⟨rfl, hB2⟩
      go_wp2_with fail
      go_ret
      exact ⟨rfl, hB2⟩
    | true =>
      rw [hm2] at HR2
      obtain ⟨ha, ha'⟩ := Vz.mayI_lt hm
      obtain ⟨n, rfl⟩ := Int.eq_ofNat_of_zero_le ha
      obtain ⟨hb, hb'⟩ := Vz.mayI_lt hm2
      obtain ⟨m, rfl⟩ := Int.eq_ofNat_of_zero_le hb
      have hXY := strs_eq n m hm hm2
      have HN1 := Lib.hid (fun W h => names_after n hm w W t fr hg h)
      have HN2 := Lib.hid (fun W h => names_after m hm2 w W t fr hg h)
      have HM := Lib.hid hm
      generalize (⟨(Vz.namesL n).toArray⟩ : ByteArray) = x at hXY HN1
      generalize (⟨(Vz.namesL m).toArray⟩ : ByteArray) = y at hXY HN2
      have hT : (!(x.toList == y.toList) == ((n : Int) == (m : Int))) = false := by
        rw [hXY, show ((n : Int) == (m : Int)) = (n == m) by rw [Bool.eq_iff_iff]; simp only [beq_iff_eq]; omega]
        cases (n == m) <;> rfl
      clear hXY
      obtain ⟨x0, z0, PX⟩ : ∃ x z : Nat, (0 ≤ l0 ∧ l0 ≤ 7) → (0 ≤ l1 ∧ l1 ≤ 7) → (0 ≤ l2 ∧ l2 ≤ 7) → (0 ≤ l3 ∧ l3 ≤ 7) → Vz.paintI n l0 l1 = x ∧ Vz.mayI x = true ∧ Vz.paintI x l2 l3 = z ∧ Vz.paintI n l2 l3 = z ∧ z < 16384 ∧ Vz.mayI z = true ∧ (n / 16 % 2 = 0 → n / 32 % 2 = 0 → Vz.coloursI z = (l2, l3)) := by
        by_cases hh : (0 ≤ l0 ∧ l0 ≤ 7) ∧ (0 ≤ l1 ∧ l1 ≤ 7) ∧ (0 ≤ l2 ∧ l2 ≤ 7) ∧ (0 ≤ l3 ∧ l3 ≤ 7)
        · obtain ⟨⟨e0, f0⟩, ⟨e1, f1⟩, ⟨e2, f2⟩, e3, f3⟩ := hh
          obtain ⟨x, z, h⟩ := paints n l0 l1 l2 l3 e0 f0 e1 f1 e2 f2 e3 f3
          exact ⟨x, z, fun _ _ _ _ => h⟩
        · exact ⟨0, 0, fun g0 g1 g2 g3 => absurd ⟨g0, g1, g2, g3⟩ hh⟩
      have PXH := Lib.hid PX
      clear PX
      clear hm hm2 hg h1 h2 h3 h4 ha ha' hb hb'
      have hB0 : Below w.heap.size w (w.alloc (.cells #[.int .i64 l0, .int .i64 l1, .int .i64 l2, .int .i64 l3] 31)) := (Below.refl _ _).alloc (Nat.le_refl _) _
      have hrow : (w.alloc (.cells #[.int .i64 l0, .int .i64 l1, .int .i64 l2, .int .i64 l3] 31)).heap[w.heap.size]? = some (.cells #[.int .i64 l0, .int .i64 l1, .int .i64 l2, .int .i64 l3] 31 (0, 0)) := by
        show (w.heap.push _)[w.heap.size]? = _
        simp
      have hsz : w.heap.size < (w.alloc (.cells #[.int .i64 l0, .int .i64 l1, .int .i64 l2, .int .i64 l3] 31)).heap.size := by rw [World.size_alloc]; omega
      have HROW := Lib.hid hrow
      have HSZ := Lib.hid hsz
      have HB0 := Lib.hid hB0
      clear hrow hsz hB0
      go_enter Tryd.func4, Tryd.ntmps4
      go_wp2_with fail
      refine (HR.out _).mono ?_
      rintro e w1 ⟨rfl, rfl⟩
      go_wp2_with fail
      refine (HR2.out _).mono ?_
      rintro e w1 ⟨rfl, rfl⟩
      go_wp2_with fail
      refine (HN1.out _ HB0.out).mono ?_
      rintro e w1 ⟨rfl, hB1, hC1⟩
      go_wp2_with fail
      refine (HN2.out _ hB1).mono ?_
      rintro e w2 ⟨rfl, hB2, hC2⟩
      have hrow2 : w2.heap[w.heap.size]? = some (.cells #[.int .i64 l0, .int .i64 l1, .int .i64 l2, .int .i64 l3] 31 (0, 0)) :=
        (hC2.block _ (Nat.lt_of_lt_of_le HSZ.out hC1.size)).trans ((hC1.block _ HSZ.out).trans HROW.out)
      have c0 : w2.cell? ⟨w.heap.size, 0, none⟩ = some (.int .i64 l0) := cell_of_row _ _ _ _ _ _ hrow2
      have c1 : w2.cell? ⟨w.heap.size, 1, none⟩ = some (.int .i64 l1) := cell_of_row _ _ _ _ _ _ hrow2
      have c2 : w2.cell? ⟨w.heap.size, 2, none⟩ = some (.int .i64 l2) := cell_of_row _ _ _ _ _ _ hrow2
      have c3 : w2.cell? ⟨w.heap.size, 3, none⟩ = some (.int .i64 l3) := cell_of_row _ _ _ _ _ _ hrow2
      have HH1 := Lib.hid hC1
      have HH2 := Lib.hid hC2
      have HB1 := Lib.hid hB1
      have HB2 := Lib.hid hB2
      clear hrow2 hC1 hC2 hB1 hB2
      go_wp2_with fail
      go_loopw [6, 7] (fun res i wr => ∃ k q : Nat, k ≤ 4 ∧ res = .bool false ∧ i = .int .i64 k ∧ (0 < k → 0 ≤ l0 ∧ l0 ≤ 7) ∧ (1 < k → 0 ≤ l1 ∧ l1 ≤ 7) ∧ (2 < k → 0 ≤ l2 ∧ l2 ≤ 7) ∧ (3 < k → 0 ≤ l3 ∧ l3 ≤ 7) ∧ wr = w2.drewN q) (fun _ i _ => 4 - (intOf i).toNat)
      case atStart => exact ⟨0, 0, by decide, rfl, rfl, fun h => absurd h (by decide), fun h => absurd h (by decide), fun h => absurd h (by decide), fun h => absurd h (by decide), rfl⟩
      case round =>
        obtain ⟨k, q, hk, rfl, rfl, r0, r1, r2, r3, rfl⟩ := hrel
        have d0 : (w2.drewN q).cell? ⟨w.heap.size, 0, none⟩ = some (.int .i64 l0) := c0
        have d1 : (w2.drewN q).cell? ⟨w.heap.size, 1, none⟩ = some (.int .i64 l1) := c1
        have d2 : (w2.drewN q).cell? ⟨w.heap.size, 2, none⟩ = some (.int .i64 l2) := c2
        have d3 : (w2.drewN q).cell? ⟨w.heap.size, 3, none⟩ = some (.int .i64 l3) := c3
        have HAQ := Lib.hid (HAW.out (w2.drewN q) (below_drewN HB2.out q))
        obtain rfl | rfl | rfl | rfl | rfl : k = 0 ∨ k = 1 ∨ k = 2 ∨ k = 3 ∨ k = 4 := by omega
        · by_cases lo : l0 < 0
          · have LO := Lib.hid lo
            go_wp2_with (go_at_call 12; refine HAQ.out.mono ?_; rintro e w3 ⟨rfl, hB3⟩)
            go_ret
            exact ⟨rfl, hB3⟩
          · by_cases hi : 7 < l0
            · go_wp2_with (go_at_call 12; refine HAQ.out.mono ?_; rintro e w3 ⟨rfl, hB3⟩)
              go_ret
              exact ⟨rfl, hB3⟩
            · have RR : Hid (0 ≤ l0 ∧ l0 ≤ 7) := by show _ ∧ _; omega
              go_wp2_with fail
              exact ⟨⟨1, q, by decide, rfl, rfl, fun _ => RR.out, fun h => absurd h (by decide), fun h => absurd h (by decide), fun h => absurd h (by decide), rfl⟩, by simp [intOf]⟩
        · by_cases lo : l1 < 0
          · have LO := Lib.hid lo
            go_wp2_with (go_at_call 12; refine HAQ.out.mono ?_; rintro e w3 ⟨rfl, hB3⟩)
            go_ret
            exact ⟨rfl, hB3⟩
          · by_cases hi : 7 < l1
            · go_wp2_with (go_at_call 12; refine HAQ.out.mono ?_; rintro e w3 ⟨rfl, hB3⟩)
              go_ret
              exact ⟨rfl, hB3⟩
            · have RR : Hid (0 ≤ l1 ∧ l1 ≤ 7) := by show _ ∧ _; omega
              go_wp2_with fail
              exact ⟨⟨2, q, by decide, rfl, rfl, fun _ => r0 (by decide), fun _ => RR.out, fun h => absurd h (by decide), fun h => absurd h (by decide), rfl⟩, by simp [intOf]⟩
        · by_cases lo : l2 < 0
          · have LO := Lib.hid lo
            go_wp2_with (go_at_call 12; refine HAQ.out.mono ?_; rintro e w3 ⟨rfl, hB3⟩)
            go_ret
            exact ⟨rfl, hB3⟩
          · by_cases hi : 7 < l2
            · go_wp2_with (go_at_call 12; refine HAQ.out.mono ?_; rintro e w3 ⟨rfl, hB3⟩)
              go_ret
              exact ⟨rfl, hB3⟩
            · have RR : Hid (0 ≤ l2 ∧ l2 ≤ 7) := by show _ ∧ _; omega
              go_wp2_with fail
              exact ⟨⟨3, q, by decide, rfl, rfl, fun _ => r0 (by decide), fun _ => r1 (by decide), fun _ => RR.out, fun h => absurd h (by decide), rfl⟩, by simp [intOf]⟩
        · by_cases lo : l3 < 0
          · have LO := Lib.hid lo
            go_wp2_with (go_at_call 12; refine HAQ.out.mono ?_; rintro e w3 ⟨rfl, hB3⟩)
            go_ret
            exact ⟨rfl, hB3⟩
          · by_cases hi : 7 < l3
            · go_wp2_with (go_at_call 12; refine HAQ.out.mono ?_; rintro e w3 ⟨rfl, hB3⟩)
              go_ret
              exact ⟨rfl, hB3⟩
            · have RR : Hid (0 ≤ l3 ∧ l3 ≤ 7) := by show _ ∧ _; omega
              go_wp2_with fail
              exact ⟨⟨4, q, by decide, rfl, rfl, fun _ => r0 (by decide), fun _ => r1 (by decide), fun _ => r2 (by decide), fun _ => RR.out, rfl⟩, by simp [intOf]⟩
        · obtain ⟨e0, f0⟩ := r0 (by decide)
          obtain ⟨e1, f1⟩ := r1 (by decide)
          obtain ⟨e2, f2⟩ := r2 (by decide)
          obtain ⟨e3, f3⟩ := r3 (by decide)
          obtain ⟨p1, p2, p3, p4, p5, p6, p7⟩ := PXH.out ⟨e0, f0⟩ ⟨e1, f1⟩ ⟨e2, f2⟩ ⟨e3, f3⟩
          have HP1 := Lib.hid (paint_ok n l0 l1 HM.out (by omega) f0 (by omega) f1 (w2.drewN q))
          have HP2 := Lib.hid (paint_ok x0 l2 l3 p2 (by omega) f2 (by omega) f3 (w2.drewN q))
          have HP3 := Lib.hid (paint_ok n l2 l3 HM.out (by omega) f2 (by omega) f3 (w2.drewN q))
          have HCO := Lib.hid (colours_any z0 (by omega) (by omega) (w2.drewN q))
          rw [p1] at HP1
          rw [p3] at HP2
          rw [p4] at HP3
          have hn : n < 16384 := by have := Vz.mayI_lt HM.out; omega
          clear p1 p2 p3 p4 p6 r0 r1 r2 r3 e0 f0 e1 f1 e2 f2 e3 f3
          go_wp2_with fail
          refine HP1.out.mono ?_
          rintro e w3 ⟨rfl, rfl⟩
          go_wp2_with fail
          refine HP2.out.mono ?_
          rintro e w3 ⟨rfl, rfl⟩
          go_wp2_with fail
          refine HP3.out.mono ?_
          rintro e w3 ⟨rfl, rfl⟩
          go_wp2_with fail
          refine HCO.out.mono ?_
          rintro e w3 ⟨rfl, rfl⟩
          by_cases q16 : n / 16 % 2 = 0
          · by_cases q32 : n / 32 % 2 = 0
            · rw [p7 q16 q32]
              clear p7
              go_wp2_with (go_at_call 12; refine HAQ.out.mono ?_; rintro e w3 ⟨rfl, hB3⟩)
              go_ret
              exact ⟨rfl, hB3⟩
            · clear p7
              have q32' : n / 32 % 2 = 1 := by omega
              go_wp2_with (go_at_call 12; refine HAQ.out.mono ?_; rintro e w3 ⟨rfl, hB3⟩)
              go_ret
              exact ⟨rfl, hB3⟩
          · clear p7
            have q16' : n / 16 % 2 = 1 := by omega
            go_wp2_with (go_at_call 12; refine HAQ.out.mono ?_; rintro e w3 ⟨rfl, hB3⟩)
            go_ret
            exact ⟨rfl, hB3⟩
end Go.Proofs.YtdakiocgaihcnaaDoor
