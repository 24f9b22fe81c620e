import Derived.Test.YtliacdaddncmaaaGreatDoorLG
import Derived.Test.YtliacdaddncmaaaGreatDoorLC
import Derived.Test.YtliacdaddncmaaaGreatDoorLD

/- Walks: vizardref01.May and the law's Few. -/
namespace Go.Proofs.YtliacdaddncmaaaGreatDoor
open Go.RowKit
set_option linter.unusedSimpArgs false
set_option linter.unusedVariables false
attribute [local go_sem] alloc_drewN setCell_drewN World.cell?_alloc_some frozen_alloc_some

theorem may1_any (r c : Int) (w : World) : Calls Tryz.prog 60 #[.int .i64 r, .int .i64 c] w fun e w' => e = .returned (.bool (Vz.mayS r c)) ∧ w' = w := by
  have hm := Vz.mayS_iff r c
  by_cases h1 : 1 ≤ r
  · by_cases h2 : r ≤ 255
    · by_cases h3 : 1 ≤ c
      · by_cases h4 : c ≤ 255
        · have e : Vz.mayS r c = true := hm.2 (by omega)
          rw [e]
          clear hm e
          go_enter Tryz.func60, Tryz.ntmps60
          go_wp2_with fail
          go_ret
          exact ⟨by simp [h4], rfl⟩
        · have e : Vz.mayS r c = false := by cases hh : Vz.mayS r c; rfl; exact absurd (hm.1 hh) (by omega)
          rw [e]
          clear hm e
          go_enter Tryz.func60, Tryz.ntmps60
          go_wp2_with fail
          go_ret
          exact ⟨by simp [h4]; try omega, rfl⟩
      · have e : Vz.mayS r c = false := by cases hh : Vz.mayS r c; rfl; exact absurd (hm.1 hh) (by omega)
        have h3' : c < 1 := by omega
        rw [e]
        clear hm e
        go_enter Tryz.func60, Tryz.ntmps60
        go_wp2_with fail
        go_ret
        exact ⟨by simp [h3], rfl⟩
    · have e : Vz.mayS r c = false := by cases hh : Vz.mayS r c; rfl; exact absurd (hm.1 hh) (by omega)
      have h2' : 255 < r := by omega
      rw [e]
      clear hm e
      go_enter Tryz.func60, Tryz.ntmps60
      go_wp2_with fail
      go_ret
      exact ⟨by simp [h2], rfl⟩
  · have e : Vz.mayS r c = false := by cases hh : Vz.mayS r c; rfl; exact absurd (hm.1 hh) (by omega)
    have h1' : r < 1 := by omega
    rw [e]
    clear hm e
    go_enter Tryz.func60, Tryz.ntmps60
    go_wp2_with fail
    go_ret
    exact ⟨by simp [h1], rfl⟩
/-- A call that Few lets pass. -/
def fewO (x : Vz.Op) : Prop := x.ask = 12 → Vz.mayS x.a.row x.a.col = true → x.a.row ≤ 8 ∧ x.a.col ≤ 20
set_option maxRecDepth 100000 in
set_option maxHeartbeats 8000000 in
theorem few_ok (A : Option Addr) (m cap : Nat) (L : List Vz.Op) (w : World) (h : Opers w.heap.size w A m L) (hm : m ≤ maxLen) : Calls Tryz.prog 35 #[.slice A m cap] w fun e w' => ∃ b : Bool, e = .returned (.bool b) ∧ (b = true → (∀ k, k < m → fewO (L[k]?.getD Vz.Op.nil)) ∧ m ≤ 60) ∧ Below w.heap.size w w' := by
  have hm' : m ≤ 9223372036854775807 := Nat.le_trans hm (by unfold maxLen; decide)
  have H := Lib.hid h
  clear h hm
  go_enter Tryz.func35, Tryz.ntmps35
  go_wp2_with fail
  go_loopw [3] (fun i wr => ∃ k : Nat, k ≤ m ∧ i = .int .i64 (k : Int) ∧ (∀ j, j < k → fewO (L[j]?.getD Vz.Op.nil)) ∧ Below w.heap.size w wr) (fun i _ => m - (intOf i).toNat)
  case atStart => exact ⟨0, Nat.zero_le _, rfl, fun j hj => absurd hj (Nat.not_lt_zero _), Below.refl _ _⟩
  case round =>
    obtain ⟨k, hk, rfl, hall, hb⟩ := hrel
    have HB := Lib.hid hb
    have HALL := Lib.hid hall
    clear hall
    by_cases hlt : k < m
    · obtain ⟨b, o, rfl, hbl, hop, hok⟩ := (H.out.below hb (Nat.le_refl _)).at_ hlt
      have HNX : Hid (fewO (L[k]?.getD Vz.Op.nil) → ∀ j, j < k + 1 → fewO (L[j]?.getD Vz.Op.nil)) := fun hx j hj => by
        rcases Nat.lt_or_ge j k with hl | hl
        · exact HALL.out j hl
        · obtain rfl : j = k := by omega
          exact hx
      generalize hgx : L[k]?.getD Vz.Op.nil = x at hop hok HNX
      clear hgx
      have hkz : (k : Int) < (m : Int) := by omega
      have hwk : IntKind.i64.wrap ((k : Int) + 1) = ((k + 1 : Nat) : Int) := by rw [wrap_in (by omega) (by omega)]; rfl
      have HST : Hid (OpAt wr.drew b (o + k * 12) x) := hop
      have HBD : Hid (Below w.heap.size w wr.drew) := hb.drew
      obtain ⟨_, d1, d2, _⟩ := hop
      have d2' : wr.cell? ⟨b, o + k * 12 + 1 + 1, none⟩ = some (.int .i64 x.a.col) := d2
      clear hb hok
      by_cases h12 : x.ask = 12
      · have e12 : (x.ask == 12) = true := by rw [eqb]; exact decide_eq_true h12
        cases hmy : Vz.mayS x.a.row x.a.col
        · go_upto_region 4 with fail
          refine wp_region_noPanic ?_
          refine wp_region_k (S := fun W' : World => OpAt W' b (o + k * 12) x) 19 (by kernel_rfl) (HST.out) (fun hHeld => ?_)
          refine kSK 0 hHeld ?_
          refine kSK 1 hHeld ?_
          refine kSK 2 hHeld ?_
          refine kSK 3 hHeld ?_
          refine kTK (v := ?_) 4 [6, 5] hHeld ?y5 ?_
          case y5 => (intro W hSw; obtain ⟨c0, c1, c2, c3, c4, c5, c6, c7, c8, c9, c10, c11⟩ := hSw; go_simp; try with_reducible rfl)
          try refine kNK ?_
          refine kSK 5 hHeld ?_
          refine kSK 6 hHeld ?_
          refine kSK 7 hHeld ?_
          refine kSK 8 hHeld ?_
          refine kSK 9 hHeld ?_
          try refine kNK ?_
          refine kSK 10 hHeld ?_
          refine kSK 11 hHeld ?_
          refine kTK (v := ?_) 12 [] hHeld ?y13 ?_
          case y13 => (intro W hSw; obtain ⟨c0, c1, c2, c3, c4, c5, c6, c7, c8, c9, c10, c11⟩ := hSw; go_simp; try with_reducible rfl)
          refine kSK 13 hHeld ?_
          refine kSK 14 hHeld ?_
          try refine kNK ?_
          refine kSK 15 hHeld ?_
          refine kSK 16 hHeld ?_
          refine kSK 17 hHeld ?_
          refine kTK (v := ?_) 18 [] hHeld ?y19 ?_
          case y19 => (intro W hSw; obtain ⟨c0, c1, c2, c3, c4, c5, c6, c7, c8, c9, c10, c11⟩ := hSw; go_simp; try with_reducible rfl)
          try refine kNK ?_
          refine kPK 19 fun KQ hKQ => ?_
          go_simp
          go_at_call 60
          refine (may1_any _ _ _).mono ?_
          rw [hmy]
          rintro e wa ⟨rfl, rfl⟩
          go_wp2_with fail
          refine hKQ.out _ _ ?_
          clear hKQ KQ
          try refine kNK ?_
          refine kBK 20 ?_
          refine kBK 21 ?_
          refine kVK 22 ?_
          refine kVK 23 ?_
          refine kVK 24 ?_
          try refine kNK ?_
          refine kVK 25 ?_
          refine kVK 26 ?_
          refine kVK 27 ?_
          refine kVK 28 ?_
          refine kVK 29 ?_
          try refine kNK ?_
          refine kVK 30 ?_
          refine kVK 31 ?_
          refine kVK 32 ?_
          refine kVK 33 ?_
          refine kVK 34 ?_
          try refine kNK ?_
          refine kVK 35 ?_
          refine kVK 36 ?_
          refine kVK 37 ?_
          refine kBK 38 ?_
          try refine kNK ?_
          refine wpAnyK_done (by kernel_rfl) ?_ _
          refine NoPanic.normal ?_
          go_wp2_with fail
          exact ⟨⟨k + 1, by omega, rfl, HNX.out (fun _ e => by rw [hmy] at e; cases e), HBD.out⟩, by simp [intOf]; omega⟩
        · by_cases h8 : 8 < x.a.row
          · go_upto_region 4 with fail
            refine wp_region_noPanic ?_
            refine wp_region_k (S := fun W' : World => OpAt W' b (o + k * 12) x) 19 (by kernel_rfl) (HST.out) (fun hHeld => ?_)
            refine kSK 0 hHeld ?_
            refine kSK 1 hHeld ?_
            refine kSK 2 hHeld ?_
            refine kSK 3 hHeld ?_
            refine kTK (v := ?_) 4 [6, 5] hHeld ?y5 ?_
            case y5 => (intro W hSw; obtain ⟨c0, c1, c2, c3, c4, c5, c6, c7, c8, c9, c10, c11⟩ := hSw; go_simp; try with_reducible rfl)
            try refine kNK ?_
            refine kSK 5 hHeld ?_
            refine kSK 6 hHeld ?_
            refine kSK 7 hHeld ?_
            refine kSK 8 hHeld ?_
            refine kSK 9 hHeld ?_
            try refine kNK ?_
            refine kSK 10 hHeld ?_
            refine kSK 11 hHeld ?_
            refine kTK (v := ?_) 12 [] hHeld ?y13 ?_
            case y13 => (intro W hSw; obtain ⟨c0, c1, c2, c3, c4, c5, c6, c7, c8, c9, c10, c11⟩ := hSw; go_simp; try with_reducible rfl)
            refine kSK 13 hHeld ?_
            refine kSK 14 hHeld ?_
            try refine kNK ?_
            refine kSK 15 hHeld ?_
            refine kSK 16 hHeld ?_
            refine kSK 17 hHeld ?_
            refine kTK (v := ?_) 18 [] hHeld ?y19 ?_
            case y19 => (intro W hSw; obtain ⟨c0, c1, c2, c3, c4, c5, c6, c7, c8, c9, c10, c11⟩ := hSw; go_simp; try with_reducible rfl)
            try refine kNK ?_
            refine kPK 19 fun KQ hKQ => ?_
            go_simp
            go_at_call 60
            refine (may1_any _ _ _).mono ?_
            rw [hmy]
            rintro e wa ⟨rfl, rfl⟩
            go_wp2_with fail
            refine hKQ.out _ _ ?_
            clear hKQ KQ
            try refine kNK ?_
            refine kBK 20 ?_
            refine kBK 21 ?_
            refine kBK 22 ?_
            refine kBK 23 ?_
            refine kBK 24 ?_
            try refine kNK ?_
            refine kBK 25 ?_
            refine kBK 26 ?_
            try refine kNK ?_
            refine kPK 27 fun KQ hKQ => ?_
            go_simp
            refine hKQ.out _ _ ?_
            clear hKQ KQ
            try refine kNK ?_
            refine kBK 28 ?_
            refine kBK 29 ?_
            refine kVK 30 ?_
            refine kVK 31 ?_
            refine kVK 32 ?_
            try refine kNK ?_
            refine kVK 33 ?_
            refine kVK 34 ?_
            refine kVK 35 ?_
            refine kVK 36 ?_
            refine kBK 37 ?_
            try refine kNK ?_
            refine kBK 38 ?_
            try refine kNK ?_
            refine wpAnyK_done (by kernel_rfl) ?_ _
            refine NoPanic.normal ?_
            go_wp2_with fail
            go_ret
            exact ⟨_, rfl, (fun e => by cases e), HBD.out⟩
          · have h8' : x.a.row ≤ 8 := by omega
            have hd8 : decide (8 < x.a.row) = false := decide_eq_false h8
            go_upto_region 4 with fail
            refine wp_region_noPanic ?_
            refine wp_region_k (S := fun W' : World => OpAt W' b (o + k * 12) x) 19 (by kernel_rfl) (HST.out) (fun hHeld => ?_)
            refine kSK 0 hHeld ?_
            refine kSK 1 hHeld ?_
            refine kSK 2 hHeld ?_
            refine kSK 3 hHeld ?_
            refine kTK (v := ?_) 4 [6, 5] hHeld ?y5 ?_
            case y5 => (intro W hSw; obtain ⟨c0, c1, c2, c3, c4, c5, c6, c7, c8, c9, c10, c11⟩ := hSw; go_simp; try with_reducible rfl)
            try refine kNK ?_
            refine kSK 5 hHeld ?_
            refine kSK 6 hHeld ?_
            refine kSK 7 hHeld ?_
            refine kSK 8 hHeld ?_
            refine kSK 9 hHeld ?_
            try refine kNK ?_
            refine kSK 10 hHeld ?_
            refine kSK 11 hHeld ?_
            refine kTK (v := ?_) 12 [] hHeld ?y13 ?_
            case y13 => (intro W hSw; obtain ⟨c0, c1, c2, c3, c4, c5, c6, c7, c8, c9, c10, c11⟩ := hSw; go_simp; try with_reducible rfl)
            refine kSK 13 hHeld ?_
            refine kSK 14 hHeld ?_
            try refine kNK ?_
            refine kSK 15 hHeld ?_
            refine kSK 16 hHeld ?_
            refine kSK 17 hHeld ?_
            refine kTK (v := ?_) 18 [] hHeld ?y19 ?_
            case y19 => (intro W hSw; obtain ⟨c0, c1, c2, c3, c4, c5, c6, c7, c8, c9, c10, c11⟩ := hSw; go_simp; try with_reducible rfl)
            try refine kNK ?_
            refine kPK 19 fun KQ hKQ => ?_
            go_simp
            go_at_call 60
            refine (may1_any _ _ _).mono ?_
            rw [hmy]
            rintro e wa ⟨rfl, rfl⟩
            go_wp2_with fail
            refine hKQ.out _ _ ?_
            clear hKQ KQ
            try refine kNK ?_
            refine kBK 20 ?_
            refine kBK 21 ?_
            refine kBK 22 ?_
            refine kBK 23 ?_
            refine kBK 24 ?_
            try refine kNK ?_
            refine kBK 25 ?_
            refine kBK 26 ?_
            try refine kNK ?_
            refine kPK 27 fun KQ hKQ => ?_
            go_simp
            refine hKQ.out _ _ ?_
            clear hKQ KQ
            try refine kNK ?_
            refine kBK 28 ?_
            refine kBK 29 ?_
            refine kBK 30 ?_
            refine kBK 31 ?_
            refine kBK 32 ?_
            try refine kNK ?_
            refine kBK 33 ?_
            refine kBK 34 ?_
            try refine kNK ?_
            refine kPK 35 fun KQ hKQ => ?_
            go_simp
            refine hKQ.out _ _ ?_
            clear hKQ KQ
            try refine kNK ?_
            refine kBK 36 ?_
            refine kBK 37 ?_
            refine kBK 38 ?_
            try refine kNK ?_
            refine wpAnyK_done (by kernel_rfl) ?_ _
            refine NoPanic.normal ?_
            by_cases h20 : 20 < x.a.col
            · go_wp2_with fail
              go_ret
              exact ⟨_, rfl, (fun e => by cases e), HBD.out⟩
            · have h20' : x.a.col ≤ 20 := by omega
              have hd20 : decide (20 < x.a.col) = false := decide_eq_false h20
              go_wp2_with fail
              exact ⟨⟨k + 1, by omega, rfl, HNX.out (fun _ _ => ⟨h8', h20'⟩), HBD.out⟩, by simp [intOf]; omega⟩
      · have e12 : (x.ask == 12) = false := by rw [eqb]; exact decide_eq_false h12
        go_upto_region 4 with fail
        refine wp_region_noPanic ?_
        refine wp_region_k (S := fun W' : World => OpAt W' b (o + k * 12) x) 999 (by kernel_rfl) (HST.out) (fun hHeld => ?_)
        refine kSK 0 hHeld ?_
        refine kSK 1 hHeld ?_
        refine kSK 2 hHeld ?_
        refine kSK 3 hHeld ?_
        refine kHK (v := ?_) 4 hHeld ?y5 ?_
        case y5 => (intro W hSw; obtain ⟨c0, c1, c2, c3, c4, c5, c6, c7, c8, c9, c10, c11⟩ := hSw; go_simp; try with_reducible rfl)
        try refine kNK ?_
        refine kSK 5 hHeld ?_
        refine kSK 6 hHeld ?_
        refine kUK 7 hHeld ?_
        refine kUK 8 hHeld ?_
        refine kUK 9 hHeld ?_
        try refine kNK ?_
        refine kUK 10 hHeld ?_
        refine kUK 11 hHeld ?_
        refine kUK 12 hHeld ?_
        refine kUK 13 hHeld ?_
        refine kUK 14 hHeld ?_
        try refine kNK ?_
        refine kUK 15 hHeld ?_
        refine kUK 16 hHeld ?_
        refine kUK 17 hHeld ?_
        refine kUK 18 hHeld ?_
        refine kUK 19 hHeld ?_
        try refine kNK ?_
        refine kSK 20 hHeld ?_
        refine kSK 21 hHeld ?_
        refine kUK 22 hHeld ?_
        refine kUK 23 hHeld ?_
        refine kUK 24 hHeld ?_
        try refine kNK ?_
        refine kUK 25 hHeld ?_
        refine kUK 26 hHeld ?_
        refine kUK 27 hHeld ?_
        refine kUK 28 hHeld ?_
        refine kUK 29 hHeld ?_
        try refine kNK ?_
        refine kUK 30 hHeld ?_
        refine kUK 31 hHeld ?_
        refine kUK 32 hHeld ?_
        refine kUK 33 hHeld ?_
        refine kUK 34 hHeld ?_
        try refine kNK ?_
        refine kUK 35 hHeld ?_
        refine kUK 36 hHeld ?_
        refine kUK 37 hHeld ?_
        refine kSK 38 hHeld ?_
        try refine kNK ?_
        refine wpAnyK_done (by kernel_rfl) ?_ _
        refine NoPanic.normal ?_
        go_wp2_with fail
        exact ⟨⟨k + 1, by omega, rfl, HNX.out (fun e => absurd e h12), HBD.out⟩, by simp [intOf]; omega⟩
    · obtain rfl : k = m := by omega
      go_wp2_with fail
      go_ret
      exact ⟨_, rfl, (fun e => ⟨HALL.out, by have := of_decide_eq_true e; omega⟩), HB.out⟩
theorem few_any (A : Option Addr) (m cap : Nat) (L : List Vz.Op) (w : World) (h : Opers w.heap.size w A m L) (hm : m ≤ maxLen) : Calls Tryz.prog 35 #[.slice A m cap] w fun e w' => ∃ b : Bool, e = .returned (.bool b) ∧ Below w.heap.size w w' :=
  (few_ok A m cap L w h hm).mono fun e w' ⟨b, h1, _, h3⟩ => ⟨b, h1, h3⟩
end Go.Proofs.YtliacdaddncmaaaGreatDoor
