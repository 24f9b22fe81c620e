/- The walk of ScriptsReads. -/
import Derived.Test.YtfkbgnonkgaobaaDoorRefScrParse
import Derived.Test.YtfkbgnonkgaobaaDoorLawPrints
import Derived.Deep.RegionHeld3
namespace Go.Proofs.YtfkbgnonkgaobaaDoor
open Go.RowKit
set_option linter.unusedSimpArgs false
set_option linter.unusedVariables false

theorem steps_of_row {W : World} {base n : Nat} {t : TypeId} {v : Value} {L : List Vz.Stp} (hn : n = L.length) (h : W.ownsRow base t 9 v n (cellsL L)) : ∃ A c, v = .slice A n c ∧ Steps W.heap.size W A n L := by
  rcases h.2 with ⟨rfl, rfl⟩ | ⟨g, cap, cur, rfl, hb, hg, hn2, hcap, hcs, htk⟩
  · exact ⟨none, 0, rfl, hn, fun h0 => absurd h0 (by decide)⟩
  · refine ⟨_, _, rfl, hn, fun h0 => ⟨g, 0, rfl, (Array.getElem?_eq_some_iff.1 hg).1, fun i hi => ?_⟩⟩
    refine stpAt_row hg fun j hj => ?_
    have hiL : i < L.length := by omega
    rw [← cellsL_get L i hiL j hj, ← htk, Nat.zero_add, List.getElem?_take, if_pos (by omega)]
    simp

theorem s18 {W : World} {b o b2 o2 k : Nat} {x : Vz.Stp} (hx : StpAt W b (o + k * 9) x) (hy : StpAt W b2 (o2 + k * 9) x) : W.cell? ⟨b, o + k * 9, none⟩ = some (.int .i64 x.d) ∧ W.cell? ⟨b, o + k * 9 + 1, none⟩ = some (.string ⟨x.text.toArray⟩) ∧ W.cell? ⟨b, o + k * 9 + 2, none⟩ = some (.int .i64 x.kind) ∧ W.cell? ⟨b, o + k * 9 + 3, none⟩ = some (.int .i64 x.code) ∧ W.cell? ⟨b, o + k * 9 + 4, none⟩ = some (.bool x.shift) ∧ W.cell? ⟨b, o + k * 9 + 5, none⟩ = some (.bool x.ctrl) ∧ W.cell? ⟨b, o + k * 9 + 6, none⟩ = some (.int .i64 x.rows) ∧ W.cell? ⟨b, o + k * 9 + 7, none⟩ = some (.int .i64 x.cols) ∧ W.cell? ⟨b, o + k * 9 + 8, none⟩ = some (.int .i64 x.to) ∧ W.cell? ⟨b2, o2 + k * 9, none⟩ = some (.int .i64 x.d) ∧ W.cell? ⟨b2, o2 + k * 9 + 1, none⟩ = some (.string ⟨x.text.toArray⟩) ∧ W.cell? ⟨b2, o2 + k * 9 + 2, none⟩ = some (.int .i64 x.kind) ∧ W.cell? ⟨b2, o2 + k * 9 + 3, none⟩ = some (.int .i64 x.code) ∧ W.cell? ⟨b2, o2 + k * 9 + 4, none⟩ = some (.bool x.shift) ∧ W.cell? ⟨b2, o2 + k * 9 + 5, none⟩ = some (.bool x.ctrl) ∧ W.cell? ⟨b2, o2 + k * 9 + 6, none⟩ = some (.int .i64 x.rows) ∧ W.cell? ⟨b2, o2 + k * 9 + 7, none⟩ = some (.int .i64 x.cols) ∧ W.cell? ⟨b2, o2 + k * 9 + 8, none⟩ = some (.int .i64 x.to) := by
  obtain ⟨h0, h1, h2, h3, h4, h5, h6, h7, h8⟩ := hx
  obtain ⟨g0, g1, g2, g3, g4, g5, g6, g7, g8⟩ := hy
  exact ⟨h0, h1, h2, h3, h4, h5, h6, h7, h8, g0, g1, g2, g3, g4, g5, g6, g7, g8⟩
theorem rdparse_no (s : ByteArray) (hs : s.size ≤ 600) (h : Vz.parseL (Vz.linesOf s.data.toList) = none) (w : World) :
    Calls Tryd.prog 15 #[.string s] w fun e W' => ∃ v, e = .returned (.tuple #[v, .bool false]) ∧ Below w.heap.size w W' := by
  refine (rdparse_any s hs w).mono ?_
  rintro e W' ⟨v, rfl, _, h3⟩
  exact ⟨v, by rw [h]; rfl, h3⟩
theorem rdparse_ok (s : ByteArray) (hs : s.size ≤ 600) (M : List Vz.Stp) (h : Vz.parseL (Vz.linesOf s.data.toList) = some M) (w : World) :
    Calls Tryd.prog 15 #[.string s] w fun e W' => ∃ A c, e = .returned (.tuple #[.slice A M.length c, .bool true]) ∧ Steps W'.heap.size W' A M.length M ∧ Below w.heap.size w W' := by
  refine (rdparse_any s hs w).mono ?_
  rintro e W' ⟨v, rfl, h2, h3⟩
  obtain ⟨A, c, rfl, hS⟩ := steps_of_row rfl (h2 M h)
  exact ⟨A, c, by rw [h]; rfl, hS, h3⟩

set_option maxRecDepth 100000 in
set_option maxHeartbeats 2000000 in
theorem law_reads (s : ByteArray) (w : World) (ha : Aid w) :
    Calls Tryd.prog 4 #[.string s] w fun e w' => e = .returned (.bool true) ∧ Below w.heap.size w w' := by
  have HAI := Lib.hid ha
  have HA := Lib.hid (fun W (hb : Below w.heap.size w W) => awake_any W (ha.below hb).1)
  clear ha
  go_enter Tryd.func4, Tryd.ntmps4
  by_cases hs6 : s.size ≤ 600
  · have hs7 : ¬ ((600 : Int) < (s.size : Int)) := by omega
    obtain ⟨q1, q2⟩ := small_text s hs6
    cases hps : Vz.parseL (Vz.linesOf s.data.toList) with
    | none =>
      have HPN := Lib.hid (parse_no s q1 q2 hps)
      have HRP := Lib.hid (rdparse_no s hs6 hps)
      clear hps q1 q2
      go_wp2_with (first
        | (go_at_call 8; refine (HA.out _ kB).mono ?_; rintro e wC ⟨rfl, hbC⟩; have kC := below_join kB hbC)
        | (go_at_call 15; refine (HRP.out _).mono ?_; rintro e wB ⟨v, rfl, hbB⟩; have kB := below_join hbA hbB)
        | (go_at_call 14; refine (HPN.out _ HAI.out).mono ?_; rintro e wA ⟨A2, c2, rfl, hbA⟩))
      go_ret
      exact ⟨rfl, kC⟩
    | some M =>
      have HPO := Lib.hid (parse_ok s q1 q2 M hps)
      have HRP := Lib.hid (rdparse_ok s hs6 M hps)
      have hMs : M.length ≤ 600 := by
        obtain ⟨h1, h2⟩ := Vz.parseL_some hps
        rw [Vz.linesOf_flat] at h2
        have := lines_count M h1
        have hl : linesL M = s.data.toList := h2
        rw [hl] at this
        exact Nat.le_trans this hs6
      have HPL := Lib.hid plain_any
      clear hps q1 q2
      obtain ⟨m, hm⟩ : ∃ m, M.length = m := ⟨_, rfl⟩
      have HM := Lib.hid hm
      rw [hm] at HPO HRP hMs
      clear hm
      go_wp2_with (first
        | (go_at_call 15; refine (HRP.out _).mono ?_; rintro e wB ⟨A3, c3, rfl, hS3, hbB0⟩; have kB := below_join hbA hbB0)
        | (go_at_call 14; refine (HPO.out _ HAI.out).mono ?_; rintro e wA ⟨A2, c2, rfl, hS2, hbA⟩))
      go_loopw [7] (fun i wr => ∃ k : Nat, k ≤ m ∧ i = .int .i64 k ∧ Below wB.heap.size wB wr) (fun i _ => m - (intOf i).toNat)
      case atStart => exact ⟨0, Nat.zero_le _, rfl, Below.refl _ _⟩
      case round =>
        obtain ⟨k, hk, rfl, hB⟩ := hrel
        by_cases hlt : k < m
        · obtain ⟨b, o, rfl, hbB, hx⟩ := ((hS2.below hbB0 (Nat.le_refl _)).below hB hbB0.size).at_ hlt
          obtain ⟨b2, o2, rfl, hbB2, hy⟩ := (hS3.below hB (Nat.le_refl _)).at_ hlt
          generalize M[k]?.getD Vz.Stp.nil = x at hx hy
          have hBd := hB.drew
          have hsz2 : wB.heap.size ≤ wr.drew.heap.size := hBd.size
          have hsz1 : wA.heap.size ≤ wr.drew.heap.size := Nat.le_trans hbB0.size hsz2
          replace hx : StpAt wr.drew b (o + k * 9) x := hx
          replace hy : StpAt wr.drew b2 (o2 + k * 9) x := hy
          have HPX := Lib.hid (HPL.out x)
          unfold stpV at HPX
          have hltI : (k : Int) < (m : Int) := by omega
          go_upto_region 12 with fail
          refine wp_region_noPanic ?_
          refine wp_region_held_drew (S := fun W : World => W.cell? ⟨b, o + k * 9, none⟩ = some (.int .i64 x.d) ∧ W.cell? ⟨b, o + k * 9 + 1, none⟩ = some (.string ⟨x.text.toArray⟩) ∧ W.cell? ⟨b, o + k * 9 + 2, none⟩ = some (.int .i64 x.kind) ∧ W.cell? ⟨b, o + k * 9 + 3, none⟩ = some (.int .i64 x.code) ∧ W.cell? ⟨b, o + k * 9 + 4, none⟩ = some (.bool x.shift) ∧ W.cell? ⟨b, o + k * 9 + 5, none⟩ = some (.bool x.ctrl) ∧ W.cell? ⟨b, o + k * 9 + 6, none⟩ = some (.int .i64 x.rows) ∧ W.cell? ⟨b, o + k * 9 + 7, none⟩ = some (.int .i64 x.cols) ∧ W.cell? ⟨b, o + k * 9 + 8, none⟩ = some (.int .i64 x.to) ∧ W.cell? ⟨b2, o2 + k * 9, none⟩ = some (.int .i64 x.d) ∧ W.cell? ⟨b2, o2 + k * 9 + 1, none⟩ = some (.string ⟨x.text.toArray⟩) ∧ W.cell? ⟨b2, o2 + k * 9 + 2, none⟩ = some (.int .i64 x.kind) ∧ W.cell? ⟨b2, o2 + k * 9 + 3, none⟩ = some (.int .i64 x.code) ∧ W.cell? ⟨b2, o2 + k * 9 + 4, none⟩ = some (.bool x.shift) ∧ W.cell? ⟨b2, o2 + k * 9 + 5, none⟩ = some (.bool x.ctrl) ∧ W.cell? ⟨b2, o2 + k * 9 + 6, none⟩ = some (.int .i64 x.rows) ∧ W.cell? ⟨b2, o2 + k * 9 + 7, none⟩ = some (.int .i64 x.cols) ∧ W.cell? ⟨b2, o2 + k * 9 + 8, none⟩ = some (.int .i64 x.to)) (by kernel_rfl) (s18 hx hy) (fun hHeld => ?_)
          refine wpAnyH_take (i := 0) (v := ?_) rfl (by kernel_rfl) (by kernel_rfl) (by kernel_rfl) (fun _ _ _ h => h) (Or.inl ⟨by rfl, ?hy0⟩) hHeld ?_
          case hy0 => (intro w hSw; (try dsimp only at hSw); go_simp; try with_reducible rfl)
          try simp only [Act.put, List.getElem_toArray, List.getElem_cons_zero, List.getElem_cons_succ, List.setIfInBounds_toArray, List.set_cons_zero, List.set_cons_succ]
          refine wpAnyH_take (i := 1) (v := ?_) rfl (by kernel_rfl) (by kernel_rfl) (by kernel_rfl) (fun _ _ _ h => h) (Or.inl ⟨by rfl, ?hy1⟩) hHeld ?_
          case hy1 => (intro w hSw; (try dsimp only at hSw); go_simp; try with_reducible rfl)
          try simp only [Act.put, List.getElem_toArray, List.getElem_cons_zero, List.getElem_cons_succ, List.setIfInBounds_toArray, List.set_cons_zero, List.set_cons_succ]
          refine wpAnyH_take (i := 2) (v := ?_) rfl (by kernel_rfl) (by kernel_rfl) (by kernel_rfl) (fun _ _ _ h => h) (Or.inl ⟨by rfl, ?hy2⟩) hHeld ?_
          case hy2 => (intro w hSw; (try dsimp only at hSw); go_simp; try with_reducible rfl)
          try simp only [Act.put, List.getElem_toArray, List.getElem_cons_zero, List.getElem_cons_succ, List.setIfInBounds_toArray, List.set_cons_zero, List.set_cons_succ]
          refine wpAnyH_take (i := 3) (v := ?_) rfl (by kernel_rfl) (by kernel_rfl) (by kernel_rfl) (fun _ _ _ h => h) (Or.inl ⟨by rfl, ?hy3⟩) hHeld ?_
          case hy3 => (intro w hSw; (try dsimp only at hSw); go_simp; try with_reducible rfl)
          try simp only [Act.put, List.getElem_toArray, List.getElem_cons_zero, List.getElem_cons_succ, List.setIfInBounds_toArray, List.set_cons_zero, List.set_cons_succ]
          refine wpAnyH_take (i := 5) (v := ?_) rfl (by kernel_rfl) (by kernel_rfl) (by kernel_rfl) (fun _ _ _ h => h) (Or.inl ⟨by rfl, ?hy5⟩) hHeld ?_
          case hy5 => (intro w hSw; (try dsimp only at hSw); go_simp; try with_reducible rfl)
          try simp only [Act.put, List.getElem_toArray, List.getElem_cons_zero, List.getElem_cons_succ, List.setIfInBounds_toArray, List.set_cons_zero, List.set_cons_succ]
          refine wpAnyH_take (i := 6) (v := ?_) rfl (by kernel_rfl) (by kernel_rfl) (by kernel_rfl) (fun _ _ _ h => h) (Or.inl ⟨by rfl, ?hy6⟩) hHeld ?_
          case hy6 => (intro w hSw; (try dsimp only at hSw); go_simp; try with_reducible rfl)
          try simp only [Act.put, List.getElem_toArray, List.getElem_cons_zero, List.getElem_cons_succ, List.setIfInBounds_toArray, List.set_cons_zero, List.set_cons_succ]
          refine wpAnyH_take (i := 7) (v := ?_) rfl (by kernel_rfl) (by kernel_rfl) (by kernel_rfl) (fun _ _ _ h => h) (Or.inl ⟨by rfl, ?hy7⟩) hHeld ?_
          case hy7 => (intro w hSw; (try dsimp only at hSw); go_simp; try with_reducible rfl)
          try simp only [Act.put, List.getElem_toArray, List.getElem_cons_zero, List.getElem_cons_succ, List.setIfInBounds_toArray, List.set_cons_zero, List.set_cons_succ]
          refine wpAnyH_take (i := 8) (v := ?_) rfl (by kernel_rfl) (by kernel_rfl) (by kernel_rfl) (fun _ _ _ h => h) (Or.inl ⟨by rfl, ?hy8⟩) hHeld ?_
          case hy8 => (intro w hSw; (try dsimp only at hSw); go_simp; try with_reducible rfl)
          try simp only [Act.put, List.getElem_toArray, List.getElem_cons_zero, List.getElem_cons_succ, List.setIfInBounds_toArray, List.set_cons_zero, List.set_cons_succ]
          refine wpAnyH_ready (rs := [4]) (by kernel_rfl) (by simp) ?_
          refine AllReadyH.cons rfl (fun K hK => ?_) AllReadyH.nil
          go_simp
          go_at_call 10; refine (HPX.out _).mono ?_; rintro e wP ⟨rfl, hbP⟩; have hx := hx.below hbP (Nat.lt_of_lt_of_le hbB hsz1); have hy := hy.below hbP (Nat.lt_of_lt_of_le hbB2 hsz2); have hBP := below_join hBd hbP
          go_wp2_with fail
          refine hK.out _ _ (s18 hx hy) (fun hHeld2 => ?_)
          clear hHeld hK K
          have hHeld := hHeld2
          clear hHeld2
          try simp only [Act.put, List.getElem_toArray, List.getElem_cons_zero, List.getElem_cons_succ, List.setIfInBounds_toArray, List.set_cons_zero, List.set_cons_succ]
          refine wpAnyH_take (i := 9) (v := ?_) rfl (by kernel_rfl) (by kernel_rfl) (by kernel_rfl) (fun _ _ _ h => h) (Or.inl ⟨by rfl, ?hy9⟩) hHeld ?_
          case hy9 => (intro w hSw; (try dsimp only at hSw); go_simp; with_reducible rfl)
          try simp only [Act.put, List.getElem_toArray, List.getElem_cons_zero, List.getElem_cons_succ, List.setIfInBounds_toArray, List.set_cons_zero, List.set_cons_succ]
          refine wpAnyH_done (by kernel_rfl) ?_ _
          refine NoPanic.normal ?_
          clear hHeld hx hy
          go_wp2_with fail
          exact ⟨⟨k + 1, hlt, by go_num, hBP⟩, by simp [intOf]; omega⟩
        · obtain rfl : k = m := by omega
          have hltI : ¬ (k : Int) < (k : Int) := by omega
          go_wp2_with (go_at_call 8; refine (HA.out _ (kB.trans (hB.mono kB.size))).mono ?_; rintro e wC ⟨rfl, hbC⟩; have kC := below_join (kB.trans (hB.mono kB.size)) hbC)
          go_ret
          exact ⟨rfl, kC⟩
  · have hs7 : (600 : Int) < (s.size : Int) := by omega
    go_wp2_with (go_at_call 8; refine (HA.out _ (Below.refl _ _)).mono ?_; rintro e w2 ⟨rfl, hb2⟩)
    go_ret
    exact ⟨rfl, hb2⟩
end Go.Proofs.YtfkbgnonkgaobaaDoor
