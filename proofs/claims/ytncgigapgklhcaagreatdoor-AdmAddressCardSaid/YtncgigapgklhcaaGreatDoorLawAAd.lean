import Derived.Test.YtncgigapgklhcaaGreatDoorHY
import Derived.Test.YtncgigapgklhcaaGreatDoorAdmFew
import Derived.Test.YtncgigapgklhcaaGreatDoorAdAddr

/- The law AdmAddress, whole: for all sizes and bytes it answers true. -/
namespace Go.Proofs.YtncgigapgklhcaaGreatDoor
open Go.RowKit
set_option linter.unusedSimpArgs false
set_option linter.unusedVariables false
attribute [local go_sem] alloc_drewN setCell_drewN World.cell?_alloc_some frozen_alloc_some size_f0 size_f1

theorem conv_at {W : World} {g : Nat} (l : List UInt8) (h : W.heap[g]? = some (.cells (bytesV l).toArray 5 (0, 0))) : (convert 34 9 (.slice (some ⟨g, 0, none⟩) l.length l.length)).run Tryz.prog W = .ok (.string ⟨l.toArray⟩) W := by
  refine run_convert_bytes_back _ _ _ _ ⟨g, 0, none⟩ l.length l Tryz.underlying34 Tryz.underlying5 Tryz.underlying9 fun j hj => ?_
  rw [addr_add0, cell_row h]
  simp [bytesV, List.getElem?_eq_getElem hj]
theorem ask_str (b d : UInt8) : ((⟨#[27, 61]⟩ : ByteArray) ++ (⟨[b, d].toArray⟩ : ByteArray)) ++ (⟨#[27, 63]⟩ : ByteArray) = ⟨(askL b d).toArray⟩ := by
  rfl
theorem conv_three2 {W : World} {g : Nat} (a b : UInt8) {x y : Int} (hx : x = a.toNat) (hy : y = b.toNat) (h : W.heap[g]? = some (.cells #[.int .u8 x, .int .u8 y, .int .u8 13] 5 (0, 0))) : (convert 34 9 (.slice (some ⟨g, 0, none⟩) 3 3)).run Tryz.prog W = .ok (.string ⟨#[a, b, 13]⟩) W := by
  subst hx hy
  exact conv_at [a, b, 13] h
/-- Drain, told where it turns nothing. -/
theorem drain_keeps {w W : World} {wp tp sp qp : Nat} {A : Ad} (h : Made w W wp tp sp qp A) : ∃ FT : Nat → Prop, (∀ k, FT k → k < W.heap.size) ∧ ∀ W', Below W.heap.size W W' → Calls Tryz.prog 15 #[.pointer (some ⟨qp, 0, none⟩)] W' fun e w' => e = .returned (.string ⟨A.q.toArray⟩) ∧ Made w w' wp tp sp qp { A with q := [], over := false } ∧ Keeps FT W' w' := by
  obtain ⟨h1, ⟨FT, h2, h3, h4⟩, h5, h6⟩ := h
  refine ⟨FT, h2.lt, fun W' hb => ?_⟩
  have h2' := h2.below hb
  obtain ⟨lb, fr, F, V, hA, hF⟩ := h2'
  refine (que_drain qp lb fr A.q A.over W' hA.que).mono fun e w' h' => ?_
  have ht := Term.queTo hA hF h'.2
  exact ⟨h'.1, Made.turn ((hb.block _ (block_lt h1)).trans h1) h3 h4 h5 (Below.later h6 hb h6.size) ht, ht.2⟩
theorem run_eqlp_self (a b : Int) (w : World) : Sem.run Tryz.prog (binOp .eql 36 (.agg #[.int .i64 a, .int .i64 b]) (.agg #[.int .i64 a, .int .i64 b])) w = .ok (.bool true) w := by
  have h := run_eql_ps ⟨a, b⟩ ⟨a, b⟩ w
  rw [eqP_iff.2 rfl] at h
  exact h
attribute [local go_sem 3000] run_eqlp_self
set_option maxRecDepth 10000 in
set_option maxHeartbeats 8000000 in
theorem law_aad_main (R C : Nat) (hf : fewS R C = true) (b d : UInt8) (hb : b % 128 ≠ 27) (hd : d % 128 ≠ 27) (w : World) (hbl : Blanked w) : Calls Tryz.prog 3 #[.agg #[.int .i64 R, .int .i64 C], .int .u8 b.toNat, .int .u8 d.toNat] w fun e w' => e = .returned (.bool true) ∧ Below w.heap.size w w' := by
  have hf' : 1 ≤ (R : Int) ∧ (R : Int) ≤ 6 ∧ 1 ≤ (C : Int) ∧ (C : Int) ≤ 12 := of_decide_eq_true hf
  have hm : Vz.mayS R C = true := (Vz.mayS_iff _ _).2 (by omega)
  have HAW := Lib.hid (fun W (hb : Below w.heap.size w W) => awake_any W (hbl.below hb))
  have HN := Lib.hid (fun W (hb : Below w.heap.size w W) => made_ok R C hm W (hbl.below hb))
  have HFW := Lib.hid (fun W => hf ▸ few_any R C W)
  have hx := heap_alloc_new w (.cells #[.int .i64 R, .int .i64 C] 23)
  have HX0 := Lib.hid hx
  obtain ⟨x0, x1, g0, g1⟩ := row2 hx
  have HB0 := Lib.hid (below1 w (.cells #[.int .i64 R, .int .i64 C] 23))
  have hb1 : ((b.toNat : Int).tmod 128) = ((b % 128).toNat : Int) := by
    rw [UInt8.toNat_mod]
    exact (Int.ofNat_tmod b.toNat 128).symm
  have hd1 : ((d.toNat : Int).tmod 128) = ((d % 128).toNat : Int) := by
    rw [UInt8.toNat_mod]
    exact (Int.ofNat_tmod d.toNat 128).symm
  have hb2 : (((b % 128).toNat : Int) == 27) = false := by
    have : (b % 128).toNat ≠ 27 := fun e => hb (UInt8.toNat_inj.1 e)
    rw [beq_eq_false_iff_ne]
    omega
  have hd2 : (((d % 128).toNat : Int) == 27) = false := by
    have : (d % 128).toNat ≠ 27 := fun e => hd (UInt8.toNat_inj.1 e)
    rw [beq_eq_false_iff_ne]
    omega
  have HPL := Lib.hid (ask_pl R C hm b d hb hd)
  have HPQ := Lib.hid (ask_q R C hm b d hb hd)
  generalize hbm : (b % 128).toNat = bm at *
  generalize hdm : (d % 128).toNat = dm at *
  have hbl8 : bm < 256 := hbm ▸ UInt8.toNat_lt _
  have hdl8 : dm < 256 := hdm ▸ UInt8.toNat_lt _
  generalize hP : wantP R C ((bm : Int) - 32) ((dm : Int) - 32) = P at HPL HPQ
  have hPr : 0 ≤ P.row ∧ P.row < 6 ∧ 0 ≤ P.col ∧ P.col < 12 := by
    rw [← hP]
    unfold wantP
    split
    · rename_i h
      obtain ⟨h1, h2, h3, h4⟩ := h
      exact ⟨h1, by show (bm : Int) - 32 < 6; omega, h3, by show (dm : Int) - 32 < 12; omega⟩
    · exact ⟨by decide, by decide, by decide, by decide⟩
  have HP := Lib.hid hP
  have hwb : IntKind.i64.wrap ((bm : Int) - 32) = (bm : Int) - 32 := wrap_in (by omega) (by omega)
  have hwd : IntKind.i64.wrap ((dm : Int) - 32) = (dm : Int) - 32 := wrap_in (by omega) (by omega)
  have hwb0 : IntKind.i64.wrap (bm : Int) = (bm : Int) := wrap_in (by omega) (by omega)
  have hwd0 : IntKind.i64.wrap (dm : Int) = (dm : Int) := wrap_in (by omega) (by omega)
  clear hbl hx hf hb hd hm hbm hdm hP
  go_enter Tryz.func3, Tryz.ntmps3
  go_upto_region 6 with (first
    | (go_at_call 10; refine (HFW.out _).mono ?_; rintro e w1 ⟨rfl, hb1⟩; have HB1 := Lib.hid (Below.later HB0.out hb1 HB0.out.size); have HX1 := Lib.hid ((hb1.block _ (block_lt HX0.out)).trans HX0.out); obtain ⟨y0, y1, _⟩ := row2 HX1.out; clear hb1)
    | (go_at_call 12; refine (HN.out _ HB1.out).mono ?_; rintro e w2 ⟨wp, tp, sp, qp, rfl, hm⟩; have HB2 := Lib.hid (Below.later HB1.out hm.2.2.2 HB1.out.size); have HM2 := Lib.hid hm; clear hm))
  have HM3 : Hid (Made w1 w2.drew wp tp sp qp (newA R C)) := HM2.out.below (Below.refl _ _).drew
  refine wp_region_noPanic ?_
  refine wp_region_k (S := fun W : World => Made w1 W wp tp sp qp (newA R C)) 10 (by kernel_rfl) (HM3.out) (fun hHeld => ?_)
  refine wpAnyK_s (i := 0) (fun _ => hHeld) ?_
  refine wpAnyK_s (i := 1) (fun _ => hHeld) ?_
  refine wpAnyK_s (i := 2) (fun _ => hHeld) ?_
  refine wpAnyK_t (i := 3) (v := ?_) [] rfl (Or.inl ⟨by rfl, ?hy4⟩) hHeld ?_
  case hy4 => (intro W hSw; refine Or.inl ?_; obtain ⟨z0, z1, z2⟩ := hSw.cells; go_simp; try with_reducible rfl)
  refine wpAnyK_s (i := 4) (fun _ => hHeld) ?_
  try refine wpAnyK_n ?_
  refine wpAnyK_s (i := 5) (fun _ => hHeld) ?_
  try refine wpAnyK_n ?_
  refine wpAnyK_ready (rs := [6]) (by kernel_rfl) (by simp) ?_
  refine AllReadyK.cons rfl (fun KQ hKQ => ?_) AllReadyK.nil
  go_simp
  refine hKQ.out _ _ (hHeld.below (below1 _ _)) ?_
  clear hHeld hKQ KQ
  intro hHeld
  try refine wpAnyK_n ?_
  have hcv : (convert 34 9 (.slice (some ⟨w2.heap.size, 0, none⟩) 2 2)).run Tryz.prog (w2.alloc (.cells #[.int .u8 b.toNat, .int .u8 d.toNat] 5)).drew = .ok (.string ⟨[b, d].toArray⟩) (w2.alloc (.cells #[.int .u8 b.toNat, .int .u8 d.toNat] 5)).drew := conv_at (W := (w2.alloc (.cells #[.int .u8 b.toNat, .int .u8 d.toNat] 5)).drew) (g := w2.heap.size) [b, d] (heap_alloc_new w2 _)
  refine wpAnyK_ready (rs := [7]) (by kernel_rfl) (by simp) ?_
  refine AllReadyK.cons rfl (fun KQ hKQ => ?_) AllReadyK.nil
  go_simp
  skip
  refine hKQ.out _ _ (hHeld) ?_
  clear hHeld hKQ KQ
  intro hHeld
  try refine wpAnyK_n ?_
  clear hcv
  refine wpAnyK_s (i := 8) (fun _ => hHeld) ?_
  refine wpAnyK_s (i := 9) (fun _ => hHeld) ?_
  try refine wpAnyK_n ?_
  refine wpAnyK_ready (rs := [10]) (by kernel_rfl) (by simp) ?_
  refine AllReadyK.free rfl (by kernel_rfl) (fun KQ hKQ => ?_) AllReadyK.nil
  go_simp
  go_at_call 13
  have hfd := made_feed hHeld (askL b d) (by unfold askL; simp)
  rw [← ask_str b d] at hfd
  refine hfd.mono ?_
  clear hfd
  rintro e w5 ⟨rfl, hm⟩
  obtain ⟨c0, c1, c2⟩ := hm.cells
  have HM5 := Lib.hid hm
  clear hm
  go_wp2_with fail
  refine hKQ.out _ _ ?_
  clear hKQ KQ
  try refine wpAnyK_n ?_
  refine wpAnyK_done (by kernel_rfl) ?_ _
  refine NoPanic.normal ?_
  clear hHeld
  go_upto_region 9 with (go_at_call 14; have hcu := made_cursor HM5.out; rw [HPL.out] at hcu; refine hcu.mono ?_; clear hcu; rintro e w6 ⟨rfl, hb6⟩; have HB6 := Lib.hid hb6; clear hb6)
  have HX8 : Hid (((w6.alloc (.cells #[.int .i64 P.row, .int .i64 P.col] 36)).alloc (.cells #[.int .i64 ((bm : Int) - 32), .int .i64 ((dm : Int) - 32)] 36)).heap[w6.heap.size + 1]? = some (.cells #[.int .i64 ((bm : Int) - 32), .int .i64 ((dm : Int) - 32)] 36 (0, 0))) := by
    have := heap_alloc_new (w6.alloc (.cells #[.int .i64 P.row, .int .i64 P.col] 36)) (.cells #[.int .i64 ((bm : Int) - 32), .int .i64 ((dm : Int) - 32)] 36)
    rwa [World.size_alloc] at this
  have HB8 : Hid (Below w5.heap.size w5 ((w6.alloc (.cells #[.int .i64 P.row, .int .i64 P.col] 36)).alloc (.cells #[.int .i64 ((bm : Int) - 32), .int .i64 ((dm : Int) - 32)] 36))) := (HB6.out.alloc HB6.out.size _).alloc (by rw [World.size_alloc]; have := HB6.out.size; omega) _
  have hx5 := (HM5.out.2.2.2.block _ (block_lt HX1.out)).trans HX1.out
  have HXS := Lib.hid ((HB8.out.block _ (block_lt hx5)).trans hx5)
  clear hx5 y0 y1 x0 x1 g0 g1 c0 c1 c2
  obtain ⟨s0, s1, _⟩ := row2 HXS.out
  obtain ⟨v0, v1, f0, f1⟩ := row2 HX8.out
  have hP := HP.out
  unfold wantP at hP
  by_cases q1 : (bm : Int) - 32 < 0
  · rw [if_neg (by omega)] at hP
    subst hP
    have h32a : IntKind.i64.wrap 32 = 32 := by decide
    have h32b : IntKind.u8.wrap 32 = 32 := by decide
    have hq : (feedA (newA R C) (askL b d)).q = [32, 32, 13] := HPQ.out
    obtain ⟨FT, hft, hdr⟩ := drain_keeps HM5.out
    rw [hq] at hdr
    have HDR := Lib.hid hdr
    have HFT := Lib.hid hft
    have hz6 := HB6.out.size
    clear hdr hq hft
    go_upto_region 11 with fail
    clear s0 s1 v0 v1 f0 f1
    have HB11 : Hid (Below w5.heap.size w5 ((w6.alloc (.cells #[.int .i64 0, .int .i64 0] 36)).alloc (.cells #[.int .i64 0, .int .i64 0] 36)).drew) := ((HB6.out.alloc HB6.out.size _).alloc (by rw [World.size_alloc]; omega) _).drew
    have HP0 : Hid (((w6.alloc (.cells #[.int .i64 0, .int .i64 0] 36)).alloc (.cells #[.int .i64 0, .int .i64 0] 36)).drew.heap[w6.heap.size]? = some (.cells #[.int .i64 0, .int .i64 0] 36 (0, 0))) := (Below.heap_alloc _ _ _ (by rw [World.size_alloc]; omega)).trans (heap_alloc_new w6 _)
    have HP1 : Hid (((w6.alloc (.cells #[.int .i64 0, .int .i64 0] 36)).alloc (.cells #[.int .i64 0, .int .i64 0] 36)).drew.heap[w6.heap.size + 1]? = some (.cells #[.int .i64 0, .int .i64 0] 36 (0, 0))) := by
      have := heap_alloc_new (w6.alloc (.cells #[.int .i64 0, .int .i64 0] 36)) (.cells #[.int .i64 0, .int .i64 0] 36)
      rwa [World.size_alloc] at this
    have HBOX : Hid (((w6.alloc (.cells #[.int .i64 0, .int .i64 0] 36)).alloc (.cells #[.int .i64 0, .int .i64 0] 36)).drew.heap[wp]? = some (.cells #[.pointer (some ⟨sp, 0, none⟩), .pointer (some ⟨qp, 0, none⟩), .pointer (some ⟨tp, 0, none⟩)] 32 (0, 0))) := (HB11.out.block _ (block_lt HM5.out.1)).trans HM5.out.1
    refine wp_region_noPanic ?_
    refine wp_region_k (S := fun W : World => W.heap[wp]? = some (.cells #[.pointer (some ⟨sp, 0, none⟩), .pointer (some ⟨qp, 0, none⟩), .pointer (some ⟨tp, 0, none⟩)] 32 (0, 0)) ∧ W.heap[w6.heap.size]? = some (.cells #[.int .i64 0, .int .i64 0] 36 (0, 0)) ∧ W.heap[w6.heap.size + 1]? = some (.cells #[.int .i64 0, .int .i64 0] 36 (0, 0))) 26 (by kernel_rfl) (⟨HBOX.out, HP0.out, HP1.out⟩) (fun hHeld => ?_)
    refine wpAnyK_t (i := 0) (v := ?_) [25, 24, 7, 3, 2] rfl (Or.inl ⟨by rfl, ?hy1⟩) hHeld ?_
    case hy1 => (intro W hSw; refine Or.inl ?_; obtain ⟨z0, z1, z2, _⟩ := row3 hSw.1; obtain ⟨p0, p1, _⟩ := row2 hSw.2.1; obtain ⟨r0, r1, _⟩ := row2 hSw.2.2; go_simp; try with_reducible rfl)
    refine wpAnyK_t (i := 1) (v := ?_) [25, 24, 7, 3, 2] rfl (Or.inl ⟨by rfl, ?hy2⟩) hHeld ?_
    case hy2 => (intro W hSw; refine Or.inl ?_; obtain ⟨z0, z1, z2, _⟩ := row3 hSw.1; obtain ⟨p0, p1, _⟩ := row2 hSw.2.1; obtain ⟨r0, r1, _⟩ := row2 hSw.2.2; go_simp; try with_reducible rfl)
    refine wpAnyK_s (i := 2) (fun _ => hHeld) ?_
    refine wpAnyK_s (i := 3) (fun _ => hHeld) ?_
    refine wpAnyK_s (i := 4) (fun _ => hHeld) ?_
    try refine wpAnyK_n ?_
    refine wpAnyK_s (i := 5) (fun _ => hHeld) ?_
    refine wpAnyK_s (i := 6) (fun _ => hHeld) ?_
    refine wpAnyK_s (i := 7) (fun _ => hHeld) ?_
    refine wpAnyK_s (i := 8) (fun _ => hHeld) ?_
    refine wpAnyK_s (i := 9) (fun _ => hHeld) ?_
    try refine wpAnyK_n ?_
    refine wpAnyK_s (i := 10) (fun _ => hHeld) ?_
    refine wpAnyK_t (i := 11) (v := ?_) [25, 12] rfl (Or.inl ⟨by rfl, ?hy12⟩) hHeld ?_
    case hy12 => (intro W hSw; refine Or.inl ?_; obtain ⟨z0, z1, z2, _⟩ := row3 hSw.1; obtain ⟨p0, p1, _⟩ := row2 hSw.2.1; obtain ⟨r0, r1, _⟩ := row2 hSw.2.2; go_simp; try with_reducible rfl)
    refine wpAnyK_s (i := 13) (fun _ => hHeld) ?_
    refine wpAnyK_t (i := 14) (v := ?_) [25, 24, 23, 22, 21, 16, 15] rfl (Or.inl ⟨by rfl, ?hy14⟩) hHeld ?_
    case hy14 => (intro W hSw; refine Or.inl ?_; obtain ⟨z0, z1, z2, _⟩ := row3 hSw.1; obtain ⟨p0, p1, _⟩ := row2 hSw.2.1; obtain ⟨r0, r1, _⟩ := row2 hSw.2.2; go_simp; try with_reducible rfl)
    refine wpAnyK_s (i := 15) (fun _ => hHeld) ?_
    try refine wpAnyK_n ?_
    refine wpAnyK_s (i := 16) (fun _ => hHeld) ?_
    refine wpAnyK_s (i := 17) (fun _ => hHeld) ?_
    refine wpAnyK_t (i := 18) (v := ?_) [25, 24, 23, 22, 21, 20, 19] rfl (Or.inl ⟨by rfl, ?hy18⟩) hHeld ?_
    case hy18 => (intro W hSw; refine Or.inl ?_; obtain ⟨z0, z1, z2, _⟩ := row3 hSw.1; obtain ⟨p0, p1, _⟩ := row2 hSw.2.1; obtain ⟨r0, r1, _⟩ := row2 hSw.2.2; go_simp; try with_reducible rfl)
    refine wpAnyK_s (i := 19) (fun _ => hHeld) ?_
    refine wpAnyK_s (i := 20) (fun _ => hHeld) ?_
    try refine wpAnyK_n ?_
    refine wpAnyK_ready (rs := [12, 21]) (by kernel_rfl) (by simp) ?_
    refine AllReadyK.cons rfl (fun KQ hKQ => ?_) (AllReadyK.cons rfl (fun KQ hKQ => ?_) AllReadyK.nil)
    focus
      go_simp
      go_at_call 15
      first | refine (HDR.out _ HB21.out).mono ?_ | refine (HDR.out _ HB11.out).mono ?_
      rintro e w7 ⟨rfl, hm, hk⟩
      have HBW := Lib.hid (Below.later HB1.out hm.2.2.2 HB1.out.size)
      have hs7 := And.intro hm.1 (And.intro ((hk.block _ (block_lt hHeld.2.1) (fun hf => by have := HFT.out _ hf; omega)).trans hHeld.2.1) ((hk.block _ (block_lt hHeld.2.2) (fun hf => by have := HFT.out _ hf; omega)).trans hHeld.2.2))
      first | (have hcv7 : (convert 34 9 (.slice (some ⟨w6.heap.size + 1 + 1, 0, none⟩) 3 3)).run Tryz.prog w7 = .ok (.string ⟨#[32, 32, 13]⟩) w7 := conv_three2 32 32 rfl rfl ((hk.block _ (block_lt HX21.out) (fun hf => by have := HFT.out _ hf; omega)).trans HX21.out)) | skip
      clear hm hk
      go_wp2_with fail
      refine hKQ.out _ _ (hs7) ?_
      clear hHeld hKQ KQ
      intro hHeld
      try refine wpAnyK_n ?_
      clear hs7
      refine wpAnyK_ready (rs := [21]) (by kernel_rfl) (by simp) ?_
      refine AllReadyK.cons rfl (fun KQ hKQ => ?_) AllReadyK.nil
      go_simp
      refine hKQ.out _ _ (⟨(Below.heap_alloc _ _ _ (block_lt hHeld.1)).trans hHeld.1, (Below.heap_alloc _ _ _ (block_lt hHeld.2.1)).trans hHeld.2.1, (Below.heap_alloc _ _ _ (block_lt hHeld.2.2)).trans hHeld.2.2⟩) ?_
      clear hHeld hKQ KQ
      intro hHeld
      try refine wpAnyK_n ?_
      first | (have hcv : (convert 34 9 (.slice (some ⟨w7.heap.size, 0, none⟩) 3 3)).run Tryz.prog (w7.alloc (.cells #[.int .u8 32, .int .u8 32, .int .u8 13] 5)) = .ok (.string ⟨#[32, 32, 13]⟩) (w7.alloc (.cells #[.int .u8 32, .int .u8 32, .int .u8 13] 5)) := conv_three2 32 32 rfl rfl (heap_alloc_new w7 _); have HBE := Lib.hid (HBW.out.alloc HBW.out.size (.cells #[.int .u8 32, .int .u8 32, .int .u8 13] 5))) | (have hx := heap_alloc_new ((w6.alloc (.cells #[.int .i64 0, .int .i64 0] 36)).alloc (.cells #[.int .i64 0, .int .i64 0] 36)) (.cells #[.int .u8 32, .int .u8 32, .int .u8 13] 5); rw [World.size_alloc, World.size_alloc] at hx; have HX21 : Hid ((((w6.alloc (.cells #[.int .i64 0, .int .i64 0] 36)).alloc (.cells #[.int .i64 0, .int .i64 0] 36)).alloc (.cells #[.int .u8 32, .int .u8 32, .int .u8 13] 5)).drew.heap[w6.heap.size + 1 + 1]? = some (.cells #[.int .u8 32, .int .u8 32, .int .u8 13] 5 (0, 0))) := hx; have hcv : (convert 34 9 (.slice (some ⟨w6.heap.size + 1 + 1, 0, none⟩) 3 3)).run Tryz.prog (((w6.alloc (.cells #[.int .i64 0, .int .i64 0] 36)).alloc (.cells #[.int .i64 0, .int .i64 0] 36)).alloc (.cells #[.int .u8 32, .int .u8 32, .int .u8 13] 5)).drew = .ok (.string ⟨#[32, 32, 13]⟩) (((w6.alloc (.cells #[.int .i64 0, .int .i64 0] 36)).alloc (.cells #[.int .i64 0, .int .i64 0] 36)).alloc (.cells #[.int .u8 32, .int .u8 32, .int .u8 13] 5)).drew := conv_three2 32 32 rfl rfl hx; have HB21 : Hid (Below w5.heap.size w5 (((w6.alloc (.cells #[.int .i64 0, .int .i64 0] 36)).alloc (.cells #[.int .i64 0, .int .i64 0] 36)).alloc (.cells #[.int .u8 32, .int .u8 32, .int .u8 13] 5)).drew) := HB11.out.alloc HB11.out.size _; clear hx)
      refine wpAnyK_ready (rs := [22]) (by kernel_rfl) (by simp) ?_
      refine AllReadyK.cons rfl (fun KQ hKQ => ?_) AllReadyK.nil
      go_simp
      skip
      refine hKQ.out _ _ (hHeld) ?_
      clear hHeld hKQ KQ
      intro hHeld
      try refine wpAnyK_n ?_
      refine wpAnyK_s (i := 23) (fun _ => hHeld) ?_
      refine wpAnyK_s (i := 24) (fun _ => hHeld) ?_
      refine wpAnyK_s (i := 25) (fun _ => hHeld) ?_
      try refine wpAnyK_n ?_
      refine wpAnyK_ready (rs := [26]) (by kernel_rfl) (by simp) ?_
      refine AllReadyK.free rfl (by kernel_rfl) (fun KQ hKQ => ?_) AllReadyK.nil
      go_simp
      go_at_call 11
      first | (refine (HAW.out _ HBE.out).mono ?_; rintro e w9 ⟨rfl, hb9⟩; have HB9 := Lib.hid (Below.later HBE.out hb9 HBE.out.size); clear hb9) | (refine (HAW.out _ HBW.out).mono ?_; rintro e w9 ⟨rfl, hb9⟩; have HB9 := Lib.hid (Below.later HBW.out hb9 HBW.out.size); clear hb9)
      go_wp2_with fail
      refine hKQ.out _ _ ?_
      clear hKQ KQ
      try refine wpAnyK_n ?_
      refine wpAnyK_s (i := 27) knoK ?_
      refine wpAnyK_s (i := 28) knoK ?_
      try refine wpAnyK_n ?_
      refine wpAnyK_done (by kernel_rfl) ?_ _
      refine NoPanic.normal ?_
    rotate_left 1
    focus
      go_simp
      refine hKQ.out _ _ (⟨(Below.heap_alloc _ _ _ (block_lt hHeld.1)).trans hHeld.1, (Below.heap_alloc _ _ _ (block_lt hHeld.2.1)).trans hHeld.2.1, (Below.heap_alloc _ _ _ (block_lt hHeld.2.2)).trans hHeld.2.2⟩) ?_
      clear hHeld hKQ KQ
      intro hHeld
      try refine wpAnyK_n ?_
      first | (have hcv : (convert 34 9 (.slice (some ⟨w7.heap.size, 0, none⟩) 3 3)).run Tryz.prog (w7.alloc (.cells #[.int .u8 32, .int .u8 32, .int .u8 13] 5)) = .ok (.string ⟨#[32, 32, 13]⟩) (w7.alloc (.cells #[.int .u8 32, .int .u8 32, .int .u8 13] 5)) := conv_three2 32 32 rfl rfl (heap_alloc_new w7 _); have HBE := Lib.hid (HBW.out.alloc HBW.out.size (.cells #[.int .u8 32, .int .u8 32, .int .u8 13] 5))) | (have hx := heap_alloc_new ((w6.alloc (.cells #[.int .i64 0, .int .i64 0] 36)).alloc (.cells #[.int .i64 0, .int .i64 0] 36)) (.cells #[.int .u8 32, .int .u8 32, .int .u8 13] 5); rw [World.size_alloc, World.size_alloc] at hx; have HX21 : Hid ((((w6.alloc (.cells #[.int .i64 0, .int .i64 0] 36)).alloc (.cells #[.int .i64 0, .int .i64 0] 36)).alloc (.cells #[.int .u8 32, .int .u8 32, .int .u8 13] 5)).drew.heap[w6.heap.size + 1 + 1]? = some (.cells #[.int .u8 32, .int .u8 32, .int .u8 13] 5 (0, 0))) := hx; have hcv : (convert 34 9 (.slice (some ⟨w6.heap.size + 1 + 1, 0, none⟩) 3 3)).run Tryz.prog (((w6.alloc (.cells #[.int .i64 0, .int .i64 0] 36)).alloc (.cells #[.int .i64 0, .int .i64 0] 36)).alloc (.cells #[.int .u8 32, .int .u8 32, .int .u8 13] 5)).drew = .ok (.string ⟨#[32, 32, 13]⟩) (((w6.alloc (.cells #[.int .i64 0, .int .i64 0] 36)).alloc (.cells #[.int .i64 0, .int .i64 0] 36)).alloc (.cells #[.int .u8 32, .int .u8 32, .int .u8 13] 5)).drew := conv_three2 32 32 rfl rfl hx; have HB21 : Hid (Below w5.heap.size w5 (((w6.alloc (.cells #[.int .i64 0, .int .i64 0] 36)).alloc (.cells #[.int .i64 0, .int .i64 0] 36)).alloc (.cells #[.int .u8 32, .int .u8 32, .int .u8 13] 5)).drew) := HB11.out.alloc HB11.out.size _; clear hx)
      refine wpAnyK_ready (rs := [12, 22]) (by kernel_rfl) (by simp) ?_
      refine AllReadyK.cons rfl (fun KQ hKQ => ?_) (AllReadyK.cons rfl (fun KQ hKQ => ?_) AllReadyK.nil)
      focus
        go_simp
        go_at_call 15
        first | refine (HDR.out _ HB21.out).mono ?_ | refine (HDR.out _ HB11.out).mono ?_
        rintro e w7 ⟨rfl, hm, hk⟩
        have HBW := Lib.hid (Below.later HB1.out hm.2.2.2 HB1.out.size)
        have hs7 := And.intro hm.1 (And.intro ((hk.block _ (block_lt hHeld.2.1) (fun hf => by have := HFT.out _ hf; omega)).trans hHeld.2.1) ((hk.block _ (block_lt hHeld.2.2) (fun hf => by have := HFT.out _ hf; omega)).trans hHeld.2.2))
        first | (have hcv7 : (convert 34 9 (.slice (some ⟨w6.heap.size + 1 + 1, 0, none⟩) 3 3)).run Tryz.prog w7 = .ok (.string ⟨#[32, 32, 13]⟩) w7 := conv_three2 32 32 rfl rfl ((hk.block _ (block_lt HX21.out) (fun hf => by have := HFT.out _ hf; omega)).trans HX21.out)) | skip
        clear hm hk
        go_wp2_with fail
        refine hKQ.out _ _ (hs7) ?_
        clear hHeld hKQ KQ
        intro hHeld
        try refine wpAnyK_n ?_
        clear hs7
        refine wpAnyK_ready (rs := [22]) (by kernel_rfl) (by simp) ?_
        refine AllReadyK.cons rfl (fun KQ hKQ => ?_) AllReadyK.nil
        go_simp
        skip
        refine hKQ.out _ _ (hHeld) ?_
        clear hHeld hKQ KQ
        intro hHeld
        try refine wpAnyK_n ?_
        refine wpAnyK_s (i := 23) (fun _ => hHeld) ?_
        refine wpAnyK_s (i := 24) (fun _ => hHeld) ?_
        refine wpAnyK_s (i := 25) (fun _ => hHeld) ?_
        try refine wpAnyK_n ?_
        refine wpAnyK_ready (rs := [26]) (by kernel_rfl) (by simp) ?_
        refine AllReadyK.free rfl (by kernel_rfl) (fun KQ hKQ => ?_) AllReadyK.nil
        go_simp
        go_at_call 11
        first | (refine (HAW.out _ HBE.out).mono ?_; rintro e w9 ⟨rfl, hb9⟩; have HB9 := Lib.hid (Below.later HBE.out hb9 HBE.out.size); clear hb9) | (refine (HAW.out _ HBW.out).mono ?_; rintro e w9 ⟨rfl, hb9⟩; have HB9 := Lib.hid (Below.later HBW.out hb9 HBW.out.size); clear hb9)
        go_wp2_with fail
        refine hKQ.out _ _ ?_
        clear hKQ KQ
        try refine wpAnyK_n ?_
        refine wpAnyK_s (i := 27) knoK ?_
        refine wpAnyK_s (i := 28) knoK ?_
        try refine wpAnyK_n ?_
        refine wpAnyK_done (by kernel_rfl) ?_ _
        refine NoPanic.normal ?_
      rotate_left 1
      focus
        go_simp
        skip
        refine hKQ.out _ _ (hHeld) ?_
        clear hHeld hKQ KQ
        intro hHeld
        try refine wpAnyK_n ?_
        refine wpAnyK_ready (rs := [12]) (by kernel_rfl) (by simp) ?_
        refine AllReadyK.cons rfl (fun KQ hKQ => ?_) AllReadyK.nil
        go_simp
        go_at_call 15
        first | refine (HDR.out _ HB21.out).mono ?_ | refine (HDR.out _ HB11.out).mono ?_
        rintro e w7 ⟨rfl, hm, hk⟩
        have HBW := Lib.hid (Below.later HB1.out hm.2.2.2 HB1.out.size)
        have hs7 := And.intro hm.1 (And.intro ((hk.block _ (block_lt hHeld.2.1) (fun hf => by have := HFT.out _ hf; omega)).trans hHeld.2.1) ((hk.block _ (block_lt hHeld.2.2) (fun hf => by have := HFT.out _ hf; omega)).trans hHeld.2.2))
        first | (have hcv7 : (convert 34 9 (.slice (some ⟨w6.heap.size + 1 + 1, 0, none⟩) 3 3)).run Tryz.prog w7 = .ok (.string ⟨#[32, 32, 13]⟩) w7 := conv_three2 32 32 rfl rfl ((hk.block _ (block_lt HX21.out) (fun hf => by have := HFT.out _ hf; omega)).trans HX21.out)) | skip
        clear hm hk
        go_wp2_with fail
        refine hKQ.out _ _ (hs7) ?_
        clear hHeld hKQ KQ
        intro hHeld
        try refine wpAnyK_n ?_
        clear hs7
        refine wpAnyK_s (i := 23) (fun _ => hHeld) ?_
        refine wpAnyK_s (i := 24) (fun _ => hHeld) ?_
        refine wpAnyK_s (i := 25) (fun _ => hHeld) ?_
        try refine wpAnyK_n ?_
        refine wpAnyK_ready (rs := [26]) (by kernel_rfl) (by simp) ?_
        refine AllReadyK.free rfl (by kernel_rfl) (fun KQ hKQ => ?_) AllReadyK.nil
        go_simp
        go_at_call 11
        first | (refine (HAW.out _ HBE.out).mono ?_; rintro e w9 ⟨rfl, hb9⟩; have HB9 := Lib.hid (Below.later HBE.out hb9 HBE.out.size); clear hb9) | (refine (HAW.out _ HBW.out).mono ?_; rintro e w9 ⟨rfl, hb9⟩; have HB9 := Lib.hid (Below.later HBW.out hb9 HBW.out.size); clear hb9)
        go_wp2_with fail
        refine hKQ.out _ _ ?_
        clear hKQ KQ
        try refine wpAnyK_n ?_
        refine wpAnyK_s (i := 27) knoK ?_
        refine wpAnyK_s (i := 28) knoK ?_
        try refine wpAnyK_n ?_
        refine wpAnyK_done (by kernel_rfl) ?_ _
        refine NoPanic.normal ?_
      rotate_left 1
    rotate_left 2
    all_goals (
      go_wp2_with fail
      go_ret
      exact ⟨rfl, HB9.out⟩)
  · skip
    by_cases q2 : (R : Int) ≤ (bm : Int) - 32
    · rw [if_neg (by omega)] at hP
      subst hP
      have h32a : IntKind.i64.wrap 32 = 32 := by decide
      have h32b : IntKind.u8.wrap 32 = 32 := by decide
      have hq : (feedA (newA R C) (askL b d)).q = [32, 32, 13] := HPQ.out
      obtain ⟨FT, hft, hdr⟩ := drain_keeps HM5.out
      rw [hq] at hdr
      have HDR := Lib.hid hdr
      have HFT := Lib.hid hft
      have hz6 := HB6.out.size
      clear hdr hq hft
      go_upto_region 11 with fail
      clear s0 s1 v0 v1 f0 f1
      have HB11 : Hid (Below w5.heap.size w5 ((w6.alloc (.cells #[.int .i64 0, .int .i64 0] 36)).alloc (.cells #[.int .i64 0, .int .i64 0] 36)).drew) := ((HB6.out.alloc HB6.out.size _).alloc (by rw [World.size_alloc]; omega) _).drew
      have HP0 : Hid (((w6.alloc (.cells #[.int .i64 0, .int .i64 0] 36)).alloc (.cells #[.int .i64 0, .int .i64 0] 36)).drew.heap[w6.heap.size]? = some (.cells #[.int .i64 0, .int .i64 0] 36 (0, 0))) := (Below.heap_alloc _ _ _ (by rw [World.size_alloc]; omega)).trans (heap_alloc_new w6 _)
      have HP1 : Hid (((w6.alloc (.cells #[.int .i64 0, .int .i64 0] 36)).alloc (.cells #[.int .i64 0, .int .i64 0] 36)).drew.heap[w6.heap.size + 1]? = some (.cells #[.int .i64 0, .int .i64 0] 36 (0, 0))) := by
        have := heap_alloc_new (w6.alloc (.cells #[.int .i64 0, .int .i64 0] 36)) (.cells #[.int .i64 0, .int .i64 0] 36)
        rwa [World.size_alloc] at this
      have HBOX : Hid (((w6.alloc (.cells #[.int .i64 0, .int .i64 0] 36)).alloc (.cells #[.int .i64 0, .int .i64 0] 36)).drew.heap[wp]? = some (.cells #[.pointer (some ⟨sp, 0, none⟩), .pointer (some ⟨qp, 0, none⟩), .pointer (some ⟨tp, 0, none⟩)] 32 (0, 0))) := (HB11.out.block _ (block_lt HM5.out.1)).trans HM5.out.1
      refine wp_region_noPanic ?_
      refine wp_region_k (S := fun W : World => W.heap[wp]? = some (.cells #[.pointer (some ⟨sp, 0, none⟩), .pointer (some ⟨qp, 0, none⟩), .pointer (some ⟨tp, 0, none⟩)] 32 (0, 0)) ∧ W.heap[w6.heap.size]? = some (.cells #[.int .i64 0, .int .i64 0] 36 (0, 0)) ∧ W.heap[w6.heap.size + 1]? = some (.cells #[.int .i64 0, .int .i64 0] 36 (0, 0))) 26 (by kernel_rfl) (⟨HBOX.out, HP0.out, HP1.out⟩) (fun hHeld => ?_)
      refine wpAnyK_t (i := 0) (v := ?_) [25, 24, 7, 3, 2] rfl (Or.inl ⟨by rfl, ?hy1⟩) hHeld ?_
      case hy1 => (intro W hSw; refine Or.inl ?_; obtain ⟨z0, z1, z2, _⟩ := row3 hSw.1; obtain ⟨p0, p1, _⟩ := row2 hSw.2.1; obtain ⟨r0, r1, _⟩ := row2 hSw.2.2; go_simp; try with_reducible rfl)
      refine wpAnyK_t (i := 1) (v := ?_) [25, 24, 7, 3, 2] rfl (Or.inl ⟨by rfl, ?hy2⟩) hHeld ?_
      case hy2 => (intro W hSw; refine Or.inl ?_; obtain ⟨z0, z1, z2, _⟩ := row3 hSw.1; obtain ⟨p0, p1, _⟩ := row2 hSw.2.1; obtain ⟨r0, r1, _⟩ := row2 hSw.2.2; go_simp; try with_reducible rfl)
      refine wpAnyK_s (i := 2) (fun _ => hHeld) ?_
      refine wpAnyK_s (i := 3) (fun _ => hHeld) ?_
      refine wpAnyK_s (i := 4) (fun _ => hHeld) ?_
      try refine wpAnyK_n ?_
      refine wpAnyK_s (i := 5) (fun _ => hHeld) ?_
      refine wpAnyK_s (i := 6) (fun _ => hHeld) ?_
      refine wpAnyK_s (i := 7) (fun _ => hHeld) ?_
      refine wpAnyK_s (i := 8) (fun _ => hHeld) ?_
      refine wpAnyK_s (i := 9) (fun _ => hHeld) ?_
      try refine wpAnyK_n ?_
      refine wpAnyK_s (i := 10) (fun _ => hHeld) ?_
      refine wpAnyK_t (i := 11) (v := ?_) [25, 12] rfl (Or.inl ⟨by rfl, ?hy12⟩) hHeld ?_
      case hy12 => (intro W hSw; refine Or.inl ?_; obtain ⟨z0, z1, z2, _⟩ := row3 hSw.1; obtain ⟨p0, p1, _⟩ := row2 hSw.2.1; obtain ⟨r0, r1, _⟩ := row2 hSw.2.2; go_simp; try with_reducible rfl)
      refine wpAnyK_s (i := 13) (fun _ => hHeld) ?_
      refine wpAnyK_t (i := 14) (v := ?_) [25, 24, 23, 22, 21, 16, 15] rfl (Or.inl ⟨by rfl, ?hy14⟩) hHeld ?_
      case hy14 => (intro W hSw; refine Or.inl ?_; obtain ⟨z0, z1, z2, _⟩ := row3 hSw.1; obtain ⟨p0, p1, _⟩ := row2 hSw.2.1; obtain ⟨r0, r1, _⟩ := row2 hSw.2.2; go_simp; try with_reducible rfl)
      refine wpAnyK_s (i := 15) (fun _ => hHeld) ?_
      try refine wpAnyK_n ?_
      refine wpAnyK_s (i := 16) (fun _ => hHeld) ?_
      refine wpAnyK_s (i := 17) (fun _ => hHeld) ?_
      refine wpAnyK_t (i := 18) (v := ?_) [25, 24, 23, 22, 21, 20, 19] rfl (Or.inl ⟨by rfl, ?hy18⟩) hHeld ?_
      case hy18 => (intro W hSw; refine Or.inl ?_; obtain ⟨z0, z1, z2, _⟩ := row3 hSw.1; obtain ⟨p0, p1, _⟩ := row2 hSw.2.1; obtain ⟨r0, r1, _⟩ := row2 hSw.2.2; go_simp; try with_reducible rfl)
      refine wpAnyK_s (i := 19) (fun _ => hHeld) ?_
      refine wpAnyK_s (i := 20) (fun _ => hHeld) ?_
      try refine wpAnyK_n ?_
      refine wpAnyK_ready (rs := [12, 21]) (by kernel_rfl) (by simp) ?_
      refine AllReadyK.cons rfl (fun KQ hKQ => ?_) (AllReadyK.cons rfl (fun KQ hKQ => ?_) AllReadyK.nil)
      focus
        go_simp
        go_at_call 15
        first | refine (HDR.out _ HB21.out).mono ?_ | refine (HDR.out _ HB11.out).mono ?_
        rintro e w7 ⟨rfl, hm, hk⟩
        have HBW := Lib.hid (Below.later HB1.out hm.2.2.2 HB1.out.size)
        have hs7 := And.intro hm.1 (And.intro ((hk.block _ (block_lt hHeld.2.1) (fun hf => by have := HFT.out _ hf; omega)).trans hHeld.2.1) ((hk.block _ (block_lt hHeld.2.2) (fun hf => by have := HFT.out _ hf; omega)).trans hHeld.2.2))
        first | (have hcv7 : (convert 34 9 (.slice (some ⟨w6.heap.size + 1 + 1, 0, none⟩) 3 3)).run Tryz.prog w7 = .ok (.string ⟨#[32, 32, 13]⟩) w7 := conv_three2 32 32 rfl rfl ((hk.block _ (block_lt HX21.out) (fun hf => by have := HFT.out _ hf; omega)).trans HX21.out)) | skip
        clear hm hk
        go_wp2_with fail
        refine hKQ.out _ _ (hs7) ?_
        clear hHeld hKQ KQ
        intro hHeld
        try refine wpAnyK_n ?_
        clear hs7
        refine wpAnyK_ready (rs := [21]) (by kernel_rfl) (by simp) ?_
        refine AllReadyK.cons rfl (fun KQ hKQ => ?_) AllReadyK.nil
        go_simp
        refine hKQ.out _ _ (⟨(Below.heap_alloc _ _ _ (block_lt hHeld.1)).trans hHeld.1, (Below.heap_alloc _ _ _ (block_lt hHeld.2.1)).trans hHeld.2.1, (Below.heap_alloc _ _ _ (block_lt hHeld.2.2)).trans hHeld.2.2⟩) ?_
        clear hHeld hKQ KQ
        intro hHeld
        try refine wpAnyK_n ?_
        first | (have hcv : (convert 34 9 (.slice (some ⟨w7.heap.size, 0, none⟩) 3 3)).run Tryz.prog (w7.alloc (.cells #[.int .u8 32, .int .u8 32, .int .u8 13] 5)) = .ok (.string ⟨#[32, 32, 13]⟩) (w7.alloc (.cells #[.int .u8 32, .int .u8 32, .int .u8 13] 5)) := conv_three2 32 32 rfl rfl (heap_alloc_new w7 _); have HBE := Lib.hid (HBW.out.alloc HBW.out.size (.cells #[.int .u8 32, .int .u8 32, .int .u8 13] 5))) | (have hx := heap_alloc_new ((w6.alloc (.cells #[.int .i64 0, .int .i64 0] 36)).alloc (.cells #[.int .i64 0, .int .i64 0] 36)) (.cells #[.int .u8 32, .int .u8 32, .int .u8 13] 5); rw [World.size_alloc, World.size_alloc] at hx; have HX21 : Hid ((((w6.alloc (.cells #[.int .i64 0, .int .i64 0] 36)).alloc (.cells #[.int .i64 0, .int .i64 0] 36)).alloc (.cells #[.int .u8 32, .int .u8 32, .int .u8 13] 5)).drew.heap[w6.heap.size + 1 + 1]? = some (.cells #[.int .u8 32, .int .u8 32, .int .u8 13] 5 (0, 0))) := hx; have hcv : (convert 34 9 (.slice (some ⟨w6.heap.size + 1 + 1, 0, none⟩) 3 3)).run Tryz.prog (((w6.alloc (.cells #[.int .i64 0, .int .i64 0] 36)).alloc (.cells #[.int .i64 0, .int .i64 0] 36)).alloc (.cells #[.int .u8 32, .int .u8 32, .int .u8 13] 5)).drew = .ok (.string ⟨#[32, 32, 13]⟩) (((w6.alloc (.cells #[.int .i64 0, .int .i64 0] 36)).alloc (.cells #[.int .i64 0, .int .i64 0] 36)).alloc (.cells #[.int .u8 32, .int .u8 32, .int .u8 13] 5)).drew := conv_three2 32 32 rfl rfl hx; have HB21 : Hid (Below w5.heap.size w5 (((w6.alloc (.cells #[.int .i64 0, .int .i64 0] 36)).alloc (.cells #[.int .i64 0, .int .i64 0] 36)).alloc (.cells #[.int .u8 32, .int .u8 32, .int .u8 13] 5)).drew) := HB11.out.alloc HB11.out.size _; clear hx)
        refine wpAnyK_ready (rs := [22]) (by kernel_rfl) (by simp) ?_
        refine AllReadyK.cons rfl (fun KQ hKQ => ?_) AllReadyK.nil
        go_simp
        skip
        refine hKQ.out _ _ (hHeld) ?_
        clear hHeld hKQ KQ
        intro hHeld
        try refine wpAnyK_n ?_
        refine wpAnyK_s (i := 23) (fun _ => hHeld) ?_
        refine wpAnyK_s (i := 24) (fun _ => hHeld) ?_
        refine wpAnyK_s (i := 25) (fun _ => hHeld) ?_
        try refine wpAnyK_n ?_
        refine wpAnyK_ready (rs := [26]) (by kernel_rfl) (by simp) ?_
        refine AllReadyK.free rfl (by kernel_rfl) (fun KQ hKQ => ?_) AllReadyK.nil
        go_simp
        go_at_call 11
        first | (refine (HAW.out _ HBE.out).mono ?_; rintro e w9 ⟨rfl, hb9⟩; have HB9 := Lib.hid (Below.later HBE.out hb9 HBE.out.size); clear hb9) | (refine (HAW.out _ HBW.out).mono ?_; rintro e w9 ⟨rfl, hb9⟩; have HB9 := Lib.hid (Below.later HBW.out hb9 HBW.out.size); clear hb9)
        go_wp2_with fail
        refine hKQ.out _ _ ?_
        clear hKQ KQ
        try refine wpAnyK_n ?_
        refine wpAnyK_s (i := 27) knoK ?_
        refine wpAnyK_s (i := 28) knoK ?_
        try refine wpAnyK_n ?_
        refine wpAnyK_done (by kernel_rfl) ?_ _
        refine NoPanic.normal ?_
      rotate_left 1
      focus
        go_simp
        refine hKQ.out _ _ (⟨(Below.heap_alloc _ _ _ (block_lt hHeld.1)).trans hHeld.1, (Below.heap_alloc _ _ _ (block_lt hHeld.2.1)).trans hHeld.2.1, (Below.heap_alloc _ _ _ (block_lt hHeld.2.2)).trans hHeld.2.2⟩) ?_
        clear hHeld hKQ KQ
        intro hHeld
        try refine wpAnyK_n ?_
        first | (have hcv : (convert 34 9 (.slice (some ⟨w7.heap.size, 0, none⟩) 3 3)).run Tryz.prog (w7.alloc (.cells #[.int .u8 32, .int .u8 32, .int .u8 13] 5)) = .ok (.string ⟨#[32, 32, 13]⟩) (w7.alloc (.cells #[.int .u8 32, .int .u8 32, .int .u8 13] 5)) := conv_three2 32 32 rfl rfl (heap_alloc_new w7 _); have HBE := Lib.hid (HBW.out.alloc HBW.out.size (.cells #[.int .u8 32, .int .u8 32, .int .u8 13] 5))) | (have hx := heap_alloc_new ((w6.alloc (.cells #[.int .i64 0, .int .i64 0] 36)).alloc (.cells #[.int .i64 0, .int .i64 0] 36)) (.cells #[.int .u8 32, .int .u8 32, .int .u8 13] 5); rw [World.size_alloc, World.size_alloc] at hx; have HX21 : Hid ((((w6.alloc (.cells #[.int .i64 0, .int .i64 0] 36)).alloc (.cells #[.int .i64 0, .int .i64 0] 36)).alloc (.cells #[.int .u8 32, .int .u8 32, .int .u8 13] 5)).drew.heap[w6.heap.size + 1 + 1]? = some (.cells #[.int .u8 32, .int .u8 32, .int .u8 13] 5 (0, 0))) := hx; have hcv : (convert 34 9 (.slice (some ⟨w6.heap.size + 1 + 1, 0, none⟩) 3 3)).run Tryz.prog (((w6.alloc (.cells #[.int .i64 0, .int .i64 0] 36)).alloc (.cells #[.int .i64 0, .int .i64 0] 36)).alloc (.cells #[.int .u8 32, .int .u8 32, .int .u8 13] 5)).drew = .ok (.string ⟨#[32, 32, 13]⟩) (((w6.alloc (.cells #[.int .i64 0, .int .i64 0] 36)).alloc (.cells #[.int .i64 0, .int .i64 0] 36)).alloc (.cells #[.int .u8 32, .int .u8 32, .int .u8 13] 5)).drew := conv_three2 32 32 rfl rfl hx; have HB21 : Hid (Below w5.heap.size w5 (((w6.alloc (.cells #[.int .i64 0, .int .i64 0] 36)).alloc (.cells #[.int .i64 0, .int .i64 0] 36)).alloc (.cells #[.int .u8 32, .int .u8 32, .int .u8 13] 5)).drew) := HB11.out.alloc HB11.out.size _; clear hx)
        refine wpAnyK_ready (rs := [12, 22]) (by kernel_rfl) (by simp) ?_
        refine AllReadyK.cons rfl (fun KQ hKQ => ?_) (AllReadyK.cons rfl (fun KQ hKQ => ?_) AllReadyK.nil)
        focus
          go_simp
          go_at_call 15
          first | refine (HDR.out _ HB21.out).mono ?_ | refine (HDR.out _ HB11.out).mono ?_
          rintro e w7 ⟨rfl, hm, hk⟩
          have HBW := Lib.hid (Below.later HB1.out hm.2.2.2 HB1.out.size)
          have hs7 := And.intro hm.1 (And.intro ((hk.block _ (block_lt hHeld.2.1) (fun hf => by have := HFT.out _ hf; omega)).trans hHeld.2.1) ((hk.block _ (block_lt hHeld.2.2) (fun hf => by have := HFT.out _ hf; omega)).trans hHeld.2.2))
          first | (have hcv7 : (convert 34 9 (.slice (some ⟨w6.heap.size + 1 + 1, 0, none⟩) 3 3)).run Tryz.prog w7 = .ok (.string ⟨#[32, 32, 13]⟩) w7 := conv_three2 32 32 rfl rfl ((hk.block _ (block_lt HX21.out) (fun hf => by have := HFT.out _ hf; omega)).trans HX21.out)) | skip
          clear hm hk
          go_wp2_with fail
          refine hKQ.out _ _ (hs7) ?_
          clear hHeld hKQ KQ
          intro hHeld
          try refine wpAnyK_n ?_
          clear hs7
          refine wpAnyK_ready (rs := [22]) (by kernel_rfl) (by simp) ?_
          refine AllReadyK.cons rfl (fun KQ hKQ => ?_) AllReadyK.nil
          go_simp
          skip
          refine hKQ.out _ _ (hHeld) ?_
          clear hHeld hKQ KQ
          intro hHeld
          try refine wpAnyK_n ?_
          refine wpAnyK_s (i := 23) (fun _ => hHeld) ?_
          refine wpAnyK_s (i := 24) (fun _ => hHeld) ?_
          refine wpAnyK_s (i := 25) (fun _ => hHeld) ?_
          try refine wpAnyK_n ?_
          refine wpAnyK_ready (rs := [26]) (by kernel_rfl) (by simp) ?_
          refine AllReadyK.free rfl (by kernel_rfl) (fun KQ hKQ => ?_) AllReadyK.nil
          go_simp
          go_at_call 11
          first | (refine (HAW.out _ HBE.out).mono ?_; rintro e w9 ⟨rfl, hb9⟩; have HB9 := Lib.hid (Below.later HBE.out hb9 HBE.out.size); clear hb9) | (refine (HAW.out _ HBW.out).mono ?_; rintro e w9 ⟨rfl, hb9⟩; have HB9 := Lib.hid (Below.later HBW.out hb9 HBW.out.size); clear hb9)
          go_wp2_with fail
          refine hKQ.out _ _ ?_
          clear hKQ KQ
          try refine wpAnyK_n ?_
          refine wpAnyK_s (i := 27) knoK ?_
          refine wpAnyK_s (i := 28) knoK ?_
          try refine wpAnyK_n ?_
          refine wpAnyK_done (by kernel_rfl) ?_ _
          refine NoPanic.normal ?_
        rotate_left 1
        focus
          go_simp
          skip
          refine hKQ.out _ _ (hHeld) ?_
          clear hHeld hKQ KQ
          intro hHeld
          try refine wpAnyK_n ?_
          refine wpAnyK_ready (rs := [12]) (by kernel_rfl) (by simp) ?_
          refine AllReadyK.cons rfl (fun KQ hKQ => ?_) AllReadyK.nil
          go_simp
          go_at_call 15
          first | refine (HDR.out _ HB21.out).mono ?_ | refine (HDR.out _ HB11.out).mono ?_
          rintro e w7 ⟨rfl, hm, hk⟩
          have HBW := Lib.hid (Below.later HB1.out hm.2.2.2 HB1.out.size)
          have hs7 := And.intro hm.1 (And.intro ((hk.block _ (block_lt hHeld.2.1) (fun hf => by have := HFT.out _ hf; omega)).trans hHeld.2.1) ((hk.block _ (block_lt hHeld.2.2) (fun hf => by have := HFT.out _ hf; omega)).trans hHeld.2.2))
          first | (have hcv7 : (convert 34 9 (.slice (some ⟨w6.heap.size + 1 + 1, 0, none⟩) 3 3)).run Tryz.prog w7 = .ok (.string ⟨#[32, 32, 13]⟩) w7 := conv_three2 32 32 rfl rfl ((hk.block _ (block_lt HX21.out) (fun hf => by have := HFT.out _ hf; omega)).trans HX21.out)) | skip
          clear hm hk
          go_wp2_with fail
          refine hKQ.out _ _ (hs7) ?_
          clear hHeld hKQ KQ
          intro hHeld
          try refine wpAnyK_n ?_
          clear hs7
          refine wpAnyK_s (i := 23) (fun _ => hHeld) ?_
          refine wpAnyK_s (i := 24) (fun _ => hHeld) ?_
          refine wpAnyK_s (i := 25) (fun _ => hHeld) ?_
          try refine wpAnyK_n ?_
          refine wpAnyK_ready (rs := [26]) (by kernel_rfl) (by simp) ?_
          refine AllReadyK.free rfl (by kernel_rfl) (fun KQ hKQ => ?_) AllReadyK.nil
          go_simp
          go_at_call 11
          first | (refine (HAW.out _ HBE.out).mono ?_; rintro e w9 ⟨rfl, hb9⟩; have HB9 := Lib.hid (Below.later HBE.out hb9 HBE.out.size); clear hb9) | (refine (HAW.out _ HBW.out).mono ?_; rintro e w9 ⟨rfl, hb9⟩; have HB9 := Lib.hid (Below.later HBW.out hb9 HBW.out.size); clear hb9)
          go_wp2_with fail
          refine hKQ.out _ _ ?_
          clear hKQ KQ
          try refine wpAnyK_n ?_
          refine wpAnyK_s (i := 27) knoK ?_
          refine wpAnyK_s (i := 28) knoK ?_
          try refine wpAnyK_n ?_
          refine wpAnyK_done (by kernel_rfl) ?_ _
          refine NoPanic.normal ?_
        rotate_left 1
      rotate_left 2
      all_goals (
        go_wp2_with fail
        go_ret
        exact ⟨rfl, HB9.out⟩)
    · skip
      by_cases q3 : (dm : Int) - 32 < 0
      · rw [if_neg (by omega)] at hP
        subst hP
        have h32a : IntKind.i64.wrap 32 = 32 := by decide
        have h32b : IntKind.u8.wrap 32 = 32 := by decide
        have hq : (feedA (newA R C) (askL b d)).q = [32, 32, 13] := HPQ.out
        obtain ⟨FT, hft, hdr⟩ := drain_keeps HM5.out
        rw [hq] at hdr
        have HDR := Lib.hid hdr
        have HFT := Lib.hid hft
        have hz6 := HB6.out.size
        clear hdr hq hft
        go_upto_region 11 with fail
        clear s0 s1 v0 v1 f0 f1
        have HB11 : Hid (Below w5.heap.size w5 ((w6.alloc (.cells #[.int .i64 0, .int .i64 0] 36)).alloc (.cells #[.int .i64 0, .int .i64 0] 36)).drew) := ((HB6.out.alloc HB6.out.size _).alloc (by rw [World.size_alloc]; omega) _).drew
        have HP0 : Hid (((w6.alloc (.cells #[.int .i64 0, .int .i64 0] 36)).alloc (.cells #[.int .i64 0, .int .i64 0] 36)).drew.heap[w6.heap.size]? = some (.cells #[.int .i64 0, .int .i64 0] 36 (0, 0))) := (Below.heap_alloc _ _ _ (by rw [World.size_alloc]; omega)).trans (heap_alloc_new w6 _)
        have HP1 : Hid (((w6.alloc (.cells #[.int .i64 0, .int .i64 0] 36)).alloc (.cells #[.int .i64 0, .int .i64 0] 36)).drew.heap[w6.heap.size + 1]? = some (.cells #[.int .i64 0, .int .i64 0] 36 (0, 0))) := by
          have := heap_alloc_new (w6.alloc (.cells #[.int .i64 0, .int .i64 0] 36)) (.cells #[.int .i64 0, .int .i64 0] 36)
          rwa [World.size_alloc] at this
        have HBOX : Hid (((w6.alloc (.cells #[.int .i64 0, .int .i64 0] 36)).alloc (.cells #[.int .i64 0, .int .i64 0] 36)).drew.heap[wp]? = some (.cells #[.pointer (some ⟨sp, 0, none⟩), .pointer (some ⟨qp, 0, none⟩), .pointer (some ⟨tp, 0, none⟩)] 32 (0, 0))) := (HB11.out.block _ (block_lt HM5.out.1)).trans HM5.out.1
        refine wp_region_noPanic ?_
        refine wp_region_k (S := fun W : World => W.heap[wp]? = some (.cells #[.pointer (some ⟨sp, 0, none⟩), .pointer (some ⟨qp, 0, none⟩), .pointer (some ⟨tp, 0, none⟩)] 32 (0, 0)) ∧ W.heap[w6.heap.size]? = some (.cells #[.int .i64 0, .int .i64 0] 36 (0, 0)) ∧ W.heap[w6.heap.size + 1]? = some (.cells #[.int .i64 0, .int .i64 0] 36 (0, 0))) 26 (by kernel_rfl) (⟨HBOX.out, HP0.out, HP1.out⟩) (fun hHeld => ?_)
        refine wpAnyK_t (i := 0) (v := ?_) [25, 24, 7, 3, 2] rfl (Or.inl ⟨by rfl, ?hy1⟩) hHeld ?_
        case hy1 => (intro W hSw; refine Or.inl ?_; obtain ⟨z0, z1, z2, _⟩ := row3 hSw.1; obtain ⟨p0, p1, _⟩ := row2 hSw.2.1; obtain ⟨r0, r1, _⟩ := row2 hSw.2.2; go_simp; try with_reducible rfl)
        refine wpAnyK_t (i := 1) (v := ?_) [25, 24, 7, 3, 2] rfl (Or.inl ⟨by rfl, ?hy2⟩) hHeld ?_
        case hy2 => (intro W hSw; refine Or.inl ?_; obtain ⟨z0, z1, z2, _⟩ := row3 hSw.1; obtain ⟨p0, p1, _⟩ := row2 hSw.2.1; obtain ⟨r0, r1, _⟩ := row2 hSw.2.2; go_simp; try with_reducible rfl)
        refine wpAnyK_s (i := 2) (fun _ => hHeld) ?_
        refine wpAnyK_s (i := 3) (fun _ => hHeld) ?_
        refine wpAnyK_s (i := 4) (fun _ => hHeld) ?_
        try refine wpAnyK_n ?_
        refine wpAnyK_s (i := 5) (fun _ => hHeld) ?_
        refine wpAnyK_s (i := 6) (fun _ => hHeld) ?_
        refine wpAnyK_s (i := 7) (fun _ => hHeld) ?_
        refine wpAnyK_s (i := 8) (fun _ => hHeld) ?_
        refine wpAnyK_s (i := 9) (fun _ => hHeld) ?_
        try refine wpAnyK_n ?_
        refine wpAnyK_s (i := 10) (fun _ => hHeld) ?_
        refine wpAnyK_t (i := 11) (v := ?_) [25, 12] rfl (Or.inl ⟨by rfl, ?hy12⟩) hHeld ?_
        case hy12 => (intro W hSw; refine Or.inl ?_; obtain ⟨z0, z1, z2, _⟩ := row3 hSw.1; obtain ⟨p0, p1, _⟩ := row2 hSw.2.1; obtain ⟨r0, r1, _⟩ := row2 hSw.2.2; go_simp; try with_reducible rfl)
        refine wpAnyK_s (i := 13) (fun _ => hHeld) ?_
        refine wpAnyK_t (i := 14) (v := ?_) [25, 24, 23, 22, 21, 16, 15] rfl (Or.inl ⟨by rfl, ?hy14⟩) hHeld ?_
        case hy14 => (intro W hSw; refine Or.inl ?_; obtain ⟨z0, z1, z2, _⟩ := row3 hSw.1; obtain ⟨p0, p1, _⟩ := row2 hSw.2.1; obtain ⟨r0, r1, _⟩ := row2 hSw.2.2; go_simp; try with_reducible rfl)
        refine wpAnyK_s (i := 15) (fun _ => hHeld) ?_
        try refine wpAnyK_n ?_
        refine wpAnyK_s (i := 16) (fun _ => hHeld) ?_
        refine wpAnyK_s (i := 17) (fun _ => hHeld) ?_
        refine wpAnyK_t (i := 18) (v := ?_) [25, 24, 23, 22, 21, 20, 19] rfl (Or.inl ⟨by rfl, ?hy18⟩) hHeld ?_
        case hy18 => (intro W hSw; refine Or.inl ?_; obtain ⟨z0, z1, z2, _⟩ := row3 hSw.1; obtain ⟨p0, p1, _⟩ := row2 hSw.2.1; obtain ⟨r0, r1, _⟩ := row2 hSw.2.2; go_simp; try with_reducible rfl)
        refine wpAnyK_s (i := 19) (fun _ => hHeld) ?_
        refine wpAnyK_s (i := 20) (fun _ => hHeld) ?_
        try refine wpAnyK_n ?_
        refine wpAnyK_ready (rs := [12, 21]) (by kernel_rfl) (by simp) ?_
        refine AllReadyK.cons rfl (fun KQ hKQ => ?_) (AllReadyK.cons rfl (fun KQ hKQ => ?_) AllReadyK.nil)
        focus
          go_simp
          go_at_call 15
          first | refine (HDR.out _ HB21.out).mono ?_ | refine (HDR.out _ HB11.out).mono ?_
          rintro e w7 ⟨rfl, hm, hk⟩
          have HBW := Lib.hid (Below.later HB1.out hm.2.2.2 HB1.out.size)
          have hs7 := And.intro hm.1 (And.intro ((hk.block _ (block_lt hHeld.2.1) (fun hf => by have := HFT.out _ hf; omega)).trans hHeld.2.1) ((hk.block _ (block_lt hHeld.2.2) (fun hf => by have := HFT.out _ hf; omega)).trans hHeld.2.2))
          first | (have hcv7 : (convert 34 9 (.slice (some ⟨w6.heap.size + 1 + 1, 0, none⟩) 3 3)).run Tryz.prog w7 = .ok (.string ⟨#[32, 32, 13]⟩) w7 := conv_three2 32 32 rfl rfl ((hk.block _ (block_lt HX21.out) (fun hf => by have := HFT.out _ hf; omega)).trans HX21.out)) | skip
          clear hm hk
          go_wp2_with fail
          refine hKQ.out _ _ (hs7) ?_
          clear hHeld hKQ KQ
          intro hHeld
          try refine wpAnyK_n ?_
          clear hs7
          refine wpAnyK_ready (rs := [21]) (by kernel_rfl) (by simp) ?_
          refine AllReadyK.cons rfl (fun KQ hKQ => ?_) AllReadyK.nil
          go_simp
          refine hKQ.out _ _ (⟨(Below.heap_alloc _ _ _ (block_lt hHeld.1)).trans hHeld.1, (Below.heap_alloc _ _ _ (block_lt hHeld.2.1)).trans hHeld.2.1, (Below.heap_alloc _ _ _ (block_lt hHeld.2.2)).trans hHeld.2.2⟩) ?_
          clear hHeld hKQ KQ
          intro hHeld
          try refine wpAnyK_n ?_
          first | (have hcv : (convert 34 9 (.slice (some ⟨w7.heap.size, 0, none⟩) 3 3)).run Tryz.prog (w7.alloc (.cells #[.int .u8 32, .int .u8 32, .int .u8 13] 5)) = .ok (.string ⟨#[32, 32, 13]⟩) (w7.alloc (.cells #[.int .u8 32, .int .u8 32, .int .u8 13] 5)) := conv_three2 32 32 rfl rfl (heap_alloc_new w7 _); have HBE := Lib.hid (HBW.out.alloc HBW.out.size (.cells #[.int .u8 32, .int .u8 32, .int .u8 13] 5))) | (have hx := heap_alloc_new ((w6.alloc (.cells #[.int .i64 0, .int .i64 0] 36)).alloc (.cells #[.int .i64 0, .int .i64 0] 36)) (.cells #[.int .u8 32, .int .u8 32, .int .u8 13] 5); rw [World.size_alloc, World.size_alloc] at hx; have HX21 : Hid ((((w6.alloc (.cells #[.int .i64 0, .int .i64 0] 36)).alloc (.cells #[.int .i64 0, .int .i64 0] 36)).alloc (.cells #[.int .u8 32, .int .u8 32, .int .u8 13] 5)).drew.heap[w6.heap.size + 1 + 1]? = some (.cells #[.int .u8 32, .int .u8 32, .int .u8 13] 5 (0, 0))) := hx; have hcv : (convert 34 9 (.slice (some ⟨w6.heap.size + 1 + 1, 0, none⟩) 3 3)).run Tryz.prog (((w6.alloc (.cells #[.int .i64 0, .int .i64 0] 36)).alloc (.cells #[.int .i64 0, .int .i64 0] 36)).alloc (.cells #[.int .u8 32, .int .u8 32, .int .u8 13] 5)).drew = .ok (.string ⟨#[32, 32, 13]⟩) (((w6.alloc (.cells #[.int .i64 0, .int .i64 0] 36)).alloc (.cells #[.int .i64 0, .int .i64 0] 36)).alloc (.cells #[.int .u8 32, .int .u8 32, .int .u8 13] 5)).drew := conv_three2 32 32 rfl rfl hx; have HB21 : Hid (Below w5.heap.size w5 (((w6.alloc (.cells #[.int .i64 0, .int .i64 0] 36)).alloc (.cells #[.int .i64 0, .int .i64 0] 36)).alloc (.cells #[.int .u8 32, .int .u8 32, .int .u8 13] 5)).drew) := HB11.out.alloc HB11.out.size _; clear hx)
          refine wpAnyK_ready (rs := [22]) (by kernel_rfl) (by simp) ?_
          refine AllReadyK.cons rfl (fun KQ hKQ => ?_) AllReadyK.nil
          go_simp
          skip
          refine hKQ.out _ _ (hHeld) ?_
          clear hHeld hKQ KQ
          intro hHeld
          try refine wpAnyK_n ?_
          refine wpAnyK_s (i := 23) (fun _ => hHeld) ?_
          refine wpAnyK_s (i := 24) (fun _ => hHeld) ?_
          refine wpAnyK_s (i := 25) (fun _ => hHeld) ?_
          try refine wpAnyK_n ?_
          refine wpAnyK_ready (rs := [26]) (by kernel_rfl) (by simp) ?_
          refine AllReadyK.free rfl (by kernel_rfl) (fun KQ hKQ => ?_) AllReadyK.nil
          go_simp
          go_at_call 11
          first | (refine (HAW.out _ HBE.out).mono ?_; rintro e w9 ⟨rfl, hb9⟩; have HB9 := Lib.hid (Below.later HBE.out hb9 HBE.out.size); clear hb9) | (refine (HAW.out _ HBW.out).mono ?_; rintro e w9 ⟨rfl, hb9⟩; have HB9 := Lib.hid (Below.later HBW.out hb9 HBW.out.size); clear hb9)
          go_wp2_with fail
          refine hKQ.out _ _ ?_
          clear hKQ KQ
          try refine wpAnyK_n ?_
          refine wpAnyK_s (i := 27) knoK ?_
          refine wpAnyK_s (i := 28) knoK ?_
          try refine wpAnyK_n ?_
          refine wpAnyK_done (by kernel_rfl) ?_ _
          refine NoPanic.normal ?_
        rotate_left 1
        focus
          go_simp
          refine hKQ.out _ _ (⟨(Below.heap_alloc _ _ _ (block_lt hHeld.1)).trans hHeld.1, (Below.heap_alloc _ _ _ (block_lt hHeld.2.1)).trans hHeld.2.1, (Below.heap_alloc _ _ _ (block_lt hHeld.2.2)).trans hHeld.2.2⟩) ?_
          clear hHeld hKQ KQ
          intro hHeld
          try refine wpAnyK_n ?_
          first | (have hcv : (convert 34 9 (.slice (some ⟨w7.heap.size, 0, none⟩) 3 3)).run Tryz.prog (w7.alloc (.cells #[.int .u8 32, .int .u8 32, .int .u8 13] 5)) = .ok (.string ⟨#[32, 32, 13]⟩) (w7.alloc (.cells #[.int .u8 32, .int .u8 32, .int .u8 13] 5)) := conv_three2 32 32 rfl rfl (heap_alloc_new w7 _); have HBE := Lib.hid (HBW.out.alloc HBW.out.size (.cells #[.int .u8 32, .int .u8 32, .int .u8 13] 5))) | (have hx := heap_alloc_new ((w6.alloc (.cells #[.int .i64 0, .int .i64 0] 36)).alloc (.cells #[.int .i64 0, .int .i64 0] 36)) (.cells #[.int .u8 32, .int .u8 32, .int .u8 13] 5); rw [World.size_alloc, World.size_alloc] at hx; have HX21 : Hid ((((w6.alloc (.cells #[.int .i64 0, .int .i64 0] 36)).alloc (.cells #[.int .i64 0, .int .i64 0] 36)).alloc (.cells #[.int .u8 32, .int .u8 32, .int .u8 13] 5)).drew.heap[w6.heap.size + 1 + 1]? = some (.cells #[.int .u8 32, .int .u8 32, .int .u8 13] 5 (0, 0))) := hx; have hcv : (convert 34 9 (.slice (some ⟨w6.heap.size + 1 + 1, 0, none⟩) 3 3)).run Tryz.prog (((w6.alloc (.cells #[.int .i64 0, .int .i64 0] 36)).alloc (.cells #[.int .i64 0, .int .i64 0] 36)).alloc (.cells #[.int .u8 32, .int .u8 32, .int .u8 13] 5)).drew = .ok (.string ⟨#[32, 32, 13]⟩) (((w6.alloc (.cells #[.int .i64 0, .int .i64 0] 36)).alloc (.cells #[.int .i64 0, .int .i64 0] 36)).alloc (.cells #[.int .u8 32, .int .u8 32, .int .u8 13] 5)).drew := conv_three2 32 32 rfl rfl hx; have HB21 : Hid (Below w5.heap.size w5 (((w6.alloc (.cells #[.int .i64 0, .int .i64 0] 36)).alloc (.cells #[.int .i64 0, .int .i64 0] 36)).alloc (.cells #[.int .u8 32, .int .u8 32, .int .u8 13] 5)).drew) := HB11.out.alloc HB11.out.size _; clear hx)
          refine wpAnyK_ready (rs := [12, 22]) (by kernel_rfl) (by simp) ?_
          refine AllReadyK.cons rfl (fun KQ hKQ => ?_) (AllReadyK.cons rfl (fun KQ hKQ => ?_) AllReadyK.nil)
          focus
            go_simp
            go_at_call 15
            first | refine (HDR.out _ HB21.out).mono ?_ | refine (HDR.out _ HB11.out).mono ?_
            rintro e w7 ⟨rfl, hm, hk⟩
            have HBW := Lib.hid (Below.later HB1.out hm.2.2.2 HB1.out.size)
            have hs7 := And.intro hm.1 (And.intro ((hk.block _ (block_lt hHeld.2.1) (fun hf => by have := HFT.out _ hf; omega)).trans hHeld.2.1) ((hk.block _ (block_lt hHeld.2.2) (fun hf => by have := HFT.out _ hf; omega)).trans hHeld.2.2))
            first | (have hcv7 : (convert 34 9 (.slice (some ⟨w6.heap.size + 1 + 1, 0, none⟩) 3 3)).run Tryz.prog w7 = .ok (.string ⟨#[32, 32, 13]⟩) w7 := conv_three2 32 32 rfl rfl ((hk.block _ (block_lt HX21.out) (fun hf => by have := HFT.out _ hf; omega)).trans HX21.out)) | skip
            clear hm hk
            go_wp2_with fail
            refine hKQ.out _ _ (hs7) ?_
            clear hHeld hKQ KQ
            intro hHeld
            try refine wpAnyK_n ?_
            clear hs7
            refine wpAnyK_ready (rs := [22]) (by kernel_rfl) (by simp) ?_
            refine AllReadyK.cons rfl (fun KQ hKQ => ?_) AllReadyK.nil
            go_simp
            skip
            refine hKQ.out _ _ (hHeld) ?_
            clear hHeld hKQ KQ
            intro hHeld
            try refine wpAnyK_n ?_
            refine wpAnyK_s (i := 23) (fun _ => hHeld) ?_
            refine wpAnyK_s (i := 24) (fun _ => hHeld) ?_
            refine wpAnyK_s (i := 25) (fun _ => hHeld) ?_
            try refine wpAnyK_n ?_
            refine wpAnyK_ready (rs := [26]) (by kernel_rfl) (by simp) ?_
            refine AllReadyK.free rfl (by kernel_rfl) (fun KQ hKQ => ?_) AllReadyK.nil
            go_simp
            go_at_call 11
            first | (refine (HAW.out _ HBE.out).mono ?_; rintro e w9 ⟨rfl, hb9⟩; have HB9 := Lib.hid (Below.later HBE.out hb9 HBE.out.size); clear hb9) | (refine (HAW.out _ HBW.out).mono ?_; rintro e w9 ⟨rfl, hb9⟩; have HB9 := Lib.hid (Below.later HBW.out hb9 HBW.out.size); clear hb9)
            go_wp2_with fail
            refine hKQ.out _ _ ?_
            clear hKQ KQ
            try refine wpAnyK_n ?_
            refine wpAnyK_s (i := 27) knoK ?_
            refine wpAnyK_s (i := 28) knoK ?_
            try refine wpAnyK_n ?_
            refine wpAnyK_done (by kernel_rfl) ?_ _
            refine NoPanic.normal ?_
          rotate_left 1
          focus
            go_simp
            skip
            refine hKQ.out _ _ (hHeld) ?_
            clear hHeld hKQ KQ
            intro hHeld
            try refine wpAnyK_n ?_
            refine wpAnyK_ready (rs := [12]) (by kernel_rfl) (by simp) ?_
            refine AllReadyK.cons rfl (fun KQ hKQ => ?_) AllReadyK.nil
            go_simp
            go_at_call 15
            first | refine (HDR.out _ HB21.out).mono ?_ | refine (HDR.out _ HB11.out).mono ?_
            rintro e w7 ⟨rfl, hm, hk⟩
            have HBW := Lib.hid (Below.later HB1.out hm.2.2.2 HB1.out.size)
            have hs7 := And.intro hm.1 (And.intro ((hk.block _ (block_lt hHeld.2.1) (fun hf => by have := HFT.out _ hf; omega)).trans hHeld.2.1) ((hk.block _ (block_lt hHeld.2.2) (fun hf => by have := HFT.out _ hf; omega)).trans hHeld.2.2))
            first | (have hcv7 : (convert 34 9 (.slice (some ⟨w6.heap.size + 1 + 1, 0, none⟩) 3 3)).run Tryz.prog w7 = .ok (.string ⟨#[32, 32, 13]⟩) w7 := conv_three2 32 32 rfl rfl ((hk.block _ (block_lt HX21.out) (fun hf => by have := HFT.out _ hf; omega)).trans HX21.out)) | skip
            clear hm hk
            go_wp2_with fail
            refine hKQ.out _ _ (hs7) ?_
            clear hHeld hKQ KQ
            intro hHeld
            try refine wpAnyK_n ?_
            clear hs7
            refine wpAnyK_s (i := 23) (fun _ => hHeld) ?_
            refine wpAnyK_s (i := 24) (fun _ => hHeld) ?_
            refine wpAnyK_s (i := 25) (fun _ => hHeld) ?_
            try refine wpAnyK_n ?_
            refine wpAnyK_ready (rs := [26]) (by kernel_rfl) (by simp) ?_
            refine AllReadyK.free rfl (by kernel_rfl) (fun KQ hKQ => ?_) AllReadyK.nil
            go_simp
            go_at_call 11
            first | (refine (HAW.out _ HBE.out).mono ?_; rintro e w9 ⟨rfl, hb9⟩; have HB9 := Lib.hid (Below.later HBE.out hb9 HBE.out.size); clear hb9) | (refine (HAW.out _ HBW.out).mono ?_; rintro e w9 ⟨rfl, hb9⟩; have HB9 := Lib.hid (Below.later HBW.out hb9 HBW.out.size); clear hb9)
            go_wp2_with fail
            refine hKQ.out _ _ ?_
            clear hKQ KQ
            try refine wpAnyK_n ?_
            refine wpAnyK_s (i := 27) knoK ?_
            refine wpAnyK_s (i := 28) knoK ?_
            try refine wpAnyK_n ?_
            refine wpAnyK_done (by kernel_rfl) ?_ _
            refine NoPanic.normal ?_
          rotate_left 1
        rotate_left 2
        all_goals (
          go_wp2_with fail
          go_ret
          exact ⟨rfl, HB9.out⟩)
      · skip
        by_cases q4 : (C : Int) ≤ (dm : Int) - 32
        · rw [if_neg (by omega)] at hP
          subst hP
          have h32a : IntKind.i64.wrap 32 = 32 := by decide
          have h32b : IntKind.u8.wrap 32 = 32 := by decide
          have hq : (feedA (newA R C) (askL b d)).q = [32, 32, 13] := HPQ.out
          obtain ⟨FT, hft, hdr⟩ := drain_keeps HM5.out
          rw [hq] at hdr
          have HDR := Lib.hid hdr
          have HFT := Lib.hid hft
          have hz6 := HB6.out.size
          clear hdr hq hft
          go_upto_region 11 with fail
          clear s0 s1 v0 v1 f0 f1
          have HB11 : Hid (Below w5.heap.size w5 ((w6.alloc (.cells #[.int .i64 0, .int .i64 0] 36)).alloc (.cells #[.int .i64 0, .int .i64 0] 36)).drew) := ((HB6.out.alloc HB6.out.size _).alloc (by rw [World.size_alloc]; omega) _).drew
          have HP0 : Hid (((w6.alloc (.cells #[.int .i64 0, .int .i64 0] 36)).alloc (.cells #[.int .i64 0, .int .i64 0] 36)).drew.heap[w6.heap.size]? = some (.cells #[.int .i64 0, .int .i64 0] 36 (0, 0))) := (Below.heap_alloc _ _ _ (by rw [World.size_alloc]; omega)).trans (heap_alloc_new w6 _)
          have HP1 : Hid (((w6.alloc (.cells #[.int .i64 0, .int .i64 0] 36)).alloc (.cells #[.int .i64 0, .int .i64 0] 36)).drew.heap[w6.heap.size + 1]? = some (.cells #[.int .i64 0, .int .i64 0] 36 (0, 0))) := by
            have := heap_alloc_new (w6.alloc (.cells #[.int .i64 0, .int .i64 0] 36)) (.cells #[.int .i64 0, .int .i64 0] 36)
            rwa [World.size_alloc] at this
          have HBOX : Hid (((w6.alloc (.cells #[.int .i64 0, .int .i64 0] 36)).alloc (.cells #[.int .i64 0, .int .i64 0] 36)).drew.heap[wp]? = some (.cells #[.pointer (some ⟨sp, 0, none⟩), .pointer (some ⟨qp, 0, none⟩), .pointer (some ⟨tp, 0, none⟩)] 32 (0, 0))) := (HB11.out.block _ (block_lt HM5.out.1)).trans HM5.out.1
          refine wp_region_noPanic ?_
          refine wp_region_k (S := fun W : World => W.heap[wp]? = some (.cells #[.pointer (some ⟨sp, 0, none⟩), .pointer (some ⟨qp, 0, none⟩), .pointer (some ⟨tp, 0, none⟩)] 32 (0, 0)) ∧ W.heap[w6.heap.size]? = some (.cells #[.int .i64 0, .int .i64 0] 36 (0, 0)) ∧ W.heap[w6.heap.size + 1]? = some (.cells #[.int .i64 0, .int .i64 0] 36 (0, 0))) 26 (by kernel_rfl) (⟨HBOX.out, HP0.out, HP1.out⟩) (fun hHeld => ?_)
          refine wpAnyK_t (i := 0) (v := ?_) [25, 24, 7, 3, 2] rfl (Or.inl ⟨by rfl, ?hy1⟩) hHeld ?_
          case hy1 => (intro W hSw; refine Or.inl ?_; obtain ⟨z0, z1, z2, _⟩ := row3 hSw.1; obtain ⟨p0, p1, _⟩ := row2 hSw.2.1; obtain ⟨r0, r1, _⟩ := row2 hSw.2.2; go_simp; try with_reducible rfl)
          refine wpAnyK_t (i := 1) (v := ?_) [25, 24, 7, 3, 2] rfl (Or.inl ⟨by rfl, ?hy2⟩) hHeld ?_
          case hy2 => (intro W hSw; refine Or.inl ?_; obtain ⟨z0, z1, z2, _⟩ := row3 hSw.1; obtain ⟨p0, p1, _⟩ := row2 hSw.2.1; obtain ⟨r0, r1, _⟩ := row2 hSw.2.2; go_simp; try with_reducible rfl)
          refine wpAnyK_s (i := 2) (fun _ => hHeld) ?_
          refine wpAnyK_s (i := 3) (fun _ => hHeld) ?_
          refine wpAnyK_s (i := 4) (fun _ => hHeld) ?_
          try refine wpAnyK_n ?_
          refine wpAnyK_s (i := 5) (fun _ => hHeld) ?_
          refine wpAnyK_s (i := 6) (fun _ => hHeld) ?_
          refine wpAnyK_s (i := 7) (fun _ => hHeld) ?_
          refine wpAnyK_s (i := 8) (fun _ => hHeld) ?_
          refine wpAnyK_s (i := 9) (fun _ => hHeld) ?_
          try refine wpAnyK_n ?_
          refine wpAnyK_s (i := 10) (fun _ => hHeld) ?_
          refine wpAnyK_t (i := 11) (v := ?_) [25, 12] rfl (Or.inl ⟨by rfl, ?hy12⟩) hHeld ?_
          case hy12 => (intro W hSw; refine Or.inl ?_; obtain ⟨z0, z1, z2, _⟩ := row3 hSw.1; obtain ⟨p0, p1, _⟩ := row2 hSw.2.1; obtain ⟨r0, r1, _⟩ := row2 hSw.2.2; go_simp; try with_reducible rfl)
          refine wpAnyK_s (i := 13) (fun _ => hHeld) ?_
          refine wpAnyK_t (i := 14) (v := ?_) [25, 24, 23, 22, 21, 16, 15] rfl (Or.inl ⟨by rfl, ?hy14⟩) hHeld ?_
          case hy14 => (intro W hSw; refine Or.inl ?_; obtain ⟨z0, z1, z2, _⟩ := row3 hSw.1; obtain ⟨p0, p1, _⟩ := row2 hSw.2.1; obtain ⟨r0, r1, _⟩ := row2 hSw.2.2; go_simp; try with_reducible rfl)
          refine wpAnyK_s (i := 15) (fun _ => hHeld) ?_
          try refine wpAnyK_n ?_
          refine wpAnyK_s (i := 16) (fun _ => hHeld) ?_
          refine wpAnyK_s (i := 17) (fun _ => hHeld) ?_
          refine wpAnyK_t (i := 18) (v := ?_) [25, 24, 23, 22, 21, 20, 19] rfl (Or.inl ⟨by rfl, ?hy18⟩) hHeld ?_
          case hy18 => (intro W hSw; refine Or.inl ?_; obtain ⟨z0, z1, z2, _⟩ := row3 hSw.1; obtain ⟨p0, p1, _⟩ := row2 hSw.2.1; obtain ⟨r0, r1, _⟩ := row2 hSw.2.2; go_simp; try with_reducible rfl)
          refine wpAnyK_s (i := 19) (fun _ => hHeld) ?_
          refine wpAnyK_s (i := 20) (fun _ => hHeld) ?_
          try refine wpAnyK_n ?_
          refine wpAnyK_ready (rs := [12, 21]) (by kernel_rfl) (by simp) ?_
          refine AllReadyK.cons rfl (fun KQ hKQ => ?_) (AllReadyK.cons rfl (fun KQ hKQ => ?_) AllReadyK.nil)
          focus
            go_simp
            go_at_call 15
            first | refine (HDR.out _ HB21.out).mono ?_ | refine (HDR.out _ HB11.out).mono ?_
            rintro e w7 ⟨rfl, hm, hk⟩
            have HBW := Lib.hid (Below.later HB1.out hm.2.2.2 HB1.out.size)
            have hs7 := And.intro hm.1 (And.intro ((hk.block _ (block_lt hHeld.2.1) (fun hf => by have := HFT.out _ hf; omega)).trans hHeld.2.1) ((hk.block _ (block_lt hHeld.2.2) (fun hf => by have := HFT.out _ hf; omega)).trans hHeld.2.2))
            first | (have hcv7 : (convert 34 9 (.slice (some ⟨w6.heap.size + 1 + 1, 0, none⟩) 3 3)).run Tryz.prog w7 = .ok (.string ⟨#[32, 32, 13]⟩) w7 := conv_three2 32 32 rfl rfl ((hk.block _ (block_lt HX21.out) (fun hf => by have := HFT.out _ hf; omega)).trans HX21.out)) | skip
            clear hm hk
            go_wp2_with fail
            refine hKQ.out _ _ (hs7) ?_
            clear hHeld hKQ KQ
            intro hHeld
            try refine wpAnyK_n ?_
            clear hs7
            refine wpAnyK_ready (rs := [21]) (by kernel_rfl) (by simp) ?_
            refine AllReadyK.cons rfl (fun KQ hKQ => ?_) AllReadyK.nil
            go_simp
            refine hKQ.out _ _ (⟨(Below.heap_alloc _ _ _ (block_lt hHeld.1)).trans hHeld.1, (Below.heap_alloc _ _ _ (block_lt hHeld.2.1)).trans hHeld.2.1, (Below.heap_alloc _ _ _ (block_lt hHeld.2.2)).trans hHeld.2.2⟩) ?_
            clear hHeld hKQ KQ
            intro hHeld
            try refine wpAnyK_n ?_
            first | (have hcv : (convert 34 9 (.slice (some ⟨w7.heap.size, 0, none⟩) 3 3)).run Tryz.prog (w7.alloc (.cells #[.int .u8 32, .int .u8 32, .int .u8 13] 5)) = .ok (.string ⟨#[32, 32, 13]⟩) (w7.alloc (.cells #[.int .u8 32, .int .u8 32, .int .u8 13] 5)) := conv_three2 32 32 rfl rfl (heap_alloc_new w7 _); have HBE := Lib.hid (HBW.out.alloc HBW.out.size (.cells #[.int .u8 32, .int .u8 32, .int .u8 13] 5))) | (have hx := heap_alloc_new ((w6.alloc (.cells #[.int .i64 0, .int .i64 0] 36)).alloc (.cells #[.int .i64 0, .int .i64 0] 36)) (.cells #[.int .u8 32, .int .u8 32, .int .u8 13] 5); rw [World.size_alloc, World.size_alloc] at hx; have HX21 : Hid ((((w6.alloc (.cells #[.int .i64 0, .int .i64 0] 36)).alloc (.cells #[.int .i64 0, .int .i64 0] 36)).alloc (.cells #[.int .u8 32, .int .u8 32, .int .u8 13] 5)).drew.heap[w6.heap.size + 1 + 1]? = some (.cells #[.int .u8 32, .int .u8 32, .int .u8 13] 5 (0, 0))) := hx; have hcv : (convert 34 9 (.slice (some ⟨w6.heap.size + 1 + 1, 0, none⟩) 3 3)).run Tryz.prog (((w6.alloc (.cells #[.int .i64 0, .int .i64 0] 36)).alloc (.cells #[.int .i64 0, .int .i64 0] 36)).alloc (.cells #[.int .u8 32, .int .u8 32, .int .u8 13] 5)).drew = .ok (.string ⟨#[32, 32, 13]⟩) (((w6.alloc (.cells #[.int .i64 0, .int .i64 0] 36)).alloc (.cells #[.int .i64 0, .int .i64 0] 36)).alloc (.cells #[.int .u8 32, .int .u8 32, .int .u8 13] 5)).drew := conv_three2 32 32 rfl rfl hx; have HB21 : Hid (Below w5.heap.size w5 (((w6.alloc (.cells #[.int .i64 0, .int .i64 0] 36)).alloc (.cells #[.int .i64 0, .int .i64 0] 36)).alloc (.cells #[.int .u8 32, .int .u8 32, .int .u8 13] 5)).drew) := HB11.out.alloc HB11.out.size _; clear hx)
            refine wpAnyK_ready (rs := [22]) (by kernel_rfl) (by simp) ?_
            refine AllReadyK.cons rfl (fun KQ hKQ => ?_) AllReadyK.nil
            go_simp
            skip
            refine hKQ.out _ _ (hHeld) ?_
            clear hHeld hKQ KQ
            intro hHeld
            try refine wpAnyK_n ?_
            refine wpAnyK_s (i := 23) (fun _ => hHeld) ?_
            refine wpAnyK_s (i := 24) (fun _ => hHeld) ?_
            refine wpAnyK_s (i := 25) (fun _ => hHeld) ?_
            try refine wpAnyK_n ?_
            refine wpAnyK_ready (rs := [26]) (by kernel_rfl) (by simp) ?_
            refine AllReadyK.free rfl (by kernel_rfl) (fun KQ hKQ => ?_) AllReadyK.nil
            go_simp
            go_at_call 11
            first | (refine (HAW.out _ HBE.out).mono ?_; rintro e w9 ⟨rfl, hb9⟩; have HB9 := Lib.hid (Below.later HBE.out hb9 HBE.out.size); clear hb9) | (refine (HAW.out _ HBW.out).mono ?_; rintro e w9 ⟨rfl, hb9⟩; have HB9 := Lib.hid (Below.later HBW.out hb9 HBW.out.size); clear hb9)
            go_wp2_with fail
            refine hKQ.out _ _ ?_
            clear hKQ KQ
            try refine wpAnyK_n ?_
            refine wpAnyK_s (i := 27) knoK ?_
            refine wpAnyK_s (i := 28) knoK ?_
            try refine wpAnyK_n ?_
            refine wpAnyK_done (by kernel_rfl) ?_ _
            refine NoPanic.normal ?_
          rotate_left 1
          focus
            go_simp
            refine hKQ.out _ _ (⟨(Below.heap_alloc _ _ _ (block_lt hHeld.1)).trans hHeld.1, (Below.heap_alloc _ _ _ (block_lt hHeld.2.1)).trans hHeld.2.1, (Below.heap_alloc _ _ _ (block_lt hHeld.2.2)).trans hHeld.2.2⟩) ?_
            clear hHeld hKQ KQ
            intro hHeld
            try refine wpAnyK_n ?_
            first | (have hcv : (convert 34 9 (.slice (some ⟨w7.heap.size, 0, none⟩) 3 3)).run Tryz.prog (w7.alloc (.cells #[.int .u8 32, .int .u8 32, .int .u8 13] 5)) = .ok (.string ⟨#[32, 32, 13]⟩) (w7.alloc (.cells #[.int .u8 32, .int .u8 32, .int .u8 13] 5)) := conv_three2 32 32 rfl rfl (heap_alloc_new w7 _); have HBE := Lib.hid (HBW.out.alloc HBW.out.size (.cells #[.int .u8 32, .int .u8 32, .int .u8 13] 5))) | (have hx := heap_alloc_new ((w6.alloc (.cells #[.int .i64 0, .int .i64 0] 36)).alloc (.cells #[.int .i64 0, .int .i64 0] 36)) (.cells #[.int .u8 32, .int .u8 32, .int .u8 13] 5); rw [World.size_alloc, World.size_alloc] at hx; have HX21 : Hid ((((w6.alloc (.cells #[.int .i64 0, .int .i64 0] 36)).alloc (.cells #[.int .i64 0, .int .i64 0] 36)).alloc (.cells #[.int .u8 32, .int .u8 32, .int .u8 13] 5)).drew.heap[w6.heap.size + 1 + 1]? = some (.cells #[.int .u8 32, .int .u8 32, .int .u8 13] 5 (0, 0))) := hx; have hcv : (convert 34 9 (.slice (some ⟨w6.heap.size + 1 + 1, 0, none⟩) 3 3)).run Tryz.prog (((w6.alloc (.cells #[.int .i64 0, .int .i64 0] 36)).alloc (.cells #[.int .i64 0, .int .i64 0] 36)).alloc (.cells #[.int .u8 32, .int .u8 32, .int .u8 13] 5)).drew = .ok (.string ⟨#[32, 32, 13]⟩) (((w6.alloc (.cells #[.int .i64 0, .int .i64 0] 36)).alloc (.cells #[.int .i64 0, .int .i64 0] 36)).alloc (.cells #[.int .u8 32, .int .u8 32, .int .u8 13] 5)).drew := conv_three2 32 32 rfl rfl hx; have HB21 : Hid (Below w5.heap.size w5 (((w6.alloc (.cells #[.int .i64 0, .int .i64 0] 36)).alloc (.cells #[.int .i64 0, .int .i64 0] 36)).alloc (.cells #[.int .u8 32, .int .u8 32, .int .u8 13] 5)).drew) := HB11.out.alloc HB11.out.size _; clear hx)
            refine wpAnyK_ready (rs := [12, 22]) (by kernel_rfl) (by simp) ?_
            refine AllReadyK.cons rfl (fun KQ hKQ => ?_) (AllReadyK.cons rfl (fun KQ hKQ => ?_) AllReadyK.nil)
            focus
              go_simp
              go_at_call 15
              first | refine (HDR.out _ HB21.out).mono ?_ | refine (HDR.out _ HB11.out).mono ?_
              rintro e w7 ⟨rfl, hm, hk⟩
              have HBW := Lib.hid (Below.later HB1.out hm.2.2.2 HB1.out.size)
              have hs7 := And.intro hm.1 (And.intro ((hk.block _ (block_lt hHeld.2.1) (fun hf => by have := HFT.out _ hf; omega)).trans hHeld.2.1) ((hk.block _ (block_lt hHeld.2.2) (fun hf => by have := HFT.out _ hf; omega)).trans hHeld.2.2))
              first | (have hcv7 : (convert 34 9 (.slice (some ⟨w6.heap.size + 1 + 1, 0, none⟩) 3 3)).run Tryz.prog w7 = .ok (.string ⟨#[32, 32, 13]⟩) w7 := conv_three2 32 32 rfl rfl ((hk.block _ (block_lt HX21.out) (fun hf => by have := HFT.out _ hf; omega)).trans HX21.out)) | skip
              clear hm hk
              go_wp2_with fail
              refine hKQ.out _ _ (hs7) ?_
              clear hHeld hKQ KQ
              intro hHeld
              try refine wpAnyK_n ?_
              clear hs7
              refine wpAnyK_ready (rs := [22]) (by kernel_rfl) (by simp) ?_
              refine AllReadyK.cons rfl (fun KQ hKQ => ?_) AllReadyK.nil
              go_simp
              skip
              refine hKQ.out _ _ (hHeld) ?_
              clear hHeld hKQ KQ
              intro hHeld
              try refine wpAnyK_n ?_
              refine wpAnyK_s (i := 23) (fun _ => hHeld) ?_
              refine wpAnyK_s (i := 24) (fun _ => hHeld) ?_
              refine wpAnyK_s (i := 25) (fun _ => hHeld) ?_
              try refine wpAnyK_n ?_
              refine wpAnyK_ready (rs := [26]) (by kernel_rfl) (by simp) ?_
              refine AllReadyK.free rfl (by kernel_rfl) (fun KQ hKQ => ?_) AllReadyK.nil
              go_simp
              go_at_call 11
              first | (refine (HAW.out _ HBE.out).mono ?_; rintro e w9 ⟨rfl, hb9⟩; have HB9 := Lib.hid (Below.later HBE.out hb9 HBE.out.size); clear hb9) | (refine (HAW.out _ HBW.out).mono ?_; rintro e w9 ⟨rfl, hb9⟩; have HB9 := Lib.hid (Below.later HBW.out hb9 HBW.out.size); clear hb9)
              go_wp2_with fail
              refine hKQ.out _ _ ?_
              clear hKQ KQ
              try refine wpAnyK_n ?_
              refine wpAnyK_s (i := 27) knoK ?_
              refine wpAnyK_s (i := 28) knoK ?_
              try refine wpAnyK_n ?_
              refine wpAnyK_done (by kernel_rfl) ?_ _
              refine NoPanic.normal ?_
            rotate_left 1
            focus
              go_simp
              skip
              refine hKQ.out _ _ (hHeld) ?_
              clear hHeld hKQ KQ
              intro hHeld
              try refine wpAnyK_n ?_
              refine wpAnyK_ready (rs := [12]) (by kernel_rfl) (by simp) ?_
              refine AllReadyK.cons rfl (fun KQ hKQ => ?_) AllReadyK.nil
              go_simp
              go_at_call 15
              first | refine (HDR.out _ HB21.out).mono ?_ | refine (HDR.out _ HB11.out).mono ?_
              rintro e w7 ⟨rfl, hm, hk⟩
              have HBW := Lib.hid (Below.later HB1.out hm.2.2.2 HB1.out.size)
              have hs7 := And.intro hm.1 (And.intro ((hk.block _ (block_lt hHeld.2.1) (fun hf => by have := HFT.out _ hf; omega)).trans hHeld.2.1) ((hk.block _ (block_lt hHeld.2.2) (fun hf => by have := HFT.out _ hf; omega)).trans hHeld.2.2))
              first | (have hcv7 : (convert 34 9 (.slice (some ⟨w6.heap.size + 1 + 1, 0, none⟩) 3 3)).run Tryz.prog w7 = .ok (.string ⟨#[32, 32, 13]⟩) w7 := conv_three2 32 32 rfl rfl ((hk.block _ (block_lt HX21.out) (fun hf => by have := HFT.out _ hf; omega)).trans HX21.out)) | skip
              clear hm hk
              go_wp2_with fail
              refine hKQ.out _ _ (hs7) ?_
              clear hHeld hKQ KQ
              intro hHeld
              try refine wpAnyK_n ?_
              clear hs7
              refine wpAnyK_s (i := 23) (fun _ => hHeld) ?_
              refine wpAnyK_s (i := 24) (fun _ => hHeld) ?_
              refine wpAnyK_s (i := 25) (fun _ => hHeld) ?_
              try refine wpAnyK_n ?_
              refine wpAnyK_ready (rs := [26]) (by kernel_rfl) (by simp) ?_
              refine AllReadyK.free rfl (by kernel_rfl) (fun KQ hKQ => ?_) AllReadyK.nil
              go_simp
              go_at_call 11
              first | (refine (HAW.out _ HBE.out).mono ?_; rintro e w9 ⟨rfl, hb9⟩; have HB9 := Lib.hid (Below.later HBE.out hb9 HBE.out.size); clear hb9) | (refine (HAW.out _ HBW.out).mono ?_; rintro e w9 ⟨rfl, hb9⟩; have HB9 := Lib.hid (Below.later HBW.out hb9 HBW.out.size); clear hb9)
              go_wp2_with fail
              refine hKQ.out _ _ ?_
              clear hKQ KQ
              try refine wpAnyK_n ?_
              refine wpAnyK_s (i := 27) knoK ?_
              refine wpAnyK_s (i := 28) knoK ?_
              try refine wpAnyK_n ?_
              refine wpAnyK_done (by kernel_rfl) ?_ _
              refine NoPanic.normal ?_
            rotate_left 1
          rotate_left 2
          all_goals (
            go_wp2_with fail
            go_ret
            exact ⟨rfl, HB9.out⟩)
        · rw [if_pos ⟨by omega, by omega, by omega, by omega⟩] at hP
          subst hP
          have HBO : Hid ((bm : Int) = ((UInt8.ofNat bm).toNat : Int)) := by show (bm : Int) = _; rw [UInt8.toNat_ofNat']; omega
          have HDO : Hid ((dm : Int) = ((UInt8.ofNat dm).toNat : Int)) := by show (dm : Int) = _; rw [UInt8.toNat_ofNat']; omega
          have hub : IntKind.u8.wrap (bm : Int) = (bm : Int) := by simp [IntKind.wrap, IntKind.bits, IntKind.signed]; omega
          have hud : IntKind.u8.wrap (dm : Int) = (dm : Int) := by simp [IntKind.wrap, IntKind.bits, IntKind.signed]; omega
          have hq : (feedA (newA R C) (askL b d)).q = [UInt8.ofNat bm, UInt8.ofNat dm, 13] := by
            rw [HPQ.out]
            unfold toldA
            simp only
            rw [show (min ((bm : Int) - 32 + 32) 126).toNat = bm by omega, show (min ((dm : Int) - 32 + 32) 126).toNat = dm by omega]
          have hs1 : IntKind.i64.wrap ((bm : Int) - 32 + 32) = (bm : Int) := by rw [wrap_in (by omega) (by omega)]; omega
          have hs2 : IntKind.i64.wrap ((dm : Int) - 32 + 32) = (dm : Int) := by rw [wrap_in (by omega) (by omega)]; omega
          obtain ⟨FT, hft, hdr⟩ := drain_keeps HM5.out
          rw [hq] at hdr
          have HDR := Lib.hid hdr
          have HFT := Lib.hid hft
          have hz6 := HB6.out.size
          clear hdr hq hft
          go_upto_region 11 with fail
          clear s0 s1 v0 v1 f0 f1
          have HB11 : Hid (Below w5.heap.size w5 ((w6.alloc (.cells #[.int .i64 ((bm : Int) - 32), .int .i64 ((dm : Int) - 32)] 36)).alloc (.cells #[.int .i64 ((bm : Int) - 32), .int .i64 ((dm : Int) - 32)] 36)).drew) := ((HB6.out.alloc HB6.out.size _).alloc (by rw [World.size_alloc]; omega) _).drew
          have HP0 : Hid (((w6.alloc (.cells #[.int .i64 ((bm : Int) - 32), .int .i64 ((dm : Int) - 32)] 36)).alloc (.cells #[.int .i64 ((bm : Int) - 32), .int .i64 ((dm : Int) - 32)] 36)).drew.heap[w6.heap.size]? = some (.cells #[.int .i64 ((bm : Int) - 32), .int .i64 ((dm : Int) - 32)] 36 (0, 0))) := (Below.heap_alloc _ _ _ (by rw [World.size_alloc]; omega)).trans (heap_alloc_new w6 _)
          have HP1 : Hid (((w6.alloc (.cells #[.int .i64 ((bm : Int) - 32), .int .i64 ((dm : Int) - 32)] 36)).alloc (.cells #[.int .i64 ((bm : Int) - 32), .int .i64 ((dm : Int) - 32)] 36)).drew.heap[w6.heap.size + 1]? = some (.cells #[.int .i64 ((bm : Int) - 32), .int .i64 ((dm : Int) - 32)] 36 (0, 0))) := by
            have := heap_alloc_new (w6.alloc (.cells #[.int .i64 ((bm : Int) - 32), .int .i64 ((dm : Int) - 32)] 36)) (.cells #[.int .i64 ((bm : Int) - 32), .int .i64 ((dm : Int) - 32)] 36)
            rwa [World.size_alloc] at this
          have HBOX : Hid (((w6.alloc (.cells #[.int .i64 ((bm : Int) - 32), .int .i64 ((dm : Int) - 32)] 36)).alloc (.cells #[.int .i64 ((bm : Int) - 32), .int .i64 ((dm : Int) - 32)] 36)).drew.heap[wp]? = some (.cells #[.pointer (some ⟨sp, 0, none⟩), .pointer (some ⟨qp, 0, none⟩), .pointer (some ⟨tp, 0, none⟩)] 32 (0, 0))) := (HB11.out.block _ (block_lt HM5.out.1)).trans HM5.out.1
          refine wp_region_noPanic ?_
          refine wp_region_k (S := fun W : World => W.heap[wp]? = some (.cells #[.pointer (some ⟨sp, 0, none⟩), .pointer (some ⟨qp, 0, none⟩), .pointer (some ⟨tp, 0, none⟩)] 32 (0, 0)) ∧ W.heap[w6.heap.size]? = some (.cells #[.int .i64 ((bm : Int) - 32), .int .i64 ((dm : Int) - 32)] 36 (0, 0)) ∧ W.heap[w6.heap.size + 1]? = some (.cells #[.int .i64 ((bm : Int) - 32), .int .i64 ((dm : Int) - 32)] 36 (0, 0))) 26 (by kernel_rfl) (⟨HBOX.out, HP0.out, HP1.out⟩) (fun hHeld => ?_)
          refine wpAnyK_t (i := 0) (v := ?_) [25, 24, 7, 3, 2] rfl (Or.inl ⟨by rfl, ?hy1⟩) hHeld ?_
          case hy1 => (intro W hSw; refine Or.inl ?_; obtain ⟨z0, z1, z2, _⟩ := row3 hSw.1; obtain ⟨p0, p1, _⟩ := row2 hSw.2.1; obtain ⟨r0, r1, _⟩ := row2 hSw.2.2; go_simp; try with_reducible rfl)
          refine wpAnyK_t (i := 1) (v := ?_) [25, 24, 7, 3, 2] rfl (Or.inl ⟨by rfl, ?hy2⟩) hHeld ?_
          case hy2 => (intro W hSw; refine Or.inl ?_; obtain ⟨z0, z1, z2, _⟩ := row3 hSw.1; obtain ⟨p0, p1, _⟩ := row2 hSw.2.1; obtain ⟨r0, r1, _⟩ := row2 hSw.2.2; go_simp; try with_reducible rfl)
          refine wpAnyK_s (i := 2) (fun _ => hHeld) ?_
          refine wpAnyK_s (i := 3) (fun _ => hHeld) ?_
          refine wpAnyK_s (i := 4) (fun _ => hHeld) ?_
          try refine wpAnyK_n ?_
          refine wpAnyK_s (i := 5) (fun _ => hHeld) ?_
          refine wpAnyK_s (i := 6) (fun _ => hHeld) ?_
          refine wpAnyK_s (i := 7) (fun _ => hHeld) ?_
          refine wpAnyK_s (i := 8) (fun _ => hHeld) ?_
          refine wpAnyK_s (i := 9) (fun _ => hHeld) ?_
          try refine wpAnyK_n ?_
          refine wpAnyK_s (i := 10) (fun _ => hHeld) ?_
          refine wpAnyK_t (i := 11) (v := ?_) [25, 12] rfl (Or.inl ⟨by rfl, ?hy12⟩) hHeld ?_
          case hy12 => (intro W hSw; refine Or.inl ?_; obtain ⟨z0, z1, z2, _⟩ := row3 hSw.1; obtain ⟨p0, p1, _⟩ := row2 hSw.2.1; obtain ⟨r0, r1, _⟩ := row2 hSw.2.2; go_simp; try with_reducible rfl)
          refine wpAnyK_s (i := 13) (fun _ => hHeld) ?_
          refine wpAnyK_t (i := 14) (v := ?_) [25, 24, 23, 22, 21, 16, 15] rfl (Or.inl ⟨by rfl, ?hy14⟩) hHeld ?_
          case hy14 => (intro W hSw; refine Or.inl ?_; obtain ⟨z0, z1, z2, _⟩ := row3 hSw.1; obtain ⟨p0, p1, _⟩ := row2 hSw.2.1; obtain ⟨r0, r1, _⟩ := row2 hSw.2.2; go_simp; try with_reducible rfl)
          refine wpAnyK_s (i := 15) (fun _ => hHeld) ?_
          try refine wpAnyK_n ?_
          refine wpAnyK_s (i := 16) (fun _ => hHeld) ?_
          refine wpAnyK_s (i := 17) (fun _ => hHeld) ?_
          refine wpAnyK_t (i := 18) (v := ?_) [25, 24, 23, 22, 21, 20, 19] rfl (Or.inl ⟨by rfl, ?hy18⟩) hHeld ?_
          case hy18 => (intro W hSw; refine Or.inl ?_; obtain ⟨z0, z1, z2, _⟩ := row3 hSw.1; obtain ⟨p0, p1, _⟩ := row2 hSw.2.1; obtain ⟨r0, r1, _⟩ := row2 hSw.2.2; go_simp; try with_reducible rfl)
          refine wpAnyK_s (i := 19) (fun _ => hHeld) ?_
          refine wpAnyK_s (i := 20) (fun _ => hHeld) ?_
          try refine wpAnyK_n ?_
          refine wpAnyK_ready (rs := [12, 21]) (by kernel_rfl) (by simp) ?_
          refine AllReadyK.cons rfl (fun KQ hKQ => ?_) (AllReadyK.cons rfl (fun KQ hKQ => ?_) AllReadyK.nil)
          focus
            go_simp
            go_at_call 15
            first | refine (HDR.out _ HB21.out).mono ?_ | refine (HDR.out _ HB11.out).mono ?_
            rintro e w7 ⟨rfl, hm, hk⟩
            have HBW := Lib.hid (Below.later HB1.out hm.2.2.2 HB1.out.size)
            have hs7 := And.intro hm.1 (And.intro ((hk.block _ (block_lt hHeld.2.1) (fun hf => by have := HFT.out _ hf; omega)).trans hHeld.2.1) ((hk.block _ (block_lt hHeld.2.2) (fun hf => by have := HFT.out _ hf; omega)).trans hHeld.2.2))
            first | (have hcv7 : (convert 34 9 (.slice (some ⟨w6.heap.size + 1 + 1, 0, none⟩) 3 3)).run Tryz.prog w7 = .ok (.string ⟨#[(UInt8.ofNat bm), (UInt8.ofNat dm), 13]⟩) w7 := conv_three2 (UInt8.ofNat bm) (UInt8.ofNat dm) HBO.out HDO.out ((hk.block _ (block_lt HX21.out) (fun hf => by have := HFT.out _ hf; omega)).trans HX21.out)) | skip
            clear hm hk
            go_wp2_with fail
            refine hKQ.out _ _ (hs7) ?_
            clear hHeld hKQ KQ
            intro hHeld
            try refine wpAnyK_n ?_
            clear hs7
            refine wpAnyK_ready (rs := [21]) (by kernel_rfl) (by simp) ?_
            refine AllReadyK.cons rfl (fun KQ hKQ => ?_) AllReadyK.nil
            go_simp
            refine hKQ.out _ _ (⟨(Below.heap_alloc _ _ _ (block_lt hHeld.1)).trans hHeld.1, (Below.heap_alloc _ _ _ (block_lt hHeld.2.1)).trans hHeld.2.1, (Below.heap_alloc _ _ _ (block_lt hHeld.2.2)).trans hHeld.2.2⟩) ?_
            clear hHeld hKQ KQ
            intro hHeld
            try refine wpAnyK_n ?_
            first | (have hcv : (convert 34 9 (.slice (some ⟨w7.heap.size, 0, none⟩) 3 3)).run Tryz.prog (w7.alloc (.cells #[.int .u8 (bm : Int), .int .u8 (dm : Int), .int .u8 13] 5)) = .ok (.string ⟨#[(UInt8.ofNat bm), (UInt8.ofNat dm), 13]⟩) (w7.alloc (.cells #[.int .u8 (bm : Int), .int .u8 (dm : Int), .int .u8 13] 5)) := conv_three2 (UInt8.ofNat bm) (UInt8.ofNat dm) HBO.out HDO.out (heap_alloc_new w7 _); have HBE := Lib.hid (HBW.out.alloc HBW.out.size (.cells #[.int .u8 (bm : Int), .int .u8 (dm : Int), .int .u8 13] 5))) | (have hx := heap_alloc_new ((w6.alloc (.cells #[.int .i64 ((bm : Int) - 32), .int .i64 ((dm : Int) - 32)] 36)).alloc (.cells #[.int .i64 ((bm : Int) - 32), .int .i64 ((dm : Int) - 32)] 36)) (.cells #[.int .u8 (bm : Int), .int .u8 (dm : Int), .int .u8 13] 5); rw [World.size_alloc, World.size_alloc] at hx; have HX21 : Hid ((((w6.alloc (.cells #[.int .i64 ((bm : Int) - 32), .int .i64 ((dm : Int) - 32)] 36)).alloc (.cells #[.int .i64 ((bm : Int) - 32), .int .i64 ((dm : Int) - 32)] 36)).alloc (.cells #[.int .u8 (bm : Int), .int .u8 (dm : Int), .int .u8 13] 5)).drew.heap[w6.heap.size + 1 + 1]? = some (.cells #[.int .u8 (bm : Int), .int .u8 (dm : Int), .int .u8 13] 5 (0, 0))) := hx; have hcv : (convert 34 9 (.slice (some ⟨w6.heap.size + 1 + 1, 0, none⟩) 3 3)).run Tryz.prog (((w6.alloc (.cells #[.int .i64 ((bm : Int) - 32), .int .i64 ((dm : Int) - 32)] 36)).alloc (.cells #[.int .i64 ((bm : Int) - 32), .int .i64 ((dm : Int) - 32)] 36)).alloc (.cells #[.int .u8 (bm : Int), .int .u8 (dm : Int), .int .u8 13] 5)).drew = .ok (.string ⟨#[(UInt8.ofNat bm), (UInt8.ofNat dm), 13]⟩) (((w6.alloc (.cells #[.int .i64 ((bm : Int) - 32), .int .i64 ((dm : Int) - 32)] 36)).alloc (.cells #[.int .i64 ((bm : Int) - 32), .int .i64 ((dm : Int) - 32)] 36)).alloc (.cells #[.int .u8 (bm : Int), .int .u8 (dm : Int), .int .u8 13] 5)).drew := conv_three2 (UInt8.ofNat bm) (UInt8.ofNat dm) HBO.out HDO.out hx; have HB21 : Hid (Below w5.heap.size w5 (((w6.alloc (.cells #[.int .i64 ((bm : Int) - 32), .int .i64 ((dm : Int) - 32)] 36)).alloc (.cells #[.int .i64 ((bm : Int) - 32), .int .i64 ((dm : Int) - 32)] 36)).alloc (.cells #[.int .u8 (bm : Int), .int .u8 (dm : Int), .int .u8 13] 5)).drew) := HB11.out.alloc HB11.out.size _; clear hx)
            refine wpAnyK_ready (rs := [22]) (by kernel_rfl) (by simp) ?_
            refine AllReadyK.cons rfl (fun KQ hKQ => ?_) AllReadyK.nil
            go_simp
            skip
            refine hKQ.out _ _ (hHeld) ?_
            clear hHeld hKQ KQ
            intro hHeld
            try refine wpAnyK_n ?_
            refine wpAnyK_s (i := 23) (fun _ => hHeld) ?_
            refine wpAnyK_s (i := 24) (fun _ => hHeld) ?_
            refine wpAnyK_s (i := 25) (fun _ => hHeld) ?_
            try refine wpAnyK_n ?_
            refine wpAnyK_ready (rs := [26]) (by kernel_rfl) (by simp) ?_
            refine AllReadyK.free rfl (by kernel_rfl) (fun KQ hKQ => ?_) AllReadyK.nil
            go_simp
            go_at_call 11
            first | (refine (HAW.out _ HBE.out).mono ?_; rintro e w9 ⟨rfl, hb9⟩; have HB9 := Lib.hid (Below.later HBE.out hb9 HBE.out.size); clear hb9) | (refine (HAW.out _ HBW.out).mono ?_; rintro e w9 ⟨rfl, hb9⟩; have HB9 := Lib.hid (Below.later HBW.out hb9 HBW.out.size); clear hb9)
            go_wp2_with fail
            refine hKQ.out _ _ ?_
            clear hKQ KQ
            try refine wpAnyK_n ?_
            refine wpAnyK_s (i := 27) knoK ?_
            refine wpAnyK_s (i := 28) knoK ?_
            try refine wpAnyK_n ?_
            refine wpAnyK_done (by kernel_rfl) ?_ _
            refine NoPanic.normal ?_
          rotate_left 1
          focus
            go_simp
            refine hKQ.out _ _ (⟨(Below.heap_alloc _ _ _ (block_lt hHeld.1)).trans hHeld.1, (Below.heap_alloc _ _ _ (block_lt hHeld.2.1)).trans hHeld.2.1, (Below.heap_alloc _ _ _ (block_lt hHeld.2.2)).trans hHeld.2.2⟩) ?_
            clear hHeld hKQ KQ
            intro hHeld
            try refine wpAnyK_n ?_
            first | (have hcv : (convert 34 9 (.slice (some ⟨w7.heap.size, 0, none⟩) 3 3)).run Tryz.prog (w7.alloc (.cells #[.int .u8 (bm : Int), .int .u8 (dm : Int), .int .u8 13] 5)) = .ok (.string ⟨#[(UInt8.ofNat bm), (UInt8.ofNat dm), 13]⟩) (w7.alloc (.cells #[.int .u8 (bm : Int), .int .u8 (dm : Int), .int .u8 13] 5)) := conv_three2 (UInt8.ofNat bm) (UInt8.ofNat dm) HBO.out HDO.out (heap_alloc_new w7 _); have HBE := Lib.hid (HBW.out.alloc HBW.out.size (.cells #[.int .u8 (bm : Int), .int .u8 (dm : Int), .int .u8 13] 5))) | (have hx := heap_alloc_new ((w6.alloc (.cells #[.int .i64 ((bm : Int) - 32), .int .i64 ((dm : Int) - 32)] 36)).alloc (.cells #[.int .i64 ((bm : Int) - 32), .int .i64 ((dm : Int) - 32)] 36)) (.cells #[.int .u8 (bm : Int), .int .u8 (dm : Int), .int .u8 13] 5); rw [World.size_alloc, World.size_alloc] at hx; have HX21 : Hid ((((w6.alloc (.cells #[.int .i64 ((bm : Int) - 32), .int .i64 ((dm : Int) - 32)] 36)).alloc (.cells #[.int .i64 ((bm : Int) - 32), .int .i64 ((dm : Int) - 32)] 36)).alloc (.cells #[.int .u8 (bm : Int), .int .u8 (dm : Int), .int .u8 13] 5)).drew.heap[w6.heap.size + 1 + 1]? = some (.cells #[.int .u8 (bm : Int), .int .u8 (dm : Int), .int .u8 13] 5 (0, 0))) := hx; have hcv : (convert 34 9 (.slice (some ⟨w6.heap.size + 1 + 1, 0, none⟩) 3 3)).run Tryz.prog (((w6.alloc (.cells #[.int .i64 ((bm : Int) - 32), .int .i64 ((dm : Int) - 32)] 36)).alloc (.cells #[.int .i64 ((bm : Int) - 32), .int .i64 ((dm : Int) - 32)] 36)).alloc (.cells #[.int .u8 (bm : Int), .int .u8 (dm : Int), .int .u8 13] 5)).drew = .ok (.string ⟨#[(UInt8.ofNat bm), (UInt8.ofNat dm), 13]⟩) (((w6.alloc (.cells #[.int .i64 ((bm : Int) - 32), .int .i64 ((dm : Int) - 32)] 36)).alloc (.cells #[.int .i64 ((bm : Int) - 32), .int .i64 ((dm : Int) - 32)] 36)).alloc (.cells #[.int .u8 (bm : Int), .int .u8 (dm : Int), .int .u8 13] 5)).drew := conv_three2 (UInt8.ofNat bm) (UInt8.ofNat dm) HBO.out HDO.out hx; have HB21 : Hid (Below w5.heap.size w5 (((w6.alloc (.cells #[.int .i64 ((bm : Int) - 32), .int .i64 ((dm : Int) - 32)] 36)).alloc (.cells #[.int .i64 ((bm : Int) - 32), .int .i64 ((dm : Int) - 32)] 36)).alloc (.cells #[.int .u8 (bm : Int), .int .u8 (dm : Int), .int .u8 13] 5)).drew) := HB11.out.alloc HB11.out.size _; clear hx)
            refine wpAnyK_ready (rs := [12, 22]) (by kernel_rfl) (by simp) ?_
            refine AllReadyK.cons rfl (fun KQ hKQ => ?_) (AllReadyK.cons rfl (fun KQ hKQ => ?_) AllReadyK.nil)
            focus
              go_simp
              go_at_call 15
              first | refine (HDR.out _ HB21.out).mono ?_ | refine (HDR.out _ HB11.out).mono ?_
              rintro e w7 ⟨rfl, hm, hk⟩
              have HBW := Lib.hid (Below.later HB1.out hm.2.2.2 HB1.out.size)
              have hs7 := And.intro hm.1 (And.intro ((hk.block _ (block_lt hHeld.2.1) (fun hf => by have := HFT.out _ hf; omega)).trans hHeld.2.1) ((hk.block _ (block_lt hHeld.2.2) (fun hf => by have := HFT.out _ hf; omega)).trans hHeld.2.2))
              first | (have hcv7 : (convert 34 9 (.slice (some ⟨w6.heap.size + 1 + 1, 0, none⟩) 3 3)).run Tryz.prog w7 = .ok (.string ⟨#[(UInt8.ofNat bm), (UInt8.ofNat dm), 13]⟩) w7 := conv_three2 (UInt8.ofNat bm) (UInt8.ofNat dm) HBO.out HDO.out ((hk.block _ (block_lt HX21.out) (fun hf => by have := HFT.out _ hf; omega)).trans HX21.out)) | skip
              clear hm hk
              go_wp2_with fail
              refine hKQ.out _ _ (hs7) ?_
              clear hHeld hKQ KQ
              intro hHeld
              try refine wpAnyK_n ?_
              clear hs7
              refine wpAnyK_ready (rs := [22]) (by kernel_rfl) (by simp) ?_
              refine AllReadyK.cons rfl (fun KQ hKQ => ?_) AllReadyK.nil
              go_simp
              skip
              refine hKQ.out _ _ (hHeld) ?_
              clear hHeld hKQ KQ
              intro hHeld
              try refine wpAnyK_n ?_
              refine wpAnyK_s (i := 23) (fun _ => hHeld) ?_
              refine wpAnyK_s (i := 24) (fun _ => hHeld) ?_
              refine wpAnyK_s (i := 25) (fun _ => hHeld) ?_
              try refine wpAnyK_n ?_
              refine wpAnyK_ready (rs := [26]) (by kernel_rfl) (by simp) ?_
              refine AllReadyK.free rfl (by kernel_rfl) (fun KQ hKQ => ?_) AllReadyK.nil
              go_simp
              go_at_call 11
              first | (refine (HAW.out _ HBE.out).mono ?_; rintro e w9 ⟨rfl, hb9⟩; have HB9 := Lib.hid (Below.later HBE.out hb9 HBE.out.size); clear hb9) | (refine (HAW.out _ HBW.out).mono ?_; rintro e w9 ⟨rfl, hb9⟩; have HB9 := Lib.hid (Below.later HBW.out hb9 HBW.out.size); clear hb9)
              go_wp2_with fail
              refine hKQ.out _ _ ?_
              clear hKQ KQ
              try refine wpAnyK_n ?_
              refine wpAnyK_s (i := 27) knoK ?_
              refine wpAnyK_s (i := 28) knoK ?_
              try refine wpAnyK_n ?_
              refine wpAnyK_done (by kernel_rfl) ?_ _
              refine NoPanic.normal ?_
            rotate_left 1
            focus
              go_simp
              skip
              refine hKQ.out _ _ (hHeld) ?_
              clear hHeld hKQ KQ
              intro hHeld
              try refine wpAnyK_n ?_
              refine wpAnyK_ready (rs := [12]) (by kernel_rfl) (by simp) ?_
              refine AllReadyK.cons rfl (fun KQ hKQ => ?_) AllReadyK.nil
              go_simp
              go_at_call 15
              first | refine (HDR.out _ HB21.out).mono ?_ | refine (HDR.out _ HB11.out).mono ?_
              rintro e w7 ⟨rfl, hm, hk⟩
              have HBW := Lib.hid (Below.later HB1.out hm.2.2.2 HB1.out.size)
              have hs7 := And.intro hm.1 (And.intro ((hk.block _ (block_lt hHeld.2.1) (fun hf => by have := HFT.out _ hf; omega)).trans hHeld.2.1) ((hk.block _ (block_lt hHeld.2.2) (fun hf => by have := HFT.out _ hf; omega)).trans hHeld.2.2))
              first | (have hcv7 : (convert 34 9 (.slice (some ⟨w6.heap.size + 1 + 1, 0, none⟩) 3 3)).run Tryz.prog w7 = .ok (.string ⟨#[(UInt8.ofNat bm), (UInt8.ofNat dm), 13]⟩) w7 := conv_three2 (UInt8.ofNat bm) (UInt8.ofNat dm) HBO.out HDO.out ((hk.block _ (block_lt HX21.out) (fun hf => by have := HFT.out _ hf; omega)).trans HX21.out)) | skip
              clear hm hk
              go_wp2_with fail
              refine hKQ.out _ _ (hs7) ?_
              clear hHeld hKQ KQ
              intro hHeld
              try refine wpAnyK_n ?_
              clear hs7
              refine wpAnyK_s (i := 23) (fun _ => hHeld) ?_
              refine wpAnyK_s (i := 24) (fun _ => hHeld) ?_
              refine wpAnyK_s (i := 25) (fun _ => hHeld) ?_
              try refine wpAnyK_n ?_
              refine wpAnyK_ready (rs := [26]) (by kernel_rfl) (by simp) ?_
              refine AllReadyK.free rfl (by kernel_rfl) (fun KQ hKQ => ?_) AllReadyK.nil
              go_simp
              go_at_call 11
              first | (refine (HAW.out _ HBE.out).mono ?_; rintro e w9 ⟨rfl, hb9⟩; have HB9 := Lib.hid (Below.later HBE.out hb9 HBE.out.size); clear hb9) | (refine (HAW.out _ HBW.out).mono ?_; rintro e w9 ⟨rfl, hb9⟩; have HB9 := Lib.hid (Below.later HBW.out hb9 HBW.out.size); clear hb9)
              go_wp2_with fail
              refine hKQ.out _ _ ?_
              clear hKQ KQ
              try refine wpAnyK_n ?_
              refine wpAnyK_s (i := 27) knoK ?_
              refine wpAnyK_s (i := 28) knoK ?_
              try refine wpAnyK_n ?_
              refine wpAnyK_done (by kernel_rfl) ?_ _
              refine NoPanic.normal ?_
            rotate_left 1
          rotate_left 2
          all_goals (
            go_wp2_with fail
            go_ret
            exact ⟨rfl, HB9.out⟩)
end Go.Proofs.YtncgigapgklhcaaGreatDoor
