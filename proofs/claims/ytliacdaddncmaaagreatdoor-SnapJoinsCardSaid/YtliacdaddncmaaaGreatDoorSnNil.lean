import Derived.Test.YtliacdaddncmaaaGreatDoorSnPrA

/- Walks: the zero shot: its text, its runs, whether it is the same; the document's names. -/
namespace Go.Proofs.YtliacdaddncmaaaGreatDoor
open Go.RowKit
set_option linter.unusedSimpArgs false
set_option linter.unusedVariables false
attribute [local go_sem] alloc_drewN setCell_drewN World.cell?_alloc_some frozen_alloc_some size_f0 size_f1

theorem refname_any (p : Int) (w : World) : Calls Tryz.prog 7 #[.int .i64 p] w fun e w' => e = .returned (.string ⟨(nameB p).toArray⟩) ∧ w = w' := by
  by_cases h1 : p = 1
  · subst h1
    go_enter Tryz.func7, Tryz.ntmps7
    go_wp2_with fail
    go_ret
    exact ⟨rfl, rfl⟩
  by_cases h2 : p = 2
  · subst h2
    go_enter Tryz.func7, Tryz.ntmps7
    go_wp2_with fail
    go_ret
    exact ⟨rfl, rfl⟩
  by_cases h3 : p = 3
  · subst h3
    go_enter Tryz.func7, Tryz.ntmps7
    go_wp2_with fail
    go_ret
    exact ⟨rfl, rfl⟩
  by_cases h4 : p = 4
  · subst h4
    go_enter Tryz.func7, Tryz.ntmps7
    go_wp2_with fail
    go_ret
    exact ⟨rfl, rfl⟩
  have hn : nameB p = [] := by
    unfold nameB
    rw [if_neg h1, if_neg h2, if_neg h3, if_neg h4]
  rw [hn]
  have b1 : (p == 1) = false := beq_eq_false_iff_ne.2 h1
  have b2 : (p == 2) = false := beq_eq_false_iff_ne.2 h2
  have b3 : (p == 3) = false := beq_eq_false_iff_ne.2 h3
  have b4 : (p == 4) = false := beq_eq_false_iff_ne.2 h4
  clear h1 h2 h3 h4 hn
  go_enter Tryz.func7, Tryz.ntmps7
  go_wp2_with fail
  go_ret
  exact ⟨rfl, rfl⟩
set_option maxRecDepth 100000 in
set_option maxHeartbeats 4000000 in
theorem text_zero (w : World) : Calls Tryz.prog 9 #[.agg sh0] w fun e w' => e = .returned (.string ⟨#[]⟩) ∧ Below w.heap.size w w' := by
  obtain ⟨⟨x0, x1, x2, x3, x4, x5, x6, x7, x8⟩, _⟩ := row9 (heap_alloc_new w (.cells sh0 30))
  have HS : Hid (∀ W, W = (w.alloc (.cells sh0 30)).alloc (.cells #[.pointer none, .slice none 0 0] 72) → Calls Tryz.prog 29 #[.pointer (some ⟨w.heap.size + 1, 0, none⟩)] W fun e w' => e = .returned (.string ⟨#[]⟩) ∧ Below w.heap.size w w') := fun W hW => by
    subst hW
    have hb := BuildL.fresh (w.alloc (.cells sh0 30))
    rw [World.size_alloc] at hb
    refine (string_l hb (by simp)).mono fun e w' h => ⟨h.1, ?_⟩
    exact ((below1 w _).alloc (by simp) _).trans (h.2.mono (Nat.le_succ _))
  unfold sh0 at *
  go_enter Tryz.func9, Tryz.ntmps9
  go_wp2_with fail
  go_loopw [9] (fun i wr => i = .int .i64 0 ∧ wr = (w.alloc (.cells #[.int .i64 0, .int .i64 0, .int .i64 0, .int .i64 0, .int .i64 0, .bool false, .slice none 0 0, .slice none 0 0, .slice none 0 0] 30)).alloc (.cells #[.pointer none, .slice none 0 0] 72)) (fun i _ => 0)
  case atStart => exact ⟨rfl, rfl⟩
  case round =>
    obtain ⟨rfl, hw⟩ := hrel
    have HS2 := Lib.hid (HS.out _ hw)
    clear hw HS
    go_wp2_with (go_at_call 29; refine HS2.out.mono ?_; rintro e w9 ⟨rfl, hb⟩)
    go_ret
    exact ⟨rfl, hb⟩
theorem alikeC_zero (w : World) : Calls Tryz.prog 30 #[.slice none 0 0, .slice none 0 0] w fun e w' => e = .returned (.bool true) ∧ Below w.heap.size w w' := by
  have HE : Hid (∀ W, Calls Tryz.prog 53 #[.slice none 0 0, .slice none 0 0, .func (.func 54) #[] #[]] W fun e w' => e = .returned (.bool true) ∧ Below W.heap.size W w') := fun W => by
    go_enter Tryz.func53, Tryz.ntmps53
    go_wp2_with fail
    go_loopw [17] (fun i wr => i = .int .i64 0 ∧ wr = W) (fun i _ => 0)
    case atStart => exact ⟨rfl, rfl⟩
    case round =>
      obtain ⟨rfl, rfl⟩ := hrel
      go_wp2_with fail
      go_ret
      exact ⟨rfl, Below.refl _ _⟩
  go_enter Tryz.func30, Tryz.ntmps30
  go_wp2_with (go_at_call 53; refine (HE.out _).mono ?_; rintro e w1 ⟨rfl, hb⟩)
  go_ret
  exact ⟨rfl, hb⟩
theorem alikeI_zero (w : World) : Calls Tryz.prog 31 #[.slice none 0 0, .slice none 0 0] w fun e w' => e = .returned (.bool true) ∧ Below w.heap.size w w' := by
  have HE : Hid (∀ W, Calls Tryz.prog 55 #[.slice none 0 0, .slice none 0 0, .func (.func 32) #[] #[]] W fun e w' => e = .returned (.bool true) ∧ Below W.heap.size W w') := fun W => by
    go_enter Tryz.func55, Tryz.ntmps55
    go_wp2_with fail
    go_loopw [17] (fun i wr => i = .int .i64 0 ∧ wr = W) (fun i _ => 0)
    case atStart => exact ⟨rfl, rfl⟩
    case round =>
      obtain ⟨rfl, rfl⟩ := hrel
      go_wp2_with fail
      go_ret
      exact ⟨rfl, Below.refl _ _⟩
  go_enter Tryz.func31, Tryz.ntmps31
  go_wp2_with (go_at_call 55; refine (HE.out _).mono ?_; rintro e w1 ⟨rfl, hb⟩)
  go_ret
  exact ⟨rfl, hb⟩
theorem equalI_zero (W : World) : Calls Tryz.prog 32 #[.slice none 0 0, .slice none 0 0] W fun e w' => e = .returned (.bool true) ∧ Below W.heap.size W w' :=
  (Tryz.slices_Equal_int_empty none none 0 0 0 W (by decide)).mono fun e w' h => ⟨h.1, by rw [h.2]; exact Below.refl _ _⟩
set_option maxRecDepth 100000 in
set_option maxHeartbeats 4000000 in
theorem same_zero (w : World) : Calls Tryz.prog 10 #[.agg sh0, .agg sh0] w fun e w' => e = .returned (.bool true) ∧ Below w.heap.size w w' := by
  obtain ⟨n0, n1, nb⟩ := box2 (Below.refl ((w.alloc (.cells sh0 30)).alloc (.cells sh0 30)).heap.size ((w.alloc (.cells sh0 30)).alloc (.cells sh0 30)))
  have HB0 := Lib.hid nb
  have H0 := Lib.hid n0
  have H1 := Lib.hid n1
  clear n0 n1 nb
  unfold sh0 at *
  go_enter Tryz.func10, Tryz.ntmps10
  go_wp2_with (first
    | (go_at_call 30; refine (alikeC_zero _).mono ?_; rintro e w1 ⟨rfl, hb1⟩; have HB1 := Lib.hid (Below.later HB0.out hb1 HB0.out.size); obtain ⟨⟨x0, x1, x2, x3, x4, x5, x6, x7, x8⟩, _⟩ := row9 ((hb1.block _ (block_lt H0.out)).trans H0.out); obtain ⟨⟨y0, y1, y2, y3, y4, y5, y6, y7, y8⟩, _⟩ := row9 ((hb1.block _ (block_lt H1.out)).trans H1.out); have H01 := Lib.hid ((hb1.block _ (block_lt H0.out)).trans H0.out); have H11 := Lib.hid ((hb1.block _ (block_lt H1.out)).trans H1.out); clear hb1)
    | (go_at_call 31; refine (alikeI_zero _).mono ?_; rintro e w2 ⟨rfl, hb2⟩; have HB2 := Lib.hid (Below.later HB1.out hb2 HB1.out.size); clear x0 x1 x2 x3 x4 x5 x6 x7 x8 y0 y1 y2 y3 y4 y5 y6 y7 y8; obtain ⟨⟨x0, x1, x2, x3, x4, x5, x6, x7, x8⟩, _⟩ := row9 ((hb2.block _ (block_lt H01.out)).trans H01.out); obtain ⟨⟨y0, y1, y2, y3, y4, y5, y6, y7, y8⟩, _⟩ := row9 ((hb2.block _ (block_lt H11.out)).trans H11.out); clear hb2)
    | (go_at_call 32; refine (equalI_zero _).mono ?_; rintro e w3 ⟨rfl, hb3⟩; have HB3 := Lib.hid (Below.later HB2.out hb3 HB2.out.size); clear hb3))
  go_ret
  exact ⟨rfl, HB3.out⟩
set_option maxRecDepth 100000 in
set_option maxHeartbeats 4000000 in
/-- The zero shot's runs: none. -/
theorem runs0_in (n : Nat) (hn : 1 ≤ n) (l bx : Nat) (J Jx : List Rn → World → Prop) (hJ : ∀ s A, J s A → A.heap[bx]? = some (.cells sh0 30 (0, 0))) (W : World) (h0 : J [] W) :
    CallsIn Fence.wide n Tryz.prog 26 #[.func (.yield l) #[] #[], .pointer (some ⟨bx, 0, none⟩)] W fun e W' => (∃ v, e = .returned v) ∧ ((∃ ys, ys = ([] : List Rn) ∧ J ys W') ∨ (∃ pre, False ∧ Jx pre W')) := by
  have H0 := Lib.hid h0
  obtain ⟨⟨x0, x1, x2, x3, x4, x5, x6, x7, x8⟩, _⟩ := row9 (hJ _ _ h0)
  clear hJ h0
  refine callsIn_of_wp Tryz.func26 rfl trivial ?_ rfl
  simp only [Tryz.ntmps26, List.size_toArray, List.length_cons, List.length_nil, Nat.reduceAdd, Nat.reduceSub, Array.replicate_succ, Array.replicate_zero, List.push_toArray, List.append_toArray, List.nil_append, List.cons_append]
  gi_wp2
  gi_loopw [10] (fun i wr => i = .int .i64 0 ∧ wr = W) (fun i _ => 0)
  case atStart => exact ⟨rfl, rfl⟩
  case round =>
    obtain ⟨rfl, rfl⟩ := hrel
    gi_wp2
    go_end0
    exact ⟨⟨_, rfl⟩, .inl ⟨[], rfl, H0.out⟩⟩
theorem runs0_stops (n : Nat) (hn : 1 ≤ n) (bx : Nat) (w : World) :
    SeqStopsT Fence.wide n Tryz.prog 26 #[.pointer (some ⟨bx, 0, none⟩)] runV (fun _ _ => True) (fun ys => ys = ([] : List Rn)) (fun _ => False) (fun _ _ _ => False) (fun A => A.heap[bx]? = some (.cells sh0 30 (0, 0))) w :=
  fun l J Jx W hW hAb _ hJ hY h0 => runs0_in n hn l bx J Jx hJ W h0
end Go.Proofs.YtliacdaddncmaaaGreatDoor
