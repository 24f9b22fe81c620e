import Derived.Test.YtliacdaddncmaaaGreatDoorSnAwP
import Derived.Test.YtliacdaddncmaaaGreatDoorLR
import Derived.Test.YtliacdaddncmaaaGreatDoorLL
import Derived.Test.YtliacdaddncmaaaGreatDoorLO
import Derived.Test.YtliacdaddncmaaaGreatDoorLP
import Derived.Test.YtliacdaddncmaaaGreatDoorLN

/- Walks: made: a screen on which calls were done, or none. -/
namespace Go.Proofs.YtliacdaddncmaaaGreatDoor
open Go.RowKit
set_option linter.unusedSimpArgs false
set_option linter.unusedVariables false
attribute [local go_sem] alloc_drewN setCell_drewN World.cell?_alloc_some frozen_alloc_some size_f0 size_f1

/-- A screen as made leaves it. -/
structure MadeS (S : Vz.Sr) : Prop where
  ok : AllC S.D
  r : S.D.R ≤ 8
  c : S.D.C ≤ 20
def MadeP (w W : World) (sp : Nat) : Prop := ∃ S, NewScr w W sp S ∧ MadeS S
theorem MadeP.below {w W W' : World} {sp : Nat} (h : MadeP w W sp) (hb : Below W.heap.size W W') : MadeP w W' sp := by
  obtain ⟨S, h1, h2⟩ := h
  exact ⟨S, h1.below hb, h2⟩
theorem MadeP.bel {w W : World} {sp : Nat} (h : MadeP w W sp) : Below w.heap.size w W := by
  obtain ⟨S, h1, h2⟩ := h
  exact h1.2
theorem MadeP.step {w W w2 : World} {sp : Nat} {S S' : Vz.Sr} (h : NewScr w W sp S) (h' : ∀ F, Scr W sp F S → ScrTo W w2 sp F S') (hm : MadeS S') : MadeP w w2 sp := ⟨S', h.next h', hm⟩
theorem AllC.wipe {D : Vz.Gd} (h : AllC D) (a b : Vz.Ps) {c : Vz.Cl} (hc : CellOk c) (gd : Bool) : AllC (wipeD D a b c gd) := by
  unfold wipeD
  split
  · exact h
  · intro i j
    show CellOk (if within a b i j = true then wipeX gd c (D.X i j) else D.X i j)
    unfold wipeX
    split
    · split
      · exact h i j
      · exact hc
    · exact h i j
theorem AllC.res {D : Vz.Gd} (h : AllC D) (R C : Nat) {c : Vz.Cl} (hc : CellOk c) : AllC (resD D R C c) := fun i j => by
  show CellOk (if i < D.R ∧ j < D.C then D.X i j else c)
  split
  · exact h i j
  · exact hc
theorem rise_dims (D : Vz.Gd) (n : Bool) (x : Vz.Cl) : (riseD D n x).R = D.R ∧ (riseD D n x).C = D.C := by
  unfold riseD
  split <;> exact ⟨rfl, rfl⟩
theorem MadeS.put {S : Vz.Sr} (h : MadeS S) {c : Vz.Cl} (hc : CellOk c) (wrap : Int) : MadeS { S with D := (putD S.D S.pl c wrap Vz.Cl.blank).1, pl := (putD S.D S.pl c wrap Vz.Cl.blank).2 } := by
  refine ⟨h.ok.put S.pl hc wrap, ?_, ?_⟩
  · show (riseD _ _ _).R ≤ 8
    rw [(rise_dims _ _ _).1]
    show (riseD _ _ _).R ≤ 8
    rw [(rise_dims _ _ _).1]
    exact h.r
  · show (riseD _ _ _).C ≤ 20
    rw [(rise_dims _ _ _).2]
    show (riseD _ _ _).C ≤ 20
    rw [(rise_dims _ _ _).2]
    exact h.c
theorem MadeS.putg {S : Vz.Sr} (h : MadeS S) {c : Vz.Cl} (hc : CellOk c) : MadeS (putGS S c) := by
  unfold putGS
  split
  · exact h
  · exact ⟨h.ok.set _ _ hc, h.r, h.c⟩
theorem made_put {w W : World} {sp : Nat} (h : MadeP w W sp) {c : Vz.Cl} (hc : CellOk c) (wrap : Int) (gd : Bool) :
    Calls Tryz.prog 34 #[.pointer (some ⟨sp, 0, none⟩), .agg #[.int .i32 c.g, .int .i64 c.a, .bool c.gd, .int .i64 c.m], .int .i64 wrap, .bool gd] W fun e w2 => e = .returned (.tuple #[]) ∧ MadeP w w2 sp := by
  obtain ⟨S, ⟨⟨F, h1, h2⟩, h3⟩, h4⟩ := h
  cases gd
  · exact (scr_put sp F S c wrap W h1).mono fun e w2 h' => ⟨h'.1, _, NewScr.link h2 h3 h'.2, h4.put hc wrap⟩
  · exact (scr_putg sp F S c wrap W h1).mono fun e w2 h' => ⟨h'.1, _, NewScr.link h2 h3 h'.2, h4.putg hc⟩
theorem made_move {w W : World} {sp : Nat} (h : MadeP w W sp) (p0 p1 : Int) :
    Calls Tryz.prog 16 #[.pointer (some ⟨sp, 0, none⟩), .agg #[.int .i64 p0, .int .i64 p1]] W fun e w2 => e = .returned (.tuple #[]) ∧ MadeP w w2 sp := by
  obtain ⟨S, ⟨⟨F, h1, h2⟩, h3⟩, h4⟩ := h
  exact (scr_move sp F S ⟨p0, p1⟩ W h1).mono fun e w2 h' => ⟨h'.1, _, NewScr.link h2 h3 h'.2, ⟨h4.ok, h4.r, h4.c⟩⟩
theorem made_stop {w W : World} {sp : Nat} (h : MadeP w W sp) (n : Int) (on : Bool) :
    Calls Tryz.prog 17 #[.pointer (some ⟨sp, 0, none⟩), .int .i64 n, .bool on] W fun e w2 => e = .returned (.tuple #[]) ∧ MadeP w w2 sp := by
  obtain ⟨S, ⟨⟨F, h1, h2⟩, h3⟩, h4⟩ := h
  refine (scr_stop sp F S n on W h1).mono fun e w2 h' => ⟨h'.1, _, NewScr.link h2 h3 h'.2, ?_⟩
  unfold stopS
  split
  · exact ⟨h4.ok, h4.r, h4.c⟩
  · exact h4
theorem made_wipe {w W : World} {sp : Nat} (h : MadeP w W sp) (a0 a1 b0 b1 : Int) {c : Vz.Cl} (hc : CellOk c) (gd : Bool) :
    Calls Tryz.prog 36 #[.pointer (some ⟨sp, 0, none⟩), .agg #[.int .i64 a0, .int .i64 a1], .agg #[.int .i64 b0, .int .i64 b1], .agg #[.int .i32 c.g, .int .i64 c.a, .bool c.gd, .int .i64 c.m], .bool gd] W fun e w2 => e = .returned (.tuple #[]) ∧ MadeP w w2 sp := by
  obtain ⟨S, ⟨⟨F, h1, h2⟩, h3⟩, h4⟩ := h
  refine (scr_wipe sp F S ⟨a0, a1⟩ ⟨b0, b1⟩ c gd W h1).mono fun e w2 h' => ⟨h'.1, _, NewScr.link h2 h3 h'.2, h4.ok.wipe _ _ hc gd, ?_, ?_⟩
  · show (wipeD _ _ _ _ _).R ≤ 8
    unfold wipeD
    split <;> exact h4.r
  · show (wipeD _ _ _ _ _).C ≤ 20
    unfold wipeD
    split <;> exact h4.c
theorem made_resize {w W : World} {sp : Nat} (h : MadeP w W sp) (r c : Int) (hf : Vz.mayS r c = true → r ≤ 8 ∧ c ≤ 20) :
    Calls Tryz.prog 37 #[.pointer (some ⟨sp, 0, none⟩), .agg #[.int .i64 r, .int .i64 c]] W fun e w2 => (∃ k : Int, e = .returned (.int .i64 k)) ∧ MadeP w w2 sp := by
  obtain ⟨S, ⟨⟨F, h1, h2⟩, h3⟩, h4⟩ := h
  cases hm : Vz.mayS r c
  · exact (scr_resize_no sp F S r c W h1 hm).mono fun e w2 h' => ⟨⟨_, h'.1⟩, S, NewScr.below ⟨⟨F, h1, h2⟩, h3⟩ h'.2, h4⟩
  · have hr := (Vz.mayS_iff r c).1 hm
    have hf := hf hm
    obtain ⟨R, rfl⟩ := Int.eq_ofNat_of_zero_le (show 0 ≤ r by omega)
    obtain ⟨C, rfl⟩ := Int.eq_ofNat_of_zero_le (show 0 ≤ c by omega)
    exact (scr_resize sp F S R C W h1 hm).mono fun e w2 h' => ⟨⟨_, h'.1⟩, _, NewScr.link h2 h3 h'.2, h4.ok.res _ _ blank_ok, by show R ≤ 8; omega, by show C ≤ 20; omega⟩
theorem made_set {w W : World} {sp : Nat} (h : MadeP w W sp) (p0 p1 : Int) {c : Vz.Cl} (hc : CellOk c) :
    Calls Tryz.prog 15 #[.pointer (some ⟨sp, 0, none⟩), .agg #[.int .i64 p0, .int .i64 p1], .agg #[.int .i32 c.g, .int .i64 c.a, .bool c.gd, .int .i64 c.m]] W fun e w2 => (∃ k : Int, e = .returned (.int .i64 k)) ∧ MadeP w w2 sp := by
  obtain ⟨S, ⟨⟨F, h1, h2⟩, h3⟩, h4⟩ := h
  by_cases hp : Vz.Ps.inS ⟨p0, p1⟩ S.D.R S.D.C
  · exact (scr_set sp F S ⟨p0, p1⟩ c W h1 hp).mono fun e w2 h' => ⟨⟨_, h'.1⟩, _, NewScr.link h2 h3 h'.2, h4.ok.set _ _ hc, h4.r, h4.c⟩
  · exact (scr_set_no sp F S ⟨p0, p1⟩ c W h1 hp).mono fun e w2 h' => ⟨⟨_, h'.1⟩, S, NewScr.below ⟨⟨F, h1, h2⟩, h3⟩ h'.2, h4⟩
theorem few_nil (A : Option Addr) (cap : Nat) (w : World) : Calls Tryz.prog 35 #[.slice A 0 cap] w fun e w' => e = .returned (.bool true) ∧ w = w' := by
  go_enter Tryz.func35, Tryz.ntmps35
  go_wp2_with fail
  go_loopw [3] (fun i wr => i = .int .i64 0 ∧ w = wr) (fun i _ => 0)
  case atStart => exact ⟨rfl, rfl⟩
  case round =>
    obtain ⟨rfl, rfl⟩ := hrel
    go_wp2_with fail
    go_ret
    exact ⟨rfl, rfl⟩
theorem few_b (A : Option Addr) (m cap : Nat) (L : List Vz.Op) (w : World) (h : Opers w.heap.size w A m L) (hm : m ≤ maxLen) : Calls Tryz.prog 35 #[.slice A m cap] w fun e w' => ∃ b : Bool, e = .returned (.bool b) ∧ (b = true → ∀ k, k < m → fewO (L[k]?.getD Vz.Op.nil)) ∧ (b = false → m ≠ 0) ∧ Below w.heap.size w w' := by
  by_cases h0 : m = 0
  · subst h0
    exact (few_nil A cap w).mono fun e w' h' => ⟨true, h'.1, fun _ k hk => absurd hk (Nat.not_lt_zero _), (fun e => by cases e), by rw [← h'.2]; exact Below.refl _ _⟩
  · exact (few_ok A m cap L w h hm).mono fun e w' ⟨b, h1, h2, h3⟩ => ⟨b, h1, fun hb => (h2 hb).1, fun _ => h0, h3⟩
theorem bad_cases (g mk a : Int) : ((decide (g < 32) = true) ∨ (decide (g < 32) = false ∧ decide (9727 < g) = true) ∨ (decide (g < 32) = false ∧ decide (9727 < g) = false ∧ decide (mk < 0) = true) ∨ (decide (g < 32) = false ∧ decide (9727 < g) = false ∧ decide (mk < 0) = false ∧ decide (64 < mk) = true)
    ∨ (decide (g < 32) = false ∧ decide (9727 < g) = false ∧ decide (mk < 0) = false ∧ decide (64 < mk) = false ∧ decide (a < 0) = true) ∨ (decide (g < 32) = false ∧ decide (9727 < g) = false ∧ decide (mk < 0) = false ∧ decide (64 < mk) = false ∧ decide (a < 0) = false ∧ decide (16383 < a) = true))
    ∨ (decide (g < 32) = false ∧ decide (9727 < g) = false ∧ decide (mk < 0) = false ∧ decide (64 < mk) = false ∧ decide (a < 0) = false ∧ decide (16383 < a) = false ∧ (32 ≤ g ∧ g ≤ 9727) ∧ (0 ≤ a ∧ a ≤ 16383) ∧ (0 ≤ mk ∧ mk ≤ 64)) := by
  simp only [decide_eq_true_eq, decide_eq_false_iff_not]
  omega
set_option maxRecDepth 100000 in
set_option maxHeartbeats 16000000 in
theorem made_ok (A : Option Addr) (m cap : Nat) (L : List Vz.Op) (w : World) (hbl : Blanked w) (h : Opers w.heap.size w A m L) (hm : m ≤ maxLen) :
    Calls Tryz.prog 12 #[.slice A m cap] w fun e w' => ((e = .returned (.pointer none) ∧ m ≠ 0) ∨ ∃ sp, e = .returned (.pointer (some ⟨sp, 0, none⟩)) ∧ MadeP w w' sp) ∧ Below w.heap.size w w' := by
  have hm' : m ≤ 9223372036854775807 := Nat.le_trans hm (by unfold maxLen; decide)
  have H := Lib.hid h
  have HN : Hid (Calls Tryz.prog 33 #[.agg #[.int .i64 4, .int .i64 7]] w fun e w' => ∃ sp, e = .returned (.tuple #[.pointer (some ⟨sp, 0, none⟩), .int .i64 0]) ∧ NewScr w w' sp (newS 4 7)) := scr_new 4 7 (by decide) w hbl
  have HM0 : Hid (MadeS (newS 4 7)) := ⟨AllC.new 4 7, by decide, by decide⟩
  have HFW := Lib.hid (fun W (hb : Below w.heap.size w W) => few_b A m cap L W ((h.below hb (Nat.le_refl _)).more hb.size) hm)
  clear h hm hbl
  go_enter Tryz.func12, Tryz.ntmps12
  go_wp2_with (first
    | (go_at_call 35; refine (HFW.out _ HB1.out).mono ?_; rintro e w2 ⟨b, rfl, hf, hm0, hb2⟩; have HF := Lib.hid hf; have HM := Lib.hid hm0; have HP2 := Lib.hid (HP1.out.below hb2); clear hf hm0 hb2; cases b)
    | (go_at_call 33; refine HN.out.mono ?_; rintro e w1 ⟨sp, rfl, hnew⟩; have HB1 := Lib.hid hnew.2; have HP1 : Hid (MadeP w w1 sp) := ⟨_, hnew, HM0.out⟩; clear hnew))
  · go_ret
    exact ⟨.inl ⟨rfl, HM.out trivial⟩, HP2.out.bel⟩
  go_loopw [5] (fun i wr => ∃ k : Nat, k ≤ m ∧ i = .int .i64 (k : Int) ∧ MadeP w wr sp) (fun i _ => m - (intOf i).toNat)
  case atStart => exact ⟨0, Nat.zero_le _, rfl, HP2.out⟩
  case round =>
    clear HP1 HP2
    obtain ⟨k, hk, rfl, hp⟩ := hrel
    by_cases hlt : k < m
    · obtain ⟨b, o, rfl, hbl, hop, -⟩ := (H.out.below hp.bel (Nat.le_refl _)).at_ hlt
      have hfx := HF.out trivial k hlt
      generalize L[k]?.getD Vz.Op.nil = x at *
      have hkz : (k : Int) < (m : Int) := by omega
      have hwk : IntKind.i64.wrap ((k : Int) + 1) = ((k + 1 : Nat) : Int) := by rw [wrap_in (by omega) (by omega)]; rfl
      have hm1 : m ≠ 0 := by omega
      obtain ⟨ask, ⟨a0, a1⟩, ⟨b0, b1⟩, n, ⟨cg, ca, cd, cm⟩, wp, gd⟩ := x
      have HFX : Hid (ask = 12 → Vz.mayS a0 a1 = true → a0 ≤ 8 ∧ a1 ≤ 20) := hfx
      obtain ⟨c0, c1, c2, c3, c4, c5, c6, c7, c8, c9, c10, c11⟩ := hop
      simp only at c0 c1 c2 c3 c4 c5 c6 c7 c8 c9 c10 c11
      have HP := Lib.hid hp
      have HBX : Hid (Below wr.heap.size wr ((wr.alloc (.cells #[.int .i64 ask, .int .i64 a0, .int .i64 a1, .int .i64 b0, .int .i64 b1, .int .i64 n, .int .i32 cg, .int .i64 ca, .bool cd, .int .i64 cm, .int .i64 wp, .bool gd] 49)).alloc (.cells #[.int .i32 cg, .int .i64 ca, .bool cd, .int .i64 cm] 47))) := (below1 _ _).alloc (by simp) _
      have HPX := Lib.hid (HP.out.below HBX.out)
      clear hp hfx
      rcases bad_cases cg cm ca with hbad | hok
      · rcases hbad with d0 | ⟨d0, d1⟩ | ⟨d0, d1, d2⟩ | ⟨d0, d1, d2, d3⟩ | ⟨d0, d1, d2, d3, d4⟩ | ⟨d0, d1, d2, d3, d4, d5⟩
        all_goals (
          go_wp2_with fail
          go_ret
          exact ⟨.inl ⟨rfl, hm1⟩, HPX.out.bel⟩)
      · obtain ⟨d0, d1, d2, d3, d4, d5, hok⟩ := hok
        have HOK : Hid (CellOk ⟨cg, ca, cd, cm⟩) := hok
        clear hok
        by_cases h0 : ask = 0
        · subst h0
          go_wp2_with (go_at_call 34; refine (made_put HPX.out HOK.out _ _).mono ?_; rintro e w3 ⟨rfl, hp3⟩; have HP3 := Lib.hid hp3; clear hp3)
          exact ⟨⟨k + 1, by omega, rfl, HP3.out⟩, by simp [intOf]; omega⟩
        have e0 : (ask == 0) = false := beq_eq_false_iff_ne.2 h0
        by_cases h1 : ask = 1
        · subst h1
          clear h0
          go_wp2_with (go_at_call 16; refine (made_move HPX.out _ _).mono ?_; rintro e w3 ⟨rfl, hp3⟩; have HP3 := Lib.hid hp3; clear hp3)
          exact ⟨⟨k + 1, by omega, rfl, HP3.out⟩, by simp [intOf]; omega⟩
        have e1 : (ask == 1) = false := beq_eq_false_iff_ne.2 h1
        by_cases h5 : ask = 5
        · subst h5
          clear h0 h1
          go_wp2_with (go_at_call 17; refine (made_stop HPX.out _ _).mono ?_; rintro e w3 ⟨rfl, hp3⟩; have HP3 := Lib.hid hp3; clear hp3)
          exact ⟨⟨k + 1, by omega, rfl, HP3.out⟩, by simp [intOf]; omega⟩
        have e5 : (ask == 5) = false := beq_eq_false_iff_ne.2 h5
        by_cases h7 : ask = 7
        · subst h7
          clear h0 h1 h5
          go_wp2_with (go_at_call 36; refine (made_wipe HPX.out _ _ _ _ HOK.out _).mono ?_; rintro e w3 ⟨rfl, hp3⟩; have HP3 := Lib.hid hp3; clear hp3)
          exact ⟨⟨k + 1, by omega, rfl, HP3.out⟩, by simp [intOf]; omega⟩
        have e7 : (ask == 7) = false := beq_eq_false_iff_ne.2 h7
        by_cases h12 : ask = 12
        · subst h12
          clear h0 h1 h5 h7
          have HFR := Lib.hid (HFX.out rfl)
          go_wp2_with (go_at_call 37; refine (made_resize HPX.out _ _ HFR.out).mono ?_; rintro e w3 ⟨⟨r, rfl⟩, hp3⟩; have HP3 := Lib.hid hp3; clear hp3)
          exact ⟨⟨k + 1, by omega, rfl, HP3.out⟩, by simp [intOf]; omega⟩
        have e12 : (ask == 12) = false := beq_eq_false_iff_ne.2 h12
        clear h0 h1 h5 h7 h12
        go_wp2_with (go_at_call 15; refine (made_set HPX.out _ _ HOK.out).mono ?_; rintro e w3 ⟨⟨r, rfl⟩, hp3⟩; have HP3 := Lib.hid hp3; clear hp3)
        exact ⟨⟨k + 1, by omega, rfl, HP3.out⟩, by simp [intOf]; omega⟩
    · obtain rfl : k = m := by omega
      have HP := Lib.hid hp
      clear hp
      go_wp2_with fail
      go_ret
      exact ⟨.inr ⟨sp, rfl, HP.out⟩, HP.out.bel⟩
theorem begun_yes (w : World) (hbl : Blanked w) : Calls Tryz.prog 13 #[] w fun e w' => e = .returned (.bool true) ∧ Below w.heap.size w w' := by
  have HM := Lib.hid (made_ok none 0 0 [] w hbl (Opers.nil _ _) (Nat.zero_le _))
  clear hbl
  go_enter Tryz.func13, Tryz.ntmps13
  go_wp2_with (go_at_call 12; refine HM.out.mono ?_; rintro e w1 ⟨h1, hb1⟩; obtain ⟨sp, rfl, -⟩ : ∃ sp, e = .returned (.pointer (some ⟨sp, 0, none⟩)) ∧ MadeP w w1 sp := (by rcases h1 with ⟨_, h0⟩ | h1; exact absurd rfl h0; exact h1); clear h1)
  go_ret
  exact ⟨rfl, hb1⟩
end Go.Proofs.YtliacdaddncmaaaGreatDoor
