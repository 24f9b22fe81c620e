import Derived.Test.YtmgeghoalmonoaaGreatDoorAnL

/- Walks of ANSI.SYS: Feed. -/
namespace Go.Proofs.YtmgeghoalmonoaaGreatDoor
open Go.RowKit
set_option linter.unusedSimpArgs false
set_option linter.unusedVariables false
set_option maxRecDepth 100000
attribute [local go_sem] alloc_drewN setCell_drewN World.cell?_alloc_some frozen_alloc_some pos_f1 Oper.semAt_some

section
variable {w : World} {P : Pt} {G : Nat → Prop} {A : An}
/-- Where a round of Feed stands. -/
def FeedI (w2 : World) (P : Pt) (G : Nat → Prop) (A : An) (s : ByteArray) (tb Bc : Nat) (pre : List UInt8) (W : World) : Prop :=
  Boxed W tb 32 (.pointer (some ⟨P.tp, 0, none⟩)) ∧ Boxed W Bc 9 (.string s) ∧ AnTo w2 W P G (feedN A pre)
theorem feedI_own {w2 : World} {s : ByteArray} {tb Bc : Nat} (h1 : tb < w2.heap.size) (h2 : Bc < w2.heap.size) (hz : 0 < w2.heap.size) : OwnL w2.heap.size (FeedI w2 P G A s tb Bc) := by
  rintro pre X Y row ⟨a1, a2, a3⟩ hg hr
  have key : ∀ k, k < w2.heap.size → Y.heap[k]? = X.heap[k]? := fun k hk => hg.block k (Nat.lt_of_lt_of_le hk a3.2.size) (fun e => by have := (hr k e.symm).1; omega)
  exact ⟨(key tb h1).trans a1, (key Bc h2).trans a2, a3.grown hg hr hz⟩
/-- A round, from what its byte does. -/
theorem feed_next {w2 W : World} {s : ByteArray} {tb Bc : Nat} {pre : List UInt8} (hG : ∀ k, G k → k < tb) (htb : tb < Bc) (hBc : Bc < w2.heap.size) (hi : FeedI w2 P G A s tb Bc pre W) (x : UInt8) :
    ∃ G1, AnW W P G1 (feedN A pre) ∧ (¬ G1 tb ∧ ¬ G1 Bc) ∧ ∀ W', AnTo W W' P G1 (takeN (feedN A pre) x) → KeepsL w2.heap.size W W' ∧ KeptB Bc W W' ∧ FeedI w2 P G A s tb Bc (pre ++ [x]) W' := by
  obtain ⟨a1, a2, ⟨⟨G1, h1, hg1⟩, hk1⟩⟩ := hi
  have n1 : ¬ G1 tb := fun e => by
    rcases hg1 _ e with e | e
    · have := hG _ e; omega
    · omega
  have n2 : ¬ G1 Bc := fun e => by
    rcases hg1 _ e with e | e
    · have := hG _ e; omega
    · omega
  refine ⟨G1, h1, ⟨n1, n2⟩, fun W' ht => ⟨ht.books h1 _, ht.2.block _ a2.lt n2, (ht.2.block _ a1.lt n1).trans a1, (ht.2.block _ a2.lt n2).trans a2, ?_⟩⟩
  rw [feedN_snoc]
  exact AnTo.link hg1 hk1 ht
set_option maxHeartbeats 4000000 in
theorem feed_in (n : Nat) (hn : 3 ≤ n) (h : AnW w P G A) (hsm : SmallA A) (s : ByteArray) (hl : A.lost + s.size ≤ 90000) :
    CallsIn Fence.wide n Tryz.prog 10 #[.pointer (some ⟨P.tp, 0, none⟩), .string s] w fun e w' => e = .returned (.tuple #[]) ∧ AnTo w w' P G (feedN A s.data.toList) := by
  have h1 : 1 ≤ n := by omega
  have H := Lib.hid h
  have HSM := Lib.hid hsm
  have HL := Lib.hid hl
  clear h hsm hl
  refine callsIn_of_wp_marks Tryz.func10 rfl trivial ?_ rfl
  simp only [Tryz.ntmps10, List.size_toArray, List.length_cons, List.length_nil, Nat.reduceAdd, Nat.reduceSub, Array.replicate_succ, Array.replicate_zero, List.push_toArray, List.append_toArray, List.nil_append, List.cons_append]
  gi_wp2_with (refine ⟨trivial, ?_⟩; gi_at_call 26; refine (countedN_in (n - 1) s _).mono ?_; rintro e w' ⟨rfl, rfl⟩)
  have hb2 : Below w.heap.size w ((w.alloc (.cells #[.pointer (some ⟨P.tp, 0, none⟩)] 32)).alloc (.cells #[.string s] 9)) := (below1 w _).alloc (by simp) _
  have bT : Boxed ((w.alloc (.cells #[.pointer (some ⟨P.tp, 0, none⟩)] 32)).alloc (.cells #[.string s] 9)) w.heap.size 32 (.pointer (some ⟨P.tp, 0, none⟩)) := (Boxed.new w _ _).alloc _
  have bC := Boxed.new (w.alloc (.cells #[.pointer (some ⟨P.tp, 0, none⟩)] 32)) 9 (.string s)
  rw [World.size_alloc] at bC
  have hsz : ((w.alloc (.cells #[.pointer (some ⟨P.tp, 0, none⟩)] 32)).alloc (.cells #[.string s] 9)).heap.size = w.heap.size + 1 + 1 := by rw [World.size_alloc, World.size_alloc]
  generalize (w.alloc (.cells #[.pointer (some ⟨P.tp, 0, none⟩)] 32)).alloc (.cells #[.string s] 9) = w2 at *
  have HB2 := Lib.hid hb2
  have HZ : Hid (0 < w2.heap.size) := by
    show _ < _
    have := H.out.blk.lt
    have := hb2.size
    omega
  have HI0 : Hid (FeedI w2 P G A s w.heap.size (w.heap.size + 1) [] w2) := ⟨bT, bC, AnTo.refl (H.out.below hb2)⟩
  have HGL : Hid (∀ k, G k → k < w.heap.size) := H.out.lt
  have HS3 : Hid (w.heap.size < w2.heap.size ∧ w.heap.size + 1 < w2.heap.size) := ⟨by omega, by omega⟩
  refine wpIn_rangeFunc_L rfl h1 (gf := 45) (lb := #[.pointer (some ⟨w.heap.size + 1, 0, none⟩)]) rfl trivial (enters_of Tryz.func45 (by kernel_rfl) rfl)
    (countedN_stops (n - 1) (by omega) (w.heap.size + 1) s (by have := HL.out; omega) w2 bC) (fun h k => k.trans h) (fun W l o o' hl _ _ => World.putObj_heap_other (by omega)) (Below.refl _ _) (fun _ => rfl)
    (FeedI w2 P G A s w.heap.size (w.heap.size + 1)) (feedI_own HS3.out.1 HS3.out.2 HZ.out) HI0.out
    (fun x => { tmps := #[.pointer (some ⟨P.tp, 0, none⟩), .string s, .pointer (some ⟨w.heap.size, 0, none⟩), undef, .int .u8 (x.toNat : Int), .pointer (some ⟨P.tp, 0, none⟩), .bool false, .string s, .func (.func 45) #[] #[.pointer (some ⟨w.heap.size + 1, 0, none⟩)], .int .u8 (x.toNat : Int), undef, undef, undef, undef, undef, undef, undef, undef, undef, undef, undef, undef, undef, undef, undef, undef, undef, undef, undef, undef, undef, undef, undef, undef, undef, undef, undef, undef, undef, undef, undef, undef, undef, undef, undef, undef, undef], defers := [] }) ?assign ?body ?done
  case assign =>
    intro l x W K hK
    gi_wp2
    exact hK
  case body =>
    rintro l pre x W hi hpre
    clear hsz bT bC hb2
    have hc91 : ((⟨#[27, 91]⟩ : ByteArray)[1]'(by decide)).toNat = 91 := rfl
    obtain ⟨G1, hA1, hn1, hnext⟩ := feed_next HGL.out (show w.heap.size < w.heap.size + 1 by omega) HS3.out.2 hi x
    have hlen : pre.length ≤ s.size := by have := hpre.length_le; simp at this; have e : s.data.toList.length = s.size := rfl; omega
    have hd := feedN_dims pre A
    have HSM1 : Hid (SmallA (feedN A pre)) := ⟨by rw [hd.1.1]; exact HSM.out.1, by rw [hd.1.2]; exact HSM.out.2⟩
    have HL1 : Hid ((feedN A pre).lost ≤ 90000) := by show _ ≤ _; have := hd.2; have := HL.out; omega
    have HNX := Lib.hid hnext
    have HBT := Lib.hid hi.1
    clear hnext hd hlen hpre hi
    generalize feedN A pre = A1 at hA1 HNX HSM1 HL1
    have HA1 := Lib.hid hA1
    have HN1 := Lib.hid hn1
    have b0 := HBT.out.cell
    obtain ⟨⟨_, _, _, _, _, _, _, t7, _⟩, _, _, _, _, f7, _⟩ := hA1.cells
    clear hA1 hn1
    by_cases h27 : x = 27
    · have e27 : ((x.toNat : Int) == 27) = true := by rw [h27]; rfl
      have HDR := Lib.hid (an_drop HA1.out)
      have HTK : Hid (takeN A1 x = { dropN A1 with st := 1 }) := by show takeN A1 x = _; unfold takeN; rw [if_pos h27]
      clear h27
      gi_wp2_with (refine ⟨trivial, (fun h => by cases h), ?_⟩; gi_at_call 19; refine (CallsIn.inRound l (callsIn_wide.2 HDR.out)).mono ?_; rintro e w3 ⟨rfl, ht⟩; obtain ⟨⟨G3, h3, hg3⟩, hk3⟩ := ht; have H3 := Lib.hid h3; have HG3 := Lib.hid hg3; have HK3 := Lib.hid hk3; have c0 : w3.cell? ⟨w.heap.size, 0, none⟩ = some (.pointer (some ⟨P.tp, 0, none⟩)) := Boxed.cell ((hk3.block _ HBT.out.lt HN1.out.1).trans HBT.out); obtain ⟨⟨_, _, _, _, _, _, _, s7, _⟩, _, _, _, _, g7, _⟩ := h3.cells; clear h3 hg3 hk3)
      exact HNX.out _ (by rw [HTK.out]; exact AnTo.link HG3.out HK3.out (H3.out.state 1))
    have e27 : ((x.toNat : Int) == 27) = false := beq_eq_false_iff_ne.2 (fun e => h27 (UInt8.toNat_inj.1 (by exact Int.ofNat_inj.1 e)))
    by_cases h91 : A1.st = 1 ∧ x = 91
    · have e1 : (A1.st == 1) = true := by rw [h91.1]; rfl
      have e91 : ((x.toNat : Int) == 91) = true := by rw [h91.2]; rfl
      have HTK : Hid (takeN A1 x = { A1 with st := 2 }) := by show takeN A1 x = _; unfold takeN; rw [if_neg h27, if_pos h91]
      clear h27 h91
      gi_wp2
      exact HNX.out _ (by rw [HTK.out]; exact HA1.out.state 2)
    by_cases h2 : A1.st = 2
    · have e1 : (A1.st == 1) = false := by rw [h2]; rfl
      have e2 : (A1.st == 2) = true := by rw [h2]; rfl
      have HTK : Hid (takeN A1 x = seqN A1 x) := by show takeN A1 x = _; unfold takeN; rw [if_neg h27, if_neg h91, if_pos h2]
      have HSQ := Lib.hid (an_seq HA1.out HSM1.out HL1.out x)
      clear h27 h91 h2
      gi_wp2_with (refine ⟨trivial, (fun h => by cases h), ?_⟩; gi_at_call 27; refine (CallsIn.inRound l (callsIn_wide.2 HSQ.out)).mono ?_; rintro e w3 ⟨rfl, ht⟩; have HT := Lib.hid ht; clear ht)
      exact HNX.out _ (by rw [HTK.out]; exact HT.out)
    · have e2 : (A1.st == 2) = false := beq_eq_false_iff_ne.2 h2
      have HTK : Hid (takeN A1 x = plainN { A1 with st := 0 } x) := by show takeN A1 x = _; unfold takeN; rw [if_neg h27, if_neg h91, if_neg h2]
      obtain ⟨⟨G3, h3, hg3⟩, hk3⟩ := HA1.out.state 0
      have HPL := Lib.hid (an_plain h3 x)
      have HG3 := Lib.hid hg3
      have HK3 := Lib.hid hk3
      clear h3 hg3 hk3
      by_cases hs1 : A1.st = 1
      · have e1 : (A1.st == 1) = true := beq_iff_eq.2 hs1
        have e91 : ((x.toNat : Int) == 91) = false := beq_eq_false_iff_ne.2 (fun e => h91 ⟨hs1, UInt8.toNat_inj.1 (Int.ofNat_inj.1 e)⟩)
        clear h27 h91 h2 hs1
        gi_wp2_with (refine ⟨trivial, (fun h => by cases h), ?_⟩; gi_at_call 28; refine (CallsIn.inRound l (callsIn_wide.2 HPL.out)).mono ?_; rintro e w3 ⟨rfl, ht⟩; have HT := Lib.hid ht; clear ht)
        exact HNX.out _ (by rw [HTK.out]; exact AnTo.link HG3.out HK3.out HT.out)
      · have e1 : (A1.st == 1) = false := beq_eq_false_iff_ne.2 hs1
        clear h27 h91 h2 hs1
        gi_wp2_with (refine ⟨trivial, (fun h => by cases h), ?_⟩; gi_at_call 28; refine (CallsIn.inRound l (callsIn_wide.2 HPL.out)).mono ?_; rintro e w3 ⟨rfl, ht⟩; have HT := Lib.hid ht; clear ht)
        exact HNX.out _ (by rw [HTK.out]; exact AnTo.link HG3.out HK3.out HT.out)
  case done =>
    rintro D xs W hD rfl hi hK
    have hh := grownBy_putObj' W D (.deferred none)
    have HF := Lib.hid (AnTo.after HB2.out (hi.2.2.grown hh (fun r e => by cases e; exact ⟨hD, _, hK, rfl⟩) HZ.out))
    clear hh
    gi_wp2
    refine ⟨by simp, .inl ⟨_, _, rfl, run_takeDeferred hK, ?_⟩⟩
    exact ⟨.tuple #[], by simp [results, Tryz.results10, go_sem], rfl, HF.out⟩
/-- Feed. -/
theorem an_feed (h : AnW w P G A) (hsm : SmallA A) (s : ByteArray) (hl : A.lost + s.size ≤ 90000) :
    Calls Tryz.prog 10 #[.pointer (some ⟨P.tp, 0, none⟩), .string s] w fun e w' => e = .returned (.tuple #[]) ∧ AnTo w w' P G (feedN A s.data.toList) :=
  callsIn_wide.1 (feed_in 3 (Nat.le_refl _) h hsm s hl)
end
end Go.Proofs.YtmgeghoalmonoaaGreatDoor
