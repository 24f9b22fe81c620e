import Derived.Test.YtmgeghoalmonoaaGreatDoorAnL
import Derived.Test.YtmgeghoalmonoaaGreatDoorRM
import Derived.Test.YtmgeghoalmonoaaGreatDoorRK
import Derived.Test.YtmgeghoalmonoaaGreatDoorRN
import Derived.Test.YtmgeghoalmonoaaGreatDoorRF

set_option maxRecDepth 100000
set_option maxHeartbeats 16000000
namespace Go.Proofs.YtmgeghoalmonoaaGreatDoor
open Go.RowKit
set_option linter.unusedSimpArgs false
set_option linter.unusedVariables false
/- Walks of ANSI.SYS: Feed. -/
section
set_option maxRecDepth 100000
attribute [local go_sem] alloc_drewN setCell_drewN World.cell?_alloc_some frozen_alloc_some pos_f1 Oper.semAt_some
section
variable {w : World} {P : Pt} {G : Nat → Prop} {A : An}
def FeedI (w2 : World) (P : Pt) (G : Nat → Prop) (A : An) (s : ByteArray) (tb Bc : Nat) (pre : List UInt8) (W : World) : Prop :=
 Boxed W tb 32 (.pointer (some ⟨P.tp, 0, none⟩)) ∧ Boxed W Bc 9 (.string s) ∧ AnTo w2 W P G (feedN A pre)
theorem feedI_own {w2 : World} {s : ByteArray} {tb Bc : Nat} (h1 : tb < w2.heap.size) (h2 : Bc < w2.heap.size) (hz : 0 < w2.heap.size) : OwnL w2.heap.size (FeedI w2 P G A s tb Bc) := by
 rintro pre X Y row ⟨a1, a2, a3⟩ hg hr
 have key : ∀ k, k < w2.heap.size → Y.heap[k]? = X.heap[k]? := fun k hk => hg.block k (Nat.lt_of_lt_of_le hk a3.2.size) (fun e => by have := (hr k e.symm).1; omega)
 exact ⟨(key tb h1).trans a1, (key Bc h2).trans a2, a3.grown hg hr hz⟩
theorem feed_next {w2 W : World} {s : ByteArray} {tb Bc : Nat} {pre : List UInt8} (hG : ∀ k, G k → k < tb) (htb : tb < Bc) (hBc : Bc < w2.heap.size) (hi : FeedI w2 P G A s tb Bc pre W) (x : UInt8) :
 ∃ G1, AnW W P G1 (feedN A pre) ∧ (¬ G1 tb ∧ ¬ G1 Bc) ∧ ∀ W', AnTo W W' P G1 (takeN (feedN A pre) x) → KeepsL w2.heap.size W W' ∧ KeptB Bc W W' ∧ FeedI w2 P G A s tb Bc (pre ++ [x]) W' := by
 obtain ⟨a1, a2, ⟨⟨G1, h1, hg1⟩, hk1⟩⟩ := hi
 have n1 : ¬ G1 tb := fun e => by
  rcases hg1 _ e with e | e
  · have := hG _ e; omega
  · omega
 have n2 : ¬ G1 Bc := fun e => by
  rcases hg1 _ e with e | e
  · have := hG _ e; omega
  · omega
 refine ⟨G1, h1, ⟨n1, n2⟩, fun W' ht => ⟨ht.books h1 _, ht.2.block _ a2.lt n2, (ht.2.block _ a1.lt n1).trans a1, (ht.2.block _ a2.lt n2).trans a2, ?_⟩⟩
 rw [feedN_snoc]
 exact AnTo.link hg1 hk1 ht
theorem feed_in (n : Nat) (hn : 3 ≤ n) (h : AnW w P G A) (hsm : SmallA A) (s : ByteArray) (hl : A.lost + s.size ≤ 90000) :
 CallsIn Fence.wide n Tryz.prog 10 #[.pointer (some ⟨P.tp, 0, none⟩), .string s] w fun e w' => e = .returned (.tuple #[]) ∧ AnTo w w' P G (feedN A s.data.toList) := by
 have h1 : 1 ≤ n := by omega
 have H := Lib.hid h
 have HSM := Lib.hid hsm
 have HL := Lib.hid hl
 clear h hsm hl
 refine callsIn_of_wp_marks Tryz.func10 rfl trivial ?_ rfl
 simp only [Tryz.ntmps10, List.size_toArray, List.length_cons, List.length_nil, Nat.reduceAdd, Nat.reduceSub, Array.replicate_succ, Array.replicate_zero, List.push_toArray, List.append_toArray, List.nil_append, List.cons_append]
 gi_wp2_with (refine ⟨trivial, ?_⟩; gi_at_call 26; refine (countedN_in (n - 1) s _).mono ?_; rintro e w' ⟨rfl, rfl⟩)
 have hb2 : Below w.heap.size w ((w.alloc (.cells #[.pointer (some ⟨P.tp, 0, none⟩)] 32)).alloc (.cells #[.string s] 9)) := (below1 w _).alloc (by simp) _
 have bT : Boxed ((w.alloc (.cells #[.pointer (some ⟨P.tp, 0, none⟩)] 32)).alloc (.cells #[.string s] 9)) w.heap.size 32 (.pointer (some ⟨P.tp, 0, none⟩)) := (Boxed.new w _ _).alloc _
 have bC := Boxed.new (w.alloc (.cells #[.pointer (some ⟨P.tp, 0, none⟩)] 32)) 9 (.string s)
 rw [World.size_alloc] at bC
 have hsz : ((w.alloc (.cells #[.pointer (some ⟨P.tp, 0, none⟩)] 32)).alloc (.cells #[.string s] 9)).heap.size = w.heap.size + 1 + 1 := by rw [World.size_alloc, World.size_alloc]
 generalize (w.alloc (.cells #[.pointer (some ⟨P.tp, 0, none⟩)] 32)).alloc (.cells #[.string s] 9) = w2 at *
 have HB2 := Lib.hid hb2
 have HZ : Hid (0 < w2.heap.size) := by
  show _ < _
  have := H.out.blk.lt
  have := hb2.size
  omega
 have HI0 : Hid (FeedI w2 P G A s w.heap.size (w.heap.size + 1) [] w2) := ⟨bT, bC, AnTo.refl (H.out.below hb2)⟩
 have HGL : Hid (∀ k, G k → k < w.heap.size) := H.out.lt
 have HS3 : Hid (w.heap.size < w2.heap.size ∧ w.heap.size + 1 < w2.heap.size) := ⟨by omega, by omega⟩
 refine wpIn_rangeFunc_L rfl h1 (gf := 45) (lb := #[.pointer (some ⟨w.heap.size + 1, 0, none⟩)]) rfl trivial (enters_of Tryz.func45 (by kernel_rfl) rfl)
  (countedN_stops (n - 1) (by omega) (w.heap.size + 1) s (by have := HL.out; omega) w2 bC) (fun h k => k.trans h) (fun W l o o' hl _ _ => World.putObj_heap_other (by omega)) (Below.refl _ _) (fun _ => rfl)
  (FeedI w2 P G A s w.heap.size (w.heap.size + 1)) (feedI_own HS3.out.1 HS3.out.2 HZ.out) HI0.out
  (fun x => { tmps := #[.pointer (some ⟨P.tp, 0, none⟩), .string s, .pointer (some ⟨w.heap.size, 0, none⟩), undef, .int .u8 (x.toNat : Int), .pointer (some ⟨P.tp, 0, none⟩), .bool false, .string s, .func (.func 45) #[] #[.pointer (some ⟨w.heap.size + 1, 0, none⟩)], .int .u8 (x.toNat : Int), undef, undef, undef, undef, undef, undef, undef, undef, undef, undef, undef, undef, undef, undef, undef, undef, undef, undef, undef, undef, undef, undef, undef, undef, undef, undef, undef, undef, undef, undef, undef, undef, undef, undef, undef, undef, undef], defers := [] }) ?assign ?body ?done
 case assign =>
  intro l x W K hK
  gi_wp2
  exact hK
 case body =>
  rintro l pre x W hi hpre
  clear hsz bT bC hb2
  have hc91 : ((⟨#[27, 91]⟩ : ByteArray)[1]'(by decide)).toNat = 91 := rfl
  obtain ⟨G1, hA1, hn1, hnext⟩ := feed_next HGL.out (show w.heap.size < w.heap.size + 1 by omega) HS3.out.2 hi x
  have hlen : pre.length ≤ s.size := by have := hpre.length_le; simp at this; have e : s.data.toList.length = s.size := rfl; omega
  have hd := feedN_dims pre A
  have HSM1 : Hid (SmallA (feedN A pre)) := ⟨by rw [hd.1.1]; exact HSM.out.1, by rw [hd.1.2]; exact HSM.out.2⟩
  have HL1 : Hid ((feedN A pre).lost ≤ 90000) := by show _ ≤ _; have := hd.2; have := HL.out; omega
  have HNX := Lib.hid hnext
  have HBT := Lib.hid hi.1
  clear hnext hd hlen hpre hi
  generalize feedN A pre = A1 at hA1 HNX HSM1 HL1
  have HA1 := Lib.hid hA1
  have HN1 := Lib.hid hn1
  have b0 := HBT.out.cell
  obtain ⟨⟨_, _, _, _, _, _, _, t7, _⟩, _, _, _, _, f7, _⟩ := hA1.cells
  clear hA1 hn1
  by_cases h27 : x = 27
  · have e27 : ((x.toNat : Int) == 27) = true := by rw [h27]; rfl
    have HDR := Lib.hid (an_drop HA1.out)
    have HTK : Hid (takeN A1 x = { dropN A1 with st := 1 }) := by show takeN A1 x = _; unfold takeN; rw [if_pos h27]
    clear h27
    gi_wp2_with (refine ⟨trivial, (fun h => by cases h), ?_⟩; gi_at_call 19; refine (CallsIn.inRound l (callsIn_wide.2 HDR.out)).mono ?_; rintro e w3 ⟨rfl, ht⟩; obtain ⟨⟨G3, h3, hg3⟩, hk3⟩ := ht; have H3 := Lib.hid h3; have HG3 := Lib.hid hg3; have HK3 := Lib.hid hk3; have c0 : w3.cell? ⟨w.heap.size, 0, none⟩ = some (.pointer (some ⟨P.tp, 0, none⟩)) := Boxed.cell ((hk3.block _ HBT.out.lt HN1.out.1).trans HBT.out); obtain ⟨⟨_, _, _, _, _, _, _, s7, _⟩, _, _, _, _, g7, _⟩ := h3.cells; clear h3 hg3 hk3)
    exact HNX.out _ (by rw [HTK.out]; exact AnTo.link HG3.out HK3.out (H3.out.state 1))
  have e27 : ((x.toNat : Int) == 27) = false := beq_eq_false_iff_ne.2 (fun e => h27 (UInt8.toNat_inj.1 (by exact Int.ofNat_inj.1 e)))
  by_cases h91 : A1.st = 1 ∧ x = 91
  · have e1 : (A1.st == 1) = true := by rw [h91.1]; rfl
    have e91 : ((x.toNat : Int) == 91) = true := by rw [h91.2]; rfl
    have HTK : Hid (takeN A1 x = { A1 with st := 2 }) := by show takeN A1 x = _; unfold takeN; rw [if_neg h27, if_pos h91]
    clear h27 h91
    gi_wp2
    exact HNX.out _ (by rw [HTK.out]; exact HA1.out.state 2)
  by_cases h2 : A1.st = 2
  · have e1 : (A1.st == 1) = false := by rw [h2]; rfl
    have e2 : (A1.st == 2) = true := by rw [h2]; rfl
    have HTK : Hid (takeN A1 x = seqN A1 x) := by show takeN A1 x = _; unfold takeN; rw [if_neg h27, if_neg h91, if_pos h2]
    have HSQ := Lib.hid (an_seq HA1.out HSM1.out HL1.out x)
    clear h27 h91 h2
    gi_wp2_with (refine ⟨trivial, (fun h => by cases h), ?_⟩; gi_at_call 27; refine (CallsIn.inRound l (callsIn_wide.2 HSQ.out)).mono ?_; rintro e w3 ⟨rfl, ht⟩; have HT := Lib.hid ht; clear ht)
    exact HNX.out _ (by rw [HTK.out]; exact HT.out)
  · have e2 : (A1.st == 2) = false := beq_eq_false_iff_ne.2 h2
    have HTK : Hid (takeN A1 x = plainN { A1 with st := 0 } x) := by show takeN A1 x = _; unfold takeN; rw [if_neg h27, if_neg h91, if_neg h2]
    obtain ⟨⟨G3, h3, hg3⟩, hk3⟩ := HA1.out.state 0
    have HPL := Lib.hid (an_plain h3 x)
    have HG3 := Lib.hid hg3
    have HK3 := Lib.hid hk3
    clear h3 hg3 hk3
    by_cases hs1 : A1.st = 1
    · have e1 : (A1.st == 1) = true := beq_iff_eq.2 hs1
      have e91 : ((x.toNat : Int) == 91) = false := beq_eq_false_iff_ne.2 (fun e => h91 ⟨hs1, UInt8.toNat_inj.1 (Int.ofNat_inj.1 e)⟩)
      clear h27 h91 h2 hs1
      gi_wp2_with (refine ⟨trivial, (fun h => by cases h), ?_⟩; gi_at_call 28; refine (CallsIn.inRound l (callsIn_wide.2 HPL.out)).mono ?_; rintro e w3 ⟨rfl, ht⟩; have HT := Lib.hid ht; clear ht)
      exact HNX.out _ (by rw [HTK.out]; exact AnTo.link HG3.out HK3.out HT.out)
    · have e1 : (A1.st == 1) = false := beq_eq_false_iff_ne.2 hs1
      clear h27 h91 h2 hs1
      gi_wp2_with (refine ⟨trivial, (fun h => by cases h), ?_⟩; gi_at_call 28; refine (CallsIn.inRound l (callsIn_wide.2 HPL.out)).mono ?_; rintro e w3 ⟨rfl, ht⟩; have HT := Lib.hid ht; clear ht)
      exact HNX.out _ (by rw [HTK.out]; exact AnTo.link HG3.out HK3.out HT.out)
 case done =>
  rintro D xs W hD rfl hi hK
  have hh := grownBy_putObj' W D (.deferred none)
  have HF := Lib.hid (AnTo.after HB2.out (hi.2.2.grown hh (fun r e => by cases e; exact ⟨hD, _, hK, rfl⟩) HZ.out))
  clear hh
  gi_wp2
  refine ⟨by simp, .inl ⟨_, _, rfl, run_takeDeferred hK, ?_⟩⟩
  exact ⟨.tuple #[], by simp [results, Tryz.results10, go_sem], rfl, HF.out⟩
theorem an_feed (h : AnW w P G A) (hsm : SmallA A) (s : ByteArray) (hl : A.lost + s.size ≤ 90000) :
 Calls Tryz.prog 10 #[.pointer (some ⟨P.tp, 0, none⟩), .string s] w fun e w' => e = .returned (.tuple #[]) ∧ AnTo w w' P G (feedN A s.data.toList) :=
 callsIn_wide.1 (feed_in 3 (Nat.le_refl _) h hsm s hl)
end
end
section
set_option maxRecDepth 100000
attribute [local go_sem] alloc_drewN setCell_drewN World.cell?_alloc_some frozen_alloc_some pos_f1
theorem an_on {w : World} {sp qp lb fr M : Nat} {F : Nat → Prop} {S : Vz.Sr} {q : List UInt8} {over : Bool} (hs : Scr w sp F S) (hq : QueAt w qp lb fr M q over) (h1 : ¬ F qp) (h2 : ¬ F lb) (h3 : qp ≠ 0) (h4 : lb ≠ 0) :
 Calls Tryz.prog 20 #[.pointer (some ⟨sp, 0, none⟩), .pointer (some ⟨qp, 0, none⟩)] w fun e w' => ∃ P G, (P.sp = sp ∧ P.qp = qp ∧ P.lb = lb) ∧ e = .returned (.tuple #[.pointer (some ⟨P.tp, 0, none⟩), .int .i64 0]) ∧ AnW w' P G ⟨S, q, over, M, 0, true, ⟨0, 0⟩, 0, [], 0, 0⟩ ∧ (∀ k, G k → F k ∨ k = qp ∨ k = lb ∨ w.heap.size ≤ k) ∧ Below w.heap.size w w' := by
 have HK := Lib.hid (knew_ok w)
 have HSC := Lib.hid hs
 have HQ := Lib.hid hq
 clear hs hq
 go_enter Tryz.func20, Tryz.ntmps20
 go_wp2_with (first | (go_at_call 35; refine HK.out.mono ?_; rintro e w1 ⟨rfl, hk1, hb1⟩; have HK1 := Lib.hid hk1; have HB1 := Lib.hid hb1; clear hk1 hb1) | (go_at_call 36; refine (new_ok 61 (by decide) (by decide) _).mono ?_; rintro e w2 ⟨rfl, rfl⟩))
 go_ret2
 have hkl := HK1.out.lt
 have hsz : (w1.alloc (.cells #[.slice none 0 0, .int .i64 61, .int .i64 0] 122)).heap.size = w1.heap.size + 1 := World.size_alloc _ _
 have hb4 : Below w1.heap.size w1 ((w1.alloc (.cells #[.slice none 0 0, .int .i64 61, .int .i64 0] 122)).alloc (.cells (anC ⟨w1.heap.size + 1, sp, qp, lb, w.heap.size + 1, w.heap.size, w1.heap.size⟩ ⟨S, q, over, M, 0, true, ⟨0, 0⟩, 0, [], 0, 0⟩) 78)) := (below1 w1 _).alloc (by simp) _
 have hbw := HB1.out.trans (hb4.mono HB1.out.size)
 have key : ∀ i k, ownA ⟨w1.heap.size + 1, sp, qp, lb, w.heap.size + 1, w.heap.size, w1.heap.size⟩ F (.slice none 0 0) i k → (i = 0 ∧ k = w1.heap.size + 1) ∨ (i = 1 ∧ F k ∧ k < w.heap.size) ∨ (i = 2 ∧ ¬ F k ∧ k < w.heap.size) ∨ (i = 3 ∧ w.heap.size ≤ k ∧ k < w1.heap.size) ∨ (i = 4 ∧ k = w1.heap.size) := by
  rintro i k (⟨rfl, rfl⟩ | ⟨rfl, hk⟩ | ⟨rfl, rfl | rfl⟩ | ⟨rfl, rfl | rfl⟩ | ⟨rfl, rfl | hk⟩)
  · exact .inl ⟨rfl, rfl⟩
  · exact .inr (.inl ⟨rfl, hk, HSC.out.lt k hk⟩)
  · exact .inr (.inr (.inl ⟨rfl, h1, HQ.out.lt.1⟩))
  · exact .inr (.inr (.inl ⟨rfl, h2, HQ.out.lt.2⟩))
  · exact .inr (.inr (.inr (.inl ⟨rfl, Nat.le_succ _, hkl.1⟩)))
  · exact .inr (.inr (.inr (.inl ⟨rfl, Nat.le_refl _, hkl.2⟩)))
  · exact .inr (.inr (.inr (.inr ⟨rfl, rfl⟩)))
  · simp [Value.ownBlock] at hk
 have hpos : 0 < w.heap.size := Nat.lt_of_le_of_lt (Nat.zero_le _) HSC.out.blk.1.lt
 have hbl : 0 < w.heap.size := HSC.out.blk.1.lt
 refine ⟨⟨w1.heap.size + 1, sp, qp, lb, w.heap.size + 1, w.heap.size, w1.heap.size⟩, _, ⟨rfl, rfl, rfl⟩, rfl, ⟨F, .slice none 0 0, ⟨?_, HSC.out.below hbw, ⟨fr, HQ.out.below hbw⟩, ⟨0, false, _, HK1.out.below hb4⟩, ⟨Nat.zero_le _, ?_, World.ownsRow_nil _ _ _ _⟩, Nat.zero_le _, ?_, ?_⟩, fun k => Iff.rfl⟩, ?_, hbw⟩
 · have := heap_alloc_new (w1.alloc (.cells #[.slice none 0 0, .int .i64 61, .int .i64 0] 122)) (.cells (anC ⟨w1.heap.size + 1, sp, qp, lb, w.heap.size + 1, w.heap.size, w1.heap.size⟩ ⟨S, q, over, M, 0, true, ⟨0, 0⟩, 0, [], 0, 0⟩) 78)
   rw [hsz] at this
   exact this
 · exact (Below.heap_alloc _ _ _ (by rw [hsz]; exact Nat.lt_succ_self _)).trans (heap_alloc_new w1 _)
 · intro i j k hi hj
   rcases key i k hi with ⟨a, b⟩ | ⟨a, b, c⟩ | ⟨a, b, c⟩ | ⟨a, b, c⟩ | ⟨a, b⟩ <;> rcases key j k hj with ⟨a', b'⟩ | ⟨a', b', c'⟩ | ⟨a', b', c'⟩ | ⟨a', b', c'⟩ | ⟨a', b'⟩ <;> first | omega | exact absurd b b' | exact absurd b' b
 · intro i k hi
   rcases hi with ⟨_, rfl⟩ | ⟨_, hk⟩ | ⟨_, rfl | rfl⟩ | ⟨_, rfl | rfl⟩ | ⟨_, rfl | hk⟩
   · show w1.heap.size + 1 ≠ _; omega
   · exact HSC.out.blk.2 k hk
   · exact h3
   · exact h4
   · show w.heap.size + 1 ≠ _; omega
   · show w.heap.size ≠ _; omega
   · show w1.heap.size ≠ _; omega
   · simp [Value.ownBlock] at hk
 · rintro k ⟨i, hi⟩
   rcases hi with ⟨_, rfl⟩ | ⟨_, hk⟩ | ⟨_, rfl | rfl⟩ | ⟨_, rfl | rfl⟩ | ⟨_, rfl | hk⟩
   · exact .inr (.inr (.inr (by show _ ≤ w1.heap.size + 1; omega)))
   · exact .inl hk
   · exact .inr (.inl rfl)
   · exact .inr (.inr (.inl rfl))
   · exact .inr (.inr (.inr (by show _ ≤ w.heap.size + 1; omega)))
   · exact .inr (.inr (.inr (Nat.le_refl _)))
   · exact .inr (.inr (.inr (by show _ ≤ w1.heap.size; omega)))
   · simp [Value.ownBlock] at hk
set_option maxRecDepth 100000
structure MadeA (w W : World) (b : Nat) (P : Pt) (G : Nat → Prop) (A : An) : Prop where
 an : AnW W P G A
 box : W.heap[b]? = some (.cells #[.pointer (some ⟨P.sp, 0, none⟩), .pointer (some ⟨P.qp, 0, none⟩), .pointer (some ⟨P.tp, 0, none⟩)] 34 (0, 0))
 nb : ¬ G b
 ge : w.heap.size ≤ b
 geG : ∀ k, G k → w.heap.size ≤ k
 bel : Below w.heap.size w W
theorem MadeA.to {w W W' : World} {b : Nat} {P : Pt} {G : Nat → Prop} {A A' : An} (h : MadeA w W b P G A) (ht : AnTo W W' P G A') : ∃ G', MadeA w W' b P G' A' := by
 obtain ⟨⟨G', h1, h2⟩, hk⟩ := ht
 have hlt := block_lt h.box
 have hsz := h.bel.size
 refine ⟨G', h1, (hk.block _ hlt h.nb).trans h.box, fun e => ?_, h.ge, fun k hk' => ?_, h.bel.trans (hk.below (fun k hk => h.geG k hk) hsz)⟩
 · rcases h2 _ e with e | e
   · exact h.nb e
   · omega
 · rcases h2 _ hk' with e | e
   · exact h.geG k e
   · omega
theorem MadeA.below {w W W' : World} {b : Nat} {P : Pt} {G : Nat → Prop} {A : An} (h : MadeA w W b P G A) (hb : Below W.heap.size W W') : MadeA w W' b P G A :=
 ⟨h.an.below hb, (hb.block _ (block_lt h.box)).trans h.box, h.nb, h.ge, h.geG, h.bel.trans (hb.mono h.bel.size)⟩
theorem made_ok (R C M : Nat) (hS : Vz.mayS R C = true) (h0 : 0 < M) (hM : M ≤ 4096) (w : World) (hbl : Blanked w) :
 Calls Tryz.prog 9 #[.int .i64 R, .int .i64 C, .int .i64 M] w fun e w' => ∃ b P G, e = .returned (.tuple #[.pointer (some ⟨b, 0, none⟩), .bool true]) ∧ MadeA w w' b P G (newN R C M) := by
 have HSN := Lib.hid (scr_new R C hS w hbl)
 have HQN := Lib.hid (fun W => que_new M h0 hM W)
 have hz : 0 < w.heap.size := hbl.lt
 have HZ := Lib.hid hz
 clear hbl hz hS h0 hM
 go_enter Tryz.func9, Tryz.ntmps9
 go_upto_region 3 with (first | (go_at_call 24; refine HSN.out.mono ?_; rintro e w1 ⟨sp, rfl, ⟨F, hs, hF⟩, hb1⟩; have HS1 := Lib.hid hs; have HF1 := Lib.hid hF; have HB1 := Lib.hid hb1; clear hs hF hb1) | (go_at_call 25; refine (HQN.out _).mono ?_; rintro e w2 ⟨rfl, hq, hb2⟩; have HQ2 := Lib.hid hq; have HB2 := Lib.hid hb2; clear hq hb2))
 have HS2 := Lib.hid (HS1.out.below HB2.out)
 have hon := an_on HS2.out HQ2.out (fun e => by have := HS1.out.lt _ e; omega) (fun e => by have := HS1.out.lt _ e; omega) (by have := HZ.out; have := HB1.out.size; omega) (by have := HZ.out; have := HB1.out.size; omega)
 have HON := Lib.hid hon
 clear hon
 go_wp2_with (go_at_call 20; refine HON.out.mono ?_; rintro e w3 ⟨P, G, ⟨rfl, e2, e3⟩, rfl, h3, hg3, hb3⟩; have H3 := Lib.hid h3; have HG3 := Lib.hid hg3; have HB3 := Lib.hid hb3; have HE := Lib.hid (And.intro e2 e3); clear h3 hg3 hb3 e2 e3)
 go_ret2
 have s1 := HB1.out.size
 have s2 := HB2.out.size
 have s3 := HB3.out.size
 refine ⟨w3.heap.size, P, G, rfl, H3.out.below (below1 w3 _), ?_, fun e => Nat.lt_irrefl _ (H3.out.lt _ e), by omega, fun k hk => ?_, ?_⟩
 · have := heap_alloc_new w3 (.cells #[.pointer (some ⟨P.sp, 0, none⟩), .pointer (some ⟨w1.heap.size + 1, 0, none⟩), .pointer (some ⟨P.tp, 0, none⟩)] 34)
   rw [HE.out.1]
   exact this
 · rcases HG3.out k hk with e | e | e | e
   · exact HF1.out k e
   · omega
   · omega
   · omega
 · exact ((HB1.out.trans (HB2.out.mono s1)).trans (HB3.out.mono (by omega))).alloc (by omega) _
end
section
set_option maxRecDepth 100000
attribute [local go_sem] alloc_drewN setCell_drewN World.cell?_alloc_some frozen_alloc_some pos_f1
section
variable {w W : World} {b : Nat} {P : Pt} {G : Nat → Prop} {A : An}
theorem MadeA.cells (h : MadeA w W b P G A) : W.cell? ⟨b, 0, none⟩ = some (.pointer (some ⟨P.sp, 0, none⟩)) ∧ W.cell? ⟨b, 1, none⟩ = some (.pointer (some ⟨P.qp, 0, none⟩)) ∧ W.cell? ⟨b, 2, none⟩ = some (.pointer (some ⟨P.tp, 0, none⟩)) := (row3c h.box).1
theorem made_feed (h : MadeA w W b P G A) (hsm : SmallA A) (s : ByteArray) (hl : A.lost + s.size ≤ 90000) : Calls Tryz.prog 10 #[.pointer (some ⟨P.tp, 0, none⟩), .string s] W fun e w' => e = .returned (.tuple #[]) ∧ ∃ G', MadeA w w' b P G' (feedN A s.data.toList) :=
 (an_feed h.an hsm s hl).mono fun e w' h' => ⟨h'.1, h.to h'.2⟩
theorem made_drain (h : MadeA w W b P G A) : Calls Tryz.prog 11 #[.pointer (some ⟨P.qp, 0, none⟩)] W fun e w' => e = .returned (.string ⟨A.q.toArray⟩) ∧ ∃ G', MadeA w w' b P G' { A with q := [], over := false } := by
 obtain ⟨⟨fr, hq⟩, hto⟩ := h.an.queTo
 exact (que_drain P.qp P.lb fr A.most A.q A.over W hq).mono fun e w' h' => ⟨h'.1, h.to (hto _ _ _ h'.2)⟩
theorem made_cursor (h : MadeA w W b P G A) : Calls Tryz.prog 13 #[.pointer (some ⟨P.sp, 0, none⟩)] W fun e w' => e = .returned (.tuple #[.agg #[.int .i64 A.S.pl.at_.row, .int .i64 A.S.pl.at_.col], .bool A.S.pl.pend]) ∧ Below W.heap.size W w' := by
 obtain ⟨F, hs⟩ := h.an.scr
 exact scr_cursor P.sp F A.S W hs
theorem made_at (h : MadeA w W b P G A) (p : Vz.Ps) (hP : p.inS A.S.D.R A.S.D.C) : Calls Tryz.prog 23 #[.pointer (some ⟨P.sp, 0, none⟩), .agg #[.int .i64 p.row, .int .i64 p.col]] W fun e w' => e = .returned (.tuple #[.agg #[.int .i32 (atD A.S.D p).g, .int .i64 (atD A.S.D p).a, .bool (atD A.S.D p).gd, .int .i64 (atD A.S.D p).m], .int .i64 0]) ∧ Below W.heap.size W w' := by
 obtain ⟨F, hs⟩ := h.an.scr
 exact scr_at P.sp F A.S p W hs hP
end
def wakeL : List UInt8 := [27, 91, 50, 59, 51, 72, 27, 91, 51, 49, 109, 120, 27, 91, 54, 110]
def wakeA : An := feedN (newN 10 20 10) wakeL
theorem wake_cell : (atD wakeA.S.D ⟨1, 2⟩).g = 120 ∧ (atD wakeA.S.D ⟨1, 2⟩).a = 320 ∧ (atD wakeA.S.D ⟨1, 2⟩).gd = false ∧ (atD wakeA.S.D ⟨1, 2⟩).m = 0 := by decide +kernel
theorem wake_q : wakeA.q = [27, 91, 50, 59, 52, 82] := by decide +kernel
theorem wake_dims : wakeA.S.D.R = 10 ∧ wakeA.S.D.C = 20 := by decide +kernel
theorem wake_at {w W : World} {b : Nat} {P : Pt} {G : Nat → Prop} (h : MadeA w W b P G wakeA) : Calls Tryz.prog 23 #[.pointer (some ⟨P.sp, 0, none⟩), .agg #[.int .i64 1, .int .i64 2]] W fun e w' => e = .returned (.tuple #[.agg #[.int .i32 120, .int .i64 320, .bool false, .int .i64 0], .int .i64 0]) ∧ Below W.heap.size W w' := by
 have hat := made_at h ⟨1, 2⟩ (by rw [wake_dims.1, wake_dims.2]; unfold Vz.Ps.inS; simp)
 rw [wake_cell.1, wake_cell.2.1, wake_cell.2.2.1, wake_cell.2.2.2] at hat
 exact hat
theorem run_eql_wake (w : World) : Sem.run Tryz.prog (binOp .eql 48 (.agg #[.int .i32 120, .int .i64 320, .bool false, .int .i64 0]) (.agg #[.int .i32 120, .int .i64 320, .bool false, .int .i64 0])) w = .ok (.bool true) w := by
 have h := run_eql_cell ⟨120, 320, false, 0⟩ ⟨120, 320, false, 0⟩ w
 rw [eqC_iff.2 rfl] at h
 exact h
attribute [local go_sem 3000] run_eql_wake
theorem awake_any (w : World) (hbl : Blanked w) : Calls Tryz.prog 8 #[] w fun e w' => e = .returned (.bool true) ∧ Below w.heap.size w w' := by
 have HN := Lib.hid (made_ok 10 20 10 (by decide) (by decide) (by decide) w hbl)
 clear hbl
 go_enter Tryz.func8, Tryz.ntmps8
 go_wp2_with (first
  | (go_at_call 9; refine HN.out.mono ?_; rintro e w1 ⟨wp, P, G, rfl, hm⟩; obtain ⟨c0, c1, c2⟩ := hm.cells; have HM1 := Lib.hid hm; clear hm)
  | (go_at_call 10; refine (made_feed HM1.out ⟨by decide, by decide⟩ ⟨wakeL.toArray⟩ (by decide)).mono ?_; rintro e w2 ⟨rfl, G2, hm⟩; clear c0 c1 c2; obtain ⟨c0, c1, c2⟩ := hm.cells; have HM2 : Hid (MadeA w w2 wp P G2 wakeA) := hm; clear hm)
  | (go_at_call 23; refine (wake_at HM2.out).mono ?_; rintro e w3 ⟨rfl, hb3⟩; have HM3 := Lib.hid ((HM2.out.below hb3).below (below1 w3 (.cells #[.int .i32 120, .int .i64 320, .bool false, .int .i64 0] 48))); obtain ⟨d0, d1, d2⟩ := HM3.out.cells; clear hb3)
  | (go_at_call 11; have hdr := made_drain HM3.out; rw [wake_q] at hdr; refine hdr.mono ?_; clear hdr; rintro e w4 ⟨rfl, G4, hm⟩; have HM4 := Lib.hid hm; clear hm))
 go_ret
 exact ⟨rfl, HM4.out.bel⟩
end
section
set_option maxRecDepth 100000
attribute [local go_sem] alloc_drewN setCell_drewN World.cell?_alloc_some frozen_alloc_some pos_f1
theorem on_nil_s (q : Option Addr) (w : World) : Calls Tryz.prog 20 #[.pointer none, .pointer q] w fun e w' => e = .returned (.tuple #[.pointer none, .int .i64 2]) ∧ w = w' := by
 go_enter Tryz.func20, Tryz.ntmps20
 go_wp2_with fail
 go_ret2
 exact ⟨rfl, rfl⟩
theorem on_nil_q (s : Addr) (w : World) : Calls Tryz.prog 20 #[.pointer (some s), .pointer none] w fun e w' => e = .returned (.tuple #[.pointer none, .int .i64 2]) ∧ w = w' := by
 go_enter Tryz.func20, Tryz.ntmps20
 go_wp2_with fail
 go_ret2
 exact ⟨rfl, rfl⟩
theorem on_bad (s q : Option Addr) (h : s = none ∨ q = none) (w : World) : Calls Tryz.prog 20 #[.pointer s, .pointer q] w fun e w' => e = .returned (.tuple #[.pointer none, .int .i64 2]) ∧ w = w' := by
 cases s with
 | none => exact on_nil_s q w
 | some s =>
   cases q with
   | none => exact on_nil_q s w
   | some q => rcases h with h | h <;> cases h
theorem feed_nil (s : ByteArray) (w : World) : Calls Tryz.prog 10 #[.pointer none, .string s] w fun e w' => e = .returned (.tuple #[]) ∧ Below w.heap.size w w' := by
 go_enter Tryz.func10, Tryz.ntmps10
 go_wp2_with fail
 exact bodyPost_ret (results_none rfl _ _ _) rfl ⟨rfl, below1 _ _⟩
theorem reset_nil (w : World) : Calls Tryz.prog 21 #[.pointer none] w fun e w' => e = .returned (.tuple #[]) ∧ w = w' := by
 go_enter Tryz.func21, Tryz.ntmps21
 go_wp2_with fail
 exact bodyPost_ret (results_none rfl _ _ _) rfl ⟨rfl, rfl⟩
theorem drop_nil (w : World) : Calls Tryz.prog 19 #[.pointer none] w fun e w' => e = .returned (.tuple #[]) ∧ w = w' := by
 go_enter Tryz.func19, Tryz.ntmps19
 go_wp2_with fail
 go_end0
 exact ⟨rfl, rfl⟩
theorem told_nil (e : Bool) (n : Int) (w : World) : Calls Tryz.prog 22 #[.pointer none, .agg #[.bool e, .int .i64 n]] w fun r w' => r = .returned (.tuple #[.string ⟨#[]⟩, .bool false]) ∧ Below w.heap.size w w' := by
 go_enter Tryz.func22, Tryz.ntmps22
 go_wp2_with fail
 go_ret2
 exact ⟨rfl, below1 _ _⟩
theorem used_nil (w : World) : Calls Tryz.prog 16 #[.pointer none] w fun e w' => e = .returned (.tuple #[.int .i64 0, .bool false]) ∧ w = w' := by
 go_enter Tryz.func16, Tryz.ntmps16
 go_wp2_with fail
 go_ret2
 exact ⟨rfl, rfl⟩
theorem pending_nil (w : World) : Calls Tryz.prog 17 #[.pointer none] w fun e w' => e = .returned (.string ⟨#[]⟩) ∧ w = w' := by
 go_enter Tryz.func17, Tryz.ntmps17
 go_wp2_with fail
 go_ret
 exact ⟨rfl, rfl⟩
theorem modes_nil (w : World) : Calls Tryz.prog 15 #[.pointer none] w fun e w' => e = .returned (.agg #[.int .i64 0, .bool false, .int .i64 0, .int .i64 0]) ∧ Below w.heap.size w w' := by
 have hx := heap_alloc_new w (.cells #[.int .i64 0, .bool false, .int .i64 0, .int .i64 0] 50)
 have x0 := cell_row hx 0
 have x1 := cell_row hx 1
 have x2 := cell_row hx 2
 have x3 := cell_row hx 3
 have g0 := frozen_row hx 0
 have g1 := frozen_row hx 1
 have g2 := frozen_row hx 2
 have g3 := frozen_row hx 3
 have HX := Lib.hid hx
 clear hx
 go_enter Tryz.func15, Tryz.ntmps15
 go_wp2_with fail
 exact bodyPost_ret (v := .agg #[.int .i64 0, .bool false, .int .i64 0, .int .i64 0]) (by simp [results, Tryz.results15, go_sem, x0, x1, x2, x3]) rfl ⟨rfl, below1 _ _⟩
end
end Go.Proofs.YtmgeghoalmonoaaGreatDoor
