import Derived.Test.YtmgeghoalmonoaaGreatDoorAnL
import Derived.Test.YtmgeghoalmonoaaGreatDoorPlainB
import Derived.Test.YtmgeghoalmonoaaGreatDoorTextPlain
import Derived.Test.YtmgeghoalmonoaaGreatDoorRF
import Derived.Test.YtmgeghoalmonoaaGreatDoorSF
import Derived.Test.YtmgeghoalmonoaaGreatDoorRL
import Derived.Test.YtmgeghoalmonoaaGreatDoorRC
import Derived.Test.YtmgeghoalmonoaaGreatDoorRM

set_option maxRecDepth 100000
set_option maxHeartbeats 16000000
namespace Go.Proofs.YtmgeghoalmonoaaGreatDoor
open Go.RowKit
set_option linter.unusedSimpArgs false
set_option linter.unusedVariables false
/- ANSI.SYS's bounds, in plain terms: attributes may be, no cell is guarded or marked; what sequences do exactly. -/
section
def OkC (c : Vz.Cl) : Prop := (0 ≤ c.a ∧ c.a ≤ 16383) ∧ c.gd = false ∧ c.m = 0
def OkD (D : Vz.Gd) : Prop := ∀ i j, OkC (D.X i j)
def OkA (M : Nat) (A : An) : Prop := A.most = M ∧ (0 ≤ A.attr ∧ A.attr ≤ 16383) ∧ OkD A.S.D
theorem okC_blank : OkC Vz.Cl.blank := ⟨⟨by decide, by decide⟩, rfl, rfl⟩
section
variable {D : Vz.Gd} {x c : Vz.Cl} {M : Nat} {A : An}
theorem OkD.roll (h : OkD D) (t b : Nat) (n : Int) (hx : OkC x) : OkD (D.roll t b n x) := by
 intro i j
 show OkC (match Vz.rollAt t b n i with | none => x | some k => D.X k j)
 split
 · exact hx
 · exact h _ _
theorem OkD.set (h : OkD D) (r k : Nat) (hx : OkC x) : OkD (D.set r k x) := by
 intro i j
 show OkC (if i = r ∧ j = k then x else D.X i j)
 split
 · exact hx
 · exact h _ _
theorem OkD.rise (h : OkD D) (b : Bool) (hx : OkC x) : OkD (riseD D b x) := by
 unfold riseD
 split
 · exact h.roll _ _ _ hx
 · exact h
theorem OkD.put (h : OkD D) (pl : Vz.Pl) (wrap : Int) (hc : OkC c) (hx : OkC x) : OkD (putD D pl c wrap x).1 := ((h.rise _ hx).set _ _ hc).rise _ hx
theorem OkD.turn (h : OkD D) (a b : Vz.Ps) {φ : Vz.Cl → Vz.Cl} (hp : ∀ x, OkC x → OkC (φ x)) : OkD (turnD D a b φ) := by
 intro i j
 show OkC (if within a b i j = true then φ (D.X i j) else D.X i j)
 split
 · exact hp _ (h _ _)
 · exact h _ _
theorem OkD.wipe (h : OkD D) (a b : Vz.Ps) (gd : Bool) (hc : OkC c) : OkD (wipeD D a b c gd) := by
 unfold wipeD
 split
 · exact h
 · refine h.turn _ _ fun x hx => ?_
   unfold wipeX
   split
   · exact hx
   · exact hc
theorem OkA.wipe (h : OkA M A) (p q : Vz.Ps) : OkA M (wipeN A p q A.attr) := ⟨h.1, h.2.1, h.2.2.wipe _ _ _ ⟨h.2.1, rfl, rfl⟩⟩
theorem okA_ite {e : Prop} [Decidable e] {x y : An} (h1 : OkA M x) (h2 : OkA M y) : OkA M (if e then x else y) := by
 by_cases h : e
 · rw [if_pos h]; exact h1
 · rw [if_neg h]; exact h2
theorem OkA.does (h : OkA M A) (b : UInt8) (l : List Int) : OkA M (doN A b l) := by
 have ha : OkA M { A with attr := applyN A.attr (l.map fun x => max x 0) } := by
  have := applyN_may A.attr (l.map fun x => max x 0)
  unfold Vz.MayP at this
  exact ⟨h.1, ⟨by show (0 : Int) ≤ ((applyN A.attr (l.map fun x => max x 0) : Nat) : Int); omega, by show ((applyN A.attr (l.map fun x => max x 0) : Nat) : Int) ≤ 16383; omega⟩, h.2.2⟩
 exact okA_ite h (okA_ite h (okA_ite h (okA_ite h (okA_ite h (okA_ite (okA_ite (h.wipe _ _) h) (okA_ite (h.wipe _ _) (okA_ite ha (okA_ite h (okA_ite h (okA_ite (okA_ite h h) h))))))))))
theorem OkA.ends (h : OkA M A) (b : UInt8) (s : List UInt8) : OkA M (endN A b s) := okA_ite (okA_ite h h) (okA_ite (okA_ite h h) (okA_ite h (okA_ite (h.does _ _) h)))
theorem OkA.body (h : OkA M A) (b : UInt8) : OkA M (bodyN A b) := okA_ite h h
theorem OkA.seq (h : OkA M A) (b : UInt8) : OkA M (seqN A b) := okA_ite (OkA.body (A := if b = A.quo then { A with quo := 0 } else A) (okA_ite (x := { A with quo := 0 }) h h) b) (okA_ite (OkA.body (A := { A with quo := b }) h b) (okA_ite (okA_ite h (OkA.ends (A := dropN A) h b _)) (h.body b)))
theorem OkA.plain (h : OkA M A) (b : UInt8) : OkA M (plainN A b) :=
 okA_ite h (okA_ite h (okA_ite h (okA_ite ⟨h.1, h.2.1, h.2.2.roll _ _ _ okC_blank⟩ (okA_ite h (okA_ite h ⟨h.1, h.2.1, h.2.2.put _ _ ⟨h.2.1, rfl, rfl⟩ okC_blank⟩)))))
theorem OkA.take (h : OkA M A) (b : UInt8) : OkA M (takeN A b) := okA_ite h (okA_ite h (okA_ite (h.seq b) (OkA.plain (A := { A with st := 0 }) h b)))
theorem OkA.feed (l : List UInt8) : ∀ A, OkA M A → OkA M (feedN A l) := by
 induction l with
 | nil => exact fun A h => h
 | cons b l ih => exact fun A h => ih _ (h.take b)
theorem OkA.new (R C : Nat) : OkA M (newN R C M) := ⟨rfl, ⟨Int.le_refl _, by show (0 : Int) ≤ 16383; decide⟩, fun _ _ => okC_blank⟩
end
def BodB (x : UInt8) : Prop := 48 ≤ x.toNat ∧ x.toNat ≤ 59
theorem digit_bod {x : UInt8} (h : Vz.digitB x) : BodB x := by unfold Vz.digitB at h; unfold BodB; omega
theorem take_bod {A : An} {x : UInt8} (h1 : A.st = 2) (h2 : A.quo = 0) (h3 : A.body.length < 61) (hx : BodB x) : takeN A x = { A with body := A.body ++ [x] } := by
 unfold BodB at hx
 have n1 : ¬ x = 27 := fun e => by rw [e] at hx; exact absurd hx.1 (by decide)
 have n2 : ¬ x = 34 := fun e => by rw [e] at hx; exact absurd hx.1 (by decide)
 have n3 : ¬ x = 39 := fun e => by rw [e] at hx; exact absurd hx.1 (by decide)
 unfold takeN
 rw [if_neg n1, if_neg (fun e => by rw [h1] at e; exact absurd e.1 (by decide)), if_pos h1]
 unfold seqN
 rw [if_neg (not_not_intro h2), if_neg (fun e => e.elim n2 n3), if_neg (by omega)]
 unfold bodyN
 rw [if_pos h3]
theorem feed_bod : ∀ (l : List UInt8) (A : An), A.st = 2 → A.quo = 0 → A.body.length + l.length ≤ 61 → (∀ x ∈ l, BodB x) → feedN A l = { A with body := A.body ++ l }
 | [], A, _, _, _, _ => by rw [List.append_nil]; rfl
 | x :: l, A, h1, h2, h3, hx => by
   rw [List.length_cons] at h3
   show feedN (takeN A x) l = _
   rw [take_bod h1 h2 (by omega) (hx x (List.mem_cons_self ..)), feed_bod l { A with body := A.body ++ [x] } h1 h2 (by show (A.body ++ [x]).length + _ ≤ _; rw [List.length_append, List.length_singleton]; omega) fun y hy => hx y (List.mem_cons_of_mem _ hy)]
   show { A with body := A.body ++ [x] ++ l } = { A with body := A.body ++ x :: l }
   rw [List.append_assoc]; rfl
theorem take_fin {A : An} {b : UInt8} (h1 : A.st = 2) (h2 : A.quo = 0) (h3 : A.lost = 0) (hb : 64 ≤ b.toNat ∧ b.toNat ≤ 126) : takeN A b = endN (dropN A) b A.body := by
 have n1 : ¬ b = 27 := fun e => by rw [e] at hb; exact absurd hb.1 (by decide)
 have n2 : ¬ b = 34 := fun e => by rw [e] at hb; exact absurd hb.1 (by decide)
 have n3 : ¬ b = 39 := fun e => by rw [e] at hb; exact absurd hb.1 (by decide)
 unfold takeN
 rw [if_neg n1, if_neg (fun e => by rw [h1] at e; exact absurd e.1 (by decide)), if_pos h1]
 unfold seqN
 rw [if_neg (not_not_intro h2), if_neg (fun e => e.elim n2 n3), if_pos hb, if_neg (by omega)]
theorem feed_seq (A : An) (s : List UInt8) (b : UInt8) (hs : ∀ x ∈ s, BodB x) (hl : s.length ≤ 61) (hb : 64 ≤ b.toNat ∧ b.toNat ≤ 126) : feedN A (27 :: 91 :: (s ++ [b])) = endN (dropN A) b s := by
 have e1 : feedN A (27 :: 91 :: (s ++ [b])) = feedN { dropN A with st := 2 } (s ++ [b]) := rfl
 rw [e1, feedN_append, feed_bod s { dropN A with st := 2 } rfl rfl (by show 0 + s.length ≤ 61; omega) hs]
 exact take_fin (A := { { dropN A with st := 2 } with body := [] ++ s }) rfl rfl rfl hb
end
section
theorem nums_two (a b : Nat) (ha : a ≤ 9999) (hb : b ≤ 9999) : Vz.numbers (Vz.digN a ++ 59 :: Vz.digN b) = ([(a : Int), (b : Int)], true) := by
 rw [Vz.numbers_join _ _ (Vz.digN_ne a) (Vz.digN_ne b), Vz.numbers_dig a ha, Vz.numbers_dig b hb]; rfl
theorem end_do (A : An) (b : UInt8) (s : List UInt8) (l : List Int) (h1 : ¬ b = 104) (h2 : ¬ b = 108) (h3 : ¬ b = 112) (hn : Vz.numbers s = (l, true)) : endN A b s = doN A b l := by
 unfold endN
 rw [if_neg h1, if_neg h2, if_neg h3, hn]
 exact if_pos rfl
theorem dig_bod (n : Nat) (h : n ≤ 9999) : ∀ x ∈ Vz.digN n, BodB x := fun x hx => digit_bod ((Vz.digN_num 4 n h (by omega)).1 x hx)
def goTo (A : An) (a b : Nat) : An := moveN (dropN A) ⟨(a : Int) - 1, (b : Int) - 1⟩
theorem do_goto (A : An) (a b : Nat) (ha : 1 ≤ a) (hb : 1 ≤ b) : doN (dropN A) 72 [(a : Int), (b : Int)] = goTo A a b := by
 have h1 : max (orN [(a : Int), (b : Int)] 0 1) 1 = (a : Int) := by unfold orN; simp; omega
 have h2 : max (orN [(a : Int), (b : Int)] 1 1) 1 = (b : Int) := by unfold orN; simp; omega
 unfold doN goTo
 rw [if_neg (by decide), if_neg (by decide), if_neg (by decide), if_neg (by decide), if_pos (by decide), h1, h2]
theorem place_feed (A : An) (a b : Nat) (ha : 1 ≤ a ∧ a ≤ 9999) (hb : 1 ≤ b ∧ b ≤ 9999) : feedN A (27 :: 91 :: ((Vz.digN a ++ 59 :: Vz.digN b) ++ [72])) = goTo A a b := by
 have l1 := Vz.digN_len a ha.2
 have l2 := Vz.digN_len b hb.2
 rw [feed_seq A (Vz.digN a ++ 59 :: Vz.digN b) 72 ?_ (by rw [List.length_append, List.length_cons]; omega) (by decide), end_do _ _ _ _ (by decide) (by decide) (by decide) (nums_two a b ha.2 hb.2), do_goto A a b ha.1 hb.1]
 intro x hx
 rcases List.mem_append.1 hx with hx | hx
 · exact dig_bod a ha.2 x hx
 · rcases List.mem_cons.1 hx with rfl | hx
   · unfold BodB; decide
   · exact dig_bod b hb.2 x hx
theorem report_feed (A : An) : feedN A [27, 91, 54, 110] = pushN (dropN A) (replyN A.S.pl.at_.row A.S.pl.at_.col) := by
 rw [show ([27, 91, 54, 110] : List UInt8) = 27 :: 91 :: ([54] ++ [110]) from rfl, feed_seq A [54] 110 (by intro x hx; obtain rfl := List.mem_singleton.1 hx; unfold BodB; decide) (by decide) (by decide), end_do _ _ [54] [6] (by decide) (by decide) (by decide) (by decide)]
 rfl
theorem near_go (R C a b : Nat) (hm : Vz.mayS R C = true) (ha : 1 ≤ a) (hb : 1 ≤ b) : Vz.nearP R C ⟨(a : Int) - 1, (b : Int) - 1⟩ = ⟨min (a : Int) R - 1, min (b : Int) C - 1⟩ := by
 have hm' := (Vz.mayS_iff _ _).1 hm
 unfold Vz.nearP
 rw [if_pos hm]
 unfold Vz.nearI
 simp only [Vz.Ps.mk.injEq]
 omega
def askL (a b : Nat) : List UInt8 := 27 :: 91 :: ((Vz.digN a ++ 59 :: Vz.digN b) ++ [72]) ++ [27, 91, 54, 110]
def toldL (a b : Nat) : List UInt8 := [27, 91] ++ Vz.digN a ++ [59] ++ Vz.digN b ++ [82]
theorem ask_feed (A : An) (a b : Nat) (ha : 1 ≤ a ∧ a ≤ 9999) (hb : 1 ≤ b ∧ b ≤ 9999) (hm : Vz.mayS A.S.D.R A.S.D.C = true) (hq : A.q = []) (hM : A.most = 4096) :
 (feedN A (askL a b)).S.pl = ⟨⟨min (a : Int) A.S.D.R - 1, min (b : Int) A.S.D.C - 1⟩, false⟩ ∧ (feedN A (askL a b)).q = toldL (min a A.S.D.R) (min b A.S.D.C) ∧ (feedN A (askL a b)).lost = 0 := by
 have hn := near_go A.S.D.R A.S.D.C a b hm ha.1 hb.1
 have hm' := (Vz.mayS_iff _ _).1 hm
 unfold askL
 rw [feedN_append, place_feed A a b ha hb, report_feed]
 have hpl : (goTo A a b).S.pl = ⟨⟨min (a : Int) A.S.D.R - 1, min (b : Int) A.S.D.C - 1⟩, false⟩ := by
  show Vz.Pl.mk (Vz.nearP A.S.D.R A.S.D.C ⟨(a : Int) - 1, (b : Int) - 1⟩) false = _
  rw [hn]
 have hr : replyN (goTo A a b).S.pl.at_.row (goTo A a b).S.pl.at_.col = toldL (min a A.S.D.R) (min b A.S.D.C) := by
  rw [hpl]
  unfold replyN toldL Vz.digN
  rw [show (min (a : Int) A.S.D.R - 1 + 1).toNat = min a A.S.D.R by omega, show (min (b : Int) A.S.D.C - 1 + 1).toNat = min b A.S.D.C by omega]
 refine ⟨hpl, ?_, rfl⟩
 show pushQ A.most A.q (replyN (goTo A a b).S.pl.at_.row (goTo A a b).S.pl.at_.col) = _
 rw [hr, hq, hM]
 have l1 := Vz.digN_len (min a A.S.D.R) (by omega)
 have l2 := Vz.digN_len (min b A.S.D.C) (by omega)
 unfold pushQ
 rw [if_neg ?_, List.nil_append]
 unfold toldL
 simp only [List.length_append, List.length_cons, List.length_nil]
 omega
theorem save_feed (A : An) : feedN A [27, 91, 115] = { dropN A with sv := A.S.pl.at_ } := by
 rw [show ([27, 91, 115] : List UInt8) = 27 :: 91 :: ([] ++ [115]) from rfl, feed_seq A [] 115 (by intro x hx; cases hx) (by decide) (by decide), end_do _ _ [] [] (by decide) (by decide) (by decide) (by decide)]
 rfl
theorem back_feed (A : An) : feedN A [27, 91, 117] = moveN (dropN A) A.sv := by
 rw [show ([27, 91, 117] : List UInt8) = 27 :: 91 :: ([] ++ [117]) from rfl, feed_seq A [] 117 (by intro x hx; cases hx) (by decide) (by decide), end_do _ _ [] [] (by decide) (by decide) (by decide) (by decide)]
 rfl
def dirL : List UInt8 := [65, 66, 67, 68, 72]
def SvA (A A' : An) : Prop := A'.S.D = A.S.D ∧ A'.sv = A.sv ∧ A'.lost = 0
theorem do_move (A : An) (k : Nat) (hk : k < 5) (l : List Int) : SvA A (doN (dropN A) (dirL[k]'hk) l) := by
 match k, hk with
 | 0, _ => exact ⟨rfl, rfl, rfl⟩
 | 1, _ => exact ⟨rfl, rfl, rfl⟩
 | 2, _ => exact ⟨rfl, rfl, rfl⟩
 | 3, _ => exact ⟨rfl, rfl, rfl⟩
 | 4, _ => exact ⟨rfl, rfl, rfl⟩
theorem dir_bytes : ∀ i : Fin 5, ¬ dirL[i.1]'i.2 = 104 ∧ ¬ dirL[i.1]'i.2 = 108 ∧ ¬ dirL[i.1]'i.2 = 112 ∧ 64 ≤ (dirL[i.1]'i.2).toNat ∧ (dirL[i.1]'i.2).toNat ≤ 126 := by decide
theorem dir_byte (k : Nat) (hk : k < 5) : ¬ dirL[k]'hk = 104 ∧ ¬ dirL[k]'hk = 108 ∧ ¬ dirL[k]'hk = 112 ∧ 64 ≤ (dirL[k]'hk).toNat ∧ (dirL[k]'hk).toNat ≤ 126 := dir_bytes ⟨k, hk⟩
theorem move_feed (A : An) (k : Nat) (hk : k < 5) (n : Nat) (hn : n ≤ 9999) : SvA A (feedN A (27 :: 91 :: (Vz.digN n ++ [dirL[k]'hk]))) := by
 have l1 := Vz.digN_len n hn
 obtain ⟨b1, b2, b3, b4, b5⟩ := dir_byte k hk
 rw [feed_seq A (Vz.digN n) _ (dig_bod n hn) (by omega) ⟨b4, b5⟩, end_do _ _ _ _ b1 b2 b3 (Vz.numbers_dig n hn)]
 exact do_move A k hk _
end
section
attribute [local go_sem] alloc_drewN setCell_drewN World.cell?_alloc_some frozen_alloc_some
def smallS (r c : Int) : Bool := decide (1 ≤ r ∧ r ≤ 30 ∧ 1 ≤ c ∧ c ≤ 40)
theorem small_any (r c : Int) (w : World) : Calls Tryz.prog 7 #[.agg #[.int .i64 r, .int .i64 c]] w fun e w' => e = .returned (.bool (smallS r c)) ∧ Below w.heap.size w w' := by
 have hx := heap_alloc_new w (.cells #[.int .i64 r, .int .i64 c] 23)
 obtain ⟨x0, x1, g0, g1⟩ := row2 hx
 by_cases h1 : 1 ≤ r
 · by_cases h2 : r ≤ 30
   · by_cases h3 : 1 ≤ c
     · by_cases h4 : c ≤ 40
       · rw [show smallS r c = true by unfold smallS; simp; omega]
         clear hx
         go_enter Tryz.func7, Tryz.ntmps7
         go_wp2_with fail
         go_ret
         exact ⟨by simp [h1, h2, h3, h4], below1 _ _⟩
       · have h4' : 40 < c := by omega
         rw [show smallS r c = false by unfold smallS; simp; omega]
         clear hx
         go_enter Tryz.func7, Tryz.ntmps7
         go_wp2_with fail
         go_ret
         exact ⟨by simp [h1, h2, h3, h4], below1 _ _⟩
     · have h3' : c < 1 := by omega
       rw [show smallS r c = false by unfold smallS; simp; omega]
       clear hx
       go_enter Tryz.func7, Tryz.ntmps7
       go_wp2_with fail
       go_ret
       exact ⟨by simp [h1, h2, h3], below1 _ _⟩
   · have h2' : 30 < r := by omega
     rw [show smallS r c = false by unfold smallS; simp; omega]
     clear hx
     go_enter Tryz.func7, Tryz.ntmps7
     go_wp2_with fail
     go_ret
     exact ⟨by simp [h1, h2], below1 _ _⟩
 · have h1' : r < 1 := by omega
   rw [show smallS r c = false by unfold smallS; simp; omega]
   clear hx
   go_enter Tryz.func7, Tryz.ntmps7
   go_wp2_with fail
   go_ret
   exact ⟨by simp [h1], below1 _ _⟩
end
section
set_option maxRecDepth 100000
attribute [local go_sem] alloc_drewN setCell_drewN World.cell?_alloc_some frozen_alloc_some pos_f1
theorem ret_str {x y : ByteArray} (h : x = y) : Ending.returned (.string x) = .returned (.string y) := by rw [h]
section
variable {w W : World} {b : Nat} {P : Pt} {G : Nat → Prop} {A : An}
theorem an_modes (h : AnW w P G A) : Calls Tryz.prog 15 #[.pointer (some ⟨P.tp, 0, none⟩)] w fun e w' => e = .returned (.agg #[.int .i64 A.attr, .bool A.wrap, .int .i64 A.sv.row, .int .i64 A.sv.col]) ∧ Below w.heap.size w w' := by
 have hx := heap_alloc_new w (.cells #[.int .i64 0, .bool false, .int .i64 0, .int .i64 0] 50)
 have x0 := cell_row hx 0
 have x1 := cell_row hx 1
 have x2 := cell_row hx 2
 have x3 := cell_row hx 3
 have g0 := frozen_row hx 0
 have g1 := frozen_row hx 1
 have g2 := frozen_row hx 2
 have g3 := frozen_row hx 3
 obtain ⟨⟨t0, t1, t2, t3, t4, t5, t6, t7, t8, t9⟩, _⟩ := (h.below (below1 w (.cells #[.int .i64 0, .bool false, .int .i64 0, .int .i64 0] 50))).cells
 have HB := Lib.hid (below1 w (.cells #[.int .i64 0, .bool false, .int .i64 0, .int .i64 0] 50))
 have HX := Lib.hid hx
 clear hx h
 go_enter Tryz.func15, Tryz.ntmps15
 go_wp2_with fail
 refine bodyPost_ret (v := .agg #[.int .i64 A.attr, .bool A.wrap, .int .i64 A.sv.row, .int .i64 A.sv.col]) (by simp [results, Tryz.results15, go_sem, x0, x1, x2, x3]) rfl ⟨rfl, ?_⟩
 exact below1 _ _
theorem an_pending (h : AnW w P G A) : Calls Tryz.prog 17 #[.pointer (some ⟨P.tp, 0, none⟩)] w fun e w' => e = .returned (.string ⟨(pendN A).toArray⟩) ∧ w = w' := by
 have HBY := Lib.hid h.bytes.1
 obtain ⟨⟨t0, t1, t2, t3, t4, t5, t6, t7, t8, t9⟩, _⟩ := h.cells
 have hlen : A.body.length ≤ 61 := by obtain ⟨F, v, h, _⟩ := h; exact h.len
 have hz : (⟨A.body.toArray⟩ : ByteArray).size = A.body.length := by simp [ByteArray.size]
 clear h
 by_cases h0 : A.st = 0
 · have e0 : (A.st == 0) = true := by rw [h0]; rfl
   have HP : Hid (pendN A = []) := by show _ = _; unfold pendN; rw [if_pos h0]
   rw [HP.out]
   clear h0
   go_enter Tryz.func17, Tryz.ntmps17
   go_wp2_with fail
   go_ret
   exact ⟨rfl, rfl⟩
 have e0 : (A.st == 0) = false := beq_eq_false_iff_ne.2 h0
 by_cases h1 : A.st = 1
 · have e1 : (A.st == 1) = true := by rw [h1]; rfl
   have HP : Hid (pendN A = [27]) := by show _ = _; unfold pendN; rw [if_neg h0, if_pos h1]
   have hsl : ∀ W, Sem.run Tryz.prog (Instr.slice 9 (.string ⟨#[27, 91]⟩) none (some (.int .i64 1)) none) W = .ok (.string ⟨#[27]⟩) W := fun W => by kernel_rfl
   rw [HP.out]
   clear h0 h1
   go_enter Tryz.func17, Tryz.ntmps17
   go_wp2_with fail
   go_ret
   exact ⟨rfl, rfl⟩
 · have e1 : (A.st == 1) = false := beq_eq_false_iff_ne.2 h1
   have HP : Hid ((⟨#[27, 91]⟩ ++ ⟨A.body.toArray⟩ : ByteArray) = ⟨(pendN A).toArray⟩) := by
    show _ = _
    unfold pendN
    rw [if_neg h0, if_neg h1]
    apply ByteArray.ext
    rw [ByteArray.data_append]
    simp
   clear h0 h1
   go_enter Tryz.func17, Tryz.ntmps17
   go_wp2_with (go_at_call 33; refine HBY.out.mono ?_; rintro e w2 ⟨rfl, rfl⟩)
   go_ret
   exact ⟨ret_str HP.out, rfl⟩
theorem an_used (h : AnW w P G A) : Calls Tryz.prog 16 #[.pointer (some ⟨P.tp, 0, none⟩)] w fun e w' => ∃ (u : Nat) (o : Bool), u ≤ 4096 ∧ e = .returned (.tuple #[.int .i64 (u : Int), .bool o]) ∧ Below w.heap.size w w' := by
 obtain ⟨⟨t0, t1, t2, t3, t4, t5, t6, t7, t8, t9⟩, _⟩ := h.cells
 obtain ⟨F, v, h, _⟩ := h
 obtain ⟨u, o, D, hk⟩ := h.key
 have HU : Hid (∀ W : World, W.heap = w.heap → Calls Tryz.prog 31 #[.pointer (some ⟨P.kp, 0, none⟩)] W fun r w' => r = .returned (.int .i64 (u : Int)) ∧ w' = W) := fun W hW => (kused_ok P.kp P.mb u o D W (hk.of_blocks (by rw [hW]) (by rw [hW]))).mono fun r w' h => ⟨h.1, h.2.symm⟩
 have HO : Hid (∀ W : World, W.heap = w.heap → Calls Tryz.prog 32 #[.pointer (some ⟨P.kp, 0, none⟩)] W fun r w' => r = .returned (.bool o) ∧ w' = W) := fun W hW => (kover_ok P.kp P.mb u o D W (hk.of_blocks (by rw [hW]) (by rw [hW]))).mono fun r w' h => ⟨h.1, h.2.symm⟩
 have HLE := Lib.hid hk.le
 have HB : Hid (Below w.heap.size w w.drew) := (Below.refl _ _).drew
 have HC : Hid (∀ W : World, W.heap = w.heap → W.cell? ⟨P.tp, 2, none⟩ = some (.pointer (some ⟨P.kp, 0, none⟩))) := fun W hW => by
  have : W.cell? ⟨P.tp, 2, none⟩ = w.cell? ⟨P.tp, 2, none⟩ := World.cell?_of_block (by rw [hW])
  rw [this]; exact t2
 clear hk h
 go_enter Tryz.func16, Tryz.ntmps16
 go_upto_region 3 with fail
 refine wp_region_noPanic ?_
 refine wp_region_k (S := fun W : World => W.heap = w.heap) 999 (by kernel_rfl) ((rfl : w.drew.heap = w.heap)) (fun hHeld => ?_)
 refine kSK 0 hHeld ?_
 refine kSK 1 hHeld ?_
 refine kSK 2 hHeld ?_
 refine kHK (v := ?_) 3 hHeld ?y4 ?_
 case y4 => (intro W hSw; have q0 := HC.out _ hSw; go_simp; try with_reducible rfl)
 refine kSK 5 hHeld ?_
 try refine kNK ?_
 refine kSK 6 hHeld ?_
 refine kSK 7 hHeld ?_
 refine kHK (v := ?_) 8 hHeld ?y8 ?_
 case y8 => (intro W hSw; have q0 := HC.out _ hSw; go_simp; try with_reducible rfl)
 try refine kNK ?_
 refine kOK 4 fun KQ hKQ => ?_
 go_simp
 go_at_call 31
 refine (HU.out _ hHeld).mono ?_
 rintro e w4 ⟨rfl, rfl⟩
 go_wp2_with fail
 refine hKQ.out _ _ (hHeld) ?_
 clear hHeld hKQ KQ
 intro hHeld
 try refine kNK ?_
 refine kOK 9 fun KQ hKQ => ?_
 go_simp
 go_at_call 32
 refine (HO.out _ hHeld).mono ?_
 rintro e w9 ⟨rfl, rfl⟩
 go_wp2_with fail
 refine hKQ.out _ _ (hHeld) ?_
 clear hHeld hKQ KQ
 intro hHeld
 try refine kNK ?_
 refine kSK 10 hHeld ?_
 refine kSK 11 hHeld ?_
 try refine kNK ?_
 refine wpAnyK_done (by kernel_rfl) ?_ _
 refine NoPanic.normal ?_
 go_wp2_with fail
 go_ret2
 exact ⟨u, o, HLE.out, rfl, HB.out⟩
theorem que_len {qp lb fr M : Nat} {q : List UInt8} {over : Bool} (h : QueAt w qp lb fr M q over) : Calls Tryz.prog 18 #[.pointer (some ⟨qp, 0, none⟩)] w fun e w' => e = .returned (.int .i64 (q.length : Int)) ∧ w = w' := by
 have c0 := cell_row h.box 0
 have c1 := cell_row h.box 1
 have c2 := cell_row h.box 2
 have c3 := cell_row h.box 3
 clear h
 go_enter Tryz.func18, Tryz.ntmps18
 go_wp2_with fail
 go_ret
 exact ⟨rfl, rfl⟩
theorem made_modes (h : MadeA w W b P G A) : Calls Tryz.prog 15 #[.pointer (some ⟨P.tp, 0, none⟩)] W fun e w' => e = .returned (.agg #[.int .i64 A.attr, .bool A.wrap, .int .i64 A.sv.row, .int .i64 A.sv.col]) ∧ Below W.heap.size W w' := an_modes h.an
theorem made_pending (h : MadeA w W b P G A) : Calls Tryz.prog 17 #[.pointer (some ⟨P.tp, 0, none⟩)] W fun e w' => e = .returned (.string ⟨(pendN A).toArray⟩) ∧ W = w' := an_pending h.an
theorem made_used (h : MadeA w W b P G A) : Calls Tryz.prog 16 #[.pointer (some ⟨P.tp, 0, none⟩)] W fun e w' => ∃ (u : Nat) (o : Bool), u ≤ 4096 ∧ e = .returned (.tuple #[.int .i64 (u : Int), .bool o]) ∧ Below W.heap.size W w' := an_used h.an
theorem made_len (h : MadeA w W b P G A) : A.q.length ≤ A.most ∧ Calls Tryz.prog 18 #[.pointer (some ⟨P.qp, 0, none⟩)] W fun e w' => e = .returned (.int .i64 (A.q.length : Int)) ∧ W = w' := by
 obtain ⟨F, v, h, _⟩ := h.an
 obtain ⟨fr, hq⟩ := h.que
 exact ⟨hq.len, que_len hq⟩
theorem made_drop (h : MadeA w W b P G A) : Calls Tryz.prog 19 #[.pointer (some ⟨P.tp, 0, none⟩)] W fun e w' => e = .returned (.tuple #[]) ∧ ∃ G', MadeA w w' b P G' (dropN A) :=
 (an_drop h.an).mono fun e w' h' => ⟨h'.1, h.to h'.2⟩
theorem made_rows (h : MadeA w W b P G A) : Calls Tryz.prog 14 #[.pointer (some ⟨P.sp, 0, none⟩)] W fun e w' => ∃ OB G K, e = .returned (.slice (some ⟨OB, 0, none⟩) A.S.D.R A.S.D.R) ∧ RowsAt W.heap.size w' OB A.S.D G K ∧ Below W.heap.size W w' := by
 obtain ⟨F, hs⟩ := h.an.scr
 exact scr_rows P.sp F A.S W hs
theorem made_pend (h : MadeA w W b P G A) : (pendN A).length ≤ 63 := by
 obtain ⟨F, v, h, _⟩ := h.an
 have := h.len
 unfold pendN
 split
 · simp
 · split
   · simp
   · simp only [List.length_append, List.length_cons, List.length_nil]; omega
end
end
section
set_option maxRecDepth 100000
attribute [local go_sem] alloc_drewN setCell_drewN World.cell?_alloc_some frozen_alloc_some size_f0 size_f1
theorem conv_at {W : World} {g : Nat} (l : List UInt8) (h : W.heap[g]? = some (.cells (bytesV l).toArray 5 (0, 0))) : (convert 80 9 (.slice (some ⟨g, 0, none⟩) l.length l.length)).run Tryz.prog W = .ok (.string ⟨l.toArray⟩) W := by
 refine run_convert_bytes_back _ _ _ _ ⟨g, 0, none⟩ l.length l Tryz.underlying80 Tryz.underlying5 Tryz.underlying9 fun j hj => ?_
 rw [addr_add0, cell_row h]
 simp [bytesV, List.getElem?_eq_getElem hj]
def dgB (n : Nat) : ByteArray := ⟨(Vz.digN n).toArray⟩
theorem dgB_size (n : Nat) (h : n ≤ 9999) : (dgB n).size ≤ 5 := by show (Vz.digN n).toArray.size ≤ 5; simpa using Vz.digN_len n h
theorem dgB_big (n : Nat) (h : ¬ n < 10) : dgB n = dgB (n / 10) ++ ⟨[UInt8.ofNat (48 + n % 10)].toArray⟩ := by
 apply ByteArray.ext
 rw [ByteArray.data_append]
 unfold dgB
 rw [Vz.digN_big n h]
 simp
theorem numb_ok : ∀ (k n : Nat), n ≤ 9999 → n < 10 ^ (k + 1) → ∀ w : World,
 Calls Tryz.prog 12 #[.int .i64 (n : Int)] w fun e w' => e = .returned (.string (dgB n)) ∧ Below w.heap.size w w' := by
 intro k
 induction k with
 | zero =>
   intro n h9 h w
   have hs : n < 10 := by simpa using h
   obtain ⟨b, hb⟩ : ∃ b : UInt8, b = UInt8.ofNat (48 + n) := ⟨_, rfl⟩
   have hbn : (b.toNat : Int) = 48 + (n : Int) := by rw [hb, UInt8.toNat_ofNat']; omega
   have hd : dgB n = ⟨[b].toArray⟩ := by unfold dgB; rw [Vz.digN_small n hs, hb]
   have hcv : (convert 80 9 (.slice (some ⟨w.heap.size, 0, none⟩) 1 1)).run Tryz.prog (w.alloc (.cells #[.int .u8 (b.toNat : Int)] 5)) = .ok (.string (dgB n)) (w.alloc (.cells #[.int .u8 (b.toNat : Int)] 5)) := by
    rw [hd]
    exact conv_at (W := w.alloc (.cells #[.int .u8 (b.toNat : Int)] 5)) (g := w.heap.size) [b] (heap_alloc_new w _)
   have hz : (n : Int) < 10 := by omega
   have hw1 : IntKind.i64.wrap (48 + (n : Int)) = (b.toNat : Int) := by rw [wrap_in (by omega) (by omega), hbn]
   have hw2 : IntKind.u8.wrap (b.toNat : Int) = (b.toNat : Int) := by rw [hbn]; simp [IntKind.wrap, IntKind.bits, IntKind.signed]; omega
   have hlt : (b.toNat : Int) < 256 := by omega
   clear hd hb hbn h9 h
   go_enter Tryz.func12, Tryz.ntmps12
   go_wp2_with fail
   go_ret
   exact ⟨rfl, below1 _ _⟩
 | succ k ih =>
   intro n h9 h w
   by_cases hs : n < 10
   · exact ih n h9 (Nat.lt_of_lt_of_le (show n < 10 ^ 1 by omega) (Nat.pow_le_pow_right (by decide) (by omega))) w
   have HR : Hid (∀ W, Calls Tryz.prog 12 #[.int .i64 ((n / 10 : Nat) : Int)] W fun e w' => e = .returned (.string (dgB (n / 10))) ∧ Below W.heap.size W w') := fun W => ih (n / 10) (by omega) (by rw [Nat.pow_succ] at h; omega) W
   have hdb := dgB_big n hs
   have hz1 := dgB_size (n / 10) (by omega)
   obtain ⟨b, hb⟩ : ∃ b : UInt8, b = UInt8.ofNat (48 + n % 10) := ⟨_, rfl⟩
   have hbn : (b.toNat : Int) = 48 + ((n % 10 : Nat) : Int) := by rw [hb, UInt8.toNat_ofNat']; omega
   rw [← hb] at hdb
   have HD := Lib.hid hdb
   have hz2 : (⟨[b].toArray⟩ : ByteArray).size = 1 := rfl
   have hz : ¬ (n : Int) < 10 := by omega
   have hw0 : IntKind.i64.wrap ((n : Int) / 10) = ((n / 10 : Nat) : Int) := by rw [wrap_in (by omega) (by omega)]; omega
   have hw1 : IntKind.i64.wrap (48 + (n : Int).tmod 10) = (b.toNat : Int) := by
    have hm : (n : Int).tmod 10 = ((n % 10 : Nat) : Int) := rfl
    rw [hm, wrap_in (by omega) (by omega), hbn]
   have hw2 : IntKind.u8.wrap (b.toNat : Int) = (b.toNat : Int) := by rw [hbn]; simp [IntKind.wrap, IntKind.bits, IntKind.signed]; omega
   have hlt : (b.toNat : Int) < 256 := by omega
   generalize dgB (n / 10) = D1 at HR HD hz1
   have hz3 : ¬ 9223372036854775807 < D1.size + 1 := by omega
   clear hdb hb hbn h ih h9 hs
   have HB0 : Hid (Below w.heap.size w w.drew) := (Below.refl _ _).drew
   go_enter Tryz.func12, Tryz.ntmps12
   go_upto_region 3 with fail
   refine wp_region_noPanic ?_
   refine wp_region_k (S := fun W : World => Below w.heap.size w W) 2 (by kernel_rfl) (HB0.out) (fun hHeld => ?_)
   refine kSK 0 hHeld ?_
   refine kSK 1 hHeld ?_
   refine kSK 3 hHeld ?_
   refine kSK 4 hHeld ?_
   refine kSK 5 hHeld ?_
   try refine kNK ?_
   refine kSK 6 hHeld ?_
   try refine kNK ?_
   refine wpAnyK_ready (rs := [2, 7]) (by kernel_rfl) (by simp) ?_
   refine AllReadyK.free rfl (by kernel_rfl) (fun KQ hKQ => ?_) (AllReadyK.cons rfl (fun KQ hKQ => ?_) AllReadyK.nil)
   focus
    go_simp
    go_at_call 12
    refine (HR.out _).mono ?_
    rintro e w3 ⟨rfl, hb3⟩
    have hs3 := Below.later hHeld hb3 hHeld.size
    have HB3 := Lib.hid hs3
    first | (have hcv3 : (convert 80 9 (.slice (some ⟨w.heap.size, 0, none⟩) 1 1)).run Tryz.prog w3 = .ok (.string ⟨[b].toArray⟩) w3 := conv_at [b] ((hb3.block _ (block_lt HX7.out)).trans HX7.out)) | skip
    clear hb3
    go_wp2_with fail
    refine hKQ.out _ _ ?_
    clear hKQ KQ
    try refine kNK ?_
    clear hs3
    refine kPK 7 fun KQ hKQ => ?_
    go_simp
    skip
    refine hKQ.out _ _ ?_
    clear hKQ KQ
    try refine kNK ?_
    first | (have hcv : (convert 80 9 (.slice (some ⟨w3.heap.size, 0, none⟩) 1 1)).run Tryz.prog (w3.alloc (.cells #[.int .u8 (b.toNat : Int)] 5)) = .ok (.string ⟨[b].toArray⟩) (w3.alloc (.cells #[.int .u8 (b.toNat : Int)] 5)) := conv_at [b] (heap_alloc_new w3 _)) | (have HX7 : Hid ((w.alloc (.cells #[.int .u8 (b.toNat : Int)] 5)).drew.heap[w.heap.size]? = some (.cells #[.int .u8 (b.toNat : Int)] 5 (0, 0))) := heap_alloc_new w _; have hcv : (convert 80 9 (.slice (some ⟨w.heap.size, 0, none⟩) 1 1)).run Tryz.prog (w.alloc (.cells #[.int .u8 (b.toNat : Int)] 5)).drew = .ok (.string ⟨[b].toArray⟩) (w.alloc (.cells #[.int .u8 (b.toNat : Int)] 5)).drew := conv_at [b] HX7.out)
    refine kPK 8 fun KQ hKQ => ?_
    go_simp
    skip
    refine hKQ.out _ _ ?_
    clear hKQ KQ
    try refine kNK ?_
    refine kBK 9 ?_
    refine kBK 10 ?_
    try refine kNK ?_
    refine wpAnyK_done (by kernel_rfl) ?_ _
    refine NoPanic.normal ?_
   rotate_left 1
   focus
    go_simp
    skip
    refine hKQ.out _ _ (hHeld.alloc hHeld.size _) ?_
    clear hHeld hKQ KQ
    intro hHeld
    try refine kNK ?_
    first | (have hcv : (convert 80 9 (.slice (some ⟨w3.heap.size, 0, none⟩) 1 1)).run Tryz.prog (w3.alloc (.cells #[.int .u8 (b.toNat : Int)] 5)) = .ok (.string ⟨[b].toArray⟩) (w3.alloc (.cells #[.int .u8 (b.toNat : Int)] 5)) := conv_at [b] (heap_alloc_new w3 _)) | (have HX7 : Hid ((w.alloc (.cells #[.int .u8 (b.toNat : Int)] 5)).drew.heap[w.heap.size]? = some (.cells #[.int .u8 (b.toNat : Int)] 5 (0, 0))) := heap_alloc_new w _; have hcv : (convert 80 9 (.slice (some ⟨w.heap.size, 0, none⟩) 1 1)).run Tryz.prog (w.alloc (.cells #[.int .u8 (b.toNat : Int)] 5)).drew = .ok (.string ⟨[b].toArray⟩) (w.alloc (.cells #[.int .u8 (b.toNat : Int)] 5)).drew := conv_at [b] HX7.out)
    refine wpAnyK_ready (rs := [2, 8]) (by kernel_rfl) (by simp) ?_
    refine AllReadyK.free rfl (by kernel_rfl) (fun KQ hKQ => ?_) (AllReadyK.cons rfl (fun KQ hKQ => ?_) AllReadyK.nil)
    focus
     go_simp
     go_at_call 12
     refine (HR.out _).mono ?_
     rintro e w3 ⟨rfl, hb3⟩
     have hs3 := Below.later hHeld hb3 hHeld.size
     have HB3 := Lib.hid hs3
     first | (have hcv3 : (convert 80 9 (.slice (some ⟨w.heap.size, 0, none⟩) 1 1)).run Tryz.prog w3 = .ok (.string ⟨[b].toArray⟩) w3 := conv_at [b] ((hb3.block _ (block_lt HX7.out)).trans HX7.out)) | skip
     clear hb3
     go_wp2_with fail
     refine hKQ.out _ _ ?_
     clear hKQ KQ
     try refine kNK ?_
     clear hs3
     refine kPK 8 fun KQ hKQ => ?_
     go_simp
     skip
     refine hKQ.out _ _ ?_
     clear hKQ KQ
     try refine kNK ?_
     refine kBK 9 ?_
     refine kBK 10 ?_
     try refine kNK ?_
     refine wpAnyK_done (by kernel_rfl) ?_ _
     refine NoPanic.normal ?_
    rotate_left 1
    focus
     go_simp
     skip
     refine hKQ.out _ _ (hHeld) ?_
     clear hHeld hKQ KQ
     intro hHeld
     try refine kNK ?_
     refine kPK 2 fun KQ hKQ => ?_
     go_simp
     go_at_call 12
     refine (HR.out _).mono ?_
     rintro e w3 ⟨rfl, hb3⟩
     have hs3 := Below.later hHeld hb3 hHeld.size
     have HB3 := Lib.hid hs3
     first | (have hcv3 : (convert 80 9 (.slice (some ⟨w.heap.size, 0, none⟩) 1 1)).run Tryz.prog w3 = .ok (.string ⟨[b].toArray⟩) w3 := conv_at [b] ((hb3.block _ (block_lt HX7.out)).trans HX7.out)) | skip
     clear hb3
     go_wp2_with fail
     refine hKQ.out _ _ ?_
     clear hKQ KQ
     try refine kNK ?_
     clear hs3
     refine kBK 9 ?_
     refine kBK 10 ?_
     try refine kNK ?_
     refine wpAnyK_done (by kernel_rfl) ?_ _
     refine NoPanic.normal ?_
    rotate_left 1
   rotate_left 2
   all_goals (
    go_wp2_with fail
    go_ret
    first
     | exact ⟨by rw [HD.out]; rfl, HB3.out.alloc HB3.out.size _⟩
     | exact ⟨by rw [HD.out]; rfl, HB3.out⟩)
end
end Go.Proofs.YtmgeghoalmonoaaGreatDoor
