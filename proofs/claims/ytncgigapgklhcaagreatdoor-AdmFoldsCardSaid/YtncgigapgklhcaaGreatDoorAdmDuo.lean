import Derived.Test.YtncgigapgklhcaaGreatDoorAdmM
import Derived.Test.YtncgigapgklhcaaGreatDoorHY

/- Two worlds of the law's side by side. -/
namespace Go.Proofs.YtncgigapgklhcaaGreatDoor
open Go.RowKit
set_option linter.unusedSimpArgs false
set_option linter.unusedVariables false
attribute [local go_sem] alloc_drewN setCell_drewN World.cell?_alloc_some frozen_alloc_some size_f0 size_f1

/-- The box of a world of the law's. -/
def boxW (W : World) (wp tp sp qp : Nat) : Prop := W.heap[wp]? = some (.cells #[.pointer (some ⟨sp, 0, none⟩), .pointer (some ⟨qp, 0, none⟩), .pointer (some ⟨tp, 0, none⟩)] 32 (0, 0))
/-- Two worlds of the law's, all made since w, that share nothing. -/
structure DuoAt (w W : World) (wa ta sa qa : Nat) (A : Ad) (wb tb sb qb : Nat) (B : Ad) (FA FB : Nat → Prop) : Prop where
  boxA : boxW W wa ta sa qa
  boxB : boxW W wb tb sb qb
  tA : Term W ta sa qa FA A
  tB : Term W tb sb qb FB B
  nA : ∀ k, FA k → w.heap.size ≤ k
  nB : ∀ k, FB k → w.heap.size ≤ k
  ab : ∀ k, FA k → ¬ FB k
  aa : ¬ FA wa
  awb : ¬ FA wb
  bb : ¬ FB wb
  bwa : ¬ FB wa
  la : w.heap.size ≤ wa
  lb : w.heap.size ≤ wb
  bel : Below w.heap.size w W
def Duo (w W : World) (wa ta sa qa : Nat) (A : Ad) (wb tb sb qb : Nat) (B : Ad) : Prop := ∃ FA FB, DuoAt w W wa ta sa qa A wb tb sb qb B FA FB
section
variable {w W W' : World} {wa ta sa qa wb tb sb qb : Nat} {A A' B B' : Ad} {FA FB : Nat → Prop}
theorem DuoAt.swap (h : DuoAt w W wa ta sa qa A wb tb sb qb B FA FB) : DuoAt w W wb tb sb qb B wa ta sa qa A FB FA :=
  ⟨h.boxB, h.boxA, h.tB, h.tA, h.nB, h.nA, fun k hk ha => h.ab k ha hk, h.bb, h.bwa, h.aa, h.awb, h.lb, h.la, h.bel⟩
theorem DuoAt.below (h : DuoAt w W wa ta sa qa A wb tb sb qb B FA FB) (hb : Below W.heap.size W W') : DuoAt w W' wa ta sa qa A wb tb sb qb B FA FB :=
  ⟨(hb.block _ (block_lt h.boxA)).trans h.boxA, (hb.block _ (block_lt h.boxB)).trans h.boxB, h.tA.below hb, h.tB.below hb, h.nA, h.nB, h.ab, h.aa, h.awb, h.bb, h.bwa, h.la, h.lb, Below.later h.bel hb h.bel.size⟩
theorem Duo.swap (h : Duo w W wa ta sa qa A wb tb sb qb B) : Duo w W wb tb sb qb B wa ta sa qa A := by
  obtain ⟨FA, FB, h⟩ := h
  exact ⟨FB, FA, h.swap⟩
theorem Duo.below (h : Duo w W wa ta sa qa A wb tb sb qb B) (hb : Below W.heap.size W W') : Duo w W' wa ta sa qa A wb tb sb qb B := by
  obtain ⟨FA, FB, h⟩ := h
  exact ⟨FA, FB, h.below hb⟩
theorem Duo.belowW (h : Duo w W wa ta sa qa A wb tb sb qb B) : Below w.heap.size w W := by
  obtain ⟨FA, FB, h⟩ := h
  exact h.bel
/-- The first one goes on. -/
theorem DuoAt.left (h : DuoAt w W wa ta sa qa A wb tb sb qb B FA FB) (ht : TermTo W W' ta sa qa FA A') : (∃ F', DuoAt w W' wa ta sa qa A' wb tb sb qb B F' FB ∧ ∀ k, F' k → FA k ∨ W.heap.size ≤ k) ∧ Keeps FA W W' := by
  obtain ⟨⟨F', t1, t2⟩, hK⟩ := ht
  have hs := h.bel.size
  have hltA := block_lt h.boxA
  have hltB := block_lt h.boxB
  refine ⟨⟨F', ⟨(hK.block _ hltA h.aa).trans h.boxA, (hK.block _ hltB h.awb).trans h.boxB, t1, h.tB.keeps hK (fun k hk ha => h.ab k ha hk) (fun hk => h.tA.blk.2 _ hk rfl), fun k hk => ?_, h.nB, fun k hk hb => ?_, fun hf => ?_, fun hf => ?_, h.bb, h.bwa, h.la, h.lb, h.bel.trans (hK.below h.nA hs)⟩, t2⟩, hK⟩
  · rcases t2 k hk with h1 | h1
    · exact h.nA k h1
    · omega
  · rcases t2 k hk with h1 | h1
    · exact h.ab k h1 hb
    · have := h.tB.lt k hb
      omega
  · rcases t2 wa hf with h1 | h1
    · exact h.aa h1
    · omega
  · rcases t2 wb hf with h1 | h1
    · exact h.awb h1
    · omega
theorem Duo.of_made {w1 : World} (ha : Made w w1 wa ta sa qa A) (hb : Made w1 W wb tb sb qb B) : Duo w W wa ta sa qa A wb tb sb qb B := by
  obtain ⟨a1, ⟨FA, a2, a3, a4⟩, a5, a6⟩ := ha
  obtain ⟨b1, ⟨FB, b2, b3, b4⟩, b5, b6⟩ := hb
  have hs := a6.size
  have hla := block_lt a1
  have hlt := a2.lt
  refine ⟨FA, FB, ⟨(b6.block _ hla).trans a1, b1, a2.below b6, b2, a3, fun k hk => ?_, fun k hk hb => ?_, a4, fun hf => ?_, b4, fun hf => ?_, a5, by omega, Below.later a6 b6 hs⟩⟩
  · have := b3 k hk
    omega
  · have := b3 k hb
    have := hlt k hk
    omega
  · have := hlt _ hf
    omega
  · have := b3 _ hf
    omega
theorem Duo.cells (h : Duo w W wa ta sa qa A wb tb sb qb B) : W.cell? ⟨wa, 0, none⟩ = some (.pointer (some ⟨sa, 0, none⟩)) ∧ W.cell? ⟨wa, 1, none⟩ = some (.pointer (some ⟨qa, 0, none⟩)) ∧ W.cell? ⟨wa, 2, none⟩ = some (.pointer (some ⟨ta, 0, none⟩)) := by
  obtain ⟨FA, FB, h⟩ := h
  obtain ⟨x0, x1, x2, _⟩ := row3 h.boxA
  exact ⟨x0, x1, x2⟩
theorem duo_feed (h : Duo w W wa ta sa qa A wb tb sb qb B) (l : List UInt8) (hl : l.length ≤ 100000) : Calls Tryz.prog 13 #[.pointer (some ⟨ta, 0, none⟩), .string ⟨l.toArray⟩] W fun e w' => e = .returned (.tuple #[]) ∧ Duo w w' wa ta sa qa (feedA A l) wb tb sb qb B := by
  obtain ⟨FA, FB, h⟩ := h
  refine (term_feed h.tA l hl).mono fun e w' h' => ⟨h'.1, ?_⟩
  obtain ⟨⟨F', h1, -⟩, -⟩ := h.left h'.2
  exact ⟨F', FB, h1⟩
theorem tm_cursor {w : World} {tp sp qp : Nat} {FT : Nat → Prop} {A : Ad} (h : Term w tp sp qp FT A) : Calls Tryz.prog 14 #[.pointer (some ⟨sp, 0, none⟩)] w fun e w' => e = .returned (.tuple #[.agg #[.int .i64 A.S.pl.at_.row, .int .i64 A.S.pl.at_.col], .bool A.S.pl.pend]) ∧ Below w.heap.size w w' := by
  obtain ⟨lb, fr, F, V, h2, hF⟩ := h
  exact scr_cursor sp F A.S w h2.scr
theorem tm_drain {w : World} {tp sp qp : Nat} {FT : Nat → Prop} {A : Ad} (h : Term w tp sp qp FT A) : Calls Tryz.prog 15 #[.pointer (some ⟨qp, 0, none⟩)] w fun e w' => e = .returned (.string ⟨A.q.toArray⟩) ∧ TermTo w w' tp sp qp FT { A with q := [], over := false } := by
  obtain ⟨lb, fr, F, V, h2, hF⟩ := h
  exact (que_drain qp lb fr A.q A.over w h2.que).mono fun e w' h' => ⟨h'.1, Term.queTo h2 hF h'.2⟩
theorem tm_rows {w : World} {tp sp qp : Nat} {FT : Nat → Prop} {A : Ad} (h : Term w tp sp qp FT A) : Calls Tryz.prog 23 #[.pointer (some ⟨sp, 0, none⟩)] w fun e w' => ∃ OB G K, e = .returned (.slice (some ⟨OB, 0, none⟩) A.S.D.R A.S.D.R) ∧ RowsAt w.heap.size w' OB A.S.D G K ∧ Below w.heap.size w w' := by
  obtain ⟨lb, fr, F, V, h2, hF⟩ := h
  exact scr_rows sp F A.S w h2.scr
theorem tm_may {w : World} {tp sp qp : Nat} {FT : Nat → Prop} {A : Ad} (h : Term w tp sp qp FT A) : A.S.D.may ∧ A.S.pl.at_.inS A.S.D.R A.S.D.C ∧ okSeq A.seq := by
  obtain ⟨lb, fr, F, V, h2, hF⟩ := h
  exact ⟨h2.scr.here.2, h2.scr.here.1, h2.ok⟩
theorem duo_cursor (h : Duo w W wa ta sa qa A wb tb sb qb B) : Calls Tryz.prog 14 #[.pointer (some ⟨sa, 0, none⟩)] W fun e w' => e = .returned (.tuple #[.agg #[.int .i64 A.S.pl.at_.row, .int .i64 A.S.pl.at_.col], .bool A.S.pl.pend]) ∧ Below W.heap.size W w' := by
  obtain ⟨FA, FB, h⟩ := h
  exact tm_cursor h.tA
theorem duo_pending (h : Duo w W wa ta sa qa A wb tb sb qb B) : Calls Tryz.prog 21 #[.pointer (some ⟨ta, 0, none⟩)] W fun e w' => e = .returned (.string ⟨A.seq.toArray⟩) ∧ W = w' := by
  obtain ⟨FA, FB, h⟩ := h
  exact tm_pending h.tA
theorem duo_rows (h : Duo w W wa ta sa qa A wb tb sb qb B) : Calls Tryz.prog 23 #[.pointer (some ⟨sa, 0, none⟩)] W fun e w' => ∃ OB G K, e = .returned (.slice (some ⟨OB, 0, none⟩) A.S.D.R A.S.D.R) ∧ RowsAt W.heap.size w' OB A.S.D G K ∧ Below W.heap.size W w' := by
  obtain ⟨FA, FB, h⟩ := h
  exact tm_rows h.tA
theorem duo_may (h : Duo w W wa ta sa qa A wb tb sb qb B) : A.S.D.may ∧ A.S.pl.at_.inS A.S.D.R A.S.D.C ∧ okSeq A.seq := by
  obtain ⟨FA, FB, h⟩ := h
  exact tm_may h.tA
end
end Go.Proofs.YtncgigapgklhcaaGreatDoor
