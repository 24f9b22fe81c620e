import Derived.Test.YtncgigapgklhcaaGreatDoorAdLaws
import Derived.Test.YtncgigapgklhcaaGreatDoorAdmDuo

/- Plain laws and contracts for the law AdmGuards: Protect turned on, one byte with Protect on, a screen's copy beside a terminal. -/
namespace Go.Proofs.YtncgigapgklhcaaGreatDoor
open Go.RowKit
set_option linter.unusedSimpArgs false
set_option linter.unusedVariables false

theorem guard_on (A : Ad) : (feedA A [27, 38]).pr = true := by
  have h1 : (takeA A 27).seq = [27] := by
    unfold takeA
    rw [rest_seq]
    rfl
  have h2 : ∀ B : Ad, B.seq = [27] → (takeA B 38).pr = true := by
    intro B hB
    unfold takeA takeC
    rw [rest_pr, if_neg (by decide), hB, if_neg (by decide), if_neg (by decide)]
    rfl
  exact h2 _ h1
theorem guard_feed {A : Ad} (b : UInt8) (h : A.pr = true) (hm : A.S.D.may) (hin : A.S.pl.at_.inS A.S.D.R A.S.D.C) (h' : (feedA A [b]).pr = true) :
    KeptG A.S.D (feedA A [b]).S.D ∧ ((atD (feedA A [b]).S.D (feedA A [b]).S.pl.at_).gd = true → ∀ i j, i < A.S.D.R → j < A.S.D.C → ((feedA A [b]).S.D.X i j).gd = true) := by
  refine ⟨guard_take (b % 128) h hin h', fun hg i j hi hj => ?_⟩
  have hF := FromD.takeC A (b % 128)
  have h'' : (takeC A (b % 128)).1.pr = true := by
    have := h'
    show (takeC A (b % 128)).1.pr = true
    rw [← rest_pr (takeC A (b % 128)).1 (takeC A (b % 128)).2]
    exact this
  have hmm : (takeC A (b % 128)).1.S.D.may := by
    obtain ⟨m1, m2, m3, m4⟩ := hm
    exact ⟨by rw [hF.R]; exact m1, by rw [hF.R]; exact m2, by rw [hF.C]; exact m3, by rw [hF.C]; exact m4⟩
  have := rest_guard (takeC A (b % 128)).2 h'' hmm hg i j (by rw [hF.R]; exact hi) (by rw [hF.C]; exact hj)
  show ((restA (takeC A (b % 128)).1 (takeC A (b % 128)).2).S.D.X i j).gd = true
  rw [restA_D]
  exact this
section
variable {w W W1 W2 : World} {wp tp sp qp cp : Nat} {A : Ad}
theorem made_may (h : Made w W wp tp sp qp A) : A.S.D.may ∧ A.S.pl.at_.inS A.S.D.R A.S.D.C ∧ okSeq A.seq := by
  obtain ⟨h1, ⟨FT, h2, h3, h4⟩, h5, h6⟩ := h
  exact tm_may h2
theorem made_copy (h : Made w W wp tp sp qp A) : Calls Tryz.prog 24 #[.pointer (some ⟨sp, 0, none⟩)] W fun e w' => ∃ c', e = .returned (.pointer (some ⟨c', 0, none⟩)) ∧ NewScr W w' c' A.S := by
  obtain ⟨h1, ⟨FT, ⟨lb, fr, F, V, h2, hF⟩, h3, h4⟩, h5, h6⟩ := h
  exact scr_copy sp F A.S W h2.scr
theorem made_feed_copy (h : Made w W wp tp sp qp A) (hc : NewScr W W1 cp A.S) (hb : Below W1.heap.size W1 W2) (l : List UInt8) (hl : l.length ≤ 100000) : Calls Tryz.prog 13 #[.pointer (some ⟨tp, 0, none⟩), .string ⟨l.toArray⟩] W2 fun e w' => e = .returned (.tuple #[]) ∧ Made w w' wp tp sp qp (feedA A l) ∧ ∃ FC, Scr w' cp FC A.S := by
  obtain ⟨h1, ⟨FT, h2, h3, h4⟩, h5, h6⟩ := h
  obtain ⟨⟨FC, hs, hn⟩, hk⟩ := hc
  have hlt := h2.lt
  have hb2 : Below W.heap.size W W2 := Below.later hk hb hk.size
  have hT := h2.below hb2
  refine (term_feed hT l hl).mono fun e w' h' => ⟨h'.1, Made.turn ((hb2.block _ (block_lt h1)).trans h1) h3 h4 h5 (Below.later h6 hb2 h6.size) h'.2, FC, (hs.below hb).keeps h'.2.2 (fun k hf hF => by have := hlt k hF; have := hn k hf; omega) (fun hF => hT.blk.2 _ hF rfl)⟩
theorem made_at_ij (h : Made w W wp tp sp qp A) (i j : Nat) (hi : i < A.S.D.R) (hj : j < A.S.D.C) : Calls Tryz.prog 25 #[.pointer (some ⟨sp, 0, none⟩), .agg #[.int .i64 (i : Int), .int .i64 (j : Int)]] W fun e w' => e = .returned (.tuple #[.agg #[.int .i32 (A.S.D.X i j).g, .int .i64 (A.S.D.X i j).a, .bool (A.S.D.X i j).gd, .int .i64 (A.S.D.X i j).m], .int .i64 0]) ∧ Below W.heap.size W w' := by
  obtain ⟨h1, ⟨FT, ⟨lb, fr, F, V, h2, hF⟩, h3, h4⟩, h5, h6⟩ := h
  exact scr_at_ij sp F A.S i j W h2.scr hi hj
theorem made_at_here (h : Made w W wp tp sp qp A) : Calls Tryz.prog 25 #[.pointer (some ⟨sp, 0, none⟩), .agg #[.int .i64 A.S.pl.at_.row, .int .i64 A.S.pl.at_.col]] W fun e w' => e = .returned (.tuple #[.agg #[.int .i32 (atD A.S.D A.S.pl.at_).g, .int .i64 (atD A.S.D A.S.pl.at_).a, .bool (atD A.S.D A.S.pl.at_).gd, .int .i64 (atD A.S.D A.S.pl.at_).m], .int .i64 0]) ∧ Below W.heap.size W w' := by
  have hh := (made_may h).2.1
  obtain ⟨h1, ⟨FT, ⟨lb, fr, F, V, h2, hF⟩, h3, h4⟩, h5, h6⟩ := h
  exact scr_at sp F A.S A.S.pl.at_ W h2.scr hh
end
end Go.Proofs.YtncgigapgklhcaaGreatDoor
