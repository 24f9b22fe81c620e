import Derived.Test.YteoeooijpjehpaaGreatDoorIA

set_option maxRecDepth 100000
set_option maxHeartbeats 16000000
namespace Go.Proofs.YteoeooijpjehpaaGreatDoor
open Go.RowKit
set_option linter.unusedSimpArgs false
set_option linter.unusedVariables false
/- Plain: the texts of places told by `a`, all of them tried. -/
section
def decL (n : Nat) : List UInt8 := if n < 10 then [UInt8.ofNat (48 + n)] else [UInt8.ofNat (48 + n / 10), UInt8.ofNat (48 + n % 10)]
def addrL (r c : Nat) : List UInt8 := decL (r + 1) ++ 82 :: decL (c + 1)
def waitA (m : List UInt8) : List UInt8 → Bool
 | [] => true
 | b :: l => decide (b ≠ 27) && waitsW 97 (m ++ [b]) && waitA (m ++ [b]) l
def endA9 (l : List UInt8) : Bool := cutIs (trimB l 67) && numOk (cutA (trimB l 67)) && numOk (cutB (trimB l 67)) && partB (cutA (trimB l 67)) true && partB (cutB (trimB l 67)) true && endsB l 67
def chkA (r c : Nat) : Bool := waitA [] (addrL r c) && !waitsW 97 (addrL r c ++ [67]) && endA9 (addrL r c ++ [67]) && decide (lessB (cutA (trimB (addrL r c ++ [67]) 67)) = (r : Int)) && decide (lessB (cutB (trimB (addrL r c ++ [67]) 67)) = (c : Int)) && decide ((addrL r c).length ≤ 5)
def allR (p : Nat → Bool) : Nat → Bool
 | 0 => true
 | n + 1 => p n && allR p n
theorem allR_spec {p : Nat → Bool} {n : Nat} (h : allR p n = true) (i : Nat) (hi : i < n) : p i = true := by
 induction n with
 | zero => omega
 | succ n ih =>
   unfold allR at h
   simp only [Bool.and_eq_true] at h
   by_cases e : i = n
   · subst e; exact h.1
   · exact ih h.2 (by omega)
section
set_option maxRecDepth 100000
def blkA (k : Nat) : Bool := allR (fun j => allR (fun c => chkA (10 * k + j) c) 91) (if k = 9 then 1 else 10)
theorem blk_0 : blkA 0 = true := by decide +kernel
theorem blk_1 : blkA 1 = true := by decide +kernel
theorem blk_2 : blkA 2 = true := by decide +kernel
theorem blk_3 : blkA 3 = true := by decide +kernel
theorem blk_4 : blkA 4 = true := by decide +kernel
theorem blk_5 : blkA 5 = true := by decide +kernel
theorem blk_6 : blkA 6 = true := by decide +kernel
theorem blk_7 : blkA 7 = true := by decide +kernel
theorem blk_8 : blkA 8 = true := by decide +kernel
theorem blk_9 : blkA 9 = true := by decide +kernel
end
theorem blk_all : ∀ k, k ≤ 9 → blkA k = true
 | 0, _ => blk_0
 | 1, _ => blk_1
 | 2, _ => blk_2
 | 3, _ => blk_3
 | 4, _ => blk_4
 | 5, _ => blk_5
 | 6, _ => blk_6
 | 7, _ => blk_7
 | 8, _ => blk_8
 | 9, _ => blk_9
 | n + 10, h => absurd h (by omega)
theorem chk_all (r : Nat) (h : r < 91) : allR (fun c => chkA r c) 91 = true := by
 have h := blk_all (r / 10) (by omega)
 unfold blkA at h
 have h2 := allR_spec h (r % 10) (by split <;> omega)
 rwa [show 10 * (r / 10) + r % 10 = r by omega] at h2
end
section
theorem restW_off {A : Wy} (h : A.pr = false) (b : Bool) : restW A b = A := by
 unfold restW
 rw [if_neg (fun e => by rw [h] at e; cases e.1)]
theorem adw_wait {A : Wy} {m : List UInt8} {b : UInt8} (hp : A.pr = false) (hs : A.seq = 27 :: 97 :: m) (hb : b ≠ 27) (hw : waitsW 97 (m ++ [b]) = true) (hl : m.length ≤ 50) : takeW A b = { A with seq := 27 :: 97 :: (m ++ [b]) } := by
 unfold takeW takeD
 rw [if_neg (fun e => hb e.1), hs]
 show restW (if waitsW 97 (m ++ [b]) = true then _ else _ : Wy × Bool).1 (if waitsW 97 (m ++ [b]) = true then _ else _ : Wy × Bool).2 = _
 rw [if_pos hw, if_neg (by simp; omega)]
 exact restW_off (A := { A with seq := 27 :: 97 :: (m ++ [b]) }) hp false
theorem feed_wait : ∀ (l m : List UInt8) (A : Wy), A.pr = false → A.seq = 27 :: 97 :: m → waitA m l = true → m.length + l.length ≤ 50 → feedW A l = { A with seq := 27 :: 97 :: (m ++ l) }
 | [], m, A, hp, hs, hw, hl => by
   rw [List.append_nil, ← hs]
   rfl
 | b :: l, m, A, hp, hs, hw, hl => by
   unfold waitA at hw
   simp only [Bool.and_eq_true, decide_eq_true_eq] at hw
   obtain ⟨⟨h1, h2⟩, h3⟩ := hw
   simp only [List.length_cons] at hl
   show feedW (takeW A b) l = _
   rw [adw_wait hp hs h1 h2 (by omega)]
   have := feed_wait l (m ++ [b]) { A with seq := 27 :: 97 :: (m ++ [b]) } hp rfl h3 (by simp; omega)
   rw [this, List.append_assoc]
   rfl
theorem take_esc {A : Wy} (hp : A.pr = false) (hs : A.seq = []) : takeW A 27 = { A with seq := [27] } := by
 unfold takeW takeD
 rw [if_pos ⟨rfl, by rw [hs]; rfl⟩]
 exact restW_off (A := { A with seq := [27] }) hp false
theorem take_a {A : Wy} (hp : A.pr = false) (hs : A.seq = [27]) : takeW A 97 = { A with seq := [27, 97] } := by
 unfold takeW takeD
 rw [if_neg (fun e => absurd e.1 (by decide)), hs]
 exact restW_off (A := { A with seq := [27, 97] }) hp false
theorem goesW_pr (A : Wy) (r c : Int) : (goesW A r c).pr = A.pr := by
 unfold goesW
 split <;> rfl
theorem feed_aL {A : Wy} (hp : A.pr = false) (hs : A.seq = []) (L : List UInt8) (r c : Int) (h1 : waitA [] L = true) (h2 : waitsW 97 (L ++ [67]) = false) (h3 : endA9 (L ++ [67]) = true) (h4 : lessB (cutA (trimB (L ++ [67]) 67)) = r) (h5 : lessB (cutB (trimB (L ++ [67]) 67)) = c) (h7 : ([] : List UInt8).length + L.length ≤ 50) : feedW A (27 :: 97 :: (L ++ [67])) = goesW A r c := by
 have e0 : ({ A with seq := [] } : Wy) = A := by cases A; simp only at hs; subst hs; rfl
 have e1 : feedW A (27 :: 97 :: (L ++ [67])) = feedW (takeW (takeW A 27) 97) (L ++ [67]) := rfl
 rw [e1, take_esc hp hs, take_a (A := { A with seq := [27] }) hp rfl, feedW_append, feed_wait L [] { A with seq := [27, 97] } hp rfl h1 h7]
 have e2 : takeD { A with seq := 27 :: 97 :: L } 67 = (goesW A r c, false) := by
  unfold takeD
  rw [if_neg (fun e => absurd e.1 (by decide))]
  have e3 : (if waitsW 97 (L ++ [67]) = true then ({ A with seq := if 64 < (27 :: 97 :: (L ++ [67])).length then [] else 27 :: 97 :: (L ++ [67]) }, false) else endW { A with seq := [] } 97 (L ++ [67]) : Wy × Bool) = (goesW A r c, false) := by
   rw [if_neg (by rw [h2]; decide), e0]
   unfold endW
   rw [if_neg (by decide), if_pos rfl]
   unfold endA9 at h3
   rw [if_pos h3, h4, h5]
  exact e3
 have e4 : feedW { A with seq := 27 :: 97 :: ([] ++ L) } [67] = restW (takeD { A with seq := 27 :: 97 :: L } 67).1 (takeD { A with seq := 27 :: 97 :: L } 67).2 := rfl
 have e5 : restW (goesW A r c) false = goesW A r c := restW_off (by rw [goesW_pr]; exact hp) false
 refine Eq.trans e4 ?_
 rw [e2]
 exact e5
theorem feed_a {A : Wy} (hp : A.pr = false) (hs : A.seq = []) (r c : Nat) (hr : r ≤ 90) (hc : c ≤ 90) : feedW A (27 :: 97 :: (addrL r c ++ [67])) = goesW A r c := by
 have hk := allR_spec (chk_all r (by omega)) c (by omega)
 unfold chkA at hk
 simp only [Bool.and_eq_true, decide_eq_true_eq, Bool.not_eq_true'] at hk
 obtain ⟨⟨⟨⟨⟨h1, h2⟩, h3⟩, h4⟩, h5⟩, h6⟩ := hk
 exact feed_aL hp hs (addrL r c) r c h1 h2 h3 h4 h5 (by rw [List.length_nil, Nat.zero_add]; exact Nat.le_trans h6 (by decide))
theorem feed_eq {A : Wy} (hp : A.pr = false) (hs : A.seq = []) (r c : Nat) (hr : r ≤ 90) (hc : c ≤ 90) : feedW A [27, 61, UInt8.ofNat (r + 32), UInt8.ofNat (c + 32)] = goesW A r c := by
 have hx : ∀ n, n ≤ 90 → (UInt8.ofNat (n + 32)).toNat = n + 32 := fun n hn => by rw [UInt8.toNat_ofNat']; omega
 have hn : ∀ n, n ≤ 90 → UInt8.ofNat (n + 32) ≠ 27 := fun n hn e => by
  have := congrArg UInt8.toNat e
  rw [hx n hn] at this
  have h27 : (27 : UInt8).toNat = 27 := rfl
  omega
 generalize hb : UInt8.ofNat (r + 32) = b
 generalize hd : UInt8.ofNat (c + 32) = d
 have b1 := hx r hr
 have d1 := hx c hc
 have b2 := hn r hr
 have d2 := hn c hc
 rw [hb] at b1 b2
 rw [hd] at d1 d2
 show takeW (takeW (takeW (takeW A 27) 61) b) d = _
 rw [take_esc hp hs]
 have e2 : takeW { A with seq := [27] } 61 = { A with seq := [27, 61] } := by
  unfold takeW takeD
  rw [if_neg (fun e => absurd e.1 (by decide))]
  exact restW_off (A := { A with seq := [27, 61] }) hp false
 have e3 : takeW { A with seq := [27, 61] } b = { A with seq := [27, 61, b] } := by
  unfold takeW takeD
  rw [if_neg (fun e => b2 e.1)]
  exact restW_off (A := { A with seq := [27, 61, b] }) hp false
 rw [e2, e3]
 unfold takeW takeD
 rw [if_neg (fun e => d2 e.1)]
 show restW (goesW { A with seq := [] } ((b.toNat : Int) - 32) ((d.toNat : Int) - 32)) false = _
 rw [b1, d1, show ({ A with seq := [] } : Wy) = A by cases A; simp only at hs; subst hs; rfl, show (((r + 32 : Nat) : Int) - 32) = (r : Int) by omega, show (((c + 32 : Nat) : Int) - 32) = (c : Int) by omega]
 exact restW_off (by rw [goesW_pr]; exact hp) false
end
section
theorem endsB_snoc (m : List UInt8) (b c : UInt8) : endsB (m ++ [b]) c = decide (b = c) := by
 unfold endsB Go.Lib.hasSuffix
 unfold List.isSuffixOf
 rw [List.reverse_append]
 by_cases h : b = c
 · subst h
   simp [List.isPrefixOf]
 · have : (c == b) = false := by simp; exact fun e => h e.symm
   simp [List.isPrefixOf, h, this]
theorem trimB_snoc (m : List UInt8) (c : UInt8) : trimB (m ++ [c]) c = m := by
 unfold trimB Go.Lib.trimSuffix
 have h := endsB_snoc m c c
 unfold endsB at h
 rw [h]
 simp
theorem take_F {A : Wy} {m : List UInt8} {b : UInt8} (hp : A.pr = false) (hs : A.seq = 27 :: 70 :: m) (hb : b ≠ 13) (hl : m.length ≤ 60) : takeW A b = { A with seq := 27 :: 70 :: (m ++ [b]) } := by
 have hst : statusW A.seq = true := by rw [hs]; rfl
 unfold takeW takeD
 rw [if_neg (fun e => by rw [hst] at e; cases e.2), hs]
 show restW (if waitsW 70 (m ++ [b]) = true then _ else _ : Wy × Bool).1 (if waitsW 70 (m ++ [b]) = true then _ else _ : Wy × Bool).2 = _
 have hw : waitsW 70 (m ++ [b]) = true := by
  show (!endsB (m ++ [b]) 13) = true
  rw [endsB_snoc]
  simp [hb]
 rw [if_pos hw, if_neg (by simp; omega)]
 exact restW_off (A := { A with seq := 27 :: 70 :: (m ++ [b]) }) hp false
theorem feed_F : ∀ (l m : List UInt8) (A : Wy), A.pr = false → A.seq = 27 :: 70 :: m → (∀ x ∈ l, x ≠ 13) → m.length + l.length ≤ 60 → feedW A l = { A with seq := 27 :: 70 :: (m ++ l) }
 | [], m, A, hp, hs, hx, hl => by
   rw [List.append_nil, ← hs]
   rfl
 | b :: l, m, A, hp, hs, hx, hl => by
   simp only [List.length_cons] at hl
   show feedW (takeW A b) l = _
   rw [take_F hp hs (hx b (List.mem_cons_self ..)) (by omega)]
   have := feed_F l (m ++ [b]) { A with seq := 27 :: 70 :: (m ++ [b]) } hp rfl (fun x h => hx x (List.mem_cons_of_mem _ h)) (by simp; omega)
   rw [this, List.append_assoc]
   rfl
theorem take_F0 {A : Wy} (hp : A.pr = false) (hs : A.seq = [27]) : takeW A 70 = { A with seq := [27, 70] } := by
 unfold takeW takeD
 rw [if_neg (fun e => absurd e.1 (by decide)), hs]
 exact restW_off (A := { A with seq := [27, 70] }) hp false
theorem feed_status {A : Wy} (hp : A.pr = false) (hs : A.seq = []) (t : List UInt8) (h13 : ∀ x ∈ t, x ≠ 13) (hl : t.length ≤ 60) : feedW A (27 :: 70 :: (t ++ [13])) = { A with status := t } := by
 have e0 : ({ A with seq := [] } : Wy) = A := by cases A; simp only at hs; subst hs; rfl
 have e1 : feedW A (27 :: 70 :: (t ++ [13])) = feedW (takeW (takeW A 27) 70) (t ++ [13]) := rfl
 rw [e1, take_esc hp hs, take_F0 (A := { A with seq := [27] }) hp rfl, feedW_append, feed_F t [] { A with seq := [27, 70] } hp rfl h13 (by simp; omega)]
 have e2 : takeD { A with seq := 27 :: 70 :: t } 13 = ({ A with status := t }, false) := by
  unfold takeD
  rw [if_neg (fun e => absurd e.1 (by decide))]
  have hw : waitsW 70 (t ++ [13]) = false := by
   show (!endsB (t ++ [13]) 13) = false
   rw [endsB_snoc]
   rfl
  have e3 : (if waitsW 70 (t ++ [13]) = true then ({ A with seq := if 64 < (27 :: 70 :: (t ++ [13])).length then [] else 27 :: 70 :: (t ++ [13]) }, false) else endW { A with seq := [] } 70 (t ++ [13]) : Wy × Bool) = ({ A with status := t }, false) := by
   rw [if_neg (by rw [hw]; decide), e0]
   show (({ A with status := trimB (t ++ [13]) 13 } : Wy), false) = _
   rw [trimB_snoc]
  exact e3
 have e4 : feedW { A with seq := 27 :: 70 :: ([] ++ t) } [13] = restW (takeD { A with seq := 27 :: 70 :: t } 13).1 (takeD { A with seq := 27 :: 70 :: t } 13).2 := rfl
 refine Eq.trans e4 ?_
 rw [e2]
 exact restW_off (A := { A with status := t }) hp false
theorem take_ask {A : Wy} (hp : A.pr = false) (hs : A.seq = [27]) : takeW A 63 = pushW { A with seq := [] } [toldA A.S.pl.at_.row, toldA A.S.pl.at_.col, 13] := by
 unfold takeW takeD
 rw [if_neg (fun e => absurd e.1 (by decide)), hs]
 refine Eq.trans ?_ (restW_off (A := pushW { A with seq := [] } [toldA A.S.pl.at_.row, toldA A.S.pl.at_.col, 13]) (by unfold pushW; split <;> exact hp) false)
 rfl
theorem feed_ask {A : Wy} (hp : A.pr = false) (hs : A.seq = []) : feedW A [27, 63] = pushW A [toldA A.S.pl.at_.row, toldA A.S.pl.at_.col, 13] := by
 have e0 : ({ A with seq := [] } : Wy) = A := by cases A; simp only at hs; subst hs; rfl
 show takeW (takeW A 27) 63 = _
 rw [take_esc hp hs, take_ask (A := { A with seq := [27] }) hp rfl]
 show pushW { A with seq := [] } _ = _
 rw [e0]
def wantP (R C : Nat) (r c : Int) : Vz.Ps := if 0 ≤ r ∧ r < (R : Int) ∧ 0 ≤ c ∧ c < (C : Int) then ⟨r, c⟩ else ⟨0, 0⟩
theorem goes_new (n R C : Nat) (hm : Vz.mayS R C = true) (r c : Int) : (goesW (newW n R C) r c).S.pl = ⟨wantP R C r c, false⟩ := by
 unfold goesW wantP
 by_cases h : 0 ≤ r ∧ r < (R : Int) ∧ 0 ≤ c ∧ c < (C : Int)
 · rw [if_pos (show 0 ≤ r ∧ r < ((newW n R C).S.D.R : Int) ∧ 0 ≤ c ∧ c < ((newW n R C).S.D.C : Int) from h), if_pos h]
   show (⟨Vz.nearP R C ⟨r, c⟩, false⟩ : Vz.Pl) = _
   rw [Vz.nearP_id R C ⟨r, c⟩ hm ⟨h.1, h.2.1, h.2.2.1, h.2.2.2⟩]
 · rw [if_neg (show ¬ (0 ≤ r ∧ r < ((newW n R C).S.D.R : Int) ∧ 0 ≤ c ∧ c < ((newW n R C).S.D.C : Int)) from h), if_neg h]
   rfl
end
end Go.Proofs.YteoeooijpjehpaaGreatDoor
