import Derived.Test.YtmgeghoalmonoaaGreatDoorAnG

/- Walks of ANSI.SYS: what is done of a sequence: rules, numbered, steps, wraps. -/
namespace Go.Proofs.YtmgeghoalmonoaaGreatDoor
open Go.RowKit
set_option linter.unusedSimpArgs false
set_option linter.unusedVariables false
set_option maxRecDepth 100000
attribute [local go_sem] alloc_drewN setCell_drewN World.cell?_alloc_some frozen_alloc_some pos_f1

theorem numFrom_le : ∀ (l : List UInt8) (n m : Int), n ≤ 9999 → Vz.numFrom n l = some m → m ≤ 9999
  | [], n, m, h, e => by simp only [Vz.numFrom, Option.some.injEq] at e; omega
  | c :: r, n, m, h, e => by
    simp only [Vz.numFrom] at e
    split at e
    · cases e
    · exact numFrom_le r _ m (Vz.capd_hi _) e
theorem numB_le (x : ByteArray) : (Vz.numB x).1 ≤ 9999 := by
  unfold Vz.numB Vz.number
  split
  · decide
  · split
    · decide
    · rename_i n hn
      exact numFrom_le _ _ _ (by decide) hn
theorem numsOf_le : ∀ (l : List ByteArray) (r : List Int), Vz.numsOf l = some r → r.length = l.length ∧ ∀ x ∈ r, x ≤ 9999
  | [], r, h => by simp only [Vz.numsOf, Option.some.injEq] at h; subst h; exact ⟨rfl, by simp⟩
  | x :: l, r, h => by
    simp only [Vz.numsOf] at h
    split at h
    · split at h
      · cases h
      · rename_i r' hr
        injection h with h
        subst h
        obtain ⟨h1, h2⟩ := numsOf_le l r' hr
        exact ⟨by simp [h1], fun y hy => (List.mem_cons.1 hy).elim (fun e => by rw [e]; exact numB_le x) (h2 y)⟩
    · cases h
theorem numbers_B (s : List UInt8) (hs : s.length ≤ 900) : NumB (Vz.numbers s).1 ∧ (Vz.numbers s).1.length ≤ 1000 := by
  unfold Vz.numbers
  split
  · exact ⟨⟨by simp, by simp⟩, by simp⟩
  · rename_i r hr
    obtain ⟨h1, h2⟩ := numsOf_le _ _ hr
    have h3 := Vz.partsB_len s
    exact ⟨⟨by show r.length ≤ _; omega, fun x hx => by have := h2 x hx; omega⟩, by show r.length ≤ _; omega⟩
/-- What is done of numbers. -/
def DoF (W0 : World) (N0 fn : Nat) (caps : Array Value) (f : An → List Int → An) : Prop :=
  Enters Tryz.prog fn ∧ ∀ (w0 w : World) (P : Pt) (G0 G : Nat → Prop) (A : An) (v : Value) (l : List Int), (∀ k, G0 k → k < N0) → Keeps G0 W0 w0 → Below w0.heap.size w0 w → AnW w0 P G A → SmallA A → w.ownsRow w0.heap.size 3 1 v l.length (l.map (Value.int .i64)) → NumB l → l.length ≤ 1000 →
    Calls Tryz.prog fn (#[.pointer (some ⟨P.tp, 0, none⟩), v] ++ caps) w fun e w' => e = .returned (.tuple #[]) ∧ AnTo w0 w' P G (f A l)
/-- What is done of a body. -/
def RuleF (W0 : World) (N0 : Nat) (F : Value) (act : An → List UInt8 → An) : Prop := ∃ fn caps, F = .func (.func fn) #[] caps ∧ Enters Tryz.prog fn ∧
  ∀ (w : World) (P : Pt) (G0 G : Nat → Prop) (A : An) (s : List UInt8), (∀ k, G0 k → k < N0) → Keeps G0 W0 w → AnW w P G A → SmallA A → s.length ≤ 61 →
    Calls Tryz.prog fn (#[.pointer (some ⟨P.tp, 0, none⟩), .string ⟨s.toArray⟩] ++ caps) w fun e w' => e = .returned (.tuple #[]) ∧ AnTo w w' P G (act A s)
theorem RuleF.later {W0 W1 : World} {N0 N1 : Nat} {F : Value} {act : An → List UInt8 → An} (h : RuleF W0 N0 F act) (hb : Below W0.heap.size W0 W1) (hN : N1 ≤ N0) : RuleF W1 N1 F act := by
  obtain ⟨fn, caps, rfl, he, h⟩ := h
  refine ⟨fn, caps, rfl, he, fun w P G0 G A s hG hK => h w P G0 G A s (fun k hk => Nat.lt_of_lt_of_le (hG k hk) hN) ((Keeps.of_below hb : Keeps G0 W0 W1).trans hK fun k hk => .inl hk)⟩
def numA (f : An → List Int → An) (A : An) (s : List UInt8) : An := if (Vz.numbers s).2 = true then f A (Vz.numbers s).1 else A
theorem ownsRow_nums {W : World} {base : Nat} {v : Value} {l : List Int} (h : W.ownsRow base 3 1 v l.length (l.map (Value.int .i64))) : NumsAt W v l := by
  refine ⟨h.1, ?_⟩
  rcases h.2 with h' | ⟨g, cap, cur, hv, _, rest⟩
  · exact .inl h'
  · exact .inr ⟨g, cap, cur, hv, Nat.zero_le _, rest⟩
theorem do_place (W0 : World) (N0 : Nat) : DoF W0 N0 67 #[] (fun A l => moveN A ⟨max (orN l 0 1) 1 - 1, max (orN l 1 1) 1 - 1⟩) := ⟨enters_of Tryz.func67 (by kernel_rfl) rfl, fun w0 w P G0 G A v l _ _ hb hA hs hn hB hl =>
  (an_place (hA.below hb) (ownsRow_nums hn) hB).mono fun e w' h => ⟨h.1, AnTo.after hb h.2⟩⟩
theorem do_clear (W0 : World) (N0 : Nat) : DoF W0 N0 68 #[] (fun A l => if orN l 0 0 = 2 then moveN (wipeN A ⟨0, 0⟩ (endP A) A.attr) ⟨0, 0⟩ else A) := ⟨enters_of Tryz.func68 (by kernel_rfl) rfl, fun w0 w P G0 G A v l _ _ hb hA hs hn hB hl =>
  (an_clear (hA.below hb) (ownsRow_nums hn) hB).mono fun e w' h => ⟨h.1, AnTo.after hb h.2⟩⟩
theorem do_rest (W0 : World) (N0 : Nat) : DoF W0 N0 69 #[] (fun A _ => wipeN A A.S.pl.at_ ⟨A.S.pl.at_.row, (endP A).col⟩ A.attr) := ⟨enters_of Tryz.func69 (by kernel_rfl) rfl, fun w0 w P G0 G A v l _ _ hb hA hs hn hB hl =>
  (an_rest (hA.below hb)).mono fun e w' h => ⟨h.1, AnTo.after hb h.2⟩⟩
theorem do_attr (W0 : World) (N0 : Nat) : DoF W0 N0 70 #[] (fun A l => { A with attr := applyN A.attr (l.map fun x => max x 0) }) := ⟨enters_of Tryz.func70 (by kernel_rfl) rfl, fun w0 w P G0 G A v l _ _ hb hA hs hn hB hl =>
  (an_attr hb hA hn hl).mono fun e w' h => h⟩
theorem do_save (W0 : World) (N0 : Nat) : DoF W0 N0 71 #[] (fun A _ => { A with sv := A.S.pl.at_ }) := ⟨enters_of Tryz.func71 (by kernel_rfl) rfl, fun w0 w P G0 G A v l _ _ hb hA hs hn hB hl =>
  (an_save (hA.below hb)).mono fun e w' h => ⟨h.1, AnTo.after hb h.2⟩⟩
theorem do_back (W0 : World) (N0 : Nat) : DoF W0 N0 72 #[] (fun A _ => moveN A A.sv) := ⟨enters_of Tryz.func72 (by kernel_rfl) rfl, fun w0 w P G0 G A v l _ _ hb hA hs hn hB hl =>
  (an_back (hA.below hb)).mono fun e w' h => ⟨h.1, AnTo.after hb h.2⟩⟩
theorem do_report (W0 : World) (N0 : Nat) : DoF W0 N0 73 #[] (fun A l => if orN l 0 0 = 6 then pushN A (replyN A.S.pl.at_.row A.S.pl.at_.col) else A) := ⟨enters_of Tryz.func73 (by kernel_rfl) rfl, fun w0 w P G0 G A v l _ _ hb hA hs hn hB hl =>
  (an_report (hA.below hb) hs (ownsRow_nums hn) hB).mono fun e w' h => ⟨h.1, AnTo.after hb h.2⟩⟩
theorem do_steps {W0 : World} {N0 ca cb : Nat} {a b : Int} (ha : a = -1 ∨ a = 0 ∨ a = 1) (hb' : b = -1 ∨ b = 0 ∨ b = 1) (hca : CapI W0 ca a) (hcb : CapI W0 cb b) (h1 : N0 ≤ ca) (h2 : N0 ≤ cb) :
    DoF W0 N0 86 #[.pointer (some ⟨ca, 0, none⟩), .pointer (some ⟨cb, 0, none⟩)] (fun A l => stepN A (a * max (orN l 0 1) 1) (b * max (orN l 0 1) 1)) := by
  refine ⟨enters_of Tryz.func86 (by kernel_rfl) rfl, fun w0 w P G0 G A v l hG hK hb hA hs hn hB hl => ?_⟩
  have e : ∀ c z, CapI W0 c z → N0 ≤ c → CapI w c z := fun c z hc hN => by
    have h0 : w0.heap[c]? = W0.heap[c]? := hK.block c (block_lt hc) (fun hg => by have := hG c hg; omega)
    have hlt : c < w0.heap.size := block_lt (h0.trans hc)
    exact (hb.block c hlt).trans (h0.trans hc)
  exact (an_steps ha hb' (hA.below hb) (ownsRow_nums hn) hB (e ca a hca h1) (e cb b hcb h2)).mono fun e w' h => ⟨h.1, AnTo.after hb h.2⟩
set_option maxHeartbeats 4000000 in
theorem numbered1_ok {W0 : World} {N0 c fn : Nat} {caps : Array Value} {f : An → List Int → An} (hd : DoF W0 N0 fn caps f) (hc : W0.heap[c]? = some (.cells #[.func (.func fn) #[] caps] 135 (0, 0))) (hN : N0 ≤ c) :
    RuleF W0 N0 (.func (.func 88) #[] #[.pointer (some ⟨c, 0, none⟩)]) (numA f) := by
  refine ⟨_, _, rfl, enters_of Tryz.func88 (by kernel_rfl) rfl, fun w P G0 G A s hG hK hA hs hl => ?_⟩
  have hen : Enters Tryz.prog fn := hd.1
  unfold Enters at hen
  have hcw : w.heap[c]? = some (.cells #[.func (.func fn) #[] caps] 135 (0, 0)) := (hK.block c (block_lt hc) (fun hg => by have := hG c hg; omega)).trans hc
  have HNU := Lib.hid (numbers_any ⟨s.toArray⟩ (by show s.toArray.size ≤ _; simp; omega) w)
  have HD := Lib.hid (fun (w1 : World) v (hb : Below w.heap.size w w1) hn => hd.2 w w1 P G0 G A v (Vz.numbers s).1 hG hK hb hA hs hn (numbers_B s (by omega)).1 (numbers_B s (by omega)).2)
  have HRE := Lib.hid (AnTo.refl hA)
  have HCW := Lib.hid hcw
  have HNA : Hid (numA f A s = if (Vz.numbers s).2 = true then f A (Vz.numbers s).1 else A) := rfl
  clear hd hc hK hA hcw
  simp only [List.toList_toArray] at HNU
  generalize hnb : (Vz.numbers s).2 = nb at HNU HNA
  generalize hnl : (Vz.numbers s).1 = nl at HNU HD HNA
  clear hnb hnl
  cases nb
  · go_enter Tryz.func88, Tryz.ntmps88
    go_wp2_with (go_at_call 89; refine HNU.out.mono ?_; rintro e w1 ⟨v, rfl, hn, hb1⟩; have HB1 := Lib.hid hb1; have HN1 := Lib.hid hn; clear hb1 hn)
    go_end0
    rw [HNA.out, if_neg (by decide)]
    exact ⟨rfl, AnTo.later HRE.out HB1.out⟩
  · go_enter Tryz.func88, Tryz.ntmps88
    go_upto_region 2 with (go_at_call 89; refine HNU.out.mono ?_; rintro e w1 ⟨v, rfl, hn, hb1⟩; have HB1 := Lib.hid hb1; have HN1 := Lib.hid hn; clear hb1 hn)
    have c0 : w1.cell? ⟨c, 0, none⟩ = some (.func (.func fn) #[] caps) := cell_row ((HB1.out.block c (block_lt HCW.out)).trans HCW.out) 0
    go_wp2_with (refine (HD.out w1 v HB1.out HN1.out).mono ?_; rintro e w2 ⟨rfl, ht⟩; have HT := Lib.hid ht; clear ht)
    go_end0
    rw [HNA.out, if_pos (by trivial)]
    exact ⟨rfl, HT.out⟩
theorem numbered_ok (fn : Nat) (caps : Array Value) (w : World) : Calls Tryz.prog 66 #[.func (.func fn) #[] caps] w fun e w' => e = .returned (.func (.func 88) #[] #[.pointer (some ⟨w.heap.size, 0, none⟩)]) ∧ w.alloc (.cells #[.func (.func fn) #[] caps] 135) = w' := by
  go_enter Tryz.func66, Tryz.ntmps66
  go_wp2_with fail
  go_ret
  exact ⟨rfl, rfl⟩
/-- Numbered, of what is done of numbers. -/
theorem rule_numbered {N0 fn : Nat} {caps : Array Value} {f : An → List Int → An} (w : World) (hd : DoF (w.alloc (.cells #[.func (.func fn) #[] caps] 135)) N0 fn caps f) (hN : N0 ≤ w.heap.size) :
    Calls Tryz.prog 66 #[.func (.func fn) #[] caps] w fun e w' => ∃ c, e = .returned (.func (.func 88) #[] #[.pointer (some ⟨c, 0, none⟩)]) ∧ RuleF w' N0 (.func (.func 88) #[] #[.pointer (some ⟨c, 0, none⟩)]) (numA f) ∧ Below w.heap.size w w' := by
  refine (numbered_ok fn caps w).mono ?_
  rintro e w' ⟨rfl, rfl⟩
  exact ⟨_, rfl, numbered1_ok hd (heap_alloc_new w _) hN, below1 w _⟩
theorem steps_ok (a b : Int) (ha : a = -1 ∨ a = 0 ∨ a = 1) (hb' : b = -1 ∨ b = 0 ∨ b = 1) (N0 : Nat) (w : World) (hN : N0 ≤ w.heap.size) :
    Calls Tryz.prog 65 #[.int .i64 a, .int .i64 b] w fun e w' => ∃ c, e = .returned (.func (.func 88) #[] #[.pointer (some ⟨c, 0, none⟩)]) ∧ RuleF w' N0 (.func (.func 88) #[] #[.pointer (some ⟨c, 0, none⟩)]) (numA fun A l => stepN A (a * max (orN l 0 1) 1) (b * max (orN l 0 1) 1)) ∧ Below w.heap.size w w' := by
  have hw2 : Below w.heap.size w ((w.alloc (.cells #[.int .i64 a] 3)).alloc (.cells #[.int .i64 b] 3)) := (below1 w _).alloc (by simp) _
  have hca : CapI ((w.alloc (.cells #[.int .i64 a] 3)).alloc (.cells #[.int .i64 b] 3)) w.heap.size a := (Below.heap_alloc _ _ _ (by rw [World.size_alloc]; omega)).trans (heap_alloc_new w _)
  have hcb : CapI ((w.alloc (.cells #[.int .i64 a] 3)).alloc (.cells #[.int .i64 b] 3)) (w.heap.size + 1) b := by
    have := heap_alloc_new (w.alloc (.cells #[.int .i64 a] 3)) (.cells #[.int .i64 b] 3)
    rwa [World.size_alloc] at this
  obtain ⟨W2, hW2⟩ : ∃ W, (w.alloc (.cells #[.int .i64 a] 3)).alloc (.cells #[.int .i64 b] 3) = W := ⟨_, rfl⟩
  rw [hW2] at hw2 hca hcb
  have HRU := Lib.hid (rule_numbered (N0 := N0) W2 (do_steps (W0 := W2.alloc (.cells #[.func (.func 86) #[] #[.pointer (some ⟨w.heap.size, 0, none⟩), .pointer (some ⟨w.heap.size + 1, 0, none⟩)]] 135)) (N0 := N0) ha hb' ((Below.heap_alloc _ _ _ (block_lt hca)).trans hca) ((Below.heap_alloc _ _ _ (block_lt hcb)).trans hcb) hN (by omega)) (Nat.le_trans hN hw2.size))
  have HW2 := Lib.hid hw2
  clear hw2 hca hcb ha hb'
  go_enter Tryz.func65, Tryz.ntmps65
  go_upto_region 1 with fail
  try rw [hW2]
  clear hW2
  go_wp2_with (go_at_call 66; refine HRU.out.mono ?_; rintro e w3 ⟨c, rfl, hr, hb3⟩; have HR3 := Lib.hid hr; have HB3 := Lib.hid hb3; clear hr hb3)
  go_ret
  exact ⟨c, rfl, HR3.out, HW2.out.trans (HB3.out.mono HW2.out.size)⟩
theorem wraps_ok (b : Bool) (N0 : Nat) (w : World) (hN : N0 ≤ w.heap.size) : Calls Tryz.prog 74 #[.bool b] w fun e w' => ∃ c, e = .returned (.func (.func 93) #[] #[.pointer (some ⟨c, 0, none⟩)]) ∧ RuleF w' N0 (.func (.func 93) #[] #[.pointer (some ⟨c, 0, none⟩)]) (fun A s => if s = [61, 55] ∨ s = [63, 55] then { A with wrap := b } else A) ∧ Below w.heap.size w w' := by
  have HR : Hid (RuleF (w.alloc (.cells #[.bool b] 4)) N0 (.func (.func 93) #[] #[.pointer (some ⟨w.heap.size, 0, none⟩)]) (fun A s => if s = [61, 55] ∨ s = [63, 55] then { A with wrap := b } else A)) := by
    refine ⟨_, _, rfl, enters_of Tryz.func93 (by kernel_rfl) rfl, fun w1 P G0 G A s hG hK hA hs hl => ?_⟩
    have hx := heap_alloc_new w (.cells #[.bool b] 4)
    exact an_wraps hA ((hK.block _ (block_lt hx) (fun hg => by have := hG _ hg; omega)).trans hx) s
  go_enter Tryz.func74, Tryz.ntmps74
  go_wp2_with fail
  go_ret
  exact ⟨_, rfl, HR.out, below1 w _⟩
theorem rule_told (W0 : World) (N0 : Nat) : RuleF W0 N0 (.func (.func 75) #[] #[]) (fun A _ => A) := by
  refine ⟨_, _, rfl, enters_of Tryz.func75 (by kernel_rfl) rfl, fun w1 P G0 G A s hG hK hA hs hl => ?_⟩
  exact an_told hA ⟨s.toArray⟩ (by show s.toArray.size ≤ _; simp; omega)
end Go.Proofs.YtmgeghoalmonoaaGreatDoor
