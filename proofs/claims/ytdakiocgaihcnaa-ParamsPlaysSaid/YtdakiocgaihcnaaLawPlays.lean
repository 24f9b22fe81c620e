/- The walk of ParamsPlays. -/
import Derived.Test.YtdakiocgaihcnaaBufR
import Derived.Test.YtdakiocgaihcnaaPlainC
import Derived.Deep.RegionHeld3
import Derived.Deep.DeepCutAuto
namespace Go.Proofs.Ytdakiocgaihcnaa
open Go.RowKit

theorem ownsRow_ne {W : World} {base : Nat} {e e' : TypeId} {size : Nat} {v : Value} {k : Nat} {xs : List Value} (h : W.ownsRow base e size v k xs) {b : Nat} {cs : Array Value} {fr : Nat × Nat} (hb : W.heap[b]? = some (.cells cs e' fr)) (hne : e ≠ e') : v.ownBlock ≠ some b := by
  rcases h.2 with ⟨rfl, _⟩ | ⟨g, cap, cur, rfl, _, hg, _⟩
  · simp [Value.ownBlock]
  · intro he
    obtain rfl : g = b := by simpa [Value.ownBlock] using he
    rw [hg] at hb
    cases hb
    exact hne rfl
theorem two_ne {base : Nat} {W : World} {g gx : Nat} {v : Value} {l l' : List UInt8} {most lost most' lost' : Int} (h : Buf base W g v l most lost) (k : RBuf base W gx l' most' lost') : g ≠ gx := by
  rintro rfl
  have h1 := h.2.1
  rw [k.2] at h1
  injection h1 with h1
  injection h1 with _ ht
  exact absurd ht (by decide)
/-- What turns the reference's buffer alone keeps the other one. -/
theorem Buf.keepR {base : Nat} {W W' : World} {g gx : Nat} {v : Value} {l l' : List UInt8} {most lost most' lost' : Int} (h : Buf base W g v l most lost) (k : RBuf base W gx l' most' lost') (hb : Below base W W')
    (ho : ∀ i, i ≠ gx → i < W.heap.size → W'.heap[i]? = W.heap[i]?) : Buf base W' g v l most lost :=
  ⟨h.1, (ho g (two_ne h k) h.lt).trans h.2.1, h.2.2.kept (row := some gx) ⟨hb.os, hb.tape, hb.output, hb.size, fun i hi hne => ho i (fun e => hne (by rw [e])) hi⟩ (.inr (ownsRow_ne h.2.2 k.2 (by decide)))⟩

/-- Both buffers, told alike. -/
def Both (base : Nat) (W : World) (g gx : Nat) (l : List UInt8) (M d : Int) : Prop := (∃ v, Buf base W g v l M d) ∧ RBuf base W gx l M d ∧ base ≤ W.heap.size

theorem both_push1 (base g gx : Nat) (l : List UInt8) (M d : Int) (x : UInt8) (w : World) (h : Both base w g gx l M d) (hm : (l.length : Int) < M) (hl : l.length ≤ 1000) :
    Calls Try.prog 15 #[.pointer (some ⟨g, 0, none⟩), .int .u8 x.toNat] w fun e w' => e = .returned (.bool true) ∧ ((∃ v, Buf base w' g v (l ++ [x]) M d) ∧ RBuf base w' gx l M d ∧ base ≤ w'.heap.size) ∧ Below base w w' := by
  obtain ⟨⟨v, hb⟩, hr, hbase⟩ := h
  refine (push_room base g v l M d x w hb hbase hm (by omega)).mono ?_
  rintro e w' ⟨rfl, v', hb', hB, ho⟩
  exact ⟨rfl, ⟨⟨v', hb'⟩, ⟨hr.1, ho gx _ (two_ne hb hr).symm hr.lt hr.2 (fun cs e => by injection e with _ ht; exact absurd ht (by decide))⟩, Nat.le_trans hbase hB.size⟩, hB⟩
theorem both_push2 (base g gx : Nat) (l : List UInt8) (M d : Int) (x : UInt8) (w : World) (hb : ∃ v, Buf base w g v (l ++ [x]) M d) (hr : RBuf base w gx l M d) (hbase : base ≤ w.heap.size) (hm : (l.length : Int) < M) (hl : l.length ≤ 1000) :
    Calls Try.prog 21 #[.pointer (some ⟨gx, 0, none⟩), .int .u8 x.toNat] w fun e w' => e = .returned (.bool true) ∧ Both base w' g gx (l ++ [x]) M d ∧ Below base w w' := by
  obtain ⟨v, hb⟩ := hb
  refine (rpush_room base gx l M d x w hr hbase hm (by omega)).mono ?_
  rintro e w' ⟨rfl, hr', hB, hs, ho⟩
  exact ⟨rfl, ⟨⟨v, hb.keepR hr hB ho⟩, hr', Nat.le_trans hbase hs⟩, hB⟩
theorem both_full1 (base g gx : Nat) (l : List UInt8) (M : Int) (d : Nat) (x : UInt8) (w : World) (h : Both base w g gx l M d) (hm : M ≤ (l.length : Int)) (hl : l.length ≤ 1000) (hd : d ≤ 1000) :
    Calls Try.prog 15 #[.pointer (some ⟨g, 0, none⟩), .int .u8 x.toNat] w fun e w' => e = .returned (.bool false) ∧ ((∃ v, Buf base w' g v l M (d + 1 : Nat)) ∧ RBuf base w' gx l M d ∧ base ≤ w'.heap.size) ∧ Below base w w' := by
  obtain ⟨⟨v, hb⟩, hr, hbase⟩ := h
  refine (push_full base g v l M d x.toNat w hb hm (by omega) (by omega) (by omega)).mono ?_
  rintro e w' ⟨rfl, hb', hB, hs, ho⟩
  exact ⟨rfl, ⟨⟨v, by simpa using hb'⟩, ⟨hr.1, (ho gx (two_ne hb hr).symm).trans hr.2⟩, by omega⟩, hB⟩
theorem both_full2 (base g gx : Nat) (l : List UInt8) (M : Int) (d : Nat) (x : UInt8) (w : World) (hb : ∃ v, Buf base w g v l M (d + 1 : Nat)) (hr : RBuf base w gx l M d) (hbase : base ≤ w.heap.size) (hm : M ≤ (l.length : Int)) (hl : l.length ≤ 1000) (hd : d ≤ 1000) :
    Calls Try.prog 21 #[.pointer (some ⟨gx, 0, none⟩), .int .u8 x.toNat] w fun e w' => e = .returned (.bool false) ∧ Both base w' g gx l M (d + 1 : Nat) ∧ Below base w w' := by
  obtain ⟨v, hb⟩ := hb
  refine (rpush_full base gx l M d x.toNat w hr hm (by omega) (by omega) (by omega)).mono ?_
  rintro e w' ⟨rfl, hr', hB, hs, ho⟩
  exact ⟨rfl, ⟨⟨v, hb.keepR hr hB (fun i hi _ => ho i hi)⟩, by simpa using hr', by omega⟩, hB⟩
theorem both_bytes (base g gx : Nat) (l : List UInt8) (M d : Int) (w : World) (h : Both base w g gx l M d) :
    Calls Try.prog 16 #[.pointer (some ⟨g, 0, none⟩)] w fun e w' => e = .returned (.string ⟨l.toArray⟩) ∧ w = w' := by obtain ⟨⟨v, hb⟩, -⟩ := h; exact bytes_any base g v l M d w hb
theorem both_len (base g gx : Nat) (l : List UInt8) (M d : Int) (w : World) (h : Both base w g gx l M d) :
    Calls Try.prog 20 #[.pointer (some ⟨g, 0, none⟩)] w fun e w' => e = .returned (.int .i64 l.length) ∧ w = w' := by obtain ⟨⟨v, hb⟩, -⟩ := h; exact len_any base g v l M d w hb
theorem both_lost (base g gx : Nat) (l : List UInt8) (M d : Int) (w : World) (h : Both base w g gx l M d) :
    Calls Try.prog 17 #[.pointer (some ⟨g, 0, none⟩)] w fun e w' => e = .returned (.int .i64 d) ∧ w = w' := by obtain ⟨⟨v, hb⟩, -⟩ := h; exact lost_any base g v l M d w hb
theorem both_reset (base g gx : Nat) (l : List UInt8) (M d : Int) (w : World) (h : Both base w g gx l M d) :
    Calls Try.prog 19 #[.pointer (some ⟨g, 0, none⟩)] w fun e w' => (∃ u, e = .returned u) ∧ (∃ v, Buf base w' g v [] M 0) ∧ base ≤ w'.heap.size ∧ Below base w w' := by
  obtain ⟨⟨v, hb⟩, hr, hbase⟩ := h
  refine (reset_any base g v l M d w hb).mono ?_
  rintro e w' ⟨hu, hb', hB, hs, ho⟩
  exact ⟨hu, ⟨_, hb'⟩, by omega, hB⟩
theorem both_new (base g : Nat) (M : Int) (w : World) (hb : ∃ v, Buf base w g v [] M 0) (hbase : base ≤ w.heap.size) :
    Both base (w.alloc (.cells #[.string ⟨#[]⟩, .int .i64 M, .int .i64 0] 42)) g w.heap.size [] M 0 := by
  obtain ⟨v, hb⟩ := hb
  exact ⟨⟨v, hb.below ((Below.refl _ w).alloc (Nat.le_refl _) _)⟩, ⟨hbase, row_at w _⟩, by simp; omega⟩
theorem Both.drewN {base : Nat} {w : World} {g gx : Nat} {l : List UInt8} {M d : Int} (h : Both base w g gx l M d) (q : Nat) : Both base (w.drewN q) g gx l M d := h

theorem both_step (base g gx : Nat) (l : List UInt8) (M d : Nat) (x : UInt8) (hl : l.length ≤ 400) (hd : d ≤ 400) :
    ∃ (r : Bool) (l' : List UInt8) (d' : Nat), l'.length ≤ l.length + 1 ∧ d' ≤ d + 1 ∧
      (∀ W, Both base W g gx l M d → Calls Try.prog 15 #[.pointer (some ⟨g, 0, none⟩), .int .u8 x.toNat] W fun e w' => e = .returned (.bool r) ∧ ((∃ v, Buf base w' g v l' M d') ∧ RBuf base w' gx l M d ∧ base ≤ w'.heap.size) ∧ Below base W w') ∧
      (∀ W, (∃ v, Buf base W g v l' M d') → RBuf base W gx l M d → base ≤ W.heap.size → Calls Try.prog 21 #[.pointer (some ⟨gx, 0, none⟩), .int .u8 x.toNat] W fun e w' => e = .returned (.bool r) ∧ Both base w' g gx l' M d' ∧ Below base W w') := by
  by_cases hm : l.length < M
  · exact ⟨true, l ++ [x], d, by simp, by omega, fun W h => both_push1 base g gx l M d x W h (by omega) (by omega), fun W h1 h2 h3 => both_push2 base g gx l M d x W h1 h2 h3 (by omega) (by omega)⟩
  · exact ⟨false, l, d + 1, by omega, by omega, fun W h => both_full1 base g gx l M d x W h (by omega) (by omega) (by omega), fun W h1 h2 h3 => both_full2 base g gx l M d x W h1 h2 h3 (by omega) (by omega) (by omega)⟩

theorem wpAnyH_mono {P : Program} {md : Region.Mode} {ops : Array Oper} {Q : Exit → Act → World → Prop} {S S' : World → Prop} (h : ∀ w, S' w → S w) :
    ∀ (fuel : Nat) (listed : Array Bool) (a : Act) (w : World), wpAnyH P md ops Q S' fuel listed a w → wpAnyH P md ops Q S fuel listed a w
  | 0, _, _, _, H => H
  | fuel + 1, _, _, _, H => ⟨H.1, fun i hi => wpOp_mono (fun a' w' h' => ⟨h _ h'.1, wpAnyH_mono h fuel _ a' w' h'.2⟩) (H.2 i hi)⟩

set_option maxHeartbeats 16000000 in
set_option maxRecDepth 100000 in
theorem law_plays (most : Int) (s : ByteArray) (reset : Int) (hs : s.size ≤ maxLen) (w : World) :
    Calls Try.prog 8 #[.int .i64 most, .string s, .int .i64 reset] w fun e w' => e = .returned (.bool true) ∧ Below w.heap.size w w' := by
  unfold maxLen at hs
  by_cases hm : most < 1 ∨ 64 < most
  · have HN := Lib.hid (new_no most hm w)
    have HA := Lib.hid awake_any
    rcases hm with hm | hm
    all_goals
      clear hs
      go_enter Try.func8, Try.ntmps8
      go_wp2_with (first | (go_at_call 14; refine HN.out.mono ?_; rintro e w1 ⟨rfl, rfl⟩) | (go_at_call 9; refine (HA.out _).mono ?_; rintro e w2 ⟨rfl, hB2⟩))
      go_ret
      exact ⟨rfl, hB2⟩
  have hm1 : 1 ≤ most := by omega
  have hm2 : most ≤ 64 := by omega
  clear hm
  have HN := Lib.hid (new_ok most hm1 hm2 w)
  have HA := Lib.hid awake_any
  have hB1 : Below w.heap.size w (w.alloc (.cells #[.slice none 0 0, .int .i64 most, .int .i64 0] 53)) := (Below.refl _ _).alloc (Nat.le_refl _) _
  by_cases hl : 300 < s.size
  · clear hs
    go_enter Try.func8, Try.ntmps8
    go_wp2_with (first | (go_at_call 14; refine HN.out.mono ?_; rintro e w1 ⟨rfl, rfl⟩) | (go_at_call 9; refine (HA.out _).mono ?_; rintro e w2 ⟨rfl, hB2⟩))
    go_ret
    exact ⟨rfl, below_join hB1 hB2⟩
  clear hs
  obtain ⟨M, rfl⟩ := Int.eq_ofNat_of_zero_le (by omega : 0 ≤ most)
  have hbuf : Buf w.heap.size (w.alloc (.cells #[.slice none 0 0, .int .i64 M, .int .i64 0] 53)) w.heap.size (.slice none 0 0) [] M 0 :=
    ⟨Nat.le_refl _, by show (w.heap.push _)[w.heap.size]? = _; simp, World.ownsRow_nil _ _ _ _⟩
  have hboth := both_new w.heap.size w.heap.size M _ ⟨_, hbuf⟩ hB1.size
  rw [World.size_alloc] at hboth
  have hB2 : Below w.heap.size w ((w.alloc (.cells #[.slice none 0 0, .int .i64 M, .int .i64 0] 53)).alloc (.cells #[.string ⟨#[]⟩, .int .i64 M, .int .i64 0] 42)) := hB1.alloc hB1.size _
  have HBO := Lib.hid hboth
  clear hbuf hboth
  go_enter Try.func8, Try.ntmps8
  go_wp2_with (go_at_call 14; refine HN.out.mono ?_; rintro e w2 ⟨rfl, rfl⟩)
  go_loopw [9, 10] (fun x i wr => ∃ (k d gx : Nat) (l : List UInt8), k ≤ s.size ∧ l.length ≤ k ∧ d ≤ k ∧ i = .int .i64 k ∧ x = .pointer (some ⟨gx, 0, none⟩) ∧ Both w.heap.size wr w.heap.size gx l M d ∧ Below w.heap.size w wr) (fun _ i _ => s.size - (intOf i).toNat)
  case atStart => exact ⟨0, 0, _, [], Nat.zero_le _, Nat.le_refl _, Nat.le_refl _, rfl, rfl, HBO.out, hB2⟩
  case round =>
    obtain ⟨k, d, gx, l, hk, hlk, hd, rfl, rfl, hbo, hB⟩ := hrel
    by_cases hlt : k < s.size
    · by_cases hr : (k : Int) = reset
      · have hrb : ((k : Int) == reset) = true := by simp [hr]
        have HRS := Lib.hid (both_reset w.heap.size w.heap.size gx l M d wr hbo)
        clear hbo hr
        go_upto_region 13 with (go_at_call 19; refine HRS.out.mono ?_; rintro e w2 ⟨⟨u, rfl⟩, hb2, hbs, hB22⟩)
        have HB := Lib.hid (both_new w.heap.size w.heap.size M w2 hb2 hbs)
        have hBW := (hB.trans hB22).alloc hbs (.cells #[.string ⟨#[]⟩, .int .i64 M, .int .i64 0] 42)
        clear hb2 hB HRS
        obtain ⟨r, l', d', hl', hd', h1, h2⟩ := both_step w.heap.size w.heap.size w2.heap.size [] M 0 (s[k]'hlt) (by simp) (by omega)
        have H1 := Lib.hid h1
        have H2 := Lib.hid h2
        have hsz : (⟨l'.toArray⟩ : ByteArray).size = l'.length := by show l'.toArray.size = _; simp
        have HY := Lib.hid (both_bytes w.heap.size w.heap.size w2.heap.size l' M d')
        have HLN := Lib.hid (both_len w.heap.size w.heap.size w2.heap.size l' M d')
        have HLO := Lib.hid (both_lost w.heap.size w.heap.size w2.heap.size l' M d')
        have HC := Lib.hid (fun W (h : Both w.heap.size W w.heap.size w2.heap.size l' M d') => h.2.1.cell)
        generalize hS : (⟨l'.toArray⟩ : ByteArray) = S at hsz HY HC
        have HL' := Lib.hid hl'
        have HD' := Lib.hid hd'
        clear h1 h2 hS hl' hd'
        go_cut [110] from 72 to 110 (fun c wx => c = .bool false ∧ Both w.heap.size wx w.heap.size w2.heap.size l' M d' ∧ Below w.heap.size w wx)
        case first =>
          refine wp_region_noPanic ?_
          refine wp_region_held_drew (S := fun _ : World => True) (by kernel_rfl) trivial (fun hHeld => ?_)
          refine wpAnyH_take (i := 0) (v := ?_) rfl (by kernel_rfl) (by kernel_rfl) (by kernel_rfl) (fun _ _ _ h => h) (Or.inl ⟨by rfl, ?hy0⟩) hHeld ?_
          case hy0 => (intro w hSw; (try dsimp only at hSw); go_simp; try with_reducible rfl)
          try simp only [Act.put, List.getElem_toArray, List.getElem_cons_zero, List.getElem_cons_succ, List.setIfInBounds_toArray, List.set_cons_zero, List.set_cons_succ]
          refine wpAnyH_take (i := 1) (v := ?_) rfl (by kernel_rfl) (by kernel_rfl) (by kernel_rfl) (fun _ _ _ h => h) (Or.inl ⟨by rfl, ?hy1⟩) hHeld ?_
          case hy1 => (intro w hSw; (try dsimp only at hSw); go_simp; try with_reducible rfl)
          try simp only [Act.put, List.getElem_toArray, List.getElem_cons_zero, List.getElem_cons_succ, List.setIfInBounds_toArray, List.set_cons_zero, List.set_cons_succ]
          refine wpAnyH_take (i := 2) (v := ?_) rfl (by kernel_rfl) (by kernel_rfl) (by kernel_rfl) (fun _ _ _ h => h) (Or.inl ⟨by rfl, ?hy2⟩) hHeld ?_
          case hy2 => (intro w hSw; (try dsimp only at hSw); go_simp; try with_reducible rfl)
          try simp only [Act.put, List.getElem_toArray, List.getElem_cons_zero, List.getElem_cons_succ, List.setIfInBounds_toArray, List.set_cons_zero, List.set_cons_succ]
          refine wpAnyH_take (i := 3) (v := ?_) rfl (by kernel_rfl) (by kernel_rfl) (by kernel_rfl) (fun _ _ _ h => h) (Or.inl ⟨by rfl, ?hy3⟩) hHeld ?_
          case hy3 => (intro w hSw; (try dsimp only at hSw); go_simp; try with_reducible rfl)
          try simp only [Act.put, List.getElem_toArray, List.getElem_cons_zero, List.getElem_cons_succ, List.setIfInBounds_toArray, List.set_cons_zero, List.set_cons_succ]
          refine wpAnyH_take (i := 5) (v := ?_) rfl (by kernel_rfl) (by kernel_rfl) (by kernel_rfl) (fun _ _ _ h => h) (Or.inl ⟨by rfl, ?hy5⟩) hHeld ?_
          case hy5 => (intro w hSw; (try dsimp only at hSw); go_simp; try with_reducible rfl)
          try simp only [Act.put, List.getElem_toArray, List.getElem_cons_zero, List.getElem_cons_succ, List.setIfInBounds_toArray, List.set_cons_zero, List.set_cons_succ]
          refine wpAnyH_take (i := 6) (v := ?_) rfl (by kernel_rfl) (by kernel_rfl) (by kernel_rfl) (fun _ _ _ h => h) (Or.inl ⟨by rfl, ?hy6⟩) hHeld ?_
          case hy6 => (intro w hSw; (try dsimp only at hSw); go_simp; try with_reducible rfl)
          try simp only [Act.put, List.getElem_toArray, List.getElem_cons_zero, List.getElem_cons_succ, List.setIfInBounds_toArray, List.set_cons_zero, List.set_cons_succ]
          refine wpAnyH_take (i := 7) (v := ?_) rfl (by kernel_rfl) (by kernel_rfl) (by kernel_rfl) (fun _ _ _ h => h) (Or.inl ⟨by rfl, ?hy7⟩) hHeld ?_
          case hy7 => (intro w hSw; (try dsimp only at hSw); go_simp; try with_reducible rfl)
          try simp only [Act.put, List.getElem_toArray, List.getElem_cons_zero, List.getElem_cons_succ, List.setIfInBounds_toArray, List.set_cons_zero, List.set_cons_succ]
          refine wpAnyH_take (i := 8) (v := ?_) rfl (by kernel_rfl) (by kernel_rfl) (by kernel_rfl) (fun _ _ _ h => h) (Or.inl ⟨by rfl, ?hy8⟩) hHeld ?_
          case hy8 => (intro w hSw; (try dsimp only at hSw); go_simp; try with_reducible rfl)
          try simp only [Act.put, List.getElem_toArray, List.getElem_cons_zero, List.getElem_cons_succ, List.setIfInBounds_toArray, List.set_cons_zero, List.set_cons_succ]
          refine wpAnyH_ready (rs := [4]) (by kernel_rfl) (by simp) ?_
          refine AllReadyH.cons rfl (fun K hK => ?_) AllReadyH.nil
          go_simp
          go_at_call 15; refine (H1.out _ (HB.out.drewN 1)).mono ?_; rintro e w4 ⟨rfl, ⟨hq1, hq2, hq3⟩, hq4⟩
          go_wp2_with fail
          refine hK.out _ _ trivial (fun hHeld2 => ?_)
          clear hK K hHeld
          have hHeld := hHeld2
          clear hHeld2
          try simp only [Act.put, List.getElem_toArray, List.getElem_cons_zero, List.getElem_cons_succ, List.setIfInBounds_toArray, List.set_cons_zero, List.set_cons_succ]
          refine wpAnyH_ready (rs := [9]) (by kernel_rfl) (by simp) ?_
          refine AllReadyH.cons rfl (fun K hK => ?_) AllReadyH.nil
          go_simp
          go_at_call 21; refine (H2.out _ hq1 hq2 hq3).mono ?_; rintro e w5 ⟨rfl, hq5, hq6⟩; obtain ⟨c0, c1, c2⟩ := HC.out _ hq5
          go_wp2_with fail
          refine hK.out _ _ trivial (fun hHeld => ?_)
          refine wpAnyH_mono (S' := fun W : World => W.cell? ⟨w2.heap.size, 0, none⟩ = some (.string S) ∧ W.cell? ⟨w2.heap.size, 2, none⟩ = some (.int .i64 d')) (fun _ _ => trivial) _ _ _ _ ?_
          have hHeld2 : w5.cell? ⟨w2.heap.size, 0, none⟩ = some (.string S) ∧ w5.cell? ⟨w2.heap.size, 2, none⟩ = some (.int .i64 d') := ⟨c0, c2⟩
          clear hHeld hK K
          try simp only [Act.put, List.getElem_toArray, List.getElem_cons_zero, List.getElem_cons_succ, List.setIfInBounds_toArray, List.set_cons_zero, List.set_cons_succ]
          refine wpAnyH_take (i := 10) (v := ?_) rfl (by kernel_rfl) (by kernel_rfl) (by kernel_rfl) (fun _ _ _ h => h) (Or.inl ⟨by rfl, ?hy10⟩) hHeld2 ?_
          case hy10 => (intro w hSw; (try dsimp only at hSw); go_simp; try with_reducible rfl)
          try simp only [Act.put, List.getElem_toArray, List.getElem_cons_zero, List.getElem_cons_succ, List.setIfInBounds_toArray, List.set_cons_zero, List.set_cons_succ]
          refine wpAnyH_take (i := 11) (v := ?_) rfl (by kernel_rfl) (by kernel_rfl) (by kernel_rfl) (fun _ _ _ h => h) (Or.inl ⟨by rfl, ?hy11⟩) hHeld2 ?_
          case hy11 => (intro w hSw; (try dsimp only at hSw); go_simp; try with_reducible rfl)
          try simp only [Act.put, List.getElem_toArray, List.getElem_cons_zero, List.getElem_cons_succ, List.setIfInBounds_toArray, List.set_cons_zero, List.set_cons_succ]
          refine wpAnyH_take (i := 12) (v := ?_) rfl (by kernel_rfl) (by kernel_rfl) (by kernel_rfl) (fun _ _ _ h => h) (Or.inl ⟨by rfl, ?hy12⟩) hHeld2 ?_
          case hy12 => (intro w hSw; (try dsimp only at hSw); go_simp; try with_reducible rfl)
          try simp only [Act.put, List.getElem_toArray, List.getElem_cons_zero, List.getElem_cons_succ, List.setIfInBounds_toArray, List.set_cons_zero, List.set_cons_succ]
          refine wpAnyH_take (i := 14) (v := ?_) rfl (by kernel_rfl) (by kernel_rfl) (by kernel_rfl) (fun _ _ _ h => h) (Or.inl ⟨by rfl, ?hy14⟩) hHeld2 ?_
          case hy14 => (intro w hSw; (try dsimp only at hSw); go_simp; try with_reducible rfl)
          try simp only [Act.put, List.getElem_toArray, List.getElem_cons_zero, List.getElem_cons_succ, List.setIfInBounds_toArray, List.set_cons_zero, List.set_cons_succ]
          refine wpAnyH_take (i := 15) (v := ?_) rfl (by kernel_rfl) (by kernel_rfl) (by kernel_rfl) (fun _ _ _ h => h) (Or.inl ⟨by rfl, ?hy15⟩) hHeld2 ?_
          case hy15 => (intro w hSw; (try dsimp only at hSw); go_simp; try with_reducible rfl)
          try simp only [Act.put, List.getElem_toArray, List.getElem_cons_zero, List.getElem_cons_succ, List.setIfInBounds_toArray, List.set_cons_zero, List.set_cons_succ]
          refine wpAnyH_take (i := 16) (v := ?_) rfl (by kernel_rfl) (by kernel_rfl) (by kernel_rfl) (fun _ _ _ h => h) (Or.inl ⟨by rfl, ?hy16⟩) hHeld2 ?_
          case hy16 => (intro w hSw; (try dsimp only at hSw); go_simp; try with_reducible rfl)
          try simp only [Act.put, List.getElem_toArray, List.getElem_cons_zero, List.getElem_cons_succ, List.setIfInBounds_toArray, List.set_cons_zero, List.set_cons_succ]
          refine wpAnyH_take (i := 17) (v := ?_) rfl (by kernel_rfl) (by kernel_rfl) (by kernel_rfl) (fun _ _ _ h => h) (Or.inl ⟨by rfl, ?hy17⟩) hHeld2 ?_
          case hy17 => (intro w hSw; (try dsimp only at hSw); go_simp; try with_reducible rfl)
          try simp only [Act.put, List.getElem_toArray, List.getElem_cons_zero, List.getElem_cons_succ, List.setIfInBounds_toArray, List.set_cons_zero, List.set_cons_succ]
          refine wpAnyH_ready (rs := [13]) (by kernel_rfl) (by simp) ?_
          refine AllReadyH.cons rfl (fun K hK => ?_) AllReadyH.nil
          go_simp
          go_at_call 16; refine (HY.out _ hq5).mono ?_; rintro e w6 ⟨rfl, rfl⟩
          go_wp2_with fail
          refine hK.out _ _ ⟨c0, c2⟩ (fun _ => ?_)
          clear hK K
          try simp only [Act.put, List.getElem_toArray, List.getElem_cons_zero, List.getElem_cons_succ, List.setIfInBounds_toArray, List.set_cons_zero, List.set_cons_succ]
          refine wpAnyH_take (i := 18) (v := ?_) rfl (by kernel_rfl) (by kernel_rfl) (by kernel_rfl) (fun _ _ _ h => h) (Or.inl ⟨by rfl, ?hy18⟩) hHeld2 ?_
          case hy18 => (intro w hSw; (try dsimp only at hSw); go_simp; try with_reducible rfl)
          try simp only [Act.put, List.getElem_toArray, List.getElem_cons_zero, List.getElem_cons_succ, List.setIfInBounds_toArray, List.set_cons_zero, List.set_cons_succ]
          refine wpAnyH_take (i := 19) (v := ?_) rfl (by kernel_rfl) (by kernel_rfl) (by kernel_rfl) (fun _ _ _ h => h) (Or.inl ⟨by rfl, ?hy19⟩) hHeld2 ?_
          case hy19 => (intro w hSw; (try dsimp only at hSw); go_simp; try with_reducible rfl)
          try simp only [Act.put, List.getElem_toArray, List.getElem_cons_zero, List.getElem_cons_succ, List.setIfInBounds_toArray, List.set_cons_zero, List.set_cons_succ]
          refine wpAnyH_take (i := 20) (v := ?_) rfl (by kernel_rfl) (by kernel_rfl) (by kernel_rfl) (fun _ _ _ h => h) (Or.inl ⟨by rfl, ?hy20⟩) hHeld2 ?_
          case hy20 => (intro w hSw; (try dsimp only at hSw); go_simp; try with_reducible rfl)
          try simp only [Act.put, List.getElem_toArray, List.getElem_cons_zero, List.getElem_cons_succ, List.setIfInBounds_toArray, List.set_cons_zero, List.set_cons_succ]
          refine wpAnyH_take (i := 21) (v := ?_) rfl (by kernel_rfl) (by kernel_rfl) (by kernel_rfl) (fun _ _ _ h => h) (Or.inl ⟨by rfl, ?hy21⟩) hHeld2 ?_
          case hy21 => (intro w hSw; (try dsimp only at hSw); go_simp; try with_reducible rfl)
          try simp only [Act.put, List.getElem_toArray, List.getElem_cons_zero, List.getElem_cons_succ, List.setIfInBounds_toArray, List.set_cons_zero, List.set_cons_succ]
          refine wpAnyH_take (i := 23) (v := ?_) rfl (by kernel_rfl) (by kernel_rfl) (by kernel_rfl) (fun _ _ _ h => h) (Or.inl ⟨by rfl, ?hy23⟩) hHeld2 ?_
          case hy23 => (intro w hSw; (try dsimp only at hSw); go_simp; try with_reducible rfl)
          try simp only [Act.put, List.getElem_toArray, List.getElem_cons_zero, List.getElem_cons_succ, List.setIfInBounds_toArray, List.set_cons_zero, List.set_cons_succ]
          refine wpAnyH_take (i := 24) (v := ?_) rfl (by kernel_rfl) (by kernel_rfl) (by kernel_rfl) (fun _ _ _ h => h) (Or.inl ⟨by rfl, ?hy24⟩) hHeld2 ?_
          case hy24 => (intro w hSw; (try dsimp only at hSw); go_simp; try with_reducible rfl)
          try simp only [Act.put, List.getElem_toArray, List.getElem_cons_zero, List.getElem_cons_succ, List.setIfInBounds_toArray, List.set_cons_zero, List.set_cons_succ]
          refine wpAnyH_take (i := 25) (v := ?_) rfl (by kernel_rfl) (by kernel_rfl) (by kernel_rfl) (fun _ _ _ h => h) (Or.inl ⟨by rfl, ?hy25⟩) hHeld2 ?_
          case hy25 => (intro w hSw; (try dsimp only at hSw); go_simp; try with_reducible rfl)
          try simp only [Act.put, List.getElem_toArray, List.getElem_cons_zero, List.getElem_cons_succ, List.setIfInBounds_toArray, List.set_cons_zero, List.set_cons_succ]
          refine wpAnyH_take (i := 26) (v := ?_) rfl (by kernel_rfl) (by kernel_rfl) (by kernel_rfl) (fun _ _ _ h => h) (Or.inl ⟨by rfl, ?hy26⟩) hHeld2 ?_
          case hy26 => (intro w hSw; (try dsimp only at hSw); go_simp; try with_reducible rfl)
          try simp only [Act.put, List.getElem_toArray, List.getElem_cons_zero, List.getElem_cons_succ, List.setIfInBounds_toArray, List.set_cons_zero, List.set_cons_succ]
          refine wpAnyH_take (i := 27) (v := ?_) rfl (by kernel_rfl) (by kernel_rfl) (by kernel_rfl) (fun _ _ _ h => h) (Or.inl ⟨by rfl, ?hy27⟩) hHeld2 ?_
          case hy27 => (intro w hSw; (try dsimp only at hSw); go_simp; try with_reducible rfl)
          try simp only [Act.put, List.getElem_toArray, List.getElem_cons_zero, List.getElem_cons_succ, List.setIfInBounds_toArray, List.set_cons_zero, List.set_cons_succ]
          refine wpAnyH_ready (rs := [22]) (by kernel_rfl) (by simp) ?_
          refine AllReadyH.cons rfl (fun K hK => ?_) AllReadyH.nil
          go_simp
          go_at_call 20; refine (HLN.out _ hq5).mono ?_; rintro e w6 ⟨rfl, rfl⟩
          go_wp2_with fail
          refine hK.out _ _ ⟨c0, c2⟩ (fun _ => ?_)
          clear hK K
          try simp only [Act.put, List.getElem_toArray, List.getElem_cons_zero, List.getElem_cons_succ, List.setIfInBounds_toArray, List.set_cons_zero, List.set_cons_succ]
          refine wpAnyH_take (i := 28) (v := ?_) rfl (by kernel_rfl) (by kernel_rfl) (by kernel_rfl) (fun _ _ _ h => h) (Or.inl ⟨by rfl, ?hy28⟩) hHeld2 ?_
          case hy28 => (intro w hSw; (try dsimp only at hSw); go_simp; try with_reducible rfl)
          try simp only [Act.put, List.getElem_toArray, List.getElem_cons_zero, List.getElem_cons_succ, List.setIfInBounds_toArray, List.set_cons_zero, List.set_cons_succ]
          refine wpAnyH_take (i := 29) (v := ?_) rfl (by kernel_rfl) (by kernel_rfl) (by kernel_rfl) (fun _ _ _ h => h) (Or.inl ⟨by rfl, ?hy29⟩) hHeld2 ?_
          case hy29 => (intro w hSw; (try dsimp only at hSw); go_simp; try with_reducible rfl)
          try simp only [Act.put, List.getElem_toArray, List.getElem_cons_zero, List.getElem_cons_succ, List.setIfInBounds_toArray, List.set_cons_zero, List.set_cons_succ]
          refine wpAnyH_take (i := 30) (v := ?_) rfl (by kernel_rfl) (by kernel_rfl) (by kernel_rfl) (fun _ _ _ h => h) (Or.inl ⟨by rfl, ?hy30⟩) hHeld2 ?_
          case hy30 => (intro w hSw; (try dsimp only at hSw); go_simp; try with_reducible rfl)
          try simp only [Act.put, List.getElem_toArray, List.getElem_cons_zero, List.getElem_cons_succ, List.setIfInBounds_toArray, List.set_cons_zero, List.set_cons_succ]
          refine wpAnyH_take (i := 31) (v := ?_) rfl (by kernel_rfl) (by kernel_rfl) (by kernel_rfl) (fun _ _ _ h => h) (Or.inl ⟨by rfl, ?hy31⟩) hHeld2 ?_
          case hy31 => (intro w hSw; (try dsimp only at hSw); go_simp; try with_reducible rfl)
          try simp only [Act.put, List.getElem_toArray, List.getElem_cons_zero, List.getElem_cons_succ, List.setIfInBounds_toArray, List.set_cons_zero, List.set_cons_succ]
          refine wpAnyH_take (i := 33) (v := ?_) rfl (by kernel_rfl) (by kernel_rfl) (by kernel_rfl) (fun _ _ _ h => h) (Or.inl ⟨by rfl, ?hy33⟩) hHeld2 ?_
          case hy33 => (intro w hSw; (try dsimp only at hSw); go_simp; try with_reducible rfl)
          try simp only [Act.put, List.getElem_toArray, List.getElem_cons_zero, List.getElem_cons_succ, List.setIfInBounds_toArray, List.set_cons_zero, List.set_cons_succ]
          refine wpAnyH_take (i := 34) (v := ?_) rfl (by kernel_rfl) (by kernel_rfl) (by kernel_rfl) (fun _ _ _ h => h) (Or.inl ⟨by rfl, ?hy34⟩) hHeld2 ?_
          case hy34 => (intro w hSw; (try dsimp only at hSw); go_simp; try with_reducible rfl)
          try simp only [Act.put, List.getElem_toArray, List.getElem_cons_zero, List.getElem_cons_succ, List.setIfInBounds_toArray, List.set_cons_zero, List.set_cons_succ]
          refine wpAnyH_take (i := 35) (v := ?_) rfl (by kernel_rfl) (by kernel_rfl) (by kernel_rfl) (fun _ _ _ h => h) (Or.inl ⟨by rfl, ?hy35⟩) hHeld2 ?_
          case hy35 => (intro w hSw; (try dsimp only at hSw); go_simp; try with_reducible rfl)
          try simp only [Act.put, List.getElem_toArray, List.getElem_cons_zero, List.getElem_cons_succ, List.setIfInBounds_toArray, List.set_cons_zero, List.set_cons_succ]
          refine wpAnyH_take (i := 36) (v := ?_) rfl (by kernel_rfl) (by kernel_rfl) (by kernel_rfl) (fun _ _ _ h => h) (Or.inl ⟨by rfl, ?hy36⟩) hHeld2 ?_
          case hy36 => (intro w hSw; (try dsimp only at hSw); go_simp; try with_reducible rfl)
          try simp only [Act.put, List.getElem_toArray, List.getElem_cons_zero, List.getElem_cons_succ, List.setIfInBounds_toArray, List.set_cons_zero, List.set_cons_succ]
          refine wpAnyH_ready (rs := [32]) (by kernel_rfl) (by simp) ?_
          refine AllReadyH.cons rfl (fun K hK => ?_) AllReadyH.nil
          go_simp
          go_at_call 17; refine (HLO.out _ hq5).mono ?_; rintro e w6 ⟨rfl, rfl⟩
          go_wp2_with fail
          refine hK.out _ _ ⟨c0, c2⟩ (fun _ => ?_)
          clear hK K
          try simp only [Act.put, List.getElem_toArray, List.getElem_cons_zero, List.getElem_cons_succ, List.setIfInBounds_toArray, List.set_cons_zero, List.set_cons_succ]
          refine wpAnyH_take (i := 37) (v := ?_) rfl (by kernel_rfl) (by kernel_rfl) (by kernel_rfl) (fun _ _ _ h => h) (Or.inl ⟨by rfl, ?hy37⟩) hHeld2 ?_
          case hy37 => (intro w hSw; (try dsimp only at hSw); go_simp; try with_reducible rfl)
          try simp only [Act.put, List.getElem_toArray, List.getElem_cons_zero, List.getElem_cons_succ, List.setIfInBounds_toArray, List.set_cons_zero, List.set_cons_succ]
          refine wpAnyH_take (i := 38) (v := ?_) rfl (by kernel_rfl) (by kernel_rfl) (by kernel_rfl) (fun _ _ _ h => h) (Or.inl ⟨by rfl, ?hy38⟩) hHeld2 ?_
          case hy38 => (intro w hSw; (try dsimp only at hSw); go_simp; try with_reducible rfl)
          try simp only [Act.put, List.getElem_toArray, List.getElem_cons_zero, List.getElem_cons_succ, List.setIfInBounds_toArray, List.set_cons_zero, List.set_cons_succ]
          refine wpAnyH_done (by kernel_rfl) ?_ _
          refine NoPanic.normal ?_
          go_wp2_with fail
          go_meet
          exact ⟨rfl, hq5, ((below_drewN hBW 1).trans hq4).trans hq6⟩
        case rest =>
          obtain ⟨rfl, hbo2, hB3⟩ := hcut
          have HB9 := Lib.hid hbo2
          clear hbo2
          go_wp2_with fail
          exact ⟨⟨k + 1, d', w2.heap.size, l', by omega, by have := HL'.out; simp at this; omega, by have := HD'.out; omega, by go_num, rfl, HB9.out, hB3⟩, by simp [intOf]; omega⟩
      · have hrb : ((k : Int) == reset) = false := by simp [hr]
        have HB := Lib.hid hbo
        clear hbo hr
        go_upto_region 13 with fail
        obtain ⟨r, l', d', hl', hd', h1, h2⟩ := both_step w.heap.size w.heap.size gx l M d (s[k]'hlt) (by omega) (by omega)
        have H1 := Lib.hid h1
        have H2 := Lib.hid h2
        have hsz : (⟨l'.toArray⟩ : ByteArray).size = l'.length := by show l'.toArray.size = _; simp
        have HY := Lib.hid (both_bytes w.heap.size w.heap.size gx l' M d')
        have HLN := Lib.hid (both_len w.heap.size w.heap.size gx l' M d')
        have HLO := Lib.hid (both_lost w.heap.size w.heap.size gx l' M d')
        have HC := Lib.hid (fun W (h : Both w.heap.size W w.heap.size gx l' M d') => h.2.1.cell)
        generalize hS : (⟨l'.toArray⟩ : ByteArray) = S at hsz HY HC
        have HL' := Lib.hid hl'
        have HD' := Lib.hid hd'
        clear h1 h2 hS hl' hd'
        go_cut [110] from 72 to 110 (fun c wx => c = .bool false ∧ Both w.heap.size wx w.heap.size gx l' M d' ∧ Below w.heap.size w wx)
        case first =>
          refine wp_region_noPanic ?_
          refine wp_region_held_drew (S := fun _ : World => True) (by kernel_rfl) trivial (fun hHeld => ?_)
          refine wpAnyH_take (i := 0) (v := ?_) rfl (by kernel_rfl) (by kernel_rfl) (by kernel_rfl) (fun _ _ _ h => h) (Or.inl ⟨by rfl, ?hy0⟩) hHeld ?_
          case hy0 => (intro w hSw; (try dsimp only at hSw); go_simp; try with_reducible rfl)
          try simp only [Act.put, List.getElem_toArray, List.getElem_cons_zero, List.getElem_cons_succ, List.setIfInBounds_toArray, List.set_cons_zero, List.set_cons_succ]
          refine wpAnyH_take (i := 1) (v := ?_) rfl (by kernel_rfl) (by kernel_rfl) (by kernel_rfl) (fun _ _ _ h => h) (Or.inl ⟨by rfl, ?hy1⟩) hHeld ?_
          case hy1 => (intro w hSw; (try dsimp only at hSw); go_simp; try with_reducible rfl)
          try simp only [Act.put, List.getElem_toArray, List.getElem_cons_zero, List.getElem_cons_succ, List.setIfInBounds_toArray, List.set_cons_zero, List.set_cons_succ]
          refine wpAnyH_take (i := 2) (v := ?_) rfl (by kernel_rfl) (by kernel_rfl) (by kernel_rfl) (fun _ _ _ h => h) (Or.inl ⟨by rfl, ?hy2⟩) hHeld ?_
          case hy2 => (intro w hSw; (try dsimp only at hSw); go_simp; try with_reducible rfl)
          try simp only [Act.put, List.getElem_toArray, List.getElem_cons_zero, List.getElem_cons_succ, List.setIfInBounds_toArray, List.set_cons_zero, List.set_cons_succ]
          refine wpAnyH_take (i := 3) (v := ?_) rfl (by kernel_rfl) (by kernel_rfl) (by kernel_rfl) (fun _ _ _ h => h) (Or.inl ⟨by rfl, ?hy3⟩) hHeld ?_
          case hy3 => (intro w hSw; (try dsimp only at hSw); go_simp; try with_reducible rfl)
          try simp only [Act.put, List.getElem_toArray, List.getElem_cons_zero, List.getElem_cons_succ, List.setIfInBounds_toArray, List.set_cons_zero, List.set_cons_succ]
          refine wpAnyH_take (i := 5) (v := ?_) rfl (by kernel_rfl) (by kernel_rfl) (by kernel_rfl) (fun _ _ _ h => h) (Or.inl ⟨by rfl, ?hy5⟩) hHeld ?_
          case hy5 => (intro w hSw; (try dsimp only at hSw); go_simp; try with_reducible rfl)
          try simp only [Act.put, List.getElem_toArray, List.getElem_cons_zero, List.getElem_cons_succ, List.setIfInBounds_toArray, List.set_cons_zero, List.set_cons_succ]
          refine wpAnyH_take (i := 6) (v := ?_) rfl (by kernel_rfl) (by kernel_rfl) (by kernel_rfl) (fun _ _ _ h => h) (Or.inl ⟨by rfl, ?hy6⟩) hHeld ?_
          case hy6 => (intro w hSw; (try dsimp only at hSw); go_simp; try with_reducible rfl)
          try simp only [Act.put, List.getElem_toArray, List.getElem_cons_zero, List.getElem_cons_succ, List.setIfInBounds_toArray, List.set_cons_zero, List.set_cons_succ]
          refine wpAnyH_take (i := 7) (v := ?_) rfl (by kernel_rfl) (by kernel_rfl) (by kernel_rfl) (fun _ _ _ h => h) (Or.inl ⟨by rfl, ?hy7⟩) hHeld ?_
          case hy7 => (intro w hSw; (try dsimp only at hSw); go_simp; try with_reducible rfl)
          try simp only [Act.put, List.getElem_toArray, List.getElem_cons_zero, List.getElem_cons_succ, List.setIfInBounds_toArray, List.set_cons_zero, List.set_cons_succ]
          refine wpAnyH_take (i := 8) (v := ?_) rfl (by kernel_rfl) (by kernel_rfl) (by kernel_rfl) (fun _ _ _ h => h) (Or.inl ⟨by rfl, ?hy8⟩) hHeld ?_
          case hy8 => (intro w hSw; (try dsimp only at hSw); go_simp; try with_reducible rfl)
          try simp only [Act.put, List.getElem_toArray, List.getElem_cons_zero, List.getElem_cons_succ, List.setIfInBounds_toArray, List.set_cons_zero, List.set_cons_succ]
          refine wpAnyH_ready (rs := [4]) (by kernel_rfl) (by simp) ?_
          refine AllReadyH.cons rfl (fun K hK => ?_) AllReadyH.nil
          go_simp
          go_at_call 15; refine (H1.out _ (HB.out.drewN 1)).mono ?_; rintro e w4 ⟨rfl, ⟨hq1, hq2, hq3⟩, hq4⟩
          go_wp2_with fail
          refine hK.out _ _ trivial (fun hHeld2 => ?_)
          clear hK K hHeld
          have hHeld := hHeld2
          clear hHeld2
          try simp only [Act.put, List.getElem_toArray, List.getElem_cons_zero, List.getElem_cons_succ, List.setIfInBounds_toArray, List.set_cons_zero, List.set_cons_succ]
          refine wpAnyH_ready (rs := [9]) (by kernel_rfl) (by simp) ?_
          refine AllReadyH.cons rfl (fun K hK => ?_) AllReadyH.nil
          go_simp
          go_at_call 21; refine (H2.out _ hq1 hq2 hq3).mono ?_; rintro e w5 ⟨rfl, hq5, hq6⟩; obtain ⟨c0, c1, c2⟩ := HC.out _ hq5
          go_wp2_with fail
          refine hK.out _ _ trivial (fun hHeld => ?_)
          refine wpAnyH_mono (S' := fun W : World => W.cell? ⟨gx, 0, none⟩ = some (.string S) ∧ W.cell? ⟨gx, 2, none⟩ = some (.int .i64 d')) (fun _ _ => trivial) _ _ _ _ ?_
          have hHeld2 : w5.cell? ⟨gx, 0, none⟩ = some (.string S) ∧ w5.cell? ⟨gx, 2, none⟩ = some (.int .i64 d') := ⟨c0, c2⟩
          clear hHeld hK K
          try simp only [Act.put, List.getElem_toArray, List.getElem_cons_zero, List.getElem_cons_succ, List.setIfInBounds_toArray, List.set_cons_zero, List.set_cons_succ]
          refine wpAnyH_take (i := 10) (v := ?_) rfl (by kernel_rfl) (by kernel_rfl) (by kernel_rfl) (fun _ _ _ h => h) (Or.inl ⟨by rfl, ?hy10⟩) hHeld2 ?_
          case hy10 => (intro w hSw; (try dsimp only at hSw); go_simp; try with_reducible rfl)
          try simp only [Act.put, List.getElem_toArray, List.getElem_cons_zero, List.getElem_cons_succ, List.setIfInBounds_toArray, List.set_cons_zero, List.set_cons_succ]
          refine wpAnyH_take (i := 11) (v := ?_) rfl (by kernel_rfl) (by kernel_rfl) (by kernel_rfl) (fun _ _ _ h => h) (Or.inl ⟨by rfl, ?hy11⟩) hHeld2 ?_
          case hy11 => (intro w hSw; (try dsimp only at hSw); go_simp; try with_reducible rfl)
          try simp only [Act.put, List.getElem_toArray, List.getElem_cons_zero, List.getElem_cons_succ, List.setIfInBounds_toArray, List.set_cons_zero, List.set_cons_succ]
          refine wpAnyH_take (i := 12) (v := ?_) rfl (by kernel_rfl) (by kernel_rfl) (by kernel_rfl) (fun _ _ _ h => h) (Or.inl ⟨by rfl, ?hy12⟩) hHeld2 ?_
          case hy12 => (intro w hSw; (try dsimp only at hSw); go_simp; try with_reducible rfl)
          try simp only [Act.put, List.getElem_toArray, List.getElem_cons_zero, List.getElem_cons_succ, List.setIfInBounds_toArray, List.set_cons_zero, List.set_cons_succ]
          refine wpAnyH_take (i := 14) (v := ?_) rfl (by kernel_rfl) (by kernel_rfl) (by kernel_rfl) (fun _ _ _ h => h) (Or.inl ⟨by rfl, ?hy14⟩) hHeld2 ?_
          case hy14 => (intro w hSw; (try dsimp only at hSw); go_simp; try with_reducible rfl)
          try simp only [Act.put, List.getElem_toArray, List.getElem_cons_zero, List.getElem_cons_succ, List.setIfInBounds_toArray, List.set_cons_zero, List.set_cons_succ]
          refine wpAnyH_take (i := 15) (v := ?_) rfl (by kernel_rfl) (by kernel_rfl) (by kernel_rfl) (fun _ _ _ h => h) (Or.inl ⟨by rfl, ?hy15⟩) hHeld2 ?_
          case hy15 => (intro w hSw; (try dsimp only at hSw); go_simp; try with_reducible rfl)
          try simp only [Act.put, List.getElem_toArray, List.getElem_cons_zero, List.getElem_cons_succ, List.setIfInBounds_toArray, List.set_cons_zero, List.set_cons_succ]
          refine wpAnyH_take (i := 16) (v := ?_) rfl (by kernel_rfl) (by kernel_rfl) (by kernel_rfl) (fun _ _ _ h => h) (Or.inl ⟨by rfl, ?hy16⟩) hHeld2 ?_
          case hy16 => (intro w hSw; (try dsimp only at hSw); go_simp; try with_reducible rfl)
          try simp only [Act.put, List.getElem_toArray, List.getElem_cons_zero, List.getElem_cons_succ, List.setIfInBounds_toArray, List.set_cons_zero, List.set_cons_succ]
          refine wpAnyH_take (i := 17) (v := ?_) rfl (by kernel_rfl) (by kernel_rfl) (by kernel_rfl) (fun _ _ _ h => h) (Or.inl ⟨by rfl, ?hy17⟩) hHeld2 ?_
          case hy17 => (intro w hSw; (try dsimp only at hSw); go_simp; try with_reducible rfl)
          try simp only [Act.put, List.getElem_toArray, List.getElem_cons_zero, List.getElem_cons_succ, List.setIfInBounds_toArray, List.set_cons_zero, List.set_cons_succ]
          refine wpAnyH_ready (rs := [13]) (by kernel_rfl) (by simp) ?_
          refine AllReadyH.cons rfl (fun K hK => ?_) AllReadyH.nil
          go_simp
          go_at_call 16; refine (HY.out _ hq5).mono ?_; rintro e w6 ⟨rfl, rfl⟩
          go_wp2_with fail
          refine hK.out _ _ ⟨c0, c2⟩ (fun _ => ?_)
          clear hK K
          try simp only [Act.put, List.getElem_toArray, List.getElem_cons_zero, List.getElem_cons_succ, List.setIfInBounds_toArray, List.set_cons_zero, List.set_cons_succ]
          refine wpAnyH_take (i := 18) (v := ?_) rfl (by kernel_rfl) (by kernel_rfl) (by kernel_rfl) (fun _ _ _ h => h) (Or.inl ⟨by rfl, ?hy18⟩) hHeld2 ?_
          case hy18 => (intro w hSw; (try dsimp only at hSw); go_simp; try with_reducible rfl)
          try simp only [Act.put, List.getElem_toArray, List.getElem_cons_zero, List.getElem_cons_succ, List.setIfInBounds_toArray, List.set_cons_zero, List.set_cons_succ]
          refine wpAnyH_take (i := 19) (v := ?_) rfl (by kernel_rfl) (by kernel_rfl) (by kernel_rfl) (fun _ _ _ h => h) (Or.inl ⟨by rfl, ?hy19⟩) hHeld2 ?_
          case hy19 => (intro w hSw; (try dsimp only at hSw); go_simp; try with_reducible rfl)
          try simp only [Act.put, List.getElem_toArray, List.getElem_cons_zero, List.getElem_cons_succ, List.setIfInBounds_toArray, List.set_cons_zero, List.set_cons_succ]
          refine wpAnyH_take (i := 20) (v := ?_) rfl (by kernel_rfl) (by kernel_rfl) (by kernel_rfl) (fun _ _ _ h => h) (Or.inl ⟨by rfl, ?hy20⟩) hHeld2 ?_
          case hy20 => (intro w hSw; (try dsimp only at hSw); go_simp; try with_reducible rfl)
          try simp only [Act.put, List.getElem_toArray, List.getElem_cons_zero, List.getElem_cons_succ, List.setIfInBounds_toArray, List.set_cons_zero, List.set_cons_succ]
          refine wpAnyH_take (i := 21) (v := ?_) rfl (by kernel_rfl) (by kernel_rfl) (by kernel_rfl) (fun _ _ _ h => h) (Or.inl ⟨by rfl, ?hy21⟩) hHeld2 ?_
          case hy21 => (intro w hSw; (try dsimp only at hSw); go_simp; try with_reducible rfl)
          try simp only [Act.put, List.getElem_toArray, List.getElem_cons_zero, List.getElem_cons_succ, List.setIfInBounds_toArray, List.set_cons_zero, List.set_cons_succ]
          refine wpAnyH_take (i := 23) (v := ?_) rfl (by kernel_rfl) (by kernel_rfl) (by kernel_rfl) (fun _ _ _ h => h) (Or.inl ⟨by rfl, ?hy23⟩) hHeld2 ?_
          case hy23 => (intro w hSw; (try dsimp only at hSw); go_simp; try with_reducible rfl)
          try simp only [Act.put, List.getElem_toArray, List.getElem_cons_zero, List.getElem_cons_succ, List.setIfInBounds_toArray, List.set_cons_zero, List.set_cons_succ]
          refine wpAnyH_take (i := 24) (v := ?_) rfl (by kernel_rfl) (by kernel_rfl) (by kernel_rfl) (fun _ _ _ h => h) (Or.inl ⟨by rfl, ?hy24⟩) hHeld2 ?_
          case hy24 => (intro w hSw; (try dsimp only at hSw); go_simp; try with_reducible rfl)
          try simp only [Act.put, List.getElem_toArray, List.getElem_cons_zero, List.getElem_cons_succ, List.setIfInBounds_toArray, List.set_cons_zero, List.set_cons_succ]
          refine wpAnyH_take (i := 25) (v := ?_) rfl (by kernel_rfl) (by kernel_rfl) (by kernel_rfl) (fun _ _ _ h => h) (Or.inl ⟨by rfl, ?hy25⟩) hHeld2 ?_
          case hy25 => (intro w hSw; (try dsimp only at hSw); go_simp; try with_reducible rfl)
          try simp only [Act.put, List.getElem_toArray, List.getElem_cons_zero, List.getElem_cons_succ, List.setIfInBounds_toArray, List.set_cons_zero, List.set_cons_succ]
          refine wpAnyH_take (i := 26) (v := ?_) rfl (by kernel_rfl) (by kernel_rfl) (by kernel_rfl) (fun _ _ _ h => h) (Or.inl ⟨by rfl, ?hy26⟩) hHeld2 ?_
          case hy26 => (intro w hSw; (try dsimp only at hSw); go_simp; try with_reducible rfl)
          try simp only [Act.put, List.getElem_toArray, List.getElem_cons_zero, List.getElem_cons_succ, List.setIfInBounds_toArray, List.set_cons_zero, List.set_cons_succ]
          refine wpAnyH_take (i := 27) (v := ?_) rfl (by kernel_rfl) (by kernel_rfl) (by kernel_rfl) (fun _ _ _ h => h) (Or.inl ⟨by rfl, ?hy27⟩) hHeld2 ?_
          case hy27 => (intro w hSw; (try dsimp only at hSw); go_simp; try with_reducible rfl)
          try simp only [Act.put, List.getElem_toArray, List.getElem_cons_zero, List.getElem_cons_succ, List.setIfInBounds_toArray, List.set_cons_zero, List.set_cons_succ]
          refine wpAnyH_ready (rs := [22]) (by kernel_rfl) (by simp) ?_
          refine AllReadyH.cons rfl (fun K hK => ?_) AllReadyH.nil
          go_simp
          go_at_call 20; refine (HLN.out _ hq5).mono ?_; rintro e w6 ⟨rfl, rfl⟩
          go_wp2_with fail
          refine hK.out _ _ ⟨c0, c2⟩ (fun _ => ?_)
          clear hK K
          try simp only [Act.put, List.getElem_toArray, List.getElem_cons_zero, List.getElem_cons_succ, List.setIfInBounds_toArray, List.set_cons_zero, List.set_cons_succ]
          refine wpAnyH_take (i := 28) (v := ?_) rfl (by kernel_rfl) (by kernel_rfl) (by kernel_rfl) (fun _ _ _ h => h) (Or.inl ⟨by rfl, ?hy28⟩) hHeld2 ?_
          case hy28 => (intro w hSw; (try dsimp only at hSw); go_simp; try with_reducible rfl)
          try simp only [Act.put, List.getElem_toArray, List.getElem_cons_zero, List.getElem_cons_succ, List.setIfInBounds_toArray, List.set_cons_zero, List.set_cons_succ]
          refine wpAnyH_take (i := 29) (v := ?_) rfl (by kernel_rfl) (by kernel_rfl) (by kernel_rfl) (fun _ _ _ h => h) (Or.inl ⟨by rfl, ?hy29⟩) hHeld2 ?_
          case hy29 => (intro w hSw; (try dsimp only at hSw); go_simp; try with_reducible rfl)
          try simp only [Act.put, List.getElem_toArray, List.getElem_cons_zero, List.getElem_cons_succ, List.setIfInBounds_toArray, List.set_cons_zero, List.set_cons_succ]
          refine wpAnyH_take (i := 30) (v := ?_) rfl (by kernel_rfl) (by kernel_rfl) (by kernel_rfl) (fun _ _ _ h => h) (Or.inl ⟨by rfl, ?hy30⟩) hHeld2 ?_
          case hy30 => (intro w hSw; (try dsimp only at hSw); go_simp; try with_reducible rfl)
          try simp only [Act.put, List.getElem_toArray, List.getElem_cons_zero, List.getElem_cons_succ, List.setIfInBounds_toArray, List.set_cons_zero, List.set_cons_succ]
          refine wpAnyH_take (i := 31) (v := ?_) rfl (by kernel_rfl) (by kernel_rfl) (by kernel_rfl) (fun _ _ _ h => h) (Or.inl ⟨by rfl, ?hy31⟩) hHeld2 ?_
          case hy31 => (intro w hSw; (try dsimp only at hSw); go_simp; try with_reducible rfl)
          try simp only [Act.put, List.getElem_toArray, List.getElem_cons_zero, List.getElem_cons_succ, List.setIfInBounds_toArray, List.set_cons_zero, List.set_cons_succ]
          refine wpAnyH_take (i := 33) (v := ?_) rfl (by kernel_rfl) (by kernel_rfl) (by kernel_rfl) (fun _ _ _ h => h) (Or.inl ⟨by rfl, ?hy33⟩) hHeld2 ?_
          case hy33 => (intro w hSw; (try dsimp only at hSw); go_simp; try with_reducible rfl)
          try simp only [Act.put, List.getElem_toArray, List.getElem_cons_zero, List.getElem_cons_succ, List.setIfInBounds_toArray, List.set_cons_zero, List.set_cons_succ]
          refine wpAnyH_take (i := 34) (v := ?_) rfl (by kernel_rfl) (by kernel_rfl) (by kernel_rfl) (fun _ _ _ h => h) (Or.inl ⟨by rfl, ?hy34⟩) hHeld2 ?_
          case hy34 => (intro w hSw; (try dsimp only at hSw); go_simp; try with_reducible rfl)
          try simp only [Act.put, List.getElem_toArray, List.getElem_cons_zero, List.getElem_cons_succ, List.setIfInBounds_toArray, List.set_cons_zero, List.set_cons_succ]
          refine wpAnyH_take (i := 35) (v := ?_) rfl (by kernel_rfl) (by kernel_rfl) (by kernel_rfl) (fun _ _ _ h => h) (Or.inl ⟨by rfl, ?hy35⟩) hHeld2 ?_
          case hy35 => (intro w hSw; (try dsimp only at hSw); go_simp; try with_reducible rfl)
          try simp only [Act.put, List.getElem_toArray, List.getElem_cons_zero, List.getElem_cons_succ, List.setIfInBounds_toArray, List.set_cons_zero, List.set_cons_succ]
          refine wpAnyH_take (i := 36) (v := ?_) rfl (by kernel_rfl) (by kernel_rfl) (by kernel_rfl) (fun _ _ _ h => h) (Or.inl ⟨by rfl, ?hy36⟩) hHeld2 ?_
          case hy36 => (intro w hSw; (try dsimp only at hSw); go_simp; try with_reducible rfl)
          try simp only [Act.put, List.getElem_toArray, List.getElem_cons_zero, List.getElem_cons_succ, List.setIfInBounds_toArray, List.set_cons_zero, List.set_cons_succ]
          refine wpAnyH_ready (rs := [32]) (by kernel_rfl) (by simp) ?_
          refine AllReadyH.cons rfl (fun K hK => ?_) AllReadyH.nil
          go_simp
          go_at_call 17; refine (HLO.out _ hq5).mono ?_; rintro e w6 ⟨rfl, rfl⟩
          go_wp2_with fail
          refine hK.out _ _ ⟨c0, c2⟩ (fun _ => ?_)
          clear hK K
          try simp only [Act.put, List.getElem_toArray, List.getElem_cons_zero, List.getElem_cons_succ, List.setIfInBounds_toArray, List.set_cons_zero, List.set_cons_succ]
          refine wpAnyH_take (i := 37) (v := ?_) rfl (by kernel_rfl) (by kernel_rfl) (by kernel_rfl) (fun _ _ _ h => h) (Or.inl ⟨by rfl, ?hy37⟩) hHeld2 ?_
          case hy37 => (intro w hSw; (try dsimp only at hSw); go_simp; try with_reducible rfl)
          try simp only [Act.put, List.getElem_toArray, List.getElem_cons_zero, List.getElem_cons_succ, List.setIfInBounds_toArray, List.set_cons_zero, List.set_cons_succ]
          refine wpAnyH_take (i := 38) (v := ?_) rfl (by kernel_rfl) (by kernel_rfl) (by kernel_rfl) (fun _ _ _ h => h) (Or.inl ⟨by rfl, ?hy38⟩) hHeld2 ?_
          case hy38 => (intro w hSw; (try dsimp only at hSw); go_simp; try with_reducible rfl)
          try simp only [Act.put, List.getElem_toArray, List.getElem_cons_zero, List.getElem_cons_succ, List.setIfInBounds_toArray, List.set_cons_zero, List.set_cons_succ]
          refine wpAnyH_done (by kernel_rfl) ?_ _
          refine NoPanic.normal ?_
          go_wp2_with fail
          go_meet
          exact ⟨rfl, hq5, ((below_drewN hB 1).trans hq4).trans hq6⟩
        case rest =>
          obtain ⟨rfl, hbo2, hB3⟩ := hcut
          have HB9 := Lib.hid hbo2
          clear hbo2
          go_wp2_with fail
          exact ⟨⟨k + 1, d', gx, l', by omega, by have := HL'.out; omega, by have := HD'.out; omega, by go_num, rfl, HB9.out, hB3⟩, by simp [intOf]; omega⟩
    · obtain rfl : k = s.size := by omega
      have hN := Lib.hid (bnumbers_any w.heap.size w.heap.size hbo.1.choose l M d wr hbo.1.choose_spec (by omega))
      obtain ⟨c0, c1, c2⟩ := hbo.2.1.cell
      have hcs : (⟨l.toArray⟩ : ByteArray).size ≤ 4000000 := by show l.toArray.size ≤ _; simp; omega
      have hRN := fun W => refNumbers_any ⟨l.toArray⟩ hcs W
      have hnl := Vz.numbers_len l
      rw [show (⟨l.toArray⟩ : ByteArray).data.toList = l by simp] at hRN
      have HRN := Lib.hid hRN
      have hrow := hbo.2.1.2
      have hrlt := hbo.2.1.lt
      have HROW := Lib.hid hrow
      generalize Vz.numbers l = N at hN HRN hnl
      obtain ⟨nl, nb⟩ := N
      simp only at hN HRN hnl
      have HII := Lib.hid ints_any
      clear hrow hRN hbo
      generalize (⟨l.toArray⟩ : ByteArray) = S at c0 HRN hcs HROW
      go_wp2_with fail
      refine hN.out.mono ?_
      rintro e w2 ⟨u, rfl, hown, hB2⟩
      obtain ⟨A1, z1, rfl, hI1⟩ := Ints.of_own hown
      have HI1 := Lib.hid hI1
      have hr2 := (hB2.block gx hrlt).trans HROW.out
      have d0 : w2.cell? ⟨gx, 0, none⟩ = some (.string S) := by rw [cell_of_row w2 gx 0 _ _ _ hr2]; rfl
      clear hown hI1 hr2
      go_wp2_with fail
      refine (HRN.out _).mono ?_
      rintro e w3 ⟨v2, rfl, hown2, hB3⟩
      obtain ⟨A2, z2, rfl, hI2⟩ := Ints.of_own hown2
      have HI2 := Lib.hid hI2
      have HI1' := Lib.hid ((HI1.out.below hB3 (Nat.le_refl _)).more hB3.size)
      have hb03 := below_join (below_join hB hB2) hB3
      have hll : l.length ≤ 300 := by omega
      clear hown2 hI2
      go_wp2_with fail
      refine (HII.out w3.heap.size A1 A2 _ _ z1 z2 nl nl _ HI1'.out HI2.out (by omega) (by omega)).mono ?_
      rintro e w4 ⟨rfl, q, rfl⟩
      rw [decide_eq_true (p := nl = nl) rfl]
      go_wp2_with fail
      refine (HA.out _).mono ?_
      rintro e w5 ⟨rfl, hB5⟩
      go_wp2_with fail
      go_ret
      exact ⟨rfl, below_join (below_drewN hb03 q) hB5⟩
end Go.Proofs.Ytdakiocgaihcnaa
