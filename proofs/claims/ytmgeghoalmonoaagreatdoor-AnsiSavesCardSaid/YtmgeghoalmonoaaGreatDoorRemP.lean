import Derived.Test.YtmgeghoalmonoaaGreatDoorBldS

/- Walks: remap.Parse: what a body tells: some key, some text, or an error. -/
namespace Go.Proofs.YtmgeghoalmonoaaGreatDoor
open Go.RowKit
set_option linter.unusedSimpArgs false
set_option linter.unusedVariables false
set_option maxRecDepth 100000
attribute [local go_sem] alloc_drewN setCell_drewN World.cell?_alloc_some frozen_alloc_some

def takeL : List It → It × Bool × List It
  | [] => (itZ, false, [])
  | x :: L => (x, true, L)
theorem takeL_ok {L : List It} {n : Nat} (h : OkL L n) : OkL (takeL L).2.2 n ∧ (0 ≤ (takeL L).1.2.1 ∧ (takeL L).1.2.1 ≤ 255) ∧ (takeL L).1.2.2.size + sumL (takeL L).2.2 ≤ n := by
  obtain ⟨h1, h2, h3⟩ := h
  cases L with
  | nil => exact ⟨⟨h1, h2, h3⟩, ⟨by decide, by decide⟩, by simp only [takeL, itZ, sumL, List.map_nil, List.sum_nil]; exact Nat.zero_le _⟩
  | cons x L =>
    simp only [sumL, List.map_cons, List.sum_cons, List.length_cons] at h1 h2
    exact ⟨⟨by simp only [takeL, sumL]; omega, by simp only [takeL]; omega, fun y hy => h3 y (List.mem_cons_of_mem _ hy)⟩, h3 x (List.mem_cons_self ..), by simp only [takeL, sumL]; omega⟩
theorem take_any (lb N : Nat) (L : List It) (w : World) (h : LstV w lb N L) (hsm : L.length ≤ 1000) : Calls Tryz.prog 113 #[.pointer (some ⟨lb, 0, none⟩)] w fun e w' => e = .returned (.tuple #[.agg #[.bool (takeL L).1.1, .int .i64 (takeL L).1.2.1, .string (takeL L).1.2.2], .bool (takeL L).2.1]) ∧ LstV w' lb N (takeL L).2.2 ∧ Keeps (fun k => k = lb) w w' := by
  cases L with
  | nil => exact (take_no lb N w h).mono fun e w' h' => ⟨h'.1, h.below h'.2, Keeps.of_below h'.2⟩
  | cons x L => exact (take_ok lb N x L w h (by simp only [List.length_cons] at hsm; omega)).mono fun e w' h' => h'
/-- What Parse has made: the answer's box, the list. -/
def PaA (w : World) (N : Nat) (L : List It) (W : World) : Prop := Below w.heap.size w W ∧ W.heap[w.heap.size]? = some (.cells #[.bool false, .int .i64 0] 58 (0, 0)) ∧ LstV W (w.heap.size + 1) N L
theorem PaA.later {w W W' : World} {N : Nat} {L L' : List It} (h : PaA w N L W) (hl : LstV W' (w.heap.size + 1) N L') (hk : Keeps (fun k => k = w.heap.size + 1) W W') : PaA w N L' W' :=
  ⟨h.1.trans (hk.below (fun k e => by omega) h.1.size), (hk.block _ (block_lt h.2.1) (by omega)).trans h.2.1, hl⟩
theorem PaA.below {w W W' : World} {N : Nat} {L : List It} (h : PaA w N L W) (hb : Below W.heap.size W W') : PaA w N L W' := h.later (h.2.2.below hb) (Keeps.of_below hb)
/-- .., and the boxes of the item and of the key. -/
def PaB (w : World) (N X K : Nat) (L : List It) (x : It) (k : Bool × Int) (W : World) : Prop := PaA w N L W ∧ W.heap[X]? = some (.cells #[.bool x.1, .int .i64 x.2.1, .string x.2.2] 191 (0, 0)) ∧ W.heap[K]? = some (.cells #[.bool k.1, .int .i64 k.2] 58 (0, 0)) ∧ w.heap.size + 1 < X ∧ w.heap.size + 1 < K ∧ X ≠ K ∧ N ≤ X ∧ N ≤ K
theorem PaB.later {w W W' : World} {N X K : Nat} {L L' : List It} {x : It} {k : Bool × Int} (h : PaB w N X K L x k W) (hl : LstV W' (w.heap.size + 1) N L') (hk : Keeps (fun k => k = w.heap.size + 1) W W') : PaB w N X K L' x k W' :=
  ⟨h.1.later hl hk, (hk.block _ (block_lt h.2.1) (by have := h.2.2.2.1; omega)).trans h.2.1, (hk.block _ (block_lt h.2.2.1) (by have := h.2.2.2.2.1; omega)).trans h.2.2.1, h.2.2.2⟩
/-- A store to a box that is none of the list's. -/
theorem PaA.set {w W W' : World} {N X : Nat} {L : List It} (h : PaA w N L W) (h1 : w.heap.size + 1 < X) (h2 : N ≤ X) (hk : Keeps (fun k => k = X) W W') : PaA w N L W' := by
  obtain ⟨hb, hx, a, cap, hl, hc, hr⟩ := h
  refine ⟨hb.trans (hk.below (fun k e => by omega) hb.size), (hk.block _ (block_lt hx) (by omega)).trans hx, a, cap, (hk.block _ (block_lt hl) (by omega)).trans hl, hc, hr.imp id ?_⟩
  rintro ⟨g, o, cur, e, hgN, hg, hr⟩
  exact ⟨g, o, cur, e, hgN, (hk.block _ (block_lt hg) (by omega)).trans hg, hr⟩
theorem PaB.setX {w W : World} {N X K : Nat} {L : List It} {x : It} {k : Bool × Int} (h : PaB w N X K L x k W) (y : It) :
    PaB w N X K L y k (((W.setCell ⟨X, 0, none⟩ (.bool y.1)).setCell ⟨X, 1, none⟩ (.int .i64 y.2.1)).setCell ⟨X, 2, none⟩ (.string y.2.2)) :=
  have hk := ((Keeps.setCell (fun k => k = X) W (p := ⟨X, 0, none⟩) rfl (.bool y.1)).setCell' (p := ⟨X, 1, none⟩) rfl (.int .i64 y.2.1)).setCell' (p := ⟨X, 2, none⟩) rfl (.string y.2.2)
  ⟨h.1.set h.2.2.2.1 h.2.2.2.2.2.2.1 hk, heap_set_same (heap_set_same (heap_set_same h.2.1 0 _) 1 _) 2 _, (hk.block _ (block_lt h.2.2.1) (Ne.symm h.2.2.2.2.2.1)).trans h.2.2.1, h.2.2.2⟩
theorem PaB.setK {w W : World} {N X K : Nat} {L : List It} {x : It} {k : Bool × Int} (h : PaB w N X K L x k W) (b : Bool) (n : Int) :
    PaB w N X K L x (b, n) ((W.setCell ⟨K, 0, none⟩ (.bool b)).setCell ⟨K, 1, none⟩ (.int .i64 n)) :=
  have hk := (Keeps.setCell (fun k => k = K) W (p := ⟨K, 0, none⟩) rfl (.bool b)).setCell' (p := ⟨K, 1, none⟩) rfl (.int .i64 n)
  ⟨h.1.set h.2.2.2.2.1 h.2.2.2.2.2.2.2 hk, (hk.block _ (block_lt h.2.1) h.2.2.2.2.2.1).trans h.2.1, heap_set_same (heap_set_same h.2.2.1 0 _) 1 _, h.2.2.2⟩
theorem PaB.below {w W W' : World} {N X K : Nat} {L : List It} {x : It} {k : Bool × Int} (h : PaB w N X K L x k W) (hb : Below W.heap.size W W') : PaB w N X K L x k W' := h.later (h.1.2.2.below hb) (Keeps.of_below hb)
theorem PaB.belowB {w W W' : World} {N X K BB : Nat} {L : List It} {x : It} {k : Bool × Int} (h : PaB w N X K L x k W) (hb : Below BB W W') (hBB : BB ≤ W.heap.size) (h1 : K < BB) (h2 : w.heap.size + 1 < BB) (h3 : X < BB) : PaB w N X K L x k W' := by
  obtain ⟨⟨hbw, hx, a, cap, hl, hc, hr⟩, hX, hK, h4, h5, h6, h7, h8⟩ := h
  refine ⟨⟨hbw.trans (hb.mono (by omega)), (hb.block _ (by omega)).trans hx, a, cap, (hb.block _ (by omega)).trans hl, hc, hr.imp id ?_⟩, (hb.block _ h3).trans hX, (hb.block _ h1).trans hK, h4, h5, h6, h7, h8⟩
  rintro ⟨g, o, cur, e, hgN, hg, hr⟩
  exact ⟨g, o, cur, e, hgN, (hb.block _ (by omega)).trans hg, hr⟩
/-- The loop that writes the texts. -/
def PaL (w : World) (N X K BB : Nat) (x : It) (k : Bool × Int) (W : World) : Prop := ∃ L acc, PaB w N X K L x k W ∧ BuildL BB BB acc W ∧ acc.length + sumL L ≤ 1000 ∧ OkL L 1000 ∧ K < BB ∧ w.heap.size + 1 < BB ∧ X < BB
def PaZ (w : World) (K : Nat) (k : Bool × Int) (W : World) : Prop := Below w.heap.size w W ∧ W.heap[w.heap.size]? = some (.cells #[.bool false, .int .i64 0] 58 (0, 0)) ∧ W.heap[K]? = some (.cells #[.bool k.1, .int .i64 k.2] 58 (0, 0))
/-- What Parse answers. -/
def ParseP (w : World) (e : Ending) (w' : World) : Prop := Below w.heap.size w w' ∧ ∃ (b : Bool) (n : Int) (t : ByteArray) (er : Int), e = .returned (.tuple #[.agg #[.bool b, .int .i64 n], .string t, .int .i64 er]) ∧ t.size ≤ 1000 ∧ (0 ≤ n ∧ n ≤ 255)
/-- A list's length, as memory has it. -/
def lenAt (W : World) (lb : Nat) : Nat := match W.cell? ⟨lb, 0, none⟩ with | some (.slice _ n _) => n | _ => 0
theorem lenAt_eq {W : World} {lb N : Nat} {L : List It} (h : LstV W lb N L) : lenAt W lb = L.length := by
  obtain ⟨a, cap, h1, _⟩ := h
  unfold lenAt
  rw [show W.cell? ⟨lb, 0, none⟩ = some (.slice a L.length cap) from cell_row h1 0]
theorem res_set {w W : World} {a b : Value} (hb : Below w.heap.size w W) (hx : W.heap[w.heap.size]? = some (.cells #[a, b] 58 (0, 0))) (u v : Value) :
    ∃ W', W' = (W.setCell ⟨w.heap.size, 0, none⟩ u).setCell ⟨w.heap.size, 1, none⟩ v ∧ Below w.heap.size w W' ∧ W'.cell? ⟨w.heap.size, 0, none⟩ = some u ∧ W'.cell? ⟨w.heap.size, 1, none⟩ = some v := by
  obtain ⟨c0, c1, _⟩ := row2 (heap_set_same (heap_set_same hx 0 u) 1 v)
  exact ⟨_, rfl, (hb.setCell (p := ⟨w.heap.size, 0, none⟩) (Nat.le_refl _) _).setCell (p := ⟨w.heap.size, 1, none⟩) (Nat.le_refl _) _, c0, c1⟩
set_option maxHeartbeats 8000000 in
theorem parse_ok (s : ByteArray) (h2 : s.size ≤ 1000) (w : World) : Calls Tryz.prog 94 #[.string s] w fun e w' => ParseP w e w' := by
  have HIT := Lib.hid (items_ok s h2 (w.alloc (.cells #[.bool false, .int .i64 0] 58)))
  have HX := heap_alloc_new w (.cells #[.bool false, .int .i64 0] 58)
  have HB : Hid (Below w.heap.size w (w.alloc (.cells #[.bool false, .int .i64 0] 58))) := below1 _ _
  have HLT := block_lt HX
  go_enter Tryz.func94, Tryz.ntmps94
  go_upto_region 2 with (go_at_call 112; refine HIT.out.mono ?_; rintro e w1 ⟨hb1, hr⟩; have hx1 := (hb1.block _ HLT).trans HX; have HB1 : Hid (Below w.heap.size w w1) := HB.out.trans (hb1.mono (by rw [World.size_alloc]; omega)); rw [World.size_alloc] at hr; clear hb1; rcases hr with rfl | ⟨L, rfl, hL0, hLV, hLO⟩)
  · obtain ⟨x0, x1, g0, g1⟩ := row2 hx1
    obtain ⟨WZ, hWZ, hbz, z0, z1⟩ := res_set HB1.out hx1 (.bool false) (.int .i64 0)
    have HBZ := Lib.hid hbz
    clear hx1 hbz
    go_wp2_with fail
    refine bodyPost_ret (v := .tuple #[.agg #[.bool false, .int .i64 0], .string ⟨#[]⟩, .int .i64 14]) (by rw [← hWZ]; simp [results, Tryz.results94, go_sem, z0, z1]) rfl ?_
    rw [← hWZ]
    exact ⟨HBZ.out, _, _, _, _, rfl, Nat.zero_le _, by decide, by decide⟩
  · have HPA : Hid (PaA w w1.heap.size L w1) := ⟨HB1.out, hx1, hLV⟩
    have HLO : Hid (OkL L 1000) := ⟨by have := hLO.1; omega, by have := hLO.2.1; omega, hLO.2.2⟩
    have HTK := Lib.hid (take_any (w.heap.size + 1) w1.heap.size L w1 hLV (by have := hLO.2.1; omega))
    have hk1 := takeL_ok HLO.out
    clear hx1 hLV hLO hL0 HB1
    generalize hx : (takeL L).1 = x at HTK hk1
    generalize hbb : (takeL L).2.1 = bb at HTK
    generalize hL1 : (takeL L).2.2 = L1 at HTK hk1
    obtain ⟨xb, xn, xt⟩ := x
    have HK1 := Lib.hid hk1
    clear hx hbb hL1 hk1 HLO
    go_upto_region 6 with (go_at_call 113; refine HTK.out.mono ?_; rintro e w2 ⟨rfl, hl2, hk2⟩; have HP2 := Lib.hid (HPA.out.later hl2 hk2); have HN : Hid (w1.heap.size ≤ w2.heap.size) := hk2.size; clear hl2 hk2)
    have hp3 : PaB w w1.heap.size w2.heap.size (w2.heap.size + 1) L1 (xb, xn, xt) (false, xn) ((w2.alloc (.cells #[.bool xb, .int .i64 xn, .string xt] 191)).alloc (.cells #[.bool false, .int .i64 xn] 58)) := by
      have h1 := below1 w2 (.cells #[.bool xb, .int .i64 xn, .string xt] 191)
      have h2 := below1 (w2.alloc (.cells #[.bool xb, .int .i64 xn, .string xt] 191)) (.cells #[.bool false, .int .i64 xn] 58)
      have h3 := heap_alloc_new (w2.alloc (.cells #[.bool xb, .int .i64 xn, .string xt] 191)) (.cells #[.bool false, .int .i64 xn] 58)
      have hl := HP2.out.2.2.lt
      rw [World.size_alloc] at h3
      exact ⟨HP2.out.below ((below1 w2 _).alloc (by simp) _), (h2.block _ (by rw [World.size_alloc]; omega)).trans (heap_alloc_new _ _), h3, hl, by omega, by omega, HN.out, Nat.le_succ_of_le HN.out⟩
    generalize (w2.alloc (.cells #[.bool xb, .int .i64 xn, .string xt] 191)).alloc (.cells #[.bool false, .int .i64 xn] 58) = W3 at hp3 ⊢
    generalize w2.heap.size + 1 = K at hp3 ⊢
    generalize w2.heap.size = X at *
    have HP3 := Lib.hid hp3
    clear hp3
    obtain ⟨⟨x0, x1, x2⟩, -⟩ := row3c HP3.out.2.1
    have hcase : (xb = true ∧ (xn == 0) = true) ∨ xb = false ∨ (xb = true ∧ (xn == 0) = false) := by
      cases xb
      · exact .inr (.inl rfl)
      · cases h : (xn == 0)
        · exact .inr (.inr ⟨rfl, rfl⟩)
        · exact .inl ⟨rfl, rfl⟩
    rcases hcase with ⟨rfl, he⟩ | rfl | ⟨rfl, he⟩
    case' inl =>
      have HTK2 := Lib.hid (fun W => take_any (w.heap.size + 1) w1.heap.size L1 W)
      have hk2 := takeL_ok HK1.out.1
      generalize hx : (takeL L1).1 = y at HTK2 hk2
      generalize hbb : (takeL L1).2.1 = b2 at HTK2
      generalize hL2 : (takeL L1).2.2 = L2 at HTK2 hk2
      obtain ⟨yb, yn, yt⟩ := y
      have HK2 := Lib.hid hk2
      have hL1 : L1.length ≤ 1000 := HK1.out.1.2.1
      clear hx hbb hL2 hk2
      go_upto_region 8 with (go_at_call 113; refine (HTK2.out _ HP3.out.1.2.2 hL1).mono ?_; rintro e w4 ⟨rfl, hl4, hk4⟩; have HP4 := Lib.hid (HP3.out.later hl4 hk4); clear hl4 hk4 x0 x1 x2; obtain ⟨⟨x0, x1, x2⟩, g0, g1, g2⟩ := row3c HP4.out.2.1)
      have HP5 := Lib.hid (HP4.out.setX (yb, yn, yt))
      clear x0 x1 x2 g0 g1 g2
      generalize ((w4.setCell ⟨X, 0, none⟩ (.bool yb)).setCell ⟨X, 1, none⟩ (.int .i64 yn)).setCell ⟨X, 2, none⟩ (.string yt) = W5 at *
      obtain ⟨⟨x0, x1, x2⟩, -⟩ := row3c HP5.out.2.1
      obtain ⟨c0, c1, q0, q1⟩ := row2 HP5.out.2.2.1
      go_upto_region 9 with fail
      have HP6 := Lib.hid (HP5.out.setK true yn)
      clear x0 x1 x2 c0 c1 q0 q1
      have HF : Hid (∃ L x k, PaB w w1.heap.size X K L x k ((W5.setCell ⟨K, 0, none⟩ (.bool true)).setCell ⟨K, 1, none⟩ (.int .i64 yn)) ∧ OkL L 1000 ∧ 0 ≤ k.2 ∧ k.2 ≤ 255) := ⟨_, _, _, HP6.out, HK2.out.1, HK2.out.2.1⟩
      clear HP4 HP5 HP6 HTK2 HK2
      generalize (W5.setCell ⟨K, 0, none⟩ (.bool true)).setCell ⟨K, 1, none⟩ (.int .i64 yn) = WF at HF ⊢
    case' inr.inl =>
      go_upto_region 9 with fail
      have HF : Hid (∃ L x k, PaB w w1.heap.size X K L x k W3 ∧ OkL L 1000 ∧ 0 ≤ k.2 ∧ k.2 ≤ 255) := ⟨_, _, _, HP3.out, HK1.out.1, HK1.out.2.1⟩
      clear HP3 x0 x1 x2
      generalize W3 = WF at HF ⊢
    case' inr.inr =>
      go_upto_region 9 with fail
      have HF : Hid (∃ L x k, PaB w w1.heap.size X K L x k W3 ∧ OkL L 1000 ∧ 0 ≤ k.2 ∧ k.2 ≤ 255) := ⟨_, _, _, HP3.out, HK1.out.1, HK1.out.2.1⟩
      clear HP3 x0 x1 x2
      generalize W3 = WF at HF ⊢
    all_goals (
      clear HTK HP2 HPA HK1
      obtain ⟨Lf, ⟨fb, fn, ft⟩, ⟨kb, kn⟩, hpf, hof⟩ := HF.out
      have HPF := Lib.hid hpf
      have HOF := Lib.hid hof
      clear HF hpf hof
      obtain ⟨⟨x0, x1, x2⟩, -⟩ := row3c HPF.out.2.1
      cases fb
      · obtain ⟨c0, c1, q0, q1⟩ := row2 HPF.out.1.2.1
        obtain ⟨WZ, hWZ, hbz, z0, z1⟩ := res_set HPF.out.1.1 HPF.out.1.2.1 (.bool false) (.int .i64 0)
        have HBZ := Lib.hid hbz
        clear hbz
        go_wp2_with fail
        refine bodyPost_ret (v := .tuple #[.agg #[.bool false, .int .i64 0], .string ⟨#[]⟩, .int .i64 15]) (by rw [← hWZ]; simp [results, Tryz.results94, go_sem, z0, z1]) rfl ?_
        rw [← hWZ]
        exact ⟨HBZ.out, _, _, _, _, rfl, Nat.zero_le _, by decide, by decide⟩
      have HLP : Hid (PaL w w1.heap.size X K WF.heap.size (true, fn, ft) (kb, kn) (WF.alloc (.cells #[.pointer none, .slice none 0 0] 196))) :=
        ⟨Lf, [], HPF.out.below (below1 _ _), BuildL.fresh WF, by simpa using HOF.out.1.1, HOF.out.1, block_lt HPF.out.2.2.1, Nat.lt_trans HPF.out.2.2.2.1 (block_lt HPF.out.2.1), block_lt HPF.out.2.1⟩
      go_wp2_with fail
      generalize WF.heap.size = BB at *
      go_loopw [] (fun wr => PaL w w1.heap.size X K BB (true, fn, ft) (kb, kn) wr) (fun wr => lenAt wr (w.heap.size + 1))
      case atStart => exact HLP.out
      case round =>
        obtain ⟨Lr, acc, hpb, hbl, hlen, hok, hKB, hwB, hXB⟩ := hrel
        have HPB := Lib.hid hpb
        have HBL := Lib.hid hbl
        have HT := Lib.hid (take_any (w.heap.size + 1) w1.heap.size Lr wr hpb.1.2.2 hok.2.1)
        have HME := Lib.hid (lenAt_eq hpb.1.2.2)
        clear hpb hbl
        cases Lr with
        | nil =>
          simp only [takeL, itZ] at HT
          go_upto_region 14 with (go_at_call 113; refine HT.out.mono ?_; rintro e w4 ⟨rfl, hl4, hk4⟩; have HP4 := Lib.hid (HPB.out.later hl4 hk4); have HB4 := Lib.hid (HBL.out.keeps hk4 (fun k e => by omega)); clear hl4 hk4)
          have HZ : Hid (PaZ w K (kb, kn) ((w4.alloc (.cells #[.bool false, .int .i64 0, .string ⟨#[]⟩] 191)).drew)) := by
            have h := HP4.out.below (below1 w4 (.cells #[.bool false, .int .i64 0, .string ⟨#[]⟩] 191))
            exact ⟨h.1.1.drew, h.1.2.1, h.2.2.1⟩
          have HB5 : Hid (BuildL BB BB acc ((w4.alloc (.cells #[.bool false, .int .i64 0, .string ⟨#[]⟩] 191)).drew)) := HB4.out.below (below1 w4 _).drew
          refine wp_region_noPanic ?_
          refine wp_region_k (S := fun W : World => PaZ w K (kb, kn) W) 2 (by kernel_rfl) (HZ.out) (fun hHeld => ?_)
          refine kTK (v := ?_) 0 [] hHeld ?y1 ?_
          case y1 => (intro W hSw; obtain ⟨y0, y1, -⟩ := row2 hSw.2.2; go_simp; try with_reducible rfl)
          try refine kNK ?_
          refine kOK 1 fun KQ hKQ => ?_
          go_simp
          go_at_call 114
          refine (string_l HB5.out (Nat.le_of_lt HB5.out.lt)).mono ?_
          rintro e w6 ⟨rfl, hb6⟩
          go_wp2_with fail
          refine hKQ.out _ _ (⟨hHeld.1.trans (hb6.mono (by omega)), (hb6.block _ (by omega)).trans hHeld.2.1, (hb6.block _ hKB).trans hHeld.2.2⟩) ?_
          clear hHeld hKQ KQ
          intro hHeld
          try refine kNK ?_
          refine kPK 2 fun KQ hKQ => ?_
          go_simp
          have HRZ := Lib.hid (res_set hHeld.1 hHeld.2.1 (.bool kb) (.int .i64 kn))
          obtain ⟨c0, c1, q0, q1⟩ := row2 hHeld.2.1
          go_simp
          refine hKQ.out _ _ ?_
          clear hKQ KQ
          try refine kNK ?_
          refine kBK 3 ?_
          refine kBK 4 ?_
          try refine kNK ?_
          refine wpAnyK_done (by kernel_rfl) ?_ _
          refine NoPanic.normal ?_
          obtain ⟨WZ, hWZ, hbz, z0, z1⟩ := HRZ.out
          have HBZ := Lib.hid hbz
          have hacc : acc.length ≤ 1000 := by omega
          clear hbz HRZ c0 c1 q0 q1
          rw [← hWZ]
          go_wp2_with fail
          refine bodyPost_ret (v := .tuple #[.agg #[.bool kb, .int .i64 kn], .string ⟨acc.toArray⟩, .int .i64 0]) (by simp [results, Tryz.results94, go_sem, z0, z1]) rfl ?_
          exact ⟨HBZ.out, _, _, _, _, rfl, by show acc.toArray.size ≤ 1000; simpa using hacc, HOF.out.2⟩
        | cons y Ly =>
          simp only [takeL] at HT
          obtain ⟨yb, yn, yt⟩ := y
          go_upto_region 15 with (go_at_call 113; refine HT.out.mono ?_; rintro e w4 ⟨rfl, hl4, hk4⟩; have HP4 := Lib.hid (HPB.out.later hl4 hk4); have HB4 := Lib.hid (HBL.out.keeps hk4 (fun k e => by omega)); clear hl4 hk4)
          have hbx := heap_alloc_new w4 (.cells #[.bool yb, .int .i64 yn, .string yt] 191)
          have HP5 := Lib.hid (HP4.out.below (below1 w4 (.cells #[.bool yb, .int .i64 yn, .string yt] 191)))
          have HB5 := Lib.hid (HB4.out.below (below1 w4 (.cells #[.bool yb, .int .i64 yn, .string yt] 191)))
          generalize w4.alloc (.cells #[.bool yb, .int .i64 yn, .string yt] 191) = W5 at hbx HP5 HB5 ⊢
          obtain ⟨⟨y0, y1, y2⟩, -⟩ := row3c hbx
          have hytl : yt.data.toList.length = yt.size := rfl
          simp only [sumL, List.map_cons, List.sum_cons] at hlen
          have HSM : Hid (acc.length + (yt.size + sumL Ly) ≤ 1000) := hlen
          have HWS : Hid (Calls Tryz.prog 115 #[.pointer (some ⟨BB, 0, none⟩), .string yt] W5 fun e w' => (∃ v, e = .returned v) ∧ BuildL BB BB (acc ++ yt.data.toList) w' ∧ Below BB W5 w') := by
            have := write_l (m := yt.data.toList) HB5.out (by rw [hytl]; have := HSM.out; omega) (Nat.le_of_lt HB5.out.lt)
            simp only [Array.toArray_toList] at this
            exact this
          have HOL : Hid (OkL Ly 1000) := ⟨by have := HSM.out; simp only [sumL] at this ⊢; omega, by have := hok.2.1; simp only [List.length_cons] at this; omega, fun z hz => hok.2.2 z (List.mem_cons_of_mem _ hz)⟩
          clear hlen hbx hytl
          go_wp2_with (go_at_call 115; refine HWS.out.mono ?_; rintro e w6 ⟨⟨v, rfl⟩, hb6, hl6⟩)
          refine ⟨⟨Ly, acc ++ yt.data.toList, HP5.out.belowB hl6 (Nat.le_of_lt HB5.out.lt) hKB hwB hXB, hb6, ?_, HOL.out, hKB, hwB, hXB⟩, ?_⟩
          · rw [List.length_append, show yt.data.toList.length = yt.size from rfl]
            have := HSM.out
            omega
          · rw [lenAt_eq (HP5.out.belowB hl6 (Nat.le_of_lt HB5.out.lt) hKB hwB hXB).1.2.2, HME.out]
            simp)
end Go.Proofs.YtmgeghoalmonoaaGreatDoor
