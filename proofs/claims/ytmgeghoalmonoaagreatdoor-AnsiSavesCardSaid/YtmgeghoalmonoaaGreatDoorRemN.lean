import Derived.Test.YtmgeghoalmonoaaGreatDoorRemA
import Derived.Lib.Atoi
import Derived.Lib.AtoiErrMem
import Derived.Laws.IdiomStrings

/- Walks: the number at the beginning of bytes. -/
namespace Go.Proofs.YtmgeghoalmonoaaGreatDoor
open Go.RowKit
set_option linter.unusedSimpArgs false
set_option linter.unusedVariables false
set_option maxRecDepth 100000
attribute [local go_sem] alloc_drewN setCell_drewN World.cell?_alloc_some frozen_alloc_some

def DigL (l : List UInt8) : Prop := ∀ b ∈ l, 48 ≤ b.toNat ∧ b.toNat ≤ 57
theorem decFrom_dig : ∀ (l : List UInt8) (acc : Nat), DigL l → ∃ n, Lib.decFrom acc l = some n
  | [], acc, _ => ⟨acc, rfl⟩
  | b :: r, acc, h => by
    obtain ⟨n, hn⟩ := decFrom_dig r (acc * 10 + (b.toNat - 48)) (fun c hc => h c (List.mem_cons_of_mem _ hc))
    refine ⟨n, ?_⟩
    unfold Lib.decFrom Lib.digitVal
    rw [if_pos (h b (List.mem_cons_self ..))]
    exact hn
theorem atoi_dig (l : List UInt8) (h : DigL l) (hne : l ≠ []) : ∃ n : Nat, Lib.atoi l = some (n : Int) := by
  cases l with
  | nil => exact absurd rfl hne
  | cons b r =>
    obtain ⟨n, hn⟩ := decFrom_dig (b :: r) 0 h
    have hb := h b (List.mem_cons_self ..)
    have h1 : (b == 45) = false := beq_eq_false_iff_ne.2 (fun e => by subst e; exact absurd hb.1 (by decide))
    have h2 : (b == 43) = false := beq_eq_false_iff_ne.2 (fun e => by subst e; exact absurd hb.1 (by decide))
    refine ⟨n, ?_⟩
    unfold Lib.atoi
    simp only [h1, h2, Bool.false_eq_true, if_false]
    unfold Lib.decNat
    simp only [List.isEmpty_cons, Bool.false_eq_true, if_false, hn, Option.map_some]
theorem dig_step (s : ByteArray) (k : Nat) (hk : k < s.size) (h : DigL (s.data.toList.take k)) (h1 : 48 ≤ (s[k]'hk).toNat) (h2 : (s[k]'hk).toNat ≤ 57) : DigL (s.data.toList.take (k + 1)) := by
  intro b hb
  have hk' : k < s.data.toList.length := hk
  rw [List.take_add_one, List.getElem?_eq_getElem hk'] at hb
  rcases List.mem_append.1 hb with hb | hb
  · exact h b hb
  · have : b = s[k]'hk := by
      have h3 : b = s.data.toList[k]'hk' := by simpa using hb
      rw [h3]
      rfl
    subst this
    exact ⟨h1, h2⟩
/-- Where number stands at the item's box. -/
def ItemB (w W : World) : Prop := Below w.heap.size w W ∧ W.heap[w.heap.size]? = some (.cells #[.bool false, .int .i64 0, .string ⟨#[]⟩] 191 (0, 0))
theorem ItemB.below {w W W' : World} (h : ItemB w W) (hb : Below W.heap.size W W') : ItemB w W' := ⟨Below.later h.1 hb h.1.size, (hb.block _ (block_lt h.2)).trans h.2⟩
theorem ItemB.drew {w W : World} (h : ItemB w W) : ItemB w W.drew := ⟨h.1.drew, h.2⟩
theorem ItemB.alloc {w W : World} (h : ItemB w W) (o : Obj) : ItemB w (W.alloc o) := ⟨h.1.alloc h.1.size o, (Below.heap_alloc _ _ _ (block_lt h.2)).trans h.2⟩
theorem ItemB.cells {w W : World} (h : ItemB w W) : (W.cell? ⟨w.heap.size, 0, none⟩ = some (.bool false) ∧ W.cell? ⟨w.heap.size, 1, none⟩ = some (.int .i64 0) ∧ W.cell? ⟨w.heap.size, 2, none⟩ = some (.string ⟨#[]⟩)) ∧ W.frozen? ⟨w.heap.size, 0, none⟩ = false ∧ W.frozen? ⟨w.heap.size, 1, none⟩ = false ∧ W.frozen? ⟨w.heap.size, 2, none⟩ = false :=
  ⟨⟨cell_row h.2 0, cell_row h.2 1, cell_row h.2 2⟩, frozen_row h.2 0, frozen_row h.2 1, frozen_row h.2 2⟩
/-- The item's box, written. -/
def ItemW (w W : World) (b : Bool) (x : Int) (t : ByteArray) : Prop := Below w.heap.size w W ∧ W.heap[w.heap.size]? = some (.cells #[.bool b, .int .i64 x, .string t] 191 (0, 0))
theorem ItemB.put {w W : World} (h : ItemB w W) (b : Bool) (x : Int) (t : ByteArray) : ItemW w (((W.setCell ⟨w.heap.size, 0, none⟩ (.bool b)).setCell ⟨w.heap.size, 1, none⟩ (.int .i64 x)).setCell ⟨w.heap.size, 2, none⟩ (.string t)) b x t :=
  ⟨((h.1.setCell (p := ⟨w.heap.size, 0, none⟩) (Nat.le_refl _) _).setCell (p := ⟨w.heap.size, 1, none⟩) (Nat.le_refl _) _).setCell (p := ⟨w.heap.size, 2, none⟩) (Nat.le_refl _) _, heap_set_same (heap_set_same (heap_set_same h.2 0 (.bool b)) 1 (.int .i64 x)) 2 (.string t)⟩
theorem ItemW.cells {w W : World} {b : Bool} {x : Int} {t : ByteArray} (h : ItemW w W b x t) : W.cell? ⟨w.heap.size, 0, none⟩ = some (.bool b) ∧ W.cell? ⟨w.heap.size, 1, none⟩ = some (.int .i64 x) ∧ W.cell? ⟨w.heap.size, 2, none⟩ = some (.string t) :=
  ⟨cell_row h.2 0, cell_row h.2 1, cell_row h.2 2⟩
set_option maxHeartbeats 8000000 in
theorem number_ok (s : ByteArray) (h2 : s.size ≤ 1000) (w : World) : Calls Tryz.prog 139 #[.string s] w fun e w' => ItemR s w e w' := by
  have HI0 : Hid (ItemB w (w.alloc (.cells #[.bool false, .int .i64 0, .string ⟨#[]⟩] 191))) := ⟨below1 _ _, heap_alloc_new w _⟩
  have HNO : Hid (∀ W, ItemW w W false 0 ⟨#[]⟩ → ItemR s w (.returned (.tuple #[.agg #[.bool false, .int .i64 0, .string ⟨#[]⟩], .string ⟨#[]⟩, .bool false])) W) := fun W hi => ⟨_, _, _, _, _, rfl, ⟨by decide, by decide⟩, Nat.zero_le _, (fun e => by cases e), hi.1⟩
  obtain ⟨W0, hW0⟩ : ∃ W, w.alloc (.cells #[.bool false, .int .i64 0, .string ⟨#[]⟩] 191) = W := ⟨_, rfl⟩
  rw [hW0] at HI0
  go_enter Tryz.func139, Tryz.ntmps139
  go_upto_region 1 with fail
  try rw [hW0]
  clear hW0
  go_wp2_with fail
  go_loopw [5] (fun i wr => ∃ k : Nat, k ≤ s.size ∧ i = .int .i64 (k : Int) ∧ DigL (s.data.toList.take k) ∧ ItemB w wr) (fun i _ => s.size - (intOf i).toNat)
  case atStart => exact ⟨0, Nat.zero_le _, rfl, (fun b hb => by cases hb), HI0.out⟩
  case round =>
    obtain ⟨k, hk, rfl, hd, hi⟩ := hrel
    have HI := Lib.hid hi
    clear hi
    have HD := Lib.hid hd
    clear hd
    have hcase : (∃ hlt : k < s.size, 48 ≤ (s[k]'hlt).toNat ∧ (s[k]'hlt).toNat ≤ 57) ∨ (k = s.size ∨ (∃ hlt : k < s.size, ¬ 48 ≤ (s[k]'hlt).toNat) ∨ (∃ hlt : k < s.size, 48 ≤ (s[k]'hlt).toNat ∧ ¬ (s[k]'hlt).toNat ≤ 57)) := by
      by_cases hlt : k < s.size
      · by_cases h48 : 48 ≤ (s[k]'hlt).toNat
        · by_cases h57 : (s[k]'hlt).toNat ≤ 57
          · exact .inl ⟨hlt, h48, h57⟩
          · exact .inr (.inr (.inr ⟨hlt, h48, h57⟩))
        · exact .inr (.inr (.inl ⟨hlt, h48⟩))
      · exact .inr (.inl (by omega))
    rcases hcase with ⟨hlt, h48, h57⟩ | hst
    · have hkz : (k : Int) < (s.size : Int) := by omega
      have hk0 : (0 : Int) ≤ (k : Int) := by omega
      have a1 : (48 : Int) ≤ ((s[k]'hlt).toNat : Int) := by omega
      have a2 : ((s[k]'hlt).toNat : Int) ≤ 57 := by omega
      have hwk : IntKind.i64.wrap ((k : Int) + 1) = ((k + 1 : Nat) : Int) := by rw [wrap_in (by omega) (by omega)]; rfl
      go_wp2_with fail
      exact ⟨⟨k + 1, by omega, rfl, dig_step s k hlt HD.out h48 h57, HI.out⟩, by simp [intOf]; omega⟩
    · rcases hst with hke | ⟨hlt, h48⟩ | ⟨hlt, h48, h57⟩
      case' inr.inl =>
        have hkz : ¬ (k : Int) < (s.size : Int) := by omega
        clear hke
        go_upto_region 4 with fail
      case' inr.inr.inl =>
        have hkz : (k : Int) < (s.size : Int) := by omega
        have hk0 : (0 : Int) ≤ (k : Int) := by omega
        have a1 : ¬ (48 : Int) ≤ ((s[k]'hlt).toNat : Int) := by omega
        go_upto_region 4 with fail
      case' inr.inr.inr =>
        have hkz : (k : Int) < (s.size : Int) := by omega
        have hk0 : (0 : Int) ≤ (k : Int) := by omega
        have a1 : (48 : Int) ≤ ((s[k]'hlt).toNat : Int) := by omega
        have a2 : ¬ ((s[k]'hlt).toNat : Int) ≤ 57 := by omega
        go_upto_region 4 with fail
      all_goals (
        obtain ⟨⟨c0, c1, c2⟩, f0, f1, f2⟩ := HI.out.cells
        have HP := Lib.hid (HI.out.put false 0 ⟨#[]⟩)
        obtain ⟨WZ, hWZ⟩ : ∃ W, W = (((wr.setCell ⟨w.heap.size, 0, none⟩ (.bool false)).setCell ⟨w.heap.size, 1, none⟩ (.int .i64 0)).setCell ⟨w.heap.size, 2, none⟩ (.string ⟨#[]⟩)) := ⟨_, rfl⟩
        rw [← hWZ] at HP
        obtain ⟨z0, z1, z2⟩ := HP.out.cells
        by_cases hk1 : k < 1
        · have b1 : (k : Int) < 1 := by omega
          go_wp2_with fail
          refine bodyPost_ret (v := .tuple #[.agg #[.bool false, .int .i64 0, .string ⟨#[]⟩], .string ⟨#[]⟩, .bool false]) (by rw [← hWZ]; simp [results, Tryz.results139, go_sem, z0, z1, z2]) rfl ?_
          rw [← hWZ]
          exact HNO.out _ HP.out
        by_cases hk4 : 4 < k
        · have b1 : ¬ (k : Int) < 1 := by omega
          have b2 : (4 : Int) < (k : Int) := by omega
          go_wp2_with fail
          refine bodyPost_ret (v := .tuple #[.agg #[.bool false, .int .i64 0, .string ⟨#[]⟩], .string ⟨#[]⟩, .bool false]) (by rw [← hWZ]; simp [results, Tryz.results139, go_sem, z0, z1, z2]) rfl ?_
          rw [← hWZ]
          exact HNO.out _ HP.out
        have b1 : ¬ (k : Int) < 1 := by omega
        have b2 : ¬ (4 : Int) < (k : Int) := by omega
        have b3 : (0 : Int) ≤ (k : Int) := by omega
        have b4 : (k : Int) ≤ (s.size : Int) := by omega
        clear hWZ z0 z1 z2 HP
        obtain ⟨n, hn⟩ := atoi_dig (s.data.toList.take k) HD.out (by intro e; have := congrArg List.length e; rw [List.length_take] at this; have hz : s.data.toList.length = s.size := rfl; rw [hz] at this; simp only [List.length_nil] at this; omega)
        have hsx : (s.extract 0 (k : Int).toNat).data.toList = s.data.toList.take k := by simp
        have hszx := extract_size s 0 (k : Int).toNat (by omega)
        have hsl := run_slice_string_h (P := Tryz.prog) wr 9 s Tryz.underlying9 .i64 (k : Int) b3 b4
        generalize s.extract 0 (k : Int).toNat = sx at hsx hszx hsl
        rw [← hsx] at hn
        have HAT := Lib.hid (Tryz.strconv_Atoi sx n (by omega) hn)
        go_upto_region 7 with (go_at_call 150; refine (HAT.out _).mono ?_; rintro e w1 ⟨rfl, tt, rfl⟩)
        have HB1 : Hid (Below w.heap.size w (Lib.bytesWorld wr 5 tt)) := HI.out.1.trans ((Lib.bytesWorld_below wr 5 tt).mono HI.out.1.size)
        obtain ⟨W1, hW1⟩ : ∃ W, W = Lib.bytesWorld wr 5 tt := ⟨_, rfl⟩
        rw [← hW1] at HB1
        rw [← hW1]
        have HX1 : Hid (ItemB w W1) := by
          refine ⟨HB1.out, ?_⟩
          have hb := (Lib.bytesWorld_below wr 5 tt).block _ (block_lt HI.out.2)
          rw [hW1]
          exact hb.trans HI.out.2
        clear hW1 c0 c1 c2 f0 f1 f2 hsl
        obtain ⟨⟨c0, c1, c2⟩, f0, f1, f2⟩ := HX1.out.cells
        by_cases hn255 : 255 < n
        · have g1 : (255 : Int) < (n : Int) := by omega
          have HP := Lib.hid (HX1.out.put false 0 ⟨#[]⟩)
          obtain ⟨WZ, hWZ⟩ : ∃ W, W = (((W1.setCell ⟨w.heap.size, 0, none⟩ (.bool false)).setCell ⟨w.heap.size, 1, none⟩ (.int .i64 0)).setCell ⟨w.heap.size, 2, none⟩ (.string ⟨#[]⟩)) := ⟨_, rfl⟩
          rw [← hWZ] at HP
          obtain ⟨z0, z1, z2⟩ := HP.out.cells
          go_wp2_with fail
          refine bodyPost_ret (v := .tuple #[.agg #[.bool false, .int .i64 0, .string ⟨#[]⟩], .string ⟨#[]⟩, .bool false]) (by rw [← hWZ]; simp [results, Tryz.results139, go_sem, z0, z1, z2]) rfl ?_
          rw [← hWZ]
          exact HNO.out _ HP.out
        have g1 : ¬ (255 : Int) < (n : Int) := by omega
        have hwx : IntKind.u8.wrap (n : Int) = (n : Int) := by simp [IntKind.wrap, IntKind.bits, IntKind.signed]; omega
        have HCV : Hid (∀ W : World, W.cell? ⟨W1.heap.size, 0, none⟩ = some (.int .u8 (n : Int)) → Sem.run Tryz.prog (convert 80 9 (.slice (some ⟨W1.heap.size, 0, none⟩) 1 1)) W = .ok (.string ⟨#[UInt8.ofNat n]⟩) W) := fun W hW => run_convert_bytes_back (P := Tryz.prog) W 80 9 5 ⟨W1.heap.size, 0, none⟩ 1 [UInt8.ofNat n] (by kernel_rfl) (by kernel_rfl) Tryz.underlying9 (fun j hj => by
          have : j = 0 := by simp at hj; omega
          subst this
          have he : ((UInt8.ofNat n).toNat : Int) = (n : Int) := by rw [UInt8.toNat_ofNat']; omega
          simp only [List.getElem_cons_zero, he]
          exact hW)
        have HSR := Lib.hid (run_slice_string_l (P := Tryz.prog) W1 9 s Tryz.underlying9 .i64 (k : Int) b3 b4)
        go_upto_region 9 with fail
        clear c0 c1 c2 f0 f1 f2
        obtain ⟨WA, hWA⟩ : ∃ W, W = (W1.alloc (.cells #[.int .u8 (n : Int)] 5)).drew := ⟨_, rfl⟩
        have HXA : Hid (ItemB w WA) := by show ItemB w WA; rw [hWA]; exact (HX1.out.alloc _).drew
        refine wp_region_noPanic ?_
        refine wp_region_k (S := fun W : World => ItemB w W) 9 (by kernel_rfl) (HX1.out.drew) (fun hHeld => ?_)
        refine kSK 0 hHeld ?_
        refine kSK 1 hHeld ?_
        refine kSK 2 hHeld ?_
        refine kSK 6 hHeld ?_
        refine kSK 7 hHeld ?_
        try refine kNK ?_
        refine kSK 8 hHeld ?_
        try refine kNK ?_
        refine kOK 3 fun KQ hKQ => ?_
        go_simp
        refine hKQ.out _ _ (hHeld.alloc _) ?_
        clear hHeld hKQ KQ
        intro hHeld
        try refine kNK ?_
        refine kOK 4 fun KQ hKQ => ?_
        go_simp
        have hcv := HCV.out (W1.alloc (.cells #[.int .u8 (n : Int)] 5)).drew (by simp [go_sem])
        go_simp
        refine hKQ.out _ _ (hHeld) ?_
        clear hHeld hKQ KQ
        intro hHeld
        try refine kNK ?_
        refine kSK 5 hHeld ?_
        try refine kNK ?_
        refine kPK 9 fun KQ hKQ => ?_
        rw [← hWA]
        obtain ⟨⟨c0, c1, c2⟩, f0, f1, f2⟩ := HXA.out.cells
        clear hWA
        go_simp
        refine hKQ.out _ _ ?_
        clear hKQ KQ
        try refine kNK ?_
        refine kBK 10 ?_
        refine kBK 11 ?_
        try refine kNK ?_
        refine wpAnyK_done (by kernel_rfl) ?_ _
        refine NoPanic.normal ?_
        have HP := Lib.hid (HXA.out.put true (n : Int) ⟨#[UInt8.ofNat n]⟩)
        generalize ((WA.setCell ⟨w.heap.size, 0, none⟩ (.bool true)).setCell ⟨w.heap.size, 1, none⟩ (.int .i64 (n : Int))).setCell ⟨w.heap.size, 2, none⟩ (.string ⟨#[UInt8.ofNat n]⟩) = WE at *
        obtain ⟨z0, z1, z2⟩ := HP.out.cells
        go_wp2_with fail
        have e2 := extract_size s k s.size (Nat.le_refl _)
        refine bodyPost_ret (v := .tuple #[.agg #[.bool true, .int .i64 (n : Int), .string ⟨#[UInt8.ofNat n]⟩], .string (s.extract k s.size), .bool true]) (by simp [results, Tryz.results139, go_sem, z0, z1, z2]) rfl ?_
        exact ⟨_, _, _, _, _, rfl, ⟨by omega, by omega⟩, (by rw [e2]; show 1 + _ ≤ _; omega), (fun _ => by omega), HP.out.1⟩)
end Go.Proofs.YtmgeghoalmonoaaGreatDoor
