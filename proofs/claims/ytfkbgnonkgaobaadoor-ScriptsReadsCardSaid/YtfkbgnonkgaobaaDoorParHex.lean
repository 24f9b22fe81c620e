/- Walks: unhexed of scripts. -/
import Derived.Test.YtfkbgnonkgaobaaDoorParPlain
import Derived.Test.YtfkbgnonkgaobaaDoorScrHex
import Derived.Test.YtfkbgnonkgaobaaDoorShelf
import Derived.BigQuiet
import Derived.Deep.QuietTactic
namespace Go.Proofs.YtfkbgnonkgaobaaDoor
open Go.RowKit
set_option linter.unusedSimpArgs false
set_option linter.unusedVariables false

theorem unhexP_two : ∀ (k : Nat) (l : List UInt8) (a b : UInt8), l.length = 2 * k → Vz.unhexP (l ++ [a, b]) = Vz.unhexP l ++ [UInt8.ofNat (16 * Vz.hexV a + Vz.hexV b)]
  | 0, l, a, b, h => by
    obtain rfl : l = [] := List.length_eq_zero_iff.1 (by omega)
    rfl
  | k + 1, l, a, b, h => by
    match l, h with
    | x :: y :: r, h =>
      have := unhexP_two k r a b (by simp at h; omega)
      simp only [List.cons_append, Vz.unhexP, this]
theorem unhexP_odd : ∀ (k : Nat) (l : List UInt8) (a : UInt8), l.length = 2 * k → Vz.unhexP (l ++ [a]) = Vz.unhexP l
  | 0, l, a, h => by
    obtain rfl : l = [] := List.length_eq_zero_iff.1 (by omega)
    rfl
  | k + 1, l, a, h => by
    match l, h with
    | x :: y :: r, h =>
      have := unhexP_odd k r a (by simp at h; omega)
      simp only [List.cons_append, Vz.unhexP, this]
theorem unhexP_len : ∀ (k : Nat) (l : List UInt8), l.length = 2 * k → (Vz.unhexP l).length = k
  | 0, l, h => by
    obtain rfl : l = [] := List.length_eq_zero_iff.1 (by omega)
    rfl
  | k + 1, l, h => by
    match l, h with
    | x :: y :: r, h =>
      have := unhexP_len k r (by simp at h; omega)
      simp only [Vz.unhexP, List.length_cons, this]
theorem take_two (T : ByteArray) (j : Nat) (h : j + 1 < T.size) : T.data.toList.take (j + 2) = T.data.toList.take j ++ [T[j]'(by omega), T[j + 1]'h] := by
  rw [take_at T (j + 1) h, take_at T j (by omega)]
  simp

def hexS : ByteArray := ⟨#[48, 49, 50, 51, 52, 53, 54, 55, 56, 57, 97, 98, 99, 100, 101, 102]⟩
def idxI (x : UInt8) : Int := Lib.indexByte [48, 49, 50, 51, 52, 53, 54, 55, 56, 57, 97, 98, 99, 100, 101, 102] x
theorem idxI_max (x : UInt8) : max (idxI x) 0 = (Vz.hexV x : Int) := by
  have := Lib.indexByte_ge [48, 49, 50, 51, 52, 53, 54, 55, 56, 57, 97, 98, 99, 100, 101, 102] x
  unfold idxI Vz.hexV
  omega
theorem or_tab : ∀ a b : Fin 16, bits BinOp.or IntKind.i64 ((a.val * 16 : Nat) : Int) (b.val : Int) % 256 = ((UInt8.ofNat (16 * a.val + b.val)).toNat : Int) := by decide +kernel
theorem or_hex (x y : UInt8) : bits BinOp.or IntKind.i64 (wrap64 (max (idxI x) 0 * 16)) (max (idxI y) 0) % 256 = ((UInt8.ofNat (16 * Vz.hexV x + Vz.hexV y)).toNat : Int) := by
  have hx := Vz.hexV_lt x
  have hy := Vz.hexV_lt y
  rw [idxI_max, idxI_max, show wrap64 ((Vz.hexV x : Int) * 16) = ((Vz.hexV x * 16 : Nat) : Int) by unfold wrap64; omega]
  exact or_tab ⟨_, hx⟩ ⟨_, hy⟩
theorem below_drewN {B : Nat} {a w : World} (h : Below B a w) (q : Nat) : Below B a (w.drewN q) := ⟨h.os, h.tape, h.output, h.size, h.block⟩
theorem idx_any (x : UInt8) (w : World) : Calls Tryd.prog 35 #[.string ⟨#[48, 49, 50, 51, 52, 53, 54, 55, 56, 57, 97, 98, 99, 100, 101, 102]⟩, .int .u8 x.toNat] w fun e w' => e = .returned (.int .i64 (idxI x)) ∧ w' = w := by
  have h := Tryd.strings_IndexByte ⟨#[48, 49, 50, 51, 52, 53, 54, 55, 56, 57, 97, 98, 99, 100, 101, 102]⟩ (x.toNat : Int) w
  have e : ((x.toNat : Int).toNat).toUInt8 = x := by simp
  rw [e] at h
  exact h

set_option maxRecDepth 100000 in
set_option maxHeartbeats 1000000 in
theorem unhexed_any (T : ByteArray) (hT : T.size ≤ 1000) (w : World) : Calls Tryd.prog 38 #[.string T] w fun e w' => e = .returned (.string ⟨(Vz.unhexP T.data.toList).toArray⟩) ∧ Below w.heap.size w w' := by
  obtain ⟨i0, hi, hz0, hz1, hz2⟩ := info_parts infoU8
  have hlen : T.data.toList.length = T.size := rfl
  have HID := Lib.hid idx_any
  go_enter Tryd.func38, Tryd.ntmps38
  go_wp2_with fail
  go_loopw [3, 4] (fun v i wr => ∃ i1 j : Nat, i1 ≤ T.size ∧ i = .int .i64 i1 ∧ i1 = 2 * j ∧ wr.ownsRow w.heap.size 5 1 v j (bytesV (Vz.unhexP (T.data.toList.take i1))) ∧ Below w.heap.size w wr) (fun _ i _ => T.size - (intOf i).toNat)
  case atStart => exact ⟨0, 0, Nat.zero_le _, rfl, rfl, World.ownsRow_nil _ _ _ _, Below.refl _ _⟩
  case round =>
    obtain ⟨i1, j, hj, rfl, hij, hown, hB⟩ := hrel
    have HIJ := Lib.hid hij
    clear hij
    by_cases hlt : i1 + 1 < T.size
    · have ht := take_two T i1 hlt
      obtain ⟨x, hx⟩ : ∃ x, T[i1]'(Nat.lt_of_succ_lt hlt) = x := ⟨_, rfl⟩
      obtain ⟨y, hy⟩ : ∃ y, T[i1 + 1]'hlt = y := ⟨_, rfl⟩
      rw [hx, hy] at ht
      have HT := Lib.hid ht
      have HOW := Lib.hid hown
      obtain ⟨va, vc, rfl⟩ := ownsRow_sl hown
      have hcb : decide ((i1 : Int) + 1 < (T.size : Int)) = true := decide_eq_true (by omega)
      have hwi : IntKind.i64.wrap ((i1 : Int) + 1) = ((i1 + 1 : Nat) : Int) := by rw [IntKind.wrap_i64]; omega
      clear ht hown
      go_wp2_with fail
      go_quiet (exact Calls.quiet_of_same (HID.out _ _))
      have o0 : (wr.drewN nq).ownsRow w.heap.size 5 1 (.slice va j vc) j (bytesV (Vz.unhexP (T.data.toList.take i1))) := HOW.out
      go_wp2_with (at_builtin; refine wpList_append_own _ rfl _ _ 52 rfl w.heap.size 5 i0 (.int .u8 0) 1 1 Tryd.underlying52 hi hz0 hz1 hz2 rfl (by decide) _ _ _ rfl (o0.alloc _) ⟨wr.heap.size, 0, none⟩ 1 1 [.int .u8 (bits BinOp.or IntKind.i64 (wrap64 (max (idxI x) 0 * 16)) (max (idxI y) 0) % 256)] rfl rfl (cell_one_new _ _ _) (by simp [Value.oneCell']) (by unfold maxLen; have := HIJ.out; omega) (by have := HIJ.out; omega) (by have := hB.size; simp [World.drewN]; omega) ?_; intro v' w3 hown' hgrow _)
      rw [or_hex] at hown'
      have hl3 : (T.data.toList.take i1).length = 2 * j := by rw [List.length_take]; have := HIJ.out; omega
      refine ⟨⟨i1 + 2, j + 1, by omega, by go_num, by have := HIJ.out; omega, ?_, ?_⟩, by simp [intOf]; omega⟩
      · rw [HT.out, unhexP_two j _ x y hl3]
        have : bytesV (Vz.unhexP (T.data.toList.take i1) ++ [UInt8.ofNat (16 * Vz.hexV x + Vz.hexV y)]) = bytesV (Vz.unhexP (T.data.toList.take i1)) ++ [.int .u8 (UInt8.ofNat (16 * Vz.hexV x + Vz.hexV y)).toNat] := by simp [bytesV]
        rw [this]
        exact hown'
      · exact ((below_drewN hB nq).alloc hB.size _).grown hgrow (by have := hB.size; simp [World.drewN]; omega) (fun j e => ownsRow_bs HOW.out e)
    · have hcb : decide ((i1 : Int) + 1 < (T.size : Int)) = false := decide_eq_false (by omega)
      have hu : Vz.unhexP (T.data.toList.take i1) = Vz.unhexP T.data.toList := by
        have hij := HIJ.out
        by_cases he : i1 = T.size
        · rw [List.take_of_length_le (by rw [hlen]; omega)]
        · have h1 : i1 < T.size := by omega
          have h2 : T.data.toList = T.data.toList.take i1 ++ [T[i1]'h1] := by
            rw [← take_at T i1 h1, List.take_of_length_le (by rw [hlen]; omega)]
          have h3 := unhexP_odd j (T.data.toList.take i1) (T[i1]'h1) (by rw [List.length_take]; omega)
          rw [← h2] at h3
          exact h3.symm
      have hul : (Vz.unhexP T.data.toList).length = j := by
        rw [← hu]
        exact unhexP_len j _ (by rw [List.length_take]; have := HIJ.out; omega)
      rw [hu] at hown
      have hcv := conv_own (v := _) (l := Vz.unhexP T.data.toList) (by rw [hul]; exact hown)
      obtain ⟨va, vc, rfl⟩ := ownsRow_sl hown
      clear hown hul hu
      go_wp2_with fail
      go_ret
      exact ⟨rfl, hB⟩
end Go.Proofs.YtfkbgnonkgaobaaDoor
