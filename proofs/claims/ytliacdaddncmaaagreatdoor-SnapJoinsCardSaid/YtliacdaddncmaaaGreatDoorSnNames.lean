import Derived.Test.YtliacdaddncmaaaGreatDoorShelfS
import Derived.Test.YtliacdaddncmaaaGreatDoorLT
import Derived.Test.YtliacdaddncmaaaGreatDoorLA
import Derived.Maps.AppendAt
import Derived.Laws.IdiomStrings
import Derived.Deep.AppendLies
import Derived.WalkSmall

/- Walks: attr.Names (as XNames, over another shelf). -/
namespace Go.Proofs.YtliacdaddncmaaaGreatDoor
open Go.RowKit
set_option linter.unusedSimpArgs false
set_option linter.unusedVariables false

def names12a : Array Value := #[.int .i64 1, .string ⟨#[98, 111, 108, 100]⟩, .int .i64 2, .string ⟨#[100, 105, 109]⟩, .int .i64 4, .string ⟨#[117, 110, 100, 101, 114]⟩, .int .i64 8, .string ⟨#[98, 108, 105, 110, 107]⟩,
  .int .i64 16, .string ⟨#[114, 101, 118, 101, 114, 115, 101]⟩, .int .i64 32, .string ⟨#[104, 105, 100, 100, 101, 110]⟩]

theorem infoStr : (Tryz.prog.info? 9).map (fun i => (i.zero, i.size, i.bytes)) = some (some (.string ⟨#[]⟩), 1, 16) := by kernel_rfl

def strsV (l : List (List UInt8)) : List Value := l.map fun x => Value.string ⟨x.toArray⟩

theorem index_names (k : Nat) (hk : k < 6) (w : World) : (Instr.index 120 (.agg names12a) (.int .i64 (k : Nat))).run Tryz.prog w = .ok (.agg #[.int .i64 ((2 ^ k : Nat) : Int), .string ⟨(Vz.wordAt k).toArray⟩]) w := by
  obtain rfl | rfl | rfl | rfl | rfl | rfl : k = 0 ∨ k = 1 ∨ k = 2 ∨ k = 3 ∨ k = 4 ∨ k = 5 := by omega
  all_goals kernel_rfl

set_option maxHeartbeats 1000000 in
theorem digit_any (c : Nat) (hc : c ≤ 9) (w : World) :
    Calls Tryz.prog 67 #[.int .i64 c] w fun e w' => e = .returned (.string ⟨(Vz.digitB1 c).toArray⟩) ∧ Below w.heap.size w w' := by
  have hcv : (convert 70 9 (.slice (some ⟨w.heap.size, 0, none⟩) 1 1)).run Tryz.prog (w.alloc (.cells #[.int .u8 (48 + (c : Int))] 5)) = .ok (.string ⟨(Vz.digitB1 c).toArray⟩) (w.alloc (.cells #[.int .u8 (48 + (c : Int))] 5)) := by
    refine run_convert_bytes_back (P := Tryz.prog) (w.alloc _) _ _ _ ⟨w.heap.size, 0, none⟩ 1 (Vz.digitB1 c) Tryz.underlying70 Tryz.underlying5 Tryz.underlying9 fun j hj => ?_
    obtain rfl : j = 0 := by simp [Vz.digitB1] at hj; omega
    have hg : (w.alloc (.cells #[.int .u8 (48 + (c : Int))] 5)).heap[w.heap.size]? = some (.cells #[.int .u8 (48 + (c : Int))] 5 (0, 0)) := by
      show (w.heap.push _)[w.heap.size]? = _
      simp
    have : (w.alloc (.cells #[.int .u8 (48 + (c : Int))] 5)).cell? ⟨w.heap.size, 0, none⟩ = some (.int .u8 (48 + (c : Int))) := by
      rw [cell_of_row _ w.heap.size 0 _ _ _ hg]; rfl
    show World.cell? _ (Addr.add ⟨w.heap.size, 0, none⟩ 0) = _
    rw [show Addr.add ⟨w.heap.size, 0, none⟩ 0 = ⟨w.heap.size, 0, none⟩ from rfl, this]
    simp [Vz.digitB1]
    omega
  go_enter Tryz.func67, Tryz.ntmps67
  go_wp2
  go_ret
  exact ⟨rfl, (Below.refl _ _).alloc (Nat.le_refl _) _⟩

theorem cell_one_new2 (w : World) (o : Obj) (x : Value) (t : TypeId) : ∀ (j : Nat) (u : Value), [x][j]? = some u → ((w.alloc o).alloc (.cells #[x] t)).cell? ((⟨w.heap.size + 1, 0, none⟩ : Addr).add j) = some u := by
  have h := cell_one_new (w.alloc o) x t
  rwa [World.size_alloc] at h

theorem ownsRow_below0 {W W' : World} {base : Nat} {e : TypeId} {size : Nat} {v : Value} {k : Nat} {xs : List Value} (h : W.ownsRow base e size v k xs) (hb : Below W.heap.size W W') : W'.ownsRow base e size v k xs :=
  h.kept (row := none) ⟨hb.os, hb.tape, hb.output, hb.size, fun i hi _ => hb.block i hi⟩ (by cases v.ownBlock <;> simp)
theorem ownsRow_slice0 {W : World} {base : Nat} {e : TypeId} {size : Nat} {v : Value} {k : Nat} {xs : List Value} (h : W.ownsRow base e size v k xs) : ∃ a c, v = .slice a k c := by
  rcases h.2 with ⟨rfl, rfl⟩ | ⟨g, cap, _, rfl, _⟩
  · exact ⟨_, _, rfl⟩
  · exact ⟨_, _, rfl⟩
theorem bytes_cat (a s : List UInt8) : (⟨a.toArray⟩ : ByteArray) ++ ⟨s.toArray⟩ = ⟨(a ++ s).toArray⟩ := by
  have h : ((⟨a.toArray⟩ : ByteArray) ++ ⟨s.toArray⟩).data.toList = a ++ s := by rw [ByteArray.data_append]; simp
  obtain ⟨x, hx⟩ : ∃ x, (⟨a.toArray⟩ : ByteArray) ++ ⟨s.toArray⟩ = x := ⟨_, rfl⟩
  rw [hx] at h ⊢
  obtain ⟨⟨l⟩⟩ := x
  simp at h
  rw [h]
theorem ownsRow_base2 {W : World} {base : Nat} {e : TypeId} {size : Nat} {v : Value} {k : Nat} {xs : List Value} (h : W.ownsRow base e size v k xs) {j : Nat} (e' : v.ownBlock = some j) : base ≤ j := by
  rcases h.2 with ⟨rfl, _⟩ | ⟨g, cap, cur, rfl, hb, _, _⟩
  · simp [Value.ownBlock] at e'
  · obtain rfl : g = j := by simpa [Value.ownBlock] using e'
    exact hb

theorem bit_test (n k : Nat) (hn : n < 16384) (hk : k < 6) : (bits .and .i64 (n : Int) ((2 ^ k : Nat) : Int) != 0) = decide (n / 2 ^ k % 2 = 1) := by
  have h2 : 2 ^ k < 9223372036854775808 := Nat.lt_of_lt_of_le (Nat.pow_lt_pow_right (by decide) hk) (by decide)
  rw [Vz.and_test n (2 ^ k) (by omega) h2]
  obtain ⟨⟨l1, l2, l4, l8⟩, l16, l32, _⟩ := Vz.land_bits n hn
  obtain rfl | rfl | rfl | rfl | rfl | rfl : k = 0 ∨ k = 1 ∨ k = 2 ∨ k = 3 ∨ k = 4 ∨ k = 5 := by omega
  · rw [show 2 ^ 0 = 1 from rfl, l1, Nat.div_one]; rfl
  · rw [show 2 ^ 1 = 2 from rfl, l2]; rfl
  · rw [show 2 ^ 2 = 4 from rfl, l4]; rfl
  · rw [show 2 ^ 3 = 8 from rfl, l8]; rfl
  · rw [show 2 ^ 4 = 16 from rfl, l16]; rfl
  · rw [show 2 ^ 5 = 32 from rfl, l32]; rfl

theorem join_own (w : World) (base : Nat) (v : Value) (l : List (List UInt8)) (hown : w.ownsRow base 9 1 v l.length (strsV l)) (hne : 0 < l.length) (hb : (Vz.joinC l).length ≤ 64) (hn : l.length ≤ 1000) :
    Calls Tryz.prog 68 #[v, .string ⟨#[44]⟩] w fun e w' => e = .returned (.string ⟨(Vz.joinC l).toArray⟩) ∧ Below w.heap.size w w' := by
  rcases hown.2 with ⟨_, h0⟩ | ⟨g, cap, cur, rfl, _, hg, hcap, _⟩
  · omega
  have hlt : g < w.heap.size := (Array.getElem?_eq_some_iff.1 hg).1
  have hd : ((l.map fun x => (⟨x.toArray⟩ : ByteArray)).map (·.data.toList)) = l := by
    rw [List.map_map]
    have : ((fun x : ByteArray => x.data.toList) ∘ fun x : List UInt8 => (⟨x.toArray⟩ : ByteArray)) = id := by funext x; simp
    rw [this, List.map_id]
  have h := Tryz.strings_Join g 0 cap (l.map fun x => ⟨x.toArray⟩) ⟨#[44]⟩ w (fun j x hx => by
    have hc := hown.cells (g := g) rfl j (.string x) (by
      simp only [strsV, List.getElem?_map, Option.map_eq_some_iff] at hx ⊢
      obtain ⟨y, h1, h2⟩ := hx
      exact ⟨y, h1, by rw [h2]⟩)
    rw [← hc]
    congr 1
    unfold Addr.add
    split <;> simp_all) hlt (by rw [List.length_map]; omega) (by rw [List.length_map]; exact hcap) (by rw [hd]; show (Lib.join l [44]).length ≤ _; rw [Vz.lib_join]; omega)
  rw [List.length_map, hd] at h
  rw [show Lib.join l (⟨#[44]⟩ : ByteArray).data.toList = Vz.joinC l from Vz.lib_join l] at h
  exact h

theorem names_no (a : Int) (h2 : a < 9223372036854775808) (hm : Vz.mayI a = false) (w : World) :
    Calls Tryz.prog 40 #[.int .i64 a] w fun e w' => e = .returned (.string ⟨#[]⟩) ∧ w = w' := by
  have HM := Lib.hid (amay_no a h2 hm w)
  go_enter Tryz.func40, Tryz.ntmps40
  go_wp2_with (go_at_call 65; refine HM.out.mono ?_; rintro e w1 ⟨rfl, rfl⟩)
  go_ret
  exact ⟨rfl, rfl⟩

set_option maxRecDepth 100000 in
set_option maxHeartbeats 4000000 in
theorem names_any (n : Nat) (hm : Vz.mayI n = true) (w : World) (t : TypeId) (fr : Nat × Nat) (hg : w.heap[1]? = some (.cells names12a t fr)) :
    Calls Tryz.prog 40 #[.int .i64 n] w fun e w' => e = .returned (.string ⟨(Vz.namesL n).toArray⟩) ∧ Below w.heap.size w w' := by
  have hn : n < 16384 := by have := Vz.mayI_lt hm; omega
  have HM := Lib.hid (amay_yes n (by omega) hm w)
  obtain ⟨i0, hi, hz0, hz1, hz2⟩ := info_parts infoStr
  have HBT := Lib.hid (fun k hk => bit_test n k hn hk)
  have HIX := Lib.hid index_names
  have t64 : (bits .and .i64 (n : Int) 64 != 0) = _ := Vz.and_test n 64 (by omega) (by decide)
  have t64' : (bits .and .i64 (n : Int) 64 == 0) = _ := Vz.and_test0 n 64 (by omega) (by decide)
  obtain ⟨_, _, _, l64, _⟩ := Vz.land_bits n hn
  rw [l64] at t64
  have l64' : (n &&& 64 == 0) = !(n / 64 % 2 == 1) := by rw [← l64]; simp [bne]
  rw [l64'] at t64'
  have T1 := Lib.hid t64
  have T2 := Lib.hid t64'
  clear t64 t64' l64 l64' hm
  go_enter Tryz.func40, Tryz.ntmps40
  go_wp2_with (first | (go_at_call 65; refine HM.out.mono ?_; rintro e w1 ⟨rfl, rfl⟩) | (refine wpList_load_row rfl 120 _ rfl 1 rfl t _ fr _ hg Tryz.underlying120 rfl (by kernel_rfl) ?_))
  go_loopw [3, 12] (fun v i wr => ∃ k : Nat, k ≤ 6 ∧ i = .int .i64 k ∧ wr.ownsRow w.heap.size 9 1 v (Vz.wordsK n k).length (strsV (Vz.wordsK n k)) ∧ Below w.heap.size w wr) (fun _ i _ => 6 - (intOf i).toNat)
  case atStart => exact ⟨0, by omega, rfl, World.ownsRow_nil _ _ _ _, Below.refl _ _⟩
  case round =>
    obtain ⟨k, hk, rfl, hown, hB⟩ := hrel
    have hwl := Vz.wordsK_len n k
    by_cases hlt : k < 6
    · have hix := HIX.out k hlt
      have hbt := HBT.out k hlt
      by_cases hb : n / 2 ^ k % 2 = 1
      · rw [decide_eq_true hb] at hbt
        have hmx : (Vz.wordsK n k).length + 1 ≤ maxLen := by unfold maxLen; omega
        have HS : Hid (Vz.wordsK n (k + 1) = Vz.wordsK n k ++ [Vz.wordAt k]) := by show _ = _; simp only [Vz.wordsK, hb, if_true]
        have hbx := Lib.hid hb
        clear hb
        generalize hp : ((2 ^ k : Nat) : Int) = bk at hix hbt
        clear hp
        go_wp2_with (at_builtin; refine wpList_append_own _ rfl _ _ 118 rfl w.heap.size 9 i0 (.string ⟨#[]⟩) 1 16 Tryz.underlying118 hi hz0 hz1 hz2 rfl (by decide) _ _ _ rfl ((hown.alloc _).alloc _) ⟨wr.heap.size + 1, 0, none⟩ 1 1 [.string ⟨(Vz.wordAt k).toArray⟩] rfl rfl (cell_one_new2 _ _ _ _) (by simp [Value.oneCell']) hmx (by omega) (by have := hB.size; simp; omega) ?_; intro v' w1 hown' hgrow _)
        exact ⟨⟨k + 1, by omega, by go_num, by rw [HS.out]; simpa [strsV] using hown', ((hB.alloc hB.size _).alloc (by have := hB.size; simp; omega) _).grown hgrow (by have := hB.size; simp; omega) (fun j e => ownsRow_base2 hown e)⟩, by simp [intOf]; omega⟩
      · rw [decide_eq_false hb] at hbt
        have HS : Hid (Vz.wordsK n (k + 1) = Vz.wordsK n k) := by show _ = _; simp only [Vz.wordsK, hb, if_false]
        have hbx := Lib.hid hb
        clear hb
        generalize hp : ((2 ^ k : Nat) : Int) = bk at hix hbt
        clear hp
        go_wp2
        exact ⟨⟨k + 1, by omega, by go_num, by rw [HS.out]; exact hown.alloc _, hB.alloc hB.size _⟩, by simp [intOf]; omega⟩
    · obtain rfl : k = 6 := by omega
      have hjl := Vz.join_len n
      have t1 := T1.out
      have t2 := T2.out
      by_cases hc : n / 64 % 2 = 1
      · rw [show (n / 64 % 2 == 1) = true by simpa using hc] at t1 t2
        have hW : Vz.wordsAll n = Vz.wordsK n 6 ++ [[102, 111, 114, 101, 61] ++ Vz.digitB1 (n / 256 % 8), [98, 97, 99, 107, 61] ++ Vz.digitB1 (n / 2048 % 8)] := by unfold Vz.wordsAll; rw [if_pos hc]
        have hO := own_eq true n hn t2 wr
        simp only [if_true] at hO
        rw [show ((n : Int) / 256 % 8) = ((n / 256 % 8 : Nat) : Int) by simp, show ((n : Int) / 2048 % 8) = ((n / 2048 % 8 : Nat) : Int) by simp] at hO
        have hd1 : n / 256 % 8 ≤ 9 := by omega
        have hd2 : n / 2048 % 8 ≤ 9 := by omega
        have hD1 := fun W => digit_any (n / 256 % 8) hd1 W
        have hD2 := fun W => digit_any (n / 2048 % 8) hd2 W
        have hn1 : Vz.wordsAll n ≠ [] := by rw [hW]; simp
        have hF : Hid (Vz.namesL n = Vz.joinC (Vz.wordsAll n)) := by show _ = _; unfold Vz.namesL; rw [if_neg hn1]
        have hl1 : (Vz.digitB1 (n / 256 % 8)).length = 1 := rfl
        have hl2 : (Vz.digitB1 (n / 2048 % 8)).length = 1 := rfl
        generalize n / 256 % 8 = c1 at hO hD1 hW hl1
        generalize n / 2048 % 8 = c2 at hO hD2 hW hl2
        generalize Vz.digitB1 c1 = s1 at hD1 hW hl1
        generalize Vz.digitB1 c2 = s2 at hD2 hW hl2
        have z1 : (⟨s1.toArray⟩ : ByteArray).size ≤ 1 := by show s1.toArray.size ≤ 1; simp; omega
        have z2 : (⟨s2.toArray⟩ : ByteArray).size ≤ 1 := by show s2.toArray.size ≤ 1; simp; omega
        obtain ⟨d1, he1⟩ : ∃ d : ByteArray, (⟨s1.toArray⟩ : ByteArray) = d := ⟨_, rfl⟩
        obtain ⟨d2, he2⟩ : ∃ d : ByteArray, (⟨s2.toArray⟩ : ByteArray) = d := ⟨_, rfl⟩
        rw [he1] at hD1 z1
        rw [he2] at hD2 z2
        have HE1 := Lib.hid he1
        have HE2 := Lib.hid he2
        clear he1 he2
        have HW := Lib.hid hW
        have HO := Lib.hid hO
        have HD1 := Lib.hid hD1
        have HD2 := Lib.hid hD2
        clear hW hO hD1 hD2 hl1 hl2 hn1 hjl T1 T2 HBT HIX hc
        have hmx : (Vz.wordsK n 6).length + 2 ≤ maxLen := by unfold maxLen; omega
        go_wp2_with fail
        refine HO.out.mono ?_
        rintro e w1 ⟨rfl, rfl⟩
        go_wp2_with fail
        refine (HD1.out _).mono ?_
        rintro e w2 ⟨rfl, hB2⟩
        have o2 := ownsRow_below0 hown hB2
        go_wp2_with fail
        refine (HD2.out _).mono ?_
        rintro e w3 ⟨rfl, hB3⟩
        have o3 := ownsRow_below0 o2 hB3
        have hB03 := hB.trans ((hB2.mono hB.size).trans (hB3.mono (Nat.le_trans hB.size hB2.size)))
        go_wp2_with (at_builtin; refine wpList_append_own _ rfl _ _ 118 rfl w.heap.size 9 i0 (.string ⟨#[]⟩) 1 16 Tryz.underlying118 hi hz0 hz1 hz2 rfl (by decide) _ _ _ rfl (o3.alloc _) ⟨w3.heap.size, 0, none⟩ 2 2 [.string (⟨#[102, 111, 114, 101, 61]⟩ ++ d1), .string (⟨#[98, 97, 99, 107, 61]⟩ ++ d2)] rfl rfl (cell_two_new _ _ _ _) (by simp [Value.oneCell']) hmx (by omega) (by have := hB03.size; simp; omega) ?_; intro v' w4 hown' hgrow _; obtain ⟨va, vc, rfl⟩ := ownsRow_slice0 hown')
        have hB4 := (hB03.alloc hB03.size _).grown hgrow (by have := hB03.size; simp; omega) (fun j e => ownsRow_base2 hown e)
        have hlen : (Vz.wordsAll n).length = (Vz.wordsK n 6).length + 2 := by rw [HW.out]; simp
        have ho : w4.ownsRow w.heap.size 9 1 (.slice va ((Vz.wordsK n 6).length + 2) vc) (Vz.wordsAll n).length (strsV (Vz.wordsAll n)) := by
          rw [hlen, HW.out]
          have e1 := bytes_cat [102, 111, 114, 101, 61] s1
          have e2 := bytes_cat [98, 97, 99, 107, 61] s2
          rw [HE1.out] at e1
          rw [HE2.out] at e2
          simp only [strsV, List.map_append, List.map_cons, List.map_nil, ← e1, ← e2]
          exact hown'
        have HJ := Lib.hid (join_own w4 _ _ _ ho (by omega) (Nat.le_trans (Vz.join_len n) (Nat.le_refl _)) (by omega))
        clear hlen ho hown' hgrow
        go_wp2_with (go_at_call 68; refine HJ.out.mono ?_; rintro e w5 ⟨rfl, hB5⟩)
        go_ret
        exact ⟨ret1 (by rw [hF.out]; rfl), below_join hB4 hB5⟩
      · rw [show (n / 64 % 2 == 1) = false by simpa using hc] at t1 t2
        have hW : Vz.wordsAll n = Vz.wordsK n 6 := by unfold Vz.wordsAll; rw [if_neg hc]
        obtain ⟨va, vc, rfl⟩ := ownsRow_slice0 hown
        clear T1 T2 HBT HIX t2
        by_cases hz : Vz.wordsK n 6 = []
        · have hF : Hid (Vz.namesL n = [112, 108, 97, 105, 110]) := by show _ = _; unfold Vz.namesL; rw [if_pos (by rw [hW, hz])]
          have hz0 : (((Vz.wordsK n 6).length : Int) == 0) = true := by rw [hz]; rfl
          clear hz hW hc hjl
          go_wp2
          go_ret
          exact ⟨ret1 (by rw [hF.out]; rfl), hB⟩
        · have hF : Hid (Vz.namesL n = Vz.joinC (Vz.wordsK n 6)) := by show _ = _; unfold Vz.namesL; rw [hW, if_neg hz]
          have hpos : 0 < (Vz.wordsK n 6).length := List.length_pos_iff.2 hz
          have hz0 : (((Vz.wordsK n 6).length : Int) == 0) = false := by simp [hz]
          rw [hW] at hjl
          have HJ := Lib.hid (join_own wr _ _ _ hown hpos hjl (by omega))
          clear hz hW hc hjl
          go_wp2_with (go_at_call 68; refine HJ.out.mono ?_; rintro e w5 ⟨rfl, hB5⟩)
          go_ret
          exact ⟨ret1 (by rw [hF.out]; rfl), below_join hB hB5⟩
end Go.Proofs.YtliacdaddncmaaaGreatDoor
