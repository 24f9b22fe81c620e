/- The walk of ParamsJoins. -/
import Derived.Test.YtdakiocgaihcnaaAwakeP
import Derived.Test.YtdakiocgaihcnaaPlainB
import Derived.Test.YtdakiocgaihcnaaRefNumbers
import Derived.Deep.AppendLies
namespace Go.Proofs.Ytdakiocgaihcnaa
open Go.RowKit

theorem ownsRow_below {W W' : World} {base : Nat} {e : TypeId} {size : Nat} {v : Value} {k : Nat} {xs : List Value} (h : W.ownsRow base e size v k xs) (hb : Below W.heap.size W W') : W'.ownsRow base e size v k xs :=
  h.kept (row := none) ⟨hb.os, hb.tape, hb.output, hb.size, fun i hi _ => hb.block i hi⟩ (by cases v.ownBlock <;> simp)
theorem Ints.own {W : World} {base : Nat} {e : TypeId} {A : Option Addr} {c n : Nat} {l : List Int} (h : W.ownsRow base e 1 (.slice A n c) n (l.map (Value.int .i64))) : Ints W.heap.size W A n l := by
  obtain ⟨A', c', hv, hI⟩ := Ints.of_own h
  injection hv with h1 h2 h3
  rw [h1]; exact hI
theorem data_app (a b : ByteArray) : (a ++ b).data.toList = a.data.toList ++ b.data.toList := by
  rw [ByteArray.data_append]; simp

set_option maxHeartbeats 4000000 in
theorem law_joins (a b : ByteArray) (ha : a.size ≤ 1048576) (hb : b.size ≤ 1048576) (w : World) :
    Calls Try.prog 4 #[.string a, .string b] w fun e w' => e = .returned (.bool true) ∧ Below w.heap.size w w' := by
  have hla := Vz.numbers_len a.data.toList
  have hlb := Vz.numbers_len b.data.toList
  have hln := Vz.numbers_len (a ++ ⟨#[59]⟩ ++ b).data.toList
  have hsz : (a ++ ⟨#[59]⟩ ++ b).size = a.size + 1 + b.size := by rw [Lib.size_eq, data_app, data_app, Lib.size_eq a, Lib.size_eq b]; simp; omega
  rw [← Lib.size_eq] at hla hlb hln
  rw [hsz] at hln
  have hA := numbers_any a (by omega) w
  have hB := fun W => numbers_any b (by omega) W
  have hC := fun W => numbers_any (a ++ ⟨#[59]⟩ ++ b) (by omega) W
  have hJ := fun h h' => Vz.numbers_join a.data.toList b.data.toList h h'
  have hP := Vz.numbers_pos a.data.toList
  have hP' := Vz.numbers_pos b.data.toList
  have hd : (a ++ ⟨#[59]⟩ ++ b).data.toList = a.data.toList ++ 59 :: b.data.toList := by rw [data_app, data_app]; simp
  rw [← hd] at hJ
  generalize Vz.numbers (a ++ ⟨#[59]⟩ ++ b).data.toList = N3 at hC hJ hln
  generalize Vz.numbers a.data.toList = N1 at hA hJ hla hP
  generalize Vz.numbers b.data.toList = N2 at hB hJ hlb hP'
  obtain ⟨l, p⟩ := N1
  obtain ⟨m, q⟩ := N2
  obtain ⟨n, r⟩ := N3
  simp only at hA hB hC hJ hla hlb hln hP hP'
  have HB := Lib.hid hB
  have HC := Lib.hid hC
  have HJ := Lib.hid hJ
  have HP := Lib.hid hP
  have HP' := Lib.hid hP'
  have HD := Lib.hid hd
  have HSZ := Lib.hid hsz
  clear hB hC hJ hP hP' hd hsz
  go_enter Try.func4, Try.ntmps4
  go_wp2_with fail
  refine hA.mono ?_
  rintro e w1 ⟨u1, rfl, hown1, hB1⟩
  clear hA
  obtain ⟨A1, c1, rfl⟩ := ownsRow_slice hown1
  go_wp2_with fail
  refine (HB.out w1).mono ?_
  rintro e w2 ⟨u2, rfl, hown2, hB2⟩
  obtain ⟨A2, c2, rfl⟩ := ownsRow_slice hown2
  clear HB
  go_wp2_with fail
  refine (HC.out w2).mono ?_
  rintro e w3 ⟨u3, rfl, hown3, hB3⟩
  obtain ⟨A3, c3, rfl⟩ := ownsRow_slice hown3
  clear HC
  have hB13 := below_join (below_join hB1 hB2) hB3
  by_cases ha1 : a.size < 1
  · go_wp2_with (go_at_call 9; refine (awake_any _).mono ?_; rintro e w4 ⟨rfl, hB4⟩)
    go_ret
    exact ⟨rfl, below_join hB13 hB4⟩
  by_cases hb1 : b.size < 1
  · go_wp2_with (go_at_call 9; refine (awake_any _).mono ?_; rintro e w4 ⟨rfl, hB4⟩)
    go_ret
    exact ⟨rfl, below_join hB13 hB4⟩
  by_cases ha2 : 300 < a.size
  · go_wp2_with (go_at_call 9; refine (awake_any _).mono ?_; rintro e w4 ⟨rfl, hB4⟩)
    go_ret
    exact ⟨rfl, below_join hB13 hB4⟩
  by_cases hb2 : 300 < b.size
  · go_wp2_with (go_at_call 9; refine (awake_any _).mono ?_; rintro e w4 ⟨rfl, hB4⟩)
    go_ret
    exact ⟨rfl, below_join hB13 hB4⟩
  have hane : a.data.toList ≠ [] := fun h => by have := Lib.size_eq a; rw [h, List.length_nil] at this; omega
  have hbne : b.data.toList ≠ [] := fun h => by have := Lib.size_eq b; rw [h, List.length_nil] at this; omega
  have hj := HJ.out hane hbne
  have hp := HP.out hane
  have hp' := HP'.out hbne
  clear HJ HP HP'
  cases p with
  | false =>
    simp only [Bool.false_eq_true, false_and, if_false, Prod.mk.injEq] at hj
    obtain ⟨rfl, rfl⟩ := hj
    go_wp2_with (go_at_call 9; refine (awake_any _).mono ?_; rintro e w4 ⟨rfl, hB4⟩)
    go_ret
    exact ⟨rfl, below_join hB13 hB4⟩
  | true =>
    cases q with
    | false =>
      simp only [Bool.false_eq_true, and_false, if_false, Prod.mk.injEq] at hj
      obtain ⟨rfl, rfl⟩ := hj
      go_wp2_with (go_at_call 9; refine (awake_any _).mono ?_; rintro e w4 ⟨rfl, hB4⟩)
      go_ret
      exact ⟨rfl, below_join hB13 hB4⟩
    | true =>
      simp only [and_self, if_true, Prod.mk.injEq] at hj
      obtain ⟨rfl, rfl⟩ := hj
      have hp1 := hp rfl
      have hp2 := hp' rfl
      clear hp hp'
      have o1 := ownsRow_below (ownsRow_below hown1 hB2) hB3
      have o2 := ownsRow_below hown2 hB3
      clear hown1 hown2
      obtain ⟨g1, k1, hv1, _, hl1⟩ := o1.form hp1
      obtain ⟨g2, k2, hv2, _, hl2⟩ := o2.form hp2
      obtain ⟨rfl, rfl⟩ : A1 = some ⟨g1, 0, none⟩ ∧ c1 = k1 := by injection hv1 with h1 h2 h3; exact ⟨h1, h3⟩
      obtain ⟨rfl, rfl⟩ : A2 = some ⟨g2, 0, none⟩ ∧ c2 = k2 := by injection hv2 with h1 h2 h3; exact ⟨h1, h3⟩
      clear hv1 hv2
      obtain ⟨i0, hi, hz0, hz1, hz2⟩ := info_parts infoInt
      have hone : ∀ xs : List Int, ∀ u ∈ xs.map (Value.int .i64), u.oneCell' = true := fun xs u hu => by
        obtain ⟨y, _, rfl⟩ := List.mem_map.1 hu; rfl
      have hm1 : 0 + l.length ≤ maxLen := by unfold maxLen; omega
      have hm2 : 0 + l.length + m.length ≤ maxLen := by unfold maxLen; omega
      go_wp2_with (first | (at_builtin; refine wpList_append_own _ rfl (.tmp 65) (.tmp 66) 23 rfl w3.heap.size 3 i0 (.int .i64 0) 1 8 Try.underlying23 hi hz0 hz1 hz2 rfl (by decide) (.slice none 0 0) 0 [] rfl (World.ownsRow_nil _ _ _ _) ⟨g1, 0, none⟩ l.length c1 (l.map (Value.int .i64)) rfl (by simp) (o1.cells (g := g1) rfl) (hone l) hm1 (by omega) (Nat.le_refl _) ?_; intro v4 w4 hown4 hg4 _; have o2' := o2.kept hg4 (.inr (by simp [Value.ownBlock])); have hs4 := hg4.size) | (at_builtin; refine wpList_append_own _ rfl (.tmp 68) (.tmp 69) 23 rfl w3.heap.size 3 i0 (.int .i64 0) 1 8 Try.underlying23 hi hz0 hz1 hz2 rfl (by decide) v4 (0 + l.length) ([] ++ l.map (Value.int .i64)) rfl hown4 ⟨g2, 0, none⟩ m.length c2 (m.map (Value.int .i64)) rfl (by simp) (o2'.cells (g := g2) rfl) (hone m) hm2 (by omega) hs4 ?_; intro v5 w5 hown5 hg5 _) | fail)
      have hb4 : Below w3.heap.size w3 w4 := (Below.refl _ _).grown hg4 (Nat.le_refl _) (fun k e => by simp [Value.ownBlock] at e)
      have hb5 : Below w3.heap.size w3 w5 := hb4.grown hg5 hb4.size (fun k e => ownsRow_base hown4 e)
      have hI3 : Ints w5.heap.size w5 A3 (l.length + m.length) (l ++ m) := by
        simp only [List.length_append] at hown3
        exact ((Ints.own hown3).below hb5 (Nat.le_refl _)).more hb5.size
      rw [List.nil_append, ← List.map_append, Nat.zero_add] at hown5
      obtain ⟨A5, c5, rfl⟩ := ownsRow_slice hown5
      have hI5 := Ints.own hown5
      clear o1 o2 o2' hown3 hown4 hown5 hone hg4 hg5
      refine (ints_any _ _ _ _ _ _ _ _ _ _ hI3 hI5 (by omega) (by omega)).mono ?_
      rintro e w6 ⟨rfl, q, rfl⟩
      rw [decide_eq_true (p := l ++ m = l ++ m) rfl]
      have hf := below_drewN (below_join hB13 hb5) q
      clear hI3 hI5
      go_wp2_with (go_at_call 9; refine (awake_any _).mono ?_; rintro e w7 ⟨rfl, hB7⟩)
      go_ret
      exact ⟨rfl, below_join hf hB7⟩
end Go.Proofs.Ytdakiocgaihcnaa
