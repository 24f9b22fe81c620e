/- Walks: attr.colour, attr.told, attr.Parse. -/
import Derived.Test.YtdakiocgaihcnaaDoorAttrRef
import Derived.Test.YtdakiocgaihcnaaDoorSplitPlain
namespace Go.Proofs.YtdakiocgaihcnaaDoor
open Go.RowKit

def colourR (s p : List UInt8) : Value := match Vz.colourD s p with
  | some c => .tuple #[.int .i64 c, .bool true]
  | none => .tuple #[.int .i64 0, .bool false]

set_option maxHeartbeats 2000000 in
theorem colour_any (s wd : ByteArray) (hs : s.size ≤ 1000) (hw : wd.size ≤ 100) (w : World) :
    Calls Tryd.prog 37 #[.string s, .string wd] w fun e w' => e = .returned (colourR s.data.toList (wd.data.toList ++ [61])) ∧ w' = w := by
  have hC := Tryd.strings_CutPrefix s (wd ++ ⟨#[61]⟩) w
  rw [show (wd ++ (⟨#[61]⟩ : ByteArray)).data.toList = wd.data.toList ++ [61] by rw [ByteArray.data_append]; simp] at hC
  have hD : colourR s.data.toList (wd.data.toList ++ [61]) = match (match (if Lib.hasPrefix s.data.toList (wd.data.toList ++ [61]) = true then s.data.toList.drop (wd.data.toList ++ [61]).length else []) with
      | [d] => if 48 ≤ d.toNat ∧ d.toNat < 56 then some (d.toNat - 48) else none
      | _ => none) with
    | some c => .tuple #[.int .i64 (c : Nat), .bool true]
    | none => .tuple #[.int .i64 0, .bool false] := rfl
  unfold Lib.trimPrefix at hC
  generalize colourR s.data.toList (wd.data.toList ++ [61]) = R at hD
  cases hp : Lib.hasPrefix s.data.toList (wd.data.toList ++ [61]) with
  | false =>
    rw [hp] at hC hD
    simp only [Bool.false_eq_true, if_false] at hC hD
    have HC := Lib.hid hC
    have HD := Lib.hid hD
    clear hC hD hp
    go_enter Tryd.func37, Tryd.ntmps37
    go_wp2_with (go_at_call 43; refine HC.out.mono ?_; rintro e w1 ⟨rfl, rfl⟩)
    go_ret2
    exact ⟨ret1 (by rw [HD.out]; rfl), rfl⟩
  | true =>
    rw [hp] at hC hD
    simp only [if_true] at hC hD
    have hl : (s.data.toList.drop (wd.data.toList ++ [61]).length).length ≤ 1000 := by rw [List.length_drop, ← Lib.size_eq]; omega
    generalize s.data.toList.drop (wd.data.toList ++ [61]).length = t at hC hD hl
    rcases t with _ | ⟨d, _ | ⟨e, r⟩⟩
    · have HC := Lib.hid hC
      have HD := Lib.hid hD
      clear hC hD hp
      go_enter Tryd.func37, Tryd.ntmps37
      go_wp2_with (go_at_call 43; refine HC.out.mono ?_; rintro e w1 ⟨rfl, rfl⟩)
      go_ret2
      exact ⟨ret1 (by rw [HD.out]; rfl), rfl⟩
    · have hsz : (⟨[d].toArray⟩ : ByteArray).size = 1 := rfl
      have hb : ∀ h, (⟨[d].toArray⟩ : ByteArray)[0]'h = d := fun _ => rfl
      generalize (⟨[d].toArray⟩ : ByteArray) = T at hC hsz hb
      have hp0 : 0 < T.size := by rw [hsz]; exact Nat.one_pos
      have hb' := hb hp0
      replace hD : R = if 48 ≤ d.toNat ∧ d.toNat < 56 then .tuple #[.int .i64 ((d.toNat : Int) - 48), .bool true] else .tuple #[.int .i64 0, .bool false] := by
        by_cases hh : 48 ≤ d.toNat ∧ d.toNat < 56
        · rw [hD, if_pos hh]; simp only [if_pos hh]; rw [show ((d.toNat - 48 : Nat) : Int) = (d.toNat : Int) - 48 by omega]
        · rw [hD, if_neg hh]; simp only [if_neg hh]
      subst hb'
      have HC := Lib.hid hC
      clear hC hp hl
      by_cases h1 : (T[0]'hp0).toNat < 48
      · rw [if_neg (by omega)] at hD
        have HD := Lib.hid hD
        clear hD
        go_enter Tryd.func37, Tryd.ntmps37
        go_wp2_with (go_at_call 43; refine HC.out.mono ?_; rintro e w1 ⟨rfl, rfl⟩)
        go_ret2
        exact ⟨ret1 (by rw [HD.out]; rfl), rfl⟩
      · by_cases h2 : (T[0]'hp0).toNat < 56
        · rw [if_pos (by omega)] at hD
          have HD := Lib.hid hD
          clear hD
          go_enter Tryd.func37, Tryd.ntmps37
          go_wp2_with (go_at_call 43; refine HC.out.mono ?_; rintro e w1 ⟨rfl, rfl⟩)
          go_ret2
          exact ⟨ret1 (by rw [HD.out]; rfl), rfl⟩
        · rw [if_neg (by omega)] at hD
          have HD := Lib.hid hD
          clear hD
          go_enter Tryd.func37, Tryd.ntmps37
          go_wp2_with (go_at_call 43; refine HC.out.mono ?_; rintro e w1 ⟨rfl, rfl⟩)
          go_ret2
          exact ⟨ret1 (by rw [HD.out]; rfl), rfl⟩
    · have hsz : (⟨(d :: e :: r).toArray⟩ : ByteArray).size = r.length + 2 := by show (d :: e :: r).toArray.size = _; simp
      generalize (⟨(d :: e :: r).toArray⟩ : ByteArray) = T at hC hsz
      simp only [List.length_cons] at hl
      have HC := Lib.hid hC
      have HD := Lib.hid hD
      clear hC hD hp
      go_enter Tryd.func37, Tryd.ntmps37
      go_wp2_with (go_at_call 43; refine HC.out.mono ?_; rintro e w1 ⟨rfl, rfl⟩)
      go_ret2
      exact ⟨ret1 (by rw [HD.out]; rfl), rfl⟩

theorem or_256 (c : Nat) (h : c < 8) : bits .or .i64 64 ((c : Int) * 256) = ((64 ||| (c * 256) : Nat) : Int) := by
  have := Vz.or64 64 (c * 256) (by decide) (by omega)
  rw [← this]
  congr 1
theorem or_2048 (c : Nat) (h : c < 8) : bits .or .i64 64 ((c : Int) * 2048) = ((64 ||| (c * 2048) : Nat) : Int) := by
  have := Vz.or64 64 (c * 2048) (by decide) (by omega)
  rw [← this]
  congr 1

set_option maxHeartbeats 2000000 in
theorem told_any (s : ByteArray) (hs : s.size ≤ 1000) (w : World) (t : TypeId) (fr : Nat × Nat) (hg : w.heap[0]? = some (.cells names12a t fr)) :
    Calls Tryd.prog 32 #[.string s] w fun e w' => e = .returned (.int .i64 (Vz.toldL s.data.toList : Nat)) ∧ Below w.heap.size w w' := by
  have HIX := Lib.hid index_names
  have HCF := Lib.hid (fun W => colour_any s ⟨#[102, 111, 114, 101]⟩ hs (by decide) W)
  have HCB := Lib.hid (fun W => colour_any s ⟨#[98, 97, 99, 107]⟩ hs (by decide) W)
  rw [show (⟨#[102, 111, 114, 101]⟩ : ByteArray).data.toList ++ [61] = Vz.foreW from rfl] at HCF
  rw [show (⟨#[98, 97, 99, 107]⟩ : ByteArray).data.toList ++ [61] = Vz.backW from rfl] at HCB
  obtain ⟨l, hl⟩ : ∃ l, s.data.toList = l := ⟨_, rfl⟩
  have hsl : s.toList = l := by rw [ByteArray.toList_eq, hl]
  rw [hl] at HCF HCB ⊢
  have HL := Lib.hid hl
  clear hl
  go_enter Tryd.func32, Tryd.ntmps32
  go_wp2_with (first | (refine wpList_load_row rfl 48 _ rfl 0 rfl t _ fr _ hg Tryd.underlying48 rfl (by kernel_rfl) ?_))
  go_loopw [10] (fun i wr => ∃ k : Nat, k ≤ 6 ∧ i = .int .i64 k ∧ (∀ j, j < k → Vz.wordAt j ≠ l) ∧ Below w.heap.size w wr) (fun i _ => 6 - (intOf i).toNat)
  case atStart => exact ⟨0, by omega, rfl, fun j h => absurd h (by omega), Below.refl _ _⟩
  case round =>
    obtain ⟨k, hk, rfl, hall, hB⟩ := hrel
    have HALL := Lib.hid hall
    clear hall
    by_cases hlt : k < 6
    · have hix := HIX.out k hlt
      by_cases he : Vz.wordAt k = l
      · have hT := Lib.hid (Vz.toldL_word l k hlt he)
        have hw : (⟨(Vz.wordAt k).toArray⟩ : ByteArray).toList = l := by rw [ByteArray.toList_eq]; simpa using he
        generalize (⟨(Vz.wordAt k).toArray⟩ : ByteArray) = wk at hw hix
        have hq : (wk.toList == s.toList) = true := by rw [hw, hsl]; simp
        have HE := Lib.hid he
        clear he hw hsl
        generalize hp : ((2 ^ k : Nat) : Int) = bk at hix
        have HPK := Lib.hid hp
        clear hp
        go_wp2
        go_ret
        exact ⟨ret1 (by rw [hT.out, HPK.out]; rfl), hB.alloc hB.size _⟩
      · have hw : (⟨(Vz.wordAt k).toArray⟩ : ByteArray).toList = Vz.wordAt k := by rw [ByteArray.toList_eq]
        have hq : ((⟨(Vz.wordAt k).toArray⟩ : ByteArray).toList == s.toList) = false := by rw [hw, hsl]; simpa using he
        generalize (⟨(Vz.wordAt k).toArray⟩ : ByteArray) = wk at hq hix
        have HE := Lib.hid he
        clear he hw hsl
        generalize hp : ((2 ^ k : Nat) : Int) = bk at hix
        have HPK := Lib.hid hp
        clear hp
        go_wp2
        exact ⟨⟨k + 1, by omega, by go_num, fun j hj => by
          rcases Nat.lt_succ_iff_lt_or_eq.1 hj with h | h
          · exact HALL.out j h
          · rw [h]; exact HE.out, hB.alloc hB.size _⟩, by simp [intOf]; omega⟩
    · obtain rfl : k = 6 := by omega
      have hT := Vz.toldL_none l HALL.out
      clear HIX hsl
      unfold colourR at HCF HCB
      cases hF : Vz.colourD l Vz.foreW with
      | some c =>
        have hc := Vz.colourD_lt hF
        rw [hF] at hT HCF
        have HT := Lib.hid hT
        have ho := or_256 c hc
        clear hT hF HCB
        go_wp2_with (go_at_call 37; refine (HCF.out _).mono ?_; rintro e w1 ⟨rfl, rfl⟩)
        go_ret
        exact ⟨ret1 (by rw [HT.out, ← or_256 c hc]; rfl), hB⟩
      | none =>
        rw [hF] at hT HCF
        cases hK : Vz.colourD l Vz.backW with
        | some c =>
          have hc := Vz.colourD_lt hK
          rw [hK] at hT HCB
          have HT := Lib.hid hT
          have ho := or_2048 c hc
          clear hT hF hK
          go_wp2_with fail
          refine (HCF.out _).mono ?_
          rintro e w1 ⟨rfl, rfl⟩
          go_wp2_with fail
          refine (HCB.out _).mono ?_
          rintro e w1 ⟨rfl, rfl⟩
          go_wp2_with fail
          go_ret
          exact ⟨ret1 (by rw [HT.out, ← or_2048 c hc]; rfl), hB⟩
        | none =>
          rw [hK] at hT HCB
          have HT := Lib.hid hT
          clear hT hF hK
          go_wp2_with fail
          refine (HCF.out _).mono ?_
          rintro e w1 ⟨rfl, rfl⟩
          go_wp2_with fail
          refine (HCB.out _).mono ?_
          rintro e w1 ⟨rfl, rfl⟩
          go_wp2_with fail
          go_ret
          exact ⟨ret1 (by rw [HT.out]; rfl), hB⟩
end Go.Proofs.YtdakiocgaihcnaaDoor
