/- The walk of attr.Parse. -/
import Derived.Test.YtdakiocgaihcnaaDoorParse
namespace Go.Proofs.YtdakiocgaihcnaaDoor
open Go.RowKit

def namesB (a : Nat) : ByteArray := if Vz.mayI a = true then ⟨(Vz.namesL a).toArray⟩ else ⟨#[]⟩
theorem names_at (a : Nat) (ha : a < 16384) (w : World) (t : TypeId) (fr : Nat × Nat) (hg : w.heap[0]? = some (.cells names12a t fr)) :
    Calls Tryd.prog 14 #[.int .i64 a] w fun e w' => e = .returned (.string (namesB a)) ∧ Below w.heap.size w w' := by
  unfold namesB
  cases hm : Vz.mayI a with
  | false =>
    refine (names_no a (by omega) hm w).mono ?_
    rintro e w' ⟨rfl, rfl⟩
    exact ⟨rfl, Below.refl _ _⟩
  | true =>
    refine (names_any a hm w t fr hg).mono ?_
    rintro e w' ⟨rfl, h⟩
    exact ⟨rfl, h⟩

/-- What Parse returns. -/
def parseR (l : List UInt8) : Value := if Vz.mayI (Vz.parseL l) = true ∧ Vz.namesL (Vz.parseL l) = l then .tuple #[.int .i64 (Vz.parseL l), .int .i64 0] else .tuple #[.int .i64 0, .int .i64 14]

theorem namesB_test (s : ByteArray) : ((namesB (Vz.parseL s.data.toList)).toList == s.toList) = decide (Vz.mayI (Vz.parseL s.data.toList) = true ∧ Vz.namesL (Vz.parseL s.data.toList) = s.data.toList) := by
  rw [ByteArray.toList_eq, ByteArray.toList_eq]
  obtain ⟨l, hl⟩ : ∃ l, s.data.toList = l := ⟨_, rfl⟩
  rw [hl]
  unfold namesB
  cases hm : Vz.mayI (Vz.parseL l) with
  | true =>
    rw [if_pos rfl]
    by_cases h : Vz.namesL (Vz.parseL l) = l <;> simp [h]
  | false =>
    rw [if_neg (by simp)]
    have hne : l ≠ [] := by
      rintro rfl
      rw [Vz.parseL_nil] at hm
      exact absurd hm (by decide)
    cases l with
    | nil => exact absurd rfl hne
    | cons a r => simp

theorem or_nat (a b : Nat) (ha : a < 16384) (hb : b < 16384) : bits .or .i64 (a : Int) (b : Int) = ((a ||| b : Nat) : Int) := Vz.or64 a b (by omega) (by omega)

set_option maxRecDepth 100000 in
set_option maxHeartbeats 2000000 in
theorem parse_any (s : ByteArray) (hs : s.size ≤ 1000) (m : Int) (w : World) (hm : w.cell? ⟨1, 0, none⟩ = some (.int .i64 m)) (t : TypeId) (fr : Nat × Nat) (hg : w.heap[0]? = some (.cells names12a t fr)) :
    Calls Tryd.prog 21 #[.string s] w fun e w' => e = .returned (parseR s.data.toList) ∧ Below w.heap.size w w' := by
  have hS := Tryd.strings_Split s ⟨#[44]⟩ m w (by omega) hm (by decide)
  have hglt : 0 < w.heap.size := (Array.getElem?_eq_some_iff.1 hg).1
  have hwords := Vz.split_words s
  have hpl : ∀ p ∈ Vz.splitC s.data.toList, p.length ≤ 1000 := fun p hp => Nat.le_trans (Vz.splitC_len _ p hp) (by rw [← Lib.size_eq]; exact hs)
  have hlen := Lib.splitB_all ⟨#[44]⟩ (by decide) 0 _ s rfl
  have hcl := Lib.countB_le ⟨#[44]⟩ (by decide) s.size s (Nat.le_refl _)
  have htest := namesB_test s
  have hRR : parseR s.data.toList = if Vz.mayI (Vz.parseL s.data.toList) = true ∧ Vz.namesL (Vz.parseL s.data.toList) = s.data.toList then .tuple #[.int .i64 (Vz.parseL s.data.toList), .int .i64 0] else .tuple #[.int .i64 0, .int .i64 14] := rfl
  have hpa : Vz.parseL s.data.toList = Vz.orK (Vz.splitC s.data.toList) (Vz.splitC s.data.toList).length := (Vz.orK_all _).symm
  rw [← hwords] at hpl hpa
  generalize hPs : Lib.splitB ⟨#[44]⟩ 0 (Lib.countB s ⟨#[44]⟩) s = ps at hS hlen hpl hpa
  rw [← hlen] at hS
  have hpn : ps.length ≤ 1001 := by omega
  rw [List.length_map] at hpa
  have hoK : ∀ k, Vz.orK (ps.map (·.data.toList)) k < 16384 := fun k => Vz.orK_lt _ k
  have hst : ∀ k (hk : k < ps.length), Vz.orK (ps.map (·.data.toList)) (k + 1) = Vz.orK (ps.map (·.data.toList)) k ||| Vz.toldL ps[k].data.toList := fun k hk => by
    rw [Vz.orK_next _ k (by rw [List.length_map]; exact hk), List.getElem?_map, List.getElem?_eq_getElem hk]
    rfl
  have ho0 : Vz.orK (ps.map (·.data.toList)) 0 = 0 := by unfold Vz.orK; rw [List.take_zero]; rfl
  have hsz : ∀ k (hk : k < ps.length), ps[k].size ≤ 1000 := fun k hk => by
    rw [Lib.size_eq]
    exact hpl _ (List.mem_map.2 ⟨ps[k], List.getElem_mem hk, rfl⟩)
  generalize Vz.orK (ps.map (·.data.toList)) = O at hpa hoK hst ho0
  have hcell : ∀ k (hk : k < ps.length), (w.alloc (.cells (ps.map Value.string).toArray 9)).cell? ⟨w.heap.size, k, none⟩ = some (.string ps[k]) := fun k hk => by
    have hrow : (w.alloc (.cells (ps.map Value.string).toArray 9)).heap[w.heap.size]? = some (.cells (ps.map Value.string).toArray 9 (0, 0)) := by
      show (w.heap.push _)[w.heap.size]? = _
      simp
    rw [cell_of_row _ _ _ _ _ _ hrow]
    simp [hk]
  have hB1 : Below w.heap.size w (w.alloc (.cells (ps.map Value.string).toArray 9)) := (Below.refl _ _).alloc (Nat.le_refl _) _
  have hlt1 : w.heap.size < (w.alloc (.cells (ps.map Value.string).toArray 9)).heap.size := by rw [World.size_alloc]; omega
  generalize w.alloc (.cells (ps.map Value.string).toArray 9) = w1 at hS hcell hB1 hlt1
  have HG := Lib.hid hg
  have HTE := Lib.hid htest
  have HRR := Lib.hid hRR
  have HOK := Lib.hid hoK
  have HST := Lib.hid hst
  have HSZ := Lib.hid hsz
  have HCE := Lib.hid hcell
  have HO0 := Lib.hid ho0
  have HS := Lib.hid hS
  have HPA := Lib.hid hpa
  have HBB := Lib.hid hB1
  have HLT := Lib.hid hlt1
  have HGL := Lib.hid hglt
  clear hg htest hRR hoK hst hsz hcell ho0 hS hpa hB1 hlt1 hglt hPs hlen hpl hwords hcl hm
  go_enter Tryd.func21, Tryd.ntmps21
  go_wp2_with fail
  refine HS.out.mono ?_
  rintro e w2 ⟨rfl, rfl⟩
  go_wp2_with fail
  go_loopw [4, 10] (fun a i wr => ∃ k : Nat, k ≤ ps.length ∧ i = .int .i64 k ∧ a = .int .i64 (O k : Nat) ∧ Below w2.heap.size w2 wr) (fun _ i _ => ps.length - (intOf i).toNat)
  case atStart => exact ⟨0, Nat.zero_le _, rfl, by rw [HO0.out]; rfl, Below.refl _ _⟩
  case round =>
    obtain ⟨k, hk, rfl, rfl, hB⟩ := hrel
    have hok := HOK.out k
    have hgr : wr.heap[0]? = some (.cells names12a t fr) := (hB.block _ (Nat.lt_trans HGL.out HLT.out)).trans ((HBB.out.block _ HGL.out).trans HG.out)
    by_cases hlt : k < ps.length
    · have hc : wr.cell? ⟨w.heap.size, k, none⟩ = some (.string ps[k]) := by
        rw [← HCE.out k hlt]; exact hB.cell HLT.out
      have hst := HST.out k hlt
      have HT := Lib.hid (told_any ps[k] (HSZ.out k hlt) wr t fr hgr)
      have htl := Vz.toldL_lt ps[k].data.toList
      have hor := or_nat (O k) _ hok htl
      rw [← hst] at hor
      generalize ps[k] = piece at hc HT hst htl hor
      generalize Vz.toldL piece.data.toList = x at HT hst htl hor
      have HST2 := Lib.hid hst
      clear hst htl
      go_wp2_with (go_at_call 32; refine HT.out.mono ?_; rintro e w3 ⟨rfl, hB3⟩)
      exact ⟨⟨k + 1, by omega, by go_num, rfl, hB.trans (hB3.mono hB.size)⟩, by simp [intOf]; omega⟩
    · obtain rfl : k = ps.length := by omega
      have hte := HTE.out
      have hrr := HRR.out
      have hN := names_at (O ps.length) hok wr t fr hgr
      rw [HPA.out] at hte hrr
      by_cases hd : Vz.mayI (O ps.length) = true ∧ Vz.namesL (O ps.length) = s.data.toList
      · rw [if_pos hd] at hrr
        rw [decide_eq_true hd] at hte
        have HD := Lib.hid hd
        clear hd
        generalize namesB (O ps.length) = nb at hN hte
        have HRQ := Lib.hid hrr
        have HN := Lib.hid hN
        clear hrr hN
        go_wp2_with (go_at_call 14; refine HN.out.mono ?_; rintro e w3 ⟨rfl, hB3⟩)
        go_ret2
        exact ⟨ret1 (by rw [HRQ.out]; rfl), (HBB.out.trans (hB.mono (Nat.le_of_lt HLT.out))).trans (hB3.mono (Nat.le_trans HBB.out.size hB.size))⟩
      · rw [if_neg hd] at hrr
        rw [decide_eq_false hd] at hte
        have HD := Lib.hid hd
        clear hd
        generalize namesB (O ps.length) = nb at hN hte
        have HRQ := Lib.hid hrr
        have HN := Lib.hid hN
        clear hrr hN
        go_wp2_with (go_at_call 14; refine HN.out.mono ?_; rintro e w3 ⟨rfl, hB3⟩)
        go_ret2
        exact ⟨ret1 (by rw [HRQ.out]; rfl), (HBB.out.trans (hB.mono (Nat.le_of_lt HLT.out))).trans (hB3.mono (Nat.le_trans HBB.out.size hB.size))⟩
end Go.Proofs.YtdakiocgaihcnaaDoor
