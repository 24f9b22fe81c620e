import Derived.Test.YtmgeghoalmonoaaGreatDoorProg
import Derived.WalkKit
import Derived.Lib.Hide
import Derived.Lib.Strings
import Derived.Test.YtmgeghoalmonoaaGreatDoorShelfS
import Derived.Lib.Bytealg
import Derived.Lib.CutLaws
import Derived.RangeFuncWrites
import Derived.RangeFuncBox
import Derived.RangeFuncNested
import Derived.RangeFuncBound
import Derived.RangeFuncCalls
import Derived.RangeFuncLeaves
import Derived.Shelf.Abstract
import Derived.Shelf.RegionOpen
import Derived.OwnWalkIn
import Derived.TacticsInMore
import Derived.LoopNIn
import Derived.LoopIn
import Derived.Maps.AppendAt

set_option maxRecDepth 100000
set_option maxHeartbeats 16000000
/- Plain mathematics of the layer params: numbers of a text. No program in sight. -/
namespace Vz
def capd (x : Int) : Int := if 9999 < x then 9999 else x
theorem capd_hi (x : Int) : capd x ≤ 9999 := by unfold capd; split <;> omega
theorem capd_lo (x : Int) (h : 0 ≤ x) : 0 ≤ capd x := by unfold capd; split <;> omega
def numFrom : Int → List UInt8 → Option Int
 | n, [] => some n
 | n, c :: r => if (c.toNat : Int) < 48 ∨ 57 < (c.toNat : Int) then none else numFrom (capd (10 * n + ((c.toNat : Int) - 48))) r
def number (l : List UInt8) : Int × Bool :=
 if l = [] then (-1, true) else match numFrom 0 l with
  | none => (0, false)
  | some n => (n, true)
theorem numFrom_step (n : Int) (s : ByteArray) (k : Nat) (h : k < s.size) :
 numFrom n (s.data.toList.drop k) = if (s[k].toNat : Int) < 48 ∨ 57 < (s[k].toNat : Int) then none else numFrom (capd (10 * n + ((s[k].toNat : Int) - 48))) (s.data.toList.drop (k + 1)) := by
 rw [List.drop_eq_getElem_cons (by simpa using h)]
 simp only [numFrom]
 rfl
end Vz
namespace Vz
def cutC (c : UInt8) : List UInt8 → List UInt8 × List UInt8 × Bool
 | [] => ([], [], false)
 | x :: r => if x == c then ([], r, true) else (x :: (cutC c r).1, (cutC c r).2.1, (cutC c r).2.2)
def splitC (c : UInt8) : List UInt8 → List (List UInt8)
 | [] => [[]]
 | x :: r => if x == c then [] :: splitC c r else match splitC c r with
   | [] => [[x]]
   | a :: l => (x :: a) :: l
theorem splitC_ne (c : UInt8) (l : List UInt8) : splitC c l ≠ [] := by
 cases l with
 | nil => simp [splitC]
 | cons x r =>
   simp only [splitC]
   split
   · simp
   · split <;> simp
theorem splitC_cut (c : UInt8) (l : List UInt8) : splitC c l = (cutC c l).1 :: (if (cutC c l).2.2 = true then splitC c (cutC c l).2.1 else []) := by
 induction l with
 | nil => rfl
 | cons x r ih =>
   simp only [splitC, cutC]
   by_cases h : (x == c) = true
   · simp [h]
   · simp only [h, Bool.false_eq_true, if_false]
     rw [ih]
theorem cutC_size (c : UInt8) (l : List UInt8) (h : (cutC c l).2.2 = true) : (cutC c l).2.1.length < l.length := by
 induction l with
 | nil => simp [cutC] at h
 | cons x r ih =>
   simp only [cutC] at h ⊢
   by_cases hx : (x == c) = true
   · simp [hx]
   · simp only [hx, Bool.false_eq_true, if_false] at h ⊢
     have := ih h
     simp
     omega
theorem cutC_nil (c : UInt8) (l : List UInt8) (h : (cutC c l).2.2 = false) : (cutC c l) = (l, [], false) := by
 induction l with
 | nil => rfl
 | cons x r ih =>
   simp only [cutC] at h ⊢
   by_cases hx : (x == c) = true
   · simp [hx] at h
   · simp only [hx, Bool.false_eq_true, if_false] at h ⊢
     rw [ih h]
end Vz
namespace Vz
def partsB (s : List UInt8) : List ByteArray := (if s = [] then [] else splitC 59 s).map fun l => ⟨l.toArray⟩
theorem partsB_cut (l : List UInt8) : (splitC 59 l).map (fun l => (⟨l.toArray⟩ : ByteArray)) = ⟨(cutC 59 l).1.toArray⟩ :: (if (cutC 59 l).2.2 = true then (splitC 59 (cutC 59 l).2.1).map (fun l => (⟨l.toArray⟩ : ByteArray)) else []) := by
 rw [splitC_cut]
 split <;> simp_all
end Vz
namespace Vz
def numB (x : ByteArray) : Int × Bool := number x.data.toList
def numsOf : List ByteArray → Option (List Int)
 | [] => some []
 | x :: r => if (numB x).2 = true then (match numsOf r with | none => none | some l => some ((numB x).1 :: l)) else none
def numbers (s : List UInt8) : List Int × Bool := match numsOf (partsB s) with
 | none => ([], false)
 | some l => (l, true)
theorem numsOf_all : ∀ (l : List ByteArray), (∀ x ∈ l, (numB x).2 = true) → numsOf l = some (l.map fun x => (numB x).1)
 | [], _ => rfl
 | x :: r, h => by
   simp only [numsOf, h x (List.mem_cons_self ..), if_true, numsOf_all r fun y hy => h y (List.mem_cons_of_mem _ hy), List.map_cons]
theorem numsOf_bad : ∀ (l : List ByteArray) (x : ByteArray), x ∈ l → (numB x).2 = false → numsOf l = none
 | y :: r, x, hx, hb => by
   by_cases hy : (numB y).2 = true
   · rcases List.mem_cons.1 hx with rfl | h
     · rw [hb] at hy; cases hy
     · simp only [numsOf, hy, if_true, numsOf_bad r x h hb]
   · simp only [numsOf, hy, Bool.false_eq_true, if_false]
theorem numbers_all (s : List UInt8) (h : ∀ x ∈ partsB s, (numB x).2 = true) : numbers s = ((partsB s).map fun x => (numB x).1, true) := by
 unfold numbers; rw [numsOf_all _ h]
theorem numbers_bad (s : List UInt8) (x : ByteArray) (hx : x ∈ partsB s) (hb : (numB x).2 = false) : numbers s = ([], false) := by
 unfold numbers; rw [numsOf_bad _ x hx hb]
theorem splitC_len (c : UInt8) (l : List UInt8) : (splitC c l).length ≤ l.length + 1 := by
 induction l with
 | nil => simp [splitC]
 | cons x r ih =>
   simp only [splitC]
   split
   · simp; omega
   · split
     · simp
     · rename_i h; rw [h] at ih; simp at ih ⊢; omega
theorem partsB_len (s : List UInt8) : (partsB s).length ≤ s.length + 1 := by
 unfold partsB; split
 · simp
 · rw [List.length_map]; exact splitC_len _ _
theorem cutC_le (c : UInt8) (l : List UInt8) : (cutC c l).1.length ≤ l.length ∧ (cutC c l).2.1.length ≤ l.length := by
 induction l with
 | nil => simp [cutC]
 | cons x r ih =>
   simp only [cutC]
   split
   · simp
   · simp; omega
theorem splitC_each (c : UInt8) : ∀ (n : Nat) (l : List UInt8), l.length ≤ n → ∀ p ∈ splitC c l, p.length ≤ n
 | n, [], _, p, hp => by simp [splitC] at hp; rw [hp]; exact Nat.zero_le _
 | 0, _ :: _, h, _, _ => by simp at h
 | n + 1, x :: r, h, p, hp => by
   have ih := splitC_each c n r (by simpa using h)
   simp only [splitC] at hp
   split at hp
   · rcases List.mem_cons.1 hp with rfl | hp
     · exact Nat.zero_le _
     · have := ih p hp; omega
   · split at hp
     · simp at hp; rw [hp]; simp
     · rename_i a l' he
       rw [he] at ih
       rcases List.mem_cons.1 hp with rfl | hp
       · have := ih a (List.mem_cons_self ..); simp; omega
       · have := ih p (List.mem_cons_of_mem _ hp); omega
theorem partsB_each (s : List UInt8) (x : ByteArray) (hx : x ∈ partsB s) : x.size ≤ s.length := by
 unfold partsB at hx
 split at hx
 · cases hx
 · obtain ⟨p, hp, rfl⟩ := List.mem_map.1 hx
   have := splitC_each 59 s.length s (Nat.le_refl _) p hp
   show p.toArray.size ≤ _
   simpa using this
end Vz
namespace Vz
def refGo : List UInt8 → Int → List Int → Option (List Int × Int)
 | [], n, out => some (out, n)
 | c :: r, n, out => if c == 59 then refGo r (-1) (out ++ [n]) else if (c.toNat : Int) < 48 ∨ 57 < (c.toNat : Int) then none else refGo r (capd (10 * max n 0 + ((c.toNat : Int) - 48))) out
def refNumbers (s : List UInt8) : List Int × Bool := match refGo s (-1) [] with
 | none => ([], false)
 | some (out, n) => (if s = [] then out else out ++ [n], true)
def refNum (n : Int) (p : List UInt8) : Option Int := if p = [] then some n else numFrom (max n 0) p
def piecesGo : List (List UInt8) → Int → List Int → Option (List Int × Int)
 | [], n, out => some (out, n)
 | [p], n, out => match refNum n p with
   | none => none
   | some v => some (out, v)
 | p :: q :: r, n, out => match refNum n p with
   | none => none
   | some v => piecesGo (q :: r) (-1) (out ++ [v])
theorem refGo_pieces : ∀ (l : List UInt8) (n : Int) (out : List Int), refGo l n out = piecesGo (splitC 59 l) n out
 | [], n, out => by simp [refGo, splitC, piecesGo, refNum]
 | c :: r, n, out => by
   simp only [refGo, splitC]
   by_cases hc : (c == 59) = true
   · rw [if_pos hc, if_pos hc, refGo_pieces r]
     obtain ⟨q, t, hq⟩ : ∃ q t, splitC 59 r = q :: t := by
      cases h : splitC 59 r with
      | nil => exact absurd h (splitC_ne _ _)
      | cons q t => exact ⟨q, t, rfl⟩
     rw [hq]
     simp [piecesGo, refNum]
   · rw [if_neg hc, if_neg hc]
     obtain ⟨a, t, ha⟩ : ∃ q t, splitC 59 r = q :: t := by
      cases h : splitC 59 r with
      | nil => exact absurd h (splitC_ne _ _)
      | cons q t => exact ⟨q, t, rfl⟩
     rw [ha]
     by_cases hd : (c.toNat : Int) < 48 ∨ 57 < (c.toNat : Int)
     · rw [if_pos hd]
       have hn : refNum n (c :: a) = none := by simp [refNum, numFrom, hd]
       cases t <;> simp [piecesGo, hn]
     · rw [if_neg hd, refGo_pieces r, ha]
       have hlo : 0 ≤ capd (10 * max n 0 + ((c.toNat : Int) - 48)) := capd_lo _ (by omega)
       have hn : refNum n (c :: a) = refNum (capd (10 * max n 0 + ((c.toNat : Int) - 48))) a := by
        simp only [refNum, numFrom, hd, if_false, reduceCtorEq]
        cases a with
        | nil => simp [numFrom]
        | cons x a => rw [if_neg (by simp), Int.max_eq_left hlo]
       cases t <;> simp only [piecesGo, hn]
theorem piecesGo_nums : ∀ (ps : List (List UInt8)) (out : List Int), ps ≠ [] → (match piecesGo ps (-1) out with | none => none | some (o, v) => some (o ++ [v])) = (match numsOf (ps.map fun l => ⟨l.toArray⟩) with | none => none | some l => some (out ++ l))
 | [], _, h => absurd rfl h
 | [p], out, _ => by
   simp only [piecesGo, List.map_cons, List.map_nil, numsOf, numB, number, refNum]
   by_cases hp : p = []
   · simp [hp]
   · simp only [hp, if_false]
     rw [show max (-1 : Int) 0 = 0 from rfl]
     cases numFrom 0 p <;> simp
 | p :: q :: r, out, _ => by
   have ih := fun o => piecesGo_nums (q :: r) o (by simp)
   simp only [piecesGo, List.map_cons] at ih ⊢
   rw [numsOf]
   simp only [numB, number, refNum]
   by_cases hp : p = []
   · simp only [hp, if_true]
     rw [ih]
     cases numsOf ({ data := q.toArray } :: List.map (fun l => { data := l.toArray }) r) <;> simp
   · simp only [hp, if_false]
     rw [show max (-1 : Int) 0 = 0 from rfl]
     cases numFrom 0 p with
     | none => simp
     | some v =>
       simp only [if_true]
       rw [ih]
       cases numsOf ({ data := q.toArray } :: List.map (fun l => { data := l.toArray }) r) <;> simp
theorem refNumbers_eq (s : List UInt8) : refNumbers s = numbers s := by
 unfold refNumbers numbers partsB
 rw [refGo_pieces]
 by_cases hs : s = []
 · subst hs; rfl
 · rw [if_neg hs]
   have h := piecesGo_nums (splitC 59 s) [] (splitC_ne _ _)
   cases hp : piecesGo (splitC 59 s) (-1) [] with
   | none =>
     rw [hp] at h
     cases hn : numsOf ((splitC 59 s).map fun l => ⟨l.toArray⟩) with
     | none => rfl
     | some l => rw [hn] at h; cases h
   | some x =>
     obtain ⟨o, v⟩ := x
     rw [hp] at h
     cases hn : numsOf ((splitC 59 s).map fun l => ⟨l.toArray⟩) with
     | none => rw [hn] at h; cases h
     | some l => rw [hn] at h; simp only [if_neg hs]; simpa using h
end Vz
namespace Vz
theorem refGo_step (n : Int) (out : List Int) (s : ByteArray) (k : Nat) (h : k < s.size) :
 refGo (s.data.toList.drop k) n out = if s[k] == 59 then refGo (s.data.toList.drop (k + 1)) (-1) (out ++ [n]) else if (s[k].toNat : Int) < 48 ∨ 57 < (s[k].toNat : Int) then none else refGo (s.data.toList.drop (k + 1)) (capd (10 * max n 0 + ((s[k].toNat : Int) - 48))) out := by
 rw [List.drop_eq_getElem_cons (by simpa using h)]
 simp only [refGo]
 rfl
end Vz
namespace Go.Proofs.YtmgeghoalmonoaaGreatDoor
open Go.RowKit
set_option linter.unusedSimpArgs false
set_option linter.unusedVariables false
/- Walks of params.number. -/
section
theorem ret_tup2 {a b : Value} {a' b' : Value} (h : a = a') (h' : b = b') : Ending.returned (.tuple #[a, b]) = .returned (.tuple #[a', b']) := by rw [h, h']
theorem number_any (s : ByteArray) (w : World) (hs : s.size ≤ maxLen) :
 Calls Tryz.prog 106 #[.string s] w fun e w' => e = .returned (.tuple #[.int .i64 (Vz.number s.data.toList).1, .bool (Vz.number s.data.toList).2]) ∧ w = w' := by
 unfold maxLen at hs
 by_cases h0 : s.data.toList = []
 · have h1 : s.toList = [] := by rw [ByteArray.toList_eq]; exact h0
   have h2 : (!s.toList.isEmpty) = false := by rw [h1]; rfl
   go_enter Tryz.func106, Tryz.ntmps106
   go_wp2
   go_ret2
   exact ⟨ret_tup2 (by simp [Vz.number, h0]) (by simp [Vz.number, h0]), rfl⟩
 · have h1 : s.toList.isEmpty = false := by rw [ByteArray.toList_eq]; simpa using h0
   have H0 := Lib.hid h0
   clear h0
   go_enter Tryz.func106, Tryz.ntmps106
   go_wp2
   go_loop [4, 5, 10] (fun n i c => ∃ (k : Nat) (m : Int), k ≤ s.size ∧ 0 ≤ m ∧ m ≤ 9999 ∧ n = .int .i64 m ∧ c = .int .i64 k ∧ Vz.numFrom 0 s.data.toList = Vz.numFrom m (s.data.toList.drop k)) (fun _ _ c => s.size - (intOf c).toNat)
   case atStart => exact ⟨0, 0, Nat.zero_le _, by omega, by omega, rfl, rfl, rfl⟩
   case round =>
    obtain ⟨k, m, hk, hm0, hm1, rfl, rfl, hn⟩ := hrel
    have HN := Lib.hid hn
    clear hn
    by_cases hlt : k < s.size
    · have hst := Lib.hid (Vz.numFrom_step m s k hlt)
      by_cases hd : (s[k].toNat : Int) < 48 ∨ 57 < (s[k].toNat : Int)
      · go_wp2
        all_goals
         go_ret2
         have e : Vz.number s.data.toList = (0, false) := by
          unfold Vz.number; rw [if_neg H0.out, HN.out, hst.out, if_pos hd]
         exact ⟨ret_tup2 (by rw [e]; rfl) (by rw [e]; rfl), rfl⟩
      · have hd1 : (48 : Int) ≤ (s[k].toNat : Int) := by omega
        have hd2 : (s[k].toNat : Int) ≤ 57 := by omega
        go_wp2
        exact ⟨⟨k + 1, Vz.capd (10 * m + ((s[k].toNat : Int) - 48)), by omega, Vz.capd_lo _ (by omega), Vz.capd_hi _, (by first | rfl | (unfold Vz.capd; congr 1; split <;> omega)), by go_num, by rw [HN.out, hst.out, if_neg hd]⟩, by simp [intOf]; omega⟩
    · have e : Vz.number s.data.toList = (m, true) := by
       unfold Vz.number; rw [if_neg H0.out, HN.out, List.drop_of_length_le (by simp; omega)]; rfl
      have E := Lib.hid e
      clear e
      go_wp2
      go_ret2
      exact ⟨ret_tup2 (by rw [E.out]; rfl) (by rw [E.out]; rfl), rfl⟩
end
section
theorem cutC_miss (c : UInt8) : ∀ l : List UInt8, Lib.indexByte l c = -1 → Vz.cutC c l = (l, [], false)
 | [], _ => rfl
 | x :: r, h => by
   unfold Lib.indexByte at h
   by_cases hx : (x == c) = true
   · simp [hx] at h
   · have hr : Lib.indexByte r c = -1 := by
      have := Lib.indexByte_ge r c
      simp only [hx, Bool.false_eq_true, if_false] at h
      by_cases e : Lib.indexByte r c = -1
      · exact e
      · simp [e] at h; omega
     simp only [Vz.cutC, hx, Bool.false_eq_true, if_false, cutC_miss c r hr]
theorem cutC_hit (c : UInt8) : ∀ (l : List UInt8) (i : Nat), Lib.indexByte l c = i → Vz.cutC c l = (l.take i, l.drop (i + 1), true) ∧ i < l.length
 | [], i, h => by simp [Lib.indexByte] at h
 | x :: r, i, h => by
   unfold Lib.indexByte at h
   by_cases hx : (x == c) = true
   · simp only [hx, if_true] at h
     obtain rfl : i = 0 := by omega
     simp [Vz.cutC, hx]
   · simp only [hx, Bool.false_eq_true, if_false] at h
     by_cases e : Lib.indexByte r c = -1
     · simp [e] at h
     · have hb : (Lib.indexByte r c == -1) = false := by simpa using e
       rw [hb] at h
       simp only [Bool.false_eq_true, if_false] at h
       obtain ⟨j, rfl⟩ : ∃ j, i = j + 1 := ⟨i - 1, by have := Lib.indexByte_ge r c; omega⟩
       obtain ⟨e1, e2⟩ := cutC_hit c r j (by omega)
       refine ⟨?_, by simp; omega⟩
       simp only [Vz.cutC, hx, Bool.false_eq_true, if_false, e1]
       simp
theorem ret_tup3 {a b c : Value} {a' b' c' : Value} (h : a = a') (h' : b = b') (h'' : c = c') : Ending.returned (.tuple #[a, b, c]) = .returned (.tuple #[a', b', c']) := by rw [h, h', h'']
theorem str_eq {s t : ByteArray} (h : s.data.toList = t.data.toList) : Value.string s = Value.string t := by
 obtain ⟨⟨l⟩⟩ := s; obtain ⟨⟨m⟩⟩ := t; simp at h; rw [h]
theorem sliteCut_any (s : ByteArray) (c : UInt8) (w : World) (hs : s.size ≤ maxLen) :
 Calls Tryz.prog 144 #[.string s, .string ⟨#[c]⟩] w fun e w' => e = .returned (.tuple #[.string ⟨(Vz.cutC c s.data.toList).1.toArray⟩, .string ⟨(Vz.cutC c s.data.toList).2.1.toArray⟩, .bool (Vz.cutC c s.data.toList).2.2]) ∧ ∃ n, w' = w.drewN n := by
 unfold maxLen at hs
 by_cases hix : Lib.indexByte s.data.toList c = -1
 · have HC := Lib.hid (cutC_miss c _ hix)
   have HX := Lib.hid hix
   clear hix
   go_enter Tryz.func144, Tryz.ntmps144
   go_wp2_with (go_at_call 154; refine (Tryz.stringslite_Index_one _ _ _).mono ?_; rintro e w' ⟨rfl, rfl⟩; rw [HX.out])
   go_ret3
   exact ⟨ret_tup3 (str_eq (by rw [HC.out])) (str_eq (by rw [HC.out])) (by rw [HC.out]; rfl), 0, rfl⟩
 · obtain ⟨i, hi⟩ : ∃ i : Nat, Lib.indexByte s.data.toList c = i := ⟨(Lib.indexByte s.data.toList c).toNat, by have := Lib.indexByte_ge s.data.toList c; omega⟩
   obtain ⟨hc, hl⟩ := cutC_hit c _ i hi
   have HC := Lib.hid hc
   have HX := Lib.hid hi
   have c2 : i + 1 ≤ s.size := by rw [Lib.size_eq]; omega
   have c1 : (0 : Int) ≤ ↑i := by omega
   have c3 : (↑i : Int) ≤ ↑s.size := by omega
   have c4 : (0 : Int) ≤ ↑i + 1 := by omega
   have c5 : (↑i + 1 : Int) ≤ ↑s.size := by omega
   clear hi hc hix hl
   go_enter Tryz.func144, Tryz.ntmps144
   go_wp2_with (go_at_call 154; refine (Tryz.stringslite_Index_one _ _ _).mono ?_; rintro e w' ⟨rfl, rfl⟩; rw [HX.out])
   go_region
   go_wp2
   go_ret3
   exact ⟨ret_tup3 (str_eq (by rw [HC.out, Lib.extract_data]; simp)) (str_eq (by rw [HC.out, Lib.extract_data]; exact List.take_of_length_le (by rw [Lib.size_eq]; simp))) (by rw [HC.out]; rfl), 1, rfl⟩
theorem cutc_any (s : ByteArray) (c : UInt8) (w : World) (hs : s.size ≤ maxLen) :
 Calls Tryz.prog 131 #[.string s, .string ⟨#[c]⟩] w fun e w' => e = .returned (.tuple #[.string ⟨(Vz.cutC c s.data.toList).1.toArray⟩, .string ⟨(Vz.cutC c s.data.toList).2.1.toArray⟩, .bool (Vz.cutC c s.data.toList).2.2]) ∧ ∃ n, w' = w.drewN n := by
 go_enter Tryz.func131, Tryz.ntmps131
 go_wp2_with (go_at_call 144; refine (sliteCut_any _ _ _ hs).mono ?_; rintro e w' ⟨rfl, n, rfl⟩)
 go_ret3
 exact ⟨rfl, n, rfl⟩
end
section
open Go Go.RowKit
variable {F : Fence} {n : Nat} {P : Program}
def SeqStopsC {α : Type} (F : Fence) (n : Nat) (P : Program) (g : Nat) (lb : Array Value) (encs : α → Array Value) (Bc : Nat) (Kp : World → World → Prop) (S Sp : List α → Prop) (T : List α → α → Prop) (w : World) : Prop :=
 ∀ (l : Nat) (J Jx : List α → World → Prop) (W : World), Below w.heap.size w W → AbidesFrom W.heap.size J → AbidesFrom W.heap.size Jx →
   (∀ s A v, J s A → J s (A.setCell ⟨Bc, 0, none⟩ v)) → (∀ s A v, Jx s A → Jx s (A.setCell ⟨Bc, 0, none⟩ v)) →
   (∀ pre x W1, J pre W1 → T pre x → YieldAt F (n - 1) P l (encs x) W1 fun e W' =>
     (e = .returned (.bool true) ∧ J (pre ++ [x]) W' ∧ Kp W1 W') ∨ (e = .returned (.bool false) ∧ Jx (pre ++ [x]) W')) →
   J [] W →
   CallsIn F n P g (#[.func (.yield l) #[] #[]] ++ lb) W fun e W' => (∃ v, e = .returned v) ∧ ((∃ xs, S xs ∧ J xs W') ∨ (∃ pre, Sp pre ∧ Jx pre W'))
theorem wpIn_rangeFunc_ownC {α : Type} {g : Operand} {ps : Array Tmp} {assign body : Code} {Q : Exit → Act → World → Prop} {a : Act} {w : World}
 (hro : F.round = none) (h1 : 1 ≤ n) {gf : Nat} {lb : Array Value} (hg : a.eval g = .func (.func gf) #[] lb) (hFg : F.fn gf) (eg : ∀ args w, (callFunc gf args).run P w = .ok (.enter gf args) w)
 {encs : α → Array Value} {Kp : World → World → Prop} {S Sp : List α → Prop} {T : List α → α → Prop} {w0 : World} {Bc : Nat} (hseq : SeqStopsC F (n - 1) P gf lb encs Bc Kp S Sp T w0) (hBc : Bc < w.heap.size)
 (hKt : ∀ {A B C : World}, Kp A B → Kp B C → Kp A C) (hKb : ∀ (W : World) (l : Nat) (o o' : Obj), w.heap.size ≤ l → W.heap[l]? = some o → o.isCells = false → o.isWalk = false → Kp W (W.putObj l o')) (hb0 : Below w0.heap.size w0 w) (hps : ∀ x, (encs x).size = ps.size)
 (I : List α → World → Prop) (Ix : Code → List α → World → Prop) (hI : OwnFrom w.heap.size I) (hIx : ∀ c, OwnFrom w.heap.size (Ix c)) (hIc : ∀ s W v, I s W → I s (W.setCell ⟨Bc, 0, none⟩ v)) (hIxc : ∀ c s W v, Ix c s W → Ix c s (W.setCell ⟨Bc, 0, none⟩ v)) (h0 : I [] w) (a₁ : α → Act)
 (hassign : ∀ (l : Nat) (x : α) (W : World) (K : Act → World → Prop), K (a₁ x) W →
   assign.wpIn (F.inRound l) (n - 1 - 1) P (Exit.then K (fun _ _ _ => False)) { tmps := (ps.zip (encs x)).foldl (fun t (p, v) => t.setIfInBounds p v) a.tmps, defers := [] } W)
 (hbody : ∀ (l : Nat) (pre : List α) (x : α) (W : World), I pre W → T pre x → body.wpIn (F.inRound l) (n - 1 - 1) P (ownPostG w.heap.size Kp I Ix (pre ++ [x]) W) (a₁ x) W)
 (hdone : ∀ (D : Nat) (xs : List α) (W : World), w.heap.size ≤ D → S xs → I xs W → W.heap[D]? = some (.deferred (some [])) → Q .normal { a with defers := { target := .collected D, args := #[] } :: a.defers } W)
 (hstop : ∀ (D : Nat) (c : Code) (pre : List α) (W : World), w.heap.size ≤ D → Sp pre → Ix c pre W → W.heap[D]? = some (.deferred (some [])) → c.wpIn F n P Q { a with defers := { target := .collected D, args := #[] } :: a.defers } W) :
 (Code.rangeFunc g ps assign body).wpIn F n P Q a w := by
 refine wpIn_rangeFunc ?_
 intro fn hfn
 rw [hro]
 obtain ⟨rec, hrec⟩ : ∃ rec : LoopState → Option Code → Loop, rec = fun st pe => { state := st, pending := pe, fn, tmps := a.tmps, params := ps, assign, body, defers := w.heap.size } := ⟨_, rfl⟩
 obtain ⟨W1, hW1⟩ : ∃ W1, (w.alloc (.deferred (some []))).alloc (.loop (rec .ready none)) = W1 := ⟨_, rfl⟩
 have hL1 : W1.heap[w.heap.size + 1]? = some (.loop (rec .ready none)) := by
  rw [← hW1]; have := World.alloc_heap_new (w.alloc (.deferred (some []))) (.loop (rec .ready none)); rwa [World.size_alloc] at this
 have hK1 : W1.heap[w.heap.size]? = some (.deferred (some [])) := by
  rw [← hW1]; exact (Below.heap_alloc _ _ _ (by simp)).trans (World.alloc_heap_new w _)
 have hI1 : I [] W1 := by rw [← hW1]; exact hI.alloc _ (hI.alloc _ h0)
 have hb1 : Below w0.heap.size w0 W1 := by
  rw [← hW1]; exact hb0.trans ((((Below.refl _ w).alloc (Nat.le_refl _) _).alloc (by simp) _).mono hb0.size)
 refine ⟨w.heap.size + 1, [{ target := .collected w.heap.size, args := #[] }], W1, { target := .fn (.func gf) lb, args := #[.func (.yield (w.heap.size + 1)) #[] #[]] }, W1, gf,
  #[.func (.yield (w.heap.size + 1)) #[] #[]] ++ lb, W1, ?_, ?_, ?_, ?_, fun _ => h1, ?_⟩
 · rw [← hW1, hrec]; exact run_enterLoop_outer _ _ _ _ _
 · simp only [resolve, hg]
   simp [go_sem]
 · intro f' hf'; simp [Target.leads] at hf'; subst hf'; exact hFg
 · simp [invoke, go_sem, eg]
 · -- THE ITERATOR's CONTRACT, AT THE CALLER's INVARIANT WITH THE TWO FACTS OF BOOK-KEEPING BESIDE IT
   have hnw : ∀ {A B : World} {row : Option Nat}, (∀ r, row = some r → W1.heap.size ≤ r ∧ ∃ o : Obj, A.heap[r]? = some o ∧ o.isWalk = true) → (∀ r, row = some r → w.heap.size ≤ r ∧ ∃ o : Obj, A.heap[r]? = some o ∧ o.isCells = false) :=
    fun hr r e => by obtain ⟨hB, o, ho, hw⟩ := hr r e; exact ⟨by rw [← hW1] at hB; simp at hB; omega, o, ho, Obj.not_cells_of_walk hw⟩
   refine (hseq (w.heap.size + 1)
    (fun pre W => I pre W ∧ W.heap[w.heap.size + 1]? = some (.loop (rec .ready none)) ∧ W.heap[w.heap.size]? = some (.deferred (some [])))
    (fun pre W => ∃ c, Ix c pre W ∧ W.heap[w.heap.size + 1]? = some (.loop (rec .done (some c))) ∧ W.heap[w.heap.size]? = some (.deferred (some [])))
    W1 hb1
    (fun s A B row hs hg' hr => ⟨hI s A B row hs.1 hg' (hnw (B := B) hr), (grownBy_keeps hg' (fun r e => (hr r e).2) hs.2.1 rfl).trans hs.2.1, (grownBy_keeps hg' (fun r e => (hr r e).2) hs.2.2 rfl).trans hs.2.2⟩)
    (fun s A B row hs hg' hr => by
      obtain ⟨c, hc, hl, hk⟩ := hs
      exact ⟨c, hIx c s A B row hc hg' (hnw (B := B) hr), (grownBy_keeps hg' (fun r e => (hr r e).2) hl rfl).trans hl, (grownBy_keeps hg' (fun r e => (hr r e).2) hk rfl).trans hk⟩)
    (fun s A v hs => ⟨hIc s A v hs.1, (Below.heap_setCell A _ v _ (by show _ ≠ Bc; omega)).trans hs.2.1, (Below.heap_setCell A _ v _ (by show _ ≠ Bc; omega)).trans hs.2.2⟩)
    (fun s A v hs => by
      obtain ⟨c, hc, hl, hk⟩ := hs
      exact ⟨c, hIxc c s A v hc, (Below.heap_setCell A _ v _ (by show _ ≠ Bc; omega)).trans hl, (Below.heap_setCell A _ v _ (by show _ ≠ Bc; omega)).trans hk⟩)
    ?_ ⟨hI1, hL1, hK1⟩).mono ?_
   · -- ONE ROUND
     rintro pre x W ⟨hi, hl, hk⟩ hlen
     have hlt : w.heap.size + 1 < W.heap.size := (Array.getElem?_eq_some_iff.1 hl).1
     have hy := run_yield (P := P) (args := encs x) hl (by rw [hrec]; exact hps x)
     rw [hrec] at hy
     refine ⟨fn, _, assign, body, hy, roundIn_of_wpIn hfn (hassign _ x W _ ⟨_, run_beginRound hl (by rw [hrec]), ?_⟩)⟩
     have hl2 : (W.putObj (w.heap.size + 1) (.loop { rec .ready none with state := .busy })).heap[w.heap.size + 1]? = some (.loop { rec .ready none with state := .busy }) := World.putObj_heap_same hlt
     have hk2 : (W.putObj (w.heap.size + 1) (.loop { rec .ready none with state := .busy })).heap[w.heap.size]? = some (.deferred (some [])) := (World.putObj_heap_other (by omega)).trans hk
     have hw2 : Kp W (W.putObj (w.heap.size + 1) (.loop { rec .ready none with state := .busy })) := hKb _ _ _ _ (by omega) hl rfl rfl
     refine wpIn_mono (hbody _ pre x _ (hI.putObj _ hi (by omega) hl rfl) hlen) ?_
     have fin : ∀ (jump : Option Code) (W3 : World), KeepsFrom w.heap.size (W.putObj (w.heap.size + 1) (.loop { rec .ready none with state := .busy })) W3 →
      (Instr.endRound (w.heap.size + 1) jump).run P W3 = .ok (.bool jump.isNone) (W3.putObj (w.heap.size + 1) (.loop (rec (if jump.isNone then .ready else .done) jump))) ∧
      W3.heap[w.heap.size + 1]? = some (.loop { rec .ready none with state := .busy }) ∧
      (W3.putObj (w.heap.size + 1) (.loop (rec (if jump.isNone then .ready else .done) jump))).heap[w.heap.size + 1]? = some (.loop (rec (if jump.isNone then .ready else .done) jump)) ∧
      (W3.putObj (w.heap.size + 1) (.loop (rec (if jump.isNone then .ready else .done) jump))).heap[w.heap.size]? = some (.deferred (some [])) := fun jump W3 hk3 => by
      have hl3 := hk3.same _ _ (by omega) hl2 rfl
      have := run_endRound (P := P) jump hl3
      rw [hrec] at this ⊢
      exact ⟨this, by rw [hrec] at hl3; exact hl3, World.putObj_heap_same (Array.getElem?_eq_some_iff.1 hl3).1, (World.putObj_heap_other (by omega)).trans (hk3.same _ _ (Nat.le_refl _) hk2 rfl)⟩
     rintro e a3 W3 hp
     cases e with
     | normal =>
       obtain ⟨hk3, hkp3, hi3⟩ := hp
       obtain ⟨hr, hl3, hl4, hk4⟩ := fin none W3 hk3
       exact ⟨_, _, hr, .inl ⟨rfl, ⟨hI.putObj _ hi3 (by omega) hl3 rfl, hl4, hk4⟩, hKt (hKt hw2 hkp3) (hKb _ _ _ _ (by omega) hl3 rfl rfl)⟩⟩
     | ret =>
       obtain ⟨hk3, hi3⟩ := hp
       obtain ⟨hr, hl3, hl4, hk4⟩ := fin (some .ret) W3 hk3
       exact ⟨_, _, hr, .inr ⟨rfl, .ret, (hIx _).putObj _ hi3 (by omega) hl3 rfl, hl4, hk4⟩⟩
     | exit id =>
       obtain ⟨hk3, hi3⟩ := hp
       obtain ⟨hr, hl3, hl4, hk4⟩ := fin (some (.exit id)) W3 hk3
       exact ⟨_, _, hr, .inr ⟨rfl, .exit id, (hIx _).putObj _ hi3 (by omega) hl3 rfl, hl4, hk4⟩⟩
     | goto t =>
       obtain ⟨hk3, hi3⟩ := hp
       obtain ⟨hr, hl3, hl4, hk4⟩ := fin (some (.goto t)) W3 hk3
       exact ⟨_, _, hr, .inr ⟨rfl, .goto t, (hIx _).putObj _ hi3 (by omega) hl3 rfl, hl4, hk4⟩⟩
     | panic ch => exact hp.elim
     | outgrown => exact hp.elim
   · -- BEHIND THE ITERATOR
     rintro e W2 ⟨⟨v, rfl⟩, (⟨xs, hS, hi, hl, hk⟩ | ⟨pre, hSp, c, hi, hl, hk⟩)⟩
     · exact ⟨none, _, by have := run_endLoop (P := P) hl (by rw [hrec]; simp); rw [hrec] at this; exact this, hdone _ xs _ (Nat.le_refl _) hS (hI.putObj _ hi (by omega) hl rfl) ((World.putObj_heap_other (by omega)).trans hk)⟩
     · exact ⟨some c, _, by have := run_endLoop (P := P) hl (by rw [hrec]; simp); rw [hrec] at this; exact this, hstop _ c pre _ (Nat.le_refl _) hSp ((hIx c).putObj _ hi (by omega) hl rfl) ((World.putObj_heap_other (by omega)).trans hk)⟩
/-! ### Boxes and rows beside what a step turns -/
theorem boxed_keptC {W W' : World} {row : Option Nat} {B : Nat} {t : TypeId} {v : Value} {D : Nat} (h : Boxed W B t v) (hg : W.grownBy W' row) (hr : ∀ r, row = some r → D ≤ r ∧ ∃ o : Obj, W.heap[r]? = some o ∧ o.isCells = false) : Boxed W' B t v :=
 h.kept hg (fun e => by obtain ⟨_, o, ho, hc⟩ := hr B e.symm; rw [show W.heap[B]? = _ from h] at ho; cases ho; cases hc)
theorem ownsRow_keptC {W W' : World} {row : Option Nat} {base : Nat} {e : TypeId} {size : Nat} {v : Value} {k : Nat} {xs : List Value} {D : Nat} (h : W.ownsRow base e size v k xs) (hg : W.grownBy W' row) (hr : ∀ r, row = some r → D ≤ r ∧ ∃ o : Obj, W.heap[r]? = some o ∧ o.isCells = false) : W'.ownsRow base e size v k xs := by
 refine h.kept hg ?_
 rcases h.2 with ⟨rfl, _⟩ | ⟨g, cap, cur, rfl, _, hgb, _⟩
 · exact .inl rfl
 · refine .inr fun e' => ?_
   obtain ⟨_, o, ho, hc⟩ := hr g (by simpa [Value.ownBlock] using e'.symm)
   rw [hgb] at ho; cases ho; cases hc
theorem boxed_beside {W w1 : World} {n₀ B B' : Nat} {t' e : TypeId} {size : Nat} {v v' u : Value} {k : Nat} {xs : List Value} {tmp : Obj}
 (hb : Boxed W B' t' u) (hte : t' ≠ e) (hrow : W.ownsRow n₀ e size v k xs) (hgrow : (W.alloc tmp).grownBy w1 v.ownBlock) (hne : B' ≠ B) : Boxed (w1.setCell ⟨B, 0, none⟩ v') B' t' u :=
 Boxed.other ((hb.alloc tmp).kept hgrow (hb.not_row hte hrow)) hne v'
theorem ownsRow_setBox {W : World} {B : Nat} {t e : TypeId} {base size k : Nat} {v u : Value} {xs : List Value} (h : W.ownsRow base e size v k xs) (hb : Boxed W B t u) (hte : t ≠ e) (x : Value) : (W.setCell ⟨B, 0, none⟩ x).ownsRow base e size v k xs :=
 h.kept (grownBy_setCell' W B x) (.inr (hb.not_row hte h).symm)
theorem ownsRow_slice {W : World} {base : Nat} {e : TypeId} {size : Nat} {v : Value} {k : Nat} {xs : List Value} (h : W.ownsRow base e size v k xs) : ∃ a c, v = .slice a k c := by
 rcases h.2 with ⟨rfl, rfl⟩ | ⟨g, cap, _, rfl, _⟩
 · exact ⟨_, _, rfl⟩
 · exact ⟨_, _, rfl⟩
theorem boxed_set {W : World} {B B' : Nat} {t : TypeId} {v : Value} (h : Boxed W B t v) (hne : B ≠ B') (u : Value) : Boxed (W.setCell ⟨B', 0, none⟩ u) B t v := h.other hne u
end
section
open Go.RowKit Go.Shelf
attribute [local go_sem] Oper.semAt_some
theorem abides_drewN {β : Type} {B : Nat} {J : β → World → Prop} (h : AbidesFrom B J) {s : β} {W : World} (hj : J s W) (q : Nat) : J s (W.drewN q) :=
 h s W (W.drewN q) none hj ⟨rfl, rfl, rfl, Nat.le_refl _, fun _ _ _ => rfl⟩ (fun _ e => by cases e)
def leftIn (B : Nat) (m : Value) (W : World) : Nat :=
 match m, W.cell? ⟨B, 0, none⟩ with
 | .bool true, some (.string t) => t.size + 1
 | _, _ => 0
theorem leftIn_true {B : Nat} {W : World} {t : ByteArray} (h : W.cell? ⟨B, 0, none⟩ = some (.string t)) : leftIn B (.bool true) W = t.size + 1 := by
 unfold leftIn; rw [h]
theorem leftIn_lt {B : Nat} {W W' : World} {t t' : ByteArray} {b : Bool} (h : W.cell? ⟨B, 0, none⟩ = some (.string t)) (h' : W'.cell? ⟨B, 0, none⟩ = some (.string t')) (hlt : b = true → t'.size < t.size) : leftIn B (.bool b) W' < leftIn B (.bool true) W := by
 rw [leftIn_true h]; cases b
 · simp [leftIn]
 · rw [leftIn_true h']; have := hlt rfl; omega
theorem parts1_in (n : Nat) (hn : 1 ≤ n) (l Bc : Nat) (s : ByteArray) (hs : s.size ≤ maxLen) (J Jx : List ByteArray → World → Prop) (B0 : Nat) (hJ : AbidesFrom B0 J)
 (hJc : ∀ s A v, J s A → J s (A.setCell ⟨Bc, 0, none⟩ v))
 (hY : ∀ pre x W, J pre W → (pre ++ [x]) <+: Vz.partsB s.data.toList → YieldAt Fence.wide (n - 1) Tryz.prog l #[.string x] W fun e W' =>
   (e = .returned (.bool true) ∧ J (pre ++ [x]) W' ∧ W'.heap[Bc]? = W.heap[Bc]?) ∨ (e = .returned (.bool false) ∧ Jx (pre ++ [x]) W'))
 (W : World) (hB : Boxed W Bc 9 (.string s)) (h0 : J [] W) :
 CallsIn Fence.wide n Tryz.prog 130 #[.func (.yield l) #[] #[], .pointer (some ⟨Bc, 0, none⟩)] W fun e W' => (∃ v, e = .returned v) ∧
  ((∃ ys, ys = Vz.partsB s.data.toList ∧ J ys W') ∨ (∃ pre, pre <+: Vz.partsB s.data.toList ∧ Jx pre W')) := by
 have hc0 := hB.cell
 refine callsIn_of_wp Tryz.func130 rfl trivial ?_ rfl
 simp only [Tryz.ntmps130, List.size_toArray, List.length_cons, List.length_nil, Nat.reduceAdd, Nat.reduceSub, Array.replicate_succ, Array.replicate_zero, List.push_toArray, List.append_toArray, List.nil_append, List.cons_append]
 gi_wp2
 gi_loopw [3] (fun m wr => ∃ (pre : List ByteArray) (t : ByteArray) (b : Bool), m = .bool b ∧ Boxed wr Bc 9 (.string t) ∧ t.size ≤ maxLen ∧ J pre wr ∧ Vz.partsB s.data.toList = pre ++ (if b = true then (Vz.splitC 59 t.data.toList).map (fun l => (⟨l.toArray⟩ : ByteArray)) else []))
  (fun m wr => leftIn Bc m wr)
 case atStart =>
  refine ⟨[], s, !s.toList.isEmpty, rfl, hB, hs, h0, ?_⟩
  unfold Vz.partsB
  rw [ByteArray.toList_eq]
  cases s.data.toList <;> simp
 case round =>
  obtain ⟨pre, t, b, rfl, hBt, ht, hj, hx⟩ := hrel
  have hct := hBt.cell
  have hft := hBt.frozen
  have HX := Lib.hid hx
  clear hx
  cases b with
  | false =>
    gi_wp2
    go_end0
    exact ⟨⟨_, rfl⟩, .inl ⟨pre, by have := HX.out; simpa using this.symm, hj⟩⟩
  | true =>
    have hxs := HX.out
    rw [if_pos rfl, Vz.partsB_cut] at hxs
    have HXS := Lib.hid hxs
    have hlen : (pre ++ [⟨(Vz.cutC 59 t.data.toList).1.toArray⟩]) <+: Vz.partsB s.data.toList := ⟨_, by rw [hxs, List.append_assoc]; rfl⟩
    have HL := Lib.hid hlen
    clear hxs hlen
    gi_wp2_with (refine ⟨trivial, ?_⟩; gi_at_call 131; refine (callsIn_wide.2 (cutc_any t 59 _ ht)).mono ?_; rintro e w' ⟨rfl, q, rfl⟩; obtain ⟨fn, tmps, assign, body, hy, hR⟩ := hY pre ⟨(Vz.cutC 59 t.data.toList).1.toArray⟩ ((wr.drewN q).setCell ⟨Bc, 0, none⟩ (.string ⟨(Vz.cutC 59 t.data.toList).2.1.toArray⟩)) (hJc _ _ _ (abides_drewN hJ hj q)) HL.out)
    refine hR.mono ?_
    have hB2 : Boxed ((wr.drewN q).setCell ⟨Bc, 0, none⟩ (.string ⟨(Vz.cutC 59 t.data.toList).2.1.toArray⟩)) Bc 9 (.string ⟨(Vz.cutC 59 t.data.toList).2.1.toArray⟩) := Boxed.set (W := wr.drewN q) _ hBt
    have hsz : (Vz.cutC 59 t.data.toList).2.2 = true → (⟨(Vz.cutC 59 t.data.toList).2.1.toArray⟩ : ByteArray).size < t.size := fun h => by
     have := Vz.cutC_size 59 t.data.toList h
     rw [Lib.size_eq t]; show (Vz.cutC 59 t.data.toList).2.1.toArray.size < _; simpa using this
    have hsm : (⟨(Vz.cutC 59 t.data.toList).2.1.toArray⟩ : ByteArray).size ≤ maxLen := by
     cases h : (Vz.cutC 59 t.data.toList).2.2
     · rw [Vz.cutC_nil _ _ h]; exact Nat.zero_le _
     · have := hsz h; omega
    have HS := Lib.hid hsz
    have HM := Lib.hid hsm
    clear hsz hsm hY hJ hJc
    rintro e W3 (⟨rfl, hJ3, hk3⟩ | ⟨rfl, hJx3⟩)
    · have hB3 : Boxed W3 Bc 9 (.string ⟨(Vz.cutC 59 t.data.toList).2.1.toArray⟩) := hk3.trans hB2
      have HK := Lib.hid hk3
      clear hk3
      gi_wp2
      go_roundw
      case rel => exact ⟨_, _, _, rfl, hB3, HM.out, hJ3, by rw [HXS.out, List.append_assoc]; rfl⟩
      case measure => exact leftIn_lt hct hB3.cell HS.out
    · gi_wp2
      refine bodyPost_ret (results_none rfl _ _ _) rfl ?_
      exact ⟨⟨_, rfl⟩, .inr ⟨_, ⟨_, by rw [HXS.out, List.append_assoc]; rfl⟩, hJx3⟩⟩
theorem parts_in (n : Nat) (s : ByteArray) (w : World) :
 CallsIn Fence.wide n Tryz.prog 105 #[.string s] w fun e w' => e = .returned (.func (.func 130) #[] #[.pointer (some ⟨w.heap.size, 0, none⟩)]) ∧ w' = w.alloc (.cells #[.string s] 9) := by
 refine callsIn_of_wp Tryz.func105 rfl trivial ?_ rfl
 simp only [Tryz.ntmps105, List.size_toArray, List.length_cons, List.length_nil, Nat.reduceAdd, Nat.reduceSub, Array.replicate_succ, Array.replicate_zero, List.push_toArray, List.append_toArray, List.nil_append, List.cons_append]
 gi_wp2
 go_ret
 exact ⟨rfl, rfl⟩
theorem parts_stops (n : Nat) (hn : 1 ≤ n) (s : ByteArray) (hs : s.size ≤ maxLen) (Bc : Nat) (w : World) (hB : Boxed w Bc 9 (.string s)) :
 SeqStopsC Fence.wide n Tryz.prog 130 #[.pointer (some ⟨Bc, 0, none⟩)] (fun x : ByteArray => #[Value.string x]) Bc (fun W W' => W'.heap[Bc]? = W.heap[Bc]?) (fun ys => ys = Vz.partsB s.data.toList) (fun pre => pre <+: Vz.partsB s.data.toList) (fun pre x => (pre ++ [x]) <+: Vz.partsB s.data.toList) w :=
 fun l J Jx W hW hJ _ hJc _ hY h0 => parts1_in n hn l Bc s hs J Jx _ hJ hJc hY W ((hW.block Bc hB.lt).trans hB) h0
end
section
open Go.RowKit Go.Shelf
attribute [local go_sem] Oper.semAt_some
theorem infoInt : (Tryz.prog.info? 3).map (fun i => (i.zero, i.size, i.bytes)) = some (some (.int .i64 0), 1, 8) := by kernel_rfl
theorem numbers_in (n : Nat) (hn : 3 ≤ n) (s : ByteArray) (hs : s.size ≤ 4000000) (w : World) :
 CallsIn Fence.wide n Tryz.prog 89 #[.string s] w fun e W' => ∃ v, e = .returned (.tuple #[v, .bool (Vz.numbers s.data.toList).2]) ∧
  W'.ownsRow w.heap.size 3 1 v (Vz.numbers s.data.toList).1.length ((Vz.numbers s.data.toList).1.map (Value.int .i64)) ∧ Below w.heap.size w W' := by
 have h1 : 1 ≤ n := by omega
 have hs' : s.size ≤ maxLen := by unfold maxLen; omega
 obtain ⟨i0, hi, hz0, hz1, hz2⟩ := info_parts infoInt
 refine callsIn_of_wp_marks Tryz.func89 rfl trivial ?_ rfl
 simp only [Tryz.ntmps89, List.size_toArray, List.length_cons, List.length_nil, Nat.reduceAdd, Nat.reduceSub, Array.replicate_succ, Array.replicate_zero, List.push_toArray, List.append_toArray, List.nil_append, List.cons_append]
 gi_wp2_with (refine ⟨trivial, ?_⟩; gi_at_call 105; refine (parts_in (n - 1) s _).mono ?_; rintro e w' ⟨rfl, rfl⟩)
 have bR0 := Boxed.new w 137 (.slice none 0 0)
 have bR1 := Boxed.new (w.alloc (.cells #[.slice none 0 0] 137)) 4 (.bool false)
 have bO := Boxed.new ((w.alloc (.cells #[.slice none 0 0] 137)).alloc (.cells #[.bool false] 4)) 137 (.slice none 0 0)
 have bS := Boxed.new (((w.alloc (.cells #[.slice none 0 0] 137)).alloc (.cells #[.bool false] 4)).alloc (.cells #[.slice none 0 0] 137)) 9 (.string s)
 rw [World.size_alloc] at bR1
 rw [World.size_alloc, World.size_alloc] at bO
 rw [World.size_alloc, World.size_alloc, World.size_alloc] at bS
 have hB0 : Below w.heap.size w ((((w.alloc (.cells #[.slice none 0 0] 137)).alloc (.cells #[.bool false] 4)).alloc (.cells #[.slice none 0 0] 137)).alloc (.cells #[.string s] 9)) :=
  ((((Below.refl _ w).alloc (Nat.le_refl _) _).alloc (by simp) _).alloc (by simp; omega) _).alloc (by simp; omega) _
 have hPL := Vz.partsB_len s.data.toList
 rw [← Lib.size_eq] at hPL
 refine wpIn_rangeFunc_ownC rfl h1 (gf := 130) (lb := #[.pointer (some ⟨w.heap.size + 1 + 1 + 1, 0, none⟩)]) rfl trivial (enters_of Tryz.func130 (by kernel_rfl) rfl)
  (Bc := w.heap.size + 1 + 1 + 1) (parts_stops (n - 1) (by omega) s hs' (w.heap.size + 1 + 1 + 1) _ bS) (by simp) (fun h k => k.trans h) (fun W l o o' hl _ _ _ => World.putObj_heap_other (by simp at hl; omega)) (Below.refl _ _) (fun _ => rfl)
  (fun pre W => (∃ v, Boxed W (w.heap.size + 1 + 1) 137 v ∧ W.ownsRow w.heap.size 3 1 v pre.length (pre.map fun x => Value.int .i64 (Vz.numB x).1)) ∧ (∀ x ∈ pre, (Vz.numB x).2 = true) ∧ (Boxed W w.heap.size 137 (.slice none 0 0) ∧ Boxed W (w.heap.size + 1) 4 (.bool false) ∧ ∃ u, Boxed W (w.heap.size + 1 + 1 + 1) 9 u) ∧ Below w.heap.size w W)
  (fun c pre W => c = .ret ∧ (∃ x ∈ pre, (Vz.numB x).2 = false) ∧ (Boxed W w.heap.size 137 (.slice none 0 0) ∧ Boxed W (w.heap.size + 1) 4 (.bool false)) ∧ Below w.heap.size w W)
  ?hI ?hIx ?hIc ?hIxc ?h0
  (fun x => { tmps := #[.string s, undef, .pointer (some ⟨w.heap.size, 0, none⟩), .pointer (some ⟨w.heap.size + 1, 0, none⟩), .pointer (some ⟨w.heap.size + 1 + 1, 0, none⟩), .string x, undef, undef, .string s, .func (.func 130) #[] #[.pointer (some ⟨w.heap.size + 1 + 1 + 1, 0, none⟩)], .string x, undef, undef, undef, undef, undef, undef, undef, undef, undef, undef, undef, undef], defers := [] }) ?assign ?body ?done ?stop
 case hI =>
  rintro pre X Y row ⟨⟨v, hv, hr⟩, hp, ⟨b0, b1, u, bu⟩, hB⟩ hg hrow
  exact ⟨⟨v, boxed_keptC hv hg hrow, ownsRow_keptC hr hg hrow⟩, hp, ⟨boxed_keptC b0 hg hrow, boxed_keptC b1 hg hrow, u, boxed_keptC bu hg hrow⟩, hB.grown hg hB.size (fun k e => by have := (hrow k e).1; simp at this; omega)⟩
 case hIx =>
  rintro c pre X Y row ⟨hc, hp, ⟨b0, b1⟩, hB⟩ hg hrow
  exact ⟨hc, hp, ⟨boxed_keptC b0 hg hrow, boxed_keptC b1 hg hrow⟩, hB.grown hg hB.size (fun k e => by have := (hrow k e).1; simp at this; omega)⟩
 case hIc =>
  rintro pre X x ⟨⟨v, hv, hr⟩, hp, ⟨b0, b1, u, bu⟩, hB⟩
  exact ⟨⟨v, boxed_set hv (by omega) _, ownsRow_setBox hr bu (by decide) _⟩, hp, ⟨boxed_set b0 (by omega) _, boxed_set b1 (by omega) _, x, bu.set x⟩, hB.setCell (p := ⟨w.heap.size + 1 + 1 + 1, 0, none⟩) (by show _ ≤ w.heap.size + 1 + 1 + 1; omega) _⟩
 case hIxc =>
  rintro c pre X x ⟨hc, hp, ⟨b0, b1⟩, hB⟩
  exact ⟨hc, hp, ⟨boxed_set b0 (by omega) _, boxed_set b1 (by omega) _⟩, hB.setCell (p := ⟨w.heap.size + 1 + 1 + 1, 0, none⟩) (by show _ ≤ w.heap.size + 1 + 1 + 1; omega) _⟩
 case h0 =>
  exact ⟨⟨_, bO.alloc _, World.ownsRow_nil _ _ _ _⟩, by simp, ⟨((bR0.alloc _).alloc _).alloc _, (bR1.alloc _).alloc _, _, bS⟩, hB0⟩
 case assign =>
  intro l x W K hK
  gi_wp2
  exact hK
 case body =>
  rintro l pre x W ⟨⟨v, hv, hr⟩, hp, ⟨b0, b1, u, bu⟩, hB⟩ hlt
  have hc := hv.cell
  have hf := hv.frozen
  have c0 := b0.cell
  have f0 := b0.frozen
  have c1 := b1.cell
  have f1 := b1.frozen
  have hpl : pre.length ≤ s.size := by have := hlt.length_le; simp at this; omega
  have hmx : pre.length + 1 ≤ maxLen := by unfold maxLen; omega
  have hxs : x.size ≤ maxLen := by
   have := Vz.partsB_each s.data.toList x (hlt.subset (by simp))
   rw [← Lib.size_eq] at this; omega
  cases hb : (Vz.numB x).2 with
  | false =>
    have HB := Lib.hid hb
    clear hb
    gi_wp2_with (refine ⟨trivial, (fun h => by cases h), ?_⟩; gi_at_call 106; refine (CallsIn.inRound l (callsIn_wide.2 (number_any x W hxs))).mono ?_; rintro e w' ⟨rfl, rfl⟩; rw [show (Vz.number x.data.toList).2 = false from HB.out])
    exact ⟨((KeepsOthers.setCell _ _ _).trans (KeepsOthers.setCell _ _ _)).from _, rfl, ⟨x, by simp, HB.out⟩, ⟨boxed_set (b0.set _) (by omega) _, (boxed_set b1 (by omega) _).set _⟩, (hB.setCell (p := ⟨w.heap.size, 0, none⟩) (Nat.le_refl _) _).setCell (p := ⟨w.heap.size + 1, 0, none⟩) (by show _ ≤ w.heap.size + 1; omega) _⟩
  | true =>
    have HB := Lib.hid hb
    clear hb
    gi_wp2_with (first | (refine ⟨trivial, (fun h => by cases h), ?_⟩; gi_at_call 106; refine (CallsIn.inRound l (callsIn_wide.2 (number_any x W hxs))).mono ?_; rintro e w' ⟨rfl, rfl⟩; rw [show (Vz.number x.data.toList).2 = true from HB.out]) | (gi_at_builtin; refine wpListIn_append_own _ rfl _ _ 137 rfl w.heap.size 3 i0 (.int .i64 0) 1 8 Tryz.underlying137 hi hz0 hz1 hz2 rfl (by decide) _ _ _ rfl (hr.alloc _) ⟨W.heap.size, 0, none⟩ 1 1 [.int .i64 (Vz.number x.data.toList).1] rfl rfl (cell_one_new _ _ _) (by simp [Value.oneCell']) (by omega) (by omega) (by have := hB.size; simp; omega) ?_; intro v' w1 hown' hgrow _; obtain ⟨g', cap', rfl⟩ := ownsRow_succ hown'; obtain ⟨hv1, hv2, hr2, hk2, hb2⟩ := hv.appended (by decide) hr hB.size (by omega) hown' hgrow; have hc1 := hv1.cell; have hf1 := hv1.frozen))
    exact ⟨hk2.from _, (boxed_beside bu (by decide) hr hgrow (by omega)).trans (Eq.symm bu), ⟨_, hv2, by simpa [Vz.numB] using hr2⟩, by
     intro y hy
     rcases List.mem_append.1 hy with h | h
     · exact hp y h
     · rw [List.mem_singleton.1 h]; exact HB.out, ⟨boxed_beside b0 (by decide) hr hgrow (by omega), boxed_beside b1 (by decide) hr hgrow (by omega), u, boxed_beside bu (by decide) hr hgrow (by omega)⟩, hB.trans hb2⟩
 case done =>
  rintro D ys W hD rfl ⟨⟨v, hv, hr⟩, hp, ⟨b0, b1, u, bu⟩, hB⟩ hK
  have hc := hv.cell
  have c0 := b0.cell
  have f0 := b0.frozen
  have c1 := b1.cell
  have f1 := b1.frozen
  have HN := Lib.hid (Vz.numbers_all s.data.toList hp)
  clear hp
  obtain ⟨va, vc, rfl⟩ := ownsRow_slice hr
  gi_wp2
  have hr2 := ownsRow_setBox (ownsRow_setBox hr b0 (by decide) (.slice va (Vz.partsB s.data.toList).length vc)) (boxed_set b1 (by omega) _) (by decide) (.bool true)
  have d0 := boxed_set (b0.set (.slice va (Vz.partsB s.data.toList).length vc)) (by omega : w.heap.size ≠ w.heap.size + 1) (.bool true)
  have d1 := (boxed_set b1 (by omega : w.heap.size + 1 ≠ w.heap.size) (.slice va (Vz.partsB s.data.toList).length vc)).set (.bool true)
  have hK2 : ((W.setCell ⟨w.heap.size, 0, none⟩ (Value.slice va (Vz.partsB s.data.toList).length vc)).setCell ⟨w.heap.size + 1, 0, none⟩ (Value.bool true)).heap[D]? = some (.deferred (some [])) :=
   (Below.heap_setCell _ _ _ _ (by show D ≠ w.heap.size + 1; simp at hD; omega)).trans ((Below.heap_setCell _ _ _ _ (by show D ≠ w.heap.size; simp at hD; omega)).trans hK)
  have hB2 : Below w.heap.size w ((W.setCell ⟨w.heap.size, 0, none⟩ (Value.slice va (Vz.partsB s.data.toList).length vc)).setCell ⟨w.heap.size + 1, 0, none⟩ (Value.bool true)) := (hB.setCell (p := ⟨w.heap.size, 0, none⟩) (Nat.le_refl _) _).setCell (p := ⟨w.heap.size + 1, 0, none⟩) (by show _ ≤ w.heap.size + 1; omega) _
  refine ⟨by simp, .inl ⟨_, _, rfl, run_takeDeferred hK2, ?_⟩⟩
  have hh := grownBy_putObj' ((W.setCell ⟨w.heap.size, 0, none⟩ (Value.slice va (Vz.partsB s.data.toList).length vc)).setCell ⟨w.heap.size + 1, 0, none⟩ (Value.bool true)) D (.deferred none)
  have e0 := (boxed_keptC d0 hh (D := 0) (fun r e => by cases e; exact ⟨Nat.zero_le _, _, hK2, rfl⟩)).cell
  have e1 := (boxed_keptC d1 hh (D := 0) (fun r e => by cases e; exact ⟨Nat.zero_le _, _, hK2, rfl⟩)).cell
  refine ⟨.tuple #[.slice va (Vz.partsB s.data.toList).length vc, .bool true], by simp [results, Tryz.results89, go_sem, e0, e1], .slice va (Vz.partsB s.data.toList).length vc, by rw [HN.out], ?_, hB2.grown hh hB2.size (fun k e => by cases e; simp at hD; omega)⟩
  rw [HN.out]
  have := ownsRow_keptC hr2 hh (D := 0) (fun r e => by cases e; exact ⟨Nat.zero_le _, _, hK2, rfl⟩)
  simpa [Function.comp_def] using this
 case stop =>
  rintro D c pre W hD hpre ⟨rfl, ⟨x, hx, hxb⟩, ⟨b0, b1⟩, hB⟩ hK
  have HN := Lib.hid (Vz.numbers_bad s.data.toList x (hpre.subset hx) hxb)
  clear hx hxb
  gi_wp2
  refine ⟨by simp, .inl ⟨_, _, rfl, run_takeDeferred hK, ?_⟩⟩
  have hh := grownBy_putObj' W D (.deferred none)
  have e0 := (boxed_keptC b0 hh (D := 0) (fun r e => by cases e; exact ⟨Nat.zero_le _, _, hK, rfl⟩)).cell
  have e1 := (boxed_keptC b1 hh (D := 0) (fun r e => by cases e; exact ⟨Nat.zero_le _, _, hK, rfl⟩)).cell
  refine ⟨.tuple #[.slice none 0 0, .bool false], by simp [results, Tryz.results89, go_sem, e0, e1], .slice none 0 0, by rw [HN.out], ?_, hB.grown hh hB.size (fun k e => by cases e; simp at hD; omega)⟩
  rw [HN.out]
  exact World.ownsRow_nil _ _ _ _
theorem numbers_any (s : ByteArray) (hs : s.size ≤ 4000000) (w : World) :
 Calls Tryz.prog 89 #[.string s] w fun e W' => ∃ v, e = .returned (.tuple #[v, .bool (Vz.numbers s.data.toList).2]) ∧
  W'.ownsRow w.heap.size 3 1 v (Vz.numbers s.data.toList).1.length ((Vz.numbers s.data.toList).1.map (Value.int .i64)) ∧ Below w.heap.size w W' :=
 callsIn_wide.1 (numbers_in 3 (Nat.le_refl _) s hs w)
end
end Go.Proofs.YtmgeghoalmonoaaGreatDoor
