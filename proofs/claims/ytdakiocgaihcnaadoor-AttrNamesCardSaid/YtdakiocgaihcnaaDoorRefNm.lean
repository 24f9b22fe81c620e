/- Walks: vizardref03.word, Fore, Back, Names. -/
import Derived.Test.YtdakiocgaihcnaaDoorKeeps
import Derived.Test.YtdakiocgaihcnaaDoorParsePlain
import Derived.Deep.RegionWith
import Derived.Deep.DeepCutAuto
namespace Vz
def catC (l : List (List UInt8)) : List UInt8 := l.flatMap fun w => 44 :: w
theorem catC_snoc (l : List (List UInt8)) (w : List UInt8) : catC (l ++ [w]) = catC l ++ 44 :: w := by unfold catC; simp
theorem catC_len : ∀ l : List (List UInt8), (∀ w ∈ l, w.length ≤ 7) → (catC l).length ≤ 8 * l.length
  | [], _ => by simp [catC]
  | x :: r, h => by
    have ih := catC_len r (fun w hw => h w (List.mem_cons_of_mem _ hw))
    have := h x (by simp)
    unfold catC at ih ⊢
    simp only [List.flatMap_cons, List.length_append, List.length_cons]
    omega
theorem join_cat : ∀ l : List (List UInt8), joinC l = (catC l).drop 1
  | [] => rfl
  | [x] => by simp [joinC, catC]
  | x :: y :: r => by
    have ih := join_cat (y :: r)
    rw [joinC, ih]
    simp [catC]
theorem catC_nil (l : List (List UInt8)) : catC l = [] ↔ l = [] := by
  cases l with
  | nil => simp [catC]
  | cons x r => simp [catC]
end Vz
namespace Go.Proofs.YtdakiocgaihcnaaDoor
open Go.RowKit

theorem word_any (k : Nat) (hk : k < 6) (w : World) :
    Calls Tryd.prog 30 #[.int .i64 ((2 ^ k : Nat) : Int)] w fun e w' => e = .returned (.string ⟨(Vz.wordAt k).toArray⟩) ∧ w = w' := by
  obtain rfl | rfl | rfl | rfl | rfl | rfl : k = 0 ∨ k = 1 ∨ k = 2 ∨ k = 3 ∨ k = 4 ∨ k = 5 := by omega
  all_goals
    go_enter Tryd.func30, Tryd.ntmps30
    go_wp2
    go_ret
    exact ⟨rfl, rfl⟩
theorem fore_any (n : Nat) (hn : n < 16384) (w : World) :
    Calls Tryd.prog 26 #[.int .i64 n] w fun e w' => e = .returned (.int .i64 ((n / 256 % 8 : Nat) : Int)) ∧ w = w' := by
  go_enter Tryd.func26, Tryd.ntmps26
  go_wp2
  go_ret
  exact ⟨ret1 (by simp), rfl⟩
theorem back_any (n : Nat) (hn : n < 16384) (w : World) :
    Calls Tryd.prog 27 #[.int .i64 n] w fun e w' => e = .returned (.int .i64 ((n / 2048 % 8 : Nat) : Int)) ∧ w = w' := by
  go_enter Tryd.func27, Tryd.ntmps27
  go_wp2
  go_ret
  exact ⟨ret1 (by simp), rfl⟩

def catB (n k : Nat) : ByteArray := ⟨(Vz.catC (Vz.wordsK n k)).toArray⟩
theorem catB_size (n k : Nat) : (catB n k).size ≤ 8 * k := by
  have h1 := Vz.catC_len _ (Vz.wordsK_each n k)
  have h2 := Vz.wordsK_len n k
  show (Vz.catC (Vz.wordsK n k)).toArray.size ≤ _
  simp only [List.size_toArray]
  omega
theorem catB_yes (n k : Nat) (h : n / 2 ^ k % 2 = 1) : catB n (k + 1) = catB n k ++ ⟨#[44]⟩ ++ ⟨(Vz.wordAt k).toArray⟩ := by
  unfold catB
  rw [show Vz.wordsK n (k + 1) = Vz.wordsK n k ++ [Vz.wordAt k] by simp only [Vz.wordsK, h, if_true], Vz.catC_snoc]
  rw [show (⟨#[44]⟩ : ByteArray) = ⟨[44].toArray⟩ from rfl, bytes_cat, bytes_cat]
  simp
theorem catB_no (n k : Nat) (h : ¬ n / 2 ^ k % 2 = 1) : catB n (k + 1) = catB n k := by
  unfold catB
  rw [show Vz.wordsK n (k + 1) = Vz.wordsK n k by simp only [Vz.wordsK, h, if_false]]

theorem conv_row (W : World) (b c : Nat) (v : Int) (fr : Nat × Nat) (hc : c ≤ 9) (hv : v = 48 + (c : Int)) (hg : W.heap[b]? = some (.cells #[.int .u8 v] 5 fr)) :
    Sem.run Tryd.prog (convert 50 9 (.slice (some ⟨b, 0, none⟩) 1 1)) W = .ok (.string ⟨(Vz.digitB1 c).toArray⟩) W := by
  refine run_convert_bytes_back (P := Tryd.prog) W _ _ _ ⟨b, 0, none⟩ 1 (Vz.digitB1 c) Tryd.underlying50 Tryd.underlying5 Tryd.underlying9 fun j hj => ?_
  obtain rfl : j = 0 := by simp [Vz.digitB1] at hj; omega
  have : W.cell? ⟨b, 0, none⟩ = some (.int .u8 v) := by
    rw [cell_of_row _ b 0 _ _ _ hg]; rfl
  show World.cell? _ (Addr.add ⟨b, 0, none⟩ 0) = _
  rw [show Addr.add ⟨b, 0, none⟩ 0 = ⟨b, 0, none⟩ from rfl, this, hv]
  simp [Vz.digitB1]
  omega
theorem row_1 (W : World) (o : Obj) : (W.alloc o).heap[W.heap.size]? = some o := by
  show (W.heap.push _)[W.heap.size]? = _
  simp
theorem row_2a (W : World) (o o' : Obj) : ((W.alloc o).alloc o').heap[W.heap.size]? = some o := by
  show ((W.heap.push _).push _)[W.heap.size]? = _
  rw [Array.getElem?_push_lt (by simp), ← Array.getElem?_eq_getElem]
  simp
theorem row_2b (W : World) (o o' : Obj) : ((W.alloc o).alloc o').heap[W.heap.size + 1]? = some o' := by
  show ((W.heap.push _).push _)[W.heap.size + 1]? = _
  rw [show W.heap.size + 1 = (W.heap.push o).size by simp]
  exact Array.getElem?_push_size

theorem tail_eq (S : ByteArray) (l : List (List UInt8)) (h : S.toList = Vz.catC l) : (⟨(Vz.joinC l).toArray⟩ : ByteArray) = S.extract 1 S.size := by
  have h1 : (S.extract 1 S.size).data.toList = Vz.joinC l := by
    rw [Lib.extract_to_end, ← ByteArray.toList_eq, h, Vz.join_cat]
  rw [← h1]

end Go.Proofs.YtdakiocgaihcnaaDoor
