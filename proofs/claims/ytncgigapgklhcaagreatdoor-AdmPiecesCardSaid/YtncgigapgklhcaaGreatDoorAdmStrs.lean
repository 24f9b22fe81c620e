import Derived.Test.YtncgigapgklhcaaGreatDoorAdmFew
import Derived.SliceStrings

/- A parameter that is a slice of texts: what the row's reading gives; texts one behind the other. -/
namespace Go.Proofs.YtncgigapgklhcaaGreatDoor
open Go.RowKit Go.ChangeShapes Go.WideShapes
set_option linter.unusedSimpArgs false
set_option linter.unusedVariables false

/-- A slice of texts that reads as a list. -/
def Strs (B : Nat) (W : World) (A : Option Addr) (n : Nat) (L : List (List UInt8)) : Prop :=
  0 < n → ∃ b o, A = some ⟨b, o, none⟩ ∧ b < B ∧ ∀ i, i < n → W.cell? ⟨b, o + i, none⟩ = some (.string ⟨(L.getD i []).toArray⟩)
theorem Strs.below {B B' : Nat} {W W' : World} {A : Option Addr} {n : Nat} {L : List (List UInt8)} (h : Strs B W A n L) (hb : Below B' W W') (hB : B ≤ B') : Strs B W' A n L := fun h0 => by
  obtain ⟨b, o, rfl, hlt, hi⟩ := h h0
  exact ⟨b, o, rfl, hlt, fun i hh => (hb.cell (show b < B' by omega)).trans (hi i hh)⟩
theorem Strs.at_ {B : Nat} {W : World} {A : Option Addr} {n : Nat} {L : List (List UInt8)} (h : Strs B W A n L) {k : Nat} (hk : k < n) : ∃ b o, A = some ⟨b, o, none⟩ ∧ b < B ∧ W.cell? ⟨b, o + k, none⟩ = some (.string ⟨(L.getD k []).toArray⟩) := by
  obtain ⟨b, o, rfl, hlt, hi⟩ := h (by omega)
  exact ⟨b, o, rfl, hlt, hi k hk⟩
theorem ba_list (s : ByteArray) : (⟨s.data.toList.toArray⟩ : ByteArray) = s := by cases s; simp
theorem ba_append (a b : List UInt8) : ((⟨a.toArray⟩ : ByteArray) ++ (⟨b.toArray⟩ : ByteArray)) = ⟨(a ++ b).toArray⟩ := by
  apply ByteArray.ext
  simp [ByteArray.data_append]
theorem ba_size (a : List UInt8) : (⟨a.toArray⟩ : ByteArray).size = a.length := by
  simp [ByteArray.size]
section
variable {H : Type} {enc : TypeId × Value → H} {w : World} {base : Nat} {spare : Nat → Bool} {held : Bool}
theorem open_strs {fuel : Nat} {A : Option Addr} {m c : Nat} {x : DataW H × List MemPlace} (h : DataW.trod enc Tryz.prog w base spare held fuel 49 [.slice A m c] = some x) : m ≤ maxLen ∧ ∃ L, Strs w.heap.size w A m L := by
  rcases open_strings Tryz.underlying49 Tryz.underlying9 (by kernel_rfl) h with ⟨h0, _⟩ | ⟨a, len, cap, ss, h0, -, hl, hm, hz, -, hcell, -⟩
  · simp only [List.cons.injEq, and_true, Value.slice.injEq] at h0
    obtain ⟨rfl, rfl, rfl⟩ := h0
    exact ⟨Nat.zero_le _, [], fun h => absurd h (by decide)⟩
  · simp only [List.cons.injEq, and_true, Value.slice.injEq] at h0
    obtain ⟨rfl, rfl, rfl⟩ := h0
    have hmm : m ≤ ss.length := by rw [hz]; split <;> omega
    refine ⟨Nat.le_trans hl hm, ss.map (fun s => s.data.toList), fun h0 => ?_⟩
    have h1 := hcell 0 (by omega)
    have hs : a.spot = none := by
      have h2 : w.cell? a = some (.string (ss.getD 0 ByteArray.empty)) := by simpa [Addr.add] using h1
      unfold World.cell? at h2
      split at h2
      · split at h2
        · cases h2
        · rename_i hn; simpa using hn
      · cases h2
    have hlt : a.block < w.heap.size := by
      have h2 : w.cell? a = some (.string (ss.getD 0 ByteArray.empty)) := by simpa [Addr.add] using h1
      exact World.block_lt_of_cell? w a h2
    refine ⟨a.block, a.off, by cases a; simp_all, hlt, fun i hh => ?_⟩
    have hi := hcell i (by omega)
    have hadd : a.add i = ⟨a.block, a.off + i, none⟩ := by
      unfold Addr.add
      split
      · rename_i h9
        rw [show i = 0 by omega]
        obtain ⟨ab, ao, asp⟩ := a
        simp only at hs
        rw [hs]
        rfl
      · rfl
    rw [hadd] at hi
    rw [hi]
    have hg : (ss.map (fun s => s.data.toList)).getD i [] = (ss.getD i ByteArray.empty).data.toList := by
      have hlt' : i < ss.length := by omega
      simp [List.getD, List.getElem?_eq_getElem hlt']
    rw [hg, ba_list]
end
/-- The first k texts, one behind the other. -/
def catL (L : List (List UInt8)) : Nat → List UInt8
  | 0 => []
  | k + 1 => catL L k ++ L.getD k []
end Go.Proofs.YtncgigapgklhcaaGreatDoor
