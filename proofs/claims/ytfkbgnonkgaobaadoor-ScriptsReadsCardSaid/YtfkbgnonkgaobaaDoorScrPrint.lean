/- Walks: Print of scripts, awake of vizardlaw23. -/
import Derived.Test.YtfkbgnonkgaobaaDoorScrText
import Derived.Test.YtfkbgnonkgaobaaDoorScrFew
namespace Go.Proofs.YtfkbgnonkgaobaaDoor
open Go.RowKit
set_option linter.unusedSimpArgs false
set_option linter.unusedVariables false

def linesL (L : List Vz.Stp) : List UInt8 := L.flatMap Vz.Stp.line
theorem linesL_snoc (L : List Vz.Stp) (x : Vz.Stp) : linesL (L ++ [x]) = linesL L ++ x.line := by unfold linesL; simp
theorem linesL_len (L : List Vz.Stp) (hr : ∀ x ∈ L, x.right = true) (ht : ∀ x ∈ L, x.text.length ≤ 100) : (linesL L).length ≤ 240 * L.length := by
  induction L with
  | nil => simp [linesL]
  | cons x r ih =>
    have h1 := ih (fun y hy => hr y (by simp [hy])) (fun y hy => ht y (by simp [hy]))
    have h2 := Vz.Stp.line_len x (hr x (by simp))
    have h3 := ht x (by simp)
    unfold linesL at h1 ⊢
    simp only [List.flatMap_cons, List.length_append, List.length_cons]
    omega
theorem isBuilder_below {B b : Nat} {bs : List Value} {W W' : World} (h : Lib.IsBuilder 54 5 B b bs W) (hb : Below W.heap.size W W') : Lib.IsBuilder 54 5 B b bs W' := by
  have key : ∀ p, Lib.BuilderAt 54 5 B b p bs W → Lib.BuilderAt 54 5 B b p bs W' := by
    intro p hp
    have hlt := hp.lt
    obtain ⟨h0, v, hg, hown, hne⟩ := hp
    exact ⟨h0, v, (hb.block _ hlt).trans hg, ownsRow_keep hown hb, hne⟩
  exact h.imp (key _) (key _)
theorem byteCells_app (l : List UInt8) (l' : List UInt8) : Lib.byteCells l ++ Lib.strCells ⟨l'.toArray⟩ = Lib.byteCells (l ++ l') := by
  simp [Lib.byteCells, Lib.strCells]
/-- What Print answers. -/
def printV (L : List Vz.Stp) : Value := if L.all Vz.Stp.right then .tuple #[.string ⟨(linesL L).toArray⟩, .int .i64 0] else .tuple #[.string ⟨#[]⟩, .int .i64 1]
theorem getD_mem {L : List Vz.Stp} {k : Nat} (hk : k < L.length) : L[k]?.getD Vz.Stp.nil ∈ L := by
  rw [List.getElem?_eq_getElem hk]
  exact List.getElem_mem hk

set_option maxRecDepth 100000 in
set_option maxHeartbeats 4000000 in
theorem print_gen (A : Option Addr) (m c : Nat) (L : List Vz.Stp) (w : World) (hI : Steps w.heap.size w A m L) (hm : m ≤ 10000) (ht : ∀ x ∈ L, x.text.length ≤ 1000) (hl : ∀ k, (∀ x ∈ L.take k, x.right = true) → (linesL (L.take k)).length ≤ 20000) (hp : PowTab w) :
    Calls Tryd.prog 13 #[.slice A m c] w fun e w' => e = .returned (printV L) ∧ Below w.heap.size w w' := by
  have HI := Lib.hid hI
  have HT := Lib.hid ht
  have HP := Lib.hid hp
  have HLL := Lib.hid hl
  have HML : Hid (m = L.length) := hI.1
  have HC := Lib.hid check_any
  have HLN := Lib.hid line_any
  have HWR := Lib.hid write_any
  have HST := Lib.hid Tryd.Builder_String_any
  have hB0 : Below w.heap.size w (w.alloc (.cells #[.pointer none, .slice none 0 0] 54)) := (Below.refl _ _).alloc (Nat.le_refl _) _
  have hbl0 := Lib.fresh_isBuilder 54 5 w
  have HB0 := Lib.hid hB0
  have HBL0 := Lib.hid hbl0
  clear hI ht hp hl hB0 hbl0
  go_enter Tryd.func13, Tryd.ntmps13
  go_wp2_with fail
  go_loopw [10] (fun i wr => ∃ k : Nat, k ≤ m ∧ i = .int .i64 k ∧ (∀ x ∈ L.take k, x.right = true) ∧ Lib.IsBuilder 54 5 w.heap.size w.heap.size (Lib.byteCells (linesL (L.take k))) wr ∧ Below w.heap.size w wr) (fun i _ => m - (intOf i).toNat)
  case atStart => exact ⟨0, Nat.zero_le _, rfl, fun x hx => by simp at hx, HBL0.out, HB0.out⟩
  case round =>
    obtain ⟨k, hk, rfl, hr, hbl, hB⟩ := hrel
    have HR := Lib.hid hr
    have HBL := Lib.hid hbl
    clear hr hbl
    by_cases hlt : k < m
    · obtain ⟨b, o, rfl, hbB, hx⟩ := (HI.out.below hB (Nat.le_refl _)).at_ hlt
      have hkL : k < L.length := by have := HML.out; omega
      have htk : L.take (k + 1) = L.take k ++ [L[k]?.getD Vz.Stp.nil] := by rw [List.take_add_one, List.getElem?_eq_getElem hkL]; rfl
      have hxt := HT.out _ (getD_mem hkL)
      have hxm := getD_mem hkL
      generalize L[k]?.getD Vz.Stp.nil = x at hx htk hxt hxm
      have HTK := Lib.hid htk
      have HXT := Lib.hid hxt
      have HXM := Lib.hid hxm
      obtain ⟨h0, h1, h2, h3, h4, h5, h6, h7, h8⟩ := hx
      have HCX := Lib.hid (HC.out x)
      unfold stpV at HCX
      have hBs := hB.size
      clear htk hxt hxm hkL
      have hbA : Below wr.heap.size wr (wr.alloc (.cells #[.int .i64 x.d, .string ⟨x.text.toArray⟩, .int .i64 x.kind, .int .i64 x.code, .bool x.shift, .bool x.ctrl, .int .i64 x.rows, .int .i64 x.cols, .int .i64 x.to] 33)) := (Below.refl _ _).alloc (Nat.le_refl _) _
      have HBA := Lib.hid hbA
      clear hbA
      cases hxr : x.right with
      | false =>
        rw [hxr] at HCX
        have HXR := Lib.hid hxr
        clear hxr
        go_wp2_with (go_at_call 11; refine (HCX.out _).mono ?_; rintro e w1 ⟨rfl, hb1⟩; simp only [Bool.false_eq_true, if_false])
        go_ret2
        refine ⟨?_, below_join (below_join hB HBA.out) hb1⟩
        have : L.all Vz.Stp.right = false := by
          rw [List.all_eq_false]
          exact ⟨x, HXM.out, by rw [HXR.out]; decide⟩
        unfold printV
        rw [this]
        rfl
      | true =>
        rw [hxr] at HCX
        have HLX := Lib.hid (HLN.out x hxr HXT.out)
        unfold stpV at HLX
        have HXR := Lib.hid hxr
        have hll := Vz.Stp.line_len x hxr
        have hsz : (⟨x.line.toArray⟩ : ByteArray).size ≤ 3000 := by show x.line.toArray.size ≤ 3000; simp; have := HXT.out; omega
        have hcl : (Lib.byteCells (linesL (L.take k))).length ≤ 20000 := by
          rw [Lib.byteCells_length]
          exact HLL.out k HR.out
        have HSZ := Lib.hid hsz
        have HCL := Lib.hid hcl
        clear hxr hll hcl
        go_wp2_with (first
          | (go_at_call 11; refine (HCX.out _).mono ?_; rintro e w1 ⟨rfl, hb1⟩; simp only [if_true]; have hc0 := fun (p : Addr) (hp : p.block < wr.heap.size + 1) => hb1.cell (p := p) (by simpa using hp))
          | (go_at_call 22; refine (HLX.out _ (HP.out.below (below_join (below_join hB HBA.out) hb1))).mono ?_; rintro e w2 ⟨rfl, hb2⟩; have hbw := below_join (below_join HBA.out hb1) hb2)
          | (go_at_call 21; refine (HWR.out w.heap.size w.heap.size _ _ _ (isBuilder_below HBL.out hbw) ?hlen ?hbw).mono ?_; (case hlen => have := HSZ.out; have := HCL.out; omega); (case hbw => exact Nat.le_trans hBs hbw.size); rintro e w3 ⟨⟨u, rfl⟩, hb3, hb4⟩))
        refine ⟨⟨k + 1, by omega, by go_num, ?_, ?_, (hB.trans (hbw.mono hBs)).trans hb4⟩, by simp [intOf]; omega⟩
        · intro y hy
          rw [HTK.out] at hy
          rcases List.mem_append.1 hy with h | h
          · exact HR.out y h
          · rw [List.mem_singleton.1 h]; exact HXR.out
        · rw [HTK.out, linesL_snoc, ← byteCells_app]
          exact .inr hb3
    · obtain rfl : k = m := by omega
      have HSS := Lib.hid (HST.out w.heap.size w.heap.size (linesL L) wr (by have := HBL.out; rw [List.take_of_length_le (by have := HML.out; omega)] at this; exact this) hB.size)
      go_wp2_with (go_at_call 23; refine HSS.out.mono ?_; rintro e w1 ⟨rfl, hb1⟩)
      go_ret2
      refine ⟨?_, hB.trans hb1⟩
      have : L.all Vz.Stp.right = true := by
        rw [List.all_eq_true]
        intro x hx
        exact HR.out x (by rw [List.take_of_length_le (by have := HML.out; omega)]; exact hx)
      unfold printV
      rw [this]
      rfl
theorem print_any (A : Option Addr) (m c : Nat) (L : List Vz.Stp) (w : World) (hI : Steps w.heap.size w A m L) (hm : m ≤ 30) (ht : ∀ x ∈ L, x.text.length ≤ 100) (hp : PowTab w) :
    Calls Tryd.prog 13 #[.slice A m c] w fun e w' => e = .returned (printV L) ∧ Below w.heap.size w w' := by
  refine print_gen A m c L w hI (by omega) (fun x hx => Nat.le_trans (ht x hx) (by omega)) (fun k hk => ?_) hp
  have h9 := linesL_len (L.take k) hk (fun y hy => ht y (List.mem_of_mem_take hy))
  have h8 : (L.take k).length ≤ 30 := by have := hI.1; rw [List.length_take]; omega
  omega

def awakeL : List Vz.Stp := [⟨1, [97, 98], 0, 0, false, false, 0, 0, 0⟩, ⟨6, [], 0, 0, false, false, 0, 0, 2⟩]
theorem awakeV : printV awakeL = .tuple #[.string ⟨#[102, 101, 101, 100, 32, 54, 49, 54, 50, 10, 115, 119, 105, 116, 99, 104, 32, 50, 10]⟩, .int .i64 0] := by
  unfold printV
  have h : awakeL.all Vz.Stp.right = true := by decide +kernel
  have h2 : linesL awakeL = [102, 101, 101, 100, 32, 54, 49, 54, 50, 10, 115, 119, 105, 116, 99, 104, 32, 50, 10] := by decide +kernel
  rw [h, h2]
  rfl
theorem steps_awake (w : World) : Steps (w.alloc (.cells #[.int .i64 1, .string ⟨#[97, 98]⟩, .int .i64 0, .int .i64 0, .bool false, .bool false, .int .i64 0, .int .i64 0, .int .i64 0, .int .i64 6, .string ⟨#[]⟩, .int .i64 0, .int .i64 0, .bool false, .bool false, .int .i64 0, .int .i64 0, .int .i64 2] 33)).heap.size (w.alloc (.cells #[.int .i64 1, .string ⟨#[97, 98]⟩, .int .i64 0, .int .i64 0, .bool false, .bool false, .int .i64 0, .int .i64 0, .int .i64 0, .int .i64 6, .string ⟨#[]⟩, .int .i64 0, .int .i64 0, .bool false, .bool false, .int .i64 0, .int .i64 0, .int .i64 2] 33)) (some ⟨w.heap.size, 0, none⟩) 2 awakeL := by
  refine ⟨rfl, fun _ => ⟨w.heap.size, 0, rfl, by simp, fun i hi => ?_⟩⟩
  have hg := box_new w (.cells #[.int .i64 1, .string ⟨#[97, 98]⟩, .int .i64 0, .int .i64 0, .bool false, .bool false, .int .i64 0, .int .i64 0, .int .i64 0, .int .i64 6, .string ⟨#[]⟩, .int .i64 0, .int .i64 0, .bool false, .bool false, .int .i64 0, .int .i64 0, .int .i64 2] 33)
  obtain rfl | rfl : i = 0 ∨ i = 1 := by omega
  all_goals
    refine ⟨?_, ?_, ?_, ?_, ?_, ?_, ?_, ?_, ?_⟩
    all_goals (rw [cell_of_row _ _ _ _ _ _ hg]; rfl)

set_option maxHeartbeats 1000000 in
theorem awake_any (w : World) (hp : PowTab w) : Calls Tryd.prog 8 #[] w fun e w' => e = .returned (.bool true) ∧ Below w.heap.size w w' := by
  have hA := steps_awake w
  have hb : Below w.heap.size w (w.alloc (.cells #[.int .i64 1, .string ⟨#[97, 98]⟩, .int .i64 0, .int .i64 0, .bool false, .bool false, .int .i64 0, .int .i64 0, .int .i64 0, .int .i64 6, .string ⟨#[]⟩, .int .i64 0, .int .i64 0, .bool false, .bool false, .int .i64 0, .int .i64 0, .int .i64 2] 33)) := (Below.refl _ _).alloc (Nat.le_refl _) _
  have h := print_any _ 2 2 awakeL _ hA (by omega) (by decide +kernel) (hp.below hb)
  rw [awakeV] at h
  have H := Lib.hid h
  have HB := Lib.hid hb
  clear h hA hb hp
  go_enter Tryd.func8, Tryd.ntmps8
  go_wp2_with (go_at_call 13; refine H.out.mono ?_; rintro e w1 ⟨rfl, hb1⟩)
  go_ret
  exact ⟨rfl, below_join HB.out hb1⟩
end Go.Proofs.YtfkbgnonkgaobaaDoor
