/- Walks: sgr.Text. -/
import Derived.Test.YtjfnmjgfbkcaaaaDoorSgrAwake
import Derived.Test.YtjfnmjgfbkcaaaaDoorTextPlain
import Derived.Test.YtjfnmjgfbkcaaaaDoorRows
import Derived.Lib.LaidTab
namespace Go.Proofs.YtjfnmjgfbkcaaaaDoor
open Go.RowKit

/-- The table of powers of ten lies there. -/
def PowTab (w : World) : Prop := Lib.TabIs Tryd.prog w "internal/strconv.uint64pow10" .u64 Lib.pow10Tab
theorem gPow : Tryd.prog.globalNamed "internal/strconv.uint64pow10" = some 0 := by kernel_rfl
theorem PowTab.lt {w : World} (h : PowTab w) : 0 < w.heap.size := by
  unfold PowTab Lib.TabIs World.var? at h
  rw [gPow] at h
  simp only [Option.bind_some] at h
  split at h
  · rename_i hh; exact (Array.getElem?_eq_some_iff.1 hh).1
  · cases h
theorem PowTab.below {w w' : World} (h : PowTab w) (hb : Below w.heap.size w w') : PowTab w' := var?_below hb gPow h.lt h
theorem tPow : (Tryd.prog.globals[0]?).map (·.type) = some 99 := by kernel_rfl
theorem tab_laid {x y : String × DataW Unit} {W : World} (h : laidMet Tryd.prog [x, y, ("internal/strconv.uint64pow10", Rows.laid_internal_strconv_uint64pow10)] W) : PowTab W := by
  obtain ⟨ps0, ⟨_, _, _, _, _, _, _, _, _, _, ⟨_, _, _, _, _, _, _, _, _, _, ⟨g', t', cs, fuel, p, q, hg', ht', hvar, hd, _, _⟩, _⟩, _⟩, _⟩ := h
  obtain rfl := Option.some.inj (tPow.symm.trans (by rw [← Option.some.inj (gPow.symm.trans hg')] at ht'; exact ht'))
  unfold PowTab Lib.TabIs
  rw [hvar, ← Lib.cells_of_tab (k := .u64) (zs := Lib.pow10Tab) Tryd.underlying99 Tryd.underlying89 (by kernel_rfl) (by kernel_rfl) hd]
theorem below_grow0 (w : World) (k : Nat) (os : Array Obj) : Below w.heap.size w (Go.Sort.grow (w.drewN k) os) := by
  refine ⟨rfl, rfl, rfl, ?_, fun i hi => ?_⟩
  · show w.heap.size ≤ (w.heap ++ os).size
    simp
  · show (w.heap ++ os)[i]? = w.heap[i]?
    rw [Array.getElem?_append_left hi]

theorem infoStr : (Tryd.prog.info? 9).map (fun i => (i.zero, i.size, i.bytes)) = some (some (.string ⟨#[]⟩), 1, 16) := by kernel_rfl
def strsV (l : List (List UInt8)) : List Value := l.map fun x => Value.string ⟨x.toArray⟩
def digsL (l : List Int) : List (List UInt8) := l.map fun x => Vz.digN (Vz.clipN x)
theorem itoa_clip (x : Int) (w : World) (h : PowTab w) :
    Calls Tryd.prog 28 #[.int .i64 (Vz.clipN x)] w fun e w' => e = .returned (.string ⟨(Vz.digN (Vz.clipN x)).toArray⟩) ∧ Below w.heap.size w w' := by
  have hc := Vz.clipN_le x
  refine (Tryd.strconv_Itoa (Vz.clipN x) (by omega) (by omega) w h).mono ?_
  rintro e w' ⟨rfl, k, os, rfl⟩
  rw [Lib.itoa_nonneg]
  exact ⟨rfl, below_grow0 w k os⟩

theorem join_semi (w : World) (base : Nat) (v : Value) (l : List Int) (hown : w.ownsRow base 9 1 v l.length (strsV (digsL l))) (hne : 0 < l.length) (hn : l.length ≤ 1000) :
    Calls Tryd.prog 29 #[v, .string ⟨#[59]⟩] w fun e w' => e = .returned (.string ⟨(Vz.semi l).toArray⟩) ∧ Below w.heap.size w w' := by
  rcases hown.2 with ⟨_, h0⟩ | ⟨g, cap, cur, rfl, _, hg, hcap, _⟩
  · omega
  have hlt : g < w.heap.size := (Array.getElem?_eq_some_iff.1 hg).1
  have hd : (((digsL l).map fun x => (⟨x.toArray⟩ : ByteArray)).map (·.data.toList)) = digsL l := by
    rw [List.map_map]
    have : ((fun x : ByteArray => x.data.toList) ∘ fun x : List UInt8 => (⟨x.toArray⟩ : ByteArray)) = id := by funext x; simp
    rw [this, List.map_id]
  have hll : (digsL l).length = l.length := by unfold digsL; rw [List.length_map]
  have hsl := Vz.semi_len l
  have hjs : Lib.join (digsL l) [59] = Vz.semi l := Vz.join_semi l
  have h := Tryd.strings_Join g 0 cap ((digsL l).map fun x => ⟨x.toArray⟩) ⟨#[59]⟩ w (fun j x hx => by
    have hc := hown.cells (g := g) rfl j (.string x) (by
      simp only [strsV, List.getElem?_map, Option.map_eq_some_iff] at hx ⊢
      obtain ⟨y, h1, h2⟩ := hx
      exact ⟨y, h1, by rw [h2]⟩)
    rw [← hc]
    congr 1
    unfold Addr.add
    split <;> simp_all) hlt (by rw [List.length_map]; omega) (by rw [List.length_map, hll]; exact hcap) (by rw [hd]; show (Lib.join (digsL l) [59]).length ≤ _; rw [hjs]; omega)
  rw [List.length_map, hd, hll] at h
  rw [show Lib.join (digsL l) (⟨#[59]⟩ : ByteArray).data.toList = Vz.semi l from hjs] at h
  exact h

set_option maxRecDepth 100000 in
set_option maxHeartbeats 400000 in
theorem text_any (B : Nat) (A : Option Addr) (m c : Nat) (L : List Int) (hm : m ≤ 100) (w : World) (hI : Ints B w A m L) (hBw : B ≤ w.heap.size) (ht : PowTab w) :
    Calls Tryd.prog 18 #[.slice A m c] w fun e w' => e = .returned (.string ⟨(Vz.textL L).toArray⟩) ∧ Below w.heap.size w w' := by
  obtain ⟨i0, hi, hz0, hz1, hz2⟩ := info_parts infoStr
  have HT := Lib.hid ht
  have HI := Lib.hid hI
  have HIT := Lib.hid itoa_clip
  clear ht hI
  go_enter Tryd.func18, Tryd.ntmps18
  go_wp2_with fail
  go_loopw [3, 8] (fun v i wr => ∃ k : Nat, k ≤ m ∧ i = .int .i64 k ∧ wr.ownsRow w.heap.size 9 1 v k (strsV (digsL (L.take k))) ∧ Below w.heap.size w wr) (fun _ i _ => m - (intOf i).toNat)
  case atStart => exact ⟨0, Nat.zero_le _, rfl, World.ownsRow_nil _ _ _ _, Below.refl _ _⟩
  case round =>
    obtain ⟨k, hk, rfl, hown, hB⟩ := hrel
    by_cases hlt : k < m
    · obtain ⟨b, o, rfl, hc⟩ := (HI.out.below hB hBw).at_ hlt
      have hkL : k < L.length := by have := HI.out.1; omega
      have hL : L.take (k + 1) = L.take k ++ [L[k]?.getD 0] := by rw [List.take_add_one, List.getElem?_eq_getElem hkL]; rfl
      generalize L[k]?.getD 0 = x at hc hL
      have hcx := Vz.clipN_int x
      have HX := HIT.out x
      have HL := Lib.hid hL
      have HL2 : Hid (digsL (L.take k ++ [x]) = digsL (L.take k) ++ [Vz.digN (Vz.clipN x)]) := by show _ = _; unfold digsL; simp
      have hmx : k + 1 ≤ maxLen := by unfold maxLen; omega
      have HOW := Lib.hid hown
      obtain ⟨va, vc, rfl⟩ := ownsRow_sl hown
      have H1 := Lib.hid (HX wr (HT.out.below hB))
      clear hown hL hkL HX
      have hd5 := Vz.digN_len (Vz.clipN x) (Vz.clipN_le x)
      generalize Vz.clipN x = y at hcx H1 HL2 hd5
      generalize hD : (⟨(Vz.digN y).toArray⟩ : ByteArray) = D at H1
      have HD := Lib.hid hD
      clear hD hd5
      go_wp2_with fail
      refine H1.out.mono ?_
      rintro e w2 ⟨rfl, hb2⟩
      have o2 := ownsRow_keep HOW.out hb2
      have hB2 := below_join hB hb2
      go_wp2_with (at_builtin; refine wpList_append_own _ rfl _ _ 62 rfl w.heap.size 9 i0 (.string ⟨#[]⟩) 1 16 Tryd.underlying62 hi hz0 hz1 hz2 rfl (by decide) _ _ _ rfl (o2.alloc _) ⟨w2.heap.size, 0, none⟩ 1 1 [.string D] rfl rfl (cell_one_new _ _ _) (by simp [Value.oneCell']) hmx (by omega) (by have := hB2.size; simp; omega) ?_; intro v' w3 hown' hgrow _)
      exact ⟨⟨k + 1, by omega, by go_num, by rw [HL.out, HL2.out, show strsV (digsL (L.take k) ++ [Vz.digN y]) = strsV (digsL (L.take k)) ++ [.string D] by rw [← HD.out]; simp [strsV]]; exact hown', (hB2.alloc hB2.size _).grown hgrow (by have := hB2.size; simp; omega) (fun j e => ownsRow_bs HOW.out e)⟩, by simp [intOf]; omega⟩
    · obtain rfl : k = m := by omega
      have hkL : k = L.length := HI.out.1
      rw [List.take_of_length_le (by omega)] at hown
      by_cases hz : k = 0
      · have hL : L = [] := List.length_eq_zero_iff.1 (by omega)
        subst hL
        subst hz
        obtain ⟨va, vc, rfl⟩ := ownsRow_sl hown
        have HJ := Lib.hid (Tryd.strings_Join_none va vc ⟨#[59]⟩ wr)
        clear hown hkL hlt hk HT HIT
        go_wp2_with fail
        refine HJ.out.mono ?_
        rintro e w2 ⟨rfl, rfl⟩
        go_wp2_with fail
        go_ret
        exact ⟨rfl, hB⟩
      · subst hkL
        obtain ⟨va, vc, rfl⟩ := ownsRow_sl hown
        have HJ := Lib.hid (join_semi wr w.heap.size _ L hown (by omega) (by omega))
        have hsl := Vz.semi_len L
        have hss : (⟨(Vz.semi L).toArray⟩ : ByteArray).size ≤ 600 := by show (Vz.semi L).toArray.size ≤ 600; simp; omega
        have HTX : Hid (⟨#[27, 91]⟩ ++ (⟨(Vz.semi L).toArray⟩ : ByteArray) ++ ⟨#[109]⟩ = ⟨(Vz.textL L).toArray⟩) := by
          show _ = _
          apply ByteArray.ext
          rw [ByteArray.data_append, ByteArray.data_append]
          unfold Vz.textL
          simp
        generalize (⟨(Vz.semi L).toArray⟩ : ByteArray) = S at HJ hss HTX
        clear hsl hown
        go_wp2_with fail
        refine HJ.out.mono ?_
        rintro e w2 ⟨rfl, hb2⟩
        go_wp2_with fail
        go_ret
        exact ⟨ret1 (by rw [← HTX.out]; rfl), below_join hB hb2⟩
end Go.Proofs.YtjfnmjgfbkcaaaaDoor
