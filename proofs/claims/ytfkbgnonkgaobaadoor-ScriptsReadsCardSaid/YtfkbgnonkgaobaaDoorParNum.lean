/- Walks: numbers of scripts. -/
import Derived.Test.YtfkbgnonkgaobaaDoorParHex
import Derived.Test.YtfkbgnonkgaobaaDoorScrNumb
import Derived.Lib.AtoiErrMem
namespace Go.Proofs.YtfkbgnonkgaobaaDoor
open Go.RowKit
set_option linter.unusedSimpArgs false
set_option linter.unusedVariables false

/-- A slice of strings that reads as a list. -/
def Wds (B : Nat) (W : World) (A : Option Addr) (n : Nat) (ws : List (List UInt8)) : Prop :=
  n = ws.length ∧ (0 < n → ∃ b o, A = some ⟨b, o, none⟩ ∧ b < B ∧ ∀ i, i < n → W.cell? ⟨b, o + i, none⟩ = some (.string ⟨(ws[i]?.getD []).toArray⟩))
theorem Wds.below {B B' : Nat} {W W' : World} {A : Option Addr} {n : Nat} {ws : List (List UInt8)} (h : Wds B W A n ws) (hb : Below B' W W') (hB : B ≤ B') : Wds B W' A n ws :=
  ⟨h.1, fun h0 => by
    obtain ⟨b, o, rfl, hlt, hi⟩ := h.2 h0
    exact ⟨b, o, rfl, hlt, fun i hh => (hb.cell (by show b < B'; omega)).trans (hi i hh)⟩⟩
theorem Wds.more {B B' : Nat} {W : World} {A : Option Addr} {n : Nat} {ws : List (List UInt8)} (h : Wds B W A n ws) (hB : B ≤ B') : Wds B' W A n ws :=
  ⟨h.1, fun h0 => by
    obtain ⟨b, o, rfl, hlt, hi⟩ := h.2 h0
    exact ⟨b, o, rfl, by omega, hi⟩⟩
theorem Wds.at_ {B : Nat} {W : World} {A : Option Addr} {n : Nat} {ws : List (List UInt8)} (h : Wds B W A n ws) {k : Nat} (hk : k < n) : ∃ b o, A = some ⟨b, o, none⟩ ∧ b < B ∧ W.cell? ⟨b, o + k, none⟩ = some (.string ⟨(ws[k]?.getD []).toArray⟩) := by
  obtain ⟨b, o, rfl, hlt, hi⟩ := h.2 (by omega)
  exact ⟨b, o, rfl, hlt, hi k hk⟩

/-- The two errors of strconv lie there. -/
def ErrV (w : World) : Prop := (∃ t p, w.var? Tryd.prog "strconv.ErrSyntax" = some #[.iface t p]) ∧ ∃ t p, w.var? Tryd.prog "strconv.ErrRange" = some #[.iface t p]
theorem gSyn : Tryd.prog.globalNamed "strconv.ErrSyntax" = some 1 := by kernel_rfl
theorem gRan : Tryd.prog.globalNamed "strconv.ErrRange" = some 2 := by kernel_rfl
theorem var?_lt {P : Program} {w : World} {nm : String} {g : Nat} {cs : Array Value} (hg : P.globalNamed nm = some g) (h : w.var? P nm = some cs) : g < w.heap.size := by
  unfold World.var? at h
  rw [hg] at h
  simp only [Option.bind_some] at h
  split at h
  · rename_i hh; exact (Array.getElem?_eq_some_iff.1 hh).1
  · cases h
theorem ErrV.lt {w : World} (h : ErrV w) : 1 < w.heap.size ∧ 2 < w.heap.size := by
  obtain ⟨⟨t, p, h1⟩, ⟨t', p', h2⟩⟩ := h
  exact ⟨var?_lt gSyn h1, var?_lt gRan h2⟩
theorem ErrV.below {w w' : World} (h : ErrV w) (hb : Below w.heap.size w w') : ErrV w' := by
  obtain ⟨l1, l2⟩ := h.lt
  obtain ⟨⟨t, p, h1⟩, ⟨t', p', h2⟩⟩ := h
  exact ⟨⟨t, p, var?_below hb gSyn l1 h1⟩, ⟨t', p', var?_below hb gRan l2 h2⟩⟩

/-- How a number is told: what Atoi answers. -/
def AtoiR (s : ByteArray) (e : Ending) : Prop := ∃ v ev, e = .returned (.tuple #[.int .i64 v, ev]) ∧ ((ev = .nilIface ∧ v = Vz.atoiN s.data.toList) ∨ ((∃ t p, ev = .iface t p) ∧ Vz.atoiN s.data.toList = -1))
theorem atoi_any (s : ByteArray) (hs : s.size ≤ 1000) (w : World) (hv : ErrV w) : Calls Tryd.prog 51 #[.string s] w fun e w' => AtoiR s e ∧ Below w.heap.size w w' := by
  obtain ⟨⟨t, p, h1⟩, ⟨t', p', h2⟩⟩ := hv
  rcases ha : Lib.atoiAll s.data.toList with v | _ | _
  · refine (Tryd.strconv_Atoi_ok s (by omega) v ha w).mono ?_
    rintro e w' ⟨rfl, hw⟩
    refine ⟨⟨v, .nilIface, rfl, .inl ⟨rfl, by unfold Vz.atoiN; rw [ha]⟩⟩, ?_⟩
    rcases hw with rfl | ⟨x, rfl⟩
    · exact Below.refl _ _
    · exact Lib.bytesWorld_below _ _ _
  · refine (Tryd.strconv_Atoi_syntax_var s (by omega) ⟨fun v => by rw [ha]; simp, by rw [ha]; simp⟩ t p w h1).mono ?_
    rintro e w' ⟨N, rfl, -, -, hb⟩
    exact ⟨⟨_, _, rfl, .inr ⟨⟨_, _, rfl⟩, by unfold Vz.atoiN; rw [ha]⟩⟩, hb⟩
  · refine (Tryd.strconv_Atoi_range_var s (by omega) ha t' p' w h2).mono ?_
    rintro e w' ⟨N, rfl, -, -, hb⟩
    exact ⟨⟨_, _, rfl, .inr ⟨⟨_, _, rfl⟩, by unfold Vz.atoiN; rw [ha]⟩⟩, hb⟩

theorem row_new1 (W : World) (o : Obj) : (W.alloc o).heap[W.heap.size]? = some o := by
  show (W.heap.push _)[W.heap.size]? = _
  simp
theorem row_new2 (w : World) (o1 o2 : Obj) : ((w.alloc o1).alloc o2).heap[w.heap.size]? = some o1 ∧ ((w.alloc o1).alloc o2).heap[w.heap.size + 1]? = some o2 := by
  refine ⟨(Below.heap_alloc _ _ _ (by simp)).trans (row_new1 w _), ?_⟩
  have := row_new1 (w.alloc o1) o2
  rwa [World.size_alloc] at this
theorem set_two {W : World} {g : Nat} {a b u v : Value} {t : TypeId} (h : W.heap[g]? = some (.cells #[a, b] t (0, 0))) :
    (W.setCell ⟨g, 0, none⟩ u).cell? ⟨g, 0, none⟩ = some u ∧ ((W.setCell ⟨g, 0, none⟩ u).setCell ⟨g, 1, none⟩ v).cell? ⟨g, 1, none⟩ = some v ∧ ((W.setCell ⟨g, 0, none⟩ u).setCell ⟨g, 1, none⟩ v).cell? ⟨g, 0, none⟩ = some u := by
  have h1 := heap_set_same h 0 u
  have h2 := heap_set_same h1 1 v
  refine ⟨?_, ?_, ?_⟩
  · rw [cell_of_row _ g 0 _ _ _ h1]; rfl
  · rw [cell_of_row _ g 1 _ _ _ h2]; rfl
  · rw [cell_of_row _ g 0 _ _ _ h2]; rfl
/-- What stands in the array behind k rounds. -/
def numF (vs : List (List UInt8)) (k i : Nat) : Int := if i < k then Vz.numAt vs i else -1

set_option maxRecDepth 100000 in
set_option maxHeartbeats 2000000 in
theorem numbers_any (A : Option Addr) (n c : Nat) (vs : List (List UInt8)) (w : World) (hI : Wds w.heap.size w A n vs) (hl : ∀ x ∈ vs, x.length ≤ 1000) (hn : n ≤ 10000) (hv : ErrV w) :
    Calls Tryd.prog 37 #[.slice A n c] w fun e w' => e = .returned (.agg #[.int .i64 (Vz.numAt vs 0), .int .i64 (Vz.numAt vs 1)]) ∧ Below w.heap.size w w' := by
  have HI := Lib.hid hI
  have HL := Lib.hid hl
  have HV := Lib.hid hv
  have HAT := Lib.hid atoi_any
  clear hI hl hv
  go_enter Tryd.func37, Tryd.ntmps37
  go_wp2_with fail
  have hB0 : Below w.heap.size w ((w.alloc (.cells #[.int .i64 0, .int .i64 0] 79)).alloc (.cells #[.int .i64 (-1), .int .i64 (-1)] 79)) := ((Below.refl _ _).alloc (Nat.le_refl _) _).alloc (by simp) _
  have hr0 := row_new2 w (.cells #[.int .i64 0, .int .i64 0] 79) (.cells #[.int .i64 (-1), .int .i64 (-1)] 79)
  go_loopw [11] (fun i wr => ∃ k : Nat, k ≤ n ∧ k ≤ 2 ∧ i = .int .i64 k ∧ wr.heap[w.heap.size]? = some (.cells #[.int .i64 0, .int .i64 0] 79 (0, 0)) ∧ wr.heap[w.heap.size + 1]? = some (.cells #[.int .i64 (numF vs k 0), .int .i64 (numF vs k 1)] 79 (0, 0)) ∧ Below w.heap.size w wr) (fun i _ => n - (intOf i).toNat)
  case atStart => exact ⟨0, Nat.zero_le _, by omega, rfl, hr0.1, hr0.2, hB0⟩
  case round =>
    obtain ⟨k, hk, hk2, rfl, hr1, hr2, hB⟩ := hrel
    have hfin : (n ≤ k ∨ k = 2) → numF vs k 0 = Vz.numAt vs 0 ∧ numF vs k 1 = Vz.numAt vs 1 := by
      intro h
      have hl := HI.out.1
      have hno : ∀ i, vs.length ≤ i → Vz.numAt vs i = -1 := fun i hi => by
        unfold Vz.numAt
        rw [List.getElem?_eq_none hi]
      unfold numF
      constructor
      · split
        · rfl
        · rw [hno 0 (by omega)]
      · split
        · rfl
        · rw [hno 1 (by omega)]
    have HFI := Lib.hid hfin
    have HR1 := Lib.hid hr1
    have HR2 := Lib.hid hr2
    have c10 : wr.cell? ⟨w.heap.size, 0, none⟩ = some (.int .i64 0) := by rw [cell_of_row wr w.heap.size 0 _ _ _ hr1]; rfl
    have c11 : wr.cell? ⟨w.heap.size, 1, none⟩ = some (.int .i64 0) := by rw [cell_of_row wr w.heap.size 1 _ _ _ hr1]; rfl
    have f10 := frozen_row hr1 0
    have f11 := frozen_row hr1 1
    have c20 : wr.cell? ⟨w.heap.size + 1, 0, none⟩ = some (.int .i64 (numF vs k 0)) := by rw [cell_of_row wr (w.heap.size + 1) 0 _ _ _ hr2]; rfl
    have c21 : wr.cell? ⟨w.heap.size + 1, 1, none⟩ = some (.int .i64 (numF vs k 1)) := by rw [cell_of_row wr (w.heap.size + 1) 1 _ _ _ hr2]; rfl
    clear hr1 hr2 hfin
    have HBS : Hid (∀ u u', Below w.heap.size w ((wr.setCell ⟨w.heap.size, 0, none⟩ u).setCell ⟨w.heap.size, 1, none⟩ u')) := fun u u' => (hB.setCell (p := ⟨w.heap.size, 0, none⟩) (Nat.le_refl _) u).setCell (p := ⟨w.heap.size, 1, none⟩) (Nat.le_refl _) u'
    obtain ⟨hq0, hq1, hq2⟩ := set_two (u := .int .i64 (Vz.numAt vs 0)) (v := .int .i64 (Vz.numAt vs 1)) HR1.out
    by_cases hlt : k < n
    · by_cases h2 : k = 2
      · obtain ⟨e0, e1⟩ := HFI.out (.inr h2)
        rw [e0] at c20
        rw [e1] at c21
        obtain ⟨b, o, rfl, hbB, hx⟩ := (HI.out.below hB (Nat.le_refl _)).at_ hlt
        subst h2
        clear e0 e1
        go_wp2_with fail
        refine bodyPost_ret (v := .agg #[_, _]) (by simp [results, Tryd.results37, go_sem, hq0, hq1, hq2]) rfl ⟨rfl, HBS.out _ _⟩
      · have hk1 : k < 2 := by omega
        obtain ⟨b, o, rfl, hbB, hx⟩ := (HI.out.below hB (Nat.le_refl _)).at_ hlt
        have hkl : k < vs.length := by have := HI.out.1; omega
        have hxl := HL.out (vs[k]?.getD []) (by rw [List.getElem?_eq_getElem hkl]; exact List.getElem_mem hkl)
        have hnum : Vz.numAt vs k = Vz.atoiN (vs[k]?.getD []) := by
          unfold Vz.numAt
          rw [List.getElem?_eq_getElem hkl]
          rfl
        generalize vs[k]?.getD [] = x at hx hxl hnum
        have hxs : (⟨x.toArray⟩ : ByteArray).size ≤ 1000 := by show x.toArray.size ≤ 1000; simpa using hxl
        have hxd : (⟨x.toArray⟩ : ByteArray).data.toList = x := by simp
        have HAX := Lib.hid (HAT.out ⟨x.toArray⟩ hxs wr (HV.out.below hB))
        generalize (⟨x.toArray⟩ : ByteArray) = X at hx hxs hxd HAX
        have HNU := Lib.hid hnum
        have HXD := Lib.hid hxd
        have f20 := frozen_row HR2.out 0
        have f21 := frozen_row HR2.out 1
        clear hxl hnum hkl hxd h2
        have h01 : k = 0 ∨ k = 1 := by omega
        clear hk1
        have hlt1 : w.heap.size < wr.heap.size := (Array.getElem?_eq_some_iff.1 HR1.out).1
        have hlt2 : w.heap.size + 1 < wr.heap.size := (Array.getElem?_eq_some_iff.1 HR2.out).1
        rcases h01 with rfl | rfl
        · have hx0 : wr.cell? ⟨b, o, none⟩ = some (.string X) := hx
          clear hx
          go_wp2_with fail
          refine HAX.out.mono ?_
          rintro e w3 ⟨⟨v, ev, rfl, hev⟩, hb3⟩
          have r13 := (hb3.block _ hlt1).trans HR1.out
          have r23 := (hb3.block _ hlt2).trans HR2.out
          have HR13 := Lib.hid r13
          have HR23 := Lib.hid r23
          have g2 := frozen_row r23 0
          have k2 : w3.cell? ⟨w.heap.size + 1, 0, none⟩ = some (.int .i64 (numF vs 0 0)) := by rw [cell_of_row w3 (w.heap.size + 1) 0 _ _ _ r23]; rfl
          clear r13 r23
          rcases hev with ⟨rfl, hve⟩ | ⟨⟨t, p, rfl⟩, hm1⟩
          · have HVE := Lib.hid hve
            clear hve
            go_wp2_with fail
            refine ⟨⟨1, by omega, by omega, by go_num, ?_, ?_, (below_join hB hb3).setCell (p := ⟨w.heap.size + 1, 0, none⟩) (by show w.heap.size ≤ w.heap.size + 1; omega) _⟩, by simp [intOf]; omega⟩
            · rw [heap_set_other 0 _ (by omega)]; exact HR13.out
            · rw [heap_set_same HR23.out 0 _]
              have : v = Vz.numAt vs 0 := by rw [HVE.out, HXD.out]; exact HNU.out.symm
              rw [this]
              simp [numF]
          · have HM1 := Lib.hid hm1
            clear hm1
            go_wp2_with fail
            refine ⟨⟨1, by omega, by omega, by go_num, HR13.out, ?_, below_join hB hb3⟩, by simp [intOf]; omega⟩
            have : Vz.numAt vs 0 = -1 := by rw [HNU.out]; have := HM1.out; rwa [HXD.out] at this
            rw [HR23.out]
            simp [numF, this]
        · skip
          go_wp2_with fail
          refine HAX.out.mono ?_
          rintro e w3 ⟨⟨v, ev, rfl, hev⟩, hb3⟩
          have r13 := (hb3.block _ hlt1).trans HR1.out
          have r23 := (hb3.block _ hlt2).trans HR2.out
          have HR13 := Lib.hid r13
          have HR23 := Lib.hid r23
          have g2 := frozen_row r23 1
          have k2 : w3.cell? ⟨w.heap.size + 1, 1, none⟩ = some (.int .i64 (numF vs 1 1)) := by rw [cell_of_row w3 (w.heap.size + 1) 1 _ _ _ r23]; rfl
          clear r13 r23
          rcases hev with ⟨rfl, hve⟩ | ⟨⟨t, p, rfl⟩, hm1⟩
          · have HVE := Lib.hid hve
            clear hve
            go_wp2_with fail
            refine ⟨⟨2, by omega, by omega, by go_num, ?_, ?_, (below_join hB hb3).setCell (p := ⟨w.heap.size + 1, 1, none⟩) (by show w.heap.size ≤ w.heap.size + 1; omega) _⟩, by simp [intOf]; omega⟩
            · rw [heap_set_other 1 _ (by omega)]; exact HR13.out
            · rw [heap_set_same HR23.out 1 _]
              have : v = Vz.numAt vs 1 := by rw [HVE.out, HXD.out]; exact HNU.out.symm
              rw [this]
              simp [numF]
          · have HM1 := Lib.hid hm1
            clear hm1
            go_wp2_with fail
            refine ⟨⟨2, by omega, by omega, by go_num, HR13.out, ?_, below_join hB hb3⟩, by simp [intOf]; omega⟩
            have : Vz.numAt vs 1 = -1 := by rw [HNU.out]; have := HM1.out; rwa [HXD.out] at this
            rw [HR23.out]
            simp [numF, this]
    · obtain ⟨e0, e1⟩ := HFI.out (.inl (by omega))
      rw [e0] at c20
      rw [e1] at c21
      obtain rfl : k = n := by omega
      clear e0 e1
      go_wp2_with fail
      refine bodyPost_ret (v := .agg #[_, _]) (by simp [results, Tryd.results37, go_sem, hq0, hq1, hq2]) rfl ⟨rfl, HBS.out _ _⟩
end Go.Proofs.YtfkbgnonkgaobaaDoor
