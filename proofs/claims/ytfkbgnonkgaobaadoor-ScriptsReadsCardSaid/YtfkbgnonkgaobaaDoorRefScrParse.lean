/- Walks: Parse of vizardref23. -/
import Derived.Test.YtfkbgnonkgaobaaDoorRefScrOne
import Derived.Maps.AppendAt
namespace Go.Proofs.YtfkbgnonkgaobaaDoor
open Go.RowKit
set_option linter.unusedSimpArgs false
set_option linter.unusedVariables false

theorem infoRStep : (Tryd.prog.info? 31).map (fun i => (i.zero, i.size, i.bytes)) = some (some (.agg #[.int .i64 0, .string ⟨#[]⟩, .int .i64 0, .int .i64 0, .bool false, .bool false, .int .i64 0, .int .i64 0, .int .i64 0]), 9, 72) := by kernel_rfl
theorem cells_new2 (W : World) (o : Obj) (xs : List Value) (t : TypeId) : ∀ j u, xs[j]? = some u → ((W.alloc o).alloc (.cells xs.toArray t)).cell? ((⟨W.heap.size + 1, 0, none⟩ : Addr).add j) = some u := by
  have := cells_new (W.alloc o) xs t
  rwa [World.size_alloc] at this
theorem one_none (ln : List UInt8) (hs : ln.length ≤ 1000) (h : Vz.stepOf (ln ++ [10]) = none) (w : World) : Calls Tryd.prog 28 #[.string ⟨ln.toArray⟩] w fun e W' => e = .returned (.tuple #[stpV (Vz.rdTold (Vz.splitS ln)), .bool false]) ∧ Below w.heap.size w W' := by
  have ho := one_any ⟨ln.toArray⟩ (by show ln.toArray.size ≤ 1000; simpa using hs) w
  have e : (⟨ln.toArray⟩ : ByteArray).data.toList = ln := rfl
  rw [e, Vz.rdOne_none h] at ho
  exact ho
theorem one_some (ln : List UInt8) (hs : ln.length ≤ 1000) (y : Vz.Stp) (h : Vz.stepOf (ln ++ [10]) = some y) (w : World) : Calls Tryd.prog 28 #[.string ⟨ln.toArray⟩] w fun e W' => e = .returned (.tuple #[stpV y, .bool true]) ∧ Below w.heap.size w W' := by
  have ho := one_any ⟨ln.toArray⟩ (by show ln.toArray.size ≤ 1000; simpa using hs) w
  have e : (⟨ln.toArray⟩ : ByteArray).data.toList = ln := rfl
  obtain ⟨h1, h2⟩ := Vz.rdOne_some h
  rw [e, h1, h2] at ho
  exact ho

set_option maxRecDepth 100000 in
set_option maxHeartbeats 2000000 in
theorem rdparse_any (s : ByteArray) (hs : s.size ≤ 600) (w : World) : Calls Tryd.prog 15 #[.string s] w fun e W' => ∃ v, e = .returned (.tuple #[v, .bool (Vz.parseL (Vz.linesOf s.data.toList)).isSome]) ∧
    (∀ M, Vz.parseL (Vz.linesOf s.data.toList) = some M → W'.ownsRow w.heap.size 31 9 v M.length (cellsL M)) ∧ Below w.heap.size w W' := by
  obtain ⟨i0, hi, hz0, hz1, hz2⟩ := info_parts infoRStep
  have hlen : s.data.toList.length = s.size := rfl
  have HLEN := Lib.hid hlen
  generalize hR : Vz.parseL (Vz.linesOf s.data.toList) = R
  generalize hR2 : R.isSome = rb
  have HR := Lib.hid hR
  have HRB := Lib.hid hR2
  clear hlen hR hR2
  go_enter Tryd.func15, Tryd.ntmps15
  go_wp2_with fail
  go_loopw [4, 5, 6] (fun o l i wr => ∃ (v : Value) (K : List Vz.Stp) (ln : List UInt8) (k : Nat), k ≤ s.size ∧ o = v ∧ l = .string ⟨ln.toArray⟩ ∧ i = .int .i64 k ∧ (10 : UInt8) ∉ ln ∧ ln.length ≤ k ∧ K.length ≤ k ∧ wr.ownsRow w.heap.size 31 9 v K.length (cellsL K) ∧ Vz.parseL (Vz.linesOf s.data.toList) = (Vz.parseL (Vz.linesOf (ln ++ s.data.toList.drop k))).map (K ++ ·) ∧ Below w.heap.size w wr) (fun _ _ i _ => s.size - (intOf i).toNat)
  case atStart => exact ⟨_, [], [], 0, Nat.zero_le _, rfl, rfl, rfl, by simp, Nat.le_refl _, Nat.le_refl _, World.ownsRow_nil _ _ _ _, by simp, Below.refl _ _⟩
  case round =>
    obtain ⟨v, K, ln, k, hk, rfl, rfl, rfl, hnl, hll, hKl, hown, hpar, hB⟩ := hrel
    have HOW := Lib.hid hown
    have HPAR := Lib.hid hpar
    have HNL := Lib.hid hnl
    obtain ⟨va, vc, rfl⟩ := ownsRow_slice hown
    clear hown hpar hnl
    by_cases hlt : k < s.size
    · have hd := drop_at s k hlt
      have hbr := byte_ext s k hlt
      obtain ⟨x, hx⟩ : ∃ x, s[k]'hlt = x := ⟨_, rfl⟩
      rw [hx] at hd hbr
      have HD := Lib.hid hd
      clear hd
      by_cases h10 : x = 10
      · subst h10
        have hpar2 := HPAR.out
        rw [HD.out, Vz.parse_step ln _ HNL.out] at hpar2
        cases hst : Vz.stepOf (ln ++ [10]) with
        | none =>
          rw [hst] at hpar2
          have HRN : Hid (Vz.parseL (Vz.linesOf s.data.toList) = none) := hpar2
          have HO := Lib.hid (one_none ln (by omega) hst)
          unfold stpV at HO
          clear hst hpar2 hbr
          go_wp2_with (go_at_call 28; refine (HO.out _).mono ?_; rintro e w2 ⟨rfl, hb2⟩)
          have hrb : rb = false := by rw [← HRB.out, ← HR.out, HRN.out]; rfl
          subst hrb
          go_ret2
          refine ⟨.slice none 0 0, rfl, fun M hM => ?_, (below_join hB hb2).alloc (below_join hB hb2).size _⟩
          rw [← HR.out, HRN.out] at hM
          cases hM
        | some y =>
          rw [hst] at hpar2
          have HP2 : Hid (Vz.parseL (Vz.linesOf s.data.toList) = ((Vz.parseL (Vz.linesOf (s.data.toList.drop (k + 1)))).map (y :: ·)).map (K ++ ·)) := hpar2
          have HO := Lib.hid (one_some ln (by omega) y hst)
          unfold stpV at HO
          clear hst hpar2 hbr
          go_wp2_with (first
            | (at_builtin; refine wpList_append_own _ rfl _ _ 41 rfl w.heap.size 31 i0 _ 9 72 Tryd.underlying41 hi hz0 hz1 hz2 rfl (by decide) _ _ _ rfl ((hr2.alloc _).alloc _) ⟨w2.heap.size + 1, 0, none⟩ 1 1 (stpC y) rfl rfl (cells_new2 w2 _ (stpC y) _) (by simp [stpC, Value.oneCell']) (by unfold maxLen; omega) (by omega) (by have := hB.size; have := hb2.size; simp; omega) ?_; intro v' w8 hown' hgrow _)
            | (go_at_call 28; refine (HO.out _).mono ?_; rintro e w2 ⟨rfl, hb2⟩; have hr2 := ownsRow_keep HOW.out hb2; have hw2 := hb2.size))
          refine ⟨⟨v', K ++ [y], [], k + 1, hlt, rfl, rfl, rfl, by simp, by simp, by simp; omega, ?_, ?_, ?_⟩, by simp [intOf]; omega⟩
          · have e : cellsL (K ++ [y]) = cellsL K ++ stpC y := by unfold cellsL; simp
            rw [e]
            simpa using hown'
          · rw [HP2.out, List.nil_append]
            cases Vz.parseL (Vz.linesOf (s.data.toList.drop (k + 1))) <;> simp
          · exact (((below_join hB hb2).alloc (below_join hB hb2).size _).alloc (by have := (below_join hB hb2).size; simp; omega) _).grown hgrow (by have := (below_join hB hb2).size; simp; omega) (fun j e => ownsRow_bs HOW.out e)
      · have hL1 : ln.length ≤ 600 := by omega
        have hwk := wrap_small (n := (k : Int) + 1) (by omega) (by omega)
        have hk1 : (k : Int) + 1 ≤ (s.size : Int) := by omega
        have hk0 : (0 : Int) ≤ (k : Int) + 1 := by omega
        have hkk : (k : Int) ≤ (k : Int) + 1 := by omega
        have h10' : ((x.toNat : Int) == 10) = false := by
          have : x.toNat ≠ 10 := fun e => h10 (by rw [← UInt8.toNat_inj, e]; rfl)
          simp
          omega
        have h10b : ((x.toNat : Int) != 10) = true := by
          have : x.toNat ≠ 10 := fun e => h10 (by rw [← UInt8.toNat_inj, e]; rfl)
          simp
          omega
        have hYs : (⟨ln.toArray⟩ : ByteArray).size ≤ 600 := by show ln.toArray.size ≤ 600; simpa using hL1
        have HYX : Hid ((⟨ln.toArray⟩ : ByteArray) ++ ⟨#[x]⟩ = ⟨(ln ++ [x]).toArray⟩) := by
          show _ = _
          apply ByteArray.ext
          rw [ByteArray.data_append]
          simp
        have HX10 := Lib.hid h10
        generalize (⟨ln.toArray⟩ : ByteArray) = Y at hYs HYX ⊢
        have hY1 : ¬ 9223372036854775807 < Y.size + 1 := by omega
        have hbru := byte_run s k hlt
        rw [hx] at hbru
        clear h10
        go_wp2_with fail
        refine ⟨⟨_, K, ln ++ [x], k + 1, hlt, rfl, by rw [← HYX.out], rfl, ?_, by simp; omega, by omega, HOW.out, ?_, hB⟩, by simp [intOf]; omega⟩
        · intro h
          rcases List.mem_append.1 h with h | h
          · exact HNL.out h
          · exact HX10.out (List.mem_singleton.1 h).symm
        · rw [HPAR.out, HD.out, List.append_assoc]
          rfl
    · obtain rfl : k = s.size := by omega
      have hdr : s.data.toList.drop s.size = [] := List.drop_of_length_le (by rw [HLEN.out]; exact Nat.le_refl _)
      have hpar2 := HPAR.out
      rw [hdr, List.append_nil] at hpar2
      have HP2 := Lib.hid hpar2
      clear hdr hpar2
      by_cases hln : ln = []
      · subst hln
        have hrr : R = some K := by rw [← HR.out, HP2.out]; simp [Vz.linesOf, Vz.parseL]
        have hrb : rb = true := by rw [← HRB.out, hrr]; rfl
        subst hrb
        have HRR := Lib.hid hrr
        clear hrr
        go_wp2_with fail
        go_ret2
        refine ⟨_, rfl, fun M hM => ?_, hB⟩
        rw [HRR.out] at hM
        obtain rfl := Option.some.inj hM
        exact HOW.out
      · have hrr : R = none := by rw [← HR.out, HP2.out, Vz.parse_tail ln HNL.out hln]; rfl
        have hrb : rb = false := by rw [← HRB.out, hrr]; rfl
        subst hrb
        have HRR := Lib.hid hrr
        have hne : (⟨ln.toArray⟩ : ByteArray).toList.isEmpty = false := empty_no (by
          show ln.toArray.size ≠ 0
          simpa using hln)
        generalize (⟨ln.toArray⟩ : ByteArray) = Y at hne ⊢
        clear hrr hln
        go_wp2_with fail
        go_ret2
        refine ⟨_, rfl, fun M hM => ?_, hB⟩
        rw [HRR.out] at hM
        cases hM
end Go.Proofs.YtfkbgnonkgaobaaDoor
