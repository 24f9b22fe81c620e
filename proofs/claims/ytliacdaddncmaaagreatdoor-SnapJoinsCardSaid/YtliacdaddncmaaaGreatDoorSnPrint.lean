import Derived.Test.YtliacdaddncmaaaGreatDoorSnPrB

/- Walks: a shot as a text. -/
namespace Go.Proofs.YtliacdaddncmaaaGreatDoor
open Go.RowKit
set_option linter.unusedSimpArgs false
set_option linter.unusedVariables false
attribute [local go_sem] alloc_drewN setCell_drewN World.cell?_alloc_some frozen_alloc_some size_f0 size_f1 Oper.semAt_some

attribute [local go_sem] run_store_func
set_option maxRecDepth 100000 in
set_option maxHeartbeats 16000000 in
theorem print_in (n : Nat) (hn : 5 ≤ n) (x : Sh) (OB g cap : Nat) (sv : Value) (G K G' : Nat → Nat) (B : Nat) (w : World) (hS : ShP B w x OB g cap sv G K G') (hm : x.S.D.may) (hR : x.S.D.R ≤ 20) (hC : x.S.D.C ≤ 20) (hi : x.S.pl.at_.inS x.S.D.R x.S.D.C) (hx : ∀ i j, CellOk (x.S.D.X i j)) (t : TypeId) (fr : Nat × Nat) (hg : w.heap[1]? = some (.cells names12a t fr)) :
    CallsIn Fence.wide n Tryz.prog 14 #[.agg (shV x OB g cap sv)] w fun e w' => e = .returned (.string ⟨(printL x).toArray⟩) ∧ Below w.heap.size w w' := by
  obtain ⟨cr, hcr⟩ := Int.eq_ofNat_of_zero_le hi.1
  obtain ⟨cc, hcc⟩ := Int.eq_ofNat_of_zero_le hi.2.2.1
  have hi2 := hi.2.1
  have hi4 := hi.2.2.2
  obtain ⟨sa, sc, hsv, hst⟩ := stops_cell hS.stops
  have HS := Lib.hid hS
  subst hsv
  have HST := Lib.hid hst
  have HNM := Lib.hid (fun W (hb : Below w.heap.size w W) => (hb.block _ (block_lt hg)).trans hg)
  have HHA := Lib.hid (headA_ok x hR hC (by omega) (by omega))
  have HHT := Lib.hid (headT_len x hR hC (by omega) (by omega))
  have hA0 : headA x = [.str (nameB x.p), .str [32], .num x.S.D.R, .str [120], .num x.S.D.C, .str [32], .num cr, .str [44], .num cc] := by
    unfold headA
    rw [hcr, hcc]
    rfl
  have HA0 := Lib.hid hA0
  obtain ⟨L, hL⟩ : ∃ L, L = stopsI x.S.D.C x.S.T := ⟨_, rfl⟩
  have hLs : ∀ c ∈ L, ∃ k : Nat, c = (k : Int) ∧ k < 100 := by
    intro c hc
    rw [hL] at hc
    unfold stopsI at hc
    obtain ⟨k, hk, rfl⟩ := List.mem_map.1 hc
    have := List.mem_range.1 (List.mem_filter.1 hk).1
    exact ⟨k, rfl, by omega⟩
  have hLl : L.length ≤ 20 := by
    rw [hL]
    unfold stopsI Vz.stopsL
    rw [List.length_map]
    refine Nat.le_trans (List.length_filter_le _ _) ?_
    rw [List.length_range]
    exact hC
  have HLS := Lib.hid hLs
  have hprint : printL x = headT x ++ stopsT L ++ barsN x.S.D x.S.D.R ++ runsT (allN x.S.D x.look) := by rw [hL]; rfl
  have HPR := Lib.hid hprint
  have HX := Lib.hid hx
  have hhead : headT x = putB (headA x) ++ (if x.S.pl.pend = true then putB [.str [43]] else []) ++ putB [.str [10]] := rfl
  obtain ⟨pd, hpd⟩ : ∃ b, x.S.pl.pend = b := ⟨_, rfl⟩
  rw [hpd] at hhead
  have HHD := Lib.hid hhead
  unfold shV
  rw [← hL] at hst ⊢
  rw [hcr, hcc, hpd]
  have h1 : 1 ≤ n := by omega
  obtain ⟨W0, hW0, hp0⟩ : ∃ W0, (((w.alloc (.cells #[.int .i64 x.p, .int .i64 (x.S.D.R : Int), .int .i64 (x.S.D.C : Int), .int .i64 (cr : Int), .int .i64 (cc : Int), .bool pd, .slice (some ⟨OB, 0, none⟩) x.S.D.R x.S.D.R, .slice (some ⟨g, 0, none⟩) x.S.D.R cap, .slice sa L.length sc] 30)).alloc (.cells #[.pointer none, .slice none 0 0] 72)).alloc (.cells #[.func (.func 38) #[] #[.pointer (some ⟨w.heap.size + 1, 0, none⟩)]] 87)) = W0 ∧ PrI w #[.int .i64 x.p, .int .i64 (x.S.D.R : Int), .int .i64 (x.S.D.C : Int), .int .i64 (cr : Int), .int .i64 (cc : Int), .bool pd, .slice (some ⟨OB, 0, none⟩) x.S.D.R x.S.D.R, .slice (some ⟨g, 0, none⟩) x.S.D.R cap, .slice sa L.length sc] [] W0 := by
    refine ⟨_, rfl, ((below1 w _).alloc (by simp) _).alloc (by simp; omega) _, ?_, ?_, ?_⟩
    · exact (Below.heap_alloc _ _ _ (by simp; omega)).trans ((Below.heap_alloc _ _ _ (by simp)).trans (heap_alloc_new w _))
    · have hb := BuildL.fresh (w.alloc (.cells #[.int .i64 x.p, .int .i64 (x.S.D.R : Int), .int .i64 (x.S.D.C : Int), .int .i64 (cr : Int), .int .i64 (cc : Int), .bool pd, .slice (some ⟨OB, 0, none⟩) x.S.D.R x.S.D.R, .slice (some ⟨g, 0, none⟩) x.S.D.R cap, .slice sa L.length sc] 30))
      rw [World.size_alloc] at hb
      exact hb.below (below1 _ _)
    · have := heap_alloc_new ((w.alloc (.cells #[.int .i64 x.p, .int .i64 (x.S.D.R : Int), .int .i64 (x.S.D.C : Int), .int .i64 (cr : Int), .int .i64 (cc : Int), .bool pd, .slice (some ⟨OB, 0, none⟩) x.S.D.R x.S.D.R, .slice (some ⟨g, 0, none⟩) x.S.D.R cap, .slice sa L.length sc] 30)).alloc (.cells #[.pointer none, .slice none 0 0] 72)) (.cells #[.func (.func 38) #[] #[.pointer (some ⟨w.heap.size + 1, 0, none⟩)]] 87)
      rwa [World.size_alloc, World.size_alloc] at this
  have HP0 := Lib.hid hp0
  have HST2 := Lib.hid hst
  have HLE := Lib.hid hL
  clear hst hS hg hA0 hL hLs hprint hhead hp0 hi hx HST
  refine callsIn_of_wp_marks Tryz.func14 rfl trivial ?_ rfl
  simp only [Tryz.ntmps14, List.size_toArray, List.length_cons, List.length_nil, Nat.reduceAdd, Nat.reduceSub, Array.replicate_succ, Array.replicate_zero, List.push_toArray, List.append_toArray, List.nil_append, List.cons_append]
  gi_upto_region 3 with fail
  clear hW0
  refine wpIn_region_i (S := fun W : World => PrI w #[.int .i64 x.p, .int .i64 (x.S.D.R : Int), .int .i64 (x.S.D.C : Int), .int .i64 (cr : Int), .int .i64 (cc : Int), .bool pd, .slice (some ⟨OB, 0, none⟩) x.S.D.R x.S.D.R, .slice (some ⟨g, 0, none⟩) x.S.D.R cap, .slice sa L.length sc] [] W) 26 (by kernel_rfl) (HP0.out.below (Below.refl _ _).drew) (fun hHeld => ?_)
  refine kTI (v := ?_) 0 [] hHeld ?y1 ?_
  case y1 => (intro W hSw; obtain ⟨⟨s0, s1, s2, s3, s4, s5, s6, s7, s8⟩, c0⟩ := hSw.cells; go_simp; try with_reducible rfl)
  refine kSI 1 hHeld ?_
  refine kTI (v := ?_) 2 [3] hHeld ?y3 ?_
  case y3 => (intro W hSw; obtain ⟨⟨s0, s1, s2, s3, s4, s5, s6, s7, s8⟩, c0⟩ := hSw.cells; go_simp; try with_reducible rfl)
  refine kSI 5 hHeld ?_
  refine kSI 6 hHeld ?_
  try refine kNI ?_
  refine kSI 7 hHeld ?_
  refine kTI (v := ?_) 8 [25, 9] hHeld ?y7 ?_
  case y7 => (intro W hSw; obtain ⟨⟨s0, s1, s2, s3, s4, s5, s6, s7, s8⟩, c0⟩ := hSw.cells; go_simp; try with_reducible rfl)
  refine kSI 9 hHeld ?_
  refine kSI 10 hHeld ?_
  refine kSI 11 hHeld ?_
  try refine kNI ?_
  refine kSI 12 hHeld ?_
  refine kTI (v := ?_) 13 [25, 14] hHeld ?y12 ?_
  case y12 => (intro W hSw; obtain ⟨⟨s0, s1, s2, s3, s4, s5, s6, s7, s8⟩, c0⟩ := hSw.cells; go_simp; try with_reducible rfl)
  refine kSI 14 hHeld ?_
  refine kSI 15 hHeld ?_
  refine kSI 16 hHeld ?_
  try refine kNI ?_
  refine kSI 17 hHeld ?_
  refine kTI (v := ?_) 18 [25, 19] hHeld ?y17 ?_
  case y17 => (intro W hSw; obtain ⟨⟨s0, s1, s2, s3, s4, s5, s6, s7, s8⟩, c0⟩ := hSw.cells; go_simp; try with_reducible rfl)
  refine kSI 19 hHeld ?_
  refine kSI 20 hHeld ?_
  refine kSI 21 hHeld ?_
  try refine kNI ?_
  refine kSI 22 hHeld ?_
  refine kTI (v := ?_) 23 [25, 24] hHeld ?y22 ?_
  case y22 => (intro W hSw; obtain ⟨⟨s0, s1, s2, s3, s4, s5, s6, s7, s8⟩, c0⟩ := hSw.cells; go_simp; try with_reducible rfl)
  refine kSI 24 hHeld ?_
  try refine kNI ?_
  refine kOI 3 fun KQ hKQ => ?_
  go_simp
  first | refine ⟨trivial, ?_⟩ | refine ⟨fun _ => h1, ?_⟩ | skip
  gi_at_call 20
  refine (callsIn_wide.2 (name_any x.p _)).mono ?_
  rintro e w03 ⟨rfl, rfl⟩
  gi_wp2_with fail
  refine hKQ.out _ _ (hHeld) ?_
  clear hHeld hKQ KQ
  intro hHeld
  try refine kNI ?_
  refine kSI 4 hHeld ?_
  try refine kNI ?_
  refine kOI 25 fun KQ hKQ => ?_
  go_simp
  refine hKQ.out _ _ (hHeld.below (below1 _ _)) ?_
  clear hHeld hKQ KQ
  intro hHeld
  try refine kNI ?_
  have hsl := heap_alloc_new W0.drew (.cells ((headA x).map PutX.val).toArray 20)
  rw [HA0.out] at hsl
  refine kPI 26 fun KQ hKQ => ?_
  go_simp
  first | refine ⟨trivial, ?_⟩ | refine ⟨fun _ => h1, ?_⟩ | skip
  gi_at_call 38
  have hput := hHeld.put (xs := headA x) (g := W0.heap.size) (n := 9) (cap := 9) (by rw [HA0.out]; exact hsl) (by rw [HA0.out]; rfl) (by decide) HHA.out.1 (by have := HHA.out.2; rw [List.length_nil]; omega)
  refine (callsIn_wide.2 hput).mono ?_
  clear hput hsl
  rintro e w2 ⟨rfl, hp2, -⟩
  have HP2 := Lib.hid hp2
  clear hp2
  gi_wp2_with fail
  refine hKQ.out _ _ ?_
  clear hKQ KQ
  try refine kNI ?_
  refine wpAnyI_done (by kernel_rfl) ?_ _
  refine NoPanic.normal ?_
  rw [List.nil_append] at HP2
  have HL2 : Hid ((putB (headA x)).length ≤ 20) := HHA.out.2
  have HL3 : Hid ((putB (headA x) ++ putB [.str [43]]).length ≤ 21) := by
    show _ ≤ _
    rw [List.length_append, show (putB [.str [43]]).length = 1 from rfl]
    have := HHA.out.2
    omega
  obtain ⟨⟨s0, s1, s2, s3, s4, s5, s6, s7, s8⟩, c0⟩ := HP2.out.cells
  cases pd
  case' false =>
    gi_wp2_with ((try refine ⟨trivial, ?_⟩); gi_at_call 38; refine (callsIn_wide.2 ((HP2.out.below (below1 _ _)).word [10] (heap_alloc_new _ _) (by have := HL2.out; omega) (by decide))).mono ?_; rintro e wn ⟨rfl, hpn, -⟩; have HP5 := Lib.hid hpn; clear hpn; clear s0 s1 s2 s3 s4 s5 s6 s7 s8 c0; obtain ⟨⟨s0, s1, s2, s3, s4, s5, s6, s7, s8⟩, c0⟩ := HP5.out.cells)
    have hh : headT x = putB (headA x) ++ putB [.str [10]] := by have := HHD.out; rwa [if_neg (by decide), List.append_nil] at this
    have hp6 := HP5.out
    rw [← hh] at hp6
    have hcl := fun l W (h : PrI w #[.int .i64 x.p, .int .i64 (x.S.D.R : Int), .int .i64 (x.S.D.C : Int), .int .i64 (cr : Int), .int .i64 (cc : Int), .bool false, .slice (some ⟨OB, 0, none⟩) x.S.D.R x.S.D.R, .slice (some ⟨g, 0, none⟩) x.S.D.R cap, .slice sa L.length sc] l W) => h.cells
    obtain ⟨V, hV⟩ : ∃ V : Array Value, #[.int .i64 x.p, .int .i64 (x.S.D.R : Int), .int .i64 (x.S.D.C : Int), .int .i64 (cr : Int), .int .i64 (cc : Int), .bool false, .slice (some ⟨OB, 0, none⟩) x.S.D.R x.S.D.R, .slice (some ⟨g, 0, none⟩) x.S.D.R cap, .slice sa L.length sc] = V := ⟨_, rfl⟩
    rw [hV] at hp6 hcl
    have HVV := Lib.hid hV
    have HC := Lib.hid hcl
    have HP6 := Lib.hid hp6
    clear hV hcl hp6 hh HP5 HP2 HHD HL2 HL3
  case' true =>
    gi_wp2_with (first
      | ((try refine ⟨trivial, ?_⟩); gi_at_call 38; refine (callsIn_wide.2 ((HP3.out.below (below1 _ _)).word [10] (heap_alloc_new _ _) (by have := HL3.out; omega) (by decide))).mono ?_; rintro e wn ⟨rfl, hpn, -⟩; have HP5 := Lib.hid hpn; clear hpn; clear s0 s1 s2 s3 s4 s5 s6 s7 s8 c0; obtain ⟨⟨s0, s1, s2, s3, s4, s5, s6, s7, s8⟩, c0⟩ := HP5.out.cells)
      | ((try refine ⟨trivial, ?_⟩); gi_at_call 38; refine (callsIn_wide.2 ((HP2.out.below (below1 _ _)).word [43] (heap_alloc_new _ _) (by have := HL2.out; omega) (by decide))).mono ?_; rintro e wn ⟨rfl, hpn, -⟩; have HP3 := Lib.hid hpn; clear hpn; clear s0 s1 s2 s3 s4 s5 s6 s7 s8 c0; obtain ⟨⟨s0, s1, s2, s3, s4, s5, s6, s7, s8⟩, c0⟩ := HP3.out.cells))
    clear HP3
    have hh : headT x = putB (headA x) ++ putB [.str [43]] ++ putB [.str [10]] := by have := HHD.out; simpa using this
    have hp6 := HP5.out
    rw [← hh] at hp6
    have hcl := fun l W (h : PrI w #[.int .i64 x.p, .int .i64 (x.S.D.R : Int), .int .i64 (x.S.D.C : Int), .int .i64 (cr : Int), .int .i64 (cc : Int), .bool true, .slice (some ⟨OB, 0, none⟩) x.S.D.R x.S.D.R, .slice (some ⟨g, 0, none⟩) x.S.D.R cap, .slice sa L.length sc] l W) => h.cells
    obtain ⟨V, hV⟩ : ∃ V : Array Value, #[.int .i64 x.p, .int .i64 (x.S.D.R : Int), .int .i64 (x.S.D.C : Int), .int .i64 (cr : Int), .int .i64 (cc : Int), .bool true, .slice (some ⟨OB, 0, none⟩) x.S.D.R x.S.D.R, .slice (some ⟨g, 0, none⟩) x.S.D.R cap, .slice sa L.length sc] = V := ⟨_, rfl⟩
    rw [hV] at hp6 hcl
    have HVV := Lib.hid hV
    have HC := Lib.hid hcl
    have HP6 := Lib.hid hp6
    clear hV hcl hp6 hh HP5 HP2 HHD HL2 HL3
  all_goals (
    clear s0 s1 s2 s3 s4 s5 s6 s7 s8 c0
    gi_loopw [51] (fun i wr => ∃ k : Nat, k ≤ L.length ∧ i = .int .i64 (k : Int) ∧ PrI w V (headT x ++ stopsN L k) wr) (fun i _ => L.length - (intOf i).toNat)
    case atStart => exact ⟨0, Nat.zero_le _, rfl, by rw [show headT x ++ stopsN L 0 = headT x from List.append_nil _]; exact HP6.out⟩
    case round =>
      obtain ⟨k, hk, rfl, hp⟩ := hrel
      have HPK := Lib.hid hp
      have HLK : Hid ((headT x ++ stopsN L k).length ≤ 100) := by
        have h1 := stopsN_len L (fun c hc => by obtain ⟨q, rfl, hq⟩ := HLS.out c hc; exact hq) k
        have h2 := HHT.out
        show _ ≤ _
        rw [List.length_append]
        omega
      have HLK2 : Hid ((headT x ++ stopsN L k ++ putB [.str [115, 116, 111, 112, 115]]).length ≤ 105) := by
        show _ ≤ _
        rw [List.length_append, show (putB [.str [115, 116, 111, 112, 115]]).length = 5 from rfl]
        have := HLK.out
        omega
      obtain ⟨⟨s0, s1, s2, s3, s4, s5, s6, s7, s8⟩, c0⟩ := HC.out _ _ hp
      by_cases hlt : k < L.length
      · obtain ⟨gs, rfl, hc⟩ := HST2.out _ hp.bel k hlt
        obtain ⟨cn, hcn, hc9⟩ := HLS.out (L[k]?.getD 0) (by rw [List.getElem?_eq_getElem hlt]; exact List.getElem_mem hlt)
        rw [hcn] at hc
        have HOK : Hid (∀ a ∈ [PutX.str [32], PutX.num cn], a.ok) := fun a ha => by
          simp only [List.mem_cons, List.not_mem_nil, or_false] at ha
          rcases ha with rfl | rfl
          · trivial
          · exact hc9
        have HTL : Hid ((putB [PutX.str [32], PutX.num cn]).length ≤ 3) := by
          have := dec_len cn hc9
          show _ ≤ _
          simp [putB, PutX.txt]
          omega
        have HSN : Hid (stopsN L (k + 1) = stopsN L k ++ (if k = 0 then putB [.str [115, 116, 111, 112, 115]] else []) ++ putB [.str [32], .num cn]) := by
          show stopsN L k ++ _ ++ putB [.str [32], .num (L[k]?.getD 0).toNat] = _
          rw [hcn]
          rfl
        have hkz : (k : Int) < (L.length : Int) := by omega
        have hwk : IntKind.i64.wrap ((k : Int) + 1) = ((k + 1 : Nat) : Int) := by rw [wrap_in (by omega) (by omega)]; rfl
        clear hp hcn
        by_cases k0 : k = 0
        · subst k0
          gi_wp2_with (first
            | ((try refine ⟨trivial, ?_⟩); gi_at_call 38; have hput := (HPS.out.below (below1 wn (.cells #[.iface 9 (.string ⟨#[32]⟩), .iface 3 (.int .i64 (cn : Int))] 20))).put (xs := [.str [32], .num cn]) (n := 2) (cap := 2) (heap_alloc_new _ _) rfl (by decide) HOK.out (by have h1 := HTL.out; have h2 := HLK2.out; omega); refine (callsIn_wide.2 hput).mono ?_; clear hput; rintro e wp ⟨rfl, hpn, -⟩; have HPT := Lib.hid hpn; clear hpn; clear s0 s1 s2 s3 s4 s5 s6 s7 s8 c0; obtain ⟨⟨s0, s1, s2, s3, s4, s5, s6, s7, s8⟩, c0⟩ := HC.out _ _ HPT.out)
            | ((try refine ⟨trivial, ?_⟩); gi_at_call 38; refine (callsIn_wide.2 ((HPK.out.below (below1 _ _)).word [115, 116, 111, 112, 115] (heap_alloc_new _ _) (by have := HLK.out; omega) (by decide))).mono ?_; rintro e wn ⟨rfl, hpn, -⟩; have HPS := Lib.hid hpn; clear hpn; clear s0 s1 s2 s3 s4 s5 s6 s7 s8 c0; obtain ⟨⟨s0, s1, s2, s3, s4, s5, s6, s7, s8⟩, c0⟩ := HC.out _ _ HPS.out))
          exact ⟨⟨0 + 1, by omega, rfl, by rw [HSN.out, if_pos trivial, ← List.append_assoc, ← List.append_assoc]; exact HPT.out⟩, by simp [intOf]; omega⟩
        · have k0' : ¬ (k : Int) = 0 := by omega
          gi_wp2_with ((try refine ⟨trivial, ?_⟩); gi_at_call 38; have hput := (HPK.out.below (below1 wr (.cells #[.iface 9 (.string ⟨#[32]⟩), .iface 3 (.int .i64 (cn : Int))] 20))).put (xs := [.str [32], .num cn]) (n := 2) (cap := 2) (heap_alloc_new _ _) rfl (by decide) HOK.out (by have h1 := HTL.out; have h2 := HLK.out; omega); refine (callsIn_wide.2 hput).mono ?_; clear hput; rintro e wp ⟨rfl, hpn, -⟩; have HPT := Lib.hid hpn; clear hpn; clear s0 s1 s2 s3 s4 s5 s6 s7 s8 c0; obtain ⟨⟨s0, s1, s2, s3, s4, s5, s6, s7, s8⟩, c0⟩ := HC.out _ _ HPT.out)
          exact ⟨⟨k + 1, by omega, rfl, by rw [HSN.out, if_neg k0, List.append_nil, ← List.append_assoc]; exact HPT.out⟩, by simp [intOf]; omega⟩
      · obtain rfl : k = L.length := by omega
        have HLT : Hid ((headT x ++ stopsT L).length ≤ 101) := by
          have h1 := HLK.out
          show _ ≤ _
          unfold stopsT
          rw [List.length_append] at h1 ⊢
          rw [List.length_append]
          split
          · simp only [List.length_nil]; omega
          · rw [show (putB [.str [10]]).length = 1 from rfl]; omega
        clear hp
        by_cases hL0 : L = []
        case' pos =>
          have hlz : ¬ (0 : Int) < (L.length : Int) := by rw [hL0]; decide
          have HQ : Hid (PrI w V (headT x ++ stopsT L) wr) := by
            have := HPK.out
            show PrI _ _ _ _
            unfold stopsT
            rwa [if_pos hL0, List.append_nil]
          clear hL0
          gi_wp2
        case' neg =>
          have hlz : (0 : Int) < (L.length : Int) := by
            have : L.length ≠ 0 := fun e => hL0 (List.length_eq_zero_iff.1 e)
            omega
          have hst' : headT x ++ stopsT L = headT x ++ stopsN L L.length ++ putB [.str [10]] := by
            unfold stopsT
            rw [if_neg hL0, ← List.append_assoc]
          have HSTT := Lib.hid hst'
          clear hL0 hst'
          gi_wp2_with ((try refine ⟨trivial, ?_⟩); gi_at_call 38; refine (callsIn_wide.2 ((HPK.out.below (below1 _ _)).word [10] (heap_alloc_new _ _) (by have := HLK.out; omega) (by decide))).mono ?_; rintro e wn ⟨rfl, hpn, -⟩; have HPN := Lib.hid hpn; clear hpn; clear s0 s1 s2 s3 s4 s5 s6 s7 s8 c0; obtain ⟨⟨s0, s1, s2, s3, s4, s5, s6, s7, s8⟩, c0⟩ := HC.out _ _ HPN.out)
          have HQ := HPN.out
          rw [← HSTT.out] at HQ
          replace HQ := Lib.hid HQ
          clear HPN
        all_goals (
          clear s0 s1 s2 s3 s4 s5 s6 s7 s8 c0 hlz
          gi_loopw [80] (fun i wr => ∃ k : Nat, k ≤ x.S.D.R ∧ i = .int .i64 (k : Int) ∧ PrI w V (headT x ++ stopsT L ++ barsN x.S.D k) wr) (fun i _ => x.S.D.R - (intOf i).toNat)
          case atStart => exact ⟨0, Nat.zero_le _, rfl, by rw [show headT x ++ stopsT L ++ barsN x.S.D 0 = headT x ++ stopsT L from List.append_nil _]; exact HQ.out⟩
          case round =>
            obtain ⟨i, hi, rfl, hp⟩ := hrel
            have HPI := Lib.hid hp
            have HLI : Hid ((headT x ++ stopsT L ++ barsN x.S.D i).length ≤ 2000) := by
              have h1 := HLT.out
              have h2 := barsN_len x.S.D i
              have h3 : i * (3 + 4 * x.S.D.C) ≤ 20 * 83 := Nat.mul_le_mul (by omega) (by omega)
              show _ ≤ _
              rw [List.length_append]
              omega
            obtain ⟨⟨s0, s1, s2, s3, s4, s5, s6, s7, s8⟩, c0⟩ := HC.out _ _ hp
            by_cases hli : i < x.S.D.R
            · have hiz : (i : Int) < (x.S.D.R : Int) := by omega
              have hwk : IntKind.i64.wrap ((i : Int) + 1) = ((i + 1 : Nat) : Int) := by rw [wrap_in (by omega) (by omega)]; rfl
              have gk : wr.cell? ⟨OB, i, none⟩ = some (.slice (some ⟨G i, 0, none⟩) x.S.D.C (K i)) := (HS.out.below hp.bel).rows.outer.cell hli
              have hm4 := hm.2.2.2
              have HBO : Hid (∀ a ∈ barA x.S.D i, a.ok) := fun a ha => by
                simp only [barA, List.mem_cons, List.not_mem_nil, or_false] at ha
                rcases ha with rfl | rfl | rfl <;> trivial
              have HBL : Hid ((putB (barA x.S.D i)).length ≤ 83) := by
                have h2 := glyL_len (x.S.D.X i) 0 x.S.D.C
                have e2 : (putB (barA x.S.D i)).length = 3 + (glyL (x.S.D.X i) 0 x.S.D.C).length := by simp [putB, barA, PutX.txt]; omega
                show _ ≤ _
                omega
              have HGL : Hid (∀ W, PrI w V (headT x ++ stopsT L ++ barsN x.S.D i) W → _) := fun W (h : PrI w V (headT x ++ stopsT L ++ barsN x.S.D i) W) => glyphs_ok (G i) 0 x.S.D.C (x.S.D.X i) x.S.D.C (K i) W ((HS.out.below h.bel).rows.cellsIn hli) ((HS.out.below h.bel).rows.row i hli).lt (by omega) hm4 (fun j => (HX.out i j).gly)
              have HPD : Hid (PrI w V (headT x ++ stopsT L ++ barsN x.S.D i) wr.drew) := hp.below (Below.refl _ _).drew
              clear hp
              gi_upto_region 19 with fail
              refine wpIn_region_i (S := fun W : World => PrI w V (headT x ++ stopsT L ++ barsN x.S.D i) W) 7 (by kernel_rfl) (HPD.out) (fun hHeld => ?_)
              refine kTI (v := ?_) 0 [] hHeld ?y1 ?_
              case y1 => (intro W hSw; obtain ⟨_, c0⟩ := HC.out _ _ hSw; go_simp; try with_reducible rfl)
              refine kSI 1 hHeld ?_
              refine kSI 2 hHeld ?_
              refine kSI 5 hHeld ?_
              try refine kNI ?_
              refine kOI 3 fun KQ hKQ => ?_
              go_simp
              first | refine ⟨trivial, ?_⟩ | refine ⟨fun _ => h1, ?_⟩ | skip
              gi_at_call 27
              refine (callsIn_wide.2 (HGL.out _ hHeld)).mono ?_
              rintro e w5 ⟨rfl, hb5⟩
              have hp5 := hHeld.below hb5
              clear hb5
              gi_wp2_with fail
              refine hKQ.out _ _ (hp5) ?_
              clear hHeld hKQ KQ
              intro hHeld
              try refine kNI ?_
              clear hp5
              refine kSI 4 hHeld ?_
              try refine kNI ?_
              refine kOI 6 fun KQ hKQ => ?_
              go_simp
              refine hKQ.out _ _ (hHeld.below (below1 _ _)) ?_
              clear hHeld hKQ KQ
              intro hHeld
              try refine kNI ?_
              have hsl := heap_alloc_new w5 (.cells ((barA x.S.D i).map PutX.val).toArray 20)
              refine kPI 7 fun KQ hKQ => ?_
              go_simp
              first | refine ⟨trivial, ?_⟩ | refine ⟨fun _ => h1, ?_⟩ | skip
              gi_at_call 38
              have hput := hHeld.put (xs := barA x.S.D i) (g := w5.heap.size) (n := 3) (cap := 3) hsl rfl (by decide) HBO.out (by have h1 := HLI.out; have h2 := HBL.out; omega)
              refine (callsIn_wide.2 hput).mono ?_
              clear hput hsl
              rintro e w6 ⟨rfl, hp6, -⟩
              have HP7 := Lib.hid hp6
              clear hp6
              gi_wp2_with fail
              refine hKQ.out _ _ ?_
              clear hKQ KQ
              try refine kNI ?_
              refine wpAnyI_done (by kernel_rfl) ?_ _
              refine NoPanic.normal ?_
              gi_wp2
              exact ⟨⟨i + 1, by omega, rfl, by rw [show barsN x.S.D (i + 1) = barsN x.S.D i ++ putB (barA x.S.D i) from rfl, ← List.append_assoc]; exact HP7.out⟩, by simp [intOf]; omega⟩
            · obtain rfl : i = x.S.D.R := by omega
              have HQ3 := Lib.hid hp
              gi_wp2_with ((try refine ⟨trivial, ?_⟩); gi_at_call 8; refine (callsIn_wide.2 (runs_call _ _)).mono ?_; rintro e wz ⟨rfl, rfl⟩)
              have hsh : shV x OB g cap (.slice sa (stopsI x.S.D.C x.S.T).length sc) = V := by
                rw [← HVV.out, ← HLE.out]
                unfold shV
                rw [hcr, hcc, hpd]
              have HSH := Lib.hid hsh
              have HSM := Lib.hid (allN_small x hR hC)
              clear hsh hp s0 s1 s2 s3 s4 s5 s6 s7 s8 c0
              rw [HVV.out]
              refine wpIn_rangeFunc_B 9 rfl h1 (gf := 26) (lb := #[.pointer (some ⟨wr.heap.size, 0, none⟩)]) rfl trivial (enters_of Tryz.func26 (by kernel_rfl) rfl)
                (runs_stops (n - 1) (by omega) wr.heap.size B OB g cap x (.slice sa (stopsI x.S.D.C x.S.T).length sc) G K G' hm HX.out wr) (below1 wr _) (fun _ => rfl)
                (fun pre W => PrI w V (headT x ++ stopsT L ++ barsN x.S.D x.S.D.R ++ runsT pre) W ∧ W.heap[wr.heap.size]? = some (.cells V 30 (0, 0)))
                ?hI ?hGd ?h0 (fun r => .cells (rnC r) 53) (fun r => ⟨_, _, rfl⟩) ?assign ?body ?done
              case hI =>
                rintro pre X Y rw_ ⟨i1, i2⟩ hgr hrow
                exact ⟨i1.own (by have := HQ3.out.bel.size; simp; omega) hgr hrow, cells_kept hgr hrow i2⟩
              case hGd =>
                rintro pre A ⟨i1, i2⟩
                exact ⟨by rw [HSH.out]; exact i2, HS.out.below i1.bel⟩
              case h0 => exact ⟨by rw [show runsT [] = [] from rfl, List.append_nil]; exact HQ3.out.below (below1 _ _), heap_alloc_new _ _⟩
              case assign =>
                intro l r W K hK
                unfold runV
                gi_wp2
                revert hK
                unfold runV rnC
                go_simp
                try exact fun h => h
              case body =>
                rintro l pre r b W hb ⟨i1, i2⟩ hT hbx
                unfold runV
                have r3 : W.cell? ⟨b, 3, none⟩ = some (.int .i64 r.look) := cell_row hbx 3
                have r4 : W.cell? ⟨b, 4, none⟩ = some (.bool r.gd) := cell_row hbx 4
                obtain ⟨_, c0⟩ := HC.out _ _ i1
                have hmem : r ∈ allN x.S.D x.look := hT.subset (by simp)
                have hsm := HSM.out.1 r hmem
                have hpl := hT.length_le
                rw [List.length_append] at hpl
                have hlp : (headT x ++ stopsT L ++ barsN x.S.D x.S.D.R ++ runsT pre).length ≤ 40000 := by
                  have h1 := runsT_len pre (fun q hq => HSM.out.1 q (hT.subset (List.mem_append_left _ hq)))
                  have h2 := HLI.out
                  have h3 := HSM.out.2
                  rw [List.length_append]
                  omega
                have hbs : w.heap.size + 1 + 1 < wr.heap.size := block_lt HQ3.out.clo
                rw [World.size_alloc] at hb
                have HT := Lib.hid hT
                have HI1 := Lib.hid i1
                have HI2 := Lib.hid i2
                have HBX := Lib.hid hbx
                have HSR := Lib.hid hsm
                have HLQ0 := Lib.hid hlp
                have HBS := Lib.hid hbs
                have HBB := Lib.hid hb
                clear hT i1 i2 hbx hsm hlp hmem hpl hbs hb
                have h3c : (r.look = 0 ∧ r.gd = false) ∨ (r.look = 0 ∧ r.gd = true) ∨ ¬ r.look = 0 := by
                  cases r.gd <;> simp <;> omega
                rcases h3c with ⟨hl, hgd⟩ | ⟨hl, hgd⟩ | hl
                case' inl =>
                  have HRT : Hid (runT r = []) := by
                    show _ = _
                    unfold runT
                    rw [if_pos ⟨hl, hgd⟩]
                  rw [hl] at r3
                  rw [hgd] at r4
                  clear hl hgd
                  gi_wp2
                  refine ⟨KeepsFrom.refl _ _, trivial, ?_, HI2.out⟩
                  rw [runsT_snoc, HRT.out, List.append_nil]
                  exact HI1.out
                case' inr.inl =>
                  have HRT : Hid (¬ (r.look = 0 ∧ r.gd = false)) := fun e => by rw [hgd] at e; cases e.2
                  rw [hl] at r3
                  rw [hgd] at r4
                  clear hl hgd
                  gi_upto_region 24 with fail
                case' inr.inr =>
                  have HRT : Hid (¬ (r.look = 0 ∧ r.gd = false)) := fun e => hl e.1
                  have hlb : (r.look == 0) = false := beq_eq_false_iff_ne.2 hl
                  clear hl
                  gi_upto_region 24 with fail
                all_goals (
                  clear r3 r4 c0
                  have HS0 : Hid (PrI w V (headT x ++ stopsT L ++ barsN x.S.D x.S.D.R ++ runsT pre) W.drew ∧ W.drew.heap[wr.heap.size]? = some (.cells V 30 (0, 0)) ∧ W.drew.heap[b]? = some (.cells (rnC r) 53 (0, 0)) ∧ FrU (w.heap.size + 1) W W.drew ∧ W.heap.size ≤ W.drew.heap.size) := ⟨HI1.out.below (Below.refl _ _).drew, HI2.out, HBX.out, FrU.below (Below.refl _ _).drew, Nat.le_refl _⟩
                  have HST5 : Hid (∀ A A', (PrI w V (headT x ++ stopsT L ++ barsN x.S.D x.S.D.R ++ runsT pre) A ∧ A.heap[wr.heap.size]? = some (.cells V 30 (0, 0)) ∧ A.heap[b]? = some (.cells (rnC r) 53 (0, 0)) ∧ FrU (w.heap.size + 1) W A ∧ W.heap.size ≤ A.heap.size) → Below A.heap.size A A' → (PrI w V (headT x ++ stopsT L ++ barsN x.S.D x.S.D.R ++ runsT pre) A' ∧ A'.heap[wr.heap.size]? = some (.cells V 30 (0, 0)) ∧ A'.heap[b]? = some (.cells (rnC r) 53 (0, 0)) ∧ FrU (w.heap.size + 1) W A' ∧ W.heap.size ≤ A'.heap.size)) := fun A A' h hb => ⟨h.1.below hb, (hb.block _ (block_lt h.2.1)).trans h.2.1, (hb.block _ (block_lt h.2.2.1)).trans h.2.2.1, h.2.2.2.1.trans (FrU.below hb), Nat.le_trans h.2.2.2.2 hb.size⟩
                  refine wpIn_region_r (S := fun A : World => PrI w V (headT x ++ stopsT L ++ barsN x.S.D x.S.D.R ++ runsT pre) A ∧ A.heap[wr.heap.size]? = some (.cells V 30 (0, 0)) ∧ A.heap[b]? = some (.cells (rnC r) 53 (0, 0)) ∧ FrU (w.heap.size + 1) W A ∧ W.heap.size ≤ A.heap.size) 18 (by kernel_rfl) (by kernel_rfl) (HS0.out) (fun hHeld => ?_)
                  refine kTR (v := ?_) 0 [] hHeld ?y1 ?_
                  case y1 => (intro W hSw; obtain ⟨_, c0⟩ := HC.out _ _ hSw.1; have q0 := cell_row hSw.2.2.1 0; have q1 := cell_row hSw.2.2.1 1; have q2 := cell_row hSw.2.2.1 2; have q3 := cell_row hSw.2.2.1 3; simp only [rnC, List.getElem?_toArray, List.getElem?_cons_zero, List.getElem?_cons_succ] at q0 q1 q2 q3; go_simp; try with_reducible rfl)
                  refine kSR 1 hHeld ?_
                  refine kTR (v := ?_) 2 [17, 3] hHeld ?y3 ?_
                  case y3 => (intro W hSw; obtain ⟨_, c0⟩ := HC.out _ _ hSw.1; have q0 := cell_row hSw.2.2.1 0; have q1 := cell_row hSw.2.2.1 1; have q2 := cell_row hSw.2.2.1 2; have q3 := cell_row hSw.2.2.1 3; simp only [rnC, List.getElem?_toArray, List.getElem?_cons_zero, List.getElem?_cons_succ] at q0 q1 q2 q3; go_simp; try with_reducible rfl)
                  refine kSR 3 hHeld ?_
                  refine kSR 4 hHeld ?_
                  try refine kNR ?_
                  refine kSR 5 hHeld ?_
                  refine kTR (v := ?_) 6 [17, 7] hHeld ?y7 ?_
                  case y7 => (intro W hSw; obtain ⟨_, c0⟩ := HC.out _ _ hSw.1; have q0 := cell_row hSw.2.2.1 0; have q1 := cell_row hSw.2.2.1 1; have q2 := cell_row hSw.2.2.1 2; have q3 := cell_row hSw.2.2.1 3; simp only [rnC, List.getElem?_toArray, List.getElem?_cons_zero, List.getElem?_cons_succ] at q0 q1 q2 q3; go_simp; try with_reducible rfl)
                  refine kSR 7 hHeld ?_
                  refine kSR 8 hHeld ?_
                  refine kSR 9 hHeld ?_
                  try refine kNR ?_
                  refine kTR (v := ?_) 10 [17, 11] hHeld ?y11 ?_
                  case y11 => (intro W hSw; obtain ⟨_, c0⟩ := HC.out _ _ hSw.1; have q0 := cell_row hSw.2.2.1 0; have q1 := cell_row hSw.2.2.1 1; have q2 := cell_row hSw.2.2.1 2; have q3 := cell_row hSw.2.2.1 3; simp only [rnC, List.getElem?_toArray, List.getElem?_cons_zero, List.getElem?_cons_succ] at q0 q1 q2 q3; go_simp; try with_reducible rfl)
                  refine kSR 11 hHeld ?_
                  refine kSR 12 hHeld ?_
                  refine kSR 13 hHeld ?_
                  refine kTR (v := ?_) 14 [15] hHeld ?y15 ?_
                  case y15 => (intro W hSw; obtain ⟨_, c0⟩ := HC.out _ _ hSw.1; have q0 := cell_row hSw.2.2.1 0; have q1 := cell_row hSw.2.2.1 1; have q2 := cell_row hSw.2.2.1 2; have q3 := cell_row hSw.2.2.1 3; simp only [rnC, List.getElem?_toArray, List.getElem?_cons_zero, List.getElem?_cons_succ] at q0 q1 q2 q3; go_simp; try with_reducible rfl)
                  try refine kNR ?_
                  refine kOR 15 fun KQ hKQ => ?_
                  go_simp
                  go_at_call 40
                  refine (names_all ⟨HSR.out.2.2.2.1, HSR.out.2.2.2.2⟩ _ t fr (HNM.out _ hHeld.1.bel)).mono ?_
                  rintro e w5 ⟨rfl, hb5⟩
                  have hs5 := HST5.out _ _ hHeld hb5
                  clear hb5
                  go_wp2_with fail
                  refine hKQ.out _ _ (hs5) ?_
                  clear hHeld hKQ KQ
                  intro hHeld
                  try refine kNR ?_
                  clear hs5
                  refine kSR 16 hHeld ?_
                  try refine kNR ?_
                  refine kOR 17 fun KQ hKQ => ?_
                  go_simp
                  refine hKQ.out _ _ (HST5.out _ _ hHeld (below1 _ _)) ?_
                  clear hHeld hKQ KQ
                  intro hHeld
                  try refine kNR ?_
                  have hsl := heap_alloc_new w5 (.cells ((runA r).map PutX.val).toArray 20)
                  refine kPR 18 fun KQ hKQ => ?_
                  go_simp
                  go_at_call 38
                  have hput := hHeld.1.put (xs := runA r) (g := w5.heap.size) (n := 7) (cap := 7) hsl rfl (by decide) (runA_ok r HSR.out).1 (by have h1 := (runA_ok r HSR.out).2; have h2 := HLQ0.out; omega)
                  refine hput.mono ?_
                  clear hput hsl
                  rintro e w6 ⟨rfl, hp6, hf6, hz6⟩
                  have HP6x := Lib.hid hp6
                  have HP6xf := Lib.hid (hHeld.2.2.2.1.trans hf6)
                  have HP6xs := Lib.hid (Nat.le_trans hHeld.2.2.2.2 hz6)
                  clear hp6 hf6 hz6
                  go_wp2_with fail
                  refine hKQ.out _ _ ?_
                  clear hKQ KQ
                  try refine kNR ?_
                  refine wpAnyR_done (by kernel_rfl) ?_ _
                  refine NoPanic.normal ?_
                  have hb6 := HP6xf.out b _ HBX.out (by have h1 := HBS.out; have h2 := HBB.out; omega) (fun c t fr e => by injection e with e1 e2 e3; rw [← e2]; decide)
                  have r4 : w6.cell? ⟨b, 4, none⟩ = some (.bool r.gd) := cell_row hb6 4
                  obtain ⟨_, c0⟩ := HC.out _ _ HP6x.out
                  have HLQ : Hid ((headT x ++ stopsT L ++ barsN x.S.D x.S.D.R ++ runsT pre ++ putB (runA r)).length ≤ 50000 ∧ (headT x ++ stopsT L ++ barsN x.S.D x.S.D.R ++ runsT pre ++ putB (runA r) ++ putB [.str [32, 103, 117, 97, 114, 100]]).length ≤ 50010) := by
                    have h1 := (runA_ok r HSR.out).2
                    have h2 := HLQ0.out
                    have e1 : (putB [.str [32, 103, 117, 97, 114, 100]]).length = 6 := rfl
                    constructor
                    · rw [List.length_append]; omega
                    · rw [List.length_append, List.length_append, e1]; omega
                  have HFIN : Hid (∀ (l' : List UInt8) (A : World), l' = headT x ++ stopsT L ++ barsN x.S.D x.S.D.R ++ runsT (pre ++ [r]) → PrI w V l' A → FrU (w.heap.size + 1) W A → W.heap.size ≤ A.heap.size → KeepsFrom (wr.alloc (.cells V 30)).heap.size W A ∧ True ∧ PrI w V (headT x ++ stopsT L ++ barsN x.S.D x.S.D.R ++ runsT (pre ++ [r])) A ∧ A.heap[wr.heap.size]? = some (.cells V 30 (0, 0))) := fun l' A hl hp hf hz => by
                    subst hl
                    refine ⟨⟨hz, fun k o hB hk ho => hf k o hk (by have h1 := HBS.out; rw [World.size_alloc] at hB; omega) (fun c t fr e => by subst e; cases ho)⟩, trivial, hp, hf _ _ HI2.out (by have h1 := HBS.out; omega) (fun c t fr e => by injection e with e1 e2 e3; rw [← e2]; decide)⟩
                  have HRU : Hid (headT x ++ stopsT L ++ barsN x.S.D x.S.D.R ++ runsT (pre ++ [r]) = headT x ++ stopsT L ++ barsN x.S.D x.S.D.R ++ runsT pre ++ putB (runA r) ++ (if r.gd = true then putB [.str [32, 103, 117, 97, 114, 100]] else []) ++ putB [.str [10]]) := by
                    show _ = _
                    rw [runsT_snoc]
                    unfold runT
                    rw [if_neg HRT.out]
                    simp only [List.append_assoc]
                  clear hb6 HST5 HS0
                  cases hgd : r.gd
                  · rw [hgd] at r4
                    have hru := HRU.out
                    rw [hgd, if_neg (by decide), List.append_nil] at hru
                    have HRU2 := Lib.hid hru
                    clear hru hgd HRU
                    gi_wp2_with ((try refine ⟨trivial, (fun h => by cases h), ?_⟩); gi_at_call 38; refine (CallsIn.inRound l (callsIn_wide.2 ((HP6x.out.below (below1 _ _)).word [10] (heap_alloc_new _ _) (by have := HLQ.out; omega) (by decide)))).mono ?_; rintro e wq ⟨rfl, hpn, hfn, hsn⟩; rw [World.size_alloc] at hsn; have HP9x := Lib.hid hpn; have HP9xf := Lib.hid ((HP6xf.out.trans (FrU.below (below1 _ _))).trans hfn); have HP9xs := Lib.hid (Nat.le_trans HP6xs.out (Nat.le_trans (Nat.le_succ _) hsn)); clear hpn hfn hsn; clear c0; obtain ⟨_, c0⟩ := HC.out _ _ HP9x.out)
                    exact HFIN.out _ _ HRU2.out.symm HP9x.out HP9xf.out HP9xs.out
                  · rw [hgd] at r4
                    have hru := HRU.out
                    rw [hgd, if_pos rfl] at hru
                    have HRU2 := Lib.hid hru
                    clear hru hgd HRU
                    gi_wp2_with (first
                      | ((try refine ⟨trivial, (fun h => by cases h), ?_⟩); gi_at_call 38; refine (CallsIn.inRound l (callsIn_wide.2 ((HP8x.out.below (below1 _ _)).word [10] (heap_alloc_new _ _) (by have := HLQ.out; omega) (by decide)))).mono ?_; rintro e wq ⟨rfl, hpn, hfn, hsn⟩; rw [World.size_alloc] at hsn; have HP9x := Lib.hid hpn; have HP9xf := Lib.hid ((HP8xf.out.trans (FrU.below (below1 _ _))).trans hfn); have HP9xs := Lib.hid (Nat.le_trans HP8xs.out (Nat.le_trans (Nat.le_succ _) hsn)); clear hpn hfn hsn; clear c0; obtain ⟨_, c0⟩ := HC.out _ _ HP9x.out)
                      | ((try refine ⟨trivial, (fun h => by cases h), ?_⟩); gi_at_call 38; refine (CallsIn.inRound l (callsIn_wide.2 ((HP6x.out.below (below1 _ _)).word [32, 103, 117, 97, 114, 100] (heap_alloc_new _ _) (by have := HLQ.out; omega) (by decide)))).mono ?_; rintro e wq ⟨rfl, hpn, hfn, hsn⟩; rw [World.size_alloc] at hsn; have HP8x := Lib.hid hpn; have HP8xf := Lib.hid ((HP6xf.out.trans (FrU.below (below1 _ _))).trans hfn); have HP8xs := Lib.hid (Nat.le_trans HP6xs.out (Nat.le_trans (Nat.le_succ _) hsn)); clear hpn hfn hsn; clear c0; obtain ⟨_, c0⟩ := HC.out _ _ HP8x.out))
                    exact HFIN.out _ _ HRU2.out.symm HP9x.out HP9xf.out HP9xs.out)
              case done =>
                rintro D ys W hD rfl ⟨i1, i2⟩ hd
                have hpr := HPR.out
                rw [List.append_assoc, List.append_assoc] at hpr
                have hpr2 : headT x ++ stopsT L ++ barsN x.S.D x.S.D.R ++ runsT (allN x.S.D x.look) = printL x := by rw [hpr, List.append_assoc, List.append_assoc]
                rw [hpr2] at i1
                have hne : printL x ≠ [] := by rw [hpr]; exact headT_ne x _
                have hbs : w.heap.size + 1 + 1 < wr.heap.size := block_lt HQ3.out.clo
                have HD1 := Lib.hid hd
                have HI1 := Lib.hid i1
                rw [World.size_alloc] at hD
                clear hd i1 i2 hpr hpr2
                gi_wp2_with ((try refine ⟨trivial, ?_⟩); gi_at_call 29; refine (callsIn_wide.2 (string_k HI1.out.bld hne)).mono ?_; rintro e wS ⟨rfl, hbS, hfS⟩)
                have hdS := hfS D _ HD1.out (by omega) (fun c t fr e => by cases e)
                have hbl : Below w.heap.size w wS := HI1.out.bel.trans (hbS.mono (Nat.le_succ _))
                have hh := grownBy_putObj' wS D (.deferred none)
                refine ⟨by simp, .inl ⟨_, _, rfl, run_takeDeferred hdS, ?_⟩⟩
                exact ⟨_, by simp [results, Tryz.results14, go_sem], rfl, hbl.grown hh hbl.size (fun k e => by cases e; omega)⟩))
theorem print_ok : PrintOk := fun x OB g cap sv G K G' B w hS hm hR hC hi hx t fr hg => callsIn_wide.1 (print_in 5 (Nat.le_refl _) x OB g cap sv G K G' B w hS hm hR hC hi hx t fr hg)
end Go.Proofs.YtliacdaddncmaaaGreatDoor
