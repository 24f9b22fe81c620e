/- The walk of ScriptsBack. -/
import Derived.Test.YtfkbgnonkgaobaaDoorParUse
import Derived.Test.YtfkbgnonkgaobaaDoorLawPrints
namespace Go.Proofs.YtfkbgnonkgaobaaDoor
open Go.RowKit
set_option linter.unusedSimpArgs false
set_option linter.unusedVariables false

set_option maxRecDepth 100000 in
set_option maxHeartbeats 2000000 in
theorem law_back (A : Option Addr) (m c : Nat) (s : ByteArray) (L : List Vz.Stp) (w : World) (hI : Steps w.heap.size w A m L) (hm : m ≤ maxLen) (ha : Aid w) :
    Calls Tryd.prog 5 #[.slice A m c, .string s] w fun e w' => e = .returned (.bool true) ∧ Below w.heap.size w w' := by
  have HI := Lib.hid hI
  have HAI := Lib.hid ha
  have HML : Hid (m = L.length) := hI.1
  have HF := Lib.hid (few_any A m c L w hI hm)
  have HA := Lib.hid (fun W (hb : Below w.heap.size w W) => awake_any W (ha.below hb).1)
  clear hI hm ha
  go_enter Tryd.func5, Tryd.ntmps5
  go_wp2_with fail
  refine HF.out.mono ?_
  rintro e w1 ⟨⟨fb, rfl, hf⟩, hb1⟩
  cases fb with
  | false =>
    clear hf
    go_wp2_with (go_at_call 8; refine (HA.out _ hb1).mono ?_; rintro e w2 ⟨rfl, hb2⟩)
    go_ret
    exact ⟨rfl, below_join hb1 hb2⟩
  | true =>
  obtain ⟨hm30, htx⟩ := hf rfl
  clear hf
  have ht : ∀ x ∈ L, x.text.length ≤ 100 := fun x hx => by
    obtain ⟨j, hj, rfl⟩ := List.getElem_of_mem hx
    have := htx j (by have := HML.out; omega)
    rwa [List.getElem?_eq_getElem hj] at this
  have HPR := Lib.hid (fun W (hb : Below w.heap.size w W) => print_any A m c L W ((HI.out.below hb (Nat.le_refl _)).more hb.size) hm30 ht (HAI.out.below hb).1)
  have HT := Lib.hid ht
  have hL60 : L.length ≤ 60 := by have := HML.out; omega
  have HSM := Lib.hid (fun A2 c2 W (hb : Below w.heap.size w W) (hS : Steps W.heap.size W A2 L.length L) => (same_any A2 A L.length c2 m c L L W hS ((HI.out.below hb (Nat.le_refl _)).more hb.size) (by omega)).mono (fun e w' h => (⟨by rw [h.1, decide_eq_true (rfl : L = L)], h.2⟩ : e = .returned (.bool true) ∧ Below W.heap.size W w')))
  clear htx ht
  by_cases hs6 : s.size ≤ 600
  · have hs7 : ¬ ((600 : Int) < (s.size : Int)) := by omega
    obtain ⟨q1, q2⟩ := small_text s hs6
    have HPS := Lib.hid (fun L' h W (hb : Below w.heap.size w W) => parse_ok s q1 q2 L' h W (HAI.out.below hb))
    have HPN := Lib.hid (fun h W (hb : Below w.heap.size w W) => parse_no s q1 q2 h W (HAI.out.below hb))
    have HPB := Lib.hid (fun L' h A' c' W (hb : Below w.heap.size w W) hI' => print_back s hs6 L' h A' c' W hI' (HAI.out.below hb).1)
    clear q1 q2
    cases hal : L.all Vz.Stp.right with
    | false =>
      have hpv : printV L = .tuple #[.string ⟨#[]⟩, .int .i64 1] := by unfold printV; rw [hal]; rfl
      rw [hpv] at HPR
      clear hpv hal
      cases hps : Vz.parseL (Vz.linesOf s.data.toList) with
      | none =>
        have HN := Lib.hid hps
        clear hps
        go_wp2_with (first
          | (go_at_call 8; refine (HA.out _ kD).mono ?_; rintro e wE ⟨rfl, hbE⟩; have kE := below_join kD hbE)
          | (go_at_call 14; refine (HPN.out HN.out _ kA).mono ?_; rintro e wD ⟨A3, c3, rfl, hbD⟩; have kD := below_join kA hbD)
          | (go_at_call 13; refine (HPR.out _ hb1).mono ?_; rintro e wA ⟨rfl, hbA⟩; have kA := below_join hb1 hbA))
        go_ret
        exact ⟨rfl, kE⟩
      | some M =>
        have HN := Lib.hid hps
        clear hps
        go_wp2_with (first
          | (go_at_call 8; refine (HA.out _ kE).mono ?_; rintro e wF ⟨rfl, hbF⟩; have kF := below_join kE hbF)
          | (go_at_call 13; refine (HPB.out M HN.out A3 c3 _ kD hS3).mono ?_; rintro e wE ⟨rfl, hbE⟩; have kE := below_join kD hbE)
          | (go_at_call 14; refine (HPS.out M HN.out _ kA).mono ?_; rintro e wD ⟨A3, c3, rfl, hS3, hbD⟩; have kD := below_join kA hbD)
          | (go_at_call 13; refine (HPR.out _ hb1).mono ?_; rintro e wA ⟨rfl, hbA⟩; have kA := below_join hb1 hbA))
        go_ret
        exact ⟨rfl, kF⟩
    | true =>
      obtain ⟨b1, b2, b3⟩ := back_text L hal HT.out hL60
      have hpv : printV L = .tuple #[.string ⟨(linesL L).toArray⟩, .int .i64 0] := by unfold printV; rw [hal]; rfl
      rw [hpv] at HPR
      generalize (⟨(linesL L).toArray⟩ : ByteArray) = T at HPR b1 b2 b3
      have HPT := Lib.hid (fun W (hb : Below w.heap.size w W) => parse_ok T b1 b2 L b3 W (HAI.out.below hb))
      clear hpv hal b1 b2 b3
      cases hps : Vz.parseL (Vz.linesOf s.data.toList) with
      | none =>
        have HN := Lib.hid hps
        clear hps
        go_wp2_with (first
          | (go_at_call 8; refine (HA.out _ kD).mono ?_; rintro e wE ⟨rfl, hbE⟩; have kE := below_join kD hbE)
          | (go_at_call 14; refine (HPN.out HN.out _ kC).mono ?_; rintro e wD ⟨A3, c3, rfl, hbD⟩; have kD := below_join kC hbD)
          | (go_at_call 16; refine (HSM.out A2 c2 _ kB hS2).mono ?_; rintro e wC ⟨rfl, hbC⟩; have kC := below_join kB hbC)
          | (go_at_call 14; refine (HPT.out _ kA).mono ?_; rintro e wB ⟨A2, c2, rfl, hS2, hbB⟩; have kB := below_join kA hbB)
          | (go_at_call 13; refine (HPR.out _ hb1).mono ?_; rintro e wA ⟨rfl, hbA⟩; have kA := below_join hb1 hbA))
        go_ret
        exact ⟨rfl, kE⟩
      | some M =>
        have HN := Lib.hid hps
        clear hps
        go_wp2_with (first
          | (go_at_call 8; refine (HA.out _ kE).mono ?_; rintro e wF ⟨rfl, hbF⟩; have kF := below_join kE hbF)
          | (go_at_call 13; refine (HPB.out M HN.out A3 c3 _ kD hS3).mono ?_; rintro e wE ⟨rfl, hbE⟩; have kE := below_join kD hbE)
          | (go_at_call 14; refine (HPS.out M HN.out _ kC).mono ?_; rintro e wD ⟨A3, c3, rfl, hS3, hbD⟩; have kD := below_join kC hbD)
          | (go_at_call 16; refine (HSM.out A2 c2 _ kB hS2).mono ?_; rintro e wC ⟨rfl, hbC⟩; have kC := below_join kB hbC)
          | (go_at_call 14; refine (HPT.out _ kA).mono ?_; rintro e wB ⟨A2, c2, rfl, hS2, hbB⟩; have kB := below_join kA hbB)
          | (go_at_call 13; refine (HPR.out _ hb1).mono ?_; rintro e wA ⟨rfl, hbA⟩; have kA := below_join hb1 hbA))
        go_ret
        exact ⟨rfl, kF⟩
  · have hs7 : (600 : Int) < (s.size : Int) := by omega
    go_wp2_with (go_at_call 8; refine (HA.out _ hb1).mono ?_; rintro e w2 ⟨rfl, hb2⟩)
    go_ret
    exact ⟨rfl, below_join hb1 hb2⟩
end Go.Proofs.YtfkbgnonkgaobaaDoor
