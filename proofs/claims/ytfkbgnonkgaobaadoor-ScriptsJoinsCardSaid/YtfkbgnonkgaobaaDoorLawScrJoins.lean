/- The walk of ScriptsJoins. -/
import Derived.Test.YtfkbgnonkgaobaaDoorParJoin
import Derived.Test.YtfkbgnonkgaobaaDoorLawPrints
namespace Go.Proofs.YtfkbgnonkgaobaaDoor
open Go.RowKit Go.Deep
set_option linter.unusedSimpArgs false
set_option linter.unusedVariables false

theorem print_more (A : Option Addr) (m c : Nat) (L : List Vz.Stp) (w : World) (hI : Steps w.heap.size w A m L) (hm : m ≤ 60) (ht : ∀ x ∈ L, x.text.length ≤ 100) (hp : PowTab w) :
    Calls Tryd.prog 13 #[.slice A m c] w fun e w' => e = .returned (printV L) ∧ Below w.heap.size w w' := by
  refine print_gen A m c L w hI (by omega) (fun x hx => Nat.le_trans (ht x hx) (by omega)) (fun k hk => ?_) hp
  have h9 := linesL_len (L.take k) hk (fun y hy => ht y (List.mem_of_mem_take hy))
  have h8 : (L.take k).length ≤ 60 := by have := hI.1; rw [List.length_take]; omega
  omega
theorem printV_yes {L : List Vz.Stp} (h : L.all Vz.Stp.right = true) : printV L = .tuple #[.string ⟨(linesL L).toArray⟩, .int .i64 0] := by unfold printV; rw [h]; rfl
theorem printV_no {L : List Vz.Stp} (h : L.all Vz.Stp.right = false) : printV L = .tuple #[.string ⟨#[]⟩, .int .i64 1] := by unfold printV; rw [h]; rfl
theorem all_app (K L : List Vz.Stp) : (K ++ L).all Vz.Stp.right = (K.all Vz.Stp.right && L.all Vz.Stp.right) := by simp
theorem lines_app (K L : List Vz.Stp) : (⟨(linesL (K ++ L)).toArray⟩ : ByteArray) = ⟨(linesL K).toArray⟩ ++ ⟨(linesL L).toArray⟩ := by
  apply ByteArray.ext
  rw [ByteArray.data_append]
  unfold linesL
  simp
theorem few_texts {m : Nat} {L : List Vz.Stp} (hm : m = L.length) (h : ∀ j, j < m → (L[j]?.getD Vz.Stp.nil).text.length ≤ 100) : ∀ x ∈ L, x.text.length ≤ 100 := fun x hx => by
  obtain ⟨j, hj, rfl⟩ := List.getElem_of_mem hx
  have := h j (by omega)
  rwa [List.getElem?_eq_getElem hj] at this

set_option maxRecDepth 100000 in
set_option maxHeartbeats 4000000 in
theorem law_joins (A A2 : Option Addr) (m c n d : Nat) (L M : List Vz.Stp) (w : World) (hI : Steps w.heap.size w A m L) (hm : m ≤ maxLen) (hJ : Steps w.heap.size w A2 n M) (hn : n ≤ maxLen) (ha : Aid w) :
    Calls Tryd.prog 6 #[.slice A m c, .slice A2 n d] w fun e w' => e = .returned (.bool true) ∧ Below w.heap.size w w' := by
  have HI := Lib.hid hI
  have HJ := Lib.hid hJ
  have HAI := Lib.hid ha
  have HML : Hid (m = L.length) := hI.1
  have HNL : Hid (n = M.length) := hJ.1
  have HF := Lib.hid (few_any A m c L w hI hm)
  have HG := Lib.hid (fun W (hb : Below w.heap.size w W) => few_any A2 n d M W ((hJ.below hb (Nat.le_refl _)).more hb.size) hn)
  have HA := Lib.hid (fun W (hb : Below w.heap.size w W) => awake_any W (ha.below hb).1)
  clear hI hm hJ hn ha
  go_enter Tryd.func6, Tryd.ntmps6
  go_wp2_with fail
  refine HF.out.mono ?_
  rintro e w1 ⟨⟨fb, rfl, hf⟩, hb1⟩
  cases fb with
  | false =>
    clear hf
    go_wp2_with (go_at_call 8; refine (HA.out _ hb1).mono ?_; rintro e w2 ⟨rfl, hb2⟩)
    go_ret
    exact ⟨rfl, below_join hb1 hb2⟩
  | true =>
  obtain ⟨hm30, htx⟩ := hf rfl
  have HTX := Lib.hid (few_texts HML.out htx)
  clear hf htx
  go_wp2_with fail
  refine (HG.out _ hb1).mono ?_
  rintro e w2 ⟨⟨gb, rfl, hg⟩, hb2⟩
  have k2 := below_join hb1 hb2
  clear hb2
  cases gb with
  | false =>
    clear hg
    go_wp2_with (go_at_call 8; refine (HA.out _ k2).mono ?_; rintro e w3 ⟨rfl, hb3⟩)
    go_ret
    exact ⟨rfl, below_join k2 hb3⟩
  | true =>
  obtain ⟨hn30, htx⟩ := hg rfl
  have HTY := Lib.hid (few_texts HNL.out htx)
  clear hg htx
  have HPR := Lib.hid (fun W (hb : Below w.heap.size w W) => print_more A m c L W ((HI.out.below hb (Nat.le_refl _)).more hb.size) (by omega) HTX.out (HAI.out.below hb).1)
  have HPS := Lib.hid (fun W (hb : Below w.heap.size w W) => print_more A2 n d M W ((HJ.out.below hb (Nat.le_refl _)).more hb.size) (by omega) HTY.out (HAI.out.below hb).1)
  have htz : ∀ x ∈ L ++ M, x.text.length ≤ 100 := fun x hx => by
    rcases List.mem_append.1 hx with h | h
    · exact HTX.out x h
    · exact HTY.out x h
  have hlen : (L ++ M).length ≤ 60 := by have := HML.out; have := HNL.out; simp; omega
  have HPA := Lib.hid (fun A9 c9 W (hb : Below w.heap.size w W) (hS : Steps W.heap.size W A9 (m + n) (L ++ M)) => print_more A9 (m + n) c9 (L ++ M) W hS (by omega) htz (HAI.out.below hb).1)
  have HMN : Hid (m + n = (L ++ M).length) := by show _ = _; have := HML.out; have := HNL.out; simp; omega
  have HI1 := Lib.hid (fun W (hb : Below w.heap.size w W) => HI.out.below hb (Nat.le_refl _))
  have HJ1 := Lib.hid (fun W (hb : Below w.heap.size w W) => HJ.out.below hb (Nat.le_refl _))
  have HTZ := Lib.hid htz
  clear htz
  cases hal : L.all Vz.Stp.right with
  | false =>
    have hpl := printV_no hal
    rw [hpl] at HPR
    clear hpl
    cases hbl : M.all Vz.Stp.right with
    | false =>
      have hpm := printV_no hbl
      rw [hpm] at HPS
      have hpa : printV (L ++ M) = _ := printV_no (by rw [all_app, hal, hbl]; rfl)
      rw [hpa] at HPA
      clear hpm hpa hal hbl
      go_wp2_with (first
        | (go_at_call 8; refine (HA.out _ kE).mono ?_; rintro e wF ⟨rfl, hbF⟩; have kF := below_join kE hbF)
        | (go_at_call 13; refine (HPA.out A9 c9 _ kD hS9).mono ?_; rintro e wE ⟨rfl, hbE⟩; have kE := below_join kD hbE)
        | (at_builtin; refine wpList_append_steps _ rfl _ _ rfl wB.heap.size _ m n d v1 L M A2 rfl hown1 rfl hS2 (by omega) (by omega) hg1.size ?_; intro v2 wD hown2 hg2; have kD := kC.grown hg2 kC.size (fun k e => Nat.le_trans kB.size (ownsRow_bs hown1 e)); obtain ⟨A9, c9, rfl, hS9⟩ := steps_of_owns HMN.out hown2)
        | (at_builtin; refine wpList_append_steps _ rfl _ _ rfl wB.heap.size _ 0 m c _ [] L A rfl (World.ownsRow_nil _ _ _ _) rfl hS1 (by omega) (by omega) (Nat.le_refl _) ?_; intro v1 wC hown1 hg1; rw [List.nil_append, Nat.zero_add] at hown1; have kC := kB.grown hg1 kB.size (fun k e => by cases e); have hS2 := HJ1.out _ kC)
        | (go_at_call 13; refine (HPS.out _ kA).mono ?_; rintro e wB ⟨rfl, hbB⟩; have kB := below_join kA hbB; have hS1 := HI1.out _ kB)
        | (go_at_call 13; refine (HPR.out _ k2).mono ?_; rintro e wA ⟨rfl, hbA⟩; have kA := below_join k2 hbA))
      go_ret
      exact ⟨rfl, kF⟩
    | true =>
      have hpm := printV_yes hbl
      rw [hpm] at HPS
      have hpa : printV (L ++ M) = _ := printV_no (by rw [all_app, hal, hbl]; rfl)
      rw [hpa] at HPA
      generalize (⟨(linesL M).toArray⟩ : ByteArray) = TM at HPS
      clear hpm hpa hal hbl
      go_wp2_with (first
        | (go_at_call 8; refine (HA.out _ kE).mono ?_; rintro e wF ⟨rfl, hbF⟩; have kF := below_join kE hbF)
        | (go_at_call 13; refine (HPA.out A9 c9 _ kD hS9).mono ?_; rintro e wE ⟨rfl, hbE⟩; have kE := below_join kD hbE)
        | (at_builtin; refine wpList_append_steps _ rfl _ _ rfl wB.heap.size _ m n d v1 L M A2 rfl hown1 rfl hS2 (by omega) (by omega) hg1.size ?_; intro v2 wD hown2 hg2; have kD := kC.grown hg2 kC.size (fun k e => Nat.le_trans kB.size (ownsRow_bs hown1 e)); obtain ⟨A9, c9, rfl, hS9⟩ := steps_of_owns HMN.out hown2)
        | (at_builtin; refine wpList_append_steps _ rfl _ _ rfl wB.heap.size _ 0 m c _ [] L A rfl (World.ownsRow_nil _ _ _ _) rfl hS1 (by omega) (by omega) (Nat.le_refl _) ?_; intro v1 wC hown1 hg1; rw [List.nil_append, Nat.zero_add] at hown1; have kC := kB.grown hg1 kB.size (fun k e => by cases e); have hS2 := HJ1.out _ kC)
        | (go_at_call 13; refine (HPS.out _ kA).mono ?_; rintro e wB ⟨rfl, hbB⟩; have kB := below_join kA hbB; have hS1 := HI1.out _ kB)
        | (go_at_call 13; refine (HPR.out _ k2).mono ?_; rintro e wA ⟨rfl, hbA⟩; have kA := below_join k2 hbA))
      go_ret
      exact ⟨rfl, kF⟩
  | true =>
    have hpl := printV_yes hal
    rw [hpl] at HPR
    clear hpl
    cases hbl : M.all Vz.Stp.right with
    | false =>
      generalize (⟨(linesL L).toArray⟩ : ByteArray) = TL at HPR
      have hpm := printV_no hbl
      rw [hpm] at HPS
      have hpa : printV (L ++ M) = _ := printV_no (by rw [all_app, hal, hbl]; rfl)
      rw [hpa] at HPA
      clear hpm hpa hal hbl
      go_wp2_with (first
        | (go_at_call 8; refine (HA.out _ kE).mono ?_; rintro e wF ⟨rfl, hbF⟩; have kF := below_join kE hbF)
        | (go_at_call 13; refine (HPA.out A9 c9 _ kD hS9).mono ?_; rintro e wE ⟨rfl, hbE⟩; have kE := below_join kD hbE)
        | (at_builtin; refine wpList_append_steps _ rfl _ _ rfl wB.heap.size _ m n d v1 L M A2 rfl hown1 rfl hS2 (by omega) (by omega) hg1.size ?_; intro v2 wD hown2 hg2; have kD := kC.grown hg2 kC.size (fun k e => Nat.le_trans kB.size (ownsRow_bs hown1 e)); obtain ⟨A9, c9, rfl, hS9⟩ := steps_of_owns HMN.out hown2)
        | (at_builtin; refine wpList_append_steps _ rfl _ _ rfl wB.heap.size _ 0 m c _ [] L A rfl (World.ownsRow_nil _ _ _ _) rfl hS1 (by omega) (by omega) (Nat.le_refl _) ?_; intro v1 wC hown1 hg1; rw [List.nil_append, Nat.zero_add] at hown1; have kC := kB.grown hg1 kB.size (fun k e => by cases e); have hS2 := HJ1.out _ kC)
        | (go_at_call 13; refine (HPS.out _ kA).mono ?_; rintro e wB ⟨rfl, hbB⟩; have kB := below_join kA hbB; have hS1 := HI1.out _ kB)
        | (go_at_call 13; refine (HPR.out _ k2).mono ?_; rintro e wA ⟨rfl, hbA⟩; have kA := below_join k2 hbA))
      go_ret
      exact ⟨rfl, kF⟩
    | true =>
      have hpm := printV_yes hbl
      rw [hpm] at HPS
      have hall : (L ++ M).all Vz.Stp.right = true := by rw [all_app, hal, hbl]; rfl
      have hpa : printV (L ++ M) = _ := printV_yes hall
      obtain ⟨b1, b2, b3⟩ := back_text (L ++ M) hall HTZ.out hlen
      rw [hpa] at HPA
      have z1 : (⟨(linesL L).toArray⟩ : ByteArray).size ≤ 20000 := (back_text L hal HTX.out (by have := HML.out; omega)).1
      have z2 : (⟨(linesL M).toArray⟩ : ByteArray).size ≤ 20000 := (back_text M hbl HTY.out (by have := HNL.out; omega)).1
      rw [lines_app] at HPA b1 b2 b3
      generalize (⟨(linesL M).toArray⟩ : ByteArray) = TM at HPS HPA b1 b2 b3 z2
      generalize (⟨(linesL L).toArray⟩ : ByteArray) = TL at HPR HPA b1 b2 b3 z1
      have HPZ := Lib.hid (fun W (hb : Below w.heap.size w W) => parse_ok (TL ++ TM) b1 b2 (L ++ M) b3 W (HAI.out.below hb))
      have HSM := Lib.hid (fun A8 c8 A9 c9 W (hS : Steps W.heap.size W A8 (L ++ M).length (L ++ M)) (hS' : Steps W.heap.size W A9 (m + n) (L ++ M)) => (same_any A8 A9 (L ++ M).length c8 (m + n) c9 (L ++ M) (L ++ M) W hS hS' (by omega)).mono (fun e w' h => (⟨by rw [h.1, decide_eq_true (rfl : L ++ M = L ++ M)], h.2⟩ : e = .returned (.bool true) ∧ Below W.heap.size W w')))
      generalize (L ++ M).length = q at HPZ HSM
      clear hpm hpa hal hbl hall b2 b3 hlen
      go_wp2_with (first
        | (go_at_call 8; refine (HA.out _ kH).mono ?_; rintro e wF ⟨rfl, hbF⟩; have kF := below_join kH hbF)
        | (go_at_call 16; refine (HSM.out A8 c8 A9 c9 _ hS8 hS9').mono ?_; rintro e wH ⟨rfl, hbH⟩; have kH := below_join kG hbH)
        | (go_at_call 14; refine (HPZ.out _ kE).mono ?_; rintro e wG ⟨A8, c8, rfl, hS8, hbG⟩; have kG := below_join kE hbG; have hS9' := (hS9.below (below_join hbE hbG) (Nat.le_refl _)).more (below_join hbE hbG).size)
        | (go_at_call 13; refine (HPA.out A9 c9 _ kD hS9).mono ?_; rintro e wE ⟨rfl, hbE⟩; have kE := below_join kD hbE)
        | (at_builtin; refine wpList_append_steps _ rfl _ _ rfl wB.heap.size _ m n d v1 L M A2 rfl hown1 rfl hS2 (by omega) (by omega) hg1.size ?_; intro v2 wD hown2 hg2; have kD := kC.grown hg2 kC.size (fun k e => Nat.le_trans kB.size (ownsRow_bs hown1 e)); obtain ⟨A9, c9, rfl, hS9⟩ := steps_of_owns HMN.out hown2)
        | (at_builtin; refine wpList_append_steps _ rfl _ _ rfl wB.heap.size _ 0 m c _ [] L A rfl (World.ownsRow_nil _ _ _ _) rfl hS1 (by omega) (by omega) (Nat.le_refl _) ?_; intro v1 wC hown1 hg1; rw [List.nil_append, Nat.zero_add] at hown1; have kC := kB.grown hg1 kB.size (fun k e => by cases e); have hS2 := HJ1.out _ kC)
        | (go_at_call 13; refine (HPS.out _ kA).mono ?_; rintro e wB ⟨rfl, hbB⟩; have kB := below_join kA hbB; have hS1 := HI1.out _ kB)
        | (go_at_call 13; refine (HPR.out _ k2).mono ?_; rintro e wA ⟨rfl, hbA⟩; have kA := below_join k2 hbA))
      go_ret
      exact ⟨rfl, kF⟩
end Go.Proofs.YtfkbgnonkgaobaaDoor
