import Derived.Test.YtmgeghoalmonoaaGreatDoorAnN
import Derived.Test.YtmgeghoalmonoaaGreatDoorRM
import Derived.Test.YtmgeghoalmonoaaGreatDoorRK

/- Walks of law15: made. -/
namespace Go.Proofs.YtmgeghoalmonoaaGreatDoor
open Go.RowKit
set_option linter.unusedSimpArgs false
set_option linter.unusedVariables false
set_option maxRecDepth 100000
attribute [local go_sem] alloc_drewN setCell_drewN World.cell?_alloc_some frozen_alloc_some pos_f1

/-- A law's world: its box, its terminal. -/
structure MadeA (w W : World) (b : Nat) (P : Pt) (G : Nat → Prop) (A : An) : Prop where
  an : AnW W P G A
  box : W.heap[b]? = some (.cells #[.pointer (some ⟨P.sp, 0, none⟩), .pointer (some ⟨P.qp, 0, none⟩), .pointer (some ⟨P.tp, 0, none⟩)] 34 (0, 0))
  nb : ¬ G b
  ge : w.heap.size ≤ b
  geG : ∀ k, G k → w.heap.size ≤ k
  bel : Below w.heap.size w W
theorem MadeA.to {w W W' : World} {b : Nat} {P : Pt} {G : Nat → Prop} {A A' : An} (h : MadeA w W b P G A) (ht : AnTo W W' P G A') : ∃ G', MadeA w W' b P G' A' := by
  obtain ⟨⟨G', h1, h2⟩, hk⟩ := ht
  have hlt := block_lt h.box
  have hsz := h.bel.size
  refine ⟨G', h1, (hk.block _ hlt h.nb).trans h.box, fun e => ?_, h.ge, fun k hk' => ?_, h.bel.trans (hk.below (fun k hk => h.geG k hk) hsz)⟩
  · rcases h2 _ e with e | e
    · exact h.nb e
    · omega
  · rcases h2 _ hk' with e | e
    · exact h.geG k e
    · omega
theorem MadeA.below {w W W' : World} {b : Nat} {P : Pt} {G : Nat → Prop} {A : An} (h : MadeA w W b P G A) (hb : Below W.heap.size W W') : MadeA w W' b P G A :=
  ⟨h.an.below hb, (hb.block _ (block_lt h.box)).trans h.box, h.nb, h.ge, h.geG, h.bel.trans (hb.mono h.bel.size)⟩
set_option maxHeartbeats 4000000 in
theorem made_ok (R C M : Nat) (hS : Vz.mayS R C = true) (h0 : 0 < M) (hM : M ≤ 4096) (w : World) (hbl : Blanked w) :
    Calls Tryz.prog 9 #[.int .i64 R, .int .i64 C, .int .i64 M] w fun e w' => ∃ b P G, e = .returned (.tuple #[.pointer (some ⟨b, 0, none⟩), .bool true]) ∧ MadeA w w' b P G (newN R C M) := by
  have HSN := Lib.hid (scr_new R C hS w hbl)
  have HQN := Lib.hid (fun W => que_new M h0 hM W)
  have hz : 0 < w.heap.size := hbl.lt
  have HZ := Lib.hid hz
  clear hbl hz hS h0 hM
  go_enter Tryz.func9, Tryz.ntmps9
  go_upto_region 3 with (first | (go_at_call 24; refine HSN.out.mono ?_; rintro e w1 ⟨sp, rfl, ⟨F, hs, hF⟩, hb1⟩; have HS1 := Lib.hid hs; have HF1 := Lib.hid hF; have HB1 := Lib.hid hb1; clear hs hF hb1) | (go_at_call 25; refine (HQN.out _).mono ?_; rintro e w2 ⟨rfl, hq, hb2⟩; have HQ2 := Lib.hid hq; have HB2 := Lib.hid hb2; clear hq hb2))
  have HS2 := Lib.hid (HS1.out.below HB2.out)
  have hon := an_on HS2.out HQ2.out (fun e => by have := HS1.out.lt _ e; omega) (fun e => by have := HS1.out.lt _ e; omega) (by have := HZ.out; have := HB1.out.size; omega) (by have := HZ.out; have := HB1.out.size; omega)
  have HON := Lib.hid hon
  clear hon
  go_wp2_with (go_at_call 20; refine HON.out.mono ?_; rintro e w3 ⟨P, G, ⟨rfl, e2, e3⟩, rfl, h3, hg3, hb3⟩; have H3 := Lib.hid h3; have HG3 := Lib.hid hg3; have HB3 := Lib.hid hb3; have HE := Lib.hid (And.intro e2 e3); clear h3 hg3 hb3 e2 e3)
  go_ret2
  have s1 := HB1.out.size
  have s2 := HB2.out.size
  have s3 := HB3.out.size
  refine ⟨w3.heap.size, P, G, rfl, H3.out.below (below1 w3 _), ?_, fun e => Nat.lt_irrefl _ (H3.out.lt _ e), by omega, fun k hk => ?_, ?_⟩
  · have := heap_alloc_new w3 (.cells #[.pointer (some ⟨P.sp, 0, none⟩), .pointer (some ⟨w1.heap.size + 1, 0, none⟩), .pointer (some ⟨P.tp, 0, none⟩)] 34)
    rw [HE.out.1]
    exact this
  · rcases HG3.out k hk with e | e | e | e
    · exact HF1.out k e
    · omega
    · omega
    · omega
  · exact ((HB1.out.trans (HB2.out.mono s1)).trans (HB3.out.mono (by omega))).alloc (by omega) _
end Go.Proofs.YtmgeghoalmonoaaGreatDoor
