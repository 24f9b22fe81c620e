import Derived.Test.YtmgeghoalmonoaaGreatDoorAnM

/- Walks of ANSI.SYS: On; what a nil terminal answers. -/
namespace Go.Proofs.YtmgeghoalmonoaaGreatDoor
open Go.RowKit
set_option linter.unusedSimpArgs false
set_option linter.unusedVariables false
set_option maxRecDepth 100000
attribute [local go_sem] alloc_drewN setCell_drewN World.cell?_alloc_some frozen_alloc_some pos_f1

set_option maxHeartbeats 4000000 in
theorem an_on {w : World} {sp qp lb fr M : Nat} {F : Nat → Prop} {S : Vz.Sr} {q : List UInt8} {over : Bool} (hs : Scr w sp F S) (hq : QueAt w qp lb fr M q over) (h1 : ¬ F qp) (h2 : ¬ F lb) (h3 : qp ≠ 0) (h4 : lb ≠ 0) :
    Calls Tryz.prog 20 #[.pointer (some ⟨sp, 0, none⟩), .pointer (some ⟨qp, 0, none⟩)] w fun e w' => ∃ P G, (P.sp = sp ∧ P.qp = qp ∧ P.lb = lb) ∧ e = .returned (.tuple #[.pointer (some ⟨P.tp, 0, none⟩), .int .i64 0]) ∧ AnW w' P G ⟨S, q, over, M, 0, true, ⟨0, 0⟩, 0, [], 0, 0⟩ ∧ (∀ k, G k → F k ∨ k = qp ∨ k = lb ∨ w.heap.size ≤ k) ∧ Below w.heap.size w w' := by
  have HK := Lib.hid (knew_ok w)
  have HSC := Lib.hid hs
  have HQ := Lib.hid hq
  clear hs hq
  go_enter Tryz.func20, Tryz.ntmps20
  go_wp2_with (first | (go_at_call 35; refine HK.out.mono ?_; rintro e w1 ⟨rfl, hk1, hb1⟩; have HK1 := Lib.hid hk1; have HB1 := Lib.hid hb1; clear hk1 hb1) | (go_at_call 36; refine (new_ok 61 (by decide) (by decide) _).mono ?_; rintro e w2 ⟨rfl, rfl⟩))
  go_ret2
  have hkl := HK1.out.lt
  have hsz : (w1.alloc (.cells #[.slice none 0 0, .int .i64 61, .int .i64 0] 122)).heap.size = w1.heap.size + 1 := World.size_alloc _ _
  have hb4 : Below w1.heap.size w1 ((w1.alloc (.cells #[.slice none 0 0, .int .i64 61, .int .i64 0] 122)).alloc (.cells (anC ⟨w1.heap.size + 1, sp, qp, lb, w.heap.size + 1, w.heap.size, w1.heap.size⟩ ⟨S, q, over, M, 0, true, ⟨0, 0⟩, 0, [], 0, 0⟩) 78)) := (below1 w1 _).alloc (by simp) _
  have hbw := HB1.out.trans (hb4.mono HB1.out.size)
  have key : ∀ i k, ownA ⟨w1.heap.size + 1, sp, qp, lb, w.heap.size + 1, w.heap.size, w1.heap.size⟩ F (.slice none 0 0) i k → (i = 0 ∧ k = w1.heap.size + 1) ∨ (i = 1 ∧ F k ∧ k < w.heap.size) ∨ (i = 2 ∧ ¬ F k ∧ k < w.heap.size) ∨ (i = 3 ∧ w.heap.size ≤ k ∧ k < w1.heap.size) ∨ (i = 4 ∧ k = w1.heap.size) := by
    rintro i k (⟨rfl, rfl⟩ | ⟨rfl, hk⟩ | ⟨rfl, rfl | rfl⟩ | ⟨rfl, rfl | rfl⟩ | ⟨rfl, rfl | hk⟩)
    · exact .inl ⟨rfl, rfl⟩
    · exact .inr (.inl ⟨rfl, hk, HSC.out.lt k hk⟩)
    · exact .inr (.inr (.inl ⟨rfl, h1, HQ.out.lt.1⟩))
    · exact .inr (.inr (.inl ⟨rfl, h2, HQ.out.lt.2⟩))
    · exact .inr (.inr (.inr (.inl ⟨rfl, Nat.le_succ _, hkl.1⟩)))
    · exact .inr (.inr (.inr (.inl ⟨rfl, Nat.le_refl _, hkl.2⟩)))
    · exact .inr (.inr (.inr (.inr ⟨rfl, rfl⟩)))
    · simp [Value.ownBlock] at hk
  have hpos : 0 < w.heap.size := Nat.lt_of_le_of_lt (Nat.zero_le _) HSC.out.blk.1.lt
  have hbl : 0 < w.heap.size := HSC.out.blk.1.lt
  refine ⟨⟨w1.heap.size + 1, sp, qp, lb, w.heap.size + 1, w.heap.size, w1.heap.size⟩, _, ⟨rfl, rfl, rfl⟩, rfl, ⟨F, .slice none 0 0, ⟨?_, HSC.out.below hbw, ⟨fr, HQ.out.below hbw⟩, ⟨0, false, _, HK1.out.below hb4⟩, ⟨Nat.zero_le _, ?_, World.ownsRow_nil _ _ _ _⟩, Nat.zero_le _, ?_, ?_⟩, fun k => Iff.rfl⟩, ?_, hbw⟩
  · have := heap_alloc_new (w1.alloc (.cells #[.slice none 0 0, .int .i64 61, .int .i64 0] 122)) (.cells (anC ⟨w1.heap.size + 1, sp, qp, lb, w.heap.size + 1, w.heap.size, w1.heap.size⟩ ⟨S, q, over, M, 0, true, ⟨0, 0⟩, 0, [], 0, 0⟩) 78)
    rw [hsz] at this
    exact this
  · exact (Below.heap_alloc _ _ _ (by rw [hsz]; exact Nat.lt_succ_self _)).trans (heap_alloc_new w1 _)
  · intro i j k hi hj
    rcases key i k hi with ⟨a, b⟩ | ⟨a, b, c⟩ | ⟨a, b, c⟩ | ⟨a, b, c⟩ | ⟨a, b⟩ <;> rcases key j k hj with ⟨a', b'⟩ | ⟨a', b', c'⟩ | ⟨a', b', c'⟩ | ⟨a', b', c'⟩ | ⟨a', b'⟩ <;> first | omega | exact absurd b b' | exact absurd b' b
  · intro i k hi
    rcases hi with ⟨_, rfl⟩ | ⟨_, hk⟩ | ⟨_, rfl | rfl⟩ | ⟨_, rfl | rfl⟩ | ⟨_, rfl | hk⟩
    · show w1.heap.size + 1 ≠ _; omega
    · exact HSC.out.blk.2 k hk
    · exact h3
    · exact h4
    · show w.heap.size + 1 ≠ _; omega
    · show w.heap.size ≠ _; omega
    · show w1.heap.size ≠ _; omega
    · simp [Value.ownBlock] at hk
  · rintro k ⟨i, hi⟩
    rcases hi with ⟨_, rfl⟩ | ⟨_, hk⟩ | ⟨_, rfl | rfl⟩ | ⟨_, rfl | rfl⟩ | ⟨_, rfl | hk⟩
    · exact .inr (.inr (.inr (by show _ ≤ w1.heap.size + 1; omega)))
    · exact .inl hk
    · exact .inr (.inl rfl)
    · exact .inr (.inr (.inl rfl))
    · exact .inr (.inr (.inr (by show _ ≤ w.heap.size + 1; omega)))
    · exact .inr (.inr (.inr (Nat.le_refl _)))
    · exact .inr (.inr (.inr (by show _ ≤ w1.heap.size; omega)))
    · simp [Value.ownBlock] at hk
end Go.Proofs.YtmgeghoalmonoaaGreatDoor
