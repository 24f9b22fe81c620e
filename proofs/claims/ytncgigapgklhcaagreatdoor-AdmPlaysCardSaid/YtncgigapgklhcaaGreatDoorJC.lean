import Derived.Test.YtncgigapgklhcaaGreatDoorJB
import Derived.Test.YtncgigapgklhcaaGreatDoorHQ
import Derived.Test.YtncgigapgklhcaaGreatDoorHC
import Derived.Deep.QuietTactic
import Derived.BigQuiet
import Derived.Test.YtncgigapgklhcaaGreatDoorHD
import Derived.Test.YtncgigapgklhcaaGreatDoorHE
import Derived.Maps.AppendAt

set_option maxRecDepth 100000
set_option maxHeartbeats 16000000
namespace Go.Proofs.YtncgigapgklhcaaGreatDoor
open Go.RowKit
set_option linter.unusedSimpArgs false
set_option linter.unusedVariables false
/- The document's ADM-3A in memory: its box, its row of cells, its row of stops. -/
section
def rfC (lb cap sb : Nat) (r : Rf) : Array Value := #[.int .i64 r.R, .int .i64 r.C, .slice (some ⟨lb, 0, none⟩) (r.R * r.C) cap, .int .i64 r.row, .int .i64 r.col, .slice (some ⟨sb, 0, none⟩) r.C r.C, .int .i64 r.attr, .bool r.gd, .bool r.pr, .string ⟨r.seq.toArray⟩, .string ⟨r.q.toArray⟩, .int .i64 r.most, .bool r.over]
structure RfAt (W : World) (rp lb cap sb : Nat) (r : Rf) : Prop where
 box : W.heap[rp]? = some (.cells (rfC lb cap sb r) 68 (0, 0))
 row : RowC W lb 56 (cap * 4) (r.R * r.C * 4) (Vz.flatC r.F)
 stops : RowC W sb 4 r.C r.C (fun c => .bool (r.T c))
 n1 : rp ≠ lb
 n2 : rp ≠ sb
 n3 : lb ≠ sb
def RfTo (w w' : World) (rp lb sb : Nat) (r : Rf) : Prop :=
 (∃ lb' cap' sb', RfAt w' rp lb' cap' sb' r ∧ (lb' = lb ∨ w.heap.size ≤ lb') ∧ (sb' = sb ∨ w.heap.size ≤ sb')) ∧ Keeps (fun k => k = rp ∨ k = lb ∨ k = sb) w w'
section
variable {w w1 w2 w' W W' : World} {rp lb cap sb : Nat} {r r1 r2 r' : Rf} {F : Nat → Vz.Cl}
theorem RfAt.lt (h : RfAt W rp lb cap sb r) : rp < W.heap.size ∧ lb < W.heap.size ∧ sb < W.heap.size := ⟨block_lt h.box, h.row.lt, h.stops.lt⟩
theorem RfAt.of_blocks (h : RfAt W rp lb cap sb r) (h1 : W'.heap[rp]? = W.heap[rp]?) (h2 : W'.heap[lb]? = W.heap[lb]?) (h3 : W'.heap[sb]? = W.heap[sb]?) : RfAt W' rp lb cap sb r :=
 ⟨h1.trans h.box, h.row.of_block h2, h.stops.of_block h3, h.n1, h.n2, h.n3⟩
theorem RfAt.below (h : RfAt W rp lb cap sb r) (hb : Below W.heap.size W W') : RfAt W' rp lb cap sb r := h.of_blocks (hb.block _ h.lt.1) (hb.block _ h.lt.2.1) (hb.block _ h.lt.2.2)
theorem RfAt.keeps {K : Nat → Prop} (h : RfAt W rp lb cap sb r) (hk : Keeps K W W') (h1 : ¬ K rp) (h2 : ¬ K lb) (h3 : ¬ K sb) : RfAt W' rp lb cap sb r :=
 h.of_blocks (hk.block _ h.lt.1 h1) (hk.block _ h.lt.2.1 h2) (hk.block _ h.lt.2.2 h3)
theorem RfAt.cells (h : RfAt W rp lb cap sb r) :
 (W.cell? ⟨rp, 0, none⟩ = some (.int .i64 r.R) ∧ W.cell? ⟨rp, 1, none⟩ = some (.int .i64 r.C) ∧ W.cell? ⟨rp, 2, none⟩ = some (.slice (some ⟨lb, 0, none⟩) (r.R * r.C) cap) ∧ W.cell? ⟨rp, 3, none⟩ = some (.int .i64 r.row) ∧ W.cell? ⟨rp, 4, none⟩ = some (.int .i64 r.col) ∧ W.cell? ⟨rp, 5, none⟩ = some (.slice (some ⟨sb, 0, none⟩) r.C r.C) ∧ W.cell? ⟨rp, 6, none⟩ = some (.int .i64 r.attr) ∧ W.cell? ⟨rp, 7, none⟩ = some (.bool r.gd) ∧ W.cell? ⟨rp, 8, none⟩ = some (.bool r.pr) ∧ W.cell? ⟨rp, 9, none⟩ = some (.string ⟨r.seq.toArray⟩) ∧ W.cell? ⟨rp, 10, none⟩ = some (.string ⟨r.q.toArray⟩) ∧ W.cell? ⟨rp, 11, none⟩ = some (.int .i64 r.most) ∧ W.cell? ⟨rp, 12, none⟩ = some (.bool r.over)) ∧
 W.frozen? ⟨rp, 2, none⟩ = false ∧ W.frozen? ⟨rp, 3, none⟩ = false ∧ W.frozen? ⟨rp, 4, none⟩ = false ∧ W.frozen? ⟨rp, 5, none⟩ = false ∧ W.frozen? ⟨rp, 6, none⟩ = false ∧ W.frozen? ⟨rp, 7, none⟩ = false ∧ W.frozen? ⟨rp, 8, none⟩ = false ∧ W.frozen? ⟨rp, 9, none⟩ = false ∧ W.frozen? ⟨rp, 10, none⟩ = false ∧ W.frozen? ⟨rp, 12, none⟩ = false :=
 ⟨⟨cell_row h.box 0, cell_row h.box 1, cell_row h.box 2, cell_row h.box 3, cell_row h.box 4, cell_row h.box 5, cell_row h.box 6, cell_row h.box 7, cell_row h.box 8, cell_row h.box 9, cell_row h.box 10, cell_row h.box 11, cell_row h.box 12⟩,
   frozen_row h.box 2, frozen_row h.box 3, frozen_row h.box 4, frozen_row h.box 5, frozen_row h.box 6, frozen_row h.box 7, frozen_row h.box 8, frozen_row h.box 9, frozen_row h.box 10, frozen_row h.box 12⟩
theorem RfAt.cellsN (h : RfAt W rp lb cap sb r) {n : Nat} (hn : r.R * r.C = n) :
 (W.cell? ⟨rp, 0, none⟩ = some (.int .i64 r.R) ∧ W.cell? ⟨rp, 1, none⟩ = some (.int .i64 r.C) ∧ W.cell? ⟨rp, 2, none⟩ = some (.slice (some ⟨lb, 0, none⟩) n cap) ∧ W.cell? ⟨rp, 3, none⟩ = some (.int .i64 r.row) ∧ W.cell? ⟨rp, 4, none⟩ = some (.int .i64 r.col) ∧ W.cell? ⟨rp, 5, none⟩ = some (.slice (some ⟨sb, 0, none⟩) r.C r.C) ∧ W.cell? ⟨rp, 6, none⟩ = some (.int .i64 r.attr) ∧ W.cell? ⟨rp, 7, none⟩ = some (.bool r.gd) ∧ W.cell? ⟨rp, 8, none⟩ = some (.bool r.pr) ∧ W.cell? ⟨rp, 9, none⟩ = some (.string ⟨r.seq.toArray⟩) ∧ W.cell? ⟨rp, 10, none⟩ = some (.string ⟨r.q.toArray⟩) ∧ W.cell? ⟨rp, 11, none⟩ = some (.int .i64 r.most) ∧ W.cell? ⟨rp, 12, none⟩ = some (.bool r.over)) ∧
 W.frozen? ⟨rp, 2, none⟩ = false ∧ W.frozen? ⟨rp, 3, none⟩ = false ∧ W.frozen? ⟨rp, 4, none⟩ = false ∧ W.frozen? ⟨rp, 5, none⟩ = false ∧ W.frozen? ⟨rp, 6, none⟩ = false ∧ W.frozen? ⟨rp, 7, none⟩ = false ∧ W.frozen? ⟨rp, 8, none⟩ = false ∧ W.frozen? ⟨rp, 9, none⟩ = false ∧ W.frozen? ⟨rp, 10, none⟩ = false ∧ W.frozen? ⟨rp, 12, none⟩ = false := hn ▸ h.cells
theorem RfAt.at_ (h : RfAt W rp lb cap sb r) {k : Nat} (hk : k < r.R * r.C) : (W.cell? ⟨lb, k * 4, none⟩ = some (.int .i32 (r.F k).g) ∧ W.cell? ⟨lb, k * 4 + 1, none⟩ = some (.int .i64 (r.F k).a) ∧ W.cell? ⟨lb, k * 4 + 2, none⟩ = some (.bool (r.F k).gd) ∧ W.cell? ⟨lb, k * 4 + 3, none⟩ = some (.int .i64 (r.F k).m)) ∧ ∀ i, W.frozen? ⟨lb, i, none⟩ = false := by
 refine ⟨⟨?_, ?_, ?_, ?_⟩, h.row.frozen⟩
 · rw [h.row.cell (show k * 4 < r.R * r.C * 4 by omega), Nat.mul_comm k 4, Vz.flatC_0]
 · rw [h.row.cell (show k * 4 + 1 < r.R * r.C * 4 by omega), Nat.mul_comm k 4, Vz.flatC_1]
 · rw [h.row.cell (show k * 4 + 2 < r.R * r.C * 4 by omega), Nat.mul_comm k 4, Vz.flatC_2]
 · rw [h.row.cell (show k * 4 + 3 < r.R * r.C * 4 by omega), Nat.mul_comm k 4, Vz.flatC_3]
theorem RfAt.stop (h : RfAt W rp lb cap sb r) {c : Nat} (hc : c < r.C) : W.cell? ⟨sb, c, none⟩ = some (.bool (r.T c)) := h.stops.cell hc
theorem RfTo.refl (h : RfAt w rp lb cap sb r) : RfTo w w rp lb sb r := ⟨⟨lb, cap, sb, h, .inl rfl, .inl rfl⟩, Keeps.refl _ w⟩
theorem RfTo.later (h : RfTo w w1 rp lb sb r) (hb : Below w1.heap.size w1 w2) : RfTo w w2 rp lb sb r := by
 obtain ⟨⟨l, c, s, h1, h2, h3⟩, hk⟩ := h
 exact ⟨⟨l, c, s, h1.below hb, h2, h3⟩, hk.trans (Keeps.of_below hb : Keeps (fun k => k = rp ∨ k = lb ∨ k = sb) w1 w2) fun k hk => .inl hk⟩
theorem RfTo.after (hb : Below w.heap.size w w1) (h : RfTo w1 w2 rp lb sb r) : RfTo w w2 rp lb sb r := by
 obtain ⟨⟨l, c, s, h1, h2, h3⟩, hk⟩ := h
 exact ⟨⟨l, c, s, h1, h2.imp id (fun e => Nat.le_trans hb.size e), h3.imp id (fun e => Nat.le_trans hb.size e)⟩, (Keeps.of_below hb).trans hk fun k hk => .inl hk⟩
theorem RfTo.link {l s : Nat} (h2 : l = lb ∨ w.heap.size ≤ l) (h3 : s = sb ∨ w.heap.size ≤ s) (hk : Keeps (fun k => k = rp ∨ k = lb ∨ k = sb) w w1) (h' : RfTo w1 w2 rp l s r2) : RfTo w w2 rp lb sb r2 := by
 obtain ⟨⟨l', c', s', g1, g2, g3⟩, hk'⟩ := h'
 have hs := hk.size
 refine ⟨⟨l', c', s', g1, ?_, ?_⟩, hk.trans hk' fun k e => ?_⟩
 · rcases g2 with rfl | g2
   · exact h2
   · exact .inr (by omega)
 · rcases g3 with rfl | g3
   · exact h3
   · exact .inr (by omega)
 · rcases e with rfl | rfl | rfl
   · exact .inl (.inl rfl)
   · rcases h2 with rfl | h2
     · exact .inl (.inr (.inl rfl))
     · exact .inr h2
   · rcases h3 with rfl | h3
     · exact .inl (.inr (.inr rfl))
     · exact .inr h3
theorem RfTo.then (h : RfTo w w1 rp lb sb r1) : ∃ l c s, RfAt w1 rp l c s r1 ∧ ∀ W r', RfTo w1 W rp l s r' → RfTo w W rp lb sb r' := by
 obtain ⟨⟨l, c, s, h1, h2, h3⟩, hk⟩ := h
 exact ⟨l, c, s, h1, fun W r' h' => RfTo.link h2 h3 hk h'⟩
theorem RfAt.boxed (h : RfAt w rp lb cap sb r) (hR : r'.R = r.R) (hC : r'.C = r.C) (hF : r'.F = r.F) (hT : r'.T = r.T) (hbox : w'.heap[rp]? = some (.cells (rfC lb cap sb r') 68 (0, 0))) (hK : Keeps (fun k => k = rp) w w') : RfTo w w' rp lb sb r' := by
 refine ⟨⟨lb, cap, sb, ⟨hbox, ?_, ?_, h.n1, h.n2, h.n3⟩, .inl rfl, .inl rfl⟩, hK.mono fun k e => .inl e⟩
 · rw [hR, hC, hF]
   exact h.row.of_block (hK.block _ h.lt.2.1 (fun e => h.n1 e.symm))
 · rw [hC, hT]
   exact h.stops.of_block (hK.block _ h.lt.2.2 (fun e => h.n2 e.symm))
end
theorem RowC.setF {W : World} {b cap n : Nat} {F : Nat → Vz.Cl} (h : RowC W b 56 cap n (Vz.flatC F)) (k : Nat) (c : Vz.Cl) :
 RowC ((((W.setCell ⟨b, k * 4, none⟩ (.int .i32 c.g)).setCell ⟨b, k * 4 + 1, none⟩ (.int .i64 c.a)).setCell ⟨b, k * 4 + 2, none⟩ (.bool c.gd)).setCell ⟨b, k * 4 + 3, none⟩ (.int .i64 c.m)) b 56 cap n (Vz.flatC (fun i => if i = k then c else F i)) := by
 refine ((((h.set (k * 4) (.int .i32 c.g)).set (k * 4 + 1) (.int .i64 c.a)).set (k * 4 + 2) (.bool c.gd)).set (k * 4 + 3) (.int .i64 c.m)).congr fun j hj => ?_
 unfold Vz.flatC
 show _ = Vz.cellK (if j / 4 = k then c else F (j / 4)) (j % 4)
 by_cases e : j / 4 = k
 · rw [if_pos e]
   by_cases e3 : j = k * 4 + 3
   · rw [if_pos e3, show j % 4 = 3 by omega]; rfl
   rw [if_neg e3]
   by_cases e2 : j = k * 4 + 2
   · rw [if_pos e2, show j % 4 = 2 by omega]; rfl
   rw [if_neg e2]
   by_cases e1 : j = k * 4 + 1
   · rw [if_pos e1, show j % 4 = 1 by omega]; rfl
   rw [if_neg e1]
   by_cases e0 : j = k * 4
   · rw [if_pos e0, show j % 4 = 0 by omega]; rfl
   omega
 · rw [if_neg e, if_neg (by omega), if_neg (by omega), if_neg (by omega), if_neg (by omega)]
end
section
set_option maxRecDepth 100000
attribute [local go_sem] alloc_drewN setCell_drewN World.cell?_alloc_some frozen_alloc_some size_f0 size_f1
theorem rf_blank (w : World) : Calls Tryz.prog 40 #[] w fun e w' => e = .returned (.agg #[.int .i32 32, .int .i64 0, .bool false, .int .i64 0]) ∧ Below w.heap.size w w' := by
 have hx := heap_alloc_new w (.cells #[.int .i32 0, .int .i64 0, .bool false, .int .i64 0] 56)
 obtain ⟨x0, x1, x2, x3, g0, g1, g2, g3⟩ := row4 hx
 have HX := Lib.hid hx
 clear hx
 go_enter Tryz.func40, Tryz.ntmps40
 go_wp2_with fail
 exact bodyPost_ret (v := .agg #[.int .i32 32, .int .i64 0, .bool false, .int .i64 0]) (by simp [results, Tryz.results40, go_sem, x0, x1, x2, x3]) rfl ⟨rfl, below1 _ _⟩
section
variable {w : World} {rp lb cap sb : Nat} {r : Rf}
theorem rf_here_q (h : RfAt w rp lb cap sb r) (hm : r.may) : Calls Tryz.prog 47 #[.pointer (some ⟨rp, 0, none⟩)] w fun e w' => e = .returned (.int .i64 (r.here : Int)) ∧ ∃ m, w' = w.drewN m := by
 obtain ⟨⟨y0, y1, y2, y3, y4, y5, y6, y7, y8, y9, y10, y11, y12⟩, _⟩ := h.cells
 have hl := hm.here_lt
 have hn := hm.n
 have hp : (r.row : Int) * (r.C : Int) = ((r.row * r.C : Nat) : Int) := (Int.natCast_mul _ _).symm
 have e1 : IntKind.i64.wrap ((r.row : Int) * (r.C : Int)) = ((r.row * r.C : Nat) : Int) := by
  unfold Rf.here at hl
  rw [hp, wrap_in (by omega) (by omega)]
 have e2 : IntKind.i64.wrap (((r.row * r.C : Nat) : Int) + (r.col : Int)) = (r.here : Int) := by
  unfold Rf.here at hl ⊢
  rw [wrap_in (by omega) (by omega)]; omega
 generalize r.here = k at *
 generalize r.row * r.C = m at *
 clear hp hl hn hm h
 go_enter Tryz.func47, Tryz.ntmps47
 go_upto_region 1 with fail
 go_quiet (fail)
 go_wp2_with fail
 go_ret
 exact ⟨rfl, nq, rfl⟩
theorem rf_here (h : RfAt w rp lb cap sb r) (hm : r.may) : Calls Tryz.prog 47 #[.pointer (some ⟨rp, 0, none⟩)] w fun e w' => e = .returned (.int .i64 (r.here : Int)) ∧ Below w.heap.size w w' := by
 refine (rf_here_q h hm).mono ?_
 rintro e w' ⟨rfl, m, rfl⟩
 exact ⟨rfl, below_drewN' m⟩
theorem rf_goTo (h : RfAt w rp lb cap sb r) (hm : r.may) (k : Nat) (hk : k < r.R * r.C) : Calls Tryz.prog 49 #[.pointer (some ⟨rp, 0, none⟩), .int .i64 (k : Int)] w fun e w' => e = .returned (.tuple #[]) ∧ RfTo w w' rp lb sb (goToR r k) := by
 have hn := hm.n
 have hC : (r.C : Int) ≠ 0 := by have := hm.2.2.1; omega
 have h1 := heap_set_same h.box 3 (.int .i64 ((k / r.C : Nat) : Int))
 have h2 := heap_set_same h1 4 (.int .i64 ((k % r.C : Nat) : Int))
 have HT : Hid (RfTo w ((w.setCell ⟨rp, 3, none⟩ (.int .i64 ((k / r.C : Nat) : Int))).setCell ⟨rp, 4, none⟩ (.int .i64 ((k % r.C : Nat) : Int))) rp lb sb (goToR r k)) :=
  h.boxed rfl rfl rfl rfl h2 ((Keeps.setCell (fun k => k = rp) w (p := ⟨rp, 3, none⟩) rfl _).setCell' (p := ⟨rp, 4, none⟩) rfl _)
 obtain ⟨⟨y0, y1, y2, y3, y4, y5, y6, y7, y8, y9, y10, y11, y12⟩, f2, f3, f4, f5, f6, f7, f8, f9, f10, f12⟩ := h.cells
 have z1 := cell_row h1 1
 have g4 := frozen_row h1 4
 have d1 : k / r.C ≤ k := Nat.div_le_self _ _
 have d2 : k % r.C ≤ k := Nat.mod_le _ _
 have e1 : IntKind.i64.wrap ((k : Int).tdiv (r.C : Int)) = ((k / r.C : Nat) : Int) := by
  rw [show (k : Int).tdiv (r.C : Int) = ((k / r.C : Nat) : Int) from rfl]
  generalize k / r.C = x at d1 ⊢
  exact wrap_in (by omega) (by omega)
 have e1' : IntKind.i64.wrap ((k : Int) / (r.C : Int)) = ((k / r.C : Nat) : Int) := by
  rw [show (k : Int) / (r.C : Int) = ((k / r.C : Nat) : Int) from rfl]
  generalize k / r.C = x at d1 ⊢
  exact wrap_in (by omega) (by omega)
 have e2 : IntKind.i64.wrap ((k : Int).tmod (r.C : Int)) = ((k % r.C : Nat) : Int) := by
  rw [show (k : Int).tmod (r.C : Int) = ((k % r.C : Nat) : Int) from rfl]
  generalize k % r.C = x at d2 ⊢
  exact wrap_in (by omega) (by omega)
 have e2' : (k : Int).tmod (r.C : Int) = ((k % r.C : Nat) : Int) := rfl
 clear h hm h1 h2
 go_enter Tryz.func49, Tryz.ntmps49
 go_wp2_with fail
 go_end0
 exact ⟨rfl, HT.out⟩
theorem rf_say (h : RfAt w rp lb cap sb r) (l : List UInt8) (hl : l.length ≤ 100) (hq : r.q.length ≤ 100) : Calls Tryz.prog 65 #[.pointer (some ⟨rp, 0, none⟩), .string ⟨l.toArray⟩] w fun e w' => e = .returned (.tuple #[]) ∧ RfTo w w' rp lb sb (sayR r l) := by
 have HB0 : Hid (Below w.heap.size w w.drew) := (Below.refl _ _).drew
 have H := Lib.hid (fun W (hb : Below w.heap.size w W) => (h.below hb).cells)
 have hd := h.below HB0.out
 have HO : Hid (RfTo w (w.drew.setCell ⟨rp, 12, none⟩ (.bool true)) rp lb sb { r with over := true }) := RfTo.after HB0.out (hd.boxed rfl rfl rfl rfl (heap_set_same hd.box 12 (.bool true)) (Keeps.setCell (fun k => k = rp) _ (p := ⟨rp, 12, none⟩) rfl _))
 have es : (⟨r.q.toArray⟩ : ByteArray) ++ ⟨l.toArray⟩ = ⟨(r.q ++ l).toArray⟩ := by apply ByteArray.ext; rw [ByteArray.data_append]; simp
 have HQ : Hid (RfTo w (w.drew.setCell ⟨rp, 10, none⟩ (.string (⟨r.q.toArray⟩ ++ ⟨l.toArray⟩))) rp lb sb { r with q := r.q ++ l }) := by
  show RfTo _ _ _ _ _ _
  rw [es]
  exact RfTo.after HB0.out (hd.boxed rfl rfl rfl rfl (heap_set_same hd.box 10 (.string ⟨(r.q ++ l).toArray⟩)) (Keeps.setCell (fun k => k = rp) _ (p := ⟨rp, 10, none⟩) rfl _))
 obtain ⟨⟨y0, y1, y2, y3, y4, y5, y6, y7, y8, y9, y10, y11, y12⟩, f2, f3, f4, f5, f6, f7, f8, f9, f10, f12⟩ := hd.cells
 have hz1 : (⟨r.q.toArray⟩ : ByteArray).size = r.q.length := by simp [ByteArray.size]
 have hz2 : (⟨l.toArray⟩ : ByteArray).size = l.length := by simp [ByteArray.size]
 have hz3 : ¬ 9223372036854775807 < r.q.length + l.length := by omega
 have e1 : IntKind.i64.wrap ((r.q.length : Int) + (l.length : Int)) = (r.q.length : Int) + (l.length : Int) := wrap_in (by omega) (by omega)
 have HS : Hid (sayR r l = if r.most < (r.q.length : Int) + (l.length : Int) then { r with over := true } else { r with q := r.q ++ l }) := rfl
 clear h hd es hl hq
 by_cases hc : r.most < (r.q.length : Int) + (l.length : Int)
 · rw [HS.out, if_pos hc]
   go_enter Tryz.func65, Tryz.ntmps65
   go_upto_region 0 with fail
   refine wp_region_noPanic ?_
   refine wp_region_k (S := fun W : World => Below w.heap.size w W) 999 (by kernel_rfl) (HB0.out) (fun hHeld => ?_)
   refine kSK 0 hHeld ?_
   refine kSK 1 hHeld ?_
   refine kSK 2 hHeld ?_
   refine kHK (v := ?_) 3 hHeld ?y4 ?_
   case y4 => (intro W hSw; obtain ⟨⟨y0, y1, y2, y3, y4, y5, y6, y7, y8, y9, y10, y11, y12⟩, _⟩ := H.out _ hSw; go_simp; try with_reducible rfl)
   refine kSK 4 hHeld ?_
   try refine kNK ?_
   refine kSK 5 hHeld ?_
   refine kSK 6 hHeld ?_
   refine kSK 7 hHeld ?_
   refine kSK 8 hHeld ?_
   refine kSK 9 hHeld ?_
   try refine kNK ?_
   refine kSK 10 hHeld ?_
   refine kHK (v := ?_) 11 hHeld ?y12 ?_
   case y12 => (intro W hSw; obtain ⟨⟨y0, y1, y2, y3, y4, y5, y6, y7, y8, y9, y10, y11, y12⟩, _⟩ := H.out _ hSw; go_simp; try with_reducible rfl)
   refine kSK 12 hHeld ?_
   try refine kNK ?_
   refine wpAnyK_done (by kernel_rfl) ?_ _
   refine NoPanic.normal ?_
   go_wp2_with fail
   exact bodyPost_ret (results_none rfl _ _ _) rfl ⟨rfl, HO.out⟩
 · rw [HS.out, if_neg hc]
   go_enter Tryz.func65, Tryz.ntmps65
   go_upto_region 0 with fail
   refine wp_region_noPanic ?_
   refine wp_region_k (S := fun W : World => Below w.heap.size w W) 999 (by kernel_rfl) (HB0.out) (fun hHeld => ?_)
   refine kSK 0 hHeld ?_
   refine kSK 1 hHeld ?_
   refine kSK 2 hHeld ?_
   refine kHK (v := ?_) 3 hHeld ?y4 ?_
   case y4 => (intro W hSw; obtain ⟨⟨y0, y1, y2, y3, y4, y5, y6, y7, y8, y9, y10, y11, y12⟩, _⟩ := H.out _ hSw; go_simp; try with_reducible rfl)
   refine kSK 4 hHeld ?_
   try refine kNK ?_
   refine kSK 5 hHeld ?_
   refine kSK 6 hHeld ?_
   refine kSK 7 hHeld ?_
   refine kSK 8 hHeld ?_
   refine kSK 9 hHeld ?_
   try refine kNK ?_
   refine kSK 10 hHeld ?_
   refine kHK (v := ?_) 11 hHeld ?y12 ?_
   case y12 => (intro W hSw; obtain ⟨⟨y0, y1, y2, y3, y4, y5, y6, y7, y8, y9, y10, y11, y12⟩, _⟩ := H.out _ hSw; go_simp; try with_reducible rfl)
   refine kSK 12 hHeld ?_
   try refine kNK ?_
   refine wpAnyK_done (by kernel_rfl) ?_ _
   refine NoPanic.normal ?_
   go_wp2_with fail
   go_end0
   exact ⟨rfl, HQ.out⟩
theorem rf_guarded (h : RfAt w rp lb cap sb r) (hm : r.may) : Calls Tryz.prog 97 #[.pointer (some ⟨rp, 0, none⟩), .int .i64 (r.row : Int)] w fun e w' => e = .returned (.bool (guardedR r r.row)) ∧ Below w.heap.size w w' := by
 have hn := hm.n
 have hl := hm.here_lt
 have hp : (r.row : Int) * (r.C : Int) = ((r.row * r.C : Nat) : Int) := (Int.natCast_mul _ _).symm
 have e1 : IntKind.i64.wrap ((r.row : Int) * (r.C : Int)) = ((r.row * r.C : Nat) : Int) := by
  rw [hp, wrap_in (by omega) (by omega)]
 obtain ⟨⟨y0, y1, y2, y3, y4, y5, y6, y7, y8, y9, y10, y11, y12⟩, _⟩ := h.cells
 have H := Lib.hid h
 have HN : Hid (r.row * r.C ≤ r.R * r.C) := by show _ ≤ _; omega
 obtain ⟨m, hmm⟩ : ∃ m, m = r.row * r.C := ⟨_, rfl⟩
 rw [← hmm] at e1 HN
 have HGD : Hid (guardedR r r.row = decide (∃ k, k < r.R * r.C ∧ m ≤ k ∧ (r.F k).gd = true)) := by show _ = _; unfold guardedR; rw [hmm]
 generalize hnn : r.R * r.C = n at *
 have HNN := Lib.hid hnn
 clear hp hmm hm h hl hnn
 go_enter Tryz.func97, Tryz.ntmps97
 go_wp2_with fail
 go_loopw [5] (fun i wr => ∃ k : Nat, m ≤ k ∧ k ≤ n ∧ i = .int .i64 (k : Int) ∧ wr = w ∧ ∀ j, m ≤ j → j < k → (r.F j).gd = false) (fun i _ => n - (intOf i).toNat)
 case atStart => exact ⟨m, Nat.le_refl _, HN.out, rfl, rfl, fun j h1 h2 => by omega⟩
 case round =>
  obtain ⟨k, hk1, hk2, rfl, rfl, hall⟩ := hrel
  have HALL := Lib.hid hall
  clear hall
  by_cases hlt : k < n
  · have hkz : (k : Int) < (n : Int) := by omega
    have hwk : IntKind.i64.wrap ((k : Int) + 1) = ((k + 1 : Nat) : Int) := by rw [wrap_in (by omega) (by omega)]; rfl
    obtain ⟨⟨a0, a1, a2, a3⟩, _⟩ := H.out.at_ (k := k) (by rw [HNN.out]; exact hlt)
    cases hg : (r.F k).gd with
    | true =>
      rw [hg] at a2
      have HE : Hid (guardedR r r.row = true) := HGD.out.trans (decide_eq_true ⟨k, hlt, hk1, hg⟩)
      clear hg
      go_wp2_with fail
      go_ret
      exact ⟨by rw [HE.out]; rfl, Below.refl _ _⟩
    | false =>
      rw [hg] at a2
      have HK : Hid (∀ j, m ≤ j → j < k + 1 → (r.F j).gd = false) := fun j h1 h2 => by
       by_cases e : j = k
       · rw [e]; exact hg
       · exact HALL.out j h1 (by omega)
      clear hg
      go_wp2_with fail
      exact ⟨⟨k + 1, by omega, by omega, rfl, by simp, HK.out⟩, by simp [intOf]; omega⟩
  · obtain rfl : k = n := by omega
    have HE : Hid (guardedR r r.row = false) := HGD.out.trans (decide_eq_false fun ⟨j, h1, h2, h3⟩ => by rw [HALL.out j h2 h1] at h3; cases h3)
    go_wp2_with fail
    go_ret
    exact ⟨by rw [HE.out]; rfl, Below.refl _ _⟩
end
end
section
set_option maxRecDepth 100000
attribute [local go_sem] alloc_drewN setCell_drewN World.cell?_alloc_some frozen_alloc_some size_f0 size_f1
section
variable {w W : World} {rp lb cap sb : Nat} {r : Rf}
theorem RfAt.put (h : RfAt W rp lb cap sb r) (k : Nat) (c : Vz.Cl) :
 RfAt ((((W.setCell ⟨lb, k * 4, none⟩ (.int .i32 c.g)).setCell ⟨lb, k * 4 + 1, none⟩ (.int .i64 c.a)).setCell ⟨lb, k * 4 + 2, none⟩ (.bool c.gd)).setCell ⟨lb, k * 4 + 3, none⟩ (.int .i64 c.m)) rp lb cap sb (setR r k c) ∧
 Keeps (fun x => x = lb) W ((((W.setCell ⟨lb, k * 4, none⟩ (.int .i32 c.g)).setCell ⟨lb, k * 4 + 1, none⟩ (.int .i64 c.a)).setCell ⟨lb, k * 4 + 2, none⟩ (.bool c.gd)).setCell ⟨lb, k * 4 + 3, none⟩ (.int .i64 c.m)) := by
 have hK := (((Keeps.setCell (fun x => x = lb) W (p := ⟨lb, k * 4, none⟩) rfl (.int .i32 c.g)).setCell' (p := ⟨lb, k * 4 + 1, none⟩) rfl (.int .i64 c.a)).setCell' (p := ⟨lb, k * 4 + 2, none⟩) rfl (.bool c.gd)).setCell' (p := ⟨lb, k * 4 + 3, none⟩) rfl (.int .i64 c.m)
 refine ⟨⟨(hK.block _ h.lt.1 (fun e => h.n1 e)).trans h.box, h.row.setF k c, h.stops.of_block (hK.block _ h.lt.2.2 (fun e => h.n3 e.symm)), h.n1, h.n2, h.n3⟩, hK⟩
theorem RfAt.congr {r' : Rf} (h : RfAt W rp lb cap sb r) (hb : rfC lb cap sb r' = rfC lb cap sb r) (hR : r'.R = r.R) (hC : r'.C = r.C) (hF : ∀ k, k < r.R * r.C → r'.F k = r.F k) (hT : r'.T = r.T) : RfAt W rp lb cap sb r' := by
 refine ⟨by rw [hb]; exact h.box, ?_, by rw [hC, hT]; exact h.stops, h.n1, h.n2, h.n3⟩
 rw [hR, hC]
 refine h.row.congr fun q hq => ?_
 unfold Vz.flatC
 rw [hF (q / 4) (by omega)]
def clearK (r : Rf) (a k : Nat) : Rf := { r with F := fun j => if a ≤ j ∧ j < k ∧ ¬ (r.pr = true ∧ (r.F j).gd = true) then Vz.Cl.blank else r.F j }
theorem clearK_end (r : Rf) (a b : Nat) : clearK r a (b + 1) = clearR r a b := by
 unfold clearK clearR
 congr 1
 funext j
 by_cases h : a ≤ j ∧ j ≤ b ∧ ¬ (r.pr = true ∧ (r.F j).gd = true)
 · rw [if_pos h, if_pos ⟨h.1, by omega, h.2.2⟩]
 · rw [if_neg h, if_neg (fun e => h ⟨e.1, by omega, e.2.2⟩)]
theorem clearK_at (r : Rf) (a k : Nat) : (clearK r a k).F k = r.F k := if_neg (fun e => Nat.lt_irrefl _ e.2.1)
theorem clearK_on (r : Rf) (a k : Nat) (ha : a ≤ k) (hg : ¬ (r.pr = true ∧ (r.F k).gd = true)) : (setR (clearK r a k) k Vz.Cl.blank).F = (clearK r a (k + 1)).F := by
 funext j
 show (if j = k then Vz.Cl.blank else if a ≤ j ∧ j < k ∧ ¬ (r.pr = true ∧ (r.F j).gd = true) then Vz.Cl.blank else r.F j) = if a ≤ j ∧ j < k + 1 ∧ ¬ (r.pr = true ∧ (r.F j).gd = true) then Vz.Cl.blank else r.F j
 by_cases e : j = k
 · subst e; rw [if_pos rfl, if_pos ⟨ha, Nat.lt_succ_self _, hg⟩]
 · rw [if_neg e]
   by_cases h : a ≤ j ∧ j < k ∧ ¬ (r.pr = true ∧ (r.F j).gd = true)
   · rw [if_pos h, if_pos ⟨h.1, by omega, h.2.2⟩]
   · rw [if_neg h, if_neg (fun e' => h ⟨e'.1, by omega, e'.2.2⟩)]
theorem clearK_off (r : Rf) (a k : Nat) (hg : r.pr = true ∧ (r.F k).gd = true) : (clearK r a k).F = (clearK r a (k + 1)).F := by
 funext j
 show (if a ≤ j ∧ j < k ∧ ¬ (r.pr = true ∧ (r.F j).gd = true) then Vz.Cl.blank else r.F j) = if a ≤ j ∧ j < k + 1 ∧ ¬ (r.pr = true ∧ (r.F j).gd = true) then Vz.Cl.blank else r.F j
 by_cases h : a ≤ j ∧ j < k ∧ ¬ (r.pr = true ∧ (r.F j).gd = true)
 · rw [if_pos h, if_pos ⟨h.1, by omega, h.2.2⟩]
 · rw [if_neg h, if_neg (fun e' => h ⟨e'.1, by
    by_cases e : j = k
    · subst e; exact absurd hg e'.2.2
    · omega, e'.2.2⟩)]
theorem clearK_zero (r : Rf) (a : Nat) : clearK r a a = r := by
 unfold clearK
 have : (fun j => if a ≤ j ∧ j < a ∧ ¬ (r.pr = true ∧ (r.F j).gd = true) then Vz.Cl.blank else r.F j) = r.F := by
  funext j
  exact if_neg (fun e => by omega)
 rw [this]
theorem rf_clear (h : RfAt w rp lb cap sb r) (hm : r.may) (a b : Nat) (hab : a ≤ b) (hb : b < r.R * r.C) : Calls Tryz.prog 96 #[.pointer (some ⟨rp, 0, none⟩), .int .i64 (a : Int), .int .i64 (b : Int)] w fun e w' => e = .returned (.tuple #[]) ∧ RfTo w w' rp lb sb (clearR r a b) := by
 have hn := hm.n
 have HM := Lib.hid hb
 have HZ : Hid (RfAt w rp lb cap sb (clearK r a a)) := by show RfAt _ _ _ _ _ _; rw [clearK_zero]; exact h
 have HLT := Lib.hid h.lt
 clear h
 generalize hnn : r.R * r.C = n at hn hb
 have HNN := Lib.hid hnn
 clear hnn
 go_enter Tryz.func96, Tryz.ntmps96
 go_wp2_with fail
 go_loopw [6] (fun i wr => ∃ k : Nat, a ≤ k ∧ k ≤ b + 1 ∧ i = .int .i64 (k : Int) ∧ RfAt wr rp lb cap sb (clearK r a k) ∧ Keeps (fun x => x = lb) w wr) (fun i _ => b + 1 - (intOf i).toNat)
 case atStart => exact ⟨a, Nat.le_refl _, by omega, rfl, HZ.out, Keeps.refl _ _⟩
 case round =>
  obtain ⟨k, hk1, hk2, rfl, hR, hK⟩ := hrel
  have H := Lib.hid hR
  have HK := Lib.hid hK
  obtain ⟨⟨y0, y1, y2, y3, y4, y5, y6, y7, y8, y9, y10, y11, y12⟩, _⟩ := hR.cellsN (n := n) HNN.out
  have y8' : wr.cell? ⟨rp, 8, none⟩ = some (.bool r.pr) := y8
  clear hR hK y8
  by_cases hlt : k ≤ b
  · have hkz : (k : Int) ≤ (b : Int) := by omega
    have hwk : IntKind.i64.wrap ((k : Int) + 1) = ((k + 1 : Nat) : Int) := by rw [wrap_in (by omega) (by omega)]; rfl
    have hkn : k < r.R * r.C := Nat.lt_of_le_of_lt hlt HM.out
    have hkm : (k : Int) < (n : Int) := by rw [HNN.out] at hkn; omega
    obtain ⟨⟨a0, a1, a2, a3⟩, fr⟩ := H.out.at_ (k := k) hkn
    rw [clearK_at] at a0 a1 a2 a3
    by_cases hg : r.pr = true ∧ (r.F k).gd = true
    · have HF := Lib.hid (clearK_off r a k hg)
      rw [hg.1] at y8'
      rw [hg.2] at a2
      clear hg fr
      go_wp2_with fail
      exact ⟨⟨k + 1, by omega, by omega, rfl, H.out.congr rfl rfl rfl (fun j _ => by rw [HF.out]) rfl, HK.out⟩, by simp [intOf]; omega⟩
    · have HF := Lib.hid (clearK_on r a k hk1 hg)
      have HB : Hid (Below wr.heap.size wr wr.drew) := (Below.refl _ _).drew
      have HW : Hid (∀ W, Below wr.heap.size wr W → RfAt W rp lb cap sb (clearK r a k)) := fun W hW => H.out.below hW
      have hcase : r.pr = false ∨ (r.pr = true ∧ (r.F k).gd = false) := by
       cases hp : r.pr with
       | false => exact .inl rfl
       | true =>
         cases hq : (r.F k).gd with
         | false => exact .inr ⟨rfl, rfl⟩
         | true => exact absurd ⟨hp, hq⟩ hg
      clear hg
      have HPUT : Hid (∀ W, Below wr.heap.size wr W → RfAt ((((W.setCell ⟨lb, k * 4, none⟩ (.int .i32 32)).setCell ⟨lb, k * 4 + 1, none⟩ (.int .i64 0)).setCell ⟨lb, k * 4 + 2, none⟩ (.bool false)).setCell ⟨lb, k * 4 + 3, none⟩ (.int .i64 0)) rp lb cap sb (clearK r a (k + 1)) ∧ Keeps (fun x => x = lb) w ((((W.setCell ⟨lb, k * 4, none⟩ (.int .i32 32)).setCell ⟨lb, k * 4 + 1, none⟩ (.int .i64 0)).setCell ⟨lb, k * 4 + 2, none⟩ (.bool false)).setCell ⟨lb, k * 4 + 3, none⟩ (.int .i64 0))) := fun W hW => by
       have hp := (HW.out W hW).put k Vz.Cl.blank
       exact ⟨hp.1.congr rfl rfl rfl (fun j _ => by rw [HF.out]) rfl, (HK.out.trans (Keeps.of_below hW : Keeps (fun x => x = lb) wr W) (fun k e => .inl e)).trans hp.2 fun k e => .inl e⟩
      rcases hcase with e1 | ⟨e1, e2⟩
      case' inr => rw [e2] at a2
      all_goals (
       rw [e1] at y8'
       clear e1 fr
       go_upto_region 4 with fail
       clear y0 y1 y2 y3 y4 y5 y6 y7 y8' y9 y10 y11 y12 a0 a1 a2 a3
       refine wp_region_noPanic ?_
       refine wp_region_k (S := fun W : World => Below wr.heap.size wr W) 7 (by kernel_rfl) (HB.out) (fun hHeld => ?_)
       refine kSK 0 hHeld ?_
       refine kSK 1 hHeld ?_
       refine kSK 2 hHeld ?_
       refine kTK (v := ?_) 3 [] hHeld ?y4 ?_
       case y4 => (intro W hSw; obtain ⟨⟨y0, y1, y2, y3, y4, y5, y6, y7, y8, y9, y10, y11, y12⟩, _⟩ := (HW.out _ hSw).cellsN (n := n) HNN.out; go_simp; try with_reducible rfl)
       refine kSK 4 hHeld ?_
       try refine kNK ?_
       refine kOK 5 fun KQ hKQ => ?_
       go_simp
       go_at_call 40
       refine (rf_blank _).mono ?_
       rintro e w5 ⟨rfl, hb5⟩
       have hs5 := Below.later hHeld hb5 hHeld.size
       clear hb5
       go_wp2_with fail
       refine hKQ.out _ _ (hs5) ?_
       clear hHeld hKQ KQ
       intro hHeld
       try refine kNK ?_
       clear hs5
       refine kSK 6 hHeld ?_
       try refine kNK ?_
       refine kPK 7 fun KQ hKQ => ?_
       go_simp
       have HP := Lib.hid (HPUT.out _ hHeld)
       obtain ⟨⟨q0, q1, q2, q3⟩, fr⟩ := (HW.out _ hHeld).at_ (k := k) hkn
       have fr0 := fr (k * 4)
       have fr1 := fr (k * 4 + 1)
       have fr2 := fr (k * 4 + 2)
       have fr3 := fr (k * 4 + 3)
       go_simp
       refine hKQ.out _ _ ?_
       clear hKQ KQ
       try refine kNK ?_
       refine wpAnyK_done (by kernel_rfl) ?_ _
       refine NoPanic.normal ?_
       go_wp2_with fail
       exact ⟨⟨k + 1, by omega, by omega, rfl, HP.out.1, HP.out.2⟩, by simp [intOf]; omega⟩)
  · obtain rfl : k = b + 1 := by omega
    have HE : Hid (RfTo w wr rp lb sb (clearR r a b)) := ⟨⟨lb, cap, sb, by rw [← clearK_end]; exact H.out, .inl rfl, .inl rfl⟩, HK.out.mono fun x e => .inr (.inl e)⟩
    go_wp2_with fail
    go_end0
    exact ⟨rfl, HE.out⟩
def freeZ : Option Nat → Int
 | none => -1
 | some q => (q : Int)
theorem rf_free (h : RfAt w rp lb cap sb r) (hm : r.may) (f : Nat) (hf : f < r.R * r.C) (back : Bool) : Calls Tryz.prog 48 #[.pointer (some ⟨rp, 0, none⟩), .int .i64 (f : Int), .bool back] w fun e w' => e = .returned (.int .i64 (freeZ (freeR r f back))) ∧ w' = w := by
 have hn := hm.n
 obtain ⟨⟨y0, y1, y2, y3, y4, y5, y6, y7, y8, y9, y10, y11, y12⟩, _⟩ := h.cells
 have H := Lib.hid h
 generalize hnn : r.R * r.C = n at *
 have HNN := Lib.hid hnn
 have HST : Hid (freeR r f back = freeF r f back n 0) := by show _ = _; unfold freeR; rw [hnn]
 clear hm h hnn
 go_enter Tryz.func48, Tryz.ntmps48
 go_wp2_with fail
 go_loopw [8] (fun i wr => ∃ k : Nat, k ≤ n ∧ i = .int .i64 (k : Int) ∧ wr = w ∧ Hid (freeR r f back = freeF r f back (n - k) k)) (fun i _ => n - (intOf i).toNat)
 case atStart => exact ⟨0, Nat.zero_le _, rfl, rfl, HST⟩
 case round =>
  obtain ⟨k, hk, rfl, rfl, hfr⟩ := hrel
  by_cases hlt : k < n
  · have hkz : (k : Int) < (n : Int) := by omega
    have hwk : IntKind.i64.wrap ((k : Int) + 1) = ((k + 1 : Nat) : Int) := by rw [wrap_in (by omega) (by omega)]; rfl
    obtain ⟨p, hp⟩ : ∃ p, p = placeR n f back k := ⟨_, rfl⟩
    have hpn : p < n := by
     rw [hp]; unfold placeR
     split <;> exact Nat.mod_lt _ (by omega)
    obtain ⟨⟨a0, a1, a2, a3⟩, _⟩ := H.out.at_ (k := p) (by rw [HNN.out]; exact hpn)
    have hnz : (n : Int) ≠ 0 := by omega
    have hpz : ¬ (p : Int) < 0 := by omega
    have HUN : Hid (freeF r f back (n - k) k = if (r.F p).gd = false then some p else freeF r f back (n - (k + 1)) (k + 1)) := by
     show _ = _
     obtain ⟨m, hmm⟩ : ∃ m, n - k = m + 1 := ⟨n - k - 1, by omega⟩
     rw [hmm, show n - (k + 1) = m by omega, freeF, HNN.out, ← hp]
    have e1 : IntKind.i64.wrap ((f : Int) + (k : Int)) = (f : Int) + (k : Int) := wrap_in (by omega) (by omega)
    have e4 : IntKind.i64.wrap ((f : Int) - (k : Int)) = (f : Int) - (k : Int) := wrap_in (by omega) (by omega)
    have e5 : IntKind.i64.wrap ((f : Int) - (k : Int) + (n : Int)) = (f : Int) - (k : Int) + (n : Int) := wrap_in (by omega) (by omega)
    have hpm : (p : Int) < (n : Int) := by omega
    cases back with
    | false =>
      have e2 : ((f : Int) + (k : Int)) % (n : Int) = (p : Int) := by rw [hp]; rfl
      have e3 : ((f : Int) + (k : Int)).tmod (n : Int) = (p : Int) := by rw [hp]; rfl
      clear e4 e5
      cases hg : (r.F p).gd with
      | true =>
        rw [hg] at a2
        have HFR : Hid (freeR r f false = freeF r f false (n - (k + 1)) (k + 1)) := hfr.out.trans (HUN.out.trans (if_neg (by rw [hg]; decide)))
        clear hg hp hfr
        go_wp2_with fail
        exact ⟨⟨k + 1, by omega, rfl, by simp, HFR⟩, by simp [intOf]; omega⟩
      | false =>
        rw [hg] at a2
        have HFR : Hid (freeR r f false = some p) := hfr.out.trans (HUN.out.trans (if_pos hg))
        clear hg hp hfr
        go_wp2_with fail
        go_ret
        exact ⟨by rw [HFR.out]; rfl, rfl⟩
    | true =>
      have e6 : ((f : Int) - (k : Int) + (n : Int)) % (n : Int) = (p : Int) := by
       rw [show (f : Int) - (k : Int) + (n : Int) = ((f + n - k : Nat) : Int) by omega, hp]
       rfl
      have e7 : ((f : Int) - (k : Int)) % (n : Int) = (p : Int) := by rw [← e6, Int.add_emod_right]
      have e8 : ((f : Int) - (k : Int) + (n : Int)).tmod (n : Int) = (p : Int) := by
       rw [show (f : Int) - (k : Int) + (n : Int) = ((f + n - k : Nat) : Int) by omega, hp]
       rfl
      clear e1
      cases hg : (r.F p).gd with
      | true =>
        rw [hg] at a2
        have HFR : Hid (freeR r f true = freeF r f true (n - (k + 1)) (k + 1)) := hfr.out.trans (HUN.out.trans (if_neg (by rw [hg]; decide)))
        clear hg hp hfr
        go_wp2_with fail
        exact ⟨⟨k + 1, by omega, rfl, by simp, HFR⟩, by simp [intOf]; omega⟩
      | false =>
        rw [hg] at a2
        have HFR : Hid (freeR r f true = some p) := hfr.out.trans (HUN.out.trans (if_pos hg))
        clear hg hp hfr
        go_wp2_with fail
        go_ret
        exact ⟨by rw [HFR.out]; rfl, rfl⟩
  · obtain rfl : k = n := by omega
    have HFR : Hid (freeR r f back = none) := hfr.out.trans (by rw [Nat.sub_self]; rfl)
    clear hfr
    go_wp2_with fail
    go_ret
    exact ⟨by rw [HFR.out]; rfl, rfl⟩
end
end
section
set_option maxRecDepth 100000
attribute [local go_sem] alloc_drewN setCell_drewN World.cell?_alloc_some frozen_alloc_some size_f0 size_f1
theorem infoBool : (Tryz.prog.info? 4).map (fun i => (i.zero, i.size, i.bytes)) = some (some (.bool false), 1, 1) := by kernel_rfl
theorem make_bools (m : Nat) (h2 : m ≤ 255) : ∀ W : World, Sem.run Tryz.prog (Instr.makeSlice 66 (.int .i64 (m : Int)) (.int .i64 (m : Int))) W = .ok (.slice (some ⟨W.heap.size, 0, none⟩) m m) (W.alloc (.cells (madeCells #[.bool false] m) 4)) := by
 obtain ⟨i, hi, hz, hs, hb⟩ := info_three infoBool
 intro W
 have := run_make (P := Tryz.prog) W 66 4 i _ Tryz.underlying66 hi hz .i64 .i64 m m (by omega) (by omega) (by rw [hb]; omega) (by omega)
 rw [hs] at this
 simpa [Value.cells] using this
theorem own_setR {w : World} {base g : Nat} {e : TypeId} {size n : Nat} {v : Value} {xs : List Value} (h : w.ownsRow base e size v n xs) (hg : g < base) (i : Nat) (u : Value) : (w.setCell ⟨g, i, none⟩ u).ownsRow base e size v n xs := by
 obtain ⟨hl, h⟩ := h
 refine ⟨hl, ?_⟩
 rcases h with h | ⟨g', cap', cur, hv, hb, hg', rest⟩
 · exact .inl h
 · exact .inr ⟨g', cap', cur, hv, hb, (heap_setCell_other _ _ _ _ (by show g' ≠ g; omega)).trans hg', rest⟩
def newC (R C : Nat) (most : Int) (v : Value) (sb : Nat) : Array Value := #[.int .i64 R, .int .i64 C, v, .int .i64 0, .int .i64 0, .slice (some ⟨sb, 0, none⟩) C C, .int .i64 0, .bool false, .bool false, .string ⟨#[]⟩, .string ⟨#[]⟩, .int .i64 most, .bool false]
def NewS (w : World) (R C : Nat) (most : Int) (v : Value) (W : World) : Prop :=
 Below w.heap.size w W ∧ W.heap[w.heap.size]? = some (.cells #[.int .i64 R, .int .i64 C] 23 (0, 0)) ∧ W.heap[w.heap.size + 1]? = some (.cells (madeCells #[.bool false] C) 4 (0, 0)) ∧ W.heap[w.heap.size + 1 + 1]? = some (.cells (newC R C most v (w.heap.size + 1)) 68 (0, 0))
section
variable {w W W' : World} {R C : Nat} {most : Int} {v : Value}
theorem NewS.later (h : NewS w R C most v W) (hb : Below W.heap.size W W') : NewS w R C most v W' :=
 ⟨h.1.trans (hb.mono h.1.size), (hb.block _ (block_lt h.2.1)).trans h.2.1, (hb.block _ (block_lt h.2.2.1)).trans h.2.2.1, (hb.block _ (block_lt h.2.2.2)).trans h.2.2.2⟩
theorem NewS.grown (h : NewS w R C most v W) {row : Option Nat} (hg : W.grownBy W' row) (hr : ∀ j, row = some j → w.heap.size + 3 ≤ j) : NewS w R C most v W' :=
 ⟨h.1.grown hg h.1.size (fun j e => by have := hr j e; omega), (hg.block _ (block_lt h.2.1) (fun e => by have := hr _ e.symm; omega)).trans h.2.1, (hg.block _ (block_lt h.2.2.1) (fun e => by have := hr _ e.symm; omega)).trans h.2.2.1, (hg.block _ (block_lt h.2.2.2) (fun e => by have := hr _ e.symm; omega)).trans h.2.2.2⟩
theorem NewS.cells (h : NewS w R C most v W) : (W.cell? ⟨w.heap.size, 0, none⟩ = some (.int .i64 R) ∧ W.cell? ⟨w.heap.size, 1, none⟩ = some (.int .i64 C)) ∧ W.cell? ⟨w.heap.size + 1 + 1, 2, none⟩ = some v ∧ W.frozen? ⟨w.heap.size + 1 + 1, 2, none⟩ = false :=
 ⟨⟨cell_row h.2.1 0, cell_row h.2.1 1⟩, cell_row h.2.2.2 2, frozen_row h.2.2.2 2⟩
end
theorem rf_new (R C : Nat) (hR : 1 ≤ R ∧ R ≤ 6) (hC : 1 ≤ C ∧ C ≤ 12) (most : Int) (w : World) : Calls Tryz.prog 26 #[.agg #[.int .i64 R, .int .i64 C], .int .i64 most] w fun e w' => ∃ rp lb cap sb, e = .returned (.pointer (some ⟨rp, 0, none⟩)) ∧ RfAt w' rp lb cap sb (newR R C most) ∧ (w.heap.size ≤ rp ∧ w.heap.size ≤ lb ∧ w.heap.size ≤ sb) ∧ Below w.heap.size w w' := by
 obtain ⟨i0, hi, hz0, hz1, hz2⟩ := info_three infoCell
 have hmk := make_bools C (by omega)
 have hn : 1 ≤ R * C ∧ R * C ≤ 72 := ⟨Nat.mul_le_mul hR.1 hC.1, Nat.mul_le_mul hR.2 hC.2⟩
 obtain ⟨n, hnn⟩ : ∃ n, n = R * C := ⟨_, rfl⟩
 have hp : IntKind.i64.wrap ((R : Int) * (C : Int)) = (n : Int) := by
  rw [show (R : Int) * (C : Int) = ((R * C : Nat) : Int) from (Int.natCast_mul _ _).symm, wrap_in (by omega) (by omega), hnn]
 rw [← hnn] at hn
 have HNN := Lib.hid hnn
 clear hnn
 have h0 := heap_alloc_new w (.cells #[.int .i64 R, .int .i64 C] 23)
 have HX0 := Lib.hid h0
 have HS0 : Hid (Below w.heap.size w (w.alloc (.cells #[.int .i64 R, .int .i64 C] 23)).drew ∧ (w.alloc (.cells #[.int .i64 R, .int .i64 C] 23)).drew.heap[w.heap.size]? = some (.cells #[.int .i64 R, .int .i64 C] 23 (0, 0))) := ⟨(below1 w _).drew, h0⟩
 clear h0
 go_enter Tryz.func26, Tryz.ntmps26
 go_upto_region 1 with fail
 refine wp_region_noPanic ?_
 refine wp_region_k (S := fun W : World => Below w.heap.size w W ∧ W.heap[w.heap.size]? = some (.cells #[.int .i64 R, .int .i64 C] 23 (0, 0))) 9 (by kernel_rfl) (HS0.out) (fun hHeld => ?_)
 refine kSK 0 hHeld ?_
 refine kTK (v := ?_) 1 [8] hHeld ?y2 ?_
 case y2 => (intro W hSw; obtain ⟨x0, x1, _⟩ := row2 hSw.2; go_simp; try with_reducible rfl)
 refine kSK 2 hHeld ?_
 refine kTK (v := ?_) 3 [8] hHeld ?y4 ?_
 case y4 => (intro W hSw; obtain ⟨x0, x1, _⟩ := row2 hSw.2; go_simp; try with_reducible rfl)
 refine kSK 4 hHeld ?_
 try refine kNK ?_
 refine kSK 5 hHeld ?_
 refine kTK (v := ?_) 6 [8, 7] hHeld ?y7 ?_
 case y7 => (intro W hSw; obtain ⟨x0, x1, _⟩ := row2 hSw.2; go_simp; try with_reducible rfl)
 try refine kNK ?_
 refine kOK 7 fun KQ hKQ => ?_
 go_simp
 skip
 refine hKQ.out _ _ (⟨hHeld.1.alloc hHeld.1.size _, (Below.heap_alloc _ _ _ (block_lt hHeld.2)).trans hHeld.2⟩) ?_
 clear hHeld hKQ KQ
 intro hHeld
 try refine kNK ?_
 refine kSK 8 hHeld ?_
 try refine kNK ?_
 refine kPK 9 fun KQ hKQ => ?_
 go_simp
 skip
 refine hKQ.out _ _ ?_
 clear hKQ KQ
 try refine kNK ?_
 refine kBK 10 ?_
 try refine kNK ?_
 refine wpAnyK_done (by kernel_rfl) ?_ _
 refine NoPanic.normal ?_
 obtain ⟨W0, hW0⟩ : ∃ W, (((w.alloc (.cells #[.int .i64 R, .int .i64 C] 23)).alloc (.cells (madeCells #[.bool false] C) 4)).alloc (.cells #[.int .i64 R, .int .i64 C, .slice none 0 0, .int .i64 0, .int .i64 0, .slice (some ⟨w.heap.size + 1, 0, none⟩) C C, .int .i64 0, .bool false, .bool false, .string ⟨#[]⟩, .string ⟨#[]⟩, .int .i64 most, .bool false] 68)).drew = W := ⟨_, rfl⟩
 rw [hW0]
 have HN : Hid (NewS w R C most (.slice none 0 0) W0) := by
  show NewS w R C most (.slice none 0 0) W0
  rw [← hW0]
  have b2 := ((below1 w (.cells #[.int .i64 R, .int .i64 C] 23)).alloc (by simp) (.cells (madeCells #[.bool false] C) 4)).alloc (by rw [World.size_alloc, World.size_alloc]; omega) (.cells (newC R C most (.slice none 0 0) (w.heap.size + 1)) 68)
  refine ⟨b2.drew, ?_, ?_, ?_⟩
  · exact (Below.heap_alloc _ _ _ (by simp; omega)).trans ((Below.heap_alloc _ _ _ (by simp)).trans HX0.out)
  · have := heap_alloc_new (w.alloc (.cells #[.int .i64 R, .int .i64 C] 23)) (.cells (madeCells #[.bool false] C) 4)
    rw [World.size_alloc] at this
    exact (Below.heap_alloc _ _ _ (by simp)).trans this
  · have := heap_alloc_new ((w.alloc (.cells #[.int .i64 R, .int .i64 C] 23)).alloc (.cells (madeCells #[.bool false] C) 4)) (.cells (newC R C most (.slice none 0 0) (w.heap.size + 1)) 68)
    rw [World.size_alloc, World.size_alloc] at this
    exact this
 clear hW0 hHeld hmk
 go_wp2_with fail
 go_loopw [6] (fun i wr => ∃ (k : Nat) (v : Value), k ≤ n ∧ i = .int .i64 (k : Int) ∧ NewS w R C most v wr ∧ wr.ownsRow (w.heap.size + 3) 56 4 v k (cellsL (fun _ => Vz.Cl.blank) k)) (fun i _ => n - (intOf i).toNat)
 case atStart => exact ⟨0, _, Nat.zero_le _, rfl, HN.out, World.ownsRow_nil _ _ _ _⟩
 case round =>
  obtain ⟨k, v, hk, rfl, hs, hown⟩ := hrel
  have HS := Lib.hid hs
  have HOWN := Lib.hid hown
  obtain ⟨⟨x0, x1⟩, y2, f2⟩ := hs.cells
  clear hs hown
  by_cases hlt : k < n
  · have hkz : (k : Int) < (n : Int) := by omega
    have hwk : IntKind.i64.wrap ((k : Int) + 1) = ((k + 1 : Nat) : Int) := by rw [wrap_in (by omega) (by omega)]; rfl
    have HD := Lib.hid (HS.out.later (Below.refl _ _).drew)
    have HOWD := Lib.hid (own_below HOWN.out (Below.refl _ _).drew)
    have HVB : Hid (∀ j, v.ownBlock = some j → w.heap.size + 3 ≤ j) := fun j hj => (HOWN.out.lt j hj).1
    have hrs : w.heap.size + 3 ≤ wr.heap.size := by have := block_lt HS.out.2.2.2; omega
    go_upto_region 5 with fail
    clear x0 x1 y2 f2
    refine wp_region_noPanic ?_
    refine wp_region_k (S := fun W : World => NewS w R C most v W) 10 (by kernel_rfl) (HD.out) (fun hHeld => ?_)
    refine kSK 0 hHeld ?_
    refine kSK 1 hHeld ?_
    refine kSK 2 hHeld ?_
    refine kSK 3 hHeld ?_
    refine kTK (v := ?_) 4 [] hHeld ?y5 ?_
    case y5 => (intro W hSw; obtain ⟨⟨x0, x1⟩, y2, f2⟩ := hSw.cells; go_simp; try with_reducible rfl)
    try refine kNK ?_
    refine kOK 5 fun KQ hKQ => ?_
    go_simp
    go_at_call 40
    refine (rf_blank _).mono ?_
    rintro e w5 ⟨rfl, hb5⟩
    have hs5 := hHeld.later hb5
    have HOW5 := Lib.hid (own_below HOWD.out hb5)
    have hz5 : wr.heap.size ≤ w5.heap.size := hb5.size
    clear hb5
    go_wp2_with fail
    refine hKQ.out _ _ (hs5) ?_
    clear hHeld hKQ KQ
    intro hHeld
    try refine kNK ?_
    clear hs5
    refine kOK 6 fun KQ hKQ => ?_
    go_simp
    skip
    refine hKQ.out _ _ (hHeld.later (below1 _ _)) ?_
    clear hHeld hKQ KQ
    intro hHeld
    try refine kNK ?_
    have HOW6 := Lib.hid (own_below HOW5.out (below1 w5 (.cells #[.int .i32 32, .int .i64 0, .bool false, .int .i64 0] 56)))
    refine kOK 7 fun KQ hKQ => ?_
    rw [if_pos (by rfl)]
    refine wp_append_own _ (.tmp 30) (.tmp 32) 54 rfl (w.heap.size + 3) 56 i0 (.agg #[.int .i32 0, .int .i64 0, .bool false, .int .i64 0]) 4 32 Tryz.underlying54 hi hz0 hz1 hz2 rfl (by decide) v k (cellsL (fun _ => Vz.Cl.blank) k) rfl HOW6.out ⟨w5.heap.size, 0, none⟩ 1 1 (cellL Vz.Cl.blank) rfl rfl (cell_four_new w5 Vz.Cl.blank) (cellL_one _) (by unfold maxLen; omega) (by omega) (by rw [World.size_alloc]; omega) ?_
    intro v' w7 hown7 hgrow7 _
    obtain ⟨g', cap', rfl⟩ := own_succ hown7
    have hs7 := hHeld.grown hgrow7 (fun j e => HVB.out j e)
    have HS7 := Lib.hid hs7
    have HOW7 := Lib.hid hown7
    obtain ⟨_, u2, g2⟩ := hs7.cells
    clear hown7 hgrow7
    refine hKQ.out _ _ (hs7) ?_
    clear hHeld hKQ KQ
    intro hHeld
    try refine kNK ?_
    clear hs7
    refine kSK 8 hHeld ?_
    refine kSK 9 hHeld ?_
    try refine kNK ?_
    refine kPK 10 fun KQ hKQ => ?_
    go_simp
    skip
    refine hKQ.out _ _ ?_
    clear hKQ KQ
    try refine kNK ?_
    refine wpAnyK_done (by kernel_rfl) ?_ _
    refine NoPanic.normal ?_
    go_wp2_with fail
    refine ⟨⟨k + 1, .slice (some ⟨g', 0, none⟩) (k + 1) cap', by omega, rfl, ⟨HS7.out.1.setCell (p := ⟨w.heap.size + 1 + 1, 2, none⟩) (by show w.heap.size ≤ w.heap.size + 1 + 1; omega) _, (heap_setCell_other _ _ _ _ (by show w.heap.size ≠ w.heap.size + 1 + 1; omega)).trans HS7.out.2.1, (heap_setCell_other _ _ _ _ (by show w.heap.size + 1 ≠ w.heap.size + 1 + 1; omega)).trans HS7.out.2.2.1, heap_set_same HS7.out.2.2.2 2 _⟩, ?_⟩, by simp [intOf]; omega⟩
    rw [cellsL_succ]
    exact own_setR HOW7.out (by show w.heap.size + 1 + 1 < w.heap.size + 3; omega) 2 _
  · obtain rfl : k = n := by omega
    obtain ⟨m, hm⟩ : ∃ m, k = m + 1 := ⟨k - 1, by omega⟩
    have hown' := HOWN.out
    rw [hm] at hown'
    obtain ⟨lb, cap, rfl⟩ := own_succ hown'
    rw [← hm] at *
    clear hown'
    go_wp2_with fail
    go_ret
    have hge : w.heap.size + 3 ≤ lb := (HOWN.out.lt lb rfl).1
    refine ⟨w.heap.size + 1 + 1, rfl, lb, cap, w.heap.size + 1, ⟨?_, ?_, ?_, by omega, by omega, by omega⟩, ⟨by omega, by omega, by omega⟩, HS.out.1⟩
    · have := HS.out.2.2.2
      rw [HNN.out] at this
      exact this
    · have := (RowC.of_own4 HOWN.out).congr (g := Vz.flatC (fun _ => Vz.Cl.blank)) fun i hi => cellsL_getD _ _ _ hi
      rw [HNN.out] at this
      exact this
    · refine ⟨_, HS.out.2.2.1, size_madeCells _ _, Nat.le_refl _, fun i hi => ?_⟩
      rw [← Array.getElem?_toList, toList_madeCells_one]
      show (List.replicate C (Value.bool false))[i]? = some (.bool false)
      have hi' : i < C := hi
      rw [List.getElem?_replicate, if_pos hi']
end
section
set_option maxRecDepth 100000
attribute [local go_sem] alloc_drewN setCell_drewN World.cell?_alloc_some frozen_alloc_some size_f0 size_f1
theorem cellsL_addR (f : Nat → Vz.Cl) (a b : Nat) : cellsL f (a + b) = cellsL f a ++ cellsL (fun j => f (a + j)) b := by
 induction b with
 | zero => simp [cellsL]
 | succ b ih => rw [show a + (b + 1) = a + b + 1 from rfl, cellsL_succ, ih, cellsL_succ, List.append_assoc]
theorem RfAt.news {W : World} {rp lb cap sb : Nat} {r : Rf} (h : RfAt W rp lb cap sb r) (o m : Nat) (hm : o + m ≤ r.R * r.C) :
 ∀ (j : Nat) (u : Value), (cellsL (fun i => r.F (o + i)) m)[j]? = some u → W.cell? ((⟨lb, o * 4, none⟩ : Addr).add j) = some u := by
 intro j u hj
 have hlt : j < m * 4 := by
  have := (List.getElem?_eq_some_iff.1 hj).1
  rwa [cellsL_len] at this
 have e : (cellsL (fun i => r.F (o + i)) m).getD j undef = Vz.flatC (fun i => r.F (o + i)) j := cellsL_getD _ _ _ hlt
 simp only [List.getD, hj, Option.getD_some] at e
 rw [add_none, h.row.cell (show o * 4 + j < r.R * r.C * 4 by omega), e]
 unfold Vz.flatC
 rw [show (o * 4 + j) / 4 = o + j / 4 by omega, show (o * 4 + j) % 4 = j % 4 by omega]
theorem run_cut_end {P : Program} {t e : TypeId} {k : Nat} (hu : P.underlying t = some (.slice e)) (hsz : (P.info? e).map (·.size) = some k) (b len cap lo : Nat) (h1 : lo ≤ len) (h2 : len ≤ cap) :
 ∃ ad : Addr, (lo < cap → ad = ⟨b, lo * k, none⟩) ∧ ∀ W : World, Sem.run P (Instr.slice t (.slice (some ⟨b, 0, none⟩) len cap) (some (.int .i64 (lo : Int))) none none) W = .ok (.slice (some ad) (len - lo) (cap - lo)) W := by
 by_cases h : lo < cap
 · exact ⟨⟨b, lo * k, none⟩, fun _ => rfl, fun W => by have := run_cut_from (P := P) hu hsz W b 0 len cap lo h1 h; rwa [Nat.zero_add] at this⟩
 · refine ⟨⟨b, 0, none⟩, fun h' => absurd h' h, fun W => ?_⟩
   obtain rfl : lo = cap := by omega
   obtain rfl : lo = len := by omega
   cases hq : P.info? e with
   | none => simp [hq] at hsz
   | some i =>
     have hi : i.size = k := by simpa [hq] using hsz
     simp [Instr.slice, run_underlying hu, Instr.sliceBounds, Instr.sliceBound, asIntOf, sizeOf, typeInfo, hq, hi, go_sem]
theorem rf_rows {w : World} {rp lb cap sb : Nat} {r : Rf} (h : RfAt w rp lb cap sb r) (hm : r.may) (top : Nat) (ht : top < r.R) (down : Bool) : Calls Tryz.prog 72 #[.pointer (some ⟨rp, 0, none⟩), .int .i64 (top : Int), .bool down] w fun e w' => e = .returned (.tuple #[]) ∧ RfTo w w' rp lb sb (rowsR r top down) := by
 obtain ⟨i0, hi, hz0, hz1, hz2⟩ := info_three infoCell
 have hn := hm.n
 have hC : 1 ≤ r.C ∧ r.C ≤ 12 := ⟨hm.2.2.1, hm.2.2.2.1⟩
 have HNEW := Lib.hid (fun W => rf_new 1 r.C ⟨Nat.le_refl _, by decide⟩ hC 0 W)
 obtain ⟨n, hnn⟩ : ∃ n, r.R * r.C = n := ⟨_, rfl⟩
 obtain ⟨m, hmm⟩ : ∃ m, top * r.C = m := ⟨_, rfl⟩
 obtain ⟨p, hpp⟩ : ∃ p, (top + 1) * r.C = p := ⟨_, rfl⟩
 obtain ⟨q, hqq⟩ : ∃ q, (r.R - 1) * r.C = q := ⟨_, rfl⟩
 have hpm : p = m + r.C := by rw [← hpp, Nat.succ_mul, hmm]
 have hpn : p ≤ n := by rw [← hpp, ← hnn]; exact Nat.mul_le_mul_right _ ht
 have hqn : q + r.C = n := by rw [← hqq, ← hnn, ← Nat.succ_mul]; congr 1; omega
 rw [hnn] at hn
 have e1 : IntKind.i64.wrap ((top : Int) * (r.C : Int)) = (m : Int) := by
  rw [show (top : Int) * (r.C : Int) = ((top * r.C : Nat) : Int) from (Int.natCast_mul _ _).symm, hmm, wrap_in (by omega) (by omega)]
 have e2 : IntKind.i64.wrap ((top : Int) + 1) = ((top + 1 : Nat) : Int) := by have := hm.2.1; rw [wrap_in (by omega) (by omega)]; rfl
 have e3 : IntKind.i64.wrap (((top : Int) + 1) * (r.C : Int)) = (p : Int) := by
  rw [show ((top : Int) + 1) * (r.C : Int) = (((top + 1) * r.C : Nat) : Int) from (Int.natCast_mul _ _).symm, hpp, wrap_in (by omega) (by omega)]
 have e4 : IntKind.i64.wrap ((r.R : Int) - 1) = (r.R : Int) - 1 := by have := hm.2.1; exact wrap_in (by omega) (by omega)
 have e5 : IntKind.i64.wrap (((r.R : Int) - 1) * (r.C : Int)) = (q : Int) := by
  have h1 := hm.1
  rw [show (r.R : Int) - 1 = ((r.R - 1 : Nat) : Int) by omega, show ((r.R - 1 : Nat) : Int) * (r.C : Int) = (((r.R - 1) * r.C : Nat) : Int) from (Int.natCast_mul _ _).symm, hqq, wrap_in (by omega) (by omega)]
 have hcap : n ≤ cap := by have := h.row.le; rw [hnn] at this; omega
 have s1 : ∀ W : World, Sem.run Tryz.prog (Instr.slice 54 (.slice (some ⟨lb, 0, none⟩) n cap) none (some (.int .i64 (m : Int))) none) W = .ok (.slice (some ⟨lb, 0, none⟩) m cap) W := fun W => run_cut_to (P := Tryz.prog) Tryz.underlying54 cellSize W lb 0 n cap m (by omega)
 have s2 : ∀ W : World, Sem.run Tryz.prog (Instr.slice 54 (.slice (some ⟨lb, 0, none⟩) n cap) (some (.int .i64 (m : Int))) (some (.int .i64 (q : Int))) none) W = .ok (.slice (some ⟨lb, m * 4, none⟩) (q - m) (cap - m)) W := fun W => by
  have := run_cut_both (P := Tryz.prog) Tryz.underlying54 cellSize W lb 0 n cap m q (by omega) (by omega) (by omega)
  rwa [Nat.zero_add] at this
 obtain ⟨ad, had, s3⟩ := run_cut_end (P := Tryz.prog) Tryz.underlying54 cellSize lb n cap p hpn hcap
 have H := Lib.hid (fun W (hb : Below w.heap.size w W) => h.below hb)
 have HN := Lib.hid hnn
 have HM := Lib.hid hmm
 have HAD := Lib.hid had
 have HLT := Lib.hid h.lt
 have HNE := Lib.hid (And.intro h.n1 (And.intro h.n2 h.n3))
 have HST : Hid (∀ W, Below w.heap.size w W → RowC W sb 4 r.C r.C (fun c => .bool (r.T c))) := fun W hb => (h.below hb).stops
 -- what comes of it
 have HG : Hid (rowsR r top down = { r with F := rowsF r top down }) := rfl
 have HFA : Hid (∀ j, j < m → rowsF r top down j = r.F j) := fun j hj => by unfold rowsF; rw [if_pos (by rw [hmm]; exact hj)]
 have HFD : Hid (down = true → (∀ j, j < r.C → rowsF r top down (m + j) = Vz.Cl.blank) ∧ ∀ j, rowsF r top down (m + r.C + j) = r.F (m + j)) := by
  rintro rfl
  refine ⟨fun j hj => ?_, fun j => ?_⟩
  · unfold rowsF; rw [if_neg (by rw [hmm]; omega), if_pos rfl, if_pos (by rw [hmm]; omega)]
  · unfold rowsF; rw [if_neg (by rw [hmm]; omega), if_pos rfl, if_neg (by rw [hmm]; omega), show m + r.C + j - r.C = m + j by omega]
 have HFU : Hid (down = false → (∀ j, j < n - p → rowsF r top down (m + j) = r.F (p + j)) ∧ ∀ j, rowsF r top down (m + (n - p) + j) = Vz.Cl.blank) := by
  rintro rfl
  refine ⟨fun j hj => ?_, fun j => ?_⟩
  · unfold rowsF; rw [if_neg (by rw [hmm]; omega), if_neg (by decide), if_pos (by rw [hnn]; omega), hpm, show m + j + r.C = m + r.C + j by omega]
  · unfold rowsF; rw [if_neg (by rw [hmm]; omega), if_neg (by decide), if_neg (by rw [hnn]; omega)]
 have HEND : Hid (∀ (W : World) (g cp : Nat), Below w.heap.size w W → W.ownsRow w.heap.size 56 4 (.slice (some ⟨g, 0, none⟩) n cp) n (cellsL (rowsF r top down) n) → RfTo w (W.setCell ⟨rp, 2, none⟩ (.slice (some ⟨g, 0, none⟩) n cp)) rp lb sb (rowsR r top down)) := by
  intro W g cp hb ho
  have hge := ho.lt g rfl
  have hlt := HLT.out
  have hne := HNE.out
  have hbx := (H.out W hb).box
  have ho' := own_setR (xs := cellsL (rowsF r top down) n) ho (show rp < w.heap.size from hlt.1) 2 (.slice (some ⟨g, 0, none⟩) n cp)
  refine ⟨⟨g, cp, sb, ⟨?_, ?_, ?_, by omega, hne.2.1, by omega⟩, .inr hge.1, .inl rfl⟩, (Keeps.of_below hb : Keeps (fun k => k = rp ∨ k = lb ∨ k = sb) w W).trans (Keeps.setCell (fun k => k = rp) W (p := ⟨rp, 2, none⟩) rfl _) fun k e => .inl (.inl e)⟩
  · have := heap_set_same hbx 2 (.slice (some ⟨g, 0, none⟩) n cp)
    rw [← HN.out] at this ⊢
    exact this
  · have := (RowC.of_own4 ho').congr (g := Vz.flatC (rowsF r top down)) fun i hi => cellsL_getD _ _ _ hi
    rw [← HN.out] at this ⊢
    exact this
  · exact (HST.out W hb).of_block (heap_setCell_other _ _ _ _ (fun e => hne.2.1 e.symm))
 obtain ⟨⟨y0, y1, y2, y3, y4, y5, y6, y7, y8, y9, y10, y11, y12⟩, _⟩ := h.cellsN hnn
 have HNW1 : Hid (∀ (j : Nat) (u : Value), (cellsL r.F m)[j]? = some u → w.cell? ((⟨lb, 0, none⟩ : Addr).add j) = some u) := by
  show ∀ (j : Nat) (u : Value), (cellsL r.F m)[j]? = some u → w.cell? ((⟨lb, 0, none⟩ : Addr).add j) = some u
  have := h.news 0 m (by omega)
  simpa using this
 have HPM : Hid (p = m + r.C ∧ p ≤ n ∧ q + r.C = n ∧ m ≤ q) := ⟨hpm, hpn, hqn, by omega⟩
 have b2 : m + r.C ≤ 72 := by omega
 have b3 : m + (n - p) ≤ 72 := by omega
 have b4 : m + (n - p) + r.C ≤ 72 := by omega
 have b5 : m + r.C + (q - m) ≤ 72 := by omega
 clear h hm hnn hmm hpp hqq had HG hpm hpn hqn
 go_enter Tryz.func72, Tryz.ntmps72
 go_upto_region 3 with (at_builtin; refine wpList_append_own_at _ rfl _ _ 54 rfl w.heap.size 56 i0 (.agg #[.int .i32 0, .int .i64 0, .bool false, .int .i64 0]) 4 32 Tryz.underlying54 hi hz0 hz1 hz2 rfl (by decide) (.slice none 0 0) 0 [] rfl (World.ownsRow_nil _ _ _ _) ⟨lb, 0, none⟩ m cap (cellsL r.F m) rfl (cellsL_len _ _) HNW1.out (cellsL_one _ _) (by unfold maxLen; omega) (by omega) (Nat.le_refl _) ?_; intro v1 w1 hown1 hgrow1 _ _; rw [Nat.zero_add, List.nil_append] at hown1; have HO1 := Lib.hid hown1; have HB1 := Lib.hid ((Below.refl w.heap.size w).grown hgrow1 (Nat.le_refl _) (fun j e => by cases e)); clear hown1 hgrow1)
 clear y0 y1 y2 y3 y4 y5 y6 y7 y8 y9 y10 y11 y12
 go_upto_region 4 with (go_at_call 26; refine (HNEW.out _).mono ?_; rintro e w2 ⟨rp2, lb2, cap2, sb2, rfl, h2, hge2, hb2⟩; have HO2 := Lib.hid (own_below HO1.out hb2); have HB2 := Lib.hid (Below.later HB1.out hb2 HB1.out.size); have HE2 := Lib.hid h2; obtain ⟨⟨z0, z1, z2, _⟩, _⟩ := h2.cellsN (n := r.C) (Nat.one_mul _); have HGE := Lib.hid hge2; clear h2 hge2 hb2)
 clear z0 z1 z2
 have HNE2 : Hid (∀ W, Below w2.heap.size w2 W → ∀ (j : Nat) (u : Value), (cellsL (fun _ => Vz.Cl.blank) r.C)[j]? = some u → W.cell? ((⟨lb2, 0, none⟩ : Addr).add j) = some u) := fun W hb => by
  intro j u hj
  have h1 := (HE2.out.below hb).news 0 r.C (by show 0 + r.C ≤ 1 * r.C; omega) j u hj
  rwa [Nat.zero_mul] at h1
 cases down with
 | true =>
   obtain ⟨hd1, hd2⟩ := HFD.out rfl
   have HX : Hid (cellsL (rowsF r top true) n = cellsL r.F m ++ cellsL (fun _ => Vz.Cl.blank) r.C ++ cellsL (fun i => r.F (m + i)) (q - m)) := by
    show _ = _
    have hP := HPM.out
    rw [show n = m + r.C + (q - m) by omega, cellsL_addR, cellsL_addR]
    congr 1
    · congr 1
      · exact cellsL_congr _ _ _ HFA.out
      · exact cellsL_congr _ _ _ hd1
    · exact cellsL_congr _ _ _ fun j _ => hd2 j
   clear hd1 hd2 HFD HFU
   have hz2b : w.heap.size ≤ w2.heap.size := HB2.out.size
   have HN2 := Lib.hid (HNE2.out w2 (Below.refl _ _))
   go_upto_region 6 with (at_builtin; refine wpList_append_own_at _ rfl _ _ 54 rfl w.heap.size 56 i0 (.agg #[.int .i32 0, .int .i64 0, .bool false, .int .i64 0]) 4 32 Tryz.underlying54 hi hz0 hz1 hz2 rfl (by decide) v1 m (cellsL r.F m) rfl HO2.out ⟨lb2, 0, none⟩ r.C cap2 (cellsL (fun _ => Vz.Cl.blank) r.C) rfl (cellsL_len _ _) HN2.out (cellsL_one _ _) (by unfold maxLen; omega) (by omega) hz2b ?_; intro v3 w3 hown3 hgrow3 _ _; have HO3 := Lib.hid hown3; have HB3 := Lib.hid (HB2.out.grown hgrow3 HB2.out.size (fun j e => (HO2.out.lt j e).1)); clear hown3 hgrow3)
   have HO3D := Lib.hid (own_below HO3.out (Below.refl _ _).drew)
   have HB3D : Hid (Below w.heap.size w w3.drew) := HB3.out.drew
   have HNW3 : Hid (∀ (j : Nat) (u : Value), (cellsL (fun i => r.F (m + i)) (q - m))[j]? = some u → w3.drew.cell? ((⟨lb, m * 4, none⟩ : Addr).add j) = some u) := (H.out _ HB3D.out).news m (q - m) (by rw [HN.out]; have := HPM.out; omega)
   have hz3 : w.heap.size ≤ w3.drew.heap.size := HB3D.out.size
   refine wp_region_noPanic ?_
   refine wp_region_k (S := fun W : World => Below w.heap.size w W) 16 (by kernel_rfl) (HB3D.out) (fun hHeld => ?_)
   refine kSK 0 hHeld ?_
   refine kSK 1 hHeld ?_
   refine kSK 2 hHeld ?_
   refine kSK 3 hHeld ?_
   refine kTK (v := ?_) 4 [15] hHeld ?y5 ?_
   case y5 => (intro W hSw; obtain ⟨⟨y0, y1, y2, y3, y4, y5, y6, y7, y8, y9, y10, y11, y12⟩, _⟩ := (H.out _ hSw).cellsN (n := n) HN.out; go_simp; try with_reducible rfl)
   try refine kNK ?_
   refine kSK 5 hHeld ?_
   refine kSK 6 hHeld ?_
   refine kSK 7 hHeld ?_
   refine kSK 8 hHeld ?_
   refine kSK 9 hHeld ?_
   try refine kNK ?_
   refine kSK 10 hHeld ?_
   refine kTK (v := ?_) 11 [15, 14, 12] hHeld ?y12 ?_
   case y12 => (intro W hSw; obtain ⟨⟨y0, y1, y2, y3, y4, y5, y6, y7, y8, y9, y10, y11, y12⟩, _⟩ := (H.out _ hSw).cellsN (n := n) HN.out; go_simp; try with_reducible rfl)
   refine kSK 12 hHeld ?_
   refine kSK 13 hHeld ?_
   refine kSK 14 hHeld ?_
   try refine kNK ?_
   refine kSK 15 hHeld ?_
   try refine kNK ?_
   refine kPK 16 fun KQ hKQ => ?_
   rw [if_pos (by rfl)]
   refine wp_append_own _ (.tmp 33) (.tmp 48) 54 rfl w.heap.size 56 i0 (.agg #[.int .i32 0, .int .i64 0, .bool false, .int .i64 0]) 4 32 Tryz.underlying54 hi hz0 hz1 hz2 rfl (by decide) v3 (m + r.C) (cellsL r.F m ++ cellsL (fun _ => Vz.Cl.blank) r.C) rfl HO3D.out ⟨lb, m * 4, none⟩ (q - m) (cap - m) (cellsL (fun i => r.F (m + i)) (q - m)) rfl (cellsL_len _ _) HNW3.out (cellsL_one _ _) (by unfold maxLen; omega) (by omega) hz3 ?_
   intro v4 w4 hown4 hgrow4 _
   rw [← HX.out, show m + r.C + (q - m) = n by have := HPM.out; omega] at hown4
   have HB4 := Lib.hid (HB3D.out.grown hgrow4 HB3D.out.size (fun j e => (HO3D.out.lt j e).1))
   have HO4 := Lib.hid hown4
   clear hown4 hgrow4
   refine hKQ.out _ _ ?_
   clear hKQ KQ
   try refine kNK ?_
   refine kBK 17 ?_
   try refine kNK ?_
   refine wpAnyK_done (by kernel_rfl) ?_ _
   refine NoPanic.normal ?_
   obtain ⟨n', hn'⟩ : ∃ n', n = n' + 1 := ⟨n - 1, by omega⟩
   have hown4 := HO4.out
   rw [hn'] at hown4
   obtain ⟨g, cp, rfl⟩ := own_succ hown4
   rw [← hn'] at *
   have HT := Lib.hid (HEND.out w4 g cp HB4.out HO4.out)
   obtain ⟨⟨y0, y1, y2, y3, y4, y5, y6, y7, y8, y9, y10, y11, y12⟩, f2, _⟩ := (H.out _ HB4.out).cellsN (n := n) HN.out
   clear hown4
   go_wp2_with fail
   go_end0
   exact ⟨rfl, HT.out⟩
 | false =>
   obtain ⟨hd1, hd2⟩ := HFU.out rfl
   have HX : Hid (cellsL (rowsF r top false) n = cellsL r.F m ++ cellsL (fun i => r.F (p + i)) (n - p) ++ cellsL (fun _ => Vz.Cl.blank) r.C) := by
    show _ = _
    have hP := HPM.out
    obtain ⟨d, hd⟩ : ∃ d, n - p = d := ⟨_, rfl⟩
    rw [hd] at hd1 hd2 ⊢
    rw [show n = m + d + r.C by omega, cellsL_addR, cellsL_addR]
    congr 1
    · congr 1
      · exact cellsL_congr _ _ _ HFA.out
      · exact cellsL_congr _ _ _ hd1
    · exact cellsL_congr _ _ _ fun j _ => hd2 j
   clear hd1 hd2 HFD HFU
   have hz2b : w.heap.size ≤ w2.heap.size := HB2.out.size
   have HNW2 : Hid (∀ (j : Nat) (u : Value), (cellsL (fun i => r.F (p + i)) (n - p))[j]? = some u → w2.cell? (ad.add j) = some u) := by
    intro j u hj
    by_cases e : p < cap
    · rw [HAD.out e]
      exact (H.out _ HB2.out).news p (n - p) (by rw [HN.out]; have := HPM.out; omega) j u hj
    · rw [show n - p = 0 by have := HPM.out; omega] at hj
      simp [cellsL] at hj
   obtain ⟨⟨y0, y1, y2, y3, y4, y5, y6, y7, y8, y9, y10, y11, y12⟩, _⟩ := (H.out _ HB2.out).cellsN (n := n) HN.out
   go_upto_region 8 with (at_builtin; refine wpList_append_own_at _ rfl _ _ 54 rfl w.heap.size 56 i0 (.agg #[.int .i32 0, .int .i64 0, .bool false, .int .i64 0]) 4 32 Tryz.underlying54 hi hz0 hz1 hz2 rfl (by decide) v1 m (cellsL r.F m) rfl HO2.out ad (n - p) (cap - p) (cellsL (fun i => r.F (p + i)) (n - p)) rfl (cellsL_len _ _) HNW2.out (cellsL_one _ _) (by unfold maxLen; omega) (by omega) hz2b ?_; intro v3 w3 hown3 hgrow3 _ _; have HO3 := Lib.hid hown3; have HB3 := Lib.hid (HB2.out.grown hgrow3 HB2.out.size (fun j e => (HO2.out.lt j e).1)); have HG3 := Lib.hid (And.intro hgrow3 True.intro); clear hown3 hgrow3)
   clear y0 y1 y2 y3 y4 y5 y6 y7 y8 y9 y10 y11 y12
   have HE3 : Hid (RfAt w3 rp2 lb2 cap2 sb2 (newR 1 r.C 0)) := by
    have hl := HE2.out.lt
    have hg := HGE.out
    have key : ∀ k, w1.heap.size ≤ k → some k ≠ v1.ownBlock := fun k hk e => by have := (HO1.out.lt k e.symm).2; omega
    exact HE2.out.of_blocks (HG3.out.1.block _ hl.1 (key _ hg.1)) (HG3.out.1.block _ hl.2.1 (key _ hg.2.1)) (HG3.out.1.block _ hl.2.2 (key _ hg.2.2))
   have HNE3 : Hid (∀ (j : Nat) (u : Value), (cellsL (fun _ => Vz.Cl.blank) r.C)[j]? = some u → w3.cell? ((⟨lb2, 0, none⟩ : Addr).add j) = some u) := by
    intro j u hj
    have h1 := HE3.out.news 0 r.C (by show 0 + r.C ≤ 1 * r.C; omega) j u hj
    rwa [Nat.zero_mul] at h1
   have hz3 : w.heap.size ≤ w3.heap.size := HB3.out.size
   go_upto_region 9 with (at_builtin; refine wpList_append_own_at _ rfl _ _ 54 rfl w.heap.size 56 i0 (.agg #[.int .i32 0, .int .i64 0, .bool false, .int .i64 0]) 4 32 Tryz.underlying54 hi hz0 hz1 hz2 rfl (by decide) v3 (m + (n - p)) (cellsL r.F m ++ cellsL (fun i => r.F (p + i)) (n - p)) rfl HO3.out ⟨lb2, 0, none⟩ r.C cap2 (cellsL (fun _ => Vz.Cl.blank) r.C) rfl (cellsL_len _ _) HNE3.out (cellsL_one _ _) (by unfold maxLen; omega) (by omega) hz3 ?_; intro v4 w4 hown4 hgrow4 _ _; rw [← HX.out, show m + (n - p) + r.C = n by have := HPM.out; omega] at hown4; have HB4 := Lib.hid (HB3.out.grown hgrow4 HB3.out.size (fun j e => (HO3.out.lt j e).1)); have HO4 := Lib.hid hown4; clear hown4 hgrow4)
   obtain ⟨n', hn'⟩ : ∃ n', n = n' + 1 := ⟨n - 1, by omega⟩
   have hown4 := HO4.out
   rw [hn'] at hown4
   obtain ⟨g, cp, rfl⟩ := own_succ hown4
   rw [← hn'] at *
   have HT := Lib.hid (HEND.out w4 g cp HB4.out HO4.out)
   obtain ⟨⟨y0, y1, y2, y3, y4, y5, y6, y7, y8, y9, y10, y11, y12⟩, f2, _⟩ := (H.out _ HB4.out).cellsN (n := n) HN.out
   clear hown4
   go_wp2_with fail
   go_end0
   exact ⟨rfl, HT.out⟩
end
section
set_option maxRecDepth 100000
attribute [local go_sem] alloc_drewN setCell_drewN World.cell?_alloc_some frozen_alloc_some size_f0 size_f1
section
variable {w : World} {rp lb cap sb : Nat} {r : Rf}
theorem RfAt.colTo (h : RfAt w rp lb cap sb r) (c : Nat) : RfTo w (w.setCell ⟨rp, 4, none⟩ (.int .i64 (c : Int))) rp lb sb { r with col := c } :=
 h.boxed rfl rfl rfl rfl (heap_set_same h.box 4 (.int .i64 (c : Int))) (Keeps.setCell (fun k => k = rp) w (p := ⟨rp, 4, none⟩) rfl _)
theorem RfAt.rowTo (h : RfAt w rp lb cap sb r) (c : Nat) : RfTo w (w.setCell ⟨rp, 3, none⟩ (.int .i64 (c : Int))) rp lb sb { r with row := c } :=
 h.boxed rfl rfl rfl rfl (heap_set_same h.box 3 (.int .i64 (c : Int))) (Keeps.setCell (fun k => k = rp) w (p := ⟨rp, 3, none⟩) rfl _)
theorem backT_fix (T : Nat → Bool) {k : Nat} (h : k = 0 ∨ T k = true) : backT T k = k := by
 rcases h with rfl | h
 · rfl
 · cases k with
   | zero => rfl
   | succ k => unfold backT; rw [if_pos h]
theorem backT_on (T : Nat → Bool) {k : Nat} (h : T (k + 1) = false) : backT T (k + 1) = backT T k := by
 conv => lhs; unfold backT
 rw [if_neg (by rw [h]; decide)]
theorem rf_tab_back (h : RfAt w rp lb cap sb r) (hm : r.may) : Calls Tryz.prog 66 #[.pointer (some ⟨rp, 0, none⟩), .bool true] w fun e w' => e = .returned (.tuple #[]) ∧ RfTo w w' rp lb sb (tabR r true) := by
 obtain ⟨⟨y0, y1, y2, y3, y4, y5, y6, y7, y8, y9, y10, y11, y12⟩, f2, f3, f4, _⟩ := h.cells
 have hc := hm.2.2.2.2.2
 have hC := hm.2.2.2.1
 have H := Lib.hid h
 have HTO := Lib.hid (h.colTo)
 clear y2
 cases hcol : r.col with
 | zero =>
   rw [hcol] at y4
   have HE : Hid (tabR r true = { r with col := 0 }) := by show _ = _; unfold tabR; rw [if_pos rfl, if_pos hcol]
   have HT : Hid (RfTo w (w.setCell ⟨rp, 4, none⟩ (.int .i64 0)) rp lb sb { r with col := 0 }) := HTO.out 0
   clear h hm
   go_enter Tryz.func66, Tryz.ntmps66
   go_wp2_with fail
   go_loopw [4] (fun c wr => c = .int .i64 (-1) ∧ wr = w) (fun _ _ => 0)
   case atStart => exact ⟨rfl, rfl⟩
   case round =>
    obtain ⟨rfl, rfl⟩ := hrel
    go_wp2_with fail
    exact bodyPost_ret (results_none rfl _ _ _) rfl ⟨rfl, by rw [HE.out]; exact HT.out⟩
 | succ c0 =>
   have y4' : w.cell? ⟨rp, 4, none⟩ = some (.int .i64 ((c0 : Int) + 1)) := by rw [y4, hcol]; rfl
   have hw0 : IntKind.i64.wrap ((c0 : Int) + 1 - 1) = (c0 : Int) := by rw [wrap_in (by omega) (by omega)]; omega
   have hw1 : IntKind.i64.wrap (c0 : Int) = (c0 : Int) := wrap_in (by omega) (by omega)
   have HE : Hid (tabR r true = { r with col := backT r.T c0 }) := by
    show _ = _
    unfold tabR
    rw [if_pos rfl, if_neg (by omega), hcol]
    rfl
   have hc0 : c0 + 1 < r.C := by omega
   clear h hm y4 hcol
   go_enter Tryz.func66, Tryz.ntmps66
   go_wp2_with fail
   go_loopw [4] (fun c wr => ∃ k : Nat, k ≤ c0 ∧ c = .int .i64 (k : Int) ∧ wr = w ∧ Hid (backT r.T c0 = backT r.T k)) (fun c _ => (intOf c).toNat)
   case atStart => exact ⟨c0, Nat.le_refl _, by simp, rfl, rfl⟩
   case round =>
    obtain ⟨k, hk, rfl, rfl, hb⟩ := hrel
    have emx : max (k : Int) 0 = (k : Int) := by omega
    cases hk0 : k with
    | zero =>
      subst hk0
      have HT : Hid (RfTo wr (wr.setCell ⟨rp, 4, none⟩ (.int .i64 0)) rp lb sb (tabR r true)) := by
       show RfTo _ _ _ _ _ _
       rw [HE.out, hb.out]
       exact HTO.out 0
      clear hb
      go_wp2_with fail
      exact bodyPost_ret (results_none rfl _ _ _) rfl ⟨rfl, HT.out⟩
    | succ k' =>
      subst hk0
      have a0 := H.out.stop (c := k' + 1) (by omega)
      have hkz : (0 : Int) < ((k' + 1 : Nat) : Int) := by omega
      have hkC : ((k' + 1 : Nat) : Int) < (r.C : Int) := by omega
      have hwk : IntKind.i64.wrap (((k' + 1 : Nat) : Int) - 1) = (k' : Int) := by rw [wrap_in (by omega) (by omega)]; omega
      cases ht : r.T (k' + 1) with
      | true =>
        rw [ht] at a0
        have HT : Hid (RfTo wr (wr.setCell ⟨rp, 4, none⟩ (.int .i64 ((k' + 1 : Nat) : Int))) rp lb sb (tabR r true)) := by
         show RfTo _ _ _ _ _ _
         rw [HE.out, hb.out, backT_fix r.T (.inr ht)]
         exact HTO.out (k' + 1)
        clear hb ht
        go_wp2_with fail
        exact bodyPost_ret (results_none rfl _ _ _) rfl ⟨rfl, HT.out⟩
      | false =>
        rw [ht] at a0
        have HB : Hid (backT r.T c0 = backT r.T k') := hb.out.trans (backT_on r.T ht)
        clear hb ht
        go_wp2_with fail
        exact ⟨⟨k', by omega, rfl, by simp, HB⟩, by simp [intOf]⟩
theorem foreT_stop (T : Nat → Bool) (C m c : Nat) (h : ¬ (c < C - 1 ∧ T c = false)) : foreT T C m c = c := by
 cases m with
 | zero => rfl
 | succ m => unfold foreT; rw [if_neg h]
theorem foreT_on (T : Nat → Bool) (C m c : Nat) (h : c < C - 1 ∧ T c = false) : foreT T C (m + 1) c = foreT T C m (c + 1) := by
 conv => lhs; unfold foreT
 rw [if_pos h]
theorem rf_tab_fore (h : RfAt w rp lb cap sb r) (hm : r.may) : Calls Tryz.prog 66 #[.pointer (some ⟨rp, 0, none⟩), .bool false] w fun e w' => e = .returned (.tuple #[]) ∧ RfTo w w' rp lb sb (tabR r false) := by
 obtain ⟨⟨y0, y1, y2, y3, y4, y5, y6, y7, y8, y9, y10, y11, y12⟩, f2, f3, f4, _⟩ := h.cells
 have hc := hm.2.2.2.2.2
 have hC := hm.2.2.2.1
 have hC1 := hm.2.2.1
 have H := Lib.hid h
 have HTO := Lib.hid (h.colTo)
 have hw0 : IntKind.i64.wrap ((r.col : Int) + 1) = ((r.col + 1 : Nat) : Int) := by rw [wrap_in (by omega) (by omega)]; rfl
 have hwC : IntKind.i64.wrap ((r.C : Int) - 1) = (r.C : Int) - 1 := wrap_in (by omega) (by omega)
 have HE : Hid (tabR r false = { r with col := min (foreT r.T r.C r.C (r.col + 1)) (r.C - 1) }) := rfl
 clear h hm y2
 go_enter Tryz.func66, Tryz.ntmps66
 go_wp2_with fail
 go_loopw [5] (fun c wr => ∃ k m : Nat, k ≤ r.C ∧ c = .int .i64 (k : Int) ∧ wr = w ∧ Hid (foreT r.T r.C r.C (r.col + 1) = foreT r.T r.C m k) ∧ r.C ≤ m + k) (fun c _ => r.C - (intOf c).toNat)
 case atStart => exact ⟨r.col + 1, r.C, by omega, by simp, rfl, rfl, by omega⟩
 case round =>
  obtain ⟨k, m, hk, rfl, rfl, hf, hmk⟩ := hrel
  obtain ⟨v, hv⟩ : ∃ v, v = min k (r.C - 1) := ⟨_, rfl⟩
  have emn : min (k : Int) ((r.C : Int) - 1) = (v : Int) := by omega
  have HEND : Hid (¬ (k < r.C - 1 ∧ r.T k = false) → RfTo wr (wr.setCell ⟨rp, 4, none⟩ (.int .i64 (v : Int))) rp lb sb (tabR r false)) := by
   intro hs
   rw [HE.out, hf.out, foreT_stop _ _ _ _ hs, ← hv]
   exact HTO.out v
  have hwk : IntKind.i64.wrap ((k : Int) + 1) = ((k + 1 : Nat) : Int) := by rw [wrap_in (by omega) (by omega)]; rfl
  by_cases h1 : k < r.C - 1
  · have h1z : (k : Int) < (r.C : Int) - 1 := by omega
    have hkC : (k : Int) < (r.C : Int) := by omega
    have a0 := H.out.stop (c := k) (by omega)
    cases ht : r.T k with
    | true =>
      rw [ht] at a0
      have HT := Lib.hid (HEND.out (fun e => by rw [ht] at e; exact absurd e.2 (by decide)))
      clear hf ht hv HEND
      go_wp2_with fail
      go_end0
      exact ⟨rfl, HT.out⟩
    | false =>
      rw [ht] at a0
      obtain ⟨m', hm'⟩ : ∃ m', m = m' + 1 := ⟨m - 1, by omega⟩
      have HF : Hid (foreT r.T r.C r.C (r.col + 1) = foreT r.T r.C m' (k + 1)) := hf.out.trans (by rw [hm']; exact foreT_on _ _ _ _ ⟨h1, ht⟩)
      clear hf ht hv HEND emn
      go_wp2_with fail
      exact ⟨⟨k + 1, m', by omega, rfl, by simp, HF, by omega⟩, by simp [intOf]; omega⟩
  · have h1z : ¬ (k : Int) < (r.C : Int) - 1 := by omega
    have HT := Lib.hid (HEND.out (fun e => h1 e.1))
    clear hf hv HEND
    go_wp2_with fail
    go_end0
    exact ⟨rfl, HT.out⟩
theorem rf_tab (h : RfAt w rp lb cap sb r) (hm : r.may) (back : Bool) : Calls Tryz.prog 66 #[.pointer (some ⟨rp, 0, none⟩), .bool back] w fun e w' => e = .returned (.tuple #[]) ∧ RfTo w w' rp lb sb (tabR r back) := by
 cases back with
 | true => exact rf_tab_back h hm
 | false => exact rf_tab_fore h hm
theorem rf_feed (h : RfAt w rp lb cap sb r) (hm : r.may) : Calls Tryz.prog 67 #[.pointer (some ⟨rp, 0, none⟩)] w fun e w' => e = .returned (.tuple #[]) ∧ RfTo w w' rp lb sb (feedR r) := by
 have HB0 : Hid (Below w.heap.size w w.drew) := (Below.refl _ _).drew
 have hd := h.below HB0.out
 have H := Lib.hid (fun W (hb : Below w.heap.size w W) => (h.below hb).cells)
 have HRO := Lib.hid (rf_rows hd hm 0 (by have := hm.1; omega) false)
 have HR1 : Hid (RfTo w (w.drew.setCell ⟨rp, 3, none⟩ (.int .i64 ((r.row + 1 : Nat) : Int))) rp lb sb { r with row := r.row + 1 }) := RfTo.after HB0.out (hd.rowTo _)
 have HR0 : Hid (RfTo w (w.drew.setCell ⟨rp, 3, none⟩ (.int .i64 0)) rp lb sb { r with row := 0 }) := RfTo.after HB0.out (hd.rowTo 0)
 obtain ⟨⟨y0, y1, y2, y3, y4, y5, y6, y7, y8, y9, y10, y11, y12⟩, f2, f3, f4, _⟩ := hd.cells
 have hr := hm.2.2.2.2.1
 have hR := hm.2.1
 have e1 : IntKind.i64.wrap ((r.R : Int) - 1) = (r.R : Int) - 1 := wrap_in (by omega) (by omega)
 have e2 : IntKind.i64.wrap ((r.row : Int) + 1) = ((r.row + 1 : Nat) : Int) := by rw [wrap_in (by omega) (by omega)]; rfl
 have f1 : r.row < r.R - 1 → feedR r = { r with row := r.row + 1 } := fun c => if_pos c
 have f5 : ¬ r.row < r.R - 1 → r.pr = true → feedR r = { r with row := 0 } := fun c hp => (if_neg c).trans (if_pos hp)
 have f6 : ¬ r.row < r.R - 1 → r.pr = false → feedR r = rowsR r 0 false := fun c hp => (if_neg c).trans (if_neg (by rw [hp]; decide))
 clear h hd hm y2
 by_cases c : r.row < r.R - 1
 · have cz : (r.row : Int) < (r.R : Int) - 1 := by omega
   rw [f1 c]
   clear f1 f5 f6 c
   go_enter Tryz.func67, Tryz.ntmps67
   go_upto_region 0 with fail
   refine wp_region_noPanic ?_
   refine wp_region_k (S := fun W : World => Below w.heap.size w W) 999 (by kernel_rfl) (HB0.out) (fun hHeld => ?_)
   refine kSK 0 hHeld ?_
   refine kSK 1 hHeld ?_
   refine kSK 2 hHeld ?_
   refine kHK (v := ?_) 3 hHeld ?y4 ?_
   case y4 => (intro W hSw; obtain ⟨⟨y0, y1, y2, y3, y4, y5, y6, y7, y8, y9, y10, y11, y12⟩, _⟩ := H.out _ hSw; go_simp; try with_reducible rfl)
   refine kSK 4 hHeld ?_
   try refine kNK ?_
   refine kSK 5 hHeld ?_
   refine kSK 6 hHeld ?_
   refine kHK (v := ?_) 7 hHeld ?y8 ?_
   case y8 => (intro W hSw; obtain ⟨⟨y0, y1, y2, y3, y4, y5, y6, y7, y8, y9, y10, y11, y12⟩, _⟩ := H.out _ hSw; go_simp; try with_reducible rfl)
   refine kSK 8 hHeld ?_
   refine kSK 9 hHeld ?_
   try refine kNK ?_
   refine wpAnyK_done (by kernel_rfl) ?_ _
   refine NoPanic.normal ?_
   go_wp2_with fail
   exact bodyPost_ret (results_none rfl _ _ _) rfl ⟨rfl, HR1.out⟩
 · have cz : ¬ (r.row : Int) < (r.R : Int) - 1 := by omega
   cases hp : r.pr with
   | true =>
     rw [f5 c hp]
     have HR : Hid (RfTo w (w.drew.setCell ⟨rp, 3, none⟩ (.int .i64 0)) rp lb sb { r with row := 0 }) := HR0
     rw [hp] at y8
     clear f1 f5 f6 c hp
     go_enter Tryz.func67, Tryz.ntmps67
     go_upto_region 0 with fail
     refine wp_region_noPanic ?_
     refine wp_region_k (S := fun W : World => Below w.heap.size w W) 999 (by kernel_rfl) (HB0.out) (fun hHeld => ?_)
     refine kSK 0 hHeld ?_
     refine kSK 1 hHeld ?_
     refine kSK 2 hHeld ?_
     refine kHK (v := ?_) 3 hHeld ?y4 ?_
     case y4 => (intro W hSw; obtain ⟨⟨y0, y1, y2, y3, y4, y5, y6, y7, y8, y9, y10, y11, y12⟩, _⟩ := H.out _ hSw; go_simp; try with_reducible rfl)
     refine kSK 4 hHeld ?_
     try refine kNK ?_
     refine kSK 5 hHeld ?_
     refine kSK 6 hHeld ?_
     refine kHK (v := ?_) 7 hHeld ?y8 ?_
     case y8 => (intro W hSw; obtain ⟨⟨y0, y1, y2, y3, y4, y5, y6, y7, y8, y9, y10, y11, y12⟩, _⟩ := H.out _ hSw; go_simp; try with_reducible rfl)
     refine kSK 8 hHeld ?_
     refine kSK 9 hHeld ?_
     try refine kNK ?_
     refine wpAnyK_done (by kernel_rfl) ?_ _
     refine NoPanic.normal ?_
     go_wp2_with fail
     exact bodyPost_ret (results_none rfl _ _ _) rfl ⟨rfl, HR.out⟩
   | false =>
     rw [f6 c hp]
     rw [hp] at y8
     clear f1 f5 f6 c hp
     go_enter Tryz.func67, Tryz.ntmps67
     go_upto_region 0 with fail
     refine wp_region_noPanic ?_
     refine wp_region_k (S := fun W : World => Below w.heap.size w W) 999 (by kernel_rfl) (HB0.out) (fun hHeld => ?_)
     refine kSK 0 hHeld ?_
     refine kSK 1 hHeld ?_
     refine kSK 2 hHeld ?_
     refine kHK (v := ?_) 3 hHeld ?y4 ?_
     case y4 => (intro W hSw; obtain ⟨⟨y0, y1, y2, y3, y4, y5, y6, y7, y8, y9, y10, y11, y12⟩, _⟩ := H.out _ hSw; go_simp; try with_reducible rfl)
     refine kSK 4 hHeld ?_
     try refine kNK ?_
     refine kSK 5 hHeld ?_
     refine kSK 6 hHeld ?_
     refine kHK (v := ?_) 7 hHeld ?y8 ?_
     case y8 => (intro W hSw; obtain ⟨⟨y0, y1, y2, y3, y4, y5, y6, y7, y8, y9, y10, y11, y12⟩, _⟩ := H.out _ hSw; go_simp; try with_reducible rfl)
     refine kSK 8 hHeld ?_
     refine kSK 9 hHeld ?_
     try refine kNK ?_
     refine wpAnyK_done (by kernel_rfl) ?_ _
     refine NoPanic.normal ?_
     go_wp2_with (go_at_call 72; refine HRO.out.mono ?_; rintro e w3 ⟨rfl, ht⟩; have HT := Lib.hid (RfTo.after HB0.out ht); clear ht)
     go_end0
     exact ⟨rfl, HT.out⟩
theorem rf_home (h : RfAt w rp lb cap sb r) (hm : r.may) : Calls Tryz.prog 68 #[.pointer (some ⟨rp, 0, none⟩)] w fun e w' => e = .returned (.tuple #[]) ∧ RfTo w w' rp lb sb (homeR r) := by
 have hn := hm.n
 obtain ⟨n, hnn⟩ : ∃ n, r.R * r.C = n := ⟨_, rfl⟩
 obtain ⟨m, hmm⟩ : ∃ m, n - 1 = m := ⟨_, rfl⟩
 obtain ⟨⟨y0, y1, y2, y3, y4, y5, y6, y7, y8, y9, y10, y11, y12⟩, _⟩ := h.cellsN hnn
 have HCL : Hid (Calls Tryz.prog 96 #[.pointer (some ⟨rp, 0, none⟩), .int .i64 0, .int .i64 (m : Int)] w fun e w' => e = .returned (.tuple #[]) ∧ RfTo w w' rp lb sb (clearR r 0 m)) := rf_clear h hm 0 m (Nat.zero_le _) (by omega)
 have HGO : Hid (∀ W l c s, RfAt W rp l c s (clearR r 0 m) → Calls Tryz.prog 49 #[.pointer (some ⟨rp, 0, none⟩), .int .i64 0] W fun e w' => e = .returned (.tuple #[]) ∧ RfTo W w' rp l s (goToR (clearR r 0 m) 0)) := fun W l c s h => rf_goTo h hm 0 (by show 0 < r.R * r.C; omega)
 have e1 : IntKind.i64.wrap ((n : Int) - 1) = (m : Int) := by rw [wrap_in (by omega) (by omega)]; omega
 have HE : Hid (homeR r = goToR (clearR r 0 m) 0) := by show _ = _; unfold homeR; rw [hnn, hmm]
 clear h hm hnn hmm
 go_enter Tryz.func68, Tryz.ntmps68
 go_wp2_with (first
  | (go_at_call 96; refine HCL.out.mono ?_; rintro e w2 ⟨rfl, ht⟩; obtain ⟨l2, c2, s2, h2, hl2⟩ := ht.then; have H2 := Lib.hid h2; have HL2 := Lib.hid hl2; clear h2 hl2 ht)
  | (go_at_call 49; refine (HGO.out _ _ _ _ H2.out).mono ?_; rintro e w3 ⟨rfl, ht⟩; have HT3 := Lib.hid (HL2.out _ _ ht); clear ht))
 go_end0
 exact ⟨rfl, by rw [HE.out]; exact HT3.out⟩
end
end
end Go.Proofs.YtncgigapgklhcaaGreatDoor
