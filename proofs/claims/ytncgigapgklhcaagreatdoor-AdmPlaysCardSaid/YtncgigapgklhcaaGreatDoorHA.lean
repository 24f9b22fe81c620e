import Derived.WalkKit
import Derived.Below
import Derived.ChangeSame
import Derived.Laws.OwnMore
import Derived.Deep.Draws
import Derived.Lib.Hide
import Derived.Laws.CopyRow
import Derived.Laws.CopyOwn
import Derived.Tactics
import Derived.Laws.Small

set_option maxRecDepth 100000
set_option maxHeartbeats 16000000
/- Plain mathematics of the layer walk: sizes, places, the cursor. -/
namespace Vz
set_option linter.unusedSimpArgs false
set_option linter.unusedVariables false
def mayS (r c : Int) : Bool := decide (1 ≤ r) && decide (r ≤ 255) && decide (1 ≤ c) && decide (c ≤ 255)
theorem mayS_iff (r c : Int) : mayS r c = true ↔ 1 ≤ r ∧ r ≤ 255 ∧ 1 ≤ c ∧ c ≤ 255 := by
 unfold mayS
 simp [and_assoc]
def nearI (x n : Int) : Int := max 0 (min x (n - 1))
theorem nearI_in (x n : Int) (h : 1 ≤ n) : 0 ≤ nearI x n ∧ nearI x n < n := by unfold nearI; omega
theorem nearI_id (x n : Int) (h0 : 0 ≤ x) (h1 : x < n) : nearI x n = x := by unfold nearI; omega
structure Ps where
 row : Int
 col : Int
deriving DecidableEq
def Ps.nil : Ps := ⟨0, 0⟩
def Ps.inS (p : Ps) (r c : Int) : Prop := 0 ≤ p.row ∧ p.row < r ∧ 0 ≤ p.col ∧ p.col < c
def nearP (r c : Int) (p : Ps) : Ps := if mayS r c then ⟨nearI p.row r, nearI p.col c⟩ else Ps.nil
theorem nearP_in (r c : Int) (p : Ps) (h : mayS r c = true) : (nearP r c p).inS r c := by
 have hm := (mayS_iff r c).1 h
 unfold nearP
 rw [if_pos h]
 exact ⟨(nearI_in _ _ (by omega)).1, (nearI_in _ _ (by omega)).2, (nearI_in _ _ (by omega)).1, (nearI_in _ _ (by omega)).2⟩
theorem nearP_id (r c : Int) (p : Ps) (h : mayS r c = true) (hp : p.inS r c) : nearP r c p = p := by
 unfold nearP
 rw [if_pos h, nearI_id _ _ hp.1 hp.2.1, nearI_id _ _ hp.2.2.1 hp.2.2.2]
structure Pl where
 at_ : Ps
 pend : Bool
deriving DecidableEq
def Pl.nil : Pl := ⟨Ps.nil, false⟩
def cutI (n : Int) : Int := max (-510) (min n 510)
def stepP (r c : Int) (p : Pl) (rows cols : Int) : Pl :=
 let q := nearP r c p.at_
 ⟨nearP r c ⟨q.row + cutI rows, q.col + cutI cols⟩, false⟩
def nextP (r : Int) (p : Ps) : Ps × Bool := (⟨min (p.row + 1) (r - 1), 0⟩, decide (min (p.row + 1) (r - 1) = p.row))
def aheadP (r c : Int) (p : Pl) : Ps × Bool := if p.pend = true ∧ mayS r c = true then nextP r (nearP r c p.at_) else (nearP r c p.at_, false)
def behindP (r c : Int) (p : Ps) (wrap : Int) : Pl × Bool :=
 if mayS r c = true then
  let q := nearP r c p
  if q.col < c - 1 then (⟨⟨q.row, q.col + 1⟩, false⟩, false)
  else if wrap = 1 then (⟨q, false⟩, false)
  else if wrap = 2 then (⟨(nextP r q).1, false⟩, (nextP r q).2)
  else (⟨q, true⟩, false)
 else (Pl.nil, false)
theorem nextP_in (r c : Int) (p : Ps) (h : mayS r c = true) (hp : p.inS r c) : (nextP r p).1.inS r c := by
 have hm := (mayS_iff r c).1 h
 obtain ⟨h1, h2, h3, h4⟩ := hp
 unfold nextP Ps.inS
 simp only
 omega
theorem aheadP_in (r c : Int) (p : Pl) (h : mayS r c = true) : (aheadP r c p).1.inS r c := by
 unfold aheadP
 split
 · exact nextP_in r c _ h (nearP_in r c _ h)
 · exact nearP_in r c _ h
theorem behindP_in (r c : Int) (p : Ps) (wrap : Int) (h : mayS r c = true) : (behindP r c p wrap).1.at_.inS r c := by
 have hm := (mayS_iff r c).1 h
 have hq := nearP_in r c p h
 unfold behindP
 rw [if_pos h]
 simp only
 split
 · rename_i hlt
   obtain ⟨h1, h2, h3, h4⟩ := hq
   unfold Ps.inS
   simp only
   omega
 · split
   · exact hq
   · split
     · exact nextP_in r c _ h hq
     · exact hq
theorem stepP_in (r c : Int) (p : Pl) (rows cols : Int) (h : mayS r c = true) : (stepP r c p rows cols).at_.inS r c := nearP_in r c _ h
end Vz
namespace Go.Proofs.YtncgigapgklhcaaGreatDoor
open Go.RowKit
set_option linter.unusedSimpArgs false
set_option linter.unusedVariables false
/- Words for memory that the walks of this claim use: a slice of ints that reads as a list; a law's last step out of 'Below'. -/
section
open Go.RowKit Go.WideShapes Go.ChangeShapes
def Ints (B : Nat) (W : World) (A : Option Addr) (n : Nat) (l : List Int) : Prop :=
 n = l.length ∧ (0 < n → ∃ b o, A = some ⟨b, o, none⟩ ∧ b < B ∧ ∀ i, i < n → W.cell? ⟨b, o + i, none⟩ = some (.int .i64 (l[i]?.getD 0)))
theorem Ints.keep {B : Nat} {W W' : World} {A : Option Addr} {n : Nat} {l : List Int} (h : Ints B W A n l) (hk : ∀ p : Addr, p.block < B → W'.cell? p = W.cell? p) : Ints B W' A n l :=
 ⟨h.1, fun hn => by
  obtain ⟨b, o, e, hb, hc⟩ := h.2 hn
  exact ⟨b, o, e, hb, fun i hi => (hk ⟨b, o + i, none⟩ hb).trans (hc i hi)⟩⟩
theorem Ints.below {B B' : Nat} {W W' : World} {A : Option Addr} {n : Nat} {l : List Int} (h : Ints B W A n l) (hb : Below B' W W') (hB : B ≤ B') : Ints B W' A n l :=
 h.keep fun _ hp => hb.cell (by omega)
theorem Ints.more {B B' : Nat} {W : World} {A : Option Addr} {n : Nat} {l : List Int} (h : Ints B W A n l) (hB : B ≤ B') : Ints B' W A n l :=
 ⟨h.1, fun hn => by
  obtain ⟨b, o, e, hb, hc⟩ := h.2 hn
  exact ⟨b, o, e, by omega, hc⟩⟩
theorem Ints.drewN {B : Nat} {W : World} {A : Option Addr} {n : Nat} {l : List Int} (h : Ints B W A n l) (q : Nat) : Ints B (W.drewN q) A n l := h
theorem Ints.at_ {B : Nat} {W : World} {A : Option Addr} {n : Nat} {l : List Int} (h : Ints B W A n l) {k : Nat} (hk : k < n) : ∃ b o, A = some ⟨b, o, none⟩ ∧ W.cell? ⟨b, o + k, none⟩ = some (.int .i64 (l[k]?.getD 0)) := by
 obtain ⟨b, o, e, _, hc⟩ := h.2 (by omega)
 exact ⟨b, o, e, hc k hk⟩
theorem Ints.of_own {W : World} {base : Nat} {e : TypeId} {v : Value} {n : Nat} {l : List Int} (h : W.ownsRow base e 1 v n (l.map (Value.int .i64))) : ∃ A c, v = .slice A n c ∧ Ints W.heap.size W A n l := by
 have hl : n = l.length := by have := h.1; simp at this; omega
 rcases h.2 with ⟨rfl, rfl⟩ | ⟨g, cap, cur, rfl, hb, hg, hn, _, hcs, ht⟩
 · exact ⟨_, _, rfl, hl, fun h0 => absurd h0 (by omega)⟩
 · have hlt : g < W.heap.size := (Array.getElem?_eq_some_iff.1 hg).1
   refine ⟨_, _, rfl, hl, fun _ => ⟨g, 0, rfl, hlt, fun i hi => ?_⟩⟩
   rw [cell_of_row W g (0 + i) cur e (0, 0) hg, Nat.zero_add]
   have h1 : (cur.toList.take (n * 1))[i]? = (l.map (Value.int .i64))[i]? := by rw [ht]
   rw [List.getElem?_take, if_pos (by omega), Array.getElem?_toList] at h1
   rw [h1, List.getElem?_map, List.getElem?_eq_getElem (by omega)]
   rfl
theorem Ints.new (W : World) (t : TypeId) (l : List Int) (cs : Array Value) (hcs : cs = (l.map (Value.int .i64)).toArray) : Ints (W.heap.size + 1) (W.alloc (.cells cs t)) (some ⟨W.heap.size, 0, none⟩) l.length l := by
 refine ⟨rfl, fun _ => ⟨W.heap.size, 0, rfl, by omega, fun i hi => ?_⟩⟩
 have hg : (W.alloc (.cells cs t)).heap[W.heap.size]? = some (.cells cs t (0, 0)) := by
  show (W.heap.push _)[W.heap.size]? = _
  simp
 rw [cell_of_row _ W.heap.size (0 + i) cs t (0, 0) hg, Nat.zero_add, hcs]
 simp [List.getElem?_eq_getElem hi]
theorem below_drewN {B : Nat} {a w : World} (h : Below B a w) (n : Nat) : Below B a (w.drewN n) := ⟨h.os, h.tape, h.output, h.size, h.block⟩
theorem below_drewN' {B : Nat} {a : World} (n : Nat) : Below B a (a.drewN n) := ⟨rfl, rfl, rfl, Nat.le_refl _, fun _ _ => rfl⟩
section
variable {H : Type} {enc : TypeId × Value → H} {P : Program}
end
end
end Go.Proofs.YtncgigapgklhcaaGreatDoor
/- Plain mathematics of grids of cells: what is where, set and rolled. -/
namespace Vz
set_option linter.unusedSimpArgs false
set_option linter.unusedVariables false
structure Cl where
 g : Int
 a : Int
 gd : Bool
 m : Int
deriving DecidableEq
def Cl.zero : Cl := ⟨0, 0, false, 0⟩
def Cl.blank : Cl := ⟨32, 0, false, 0⟩
structure Gd where
 R : Nat
 C : Nat
 X : Nat → Nat → Cl
def Gd.may (D : Gd) : Prop := 1 ≤ D.R ∧ D.R ≤ 255 ∧ 1 ≤ D.C ∧ D.C ≤ 255
def Gd.new (r c : Nat) (x : Cl) : Gd := ⟨r, c, fun _ _ => x⟩
def Gd.set (D : Gd) (r c : Nat) (x : Cl) : Gd := ⟨D.R, D.C, fun i j => if i = r ∧ j = c then x else D.X i j⟩
def rollAt (top bot : Nat) (n : Int) (i : Nat) : Option Nat :=
 if top ≤ i ∧ i ≤ bot then (if (bot : Int) - i < n ∨ n < (top : Int) - i then none else some ((i : Int) + n).toNat) else some i
def Gd.roll (D : Gd) (top bot : Nat) (n : Int) (x : Cl) : Gd :=
 ⟨D.R, D.C, fun i j => match rollAt top bot n i with | none => x | some k => D.X k j⟩
theorem rollAt_lt {top bot : Nat} {n : Int} {i k R : Nat} (h : rollAt top bot n i = some k) (hb : bot < R) (hi : i < R) : k < R := by
 unfold rollAt at h
 split at h
 · split at h
   · cases h
   · injection h with h
     omega
 · injection h with h
   omega
theorem rollAt_inj {top bot : Nat} {n : Int} {i j k : Nat} (h : rollAt top bot n i = some k) (h' : rollAt top bot n j = some k) : i = j := by
 unfold rollAt at h h'
 split at h <;> split at h'
 · split at h
   · cases h
   · split at h'
     · cases h'
     · injection h with h
       injection h' with h'
       omega
 · split at h
   · cases h
   · injection h with h
     injection h' with h'
     omega
 · split at h'
   · cases h'
   · injection h with h
     injection h' with h'
     omega
 · injection h with h
   injection h' with h'
   omega
theorem Gd.may_mayS {D : Gd} (h : D.may) : mayS D.R D.C = true := by
 rw [mayS_iff]
 unfold Gd.may at h
 omega
def cellK (x : Cl) (k : Nat) : Go.Value := if k = 0 then .int .i32 x.g else if k = 1 then .int .i64 x.a else if k = 2 then .bool x.gd else .int .i64 x.m
def flatC (f : Nat → Cl) (q : Nat) : Go.Value := cellK (f (q / 4)) (q % 4)
theorem flatC_0 (f : Nat → Cl) (j : Nat) : flatC f (4 * j) = .int .i32 (f j).g := by
 unfold flatC
 rw [show 4 * j / 4 = j by omega, show 4 * j % 4 = 0 by omega]
 rfl
theorem flatC_1 (f : Nat → Cl) (j : Nat) : flatC f (4 * j + 1) = .int .i64 (f j).a := by
 unfold flatC
 rw [show (4 * j + 1) / 4 = j by omega, show (4 * j + 1) % 4 = 1 by omega]
 rfl
theorem flatC_2 (f : Nat → Cl) (j : Nat) : flatC f (4 * j + 2) = .bool (f j).gd := by
 unfold flatC
 rw [show (4 * j + 2) / 4 = j by omega, show (4 * j + 2) % 4 = 2 by omega]
 rfl
theorem flatC_3 (f : Nat → Cl) (j : Nat) : flatC f (4 * j + 3) = .int .i64 (f j).m := by
 unfold flatC
 rw [show (4 * j + 3) / 4 = j by omega, show (4 * j + 3) % 4 = 3 by omega]
 rfl
end Vz
/- Rows of cells in memory by an index function; copy between rows of wide elements. -/
namespace Go.Proofs.YtncgigapgklhcaaGreatDoor
open Go Go.RowKit
set_option linter.unusedSimpArgs false
set_option linter.unusedVariables false
def RowC (W : World) (b : Nat) (t : TypeId) (cap n : Nat) (f : Nat → Value) : Prop :=
 ∃ c : Array Value, W.heap[b]? = some (.cells c t (0, 0)) ∧ c.size = cap ∧ n ≤ cap ∧ ∀ i, i < n → c[i]? = some (f i)
namespace RowC
variable {W : World} {b : Nat} {t : TypeId} {cap n : Nat} {f : Nat → Value}
theorem cell (h : RowC W b t cap n f) {i : Nat} (hi : i < n) : W.cell? ⟨b, i, none⟩ = some (f i) := by
 obtain ⟨c, hb, _, _, hc⟩ := h
 simp [World.cell?, hb, hc i hi]
theorem frozen (h : RowC W b t cap n f) (i : Nat) : W.frozen? ⟨b, i, none⟩ = false := by
 obtain ⟨c, hb, _⟩ := h
 simp [World.frozen?, hb]
theorem lt (h : RowC W b t cap n f) : b < W.heap.size := by
 obtain ⟨c, hb, _⟩ := h
 exact (Array.getElem?_eq_some_iff.1 hb).1
theorem le (h : RowC W b t cap n f) : n ≤ cap := h.choose_spec.2.2.1
theorem congr {g : Nat → Value} (h : RowC W b t cap n f) (e : ∀ i, i < n → f i = g i) : RowC W b t cap n g := by
 obtain ⟨c, hb, hn, hl, hc⟩ := h
 exact ⟨c, hb, hn, hl, fun i hi => by rw [hc i hi, e i hi]⟩
theorem of_block {W' : World} (h : RowC W b t cap n f) (e : W'.heap[b]? = W.heap[b]?) : RowC W' b t cap n f := by
 obtain ⟨c, hb, r⟩ := h
 exact ⟨c, e.trans hb, r⟩
theorem set (h : RowC W b t cap n f) (i : Nat) (v : Value) : RowC (W.setCell ⟨b, i, none⟩ v) b t cap n (fun j => if j = i then v else f j) := by
 obtain ⟨c, hb, hn, hl, hc⟩ := h
 refine ⟨c.setIfInBounds i v, ?_, by simpa using hn, hl, fun j hj => ?_⟩
 · simp [World.setCell, Array.getElem?_modify, hb]
 · rw [Array.getElem?_setIfInBounds]
   by_cases e : j = i
   · subst e
     have : j < c.size := by omega
     simp [this]
   · rw [if_neg (fun h => e h.symm)]
     show c[j]? = some (if j = i then v else f j)
     rw [if_neg e]
     exact hc j hj
theorem setRow (h : RowC W b t cap n f) {c : Array Value} (hb : W.heap[b]? = some (.cells c t (0, 0))) (o : Nat) (cs : List Value) (ho : o ≤ n) (hfit : o + cs.length ≤ cap) (m : Nat) (hm : m ≤ n ∨ m ≤ o + cs.length) (hmc : m ≤ cap)
 (g : Nat → Value) (hg : ∀ i, i < m → g i = if o ≤ i ∧ i < o + cs.length then cs.getD (i - o) undef else f i) :
 RowC (W.setRow b (c.toList.take o ++ cs ++ c.toList.drop (o + cs.length)).toArray) b t cap m g := by
 obtain ⟨c', hb', hn, hl, hc⟩ := h
 rw [hb'] at hb
 injection hb with hb
 injection hb with hb
 subst hb
 have hsz : c'.toList.length = cap := by simpa using hn
 refine ⟨(c'.toList.take o ++ cs ++ c'.toList.drop (o + cs.length)).toArray, ?_, ?_, hmc, fun i hi => ?_⟩
 · simp [World.setRow, Array.getElem?_modify, hb']
 · simp; omega
 · rw [hg i hi]
   simp only [List.getElem?_toArray]
   have hto : (c'.toList.take o).length = o := by simp; omega
   by_cases h1 : i < o
   · rw [if_neg (by omega), List.append_assoc, List.getElem?_append_left (by omega), List.getElem?_take_of_lt h1]
     simpa using hc i (by omega)
   · by_cases h2 : i < o + cs.length
     · rw [if_pos ⟨by omega, h2⟩, List.append_assoc, List.getElem?_append_right (by omega), hto, List.getElem?_append_left (by omega)]
       simp [List.getD, List.getElem?_eq_getElem (show i - o < cs.length by omega)]
     · rw [if_neg (by omega), List.getElem?_append_right (by simp; omega)]
       have hlen : (c'.toList.take o ++ cs).length = o + cs.length := by simp; omega
       rw [hlen, List.getElem?_drop, show o + cs.length + (i - (o + cs.length)) = i by omega]
       simpa using hc i (by omega)
theorem setRow' (h : RowC W b t cap n f) {c : Array Value} (hb : W.heap[b]? = some (.cells c t (0, 0))) (o : Nat) (cs : List Value) (ho : o ≤ n) (hfit : o + cs.length ≤ cap) (m : Nat) (hm : m ≤ n ∨ m ≤ o + cs.length) (hmc : m ≤ cap)
 (g : Nat → Value) (hg : ∀ i, i < m → g i = if o ≤ i ∧ i < o + cs.length then cs.getD (i - o) undef else f i) :
 RowC (W.setRow b (c.toList.take o ++ (cs ++ c.toList.drop (o + cs.length))).toArray) b t cap m g := by
 have := setRow h hb o cs ho hfit m hm hmc g hg
 rwa [List.append_assoc] at this
end RowC
theorem RowC.made' (W : World) (c : Array Value) (t : TypeId) {n : Nat} (hc : c.size = n) {f : Nat → Value} : RowC (W.alloc (.cells c t)) W.heap.size t n 0 f :=
 ⟨c, heap_alloc_new W _, hc, Nat.zero_le _, fun i hi => absurd hi (Nat.not_lt_zero _)⟩
theorem run_copy_wide {P : Program} (w : World) (dT sT ty elem : TypeId) (k g o dLen dCap : Nat) (a : Addr) (sLen sCap : Nat) (cur : Array Value) (t : TypeId) (cs : List Value)
 (hu : P.underlying dT = some (.slice elem)) (hs : (P.info? elem).map (·.size) = some k)
 (hg : w.heap[g]? = some (.cells cur t (0, 0))) (hn : cs.length = Nat.min sLen dLen * k)
 (hsrc : ∀ j v, cs[j]? = some v → w.cell? (a.add j) = some v) (hfit : o + cs.length ≤ cur.size) (h1 : ∀ v ∈ cs, v.oneCell' = true) :
 (Builtin.copy_ #[dT, sT] ty #[.slice (some ⟨g, o, none⟩) dLen dCap, .slice (some a) sLen sCap]).run P w =
   .ok (goInt (Nat.min sLen dLen : Nat)) (w.setRow g (cur.toList.take o ++ cs ++ cur.toList.drop (o + cs.length)).toArray) := by
 have hl := run_loadCells_list (P := P) w a cs hsrc
 have hst := run_storeCells_at P g o t cs 0 cur w hg (by simpa using hfit) h1
 cases hq : P.info? elem with
 | none => simp [hq] at hs
 | some i =>
   have hi : i.size = k := by simpa [hq] using hs
   simp [Builtin.copy_, run_underlying hu, Builtin.lenOf, Builtin.firstCells, sizeOf, typeInfo, hq, hi, ← hn, hl, hst]
theorem wp_copy_rowC {P : Program} {w : World} {o : Oper} {a : Act} {K : Act → World → Prop} {Q : Exit → Act → World → Prop} (d s : Operand) (dT sT : TypeId)
 (ho : o.op = .call { callee := .builtin .copy, args := #[d, s], argTypes := #[dT, sT] }) (elem : TypeId) (k : Nat) (hu : P.underlying dT = some (.slice elem)) (hsz : (P.info? elem).map (·.size) = some k)
 (g off dLen dCap : Nat) (ad : Addr) (sLen sCap : Nat) (hd : a.eval d = .slice (some ⟨g, off, none⟩) dLen dCap) (hs : a.eval s = .slice (some ad) sLen sCap)
 (q : Nat) (hq : Nat.min sLen dLen = q) (t : TypeId) (cap n : Nat) (f : Nat → Value) (hr : RowC w g t cap n f) (cs : List Value) (hn : cs.length = q * k)
 (hsrc : ∀ j v, cs[j]? = some v → w.cell? (ad.add j) = some v) (h1 : ∀ v ∈ cs, v.oneCell' = true) (hoff : off ≤ n) (hfit : off + cs.length ≤ cap)
 (m : Nat) (hm : m ≤ n ∨ m ≤ off + cs.length) (hmc : m ≤ cap) (f' : Nat → Value) (hf' : ∀ i, i < m → f' i = if off ≤ i ∧ i < off + cs.length then cs.getD (i - off) undef else f i)
 (h : ∀ w', RowC w' g t cap m f' → (∀ b, b ≠ g → w'.heap[b]? = w.heap[b]?) → Below g w w' → w'.heap.size = w.heap.size → K (a.put o.dst (goInt (q : Nat))) w') : o.wp P a w K Q := by
 obtain ⟨c, hb, hc⟩ := hr
 have hr : RowC w g t cap n f := ⟨c, hb, hc⟩
 have hrun := run_copy_wide (P := P) w dT sT o.type elem k g off dLen dCap ad sLen sCap c t cs hu hsz hb (by rw [hq]; exact hn) hsrc (by rw [hc.1]; exact hfit) h1
 rw [hq] at hrun
 have := h _ (hr.setRow' hb off cs hoff hfit m hm hmc f' hf') (fun b hne => setRow_other w g b _ hne) ⟨rfl, rfl, rfl, by simp [World.setRow], fun b hlt => setRow_other w g b _ (by omega)⟩ (by simp [World.setRow])
 unfold Oper.wp
 simp [execOp, ho, resolve, invoke, builtin, hd, hs, hrun, Result.andThen]
 exact this
theorem wpList_copy_rowC {P : Program} {w : World} {ops : Array Oper} {rest : List Oper} {o : Oper} {a : Act} {Q : Exit → Act → World → Prop} (hgd : o.guard = none) (d s : Operand) (dT sT : TypeId)
 (ho : o.op = .call { callee := .builtin .copy, args := #[d, s], argTypes := #[dT, sT] }) (elem : TypeId) (k : Nat) (hu : P.underlying dT = some (.slice elem)) (hsz : (P.info? elem).map (·.size) = some k)
 (g off dLen dCap : Nat) (ad : Addr) (sLen sCap : Nat) (hd : a.eval d = .slice (some ⟨g, off, none⟩) dLen dCap) (hs : a.eval s = .slice (some ad) sLen sCap)
 (q : Nat) (hq : Nat.min sLen dLen = q) (t : TypeId) (cap n : Nat) (f : Nat → Value) (hr : RowC w g t cap n f) (cs : List Value) (hn : cs.length = q * k)
 (hsrc : ∀ j v, cs[j]? = some v → w.cell? (ad.add j) = some v) (h1 : ∀ v ∈ cs, v.oneCell' = true) (hoff : off ≤ n) (hfit : off + cs.length ≤ cap)
 (m : Nat) (hm : m ≤ n ∨ m ≤ off + cs.length) (hmc : m ≤ cap) (f' : Nat → Value) (hf' : ∀ i, i < m → f' i = if off ≤ i ∧ i < off + cs.length then cs.getD (i - off) undef else f i)
 (h : ∀ w', RowC w' g t cap m f' → (∀ b, b ≠ g → w'.heap[b]? = w.heap[b]?) → Below g w w' → w'.heap.size = w.heap.size → wpList P ops Q rest (a.put o.dst (goInt (q : Nat))) w') : wpList P ops Q (o :: rest) a w :=
 wpList_plain hgd fun K hK => wp_copy_rowC d s dT sT ho elem k hu hsz g off dLen dCap ad sLen sCap hd hs q hq t cap n f hr cs hn hsrc h1 hoff hfit m hm hmc f' hf' fun w' x1 x2 x3 x4 => hK _ _ (h w' x1 x2 x3 x4)
theorem run_cut_from {P : Program} {t e : TypeId} {k : Nat} (hu : P.underlying t = some (.slice e)) (hsz : (P.info? e).map (·.size) = some k) (W : World) (b o len cap lo : Nat) (h1 : lo ≤ len) (h2 : lo < cap) :
 Sem.run P (Instr.slice t (.slice (some ⟨b, o, none⟩) len cap) (some (.int .i64 (lo : Int))) none none) W = .ok (.slice (some ⟨b, o + lo * k, none⟩) (len - lo) (cap - lo)) W := by
 cases hq : P.info? e with
 | none => simp [hq] at hsz
 | some i =>
   have hi : i.size = k := by simpa [hq] using hsz
   have hl : ((lo : Int) ≤ (len : Int)) := by omega
   simp [Instr.slice, run_underlying hu, Instr.sliceBounds, Instr.sliceBound, asIntOf, sizeOf, typeInfo, hq, hi, go_sem, show ¬ cap = lo by omega, hl]
   intro hh
   omega
theorem run_cut_to {P : Program} {t e : TypeId} {k : Nat} (hu : P.underlying t = some (.slice e)) (hsz : (P.info? e).map (·.size) = some k) (W : World) (b o len cap hi : Nat) (h1 : hi ≤ cap) :
 Sem.run P (Instr.slice t (.slice (some ⟨b, o, none⟩) len cap) none (some (.int .i64 (hi : Int))) none) W = .ok (.slice (some ⟨b, o, none⟩) hi cap) W := by
 cases hq : P.info? e with
 | none => simp [hq] at hsz
 | some i =>
   have hi' : i.size = k := by simpa [hq] using hsz
   have hl : ((hi : Int) ≤ (cap : Int)) := by omega
   simp [Instr.slice, run_underlying hu, Instr.sliceBounds, Instr.sliceBound, asIntOf, sizeOf, typeInfo, hq, hi', go_sem, hl]
   intro hh
   omega
end Go.Proofs.YtncgigapgklhcaaGreatDoor
/- min and max by name: a walk does not part at them. -/
namespace Go
set_option linter.unusedSimpArgs false
set_option linter.unusedVariables false
def minZ (x y : Int) : Int := min x y
def maxZ (x y : Int) : Int := max x y
section
variable {P : Program} {w : World}
theorem run_min_z (ts : Array TypeId) (t : TypeId) (k k' : IntKind) (x y : Int) : (Builtin.min_ ts t #[.int k x, .int k' y]).run P w = .ok (.int k (minZ x y)) w := by
 rw [run_min_int2]
 unfold minZ
 congr 2
 split <;> omega
theorem run_max_z (ts : Array TypeId) (t : TypeId) (k k' : IntKind) (x y : Int) : (Builtin.max_ ts t #[.int k x, .int k' y]).run P w = .ok (.int k (maxZ x y)) w := by
 rw [run_max_int2]
 unfold maxZ
 congr 2
 split <;> omega
end
end Go
