import Derived.Test.YtliacdaddncmaaaGreatDoorSnPut
import Derived.Test.YtliacdaddncmaaaGreatDoorSnRuns
import Derived.Test.YtliacdaddncmaaaGreatDoorSnNames
import Derived.Test.YtliacdaddncmaaaGreatDoorLJ

/- What Print makes of a shot, in plain terms; the runs as they are ranged over. -/
namespace Go.Proofs.YtliacdaddncmaaaGreatDoor
open Go.RowKit
set_option linter.unusedSimpArgs false
set_option linter.unusedVariables false
attribute [local go_sem] alloc_drewN setCell_drewN World.cell?_alloc_some frozen_alloc_some size_f0 size_f1

def headA (x : Sh) : List PutX := [.str (nameB x.p), .str [32], .num x.S.D.R, .str [120], .num x.S.D.C, .str [32], .num x.S.pl.at_.row.toNat, .str [44], .num x.S.pl.at_.col.toNat]
def headT (x : Sh) : List UInt8 := putB (headA x) ++ (if x.S.pl.pend = true then putB [.str [43]] else []) ++ putB [.str [10]]
def stopsN (L : List Int) : Nat → List UInt8
  | 0 => []
  | k + 1 => stopsN L k ++ (if k = 0 then putB [.str [115, 116, 111, 112, 115]] else []) ++ putB [.str [32], .num (L[k]?.getD 0).toNat]
def stopsT (L : List Int) : List UInt8 := stopsN L L.length ++ (if L = [] then [] else putB [.str [10]])
def barA (D : Vz.Gd) (i : Nat) : List PutX := [.str [124], .str (glyL (D.X i) 0 D.C), .str [124, 10]]
def barsN (D : Vz.Gd) : Nat → List UInt8
  | 0 => []
  | i + 1 => barsN D i ++ putB (barA D i)
def namesT (a : Int) : List UInt8 := if Vz.mayI a = true then Vz.namesL a.toNat else []
def runA (r : Rn) : List PutX := [.num r.row, .str [44], .num r.col, .str [43], .num r.len, .str [32], .str (namesT r.look)]
def runT (r : Rn) : List UInt8 := if r.look = 0 ∧ r.gd = false then [] else putB (runA r) ++ (if r.gd = true then putB [.str [32, 103, 117, 97, 114, 100]] else []) ++ putB [.str [10]]
def runsT (l : List Rn) : List UInt8 := l.flatMap runT
def printL (x : Sh) : List UInt8 := headT x ++ stopsT (stopsI x.S.D.C x.S.T) ++ barsN x.S.D x.S.D.R ++ runsT (allN x.S.D x.look)
theorem dec_len : ∀ n, n < 100 → (decB n).length ≤ 2 := by decide +kernel
theorem namesT_len (a : Int) : (namesT a).length ≤ 64 := by
  unfold namesT Vz.namesL
  split
  · split
    · simp
    · exact Vz.join_len _
  · simp
theorem nameB_len (p : Int) : (nameB p).length ≤ 4 := by
  unfold nameB
  split <;> (try split) <;> (try split) <;> (try split) <;> simp
theorem headA_ok (x : Sh) (h1 : x.S.D.R ≤ 20) (h2 : x.S.D.C ≤ 20) (h3 : x.S.pl.at_.row.toNat < 100) (h4 : x.S.pl.at_.col.toNat < 100) : (∀ a ∈ headA x, a.ok) ∧ (putB (headA x)).length ≤ 20 := by
  constructor
  · intro a ha
    simp only [headA, List.mem_cons, List.not_mem_nil, or_false] at ha
    rcases ha with rfl | rfl | rfl | rfl | rfl | rfl | rfl | rfl | rfl <;> first | trivial | (show _ < 100; omega)
  · have e1 := dec_len _ (show x.S.D.R < 100 by omega)
    have e2 := dec_len _ (show x.S.D.C < 100 by omega)
    have e3 := dec_len _ h3
    have e4 := dec_len _ h4
    have e5 := nameB_len x.p
    simp [putB, headA, PutX.txt]
    omega
theorem headT_len (x : Sh) (h1 : x.S.D.R ≤ 20) (h2 : x.S.D.C ≤ 20) (h3 : x.S.pl.at_.row.toNat < 100) (h4 : x.S.pl.at_.col.toNat < 100) : (headT x).length ≤ 22 := by
  have := (headA_ok x h1 h2 h3 h4).2
  unfold headT
  rw [List.length_append, List.length_append]
  have e1 : (putB [.str [10]]).length = 1 := rfl
  have e2 : (if x.S.pl.pend = true then putB [.str [43]] else []).length ≤ 1 := by split <;> decide
  omega
theorem stopsN_len (L : List Int) (h : ∀ c ∈ L, c.toNat < 100) : ∀ k, (stopsN L k).length ≤ 5 + 3 * k
  | 0 => Nat.zero_le _
  | k + 1 => by
    have h1 := stopsN_len L h k
    have h0 : k = 0 → (stopsN L k).length = 0 := fun e => by subst e; rfl
    have h2 := dec_len (L[k]?.getD 0).toNat (by
      rcases Nat.lt_or_ge k L.length with hl | hl
      · rw [List.getElem?_eq_getElem hl]; exact h _ (List.getElem_mem hl)
      · rw [List.getElem?_eq_none hl]; decide)
    have e1 : (putB [.str [115, 116, 111, 112, 115]]).length = 5 := rfl
    have e2 : (putB [.str [32], .num (L[k]?.getD 0).toNat]).length = 1 + (decB (L[k]?.getD 0).toNat).length := by simp [putB, PutX.txt]; omega
    show (stopsN L k ++ _ ++ _).length ≤ _
    rw [List.length_append, List.length_append, e2]
    split
    · have := h0 ‹_›; omega
    · simp only [List.length_nil]; omega
theorem barsN_len (D : Vz.Gd) : ∀ i, (barsN D i).length ≤ i * (3 + 4 * D.C)
  | 0 => Nat.zero_le _
  | i + 1 => by
    have h1 := barsN_len D i
    have h2 := glyL_len (D.X i) 0 D.C
    have e2 : (putB (barA D i)).length = 3 + (glyL (D.X i) 0 D.C).length := by simp [putB, barA, PutX.txt]; omega
    show (barsN D i ++ _).length ≤ _
    rw [List.length_append, e2, Nat.succ_mul]
    omega
def Rn.small (r : Rn) : Prop := r.row < 100 ∧ r.col < 100 ∧ r.len < 100 ∧ 0 ≤ r.look ∧ r.look < 16384
theorem runA_ok (r : Rn) (h : r.small) : (∀ a ∈ runA r, a.ok) ∧ (putB (runA r)).length ≤ 73 := by
  obtain ⟨h1, h2, h3, h4⟩ := h
  constructor
  · intro a ha
    simp only [runA, List.mem_cons, List.not_mem_nil, or_false] at ha
    rcases ha with rfl | rfl | rfl | rfl | rfl | rfl | rfl <;> first | trivial | assumption
  · have e1 := dec_len _ h1
    have e2 := dec_len _ h2
    have e3 := dec_len _ h3
    have e4 := namesT_len r.look
    simp [putB, runA, PutX.txt]
    omega
theorem runT_len (r : Rn) (h : r.small) : (runT r).length ≤ 80 := by
  have := (runA_ok r h).2
  have e1 : (putB [.str [10]]).length = 1 := rfl
  have e2 : (if r.gd = true then putB [.str [32, 103, 117, 97, 114, 100]] else []).length ≤ 6 := by split <;> decide
  unfold runT
  split
  · simp
  · rw [List.length_append, List.length_append]; omega
theorem runsT_len : ∀ (l : List Rn), (∀ r ∈ l, r.small) → (runsT l).length ≤ 80 * l.length
  | [], _ => Nat.zero_le _
  | r :: l, h => by
    have h1 := runT_len r (h r (List.mem_cons_self ..))
    have h2 := runsT_len l (fun q hq => h q (List.mem_cons_of_mem _ hq))
    show (runT r ++ runsT l).length ≤ _
    rw [List.length_append, List.length_cons]
    omega
theorem runsT_snoc (l : List Rn) (r : Rn) : runsT (l ++ [r]) = runsT l ++ runT r := by simp [runsT]
theorem runsC_small (x : Nat → Vz.Cl) (L : Nat → Int) (i C : Nat) (hi : i < 100) (hC : C < 100) (hL : ∀ j, 0 ≤ L j ∧ L j < 16384) : ∀ (n fr : Nat), fr ≤ C → (∀ r ∈ runsC x L i C fr n, r.small) ∧ (runsC x L i C fr n).length ≤ n
  | 0, _, _ => ⟨fun _ h => (by cases h), Nat.le_refl _⟩
  | n + 1, fr, hfr => by
    rcases Nat.lt_or_ge fr C with h | h
    · rw [runsC_step _ _ _ _ _ _ h]
      have ht := toR_ge (sameR L (fun k => (x k).gd) fr) (C - (fr + 1)) (fr + 1)
      obtain ⟨h1, h2⟩ := runsC_small x L i C hi hC hL n (toR (sameR L (fun k => (x k).gd) fr) (fr + 1) (C - (fr + 1))) (by omega)
      refine ⟨fun r hr => ?_, by rw [List.length_cons]; omega⟩
      rcases List.mem_cons.1 hr with rfl | hr
      · exact ⟨hi, by show fr < 100; omega, by show _ - fr < 100; omega, hL fr⟩
      · exact h1 r hr
    · obtain rfl : fr = C := by omega
      rw [runsC_none]
      exact ⟨fun _ h => (by cases h), Nat.zero_le _⟩
theorem runsD_small (D : Vz.Gd) (L : Nat → Nat → Int) (hC : D.C < 100) (hL : ∀ i j, 0 ≤ L i j ∧ L i j < 16384) : ∀ (n i : Nat), i + n ≤ 100 → (∀ r ∈ runsD D L i n, r.small) ∧ (runsD D L i n).length ≤ n * D.C
  | 0, _, _ => ⟨fun _ h => (by cases h), Nat.zero_le _⟩
  | n + 1, i, hn => by
    obtain ⟨h1, h2⟩ := runsC_small (D.X i) (L i) i D.C (by omega) hC (hL i) D.C 0 (Nat.zero_le _)
    obtain ⟨h3, h4⟩ := runsD_small D L hC hL n (i + 1) (by omega)
    have e : runsD D L i (n + 1) = runsC (D.X i) (L i) i D.C 0 D.C ++ runsD D L (i + 1) n := rfl
    rw [e]
    refine ⟨fun r hr => ?_, by rw [List.length_append, Nat.succ_mul]; omega⟩
    rcases List.mem_append.1 hr with hr | hr
    · exact h1 r hr
    · exact h3 r hr
theorem allN_small (x : Sh) (hR : x.S.D.R ≤ 20) (hC : x.S.D.C ≤ 20) : (∀ r ∈ allN x.S.D x.look, r.small) ∧ (allN x.S.D x.look).length ≤ 400 := by
  obtain ⟨h1, h2⟩ := runsD_small x.S.D x.look (by omega) (fun i j => keepA_may _ _) x.S.D.R 0 (by omega)
  exact ⟨h1, Nat.le_trans h2 (Nat.le_trans (Nat.mul_le_mul hR hC) (by decide))⟩
theorem names_all {a : Int} (h : 0 ≤ a ∧ a < 16384) (w : World) (t : TypeId) (fr : Nat × Nat) (hg : w.heap[1]? = some (.cells names12a t fr)) : Calls Tryz.prog 40 #[.int .i64 a] w fun e w' => e = .returned (.string ⟨(namesT a).toArray⟩) ∧ Below w.heap.size w w' := by
  obtain ⟨n, rfl⟩ := Int.eq_ofNat_of_zero_le h.1
  unfold namesT
  cases hm : Vz.mayI (n : Int) with
  | true => exact names_any n hm w t fr hg
  | false => exact (names_no n (by omega) hm w).mono fun e w' h => ⟨h.1, by rw [← h.2]; exact Below.refl _ _⟩
/-- The runs, as they are ranged over. -/
theorem runs_stops (n : Nat) (hn : 1 ≤ n) (bx B OB g cap : Nat) (x : Sh) (sv : Value) (G K G' : Nat → Nat) (hm : x.S.D.may) (hx : ∀ i j, CellOk (x.S.D.X i j)) (w : World) :
    SeqStopsT Fence.wide n Tryz.prog 26 #[.pointer (some ⟨bx, 0, none⟩)] runV (fun _ _ => True) (fun ys => ys = allN x.S.D x.look) (fun pre => pre <+: allN x.S.D x.look) (fun pre r _ => pre ++ [r] <+: allN x.S.D x.look) (RunG bx B x OB g cap sv G K G') w :=
  fun l J Jx W hW hAb _ hJ hY h0 => runs_in n hn l bx B OB g cap x sv G K G' hm hx J Jx hJ (fun s A A' hj hb => hAb s A A' none hj (grown_of_below hb) (fun r e => by cases e)) (fun pre r W1 hj hp => (hY pre r W1 hj hp).mono fun e W' h => h.imp (fun h => ⟨h.1, h.2.1⟩) id) W h0
end Go.Proofs.YtliacdaddncmaaaGreatDoor
