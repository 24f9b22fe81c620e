/- Words for memory that the walks of this claim use: a slice of ints that reads as a list; a law's last step out of 'Below'. -/
import Derived.Below
import Derived.ChangeSame
import Derived.Laws.OwnMore
import Derived.Deep.Draws
import Derived.WalkKit
import Derived.Lib.Hide
namespace Go.Proofs.YtbnkfiaggehmgaaGreatDoor
open Go.RowKit Go.WideShapes Go.ChangeShapes

/-- The slice value (A, n) reads as the ints l; its row lies below block B. -/
def Ints (B : Nat) (W : World) (A : Option Addr) (n : Nat) (l : List Int) : Prop :=
  n = l.length ∧ (0 < n → ∃ b o, A = some ⟨b, o, none⟩ ∧ b < B ∧ ∀ i, i < n → W.cell? ⟨b, o + i, none⟩ = some (.int .i64 (l[i]?.getD 0)))

theorem Ints.keep {B : Nat} {W W' : World} {A : Option Addr} {n : Nat} {l : List Int} (h : Ints B W A n l) (hk : ∀ p : Addr, p.block < B → W'.cell? p = W.cell? p) : Ints B W' A n l :=
  ⟨h.1, fun hn => by
    obtain ⟨b, o, e, hb, hc⟩ := h.2 hn
    exact ⟨b, o, e, hb, fun i hi => (hk ⟨b, o + i, none⟩ hb).trans (hc i hi)⟩⟩
theorem Ints.below {B B' : Nat} {W W' : World} {A : Option Addr} {n : Nat} {l : List Int} (h : Ints B W A n l) (hb : Below B' W W') (hB : B ≤ B') : Ints B W' A n l :=
  h.keep fun _ hp => hb.cell (by omega)
theorem Ints.more {B B' : Nat} {W : World} {A : Option Addr} {n : Nat} {l : List Int} (h : Ints B W A n l) (hB : B ≤ B') : Ints B' W A n l :=
  ⟨h.1, fun hn => by
    obtain ⟨b, o, e, hb, hc⟩ := h.2 hn
    exact ⟨b, o, e, by omega, hc⟩⟩
theorem Ints.drewN {B : Nat} {W : World} {A : Option Addr} {n : Nat} {l : List Int} (h : Ints B W A n l) (q : Nat) : Ints B (W.drewN q) A n l := h
theorem Ints.at_ {B : Nat} {W : World} {A : Option Addr} {n : Nat} {l : List Int} (h : Ints B W A n l) {k : Nat} (hk : k < n) : ∃ b o, A = some ⟨b, o, none⟩ ∧ W.cell? ⟨b, o + k, none⟩ = some (.int .i64 (l[k]?.getD 0)) := by
  obtain ⟨b, o, e, _, hc⟩ := h.2 (by omega)
  exact ⟨b, o, e, hc k hk⟩
/-- What a call owns reads as a list. -/
theorem Ints.of_own {W : World} {base : Nat} {e : TypeId} {v : Value} {n : Nat} {l : List Int} (h : W.ownsRow base e 1 v n (l.map (Value.int .i64))) : ∃ A c, v = .slice A n c ∧ Ints W.heap.size W A n l := by
  have hl : n = l.length := by have := h.1; simp at this; omega
  rcases h.2 with ⟨rfl, rfl⟩ | ⟨g, cap, cur, rfl, hb, hg, hn, _, hcs, ht⟩
  · exact ⟨_, _, rfl, hl, fun h0 => absurd h0 (by omega)⟩
  · have hlt : g < W.heap.size := (Array.getElem?_eq_some_iff.1 hg).1
    refine ⟨_, _, rfl, hl, fun _ => ⟨g, 0, rfl, hlt, fun i hi => ?_⟩⟩
    rw [cell_of_row W g (0 + i) cur e (0, 0) hg, Nat.zero_add]
    have h1 : (cur.toList.take (n * 1))[i]? = (l.map (Value.int .i64))[i]? := by rw [ht]
    rw [List.getElem?_take, if_pos (by omega), Array.getElem?_toList] at h1
    rw [h1, List.getElem?_map, List.getElem?_eq_getElem (by omega)]
    rfl

/-- A literal that has just been laid. -/
theorem Ints.new (W : World) (t : TypeId) (l : List Int) (cs : Array Value) (hcs : cs = (l.map (Value.int .i64)).toArray) : Ints (W.heap.size + 1) (W.alloc (.cells cs t)) (some ⟨W.heap.size, 0, none⟩) l.length l := by
  refine ⟨rfl, fun _ => ⟨W.heap.size, 0, rfl, by omega, fun i hi => ?_⟩⟩
  have hg : (W.alloc (.cells cs t)).heap[W.heap.size]? = some (.cells cs t (0, 0)) := by
    show (W.heap.push _)[W.heap.size]? = _
    simp
  rw [cell_of_row _ W.heap.size (0 + i) cs t (0, 0) hg, Nat.zero_add, hcs]
  simp [List.getElem?_eq_getElem hi]

theorem below_drewN {B : Nat} {a w : World} (h : Below B a w) (n : Nat) : Below B a (w.drewN n) := ⟨h.os, h.tape, h.output, h.size, h.block⟩
theorem below_drewN' {B : Nat} {a : World} (n : Nat) : Below B a (a.drewN n) := ⟨rfl, rfl, rfl, Nat.le_refl _, fun _ _ => rfl⟩
theorem below_join {w w1 w2 : World} (h : Below w.heap.size w w1) (k : Below w1.heap.size w1 w2) : Below w.heap.size w w2 := h.trans (k.mono h.size)

section
variable {H : Type} {enc : TypeId × Value → H} {P : Program}
/-- The last step of a law whose walk ends in 'Below': one result, nothing written. -/
theorem post_of_below {f : Func} {s : ChangeSpec} {apart fresh handsOn again : Bool} {W W' : World} {args : Array Value} {v : Value} {ds gs : List (DataW H)} {before pa pv : List MemPlace}
    (hW : DataW.Whole enc P f.params.toList s.vars apart W args.toList ds gs before)
    (hres : ∀ (b : Nat) (sp : Nat → Bool) (hd : Bool), DataW.TrodAll enc P W' b sp hd f.resultTypes.toList (v.resultList f.resultTypes.size) (s.fn H (ds ++ gs)).results [])
    (hargs : ∀ sp : Nat → Bool, (∀ p ∈ before, sp p.block = true) → DataW.TrodAll enc P W' 0 sp true f.params.toList args.toList (s.fn H (ds ++ gs)).args pa)
    (hvars : ∀ sp : Nat → Bool, (∀ p ∈ before, sp p.block = true) → DataW.TrodVars enc P W' sp s.vars (s.fn H (ds ++ gs)).vars pv)
    (hps : before = pa ++ pv) (hb : Below W.heap.size W W')
    (hok : ∀ (j : Nat) (t : TypeId) (r : Value), f.resultTypes[j]? = some t → (v.resultList f.resultTypes.size)[j]? = some r → Value.okWide P W' .any 0 t r) :
    s.post enc P f apart fresh handsOn again W args v W' := by
  have hlt : ∀ p ∈ before, p.block < W.heap.size := fun p hp => hW.lt p hp
  have hold : ∀ p ∈ before, (fun b => decide (b < W.heap.size)) p.block = true := fun p hp => by simpa using hlt p hp
  refine ⟨ds, gs, before, [], pa, pv, hW, hres _ _ _, hargs _ hold, hvars _ hold, World.keptBut_mono (fun p hp => ⟨hp, ?_⟩) (hb.frame (· ∈ before)), fun _ => ?_⟩
  · rw [hps, List.mem_append] at hp
    exact Or.inr hp
  · obtain ⟨_, _, _, _, _, hz, hn⟩ := hW
    refine ⟨hok, _, _, ([] ++ pa) ++ pv, ⟨[] ++ pa, pv, trodAll_append (hargs _ (fun _ _ => rfl)) (hres _ _ _), hvars _ (fun _ _ => rfl), rfl, ?_, ?_⟩, ?_⟩
    · intro b off hp
      have hin : MemPlace.cell b off ∈ before := by rw [hps]; simpa using hp
      rw [hb.frozen (hlt _ hin)]
      exact hz b off hin
    · intro ha
      have := hn ha
      rw [hps] at this
      simpa using this
    · intro p hp _
      rw [hps]
      simpa using hp
end
end Go.Proofs.YtbnkfiaggehmgaaGreatDoor
