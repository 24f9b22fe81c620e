import Derived.Test.YteoeooijpjehpaaGreatDoorWyLike
import Derived.Test.YteoeooijpjehpaaGreatDoorIB
import Derived.Test.YteoeooijpjehpaaGreatDoorIS

/- For the law WyseAddress: the walks of decimal and of Drain; what the sequences leave. -/
namespace Go.Proofs.YteoeooijpjehpaaGreatDoor
open Go.RowKit
set_option linter.unusedSimpArgs false
set_option linter.unusedVariables false
attribute [local go_sem] alloc_drewN setCell_drewN World.cell?_alloc_some frozen_alloc_some size_f0 size_f1

theorem conv_at {W : World} {g : Nat} (l : List UInt8) (h : W.heap[g]? = some (.cells (bytesV l).toArray 5 (0, 0))) : (convert 56 9 (.slice (some ⟨g, 0, none⟩) l.length l.length)).run Tryz.prog W = .ok (.string ⟨l.toArray⟩) W := by
 refine run_convert_bytes_back _ _ _ _ ⟨g, 0, none⟩ l.length l Tryz.underlying56 Tryz.underlying5 Tryz.underlying9 fun j hj => ?_
 rw [addr_add0, cell_row h]
 simp [bytesV, List.getElem?_eq_getElem hj]
theorem decL_len (n : Nat) : (decL n).length ≤ 2 := by
 unfold decL
 split <;> simp
theorem decimal_any (n : Nat) (hn : n ≤ 99) (w : World) : Calls Tryz.prog 24 #[.int .i64 (n : Int)] w fun e w' => e = .returned (.string ⟨(decL n).toArray⟩) ∧ Below w.heap.size w w' := by
 by_cases h : n < 10
 · obtain ⟨b, hb⟩ : ∃ b : UInt8, b = UInt8.ofNat (48 + n) := ⟨_, rfl⟩
   have hbn : (b.toNat : Int) = 48 + (n : Int) := by rw [hb, UInt8.toNat_ofNat']; omega
   have hd : decL n = [b] := by unfold decL; rw [if_pos h, hb]
   have hcv : (convert 56 9 (.slice (some ⟨w.heap.size, 0, none⟩) 1 1)).run Tryz.prog (w.alloc (.cells #[.int .u8 (b.toNat : Int)] 5)) = .ok (.string ⟨(decL n).toArray⟩) (w.alloc (.cells #[.int .u8 (b.toNat : Int)] 5)) := by
    rw [hd]
    exact conv_at (W := w.alloc (.cells #[.int .u8 (b.toNat : Int)] 5)) (g := w.heap.size) [b] (heap_alloc_new w _)
   have hz : (n : Int) < 10 := by omega
   have hw1 : IntKind.i64.wrap (48 + (n : Int)) = (b.toNat : Int) := by rw [wrap_in (by omega) (by omega), hbn]
   have hw2 : IntKind.u8.wrap (b.toNat : Int) = (b.toNat : Int) := by rw [hbn]; simp [IntKind.wrap, IntKind.bits, IntKind.signed]; omega
   have hlt : (b.toNat : Int) < 256 := by omega
   clear hd hb hbn hn h
   go_enter Tryz.func24, Tryz.ntmps24
   go_wp2_with fail
   go_ret
   exact ⟨rfl, below1 _ _⟩
 · obtain ⟨a, ha⟩ : ∃ a : UInt8, a = UInt8.ofNat (48 + n / 10) := ⟨_, rfl⟩
   obtain ⟨b, hb⟩ : ∃ b : UInt8, b = UInt8.ofNat (48 + n % 10) := ⟨_, rfl⟩
   have han : (a.toNat : Int) = 48 + ((n / 10 : Nat) : Int) := by rw [ha, UInt8.toNat_ofNat']; omega
   have hbn : (b.toNat : Int) = 48 + ((n % 10 : Nat) : Int) := by rw [hb, UInt8.toNat_ofNat']; omega
   have hd : decL n = [a, b] := by unfold decL; rw [if_neg h, ha, hb]
   have hcv : (convert 56 9 (.slice (some ⟨w.heap.size, 0, none⟩) 2 2)).run Tryz.prog (w.alloc (.cells #[.int .u8 (a.toNat : Int), .int .u8 (b.toNat : Int)] 5)) = .ok (.string ⟨(decL n).toArray⟩) (w.alloc (.cells #[.int .u8 (a.toNat : Int), .int .u8 (b.toNat : Int)] 5)) := by
    rw [hd]
    exact conv_at (W := w.alloc (.cells #[.int .u8 (a.toNat : Int), .int .u8 (b.toNat : Int)] 5)) (g := w.heap.size) [a, b] (heap_alloc_new w _)
   have hz : ¬ (n : Int) < 10 := by omega
   have hq : (n : Int).tdiv 10 = ((n / 10 : Nat) : Int) := rfl
   have hm : (n : Int).tmod 10 = ((n % 10 : Nat) : Int) := rfl
   have hw1 : IntKind.i64.wrap (48 + ((n / 10 : Nat) : Int)) = (a.toNat : Int) := by rw [wrap_in (by omega) (by omega), han]
   have hw2 : IntKind.u8.wrap (a.toNat : Int) = (a.toNat : Int) := by rw [han]; simp [IntKind.wrap, IntKind.bits, IntKind.signed]; omega
   have hw3 : IntKind.i64.wrap (48 + ((n % 10 : Nat) : Int)) = (b.toNat : Int) := by rw [wrap_in (by omega) (by omega), hbn]
   have hw4 : IntKind.u8.wrap (b.toNat : Int) = (b.toNat : Int) := by rw [hbn]; simp [IntKind.wrap, IntKind.bits, IntKind.signed]; omega
   have hq0 : IntKind.i64.wrap ((n / 10 : Nat) : Int) = ((n / 10 : Nat) : Int) := wrap_in (by omega) (by omega)
   have hm0 : IntKind.i64.wrap ((n % 10 : Nat) : Int) = ((n % 10 : Nat) : Int) := wrap_in (by omega) (by omega)
   clear hd hb hbn ha han hn h
   generalize ((n / 10 : Nat) : Int) = q at *
   generalize ((n % 10 : Nat) : Int) = m at *
   go_enter Tryz.func24, Tryz.ntmps24
   go_wp2_with fail
   go_ret
   exact ⟨rfl, below1 _ _⟩
/-- Two places are the same. -/
def SameP (a b c d : Int) : Prop := a = c ∧ b = d
theorem run_neqp_of {a b c d : Int} (h : SameP a b c d) (w : World) : Sem.run Tryz.prog (binOp .neq 49 (.agg #[.int .i64 a, .int .i64 b]) (.agg #[.int .i64 c, .int .i64 d])) w = .ok (.bool false) w := by
 obtain ⟨rfl, rfl⟩ := h
 exact run_neqp_self a b w
attribute [local go_sem 3000] run_neqp_self
theorem str_eq2 (b d : UInt8) : ((⟨#[27, 61]⟩ : ByteArray) ++ (⟨[b, d].toArray⟩ : ByteArray)) = ⟨[27, 61, b, d].toArray⟩ := rfl
theorem str_a (r c : Nat) : (((((⟨#[27, 97]⟩ : ByteArray) ++ ⟨(decL (r + 1)).toArray⟩) ++ ⟨#[82]⟩) ++ ⟨(decL (c + 1)).toArray⟩) ++ ⟨#[67]⟩) = ⟨(27 :: 97 :: (addrL r c ++ [67])).toArray⟩ := by
 apply ByteArray.ext
 apply Array.toList_inj.1
 simp [addrL, ByteArray.data_append]
theorem str_F (t : List UInt8) : ((⟨#[27, 70]⟩ : ByteArray) ++ ⟨t.toArray⟩) ++ ⟨#[13]⟩ = ⟨(27 :: 70 :: (t ++ [13])).toArray⟩ := by
 apply ByteArray.ext
 apply Array.toList_inj.1
 simp [ByteArray.data_append]
/-- Two worlds side by side, and a block that the first one does not hold. -/
def DuoG (w W : World) (wa ta sa qa : Nat) (A : Wy) (wb tb sb qb : Nat) (B : Wy) (g : Nat) (p : Vz.Ps) : Prop := ∃ FA FB, DuoAt w W wa ta sa qa A wb tb sb qb B FA FB ∧ ¬ FA g ∧ W.heap[g]? = some (.cells #[.int .i64 p.row, .int .i64 p.col] 49 (0, 0))
theorem DuoG.box {w W : World} {wa ta sa qa wb tb sb qb : Nat} {A B : Wy} {g : Nat} {p : Vz.Ps} (h : DuoG w W wa ta sa qa A wb tb sb qb B g p) : boxW W wa ta sa qa ∧ W.heap[g]? = some (.cells #[.int .i64 p.row, .int .i64 p.col] 49 (0, 0)) := by
 obtain ⟨FA, FB, h1, h2, h3⟩ := h
 exact ⟨h1.boxA, h3⟩
theorem DuoG.below {w W W' : World} {wa ta sa qa wb tb sb qb : Nat} {A B : Wy} {g : Nat} {p : Vz.Ps} (h : DuoG w W wa ta sa qa A wb tb sb qb B g p) (hb : Below W.heap.size W W') : DuoG w W' wa ta sa qa A wb tb sb qb B g p := by
 obtain ⟨FA, FB, h1, h2, h3⟩ := h
 exact ⟨FA, FB, h1.below hb, h2, (hb.block _ (block_lt h3)).trans h3⟩
theorem duo_feed_g {w W W' : World} {wa ta sa qa wb tb sb qb : Nat} {A B : Wy} (h : Duo w W wa ta sa qa A wb tb sb qb B) (hb : Below W.heap.size W W') {g : Nat} {p : Vz.Ps} (hg : W.heap.size ≤ g) (hx : W'.heap[g]? = some (.cells #[.int .i64 p.row, .int .i64 p.col] 49 (0, 0))) (l : List UInt8) (hl : l.length ≤ 100000) : Calls Tryz.prog 12 #[.pointer (some ⟨ta, 0, none⟩), .string ⟨l.toArray⟩] W' fun e w' => e = .returned (.tuple #[]) ∧ DuoG w w' wa ta sa qa (feedW A l) wb tb sb qb B g p := by
 obtain ⟨FA, FB, h⟩ := h
 have hnf : ¬ FA g := fun hf => by have := h.tA.lt g hf; omega
 refine (wterm_feed (h.below hb).tA l hl).mono fun e w' h' => ⟨h'.1, ?_⟩
 obtain ⟨⟨F', h1, h2⟩, hk⟩ := (h.below hb).left h'.2
 refine ⟨F', FB, h1, fun hf => ?_, (hk.block _ (block_lt hx) hnf).trans hx⟩
 rcases h2 g hf with h3 | h3
 · exact hnf h3
 · have := block_lt hx
   omega
/-- Drain, told where it turns nothing. -/
theorem duo_drain {w W : World} {wa ta sa qa wb tb sb qb : Nat} {A B : Wy} {g : Nat} {p : Vz.Ps} (h : DuoG w W wa ta sa qa A wb tb sb qb B g p) : ∃ FT : Nat → Prop, (∀ k, FT k → k < W.heap.size) ∧ ¬ FT wa ∧ ¬ FT g ∧ ∀ W', Below W.heap.size W W' → Calls Tryz.prog 25 #[.pointer (some ⟨qa, 0, none⟩)] W' fun e w' => e = .returned (.string ⟨A.q.toArray⟩) ∧ Duo w w' wa ta sa qa { A with q := [], over := false } wb tb sb qb B ∧ Keeps FT W' w' := by
 obtain ⟨FA, FB, h, hg, -⟩ := h
 refine ⟨FA, h.tA.lt, h.aa, hg, fun W' hb => (tm_drain (h.below hb).tA).mono fun e w' h' => ⟨h'.1, ?_⟩⟩
 obtain ⟨⟨F', h1, -⟩, hk⟩ := (h.below hb).left h'.2
 exact ⟨⟨F', FB, h1⟩, hk⟩
theorem duo_status {w W : World} {wa ta sa qa wb tb sb qb : Nat} {A B : Wy} (h : Duo w W wa ta sa qa A wb tb sb qb B) : Calls Tryz.prog 17 #[.pointer (some ⟨ta, 0, none⟩)] W fun e w' => e = .returned (.string ⟨A.status.toArray⟩) ∧ W = w' := by
 obtain ⟨FA, FB, h⟩ := h
 exact wtm_status h.tA
/-- What is behind the two addresses, and behind what is asked. -/
structure GoneW (A : Wy) (p : Vz.Ps) : Prop where
 pl : A.S.pl = ⟨p, false⟩
 pr : A.pr = false
 seq : A.seq = []
 q : A.q = []
 status : A.status = []
 most : A.most = 60
theorem gone_new (R C : Nat) (hm : Vz.mayS R C = true) (r c : Int) : GoneW { goesW (newW 60 R C) r c with q := [], over := false } (wantP R C r c) := by
 have e : ∀ f : Wy → Prop, f (newW 60 R C) → (∀ S, f { newW 60 R C with S := S }) → f (goesW (newW 60 R C) r c) := fun f h1 h2 => by
  unfold goesW
  split
  · exact h2 _
  · exact h1
 refine ⟨goes_new 60 R C hm r c, goesW_pr _ _ _, ?_, rfl, ?_, ?_⟩
 · exact e (fun A => A.seq = []) rfl (fun _ => rfl)
 · exact e (fun A => A.status = []) rfl (fun _ => rfl)
 · exact e (fun A => A.most = 60) rfl (fun _ => rfl)
theorem gone_ask {A : Wy} {p : Vz.Ps} (h : GoneW A p) (x y : Nat) (hp : p = ⟨x, y⟩) (hx : x ≤ 90) (hy : y ≤ 90) (a b : UInt8) (ha : (a.toNat : Int) = (x : Int) + 32) (hb : (b.toNat : Int) = (y : Int) + 32) : feedW A [27, 63] = { A with q := [a, b, 13] } := by
 have e : ∀ (n : Nat) (u : UInt8), n ≤ 90 → (u.toNat : Int) = (n : Int) + 32 → toldA (n : Int) = u := fun n u hn hu => by
  apply UInt8.toNat_inj.1
  unfold toldA
  rw [UInt8.toNat_ofNat']
  omega
 rw [feed_ask h.pr h.seq, h.pl, hp]
 show pushW A [toldA (x : Int), toldA (y : Int), 13] = _
 rw [e x a hx ha, e y b hy hb]
 unfold pushW
 rw [if_neg (by rw [h.most, h.q]; simp), h.q]
 rfl
end Go.Proofs.YteoeooijpjehpaaGreatDoor
