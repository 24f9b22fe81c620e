import Derived.Test.YteoeooijpjehpaaGreatDoorIC
import Derived.Test.YteoeooijpjehpaaGreatDoorIA
import Derived.Test.YteoeooijpjehpaaGreatDoorShelfF
import Derived.Shelf.Strings.SlTrimAscii

set_option maxRecDepth 100000
set_option maxHeartbeats 16000000
namespace Go.Proofs.YteoeooijpjehpaaGreatDoor
open Go.RowKit
set_option linter.unusedSimpArgs false
set_option linter.unusedVariables false
/- Walks: what is asked of texts: the library's functions in lists; wyse.part, wyse.waits. -/
section
attribute [local go_sem] alloc_drewN setCell_drewN World.cell?_alloc_some
theorem ba_sz (l : List UInt8) : (⟨l.toArray⟩ : ByteArray).size = l.length := by simp [ByteArray.size]
theorem ba_tl (l : List UInt8) : (⟨l.toArray⟩ : ByteArray).data.toList = l := by simp
theorem st_prefix (l p : List UInt8) (w : World) : Calls Tryz.prog 53 #[.string ⟨l.toArray⟩, .string ⟨p.toArray⟩] w fun e w' => e = .returned (.bool (Go.Lib.hasPrefix l p)) ∧ w' = w := by
 have := Tryz.strings_HasPrefix ⟨l.toArray⟩ ⟨p.toArray⟩ w
 rwa [ba_tl, ba_tl] at this
theorem st_suffix (l p : List UInt8) (hl : l.length ≤ 1000000) (w : World) : Calls Tryz.prog 93 #[.string ⟨l.toArray⟩, .string ⟨p.toArray⟩] w fun e w' => e = .returned (.bool (Go.Lib.hasSuffix l p)) ∧ w' = w := by
 have := Tryz.strings_HasSuffix ⟨l.toArray⟩ ⟨p.toArray⟩ w (by rw [ba_sz]; omega)
 rwa [ba_tl, ba_tl] at this
theorem st_trimSuffix (l p : List UInt8) (hl : l.length ≤ 1000000) (w : World) : Calls Tryz.prog 97 #[.string ⟨l.toArray⟩, .string ⟨p.toArray⟩] w fun e w' => e = .returned (.string ⟨(Go.Lib.trimSuffix l p).toArray⟩) ∧ w' = w := by
 have := Tryz.strings_TrimSuffix ⟨l.toArray⟩ ⟨p.toArray⟩ w (by rw [ba_sz]; omega)
 rwa [ba_tl, ba_tl] at this
theorem st_cut (l p : List UInt8) (hl : l.length ≤ 1000000) (w : World) (h : LibW w) : Calls Tryz.prog 94 #[.string ⟨l.toArray⟩, .string ⟨p.toArray⟩] w fun e w' => e = .returned (.tuple #[.string ⟨(Go.Lib.cut l p).1.toArray⟩, .string ⟨(Go.Lib.cut l p).2.1.toArray⟩, .bool (Go.Lib.cut l p).2.2]) ∧ Below w.heap.size w w' := by
 obtain ⟨m, hm⟩ := h.max
 have := Tryz.strings_Cut ⟨l.toArray⟩ ⟨p.toArray⟩ m w (by rw [ba_sz]; omega) hm
 rw [ba_tl, ba_tl] at this
 refine this.mono ?_
 rintro e w' ⟨he, n, rfl⟩
 exact ⟨he, below_drewN (Below.refl _ _) n⟩
theorem st_trim (l : List UInt8) (hl : l.length ≤ 1000000) (w : World) : Calls Tryz.prog 133 #[.string ⟨l.toArray⟩, .string ⟨#[48, 49, 50, 51, 52, 53, 54, 55, 56, 57]⟩] w fun e w' => e = .returned (.string ⟨(Go.Lib.trimS l digitsL).toArray⟩) ∧ Below w.heap.size w w' := by
 have := Any.strings_Trim_laid Tryz.lays160 (by kernel_rfl) ⟨l.toArray⟩ ⟨#[48, 49, 50, 51, 52, 53, 54, 55, 56, 57]⟩ w (by rw [ba_sz]; omega) (by decide) (ascii_of_all (by decide))
 rw [ba_tl] at this
 exact this
theorem st_atoi (l : List UInt8) (hl : l.length ≤ 1000000) (w : World) (h : LibW w) : Calls Tryz.prog 98 #[.string ⟨l.toArray⟩] w fun e w' => (∃ v ev, e = .returned (.tuple #[.int .i64 v, ev]) ∧ ((ev = .nilIface ∧ numB l = some v) ∨ ((∃ t p, ev = .iface t p) ∧ numB l = none))) ∧ Below w.heap.size w w' := by
 obtain ⟨t, p, h1⟩ := h.syn
 obtain ⟨t', p', h2⟩ := h.ran
 have hz := ba_sz l
 have htl := ba_tl l
 rcases ha : Go.Lib.atoiAll l with v | _ | _
 · refine (Tryz.strconv_Atoi_ok ⟨l.toArray⟩ (by omega) v (by rw [htl]; exact ha) w).mono ?_
   rintro e w' ⟨rfl, hw⟩
   refine ⟨⟨v, .nilIface, rfl, .inl ⟨rfl, by unfold numB; rw [ha]⟩⟩, ?_⟩
   rcases hw with rfl | ⟨x, rfl⟩
   · exact Below.refl _ _
   · exact Lib.bytesWorld_below _ _ _
 · refine (Tryz.strconv_Atoi_syntax_var ⟨l.toArray⟩ (by omega) ⟨fun v => by rw [htl, ha]; simp, by rw [htl, ha]; simp⟩ t p w h1).mono ?_
   rintro e w' ⟨N, rfl, -, -, hb⟩
   exact ⟨⟨_, _, rfl, .inr ⟨⟨_, _, rfl⟩, by unfold numB; rw [ha]⟩⟩, hb⟩
 · refine (Tryz.strconv_Atoi_range_var ⟨l.toArray⟩ (by omega) (by rw [htl]; exact ha) t' p' w h2).mono ?_
   rintro e w' ⟨N, rfl, -, -, hb⟩
   exact ⟨⟨_, _, rfl, .inr ⟨⟨_, _, rfl⟩, by unfold numB; rw [ha]⟩⟩, hb⟩
theorem wpart_ok (l : List UInt8) (whole : Bool) (hl : l.length ≤ 1000000) (w : World) : Calls Tryz.prog 95 #[.string ⟨l.toArray⟩, .bool whole] w fun e w' => e = .returned (.bool (partB l whole)) ∧ Below w.heap.size w w' := by
 have HT := Lib.hid (st_trim l hl w)
 have hz := ba_sz l
 by_cases h3 : l.length ≤ 3
 · have z3 : (l.length : Int) ≤ 3 := by omega
   cases l with
   | nil =>
     cases whole
     · have HE := Lib.hid (show partB [] false = true from by decide)
       rw [HE.out]
       have ht : Go.Lib.trimS [] digitsL = [] := by decide
       rw [ht] at HT
       clear ht HE h3 z3
       go_enter Tryz.func95, Tryz.ntmps95
       go_wp2_with (go_at_call 133; refine HT.out.mono ?_; rintro e w1 ⟨rfl, hb1⟩; have HB1 := Lib.hid hb1; clear hb1)
       go_ret
       exact ⟨rfl, HB1.out⟩
     · have HE := Lib.hid (show partB [] true = false from by decide)
       rw [HE.out]
       clear HE HT h3 z3
       go_enter Tryz.func95, Tryz.ntmps95
       go_wp2_with fail
       go_ret
       exact ⟨rfl, Below.refl _ _⟩
   | cons c l =>
     have hE : partB (c :: l) whole = decide (Go.Lib.trimS (c :: l) digitsL = []) := by
      unfold partB
      simp only [h3, decide_true, Bool.true_and]
      simp
     have HE := Lib.hid hE
     clear hE
     rw [HE.out]
     generalize Go.Lib.trimS (c :: l) digitsL = r at *
     clear HE
     have hne : ((c :: l) == ([] : List UInt8)) = false := rfl
     cases whole
     all_goals
      cases r with
      | nil =>
        go_enter Tryz.func95, Tryz.ntmps95
        go_wp2_with (go_at_call 133; refine HT.out.mono ?_; rintro e w1 ⟨rfl, hb1⟩; have HB1 := Lib.hid hb1; clear hb1)
        go_ret
        exact ⟨rfl, HB1.out⟩
      | cons x r =>
        go_enter Tryz.func95, Tryz.ntmps95
        go_wp2_with (go_at_call 133; refine HT.out.mono ?_; rintro e w1 ⟨rfl, hb1⟩; have HB1 := Lib.hid hb1; clear hb1)
        go_ret
        exact ⟨rfl, HB1.out⟩
 · have z3 : ¬ (l.length : Int) ≤ 3 := by omega
   have hE : partB l whole = false := by unfold partB; simp only [h3, decide_false, Bool.false_and]
   have HE := Lib.hid hE
   clear hE
   rw [HE.out]
   clear HE HT
   go_enter Tryz.func95, Tryz.ntmps95
   go_wp2_with fail
   go_ret
   exact ⟨rfl, Below.refl _ _⟩
theorem ba_get1 (a c : UInt8) (l : List UInt8) (h : 1 < (⟨(a :: c :: l).toArray⟩ : ByteArray).size) : (⟨(a :: c :: l).toArray⟩ : ByteArray)[1]'h = c := rfl
theorem run_rest2 (a c : UInt8) (l : List UInt8) (hl : l.length ≤ 1000000) (W : World) : Sem.run Tryz.prog (Instr.slice 9 (.string ⟨(a :: c :: l).toArray⟩) (some (.int .i64 2)) none none) W = .ok (.string ⟨l.toArray⟩) W := by
 have e : (⟨(a :: c :: l).toArray⟩ : ByteArray).extract 2 (⟨(a :: c :: l).toArray⟩ : ByteArray).size = ⟨l.toArray⟩ := by
  apply ByteArray.ext
  rw [ByteArray.data_extract]
  apply Array.toList_inj.1
  rw [Array.toList_extract, List.extract_eq_take_drop, ba_sz]
  show List.take ((a :: c :: l).length - 2) (List.drop 2 (a :: c :: l)) = l
  simp
 have := run_slice_string_from_if (P := Tryz.prog) W 9 ⟨(a :: c :: l).toArray⟩ .i64 2 Tryz.underlying9
 rw [if_pos ⟨by decide, by rw [ba_sz]; simp only [List.length_cons]; omega⟩] at this
 rw [show (2 : Int).toNat = 2 from rfl, e] at this
 exact this
theorem waits_ok (a c : UInt8) (l : List UInt8) (hl : l.length ≤ 1000) (w : World) (hlib : LibW w) : Calls Tryz.prog 55 #[.string ⟨(a :: c :: l).toArray⟩] w fun e w' => e = .returned (.bool (waitsW c l)) ∧ Below w.heap.size w w' := by
 have hz := ba_sz (a :: c :: l)
 have hz2 := ba_sz l
 simp only [List.length_cons] at hz
 have hrun := fun W => run_rest2 a c l (by omega) W
 have hg1 := fun h => ba_get1 a c l h
 have hsz : 1 < (⟨(a :: c :: l).toArray⟩ : ByteArray).size := by omega
 have hL6 : l.length ≤ 1000000 := by omega
 have HS13 := Lib.hid (fun W => st_suffix l [13] hL6 W)
 have HS67 := Lib.hid (fun W => st_suffix l [67] hL6 W)
 have HCUT := Lib.hid (st_cut l [82] hL6 w hlib)
 have hcl : (cutA l).length ≤ 1000000 ∧ (cutB l).length ≤ 1000000 := by
  unfold cutA cutB Go.Lib.cut
  split
  · refine ⟨?_, ?_⟩
    · simp only [List.length_take]; omega
    · simp only [List.length_drop]; omega
  · exact ⟨by omega, by simp⟩
 have HP1 := Lib.hid (fun W => wpart_ok (cutA l) (cutIs l) hcl.1 W)
 have HP2 := Lib.hid (fun W => wpart_ok (cutB l) false hcl.2 W)
 clear hlib hcl
 by_cases h61 : c = 61
 · subst h61
   have HE : Hid (waitsW 61 l = decide (l.length < 2)) := rfl
   rw [HE.out]
   clear HE HS13 HS67 HCUT HP1 HP2
   by_cases h2 : l.length < 2
   · have z2 : (l.length : Int) < 2 := by omega
     rw [decide_eq_true h2]
     go_enter Tryz.func55, Tryz.ntmps55
     go_wp2_with fail
     go_ret
     exact ⟨rfl, Below.refl _ _⟩
   · have z2 : ¬ (l.length : Int) < 2 := by omega
     rw [decide_eq_false h2]
     go_enter Tryz.func55, Tryz.ntmps55
     go_wp2_with fail
     go_ret
     exact ⟨rfl, Below.refl _ _⟩
 by_cases h71 : c = 71 ∨ c = 72
 · have HE := Lib.hid (show waitsW c l = decide (l = []) from by unfold waitsW; rw [if_neg h61, if_pos h71])
   rw [HE.out]
   clear HE HS13 HS67 HCUT HP1 HP2 h61
   rcases h71 with rfl | rfl
   all_goals
    cases l with
    | nil =>
      go_enter Tryz.func55, Tryz.ntmps55
      go_wp2_with fail
      go_ret
      exact ⟨rfl, Below.refl _ _⟩
    | cons x l =>
      go_enter Tryz.func55, Tryz.ntmps55
      go_wp2_with fail
      go_ret
      exact ⟨rfl, Below.refl _ _⟩
 by_cases h70 : c = 70
 · subst h70
   have HE := Lib.hid (show waitsW 70 l = !(Go.Lib.hasSuffix l [13]) from rfl)
   rw [HE.out]
   clear HE HS67 HCUT HP1 HP2
   generalize Go.Lib.hasSuffix l [13] = b at *
   go_enter Tryz.func55, Tryz.ntmps55
   go_wp2_with (go_at_call 93; refine (HS13.out _).mono ?_; rintro e w1 ⟨rfl, rfl⟩)
   go_ret
   exact ⟨rfl, Below.refl _ _⟩
 by_cases h97 : c = 97
 · subst h97
   have HE := Lib.hid (show waitsW 97 l = (partB (cutA l) (cutIs l) && (!cutIs l || partB (cutB l) false) && !(Go.Lib.hasSuffix l [67])) from rfl)
   rw [HE.out]
   clear HE HS13
   unfold cutA cutB cutIs at *
   generalize (Go.Lib.cut l [82]).1 = row at *
   generalize (Go.Lib.cut l [82]).2.1 = col at *
   generalize (Go.Lib.cut l [82]).2.2 = two at *
   generalize Go.Lib.hasSuffix l [67] = b67 at *
   generalize partB row two = p1 at *
   generalize partB col false = p2 at *
   cases p1
   · go_enter Tryz.func55, Tryz.ntmps55
     go_wp2_with (first
      | (go_at_call 94; refine HCUT.out.mono ?_; rintro e w1 ⟨rfl, hb1⟩; have HB1 := Lib.hid hb1; clear hb1)
      | (go_at_call 95; refine (HP1.out _).mono ?_; rintro e w2 ⟨rfl, hb2⟩; have HB2 := Lib.hid (Below.later HB1.out hb2 HB1.out.size); clear hb2))
     go_ret
     exact ⟨rfl, HB2.out⟩
   · cases two
     · go_enter Tryz.func55, Tryz.ntmps55
       go_wp2_with (first
        | (go_at_call 94; refine HCUT.out.mono ?_; rintro e w1 ⟨rfl, hb1⟩; have HB1 := Lib.hid hb1; clear hb1)
        | (go_at_call 95; refine (HP1.out _).mono ?_; rintro e w2 ⟨rfl, hb2⟩; have HB2 := Lib.hid (Below.later HB1.out hb2 HB1.out.size); clear hb2)
        | (go_at_call 93; refine (HS67.out _).mono ?_; rintro e w1 ⟨rfl, rfl⟩))
       go_ret
       exact ⟨rfl, HB2.out⟩
     · cases p2
       all_goals
        go_enter Tryz.func55, Tryz.ntmps55
        go_wp2_with (first
         | (go_at_call 94; refine HCUT.out.mono ?_; rintro e w1 ⟨rfl, hb1⟩; have HB1 := Lib.hid hb1; clear hb1)
         | (go_at_call 95; have hbq := HB2.out; clear hbq; refine (HP2.out _).mono ?_; rintro e w3 ⟨rfl, hb3⟩; have HB3 := Lib.hid (Below.later HB2.out hb3 HB2.out.size); clear hb3)
         | (go_at_call 95; refine (HP1.out _).mono ?_; rintro e w2 ⟨rfl, hb2⟩; have HB2 := Lib.hid (Below.later HB1.out hb2 HB1.out.size); clear hb2)
         | (go_at_call 93; refine (HS67.out _).mono ?_; rintro e w1 ⟨rfl, rfl⟩))
        go_ret
        exact ⟨rfl, HB3.out⟩
 · have HE := Lib.hid (show waitsW c l = false from by unfold waitsW; rw [if_neg h61, if_neg h71, if_neg h70, if_neg h97])
   rw [HE.out]
   have hn : ∀ n : UInt8, c ≠ n → ((c.toNat : Int) == (n.toNat : Int)) = false := fun n h => by
    have h1 : c.toNat ≠ n.toNat := fun e => h (UInt8.toNat_inj.1 e)
    simp only [beq_eq_false_iff_ne, ne_eq]
    omega
   have e61 : ((c.toNat : Int) == 61) = false := hn 61 h61
   have e71 : ((c.toNat : Int) == 71) = false := hn 71 (fun e => h71 (.inl e))
   have e72 : ((c.toNat : Int) == 72) = false := hn 72 (fun e => h71 (.inr e))
   have e70 : ((c.toNat : Int) == 70) = false := hn 70 h70
   have e97 : ((c.toNat : Int) == 97) = false := hn 97 h97
   clear HE HS13 HS67 HCUT HP1 HP2 hn h61 h71 h70 h97
   go_enter Tryz.func55, Tryz.ntmps55
   go_wp2_with fail
   go_ret
   exact ⟨rfl, Below.refl _ _⟩
end
section
attribute [local go_sem] alloc_drewN setCell_drewN World.cell?_alloc_some frozen_alloc_some size_f0 size_f1
theorem wrun_dye0 (w : World) : (Instr.index 170 (.agg #[.int .i64 32, .int .i64 8, .int .i64 16, .int .i64 4]) (.int .i64 0)).run Tryz.prog w = .ok (.int .i64 32) w := by kernel_rfl
theorem wrun_dye1 (w : World) : (Instr.index 170 (.agg #[.int .i64 32, .int .i64 8, .int .i64 16, .int .i64 4]) (.int .i64 1)).run Tryz.prog w = .ok (.int .i64 8) w := by kernel_rfl
theorem wrun_dye2 (w : World) : (Instr.index 170 (.agg #[.int .i64 32, .int .i64 8, .int .i64 16, .int .i64 4]) (.int .i64 2)).run Tryz.prog w = .ok (.int .i64 16) w := by kernel_rfl
theorem wrun_dye3 (w : World) : (Instr.index 170 (.agg #[.int .i64 32, .int .i64 8, .int .i64 16, .int .i64 4]) (.int .i64 3)).run Tryz.prog w = .ok (.int .i64 4) w := by kernel_rfl
attribute [local go_sem 3000] wrun_dye0 wrun_dye1 wrun_dye2 wrun_dye3
def wdK (d : Int) (b k : Nat) : Int := d + (if 0 < k ∧ b % 2 = 1 then 32 else 0) + (if 1 < k ∧ b / 2 % 2 = 1 then 8 else 0) + (if 2 < k ∧ b / 4 % 2 = 1 then 16 else 0) + (if 3 < k ∧ b / 8 % 2 = 1 then 4 else 0)
def wdOk (d : Int) (b : Nat) : Bool :=
 (decide ((bits .and .u8 (b : Int) 1 == 1) = true → bits .or .i64 (wdK d b 0) 32 = wdK d b 1) && decide ((bits .and .u8 (b : Int) 1 == 1) = false → wdK d b 0 = wdK d b 1)) &&
 (decide ((bits .and .u8 ((b : Int) / 2) 1 == 1) = true → bits .or .i64 (wdK d b 1) 8 = wdK d b 2) && decide ((bits .and .u8 ((b : Int) / 2) 1 == 1) = false → wdK d b 1 = wdK d b 2)) &&
 (decide ((bits .and .u8 ((b : Int) / 4) 1 == 1) = true → bits .or .i64 (wdK d b 2) 16 = wdK d b 3) && decide ((bits .and .u8 ((b : Int) / 4) 1 == 1) = false → wdK d b 2 = wdK d b 3)) &&
 (decide ((bits .and .u8 ((b : Int) / 8) 1 == 1) = true → bits .or .i64 (wdK d b 3) 4 = wdK d b 4) && decide ((bits .and .u8 ((b : Int) / 8) 1 == 1) = false → wdK d b 3 = wdK d b 4))
theorem wd_all : (List.range 256).all (fun b => wdOk 0 b && wdOk 2 b) = true := by decide +kernel
theorem wd_bits {b : Nat} (hb : b < 256) {d : Int} (hd : d = 0 ∨ d = 2) : wdOk d b = true := by
 have h := List.all_eq_true.1 wd_all b (List.mem_range.2 hb)
 simp only [Bool.and_eq_true] at h
 rcases hd with rfl | rfl
 · exact h.1
 · exact h.2
def bitsR (o : Option Int) : Value :=
 match o with
 | none => .tuple #[.int .i64 0, .bool false]
 | some a => .tuple #[.int .i64 a, .bool true]
theorem wbits_7 (b : Nat) (hb : b < 256) (h16 : b / 16 = 7) (w : World) : Calls Tryz.prog 99 #[.int .u8 b] w fun e w' => e = .returned (.tuple #[.int .i64 (wdK 2 b 4), .bool true]) ∧ w = w' := by
 have hok := wd_bits hb (d := 2) (by simp)
 unfold wdOk at hok
 simp only [Bool.and_eq_true, decide_eq_true_eq] at hok
 have HOK := Lib.hid hok
 have hb0 : (b : Int) < 256 := by omega
 clear hok
 have e7 : (b : Int) / 16 = 7 := by omega
 clear h16
 go_enter Tryz.func99, Tryz.ntmps99
 go_wp2_with fail
 go_loopw [4, 14] (fun a i wr => ∃ k : Nat, k ≤ 4 ∧ i = .int .i64 k ∧ a = .int .i64 (wdK 2 b k) ∧ wr = w) (fun _ i _ => 4 - (intOf i).toNat)
 case atStart => exact ⟨0, by decide, rfl, by simp [wdK], rfl⟩
 case round =>
  obtain ⟨k, hk, rfl, rfl, rfl⟩ := hrel
  by_cases hlt : k < 4
  · have hkk : k = 0 ∨ k = 1 ∨ k = 2 ∨ k = 3 := by omega
    obtain ⟨⟨⟨hd0, hd1⟩, hd2⟩, hd3⟩ := HOK.out
    obtain ⟨K, hKK⟩ : ∃ K : Int, K = (k : Int) := ⟨_, rfl⟩
    rw [← hKK]
    rcases hkk with rfl | rfl | rfl | rfl
    · obtain rfl : K = 0 := hKK
      have HD1 := Lib.hid (hd0.1)
      have HD2 := Lib.hid (hd0.2)
      clear hd0 hd1 hd2 hd3
      go_wp2_with fail
      · rename_i hbit
        rw [HD1.out hbit]
        exact ⟨⟨1, by decide, rfl, rfl, trivial⟩, by decide⟩
      · rename_i hbit
        rw [HD2.out hbit]
        exact ⟨⟨1, by decide, rfl, rfl, trivial⟩, by decide⟩
    · obtain rfl : K = 1 := hKK
      have HD1 := Lib.hid (hd1.1)
      have HD2 := Lib.hid (hd1.2)
      clear hd0 hd1 hd2 hd3
      go_wp2_with fail
      · rename_i hbit
        rw [HD1.out hbit]
        exact ⟨⟨2, by decide, rfl, rfl, trivial⟩, by decide⟩
      · rename_i hbit
        rw [HD2.out hbit]
        exact ⟨⟨2, by decide, rfl, rfl, trivial⟩, by decide⟩
    · obtain rfl : K = 2 := hKK
      have HD1 := Lib.hid (hd2.1)
      have HD2 := Lib.hid (hd2.2)
      clear hd0 hd1 hd2 hd3
      go_wp2_with fail
      · rename_i hbit
        rw [HD1.out hbit]
        exact ⟨⟨3, by decide, rfl, rfl, trivial⟩, by decide⟩
      · rename_i hbit
        rw [HD2.out hbit]
        exact ⟨⟨3, by decide, rfl, rfl, trivial⟩, by decide⟩
    · obtain rfl : K = 3 := hKK
      have HD1 := Lib.hid (hd3.1)
      have HD2 := Lib.hid (hd3.2)
      clear hd0 hd1 hd2 hd3
      go_wp2_with fail
      · rename_i hbit
        rw [HD1.out hbit]
        exact ⟨⟨4, by decide, rfl, rfl, trivial⟩, by decide⟩
      · rename_i hbit
        rw [HD2.out hbit]
        exact ⟨⟨4, by decide, rfl, rfl, trivial⟩, by decide⟩
  · obtain rfl : k = 4 := by omega
    go_wp2_with fail
    go_ret2
    exact ⟨rfl, rfl⟩
theorem wbits_3 (b : Nat) (hb : b < 256) (h16 : b / 16 = 3) (w : World) : Calls Tryz.prog 99 #[.int .u8 b] w fun e w' => e = .returned (.tuple #[.int .i64 (wdK 0 b 4), .bool true]) ∧ w = w' := by
 have hok := wd_bits hb (d := 0) (by simp)
 unfold wdOk at hok
 simp only [Bool.and_eq_true, decide_eq_true_eq] at hok
 have HOK := Lib.hid hok
 have hb0 : (b : Int) < 256 := by omega
 clear hok
 have e7 : (b : Int) / 16 = 3 := by omega
 clear h16
 go_enter Tryz.func99, Tryz.ntmps99
 go_wp2_with fail
 go_loopw [4, 14] (fun a i wr => ∃ k : Nat, k ≤ 4 ∧ i = .int .i64 k ∧ a = .int .i64 (wdK 0 b k) ∧ wr = w) (fun _ i _ => 4 - (intOf i).toNat)
 case atStart => exact ⟨0, by decide, rfl, by simp [wdK], rfl⟩
 case round =>
  obtain ⟨k, hk, rfl, rfl, rfl⟩ := hrel
  by_cases hlt : k < 4
  · have hkk : k = 0 ∨ k = 1 ∨ k = 2 ∨ k = 3 := by omega
    obtain ⟨⟨⟨hd0, hd1⟩, hd2⟩, hd3⟩ := HOK.out
    obtain ⟨K, hKK⟩ : ∃ K : Int, K = (k : Int) := ⟨_, rfl⟩
    rw [← hKK]
    rcases hkk with rfl | rfl | rfl | rfl
    · obtain rfl : K = 0 := hKK
      have HD1 := Lib.hid (hd0.1)
      have HD2 := Lib.hid (hd0.2)
      clear hd0 hd1 hd2 hd3
      go_wp2_with fail
      · rename_i hbit
        rw [HD1.out hbit]
        exact ⟨⟨1, by decide, rfl, rfl, trivial⟩, by decide⟩
      · rename_i hbit
        rw [HD2.out hbit]
        exact ⟨⟨1, by decide, rfl, rfl, trivial⟩, by decide⟩
    · obtain rfl : K = 1 := hKK
      have HD1 := Lib.hid (hd1.1)
      have HD2 := Lib.hid (hd1.2)
      clear hd0 hd1 hd2 hd3
      go_wp2_with fail
      · rename_i hbit
        rw [HD1.out hbit]
        exact ⟨⟨2, by decide, rfl, rfl, trivial⟩, by decide⟩
      · rename_i hbit
        rw [HD2.out hbit]
        exact ⟨⟨2, by decide, rfl, rfl, trivial⟩, by decide⟩
    · obtain rfl : K = 2 := hKK
      have HD1 := Lib.hid (hd2.1)
      have HD2 := Lib.hid (hd2.2)
      clear hd0 hd1 hd2 hd3
      go_wp2_with fail
      · rename_i hbit
        rw [HD1.out hbit]
        exact ⟨⟨3, by decide, rfl, rfl, trivial⟩, by decide⟩
      · rename_i hbit
        rw [HD2.out hbit]
        exact ⟨⟨3, by decide, rfl, rfl, trivial⟩, by decide⟩
    · obtain rfl : K = 3 := hKK
      have HD1 := Lib.hid (hd3.1)
      have HD2 := Lib.hid (hd3.2)
      clear hd0 hd1 hd2 hd3
      go_wp2_with fail
      · rename_i hbit
        rw [HD1.out hbit]
        exact ⟨⟨4, by decide, rfl, rfl, trivial⟩, by decide⟩
      · rename_i hbit
        rw [HD2.out hbit]
        exact ⟨⟨4, by decide, rfl, rfl, trivial⟩, by decide⟩
  · obtain rfl : k = 4 := by omega
    go_wp2_with fail
    go_ret2
    exact ⟨rfl, rfl⟩
theorem wbits_none (b : Nat) (hb : b < 256) (h7 : b / 16 ≠ 7) (h3 : b / 16 ≠ 3) (w : World) : Calls Tryz.prog 99 #[.int .u8 b] w fun e w' => e = .returned (.tuple #[.int .i64 0, .bool false]) ∧ w = w' := by
 have hb0 : (b : Int) < 256 := by omega
 have e7 : ((b : Int) / 16 == 7) = false := by simp only [beq_eq_false_iff_ne, ne_eq]; omega
 have e3 : ((b : Int) / 16 == 3) = false := by simp only [beq_eq_false_iff_ne, ne_eq]; omega
 clear h7 h3
 go_enter Tryz.func99, Tryz.ntmps99
 go_wp2_with fail
 go_ret2
 exact ⟨rfl, rfl⟩
theorem wbits_ok (b : Nat) (hb : b < 256) (w : World) : Calls Tryz.prog 99 #[.int .u8 b] w fun e w' => e = .returned (bitsR (bitsW b)) ∧ w = w' := by
 by_cases h7 : b / 16 = 7
 · have hE : bitsW b = some (wdK 2 b 4) := by
    unfold bitsW wdK
    rw [if_pos (.inl h7), if_pos h7]
    simp
   rw [hE]
   exact wbits_7 b hb h7 w
 · by_cases h3 : b / 16 = 3
   · have hE : bitsW b = some (wdK 0 b 4) := by
      unfold bitsW wdK
      rw [if_pos (.inr h3), if_neg h7]
      simp
     rw [hE]
     exact wbits_3 b hb h3 w
   · have hE : bitsW b = none := by
      unfold bitsW
      rw [if_neg (by omega)]
     rw [hE]
     exact wbits_none b hb h7 h3 w
end
section
attribute [local go_sem] alloc_drewN setCell_drewN World.cell?_alloc_some frozen_alloc_some size_f0 size_f1
def mod1 (A : Wy) (b : Nat) : Wy := if b = 41 ∨ b = 40 then { A with gd := decide (b = 41) } else A
def mod2 (A : Wy) (b : Nat) : Wy := if b = 38 ∨ b = 39 then { mod1 A b with pr := decide (b = 38) } else mod1 A b
def mod3 (A : Wy) (b : Nat) : Wy := if b = 113 ∨ b = 114 then { mod2 A b with ins := decide (b = 113) } else mod2 A b
def mod4 (A : Wy) (b : Nat) : Wy := if b = 65 ∨ b = 66 then { mod3 A b with emb := decide (b = 65) } else mod3 A b
theorem mod4_eq (A : Wy) (b : Nat) : mod4 A b = modesW A b := by
 unfold mod4 mod3 mod2 mod1 modesW
 by_cases h1 : b = 41 ∨ b = 40
 · rw [if_pos h1, if_pos h1, if_neg (by omega), if_neg (by omega), if_neg (by omega)]
 · rw [if_neg h1, if_neg h1]
   by_cases h2 : b = 38 ∨ b = 39
   · rw [if_pos h2, if_pos h2, if_neg (by omega), if_neg (by omega)]
   · rw [if_neg h2, if_neg h2]
     by_cases h3 : b = 113 ∨ b = 114
     · rw [if_pos h3, if_pos h3, if_neg (by omega)]
     · rw [if_neg h3, if_neg h3]
def modK (A : Wy) (b : Nat) (k : Nat) : Wy := match k with | 0 => A | 1 => mod1 A b | 2 => mod2 A b | 3 => mod3 A b | _ => mod4 A b
theorem run_rule0 (tp : Nat) (w : World) : (Instr.index 172 (.agg #[.int .u8 41, .int .u8 40, .pointer (some ⟨tp, 2, none⟩), .int .u8 38, .int .u8 39, .pointer (some ⟨tp, 3, none⟩), .int .u8 113, .int .u8 114, .pointer (some ⟨tp, 5, none⟩), .int .u8 65, .int .u8 66, .pointer (some ⟨tp, 6, none⟩)]) (.int .i64 0)).run Tryz.prog w = .ok (.agg #[.int .u8 41, .int .u8 40, .pointer (some ⟨tp, 2, none⟩)]) w := by kernel_rfl
theorem run_rule1 (tp : Nat) (w : World) : (Instr.index 172 (.agg #[.int .u8 41, .int .u8 40, .pointer (some ⟨tp, 2, none⟩), .int .u8 38, .int .u8 39, .pointer (some ⟨tp, 3, none⟩), .int .u8 113, .int .u8 114, .pointer (some ⟨tp, 5, none⟩), .int .u8 65, .int .u8 66, .pointer (some ⟨tp, 6, none⟩)]) (.int .i64 1)).run Tryz.prog w = .ok (.agg #[.int .u8 38, .int .u8 39, .pointer (some ⟨tp, 3, none⟩)]) w := by kernel_rfl
theorem run_rule2 (tp : Nat) (w : World) : (Instr.index 172 (.agg #[.int .u8 41, .int .u8 40, .pointer (some ⟨tp, 2, none⟩), .int .u8 38, .int .u8 39, .pointer (some ⟨tp, 3, none⟩), .int .u8 113, .int .u8 114, .pointer (some ⟨tp, 5, none⟩), .int .u8 65, .int .u8 66, .pointer (some ⟨tp, 6, none⟩)]) (.int .i64 2)).run Tryz.prog w = .ok (.agg #[.int .u8 113, .int .u8 114, .pointer (some ⟨tp, 5, none⟩)]) w := by kernel_rfl
theorem run_rule3 (tp : Nat) (w : World) : (Instr.index 172 (.agg #[.int .u8 41, .int .u8 40, .pointer (some ⟨tp, 2, none⟩), .int .u8 38, .int .u8 39, .pointer (some ⟨tp, 3, none⟩), .int .u8 113, .int .u8 114, .pointer (some ⟨tp, 5, none⟩), .int .u8 65, .int .u8 66, .pointer (some ⟨tp, 6, none⟩)]) (.int .i64 3)).run Tryz.prog w = .ok (.agg #[.int .u8 65, .int .u8 66, .pointer (some ⟨tp, 6, none⟩)]) w := by kernel_rfl
attribute [local go_sem 3000] run_rule0 run_rule1 run_rule2 run_rule3
theorem wys_modes {w : World} {tp sp qp : Nat} {A : Wy} (h : w.heap[tp]? = some (.cells (wyB sp qp A) 75 (0, 0))) (b : Nat) (hb : b < 256) : Calls Tryz.prog 100 #[.pointer (some ⟨tp, 0, none⟩), .int .u8 b] w fun e w' => e = .returned (.tuple #[]) ∧ w'.heap[tp]? = some (.cells (wyB sp qp (modesW A b)) 75 (0, 0)) ∧ Keeps (fun k => k = tp) w w' := by
 have H := Lib.hid h
 have HE := Lib.hid (mod4_eq A b)
 have htl := block_lt h
 clear h
 go_enter Tryz.func100, Tryz.ntmps100
 go_upto_region 0 with fail
 refine wp_region_noPanic ?_
 refine wp_region_k (S := fun W : World => True) 999 (by kernel_rfl) (trivial) (fun hHeld => ?_)
 refine kSK 0 hHeld ?_
 refine kSK 1 hHeld ?_
 refine kSK 2 hHeld ?_
 refine kSK 3 hHeld ?_
 refine kSK 4 hHeld ?_
 try refine kNK ?_
 refine kSK 5 hHeld ?_
 refine kSK 6 hHeld ?_
 refine kSK 7 hHeld ?_
 refine kSK 8 hHeld ?_
 refine kSK 9 hHeld ?_
 try refine kNK ?_
 refine kSK 10 hHeld ?_
 refine kSK 11 hHeld ?_
 refine kSK 12 hHeld ?_
 refine kSK 13 hHeld ?_
 refine kSK 14 hHeld ?_
 try refine kNK ?_
 refine kSK 15 hHeld ?_
 refine kSK 16 hHeld ?_
 refine kSK 17 hHeld ?_
 refine kSK 18 hHeld ?_
 refine kSK 19 hHeld ?_
 try refine kNK ?_
 refine kSK 20 hHeld ?_
 refine kSK 21 hHeld ?_
 try refine kNK ?_
 refine wpAnyK_done (by kernel_rfl) ?_ _
 refine NoPanic.normal ?_
 clear hHeld
 go_wp2_with fail
 go_loopw [27] (fun i wr => ∃ k : Nat, k ≤ 4 ∧ i = .int .i64 k ∧ wr.heap[tp]? = some (.cells (wyB sp qp (modK A b k)) 75 (0, 0)) ∧ Keeps (fun k => k = tp) w wr) (fun i _ => 4 - (intOf i).toNat)
 case atStart => exact ⟨0, by decide, rfl, H.out, (Keeps.of_below (Below.refl _ _).drew : Keeps (fun k => k = tp) w _)⟩
 case round =>
  obtain ⟨k, hk, rfl, hx, hK⟩ := hrel
  have HK := Lib.hid hK
  by_cases hlt : k < 4
  · have hkk : k = 0 ∨ k = 1 ∨ k = 2 ∨ k = 3 := by omega
    obtain ⟨K, hKK⟩ : ∃ K : Int, K = (k : Int) := ⟨_, rfl⟩
    rw [← hKK]
    rcases hkk with rfl | rfl | rfl | rfl
    · obtain rfl : K = 0 := hKK
      have hx0 := (Below.heap_alloc wr (.cells #[.int .u8 41, .int .u8 40, .pointer (some ⟨tp, 2, none⟩)] 171) _ (block_lt hx)).trans hx
      have HX := Lib.hid hx0
      have HX1 := Lib.hid hx
      obtain ⟨t0, t1, t2, t3, t4, t5, t6, t7, t8, t9, f2, f3, f4, f5, f6, f7, f8, f9⟩ := row10 hx0
      obtain ⟨x0, x1, x2, _⟩ := row3 (heap_alloc_new wr (.cells #[.int .u8 41, .int .u8 40, .pointer (some ⟨tp, 2, none⟩)] 171))
      have HK2 := Lib.hid (HK.out.alloc (.cells #[.int .u8 41, .int .u8 40, .pointer (some ⟨tp, 2, none⟩)] 171))
      clear hx hK hx0
      by_cases h1 : b = 41
      · have e1 : ((b : Int) == 41) = true := by simp [h1]
        have HM := Lib.hid (show modK A b 1 = { modK A b 0 with gd := true } from by show mod1 A b = _; unfold mod1; rw [if_pos (.inl h1), decide_eq_true h1]; rfl)
        clear h1
        go_wp2_with fail
        exact ⟨⟨1, by decide, rfl, by rw [HM.out]; exact heap_set_same HX.out 2 (.bool true), HK2.out.setCell' (p := ⟨tp, 2, none⟩) rfl _⟩, by decide⟩
      · have e1 : ((b : Int) == 41) = false := by simp; omega
        by_cases h2 : b = 40
        · have e2 : ((b : Int) == 40) = true := by simp [h2]
          have HM := Lib.hid (show modK A b 1 = { modK A b 0 with gd := false } from by show mod1 A b = _; unfold mod1; rw [if_pos (.inr h2), decide_eq_false h1]; rfl)
          clear h1 h2
          go_wp2_with fail
          exact ⟨⟨1, by decide, rfl, by rw [HM.out]; exact heap_set_same HX.out 2 (.bool false), HK2.out.setCell' (p := ⟨tp, 2, none⟩) rfl _⟩, by decide⟩
        · have e2 : ((b : Int) == 40) = false := by simp; omega
          have HM := Lib.hid (show modK A b 1 = modK A b 0 from by show mod1 A b = _; unfold mod1; rw [if_neg (by omega)]; rfl)
          clear h1 h2
          go_wp2_with fail
          exact ⟨⟨1, by decide, rfl, by rw [HM.out]; exact HX.out, HK2.out⟩, by decide⟩
    · obtain rfl : K = 1 := hKK
      have hx0 := (Below.heap_alloc wr (.cells #[.int .u8 38, .int .u8 39, .pointer (some ⟨tp, 3, none⟩)] 171) _ (block_lt hx)).trans hx
      have HX := Lib.hid hx0
      have HX1 := Lib.hid hx
      obtain ⟨t0, t1, t2, t3, t4, t5, t6, t7, t8, t9, f2, f3, f4, f5, f6, f7, f8, f9⟩ := row10 hx0
      obtain ⟨x0, x1, x2, _⟩ := row3 (heap_alloc_new wr (.cells #[.int .u8 38, .int .u8 39, .pointer (some ⟨tp, 3, none⟩)] 171))
      have HK2 := Lib.hid (HK.out.alloc (.cells #[.int .u8 38, .int .u8 39, .pointer (some ⟨tp, 3, none⟩)] 171))
      clear hx hK hx0
      by_cases h1 : b = 38
      · have e1 : ((b : Int) == 38) = true := by simp [h1]
        have HM := Lib.hid (show modK A b 2 = { modK A b 1 with pr := true } from by show mod2 A b = _; unfold mod2; rw [if_pos (.inl h1), decide_eq_true h1]; rfl)
        clear h1
        go_wp2_with fail
        exact ⟨⟨2, by decide, rfl, by rw [HM.out]; exact heap_set_same HX.out 3 (.bool true), HK2.out.setCell' (p := ⟨tp, 3, none⟩) rfl _⟩, by decide⟩
      · have e1 : ((b : Int) == 38) = false := by simp; omega
        by_cases h2 : b = 39
        · have e2 : ((b : Int) == 39) = true := by simp [h2]
          have HM := Lib.hid (show modK A b 2 = { modK A b 1 with pr := false } from by show mod2 A b = _; unfold mod2; rw [if_pos (.inr h2), decide_eq_false h1]; rfl)
          clear h1 h2
          go_wp2_with fail
          exact ⟨⟨2, by decide, rfl, by rw [HM.out]; exact heap_set_same HX.out 3 (.bool false), HK2.out.setCell' (p := ⟨tp, 3, none⟩) rfl _⟩, by decide⟩
        · have e2 : ((b : Int) == 39) = false := by simp; omega
          have HM := Lib.hid (show modK A b 2 = modK A b 1 from by show mod2 A b = _; unfold mod2; rw [if_neg (by omega)]; rfl)
          clear h1 h2
          go_wp2_with fail
          exact ⟨⟨2, by decide, rfl, by rw [HM.out]; exact HX.out, HK2.out⟩, by decide⟩
    · obtain rfl : K = 2 := hKK
      have hx0 := (Below.heap_alloc wr (.cells #[.int .u8 113, .int .u8 114, .pointer (some ⟨tp, 5, none⟩)] 171) _ (block_lt hx)).trans hx
      have HX := Lib.hid hx0
      have HX1 := Lib.hid hx
      obtain ⟨t0, t1, t2, t3, t4, t5, t6, t7, t8, t9, f2, f3, f4, f5, f6, f7, f8, f9⟩ := row10 hx0
      obtain ⟨x0, x1, x2, _⟩ := row3 (heap_alloc_new wr (.cells #[.int .u8 113, .int .u8 114, .pointer (some ⟨tp, 5, none⟩)] 171))
      have HK2 := Lib.hid (HK.out.alloc (.cells #[.int .u8 113, .int .u8 114, .pointer (some ⟨tp, 5, none⟩)] 171))
      clear hx hK hx0
      by_cases h1 : b = 113
      · have e1 : ((b : Int) == 113) = true := by simp [h1]
        have HM := Lib.hid (show modK A b 3 = { modK A b 2 with ins := true } from by show mod3 A b = _; unfold mod3; rw [if_pos (.inl h1), decide_eq_true h1]; rfl)
        clear h1
        go_wp2_with fail
        exact ⟨⟨3, by decide, rfl, by rw [HM.out]; exact heap_set_same HX.out 5 (.bool true), HK2.out.setCell' (p := ⟨tp, 5, none⟩) rfl _⟩, by decide⟩
      · have e1 : ((b : Int) == 113) = false := by simp; omega
        by_cases h2 : b = 114
        · have e2 : ((b : Int) == 114) = true := by simp [h2]
          have HM := Lib.hid (show modK A b 3 = { modK A b 2 with ins := false } from by show mod3 A b = _; unfold mod3; rw [if_pos (.inr h2), decide_eq_false h1]; rfl)
          clear h1 h2
          go_wp2_with fail
          exact ⟨⟨3, by decide, rfl, by rw [HM.out]; exact heap_set_same HX.out 5 (.bool false), HK2.out.setCell' (p := ⟨tp, 5, none⟩) rfl _⟩, by decide⟩
        · have e2 : ((b : Int) == 114) = false := by simp; omega
          have HM := Lib.hid (show modK A b 3 = modK A b 2 from by show mod3 A b = _; unfold mod3; rw [if_neg (by omega)]; rfl)
          clear h1 h2
          go_wp2_with fail
          exact ⟨⟨3, by decide, rfl, by rw [HM.out]; exact HX.out, HK2.out⟩, by decide⟩
    · obtain rfl : K = 3 := hKK
      have hx0 := (Below.heap_alloc wr (.cells #[.int .u8 65, .int .u8 66, .pointer (some ⟨tp, 6, none⟩)] 171) _ (block_lt hx)).trans hx
      have HX := Lib.hid hx0
      have HX1 := Lib.hid hx
      obtain ⟨t0, t1, t2, t3, t4, t5, t6, t7, t8, t9, f2, f3, f4, f5, f6, f7, f8, f9⟩ := row10 hx0
      obtain ⟨x0, x1, x2, _⟩ := row3 (heap_alloc_new wr (.cells #[.int .u8 65, .int .u8 66, .pointer (some ⟨tp, 6, none⟩)] 171))
      have HK2 := Lib.hid (HK.out.alloc (.cells #[.int .u8 65, .int .u8 66, .pointer (some ⟨tp, 6, none⟩)] 171))
      clear hx hK hx0
      by_cases h1 : b = 65
      · have e1 : ((b : Int) == 65) = true := by simp [h1]
        have HM := Lib.hid (show modK A b 4 = { modK A b 3 with emb := true } from by show mod4 A b = _; unfold mod4; rw [if_pos (.inl h1), decide_eq_true h1]; rfl)
        clear h1
        go_wp2_with fail
        exact ⟨⟨4, by decide, rfl, by rw [HM.out]; exact heap_set_same HX.out 6 (.bool true), HK2.out.setCell' (p := ⟨tp, 6, none⟩) rfl _⟩, by decide⟩
      · have e1 : ((b : Int) == 65) = false := by simp; omega
        by_cases h2 : b = 66
        · have e2 : ((b : Int) == 66) = true := by simp [h2]
          have HM := Lib.hid (show modK A b 4 = { modK A b 3 with emb := false } from by show mod4 A b = _; unfold mod4; rw [if_pos (.inr h2), decide_eq_false h1]; rfl)
          clear h1 h2
          go_wp2_with fail
          exact ⟨⟨4, by decide, rfl, by rw [HM.out]; exact heap_set_same HX.out 6 (.bool false), HK2.out.setCell' (p := ⟨tp, 6, none⟩) rfl _⟩, by decide⟩
        · have e2 : ((b : Int) == 66) = false := by simp; omega
          have HM := Lib.hid (show modK A b 4 = modK A b 3 from by show mod4 A b = _; unfold mod4; rw [if_neg (by omega)]; rfl)
          clear h1 h2
          go_wp2_with fail
          exact ⟨⟨4, by decide, rfl, by rw [HM.out]; exact HX.out, HK2.out⟩, by decide⟩
  · obtain rfl : k = 4 := by omega
    have HX := Lib.hid (show wr.heap[tp]? = some (.cells (wyB sp qp (mod4 A b)) 75 (0, 0)) from hx)
    clear hx hK
    go_wp2_with fail
    go_end0
    exact ⟨rfl, by rw [← HE.out]; exact HX.out, HK.out⟩
end
end Go.Proofs.YteoeooijpjehpaaGreatDoor
