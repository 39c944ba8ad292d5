/- Texts of this proof, put together by a program: Fj, Ena, Enb, Enc, End, Vla, Gb, Cua, Cub, Cuc, Cud, Cue, Pla, Hna, LHn, Hnl, MHn. -/
import Derived.Test.YtncjdkfjhkpkmaaGreatDoorP5
import Derived.Laws.IdiomStrings
import Derived.Lib.ItoaNum
import Derived.Lib.ConvBytes
import Derived.Lib.SlBytesRow
import Derived.Lib.SmallJoins
import Derived.KernelRfl
import Derived.Outline
set_option linter.unusedVariables false
set_option linter.unusedSimpArgs false
namespace Go.Proofs.YtncjdkfjhkpkmaaGreatDoor
open Go.RowKit
open GoD (rd own)
theorem below_gd (w : World) (k : Nat) (os : Array Obj) : Below w.heap.size w (Go.Sort.grow (w.drewN k) os) :=
  ⟨rfl, rfl, rfl, by rw [Go.Sort.size_grow]; exact Nat.le_add_right _ _, fun j hj => by
    unfold Go.Sort.grow
    rw [Array.getElem?_append, if_pos (by exact hj)]
    rfl⟩
def tabOk (w : World) : Prop := Lib.TabIs Tryz.prog w "internal/strconv.uint64pow10" .u64 Lib.pow10Tab
theorem gTab : Tryz.prog.globalNamed "internal/strconv.uint64pow10" = some 0 := by kernel_rfl
theorem tabOk.keep {w w' : World} (h : tabOk w) (hb : Below w.heap.size w w') : tabOk w' := Go.Joins.tab_stays gTab h hb (Nat.le_refl _)
def numeral (n : Int) : ByteArray := ⟨(Lib.itoa n).toArray⟩
theorem implFormatInt_c (w : World) (n : Int) (hn : I64 n) (ht : tabOk w) : Calls Tryz.prog 48 #[.int .i64 n] w (Ret w (.string (numeral n))) := by
  have hcon := Sh.strconv_Itoa n hn.1 hn.2 w ht
  rw [show (⟨(Lib.itoa n).toArray⟩ : ByteArray) = numeral n from rfl] at hcon
  generalize numeral n = s at *
  clear ht hn
  go_enter Tryz.func48, Tryz.ntmps48
  go_wp2_with (go_at_call 63; refine hcon.mono ?_; rintro e w' ⟨rfl, k, os, rfl⟩; have hb := below_gd w k os; generalize Go.Sort.grow (w.drewN k) os = w9 at *)
  go_ret
  exact ⟨rfl, hb⟩
theorem dig_len : ∀ (u : Nat), u < 1000 → (Lib.decDigits u).length ≤ 3 := by
  intro u hu
  rw [Lib.decDigits]
  split
  · simp
  · rw [Lib.decDigits]
    split
    · simp
    · rw [Lib.decDigits]
      split
      · simp
      · omega
theorem numeral_size {n : Int} (h : inR n 0 999 = true) : (numeral n).size ≤ 20 := by
  unfold inR at h
  simp only [Bool.and_eq_true, decide_eq_true_eq] at h
  have h1 := dig_len n.toNat (by omega)
  unfold numeral Lib.itoa
  rw [if_neg (by omega)]
  show (Lib.decDigits n.toNat).toArray.size ≤ 20
  simp only [List.size_toArray]
  omega
theorem dig_step {n : Nat} (h : ¬ n < 10) : Lib.decDigits n = Lib.decDigits (n / 10) ++ [UInt8.ofNat (48 + n % 10)] := by rw [Lib.decDigits, dif_neg h]
theorem dig_small {n : Nat} (h : n < 10) : Lib.decDigits n = [UInt8.ofNat (48 + n)] := by rw [Lib.decDigits, dif_pos h]
def restDig (n : Nat) : List UInt8 := if n = 0 then [] else Lib.decDigits n
theorem rest_step {n : Nat} (h : n ≠ 0) (t : List UInt8) : restDig (n / 10) ++ (UInt8.ofNat (48 + n % 10) :: t) = restDig n ++ t := by
  unfold restDig
  rw [if_neg h]
  by_cases h10 : n < 10
  · rw [if_pos (by omega), dig_small h10, show n % 10 = n by omega]; rfl
  · rw [if_neg (by omega), dig_step h10]; simp
theorem one_byte (d : Nat) (hd : d < 10) (s : ByteArray) : (⟨#[UInt8.ofNat (48 + d)]⟩ : ByteArray) ++ s = ⟨(UInt8.ofNat (48 + d) :: s.data.toList).toArray⟩ := by
  apply ByteArray.ext
  rw [ByteArray.data_append]
  apply Array.toList_inj.1
  simp
section
variable {P : Program}
theorem acalls_int_str {f : Nat} (hok : FnOk P f) {n : Int} {s : ByteArray} (hs : s.size ≤ maxLen) (h : ∀ w, Good P w → I64 n → Calls P f #[.int .i64 n] w (Ret w (.string s))) : ACalls P f [.i n] (.s s) := by
  refine ⟨hok, fun w hg F vals hF hall => ?_⟩
  cases hall with
  | cons h1 h2 =>
    cases h2
    obtain ⟨rfl, hi⟩ := h1
    refine (h w hg ((inR_i64 n).1 hi)).mono ?_
    rintro e w' ⟨rfl, hb⟩
    exact ⟨_, fun _ => [], rfl, hb, fun _ => List.nodup_nil, fun k b hm => by simp at hm, fun k k' b hm => by simp at hm, rfl, hs⟩
end
theorem numeral_le {n : Int} (h : 0 ≤ n ∧ n ≤ 999) : (numeral n).size ≤ 20 := numeral_size (inR_true h.1 h.2)
theorem implFormatInt_a (n : Int) (h : 0 ≤ n ∧ n ≤ 999) : ACalls Tryz.prog 48 [.i n] (.s (numeral n)) := acalls_int_str (by unfold FnOk; kernel_rfl) (by have := numeral_le h; unfold maxLen; omega) fun w hg hn => implFormatInt_c w n hn (hg.tab _ gTab)
open GoE (enc wide)
def implFindFile (s_ : StoreD) (id : Int) : FileD × Bool := (bif decide ((implfileAt s_ id) ≥ (0 : Int)) then ((implcopyFile (nth s_.2.1 (Int.toNat (implfileAt s_ id)))), true) else ((0, 0, false, 0, []), false))
theorem implFindFile_a (s_ : StoreD) (id : Int) : ACalls Tryz.prog 45 [.a [.h s_.1, .h s_.2.1, .i s_.2.2], .i id] (.tup [(true, [.i ((((implFindFile s_ id)).1).1), .i ((((implFindFile s_ id)).1).2.1), .b ((((implFindFile s_ id)).1).2.2.1), .i ((((implFindFile s_ id)).1).2.2.2.1), .o 0 ((((implFindFile s_ id)).1).2.2.2.2)]), (false, [.b (((implFindFile s_ id)).2)])]) := by
  refine acalls_of (tt := tt) tt_ok Tryz.func45 (fn := Tryz.f45) rfl (by unfold FnOk; kernel_rfl) (Nat.le_of_ble_eq_true rfl) fun w0 F0 hG => ?_
  refine awp_seq ?_
  refine rk tt_ok [(2, .p 2 0), (4, .p 4 0), (5, .b false)] [0] [(2, [.h s_.1, .h s_.2.1, .i s_.2.2]), (4, [.i 0, .i 0, .b false, .i 0, .e 4])] [] [] (o0) ?_
  refine awp_seq ?_
  refine awp_seq ?_
  refine rk tt_ok [(6, .i (implfileAt s_ id))] [1] [] [] [(2, .val (.i (implfileAt s_ id)))] (o1 (ob_call (implfileAt_a s_ id))) ?_
  refine awp_seq ?_
  refine rk tt_ok [(11, .b (decide ((implfileAt s_ id) ≥ (0 : Int))))] [] [] [] [] (o0) ?_
  refine ck (decide ((implfileAt s_ id) ≥ (0 : Int))) (fun h1 => ?_) (fun h1 => ?_)
  ·
    have h1p := fat_lt s_ id
    have h1d := of_decide_eq_true h1
    refine awp_seq ?_
    refine wdB 2 1 .sh s_.2.1 (fun hw3 => ?_)
    have hl4 : List.length s_.2.1 ≤ 1073741824 := wide_len (hw3)
    have hx2 : s_.2.1[(Int.toNat (implfileAt s_ id))]? = some (nth s_.2.1 (Int.toNat (implfileAt s_ id))) := nth_get (by omega)
    refine rk tt_ok [(5, .b true)] [2, 5, 6, 11] [(4, [.i ((implcopyFile (nth s_.2.1 (Int.toNat (implfileAt s_ id)))).1), .i ((implcopyFile (nth s_.2.1 (Int.toNat (implfileAt s_ id)))).2.1), .b ((implcopyFile (nth s_.2.1 (Int.toNat (implfileAt s_ id)))).2.2.1), .i ((implcopyFile (nth s_.2.1 (Int.toNat (implfileAt s_ id)))).2.2.2.1), .o 1088 ((implcopyFile (nth s_.2.1 (Int.toNat (implfileAt s_ id)))).2.2.2.2)])] [2, 4] [(3, .row [.i ((nth s_.2.1 (Int.toNat (implfileAt s_ id))).1), .i ((nth s_.2.1 (Int.toNat (implfileAt s_ id))).2.1), .b ((nth s_.2.1 (Int.toNat (implfileAt s_ id))).2.2.1), .i ((nth s_.2.1 (Int.toNat (implfileAt s_ id))).2.2.2.1), .h ((nth s_.2.1 (Int.toNat (implfileAt s_ id))).2.2.2.2)]), (5, .val (.a [.i ((implcopyFile (nth s_.2.1 (Int.toNat (implfileAt s_ id)))).1), .i ((implcopyFile (nth s_.2.1 (Int.toNat (implfileAt s_ id)))).2.1), .b ((implcopyFile (nth s_.2.1 (Int.toNat (implfileAt s_ id)))).2.2.1), .i ((implcopyFile (nth s_.2.1 (Int.toNat (implfileAt s_ id)))).2.2.2.1), .o 0 ((implcopyFile (nth s_.2.1 (Int.toNat (implfileAt s_ id)))).2.2.2.2)]))] (o2 (ob_elem (el_of (i := (implfileAt s_ id)) (by omega) rfl hx2)) (o1 (ob_call (implcopyFile_a (nth s_.2.1 (Int.toNat (implfileAt s_ id))))))) ?_
    refine awp_ret ?_
    exact pret [] (congrArg (fun z => (.tup [(true, [.i z.1.1, .i z.1.2.1, .b z.1.2.2.1, .i z.1.2.2.2.1, .o 0 z.1.2.2.2.2]), (false, [.b z.2])] : AV)) (show implFindFile s_ id = ((implcopyFile (nth s_.2.1 (Int.toNat (implfileAt s_ id)))), true) from bif_t h1 (rfl)).symm)
  ·
    have h1d := of_decide_eq_false h1
    refine awp_skip ?_
    refine awp_seq ?_
    refine rk tt_ok [] [2, 6, 11] [] [2] [] (o0) ?_
    refine opn [(true, 4, 4, true, 384000, 4)] ?_
    refine awp_ret ?_
    exact pret [] (congrArg (fun z => (.tup [(true, [.i z.1.1, .i z.1.2.1, .b z.1.2.2.1, .i z.1.2.2.2.1, .o 0 z.1.2.2.2.2]), (false, [.b z.2])] : AV)) (show implFindFile s_ id = ((0, 0, false, 0, []), false) from bif_f h1 (rfl)).symm)
def implBaseName (f : FileD) : ByteArray := (bif ((implGetAttr f ⟨#[110]⟩).1 == (2 : Int)) then (implGetAttr f ⟨#[110]⟩).2.2 else ⟨#[102, 105, 108, 101]⟩)
theorem implBaseName_a (f : FileD) : ACalls Tryz.prog 46 [.a [.i f.1, .i f.2.1, .b f.2.2.1, .i f.2.2.2.1, .h f.2.2.2.2]] (.s (implBaseName f)) := by
  refine acalls_of (tt := tt) tt_ok Tryz.func46 (fn := Tryz.f46) rfl (by unfold FnOk; kernel_rfl) (Nat.le_of_ble_eq_true rfl) fun w0 F0 hG => ?_
  refine awp_seq ?_
  refine rk tt_ok [(1, .p 1 0), (2, .s ⟨#[]⟩)] [0] [(1, [.i f.1, .i f.2.1, .b f.2.2.1, .i f.2.2.2.1, .h f.2.2.2.2])] [] [] (o0) ?_
  refine awp_seq ?_
  refine awp_seq ?_
  refine rk tt_ok [(3, .p 3 0)] [1] [(3, [.i ((implGetAttr f ⟨#[110]⟩).1), .i ((implGetAttr f ⟨#[110]⟩).2.1), .s ((implGetAttr f ⟨#[110]⟩).2.2)])] [1] [(1, .val (.a [.i ((implGetAttr f ⟨#[110]⟩).1), .i ((implGetAttr f ⟨#[110]⟩).2.1), .s ((implGetAttr f ⟨#[110]⟩).2.2)]))] (o1 (ob_call (implGetAttr_a f ⟨#[110]⟩))) ?_
  refine awp_seq ?_
  refine rk tt_ok [(8, .b ((implGetAttr f ⟨#[110]⟩).1 == (2 : Int)))] [] [] [] [] (o0) ?_
  refine ck ((implGetAttr f ⟨#[110]⟩).1 == (2 : Int)) (fun h1 => ?_) (fun h1 => ?_)
  ·
    have h1d := eq_of_beq h1
    refine awp_seq ?_
    refine rk tt_ok [(2, .s ((implGetAttr f ⟨#[110]⟩).2.2))] [2, 3, 8] [] [3] [] (o0) ?_
    refine awp_ret ?_
    exact pret [] (congrArg (fun z => (.s z : AV)) (show implBaseName f = (implGetAttr f ⟨#[110]⟩).2.2 from bif_t h1 (rfl)).symm)
  ·
    have h1d := ne_of_beq h1
    refine awp_skip ?_
    refine awp_seq ?_
    refine rk tt_ok [(2, .s ⟨#[102, 105, 108, 101]⟩)] [2, 3, 8] [] [3] [] (o0) ?_
    refine awp_ret ?_
    exact pret [] (congrArg (fun z => (.s z : AV)) (show implBaseName f = ⟨#[102, 105, 108, 101]⟩ from bif_f h1 (rfl)).symm)
end Go.Proofs.YtncjdkfjhkpkmaaGreatDoor
namespace Go.Proofs.YtncjdkfjhkpkmaaGreatDoor
open Go.RowKit
theorem attr_size (nm : ByteArray) : ∀ (l : List AttrD) (k : Nat), forL (implGetAttr_f0 nm) implGetAttr_e0 l k () = .brk () ∨ ∃ a, a ∈ l ∧ forL (implGetAttr_f0 nm) implGetAttr_e0 l k () = .ret a.2
  | [], _ => .inl rfl
  | b :: l, k => by
    simp only [forL, implGetAttr_f0]
    cases (b.1.toList == nm.toList) with
    | true => exact .inr ⟨b, List.mem_cons_self .., rfl⟩
    | false =>
      simp only [cond_false]
      rcases attr_size nm l (k + 1) with h | ⟨a, ha, h⟩
      · exact .inl h
      · exact .inr ⟨a, List.mem_cons_of_mem _ ha, h⟩
theorem size_mem {α : Type} [GoD α] {l : List α} {a : α} (h : a ∈ l) : GoD.size a ≤ GoD.size l := by
  obtain ⟨i, hi⟩ := List.getElem?_of_mem h
  exact sz_get hi (Nat.le_refl _)
theorem baseName_size (f : FileD) : (implBaseName f).size ≤ GoD.size f + 4 := by
  unfold implBaseName
  cases h : ((implGetAttr f ⟨#[110]⟩).1 == (2 : Int)) with
  | false => exact Nat.le_add_left 4 (GoD.size f)
  | true =>
    simp only [cond_true]
    unfold implGetAttr
    rcases attr_size ⟨#[110]⟩ f.2.2.2.2 0 with h | ⟨a, ha, h⟩
    · rw [h]; exact Nat.zero_le _
    · rw [h]
      simp only [Out.on]
      have h1 := size_mem ha
      have h2 : GoD.size a = a.1.size + (0 + (0 + a.2.2.2.size)) := rfl
      have h3 : GoD.size f = 0 + (0 + (0 + (0 + GoD.size f.2.2.2.2))) := rfl
      omega
theorem base_size (s : StoreD) (n : Int) : (implBaseName ((implFindFile s n)).1).size ≤ GoD.size s + 4 := by
  have h1 := baseName_size ((implFindFile s n)).1
  have h2 : GoD.size ((implFindFile s n)).1 ≤ GoD.size s := by
    unfold implFindFile
    by_cases h : implfileAt s n ≥ 0
    · rw [decide_eq_true h]
      have hp := fat_lt s n
      have hg := sz_get (nth_get (l := s.2.1) (i := Int.toNat (implfileAt s n)) (by omega)) (Nat.le_refl _)
      exact Nat.le_trans hg (sz_fst (sz_snd (Nat.le_refl _)))
    · rw [decide_eq_false h]; exact Nat.zero_le _
  omega
open GoE (enc wide)
def implEntryNames_f0 (s_ : StoreD) (_ : Nat) (a0 : Int) (s0 : (List ByteArray) × (List ByteArray)) : Rd ((List ByteArray)) ((List ByteArray) × (List ByteArray)) ((List ByteArray)) := (bif (slicesContains_string s0.1 (implBaseName (((implFindFile s_ a0)).1))) then (.next (s0.1 ++ [(implBaseName (((implFindFile s_ a0)).1))], s0.2 ++ [(((implBaseName (((implFindFile s_ a0)).1)) ++ (⟨#[46]⟩ : ByteArray)) ++ (numeral a0))])) else (.next (s0.1 ++ [(implBaseName (((implFindFile s_ a0)).1))], s0.2 ++ [(implBaseName (((implFindFile s_ a0)).1))])))
def implEntryNames_e0 (_ : Nat) (s0 : (List ByteArray) × (List ByteArray)) : (List ByteArray) := s0.2
def implEntryNames (s_ : StoreD) (ids : (List Int)) : (List ByteArray) := (Out.on (forL (implEntryNames_f0 s_) implEntryNames_e0 ids 0 ([], [])) (fun y0 => y0))
theorem implEntryNames_a (s_ : StoreD) (ids : (List Int)) (hi : ∀ x, x ∈ ids → 1 ≤ x ∧ x ≤ 60) (hp : GoD.size s_ ≤ 536870912) : ACalls Tryz.prog 32 [.a [.h s_.1, .h s_.2.1, .i s_.2.2], .h ids] (.o 0 (implEntryNames s_ ids)) := by
  refine acalls_of (tt := tt) tt_ok Tryz.func32 (fn := Tryz.f32) rfl (by unfold FnOk; kernel_rfl) (Nat.le_of_ble_eq_true rfl) fun w0 F0 hG => ?_
  refine awp_seq ?_
  refine rk tt_ok [(2, .p 2 0), (4, .e 0)] [0] [(2, [.h s_.1, .h s_.2.1, .i s_.2.2])] [] [] (o0) ?_
  refine awp_seq ?_
  refine rk tt_ok [(5, .one (.slc (.own true 768) 1 []))] [] [] [] [] (o0) ?_
  refine awp_seq ?_
  refine rk tt_ok [(6, .one (.slc (.own true 832) 1 []))] [] [] [] [] (o0) ?_
  refine awp_seq ?_
  refine awp_seq ?_
  refine rk tt_ok [(14, .h ids), (15, .i (ids.length : Int)), (16, .i 0)] [1] [] [] [(1, .val (.i (ids.length : Int)))] (o1 (ob_eq (av_len ids))) ?_
  refine wdT 14 0 .sh ids (fun hw1 => ?_)
  have hl2 : List.length ids ≤ 1073741824 := wide_len (hw1)
  refine blk (fun (k0 : Nat) (s0 : (List ByteArray) × (List ByteArray)) => [(5, .o 147202 s0.1), (6, .o 147203 s0.2), (16, .i ((k0 : Nat) : Int))]) [5, 6, 16] (fun k0 s0 => []) [] (fun (y0 : (List ByteArray)) => [(6, .o 147353 y0)]) [2, 5, 6, 14, 15, 16] (fun y0 => []) [2] (fun (k0 : Nat) (s0 : (List ByteArray) × (List ByteArray)) => (forL (implEntryNames_f0 s_) implEntryNames_e0 ids 0 ([], [])) = forL (implEntryNames_f0 s_) implEntryNames_e0 (List.drop k0 ids) k0 s0 ∧ List.length s0.1 ≤ k0 ∧ List.length s0.2 ≤ k0) (fun (y0 : (List ByteArray)) => (forL (implEntryNames_f0 s_) implEntryNames_e0 ids 0 ([], [])) = .brk y0) ids.length ([], []) (weak_sf [(768, 147202), (832, 147203)] (by kernel_rfl)) ⟨rfl, (by simp), (by simp)⟩ (fun k0 s0 hk0 hI0 => ?_) (fun k0 s0 hk0 hI0 => ?_) (fun y0 hD0 => ?_)
  ·
    have hA0_0 := hI0.2.1
    have hA0_1 := hI0.2.2
    obtain ⟨a0, hx0⟩ := get_some (l := ids) (i := k0) hk0
    have hi0 := hi _ (List.mem_of_getElem? hx0)
    have hbs := base_size s_ a0
    have hns := numeral_le (n := a0) (by omega)
    refine awp_seq ?_
    refine rk tt_ok [(17, .b true)] [] [] [] [(0, .val (.b true))] (o1 (ob_eq (av_bool (decide_eq_true (p := ((k0 : Nat) : Int) < (ids.length : Int)) (by omega))))) ?_
    refine awp_seq ?_
    refine ckT ?_
    refine awp_skip ?_
    refine awp_seq ?_
    refine awp_block ?_
    refine awp_seq ?_
    refine rk tt_ok [(8, .i a0)] [17] [] [] [(0, .row [.i a0])] (o1 (ob_elem (el_of (i := ((k0 : Nat) : Int)) (by omega) rfl hx0))) ?_
    refine awp_seq ?_
    refine rk tt_ok [(9, .p 9 0)] [] [(9, [.i ((((implFindFile s_ a0)).1).1), .i ((((implFindFile s_ a0)).1).2.1), .b ((((implFindFile s_ a0)).1).2.2.1), .i ((((implFindFile s_ a0)).1).2.2.2.1), .o 1472 ((((implFindFile s_ a0)).1).2.2.2.2)])] [] [(2, .val (.tup [(true, [.i ((((implFindFile s_ a0)).1).1), .i ((((implFindFile s_ a0)).1).2.1), .b ((((implFindFile s_ a0)).1).2.2.1), .i ((((implFindFile s_ a0)).1).2.2.2.1), .o 0 ((((implFindFile s_ a0)).1).2.2.2.2)]), (false, [.b (((implFindFile s_ a0)).2)])]))] (o1 (ob_call (implFindFile_a s_ a0))) ?_
    refine awp_seq ?_
    refine rk tt_ok [(11, .s (implBaseName (((implFindFile s_ a0)).1)))] [9] [] [9] [(1, .val (.s (implBaseName (((implFindFile s_ a0)).1))))] (o1 (ob_call (implBaseName_a (((implFindFile s_ a0)).1)))) ?_
    refine awp_seq ?_
    refine awp_seq ?_
    refine rk tt_ok [(30, .b (slicesContains_string s0.1 (implBaseName (((implFindFile s_ a0)).1))))] [] [] [] [(2, .val (.b (slicesContains_string s0.1 (implBaseName (((implFindFile s_ a0)).1)))))] (o1 (ob_call (slicesContains_string_a s0.1 (implBaseName (((implFindFile s_ a0)).1))))) ?_
    refine ck (slicesContains_string s0.1 (implBaseName (((implFindFile s_ a0)).1))) (fun h3 => ?_) (fun h3 => ?_)
    ·
      refine wdT 6 0 (.own true 147203) s0.2 (fun hw4 => ?_)
      have hl5 : List.length s0.2 ≤ 1073741824 := wide_len (hw4)
      refine rk tt_ok [(6, .one (.slc (.own true 2432) 1 ((eL s0.2) ++ [[.s (((implBaseName (((implFindFile s_ a0)).1)) ++ (⟨#[46]⟩ : ByteArray)) ++ (numeral a0))]])))] [6, 8, 30] [] [] [(4, .val (.s (numeral a0)))] (o2 (ob_slen (n := (ByteArray.size (implBaseName (((implFindFile s_ a0)).1)) + ByteArray.size (⟨#[46]⟩ : ByteArray))) (by have hq0 : ByteArray.size (⟨#[46]⟩ : ByteArray) = 1 := rfl; unfold maxLen; first | omega | (simp only [ByteArray.size_append]; omega))) (o2 (ob_call (implFormatInt_a a0 (by omega))) (o2 (ob_slen (n := (ByteArray.size ((implBaseName (((implFindFile s_ a0)).1)) ++ (⟨#[46]⟩ : ByteArray)) + ByteArray.size (numeral a0))) (by have hq0 : ByteArray.size (⟨#[46]⟩ : ByteArray) = 1 := rfl; unfold maxLen; first | omega | (simp only [ByteArray.size_append]; omega))) (o1 (ob_len (len_of (eL_length s0.2) (eL_length [(((implBaseName (((implFindFile s_ a0)).1)) ++ (⟨#[46]⟩ : ByteArray)) ++ (numeral a0))]) (by first | omega | (simp; omega) | simp))))))) ?_
      refine eqn [(6, .o 2432 (s0.2 ++ [(((implBaseName (((implFindFile s_ a0)).1)) ++ (⟨#[46]⟩ : ByteArray)) ++ (numeral a0))]))] [6] [] [] (by rw [show ((eL s0.2) ++ [[.s (((implBaseName (((implFindFile s_ a0)).1)) ++ (⟨#[46]⟩ : ByteArray)) ++ (numeral a0))]]) = (eL (s0.2 ++ [(((implBaseName (((implFindFile s_ a0)).1)) ++ (⟨#[46]⟩ : ByteArray)) ++ (numeral a0))])) from app_eL (rfl) (rfl)]; first | done | kernel_rfl) ?_
      refine wdT 5 0 (.own true 147202) s0.1 (fun hw6 => ?_)
      have hl7 : List.length s0.1 ≤ 1073741824 := wide_len (hw6)
      refine rk tt_ok [(5, .one (.slc (.own true 2944) 1 ((eL s0.1) ++ [[.s (implBaseName (((implFindFile s_ a0)).1))]])))] [5, 11] [] [] [] (o1 (ob_len (len_of (eL_length s0.1) (eL_length [(implBaseName (((implFindFile s_ a0)).1))]) (by first | omega | (simp; omega) | simp)))) ?_
      refine eqn [(5, .o 2944 (s0.1 ++ [(implBaseName (((implFindFile s_ a0)).1))]))] [5] [] [] (by rw [show ((eL s0.1) ++ [[.s (implBaseName (((implFindFile s_ a0)).1))]]) = (eL (s0.1 ++ [(implBaseName (((implFindFile s_ a0)).1))])) from app_eL (rfl) (rfl)]; first | done | kernel_rfl) ?_
      refine rk tt_ok [(16, .i ((k0 + 1 : Nat) : Int))] [16] [] [] [(0, .val (.i ((k0 + 1 : Nat) : Int)))] (o1 (ob_eq (av_i (wrap_succ k0 (by omega))))) ?_
      exact Exists.intro (s0.1 ++ [(implBaseName (((implFindFile s_ a0)).1))], s0.2 ++ [(((implBaseName (((implFindFile s_ a0)).1)) ++ (⟨#[46]⟩ : ByteArray)) ++ (numeral a0))]) (And.intro (weak_sf [(2944, 147202), (2432, 147203)] (by kernel_rfl)) ⟨forL_next hx0 (bif_t h3 (rfl)) hI0.1, by first | omega | (simp; omega) | simp, by first | omega | (simp; omega) | simp⟩)
    ·
      refine wdT 6 0 (.own true 147203) s0.2 (fun hw8 => ?_)
      have hl9 : List.length s0.2 ≤ 1073741824 := wide_len (hw8)
      refine rk tt_ok [(6, .one (.slc (.own true 2688) 1 ((eL s0.2) ++ [[.s (implBaseName (((implFindFile s_ a0)).1))]])))] [6, 8, 30] [] [] [] (o1 (ob_len (len_of (eL_length s0.2) (eL_length [(implBaseName (((implFindFile s_ a0)).1))]) (by first | omega | (simp; omega) | simp)))) ?_
      refine eqn [(6, .o 2688 (s0.2 ++ [(implBaseName (((implFindFile s_ a0)).1))]))] [6] [] [] (by rw [show ((eL s0.2) ++ [[.s (implBaseName (((implFindFile s_ a0)).1))]]) = (eL (s0.2 ++ [(implBaseName (((implFindFile s_ a0)).1))])) from app_eL (rfl) (rfl)]; first | done | kernel_rfl) ?_
      refine wdT 5 0 (.own true 147202) s0.1 (fun hw10 => ?_)
      have hl11 : List.length s0.1 ≤ 1073741824 := wide_len (hw10)
      refine rk tt_ok [(5, .one (.slc (.own true 2944) 1 ((eL s0.1) ++ [[.s (implBaseName (((implFindFile s_ a0)).1))]])))] [5, 11] [] [] [] (o1 (ob_len (len_of (eL_length s0.1) (eL_length [(implBaseName (((implFindFile s_ a0)).1))]) (by first | omega | (simp; omega) | simp)))) ?_
      refine eqn [(5, .o 2944 (s0.1 ++ [(implBaseName (((implFindFile s_ a0)).1))]))] [5] [] [] (by rw [show ((eL s0.1) ++ [[.s (implBaseName (((implFindFile s_ a0)).1))]]) = (eL (s0.1 ++ [(implBaseName (((implFindFile s_ a0)).1))])) from app_eL (rfl) (rfl)]; first | done | kernel_rfl) ?_
      refine rk tt_ok [(16, .i ((k0 + 1 : Nat) : Int))] [16] [] [] [(0, .val (.i ((k0 + 1 : Nat) : Int)))] (o1 (ob_eq (av_i (wrap_succ k0 (by omega))))) ?_
      exact Exists.intro (s0.1 ++ [(implBaseName (((implFindFile s_ a0)).1))], s0.2 ++ [(implBaseName (((implFindFile s_ a0)).1))]) (And.intro (weak_sf [(2944, 147202), (2688, 147203)] (by kernel_rfl)) ⟨forL_next hx0 (bif_f h3 (rfl)) hI0.1, by first | omega | (simp; omega) | simp, by first | omega | (simp; omega) | simp⟩)
  ·
    have hA0_0 := hI0.2.1
    have hA0_1 := hI0.2.2
    refine awp_seq ?_
    refine rk tt_ok [(17, .b false)] [] [] [] [(0, .val (.b false))] (o1 (ob_eq (av_bool (decide_eq_false (p := ((k0 : Nat) : Int) < (ids.length : Int)) (by omega))))) ?_
    refine awp_seq ?_
    refine ckF ?_
    refine awp_exit ?_
    exact Exists.intro s0.2 (And.intro (weak_sf [(147203, 147353)] (by kernel_rfl)) (forL_end hk0 (rfl) hI0.1))
  ·
    refine awp_seq ?_
    refine rk tt_ok [(4, .o 147353 y0)] [4, 6] [] [] [] (o0) ?_
    refine awp_ret ?_
    exact pret [] (congrArg (fun z => (.o 0 z : AV)) (show implEntryNames s_ ids = y0 from on_b hD0 (rfl)).symm)
end Go.Proofs.YtncjdkfjhkpkmaaGreatDoor
namespace Go.Proofs.YtncjdkfjhkpkmaaGreatDoor
open Go.RowKit
abbrev baseOf (s : StoreD) (x : Int) : ByteArray := implBaseName (((implFindFile s x)).1)
abbrev longOf (s : StoreD) (x : Int) : ByteArray := (baseOf s x ++ (⟨#[46]⟩ : ByteArray)) ++ numeral x
theorem contains_cons (x v : ByteArray) (l : List ByteArray) : slicesContains_string (x :: l) v = ((x.toList == v.toList) || slicesContains_string l v) := by
  have h : (x.toList == v.toList) = decide (x = v) := toList_inj
  rw [h, Bool.eq_iff_iff, contains_iff, Bool.or_eq_true, contains_iff, decide_eq_true_eq, List.mem_cons]
  exact or_congr eq_comm Iff.rfl
theorem entry_sizes (s : StoreD) : ∀ (l : List Int) (k : Nat) (b t : List ByteArray), (∀ x, x ∈ l → 1 ≤ x ∧ x ≤ 60) → (∀ x, x ∈ t → x.size ≤ GoD.size s + 25) → ∃ r, forL (implEntryNames_f0 s) implEntryNames_e0 l k (b, t) = .brk r ∧ r.length = t.length + l.length ∧ ∀ x, x ∈ r → x.size ≤ GoD.size s + 25
  | [], k, b, t, _, h => ⟨t, rfl, rfl, h⟩
  | a :: l, k, b, t, hi, h => by
    have ha := hi a (List.mem_cons_self ..)
    have hb := base_size s a
    have hn := numeral_le (n := a) (by omega)
    have hl : (longOf s a).size ≤ GoD.size s + 25 := by
      have h1 : ByteArray.size (⟨#[46]⟩ : ByteArray) = 1 := rfl
      show ((baseOf s a ++ (⟨#[46]⟩ : ByteArray)) ++ numeral a).size ≤ _
      rw [ByteArray.size_append, ByteArray.size_append]
      have h2 : (baseOf s a).size ≤ GoD.size s + 4 := hb
      omega
    have hi' : ∀ x, x ∈ l → 1 ≤ x ∧ x ≤ 60 := fun x hx => hi x (List.mem_cons_of_mem _ hx)
    simp only [forL, implEntryNames_f0]
    cases slicesContains_string b (implBaseName (((implFindFile s a)).1)) with
    | true =>
      simp only [cond_true]
      obtain ⟨r, h1, h2, h3⟩ := entry_sizes s l (k + 1) (b ++ [baseOf s a]) (t ++ [longOf s a]) hi' fun x hx => by
        rcases List.mem_append.1 hx with hx | hx
        · exact h x hx
        · obtain rfl := List.mem_singleton.1 hx; exact hl
      refine ⟨r, h1, ?_, h3⟩
      rw [h2, List.length_append, List.length_singleton, List.length_cons]; omega
    | false =>
      simp only [cond_false]
      obtain ⟨r, h1, h2, h3⟩ := entry_sizes s l (k + 1) (b ++ [baseOf s a]) (t ++ [baseOf s a]) hi' fun x hx => by
        rcases List.mem_append.1 hx with hx | hx
        · exact h x hx
        · obtain rfl := List.mem_singleton.1 hx
          have h2 : (baseOf s a).size ≤ GoD.size s + 4 := hb
          omega
      refine ⟨r, h1, ?_, h3⟩
      rw [h2, List.length_append, List.length_singleton, List.length_cons]; omega
theorem entry_ok {s : StoreD} {ids : List Int} (hi : ∀ x, x ∈ ids → 1 ≤ x ∧ x ≤ 60) : (implEntryNames s ids).length = ids.length ∧ ∀ x, x ∈ implEntryNames s ids → x.size ≤ GoD.size s + 25 := by
  unfold implEntryNames
  obtain ⟨r, h1, h2, h3⟩ := entry_sizes s ids 0 [] [] hi fun x hx => by simp at hx
  rw [h1]
  exact ⟨by simpa [Out.on] using h2, h3⟩
/-! ### what a user sees is no larger than the store -/
theorem size_app {α : Type} [GoD α] (l m : List α) : GoD.size (l ++ m) = GoD.size l + GoD.size m := by
  simp only [size_list, List.length_append, List.map_append, List.sum_append]
  omega
theorem size_one {α : Type} [GoD α] (a : α) : GoD.size [a] = 1 + GoD.size a := by simp [size_list]
theorem size_set {α : Type} [GoD α] [Inhabited α] {l : List α} {i : Nat} (y : α) (hy : GoD.size y ≤ GoD.size (nth l i)) : GoD.size (l.set i y) ≤ GoD.size l := by
  by_cases hi : i < l.length
  · have h2 : l = l.take i ++ ([nth l i] ++ l.drop (i + 1)) := by
      have := drop_at (nth_get hi)
      rw [List.singleton_append, ← this, List.take_append_drop]
    have h1 : l.set i y = l.take i ++ ([y] ++ l.drop (i + 1)) := by
      rw [List.set_eq_take_append_cons_drop, if_pos hi]; rfl
    rw [h1]
    conv => rhs; rw [h2]
    rw [size_app, size_app, size_app, size_app, size_one, size_one]
    omega
  · rw [List.set_eq_of_length_le (by omega)]
    exact Nat.le_refl _
theorem visible_f0 (u : Int) : ∀ (l : List FileD) (k : Nat) (t : List FileD), ∃ r, forL (implVisibleStore_f0 u) implVisibleStore_e0 l k t = .brk r ∧ GoD.size r ≤ GoD.size t + GoD.size l
  | [], k, t => ⟨t, rfl, Nat.le_add_right _ _⟩
  | a :: l, k, t => by
    have e : GoD.size (a :: l) = GoD.size [a] + GoD.size l := size_app [a] l
    simp only [forL, implVisibleStore_f0]
    cases implCanRead a u with
    | true =>
      simp only [cond_true]
      obtain ⟨r, h1, h2⟩ := visible_f0 u l (k + 1) (t ++ [implcopyFile a])
      refine ⟨r, h1, ?_⟩
      rw [size_app, show implcopyFile a = a from rfl] at h2
      omega
    | false =>
      simp only [cond_false]
      obtain ⟨r, h1, h2⟩ := visible_f0 u l (k + 1) t
      exact ⟨r, h1, by omega⟩
theorem visible_f1 (s : StoreD) : ∀ (l : List FileD) (k : Nat) (t : List FileD), ∃ r, forL (implVisibleStore_f1 s) implVisibleStore_e1 l k t = .brk r ∧ GoD.size r ≤ GoD.size t
  | [], k, t => ⟨t, rfl, Nat.le_refl _⟩
  | a :: l, k, t => by
    simp only [forL, implVisibleStore_f1]
    cases decide ((implfileAt (s.1, t, s.2.2) ((nth t k).2.2.2.1)) < (0 : Int)) with
    | true =>
      simp only [cond_true]
      obtain ⟨r, h1, h2⟩ := visible_f1 s l (k + 1) (List.set t k ((nth t k).1, (nth t k).2.1, (nth t k).2.2.1, 0, (nth t k).2.2.2.2))
      exact ⟨r, h1, Nat.le_trans h2 (size_set _ (Nat.le_refl _))⟩
    | false =>
      simp only [cond_false]
      exact visible_f1 s l (k + 1) t
theorem visible_size (s : StoreD) (u : Int) : GoD.size (implVisibleStore s u) ≤ GoD.size s := by
  unfold implVisibleStore
  obtain ⟨r, h1, h2⟩ := visible_f0 u s.2.1 0 []
  rw [h1]
  simp only [Out.on]
  obtain ⟨r2, h3, h4⟩ := visible_f1 s r 0 r
  rw [h3]
  have e : GoD.size s = GoD.size s.1 + (GoD.size s.2.1 + 0) := rfl
  have e2 : GoD.size ((s.1, r2, s.2.2) : StoreD) = GoD.size s.1 + (GoD.size r2 + 0) := rfl
  have e3 : GoD.size ([] : List FileD) = 0 := rfl
  show GoD.size ((s.1, r2, s.2.2) : StoreD) ≤ _
  omega
theorem line_ok (s : StoreD) (d : List DirD) (u : Int) (n : ByteArray) : (implEntryNames (implVisibleStore s u) (implListDir s d u n)).length ≤ 12 ∧ ∀ (k : Nat) (x : ByteArray), (implEntryNames (implVisibleStore s u) (implListDir s d u n))[k]? = some x → x.size ≤ GoD.size s + 25 := by
  obtain ⟨h1, h2⟩ := entry_ok (s := implVisibleStore s u) (listDir_ids s d u n)
  have h3 := listDir_short s d u n
  have h4 := visible_size s u
  exact ⟨by omega, fun k x hx => by have := h2 x (List.mem_of_getElem? hx); omega⟩
theorem dir_name {d : List DirD} {k : Nat} {a : DirD} (h : d[k]? = some a) : a.1.size ≤ GoD.size d := by
  have h1 := size_mem (List.mem_of_getElem? h)
  have h2 : GoD.size a = a.1.size + GoD.size a.2 := rfl
  omega
open GoE (enc wide)
def implviewLine_f0 (_ : Nat) (a0 : ByteArray) (s0 : ByteArray) : Rd (ByteArray) (ByteArray) (ByteArray) := (.next (s0 ++ ((⟨#[32]⟩ : ByteArray) ++ a0)))
def implviewLine_e0 (_ : Nat) (s0 : ByteArray) : ByteArray := s0
def implviewLine (s_ : StoreD) (d : (List DirD)) (user : Int) (name : ByteArray) : ByteArray := (Out.on (forL implviewLine_f0 implviewLine_e0 (implEntryNames (implVisibleStore s_ user) (implListDir s_ d user name)) 0 name) (fun y0 => y0))
theorem implviewLine_a (s_ : StoreD) (d : (List DirD)) (user : Int) (name : ByteArray) (hp : GoD.size s_ ≤ 268435456) (hn : name.size ≤ 268435456) : ACalls Tryz.prog 22 [.a [.h s_.1, .h s_.2.1, .i s_.2.2], .h d, .i user, .s name] (.s (implviewLine s_ d user name)) := by
  refine acalls_of (tt := tt) tt_ok Tryz.func22 (fn := Tryz.f22) rfl (by unfold FnOk; kernel_rfl) (Nat.le_of_ble_eq_true rfl) fun w0 F0 hG => ?_
  refine awp_seq ?_
  refine rk tt_ok [(4, .p 4 0), (8, .s ⟨#[]⟩)] [0] [(4, [.h s_.1, .h s_.2.1, .i s_.2.2])] [] [] (o0) ?_
  refine awp_seq ?_
  refine rk tt_ok [(9, .s name)] [] [] [] [] (o0) ?_
  refine awp_seq ?_
  refine awp_seq ?_
  refine rd' tt_ok tt_mx [(21, .o 1344 (implEntryNames (implVisibleStore s_ user) (implListDir s_ d user name))), (22, .i ((implEntryNames (implVisibleStore s_ user) (implListDir s_ d user name)).length : Int)), (23, .i 0)] [1, 2, 3, 4] [] [4] [(2, .val (.a [.o 0 ((implVisibleStore s_ user).1), .o 1 ((implVisibleStore s_ user).2.1), .i ((implVisibleStore s_ user).2.2)])), (7, .val (.o 0 (implListDir s_ d user name))), (8, .val (.o 0 (implEntryNames (implVisibleStore s_ user) (implListDir s_ d user name)))), (9, .val (.i ((implEntryNames (implVisibleStore s_ user) (implListDir s_ d user name)).length : Int)))] (o2 (ob_call (implVisibleStore_a s_ user)) (o2 (ob_call (implListDir_a s_ d user name)) (o2 (ob_call (implEntryNames_a (implVisibleStore s_ user) (implListDir s_ d user name) (listDir_ids s_ d user name) (by have hvs := visible_size s_ user; omega))) (o1 (ob_eq (av_len (implEntryNames (implVisibleStore s_ user) (implListDir s_ d user name)))))))) ?_
  refine wdT 21 0 (.own true 1344) (implEntryNames (implVisibleStore s_ user) (implListDir s_ d user name)) (fun hw1 => ?_)
  have hl2 : List.length (implEntryNames (implVisibleStore s_ user) (implListDir s_ d user name)) ≤ 1073741824 := wide_len (hw1)
  refine blk (fun (k0 : Nat) (s0 : ByteArray) => [(9, .s s0), (23, .i ((k0 : Nat) : Int))]) [9, 23] (fun k0 s0 => []) [] (fun (y0 : ByteArray) => [(9, .s y0)]) [9, 21, 22, 23] (fun y0 => []) [] (fun (k0 : Nat) (s0 : ByteArray) => (forL implviewLine_f0 implviewLine_e0 (implEntryNames (implVisibleStore s_ user) (implListDir s_ d user name)) 0 name) = forL implviewLine_f0 implviewLine_e0 (List.drop k0 (implEntryNames (implVisibleStore s_ user) (implListDir s_ d user name))) k0 s0 ∧ ByteArray.size s0 ≤ name.size + 300000000 * k0) (fun (y0 : ByteArray) => (forL implviewLine_f0 implviewLine_e0 (implEntryNames (implVisibleStore s_ user) (implListDir s_ d user name)) 0 name) = .brk y0) ((implEntryNames (implVisibleStore s_ user) (implListDir s_ d user name)).length) name (weak_fit (by kernel_rfl)) ⟨rfl, (by omega)⟩ (fun k0 s0 hk0 hI0 => ?_) (fun k0 s0 hk0 hI0 => ?_) (fun y0 hD0 => ?_)
  ·
    have hA0_0 := hI0.2
    obtain ⟨a0, hx0⟩ := get_some (l := implEntryNames (implVisibleStore s_ user) (implListDir s_ d user name)) (i := k0) hk0
    have hlo := line_ok s_ d user name
    have hxs := hlo.2 _ _ hx0
    have hll := hlo.1
    refine awp_seq ?_
    refine rk tt_ok [(24, .b true)] [] [] [] [(0, .val (.b true))] (o1 (ob_eq (av_bool (decide_eq_true (p := ((k0 : Nat) : Int) < ((implEntryNames (implVisibleStore s_ user) (implListDir s_ d user name)).length : Int)) (by omega))))) ?_
    refine awp_seq ?_
    refine ckT ?_
    refine awp_skip ?_
    refine awp_seq ?_
    refine awp_block ?_
    refine awp_seq ?_
    refine rk tt_ok [(11, .s a0)] [24] [] [] [(0, .rowE [.s a0])] (o1 (ob_elem (el_of (i := ((k0 : Nat) : Int)) (by omega) rfl hx0))) ?_
    refine rk tt_ok [(9, .s (s0 ++ ((⟨#[32]⟩ : ByteArray) ++ a0)))] [9, 11] [] [] [] (o2 (ob_slen (n := (ByteArray.size (⟨#[32]⟩ : ByteArray) + ByteArray.size a0)) (by have hq0 : ByteArray.size (⟨#[32]⟩ : ByteArray) = 1 := rfl; unfold maxLen; first | omega | (simp only [ByteArray.size_append]; omega))) (o1 (ob_slen (n := (ByteArray.size s0 + ByteArray.size ((⟨#[32]⟩ : ByteArray) ++ a0))) (by have hq0 : ByteArray.size (⟨#[32]⟩ : ByteArray) = 1 := rfl; unfold maxLen; first | omega | (simp only [ByteArray.size_append]; omega))))) ?_
    refine rk tt_ok [(23, .i ((k0 + 1 : Nat) : Int))] [23] [] [] [(0, .val (.i ((k0 + 1 : Nat) : Int)))] (o1 (ob_eq (av_i (wrap_succ k0 (by omega))))) ?_
    exact Exists.intro (s0 ++ ((⟨#[32]⟩ : ByteArray) ++ a0)) (And.intro (weak_fit (by kernel_rfl)) ⟨forL_next hx0 (rfl) hI0.1, (by have hq : ByteArray.size (⟨#[32]⟩ : ByteArray) = 1 := rfl; simp only [ByteArray.size_append]; omega)⟩)
  ·
    have hA0_0 := hI0.2
    refine awp_seq ?_
    refine rk tt_ok [(24, .b false)] [] [] [] [(0, .val (.b false))] (o1 (ob_eq (av_bool (decide_eq_false (p := ((k0 : Nat) : Int) < ((implEntryNames (implVisibleStore s_ user) (implListDir s_ d user name)).length : Int)) (by omega))))) ?_
    refine awp_seq ?_
    refine ckF ?_
    refine awp_exit ?_
    exact Exists.intro s0 (And.intro (weak_fit (by kernel_rfl)) (forL_end hk0 (rfl) hI0.1))
  ·
    refine awp_seq ?_
    refine rk tt_ok [(8, .s y0)] [8, 9] [] [] [] (o0) ?_
    refine awp_ret ?_
    exact pret [] (congrArg (fun z => (.s z : AV)) (show implviewLine s_ d user name = y0 from on_b hD0 (rfl)).symm)
def implRenderView_f0 (s_ : StoreD) (d : (List DirD)) (user : Int) (_ : Nat) (a0 : DirD) (s0 : (List ByteArray)) : Rd ((List ByteArray)) ((List ByteArray)) ((List ByteArray)) := (.next (s0 ++ [(implviewLine s_ d user a0.1)]))
def implRenderView_e0 (_ : Nat) (s0 : (List ByteArray)) : (List ByteArray) := s0
def implRenderView (s_ : StoreD) (d : (List DirD)) (user : Int) : (List ByteArray) := (bif (!(((implEvaluateForUser s_ d user)).2)) then [] else (Out.on (forL (implRenderView_f0 s_ d user) implRenderView_e0 d 0 []) (fun y0 => y0)))
theorem implRenderView_a (s_ : StoreD) (d : (List DirD)) (user : Int) (hp : GoD.size s_ ≤ 268435456) (hd : GoD.size d ≤ 268435456) : ACalls Tryz.prog 12 [.a [.h s_.1, .h s_.2.1, .i s_.2.2], .h d, .i user] (.o 0 (implRenderView s_ d user)) := by
  refine acalls_of (tt := tt) tt_ok Tryz.func12 (fn := Tryz.f12) rfl (by unfold FnOk; kernel_rfl) (Nat.le_of_ble_eq_true rfl) fun w0 F0 hG => ?_
  refine awp_seq ?_
  refine rk tt_ok [(3, .p 3 0), (6, .e 0)] [0] [(3, [.h s_.1, .h s_.2.1, .i s_.2.2])] [] [] (o0) ?_
  refine awp_seq ?_
  refine awp_seq ?_
  refine rk tt_ok [(8, .b (((implEvaluateForUser s_ d user)).2))] [] [] [] [(3, .val (.tup [(false, [.o 0 (((implEvaluateForUser s_ d user)).1)]), (false, [.b (((implEvaluateForUser s_ d user)).2)])]))] (o1 (ob_call (implEvaluateForUser_a s_ d user))) ?_
  refine awp_seq ?_
  refine rk tt_ok [(20, .b (!(((implEvaluateForUser s_ d user)).2)))] [8] [] [] [] (o0) ?_
  refine ck (!(((implEvaluateForUser s_ d user)).2)) (fun h1 => ?_) (fun h1 => ?_)
  ·
    have h1n : (((implEvaluateForUser s_ d user)).2) = false := bnot_t h1
    refine awp_seq ?_
    refine rk tt_ok [] [20] [] [] [] (o0) ?_
    refine opn [(false, 6, 0, true, 384000, 1)] ?_
    refine awp_ret ?_
    exact pret [] (congrArg (fun z => (.o 0 z : AV)) (show implRenderView s_ d user = [] from bif_t h1 (rfl)).symm)
  ·
    have h1n : (((implEvaluateForUser s_ d user)).2) = true := bnot_f h1
    refine awp_skip ?_
    refine awp_seq ?_
    refine rk tt_ok [(9, .one (.slc (.own true 1344) 1 []))] [20] [] [] [] (o0) ?_
    refine awp_seq ?_
    refine awp_seq ?_
    refine rk tt_ok [(22, .h d), (23, .i (d.length : Int)), (24, .i 0)] [] [] [] [(1, .val (.i (d.length : Int)))] (o1 (ob_eq (av_len d))) ?_
    refine wdT 1 0 .sh d (fun hw2 => ?_)
    have hl3 : List.length d ≤ 1073741824 := wide_len (hw2)
    refine blk (fun (k0 : Nat) (s0 : (List ByteArray)) => [(9, .o 147204 s0), (24, .i ((k0 : Nat) : Int))]) [9, 24] (fun k0 s0 => []) [] (fun (y0 : (List ByteArray)) => [(9, .o 147354 y0)]) [1, 2, 3, 9, 22, 23, 24] (fun y0 => []) [3] (fun (k0 : Nat) (s0 : (List ByteArray)) => (forL (implRenderView_f0 s_ d user) implRenderView_e0 d 0 []) = forL (implRenderView_f0 s_ d user) implRenderView_e0 (List.drop k0 d) k0 s0 ∧ List.length s0 ≤ k0) (fun (y0 : (List ByteArray)) => (forL (implRenderView_f0 s_ d user) implRenderView_e0 d 0 []) = .brk y0) d.length [] (weak_sf [(1344, 147204)] (by kernel_rfl)) ⟨rfl, (by simp)⟩ (fun k0 s0 hk0 hI0 => ?_) (fun k0 s0 hk0 hI0 => ?_) (fun y0 hD0 => ?_)
    ·
      have hA0_0 := hI0.2
      obtain ⟨a0, hx0⟩ := get_some (l := d) (i := k0) hk0
      refine awp_seq ?_
      refine rk tt_ok [(25, .b true)] [] [] [] [(0, .val (.b true))] (o1 (ob_eq (av_bool (decide_eq_true (p := ((k0 : Nat) : Int) < (d.length : Int)) (by omega))))) ?_
      refine awp_seq ?_
      refine ckT ?_
      refine awp_skip ?_
      refine awp_seq ?_
      refine awp_block ?_
      refine awp_seq ?_
      refine rk tt_ok [(11, .p 11 0)] [25] [(11, [.s a0.1, .h a0.2])] [] [(0, .row [.s a0.1, .h a0.2])] (o1 (ob_elem (el_of (i := ((k0 : Nat) : Int)) (by omega) rfl hx0))) ?_
      refine wdT 9 0 (.own true 147204) s0 (fun hw4 => ?_)
      have hl5 : List.length s0 ≤ 1073741824 := wide_len (hw4)
      refine rk tt_ok [(9, .one (.slc (.own true 2304) 1 ((eL s0) ++ [[.s (implviewLine s_ d user a0.1)]])))] [9, 11] [] [11] [(6, .val (.s (implviewLine s_ d user a0.1)))] (o2 (ob_call (implviewLine_a s_ d user a0.1 (by omega) (by have hz := dir_name hx0; omega))) (o1 (ob_len (len_of (eL_length s0) (eL_length [(implviewLine s_ d user a0.1)]) (by first | omega | (simp; omega) | simp))))) ?_
      refine eqn [(9, .o 2304 (s0 ++ [(implviewLine s_ d user a0.1)]))] [9] [] [] (by rw [show ((eL s0) ++ [[.s (implviewLine s_ d user a0.1)]]) = (eL (s0 ++ [(implviewLine s_ d user a0.1)])) from app_eL (rfl) (rfl)]; first | done | kernel_rfl) ?_
      refine rk tt_ok [(24, .i ((k0 + 1 : Nat) : Int))] [24] [] [] [(0, .val (.i ((k0 + 1 : Nat) : Int)))] (o1 (ob_eq (av_i (wrap_succ k0 (by omega))))) ?_
      exact Exists.intro (s0 ++ [(implviewLine s_ d user a0.1)]) (And.intro (weak_sf [(2304, 147204)] (by kernel_rfl)) ⟨forL_next hx0 (rfl) hI0.1, by first | omega | (simp; omega) | simp⟩)
    ·
      have hA0_0 := hI0.2
      refine awp_seq ?_
      refine rk tt_ok [(25, .b false)] [] [] [] [(0, .val (.b false))] (o1 (ob_eq (av_bool (decide_eq_false (p := ((k0 : Nat) : Int) < (d.length : Int)) (by omega))))) ?_
      refine awp_seq ?_
      refine ckF ?_
      refine awp_exit ?_
      exact Exists.intro s0 (And.intro (weak_sf [(147204, 147354)] (by kernel_rfl)) (forL_end hk0 (rfl) hI0.1))
    ·
      refine awp_seq ?_
      refine rk tt_ok [(6, .o 147354 y0)] [6, 9] [] [] [] (o0) ?_
      refine awp_ret ?_
      exact pret [] (congrArg (fun z => (.o 0 z : AV)) (show implRenderView s_ d user = y0 from bif_f h1 (on_b hD0 (rfl))).symm)
end Go.Proofs.YtncjdkfjhkpkmaaGreatDoor
namespace Go.Proofs.YtncjdkfjhkpkmaaGreatDoor
open Go.RowKit
open GoD (rd own)
theorem inR_u8 (a : UInt8) : InR .u8 (a.toNat : Int) := by
  have h : a.toNat < 256 := a.toNat_lt
  constructor <;> simp [IntKind.min, IntKind.max, IntKind.bits, IntKind.signed] <;> omega
instance instGoEU8 : GoE UInt8 where
  enc a := [.int .u8 (a.toNat : Int)]
  enc_len _ := rfl
  n_pos := Nat.zero_lt_one
  wide _ := True
  wide_size _ := trivial
  vc_wide _ := trivial
  rd_vc {w cs a} h _ := by rw [show cs = _ from h]; exact .cons (.int (inR_u8 a)) .nil
  vc_rd h := by
    cases h with
    | cons h1 h2 => cases h2; cases h1; rfl
  own_oc h _ := by obtain ⟨rfl, h⟩ := h; rw [h]; exact OC.cons (L1 := []) (L2 := []) (.int (inR_u8 _)) .nil
  oc_own h _ := by
    cases h with
    | cons h1 h2 => cases h2; cases h1; exact ⟨rfl, rfl⟩
open GoE (enc wide)
def specl01New_f0 (k0 : Nat) (a0 : UInt8) (s0 : Int) : Rd (Nat × Int) (Int) (Int) := (bif decide (((k0 : Nat) : Int) < (4000 : Int)) then (.next (andI .i64 (IntKind.i64.wrap (IntKind.i64.wrap (IntKind.i64.wrap (s0 * 131) + IntKind.i64.wrap (UInt8.toNat a0 : Int)) + 7)) 1073741823)) else (.brk s0))
def specl01New_e0 (_ : Nat) (s0 : Int) : Int := s0
def specl01New (code : (List UInt8)) : Nat × Int := (Out.on (forL specl01New_f0 specl01New_e0 code 0 (IntKind.i64.wrap (94701 + (code.length : Int)))) (fun y0 => (0, y0)))
set_option maxRecDepth 30000 in
theorem specl01New_a (code : (List UInt8)) : ANew Tryz.prog 14 [.h code] [.h code, .i (((specl01New code).1 : Nat) : Int), .i ((specl01New code).2)] := by
  refine anew_of Tryz.func14 (fn := Tryz.f14) rfl (by unfold FnOk; kernel_rfl) (Nat.le_of_ble_eq_true rfl) rfl fun w0 F0 hG => ?_
  refine awp_seq ?_
  refine rk tt_ok [] [] [] [] [] (o0) ?_
  refine awp_seq ?_
  refine rk tt_ok [(3, .i (IntKind.i64.wrap (94701 + (code.length : Int))))] [] [] [] [(1, .val (.i (code.length : Int)))] (o1 (ob_eq (av_len code))) ?_
  refine awp_seq ?_
  refine awp_seq ?_
  refine rk tt_ok [(4, .i 0)] [] [] [] [] (o0) ?_
  refine wdT 0 0 .sh code (fun hw1 => ?_)
  have hl2 : List.length code ≤ 1073741824 := wide_len (hw1)
  refine blk (fun (k0 : Nat) (s0 : Int) => [(3, .i s0), (4, .i ((k0 : Nat) : Int))]) [3, 4] (fun k0 s0 => []) [] (fun (y0 : Int) => [(3, .i y0)]) [3, 4] (fun y0 => []) [] (fun (k0 : Nat) (s0 : Int) => (forL specl01New_f0 specl01New_e0 code 0 (IntKind.i64.wrap (94701 + (code.length : Int)))) = forL specl01New_f0 specl01New_e0 (List.drop k0 code) k0 s0) (fun (y0 : Int) => (forL specl01New_f0 specl01New_e0 code 0 (IntKind.i64.wrap (94701 + (code.length : Int)))) = .brk y0) code.length (IntKind.i64.wrap (94701 + (code.length : Int))) (weak_fit (by kernel_rfl)) rfl (fun k0 s0 hk0 hI0 => ?_) (fun k0 s0 hk0 hI0 => ?_) (fun y0 hD0 => ?_)
  ·
    obtain ⟨a0, hx0⟩ := get_some (l := code) (i := k0) hk0
    refine awp_seq ?_
    refine awp_seq ?_
    refine rk tt_ok [(15, .b (decide (((k0 : Nat) : Int) < (4000 : Int))))] [] [] [] [(2, .val (.i (code.length : Int))), (3, .val (.b true))] (o2 (ob_eq (av_len code)) (o1 (ob_eq (av_bool (decide_eq_true (p := ((k0 : Nat) : Int) < (code.length : Int)) (by omega)))))) ?_
    refine ck (decide (((k0 : Nat) : Int) < (4000 : Int))) (fun h3 => ?_) (fun h3 => ?_)
    ·
      have h3d := of_decide_eq_true h3
      refine awp_skip ?_
      refine awp_seq ?_
      refine awp_block ?_
      refine rk tt_ok [(3, .i (andI .i64 (IntKind.i64.wrap (IntKind.i64.wrap (IntKind.i64.wrap (s0 * 131) + IntKind.i64.wrap (UInt8.toNat a0 : Int)) + 7)) 1073741823))] [3, 15] [] [] [(4, .row [.int .u8 (UInt8.toNat a0 : Int)])] (o1 (ob_elem (el_of (i := ((k0 : Nat) : Int)) (by omega) rfl hx0))) ?_
      refine rk tt_ok [(4, .i ((k0 + 1 : Nat) : Int))] [4] [] [] [(1, .val (.i ((k0 + 1 : Nat) : Int)))] (o1 (ob_eq (av_i (wrap_succ k0 (by omega))))) ?_
      exact Exists.intro (andI .i64 (IntKind.i64.wrap (IntKind.i64.wrap (IntKind.i64.wrap (s0 * 131) + IntKind.i64.wrap (UInt8.toNat a0 : Int)) + 7)) 1073741823) (And.intro (weak_fit (by kernel_rfl)) (forL_next hx0 (bif_t h3 (rfl)) hI0))
    ·
      have h3d := of_decide_eq_false h3
      refine awp_exit ?_
      exact Exists.intro s0 (And.intro (weak_fit (by kernel_rfl)) (forL_brk hx0 (bif_f h3 (rfl)) hI0))
  ·
    refine awp_seq ?_
    refine awp_seq ?_
    refine rk tt_ok [(15, .b false)] [] [] [] [(2, .val (.i (code.length : Int))), (3, .val (.b false))] (o2 (ob_eq (av_len code)) (o1 (ob_eq (av_bool (decide_eq_false (p := ((k0 : Nat) : Int) < (code.length : Int)) (by omega)))))) ?_
    refine ckF ?_
    refine awp_exit ?_
    exact Exists.intro s0 (And.intro (weak_fit (by kernel_rfl)) (forL_end hk0 (rfl) hI0))
  ·
    refine awp_seq ?_
    refine rk tt_ok [(2, .p 31 0)] [0, 3] [(31, [.h code, .i 0, .i y0])] [] [] (o0) ?_
    refine awp_ret ?_
    exact nret [] 2 31 (congrArg (fun z => ([.h code, .i ((z.1 : Nat) : Int), .i z.2] : List C)) (show specl01New code = (0, y0) from on_b hD0 (rfl)).symm)
def specl01Byte (code : (List UInt8)) (ci : Nat) (ch : Int) : Int × Nat × Int := (bif decide (((ci : Nat) : Int) < (code.length : Int)) then (andI .i64 (IntKind.i64.wrap (andI .i64 (xorI .i64 (shrI .i64 (IntKind.i64.wrap (IntKind.i64.wrap (ch * 6364136223846793005) + 1442695040888963407)) 33) (shrI .i64 (IntKind.i64.wrap (IntKind.i64.wrap (ch * 6364136223846793005) + 1442695040888963407)) 45)) 255 + IntKind.i64.wrap (UInt8.toNat (nth code ci) : Int))) 255, ci + 1, IntKind.i64.wrap (IntKind.i64.wrap (ch * 6364136223846793005) + 1442695040888963407)) else (andI .i64 (xorI .i64 (shrI .i64 (IntKind.i64.wrap (IntKind.i64.wrap (ch * 6364136223846793005) + 1442695040888963407)) 33) (shrI .i64 (IntKind.i64.wrap (IntKind.i64.wrap (ch * 6364136223846793005) + 1442695040888963407)) 45)) 255, ci, IntKind.i64.wrap (IntKind.i64.wrap (ch * 6364136223846793005) + 1442695040888963407)))
theorem specl01Byte_a (code : (List UInt8)) (ci : Nat) (ch : Int) : AGive Tryz.prog 24 [.h code, .i ((ci : Nat) : Int), .i ch] [] (.i (((specl01Byte code ci ch)).1)) [.h code, .i ((((specl01Byte code ci ch)).2.1 : Nat) : Int), .i (((specl01Byte code ci ch)).2.2)] := by
  refine agive_of (tt := tt) tt_ok Tryz.func24 (fn := Tryz.f24) rfl (by unfold FnOk; kernel_rfl) (Nat.le_of_ble_eq_true rfl) (Nat.le_of_ble_eq_true rfl) rfl rfl fun w0 F0 hG => ?_
  refine awp_seq ?_
  refine rk tt_ok [(2, .i 0)] [] [] [] [] (o0) ?_
  refine awp_seq ?_
  refine rk tt_ok [] [] [(60000, [.h code, .i ((ci : Nat) : Int), .i (IntKind.i64.wrap (IntKind.i64.wrap (ch * 6364136223846793005) + 1442695040888963407))])] [60000] [] (o0) ?_
  refine awp_seq ?_
  refine rd' tt_ok tt_mx [(3, .i (andI .i64 (xorI .i64 (shrI .i64 (IntKind.i64.wrap (IntKind.i64.wrap (ch * 6364136223846793005) + 1442695040888963407)) 33) (shrI .i64 (IntKind.i64.wrap (IntKind.i64.wrap (ch * 6364136223846793005) + 1442695040888963407)) 45)) 255))] [] [] [] [] (o0) ?_
  refine awp_seq ?_
  refine awp_seq ?_
  refine rd' tt_ok tt_mx [(34, .b (decide (((ci : Nat) : Int) < (code.length : Int))))] [] [] [] [(8, .val (.i (code.length : Int)))] (o1 (ob_eq (av_len code))) ?_
  refine ck (decide (((ci : Nat) : Int) < (code.length : Int))) (fun h1 => ?_) (fun h1 => ?_)
  ·
    have h1d := of_decide_eq_true h1
    refine awp_seq ?_
    refine wdB 60000 0 .sh code (fun hw3 => ?_)
    have hl4 : List.length code ≤ 1073741824 := wide_len (hw3)
    have hx2 : code[ci]? = some (nth code ci) := nth_get (by omega)
    refine rd' tt_ok tt_mx [(3, .i (andI .i64 (IntKind.i64.wrap (andI .i64 (xorI .i64 (shrI .i64 (IntKind.i64.wrap (IntKind.i64.wrap (ch * 6364136223846793005) + 1442695040888963407)) 33) (shrI .i64 (IntKind.i64.wrap (IntKind.i64.wrap (ch * 6364136223846793005) + 1442695040888963407)) 45)) 255 + IntKind.i64.wrap (UInt8.toNat (nth code ci) : Int))) 255))] [3, 34] [] [] [(9, .row [.int .u8 (UInt8.toNat (nth code ci) : Int)])] (o1 (ob_elem (el_of (i := ((ci : Nat) : Int)) (by omega) rfl hx2))) ?_
    refine rk tt_ok [] [] [(60000, [.h code, .i ((ci + 1 : Nat) : Int), .i (IntKind.i64.wrap (IntKind.i64.wrap (ch * 6364136223846793005) + 1442695040888963407))])] [60000] [(5, .val (.i ((ci + 1 : Nat) : Int)))] (o1 (ob_eq (av_i (wrap_succ ci (by omega))))) ?_
    refine awp_seq ?_
    refine rk tt_ok [(2, .i (andI .i64 (IntKind.i64.wrap (andI .i64 (xorI .i64 (shrI .i64 (IntKind.i64.wrap (IntKind.i64.wrap (ch * 6364136223846793005) + 1442695040888963407)) 33) (shrI .i64 (IntKind.i64.wrap (IntKind.i64.wrap (ch * 6364136223846793005) + 1442695040888963407)) 45)) 255 + IntKind.i64.wrap (UInt8.toNat (nth code ci) : Int))) 255))] [2, 3] [] [] [] (o0) ?_
    refine awp_ret ?_
    have hE5 : specl01Byte code ci ch = (andI .i64 (IntKind.i64.wrap (andI .i64 (xorI .i64 (shrI .i64 (IntKind.i64.wrap (IntKind.i64.wrap (ch * 6364136223846793005) + 1442695040888963407)) 33) (shrI .i64 (IntKind.i64.wrap (IntKind.i64.wrap (ch * 6364136223846793005) + 1442695040888963407)) 45)) 255 + IntKind.i64.wrap (UInt8.toNat (nth code ci) : Int))) 255, ci + 1, IntKind.i64.wrap (IntKind.i64.wrap (ch * 6364136223846793005) + 1442695040888963407)) := bif_t h1 (rfl)
    exact gret [] (congrArg (fun z => (.i z.1 : AV)) hE5.symm) (congrArg (fun z => ([.h code, .i ((z.2.1 : Nat) : Int), .i z.2.2] : List C)) hE5.symm)
  ·
    have h1d := of_decide_eq_false h1
    refine awp_skip ?_
    refine awp_seq ?_
    refine rk tt_ok [(2, .i (andI .i64 (xorI .i64 (shrI .i64 (IntKind.i64.wrap (IntKind.i64.wrap (ch * 6364136223846793005) + 1442695040888963407)) 33) (shrI .i64 (IntKind.i64.wrap (IntKind.i64.wrap (ch * 6364136223846793005) + 1442695040888963407)) 45)) 255))] [2, 3, 34] [] [] [] (o0) ?_
    refine awp_ret ?_
    have hE6 : specl01Byte code ci ch = (andI .i64 (xorI .i64 (shrI .i64 (IntKind.i64.wrap (IntKind.i64.wrap (ch * 6364136223846793005) + 1442695040888963407)) 33) (shrI .i64 (IntKind.i64.wrap (IntKind.i64.wrap (ch * 6364136223846793005) + 1442695040888963407)) 45)) 255, ci, IntKind.i64.wrap (IntKind.i64.wrap (ch * 6364136223846793005) + 1442695040888963407)) := bif_f h1 (rfl)
    exact gret [] (congrArg (fun z => (.i z.1 : AV)) hE6.symm) (congrArg (fun z => ([.h code, .i ((z.2.1 : Nat) : Int), .i z.2.2] : List C)) hE6.symm)
end Go.Proofs.YtncjdkfjhkpkmaaGreatDoor
namespace Go.Proofs.YtncjdkfjhkpkmaaGreatDoor
open Go.RowKit
theorem and255 (a : Int) : 0 ≤ andI .i64 a 255 ∧ andI .i64 a 255 ≤ 255 := by
  have h : (BitVec.ofInt 64 a &&& BitVec.ofInt 64 255).toNat ≤ 255 := by
    rw [BitVec.toNat_and]
    exact Nat.le_trans Nat.and_le_right (by decide)
  have e : andI .i64 a 255 = IntKind.i64.wrap (BitVec.ofInt 64 a &&& BitVec.ofInt 64 255).toNat := rfl
  rw [e, IntWalk.i64_in _ (by omega)]
  omega
theorem specl01Byte_bd (code : List UInt8) (ci : Nat) (ch : Int) : 0 ≤ (specl01Byte code ci ch).1 ∧ (specl01Byte code ci ch).1 ≤ 255 := by
  unfold specl01Byte
  cases decide (((ci : Nat) : Int) < (code.length : Int)) <;> exact and255 _
open GoE (enc wide)
def specl01Below (code : (List UInt8)) (ci : Nat) (ch : Int) (n : Int) : Int × Nat × Int := (bif decide (n ≤ (0 : Int)) then (0, ci, ch) else (bif decide (n ≤ (256 : Int)) then (lt (α := Int × Nat × Int) (specl01Byte code ci ch) (fun x4 => (Int.tmod x4.1 n, x4.2.1, x4.2.2))) else (lt (α := Int × Nat × Int) (specl01Byte code ci ch) (fun x6 => (lt (α := Int × Nat × Int) (specl01Byte code x6.2.1 x6.2.2) (fun x7 => (lt (α := Int × Nat × Int) (specl01Byte code x7.2.1 x7.2.2) (fun x8 => (lt (α := Int × Nat × Int) (specl01Byte code x8.2.1 x8.2.2) (fun x9 => (Int.tmod ((((x6.1 * 16777216) + (x7.1 * 65536)) + (x8.1 * 256)) + x9.1) n, x9.2.1, x9.2.2)))))))))))
theorem specl01Below_a (code : (List UInt8)) (ci : Nat) (ch : Int) (n : Int) : AGive Tryz.prog 15 [.h code, .i ((ci : Nat) : Int), .i ch] [.i n] (.i (((specl01Below code ci ch n)).1)) [.h code, .i ((((specl01Below code ci ch n)).2.1 : Nat) : Int), .i (((specl01Below code ci ch n)).2.2)] := by
  refine agive_of (tt := tt) tt_ok Tryz.func15 (fn := Tryz.f15) rfl (by unfold FnOk; kernel_rfl) (Nat.le_of_ble_eq_true rfl) (Nat.le_of_ble_eq_true rfl) rfl rfl fun w0 F0 hG => ?_
  refine awp_seq ?_
  refine rk tt_ok [(4, .i 0)] [] [] [] [] (o0) ?_
  refine awp_seq ?_
  refine awp_seq ?_
  refine rk tt_ok [(10, .b (decide (n ≤ (0 : Int))))] [] [] [] [] (o0) ?_
  refine ck (decide (n ≤ (0 : Int))) (fun h1 => ?_) (fun h1 => ?_)
  ·
    have h1d := of_decide_eq_true h1
    refine awp_seq ?_
    refine rk tt_ok [] [10] [] [] [] (o0) ?_
    refine awp_ret ?_
    have hE2 : specl01Below code ci ch n = (0, ci, ch) := bif_t h1 (rfl)
    exact gret [] (congrArg (fun z => (.i z.1 : AV)) hE2.symm) (congrArg (fun z => ([.h code, .i ((z.2.1 : Nat) : Int), .i z.2.2] : List C)) hE2.symm)
  ·
    have h1d := of_decide_eq_false h1
    refine awp_skip ?_
    refine awp_seq ?_
    refine awp_seq ?_
    refine rk tt_ok [(12, .b (decide (n ≤ (256 : Int))))] [10] [] [] [] (o0) ?_
    refine ck (decide (n ≤ (256 : Int))) (fun h3 => ?_) (fun h3 => ?_)
    ·
      have h3d := of_decide_eq_true h3
      refine awp_seq ?_
      obtain ⟨x4, hx4⟩ : ∃ z : Int × Nat × Int, specl01Byte code ci ch = z := ⟨_, rfl⟩
      have hbx4 := hx4 ▸ specl01Byte_bd code ci ch
      refine rk tt_ok [(4, .i (Int.tmod x4.1 n))] [4, 12] [(60000, [.h code, .i ((x4.2.1 : Nat) : Int), .i x4.2.2])] [60000] [(1, .give none (.i x4.1) [.h code, .i ((x4.2.1 : Nat) : Int), .i x4.2.2])] (o2 (ob_give (hx4 ▸ specl01Byte_a code ci ch)) (o2 (ob_nz (n := n) (by omega)) (o1 (ob_inr (k := .i64) (n := Int.tmod x4.1 n) (inr_rem0 (by omega)))))) ?_
      refine awp_ret ?_
      have hE5 : specl01Below code ci ch n = (Int.tmod x4.1 n, x4.2.1, x4.2.2) := bif_f h1 (bif_t h3 (lt_b hx4 (rfl)))
      exact gret [] (congrArg (fun z => (.i z.1 : AV)) hE5.symm) (congrArg (fun z => ([.h code, .i ((z.2.1 : Nat) : Int), .i z.2.2] : List C)) hE5.symm)
    ·
      have h3d := of_decide_eq_false h3
      refine awp_skip ?_
      refine awp_seq ?_
      obtain ⟨x6, hx6⟩ : ∃ z : Int × Nat × Int, specl01Byte code ci ch = z := ⟨_, rfl⟩
      have hbx6 := hx6 ▸ specl01Byte_bd code ci ch
      refine rk tt_ok [(5, .i x6.1)] [12] [(60000, [.h code, .i ((x6.2.1 : Nat) : Int), .i x6.2.2])] [60000] [(1, .give none (.i x6.1) [.h code, .i ((x6.2.1 : Nat) : Int), .i x6.2.2])] (o1 (ob_give (hx6 ▸ specl01Byte_a code ci ch))) ?_
      refine awp_seq ?_
      obtain ⟨x7, hx7⟩ : ∃ z : Int × Nat × Int, specl01Byte code x6.2.1 x6.2.2 = z := ⟨_, rfl⟩
      have hbx7 := hx7 ▸ specl01Byte_bd code x6.2.1 x6.2.2
      refine rk tt_ok [(6, .i x7.1)] [] [(60000, [.h code, .i ((x7.2.1 : Nat) : Int), .i x7.2.2])] [60000] [(1, .give none (.i x7.1) [.h code, .i ((x7.2.1 : Nat) : Int), .i x7.2.2])] (o1 (ob_give (hx7 ▸ specl01Byte_a code x6.2.1 x6.2.2))) ?_
      refine awp_seq ?_
      obtain ⟨x8, hx8⟩ : ∃ z : Int × Nat × Int, specl01Byte code x7.2.1 x7.2.2 = z := ⟨_, rfl⟩
      have hbx8 := hx8 ▸ specl01Byte_bd code x7.2.1 x7.2.2
      refine rk tt_ok [(7, .i x8.1)] [] [(60000, [.h code, .i ((x8.2.1 : Nat) : Int), .i x8.2.2])] [60000] [(1, .give none (.i x8.1) [.h code, .i ((x8.2.1 : Nat) : Int), .i x8.2.2])] (o1 (ob_give (hx8 ▸ specl01Byte_a code x7.2.1 x7.2.2))) ?_
      refine awp_seq ?_
      obtain ⟨x9, hx9⟩ : ∃ z : Int × Nat × Int, specl01Byte code x8.2.1 x8.2.2 = z := ⟨_, rfl⟩
      have hbx9 := hx9 ▸ specl01Byte_bd code x8.2.1 x8.2.2
      refine rk tt_ok [(8, .i x9.1)] [] [(60000, [.h code, .i ((x9.2.1 : Nat) : Int), .i x9.2.2])] [60000] [(1, .give none (.i x9.1) [.h code, .i ((x9.2.1 : Nat) : Int), .i x9.2.2])] (o1 (ob_give (hx9 ▸ specl01Byte_a code x8.2.1 x8.2.2))) ?_
      refine awp_seq ?_
      refine rk tt_ok [(4, .i (Int.tmod ((((x6.1 * 16777216) + (x7.1 * 65536)) + (x8.1 * 256)) + x9.1) n))] [1, 4, 5, 6, 7, 8] [] [] [(1, .val (.i (x6.1 * 16777216))), (3, .val (.i (x7.1 * 65536))), (4, .val (.i ((x6.1 * 16777216) + (x7.1 * 65536)))), (6, .val (.i (x8.1 * 256))), (7, .val (.i (((x6.1 * 16777216) + (x7.1 * 65536)) + (x8.1 * 256)))), (9, .val (.i ((((x6.1 * 16777216) + (x7.1 * 65536)) + (x8.1 * 256)) + x9.1)))] (o2 (ob_eq (av_i (IntWalk.i64_in (x6.1 * 16777216) (by omega)))) (o2 (ob_eq (av_i (IntWalk.i64_in (x7.1 * 65536) (by omega)))) (o2 (ob_eq (av_i (IntWalk.i64_in ((x6.1 * 16777216) + (x7.1 * 65536)) (by omega)))) (o2 (ob_eq (av_i (IntWalk.i64_in (x8.1 * 256) (by omega)))) (o2 (ob_eq (av_i (IntWalk.i64_in (((x6.1 * 16777216) + (x7.1 * 65536)) + (x8.1 * 256)) (by omega)))) (o2 (ob_eq (av_i (IntWalk.i64_in ((((x6.1 * 16777216) + (x7.1 * 65536)) + (x8.1 * 256)) + x9.1) (by omega)))) (o2 (ob_nz (n := n) (by omega)) (o1 (ob_inr (k := .i64) (n := Int.tmod ((((x6.1 * 16777216) + (x7.1 * 65536)) + (x8.1 * 256)) + x9.1) n) (inr_rem0 (by omega))))))))))) ?_
      refine awp_ret ?_
      have hE10 : specl01Below code ci ch n = (Int.tmod ((((x6.1 * 16777216) + (x7.1 * 65536)) + (x8.1 * 256)) + x9.1) n, x9.2.1, x9.2.2) := bif_f h1 (bif_f h3 (lt_b hx6 (lt_b hx7 (lt_b hx8 (lt_b hx9 (rfl))))))
      exact gret [] (congrArg (fun z => (.i z.1 : AV)) hE10.symm) (congrArg (fun z => ([.h code, .i ((z.2.1 : Nat) : Int), .i z.2.2] : List C)) hE10.symm)
end Go.Proofs.YtncjdkfjhkpkmaaGreatDoor
namespace Go.Proofs.YtncjdkfjhkpkmaaGreatDoor
open Go.RowKit
theorem specl01Below_bd (code : List UInt8) (ci : Nat) (ch n : Int) : 0 ≤ (specl01Below code ci ch n).1 ∧ (0 < n → (specl01Below code ci ch n).1 < n) ∧ (n ≤ 0 → (specl01Below code ci ch n).1 = 0) := by
  unfold specl01Below lt
  by_cases h0 : n ≤ 0
  · rw [decide_eq_true h0]
    exact ⟨Int.le_refl _, fun h => by omega, fun _ => rfl⟩
  · rw [decide_eq_false h0]
    have hn : 0 < n := by omega
    cases decide (n ≤ (256 : Int)) with
    | true =>
      have := specl01Byte_bd code ci ch
      exact ⟨Int.tmod_nonneg _ this.1, fun _ => Int.tmod_lt_of_pos _ hn, fun h => by omega⟩
    | false =>
      simp only [cond_false]
      generalize hx6 : specl01Byte code ci ch = x6
      generalize hx7 : specl01Byte code x6.2.1 x6.2.2 = x7
      generalize hx8 : specl01Byte code x7.2.1 x7.2.2 = x8
      generalize hx9 : specl01Byte code x8.2.1 x8.2.2 = x9
      have h6 := hx6 ▸ specl01Byte_bd code ci ch
      have h7 := hx7 ▸ specl01Byte_bd code x6.2.1 x6.2.2
      have h8 := hx8 ▸ specl01Byte_bd code x7.2.1 x7.2.2
      have h9 := hx9 ▸ specl01Byte_bd code x8.2.1 x8.2.2
      exact ⟨Int.tmod_nonneg _ (by omega), fun _ => Int.tmod_lt_of_pos _ hn, fun h => by omega⟩
open GoE (enc wide)
def specDrawPlaces_f0 (code : (List UInt8)) (_ : Nat) (s0 : (List Int) × Nat × Int) : Rd ((List Int)) ((List Int) × Nat × Int) ((List Int)) := (lt (α := Int × Nat × Int) (specl01Below code s0.2.1 s0.2.2 10000) (fun x2 => (.next (s0.1 ++ [x2.1], x2.2.1, x2.2.2))))
def specDrawPlaces_e0 (_ : Nat) (s0 : (List Int) × Nat × Int) : (List Int) := s0.1
def specDrawPlaces (code : (List UInt8)) : (List Int) := (lt (α := Nat × Int) (specl01New code) (fun x1 => (Out.on (forN (specDrawPlaces_f0 code) specDrawPlaces_e0 (Int.toNat (12 : Int)) 0 ([], x1.1, x1.2)) (fun y0 => y0))))
theorem specDrawPlaces_a (code : (List UInt8)) : ACalls Tryz.prog 5 [.h code] (.o 0 (specDrawPlaces code)) := by
  refine acalls_of (tt := tt) tt_ok Tryz.func5 (fn := Tryz.f5) rfl (by unfold FnOk; kernel_rfl) (Nat.le_of_ble_eq_true rfl) fun w0 F0 hG => ?_
  refine awp_seq ?_
  refine rk tt_ok [(2, .e 0)] [] [] [] [] (o0) ?_
  refine awp_seq ?_
  obtain ⟨x1, hx1⟩ : ∃ z : Nat × Int, specl01New code = z := ⟨_, rfl⟩
  refine rk tt_ok [(3, .p 7 0)] [0] [(7, [.h code, .i ((x1.1 : Nat) : Int), .i x1.2])] [] [(1, .new [.h code, .i ((x1.1 : Nat) : Int), .i x1.2])] (o1 (ob_new (hx1 ▸ specl01New_a code))) ?_
  refine awp_seq ?_
  refine rk tt_ok [(4, .one (.slc (.own true 512) 1 []))] [] [] [] [] (o0) ?_
  refine awp_seq ?_
  refine awp_seq ?_
  refine rk tt_ok [(5, .i 0)] [] [] [] [] (o0) ?_
  refine blk (fun (k0 : Nat) (s0 : (List Int) × Nat × Int) => [(4, .o 147202 s0.1), (5, .i ((k0 : Nat) : Int))]) [4, 5] (fun k0 s0 => [(7, [.h code, .i ((s0.2.1 : Nat) : Int), .i s0.2.2])]) [7] (fun (y0 : (List Int)) => [(4, .o 147352 y0)]) [3, 4, 5] (fun y0 => []) [7] (fun (k0 : Nat) (s0 : (List Int) × Nat × Int) => (forN (specDrawPlaces_f0 code) specDrawPlaces_e0 (Int.toNat (12 : Int)) 0 ([], x1.1, x1.2)) = forN (specDrawPlaces_f0 code) specDrawPlaces_e0 ((Int.toNat (12 : Int)) - k0) k0 s0 ∧ List.length s0.1 ≤ k0) (fun (y0 : (List Int)) => (forN (specDrawPlaces_f0 code) specDrawPlaces_e0 (Int.toNat (12 : Int)) 0 ([], x1.1, x1.2)) = .brk y0) (Int.toNat (12 : Int)) ([], x1.1, x1.2) (weak_sf [(512, 147202)] (by kernel_rfl)) ⟨rfl, (by simp)⟩ (fun k0 s0 hk0 hI0 => ?_) (fun k0 s0 hk0 hI0 => ?_) (fun y0 hD0 => ?_)
  ·
    have hA0_0 := hI0.2
    refine awp_seq ?_
    refine awp_seq ?_
    refine rk tt_ok [(10, .b true)] [] [] [] [(1, .val (.b true))] (o1 (ob_eq (av_bool (decide_eq_true (p := ((k0 : Nat) : Int) < (12 : Int)) (by omega))))) ?_
    refine ckT ?_
    refine awp_skip ?_
    refine awp_seq ?_
    refine awp_block ?_
    obtain ⟨x2, hx2⟩ : ∃ z : Int × Nat × Int, specl01Below code s0.2.1 s0.2.2 10000 = z := ⟨_, rfl⟩
    have hbx2 := hx2 ▸ specl01Below_bd code s0.2.1 s0.2.2 10000
    refine wdT 4 0 (.own true 147202) s0.1 (fun hw3 => ?_)
    have hl4 : List.length s0.1 ≤ 1073741824 := wide_len (hw3)
    refine rk tt_ok [(4, .one (.slc (.own true 1088) 1 ((eL s0.1) ++ [[.i x2.1]])))] [4, 10] [(7, [.h code, .i ((x2.2.1 : Nat) : Int), .i x2.2.2])] [7] [(2, .give none (.i x2.1) [.h code, .i ((x2.2.1 : Nat) : Int), .i x2.2.2])] (o2 (ob_give (hx2 ▸ specl01Below_a code s0.2.1 s0.2.2 10000)) (o1 (ob_len (len_of (eL_length s0.1) (eL_length [x2.1]) (by first | omega | (simp; omega) | simp))))) ?_
    refine eqn [(4, .o 1088 (s0.1 ++ [x2.1]))] [4] [] [] (by rw [show ((eL s0.1) ++ [[.i x2.1]]) = (eL (s0.1 ++ [x2.1])) from app_eL (rfl) (rfl)]; first | done | kernel_rfl) ?_
    refine rk tt_ok [(5, .i ((k0 + 1 : Nat) : Int))] [5] [] [] [(1, .val (.i ((k0 + 1 : Nat) : Int)))] (o1 (ob_eq (av_i (wrap_succ k0 (by omega))))) ?_
    exact Exists.intro (s0.1 ++ [x2.1], x2.2.1, x2.2.2) (And.intro (weak_sf [(1088, 147202)] (by kernel_rfl)) ⟨forN_next hk0 (lt_b hx2 (rfl)) hI0.1, by first | omega | (simp; omega) | simp⟩)
  ·
    have hA0_0 := hI0.2
    refine awp_seq ?_
    refine awp_seq ?_
    refine rk tt_ok [(10, .b false)] [] [] [] [(1, .val (.b false))] (o1 (ob_eq (av_bool (decide_eq_false (p := ((k0 : Nat) : Int) < (12 : Int)) (by omega))))) ?_
    refine ckF ?_
    refine awp_exit ?_
    exact Exists.intro s0.1 (And.intro (weak_sf [(147202, 147352)] (by kernel_rfl)) (forN_end hk0 (rfl) hI0.1))
  ·
    refine awp_seq ?_
    refine rk tt_ok [(2, .o 147352 y0)] [2, 4] [] [] [] (o0) ?_
    refine awp_ret ?_
    exact pret [] (congrArg (fun z => (.o 0 z : AV)) (show specDrawPlaces code = y0 from lt_b hx1 (on_b hD0 (rfl))).symm)
end Go.Proofs.YtncjdkfjhkpkmaaGreatDoor
namespace Go.Proofs.YtncjdkfjhkpkmaaGreatDoor
open Go.RowKit
theorem places_go (code : List UInt8) : ∀ (n k : Nat) (s : List Int × Nat × Int), s.1.length = k → (∀ x, x ∈ s.1 → 0 ≤ x ∧ x < 10000) → ∃ t, forN (specDrawPlaces_f0 code) specDrawPlaces_e0 n k s = .brk t ∧ t.length = k + n ∧ ∀ x, x ∈ t → 0 ≤ x ∧ x < 10000
  | 0, k, s, h, hb => ⟨s.1, rfl, h, hb⟩
  | n + 1, k, s, h, hb => by
    simp only [forN, specDrawPlaces_f0, lt]
    have hd := specl01Below_bd code s.2.1 s.2.2 10000
    obtain ⟨t, h1, h2, h3⟩ := places_go code n (k + 1) (s.1 ++ [(specl01Below code s.2.1 s.2.2 10000).1], (specl01Below code s.2.1 s.2.2 10000).2.1, (specl01Below code s.2.1 s.2.2 10000).2.2) (by simp [h]) (fun x hx => by
      rcases List.mem_append.1 hx with hx | hx
      · exact hb x hx
      · obtain rfl := List.mem_singleton.1 hx
        exact ⟨hd.1, hd.2.1 (by decide)⟩)
    exact ⟨t, h1, by omega, h3⟩
theorem places_ok (code : List UInt8) : (specDrawPlaces code).length = 12 ∧ ∀ x, x ∈ specDrawPlaces code → 0 ≤ x ∧ x < 10000 := by
  unfold specDrawPlaces lt
  obtain ⟨t, h1, h2, h3⟩ := places_go code (Int.toNat (12 : Int)) 0 ([], (specl01New code).1, (specl01New code).2) rfl (fun x hx => by simp at hx)
  simp only [h1, Out.on]
  exact ⟨by simpa using h2, h3⟩
theorem places_len (code : List UInt8) : (specDrawPlaces code).length = 12 := (places_ok code).1
theorem places_bd (code : List UInt8) : ∀ x, x ∈ specDrawPlaces code → 0 ≤ x ∧ x < 10000 := (places_ok code).2
theorem place_mod (code : List UInt8) (i : Nat) (hi : i < 12) {m : Int} (hm : 0 < m) : (0 ≤ nth (specDrawPlaces code) i ∧ nth (specDrawPlaces code) i < 10000) ∧ 0 ≤ Int.tmod (nth (specDrawPlaces code) i) m ∧ Int.tmod (nth (specDrawPlaces code) i) m < m := by
  have h := places_bd code _ (List.mem_of_getElem? (nth_get (l := specDrawPlaces code) (i := i) (by rw [places_len]; exact hi)))
  exact ⟨h, Int.tmod_nonneg _ h.1, Int.tmod_lt_of_pos _ hm⟩
open GoE (enc wide)
def implHiddenFiles_f0 (user : Int) (_ : Nat) (a0 : FileD) (s0 : (List Int)) : Rd ((List Int)) ((List Int)) ((List Int)) := (bif (!(implCanRead a0 user)) then (.next (s0 ++ [a0.1])) else (.next s0))
def implHiddenFiles_e0 (_ : Nat) (s0 : (List Int)) : (List Int) := s0
def implHiddenFiles (s_ : StoreD) (user : Int) : (List Int) := (Out.on (forL (implHiddenFiles_f0 user) implHiddenFiles_e0 s_.2.1 0 []) (fun y0 => y0))
theorem implHiddenFiles_a (s_ : StoreD) (user : Int) : ACalls Tryz.prog 13 [.a [.h s_.1, .h s_.2.1, .i s_.2.2], .i user] (.o 0 (implHiddenFiles s_ user)) := by
  refine acalls_of (tt := tt) tt_ok Tryz.func13 (fn := Tryz.f13) rfl (by unfold FnOk; kernel_rfl) (Nat.le_of_ble_eq_true rfl) fun w0 F0 hG => ?_
  refine awp_seq ?_
  refine rk tt_ok [(2, .p 2 0), (4, .e 0)] [0] [(2, [.h s_.1, .h s_.2.1, .i s_.2.2])] [] [] (o0) ?_
  refine awp_seq ?_
  refine rk tt_ok [(5, .one (.slc (.own true 512) 1 []))] [] [] [] [] (o0) ?_
  refine awp_seq ?_
  refine awp_seq ?_
  refine rk tt_ok [(10, .h s_.2.1), (11, .i (s_.2.1.length : Int)), (12, .i 0)] [2] [] [2] [(2, .val (.i (s_.2.1.length : Int)))] (o1 (ob_eq (av_len s_.2.1))) ?_
  refine wdT 10 0 .sh s_.2.1 (fun hw1 => ?_)
  have hl2 : List.length s_.2.1 ≤ 1073741824 := wide_len (hw1)
  refine blk (fun (k0 : Nat) (s0 : (List Int)) => [(5, .o 147202 s0), (12, .i ((k0 : Nat) : Int))]) [5, 12] (fun k0 s0 => []) [] (fun (y0 : (List Int)) => [(5, .o 147352 y0)]) [1, 5, 10, 11, 12] (fun y0 => []) [] (fun (k0 : Nat) (s0 : (List Int)) => (forL (implHiddenFiles_f0 user) implHiddenFiles_e0 s_.2.1 0 []) = forL (implHiddenFiles_f0 user) implHiddenFiles_e0 (List.drop k0 s_.2.1) k0 s0 ∧ List.length s0 ≤ k0) (fun (y0 : (List Int)) => (forL (implHiddenFiles_f0 user) implHiddenFiles_e0 s_.2.1 0 []) = .brk y0) s_.2.1.length [] (weak_sf [(512, 147202)] (by kernel_rfl)) ⟨rfl, (by simp)⟩ (fun k0 s0 hk0 hI0 => ?_) (fun k0 s0 hk0 hI0 => ?_) (fun y0 hD0 => ?_)
  ·
    have hA0_0 := hI0.2
    obtain ⟨a0, hx0⟩ := get_some (l := s_.2.1) (i := k0) hk0
    refine awp_seq ?_
    refine rk tt_ok [(13, .b true)] [] [] [] [(0, .val (.b true))] (o1 (ob_eq (av_bool (decide_eq_true (p := ((k0 : Nat) : Int) < (s_.2.1.length : Int)) (by omega))))) ?_
    refine awp_seq ?_
    refine ckT ?_
    refine awp_skip ?_
    refine awp_seq ?_
    refine awp_block ?_
    refine awp_seq ?_
    refine rk tt_ok [(7, .p 7 0)] [13] [(7, [.i a0.1, .i a0.2.1, .b a0.2.2.1, .i a0.2.2.2.1, .h a0.2.2.2.2])] [] [(0, .row [.i a0.1, .i a0.2.1, .b a0.2.2.1, .i a0.2.2.2.1, .h a0.2.2.2.2])] (o1 (ob_elem (el_of (i := ((k0 : Nat) : Int)) (by omega) rfl hx0))) ?_
    refine awp_seq ?_
    refine rk tt_ok [(19, .b (!(implCanRead a0 user)))] [] [] [] [(2, .val (.b (implCanRead a0 user)))] (o1 (ob_call (implCanRead_a a0 user))) ?_
    refine ck (!(implCanRead a0 user)) (fun h3 => ?_) (fun h3 => ?_)
    ·
      have h3n : (implCanRead a0 user) = false := bnot_t h3
      refine wdT 5 0 (.own true 147202) s0 (fun hw4 => ?_)
      have hl5 : List.length s0 ≤ 1073741824 := wide_len (hw4)
      refine rk tt_ok [(5, .one (.slc (.own true 1536) 1 ((eL s0) ++ [[.i a0.1]])))] [5, 7, 19] [] [7] [] (o1 (ob_len (len_of (eL_length s0) (eL_length [a0.1]) (by first | omega | (simp; omega) | simp)))) ?_
      refine eqn [(5, .o 1536 (s0 ++ [a0.1]))] [5] [] [] (by rw [show ((eL s0) ++ [[.i a0.1]]) = (eL (s0 ++ [a0.1])) from app_eL (rfl) (rfl)]; first | done | kernel_rfl) ?_
      refine rk tt_ok [(12, .i ((k0 + 1 : Nat) : Int))] [12] [] [] [(0, .val (.i ((k0 + 1 : Nat) : Int)))] (o1 (ob_eq (av_i (wrap_succ k0 (by omega))))) ?_
      exact Exists.intro (s0 ++ [a0.1]) (And.intro (weak_sf [(1536, 147202)] (by kernel_rfl)) ⟨forL_next hx0 (bif_t h3 (rfl)) hI0.1, by first | omega | (simp; omega) | simp⟩)
    ·
      have h3n : (implCanRead a0 user) = true := bnot_f h3
      refine awp_skip ?_
      refine rk tt_ok [(12, .i ((k0 + 1 : Nat) : Int))] [7, 12, 19] [] [7] [(0, .val (.i ((k0 + 1 : Nat) : Int)))] (o1 (ob_eq (av_i (wrap_succ k0 (by omega))))) ?_
      exact Exists.intro s0 (And.intro (weak_fit (by kernel_rfl)) ⟨forL_next hx0 (bif_f h3 (rfl)) hI0.1, by first | omega | (simp; omega) | simp⟩)
  ·
    have hA0_0 := hI0.2
    refine awp_seq ?_
    refine rk tt_ok [(13, .b false)] [] [] [] [(0, .val (.b false))] (o1 (ob_eq (av_bool (decide_eq_false (p := ((k0 : Nat) : Int) < (s_.2.1.length : Int)) (by omega))))) ?_
    refine awp_seq ?_
    refine ckF ?_
    refine awp_exit ?_
    exact Exists.intro s0 (And.intro (weak_sf [(147202, 147352)] (by kernel_rfl)) (forL_end hk0 (rfl) hI0.1))
  ·
    refine awp_seq ?_
    refine rk tt_ok [(4, .o 147352 y0)] [4, 5] [] [] [] (o0) ?_
    refine awp_ret ?_
    exact pret [] (congrArg (fun z => (.o 0 z : AV)) (show implHiddenFiles s_ user = y0 from on_b hD0 (rfl)).symm)
def specl04Copy (f : FileD) : FileD := f
theorem specl04Copy_a (f : FileD) : ACalls Tryz.prog 18 [.a [.i f.1, .i f.2.1, .b f.2.2.1, .i f.2.2.2.1, .h f.2.2.2.2]] (.a [.i ((specl04Copy f).1), .i ((specl04Copy f).2.1), .b ((specl04Copy f).2.2.1), .i ((specl04Copy f).2.2.2.1), .o 0 ((specl04Copy f).2.2.2.2)]) := by
  refine acalls_of (tt := tt) tt_ok Tryz.func18 (fn := Tryz.f18) rfl (by unfold FnOk; kernel_rfl) (Nat.le_of_ble_eq_true rfl) fun w0 F0 hG => ?_
  refine awp_seq ?_
  refine rk tt_ok [(1, .p 1 0), (2, .p 2 0)] [0] [(1, [.i f.1, .i f.2.1, .b f.2.2.1, .i f.2.2.2.1, .h f.2.2.2.2]), (2, [.i 0, .i 0, .b false, .i 0, .e 4])] [] [] (o0) ?_
  refine awp_seq ?_
  refine wdB 1 4 .sh f.2.2.2.2 (fun hw1 => ?_)
  have hl2 : List.length f.2.2.2.2 ≤ 1073741824 := wide_len (hw1)
  refine rk tt_ok [] [] [(1, [.i f.1, .i f.2.1, .b f.2.2.1, .i f.2.2.2.1, .o 384 f.2.2.2.2])] [1] [(3, .flat)] (o2 (ob_len (n := (([] : List (List PV)).length + ((eL f.2.2.2.2) : List (List PV)).length)) (len_of (rfl) (eL_length f.2.2.2.2) (by first | omega | (simp; omega) | simp))) (o1 (ob_flat (flat_eL f.2.2.2.2)))) ?_
  refine awp_seq ?_
  refine rk tt_ok [] [1] [(2, [.i f.1, .i f.2.1, .b f.2.2.1, .i f.2.2.2.1, .o 384 f.2.2.2.2])] [1, 2] [] (o0) ?_
  refine awp_ret ?_
  exact pret [] (congrArg (fun z => (.a [.i z.1, .i z.2.1, .b z.2.2.1, .i z.2.2.2.1, .o 0 z.2.2.2.2] : AV)) (show specl04Copy f = f from rfl).symm)
def specl05Copy_f0 (_ : Nat) (a0 : FileD) (s0 : (List FileD)) : Rd (StoreD) ((List FileD)) ((List FileD)) := (.next (s0 ++ [(specl04Copy a0)]))
def specl05Copy_e0 (_ : Nat) (s0 : (List FileD)) : (List FileD) := s0
def specl05Copy (s_ : StoreD) : StoreD := (Out.on (forL specl05Copy_f0 specl05Copy_e0 s_.2.1 0 []) (fun y0 => (s_.1, y0, s_.2.2)))
theorem specl05Copy_a (s_ : StoreD) : ACalls Tryz.prog 17 [.a [.h s_.1, .h s_.2.1, .i s_.2.2]] (.a [.o 0 ((specl05Copy s_).1), .o 1 ((specl05Copy s_).2.1), .i ((specl05Copy s_).2.2)]) := by
  refine acalls_of (tt := tt) tt_ok Tryz.func17 (fn := Tryz.f17) rfl (by unfold FnOk; kernel_rfl) (Nat.le_of_ble_eq_true rfl) fun w0 F0 hG => ?_
  refine awp_seq ?_
  refine rk tt_ok [(1, .p 1 0), (2, .p 2 0)] [0] [(1, [.h s_.1, .h s_.2.1, .i s_.2.2]), (2, [.e 2, .e 5, .i 0])] [] [] (o0) ?_
  refine awp_seq ?_
  refine wdB 1 0 .sh s_.1 (fun hw1 => ?_)
  have hl2 : List.length s_.1 ≤ 1073741824 := wide_len (hw1)
  refine rd' tt_ok tt_mx [(3, .p 3 0)] [] [(3, [.o 512 s_.1, .e 5, .i s_.2.2])] [] [(3, .flat)] (o2 (ob_len (n := (([] : List (List PV)).length + ((eL s_.1) : List (List PV)).length)) (len_of (rfl) (eL_length s_.1) (by first | omega | (simp; omega) | simp))) (o1 (ob_flat (flat_eL s_.1)))) ?_
  refine awp_seq ?_
  refine awp_seq ?_
  refine rk tt_ok [(4, .i 0)] [] [] [] [] (o0) ?_
  refine wdB 1 1 .sh s_.2.1 (fun hw3 => ?_)
  have hl4 : List.length s_.2.1 ≤ 1073741824 := wide_len (hw3)
  refine blk (fun (k0 : Nat) (s0 : (List FileD)) => [(4, .i ((k0 : Nat) : Int))]) [4] (fun k0 s0 => [(3, [.o 512 s_.1, .o 147211 s0, .i s_.2.2])]) [3] (fun (y0 : (List FileD)) => []) [1, 4] (fun y0 => [(3, [.o 512 s_.1, .o 147361 y0, .i s_.2.2])]) [1, 3] (fun (k0 : Nat) (s0 : (List FileD)) => (forL specl05Copy_f0 specl05Copy_e0 s_.2.1 0 []) = forL specl05Copy_f0 specl05Copy_e0 (List.drop k0 s_.2.1) k0 s0 ∧ List.length s0 ≤ k0) (fun (y0 : (List FileD)) => (forL specl05Copy_f0 specl05Copy_e0 s_.2.1 0 []) = .brk y0) s_.2.1.length [] (weak_gf [(true, 3, 1, true, 320008, 5)] [] [] [(320008, 147211)] (by kernel_rfl)) ⟨rfl, (by simp)⟩ (fun k0 s0 hk0 hI0 => ?_) (fun k0 s0 hk0 hI0 => ?_) (fun y0 hD0 => ?_)
  ·
    have hA0_0 := hI0.2
    obtain ⟨a0, hx0⟩ := get_some (l := s_.2.1) (i := k0) hk0
    refine awp_seq ?_
    refine awp_seq ?_
    refine rk tt_ok [(16, .b true)] [] [] [] [(3, .val (.i (s_.2.1.length : Int))), (4, .val (.b true))] (o2 (ob_eq (av_len s_.2.1)) (o1 (ob_eq (av_bool (decide_eq_true (p := ((k0 : Nat) : Int) < (s_.2.1.length : Int)) (by omega)))))) ?_
    refine ckT ?_
    refine awp_skip ?_
    refine awp_seq ?_
    refine awp_block ?_
    refine wdB 3 1 (.own true 147211) s0 (fun hw5 => ?_)
    have hl6 : List.length s0 ≤ 1073741824 := wide_len (hw5)
    refine rd' tt_ok tt_mx [] [16] [(3, [.o 512 s_.1, .slc (.own true 1792) 5 ((eL s0) ++ [[.i ((specl04Copy a0).1), .i ((specl04Copy a0).2.1), .b ((specl04Copy a0).2.2.1), .i ((specl04Copy a0).2.2.2.1), .h ((specl04Copy a0).2.2.2.2)]]), .i s_.2.2])] [3] [(5, .row [.i a0.1, .i a0.2.1, .b a0.2.2.1, .i a0.2.2.2.1, .h a0.2.2.2.2]), (7, .val (.a [.i ((specl04Copy a0).1), .i ((specl04Copy a0).2.1), .b ((specl04Copy a0).2.2.1), .i ((specl04Copy a0).2.2.2.1), .o 0 ((specl04Copy a0).2.2.2.2)]))] (o2 (ob_elem (el_of (i := ((k0 : Nat) : Int)) (by omega) rfl hx0)) (o2 (ob_call (specl04Copy_a a0)) (o1 (ob_len (len_of (eL_length s0) (eL_length [(specl04Copy a0)]) (by first | omega | (simp; omega) | simp)))))) ?_
    refine eqn [] [] [(3, [.o 512 s_.1, .o 1792 (s0 ++ [(specl04Copy a0)]), .i s_.2.2])] [3] (by rw [show ((eL s0) ++ [[.i ((specl04Copy a0).1), .i ((specl04Copy a0).2.1), .b ((specl04Copy a0).2.2.1), .i ((specl04Copy a0).2.2.2.1), .h ((specl04Copy a0).2.2.2.2)]]) = (eL (s0 ++ [(specl04Copy a0)])) from app_eL (rfl) (rfl)]; first | done | kernel_rfl) ?_
    refine rk tt_ok [(4, .i ((k0 + 1 : Nat) : Int))] [4] [] [] [(1, .val (.i ((k0 + 1 : Nat) : Int)))] (o1 (ob_eq (av_i (wrap_succ k0 (by omega))))) ?_
    exact Exists.intro (s0 ++ [(specl04Copy a0)]) (And.intro (weak_sf [(1792, 147211)] (by kernel_rfl)) ⟨forL_next hx0 (rfl) hI0.1, by first | omega | (simp; omega) | simp⟩)
  ·
    have hA0_0 := hI0.2
    refine awp_seq ?_
    refine awp_seq ?_
    refine rk tt_ok [(16, .b false)] [] [] [] [(3, .val (.i (s_.2.1.length : Int))), (4, .val (.b false))] (o2 (ob_eq (av_len s_.2.1)) (o1 (ob_eq (av_bool (decide_eq_false (p := ((k0 : Nat) : Int) < (s_.2.1.length : Int)) (by omega)))))) ?_
    refine ckF ?_
    refine awp_exit ?_
    exact Exists.intro s0 (And.intro (weak_sf [(147211, 147361)] (by kernel_rfl)) (forL_end hk0 (rfl) hI0.1))
  ·
    refine awp_seq ?_
    refine rk tt_ok [] [3] [(2, [.o 512 s_.1, .o 147361 y0, .i s_.2.2])] [2, 3] [] (o0) ?_
    refine awp_ret ?_
    exact pret [] (congrArg (fun z => (.a [.o 0 z.1, .o 1 z.2.1, .i z.2.2] : AV)) (show specl05Copy s_ = (s_.1, y0, s_.2.2) from on_b hD0 (rfl)).symm)
def specCreateFile (s_ : StoreD) (f : FileD) : StoreD × Int × Bool := (bif ((!(specIsValidStore (specl05Copy s_))) || (decide ((((specl05Copy s_).2.1).length : Int) ≥ (12 : Int)) || (!(specIsValidFile ((specl05Copy s_).1) ((specl05Copy s_).2.2, (specl04Copy f).2.1, (specl04Copy f).2.2.1, (specl04Copy f).2.2.2.1, (specl04Copy f).2.2.2.2))))) then ((specl05Copy s_), 0, false) else (((specl05Copy s_).1, (specl05Copy s_).2.1 ++ [((specl05Copy s_).2.2, (specl04Copy f).2.1, (specl04Copy f).2.2.1, (specl04Copy f).2.2.2.1, (specl04Copy f).2.2.2.2)], IntKind.i64.wrap ((specl05Copy s_).2.2 + 1)), (specl05Copy s_).2.2, true))
theorem specCreateFile_a (s_ : StoreD) (f : FileD) : ACalls Tryz.prog 10 [.a [.h s_.1, .h s_.2.1, .i s_.2.2], .a [.i f.1, .i f.2.1, .b f.2.2.1, .i f.2.2.2.1, .h f.2.2.2.2]] (.tup [(true, [.o 0 ((((specCreateFile s_ f)).1).1), .o 1 ((((specCreateFile s_ f)).1).2.1), .i ((((specCreateFile s_ f)).1).2.2)]), (false, [.i (((specCreateFile s_ f)).2.1)]), (false, [.b (((specCreateFile s_ f)).2.2)])]) := by
  refine acalls_of (tt := tt) tt_ok Tryz.func10 (fn := Tryz.f10) rfl (by unfold FnOk; kernel_rfl) (Nat.le_of_ble_eq_true rfl) fun w0 F0 hG => ?_
  refine awp_seq ?_
  refine rk tt_ok [(2, .p 2 0), (3, .p 3 0), (4, .p 4 0), (5, .i 0), (6, .b false)] [0, 1] [(2, [.h s_.1, .h s_.2.1, .i s_.2.2]), (3, [.i f.1, .i f.2.1, .b f.2.2.1, .i f.2.2.2.1, .h f.2.2.2.2]), (4, [.e 2, .e 5, .i 0])] [] [] (o0) ?_
  refine awp_seq ?_
  refine rk tt_ok [] [] [(2, [.o 512 ((specl05Copy s_).1), .o 513 ((specl05Copy s_).2.1), .i ((specl05Copy s_).2.2)])] [2] [(1, .val (.a [.o 0 ((specl05Copy s_).1), .o 1 ((specl05Copy s_).2.1), .i ((specl05Copy s_).2.2)]))] (o1 (ob_call (specl05Copy_a s_))) ?_
  refine awp_seq ?_
  refine rk tt_ok [] [] [(3, [.i ((specl04Copy f).1), .i ((specl04Copy f).2.1), .b ((specl04Copy f).2.2.1), .i ((specl04Copy f).2.2.2.1), .o 640 ((specl04Copy f).2.2.2.2)])] [3] [(1, .val (.a [.i ((specl04Copy f).1), .i ((specl04Copy f).2.1), .b ((specl04Copy f).2.2.1), .i ((specl04Copy f).2.2.2.1), .o 0 ((specl04Copy f).2.2.2.2)]))] (o1 (ob_call (specl04Copy_a f))) ?_
  refine awp_seq ?_
  refine rk tt_ok [] [] [(3, [.i ((specl05Copy s_).2.2), .i ((specl04Copy f).2.1), .b ((specl04Copy f).2.2.1), .i ((specl04Copy f).2.2.2.1), .o 640 ((specl04Copy f).2.2.2.2)])] [3] [] (o0) ?_
  refine awp_seq ?_
  refine awp_seq ?_
  refine jn [(29, .b ((!(specIsValidStore (specl05Copy s_))) || (decide ((((specl05Copy s_).2.1).length : Int) ≥ (12 : Int)) || (!(specIsValidFile ((specl05Copy s_).1) ((specl05Copy s_).2.2, (specl04Copy f).2.1, (specl04Copy f).2.2.1, (specl04Copy f).2.2.2.1, (specl04Copy f).2.2.2.2))))))] [] [] [] (!(specIsValidStore (specl05Copy s_))) (fun h1 => ?_) (fun h1 => ?_) ?_
  ·
    have h1n : (specIsValidStore (specl05Copy s_)) = false := bnot_t h1
    refine rk tt_ok [(29, .b true)] [] [] [] [(1, .val (.b false)), (2, .val (.b true))] (o2 (ob_call (cb h1n (specIsValidStore_a (specl05Copy s_)))) (o1 (ob_eq (show .b (!false) = .b true from rfl)))) ?_
    exact ⟨rfl, weak_fit (by rw [h1]; first | done | kernel_rfl)⟩
  ·
    have h1n : (specIsValidStore (specl05Copy s_)) = true := bnot_f h1
    refine awp_split (decide ((((specl05Copy s_).2.1).length : Int) ≥ (12 : Int))) (fun h2 => ?_) (fun h2 => ?_)
    ·
      have h2d := of_decide_eq_true h2
      refine rk tt_ok [(29, .b true)] [] [] [] [(1, .val (.b true)), (2, .val (.b false)), (6, .val (.i (((specl05Copy s_).2.1).length : Int))), (7, .val (.b true))] (o2 (ob_call (cb h1n (specIsValidStore_a (specl05Copy s_)))) (o2 (ob_eq (show .b (!true) = .b false from rfl)) (o2 (ob_eq (av_len ((specl05Copy s_).2.1))) (o1 (ob_eq (av_bool h2)))))) ?_
      exact ⟨rfl, weak_fit (by rw [h1, h2]; first | done | kernel_rfl)⟩
    ·
      have h2d := of_decide_eq_false h2
      refine rk tt_ok [(29, .b (!(specIsValidFile ((specl05Copy s_).1) ((specl05Copy s_).2.2, (specl04Copy f).2.1, (specl04Copy f).2.2.1, (specl04Copy f).2.2.2.1, (specl04Copy f).2.2.2.2))))] [] [] [] [(1, .val (.b true)), (2, .val (.b false)), (6, .val (.i (((specl05Copy s_).2.1).length : Int))), (7, .val (.b false)), (13, .val (.b (specIsValidFile ((specl05Copy s_).1) ((specl05Copy s_).2.2, (specl04Copy f).2.1, (specl04Copy f).2.2.1, (specl04Copy f).2.2.2.1, (specl04Copy f).2.2.2.2))))] (o2 (ob_call (cb h1n (specIsValidStore_a (specl05Copy s_)))) (o2 (ob_eq (show .b (!true) = .b false from rfl)) (o2 (ob_eq (av_len ((specl05Copy s_).2.1))) (o2 (ob_eq (av_bool h2)) (o1 (ob_call (specIsValidFile_a ((specl05Copy s_).1) ((specl05Copy s_).2.2, (specl04Copy f).2.1, (specl04Copy f).2.2.1, (specl04Copy f).2.2.2.1, (specl04Copy f).2.2.2.2)))))))) ?_
      exact ⟨rfl, weak_fit (by rw [h1, h2]; first | done | kernel_rfl)⟩
  refine ck ((!(specIsValidStore (specl05Copy s_))) || (decide ((((specl05Copy s_).2.1).length : Int) ≥ (12 : Int)) || (!(specIsValidFile ((specl05Copy s_).1) ((specl05Copy s_).2.2, (specl04Copy f).2.1, (specl04Copy f).2.2.1, (specl04Copy f).2.2.2.1, (specl04Copy f).2.2.2.2))))) (fun h3 => ?_) (fun h3 => ?_)
  ·
    refine awp_seq ?_
    refine rk tt_ok [] [29] [(4, [.o 512 ((specl05Copy s_).1), .o 513 ((specl05Copy s_).2.1), .i ((specl05Copy s_).2.2)])] [4] [] (o0) ?_
    refine awp_ret ?_
    exact pret [] (congrArg (fun z => (.tup [(true, [.o 0 z.1.1, .o 1 z.1.2.1, .i z.1.2.2]), (false, [.i z.2.1]), (false, [.b z.2.2])] : AV)) (show specCreateFile s_ f = ((specl05Copy s_), 0, false) from bif_t h3 (rfl)).symm)
  ·
    have h3l : ((!(specIsValidStore (specl05Copy s_)))) = false := or_l h3
    have h3ln : (specIsValidStore (specl05Copy s_)) = true := bnot_f h3l
    have h3r : ((decide ((((specl05Copy s_).2.1).length : Int) ≥ (12 : Int)) || (!(specIsValidFile ((specl05Copy s_).1) ((specl05Copy s_).2.2, (specl04Copy f).2.1, (specl04Copy f).2.2.1, (specl04Copy f).2.2.2.1, (specl04Copy f).2.2.2.2))))) = false := or_r h3
    have h3rl : (decide ((((specl05Copy s_).2.1).length : Int) ≥ (12 : Int))) = false := or_l h3r
    have h3rld := of_decide_eq_false h3rl
    have h3rr : ((!(specIsValidFile ((specl05Copy s_).1) ((specl05Copy s_).2.2, (specl04Copy f).2.1, (specl04Copy f).2.2.1, (specl04Copy f).2.2.2.1, (specl04Copy f).2.2.2.2)))) = false := or_r h3r
    have h3rrn : (specIsValidFile ((specl05Copy s_).1) ((specl05Copy s_).2.2, (specl04Copy f).2.1, (specl04Copy f).2.2.1, (specl04Copy f).2.2.2.1, (specl04Copy f).2.2.2.2)) = true := bnot_f h3rr
    refine awp_skip ?_
    refine awp_seq ?_
    refine wdB 2 1 (.own true 513) ((specl05Copy s_).2.1) (fun hw4 => ?_)
    have hl5 : List.length ((specl05Copy s_).2.1) ≤ 1073741824 := wide_len (hw4)
    refine rk tt_ok [] [29] [(2, [.o 512 ((specl05Copy s_).1), .slc (.own true 2240) 5 ((eL ((specl05Copy s_).2.1)) ++ [[.i ((specl05Copy s_).2.2), .i ((specl04Copy f).2.1), .b ((specl04Copy f).2.2.1), .i ((specl04Copy f).2.2.2.1), .h ((specl04Copy f).2.2.2.2)]]), .i ((specl05Copy s_).2.2)]), (3, [.i ((specl05Copy s_).2.2), .i ((specl04Copy f).2.1), .b ((specl04Copy f).2.2.1), .i ((specl04Copy f).2.2.2.1), .dead])] [2, 3] [] (o1 (ob_len (len_of (eL_length ((specl05Copy s_).2.1)) (eL_length [((specl05Copy s_).2.2, (specl04Copy f).2.1, (specl04Copy f).2.2.1, (specl04Copy f).2.2.2.1, (specl04Copy f).2.2.2.2)]) (by first | omega | (simp; omega) | simp)))) ?_
    refine eqn [] [] [(2, [.o 512 ((specl05Copy s_).1), .o 2240 ((specl05Copy s_).2.1 ++ [((specl05Copy s_).2.2, (specl04Copy f).2.1, (specl04Copy f).2.2.1, (specl04Copy f).2.2.2.1, (specl04Copy f).2.2.2.2)]), .i ((specl05Copy s_).2.2)])] [2] (by rw [show ((eL ((specl05Copy s_).2.1)) ++ [[.i ((specl05Copy s_).2.2), .i ((specl04Copy f).2.1), .b ((specl04Copy f).2.2.1), .i ((specl04Copy f).2.2.2.1), .h ((specl04Copy f).2.2.2.2)]]) = (eL ((specl05Copy s_).2.1 ++ [((specl05Copy s_).2.2, (specl04Copy f).2.1, (specl04Copy f).2.2.1, (specl04Copy f).2.2.2.1, (specl04Copy f).2.2.2.2)])) from app_eL (rfl) (rfl)]; first | done | kernel_rfl) ?_
    refine awp_seq ?_
    refine rk tt_ok [] [] [(2, [.o 512 ((specl05Copy s_).1), .o 2240 ((specl05Copy s_).2.1 ++ [((specl05Copy s_).2.2, (specl04Copy f).2.1, (specl04Copy f).2.2.1, (specl04Copy f).2.2.2.1, (specl04Copy f).2.2.2.2)]), .i (IntKind.i64.wrap ((specl05Copy s_).2.2 + 1))])] [2] [] (o0) ?_
    refine awp_seq ?_
    refine rd' tt_ok tt_mx [(5, .i ((specl05Copy s_).2.2)), (6, .b true)] [2, 3, 5, 6] [(4, [.o 512 ((specl05Copy s_).1), .o 2240 ((specl05Copy s_).2.1 ++ [((specl05Copy s_).2.2, (specl04Copy f).2.1, (specl04Copy f).2.2.1, (specl04Copy f).2.2.2.1, (specl04Copy f).2.2.2.2)]), .i (IntKind.i64.wrap ((specl05Copy s_).2.2 + 1))])] [2, 3, 4] [] (o0) ?_
    refine awp_ret ?_
    exact pret [] (congrArg (fun z => (.tup [(true, [.o 0 z.1.1, .o 1 z.1.2.1, .i z.1.2.2]), (false, [.i z.2.1]), (false, [.b z.2.2])] : AV)) (show specCreateFile s_ f = (((specl05Copy s_).1, (specl05Copy s_).2.1 ++ [((specl05Copy s_).2.2, (specl04Copy f).2.1, (specl04Copy f).2.2.1, (specl04Copy f).2.2.2.1, (specl04Copy f).2.2.2.2)], IntKind.i64.wrap ((specl05Copy s_).2.2 + 1)), (specl05Copy s_).2.2, true) from bif_f h3 (rfl)).symm)
def specNewStore (s_ : (List FieldD)) : StoreD := (s_, [], 1)
theorem specNewStore_a (s_ : (List FieldD)) : ACalls Tryz.prog 8 [.h s_] (.a [.o 0 ((specNewStore s_).1), .o 1 ((specNewStore s_).2.1), .i ((specNewStore s_).2.2)]) := by
  refine acalls_of (tt := tt) tt_ok Tryz.func8 (fn := Tryz.f8) rfl (by unfold FnOk; kernel_rfl) (Nat.le_of_ble_eq_true rfl) fun w0 F0 hG => ?_
  refine awp_seq ?_
  refine rk tt_ok [(2, .p 2 0)] [] [(2, [.e 2, .e 5, .i 0])] [] [] (o0) ?_
  refine awp_seq ?_
  refine wdT 0 0 .sh s_ (fun hw1 => ?_)
  have hl2 : List.length s_ ≤ 1073741824 := wide_len (hw1)
  refine rk tt_ok [] [0] [(2, [.o 320 s_, .e 5, .i 1])] [2] [(2, .flat)] (o2 (ob_len (n := (([] : List (List PV)).length + ((eL s_) : List (List PV)).length)) (len_of (rfl) (eL_length s_) (by first | omega | (simp; omega) | simp))) (o1 (ob_flat (flat_eL s_)))) ?_
  refine opn [(true, 2, 1, true, 384000, 5)] ?_
  refine awp_ret ?_
  exact pret [] (congrArg (fun z => (.a [.o 0 z.1, .o 1 z.2.1, .i z.2.2] : AV)) (show specNewStore s_ = (s_, [], 1) from rfl).symm)
def specl03Usual : (List FieldD) := [((⟨#[97]⟩, 1) : FieldD), ((⟨#[98]⟩, 1) : FieldD), ((⟨#[110]⟩, 2) : FieldD), ((⟨#[116]⟩, 2) : FieldD)]
theorem specl03Usual_a : ACalls Tryz.prog 16 [] (.o 0 specl03Usual) := by
  refine acalls_of (tt := tt) tt_ok Tryz.func16 (fn := Tryz.f16) rfl (by unfold FnOk; kernel_rfl) (Nat.le_of_ble_eq_true rfl) fun w0 F0 hG => ?_
  refine awp_seq ?_
  refine rk tt_ok [(0, .e 0)] [] [] [] [] (o0) ?_
  refine awp_seq ?_
  refine rk tt_ok [(0, .o 320 [((⟨#[97]⟩, 1) : FieldD), ((⟨#[98]⟩, 1) : FieldD), ((⟨#[110]⟩, 2) : FieldD), ((⟨#[116]⟩, 2) : FieldD)])] [0] [] [] [] (o0) ?_
  refine awp_ret ?_
  exact pret [] (congrArg (fun z => (.o 0 z : AV)) (show specl03Usual = [((⟨#[97]⟩, 1) : FieldD), ((⟨#[98]⟩, 1) : FieldD), ((⟨#[110]⟩, 2) : FieldD), ((⟨#[116]⟩, 2) : FieldD)] from rfl).symm)
def specDefaultSchema : (List FieldD) := specl03Usual
theorem specDefaultSchema_a : ACalls Tryz.prog 9 [] (.o 0 specDefaultSchema) := by
  refine acalls_of (tt := tt) tt_ok Tryz.func9 (fn := Tryz.f9) rfl (by unfold FnOk; kernel_rfl) (Nat.le_of_ble_eq_true rfl) fun w0 F0 hG => ?_
  refine awp_seq ?_
  refine rk tt_ok [(0, .e 0)] [] [] [] [] (o0) ?_
  refine awp_seq ?_
  refine rk tt_ok [(0, .o 64 specl03Usual)] [0] [] [] [(0, .val (.o 0 specl03Usual))] (o1 (ob_call (specl03Usual_a))) ?_
  refine awp_ret ?_
  exact pret [] (congrArg (fun z => (.o 0 z : AV)) (show specDefaultSchema = specl03Usual from rfl).symm)
def specSetAttr_f0 (name : ByteArray) (_ : Nat) (a0 : AttrD) (s0 : (List AttrD)) : Rd (FileD) ((List AttrD)) ((List AttrD)) := (bif (!(a0.1.toList == name.toList)) then (.next (s0 ++ [a0])) else (.next s0))
def specSetAttr_e0 (_ : Nat) (s0 : (List AttrD)) : (List AttrD) := s0
def specSetAttr_f1 (name : ByteArray) (k1 : Nat) (a1 : AttrD) (_ : Unit) : Rd (FileD) (Unit) (Int) := (bif (Op.bytesLess a1.1.toList name.toList || a1.1.toList == name.toList) then (.next ()) else (.brk ((k1 : Nat) : Int)))
def specSetAttr_e1 (k1 : Nat) (_ : Unit) : Int := ((k1 : Nat) : Int)
def specSetAttr (f : FileD) (name : ByteArray) (v : ValueD) : FileD := (Out.on (forL (specSetAttr_f0 name) specSetAttr_e0 f.2.2.2.2 0 []) (fun y0 => (bif (v.1 != (0 : Int)) then (Out.on (forL (specSetAttr_f1 name) specSetAttr_e1 y0 0 ()) (fun y1 => (f.1, f.2.1, f.2.2.1, f.2.2.2.1, List.take (Int.toNat y1) y0 ++ [(name, v)] ++ (List.drop (Int.toNat y1) y0)))) else (f.1, f.2.1, f.2.2.1, f.2.2.2.1, y0))))
theorem specSetAttr_a (f : FileD) (name : ByteArray) (v : ValueD) (hp : List.length f.2.2.2.2 ≤ 1073741000) : ACalls Tryz.prog 6 [.a [.i f.1, .i f.2.1, .b f.2.2.1, .i f.2.2.2.1, .h f.2.2.2.2], .s name, .a [.i v.1, .i v.2.1, .s v.2.2]] (.a [.i ((specSetAttr f name v).1), .i ((specSetAttr f name v).2.1), .b ((specSetAttr f name v).2.2.1), .i ((specSetAttr f name v).2.2.2.1), .o 0 ((specSetAttr f name v).2.2.2.2)]) := by
  refine acalls_of (tt := tt) tt_ok Tryz.func6 (fn := Tryz.f6) rfl (by unfold FnOk; kernel_rfl) (Nat.le_of_ble_eq_true rfl) fun w0 F0 hG => ?_
  refine awp_seq ?_
  refine rk tt_ok [(3, .p 3 0), (5, .p 5 0), (6, .p 6 0)] [0, 2] [(3, [.i f.1, .i f.2.1, .b f.2.2.1, .i f.2.2.2.1, .h f.2.2.2.2]), (5, [.i v.1, .i v.2.1, .s v.2.2]), (6, [.i 0, .i 0, .b false, .i 0, .e 4])] [] [] (o0) ?_
  refine awp_seq ?_
  refine rk tt_ok [(7, .one (.slc (.own true 704) 4 []))] [] [] [] [] (o0) ?_
  refine awp_seq ?_
  refine awp_seq ?_
  refine rk tt_ok [(8, .i 0)] [] [] [] [] (o0) ?_
  refine wdB 3 4 .sh f.2.2.2.2 (fun hw1 => ?_)
  have hl2 : List.length f.2.2.2.2 ≤ 1073741824 := wide_len (hw1)
  refine blk (fun (k0 : Nat) (s0 : (List AttrD)) => [(7, .o 147204 s0), (8, .i ((k0 : Nat) : Int))]) [7, 8] (fun k0 s0 => []) [] (fun (y0 : (List AttrD)) => [(7, .o 147354 y0)]) [7, 8] (fun y0 => []) [] (fun (k0 : Nat) (s0 : (List AttrD)) => (forL (specSetAttr_f0 name) specSetAttr_e0 f.2.2.2.2 0 []) = forL (specSetAttr_f0 name) specSetAttr_e0 (List.drop k0 f.2.2.2.2) k0 s0 ∧ List.length s0 ≤ k0) (fun (y0 : (List AttrD)) => (forL (specSetAttr_f0 name) specSetAttr_e0 f.2.2.2.2 0 []) = .brk y0 ∧ List.length y0 ≤ List.length f.2.2.2.2) f.2.2.2.2.length [] (weak_sf [(704, 147204)] (by kernel_rfl)) ⟨rfl, (by simp)⟩ (fun k0 s0 hk0 hI0 => ?_) (fun k0 s0 hk0 hI0 => ?_) (fun y0 hD0 => ?_)
  ·
    have hA0_0 := hI0.2
    obtain ⟨a0, hx0⟩ := get_some (l := f.2.2.2.2) (i := k0) hk0
    refine awp_seq ?_
    refine awp_seq ?_
    refine rk tt_ok [(16, .b true)] [] [] [] [(3, .val (.i (f.2.2.2.2.length : Int))), (4, .val (.b true))] (o2 (ob_eq (av_len f.2.2.2.2)) (o1 (ob_eq (av_bool (decide_eq_true (p := ((k0 : Nat) : Int) < (f.2.2.2.2.length : Int)) (by omega)))))) ?_
    refine ckT ?_
    refine awp_skip ?_
    refine awp_seq ?_
    refine awp_block ?_
    refine awp_seq ?_
    refine rk tt_ok [(26, .b (!(a0.1.toList == name.toList)))] [16] [] [] [(3, .row [.s a0.1, .i a0.2.1, .i a0.2.2.1, .s a0.2.2.2])] (o1 (ob_elem (el_of (i := ((k0 : Nat) : Int)) (by omega) rfl hx0))) ?_
    refine ck (!(a0.1.toList == name.toList)) (fun h3 => ?_) (fun h3 => ?_)
    ·
      have h3n : (a0.1.toList == name.toList) = false := bnot_t h3
      refine wdT 7 0 (.own true 147204) s0 (fun hw4 => ?_)
      have hl5 : List.length s0 ≤ 1073741824 := wide_len (hw4)
      refine rk tt_ok [(7, .one (.slc (.own true 2176) 4 ((eL s0) ++ [[.s a0.1, .i a0.2.1, .i a0.2.2.1, .s a0.2.2.2]])))] [7, 26] [] [] [(4, .row [.s a0.1, .i a0.2.1, .i a0.2.2.1, .s a0.2.2.2])] (o2 (ob_elem (el_of (i := ((k0 : Nat) : Int)) (by omega) rfl hx0)) (o1 (ob_len (len_of (eL_length s0) (eL_length [a0]) (by first | omega | (simp; omega) | simp))))) ?_
      refine eqn [(7, .o 2176 (s0 ++ [a0]))] [7] [] [] (by rw [show ((eL s0) ++ [[.s a0.1, .i a0.2.1, .i a0.2.2.1, .s a0.2.2.2]]) = (eL (s0 ++ [a0])) from app_eL (rfl) (rfl)]; first | done | kernel_rfl) ?_
      refine rk tt_ok [(8, .i ((k0 + 1 : Nat) : Int))] [8] [] [] [(1, .val (.i ((k0 + 1 : Nat) : Int)))] (o1 (ob_eq (av_i (wrap_succ k0 (by omega))))) ?_
      exact Exists.intro (s0 ++ [a0]) (And.intro (weak_sf [(2176, 147204)] (by kernel_rfl)) ⟨forL_next hx0 (bif_t h3 (rfl)) hI0.1, by first | omega | (simp; omega) | simp⟩)
    ·
      have h3n : (a0.1.toList == name.toList) = true := bnot_f h3
      refine awp_skip ?_
      refine rk tt_ok [(8, .i ((k0 + 1 : Nat) : Int))] [8, 26] [] [] [(1, .val (.i ((k0 + 1 : Nat) : Int)))] (o1 (ob_eq (av_i (wrap_succ k0 (by omega))))) ?_
      exact Exists.intro s0 (And.intro (weak_fit (by kernel_rfl)) ⟨forL_next hx0 (bif_f h3 (rfl)) hI0.1, by first | omega | (simp; omega) | simp⟩)
  ·
    have hA0_0 := hI0.2
    refine awp_seq ?_
    refine awp_seq ?_
    refine rk tt_ok [(16, .b false)] [] [] [] [(3, .val (.i (f.2.2.2.2.length : Int))), (4, .val (.b false))] (o2 (ob_eq (av_len f.2.2.2.2)) (o1 (ob_eq (av_bool (decide_eq_false (p := ((k0 : Nat) : Int) < (f.2.2.2.2.length : Int)) (by omega)))))) ?_
    refine ckF ?_
    refine awp_exit ?_
    exact Exists.intro s0 (And.intro (weak_sf [(147204, 147354)] (by kernel_rfl)) ⟨forL_end hk0 (rfl) hI0.1, by first | omega | (simp only [List.length_set]; omega)⟩)
  ·
    have hD0_0 := hD0.2
    refine awp_seq ?_
    refine awp_seq ?_
    refine rk tt_ok [(37, .b (v.1 != (0 : Int)))] [] [] [] [] (o0) ?_
    refine ck (v.1 != (0 : Int)) (fun h6 => ?_) (fun h6 => ?_)
    ·
      have h6d := ne_of_bne h6
      refine awp_seq ?_
      refine rk tt_ok [(9, .i 0)] [37] [] [] [] (o0) ?_
      refine awp_seq ?_
      refine wdT 7 0 (.own true 147354) y0 (fun hw7 => ?_)
      have hl8 : List.length y0 ≤ 1073741824 := wide_len (hw7)
      refine blk (fun (k1 : Nat) (s1 : Unit) => [(9, .i ((k1 : Nat) : Int))]) [9] (fun k1 s1 => []) [] (fun (y1 : Int) => [(9, .i y1)]) [9] (fun y1 => []) [] (fun (k1 : Nat) (s1 : Unit) => (forL (specSetAttr_f1 name) specSetAttr_e1 y0 0 ()) = forL (specSetAttr_f1 name) specSetAttr_e1 (List.drop k1 y0) k1 s1) (fun (y1 : Int) => (forL (specSetAttr_f1 name) specSetAttr_e1 y0 0 ()) = .brk y1 ∧ 0 ≤ y1 ∧ y1 ≤ (y0.length : Int)) y0.length () (weak_fit (by kernel_rfl)) rfl (fun k1 s1 hk1 hI1 => ?_) (fun k1 s1 hk1 hI1 => ?_) (fun y1 hD1 => ?_)
      ·
        obtain ⟨a1, hx1⟩ := get_some (l := y0) (i := k1) hk1
        refine awp_seq ?_
        refine awp_seq ?_
        refine rk tt_ok [(50, .b (Op.bytesLess a1.1.toList name.toList || a1.1.toList == name.toList))] [] [] [] [(2, .val (.i (y0.length : Int))), (3, .val (.b true)), (7, .rowE [.s a1.1, .i a1.2.1, .i a1.2.2.1, .s a1.2.2.2])] (o2 (ob_eq (av_len y0)) (o2 (ob_eq (av_bool (decide_eq_true (p := ((k1 : Nat) : Int) < (y0.length : Int)) (by omega)))) (o1 (ob_elem (el_of (i := ((k1 : Nat) : Int)) (by omega) rfl hx1))))) ?_
        refine ck (Op.bytesLess a1.1.toList name.toList || a1.1.toList == name.toList) (fun h9 => ?_) (fun h9 => ?_)
        ·
          refine awp_skip ?_
          refine awp_block ?_
          refine rk tt_ok [(9, .i ((k1 + 1 : Nat) : Int))] [9, 50] [] [] [(1, .val (.i ((k1 + 1 : Nat) : Int)))] (o1 (ob_eq (av_i (wrap_succ k1 (by omega))))) ?_
          exact Exists.intro () (And.intro (weak_fit (by kernel_rfl)) (forL_next hx1 (bif_t h9 (rfl)) hI1))
        ·
          have h9l : (Op.bytesLess a1.1.toList name.toList) = false := or_l h9
          have h9r : (a1.1.toList == name.toList) = false := or_r h9
          refine awp_exit ?_
          exact Exists.intro ((k1 : Nat) : Int) (And.intro (weak_fit (by kernel_rfl)) ⟨forL_brk hx1 (bif_f h9 (rfl)) hI1, by first | omega | (simp only [List.length_set]; omega)⟩)
      ·
        refine awp_seq ?_
        refine awp_seq ?_
        refine rk tt_ok [(50, .b false)] [] [] [] [(2, .val (.i (y0.length : Int))), (3, .val (.b false))] (o2 (ob_eq (av_len y0)) (o1 (ob_eq (av_bool (decide_eq_false (p := ((k1 : Nat) : Int) < (y0.length : Int)) (by omega)))))) ?_
        refine ckF ?_
        refine awp_exit ?_
        exact Exists.intro ((k1 : Nat) : Int) (And.intro (weak_fit (by kernel_rfl)) ⟨forL_end hk1 (rfl) hI1, by first | omega | (simp only [List.length_set]; omega)⟩)
      ·
        have hD1_0 := hD1.2
        refine awp_seq ?_
        refine rd' tt_ok tt_mx [(10, .one (.slc (.own true 3968) 4 (([] ++ (eL (List.take (Int.toNat y1) y0))) ++ [[.s name, .i v.1, .i v.2.1, .s v.2.2]])))] [1, 5] [] [5] [(3, .val (.v 147354 (List.take (Int.toNat y1) y0))), (4, .flat)] (o2 (ob_eq (av_take (.vw 147354) 4 (Int.toNat y1) y1 y0 rfl)) (o2 (ob_rng (lo := 0) (hi := y1) (n := (List.length (eL y0))) (rng_of (by omega) (by omega) (by omega))) (o2 (ob_len (n := (([] : List (List PV)).length + ((eL (List.take (Int.toNat y1) y0)) : List (List PV)).length)) (len_of (rfl) (eL_length (List.take (Int.toNat y1) y0)) (by first | omega | (simp; omega) | simp))) (o2 (ob_flat (flat_eL (List.take (Int.toNat y1) y0))) (o1 (ob_len (n := ((([] ++ (eL (List.take (Int.toNat y1) y0))) : List (List PV)).length + ([[.s name, .i v.1, .i v.2.1, .s v.2.2]] : List (List PV)).length)) (by simp [eL_length]; omega))))))) ?_
        refine eqn [(10, .o 3968 (List.take (Int.toNat y1) y0 ++ [(name, v)]))] [10] [] [] (by rw [show (([] ++ (eL (List.take (Int.toNat y1) y0))) ++ [[.s name, .i v.1, .i v.2.1, .s v.2.2]]) = (eL (List.take (Int.toNat y1) y0 ++ [(name, v)])) from app_eL (rfl) (rfl)]; first | done | kernel_rfl) ?_
        refine wdT 10 0 (.own true 3968) (List.take (Int.toNat y1) y0 ++ [(name, v)]) (fun hw10 => ?_)
        have hl11 : List.length (List.take (Int.toNat y1) y0 ++ [(name, v)]) ≤ 1073741824 := wide_len (hw10)
        refine rk tt_ok [(7, .one (.slc (.own true 4288) 4 ((eL (List.take (Int.toNat y1) y0 ++ [(name, v)])) ++ (eL (List.drop (Int.toNat y1) y0)))))] [7, 9, 10] [] [] [(3, .val (.v 147354 (List.drop (Int.toNat y1) y0))), (4, .flat)] (o2 (ob_eq (av_drop (.vw 147354) 4 (Int.toNat y1) y1 y0 rfl)) (o2 (ob_rng (lo := y1) (hi := (((eL y0) : List (List PV)).length : Int)) (n := (List.length (eL y0))) (rng_all (by omega) (by omega))) (o2 (ob_len (len_of (eL_length (List.take (Int.toNat y1) y0 ++ [(name, v)])) (eL_length (List.drop (Int.toNat y1) y0)) (by first | omega | (simp; omega) | simp))) (o1 (ob_flat (flat_eL (List.drop (Int.toNat y1) y0))))))) ?_
        refine eqn [(7, .o 4288 (List.take (Int.toNat y1) y0 ++ [(name, v)] ++ (List.drop (Int.toNat y1) y0)))] [7] [] [] (by rw [show ((eL (List.take (Int.toNat y1) y0 ++ [(name, v)])) ++ (eL (List.drop (Int.toNat y1) y0))) = (eL (List.take (Int.toNat y1) y0 ++ [(name, v)] ++ (List.drop (Int.toNat y1) y0))) from app_eL (rfl) (rfl)]; first | done | kernel_rfl) ?_
        refine awp_seq ?_
        refine rk tt_ok [] [7] [(3, [.i f.1, .i f.2.1, .b f.2.2.1, .i f.2.2.2.1, .o 4288 (List.take (Int.toNat y1) y0 ++ [(name, v)] ++ (List.drop (Int.toNat y1) y0))])] [3] [] (o0) ?_
        refine awp_seq ?_
        refine rk tt_ok [] [3] [(6, [.i f.1, .i f.2.1, .b f.2.2.1, .i f.2.2.2.1, .o 4288 (List.take (Int.toNat y1) y0 ++ [(name, v)] ++ (List.drop (Int.toNat y1) y0))])] [3, 6] [] (o0) ?_
        refine awp_ret ?_
        exact pret [] (congrArg (fun z => (.a [.i z.1, .i z.2.1, .b z.2.2.1, .i z.2.2.2.1, .o 0 z.2.2.2.2] : AV)) (show specSetAttr f name v = (f.1, f.2.1, f.2.2.1, f.2.2.2.1, List.take (Int.toNat y1) y0 ++ [(name, v)] ++ (List.drop (Int.toNat y1) y0)) from on_b hD0.1 (bif_t h6 (on_b hD1.1 (rfl)))).symm)
    ·
      have h6d := eq_of_bne h6
      refine awp_skip ?_
      refine awp_seq ?_
      refine rk tt_ok [] [1, 5, 7, 37] [(3, [.i f.1, .i f.2.1, .b f.2.2.1, .i f.2.2.2.1, .o 147354 y0])] [3, 5] [] (o0) ?_
      refine awp_seq ?_
      refine rk tt_ok [] [3] [(6, [.i f.1, .i f.2.1, .b f.2.2.1, .i f.2.2.2.1, .o 147354 y0])] [3, 6] [] (o0) ?_
      refine awp_ret ?_
      exact pret [] (congrArg (fun z => (.a [.i z.1, .i z.2.1, .b z.2.2.1, .i z.2.2.2.1, .o 0 z.2.2.2.2] : AV)) (show specSetAttr f name v = (f.1, f.2.1, f.2.2.1, f.2.2.2.1, y0) from on_b hD0.1 (bif_f h6 (rfl))).symm)
def specStringValue (w : ByteArray) : ValueD := (2, 0, w)
theorem specStringValue_a (w : ByteArray) : ACalls Tryz.prog 7 [.s w] (.a [.i ((specStringValue w).1), .i ((specStringValue w).2.1), .s ((specStringValue w).2.2)]) := by
  refine acalls_of (tt := tt) tt_ok Tryz.func7 (fn := Tryz.f7) rfl (by unfold FnOk; kernel_rfl) (Nat.le_of_ble_eq_true rfl) fun w0 F0 hG => ?_
  refine awp_seq ?_
  refine rk tt_ok [(2, .p 2 0)] [] [(2, [.i 0, .i 0, .s ⟨#[]⟩])] [] [] (o0) ?_
  refine awp_seq ?_
  refine rk tt_ok [] [0] [(2, [.i 2, .i 0, .s w])] [2] [] (o0) ?_
  refine awp_ret ?_
  exact pret [] (congrArg (fun z => (.a [.i z.1, .i z.2.1, .s z.2.2] : AV)) (show specStringValue w = (2, 0, w) from rfl).symm)
open GoE (enc wide)
def lawsbig (code : (List UInt8)) : Bool := decide ((code.length : Int) > (1048576 : Int))
theorem lawsbig_a (code : (List UInt8)) : ACalls Tryz.prog 4 [.h code] (.b (lawsbig code)) := by
  refine acalls_of (tt := tt) tt_ok Tryz.func4 (fn := Tryz.f4) rfl (by unfold FnOk; kernel_rfl) (Nat.le_of_ble_eq_true rfl) fun w0 F0 hG => ?_
  refine awp_seq ?_
  refine rk tt_ok [(2, .b false)] [] [] [] [] (o0) ?_
  refine awp_seq ?_
  refine rk tt_ok [(2, .b (decide ((code.length : Int) > (1048576 : Int))))] [0, 2] [] [] [(1, .val (.i (code.length : Int)))] (o1 (ob_eq (av_len code))) ?_
  refine awp_ret ?_
  exact pret [] (congrArg (fun z => (.b z : AV)) (show lawsbig code = decide ((code.length : Int) > (1048576 : Int)) from rfl).symm)
def lawssameTexts_f0 (b : (List ByteArray)) (k0 : Nat) (a0 : ByteArray) (_ : Unit) : Rd (Bool) (Unit) (Unit) := (bif (!(a0.toList == (nth b k0).toList)) then (.ret false) else (.next ()))
def lawssameTexts_e0 (_ : Nat) (_ : Unit) : Unit := ()
def lawssameTexts (a_ : (List ByteArray)) (b : (List ByteArray)) : Bool := (bif ((a_.length : Int) != (b.length : Int)) then false else (Out.on (forL (lawssameTexts_f0 b) lawssameTexts_e0 a_ 0 ()) (fun _ => true)))
theorem lawssameTexts_a (a_ : (List ByteArray)) (b : (List ByteArray)) : ACalls Tryz.prog 11 [.h a_, .h b] (.b (lawssameTexts a_ b)) := by
  refine acalls_of (tt := tt) tt_ok Tryz.func11 (fn := Tryz.f11) rfl (by unfold FnOk; kernel_rfl) (Nat.le_of_ble_eq_true rfl) fun w0 F0 hG => ?_
  refine awp_seq ?_
  refine rk tt_ok [(4, .b false)] [] [] [] [] (o0) ?_
  refine awp_seq ?_
  refine awp_seq ?_
  refine rk tt_ok [(10, .b ((a_.length : Int) != (b.length : Int)))] [] [] [] [(1, .val (.i (a_.length : Int))), (3, .val (.i (b.length : Int)))] (o2 (ob_eq (av_len a_)) (o1 (ob_eq (av_len b)))) ?_
  refine ck ((a_.length : Int) != (b.length : Int)) (fun h1 => ?_) (fun h1 => ?_)
  ·
    have h1d := ne_of_bne h1
    refine awp_seq ?_
    refine rk tt_ok [] [10] [] [] [] (o0) ?_
    refine awp_ret ?_
    exact pret [] (congrArg (fun z => (.b z : AV)) (show lawssameTexts a_ b = false from bif_t h1 (rfl)).symm)
  ·
    have h1d := eq_of_bne h1
    refine awp_skip ?_
    refine awp_seq ?_
    refine awp_seq ?_
    refine rk tt_ok [(5, .i 0)] [10] [] [] [] (o0) ?_
    refine wdT 0 0 .sh a_ (fun hw2 => ?_)
    have hl3 : List.length a_ ≤ 1073741824 := wide_len (hw2)
    refine blk (fun (k0 : Nat) (s0 : Unit) => [(5, .i ((k0 : Nat) : Int))]) [5] (fun k0 s0 => []) [] (fun (y0 : Unit) => []) [0, 1, 5] (fun y0 => []) [] (fun (k0 : Nat) (s0 : Unit) => (forL (lawssameTexts_f0 b) lawssameTexts_e0 a_ 0 ()) = forL (lawssameTexts_f0 b) lawssameTexts_e0 (List.drop k0 a_) k0 s0) (fun (y0 : Unit) => (forL (lawssameTexts_f0 b) lawssameTexts_e0 a_ 0 ()) = .brk y0) a_.length () (weak_fit (by kernel_rfl)) rfl (fun k0 s0 hk0 hI0 => ?_) (fun k0 s0 hk0 hI0 => ?_) (fun y0 hD0 => ?_)
    ·
      obtain ⟨a0, hx0⟩ := get_some (l := a_) (i := k0) hk0
      refine awp_seq ?_
      refine awp_seq ?_
      refine rk tt_ok [(14, .b true)] [] [] [] [(2, .val (.i (a_.length : Int))), (3, .val (.b true))] (o2 (ob_eq (av_len a_)) (o1 (ob_eq (av_bool (decide_eq_true (p := ((k0 : Nat) : Int) < (a_.length : Int)) (by omega)))))) ?_
      refine ckT ?_
      refine awp_skip ?_
      refine awp_seq ?_
      refine awp_block ?_
      refine awp_seq ?_
      refine wdT 1 0 .sh b (fun hw5 => ?_)
      have hl6 : List.length b ≤ 1073741824 := wide_len (hw5)
      have hx4 : b[k0]? = some (nth b k0) := nth_get (by omega)
      refine rd' tt_ok tt_mx [(25, .b (!(a0.toList == (nth b k0).toList)))] [14] [] [] [(2, .row [.s a0]), (6, .row [.s (nth b k0)])] (o2 (ob_elem (el_of (i := ((k0 : Nat) : Int)) (by omega) rfl hx0)) (o1 (ob_elem (el_of (i := ((k0 : Nat) : Int)) (by omega) rfl hx4)))) ?_
      refine ck (!(a0.toList == (nth b k0).toList)) (fun h7 => ?_) (fun h7 => ?_)
      ·
        have h7n : (a0.toList == (nth b k0).toList) = false := bnot_t h7
        refine awp_seq ?_
        refine rk tt_ok [] [25] [] [] [] (o0) ?_
        refine awp_ret ?_
        have hr8 : (forL (lawssameTexts_f0 b) lawssameTexts_e0 a_ 0 ()) = .ret false := forL_ret hx0 (bif_t h7 (rfl)) hI0
        exact pret [] (congrArg (fun z => (.b z : AV)) (show lawssameTexts a_ b = false from bif_f h1 (on_r hr8)).symm)
      ·
        have h7n : (a0.toList == (nth b k0).toList) = true := bnot_f h7
        refine awp_skip ?_
        refine rk tt_ok [(5, .i ((k0 + 1 : Nat) : Int))] [5, 25] [] [] [(1, .val (.i ((k0 + 1 : Nat) : Int)))] (o1 (ob_eq (av_i (wrap_succ k0 (by omega))))) ?_
        exact Exists.intro () (And.intro (weak_fit (by kernel_rfl)) (forL_next hx0 (bif_f h7 (rfl)) hI0))
    ·
      refine awp_seq ?_
      refine awp_seq ?_
      refine rk tt_ok [(14, .b false)] [] [] [] [(2, .val (.i (a_.length : Int))), (3, .val (.b false))] (o2 (ob_eq (av_len a_)) (o1 (ob_eq (av_bool (decide_eq_false (p := ((k0 : Nat) : Int) < (a_.length : Int)) (by omega)))))) ?_
      refine ckF ?_
      refine awp_exit ?_
      exact Exists.intro () (And.intro (weak_fit (by kernel_rfl)) (forL_end hk0 (rfl) hI0))
    ·
      refine awp_seq ?_
      refine rk tt_ok [(4, .b true)] [4] [] [] [] (o0) ?_
      refine awp_ret ?_
      exact pret [] (congrArg (fun z => (.b z : AV)) (show lawssameTexts a_ b = true from bif_f h1 (on_b hD0 (rfl))).symm)
def lawsFnHiddenNames (code : (List UInt8)) : Bool := (bif (lawsbig code) then true else (bif (Int.tmod (nth (specDrawPlaces code) 0) 2 == (0 : Int)) then ((lawssameTexts (implRenderView (((specCreateFile (((specCreateFile (specNewStore specDefaultSchema) (specSetAttr (0, 1, false, 0, []) ⟨#[110]⟩ (specStringValue ⟨#[105, 110, 107]⟩)))).1) (specSetAttr (0, 0, true, 0, []) ⟨#[110]⟩ (specStringValue ⟨#[105, 110, 107]⟩)))).1) [((⟨#[100, 97]⟩, [((1, 0, 0, ⟨#[]⟩, (0, 0, ⟨#[]⟩)) : NodeD)]) : DirD)] 0) [⟨#[100, 97, 32, 105, 110, 107]⟩]) && ((((implRenderView (((specCreateFile (((specCreateFile (specNewStore specDefaultSchema) (specSetAttr (0, 1, false, 0, []) ⟨#[110]⟩ (specStringValue ⟨#[105, 110, 107]⟩)))).1) (specSetAttr (0, 0, true, 0, []) ⟨#[110]⟩ (specStringValue ⟨#[105, 110, 107]⟩)))).1) [((⟨#[100, 97]⟩, [((1, 0, 0, ⟨#[]⟩, (0, 0, ⟨#[]⟩)) : NodeD)]) : DirD)] 1).length : Int) == (1 : Int)) && (((implHiddenFiles (((specCreateFile (((specCreateFile (specNewStore specDefaultSchema) (specSetAttr (0, 1, false, 0, []) ⟨#[110]⟩ (specStringValue ⟨#[105, 110, 107]⟩)))).1) (specSetAttr (0, 0, true, 0, []) ⟨#[110]⟩ (specStringValue ⟨#[105, 110, 107]⟩)))).1) 0).length : Int) == IntKind.i64.wrap (1 - Int.tmod (nth (specDrawPlaces code) 0) 2)))) else ((lawssameTexts (implRenderView (((specCreateFile (specNewStore specDefaultSchema) (specSetAttr (0, 0, true, 0, []) ⟨#[110]⟩ (specStringValue ⟨#[105, 110, 107]⟩)))).1) [((⟨#[100, 97]⟩, [((1, 0, 0, ⟨#[]⟩, (0, 0, ⟨#[]⟩)) : NodeD)]) : DirD)] 0) [⟨#[100, 97, 32, 105, 110, 107]⟩]) && ((((implRenderView (((specCreateFile (specNewStore specDefaultSchema) (specSetAttr (0, 0, true, 0, []) ⟨#[110]⟩ (specStringValue ⟨#[105, 110, 107]⟩)))).1) [((⟨#[100, 97]⟩, [((1, 0, 0, ⟨#[]⟩, (0, 0, ⟨#[]⟩)) : NodeD)]) : DirD)] 1).length : Int) == (1 : Int)) && (((implHiddenFiles (((specCreateFile (specNewStore specDefaultSchema) (specSetAttr (0, 0, true, 0, []) ⟨#[110]⟩ (specStringValue ⟨#[105, 110, 107]⟩)))).1) 0).length : Int) == IntKind.i64.wrap (1 - Int.tmod (nth (specDrawPlaces code) 0) 2))))))
theorem lawsFnHiddenNames_a (code : (List UInt8)) : ACalls Tryz.prog 3 [.h code] (.b (lawsFnHiddenNames code)) := by
  refine acalls_of (tt := tt) tt_ok Tryz.func3 (fn := Tryz.f3) rfl (by unfold FnOk; kernel_rfl) (Nat.le_of_ble_eq_true rfl) fun w0 F0 hG => ?_
  have hpl := places_len code
  refine awp_seq ?_
  refine rk tt_ok [(2, .b false)] [] [] [] [] (o0) ?_
  refine awp_seq ?_
  refine awp_seq ?_
  refine rk tt_ok [(9, .b (lawsbig code))] [] [] [] [(1, .val (.b (lawsbig code)))] (o1 (ob_call (lawsbig_a code))) ?_
  refine ck (lawsbig code) (fun h1 => ?_) (fun h1 => ?_)
  ·
    refine awp_seq ?_
    refine rk tt_ok [(2, .b true)] [2, 9] [] [] [] (o0) ?_
    refine awp_ret ?_
    exact pret [] (congrArg (fun z => (.b z : AV)) (show lawsFnHiddenNames code = true from bif_t h1 (rfl)).symm)
  ·
    refine awp_skip ?_
    refine awp_seq ?_
    refine rk tt_ok [(3, .o 704 (specDrawPlaces code))] [0, 9] [] [] [(1, .val (.o 0 (specDrawPlaces code)))] (o1 (ob_call (specDrawPlaces_a code))) ?_
    refine awp_seq ?_
    refine rk tt_ok [(4, .p 4 0)] [] [(4, [.i ((specSetAttr (0, 0, true, 0, []) ⟨#[110]⟩ (specStringValue ⟨#[105, 110, 107]⟩)).1), .i ((specSetAttr (0, 0, true, 0, []) ⟨#[110]⟩ (specStringValue ⟨#[105, 110, 107]⟩)).2.1), .b ((specSetAttr (0, 0, true, 0, []) ⟨#[110]⟩ (specStringValue ⟨#[105, 110, 107]⟩)).2.2.1), .i ((specSetAttr (0, 0, true, 0, []) ⟨#[110]⟩ (specStringValue ⟨#[105, 110, 107]⟩)).2.2.2.1), .o 896 ((specSetAttr (0, 0, true, 0, []) ⟨#[110]⟩ (specStringValue ⟨#[105, 110, 107]⟩)).2.2.2.2)])] [] [(1, .val (.a [.i ((specStringValue ⟨#[105, 110, 107]⟩).1), .i ((specStringValue ⟨#[105, 110, 107]⟩).2.1), .s ((specStringValue ⟨#[105, 110, 107]⟩).2.2)])), (2, .val (.a [.i ((specSetAttr (0, 0, true, 0, []) ⟨#[110]⟩ (specStringValue ⟨#[105, 110, 107]⟩)).1), .i ((specSetAttr (0, 0, true, 0, []) ⟨#[110]⟩ (specStringValue ⟨#[105, 110, 107]⟩)).2.1), .b ((specSetAttr (0, 0, true, 0, []) ⟨#[110]⟩ (specStringValue ⟨#[105, 110, 107]⟩)).2.2.1), .i ((specSetAttr (0, 0, true, 0, []) ⟨#[110]⟩ (specStringValue ⟨#[105, 110, 107]⟩)).2.2.2.1), .o 0 ((specSetAttr (0, 0, true, 0, []) ⟨#[110]⟩ (specStringValue ⟨#[105, 110, 107]⟩)).2.2.2.2)]))] (o2 (ob_call (specStringValue_a ⟨#[105, 110, 107]⟩)) (o1 (ob_call (specSetAttr_a (0, 0, true, 0, []) ⟨#[110]⟩ (specStringValue ⟨#[105, 110, 107]⟩) (by first | omega | (simp; done) | (simp; omega)))))) ?_
    refine awp_seq ?_
    refine rk tt_ok [(5, .p 5 0)] [] [(5, [.i ((specSetAttr (0, 1, false, 0, []) ⟨#[110]⟩ (specStringValue ⟨#[105, 110, 107]⟩)).1), .i ((specSetAttr (0, 1, false, 0, []) ⟨#[110]⟩ (specStringValue ⟨#[105, 110, 107]⟩)).2.1), .b ((specSetAttr (0, 1, false, 0, []) ⟨#[110]⟩ (specStringValue ⟨#[105, 110, 107]⟩)).2.2.1), .i ((specSetAttr (0, 1, false, 0, []) ⟨#[110]⟩ (specStringValue ⟨#[105, 110, 107]⟩)).2.2.2.1), .o 1088 ((specSetAttr (0, 1, false, 0, []) ⟨#[110]⟩ (specStringValue ⟨#[105, 110, 107]⟩)).2.2.2.2)])] [] [(1, .val (.a [.i ((specStringValue ⟨#[105, 110, 107]⟩).1), .i ((specStringValue ⟨#[105, 110, 107]⟩).2.1), .s ((specStringValue ⟨#[105, 110, 107]⟩).2.2)])), (2, .val (.a [.i ((specSetAttr (0, 1, false, 0, []) ⟨#[110]⟩ (specStringValue ⟨#[105, 110, 107]⟩)).1), .i ((specSetAttr (0, 1, false, 0, []) ⟨#[110]⟩ (specStringValue ⟨#[105, 110, 107]⟩)).2.1), .b ((specSetAttr (0, 1, false, 0, []) ⟨#[110]⟩ (specStringValue ⟨#[105, 110, 107]⟩)).2.2.1), .i ((specSetAttr (0, 1, false, 0, []) ⟨#[110]⟩ (specStringValue ⟨#[105, 110, 107]⟩)).2.2.2.1), .o 0 ((specSetAttr (0, 1, false, 0, []) ⟨#[110]⟩ (specStringValue ⟨#[105, 110, 107]⟩)).2.2.2.2)]))] (o2 (ob_call (specStringValue_a ⟨#[105, 110, 107]⟩)) (o1 (ob_call (specSetAttr_a (0, 1, false, 0, []) ⟨#[110]⟩ (specStringValue ⟨#[105, 110, 107]⟩) (by first | omega | (simp; done) | (simp; omega)))))) ?_
    refine awp_seq ?_
    refine rk tt_ok [(6, .o 1344 [((⟨#[100, 97]⟩, [((1, 0, 0, ⟨#[]⟩, (0, 0, ⟨#[]⟩)) : NodeD)]) : DirD)])] [] [] [] [] (o0) ?_
    refine awp_seq ?_
    refine rk tt_ok [(7, .p 7 0)] [] [(7, [.o 1472 ((specNewStore specDefaultSchema).1), .o 1473 ((specNewStore specDefaultSchema).2.1), .i ((specNewStore specDefaultSchema).2.2)])] [] [(0, .val (.o 0 specDefaultSchema)), (1, .val (.a [.o 0 ((specNewStore specDefaultSchema).1), .o 1 ((specNewStore specDefaultSchema).2.1), .i ((specNewStore specDefaultSchema).2.2)]))] (o2 (ob_call (specDefaultSchema_a)) (o1 (ob_call (specNewStore_a specDefaultSchema)))) ?_
    refine awp_seq ?_
    refine awp_seq ?_
    refine wdT 3 0 (.own true 704) (specDrawPlaces code) (fun hw3 => ?_)
    have hl4 : List.length (specDrawPlaces code) ≤ 1073741824 := wide_len (hw3)
    have hx2 : (specDrawPlaces code)[0]? = some (nth (specDrawPlaces code) 0) := nth_get (by omega)
    have hx2b := places_bd code _ (List.mem_of_getElem? hx2)
    refine rk tt_ok [(28, .b (Int.tmod (nth (specDrawPlaces code) 0) 2 == (0 : Int)))] [] [] [] [(1, .rowE [.i (nth (specDrawPlaces code) 0)])] (o2 (ob_elem (el_of (i := 0) (by omega) rfl hx2)) (o2 (ob_nz (n := 2) (by omega)) (o1 (ob_inr (k := .i64) (n := Int.tmod (nth (specDrawPlaces code) 0) 2) (inr_rem0 (by omega)))))) ?_
    refine ck (Int.tmod (nth (specDrawPlaces code) 0) 2 == (0 : Int)) (fun h5 => ?_) (fun h5 => ?_)
    ·
      have h5d := eq_of_beq h5
      refine rk tt_ok [] [5, 28] [(7, [.o 2048 ((((specCreateFile (specNewStore specDefaultSchema) (specSetAttr (0, 1, false, 0, []) ⟨#[110]⟩ (specStringValue ⟨#[105, 110, 107]⟩)))).1).1), .o 2049 ((((specCreateFile (specNewStore specDefaultSchema) (specSetAttr (0, 1, false, 0, []) ⟨#[110]⟩ (specStringValue ⟨#[105, 110, 107]⟩)))).1).2.1), .i ((((specCreateFile (specNewStore specDefaultSchema) (specSetAttr (0, 1, false, 0, []) ⟨#[110]⟩ (specStringValue ⟨#[105, 110, 107]⟩)))).1).2.2)])] [5, 7] [(2, .val (.tup [(true, [.o 0 ((((specCreateFile (specNewStore specDefaultSchema) (specSetAttr (0, 1, false, 0, []) ⟨#[110]⟩ (specStringValue ⟨#[105, 110, 107]⟩)))).1).1), .o 1 ((((specCreateFile (specNewStore specDefaultSchema) (specSetAttr (0, 1, false, 0, []) ⟨#[110]⟩ (specStringValue ⟨#[105, 110, 107]⟩)))).1).2.1), .i ((((specCreateFile (specNewStore specDefaultSchema) (specSetAttr (0, 1, false, 0, []) ⟨#[110]⟩ (specStringValue ⟨#[105, 110, 107]⟩)))).1).2.2)]), (false, [.i (((specCreateFile (specNewStore specDefaultSchema) (specSetAttr (0, 1, false, 0, []) ⟨#[110]⟩ (specStringValue ⟨#[105, 110, 107]⟩)))).2.1)]), (false, [.b (((specCreateFile (specNewStore specDefaultSchema) (specSetAttr (0, 1, false, 0, []) ⟨#[110]⟩ (specStringValue ⟨#[105, 110, 107]⟩)))).2.2)])]))] (o1 (ob_call (specCreateFile_a (specNewStore specDefaultSchema) (specSetAttr (0, 1, false, 0, []) ⟨#[110]⟩ (specStringValue ⟨#[105, 110, 107]⟩))))) ?_
      refine awp_seq ?_
      refine rk tt_ok [] [4] [(7, [.o 2496 ((((specCreateFile (((specCreateFile (specNewStore specDefaultSchema) (specSetAttr (0, 1, false, 0, []) ⟨#[110]⟩ (specStringValue ⟨#[105, 110, 107]⟩)))).1) (specSetAttr (0, 0, true, 0, []) ⟨#[110]⟩ (specStringValue ⟨#[105, 110, 107]⟩)))).1).1), .o 2497 ((((specCreateFile (((specCreateFile (specNewStore specDefaultSchema) (specSetAttr (0, 1, false, 0, []) ⟨#[110]⟩ (specStringValue ⟨#[105, 110, 107]⟩)))).1) (specSetAttr (0, 0, true, 0, []) ⟨#[110]⟩ (specStringValue ⟨#[105, 110, 107]⟩)))).1).2.1), .i ((((specCreateFile (((specCreateFile (specNewStore specDefaultSchema) (specSetAttr (0, 1, false, 0, []) ⟨#[110]⟩ (specStringValue ⟨#[105, 110, 107]⟩)))).1) (specSetAttr (0, 0, true, 0, []) ⟨#[110]⟩ (specStringValue ⟨#[105, 110, 107]⟩)))).1).2.2)])] [4, 7] [(2, .val (.tup [(true, [.o 0 ((((specCreateFile (((specCreateFile (specNewStore specDefaultSchema) (specSetAttr (0, 1, false, 0, []) ⟨#[110]⟩ (specStringValue ⟨#[105, 110, 107]⟩)))).1) (specSetAttr (0, 0, true, 0, []) ⟨#[110]⟩ (specStringValue ⟨#[105, 110, 107]⟩)))).1).1), .o 1 ((((specCreateFile (((specCreateFile (specNewStore specDefaultSchema) (specSetAttr (0, 1, false, 0, []) ⟨#[110]⟩ (specStringValue ⟨#[105, 110, 107]⟩)))).1) (specSetAttr (0, 0, true, 0, []) ⟨#[110]⟩ (specStringValue ⟨#[105, 110, 107]⟩)))).1).2.1), .i ((((specCreateFile (((specCreateFile (specNewStore specDefaultSchema) (specSetAttr (0, 1, false, 0, []) ⟨#[110]⟩ (specStringValue ⟨#[105, 110, 107]⟩)))).1) (specSetAttr (0, 0, true, 0, []) ⟨#[110]⟩ (specStringValue ⟨#[105, 110, 107]⟩)))).1).2.2)]), (false, [.i (((specCreateFile (((specCreateFile (specNewStore specDefaultSchema) (specSetAttr (0, 1, false, 0, []) ⟨#[110]⟩ (specStringValue ⟨#[105, 110, 107]⟩)))).1) (specSetAttr (0, 0, true, 0, []) ⟨#[110]⟩ (specStringValue ⟨#[105, 110, 107]⟩)))).2.1)]), (false, [.b (((specCreateFile (((specCreateFile (specNewStore specDefaultSchema) (specSetAttr (0, 1, false, 0, []) ⟨#[110]⟩ (specStringValue ⟨#[105, 110, 107]⟩)))).1) (specSetAttr (0, 0, true, 0, []) ⟨#[110]⟩ (specStringValue ⟨#[105, 110, 107]⟩)))).2.2)])]))] (o1 (ob_call (specCreateFile_a (((specCreateFile (specNewStore specDefaultSchema) (specSetAttr (0, 1, false, 0, []) ⟨#[110]⟩ (specStringValue ⟨#[105, 110, 107]⟩)))).1) (specSetAttr (0, 0, true, 0, []) ⟨#[110]⟩ (specStringValue ⟨#[105, 110, 107]⟩))))) ?_
      refine awp_seq ?_
      refine jn [(2, .b ((lawssameTexts (implRenderView (((specCreateFile (((specCreateFile (specNewStore specDefaultSchema) (specSetAttr (0, 1, false, 0, []) ⟨#[110]⟩ (specStringValue ⟨#[105, 110, 107]⟩)))).1) (specSetAttr (0, 0, true, 0, []) ⟨#[110]⟩ (specStringValue ⟨#[105, 110, 107]⟩)))).1) [((⟨#[100, 97]⟩, [((1, 0, 0, ⟨#[]⟩, (0, 0, ⟨#[]⟩)) : NodeD)]) : DirD)] 0) [⟨#[100, 97, 32, 105, 110, 107]⟩]) && ((((implRenderView (((specCreateFile (((specCreateFile (specNewStore specDefaultSchema) (specSetAttr (0, 1, false, 0, []) ⟨#[110]⟩ (specStringValue ⟨#[105, 110, 107]⟩)))).1) (specSetAttr (0, 0, true, 0, []) ⟨#[110]⟩ (specStringValue ⟨#[105, 110, 107]⟩)))).1) [((⟨#[100, 97]⟩, [((1, 0, 0, ⟨#[]⟩, (0, 0, ⟨#[]⟩)) : NodeD)]) : DirD)] 1).length : Int) == (1 : Int)) && (((implHiddenFiles (((specCreateFile (((specCreateFile (specNewStore specDefaultSchema) (specSetAttr (0, 1, false, 0, []) ⟨#[110]⟩ (specStringValue ⟨#[105, 110, 107]⟩)))).1) (specSetAttr (0, 0, true, 0, []) ⟨#[110]⟩ (specStringValue ⟨#[105, 110, 107]⟩)))).1) 0).length : Int) == IntKind.i64.wrap (1 - Int.tmod (nth (specDrawPlaces code) 0) 2)))))] [2, 3, 6, 7] [] [7] (lawssameTexts (implRenderView (((specCreateFile (((specCreateFile (specNewStore specDefaultSchema) (specSetAttr (0, 1, false, 0, []) ⟨#[110]⟩ (specStringValue ⟨#[105, 110, 107]⟩)))).1) (specSetAttr (0, 0, true, 0, []) ⟨#[110]⟩ (specStringValue ⟨#[105, 110, 107]⟩)))).1) [((⟨#[100, 97]⟩, [((1, 0, 0, ⟨#[]⟩, (0, 0, ⟨#[]⟩)) : NodeD)]) : DirD)] 0) [⟨#[100, 97, 32, 105, 110, 107]⟩]) (fun h6 => ?_) (fun h6 => ?_) ?_
      ·
        refine awp_split (((implRenderView (((specCreateFile (((specCreateFile (specNewStore specDefaultSchema) (specSetAttr (0, 1, false, 0, []) ⟨#[110]⟩ (specStringValue ⟨#[105, 110, 107]⟩)))).1) (specSetAttr (0, 0, true, 0, []) ⟨#[110]⟩ (specStringValue ⟨#[105, 110, 107]⟩)))).1) [((⟨#[100, 97]⟩, [((1, 0, 0, ⟨#[]⟩, (0, 0, ⟨#[]⟩)) : NodeD)]) : DirD)] 1).length : Int) == (1 : Int)) (fun h7 => ?_) (fun h7 => ?_)
        ·
          have h7d := eq_of_beq h7
          refine rd' tt_ok tt_mx [(2, .b (((implHiddenFiles (((specCreateFile (((specCreateFile (specNewStore specDefaultSchema) (specSetAttr (0, 1, false, 0, []) ⟨#[110]⟩ (specStringValue ⟨#[105, 110, 107]⟩)))).1) (specSetAttr (0, 0, true, 0, []) ⟨#[110]⟩ (specStringValue ⟨#[105, 110, 107]⟩)))).1) 0).length : Int) == IntKind.i64.wrap (1 - Int.tmod (nth (specDrawPlaces code) 0) 2)))] [2, 3, 6, 7] [] [7] [(2, .val (.o 0 (implRenderView (((specCreateFile (((specCreateFile (specNewStore specDefaultSchema) (specSetAttr (0, 1, false, 0, []) ⟨#[110]⟩ (specStringValue ⟨#[105, 110, 107]⟩)))).1) (specSetAttr (0, 0, true, 0, []) ⟨#[110]⟩ (specStringValue ⟨#[105, 110, 107]⟩)))).1) [((⟨#[100, 97]⟩, [((1, 0, 0, ⟨#[]⟩, (0, 0, ⟨#[]⟩)) : NodeD)]) : DirD)] 0))), (4, .val (.b true)), (8, .val (.o 0 (implRenderView (((specCreateFile (((specCreateFile (specNewStore specDefaultSchema) (specSetAttr (0, 1, false, 0, []) ⟨#[110]⟩ (specStringValue ⟨#[105, 110, 107]⟩)))).1) (specSetAttr (0, 0, true, 0, []) ⟨#[110]⟩ (specStringValue ⟨#[105, 110, 107]⟩)))).1) [((⟨#[100, 97]⟩, [((1, 0, 0, ⟨#[]⟩, (0, 0, ⟨#[]⟩)) : NodeD)]) : DirD)] 1))), (9, .val (.i ((implRenderView (((specCreateFile (((specCreateFile (specNewStore specDefaultSchema) (specSetAttr (0, 1, false, 0, []) ⟨#[110]⟩ (specStringValue ⟨#[105, 110, 107]⟩)))).1) (specSetAttr (0, 0, true, 0, []) ⟨#[110]⟩ (specStringValue ⟨#[105, 110, 107]⟩)))).1) [((⟨#[100, 97]⟩, [((1, 0, 0, ⟨#[]⟩, (0, 0, ⟨#[]⟩)) : NodeD)]) : DirD)] 1).length : Int))), (10, .val (.b true)), (14, .val (.o 0 (implHiddenFiles (((specCreateFile (((specCreateFile (specNewStore specDefaultSchema) (specSetAttr (0, 1, false, 0, []) ⟨#[110]⟩ (specStringValue ⟨#[105, 110, 107]⟩)))).1) (specSetAttr (0, 0, true, 0, []) ⟨#[110]⟩ (specStringValue ⟨#[105, 110, 107]⟩)))).1) 0))), (15, .val (.i ((implHiddenFiles (((specCreateFile (((specCreateFile (specNewStore specDefaultSchema) (specSetAttr (0, 1, false, 0, []) ⟨#[110]⟩ (specStringValue ⟨#[105, 110, 107]⟩)))).1) (specSetAttr (0, 0, true, 0, []) ⟨#[110]⟩ (specStringValue ⟨#[105, 110, 107]⟩)))).1) 0).length : Int))), (17, .rowE [.i (nth (specDrawPlaces code) 0)])] (o2 (ob_call (implRenderView_a (((specCreateFile (((specCreateFile (specNewStore specDefaultSchema) (specSetAttr (0, 1, false, 0, []) ⟨#[110]⟩ (specStringValue ⟨#[105, 110, 107]⟩)))).1) (specSetAttr (0, 0, true, 0, []) ⟨#[110]⟩ (specStringValue ⟨#[105, 110, 107]⟩)))).1) [((⟨#[100, 97]⟩, [((1, 0, 0, ⟨#[]⟩, (0, 0, ⟨#[]⟩)) : NodeD)]) : DirD)] 0 (of_decide_eq_true (by kernel_rfl)) (of_decide_eq_true (by kernel_rfl)))) (o2 (ob_call (cb h6 (lawssameTexts_a (implRenderView (((specCreateFile (((specCreateFile (specNewStore specDefaultSchema) (specSetAttr (0, 1, false, 0, []) ⟨#[110]⟩ (specStringValue ⟨#[105, 110, 107]⟩)))).1) (specSetAttr (0, 0, true, 0, []) ⟨#[110]⟩ (specStringValue ⟨#[105, 110, 107]⟩)))).1) [((⟨#[100, 97]⟩, [((1, 0, 0, ⟨#[]⟩, (0, 0, ⟨#[]⟩)) : NodeD)]) : DirD)] 0) [⟨#[100, 97, 32, 105, 110, 107]⟩]))) (o2 (ob_call (implRenderView_a (((specCreateFile (((specCreateFile (specNewStore specDefaultSchema) (specSetAttr (0, 1, false, 0, []) ⟨#[110]⟩ (specStringValue ⟨#[105, 110, 107]⟩)))).1) (specSetAttr (0, 0, true, 0, []) ⟨#[110]⟩ (specStringValue ⟨#[105, 110, 107]⟩)))).1) [((⟨#[100, 97]⟩, [((1, 0, 0, ⟨#[]⟩, (0, 0, ⟨#[]⟩)) : NodeD)]) : DirD)] 1 (of_decide_eq_true (by kernel_rfl)) (of_decide_eq_true (by kernel_rfl)))) (o2 (ob_eq (av_len (implRenderView (((specCreateFile (((specCreateFile (specNewStore specDefaultSchema) (specSetAttr (0, 1, false, 0, []) ⟨#[110]⟩ (specStringValue ⟨#[105, 110, 107]⟩)))).1) (specSetAttr (0, 0, true, 0, []) ⟨#[110]⟩ (specStringValue ⟨#[105, 110, 107]⟩)))).1) [((⟨#[100, 97]⟩, [((1, 0, 0, ⟨#[]⟩, (0, 0, ⟨#[]⟩)) : NodeD)]) : DirD)] 1))) (o2 (ob_eq (av_bool h7)) (o2 (ob_call (implHiddenFiles_a (((specCreateFile (((specCreateFile (specNewStore specDefaultSchema) (specSetAttr (0, 1, false, 0, []) ⟨#[110]⟩ (specStringValue ⟨#[105, 110, 107]⟩)))).1) (specSetAttr (0, 0, true, 0, []) ⟨#[110]⟩ (specStringValue ⟨#[105, 110, 107]⟩)))).1) 0)) (o2 (ob_eq (av_len (implHiddenFiles (((specCreateFile (((specCreateFile (specNewStore specDefaultSchema) (specSetAttr (0, 1, false, 0, []) ⟨#[110]⟩ (specStringValue ⟨#[105, 110, 107]⟩)))).1) (specSetAttr (0, 0, true, 0, []) ⟨#[110]⟩ (specStringValue ⟨#[105, 110, 107]⟩)))).1) 0))) (o2 (ob_elem (el_of (i := 0) (by omega) rfl hx2)) (o2 (ob_nz (n := 2) (by omega)) (o1 (ob_inr (k := .i64) (n := Int.tmod (nth (specDrawPlaces code) 0) 2) (inr_rem0 (by omega))))))))))))) ?_
          exact ⟨rfl, weak_fit (by rw [h6, h7]; first | done | kernel_rfl)⟩
        ·
          have h7d := ne_of_beq h7
          refine rd' tt_ok tt_mx [] [3, 6, 7] [] [7] [(2, .val (.o 0 (implRenderView (((specCreateFile (((specCreateFile (specNewStore specDefaultSchema) (specSetAttr (0, 1, false, 0, []) ⟨#[110]⟩ (specStringValue ⟨#[105, 110, 107]⟩)))).1) (specSetAttr (0, 0, true, 0, []) ⟨#[110]⟩ (specStringValue ⟨#[105, 110, 107]⟩)))).1) [((⟨#[100, 97]⟩, [((1, 0, 0, ⟨#[]⟩, (0, 0, ⟨#[]⟩)) : NodeD)]) : DirD)] 0))), (4, .val (.b true)), (8, .val (.o 0 (implRenderView (((specCreateFile (((specCreateFile (specNewStore specDefaultSchema) (specSetAttr (0, 1, false, 0, []) ⟨#[110]⟩ (specStringValue ⟨#[105, 110, 107]⟩)))).1) (specSetAttr (0, 0, true, 0, []) ⟨#[110]⟩ (specStringValue ⟨#[105, 110, 107]⟩)))).1) [((⟨#[100, 97]⟩, [((1, 0, 0, ⟨#[]⟩, (0, 0, ⟨#[]⟩)) : NodeD)]) : DirD)] 1))), (9, .val (.i ((implRenderView (((specCreateFile (((specCreateFile (specNewStore specDefaultSchema) (specSetAttr (0, 1, false, 0, []) ⟨#[110]⟩ (specStringValue ⟨#[105, 110, 107]⟩)))).1) (specSetAttr (0, 0, true, 0, []) ⟨#[110]⟩ (specStringValue ⟨#[105, 110, 107]⟩)))).1) [((⟨#[100, 97]⟩, [((1, 0, 0, ⟨#[]⟩, (0, 0, ⟨#[]⟩)) : NodeD)]) : DirD)] 1).length : Int))), (10, .val (.b false))] (o2 (ob_call (implRenderView_a (((specCreateFile (((specCreateFile (specNewStore specDefaultSchema) (specSetAttr (0, 1, false, 0, []) ⟨#[110]⟩ (specStringValue ⟨#[105, 110, 107]⟩)))).1) (specSetAttr (0, 0, true, 0, []) ⟨#[110]⟩ (specStringValue ⟨#[105, 110, 107]⟩)))).1) [((⟨#[100, 97]⟩, [((1, 0, 0, ⟨#[]⟩, (0, 0, ⟨#[]⟩)) : NodeD)]) : DirD)] 0 (of_decide_eq_true (by kernel_rfl)) (of_decide_eq_true (by kernel_rfl)))) (o2 (ob_call (cb h6 (lawssameTexts_a (implRenderView (((specCreateFile (((specCreateFile (specNewStore specDefaultSchema) (specSetAttr (0, 1, false, 0, []) ⟨#[110]⟩ (specStringValue ⟨#[105, 110, 107]⟩)))).1) (specSetAttr (0, 0, true, 0, []) ⟨#[110]⟩ (specStringValue ⟨#[105, 110, 107]⟩)))).1) [((⟨#[100, 97]⟩, [((1, 0, 0, ⟨#[]⟩, (0, 0, ⟨#[]⟩)) : NodeD)]) : DirD)] 0) [⟨#[100, 97, 32, 105, 110, 107]⟩]))) (o2 (ob_call (implRenderView_a (((specCreateFile (((specCreateFile (specNewStore specDefaultSchema) (specSetAttr (0, 1, false, 0, []) ⟨#[110]⟩ (specStringValue ⟨#[105, 110, 107]⟩)))).1) (specSetAttr (0, 0, true, 0, []) ⟨#[110]⟩ (specStringValue ⟨#[105, 110, 107]⟩)))).1) [((⟨#[100, 97]⟩, [((1, 0, 0, ⟨#[]⟩, (0, 0, ⟨#[]⟩)) : NodeD)]) : DirD)] 1 (of_decide_eq_true (by kernel_rfl)) (of_decide_eq_true (by kernel_rfl)))) (o2 (ob_eq (av_len (implRenderView (((specCreateFile (((specCreateFile (specNewStore specDefaultSchema) (specSetAttr (0, 1, false, 0, []) ⟨#[110]⟩ (specStringValue ⟨#[105, 110, 107]⟩)))).1) (specSetAttr (0, 0, true, 0, []) ⟨#[110]⟩ (specStringValue ⟨#[105, 110, 107]⟩)))).1) [((⟨#[100, 97]⟩, [((1, 0, 0, ⟨#[]⟩, (0, 0, ⟨#[]⟩)) : NodeD)]) : DirD)] 1))) (o1 (ob_eq (av_bool h7))))))) ?_
          exact ⟨rfl, weak_fit (by rw [h6, h7]; first | done | kernel_rfl)⟩
      ·
        refine rd' tt_ok tt_mx [] [3, 6, 7] [] [7] [(2, .val (.o 0 (implRenderView (((specCreateFile (((specCreateFile (specNewStore specDefaultSchema) (specSetAttr (0, 1, false, 0, []) ⟨#[110]⟩ (specStringValue ⟨#[105, 110, 107]⟩)))).1) (specSetAttr (0, 0, true, 0, []) ⟨#[110]⟩ (specStringValue ⟨#[105, 110, 107]⟩)))).1) [((⟨#[100, 97]⟩, [((1, 0, 0, ⟨#[]⟩, (0, 0, ⟨#[]⟩)) : NodeD)]) : DirD)] 0))), (4, .val (.b false))] (o2 (ob_call (implRenderView_a (((specCreateFile (((specCreateFile (specNewStore specDefaultSchema) (specSetAttr (0, 1, false, 0, []) ⟨#[110]⟩ (specStringValue ⟨#[105, 110, 107]⟩)))).1) (specSetAttr (0, 0, true, 0, []) ⟨#[110]⟩ (specStringValue ⟨#[105, 110, 107]⟩)))).1) [((⟨#[100, 97]⟩, [((1, 0, 0, ⟨#[]⟩, (0, 0, ⟨#[]⟩)) : NodeD)]) : DirD)] 0 (of_decide_eq_true (by kernel_rfl)) (of_decide_eq_true (by kernel_rfl)))) (o1 (ob_call (cb h6 (lawssameTexts_a (implRenderView (((specCreateFile (((specCreateFile (specNewStore specDefaultSchema) (specSetAttr (0, 1, false, 0, []) ⟨#[110]⟩ (specStringValue ⟨#[105, 110, 107]⟩)))).1) (specSetAttr (0, 0, true, 0, []) ⟨#[110]⟩ (specStringValue ⟨#[105, 110, 107]⟩)))).1) [((⟨#[100, 97]⟩, [((1, 0, 0, ⟨#[]⟩, (0, 0, ⟨#[]⟩)) : NodeD)]) : DirD)] 0) [⟨#[100, 97, 32, 105, 110, 107]⟩]))))) ?_
        exact ⟨rfl, weak_fit (by rw [h6]; first | done | kernel_rfl)⟩
      refine awp_ret ?_
      exact pret [] (congrArg (fun z => (.b z : AV)) (show lawsFnHiddenNames code = ((lawssameTexts (implRenderView (((specCreateFile (((specCreateFile (specNewStore specDefaultSchema) (specSetAttr (0, 1, false, 0, []) ⟨#[110]⟩ (specStringValue ⟨#[105, 110, 107]⟩)))).1) (specSetAttr (0, 0, true, 0, []) ⟨#[110]⟩ (specStringValue ⟨#[105, 110, 107]⟩)))).1) [((⟨#[100, 97]⟩, [((1, 0, 0, ⟨#[]⟩, (0, 0, ⟨#[]⟩)) : NodeD)]) : DirD)] 0) [⟨#[100, 97, 32, 105, 110, 107]⟩]) && ((((implRenderView (((specCreateFile (((specCreateFile (specNewStore specDefaultSchema) (specSetAttr (0, 1, false, 0, []) ⟨#[110]⟩ (specStringValue ⟨#[105, 110, 107]⟩)))).1) (specSetAttr (0, 0, true, 0, []) ⟨#[110]⟩ (specStringValue ⟨#[105, 110, 107]⟩)))).1) [((⟨#[100, 97]⟩, [((1, 0, 0, ⟨#[]⟩, (0, 0, ⟨#[]⟩)) : NodeD)]) : DirD)] 1).length : Int) == (1 : Int)) && (((implHiddenFiles (((specCreateFile (((specCreateFile (specNewStore specDefaultSchema) (specSetAttr (0, 1, false, 0, []) ⟨#[110]⟩ (specStringValue ⟨#[105, 110, 107]⟩)))).1) (specSetAttr (0, 0, true, 0, []) ⟨#[110]⟩ (specStringValue ⟨#[105, 110, 107]⟩)))).1) 0).length : Int) == IntKind.i64.wrap (1 - Int.tmod (nth (specDrawPlaces code) 0) 2)))) from bif_f h1 (bif_t h5 (rfl))).symm)
    ·
      have h5d := ne_of_beq h5
      refine awp_skip ?_
      refine awp_seq ?_
      refine rk tt_ok [] [4, 5, 28] [(7, [.o 2496 ((((specCreateFile (specNewStore specDefaultSchema) (specSetAttr (0, 0, true, 0, []) ⟨#[110]⟩ (specStringValue ⟨#[105, 110, 107]⟩)))).1).1), .o 2497 ((((specCreateFile (specNewStore specDefaultSchema) (specSetAttr (0, 0, true, 0, []) ⟨#[110]⟩ (specStringValue ⟨#[105, 110, 107]⟩)))).1).2.1), .i ((((specCreateFile (specNewStore specDefaultSchema) (specSetAttr (0, 0, true, 0, []) ⟨#[110]⟩ (specStringValue ⟨#[105, 110, 107]⟩)))).1).2.2)])] [4, 5, 7] [(2, .val (.tup [(true, [.o 0 ((((specCreateFile (specNewStore specDefaultSchema) (specSetAttr (0, 0, true, 0, []) ⟨#[110]⟩ (specStringValue ⟨#[105, 110, 107]⟩)))).1).1), .o 1 ((((specCreateFile (specNewStore specDefaultSchema) (specSetAttr (0, 0, true, 0, []) ⟨#[110]⟩ (specStringValue ⟨#[105, 110, 107]⟩)))).1).2.1), .i ((((specCreateFile (specNewStore specDefaultSchema) (specSetAttr (0, 0, true, 0, []) ⟨#[110]⟩ (specStringValue ⟨#[105, 110, 107]⟩)))).1).2.2)]), (false, [.i (((specCreateFile (specNewStore specDefaultSchema) (specSetAttr (0, 0, true, 0, []) ⟨#[110]⟩ (specStringValue ⟨#[105, 110, 107]⟩)))).2.1)]), (false, [.b (((specCreateFile (specNewStore specDefaultSchema) (specSetAttr (0, 0, true, 0, []) ⟨#[110]⟩ (specStringValue ⟨#[105, 110, 107]⟩)))).2.2)])]))] (o1 (ob_call (specCreateFile_a (specNewStore specDefaultSchema) (specSetAttr (0, 0, true, 0, []) ⟨#[110]⟩ (specStringValue ⟨#[105, 110, 107]⟩))))) ?_
      refine awp_seq ?_
      refine jn [(2, .b ((lawssameTexts (implRenderView (((specCreateFile (specNewStore specDefaultSchema) (specSetAttr (0, 0, true, 0, []) ⟨#[110]⟩ (specStringValue ⟨#[105, 110, 107]⟩)))).1) [((⟨#[100, 97]⟩, [((1, 0, 0, ⟨#[]⟩, (0, 0, ⟨#[]⟩)) : NodeD)]) : DirD)] 0) [⟨#[100, 97, 32, 105, 110, 107]⟩]) && ((((implRenderView (((specCreateFile (specNewStore specDefaultSchema) (specSetAttr (0, 0, true, 0, []) ⟨#[110]⟩ (specStringValue ⟨#[105, 110, 107]⟩)))).1) [((⟨#[100, 97]⟩, [((1, 0, 0, ⟨#[]⟩, (0, 0, ⟨#[]⟩)) : NodeD)]) : DirD)] 1).length : Int) == (1 : Int)) && (((implHiddenFiles (((specCreateFile (specNewStore specDefaultSchema) (specSetAttr (0, 0, true, 0, []) ⟨#[110]⟩ (specStringValue ⟨#[105, 110, 107]⟩)))).1) 0).length : Int) == IntKind.i64.wrap (1 - Int.tmod (nth (specDrawPlaces code) 0) 2)))))] [2, 3, 6, 7] [] [7] (lawssameTexts (implRenderView (((specCreateFile (specNewStore specDefaultSchema) (specSetAttr (0, 0, true, 0, []) ⟨#[110]⟩ (specStringValue ⟨#[105, 110, 107]⟩)))).1) [((⟨#[100, 97]⟩, [((1, 0, 0, ⟨#[]⟩, (0, 0, ⟨#[]⟩)) : NodeD)]) : DirD)] 0) [⟨#[100, 97, 32, 105, 110, 107]⟩]) (fun h8 => ?_) (fun h8 => ?_) ?_
      ·
        refine awp_split (((implRenderView (((specCreateFile (specNewStore specDefaultSchema) (specSetAttr (0, 0, true, 0, []) ⟨#[110]⟩ (specStringValue ⟨#[105, 110, 107]⟩)))).1) [((⟨#[100, 97]⟩, [((1, 0, 0, ⟨#[]⟩, (0, 0, ⟨#[]⟩)) : NodeD)]) : DirD)] 1).length : Int) == (1 : Int)) (fun h9 => ?_) (fun h9 => ?_)
        ·
          have h9d := eq_of_beq h9
          refine rd' tt_ok tt_mx [(2, .b (((implHiddenFiles (((specCreateFile (specNewStore specDefaultSchema) (specSetAttr (0, 0, true, 0, []) ⟨#[110]⟩ (specStringValue ⟨#[105, 110, 107]⟩)))).1) 0).length : Int) == IntKind.i64.wrap (1 - Int.tmod (nth (specDrawPlaces code) 0) 2)))] [2, 3, 6, 7] [] [7] [(2, .val (.o 0 (implRenderView (((specCreateFile (specNewStore specDefaultSchema) (specSetAttr (0, 0, true, 0, []) ⟨#[110]⟩ (specStringValue ⟨#[105, 110, 107]⟩)))).1) [((⟨#[100, 97]⟩, [((1, 0, 0, ⟨#[]⟩, (0, 0, ⟨#[]⟩)) : NodeD)]) : DirD)] 0))), (4, .val (.b true)), (8, .val (.o 0 (implRenderView (((specCreateFile (specNewStore specDefaultSchema) (specSetAttr (0, 0, true, 0, []) ⟨#[110]⟩ (specStringValue ⟨#[105, 110, 107]⟩)))).1) [((⟨#[100, 97]⟩, [((1, 0, 0, ⟨#[]⟩, (0, 0, ⟨#[]⟩)) : NodeD)]) : DirD)] 1))), (9, .val (.i ((implRenderView (((specCreateFile (specNewStore specDefaultSchema) (specSetAttr (0, 0, true, 0, []) ⟨#[110]⟩ (specStringValue ⟨#[105, 110, 107]⟩)))).1) [((⟨#[100, 97]⟩, [((1, 0, 0, ⟨#[]⟩, (0, 0, ⟨#[]⟩)) : NodeD)]) : DirD)] 1).length : Int))), (10, .val (.b true)), (14, .val (.o 0 (implHiddenFiles (((specCreateFile (specNewStore specDefaultSchema) (specSetAttr (0, 0, true, 0, []) ⟨#[110]⟩ (specStringValue ⟨#[105, 110, 107]⟩)))).1) 0))), (15, .val (.i ((implHiddenFiles (((specCreateFile (specNewStore specDefaultSchema) (specSetAttr (0, 0, true, 0, []) ⟨#[110]⟩ (specStringValue ⟨#[105, 110, 107]⟩)))).1) 0).length : Int))), (17, .rowE [.i (nth (specDrawPlaces code) 0)])] (o2 (ob_call (implRenderView_a (((specCreateFile (specNewStore specDefaultSchema) (specSetAttr (0, 0, true, 0, []) ⟨#[110]⟩ (specStringValue ⟨#[105, 110, 107]⟩)))).1) [((⟨#[100, 97]⟩, [((1, 0, 0, ⟨#[]⟩, (0, 0, ⟨#[]⟩)) : NodeD)]) : DirD)] 0 (of_decide_eq_true (by kernel_rfl)) (of_decide_eq_true (by kernel_rfl)))) (o2 (ob_call (cb h8 (lawssameTexts_a (implRenderView (((specCreateFile (specNewStore specDefaultSchema) (specSetAttr (0, 0, true, 0, []) ⟨#[110]⟩ (specStringValue ⟨#[105, 110, 107]⟩)))).1) [((⟨#[100, 97]⟩, [((1, 0, 0, ⟨#[]⟩, (0, 0, ⟨#[]⟩)) : NodeD)]) : DirD)] 0) [⟨#[100, 97, 32, 105, 110, 107]⟩]))) (o2 (ob_call (implRenderView_a (((specCreateFile (specNewStore specDefaultSchema) (specSetAttr (0, 0, true, 0, []) ⟨#[110]⟩ (specStringValue ⟨#[105, 110, 107]⟩)))).1) [((⟨#[100, 97]⟩, [((1, 0, 0, ⟨#[]⟩, (0, 0, ⟨#[]⟩)) : NodeD)]) : DirD)] 1 (of_decide_eq_true (by kernel_rfl)) (of_decide_eq_true (by kernel_rfl)))) (o2 (ob_eq (av_len (implRenderView (((specCreateFile (specNewStore specDefaultSchema) (specSetAttr (0, 0, true, 0, []) ⟨#[110]⟩ (specStringValue ⟨#[105, 110, 107]⟩)))).1) [((⟨#[100, 97]⟩, [((1, 0, 0, ⟨#[]⟩, (0, 0, ⟨#[]⟩)) : NodeD)]) : DirD)] 1))) (o2 (ob_eq (av_bool h9)) (o2 (ob_call (implHiddenFiles_a (((specCreateFile (specNewStore specDefaultSchema) (specSetAttr (0, 0, true, 0, []) ⟨#[110]⟩ (specStringValue ⟨#[105, 110, 107]⟩)))).1) 0)) (o2 (ob_eq (av_len (implHiddenFiles (((specCreateFile (specNewStore specDefaultSchema) (specSetAttr (0, 0, true, 0, []) ⟨#[110]⟩ (specStringValue ⟨#[105, 110, 107]⟩)))).1) 0))) (o2 (ob_elem (el_of (i := 0) (by omega) rfl hx2)) (o2 (ob_nz (n := 2) (by omega)) (o1 (ob_inr (k := .i64) (n := Int.tmod (nth (specDrawPlaces code) 0) 2) (inr_rem0 (by omega))))))))))))) ?_
          exact ⟨rfl, weak_fit (by rw [h8, h9]; first | done | kernel_rfl)⟩
        ·
          have h9d := ne_of_beq h9
          refine rd' tt_ok tt_mx [] [3, 6, 7] [] [7] [(2, .val (.o 0 (implRenderView (((specCreateFile (specNewStore specDefaultSchema) (specSetAttr (0, 0, true, 0, []) ⟨#[110]⟩ (specStringValue ⟨#[105, 110, 107]⟩)))).1) [((⟨#[100, 97]⟩, [((1, 0, 0, ⟨#[]⟩, (0, 0, ⟨#[]⟩)) : NodeD)]) : DirD)] 0))), (4, .val (.b true)), (8, .val (.o 0 (implRenderView (((specCreateFile (specNewStore specDefaultSchema) (specSetAttr (0, 0, true, 0, []) ⟨#[110]⟩ (specStringValue ⟨#[105, 110, 107]⟩)))).1) [((⟨#[100, 97]⟩, [((1, 0, 0, ⟨#[]⟩, (0, 0, ⟨#[]⟩)) : NodeD)]) : DirD)] 1))), (9, .val (.i ((implRenderView (((specCreateFile (specNewStore specDefaultSchema) (specSetAttr (0, 0, true, 0, []) ⟨#[110]⟩ (specStringValue ⟨#[105, 110, 107]⟩)))).1) [((⟨#[100, 97]⟩, [((1, 0, 0, ⟨#[]⟩, (0, 0, ⟨#[]⟩)) : NodeD)]) : DirD)] 1).length : Int))), (10, .val (.b false))] (o2 (ob_call (implRenderView_a (((specCreateFile (specNewStore specDefaultSchema) (specSetAttr (0, 0, true, 0, []) ⟨#[110]⟩ (specStringValue ⟨#[105, 110, 107]⟩)))).1) [((⟨#[100, 97]⟩, [((1, 0, 0, ⟨#[]⟩, (0, 0, ⟨#[]⟩)) : NodeD)]) : DirD)] 0 (of_decide_eq_true (by kernel_rfl)) (of_decide_eq_true (by kernel_rfl)))) (o2 (ob_call (cb h8 (lawssameTexts_a (implRenderView (((specCreateFile (specNewStore specDefaultSchema) (specSetAttr (0, 0, true, 0, []) ⟨#[110]⟩ (specStringValue ⟨#[105, 110, 107]⟩)))).1) [((⟨#[100, 97]⟩, [((1, 0, 0, ⟨#[]⟩, (0, 0, ⟨#[]⟩)) : NodeD)]) : DirD)] 0) [⟨#[100, 97, 32, 105, 110, 107]⟩]))) (o2 (ob_call (implRenderView_a (((specCreateFile (specNewStore specDefaultSchema) (specSetAttr (0, 0, true, 0, []) ⟨#[110]⟩ (specStringValue ⟨#[105, 110, 107]⟩)))).1) [((⟨#[100, 97]⟩, [((1, 0, 0, ⟨#[]⟩, (0, 0, ⟨#[]⟩)) : NodeD)]) : DirD)] 1 (of_decide_eq_true (by kernel_rfl)) (of_decide_eq_true (by kernel_rfl)))) (o2 (ob_eq (av_len (implRenderView (((specCreateFile (specNewStore specDefaultSchema) (specSetAttr (0, 0, true, 0, []) ⟨#[110]⟩ (specStringValue ⟨#[105, 110, 107]⟩)))).1) [((⟨#[100, 97]⟩, [((1, 0, 0, ⟨#[]⟩, (0, 0, ⟨#[]⟩)) : NodeD)]) : DirD)] 1))) (o1 (ob_eq (av_bool h9))))))) ?_
          exact ⟨rfl, weak_fit (by rw [h8, h9]; first | done | kernel_rfl)⟩
      ·
        refine rd' tt_ok tt_mx [] [3, 6, 7] [] [7] [(2, .val (.o 0 (implRenderView (((specCreateFile (specNewStore specDefaultSchema) (specSetAttr (0, 0, true, 0, []) ⟨#[110]⟩ (specStringValue ⟨#[105, 110, 107]⟩)))).1) [((⟨#[100, 97]⟩, [((1, 0, 0, ⟨#[]⟩, (0, 0, ⟨#[]⟩)) : NodeD)]) : DirD)] 0))), (4, .val (.b false))] (o2 (ob_call (implRenderView_a (((specCreateFile (specNewStore specDefaultSchema) (specSetAttr (0, 0, true, 0, []) ⟨#[110]⟩ (specStringValue ⟨#[105, 110, 107]⟩)))).1) [((⟨#[100, 97]⟩, [((1, 0, 0, ⟨#[]⟩, (0, 0, ⟨#[]⟩)) : NodeD)]) : DirD)] 0 (of_decide_eq_true (by kernel_rfl)) (of_decide_eq_true (by kernel_rfl)))) (o1 (ob_call (cb h8 (lawssameTexts_a (implRenderView (((specCreateFile (specNewStore specDefaultSchema) (specSetAttr (0, 0, true, 0, []) ⟨#[110]⟩ (specStringValue ⟨#[105, 110, 107]⟩)))).1) [((⟨#[100, 97]⟩, [((1, 0, 0, ⟨#[]⟩, (0, 0, ⟨#[]⟩)) : NodeD)]) : DirD)] 0) [⟨#[100, 97, 32, 105, 110, 107]⟩]))))) ?_
        exact ⟨rfl, weak_fit (by rw [h8]; first | done | kernel_rfl)⟩
      refine awp_ret ?_
      exact pret [] (congrArg (fun z => (.b z : AV)) (show lawsFnHiddenNames code = ((lawssameTexts (implRenderView (((specCreateFile (specNewStore specDefaultSchema) (specSetAttr (0, 0, true, 0, []) ⟨#[110]⟩ (specStringValue ⟨#[105, 110, 107]⟩)))).1) [((⟨#[100, 97]⟩, [((1, 0, 0, ⟨#[]⟩, (0, 0, ⟨#[]⟩)) : NodeD)]) : DirD)] 0) [⟨#[100, 97, 32, 105, 110, 107]⟩]) && ((((implRenderView (((specCreateFile (specNewStore specDefaultSchema) (specSetAttr (0, 0, true, 0, []) ⟨#[110]⟩ (specStringValue ⟨#[105, 110, 107]⟩)))).1) [((⟨#[100, 97]⟩, [((1, 0, 0, ⟨#[]⟩, (0, 0, ⟨#[]⟩)) : NodeD)]) : DirD)] 1).length : Int) == (1 : Int)) && (((implHiddenFiles (((specCreateFile (specNewStore specDefaultSchema) (specSetAttr (0, 0, true, 0, []) ⟨#[110]⟩ (specStringValue ⟨#[105, 110, 107]⟩)))).1) 0).length : Int) == IntKind.i64.wrap (1 - Int.tmod (nth (specDrawPlaces code) 0) 2)))) from bif_f h1 (bif_f h5 (rfl))).symm)
end Go.Proofs.YtncjdkfjhkpkmaaGreatDoor
namespace Go.Proofs.YtncjdkfjhkpkmaaGreatDoor
open Go.RowKit
def hnF : FileD := specSetAttr (0, 0, true, 0, []) ⟨#[110]⟩ (specStringValue ⟨#[105, 110, 107]⟩)
def hnG : FileD := specSetAttr (0, 1, false, 0, []) ⟨#[110]⟩ (specStringValue ⟨#[105, 110, 107]⟩)
def hnD : List DirD := [(⟨#[100, 97]⟩, [((1, 0, 0, ⟨#[]⟩, (0, 0, ⟨#[]⟩)) : NodeD)])]
def hnAll (s : StoreD) (t : Int) : Bool := (lawssameTexts (implRenderView s hnD 0) [⟨#[100, 97, 32, 105, 110, 107]⟩]) && ((((implRenderView s hnD 1).length : Int) == (1 : Int)) && (((implHiddenFiles s 0).length : Int) == IntKind.i64.wrap (1 - t)))
theorem hn0 : hnAll (specCreateFile (specCreateFile (specNewStore specDefaultSchema) hnG).1 hnF).1 0 = true := by kernel_rfl
theorem hn1 : hnAll (specCreateFile (specNewStore specDefaultSchema) hnF).1 1 = true := by kernel_rfl
theorem lawsFnHiddenNames_true (code : List UInt8) : lawsFnHiddenNames code = true := by
  unfold lawsFnHiddenNames
  cases lawsbig code with
  | true => rfl
  | false =>
    have h := (place_mod code 0 (by decide) (m := 2) (by decide)).2
    generalize Int.tmod (nth (specDrawPlaces code) 0) 2 = t at h ⊢
    have ht : t = 0 ∨ t = 1 := by omega
    rcases ht with rfl | rfl
    · exact hn0
    · exact hn1
end Go.Proofs.YtncjdkfjhkpkmaaGreatDoor
namespace Go.Proofs.YtncjdkfjhkpkmaaGreatDoor
open Go.RowKit
open GoD (rd own)
theorem bigHiddenNames (w : World) (v : Value) (a : List UInt8) (h : rd w [v] a) (hbig : ¬ a.length ≤ 1048576) : Calls Tryz.prog 3 #[v] w (Ret w (.bool true)) := by
  obtain ⟨oa, cap, rfl⟩ := slice_of_rd h
  have hln := len_of_rd h
  clear h
  have hbi : 1048576 < (a.length : Int) := by omega
  go_enter Tryz.func3, Tryz.ntmps3
  go_wp2_with (first | (go_at_call 4; go_in))
  go_ret
  exact ⟨rfl, by go_grown⟩
theorem lawHiddenNames (w : World) (v : Value) (a : List UInt8) (h : rd w [v] a) (ht : tabOk w) : Calls Tryz.prog 3 #[v] w (Ret w (.bool true)) := by
  by_cases hbig : a.length ≤ 1048576
  · haveI : Good Tryz.prog w := ⟨fun _ _ => ht⟩
    have hc := (lawsFnHiddenNames_a a).run (.cons (arg_sli h ⟨by omega, fun _ _ => trivial⟩) .nil)
    rw [lawsFnHiddenNames_true] at hc
    exact hc.mono fun _ _ h => ret_bool h
  · exact bigHiddenNames w v a h hbig
end Go.Proofs.YtncjdkfjhkpkmaaGreatDoor
