/- What functions compute, and that they do (printed by am2.py): each function as a Lean function, then its contract. -/
import Derived.Test.YtiafgmepdgfpbaaVs
import Derived.Test.YtiafgmepdgfpbaaDrl
import Derived.Test.YtiafgmepdgfpbaaZc
import Derived.KernelRfl
set_option linter.unusedVariables false
set_option linter.unusedSimpArgs false
namespace Go.Proofs.Ytiafgmepdgfpbaa
open Go.RowKit
open GoE (enc wide)
def specl01Once (code : (List UInt8)) (ci : Nat) (ch : Int) (n : Int) : Bool × Nat × Int := (lt (α := Int × Nat × Int) (specl01Below code ci ch n) (fun x1 => ((x1.1 == (0 : Int)), x1.2.1, x1.2.2)))
theorem specl01Once_a (code : (List UInt8)) (ci : Nat) (ch : Int) (n : Int) : AGive Try.prog 56 [.h code, .i ((ci : Nat) : Int), .i ch] [.i n] (.b (((specl01Once code ci ch n)).1)) [.h code, .i ((((specl01Once code ci ch n)).2.1 : Nat) : Int), .i (((specl01Once code ci ch n)).2.2)] := by
  refine agive_of (tt := tt) tt_ok Try.func56 (fn := Try.f56) rfl (by unfold FnOk; kernel_rfl) (Nat.le_of_ble_eq_true rfl) (Nat.le_of_ble_eq_true rfl) rfl rfl fun w0 F0 hG => ?_
  refine sn tt_ok [0, 1, 4] [60000] (p0) ?_
  obtain ⟨x1, hx1⟩ : ∃ z : Int × Nat × Int, specl01Below code ci ch n = z := ⟨_, rfl⟩
  have hbx1 := hx1 ▸ specl01Below_bd code ci ch n
  refine tn tt_ok [0, 4] [60000] (po 2 (.give none (.i x1.1) [.h code, .i ((x1.2.1 : Nat) : Int), .i x1.2.2]) (px (ob_give (hx1 ▸ specl01Below_a code ci ch n)) p0)) ?_
  refine awp_ret ?_
  have hE2 : specl01Once code ci ch n = ((x1.1 == (0 : Int)), x1.2.1, x1.2.2) := lt_b hx1 (rfl)
  exact gret [] (congrArg (fun z => (.b z.1 : AV)) hE2.symm) (congrArg (fun z => ([.h code, .i ((z.2.1 : Nat) : Int), .i z.2.2] : List C)) hE2.symm)
def specIntValue (n : Int) : ValueD := (1, n, ⟨#[]⟩)
theorem specIntValue_a (n : Int) : ACalls Try.prog 41 [.i n] (.a [.i ((specIntValue n).1), .i ((specIntValue n).2.1), .s ((specIntValue n).2.2)]) := by
  refine en tt_ok Try.func41 fun w0 F0 hG => ?_
  refine sn tt_ok [0, 2] [2] (p0) ?_
  refine tn tt_ok [2] [2] (p0) ?_
  refine awp_ret ?_
  exact pz [] (show specIntValue n = (1, n, ⟨#[]⟩) from rfl) (fun z => .a [.i z.1, .i z.2.1, .s z.2.2])
def specSetAttr_f0 (name : ByteArray) (_ : Nat) (a0 : AttrD) (s0 : (List AttrD)) : Rd (FileD) ((List AttrD)) ((List AttrD)) := (bif (!(a0.1.toList == name.toList)) then (.next (s0 ++ [a0])) else (.next s0))
def specSetAttr_e0 (_ : Nat) (s0 : (List AttrD)) : (List AttrD) := s0
def specSetAttr_f1 (name : ByteArray) (k1 : Nat) (a1 : AttrD) (_ : Unit) : Rd (FileD) (Unit) (Int) := (bif (Op.bytesLess a1.1.toList name.toList || a1.1.toList == name.toList) then (.next ()) else (.brk ((k1 : Nat) : Int)))
def specSetAttr_e1 (k1 : Nat) (_ : Unit) : Int := ((k1 : Nat) : Int)
def specSetAttr (f : FileD) (name : ByteArray) (v : ValueD) : FileD := (Out.on (forL (specSetAttr_f0 name) specSetAttr_e0 f.2.2.2.2 0 []) (fun y0 => (bif (v.1 != (0 : Int)) then (Out.on (forL (specSetAttr_f1 name) specSetAttr_e1 y0 0 ()) (fun y1 => (f.1, f.2.1, f.2.2.1, f.2.2.2.1, List.take (Int.toNat y1) y0 ++ [(name, v)] ++ (List.drop (Int.toNat y1) y0)))) else (f.1, f.2.1, f.2.2.1, f.2.2.2.1, y0))))
theorem setAttrS_len (f : FileD) (name : ByteArray) (v : ValueD) : List.length (specSetAttr f name v).2.2.2.2 ≤ List.length f.2.2.2.2 + 1 := by
  unfold specSetAttr
  rw [forL_filter (f := specSetAttr_f0 name) (e := specSetAttr_e0) (p := fun a => !(a.1.toList == name.toList)) (g := id) (fun _ _ _ => rfl)]
  simp only [Out.on, specSetAttr_e0, List.nil_append, List.map_id]
  have hf := List.length_filter_le (fun a : AttrD => !(a.1.toList == name.toList)) f.2.2.2.2
  generalize List.filter (fun a : AttrD => !(a.1.toList == name.toList)) f.2.2.2.2 = l at hf
  cases (v.1 != (0 : Int)) with
  | false => exact Nat.le_succ_of_le hf
  | true =>
    simp only [cond_true]
    obtain ⟨t, ht⟩ := forL_noret (f := specSetAttr_f1 name) (e := specSetAttr_e1) (fun k a s r => by
      unfold specSetAttr_f1
      generalize (Op.bytesLess a.1.toList name.toList || a.1.toList == name.toList) = c
      cases c <;> simp) l 0 ()
    rw [ht]
    · show (List.take (Int.toNat t) l ++ [(name, v)] ++ List.drop (Int.toNat t) l).length ≤ _
      simp
      omega
theorem join_attr {c : Bool} {α : Type} {t : α} {F : FileD} {nm : ByteArray} {V : α → ValueD} {A : α → Nat × Int} {B : Nat × Int} : List.length (bif c then lt t (fun x => (specSetAttr F nm (V x), A x)) else (F, B)).1.2.2.2.2 ≤ F.2.2.2.2.length + 1 := by
  cases c with
  | true => exact setAttrS_len _ _ _
  | false => exact Nat.le_succ _
theorem specSetAttr_a (f : FileD) (name : ByteArray) (v : ValueD) (hp : List.length f.2.2.2.2 ≤ 1073741000) : ACalls Try.prog 40 [.a [.i f.1, .i f.2.1, .b f.2.2.1, .i f.2.2.2.1, .h f.2.2.2.2], .s name, .a [.i v.1, .i v.2.1, .s v.2.2]] (.a [.i ((specSetAttr f name v).1), .i ((specSetAttr f name v).2.1), .b ((specSetAttr f name v).2.2.1), .i ((specSetAttr f name v).2.2.2.1), .o 0 ((specSetAttr f name v).2.2.2.2)]) := by
  refine en tt_ok Try.func40 fun w0 F0 hG => ?_
  refine sn tt_ok [1, 3, 5, 6] [3, 5, 6] (p0) ?_
  refine tn tt_ok [1, 3, 5, 6, 7] [3, 5, 6] (p0) ?_
  refine awp_seq ?_
  refine tu tt_ok [(3, .p 3 0), (5, .p 5 0), (6, .p 6 0), (7, .one (.slc (.own true 704) 4 [])), (8, .i 0)] [0, 2] [(3, [.i f.1, .i f.2.1, .b f.2.2.1, .i f.2.2.2.1, .h f.2.2.2.2]), (5, [.i v.1, .i v.2.1, .s v.2.2]), (6, [.i 0, .i 0, .b false, .i 0, .e 4])] [] (p0) ?_
  refine wB 3 4 .sh f.2.2.2.2 (fun hw1 hl2 => ?_)
  refine blL3 (specSetAttr_f0 name) specSetAttr_e0 f.2.2.2.2 [] (fun k0 s0 => [(7, .o 147204 s0), (8, .i ((k0 : Nat) : Int))]) [7, 8] (fun y0 => [(7, .o 147354 y0)]) [7, 8] (fun k0 s0 => List.length s0 ≤ k0) (fun y0 => List.length y0 ≤ List.length f.2.2.2.2) (weak_sf [(704, 147204)] (by kernel_rfl)) (by simp) (fun k0 s0 hk0 hI0 => ?_) (fun k0 s0 hk0 hI0 => ?_) (fun y0 hD0 => ?_)
  ·
    have hA0_0 := hI0.2
    obtain ⟨a0, hx0⟩ := get_some (l := f.2.2.2.2) (i := k0) hk0
    refine awp_seq ?_
    refine su tt_ok [(16, .b true)] [] [] [] (pl 3 f.2.2.2.2 (pe 4 (av_bool (decide_eq_true (p := ((k0 : Nat) : Int) < (f.2.2.2.2.length : Int)) (by omega))) p0)) ?_
    refine ckT ?_
    refine awp_skip ?_
    refine awp_seq ?_
    refine awp_block ?_
    refine sn tt_ok [1, 3, 5, 6, 7, 8, 26] [3, 5, 6] (pn 3 hx0 p0) ?_
    refine ck (!(a0.1.toList == name.toList)) (fun h3 => ?_) (fun h3 => ?_)
    ·
      have h3n : (a0.1.toList == name.toList) = false := bnot_t h3
      refine wT 7 0 (.own true 147204) s0 (fun hw4 hl5 => ?_)
      refine qu tt_ok [(7, .one (.slc (.own true 2176) 4 ((eL s0) ++ [[.s a0.1, .i a0.2.1, .i a0.2.2.1, .s a0.2.2.2]])))] [7, 16] [] [] (pn 4 hx0 (pa s0 [a0] p0)) ?_
      refine eqn [(7, .o 2176 (s0 ++ [a0]))] [7] [] [] (by rw [show ((eL s0) ++ [[.s a0.1, .i a0.2.1, .i a0.2.2.1, .s a0.2.2.2]]) = (eL (s0 ++ [a0])) from app_eL (rfl) (rfl)]; first | done | kernel_rfl) ?_
      refine rn tt_ok [1, 3, 5, 6, 7, 8] [3, 5, 6] (pe 1 (av_i (wrap_succ k0 (by omega))) p0) ?_
      exact Exists.intro (s0 ++ [a0]) (And.intro (weak_sf [(2176, 147204)] (by kernel_rfl)) ⟨forL_next hx0 (bif_t h3 (rfl)) hI0.1, by first | omega | (simp; omega) | simp⟩)
    ·
      have h3n : (a0.1.toList == name.toList) = true := bnot_f h3
      refine awp_skip ?_
      refine qn tt_ok [1, 3, 5, 6, 7, 8] [3, 5, 6] (pe 1 (av_i (wrap_succ k0 (by omega))) p0) ?_
      exact Exists.intro s0 (And.intro (weak_fit (by kernel_rfl)) ⟨forL_next hx0 (bif_f h3 (rfl)) hI0.1, by first | omega | (simp; omega) | simp⟩)
  ·
    have hA0_0 := hI0.2
    refine awp_seq ?_
    refine su tt_ok [(16, .b false)] [] [] [] (pl 3 f.2.2.2.2 (pe 4 (av_bool (decide_eq_false (p := ((k0 : Nat) : Int) < (f.2.2.2.2.length : Int)) (by omega))) p0)) ?_
    refine ckF ?_
    refine awp_exit ?_
    exact Exists.intro s0 (And.intro (weak_sf [(147204, 147354)] (by kernel_rfl)) ⟨forL_end hk0 (rfl) hI0.1, by first | omega | (simp only [List.length_set]; omega)⟩)
  ·
    have hD0_0 := hD0.2
    refine awp_seq ?_
    refine sn tt_ok [1, 3, 5, 6, 7, 37] [3, 5, 6] (p0) ?_
    refine ck (v.1 != (0 : Int)) (fun h6 => ?_) (fun h6 => ?_)
    ·
      have h6d := ne_of_bne h6
      refine tu tt_ok [(9, .i 0)] [] [] [] (p0) ?_
      refine awp_seq ?_
      refine wT 7 0 (.own true 147354) y0 (fun hw7 hl8 => ?_)
      refine blL2 (specSetAttr_f1 name) specSetAttr_e1 y0 () (fun k1 _ => [(9, .i ((k1 : Nat) : Int))]) [9] (fun y1 => [(9, .i y1)]) [9] (fun y1 => 0 ≤ y1 ∧ y1 ≤ (y0.length : Int)) (weak_fit (by kernel_rfl)) (fun k1 s1 hk1 hI1 => ?_) (fun k1 s1 hk1 hI1 => ?_) (fun y1 hD1 => ?_)
      ·
        obtain ⟨a1, hx1⟩ := get_some (l := y0) (i := k1) hk1
        refine awp_seq ?_
        refine sn tt_ok [1, 3, 5, 6, 7, 9, 50] [3, 5, 6] (pl 2 y0 (pe 3 (av_bool (decide_eq_true (p := ((k1 : Nat) : Int) < (y0.length : Int)) (by omega))) (pN 7 hx1 p0))) ?_
        refine ck (Op.bytesLess a1.1.toList name.toList || a1.1.toList == name.toList) (fun h9 => ?_) (fun h9 => ?_)
        ·
          refine awp_skip ?_
          refine awp_block ?_
          refine qn tt_ok [1, 3, 5, 6, 7, 9] [3, 5, 6] (pe 1 (av_i (wrap_succ k1 (by omega))) p0) ?_
          exact Exists.intro _ (And.intro (weak_fit (by kernel_rfl)) (forL_next hx1 (bif_t h9 (rfl)) hI1))
        ·
          have h9l : (Op.bytesLess a1.1.toList name.toList) = false := or_l h9
          have h9r : (a1.1.toList == name.toList) = false := or_r h9
          refine awp_exit ?_
          exact Exists.intro ((k1 : Nat) : Int) (And.intro (weak_fit (by kernel_rfl)) ⟨forL_brk hx1 (bif_f h9 (rfl)) hI1, by first | omega | (simp only [List.length_set]; omega)⟩)
      ·
        refine awp_seq ?_
        refine su tt_ok [(50, .b false)] [] [] [] (pl 2 y0 (pe 3 (av_bool (decide_eq_false (p := ((k1 : Nat) : Int) < (y0.length : Int)) (by omega))) p0)) ?_
        refine ckF ?_
        refine awp_exit ?_
        exact Exists.intro ((k1 : Nat) : Int) (And.intro (weak_fit (by kernel_rfl)) ⟨forL_end hk1 (rfl) hI1, by first | omega | (simp only [List.length_set]; omega)⟩)
      ·
        have hD1_0 := hD1.2
        have hl10 : List.length (List.take (Int.toNat y1) y0) ≤ 1073741824 := wide_len (wide_take (Int.toNat y1) (hw7))
        refine sU tt_ok tt_mx [(10, .one (.slc (.own true 3968) 4 (([] ++ (eL (List.take (Int.toNat y1) y0))) ++ [[.s name, .i v.1, .i v.2.1, .s v.2.2]])))] [1, 5] [] [5] (pe 3 (av_take (.vw 147354) 4 (Int.toNat y1) y1 y0 rfl) (px (ob_rng (lo := 0) (hi := y1) (n := (List.length (eL y0))) (rng_of (by omega) (by omega) (by omega))) (po 4 (.flat) (px (ob_len (n := (([] : List (List PV)).length + ((eL (List.take (Int.toNat y1) y0)) : List (List PV)).length)) (len_of (rfl) (eL_length (List.take (Int.toNat y1) y0)) (by first | omega | (simp only [List.length_cons, List.length_nil]; omega) | (simp; omega) | simp))) (px (ob_flat (flat_eL (List.take (Int.toNat y1) y0))) (px (ob_len (n := ((([] ++ (eL (List.take (Int.toNat y1) y0))) : List (List PV)).length + ([[.s name, .i v.1, .i v.2.1, .s v.2.2]] : List (List PV)).length)) (by simp [eL_length]; omega)) p0)))))) ?_
        refine eqn [(10, .o 3968 (List.take (Int.toNat y1) y0 ++ [(name, v)]))] [10] [] [] (by rw [show (([] ++ (eL (List.take (Int.toNat y1) y0))) ++ [[.s name, .i v.1, .i v.2.1, .s v.2.2]]) = (eL (List.take (Int.toNat y1) y0 ++ [(name, v)])) from app_eL (rfl) (rfl)]; first | done | kernel_rfl) ?_
        refine wT 10 0 (.own true 3968) (List.take (Int.toNat y1) y0 ++ [(name, v)]) (fun hw11 hl12 => ?_)
        have hl13 : List.length (List.drop (Int.toNat y1) y0) ≤ 1073741824 := wide_len (wide_drop (Int.toNat y1) (hw7))
        refine ru tt_ok [(7, .one (.slc (.own true 4288) 4 ((eL (List.take (Int.toNat y1) y0 ++ [(name, v)])) ++ (eL (List.drop (Int.toNat y1) y0)))))] [7, 9, 10] [] [] (pe 3 (av_drop (.vw 147354) 4 (Int.toNat y1) y1 y0 rfl) (px (ob_rng (lo := y1) (hi := (((eL y0) : List (List PV)).length : Int)) (n := (List.length (eL y0))) (rng_all (by omega) (by omega))) (po 4 (.flat) (pa (List.take (Int.toNat y1) y0 ++ [(name, v)]) (List.drop (Int.toNat y1) y0) (px (ob_flat (flat_eL (List.drop (Int.toNat y1) y0))) p0))))) ?_
        refine eqn [(7, .o 4288 (List.take (Int.toNat y1) y0 ++ [(name, v)] ++ (List.drop (Int.toNat y1) y0)))] [7] [] [] (by rw [show ((eL (List.take (Int.toNat y1) y0 ++ [(name, v)])) ++ (eL (List.drop (Int.toNat y1) y0))) = (eL (List.take (Int.toNat y1) y0 ++ [(name, v)] ++ (List.drop (Int.toNat y1) y0))) from app_eL (rfl) (rfl)]; first | done | kernel_rfl) ?_
        refine sn tt_ok [3, 6] [3, 6] (p0) ?_
        refine tn tt_ok [6] [6] (p0) ?_
        refine awp_ret ?_
        exact pz [] (show specSetAttr f name v = _ from on_b hD0.1 (bif_t h6 (on_b hD1.1 (rfl)))) (fun z => .a [.i z.1, .i z.2.1, .b z.2.2.1, .i z.2.2.2.1, .o 0 z.2.2.2.2])
    ·
      have h6d := eq_of_bne h6
      refine awp_skip ?_
      refine tn tt_ok [3, 6] [3, 6] (p0) ?_
      refine tu tt_ok [] [1, 3, 5, 7] [(6, [.i f.1, .i f.2.1, .b f.2.2.1, .i f.2.2.2.1, .o 147354 y0])] [3, 5, 6] (p0) ?_
      refine awp_ret ?_
      exact pz [] (show specSetAttr f name v = _ from on_b hD0.1 (bif_f h6 (rfl))) (fun z => .a [.i z.1, .i z.2.1, .b z.2.2.1, .i z.2.2.2.1, .o 0 z.2.2.2.2])
def specl01Pick (code : (List UInt8)) (ci : Nat) (ch : Int) (list : (List ByteArray)) : ByteArray × Nat × Int := (lt (α := Int × Nat × Int) (specl01Below code ci ch (list.length : Int)) (fun x1 => ((nth list (Int.toNat x1.1)), x1.2.1, x1.2.2)))
theorem specl01Pick_a (code : (List UInt8)) (ci : Nat) (ch : Int) (list : (List ByteArray)) (hp : 0 < List.length list) : AGive Try.prog 71 [.h code, .i ((ci : Nat) : Int), .i ch] [.h list] (.s (((specl01Pick code ci ch list)).1)) [.h code, .i ((((specl01Pick code ci ch list)).2.1 : Nat) : Int), .i (((specl01Pick code ci ch list)).2.2)] := by
  refine agive_of (tt := tt) tt_ok Try.func71 (fn := Try.f71) rfl (by unfold FnOk; kernel_rfl) (Nat.le_of_ble_eq_true rfl) (Nat.le_of_ble_eq_true rfl) rfl rfl fun w0 F0 hG => ?_
  refine sn tt_ok [0, 1, 4] [60000] (p0) ?_
  obtain ⟨x1, hx1⟩ : ∃ z : Int × Nat × Int, specl01Below code ci ch (list.length : Int) = z := ⟨_, rfl⟩
  have hbx1 := hx1 ▸ specl01Below_bd code ci ch (list.length : Int)
  refine wT 1 0 .sh list (fun hw3 hl4 => ?_)
  have hx2 := ng list (Int.toNat x1.1)
  refine tn tt_ok [0, 4] [60000] (pl 3 list (po 4 (.give none (.i x1.1) [.h code, .i ((x1.2.1 : Nat) : Int), .i x1.2.2]) (px (ob_give (hx1 ▸ specl01Below_a code ci ch (list.length : Int))) (pg 5 x1.1 hx2 p0)))) ?_
  refine awp_ret ?_
  have hE5 : specl01Pick code ci ch list = ((nth list (Int.toNat x1.1)), x1.2.1, x1.2.2) := lt_b hx1 (rfl)
  exact gret [] (congrArg (fun z => (.s z.1 : AV)) hE5.symm) (congrArg (fun z => ([.h code, .i ((z.2.1 : Nat) : Int), .i z.2.2] : List C)) hE5.symm)
def specStringValue (w : ByteArray) : ValueD := (2, 0, w)
theorem specStringValue_a (w : ByteArray) : ACalls Try.prog 72 [.s w] (.a [.i ((specStringValue w).1), .i ((specStringValue w).2.1), .s ((specStringValue w).2.2)]) := by
  refine en tt_ok Try.func72 fun w0 F0 hG => ?_
  refine sn tt_ok [0, 2] [2] (p0) ?_
  refine tn tt_ok [2] [2] (p0) ?_
  refine awp_ret ?_
  exact pz [] (show specStringValue w = (2, 0, w) from rfl) (fun z => .a [.i z.1, .i z.2.1, .s z.2.2])
def specl04File (code : (List UInt8)) (ci : Nat) (ch : Int) (id : Int) : FileD × Nat × Int := (lt (α := Int × Nat × Int) (specl01Below code ci ch 3) (fun x1 => (lt (α := Bool × Nat × Int) (specl01Once code x1.2.1 x1.2.2 2) (fun x2 => (lt (α := Bool × Nat × Int) (specl01Once code x2.2.1 x2.2.2 2) (fun x3 => (lt (α := Int × Nat × Int) (bif x3.1 then (lt (α := Int × Nat × Int) (specl01Below code x3.2.1 x3.2.2 7) (fun x4 => (x4.1, x4.2.1, x4.2.2))) else (0, x3.2.1, x3.2.2)) (fun x4 => (lt (α := Bool × Nat × Int) (specl01Once code x4.2.1 x4.2.2 4) (fun x7 => (lt (α := FileD × Nat × Int) (bif (!x7.1) then (lt (α := Int × Nat × Int) (specl01Below code x7.2.1 x7.2.2 4) (fun x8 => ((specSetAttr (id, x1.1, x2.1, x4.1, []) ⟨#[97]⟩ (specIntValue x8.1)), x8.2.1, x8.2.2))) else ((id, x1.1, x2.1, x4.1, []), x7.2.1, x7.2.2)) (fun x8 => (lt (α := Bool × Nat × Int) (specl01Once code x8.2.1 x8.2.2 2) (fun x11 => (lt (α := FileD × Nat × Int) (bif x11.1 then (lt (α := Int × Nat × Int) (specl01Below code x11.2.1 x11.2.2 4) (fun x12 => ((specSetAttr x8.1 ⟨#[98]⟩ (specIntValue x12.1)), x12.2.1, x12.2.2))) else (x8.1, x11.2.1, x11.2.2)) (fun x12 => (lt (α := Bool × Nat × Int) (specl01Once code x12.2.1 x12.2.2 3) (fun x15 => (lt (α := FileD × Nat × Int) (bif (!x15.1) then (lt (α := ByteArray × Nat × Int) (specl01Pick code x15.2.1 x15.2.2 [⟨#[105, 110, 107]⟩, ⟨#[115, 101, 97]⟩]) (fun x16 => ((specSetAttr x12.1 ⟨#[110]⟩ (specStringValue x16.1)), x16.2.1, x16.2.2))) else (x12.1, x15.2.1, x15.2.2)) (fun x16 => (lt (α := Bool × Nat × Int) (specl01Once code x16.2.1 x16.2.2 2) (fun x19 => (bif x19.1 then (lt (α := ByteArray × Nat × Int) (specl01Pick code x19.2.1 x19.2.2 [⟨#[114, 101, 100]⟩, ⟨#[98, 108, 117, 101]⟩]) (fun x21 => ((specSetAttr x16.1 ⟨#[116]⟩ (specStringValue x21.1)), x21.2.1, x21.2.2))) else (x16.1, x19.2.1, x19.2.2))))))))))))))))))))))))
theorem specl04File_a (code : (List UInt8)) (ci : Nat) (ch : Int) (id : Int) : AGive Try.prog 55 [.h code, .i ((ci : Nat) : Int), .i ch] [.i id] (.a [.i ((((specl04File code ci ch id)).1).1), .i ((((specl04File code ci ch id)).1).2.1), .b ((((specl04File code ci ch id)).1).2.2.1), .i ((((specl04File code ci ch id)).1).2.2.2.1), .o 0 ((((specl04File code ci ch id)).1).2.2.2.2)]) [.h code, .i ((((specl04File code ci ch id)).2.1 : Nat) : Int), .i (((specl04File code ci ch id)).2.2)] := by
  refine agive_of (tt := tt) tt_ok Try.func55 (fn := Try.f55) rfl (by unfold FnOk; kernel_rfl) (Nat.le_of_ble_eq_true rfl) (Nat.le_of_ble_eq_true rfl) rfl rfl fun w0 F0 hG => ?_
  refine sn tt_ok [0, 1, 4] [4, 60000] (p0) ?_
  obtain ⟨x1, hx1⟩ : ∃ z : Int × Nat × Int, specl01Below code ci ch 3 = z := ⟨_, rfl⟩
  have hbx1 := hx1 ▸ specl01Below_bd code ci ch 3
  obtain ⟨x2, hx2⟩ : ∃ z : Bool × Nat × Int, specl01Once code x1.2.1 x1.2.2 2 = z := ⟨_, rfl⟩
  refine tn tt_ok [0, 4, 5] [4, 5, 60000] (po 2 (.give none (.i x1.1) [.h code, .i ((x1.2.1 : Nat) : Int), .i x1.2.2]) (px (ob_give (hx1 ▸ specl01Below_a code ci ch 3)) (po 4 (.give none (.b x2.1) [.h code, .i ((x2.2.1 : Nat) : Int), .i x2.2.2]) (px (ob_give (hx2 ▸ specl01Once_a code x1.2.1 x1.2.2 2)) p0)))) ?_
  refine awp_seq ?_
  obtain ⟨x3, hx3⟩ : ∃ z : Bool × Nat × Int, specl01Once code x2.2.1 x2.2.2 2 = z := ⟨_, rfl⟩
  refine tu tt_ok [(4, .p 4 0), (5, .p 5 0), (13, .b x3.1)] [1] [(4, [.i 0, .i 0, .b false, .i 0, .e 4]), (5, [.i id, .i x1.1, .b x2.1, .i 0, .e 4]), (60000, [.h code, .i ((x3.2.1 : Nat) : Int), .i x3.2.2])] [60000] (po 1 (.give none (.b x3.1) [.h code, .i ((x3.2.1 : Nat) : Int), .i x3.2.2]) (px (ob_give (hx3 ▸ specl01Once_a code x2.2.1 x2.2.2 2)) p0)) ?_
  obtain ⟨x4, hx4⟩ : ∃ z : Int × Nat × Int, (bif x3.1 then (lt (α := Int × Nat × Int) (specl01Below code x3.2.1 x3.2.2 7) (fun x4 => (x4.1, x4.2.1, x4.2.2))) else (0, x3.2.1, x3.2.2)) = z := ⟨_, rfl⟩
  refine jn [] [13] [(5, [.i id, .i x1.1, .b x2.1, .i x4.1, .e 4]), (60000, [.h code, .i ((x4.2.1 : Nat) : Int), .i x4.2.2])] [5, 60000] x3.1 (fun h5 => ?_) (fun h5 => ?_) ?_
  ·
    refine ckt h5 ?_
    obtain ⟨x6, hx6⟩ : ∃ z : Int × Nat × Int, specl01Below code x3.2.1 x3.2.2 7 = z := ⟨_, rfl⟩
    have hbx6 := hx6 ▸ specl01Below_bd code x3.2.1 x3.2.2 7
    refine rn tt_ok [0, 4, 5] [4, 5, 60000] (po 1 (.give none (.i x6.1) [.h code, .i ((x6.2.1 : Nat) : Int), .i x6.2.2]) (px (ob_give (hx6 ▸ specl01Below_a code x3.2.1 x3.2.2 7)) p0)) ?_
    obtain rfl : x4 = (x6.1, x6.2.1, x6.2.2) := hx4.symm.trans (show (bif x3.1 then (lt (α := Int × Nat × Int) (specl01Below code x3.2.1 x3.2.2 7) (fun x4 => (x4.1, x4.2.1, x4.2.2))) else (0, x3.2.1, x3.2.2)) = (x6.1, x6.2.1, x6.2.2) from bif_t h5 (lt_b hx6 (rfl)))
    exact ⟨rfl, weak_fit (by kernel_rfl)⟩
  ·
    refine ckf h5 ?_
    refine awp_skip ?_
    obtain rfl : x4 = (0, x3.2.1, x3.2.2) := hx4.symm.trans (show (bif x3.1 then (lt (α := Int × Nat × Int) (specl01Below code x3.2.1 x3.2.2 7) (fun x4 => (x4.1, x4.2.1, x4.2.2))) else (0, x3.2.1, x3.2.2)) = (0, x3.2.1, x3.2.2) from bif_f h5 (rfl))
    exact ⟨rfl, weak_fit (by kernel_rfl)⟩
  refine awp_seq ?_
  obtain ⟨x7, hx7⟩ : ∃ z : Bool × Nat × Int, specl01Once code x4.2.1 x4.2.2 4 = z := ⟨_, rfl⟩
  refine sn tt_ok [0, 4, 5, 19] [4, 5, 60000] (po 1 (.give none (.b x7.1) [.h code, .i ((x7.2.1 : Nat) : Int), .i x7.2.2]) (px (ob_give (hx7 ▸ specl01Once_a code x4.2.1 x4.2.2 4)) p0)) ?_
  refine mz [(19, .b (!x7.1))] [] [(60000, [.h code, .i ((x7.2.1 : Nat) : Int), .i x7.2.2])] [60000] ?_
  obtain ⟨x8, hx8⟩ : ∃ z : FileD × Nat × Int, (bif (!x7.1) then (lt (α := Int × Nat × Int) (specl01Below code x7.2.1 x7.2.2 4) (fun x8 => ((specSetAttr (id, x1.1, x2.1, x4.1, []) ⟨#[97]⟩ (specIntValue x8.1)), x8.2.1, x8.2.2))) else ((id, x1.1, x2.1, x4.1, []), x7.2.1, x7.2.2)) = z := ⟨_, rfl⟩
  have hjx8 : List.length x8.1.2.2.2.2 ≤ 1 := by rw [← hx8]; exact Nat.le_trans join_attr (by first | omega | simp)
  refine jn [] [19] [(5, [.i x8.1.1, .i x8.1.2.1, .b x8.1.2.2.1, .i x8.1.2.2.2.1, .o 448768 x8.1.2.2.2.2]), (60000, [.h code, .i ((x8.2.1 : Nat) : Int), .i x8.2.2])] [5, 60000] (!x7.1) (fun h9 => ?_) (fun h9 => ?_) ?_
  ·
    have h9n : (x7.1) = false := bnot_t h9
    refine ckt h9 ?_
    obtain ⟨x10, hx10⟩ : ∃ z : Int × Nat × Int, specl01Below code x7.2.1 x7.2.2 4 = z := ⟨_, rfl⟩
    have hbx10 := hx10 ▸ specl01Below_bd code x7.2.1 x7.2.2 4
    refine rN tt_ok tt_mx [0, 4, 5] [4, 5, 60000] (po 2 (.give none (.i x10.1) [.h code, .i ((x10.2.1 : Nat) : Int), .i x10.2.2]) (px (ob_give (hx10 ▸ specl01Below_a code x7.2.1 x7.2.2 4)) (pc 3 (specIntValue_a x10.1) (pc 4 (specSetAttr_a (id, x1.1, x2.1, x4.1, []) ⟨#[97]⟩ (specIntValue x10.1) (by first | omega | (simp; done) | (simp; omega))) p0)))) ?_
    obtain rfl : x8 = ((specSetAttr (id, x1.1, x2.1, x4.1, []) ⟨#[97]⟩ (specIntValue x10.1)), x10.2.1, x10.2.2) := hx8.symm.trans (show (bif (!x7.1) then (lt (α := Int × Nat × Int) (specl01Below code x7.2.1 x7.2.2 4) (fun x8 => ((specSetAttr (id, x1.1, x2.1, x4.1, []) ⟨#[97]⟩ (specIntValue x8.1)), x8.2.1, x8.2.2))) else ((id, x1.1, x2.1, x4.1, []), x7.2.1, x7.2.2)) = ((specSetAttr (id, x1.1, x2.1, x4.1, []) ⟨#[97]⟩ (specIntValue x10.1)), x10.2.1, x10.2.2) from bif_t h9 (lt_b hx10 (rfl)))
    exact ⟨rfl, weak_sf [(1536, 448768)] (by kernel_rfl)⟩
  ·
    have h9n : (x7.1) = true := bnot_f h9
    refine ckf h9 ?_
    refine awp_skip ?_
    obtain rfl : x8 = ((id, x1.1, x2.1, x4.1, []), x7.2.1, x7.2.2) := hx8.symm.trans (show (bif (!x7.1) then (lt (α := Int × Nat × Int) (specl01Below code x7.2.1 x7.2.2 4) (fun x8 => ((specSetAttr (id, x1.1, x2.1, x4.1, []) ⟨#[97]⟩ (specIntValue x8.1)), x8.2.1, x8.2.2))) else ((id, x1.1, x2.1, x4.1, []), x7.2.1, x7.2.2)) = ((id, x1.1, x2.1, x4.1, []), x7.2.1, x7.2.2) from bif_f h9 (rfl))
    exact ⟨rfl, weak_gf [(true, 5, 4, true, 320008, 4)] [] [] [(320008, 448768)] (by kernel_rfl)⟩
  refine awp_seq ?_
  obtain ⟨x11, hx11⟩ : ∃ z : Bool × Nat × Int, specl01Once code x8.2.1 x8.2.2 2 = z := ⟨_, rfl⟩
  refine sn tt_ok [0, 4, 5, 26] [4, 5, 60000] (po 1 (.give none (.b x11.1) [.h code, .i ((x11.2.1 : Nat) : Int), .i x11.2.2]) (px (ob_give (hx11 ▸ specl01Once_a code x8.2.1 x8.2.2 2)) p0)) ?_
  refine mz [(26, .b x11.1)] [] [(60000, [.h code, .i ((x11.2.1 : Nat) : Int), .i x11.2.2])] [60000] ?_
  obtain ⟨x12, hx12⟩ : ∃ z : FileD × Nat × Int, (bif x11.1 then (lt (α := Int × Nat × Int) (specl01Below code x11.2.1 x11.2.2 4) (fun x12 => ((specSetAttr x8.1 ⟨#[98]⟩ (specIntValue x12.1)), x12.2.1, x12.2.2))) else (x8.1, x11.2.1, x11.2.2)) = z := ⟨_, rfl⟩
  have hjx12 : List.length x12.1.2.2.2.2 ≤ 2 := by rw [← hx12]; exact Nat.le_trans join_attr (by first | omega | simp)
  refine jn [] [26] [(5, [.i x12.1.1, .i x12.1.2.1, .b x12.1.2.2.1, .i x12.1.2.2.2.1, .o 448768 x12.1.2.2.2.2]), (60000, [.h code, .i ((x12.2.1 : Nat) : Int), .i x12.2.2])] [5, 60000] x11.1 (fun h13 => ?_) (fun h13 => ?_) ?_
  ·
    refine ckt h13 ?_
    obtain ⟨x14, hx14⟩ : ∃ z : Int × Nat × Int, specl01Below code x11.2.1 x11.2.2 4 = z := ⟨_, rfl⟩
    have hbx14 := hx14 ▸ specl01Below_bd code x11.2.1 x11.2.2 4
    refine rN tt_ok tt_mx [0, 4, 5] [4, 5, 60000] (po 2 (.give none (.i x14.1) [.h code, .i ((x14.2.1 : Nat) : Int), .i x14.2.2]) (px (ob_give (hx14 ▸ specl01Below_a code x11.2.1 x11.2.2 4)) (pc 3 (specIntValue_a x14.1) (pc 4 (specSetAttr_a x8.1 ⟨#[98]⟩ (specIntValue x14.1) (by first | omega | (simp; done) | (simp; omega))) p0)))) ?_
    obtain rfl : x12 = ((specSetAttr x8.1 ⟨#[98]⟩ (specIntValue x14.1)), x14.2.1, x14.2.2) := hx12.symm.trans (show (bif x11.1 then (lt (α := Int × Nat × Int) (specl01Below code x11.2.1 x11.2.2 4) (fun x12 => ((specSetAttr x8.1 ⟨#[98]⟩ (specIntValue x12.1)), x12.2.1, x12.2.2))) else (x8.1, x11.2.1, x11.2.2)) = ((specSetAttr x8.1 ⟨#[98]⟩ (specIntValue x14.1)), x14.2.1, x14.2.2) from bif_t h13 (lt_b hx14 (rfl)))
    exact ⟨rfl, weak_sf [(1984, 448768)] (by kernel_rfl)⟩
  ·
    refine ckf h13 ?_
    refine awp_skip ?_
    obtain rfl : x12 = (x8.1, x11.2.1, x11.2.2) := hx12.symm.trans (show (bif x11.1 then (lt (α := Int × Nat × Int) (specl01Below code x11.2.1 x11.2.2 4) (fun x12 => ((specSetAttr x8.1 ⟨#[98]⟩ (specIntValue x12.1)), x12.2.1, x12.2.2))) else (x8.1, x11.2.1, x11.2.2)) = (x8.1, x11.2.1, x11.2.2) from bif_f h13 (rfl))
    exact ⟨rfl, weak_fit (by kernel_rfl)⟩
  refine awp_seq ?_
  obtain ⟨x15, hx15⟩ : ∃ z : Bool × Nat × Int, specl01Once code x12.2.1 x12.2.2 3 = z := ⟨_, rfl⟩
  refine sn tt_ok [0, 4, 5, 34] [4, 5, 60000] (po 1 (.give none (.b x15.1) [.h code, .i ((x15.2.1 : Nat) : Int), .i x15.2.2]) (px (ob_give (hx15 ▸ specl01Once_a code x12.2.1 x12.2.2 3)) p0)) ?_
  refine mz [(34, .b (!x15.1))] [] [(60000, [.h code, .i ((x15.2.1 : Nat) : Int), .i x15.2.2])] [60000] ?_
  obtain ⟨x16, hx16⟩ : ∃ z : FileD × Nat × Int, (bif (!x15.1) then (lt (α := ByteArray × Nat × Int) (specl01Pick code x15.2.1 x15.2.2 [⟨#[105, 110, 107]⟩, ⟨#[115, 101, 97]⟩]) (fun x16 => ((specSetAttr x12.1 ⟨#[110]⟩ (specStringValue x16.1)), x16.2.1, x16.2.2))) else (x12.1, x15.2.1, x15.2.2)) = z := ⟨_, rfl⟩
  have hjx16 : List.length x16.1.2.2.2.2 ≤ 3 := by rw [← hx16]; exact Nat.le_trans join_attr (by first | omega | simp)
  refine jn [] [34] [(5, [.i x16.1.1, .i x16.1.2.1, .b x16.1.2.2.1, .i x16.1.2.2.2.1, .o 448768 x16.1.2.2.2.2]), (60000, [.h code, .i ((x16.2.1 : Nat) : Int), .i x16.2.2])] [5, 60000] (!x15.1) (fun h17 => ?_) (fun h17 => ?_) ?_
  ·
    have h17n : (x15.1) = false := bnot_t h17
    refine ckt h17 ?_
    obtain ⟨x18, hx18⟩ : ∃ z : ByteArray × Nat × Int, specl01Pick code x15.2.1 x15.2.2 [⟨#[105, 110, 107]⟩, ⟨#[115, 101, 97]⟩] = z := ⟨_, rfl⟩
    refine rN tt_ok tt_mx [0, 4, 5] [4, 5, 60000] (po 3 (.give none (.s x18.1) [.h code, .i ((x18.2.1 : Nat) : Int), .i x18.2.2]) (px (ob_give (hx18 ▸ specl01Pick_a code x15.2.1 x15.2.2 [⟨#[105, 110, 107]⟩, ⟨#[115, 101, 97]⟩] (Nat.zero_lt_succ _))) (pc 4 (specStringValue_a x18.1) (pc 5 (specSetAttr_a x12.1 ⟨#[110]⟩ (specStringValue x18.1) (by first | omega | (simp; done) | (simp; omega))) p0)))) ?_
    obtain rfl : x16 = ((specSetAttr x12.1 ⟨#[110]⟩ (specStringValue x18.1)), x18.2.1, x18.2.2) := hx16.symm.trans (show (bif (!x15.1) then (lt (α := ByteArray × Nat × Int) (specl01Pick code x15.2.1 x15.2.2 [⟨#[105, 110, 107]⟩, ⟨#[115, 101, 97]⟩]) (fun x16 => ((specSetAttr x12.1 ⟨#[110]⟩ (specStringValue x16.1)), x16.2.1, x16.2.2))) else (x12.1, x15.2.1, x15.2.2)) = ((specSetAttr x12.1 ⟨#[110]⟩ (specStringValue x18.1)), x18.2.1, x18.2.2) from bif_t h17 (lt_b hx18 (rfl)))
    exact ⟨rfl, weak_sf [(2560, 448768)] (by kernel_rfl)⟩
  ·
    have h17n : (x15.1) = true := bnot_f h17
    refine ckf h17 ?_
    refine awp_skip ?_
    obtain rfl : x16 = (x12.1, x15.2.1, x15.2.2) := hx16.symm.trans (show (bif (!x15.1) then (lt (α := ByteArray × Nat × Int) (specl01Pick code x15.2.1 x15.2.2 [⟨#[105, 110, 107]⟩, ⟨#[115, 101, 97]⟩]) (fun x16 => ((specSetAttr x12.1 ⟨#[110]⟩ (specStringValue x16.1)), x16.2.1, x16.2.2))) else (x12.1, x15.2.1, x15.2.2)) = (x12.1, x15.2.1, x15.2.2) from bif_f h17 (rfl))
    exact ⟨rfl, weak_fit (by kernel_rfl)⟩
  refine awp_seq ?_
  obtain ⟨x19, hx19⟩ : ∃ z : Bool × Nat × Int, specl01Once code x16.2.1 x16.2.2 2 = z := ⟨_, rfl⟩
  refine sn tt_ok [0, 4, 5, 42] [4, 5, 60000] (po 1 (.give none (.b x19.1) [.h code, .i ((x19.2.1 : Nat) : Int), .i x19.2.2]) (px (ob_give (hx19 ▸ specl01Once_a code x16.2.1 x16.2.2 2)) p0)) ?_
  refine ck x19.1 (fun h20 => ?_) (fun h20 => ?_)
  ·
    obtain ⟨x21, hx21⟩ : ∃ z : ByteArray × Nat × Int, specl01Pick code x19.2.1 x19.2.2 [⟨#[114, 101, 100]⟩, ⟨#[98, 108, 117, 101]⟩] = z := ⟨_, rfl⟩
    refine qN tt_ok tt_mx [0, 4, 5] [4, 5, 60000] (po 3 (.give none (.s x21.1) [.h code, .i ((x21.2.1 : Nat) : Int), .i x21.2.2]) (px (ob_give (hx21 ▸ specl01Pick_a code x19.2.1 x19.2.2 [⟨#[114, 101, 100]⟩, ⟨#[98, 108, 117, 101]⟩] (Nat.zero_lt_succ _))) (pc 4 (specStringValue_a x21.1) (pc 5 (specSetAttr_a x16.1 ⟨#[116]⟩ (specStringValue x21.1) (by first | omega | (simp; done) | (simp; omega))) p0)))) ?_
    refine tu tt_ok [] [5] [(4, [.i ((specSetAttr x16.1 ⟨#[116]⟩ (specStringValue x21.1)).1), .i ((specSetAttr x16.1 ⟨#[116]⟩ (specStringValue x21.1)).2.1), .b ((specSetAttr x16.1 ⟨#[116]⟩ (specStringValue x21.1)).2.2.1), .i ((specSetAttr x16.1 ⟨#[116]⟩ (specStringValue x21.1)).2.2.2.1), .o 3072 ((specSetAttr x16.1 ⟨#[116]⟩ (specStringValue x21.1)).2.2.2.2)]), (60000, [.h code, .i ((x21.2.1 : Nat) : Int), .i x21.2.2])] [4, 5, 60000] (p0) ?_
    refine awp_ret ?_
    have hE22 : specl04File code ci ch id = ((specSetAttr x16.1 ⟨#[116]⟩ (specStringValue x21.1)), x21.2.1, x21.2.2) := lt_b hx1 (lt_b hx2 (lt_b hx3 (lt_b hx4 (lt_b hx7 (lt_b hx8 (lt_b hx11 (lt_b hx12 (lt_b hx15 (lt_b hx16 (lt_b hx19 (bif_t h20 (lt_b hx21 (rfl)))))))))))))
    exact gret [] (congrArg (fun z => (.a [.i z.1.1, .i z.1.2.1, .b z.1.2.2.1, .i z.1.2.2.2.1, .o 0 z.1.2.2.2.2] : AV)) hE22.symm) (congrArg (fun z => ([.h code, .i ((z.2.1 : Nat) : Int), .i z.2.2] : List C)) hE22.symm)
  ·
    refine awp_skip ?_
    refine tn tt_ok [0, 4] [4, 60000] (p0) ?_
    refine awp_ret ?_
    have hE23 : specl04File code ci ch id = (x16.1, x19.2.1, x19.2.2) := lt_b hx1 (lt_b hx2 (lt_b hx3 (lt_b hx4 (lt_b hx7 (lt_b hx8 (lt_b hx11 (lt_b hx12 (lt_b hx15 (lt_b hx16 (lt_b hx19 (bif_f h20 (rfl))))))))))))
    exact gret [] (congrArg (fun z => (.a [.i z.1.1, .i z.1.2.1, .b z.1.2.2.1, .i z.1.2.2.2.1, .o 0 z.1.2.2.2.2] : AV)) hE23.symm) (congrArg (fun z => ([.h code, .i ((z.2.1 : Nat) : Int), .i z.2.2] : List C)) hE23.symm)
def specl05Store_f0 (code : (List UInt8)) (s0 : Int × StoreD × Nat × Int) : Rd (StoreD × Nat × Int) (Int × StoreD × Nat × Int) (StoreD × Nat × Int) := (lt (α := Int × Nat × Int) (specl01Below code s0.2.2.1 s0.2.2.2 7) (fun x1 => (bif decide (s0.1 < IntKind.i64.wrap (1 + x1.1)) then (lt (α := FileD × Nat × Int) (specl04File code x1.2.1 x1.2.2 1) (fun x3 => (.next (IntKind.i64.wrap (s0.1 + 1), (((specCreateFile s0.2.1 x3.1)).1), x3.2.1, x3.2.2)))) else (.brk (s0.2.1, x1.2.1, x1.2.2)))))
def specl05Store (code : (List UInt8)) (ci : Nat) (ch : Int) : StoreD × Nat × Int := (Out.on (whlD (specl05Store_f0 code) 8 (0, (specNewStore specl03Usual), ci, ch)) (fun y0 => (bif decide ((y0.1.2.1.length : Int) > (2 : Int)) then (lt (α := Bool × Nat × Int) (specl01Once code y0.2.1 y0.2.2 3) (fun x5 => (bif x5.1 then ((((specDeleteFile y0.1 ((nth y0.1.2.1 1).1))).1), x5.2.1, x5.2.2) else (y0.1, x5.2.1, x5.2.2)))) else (y0.1, y0.2.1, y0.2.2))))
theorem specl05Store_w (code : List UInt8) (ci : Nat) (ch : Int) (s : StoreD) : (whl (specl05Store_f0 code) 8 (0, s, ci, ch)).isSome = true :=
  whl_up (fun s => s.1) 7 (fun s s' h0 h => by
    unfold specl05Store_f0 lt at h
    have hb := specl01Below_bd code s.2.2.1 s.2.2.2 7
    generalize specl01Below code s.2.2.1 s.2.2.2 7 = x at h hb
    have e : IntKind.i64.wrap (1 + x.1) = 1 + x.1 := IntWalk.i64_in _ (by omega)
    simp only [e] at h
    by_cases hc : s.1 < 1 + x.1
    · simp only [decide_eq_true hc, cond_true] at h
      have h := Rd.next.inj h
      rw [← h]
      exact ⟨by omega, IntWalk.i64_in _ (by omega)⟩
    · simp only [decide_eq_false hc, cond_false] at h
      cases h) 7 _ (Int.le_refl 0) (by show (7 : Int) ≤ 0 + 7; omega)
theorem specl05Store_a (code : (List UInt8)) (ci : Nat) (ch : Int) : AGive Try.prog 27 [.h code, .i ((ci : Nat) : Int), .i ch] [] (.a [.o 0 ((((specl05Store code ci ch)).1).1), .q 1 ((((specl05Store code ci ch)).1).2.1), .i ((((specl05Store code ci ch)).1).2.2)]) [.h code, .i ((((specl05Store code ci ch)).2.1 : Nat) : Int), .i (((specl05Store code ci ch)).2.2)] := by
  refine agive_of (tt := tt) tt_ok Try.func27 (fn := Try.f27) rfl (by unfold FnOk; kernel_rfl) (Nat.le_of_ble_eq_true rfl) (Nat.le_of_ble_eq_true rfl) rfl rfl fun w0 F0 hG => ?_
  refine sn tt_ok [0, 2] [2, 60000] (p0) ?_
  refine tn tt_ok [0, 2, 3] [2, 3, 60000] (pc 0 (specl03Usual_a) (pc 1 (specNewStore_a specl03Usual) p0)) ?_
  refine awp_seq ?_
  refine tu tt_ok [(2, .p 2 0), (3, .p 3 0), (4, .i 0)] [] [(2, [.e 2, .e 5, .i 0]), (3, [.o 384 ((specNewStore specl03Usual).1), .o 385 ((specNewStore specl03Usual).2.1), .i ((specNewStore specl03Usual).2.2)])] [] (p0) ?_
  refine blw (fun (s0 : Int × StoreD × Nat × Int) => [(4, .i s0.1)]) [4] (fun s0 => [(3, [.o 147207 s0.2.1.1, .o 147208 s0.2.1.2.1, .i s0.2.1.2.2]), (60000, [.h code, .i ((s0.2.2.1 : Nat) : Int), .i s0.2.2.2])]) [3, 60000] (fun (y0 : StoreD × Nat × Int) => []) [4] (fun y0 => [(3, [.o 147357 y0.1.1, .o 147358 y0.1.2.1, .i y0.1.2.2]), (60000, [.h code, .i ((y0.2.1 : Nat) : Int), .i y0.2.2])]) [3, 60000] (fun (k0 : Nat) (s0 : Int × StoreD × Nat × Int) => whl (specl05Store_f0 code) k0 s0 = some (whlD (specl05Store_f0 code) 8 (0, (specNewStore specl03Usual), ci, ch))) (fun (y0 : StoreD × Nat × Int) => (whlD (specl05Store_f0 code) 8 (0, (specNewStore specl03Usual), ci, ch)) = .brk y0) 8 (0, (specNewStore specl03Usual), ci, ch) (weak_sf [(384, 147207), (385, 147208)] (by kernel_rfl)) (whl_some (specl05Store_w code ci ch _)) (fun _ h => whl_zero h) (fun k0 s0 hI0 => ?_) (fun y0 hD0 => ?_)
  ·
    refine awp_seq ?_
    obtain ⟨x1, hx1⟩ : ∃ z : Int × Nat × Int, specl01Below code s0.2.2.1 s0.2.2.2 7 = z := ⟨_, rfl⟩
    have hbx1 := hx1 ▸ specl01Below_bd code s0.2.2.1 s0.2.2.2 7
    refine sn tt_ok [0, 2, 3, 4, 11] [2, 3, 60000] (po 2 (.give none (.i x1.1) [.h code, .i ((x1.2.1 : Nat) : Int), .i x1.2.2]) (px (ob_give (hx1 ▸ specl01Below_a code s0.2.2.1 s0.2.2.2 7)) p0)) ?_
    refine ck (decide (s0.1 < IntKind.i64.wrap (1 + x1.1))) (fun h2 => ?_) (fun h2 => ?_)
    ·
      have h2d := of_decide_eq_true h2
      refine awp_skip ?_
      refine awp_seq ?_
      refine awp_block ?_
      obtain ⟨x3, hx3⟩ : ∃ z : FileD × Nat × Int, specl04File code x1.2.1 x1.2.2 1 = z := ⟨_, rfl⟩
      refine qN tt_ok tt_mx [0, 2, 3, 4] [2, 3, 60000] (po 2 (.give none (.a [.i x3.1.1, .i x3.1.2.1, .b x3.1.2.2.1, .i x3.1.2.2.2.1, .o 0 x3.1.2.2.2.2]) [.h code, .i ((x3.2.1 : Nat) : Int), .i x3.2.2]) (px (ob_give (hx3 ▸ specl04File_a code x1.2.1 x1.2.2 1)) (pc 3 (specCreateFile_a s0.2.1 x3.1) p0))) ?_
      refine qu tt_ok [(4, .i (IntKind.i64.wrap (s0.1 + 1)))] [4] [(3, [.o 1152 ((((specCreateFile s0.2.1 x3.1)).1).1), .o 1153 ((((specCreateFile s0.2.1 x3.1)).1).2.1), .i ((((specCreateFile s0.2.1 x3.1)).1).2.2)]), (60000, [.h code, .i ((x3.2.1 : Nat) : Int), .i x3.2.2])] [3, 60000] (p0) ?_
      exact Exists.intro (IntKind.i64.wrap (s0.1 + 1), (((specCreateFile s0.2.1 x3.1)).1), x3.2.1, x3.2.2) (And.intro (weak_sf [(1152, 147207), (1153, 147208)] (by kernel_rfl)) (wn hI0 (lt_b hx1 (bif_t h2 (lt_b hx3 (rfl))))))
    ·
      have h2d := of_decide_eq_false h2
      refine awp_exit ?_
      exact Exists.intro (s0.2.1, x1.2.1, x1.2.2) (And.intro (weak_sf [(147207, 147357), (147208, 147358)] (by kernel_rfl)) (wb hI0 (lt_b hx1 (bif_f h2 (rfl)))))
  ·
    refine awp_seq ?_
    refine awp_seq ?_
    refine awp_split (decide ((y0.1.2.1.length : Int) > (2 : Int))) (fun h4 => ?_) (fun h4 => ?_)
    ·
      have h4d := of_decide_eq_true h4
      obtain ⟨x5, hx5⟩ : ∃ z : Bool × Nat × Int, specl01Once code y0.2.1 y0.2.2 3 = z := ⟨_, rfl⟩
      refine rn tt_ok [0, 2, 3, 29] [2, 3, 60000] (pl 2 y0.1.2.1 (pt 3 h4 (po 6 (.give none (.b x5.1) [.h code, .i ((x5.2.1 : Nat) : Int), .i x5.2.2]) (px (ob_give (hx5 ▸ specl01Once_a code y0.2.1 y0.2.2 3)) p0)))) ?_
      refine ck x5.1 (fun h6 => ?_) (fun h6 => ?_)
      ·
        refine wB 3 1 (.own true 147358) y0.1.2.1 (fun hw8 hl9 => ?_)
        have hx7 := ng y0.1.2.1 1
        refine qN tt_ok tt_mx [0, 2, 3] [2, 3, 60000] (pG 3 1 hx7 (pc 6 (specDeleteFile_a y0.1 ((nth y0.1.2.1 1).1)) p0)) ?_
        refine tu tt_ok [] [3] [(2, [.o 2368 ((((specDeleteFile y0.1 ((nth y0.1.2.1 1).1))).1).1), .q 2369 ((((specDeleteFile y0.1 ((nth y0.1.2.1 1).1))).1).2.1), .i ((((specDeleteFile y0.1 ((nth y0.1.2.1 1).1))).1).2.2)]), (60000, [.h code, .i ((x5.2.1 : Nat) : Int), .i x5.2.2])] [2, 3, 60000] (p0) ?_
        refine awp_ret ?_
        have hE10 : specl05Store code ci ch = ((((specDeleteFile y0.1 ((nth y0.1.2.1 1).1))).1), x5.2.1, x5.2.2) := on_b hD0 (bif_t h4 (lt_b hx5 (bif_t h6 (rfl))))
        exact gret [] (congrArg (fun z => (.a [.o 0 z.1.1, .q 1 z.1.2.1, .i z.1.2.2] : AV)) hE10.symm) (congrArg (fun z => ([.h code, .i ((z.2.1 : Nat) : Int), .i z.2.2] : List C)) hE10.symm)
      ·
        refine awp_skip ?_
        refine tn tt_ok [0, 2] [2, 60000] (p0) ?_
        refine awp_demotes [147358] rfl ?_
        refine awp_ret ?_
        have hE11 : specl05Store code ci ch = (y0.1, x5.2.1, x5.2.2) := on_b hD0 (bif_t h4 (lt_b hx5 (bif_f h6 (rfl))))
        exact gret [] (congrArg (fun z => (.a [.o 0 z.1.1, .q 1 z.1.2.1, .i z.1.2.2] : AV)) hE11.symm) (congrArg (fun z => ([.h code, .i ((z.2.1 : Nat) : Int), .i z.2.2] : List C)) hE11.symm)
    ·
      have h4d := of_decide_eq_false h4
      refine ru tt_ok [(29, .b false)] [] [] [] (pl 2 y0.1.2.1 (pf 3 h4 p0)) ?_
      refine ckF ?_
      refine awp_skip ?_
      refine sn tt_ok [0, 2] [2, 60000] (p0) ?_
      refine awp_demotes [147358] rfl ?_
      refine awp_ret ?_
      have hE12 : specl05Store code ci ch = (y0.1, y0.2.1, y0.2.2) := on_b hD0 (bif_f h4 (rfl))
      exact gret [] (congrArg (fun z => (.a [.o 0 z.1.1, .q 1 z.1.2.1, .i z.1.2.2] : AV)) hE12.symm) (congrArg (fun z => ([.h code, .i ((z.2.1 : Nat) : Int), .i z.2.2] : List C)) hE12.symm)
end Go.Proofs.Ytiafgmepdgfpbaa
