/- Texts of this proof, put together by a program: Dra, Drs, Drd, Cha, Ckh, Chb, Cki, LCb, Cbl, MCb. -/
import Derived.Test.YtcnkkobgogmakaaP5
import Derived.KernelRfl
import Derived.Outline
set_option linter.unusedVariables false
set_option linter.unusedSimpArgs false
namespace Go.Proofs.Ytcnkkobgogmakaa
open Go.RowKit
open GoE (enc wide)
def specl01Once (code : (List UInt8)) (ci : Nat) (ch : Int) (n : Int) : Bool × Nat × Int := (lt (α := Int × Nat × Int) (specl01Below code ci ch n) (fun x1 => ((x1.1 == (0 : Int)), x1.2.1, x1.2.2)))
theorem specl01Once_a (code : (List UInt8)) (ci : Nat) (ch : Int) (n : Int) : AGive Try.prog 78 [.h code, .i ((ci : Nat) : Int), .i ch] [.i n] (.b (((specl01Once code ci ch n)).1)) [.h code, .i ((((specl01Once code ci ch n)).2.1 : Nat) : Int), .i (((specl01Once code ci ch n)).2.2)] := by
 refine agive_of (tt := tt) tt_ok Try.func78 (fn := Try.f78) rfl (by unfold FnOk; kernel_rfl) (Nat.le_of_ble_eq_true rfl) (Nat.le_of_ble_eq_true rfl) rfl rfl fun w0 F0 hG => ?_
 refine sn tt_ok [0, 1, 4] [60000] (p0) ?_
 obtain ⟨x1, hx1⟩ : ∃ z : Int × Nat × Int, specl01Below code ci ch n = z := ⟨_, rfl⟩
 have hbx1 := hx1 ▸ specl01Below_bd code ci ch n
 refine tn tt_ok [0, 4] [60000] (po 2 (.give none (.i x1.1) [.h code, .i ((x1.2.1 : Nat) : Int), .i x1.2.2]) (px (ob_give (hx1 ▸ specl01Below_a code ci ch n)) p0)) ?_
 refine awp_ret ?_
 have hE2 : specl01Once code ci ch n = ((x1.1 == (0 : Int)), x1.2.1, x1.2.2) := lt_b hx1 (rfl)
 exact gret [] (congrArg (fun z => (.b z.1 : AV)) hE2.symm) (congrArg (fun z => ([.h code, .i ((z.2.1 : Nat) : Int), .i z.2.2] : List C)) hE2.symm)
def specIntValue (n : Int) : ValueD := (1, n, ⟨#[]⟩)
theorem specIntValue_a (n : Int) : ACalls Try.prog 61 [.i n] (.a [.i ((specIntValue n).1), .i ((specIntValue n).2.1), .s ((specIntValue n).2.2)]) := by
 refine en tt_ok Try.func61 fun w0 F0 hG => ?_
 refine sn tt_ok [0, 2] [2] (p0) ?_
 refine tn tt_ok [2] [2] (p0) ?_
 refine awp_ret ?_
 exact pz [] (show specIntValue n = (1, n, ⟨#[]⟩) from rfl) (fun z => .a [.i z.1, .i z.2.1, .s z.2.2])
def specSetAttr_f0 (name : ByteArray) (_ : Nat) (a0 : AttrD) (s0 : (List AttrD)) : Rd (FileD) ((List AttrD)) ((List AttrD)) := (bif (!(a0.1.toList == name.toList)) then (.next (s0 ++ [a0])) else (.next s0))
def specSetAttr_e0 (_ : Nat) (s0 : (List AttrD)) : (List AttrD) := s0
def specSetAttr_f1 (name : ByteArray) (k1 : Nat) (a1 : AttrD) (_ : Unit) : Rd (FileD) (Unit) (Int) := (bif (Op.bytesLess a1.1.toList name.toList || a1.1.toList == name.toList) then (.next ()) else (.brk ((k1 : Nat) : Int)))
def specSetAttr_e1 (k1 : Nat) (_ : Unit) : Int := ((k1 : Nat) : Int)
def specSetAttr (f : FileD) (name : ByteArray) (v : ValueD) : FileD := (Out.on (forL (specSetAttr_f0 name) specSetAttr_e0 f.2.2.2.2 0 []) (fun y0 => (bif (v.1 != (0 : Int)) then (Out.on (forL (specSetAttr_f1 name) specSetAttr_e1 y0 0 ()) (fun y1 => (f.1, f.2.1, f.2.2.1, f.2.2.2.1, List.take (Int.toNat y1) y0 ++ [(name, v)] ++ (List.drop (Int.toNat y1) y0)))) else (f.1, f.2.1, f.2.2.1, f.2.2.2.1, y0))))
theorem setAttrS_len (f : FileD) (name : ByteArray) (v : ValueD) : List.length (specSetAttr f name v).2.2.2.2 ≤ List.length f.2.2.2.2 + 1 := by
  unfold specSetAttr
  rw [forL_filter (f := specSetAttr_f0 name) (e := specSetAttr_e0) (p := fun a => !(a.1.toList == name.toList)) (g := id) (fun _ _ _ => rfl)]
  simp only [Out.on, specSetAttr_e0, List.nil_append, List.map_id]
  have hf := List.length_filter_le (fun a : AttrD => !(a.1.toList == name.toList)) f.2.2.2.2
  generalize List.filter (fun a : AttrD => !(a.1.toList == name.toList)) f.2.2.2.2 = l at hf
  cases (v.1 != (0 : Int)) with
  | false => exact Nat.le_succ_of_le hf
  | true =>
    simp only [cond_true]
    obtain ⟨t, ht⟩ := forL_noret (f := specSetAttr_f1 name) (e := specSetAttr_e1) (fun k a s r => by
      unfold specSetAttr_f1
      generalize (Op.bytesLess a.1.toList name.toList || a.1.toList == name.toList) = c
      cases c <;> simp) l 0 ()
    rw [ht]
    · show (List.take (Int.toNat t) l ++ [(name, v)] ++ List.drop (Int.toNat t) l).length ≤ _
      simp
      omega
theorem join_attr {c : Bool} {α : Type} {t : α} {F : FileD} {nm : ByteArray} {V : α → ValueD} {A : α → Nat × Int} {B : Nat × Int} : List.length (bif c then lt t (fun x => (specSetAttr F nm (V x), A x)) else (F, B)).1.2.2.2.2 ≤ F.2.2.2.2.length + 1 := by
 cases c with
 | true => exact setAttrS_len _ _ _
 | false => exact Nat.le_succ _
theorem specSetAttr_a (f : FileD) (name : ByteArray) (v : ValueD) (hp : List.length f.2.2.2.2 ≤ 1073741000) : ACalls Try.prog 60 [.a [.i f.1, .i f.2.1, .b f.2.2.1, .i f.2.2.2.1, .h f.2.2.2.2], .s name, .a [.i v.1, .i v.2.1, .s v.2.2]] (.a [.i ((specSetAttr f name v).1), .i ((specSetAttr f name v).2.1), .b ((specSetAttr f name v).2.2.1), .i ((specSetAttr f name v).2.2.2.1), .o 0 ((specSetAttr f name v).2.2.2.2)]) := by
 refine en tt_ok Try.func60 fun w0 F0 hG => ?_
 refine sn tt_ok [1, 3, 5, 6] [3, 5, 6] (p0) ?_
 refine tn tt_ok [1, 3, 5, 6, 7] [3, 5, 6] (p0) ?_
 refine awp_seq ?_
 refine tu tt_ok [(3, .p 3 0), (5, .p 5 0), (6, .p 6 0), (7, .one (.slc (.own true 704) 4 [])), (8, .i 0)] [0, 2] [(3, [.i f.1, .i f.2.1, .b f.2.2.1, .i f.2.2.2.1, .h f.2.2.2.2]), (5, [.i v.1, .i v.2.1, .s v.2.2]), (6, [.i 0, .i 0, .b false, .i 0, .e 4])] [] (p0) ?_
 refine wB 3 4 .sh f.2.2.2.2 (fun hw1 hl2 => ?_)
 refine blL3 (specSetAttr_f0 name) specSetAttr_e0 f.2.2.2.2 [] (fun k0 s0 => [(7, .o 147204 s0), (8, .i ((k0 : Nat) : Int))]) [7, 8] (fun y0 => [(7, .o 147354 y0)]) [7, 8] (fun k0 s0 => List.length s0 ≤ k0) (fun y0 => List.length y0 ≤ List.length f.2.2.2.2) (weak_sf [(704, 147204)] (by kernel_rfl)) (by simp) (fun k0 s0 hk0 hI0 => ?_) (fun k0 s0 hk0 hI0 => ?_) (fun y0 hD0 => ?_)
 ·
  have hA0_0 := hI0.2
  obtain ⟨a0, hx0⟩ := get_some (l := f.2.2.2.2) (i := k0) hk0
  refine awp_seq ?_
  refine su tt_ok [(16, .b true)] [] [] [] (pl 3 f.2.2.2.2 (pe 4 (av_bool (decide_eq_true (p := ((k0 : Nat) : Int) < (f.2.2.2.2.length : Int)) (by omega))) p0)) ?_
  refine ckT ?_
  refine awp_skip ?_
  refine awp_seq ?_
  refine awp_block ?_
  refine sn tt_ok [1, 3, 5, 6, 7, 8, 26] [3, 5, 6] (pn 3 hx0 p0) ?_
  refine ck (!(a0.1.toList == name.toList)) (fun h3 => ?_) (fun h3 => ?_)
  ·
   refine wT 7 0 (.own true 147204) s0 (fun hw4 hl5 => ?_)
   refine qu tt_ok [(7, .one (.slc (.own true 2176) 4 ((eL s0) ++ [[.s a0.1, .i a0.2.1, .i a0.2.2.1, .s a0.2.2.2]])))] [7, 16] [] [] (pn 4 hx0 (pa s0 [a0] p0)) ?_
   refine eqn [(7, .o 2176 (s0 ++ [a0]))] [7] [] [] (by rw [show ((eL s0) ++ [[.s a0.1, .i a0.2.1, .i a0.2.2.1, .s a0.2.2.2]]) = (eL (s0 ++ [a0])) from app_eL (rfl) (rfl)]; first | done | kernel_rfl) ?_
   refine rn tt_ok [1, 3, 5, 6, 7, 8] [3, 5, 6] (pe 1 (av_i (wrap_succ k0 (by omega))) p0) ?_
   exact Exists.intro (s0 ++ [a0]) (And.intro (weak_sf [(2176, 147204)] (by kernel_rfl)) ⟨forL_next hx0 (bif_t h3 (rfl)) hI0.1, by first | omega | (simp; omega) | simp⟩)
  ·
   refine awp_skip ?_
   refine qn tt_ok [1, 3, 5, 6, 7, 8] [3, 5, 6] (pe 1 (av_i (wrap_succ k0 (by omega))) p0) ?_
   exact Exists.intro s0 (And.intro (weak_fit (by kernel_rfl)) ⟨forL_next hx0 (bif_f h3 (rfl)) hI0.1, by first | omega | (simp; omega) | simp⟩)
 ·
  have hA0_0 := hI0.2
  refine awp_seq ?_
  refine su tt_ok [(16, .b false)] [] [] [] (pl 3 f.2.2.2.2 (pe 4 (av_bool (decide_eq_false (p := ((k0 : Nat) : Int) < (f.2.2.2.2.length : Int)) (by omega))) p0)) ?_
  refine ckF ?_
  refine awp_exit ?_
  exact Exists.intro s0 (And.intro (weak_sf [(147204, 147354)] (by kernel_rfl)) ⟨forL_end hk0 (rfl) hI0.1, by first | omega | (simp only [List.length_set]; omega)⟩)
 ·
  have hD0_0 := hD0.2
  refine awp_seq ?_
  refine sn tt_ok [1, 3, 5, 6, 7, 37] [3, 5, 6] (p0) ?_
  refine ck (v.1 != (0 : Int)) (fun h6 => ?_) (fun h6 => ?_)
  ·
   have h6d := ne_of_bne h6
   refine tu tt_ok [(9, .i 0)] [] [] [] (p0) ?_
   refine awp_seq ?_
   refine wT 7 0 (.own true 147354) y0 (fun hw7 hl8 => ?_)
   refine blL2 (specSetAttr_f1 name) specSetAttr_e1 y0 () (fun k1 _ => [(9, .i ((k1 : Nat) : Int))]) [9] (fun y1 => [(9, .i y1)]) [9] (fun y1 => 0 ≤ y1 ∧ y1 ≤ (y0.length : Int)) (weak_fit (by kernel_rfl)) (fun k1 s1 hk1 hI1 => ?_) (fun k1 s1 hk1 hI1 => ?_) (fun y1 hD1 => ?_)
   ·
    obtain ⟨a1, hx1⟩ := get_some (l := y0) (i := k1) hk1
    refine awp_seq ?_
    refine sn tt_ok [1, 3, 5, 6, 7, 9, 50] [3, 5, 6] (pl 2 y0 (pe 3 (av_bool (decide_eq_true (p := ((k1 : Nat) : Int) < (y0.length : Int)) (by omega))) (pN 7 hx1 p0))) ?_
    refine ck (Op.bytesLess a1.1.toList name.toList || a1.1.toList == name.toList) (fun h9 => ?_) (fun h9 => ?_)
    ·
     refine awp_skip ?_
     refine awp_block ?_
     refine qn tt_ok [1, 3, 5, 6, 7, 9] [3, 5, 6] (pe 1 (av_i (wrap_succ k1 (by omega))) p0) ?_
     exact Exists.intro _ (And.intro (weak_fit (by kernel_rfl)) (forL_next hx1 (bif_t h9 (rfl)) hI1))
    ·
     refine awp_exit ?_
     exact Exists.intro ((k1 : Nat) : Int) (And.intro (weak_fit (by kernel_rfl)) ⟨forL_brk hx1 (bif_f h9 (rfl)) hI1, by first | omega | (simp only [List.length_set]; omega)⟩)
   ·
    refine awp_seq ?_
    refine su tt_ok [(50, .b false)] [] [] [] (pl 2 y0 (pe 3 (av_bool (decide_eq_false (p := ((k1 : Nat) : Int) < (y0.length : Int)) (by omega))) p0)) ?_
    refine ckF ?_
    refine awp_exit ?_
    exact Exists.intro ((k1 : Nat) : Int) (And.intro (weak_fit (by kernel_rfl)) ⟨forL_end hk1 (rfl) hI1, by first | omega | (simp only [List.length_set]; omega)⟩)
   ·
    have hD1_0 := hD1.2
    have hl10 : List.length (List.take (Int.toNat y1) y0) ≤ 1073741824 := wide_len (wide_take (Int.toNat y1) (hw7))
    refine sU tt_ok tt_mx [(10, .one (.slc (.own true 3968) 4 (([] ++ (eL (List.take (Int.toNat y1) y0))) ++ [[.s name, .i v.1, .i v.2.1, .s v.2.2]])))] [1, 5] [] [5] (pe 3 (av_take (.vw 147354) 4 (Int.toNat y1) y1 y0 rfl) (px (ob_rng (lo := 0) (hi := y1) (n := (List.length (eL y0))) (rng_of (by omega) (by omega) (by omega))) (po 4 (.flat) (px (ob_len (n := (([] : List (List PV)).length + ((eL (List.take (Int.toNat y1) y0)) : List (List PV)).length)) (len_of (rfl) (eL_length (List.take (Int.toNat y1) y0)) (by first | omega | (simp only [List.length_cons, List.length_nil]; omega) | (simp; omega) | simp))) (px (ob_flat (flat_eL (List.take (Int.toNat y1) y0))) (px (ob_len (n := ((([] ++ (eL (List.take (Int.toNat y1) y0))) : List (List PV)).length + ([[.s name, .i v.1, .i v.2.1, .s v.2.2]] : List (List PV)).length)) (by simp [eL_length]; omega)) p0)))))) ?_
    refine eqn [(10, .o 3968 (List.take (Int.toNat y1) y0 ++ [(name, v)]))] [10] [] [] (by rw [show (([] ++ (eL (List.take (Int.toNat y1) y0))) ++ [[.s name, .i v.1, .i v.2.1, .s v.2.2]]) = (eL (List.take (Int.toNat y1) y0 ++ [(name, v)])) from app_eL (rfl) (rfl)]; first | done | kernel_rfl) ?_
    refine wT 10 0 (.own true 3968) (List.take (Int.toNat y1) y0 ++ [(name, v)]) (fun hw11 hl12 => ?_)
    have hl13 : List.length (List.drop (Int.toNat y1) y0) ≤ 1073741824 := wide_len (wide_drop (Int.toNat y1) (hw7))
    refine ru tt_ok [(7, .one (.slc (.own true 4288) 4 ((eL (List.take (Int.toNat y1) y0 ++ [(name, v)])) ++ (eL (List.drop (Int.toNat y1) y0)))))] [7, 9, 10] [] [] (pe 3 (av_drop (.vw 147354) 4 (Int.toNat y1) y1 y0 rfl) (px (ob_rng (lo := y1) (hi := (((eL y0) : List (List PV)).length : Int)) (n := (List.length (eL y0))) (rng_all (by omega) (by omega))) (po 4 (.flat) (pa (List.take (Int.toNat y1) y0 ++ [(name, v)]) (List.drop (Int.toNat y1) y0) (px (ob_flat (flat_eL (List.drop (Int.toNat y1) y0))) p0))))) ?_
    refine eqn [(7, .o 4288 (List.take (Int.toNat y1) y0 ++ [(name, v)] ++ (List.drop (Int.toNat y1) y0)))] [7] [] [] (by rw [show ((eL (List.take (Int.toNat y1) y0 ++ [(name, v)])) ++ (eL (List.drop (Int.toNat y1) y0))) = (eL (List.take (Int.toNat y1) y0 ++ [(name, v)] ++ (List.drop (Int.toNat y1) y0))) from app_eL (rfl) (rfl)]; first | done | kernel_rfl) ?_
    refine sn tt_ok [3, 6] [3, 6] (p0) ?_
    refine tn tt_ok [6] [6] (p0) ?_
    refine awp_ret ?_
    exact pz [] (show specSetAttr f name v = _ from on_b hD0.1 (bif_t h6 (on_b hD1.1 (rfl)))) (fun z => .a [.i z.1, .i z.2.1, .b z.2.2.1, .i z.2.2.2.1, .o 0 z.2.2.2.2])
  ·
   refine awp_skip ?_
   refine tn tt_ok [3, 6] [3, 6] (p0) ?_
   refine tu tt_ok [] [1, 3, 5, 7] [(6, [.i f.1, .i f.2.1, .b f.2.2.1, .i f.2.2.2.1, .o 147354 y0])] [3, 5, 6] (p0) ?_
   refine awp_ret ?_
   exact pz [] (show specSetAttr f name v = _ from on_b hD0.1 (bif_f h6 (rfl))) (fun z => .a [.i z.1, .i z.2.1, .b z.2.2.1, .i z.2.2.2.1, .o 0 z.2.2.2.2])
def specl01Pick (code : (List UInt8)) (ci : Nat) (ch : Int) (list : (List ByteArray)) : ByteArray × Nat × Int := (lt (α := Int × Nat × Int) (specl01Below code ci ch (list.length : Int)) (fun x1 => ((nth list (Int.toNat x1.1)), x1.2.1, x1.2.2)))
theorem specl01Pick_a (code : (List UInt8)) (ci : Nat) (ch : Int) (list : (List ByteArray)) (hp : 0 < List.length list) : AGive Try.prog 101 [.h code, .i ((ci : Nat) : Int), .i ch] [.h list] (.s (((specl01Pick code ci ch list)).1)) [.h code, .i ((((specl01Pick code ci ch list)).2.1 : Nat) : Int), .i (((specl01Pick code ci ch list)).2.2)] := by
 refine agive_of (tt := tt) tt_ok Try.func101 (fn := Try.f101) rfl (by unfold FnOk; kernel_rfl) (Nat.le_of_ble_eq_true rfl) (Nat.le_of_ble_eq_true rfl) rfl rfl fun w0 F0 hG => ?_
 refine sn tt_ok [0, 1, 4] [60000] (p0) ?_
 obtain ⟨x1, hx1⟩ : ∃ z : Int × Nat × Int, specl01Below code ci ch (list.length : Int) = z := ⟨_, rfl⟩
 have hbx1 := hx1 ▸ specl01Below_bd code ci ch (list.length : Int)
 refine wT 1 0 .sh list (fun hw3 hl4 => ?_)
 have hx2 := ng list (Int.toNat x1.1)
 refine tn tt_ok [0, 4] [60000] (pl 3 list (po 4 (.give none (.i x1.1) [.h code, .i ((x1.2.1 : Nat) : Int), .i x1.2.2]) (px (ob_give (hx1 ▸ specl01Below_a code ci ch (list.length : Int))) (pg 5 x1.1 hx2 p0)))) ?_
 refine awp_ret ?_
 have hE5 : specl01Pick code ci ch list = ((nth list (Int.toNat x1.1)), x1.2.1, x1.2.2) := lt_b hx1 (rfl)
 exact gret [] (congrArg (fun z => (.s z.1 : AV)) hE5.symm) (congrArg (fun z => ([.h code, .i ((z.2.1 : Nat) : Int), .i z.2.2] : List C)) hE5.symm)
def specStringValue (w : ByteArray) : ValueD := (2, 0, w)
theorem specStringValue_a (w : ByteArray) : ACalls Try.prog 82 [.s w] (.a [.i ((specStringValue w).1), .i ((specStringValue w).2.1), .s ((specStringValue w).2.2)]) := by
 refine en tt_ok Try.func82 fun w0 F0 hG => ?_
 refine sn tt_ok [0, 2] [2] (p0) ?_
 refine tn tt_ok [2] [2] (p0) ?_
 refine awp_ret ?_
 exact pz [] (show specStringValue w = (2, 0, w) from rfl) (fun z => .a [.i z.1, .i z.2.1, .s z.2.2])
def specl04File (code : (List UInt8)) (ci : Nat) (ch : Int) (id : Int) : FileD × Nat × Int := (lt (α := Int × Nat × Int) (specl01Below code ci ch 3) (fun x1 => (lt (α := Bool × Nat × Int) (specl01Once code x1.2.1 x1.2.2 2) (fun x2 => (lt (α := Bool × Nat × Int) (specl01Once code x2.2.1 x2.2.2 2) (fun x3 => (lt (α := Int × Nat × Int) (bif x3.1 then (lt (α := Int × Nat × Int) (specl01Below code x3.2.1 x3.2.2 7) (fun x4 => (x4.1, x4.2.1, x4.2.2))) else (0, x3.2.1, x3.2.2)) (fun x4 => (lt (α := Bool × Nat × Int) (specl01Once code x4.2.1 x4.2.2 4) (fun x7 => (lt (α := FileD × Nat × Int) (bif (!x7.1) then (lt (α := Int × Nat × Int) (specl01Below code x7.2.1 x7.2.2 4) (fun x8 => ((specSetAttr (id, x1.1, x2.1, x4.1, []) ⟨#[97]⟩ (specIntValue x8.1)), x8.2.1, x8.2.2))) else ((id, x1.1, x2.1, x4.1, []), x7.2.1, x7.2.2)) (fun x8 => (lt (α := Bool × Nat × Int) (specl01Once code x8.2.1 x8.2.2 2) (fun x11 => (lt (α := FileD × Nat × Int) (bif x11.1 then (lt (α := Int × Nat × Int) (specl01Below code x11.2.1 x11.2.2 4) (fun x12 => ((specSetAttr x8.1 ⟨#[98]⟩ (specIntValue x12.1)), x12.2.1, x12.2.2))) else (x8.1, x11.2.1, x11.2.2)) (fun x12 => (lt (α := Bool × Nat × Int) (specl01Once code x12.2.1 x12.2.2 3) (fun x15 => (lt (α := FileD × Nat × Int) (bif (!x15.1) then (lt (α := ByteArray × Nat × Int) (specl01Pick code x15.2.1 x15.2.2 [⟨#[105, 110, 107]⟩, ⟨#[115, 101, 97]⟩]) (fun x16 => ((specSetAttr x12.1 ⟨#[110]⟩ (specStringValue x16.1)), x16.2.1, x16.2.2))) else (x12.1, x15.2.1, x15.2.2)) (fun x16 => (lt (α := Bool × Nat × Int) (specl01Once code x16.2.1 x16.2.2 2) (fun x19 => (bif x19.1 then (lt (α := ByteArray × Nat × Int) (specl01Pick code x19.2.1 x19.2.2 [⟨#[114, 101, 100]⟩, ⟨#[98, 108, 117, 101]⟩]) (fun x21 => ((specSetAttr x16.1 ⟨#[116]⟩ (specStringValue x21.1)), x21.2.1, x21.2.2))) else (x16.1, x19.2.1, x19.2.2))))))))))))))))))))))))
theorem specl04File_a (code : (List UInt8)) (ci : Nat) (ch : Int) (id : Int) : AGive Try.prog 77 [.h code, .i ((ci : Nat) : Int), .i ch] [.i id] (.a [.i ((((specl04File code ci ch id)).1).1), .i ((((specl04File code ci ch id)).1).2.1), .b ((((specl04File code ci ch id)).1).2.2.1), .i ((((specl04File code ci ch id)).1).2.2.2.1), .o 0 ((((specl04File code ci ch id)).1).2.2.2.2)]) [.h code, .i ((((specl04File code ci ch id)).2.1 : Nat) : Int), .i (((specl04File code ci ch id)).2.2)] := by
 refine agive_of (tt := tt) tt_ok Try.func77 (fn := Try.f77) rfl (by unfold FnOk; kernel_rfl) (Nat.le_of_ble_eq_true rfl) (Nat.le_of_ble_eq_true rfl) rfl rfl fun w0 F0 hG => ?_
 refine sn tt_ok [0, 1, 4] [4, 60000] (p0) ?_
 obtain ⟨x1, hx1⟩ : ∃ z : Int × Nat × Int, specl01Below code ci ch 3 = z := ⟨_, rfl⟩
 have hbx1 := hx1 ▸ specl01Below_bd code ci ch 3
 obtain ⟨x2, hx2⟩ : ∃ z : Bool × Nat × Int, specl01Once code x1.2.1 x1.2.2 2 = z := ⟨_, rfl⟩
 refine tn tt_ok [0, 4, 5] [4, 5, 60000] (po 2 (.give none (.i x1.1) [.h code, .i ((x1.2.1 : Nat) : Int), .i x1.2.2]) (px (ob_give (hx1 ▸ specl01Below_a code ci ch 3)) (po 4 (.give none (.b x2.1) [.h code, .i ((x2.2.1 : Nat) : Int), .i x2.2.2]) (px (ob_give (hx2 ▸ specl01Once_a code x1.2.1 x1.2.2 2)) p0)))) ?_
 refine awp_seq ?_
 obtain ⟨x3, hx3⟩ : ∃ z : Bool × Nat × Int, specl01Once code x2.2.1 x2.2.2 2 = z := ⟨_, rfl⟩
 refine tu tt_ok [(4, .p 4 0), (5, .p 5 0), (13, .b x3.1)] [1] [(4, [.i 0, .i 0, .b false, .i 0, .e 4]), (5, [.i id, .i x1.1, .b x2.1, .i 0, .e 4]), (60000, [.h code, .i ((x3.2.1 : Nat) : Int), .i x3.2.2])] [60000] (po 1 (.give none (.b x3.1) [.h code, .i ((x3.2.1 : Nat) : Int), .i x3.2.2]) (px (ob_give (hx3 ▸ specl01Once_a code x2.2.1 x2.2.2 2)) p0)) ?_
 obtain ⟨x4, hx4⟩ : ∃ z : Int × Nat × Int, (bif x3.1 then (lt (α := Int × Nat × Int) (specl01Below code x3.2.1 x3.2.2 7) (fun x4 => (x4.1, x4.2.1, x4.2.2))) else (0, x3.2.1, x3.2.2)) = z := ⟨_, rfl⟩
 refine jn [] [13] [(5, [.i id, .i x1.1, .b x2.1, .i x4.1, .e 4]), (60000, [.h code, .i ((x4.2.1 : Nat) : Int), .i x4.2.2])] [5, 60000] x3.1 (fun h5 => ?_) (fun h5 => ?_) ?_
 ·
  refine ckt h5 ?_
  obtain ⟨x6, hx6⟩ : ∃ z : Int × Nat × Int, specl01Below code x3.2.1 x3.2.2 7 = z := ⟨_, rfl⟩
  have hbx6 := hx6 ▸ specl01Below_bd code x3.2.1 x3.2.2 7
  refine rn tt_ok [0, 4, 5] [4, 5, 60000] (po 1 (.give none (.i x6.1) [.h code, .i ((x6.2.1 : Nat) : Int), .i x6.2.2]) (px (ob_give (hx6 ▸ specl01Below_a code x3.2.1 x3.2.2 7)) p0)) ?_
  obtain rfl : x4 = (x6.1, x6.2.1, x6.2.2) := hx4.symm.trans (show (bif x3.1 then (lt (α := Int × Nat × Int) (specl01Below code x3.2.1 x3.2.2 7) (fun x4 => (x4.1, x4.2.1, x4.2.2))) else (0, x3.2.1, x3.2.2)) = (x6.1, x6.2.1, x6.2.2) from bif_t h5 (lt_b hx6 (rfl)))
  exact ⟨rfl, weak_fit (by kernel_rfl)⟩
 ·
  refine ckf h5 ?_
  refine awp_skip ?_
  obtain rfl : x4 = (0, x3.2.1, x3.2.2) := hx4.symm.trans (show (bif x3.1 then (lt (α := Int × Nat × Int) (specl01Below code x3.2.1 x3.2.2 7) (fun x4 => (x4.1, x4.2.1, x4.2.2))) else (0, x3.2.1, x3.2.2)) = (0, x3.2.1, x3.2.2) from bif_f h5 (rfl))
  exact ⟨rfl, weak_fit (by kernel_rfl)⟩
 refine awp_seq ?_
 obtain ⟨x7, hx7⟩ : ∃ z : Bool × Nat × Int, specl01Once code x4.2.1 x4.2.2 4 = z := ⟨_, rfl⟩
 refine sn tt_ok [0, 4, 5, 19] [4, 5, 60000] (po 1 (.give none (.b x7.1) [.h code, .i ((x7.2.1 : Nat) : Int), .i x7.2.2]) (px (ob_give (hx7 ▸ specl01Once_a code x4.2.1 x4.2.2 4)) p0)) ?_
 refine mz [(19, .b (!x7.1))] [] [(60000, [.h code, .i ((x7.2.1 : Nat) : Int), .i x7.2.2])] [60000] ?_
 obtain ⟨x8, hx8⟩ : ∃ z : FileD × Nat × Int, (bif (!x7.1) then (lt (α := Int × Nat × Int) (specl01Below code x7.2.1 x7.2.2 4) (fun x8 => ((specSetAttr (id, x1.1, x2.1, x4.1, []) ⟨#[97]⟩ (specIntValue x8.1)), x8.2.1, x8.2.2))) else ((id, x1.1, x2.1, x4.1, []), x7.2.1, x7.2.2)) = z := ⟨_, rfl⟩
 have hjx8 : List.length x8.1.2.2.2.2 ≤ 1 := by rw [← hx8]; exact Nat.le_trans join_attr (by first | omega | simp)
 refine jn [] [19] [(5, [.i x8.1.1, .i x8.1.2.1, .b x8.1.2.2.1, .i x8.1.2.2.2.1, .o 448768 x8.1.2.2.2.2]), (60000, [.h code, .i ((x8.2.1 : Nat) : Int), .i x8.2.2])] [5, 60000] (!x7.1) (fun h9 => ?_) (fun h9 => ?_) ?_
 ·
  refine ckt h9 ?_
  obtain ⟨x10, hx10⟩ : ∃ z : Int × Nat × Int, specl01Below code x7.2.1 x7.2.2 4 = z := ⟨_, rfl⟩
  have hbx10 := hx10 ▸ specl01Below_bd code x7.2.1 x7.2.2 4
  refine rN tt_ok tt_mx [0, 4, 5] [4, 5, 60000] (po 2 (.give none (.i x10.1) [.h code, .i ((x10.2.1 : Nat) : Int), .i x10.2.2]) (px (ob_give (hx10 ▸ specl01Below_a code x7.2.1 x7.2.2 4)) (pc 3 (specIntValue_a x10.1) (pc 4 (specSetAttr_a (id, x1.1, x2.1, x4.1, []) ⟨#[97]⟩ (specIntValue x10.1) (by first | omega | (simp; done) | (simp; omega))) p0)))) ?_
  obtain rfl : x8 = ((specSetAttr (id, x1.1, x2.1, x4.1, []) ⟨#[97]⟩ (specIntValue x10.1)), x10.2.1, x10.2.2) := hx8.symm.trans (show (bif (!x7.1) then (lt (α := Int × Nat × Int) (specl01Below code x7.2.1 x7.2.2 4) (fun x8 => ((specSetAttr (id, x1.1, x2.1, x4.1, []) ⟨#[97]⟩ (specIntValue x8.1)), x8.2.1, x8.2.2))) else ((id, x1.1, x2.1, x4.1, []), x7.2.1, x7.2.2)) = ((specSetAttr (id, x1.1, x2.1, x4.1, []) ⟨#[97]⟩ (specIntValue x10.1)), x10.2.1, x10.2.2) from bif_t h9 (lt_b hx10 (rfl)))
  exact ⟨rfl, weak_sf [(1536, 448768)] (by kernel_rfl)⟩
 ·
  refine ckf h9 ?_
  refine awp_skip ?_
  obtain rfl : x8 = ((id, x1.1, x2.1, x4.1, []), x7.2.1, x7.2.2) := hx8.symm.trans (show (bif (!x7.1) then (lt (α := Int × Nat × Int) (specl01Below code x7.2.1 x7.2.2 4) (fun x8 => ((specSetAttr (id, x1.1, x2.1, x4.1, []) ⟨#[97]⟩ (specIntValue x8.1)), x8.2.1, x8.2.2))) else ((id, x1.1, x2.1, x4.1, []), x7.2.1, x7.2.2)) = ((id, x1.1, x2.1, x4.1, []), x7.2.1, x7.2.2) from bif_f h9 (rfl))
  exact ⟨rfl, weak_gf [(true, 5, 4, true, 320008, 4)] [] [] [(320008, 448768)] (by kernel_rfl)⟩
 refine awp_seq ?_
 obtain ⟨x11, hx11⟩ : ∃ z : Bool × Nat × Int, specl01Once code x8.2.1 x8.2.2 2 = z := ⟨_, rfl⟩
 refine sn tt_ok [0, 4, 5, 26] [4, 5, 60000] (po 1 (.give none (.b x11.1) [.h code, .i ((x11.2.1 : Nat) : Int), .i x11.2.2]) (px (ob_give (hx11 ▸ specl01Once_a code x8.2.1 x8.2.2 2)) p0)) ?_
 refine mz [(26, .b x11.1)] [] [(60000, [.h code, .i ((x11.2.1 : Nat) : Int), .i x11.2.2])] [60000] ?_
 obtain ⟨x12, hx12⟩ : ∃ z : FileD × Nat × Int, (bif x11.1 then (lt (α := Int × Nat × Int) (specl01Below code x11.2.1 x11.2.2 4) (fun x12 => ((specSetAttr x8.1 ⟨#[98]⟩ (specIntValue x12.1)), x12.2.1, x12.2.2))) else (x8.1, x11.2.1, x11.2.2)) = z := ⟨_, rfl⟩
 have hjx12 : List.length x12.1.2.2.2.2 ≤ 2 := by rw [← hx12]; exact Nat.le_trans join_attr (by first | omega | simp)
 refine jn [] [26] [(5, [.i x12.1.1, .i x12.1.2.1, .b x12.1.2.2.1, .i x12.1.2.2.2.1, .o 448768 x12.1.2.2.2.2]), (60000, [.h code, .i ((x12.2.1 : Nat) : Int), .i x12.2.2])] [5, 60000] x11.1 (fun h13 => ?_) (fun h13 => ?_) ?_
 ·
  refine ckt h13 ?_
  obtain ⟨x14, hx14⟩ : ∃ z : Int × Nat × Int, specl01Below code x11.2.1 x11.2.2 4 = z := ⟨_, rfl⟩
  have hbx14 := hx14 ▸ specl01Below_bd code x11.2.1 x11.2.2 4
  refine rN tt_ok tt_mx [0, 4, 5] [4, 5, 60000] (po 2 (.give none (.i x14.1) [.h code, .i ((x14.2.1 : Nat) : Int), .i x14.2.2]) (px (ob_give (hx14 ▸ specl01Below_a code x11.2.1 x11.2.2 4)) (pc 3 (specIntValue_a x14.1) (pc 4 (specSetAttr_a x8.1 ⟨#[98]⟩ (specIntValue x14.1) (by first | omega | (simp; done) | (simp; omega))) p0)))) ?_
  obtain rfl : x12 = ((specSetAttr x8.1 ⟨#[98]⟩ (specIntValue x14.1)), x14.2.1, x14.2.2) := hx12.symm.trans (show (bif x11.1 then (lt (α := Int × Nat × Int) (specl01Below code x11.2.1 x11.2.2 4) (fun x12 => ((specSetAttr x8.1 ⟨#[98]⟩ (specIntValue x12.1)), x12.2.1, x12.2.2))) else (x8.1, x11.2.1, x11.2.2)) = ((specSetAttr x8.1 ⟨#[98]⟩ (specIntValue x14.1)), x14.2.1, x14.2.2) from bif_t h13 (lt_b hx14 (rfl)))
  exact ⟨rfl, weak_sf [(1984, 448768)] (by kernel_rfl)⟩
 ·
  refine ckf h13 ?_
  refine awp_skip ?_
  obtain rfl : x12 = (x8.1, x11.2.1, x11.2.2) := hx12.symm.trans (show (bif x11.1 then (lt (α := Int × Nat × Int) (specl01Below code x11.2.1 x11.2.2 4) (fun x12 => ((specSetAttr x8.1 ⟨#[98]⟩ (specIntValue x12.1)), x12.2.1, x12.2.2))) else (x8.1, x11.2.1, x11.2.2)) = (x8.1, x11.2.1, x11.2.2) from bif_f h13 (rfl))
  exact ⟨rfl, weak_fit (by kernel_rfl)⟩
 refine awp_seq ?_
 obtain ⟨x15, hx15⟩ : ∃ z : Bool × Nat × Int, specl01Once code x12.2.1 x12.2.2 3 = z := ⟨_, rfl⟩
 refine sn tt_ok [0, 4, 5, 34] [4, 5, 60000] (po 1 (.give none (.b x15.1) [.h code, .i ((x15.2.1 : Nat) : Int), .i x15.2.2]) (px (ob_give (hx15 ▸ specl01Once_a code x12.2.1 x12.2.2 3)) p0)) ?_
 refine mz [(34, .b (!x15.1))] [] [(60000, [.h code, .i ((x15.2.1 : Nat) : Int), .i x15.2.2])] [60000] ?_
 obtain ⟨x16, hx16⟩ : ∃ z : FileD × Nat × Int, (bif (!x15.1) then (lt (α := ByteArray × Nat × Int) (specl01Pick code x15.2.1 x15.2.2 [⟨#[105, 110, 107]⟩, ⟨#[115, 101, 97]⟩]) (fun x16 => ((specSetAttr x12.1 ⟨#[110]⟩ (specStringValue x16.1)), x16.2.1, x16.2.2))) else (x12.1, x15.2.1, x15.2.2)) = z := ⟨_, rfl⟩
 have hjx16 : List.length x16.1.2.2.2.2 ≤ 3 := by rw [← hx16]; exact Nat.le_trans join_attr (by first | omega | simp)
 refine jn [] [34] [(5, [.i x16.1.1, .i x16.1.2.1, .b x16.1.2.2.1, .i x16.1.2.2.2.1, .o 448768 x16.1.2.2.2.2]), (60000, [.h code, .i ((x16.2.1 : Nat) : Int), .i x16.2.2])] [5, 60000] (!x15.1) (fun h17 => ?_) (fun h17 => ?_) ?_
 ·
  refine ckt h17 ?_
  obtain ⟨x18, hx18⟩ : ∃ z : ByteArray × Nat × Int, specl01Pick code x15.2.1 x15.2.2 [⟨#[105, 110, 107]⟩, ⟨#[115, 101, 97]⟩] = z := ⟨_, rfl⟩
  refine rN tt_ok tt_mx [0, 4, 5] [4, 5, 60000] (po 3 (.give none (.s x18.1) [.h code, .i ((x18.2.1 : Nat) : Int), .i x18.2.2]) (px (ob_give (hx18 ▸ specl01Pick_a code x15.2.1 x15.2.2 [⟨#[105, 110, 107]⟩, ⟨#[115, 101, 97]⟩] (Nat.zero_lt_succ _))) (pc 4 (specStringValue_a x18.1) (pc 5 (specSetAttr_a x12.1 ⟨#[110]⟩ (specStringValue x18.1) (by first | omega | (simp; done) | (simp; omega))) p0)))) ?_
  obtain rfl : x16 = ((specSetAttr x12.1 ⟨#[110]⟩ (specStringValue x18.1)), x18.2.1, x18.2.2) := hx16.symm.trans (show (bif (!x15.1) then (lt (α := ByteArray × Nat × Int) (specl01Pick code x15.2.1 x15.2.2 [⟨#[105, 110, 107]⟩, ⟨#[115, 101, 97]⟩]) (fun x16 => ((specSetAttr x12.1 ⟨#[110]⟩ (specStringValue x16.1)), x16.2.1, x16.2.2))) else (x12.1, x15.2.1, x15.2.2)) = ((specSetAttr x12.1 ⟨#[110]⟩ (specStringValue x18.1)), x18.2.1, x18.2.2) from bif_t h17 (lt_b hx18 (rfl)))
  exact ⟨rfl, weak_sf [(2560, 448768)] (by kernel_rfl)⟩
 ·
  refine ckf h17 ?_
  refine awp_skip ?_
  obtain rfl : x16 = (x12.1, x15.2.1, x15.2.2) := hx16.symm.trans (show (bif (!x15.1) then (lt (α := ByteArray × Nat × Int) (specl01Pick code x15.2.1 x15.2.2 [⟨#[105, 110, 107]⟩, ⟨#[115, 101, 97]⟩]) (fun x16 => ((specSetAttr x12.1 ⟨#[110]⟩ (specStringValue x16.1)), x16.2.1, x16.2.2))) else (x12.1, x15.2.1, x15.2.2)) = (x12.1, x15.2.1, x15.2.2) from bif_f h17 (rfl))
  exact ⟨rfl, weak_fit (by kernel_rfl)⟩
 refine awp_seq ?_
 obtain ⟨x19, hx19⟩ : ∃ z : Bool × Nat × Int, specl01Once code x16.2.1 x16.2.2 2 = z := ⟨_, rfl⟩
 refine sn tt_ok [0, 4, 5, 42] [4, 5, 60000] (po 1 (.give none (.b x19.1) [.h code, .i ((x19.2.1 : Nat) : Int), .i x19.2.2]) (px (ob_give (hx19 ▸ specl01Once_a code x16.2.1 x16.2.2 2)) p0)) ?_
 refine ck x19.1 (fun h20 => ?_) (fun h20 => ?_)
 ·
  obtain ⟨x21, hx21⟩ : ∃ z : ByteArray × Nat × Int, specl01Pick code x19.2.1 x19.2.2 [⟨#[114, 101, 100]⟩, ⟨#[98, 108, 117, 101]⟩] = z := ⟨_, rfl⟩
  refine qN tt_ok tt_mx [0, 4, 5] [4, 5, 60000] (po 3 (.give none (.s x21.1) [.h code, .i ((x21.2.1 : Nat) : Int), .i x21.2.2]) (px (ob_give (hx21 ▸ specl01Pick_a code x19.2.1 x19.2.2 [⟨#[114, 101, 100]⟩, ⟨#[98, 108, 117, 101]⟩] (Nat.zero_lt_succ _))) (pc 4 (specStringValue_a x21.1) (pc 5 (specSetAttr_a x16.1 ⟨#[116]⟩ (specStringValue x21.1) (by first | omega | (simp; done) | (simp; omega))) p0)))) ?_
  refine tu tt_ok [] [5] [(4, [.i ((specSetAttr x16.1 ⟨#[116]⟩ (specStringValue x21.1)).1), .i ((specSetAttr x16.1 ⟨#[116]⟩ (specStringValue x21.1)).2.1), .b ((specSetAttr x16.1 ⟨#[116]⟩ (specStringValue x21.1)).2.2.1), .i ((specSetAttr x16.1 ⟨#[116]⟩ (specStringValue x21.1)).2.2.2.1), .o 3072 ((specSetAttr x16.1 ⟨#[116]⟩ (specStringValue x21.1)).2.2.2.2)]), (60000, [.h code, .i ((x21.2.1 : Nat) : Int), .i x21.2.2])] [4, 5, 60000] (p0) ?_
  refine awp_ret ?_
  have hE22 : specl04File code ci ch id = ((specSetAttr x16.1 ⟨#[116]⟩ (specStringValue x21.1)), x21.2.1, x21.2.2) := lt_b hx1 (lt_b hx2 (lt_b hx3 (lt_b hx4 (lt_b hx7 (lt_b hx8 (lt_b hx11 (lt_b hx12 (lt_b hx15 (lt_b hx16 (lt_b hx19 (bif_t h20 (lt_b hx21 (rfl)))))))))))))
  exact gret [] (congrArg (fun z => (.a [.i z.1.1, .i z.1.2.1, .b z.1.2.2.1, .i z.1.2.2.2.1, .o 0 z.1.2.2.2.2] : AV)) hE22.symm) (congrArg (fun z => ([.h code, .i ((z.2.1 : Nat) : Int), .i z.2.2] : List C)) hE22.symm)
 ·
  refine awp_skip ?_
  refine tn tt_ok [0, 4] [4, 60000] (p0) ?_
  refine awp_ret ?_
  have hE23 : specl04File code ci ch id = (x16.1, x19.2.1, x19.2.2) := lt_b hx1 (lt_b hx2 (lt_b hx3 (lt_b hx4 (lt_b hx7 (lt_b hx8 (lt_b hx11 (lt_b hx12 (lt_b hx15 (lt_b hx16 (lt_b hx19 (bif_f h20 (rfl))))))))))))
  exact gret [] (congrArg (fun z => (.a [.i z.1.1, .i z.1.2.1, .b z.1.2.2.1, .i z.1.2.2.2.1, .o 0 z.1.2.2.2.2] : AV)) hE23.symm) (congrArg (fun z => ([.h code, .i ((z.2.1 : Nat) : Int), .i z.2.2] : List C)) hE23.symm)
def specl05Store_f0 (code : (List UInt8)) (s0 : Int × StoreD × Nat × Int) : Rd (StoreD × Nat × Int) (Int × StoreD × Nat × Int) (StoreD × Nat × Int) := (lt (α := Int × Nat × Int) (specl01Below code s0.2.2.1 s0.2.2.2 7) (fun x1 => (bif decide (s0.1 < IntKind.i64.wrap (1 + x1.1)) then (lt (α := FileD × Nat × Int) (specl04File code x1.2.1 x1.2.2 1) (fun x3 => (.next (IntKind.i64.wrap (s0.1 + 1), (((specCreateFile s0.2.1 x3.1)).1), x3.2.1, x3.2.2)))) else (.brk (s0.2.1, x1.2.1, x1.2.2)))))
def specl05Store (code : (List UInt8)) (ci : Nat) (ch : Int) : StoreD × Nat × Int := (Out.on (whlD (specl05Store_f0 code) 8 (0, (specNewStore specl03Usual), ci, ch)) (fun y0 => (bif decide ((y0.1.2.1.length : Int) > (2 : Int)) then (lt (α := Bool × Nat × Int) (specl01Once code y0.2.1 y0.2.2 3) (fun x5 => (bif x5.1 then ((((specDeleteFile y0.1 ((nth y0.1.2.1 1).1))).1), x5.2.1, x5.2.2) else (y0.1, x5.2.1, x5.2.2)))) else (y0.1, y0.2.1, y0.2.2))))
theorem specl05Store_w (code : List UInt8) (ci : Nat) (ch : Int) (s : StoreD) : (whl (specl05Store_f0 code) 8 (0, s, ci, ch)).isSome = true :=
  whl_up (fun s => s.1) 7 (fun s s' h0 h => by
    unfold specl05Store_f0 lt at h
    have hb := specl01Below_bd code s.2.2.1 s.2.2.2 7
    generalize specl01Below code s.2.2.1 s.2.2.2 7 = x at h hb
    have e : IntKind.i64.wrap (1 + x.1) = 1 + x.1 := IntWalk.i64_in _ (by omega)
    simp only [e] at h
    by_cases hc : s.1 < 1 + x.1
    · simp only [decide_eq_true hc, cond_true] at h
      have h := Rd.next.inj h
      rw [← h]
      exact ⟨by omega, IntWalk.i64_in _ (by omega)⟩
    · simp only [decide_eq_false hc, cond_false] at h
      cases h) 7 _ (Int.le_refl 0) (by show (7 : Int) ≤ 0 + 7; omega)
theorem specl05Store_a (code : (List UInt8)) (ci : Nat) (ch : Int) : AGive Try.prog 44 [.h code, .i ((ci : Nat) : Int), .i ch] [] (.a [.o 0 ((((specl05Store code ci ch)).1).1), .q 1 ((((specl05Store code ci ch)).1).2.1), .i ((((specl05Store code ci ch)).1).2.2)]) [.h code, .i ((((specl05Store code ci ch)).2.1 : Nat) : Int), .i (((specl05Store code ci ch)).2.2)] := by
 refine agive_of (tt := tt) tt_ok Try.func44 (fn := Try.f44) rfl (by unfold FnOk; kernel_rfl) (Nat.le_of_ble_eq_true rfl) (Nat.le_of_ble_eq_true rfl) rfl rfl fun w0 F0 hG => ?_
 refine sn tt_ok [0, 2] [2, 60000] (p0) ?_
 refine tn tt_ok [0, 2, 3] [2, 3, 60000] (pc 0 (specl03Usual_a) (pc 1 (specNewStore_a specl03Usual) p0)) ?_
 refine awp_seq ?_
 refine tu tt_ok [(2, .p 2 0), (3, .p 3 0), (4, .i 0)] [] [(2, [.e 2, .e 5, .i 0]), (3, [.o 384 ((specNewStore specl03Usual).1), .o 385 ((specNewStore specl03Usual).2.1), .i ((specNewStore specl03Usual).2.2)])] [] (p0) ?_
 refine blw (fun (s0 : Int × StoreD × Nat × Int) => [(4, .i s0.1)]) [4] (fun s0 => [(3, [.o 147207 s0.2.1.1, .o 147208 s0.2.1.2.1, .i s0.2.1.2.2]), (60000, [.h code, .i ((s0.2.2.1 : Nat) : Int), .i s0.2.2.2])]) [3, 60000] (fun (y0 : StoreD × Nat × Int) => []) [4] (fun y0 => [(3, [.o 147357 y0.1.1, .o 147358 y0.1.2.1, .i y0.1.2.2]), (60000, [.h code, .i ((y0.2.1 : Nat) : Int), .i y0.2.2])]) [3, 60000] (fun (k0 : Nat) (s0 : Int × StoreD × Nat × Int) => whl (specl05Store_f0 code) k0 s0 = some (whlD (specl05Store_f0 code) 8 (0, (specNewStore specl03Usual), ci, ch))) (fun (y0 : StoreD × Nat × Int) => (whlD (specl05Store_f0 code) 8 (0, (specNewStore specl03Usual), ci, ch)) = .brk y0) 8 (0, (specNewStore specl03Usual), ci, ch) (weak_sf [(384, 147207), (385, 147208)] (by kernel_rfl)) (whl_some (specl05Store_w code ci ch _)) (fun _ h => whl_zero h) (fun k0 s0 hI0 => ?_) (fun y0 hD0 => ?_)
 ·
  refine awp_seq ?_
  obtain ⟨x1, hx1⟩ : ∃ z : Int × Nat × Int, specl01Below code s0.2.2.1 s0.2.2.2 7 = z := ⟨_, rfl⟩
  have hbx1 := hx1 ▸ specl01Below_bd code s0.2.2.1 s0.2.2.2 7
  refine sn tt_ok [0, 2, 3, 4, 11] [2, 3, 60000] (po 2 (.give none (.i x1.1) [.h code, .i ((x1.2.1 : Nat) : Int), .i x1.2.2]) (px (ob_give (hx1 ▸ specl01Below_a code s0.2.2.1 s0.2.2.2 7)) p0)) ?_
  refine ck (decide (s0.1 < IntKind.i64.wrap (1 + x1.1))) (fun h2 => ?_) (fun h2 => ?_)
  ·
   refine awp_skip ?_
   refine awp_seq ?_
   refine awp_block ?_
   obtain ⟨x3, hx3⟩ : ∃ z : FileD × Nat × Int, specl04File code x1.2.1 x1.2.2 1 = z := ⟨_, rfl⟩
   refine qN tt_ok tt_mx [0, 2, 3, 4] [2, 3, 60000] (po 2 (.give none (.a [.i x3.1.1, .i x3.1.2.1, .b x3.1.2.2.1, .i x3.1.2.2.2.1, .o 0 x3.1.2.2.2.2]) [.h code, .i ((x3.2.1 : Nat) : Int), .i x3.2.2]) (px (ob_give (hx3 ▸ specl04File_a code x1.2.1 x1.2.2 1)) (pc 3 (specCreateFile_a s0.2.1 x3.1) p0))) ?_
   refine qu tt_ok [(4, .i (IntKind.i64.wrap (s0.1 + 1)))] [4] [(3, [.o 1152 ((((specCreateFile s0.2.1 x3.1)).1).1), .o 1153 ((((specCreateFile s0.2.1 x3.1)).1).2.1), .i ((((specCreateFile s0.2.1 x3.1)).1).2.2)]), (60000, [.h code, .i ((x3.2.1 : Nat) : Int), .i x3.2.2])] [3, 60000] (p0) ?_
   exact Exists.intro (IntKind.i64.wrap (s0.1 + 1), (((specCreateFile s0.2.1 x3.1)).1), x3.2.1, x3.2.2) (And.intro (weak_sf [(1152, 147207), (1153, 147208)] (by kernel_rfl)) (wn hI0 (lt_b hx1 (bif_t h2 (lt_b hx3 (rfl))))))
  ·
   refine awp_exit ?_
   exact Exists.intro (s0.2.1, x1.2.1, x1.2.2) (And.intro (weak_sf [(147207, 147357), (147208, 147358)] (by kernel_rfl)) (wb hI0 (lt_b hx1 (bif_f h2 (rfl)))))
 ·
  refine awp_seq ?_
  refine awp_seq ?_
  refine awp_split (decide ((y0.1.2.1.length : Int) > (2 : Int))) (fun h4 => ?_) (fun h4 => ?_)
  ·
   have h4d := of_decide_eq_true h4
   obtain ⟨x5, hx5⟩ : ∃ z : Bool × Nat × Int, specl01Once code y0.2.1 y0.2.2 3 = z := ⟨_, rfl⟩
   refine rn tt_ok [0, 2, 3, 29] [2, 3, 60000] (pl 2 y0.1.2.1 (pt 3 h4 (po 6 (.give none (.b x5.1) [.h code, .i ((x5.2.1 : Nat) : Int), .i x5.2.2]) (px (ob_give (hx5 ▸ specl01Once_a code y0.2.1 y0.2.2 3)) p0)))) ?_
   refine ck x5.1 (fun h6 => ?_) (fun h6 => ?_)
   ·
    refine wB 3 1 (.own true 147358) y0.1.2.1 (fun hw8 hl9 => ?_)
    have hx7 := ng y0.1.2.1 1
    refine qN tt_ok tt_mx [0, 2, 3] [2, 3, 60000] (pG 3 1 hx7 (pc 6 (specDeleteFile_a y0.1 ((nth y0.1.2.1 1).1)) p0)) ?_
    refine tu tt_ok [] [3] [(2, [.o 2368 ((((specDeleteFile y0.1 ((nth y0.1.2.1 1).1))).1).1), .q 2369 ((((specDeleteFile y0.1 ((nth y0.1.2.1 1).1))).1).2.1), .i ((((specDeleteFile y0.1 ((nth y0.1.2.1 1).1))).1).2.2)]), (60000, [.h code, .i ((x5.2.1 : Nat) : Int), .i x5.2.2])] [2, 3, 60000] (p0) ?_
    refine awp_ret ?_
    have hE10 : specl05Store code ci ch = ((((specDeleteFile y0.1 ((nth y0.1.2.1 1).1))).1), x5.2.1, x5.2.2) := on_b hD0 (bif_t h4 (lt_b hx5 (bif_t h6 (rfl))))
    exact gret [] (congrArg (fun z => (.a [.o 0 z.1.1, .q 1 z.1.2.1, .i z.1.2.2] : AV)) hE10.symm) (congrArg (fun z => ([.h code, .i ((z.2.1 : Nat) : Int), .i z.2.2] : List C)) hE10.symm)
   ·
    refine awp_skip ?_
    refine tn tt_ok [0, 2] [2, 60000] (p0) ?_
    refine awp_demotes [147358] rfl ?_
    refine awp_ret ?_
    have hE11 : specl05Store code ci ch = (y0.1, x5.2.1, x5.2.2) := on_b hD0 (bif_t h4 (lt_b hx5 (bif_f h6 (rfl))))
    exact gret [] (congrArg (fun z => (.a [.o 0 z.1.1, .q 1 z.1.2.1, .i z.1.2.2] : AV)) hE11.symm) (congrArg (fun z => ([.h code, .i ((z.2.1 : Nat) : Int), .i z.2.2] : List C)) hE11.symm)
  ·
   refine ru tt_ok [(29, .b false)] [] [] [] (pl 2 y0.1.2.1 (pf 3 h4 p0)) ?_
   refine ckF ?_
   refine awp_skip ?_
   refine sn tt_ok [0, 2] [2, 60000] (p0) ?_
   refine awp_demotes [147358] rfl ?_
   refine awp_ret ?_
   have hE12 : specl05Store code ci ch = (y0.1, y0.2.1, y0.2.2) := on_b hD0 (bif_f h4 (rfl))
   exact gret [] (congrArg (fun z => (.a [.o 0 z.1.1, .q 1 z.1.2.1, .i z.1.2.2] : AV)) hE12.symm) (congrArg (fun z => ([.h code, .i ((z.2.1 : Nat) : Int), .i z.2.2] : List C)) hE12.symm)
def specl09DirName (code : (List UInt8)) (ci : Nat) (ch : Int) : ByteArray × Nat × Int := (lt (α := ByteArray × Nat × Int) (specl01Pick code ci ch [⟨#[100, 97]⟩, ⟨#[100, 98]⟩, ⟨#[100, 99]⟩, ⟨#[100, 100]⟩, ⟨#[100, 97]⟩, ⟨#[100, 98]⟩, ⟨#[100, 99]⟩]) (fun x1 => (x1.1, x1.2.1, x1.2.2)))
theorem specl09DirName_a (code : (List UInt8)) (ci : Nat) (ch : Int) : AGive Try.prog 144 [.h code, .i ((ci : Nat) : Int), .i ch] [] (.s (((specl09DirName code ci ch)).1)) [.h code, .i ((((specl09DirName code ci ch)).2.1 : Nat) : Int), .i (((specl09DirName code ci ch)).2.2)] := by
 refine agive_of (tt := tt) tt_ok Try.func144 (fn := Try.f144) rfl (by unfold FnOk; kernel_rfl) (Nat.le_of_ble_eq_true rfl) (Nat.le_of_ble_eq_true rfl) rfl rfl fun w0 F0 hG => ?_
 refine sn tt_ok [0, 2] [60000] (p0) ?_
 obtain ⟨x1, hx1⟩ : ∃ z : ByteArray × Nat × Int, specl01Pick code ci ch [⟨#[100, 97]⟩, ⟨#[100, 98]⟩, ⟨#[100, 99]⟩, ⟨#[100, 100]⟩, ⟨#[100, 97]⟩, ⟨#[100, 98]⟩, ⟨#[100, 99]⟩] = z := ⟨_, rfl⟩
 refine tn tt_ok [0, 2] [60000] (po 2 (.give none (.s x1.1) [.h code, .i ((x1.2.1 : Nat) : Int), .i x1.2.2]) (px (ob_give (hx1 ▸ specl01Pick_a code ci ch [⟨#[100, 97]⟩, ⟨#[100, 98]⟩, ⟨#[100, 99]⟩, ⟨#[100, 100]⟩, ⟨#[100, 97]⟩, ⟨#[100, 98]⟩, ⟨#[100, 99]⟩] (Nat.zero_lt_succ _))) p0)) ?_
 refine awp_ret ?_
 have hE2 : specl09DirName code ci ch = (x1.1, x1.2.1, x1.2.2) := lt_b hx1 (rfl)
 exact gret [] (congrArg (fun z => (.s z.1 : AV)) hE2.symm) (congrArg (fun z => ([.h code, .i ((z.2.1 : Nat) : Int), .i z.2.2] : List C)) hE2.symm)
def specl09Leaf (code : (List UInt8)) (ci : Nat) (ch : Int) : NodeD × Nat × Int := (lt (α := Int × Nat × Int) (specl01Below code ci ch 9) (fun x1 => (bif (x1.1 == (0 : Int)) then ((1, 0, 0, ⟨#[]⟩, (0, 0, ⟨#[]⟩)), x1.2.1, x1.2.2) else (bif (x1.1 == (1 : Int)) then (lt (α := ByteArray × Nat × Int) (specl01Pick code x1.2.1 x1.2.2 [⟨#[97]⟩, ⟨#[98]⟩, ⟨#[110]⟩, ⟨#[116]⟩]) (fun x5 => ((2, 0, 0, x5.1, (0, 0, ⟨#[]⟩)), x5.2.1, x5.2.2))) else (bif (x1.1 == (2 : Int)) then (lt (α := Int × Nat × Int) (specl01Below code x1.2.1 x1.2.2 4) (fun x8 => ((3, 0, 0, ⟨#[97]⟩, (specIntValue x8.1)), x8.2.1, x8.2.2))) else (bif (x1.1 == (3 : Int)) then (lt (α := ByteArray × Nat × Int) (specl01Pick code x1.2.1 x1.2.2 [⟨#[114, 101, 100]⟩, ⟨#[98, 108, 117, 101]⟩]) (fun x11 => ((3, 0, 0, ⟨#[116]⟩, (specStringValue x11.1)), x11.2.1, x11.2.2))) else (bif (x1.1 == (4 : Int)) then (lt (α := ByteArray × Nat × Int) (specl01Pick code x1.2.1 x1.2.2 [⟨#[97]⟩, ⟨#[98]⟩]) (fun x14 => (lt (α := Int × Nat × Int) (specl01Below code x14.2.1 x14.2.2 3) (fun x15 => ((4, 0, 0, x14.1, (specIntValue (IntKind.i64.wrap (1 + x15.1)))), x15.2.1, x15.2.2))))) else (bif (bif (x1.1 == (5 : Int)) then (x1.1 == (5 : Int)) else (x1.1 == (6 : Int))) then (lt (α := ByteArray × Nat × Int) (specl09DirName code x1.2.1 x1.2.2) (fun x19 => ((8, 0, 0, x19.1, (0, 0, ⟨#[]⟩)), x19.2.1, x19.2.2))) else (bif (x1.1 == (7 : Int)) then (lt (α := ByteArray × Nat × Int) (specl09DirName code x1.2.1 x1.2.2) (fun x22 => ((9, 0, 0, x22.1, (0, 0, ⟨#[]⟩)), x22.2.1, x22.2.2))) else (lt (α := Int × Nat × Int) (specl01Below code x1.2.1 x1.2.2 4) (fun x24 => ((3, 0, 0, ⟨#[98]⟩, (specIntValue x24.1)), x24.2.1, x24.2.2))))))))))))
theorem specl09Leaf_a (code : (List UInt8)) (ci : Nat) (ch : Int) : AGive Try.prog 133 [.h code, .i ((ci : Nat) : Int), .i ch] [] (.a [.i ((((specl09Leaf code ci ch)).1).1), .i ((((specl09Leaf code ci ch)).1).2.1), .i ((((specl09Leaf code ci ch)).1).2.2.1), .s ((((specl09Leaf code ci ch)).1).2.2.2.1), .i ((((specl09Leaf code ci ch)).1).2.2.2.2.1), .i ((((specl09Leaf code ci ch)).1).2.2.2.2.2.1), .s ((((specl09Leaf code ci ch)).1).2.2.2.2.2.2)]) [.h code, .i ((((specl09Leaf code ci ch)).2.1 : Nat) : Int), .i (((specl09Leaf code ci ch)).2.2)] := by
 refine agive_of (tt := tt) tt_ok Try.func133 (fn := Try.f133) rfl (by unfold FnOk; kernel_rfl) (Nat.le_of_ble_eq_true rfl) (Nat.le_of_ble_eq_true rfl) rfl rfl fun w0 F0 hG => ?_
 refine sn tt_ok [0, 2] [2, 60000] (p0) ?_
 refine awp_seq ?_
 obtain ⟨x1, hx1⟩ : ∃ z : Int × Nat × Int, specl01Below code ci ch 9 = z := ⟨_, rfl⟩
 have hbx1 := hx1 ▸ specl01Below_bd code ci ch 9
 refine tn tt_ok [0, 2, 4] [2, 60000] (po 1 (.give none (.i x1.1) [.h code, .i ((x1.2.1 : Nat) : Int), .i x1.2.2]) (px (ob_give (hx1 ▸ specl01Below_a code ci ch 9)) p0)) ?_
 refine awp_block ?_
 refine tu tt_ok [(2, .p 2 0), (4, .i x1.1), (5, .b (x1.1 == (0 : Int)))] [] [(2, [.i 0, .i 0, .i 0, .s ⟨#[]⟩, .i 0, .i 0, .s ⟨#[]⟩]), (60000, [.h code, .i ((x1.2.1 : Nat) : Int), .i x1.2.2])] [60000] (p0) ?_
 refine ck (x1.1 == (0 : Int)) (fun h2 => ?_) (fun h2 => ?_)
 ·
  refine sn tt_ok [0, 2] [2, 60000] (p0) ?_
  refine awp_ret ?_
  have hE3 : specl09Leaf code ci ch = ((1, 0, 0, ⟨#[]⟩, (0, 0, ⟨#[]⟩)), x1.2.1, x1.2.2) := lt_b hx1 (bif_t h2 (rfl))
  exact gret [] (congrArg (fun z => (.a [.i z.1.1, .i z.1.2.1, .i z.1.2.2.1, .s z.1.2.2.2.1, .i z.1.2.2.2.2.1, .i z.1.2.2.2.2.2.1, .s z.1.2.2.2.2.2.2] : AV)) hE3.symm) (congrArg (fun z => ([.h code, .i ((z.2.1 : Nat) : Int), .i z.2.2] : List C)) hE3.symm)
 ·
  refine sn tt_ok [0, 2, 4, 8] [2, 60000] (p0) ?_
  refine ck (x1.1 == (1 : Int)) (fun h4 => ?_) (fun h4 => ?_)
  ·
   obtain ⟨x5, hx5⟩ : ∃ z : ByteArray × Nat × Int, specl01Pick code x1.2.1 x1.2.2 [⟨#[97]⟩, ⟨#[98]⟩, ⟨#[110]⟩, ⟨#[116]⟩] = z := ⟨_, rfl⟩
   refine tn tt_ok [0, 2] [2, 60000] (po 2 (.give none (.s x5.1) [.h code, .i ((x5.2.1 : Nat) : Int), .i x5.2.2]) (px (ob_give (hx5 ▸ specl01Pick_a code x1.2.1 x1.2.2 [⟨#[97]⟩, ⟨#[98]⟩, ⟨#[110]⟩, ⟨#[116]⟩] (Nat.zero_lt_succ _))) p0)) ?_
   refine awp_ret ?_
   have hE6 : specl09Leaf code ci ch = ((2, 0, 0, x5.1, (0, 0, ⟨#[]⟩)), x5.2.1, x5.2.2) := lt_b hx1 (bif_f h2 (bif_t h4 (lt_b hx5 (rfl))))
   exact gret [] (congrArg (fun z => (.a [.i z.1.1, .i z.1.2.1, .i z.1.2.2.1, .s z.1.2.2.2.1, .i z.1.2.2.2.2.1, .i z.1.2.2.2.2.2.1, .s z.1.2.2.2.2.2.2] : AV)) hE6.symm) (congrArg (fun z => ([.h code, .i ((z.2.1 : Nat) : Int), .i z.2.2] : List C)) hE6.symm)
  ·
   refine tn tt_ok [0, 2, 4, 14] [2, 60000] (p0) ?_
   refine ck (x1.1 == (2 : Int)) (fun h7 => ?_) (fun h7 => ?_)
   ·
    obtain ⟨x8, hx8⟩ : ∃ z : Int × Nat × Int, specl01Below code x1.2.1 x1.2.2 4 = z := ⟨_, rfl⟩
    have hbx8 := hx8 ▸ specl01Below_bd code x1.2.1 x1.2.2 4
    refine tu tt_ok [] [4, 5] [(2, [.i 3, .i 0, .i 0, .s ⟨#[97]⟩, .i ((specIntValue x8.1).1), .i ((specIntValue x8.1).2.1), .s ((specIntValue x8.1).2.2)]), (60000, [.h code, .i ((x8.2.1 : Nat) : Int), .i x8.2.2])] [2, 60000] (po 1 (.give none (.i x8.1) [.h code, .i ((x8.2.1 : Nat) : Int), .i x8.2.2]) (px (ob_give (hx8 ▸ specl01Below_a code x1.2.1 x1.2.2 4)) (pc 2 (specIntValue_a x8.1) p0))) ?_
    refine awp_ret ?_
    have hE9 : specl09Leaf code ci ch = ((3, 0, 0, ⟨#[97]⟩, (specIntValue x8.1)), x8.2.1, x8.2.2) := lt_b hx1 (bif_f h2 (bif_f h4 (bif_t h7 (lt_b hx8 (rfl)))))
    exact gret [] (congrArg (fun z => (.a [.i z.1.1, .i z.1.2.1, .i z.1.2.2.1, .s z.1.2.2.2.1, .i z.1.2.2.2.2.1, .i z.1.2.2.2.2.2.1, .s z.1.2.2.2.2.2.2] : AV)) hE9.symm) (congrArg (fun z => ([.h code, .i ((z.2.1 : Nat) : Int), .i z.2.2] : List C)) hE9.symm)
   ·
    refine tu tt_ok [(20, .b (x1.1 == (3 : Int)))] [5] [] [] (p0) ?_
    refine ck (x1.1 == (3 : Int)) (fun h10 => ?_) (fun h10 => ?_)
    ·
     obtain ⟨x11, hx11⟩ : ∃ z : ByteArray × Nat × Int, specl01Pick code x1.2.1 x1.2.2 [⟨#[114, 101, 100]⟩, ⟨#[98, 108, 117, 101]⟩] = z := ⟨_, rfl⟩
     refine sn tt_ok [0, 2] [2, 60000] (po 2 (.give none (.s x11.1) [.h code, .i ((x11.2.1 : Nat) : Int), .i x11.2.2]) (px (ob_give (hx11 ▸ specl01Pick_a code x1.2.1 x1.2.2 [⟨#[114, 101, 100]⟩, ⟨#[98, 108, 117, 101]⟩] (Nat.zero_lt_succ _))) (pc 3 (specStringValue_a x11.1) p0))) ?_
     refine awp_ret ?_
     have hE12 : specl09Leaf code ci ch = ((3, 0, 0, ⟨#[116]⟩, (specStringValue x11.1)), x11.2.1, x11.2.2) := lt_b hx1 (bif_f h2 (bif_f h4 (bif_f h7 (bif_t h10 (lt_b hx11 (rfl))))))
     exact gret [] (congrArg (fun z => (.a [.i z.1.1, .i z.1.2.1, .i z.1.2.2.1, .s z.1.2.2.2.1, .i z.1.2.2.2.2.1, .i z.1.2.2.2.2.2.1, .s z.1.2.2.2.2.2.2] : AV)) hE12.symm) (congrArg (fun z => ([.h code, .i ((z.2.1 : Nat) : Int), .i z.2.2] : List C)) hE12.symm)
    ·
     refine sn tt_ok [0, 2, 4, 27] [2, 60000] (p0) ?_
     refine ck (x1.1 == (4 : Int)) (fun h13 => ?_) (fun h13 => ?_)
     ·
      obtain ⟨x14, hx14⟩ : ∃ z : ByteArray × Nat × Int, specl01Pick code x1.2.1 x1.2.2 [⟨#[97]⟩, ⟨#[98]⟩] = z := ⟨_, rfl⟩
      obtain ⟨x15, hx15⟩ : ∃ z : Int × Nat × Int, specl01Below code x14.2.1 x14.2.2 3 = z := ⟨_, rfl⟩
      have hbx15 := hx15 ▸ specl01Below_bd code x14.2.1 x14.2.2 3
      refine tn tt_ok [0, 2] [2, 60000] (po 2 (.give none (.s x14.1) [.h code, .i ((x14.2.1 : Nat) : Int), .i x14.2.2]) (px (ob_give (hx14 ▸ specl01Pick_a code x1.2.1 x1.2.2 [⟨#[97]⟩, ⟨#[98]⟩] (Nat.zero_lt_succ _))) (po 4 (.give none (.i x15.1) [.h code, .i ((x15.2.1 : Nat) : Int), .i x15.2.2]) (px (ob_give (hx15 ▸ specl01Below_a code x14.2.1 x14.2.2 3)) (pc 6 (specIntValue_a (IntKind.i64.wrap (1 + x15.1))) p0))))) ?_
      refine awp_ret ?_
      have hE16 : specl09Leaf code ci ch = ((4, 0, 0, x14.1, (specIntValue (IntKind.i64.wrap (1 + x15.1)))), x15.2.1, x15.2.2) := lt_b hx1 (bif_f h2 (bif_f h4 (bif_f h7 (bif_f h10 (bif_t h13 (lt_b hx14 (lt_b hx15 (rfl))))))))
      exact gret [] (congrArg (fun z => (.a [.i z.1.1, .i z.1.2.1, .i z.1.2.2.1, .s z.1.2.2.2.1, .i z.1.2.2.2.2.1, .i z.1.2.2.2.2.2.1, .s z.1.2.2.2.2.2.2] : AV)) hE16.symm) (congrArg (fun z => ([.h code, .i ((z.2.1 : Nat) : Int), .i z.2.2] : List C)) hE16.symm)
     ·
      refine awp_seq ?_
      refine tn tt_ok [0, 2, 4, 37] [2, 60000] (p0) ?_
      refine mz [(37, .b (x1.1 == (5 : Int)))] [20] [] [] ?_
      refine jn [(37, .b (bif (x1.1 == (5 : Int)) then (x1.1 == (5 : Int)) else (x1.1 == (6 : Int))))] [37] [] [] (x1.1 == (5 : Int)) (fun h17 => ?_) (fun h17 => ?_) ?_
      ·
       refine ckt h17 ?_
       refine awp_skip ?_
       exact ⟨rfl, weak_fit (by rw [h17]; first | done | kernel_rfl)⟩
      ·
       refine ckf h17 ?_
       refine rn tt_ok [0, 2, 4, 37] [2, 60000] (p0) ?_
       exact ⟨rfl, weak_fit (by rw [h17]; first | done | kernel_rfl)⟩
      refine ck (bif (x1.1 == (5 : Int)) then (x1.1 == (5 : Int)) else (x1.1 == (6 : Int))) (fun h18 => ?_) (fun h18 => ?_)
      ·
       obtain ⟨x19, hx19⟩ : ∃ z : ByteArray × Nat × Int, specl09DirName code x1.2.1 x1.2.2 = z := ⟨_, rfl⟩
       refine sn tt_ok [0, 2] [2, 60000] (po 1 (.give none (.s x19.1) [.h code, .i ((x19.2.1 : Nat) : Int), .i x19.2.2]) (px (ob_give (hx19 ▸ specl09DirName_a code x1.2.1 x1.2.2)) p0)) ?_
       refine awp_ret ?_
       have hE20 : specl09Leaf code ci ch = ((8, 0, 0, x19.1, (0, 0, ⟨#[]⟩)), x19.2.1, x19.2.2) := lt_b hx1 (bif_f h2 (bif_f h4 (bif_f h7 (bif_f h10 (bif_f h13 (bif_t h18 (lt_b hx19 (rfl))))))))
       exact gret [] (congrArg (fun z => (.a [.i z.1.1, .i z.1.2.1, .i z.1.2.2.1, .s z.1.2.2.2.1, .i z.1.2.2.2.2.1, .i z.1.2.2.2.2.2.1, .s z.1.2.2.2.2.2.2] : AV)) hE20.symm) (congrArg (fun z => ([.h code, .i ((z.2.1 : Nat) : Int), .i z.2.2] : List C)) hE20.symm)
      ·
       refine sn tt_ok [0, 2, 43] [2, 60000] (p0) ?_
       refine ck (x1.1 == (7 : Int)) (fun h21 => ?_) (fun h21 => ?_)
       ·
        obtain ⟨x22, hx22⟩ : ∃ z : ByteArray × Nat × Int, specl09DirName code x1.2.1 x1.2.2 = z := ⟨_, rfl⟩
        refine tn tt_ok [0, 2] [2, 60000] (po 1 (.give none (.s x22.1) [.h code, .i ((x22.2.1 : Nat) : Int), .i x22.2.2]) (px (ob_give (hx22 ▸ specl09DirName_a code x1.2.1 x1.2.2)) p0)) ?_
        refine awp_ret ?_
        have hE23 : specl09Leaf code ci ch = ((9, 0, 0, x22.1, (0, 0, ⟨#[]⟩)), x22.2.1, x22.2.2) := lt_b hx1 (bif_f h2 (bif_f h4 (bif_f h7 (bif_f h10 (bif_f h13 (bif_f h18 (bif_t h21 (lt_b hx22 (rfl)))))))))
        exact gret [] (congrArg (fun z => (.a [.i z.1.1, .i z.1.2.1, .i z.1.2.2.1, .s z.1.2.2.2.1, .i z.1.2.2.2.2.1, .i z.1.2.2.2.2.2.1, .s z.1.2.2.2.2.2.2] : AV)) hE23.symm) (congrArg (fun z => ([.h code, .i ((z.2.1 : Nat) : Int), .i z.2.2] : List C)) hE23.symm)
       ·
        refine awp_skip ?_
        obtain ⟨x24, hx24⟩ : ∃ z : Int × Nat × Int, specl01Below code x1.2.1 x1.2.2 4 = z := ⟨_, rfl⟩
        have hbx24 := hx24 ▸ specl01Below_bd code x1.2.1 x1.2.2 4
        refine tn tt_ok [0, 2] [2, 60000] (po 1 (.give none (.i x24.1) [.h code, .i ((x24.2.1 : Nat) : Int), .i x24.2.2]) (px (ob_give (hx24 ▸ specl01Below_a code x1.2.1 x1.2.2 4)) (pc 2 (specIntValue_a x24.1) p0))) ?_
        refine awp_ret ?_
        have hE25 : specl09Leaf code ci ch = ((3, 0, 0, ⟨#[98]⟩, (specIntValue x24.1)), x24.2.1, x24.2.2) := lt_b hx1 (bif_f h2 (bif_f h4 (bif_f h7 (bif_f h10 (bif_f h13 (bif_f h18 (bif_f h21 (lt_b hx24 (rfl)))))))))
        exact gret [] (congrArg (fun z => (.a [.i z.1.1, .i z.1.2.1, .i z.1.2.2.1, .s z.1.2.2.2.1, .i z.1.2.2.2.2.1, .i z.1.2.2.2.2.2.1, .s z.1.2.2.2.2.2.2] : AV)) hE25.symm) (congrArg (fun z => ([.h code, .i ((z.2.1 : Nat) : Int), .i z.2.2] : List C)) hE25.symm)
def specl09Grow (n_ : Nat) (code : (List UInt8)) (ci : Nat) (ch : Int) (q : (List NodeD)) (deep : Int) (not : Bool) : (List NodeD) × Nat × Int := match n_ with
 | 0 => default
 | n_ + 1 => (bif (deep == (0 : Int)) then (lt (α := NodeD × Nat × Int) (specl09Leaf code ci ch) (fun x2 => (q ++ [x2.1], x2.2.1, x2.2.2))) else (lt (α := Bool × Nat × Int) (specl01Once code ci ch 3) (fun x6 => (bif x6.1 then (lt (α := NodeD × Nat × Int) (specl09Leaf code x6.2.1 x6.2.2) (fun x8 => (q ++ [x8.1], x8.2.1, x8.2.2))) else (lt (α := Int × Nat × Int) (specl01Below code x6.2.1 x6.2.2 5) (fun x12 => (bif ((x12.1 == (0 : Int)) && not) then (lt (α := (List NodeD) × Nat × Int) (specl09Grow n_ code x12.2.1 x12.2.2 q (deep - 1) true) (fun x15 => (x15.1 ++ [((5, ((x15.1.length : Int) - 1), 0, ⟨#[]⟩, (0, 0, ⟨#[]⟩)) : NodeD)], x15.2.1, x15.2.2))) else (lt (α := (List NodeD) × Nat × Int) (specl09Grow n_ code x12.2.1 x12.2.2 q (deep - 1) not) (fun x19 => (lt (α := (List NodeD) × Nat × Int) (specl09Grow n_ code x19.2.1 x19.2.2 x19.1 0 not) (fun x22 => (bif decide (x12.1 < (3 : Int)) then (x22.1 ++ [((6, ((x19.1.length : Int) - 1), ((x22.1.length : Int) - 1), ⟨#[]⟩, (0, 0, ⟨#[]⟩)) : NodeD)], x22.2.1, x22.2.2) else (x22.1 ++ [((7, ((x19.1.length : Int) - 1), ((x22.1.length : Int) - 1), ⟨#[]⟩, (0, 0, ⟨#[]⟩)) : NodeD)], x22.2.1, x22.2.2)))))))))))))
theorem grow_len (code : List UInt8) : ∀ (n ci : Nat) (ch : Int) (q : List NodeD) (deep : Int) (not_ : Bool), 0 ≤ deep → deep < n → q.length + 1 ≤ (specl09Grow n code ci ch q deep not_).1.length ∧ ((specl09Grow n code ci ch q deep not_).1.length : Int) ≤ q.length + 2 * deep + 1
  | 0, _, _, _, _, _, h0, h1 => by omega
  | n + 1, ci, ch, q, deep, not_, h0, h1 => by
    have ih := grow_len code n
    unfold specl09Grow lt
    by_cases hz : deep = 0
    · rw [beq_iff_eq.2 hz]
      simp only [cond_true, List.length_append, List.length_cons, List.length_nil]
      omega
    · rw [beq_eq_false_iff_ne.2 hz]
      simp only [cond_false]
      generalize specl01Once code ci ch 3 = x
      cases x.1 with
      | true =>
        simp only [cond_true, List.length_append, List.length_cons, List.length_nil]
        omega
      | false =>
        simp only [cond_false]
        generalize specl01Below code x.2.1 x.2.2 5 = y
        cases ((y.1 == (0 : Int)) && not_) with
        | true =>
          simp only [cond_true, List.length_append, List.length_cons, List.length_nil]
          have := ih y.2.1 y.2.2 q (deep - 1) true (by omega) (by omega)
          omega
        | false =>
          simp only [cond_false]
          have h2 := ih y.2.1 y.2.2 q (deep - 1) not_ (by omega) (by omega)
          generalize specl09Grow n code y.2.1 y.2.2 q (deep - 1) not_ = z at h2
          have h3 := ih z.2.1 z.2.2 z.1 0 not_ (by omega) (by omega)
          generalize specl09Grow n code z.2.1 z.2.2 z.1 0 not_ = u at h3
          cases decide (y.1 < (3 : Int)) <;> simp only [cond_true, cond_false, List.length_append, List.length_cons, List.length_nil] <;> omega
theorem specl09Grow_a : ∀ (n_ : Nat) (code : (List UInt8)) (ci : Nat) (ch : Int) (q : (List NodeD)) (deep : Int) (not : Bool) (hd : 0 ≤ deep) (hn : deep < (n_ : Int)) (hq : (List.length q : Int) + 2 * deep ≤ 1000), AGive Try.prog 134 [.h code, .i ((ci : Nat) : Int), .i ch] [.o 63 q, .i deep, .b not] (.o 0 (((specl09Grow n_ code ci ch q deep not)).1)) [.h code, .i ((((specl09Grow n_ code ci ch q deep not)).2.1 : Nat) : Int), .i (((specl09Grow n_ code ci ch q deep not)).2.2)] := by
 intro n_
 induction n_ with
 | zero => intro code ci ch q deep not hd hn hq; exact (by omega : False).elim
 | succ n_ ih =>
  intro code ci ch q deep not hd hn hq
  refine agive_of (tt := tt) tt_ok Try.func134 (fn := Try.f134) rfl (by unfold FnOk; kernel_rfl) (Nat.le_of_ble_eq_true rfl) (Nat.le_of_ble_eq_true rfl) rfl rfl fun w0 F0 hG => ?_
  refine su tt_ok [(8, .e 0)] [] [] [] (p0) ?_
  refine awp_seq ?_
  refine awp_seq ?_
  refine awp_split (deep == (0 : Int)) (fun h1 => ?_) (fun h1 => ?_)
  ·
   have h1d := eq_of_beq h1
   refine ru tt_ok [(16, .b true)] [] [] [] (pt 1 h1 p0) ?_
   refine ckT ?_
   obtain ⟨x2, hx2⟩ : ∃ z : NodeD × Nat × Int, specl09Leaf code ci ch = z := ⟨_, rfl⟩
   refine wT 1 0 (.own true 63) q (fun hw3 hl4 => ?_)
   refine su tt_ok [(8, .one (.slc (.own true 1344) 7 ((eL q) ++ [[.i x2.1.1, .i x2.1.2.1, .i x2.1.2.2.1, .s x2.1.2.2.2.1, .i x2.1.2.2.2.2.1, .i x2.1.2.2.2.2.2.1, .s x2.1.2.2.2.2.2.2]])))] [1, 8, 16] [(60000, [.h code, .i ((x2.2.1 : Nat) : Int), .i x2.2.2])] [60000] (po 2 (.give none (.a [.i x2.1.1, .i x2.1.2.1, .i x2.1.2.2.1, .s x2.1.2.2.2.1, .i x2.1.2.2.2.2.1, .i x2.1.2.2.2.2.2.1, .s x2.1.2.2.2.2.2.2]) [.h code, .i ((x2.2.1 : Nat) : Int), .i x2.2.2]) (px (ob_give (hx2 ▸ specl09Leaf_a code ci ch)) (pa q [x2.1] p0))) ?_
   refine eqn [(8, .o 1344 (q ++ [x2.1]))] [8] [] [] (by rw [show ((eL q) ++ [[.i x2.1.1, .i x2.1.2.1, .i x2.1.2.2.1, .s x2.1.2.2.2.1, .i x2.1.2.2.2.2.1, .i x2.1.2.2.2.2.2.1, .s x2.1.2.2.2.2.2.2]]) = (eL (q ++ [x2.1])) from app_eL (rfl) (rfl)]; first | done | kernel_rfl) ?_
   refine awp_ret ?_
   have hE5 : specl09Grow (n_ + 1) code ci ch q deep not = (q ++ [x2.1], x2.2.1, x2.2.2) := bif_t h1 (lt_b hx2 (rfl))
   exact gret [] (congrArg (fun z => (.o 0 z.1 : AV)) hE5.symm) (congrArg (fun z => ([.h code, .i ((z.2.1 : Nat) : Int), .i z.2.2] : List C)) hE5.symm)
  ·
   have h1d := ne_of_beq h1
   obtain ⟨x6, hx6⟩ : ∃ z : Bool × Nat × Int, specl01Once code ci ch 3 = z := ⟨_, rfl⟩
   refine rn tt_ok [0, 1, 2, 3, 8, 16] [60000] (pf 1 h1 (po 4 (.give none (.b x6.1) [.h code, .i ((x6.2.1 : Nat) : Int), .i x6.2.2]) (px (ob_give (hx6 ▸ specl01Once_a code ci ch 3)) p0))) ?_
   refine ck x6.1 (fun h7 => ?_) (fun h7 => ?_)
   ·
    obtain ⟨x8, hx8⟩ : ∃ z : NodeD × Nat × Int, specl09Leaf code x6.2.1 x6.2.2 = z := ⟨_, rfl⟩
    refine wT 1 0 (.own true 63) q (fun hw9 hl10 => ?_)
    refine tu tt_ok [(8, .one (.slc (.own true 1344) 7 ((eL q) ++ [[.i x8.1.1, .i x8.1.2.1, .i x8.1.2.2.1, .s x8.1.2.2.2.1, .i x8.1.2.2.2.2.1, .i x8.1.2.2.2.2.2.1, .s x8.1.2.2.2.2.2.2]])))] [1, 8] [(60000, [.h code, .i ((x8.2.1 : Nat) : Int), .i x8.2.2])] [60000] (po 2 (.give none (.a [.i x8.1.1, .i x8.1.2.1, .i x8.1.2.2.1, .s x8.1.2.2.2.1, .i x8.1.2.2.2.2.1, .i x8.1.2.2.2.2.2.1, .s x8.1.2.2.2.2.2.2]) [.h code, .i ((x8.2.1 : Nat) : Int), .i x8.2.2]) (px (ob_give (hx8 ▸ specl09Leaf_a code x6.2.1 x6.2.2)) (pa q [x8.1] p0))) ?_
    refine eqn [(8, .o 1344 (q ++ [x8.1]))] [8] [] [] (by rw [show ((eL q) ++ [[.i x8.1.1, .i x8.1.2.1, .i x8.1.2.2.1, .s x8.1.2.2.2.1, .i x8.1.2.2.2.2.1, .i x8.1.2.2.2.2.2.1, .s x8.1.2.2.2.2.2.2]]) = (eL (q ++ [x8.1])) from app_eL (rfl) (rfl)]; first | done | kernel_rfl) ?_
    refine awp_ret ?_
    have hE11 : specl09Grow (n_ + 1) code ci ch q deep not = (q ++ [x8.1], x8.2.1, x8.2.2) := bif_f h1 (lt_b hx6 (bif_t h7 (lt_b hx8 (rfl))))
    exact gret [] (congrArg (fun z => (.o 0 z.1 : AV)) hE11.symm) (congrArg (fun z => ([.h code, .i ((z.2.1 : Nat) : Int), .i z.2.2] : List C)) hE11.symm)
   ·
    refine awp_skip ?_
    obtain ⟨x12, hx12⟩ : ∃ z : Int × Nat × Int, specl01Below code x6.2.1 x6.2.2 5 = z := ⟨_, rfl⟩
    have hbx12 := hx12 ▸ specl01Below_bd code x6.2.1 x6.2.2 5
    refine tn tt_ok [0, 1, 2, 3, 8, 9] [60000] (po 1 (.give none (.i x12.1) [.h code, .i ((x12.2.1 : Nat) : Int), .i x12.2.2]) (px (ob_give (hx12 ▸ specl01Below_a code x6.2.1 x6.2.2 5)) p0)) ?_
    refine awp_seq ?_
    refine awp_seq ?_
    refine mz [(9, .i x12.1)] [] [(60000, [.h code, .i ((x12.2.1 : Nat) : Int), .i x12.2.2])] [60000] ?_
    refine jn [(28, .b ((x12.1 == (0 : Int)) && not))] [] [] [] (x12.1 == (0 : Int)) (fun h13 => ?_) (fun h13 => ?_) ?_
    ·
     refine ru tt_ok [(28, .b not)] [] [] [] (pt 1 h13 p0) ?_
     exact ⟨rfl, weak_fit (by rw [h13]; first | done | kernel_rfl)⟩
    ·
     refine ru tt_ok [(28, .b false)] [] [] [] (pf 1 h13 p0) ?_
     exact ⟨rfl, weak_fit (by rw [h13]; first | done | kernel_rfl)⟩
    refine ck ((x12.1 == (0 : Int)) && not) (fun h14 => ?_) (fun h14 => ?_)
    ·
     have h14l : ((x12.1 == (0 : Int))) = true := and_l h14
     have h14ld := eq_of_beq h14l
     have h14r : (not) = true := and_r h14
     obtain ⟨x15, hx15⟩ : ∃ z : (List NodeD) × Nat × Int, specl09Grow n_ code x12.2.1 x12.2.2 q (deep - 1) true = z := ⟨_, rfl⟩
     have hbx15 := hx15 ▸ grow_len code n_ x12.2.1 x12.2.2 q (deep - 1) true (by omega) (by omega)
     refine sn tt_ok [0, 1, 2, 3, 8, 9] [60000] (pe 3 (av_i (IntWalk.i64_in (deep - 1) (by omega))) (pt 4 h14r (po 5 (.give (some 63) (.o 0 x15.1) [.h code, .i ((x15.2.1 : Nat) : Int), .i x15.2.2]) (px (ob_give (hx15 ▸ ih code x12.2.1 x12.2.2 q (deep - 1) true (by omega) (by omega) (by omega))) p0)))) ?_
     refine wT 1 0 (.own true 2176) x15.1 (fun hw16 hl17 => ?_)
     refine tu tt_ok [(8, .one (.slc (.own true 2624) 7 ((eL x15.1) ++ [[.i 5, .i ((x15.1.length : Int) - 1), .i 0, .s ⟨#[]⟩, .i 0, .i 0, .s ⟨#[]⟩]])))] [1, 8, 28] [(60000, [.h code, .i ((x15.2.1 : Nat) : Int), .i x15.2.2])] [60000] (pl 2 x15.1 (pe 3 (av_i (IntWalk.i64_in ((x15.1.length : Int) - 1) (by omega))) (pa x15.1 [((5, ((x15.1.length : Int) - 1), 0, ⟨#[]⟩, (0, 0, ⟨#[]⟩)) : NodeD)] p0))) ?_
     refine eqn [(8, .o 2624 (x15.1 ++ [((5, ((x15.1.length : Int) - 1), 0, ⟨#[]⟩, (0, 0, ⟨#[]⟩)) : NodeD)]))] [8] [] [] (by rw [show ((eL x15.1) ++ [[.i 5, .i ((x15.1.length : Int) - 1), .i 0, .s ⟨#[]⟩, .i 0, .i 0, .s ⟨#[]⟩]]) = (eL (x15.1 ++ [((5, ((x15.1.length : Int) - 1), 0, ⟨#[]⟩, (0, 0, ⟨#[]⟩)) : NodeD)])) from app_eL (rfl) (rfl)]; first | done | kernel_rfl) ?_
     refine awp_ret ?_
     have hE18 : specl09Grow (n_ + 1) code ci ch q deep not = (x15.1 ++ [((5, ((x15.1.length : Int) - 1), 0, ⟨#[]⟩, (0, 0, ⟨#[]⟩)) : NodeD)], x15.2.1, x15.2.2) := bif_f h1 (lt_b hx6 (bif_f h7 (lt_b hx12 (bif_t h14 (lt_b hx15 (rfl))))))
     exact gret [] (congrArg (fun z => (.o 0 z.1 : AV)) hE18.symm) (congrArg (fun z => ([.h code, .i ((z.2.1 : Nat) : Int), .i z.2.2] : List C)) hE18.symm)
    ·
     refine awp_skip ?_
     obtain ⟨x19, hx19⟩ : ∃ z : (List NodeD) × Nat × Int, specl09Grow n_ code x12.2.1 x12.2.2 q (deep - 1) not = z := ⟨_, rfl⟩
     have hbx19 := hx19 ▸ grow_len code n_ x12.2.1 x12.2.2 q (deep - 1) not (by omega) (by omega)
     refine sn tt_ok [0, 1, 3, 8, 9] [60000] (pe 3 (av_i (IntWalk.i64_in (deep - 1) (by omega))) (po 5 (.give (some 63) (.o 0 x19.1) [.h code, .i ((x19.2.1 : Nat) : Int), .i x19.2.2]) (px (ob_give (hx19 ▸ ih code x12.2.1 x12.2.2 q (deep - 1) not (by omega) (by omega) (by omega))) p0))) ?_
     refine wT 1 0 (.own true 3008) x19.1 (fun hw20 hl21 => ?_)
     refine tn tt_ok [0, 1, 3, 8, 9, 10] [60000] (pl 1 x19.1 (pe 2 (av_i (IntWalk.i64_in ((x19.1.length : Int) - 1) (by omega))) p0)) ?_
     obtain ⟨x22, hx22⟩ : ∃ z : (List NodeD) × Nat × Int, specl09Grow n_ code x19.2.1 x19.2.2 x19.1 0 not = z := ⟨_, rfl⟩
     have hbx22 := hx22 ▸ grow_len code n_ x19.2.1 x19.2.2 x19.1 0 not (by omega) (by omega)
     refine tu tt_ok [(1, .o 3456 x22.1), (10, .i ((x19.1.length : Int) - 1))] [1, 2, 3, 28] [(60000, [.h code, .i ((x22.2.1 : Nat) : Int), .i x22.2.2])] [60000] (po 3 (.give (some 3008) (.o 0 x22.1) [.h code, .i ((x22.2.1 : Nat) : Int), .i x22.2.2]) (px (ob_give (hx22 ▸ ih code x19.2.1 x19.2.2 x19.1 0 not (by omega) (by omega) (by omega))) p0)) ?_
     refine awp_seq ?_
     refine sn tt_ok [0, 1, 8, 10, 56] [60000] (p0) ?_
     refine ck (decide (x12.1 < (3 : Int))) (fun h23 => ?_) (fun h23 => ?_)
     ·
      have h23d := of_decide_eq_true h23
      refine wT 1 0 (.own true 3456) x22.1 (fun hw24 hl25 => ?_)
      refine tu tt_ok [(8, .one (.slc (.own true 4096) 7 ((eL x22.1) ++ [[.i 6, .i ((x19.1.length : Int) - 1), .i ((x22.1.length : Int) - 1), .s ⟨#[]⟩, .i 0, .i 0, .s ⟨#[]⟩]])))] [1, 8, 9] [] [] (pl 3 x22.1 (pe 4 (av_i (IntWalk.i64_in ((x22.1.length : Int) - 1) (by omega))) (pa x22.1 [((6, ((x19.1.length : Int) - 1), ((x22.1.length : Int) - 1), ⟨#[]⟩, (0, 0, ⟨#[]⟩)) : NodeD)] p0))) ?_
      refine eqn [(8, .o 4096 (x22.1 ++ [((6, ((x19.1.length : Int) - 1), ((x22.1.length : Int) - 1), ⟨#[]⟩, (0, 0, ⟨#[]⟩)) : NodeD)]))] [8] [] [] (by rw [show ((eL x22.1) ++ [[.i 6, .i ((x19.1.length : Int) - 1), .i ((x22.1.length : Int) - 1), .s ⟨#[]⟩, .i 0, .i 0, .s ⟨#[]⟩]]) = (eL (x22.1 ++ [((6, ((x19.1.length : Int) - 1), ((x22.1.length : Int) - 1), ⟨#[]⟩, (0, 0, ⟨#[]⟩)) : NodeD)])) from app_eL (rfl) (rfl)]; first | done | kernel_rfl) ?_
      refine awp_ret ?_
      have hE26 : specl09Grow (n_ + 1) code ci ch q deep not = (x22.1 ++ [((6, ((x19.1.length : Int) - 1), ((x22.1.length : Int) - 1), ⟨#[]⟩, (0, 0, ⟨#[]⟩)) : NodeD)], x22.2.1, x22.2.2) := bif_f h1 (lt_b hx6 (bif_f h7 (lt_b hx12 (bif_f h14 (lt_b hx19 (lt_b hx22 (bif_t h23 (rfl))))))))
      exact gret [] (congrArg (fun z => (.o 0 z.1 : AV)) hE26.symm) (congrArg (fun z => ([.h code, .i ((z.2.1 : Nat) : Int), .i z.2.2] : List C)) hE26.symm)
     ·
      have h23d := of_decide_eq_false h23
      refine awp_skip ?_
      refine wT 1 0 (.own true 3456) x22.1 (fun hw27 hl28 => ?_)
      refine tu tt_ok [(8, .one (.slc (.own true 4608) 7 ((eL x22.1) ++ [[.i 7, .i ((x19.1.length : Int) - 1), .i ((x22.1.length : Int) - 1), .s ⟨#[]⟩, .i 0, .i 0, .s ⟨#[]⟩]])))] [1, 8, 9, 10] [] [] (pl 3 x22.1 (pe 4 (av_i (IntWalk.i64_in ((x22.1.length : Int) - 1) (by omega))) (pa x22.1 [((7, ((x19.1.length : Int) - 1), ((x22.1.length : Int) - 1), ⟨#[]⟩, (0, 0, ⟨#[]⟩)) : NodeD)] p0))) ?_
      refine eqn [(8, .o 4608 (x22.1 ++ [((7, ((x19.1.length : Int) - 1), ((x22.1.length : Int) - 1), ⟨#[]⟩, (0, 0, ⟨#[]⟩)) : NodeD)]))] [8] [] [] (by rw [show ((eL x22.1) ++ [[.i 7, .i ((x19.1.length : Int) - 1), .i ((x22.1.length : Int) - 1), .s ⟨#[]⟩, .i 0, .i 0, .s ⟨#[]⟩]]) = (eL (x22.1 ++ [((7, ((x19.1.length : Int) - 1), ((x22.1.length : Int) - 1), ⟨#[]⟩, (0, 0, ⟨#[]⟩)) : NodeD)])) from app_eL (rfl) (rfl)]; first | done | kernel_rfl) ?_
      refine awp_ret ?_
      have hE29 : specl09Grow (n_ + 1) code ci ch q deep not = (x22.1 ++ [((7, ((x19.1.length : Int) - 1), ((x22.1.length : Int) - 1), ⟨#[]⟩, (0, 0, ⟨#[]⟩)) : NodeD)], x22.2.1, x22.2.2) := bif_f h1 (lt_b hx6 (bif_f h7 (lt_b hx12 (bif_f h14 (lt_b hx19 (lt_b hx22 (bif_f h23 (rfl))))))))
      exact gret [] (congrArg (fun z => (.o 0 z.1 : AV)) hE29.symm) (congrArg (fun z => ([.h code, .i ((z.2.1 : Nat) : Int), .i z.2.2] : List C)) hE29.symm)
def specl09Question (code : (List UInt8)) (ci : Nat) (ch : Int) : (List NodeD) × Nat × Int := (lt (α := Int × Nat × Int) (specl01Below code ci ch 4) (fun x1 => (lt (α := (List NodeD) × Nat × Int) (specl09Grow (Int.toNat x1.1 + 1) code x1.2.1 x1.2.2 [] x1.1 true) (fun x2 => (x2.1, x2.2.1, x2.2.2)))))
theorem ques_len (code : List UInt8) (ci : Nat) (ch : Int) : 1 ≤ (specl09Question code ci ch).1.length ∧ (specl09Question code ci ch).1.length ≤ 7 := by
 unfold specl09Question lt
 have hb := specl01Below_bd code ci ch 4
 generalize specl01Below code ci ch 4 = x at hb
 have h := grow_len code (Int.toNat x.1 + 1) x.2.1 x.2.2 [] x.1 true (by omega) (by omega)
 simp only [List.length_nil] at h
 simp only
 omega
theorem specl09Question_a (code : (List UInt8)) (ci : Nat) (ch : Int) : AGive Try.prog 123 [.h code, .i ((ci : Nat) : Int), .i ch] [] (.o 0 (((specl09Question code ci ch)).1)) [.h code, .i ((((specl09Question code ci ch)).2.1 : Nat) : Int), .i (((specl09Question code ci ch)).2.2)] := by
 refine agive_of (tt := tt) tt_ok Try.func123 (fn := Try.f123) rfl (by unfold FnOk; kernel_rfl) (Nat.le_of_ble_eq_true rfl) (Nat.le_of_ble_eq_true rfl) rfl rfl fun w0 F0 hG => ?_
 refine sn tt_ok [0, 2] [60000] (p0) ?_
 obtain ⟨x1, hx1⟩ : ∃ z : Int × Nat × Int, specl01Below code ci ch 4 = z := ⟨_, rfl⟩
 have hbx1 := hx1 ▸ specl01Below_bd code ci ch 4
 obtain ⟨x2, hx2⟩ : ∃ z : (List NodeD) × Nat × Int, specl09Grow (Int.toNat x1.1 + 1) code x1.2.1 x1.2.2 [] x1.1 true = z := ⟨_, rfl⟩
 have hbx2 := hx2 ▸ grow_len code (Int.toNat x1.1 + 1) x1.2.1 x1.2.2 [] x1.1 true (by omega) (by omega)
 refine tn tt_ok [0, 2] [60000] (po 2 (.give none (.i x1.1) [.h code, .i ((x1.2.1 : Nat) : Int), .i x1.2.2]) (px (ob_give (hx1 ▸ specl01Below_a code ci ch 4)) (po 3 (.give none (.o 0 x2.1) [.h code, .i ((x2.2.1 : Nat) : Int), .i x2.2.2]) (px (ob_give (hx2 ▸ (specl09Grow_a (Int.toNat x1.1 + 1) code x1.2.1 x1.2.2 [] x1.1 true (by omega) (by omega) (by first | omega | (simp; omega))).emp (m := 0) (by simp [AV.cells, C.key, C.bkeys, Tok.key]))) p0)))) ?_
 refine awp_ret ?_
 have hE3 : specl09Question code ci ch = (x2.1, x2.2.1, x2.2.2) := lt_b hx1 (lt_b hx2 (rfl))
 exact gret [] (congrArg (fun z => (.o 0 z.1 : AV)) hE3.symm) (congrArg (fun z => ([.h code, .i ((z.2.1 : Nat) : Int), .i z.2.2] : List C)) hE3.symm)
def specl11Dirs_f0 (code : (List UInt8)) (s0 : (List DirD) × Int × Nat × Int) : Rd ((List DirD) × Nat × Int) ((List DirD) × Int × Nat × Int) ((List DirD) × Nat × Int) := (lt (α := Int × Nat × Int) (specl01Below code s0.2.2.1 s0.2.2.2 4) (fun x1 => (bif decide (s0.2.1 < (1 + x1.1)) then (lt (α := (List NodeD) × Nat × Int) (specl09Question code x1.2.1 x1.2.2) (fun x4 => (.next (s0.1 ++ [((nth ([⟨#[100, 97]⟩, ⟨#[100, 98]⟩, ⟨#[100, 99]⟩, ⟨#[100, 100]⟩] : (List ByteArray)) (Int.toNat s0.2.1)), x4.1)], (s0.2.1 + 1), x4.2.1, x4.2.2)))) else (.brk (s0.1, x1.2.1, x1.2.2)))))
def specl11Dirs (code : (List UInt8)) (ci : Nat) (ch : Int) : (List DirD) × Nat × Int := (Out.on (whlD (specl11Dirs_f0 code) 5 ([], 0, ci, ch)) (fun y0 => (y0.1, y0.2.1, y0.2.2)))
theorem specl11Dirs_w (code : List UInt8) (ci : Nat) (ch : Int) : (whl (specl11Dirs_f0 code) 5 ([], 0, ci, ch)).isSome = true :=
  whl_up (fun s => s.2.1) 4 (fun s s' h0 h => by
    unfold specl11Dirs_f0 lt at h
    have hb := specl01Below_bd code s.2.2.1 s.2.2.2 4
    generalize specl01Below code s.2.2.1 s.2.2.2 4 = x at h hb
    by_cases hc : s.2.1 < 1 + x.1
    · simp only [decide_eq_true hc, cond_true] at h
      have h := Rd.next.inj h
      rw [← h]
      exact ⟨by omega, rfl⟩
    · simp only [decide_eq_false hc, cond_false] at h
      cases h) 4 _ (by show (0 : Int) ≤ 0; decide) (by show (4 : Int) ≤ 0 + 4; decide)
theorem specl11Dirs_a (code : (List UInt8)) (ci : Nat) (ch : Int) : AGive Try.prog 121 [.h code, .i ((ci : Nat) : Int), .i ch] [] (.o 0 (((specl11Dirs code ci ch)).1)) [.h code, .i ((((specl11Dirs code ci ch)).2.1 : Nat) : Int), .i (((specl11Dirs code ci ch)).2.2)] := by
 refine agive_of (tt := tt) tt_ok Try.func121 (fn := Try.f121) rfl (by unfold FnOk; kernel_rfl) (Nat.le_of_ble_eq_true rfl) (Nat.le_of_ble_eq_true rfl) rfl rfl fun w0 F0 hG => ?_
 refine sn tt_ok [0, 2] [60000] (p0) ?_
 refine tn tt_ok [0, 2, 3] [60000] (p0) ?_
 refine awp_seq ?_
 refine tu tt_ok [(2, .e 0), (3, .one (.slc (.own true 320) 2 [])), (4, .i 0)] [] [] [] (p0) ?_
 refine blw (fun (s0 : (List DirD) × Int × Nat × Int) => [(3, .o 147202 s0.1), (4, .i s0.2.1)]) [3, 4] (fun s0 => [(60000, [.h code, .i ((s0.2.2.1 : Nat) : Int), .i s0.2.2.2])]) [60000] (fun (y0 : (List DirD) × Nat × Int) => [(3, .o 147352 y0.1)]) [3, 4] (fun y0 => [(60000, [.h code, .i ((y0.2.1 : Nat) : Int), .i y0.2.2])]) [60000] (fun (k0 : Nat) (s0 : (List DirD) × Int × Nat × Int) => whl (specl11Dirs_f0 code) k0 s0 = some (whlD (specl11Dirs_f0 code) 5 ([], 0, ci, ch)) ∧ 0 ≤ s0.2.1 ∧ (List.length s0.1 : Int) ≤ s0.2.1) (fun (y0 : (List DirD) × Nat × Int) => (whlD (specl11Dirs_f0 code) 5 ([], 0, ci, ch)) = .brk y0) 5 ([], 0, ci, ch) (weak_sf [(320, 147202)] (by kernel_rfl)) ⟨whl_some (specl11Dirs_w code ci ch), (by first | omega | (simp; done) | (dsimp only; omega)), (by first | omega | (simp; done) | (dsimp only; omega))⟩ (fun _ h => whl_zero h.1) (fun k0 s0 hI0 => ?_) (fun y0 hD0 => ?_)
 ·
  have hA0_0 := hI0.2.1
  have hA0_1 := hI0.2.2
  refine awp_seq ?_
  obtain ⟨x1, hx1⟩ : ∃ z : Int × Nat × Int, specl01Below code s0.2.2.1 s0.2.2.2 4 = z := ⟨_, rfl⟩
  have hbx1 := hx1 ▸ specl01Below_bd code s0.2.2.1 s0.2.2.2 4
  refine sn tt_ok [0, 2, 3, 4, 10] [60000] (po 2 (.give none (.i x1.1) [.h code, .i ((x1.2.1 : Nat) : Int), .i x1.2.2]) (px (ob_give (hx1 ▸ specl01Below_a code s0.2.2.1 s0.2.2.2 4)) (pe 3 (av_i (IntWalk.i64_in (1 + x1.1) (by omega))) p0))) ?_
  refine ck (decide (s0.2.1 < (1 + x1.1))) (fun h2 => ?_) (fun h2 => ?_)
  ·
   have h2d := of_decide_eq_true h2
   refine awp_skip ?_
   refine awp_seq ?_
   refine awp_block ?_
   have hx3 := ng ([⟨#[100, 97]⟩, ⟨#[100, 98]⟩, ⟨#[100, 99]⟩, ⟨#[100, 100]⟩] : (List ByteArray)) (Int.toNat s0.2.1) (by simp only [List.length_cons, List.length_nil]; omega)
   obtain ⟨x4, hx4⟩ : ∃ z : (List NodeD) × Nat × Int, specl09Question code x1.2.1 x1.2.2 = z := ⟨_, rfl⟩
   have hbx4 := hx4 ▸ ques_len code x1.2.1 x1.2.2
   refine wT 3 0 (.own true 147202) s0.1 (fun hw5 hl6 => ?_)
   refine qU tt_ok tt_mx [(3, .one (.slc (.own true 1408) 2 ((eL s0.1) ++ [[.s (nth ([⟨#[100, 97]⟩, ⟨#[100, 98]⟩, ⟨#[100, 99]⟩, ⟨#[100, 100]⟩] : (List ByteArray)) (Int.toNat s0.2.1)), .h x4.1]])))] [3] [(60000, [.h code, .i ((x4.2.1 : Nat) : Int), .i x4.2.2])] [60000] (pG 3 s0.2.1 hx3 (po 6 (.give none (.o 0 x4.1) [.h code, .i ((x4.2.1 : Nat) : Int), .i x4.2.2]) (px (ob_give (hx4 ▸ specl09Question_a code x1.2.1 x1.2.2)) (pa s0.1 [((nth ([⟨#[100, 97]⟩, ⟨#[100, 98]⟩, ⟨#[100, 99]⟩, ⟨#[100, 100]⟩] : (List ByteArray)) (Int.toNat s0.2.1)), x4.1)] p0)))) ?_
   refine eqn [(3, .o 1408 (s0.1 ++ [((nth ([⟨#[100, 97]⟩, ⟨#[100, 98]⟩, ⟨#[100, 99]⟩, ⟨#[100, 100]⟩] : (List ByteArray)) (Int.toNat s0.2.1)), x4.1)]))] [3] [] [] (by rw [show ((eL s0.1) ++ [[.s (nth ([⟨#[100, 97]⟩, ⟨#[100, 98]⟩, ⟨#[100, 99]⟩, ⟨#[100, 100]⟩] : (List ByteArray)) (Int.toNat s0.2.1)), .h x4.1]]) = (eL (s0.1 ++ [((nth ([⟨#[100, 97]⟩, ⟨#[100, 98]⟩, ⟨#[100, 99]⟩, ⟨#[100, 100]⟩] : (List ByteArray)) (Int.toNat s0.2.1)), x4.1)])) from app_eL (rfl) (rfl)]; first | done | kernel_rfl) ?_
   refine rn tt_ok [0, 2, 3, 4] [60000] (pe 1 (av_i (IntWalk.i64_in (s0.2.1 + 1) (by omega))) p0) ?_
   exact Exists.intro (s0.1 ++ [((nth ([⟨#[100, 97]⟩, ⟨#[100, 98]⟩, ⟨#[100, 99]⟩, ⟨#[100, 100]⟩] : (List ByteArray)) (Int.toNat s0.2.1)), x4.1)], (s0.2.1 + 1), x4.2.1, x4.2.2) (And.intro (weak_sf [(1408, 147202)] (by kernel_rfl)) ⟨wn hI0.1 (lt_b hx1 (bif_t h2 (lt_b hx4 (rfl)))), (by first | omega | (simp; omega)), (by first | omega | (simp; omega))⟩)
  ·
   refine awp_exit ?_
   exact Exists.intro (s0.1, x1.2.1, x1.2.2) (And.intro (weak_sf [(147202, 147352)] (by kernel_rfl)) (wb hI0.1 (lt_b hx1 (bif_f h2 (rfl)))))
 ·
  refine sn tt_ok [0, 2] [60000] (p0) ?_
  refine awp_ret ?_
  have hE7 : specl11Dirs code ci ch = (y0.1, y0.2.1, y0.2.2) := on_b hD0 (rfl)
  exact gret [] (congrArg (fun z => (.o 0 z.1 : AV)) hE7.symm) (congrArg (fun z => ([.h code, .i ((z.2.1 : Nat) : Int), .i z.2.2] : List C)) hE7.symm)
def specIsStratified (d : (List DirD)) : Bool := ((specStrata d)).2
theorem specIsStratified_a (d : (List DirD)) : ACalls Try.prog 132 [.h d] (.b (specIsStratified d)) := by
 refine en tt_ok Try.func132 fun w0 F0 hG => ?_
 refine sn tt_ok [0, 2] [] (p0) ?_
 refine tn tt_ok [2, 4] [] (pc 1 (specStrata_a d) p0) ?_
 refine tu tt_ok [(2, .b (((specStrata d)).2))] [0] [] [] (p0) ?_
 refine awp_ret ?_
 exact pb [] (show specIsStratified d = ((specStrata d)).2 from rfl)
def specl13Dirs_f0 (s0 : (List DirD)) : Rd ((List DirD) × Nat × Int) ((List DirD)) ((List DirD)) := (bif (decide ((s0.length : Int) > (0 : Int)) && (!(specIsStratified s0))) then (.next (List.take (Int.toNat ((s0.length : Int) - 1)) s0)) else (.brk s0))
def specl13Dirs (code : (List UInt8)) (ci : Nat) (ch : Int) : (List DirD) × Nat × Int := (lt (α := (List DirD) × Nat × Int) (specl11Dirs code ci ch) (fun x1 => (Out.on (whlD specl13Dirs_f0 (List.length x1.1 + 1) x1.1) (fun y0 => (bif ((y0.length : Int) == (0 : Int)) then ([((⟨#[100, 97]⟩, [((1, 0, 0, ⟨#[]⟩, (0, 0, ⟨#[]⟩)) : NodeD)]) : DirD)], x1.2.1, x1.2.2) else (y0, x1.2.1, x1.2.2))))))
theorem specl13Dirs_w (code : List UInt8) (d : List DirD) : (whl specl13Dirs_f0 (List.length d + 1) d).isSome = true :=
  whl_down (fun s => List.length s) (fun s s' h => by
    unfold specl13Dirs_f0 at h
    by_cases hc : ((s.length : Int) > 0)
    · simp only [decide_eq_true hc, Bool.true_and, cond_true] at h
      cases hs : specIsStratified s <;> simp only [hs, Bool.not_true, Bool.not_false, cond_true, cond_false] at h
      · have h := Rd.next.inj h
        rw [← h, List.length_take]
        omega
      · cases h
    · simp only [decide_eq_false hc, Bool.false_and, cond_false] at h
      cases h) _ _ (Nat.lt_succ_self _)
theorem l13_ne (code : List UInt8) (ci : Nat) (ch : Int) : 0 < (specl13Dirs code ci ch).1.length := by
  unfold specl13Dirs lt
  generalize specl11Dirs code ci ch = x
  obtain ⟨t, ht⟩ := whlD_brk (f := specl13Dirs_f0) (fun s r => by
    unfold specl13Dirs_f0
    generalize (decide ((s.length : Int) > (0 : Int)) && (!(specIsStratified s))) = c
    cases c <;> simp) (List.length x.1 + 1) x.1
  simp only [ht, Out.on]
  by_cases h : (t.length : Int) = 0
  · rw [beq_iff_eq.2 h]; exact Nat.zero_lt_one
  · rw [beq_eq_false_iff_ne.2 h]
    show 0 < t.length
    omega
theorem specl13Dirs_a (code : (List UInt8)) (ci : Nat) (ch : Int) : AGive Try.prog 120 [.h code, .i ((ci : Nat) : Int), .i ch] [] (.h (((specl13Dirs code ci ch)).1)) [.h code, .i ((((specl13Dirs code ci ch)).2.1 : Nat) : Int), .i (((specl13Dirs code ci ch)).2.2)] := by
 refine agive_of (tt := tt) tt_ok Try.func120 (fn := Try.f120) rfl (by unfold FnOk; kernel_rfl) (Nat.le_of_ble_eq_true rfl) (Nat.le_of_ble_eq_true rfl) rfl rfl fun w0 F0 hG => ?_
 refine sn tt_ok [0, 2] [60000] (p0) ?_
 obtain ⟨x1, hx1⟩ : ∃ z : (List DirD) × Nat × Int, specl11Dirs code ci ch = z := ⟨_, rfl⟩
 refine tn tt_ok [0, 2, 3] [60000] (po 1 (.give none (.o 0 x1.1) [.h code, .i ((x1.2.1 : Nat) : Int), .i x1.2.2]) (px (ob_give (hx1 ▸ specl11Dirs_a code ci ch)) p0)) ?_
 refine awp_seq ?_
 refine mz [(2, .e 0), (3, .o 320 x1.1)] [] [(60000, [.h code, .i ((x1.2.1 : Nat) : Int), .i x1.2.2])] [60000] ?_
 refine blw (fun (s0 : (List DirD)) => [(3, .h s0)]) [3] (fun s0 => []) [] (fun (y0 : (List DirD)) => [(3, .h y0)]) [3] (fun y0 => []) [] (fun (k0 : Nat) (s0 : (List DirD)) => whl specl13Dirs_f0 k0 s0 = some (whlD specl13Dirs_f0 (List.length x1.1 + 1) x1.1)) (fun (y0 : (List DirD)) => (whlD specl13Dirs_f0 (List.length x1.1 + 1) x1.1) = .brk y0) (List.length x1.1 + 1) x1.1 (weak_gf [] [320] [] [] (by kernel_rfl)) (whl_some (specl13Dirs_w code x1.1)) (fun _ h => whl_zero h) (fun k0 s0 hI0 => ?_) (fun y0 hD0 => ?_)
 ·
  refine awp_seq ?_
  refine awp_seq ?_
  refine jn [(13, .b (decide ((s0.length : Int) > (0 : Int)) && (!(specIsStratified s0))))] [] [] [] (decide ((s0.length : Int) > (0 : Int))) (fun h2 => ?_) (fun h2 => ?_) ?_
  ·
   refine rn tt_ok [0, 2, 3, 13] [60000] (pl 1 s0 (pt 2 h2 (pc 5 (specIsStratified_a s0) p0))) ?_
   exact ⟨rfl, weak_fit (by rw [h2]; first | done | kernel_rfl)⟩
  ·
   refine rn tt_ok [0, 2, 3, 13] [60000] (pl 1 s0 (pf 2 h2 p0)) ?_
   exact ⟨rfl, weak_fit (by rw [h2]; first | done | kernel_rfl)⟩
  refine ck (decide ((s0.length : Int) > (0 : Int)) && (!(specIsStratified s0))) (fun h3 => ?_) (fun h3 => ?_)
  ·
   have h3l : (decide ((s0.length : Int) > (0 : Int))) = true := and_l h3
   have h3ld := of_decide_eq_true h3l
   refine awp_skip ?_
   refine awp_block ?_
   refine wT 3 0 .sh s0 (fun hw4 hl5 => ?_)
   refine rn tt_ok [0, 2, 3] [60000] (pl 2 s0 (pe 3 (av_i (IntWalk.i64_in ((s0.length : Int) - 1) (by omega))) (pe 4 (av_take .sh 2 (Int.toNat ((s0.length : Int) - 1)) ((s0.length : Int) - 1) s0 rfl) (px (ob_rng (lo := 0) (hi := ((s0.length : Int) - 1)) (n := (List.length (eL s0))) (rng_of (by omega) (by omega) (by omega))) p0)))) ?_
   exact Exists.intro _ (And.intro (weak_fit (by kernel_rfl)) (wn hI0 (bif_t h3 (rfl))))
  ·
   refine awp_exit ?_
   exact Exists.intro _ (And.intro (weak_fit (by kernel_rfl)) (wb hI0 (bif_f h3 (rfl))))
 ·
  refine awp_seq ?_
  refine sn tt_ok [0, 2, 3, 21] [60000] (pl 1 y0 p0) ?_
  refine ck ((y0.length : Int) == (0 : Int)) (fun h6 => ?_) (fun h6 => ?_)
  ·
   refine qn tt_ok [0, 2, 3] [60000] (p0) ?_
   refine tu tt_ok [(2, .o 1600 [((⟨#[100, 97]⟩, [((1, 0, 0, ⟨#[]⟩, (0, 0, ⟨#[]⟩)) : NodeD)]) : DirD)])] [2, 3] [] [] (p0) ?_
   refine awp_ret ?_
   have hE7 : specl13Dirs code ci ch = ([((⟨#[100, 97]⟩, [((1, 0, 0, ⟨#[]⟩, (0, 0, ⟨#[]⟩)) : NodeD)]) : DirD)], x1.2.1, x1.2.2) := lt_b hx1 (on_b hD0 (bif_t h6 (rfl)))
   exact gret [1600] (congrArg (fun z => (.h z.1 : AV)) hE7.symm) (congrArg (fun z => ([.h code, .i ((z.2.1 : Nat) : Int), .i z.2.2] : List C)) hE7.symm)
  ·
   refine awp_skip ?_
   refine tn tt_ok [0, 2] [60000] (p0) ?_
   refine awp_ret ?_
   have hE8 : specl13Dirs code ci ch = (y0, x1.2.1, x1.2.2) := lt_b hx1 (on_b hD0 (bif_f h6 (rfl)))
   exact gret [] (congrArg (fun z => (.h z.1 : AV)) hE8.symm) (congrArg (fun z => ([.h code, .i ((z.2.1 : Nat) : Int), .i z.2.2] : List C)) hE8.symm)
def specl14Ids_f0 (code : (List UInt8)) (k0 : Nat) (s0 : (List Int) × Nat × Int) : Rd ((List Int) × Nat × Int) ((List Int) × Nat × Int) ((List Int) × Nat × Int) := (lt (α := Bool × Nat × Int) (specl01Once code s0.2.1 s0.2.2 2) (fun x1 => (bif x1.1 then (.next (s0.1 ++ [((k0 + 1 : Nat) : Int)], x1.2.1, x1.2.2)) else (.next (s0.1, x1.2.1, x1.2.2)))))
def specl14Ids_e0 (_ : Nat) (s0 : (List Int) × Nat × Int) : (List Int) × Nat × Int := (s0.1, s0.2.1, s0.2.2)
def specl14Ids (code : (List UInt8)) (ci : Nat) (ch : Int) : (List Int) × Nat × Int := (Out.on (forN (specl14Ids_f0 code) specl14Ids_e0 (Int.toNat ((8 : Int) - 1)) 0 ([], ci, ch)) (fun y0 => (y0.1, y0.2.1, y0.2.2)))
theorem specl14Ids_a (code : (List UInt8)) (ci : Nat) (ch : Int) : AGive Try.prog 104 [.h code, .i ((ci : Nat) : Int), .i ch] [] (.o 0 (((specl14Ids code ci ch)).1)) [.h code, .i ((((specl14Ids code ci ch)).2.1 : Nat) : Int), .i (((specl14Ids code ci ch)).2.2)] := by
 refine agive_of (tt := tt) tt_ok Try.func104 (fn := Try.f104) rfl (by unfold FnOk; kernel_rfl) (Nat.le_of_ble_eq_true rfl) (Nat.le_of_ble_eq_true rfl) rfl rfl fun w0 F0 hG => ?_
 refine sn tt_ok [0, 2] [60000] (p0) ?_
 refine tn tt_ok [0, 2, 3] [60000] (p0) ?_
 refine awp_seq ?_
 refine tu tt_ok [(2, .e 0), (3, .one (.slc (.own true 320) 1 [])), (4, .i 1)] [] [] [] (p0) ?_
 refine blN1b (specl14Ids_f0 code) specl14Ids_e0 (Int.toNat ((8 : Int) - 1)) ([], ci, ch) (fun k0 s0 => [(3, .o 147202 s0.1), (4, .i ((k0 + 1 : Nat) : Int))]) [3, 4] (fun _ s0 => [(60000, [.h code, .i ((s0.2.1 : Nat) : Int), .i s0.2.2])]) [60000] (fun y0 => [(3, .o 147352 y0.1)]) [3, 4] (fun y0 => [(60000, [.h code, .i ((y0.2.1 : Nat) : Int), .i y0.2.2])]) [60000] (fun k0 s0 => List.length s0.1 ≤ k0) (weak_sf [(320, 147202)] (by kernel_rfl)) (by simp) (fun k0 s0 hk0 hI0 => ?_) (fun k0 s0 hk0 hI0 => ?_) (fun y0 hD0 => ?_)
 ·
  have hA0_0 := hI0.2
  refine awp_seq ?_
  refine su tt_ok [(7, .b true)] [] [] [] (pe 1 (av_bool (decide_eq_true (p := ((k0 + 1 : Nat) : Int) < (8 : Int)) (by omega))) p0) ?_
  refine ckT ?_
  refine awp_skip ?_
  refine awp_seq ?_
  refine awp_block ?_
  obtain ⟨x1, hx1⟩ : ∃ z : Bool × Nat × Int, specl01Once code s0.2.1 s0.2.2 2 = z := ⟨_, rfl⟩
  refine sn tt_ok [0, 2, 3, 4, 11] [60000] (po 1 (.give none (.b x1.1) [.h code, .i ((x1.2.1 : Nat) : Int), .i x1.2.2]) (px (ob_give (hx1 ▸ specl01Once_a code s0.2.1 s0.2.2 2)) p0)) ?_
  refine ck x1.1 (fun h2 => ?_) (fun h2 => ?_)
  ·
   refine wT 3 0 (.own true 147202) s0.1 (fun hw3 hl4 => ?_)
   refine qu tt_ok [(3, .one (.slc (.own true 960) 1 ((eL s0.1) ++ [[.i ((k0 + 1 : Nat) : Int)]])))] [3, 7] [(60000, [.h code, .i ((x1.2.1 : Nat) : Int), .i x1.2.2])] [60000] (pa s0.1 [((k0 + 1 : Nat) : Int)] p0) ?_
   refine eqn [(3, .o 960 (s0.1 ++ [((k0 + 1 : Nat) : Int)]))] [3] [] [] (by rw [show ((eL s0.1) ++ [[.i ((k0 + 1 : Nat) : Int)]]) = (eL (s0.1 ++ [((k0 + 1 : Nat) : Int)])) from app_eL (rfl) (rfl)]; first | done | kernel_rfl) ?_
   refine rn tt_ok [0, 2, 3, 4] [60000] (pe 1 (show .i (IntKind.i64.wrap (((k0 + 1 : Nat) : Int) + 1)) = .i ((k0 + 2 : Nat) : Int) from av_i ((IntWalk.i64_in _ (by omega)).trans (by omega))) p0) ?_
   exact Exists.intro (s0.1 ++ [((k0 + 1 : Nat) : Int)], x1.2.1, x1.2.2) (And.intro (weak_sf [(960, 147202)] (by kernel_rfl)) ⟨forN_next hk0 (lt_b hx1 (bif_t h2 (rfl))) hI0.1, by first | omega | (simp; omega) | simp⟩)
  ·
   refine awp_skip ?_
   refine qn tt_ok [0, 2, 3, 4] [60000] (pe 1 (show .i (IntKind.i64.wrap (((k0 + 1 : Nat) : Int) + 1)) = .i ((k0 + 2 : Nat) : Int) from av_i ((IntWalk.i64_in _ (by omega)).trans (by omega))) p0) ?_
   exact Exists.intro (s0.1, x1.2.1, x1.2.2) (And.intro (weak_fit (by kernel_rfl)) ⟨forN_next hk0 (lt_b hx1 (bif_f h2 (rfl))) hI0.1, by first | omega | (simp; omega) | simp⟩)
 ·
  have hA0_0 := hI0.2
  refine awp_seq ?_
  refine sn tt_ok [0, 2, 3, 4, 7] [60000] (pe 1 (av_bool (decide_eq_false (p := ((k0 + 1 : Nat) : Int) < (8 : Int)) (by omega))) p0) ?_
  refine ckF ?_
  refine awp_exit ?_
  exact Exists.intro _ (And.intro (weak_sf [(147202, 147352)] (by kernel_rfl)) (forN_end hk0 (rfl) hI0.1))
 ·
  refine sn tt_ok [0, 2] [60000] (p0) ?_
  refine awp_ret ?_
  have hE5 : specl14Ids code ci ch = (y0.1, y0.2.1, y0.2.2) := on_b hD0 (rfl)
  exact gret [] (congrArg (fun z => (.o 0 z.1 : AV)) hE5.symm) (congrArg (fun z => ([.h code, .i ((z.2.1 : Nat) : Int), .i z.2.2] : List C)) hE5.symm)
def specl01PickInt (code : (List UInt8)) (ci : Nat) (ch : Int) (list : (List Int)) : Int × Nat × Int := (lt (α := Int × Nat × Int) (specl01Below code ci ch (list.length : Int)) (fun x1 => ((nth list (Int.toNat x1.1)), x1.2.1, x1.2.2)))
theorem specl01PickInt_a (code : (List UInt8)) (ci : Nat) (ch : Int) (list : (List Int)) (hp : 0 < List.length list) : AGive Try.prog 80 [.h code, .i ((ci : Nat) : Int), .i ch] [.h list] (.i (((specl01PickInt code ci ch list)).1)) [.h code, .i ((((specl01PickInt code ci ch list)).2.1 : Nat) : Int), .i (((specl01PickInt code ci ch list)).2.2)] := by
 refine agive_of (tt := tt) tt_ok Try.func80 (fn := Try.f80) rfl (by unfold FnOk; kernel_rfl) (Nat.le_of_ble_eq_true rfl) (Nat.le_of_ble_eq_true rfl) rfl rfl fun w0 F0 hG => ?_
 refine sn tt_ok [0, 1, 4] [60000] (p0) ?_
 obtain ⟨x1, hx1⟩ : ∃ z : Int × Nat × Int, specl01Below code ci ch (list.length : Int) = z := ⟨_, rfl⟩
 have hbx1 := hx1 ▸ specl01Below_bd code ci ch (list.length : Int)
 refine wT 1 0 .sh list (fun hw3 hl4 => ?_)
 have hx2 := ng list (Int.toNat x1.1)
 refine tn tt_ok [0, 4] [60000] (pl 3 list (po 4 (.give none (.i x1.1) [.h code, .i ((x1.2.1 : Nat) : Int), .i x1.2.2]) (px (ob_give (hx1 ▸ specl01Below_a code ci ch (list.length : Int))) (pg 5 x1.1 hx2 p0)))) ?_
 refine awp_ret ?_
 have hE5 : specl01PickInt code ci ch list = ((nth list (Int.toNat x1.1)), x1.2.1, x1.2.2) := lt_b hx1 (rfl)
 exact gret [] (congrArg (fun z => (.i z.1 : AV)) hE5.symm) (congrArg (fun z => ([.h code, .i ((z.2.1 : Nat) : Int), .i z.2.2] : List C)) hE5.symm)
end Go.Proofs.Ytcnkkobgogmakaa
namespace Go.Proofs.Ytcnkkobgogmakaa
open Go.RowKit
def stA (l : List AttrD) (nm : ByteArray) (v : ValueD) : List AttrD := (specSetAttr (0, 0, false, 0, l) nm v).2.2.2.2
theorem setAttr_at (f : FileD) (nm : ByteArray) (v : ValueD) : specSetAttr f nm v = (f.1, f.2.1, f.2.2.1, f.2.2.2.1, stA f.2.2.2.2 nm v) := by
  obtain ⟨a, b, c, d, l⟩ := f
  unfold stA specSetAttr
  dsimp only
  rw [forL_filter (f := specSetAttr_f0 nm) (e := specSetAttr_e0) (p := fun a => !(a.1.toList == nm.toList)) (g := id) (fun _ _ _ => rfl)]
  simp only [Out.on]
  cases (v.1 != (0 : Int)) with
  | false => rfl
  | true =>
    simp only [cond_true]
    generalize specSetAttr_e0 _ _ = l'
    obtain ⟨t, ht⟩ := forL_noret (f := specSetAttr_f1 nm) (e := specSetAttr_e1) (fun k a s r => by
      unfold specSetAttr_f1
      generalize (Op.bytesLess a.1.toList nm.toList || a.1.toList == nm.toList) = c
      cases c <;> simp) l' 0 ()
    rw [ht]
def ints4 : List Int := [0, 1, 2, 3]
def A1 : List (List AttrD) := [] :: ints4.map fun n => stA [] ⟨#[97]⟩ (specIntValue n)
def A2 : List (List AttrD) := A1 ++ A1.flatMap fun l => ints4.map fun n => stA l ⟨#[98]⟩ (specIntValue n)
def A3 : List (List AttrD) := A2 ++ A2.flatMap fun l => ([⟨#[105, 110, 107]⟩, ⟨#[115, 101, 97]⟩] : List ByteArray).map fun s => stA l ⟨#[110]⟩ (specStringValue s)
def A4 : List (List AttrD) := A3 ++ A3.flatMap fun l => ([⟨#[114, 101, 100]⟩, ⟨#[98, 108, 117, 101]⟩] : List ByteArray).map fun s => stA l ⟨#[116]⟩ (specStringValue s)
theorem in4 {x : Int} (h0 : 0 ≤ x) (h1 : x < 4) : x ∈ ints4 := by
  unfold ints4
  simp only [List.mem_cons, List.not_mem_nil, or_false]
  omega
theorem pick_mem (code : List UInt8) (ci : Nat) (ch : Int) {list : List ByteArray} (hp : 0 < list.length) : (specl01Pick code ci ch list).1 ∈ list := by
  unfold specl01Pick lt
  have hb := specl01Below_bd code ci ch (list.length : Int)
  generalize specl01Below code ci ch (list.length : Int) = x at hb ⊢
  exact List.mem_of_getElem? (nth_get (by omega))
structure FOk (id : Int) (S : List (List AttrD)) (f : FileD) : Prop where
  h1 : f.1 = id
  h2 : 0 ≤ f.2.1
  h3 : f.2.1 ≤ 2
  h4 : 0 ≤ f.2.2.2.1
  h5 : f.2.2.2.1 ≤ 6
  h6 : f.2.2.2.2 ∈ S
theorem fok_set {id : Int} {S S' : List (List AttrD)} {f : FileD} {nm : ByteArray} {v : ValueD} (h : FOk id S f) (hm : ∀ l, l ∈ S → stA l nm v ∈ S') : FOk id S' (specSetAttr f nm v) := by
  rw [setAttr_at]
  exact ⟨h.h1, h.h2, h.h3, h.h4, h.h5, hm _ h.h6⟩
theorem fok_sub {id : Int} {S S' : List (List AttrD)} {f : FileD} (h : FOk id S f) (hm : ∀ l, l ∈ S → l ∈ S') : FOk id S' f := ⟨h.h1, h.h2, h.h3, h.h4, h.h5, hm _ h.h6⟩
theorem st_a {x : Int} (h0 : 0 ≤ x) (h1 : x < 4) : ∀ l, l ∈ ([[]] : List (List AttrD)) → stA l ⟨#[97]⟩ (specIntValue x) ∈ A1 := fun l hl => by
  rw [List.mem_singleton.1 hl]
  exact List.mem_cons_of_mem _ (List.mem_map.2 ⟨x, in4 h0 h1, rfl⟩)
theorem lf {id : Int} {S : List (List AttrD)} {α : Type} {t : α} {f : α → FileD × Nat × Int} (Q : α → Prop) (h : Q t) (k : ∀ x, Q x → FOk id S (f x).1) : FOk id S (lt t f).1 := k t h
theorem l04_ok (code : List UInt8) (ci : Nat) (ch id : Int) : FOk id A4 (specl04File code ci ch id).1 := by
  have bd : ∀ (ci : Nat) (ch : Int) (n : Int), 0 < n → 0 ≤ (specl01Below code ci ch n).1 ∧ (specl01Below code ci ch n).1 < n := fun ci ch n h => ⟨(specl01Below_bd code ci ch n).1, (specl01Below_bd code ci ch n).2.1 h⟩
  unfold specl04File
  refine lf (fun x : Int × Nat × Int => 0 ≤ x.1 ∧ x.1 < 3) (bd ci ch 3 (by decide)) fun x1 hx1 => ?_
  refine lf (fun _ => True) trivial fun x2 _ => ?_
  refine lf (fun _ => True) trivial fun x3 _ => ?_
  refine lf (fun x : Int × Nat × Int => 0 ≤ x.1 ∧ x.1 ≤ 6) ?_ fun x4 hx4 => ?_
  · cases x3.1 with
    | true => simp only [cond_true]; exact lt_any (P := fun x : Int × Nat × Int => 0 ≤ x.1 ∧ x.1 ≤ 6) (fun x : Int × Nat × Int => 0 ≤ x.1 ∧ x.1 < 7) (bd _ _ 7 (by decide)) fun x h => ⟨h.1, by have := h.2; show x.1 ≤ 6; omega⟩
    | false => exact ⟨Int.le_refl 0, by show (0 : Int) ≤ 6; decide⟩
  refine lf (fun _ => True) trivial fun x7 _ => ?_
  have f0 : FOk id [[]] (id, x1.1, x2.1, x4.1, []) := ⟨rfl, hx1.1, by have := hx1.2; show x1.1 ≤ 2; omega, hx4.1, hx4.2, by simp⟩
  refine lf (fun z : FileD × Nat × Int => FOk id A1 z.1) ?_ fun x8 hx8 => ?_
  · cases x7.1 with
    | true => exact fok_sub f0 fun l hl => by rw [List.mem_singleton.1 hl]; exact List.mem_cons_self
    | false => simp only [Bool.not_false, cond_true]; exact lf (S := A1) (fun x : Int × Nat × Int => 0 ≤ x.1 ∧ x.1 < 4) (bd _ _ 4 (by decide)) fun y hy => fok_set f0 (st_a hy.1 hy.2)
  refine lf (fun _ => True) trivial fun x11 _ => ?_
  refine lf (fun z : FileD × Nat × Int => FOk id A2 z.1) ?_ fun x12 hx12 => ?_
  · cases x11.1 with
    | false => exact fok_sub hx8 fun l hl => List.mem_append_left _ hl
    | true => simp only [cond_true]; exact lf (S := A2) (fun x : Int × Nat × Int => 0 ≤ x.1 ∧ x.1 < 4) (bd _ _ 4 (by decide)) fun y hy => fok_set hx8 fun l hl => List.mem_append_right _ (List.mem_flatMap.2 ⟨l, hl, List.mem_map.2 ⟨y.1, in4 hy.1 hy.2, rfl⟩⟩)
  refine lf (fun _ => True) trivial fun x15 _ => ?_
  refine lf (fun z : FileD × Nat × Int => FOk id A3 z.1) ?_ fun x16 hx16 => ?_
  · cases x15.1 with
    | true => exact fok_sub hx12 fun l hl => List.mem_append_left _ hl
    | false => simp only [Bool.not_false, cond_true]; exact lf (S := A3) (fun x : ByteArray × Nat × Int => x.1 ∈ ([⟨#[105, 110, 107]⟩, ⟨#[115, 101, 97]⟩] : List ByteArray)) (pick_mem code _ _ (Nat.zero_lt_succ _)) fun y hy => fok_set hx12 fun l hl => List.mem_append_right _ (List.mem_flatMap.2 ⟨l, hl, List.mem_map.2 ⟨y.1, hy, rfl⟩⟩)
  refine lf (fun _ => True) trivial fun x19 _ => ?_
  cases x19.1 with
  | false => exact fok_sub hx16 fun l hl => List.mem_append_left _ hl
  | true => simp only [cond_true]; exact lf (S := A4) (fun x : ByteArray × Nat × Int => x.1 ∈ ([⟨#[114, 101, 100]⟩, ⟨#[98, 108, 117, 101]⟩] : List ByteArray)) (pick_mem code _ _ (Nat.zero_lt_succ _)) fun y hy => fok_set hx16 fun l hl => List.mem_append_right _ (List.mem_flatMap.2 ⟨l, hl, List.mem_map.2 ⟨y.1, hy, rfl⟩⟩)
def okAttrs (l : List AttrD) : Bool := match forL (specIsValidFile_f0 specl03Usual (0, 0, false, 0, l)) specIsValidFile_e0 l 0 () with
  | .brk _ => true
  | .ret _ => false
theorem all_ok : A4.all okAttrs = true := by kernel_rfl
theorem usual_ok : specIsValidSchema specl03Usual = true := by kernel_rfl
theorem l04_valid {id i : Int} {f : FileD} (h : FOk id A4 f) (h1 : 1 ≤ i) (h2 : i ≤ 60) : specIsValidFile specl03Usual (i, f.2) = true := by
  obtain ⟨a, o, s, x, l⟩ := f
  have hl := List.all_eq_true.1 all_ok l h.h6
  have e : forL (specIsValidFile_f0 specl03Usual (i, o, s, x, l)) specIsValidFile_e0 l 0 () = .brk () := by
    have e2 : specIsValidFile_f0 specl03Usual (i, o, s, x, l) = specIsValidFile_f0 specl03Usual (0, 0, false, 0, l) := rfl
    rw [e2]
    unfold okAttrs at hl
    split at hl
    · rename_i t ht; exact ht
    · cases hl
  have h2' := h.h2
  have h3' := h.h3
  have h4' := h.h4
  have h5' := h.h5
  dsimp only at h2' h3' h4' h5'
  show Out.on (forL (specIsValidFile_f0 specl03Usual (i, o, s, x, l)) specIsValidFile_e0 l 0 ()) _ = true
  rw [e]
  simp only [Out.on, usual_ok, specl01In, Bool.true_and]
  rw [decide_eq_true (show i ≥ 1 from h1), decide_eq_true (show i ≤ 60 from h2), decide_eq_true (show o ≥ 0 from h2'), decide_eq_true (show o ≤ 2 from h3'), decide_eq_true (show x ≥ 0 from h4'), decide_eq_true (show x ≤ 60 by omega)]
  rfl
structure S5 (s : StoreD) : Prop where
  vs : VS s
  sch : s.1 = specl03Usual
  nx : s.2.2 ≤ 8 + s.2.1.length
theorem s5_push {s : StoreD} {id : Int} {f : FileD} (h : S5 s) (hl : s.2.1.length < 12) (hf : FOk id A4 f) : (specCreateFile s f).1.2.1.length = s.2.1.length + 1 ∧ S5 (specCreateFile s f).1 := by
  have hn : s.2.2 ≤ 60 := by have := h.nx; omega
  have hv : specIsValidFile s.1 (s.2.2, f.2) = true := by rw [h.sch]; exact l04_valid hf h.vs.nx1 hn
  rw [createS h.vs hl hn hv]
  exact ⟨by simp, vs_push h.vs hl hn hv, h.sch, by have := h.nx; simp; omega⟩
theorem l05_ok (code : List UInt8) (ci : Nat) (ch : Int) : S5 (specl05Store code ci ch).1 ∧ (specl05Store code ci ch).1.2.1.length ≤ 7 := by
  unfold specl05Store
  obtain ⟨t, ht⟩ := whlD_brk (f := specl05Store_f0 code) (fun s r => by
    unfold specl05Store_f0 lt
    dsimp only
    generalize decide (_ < IntKind.i64.wrap _) = c
    cases c <;> simp) 8 (0, (specNewStore specl03Usual), ci, ch)
  have hj : VS t.1 ∧ t.1.1 = specl03Usual ∧ t.1.2.2 ≤ 8 ∧ t.1.2.1.length ≤ 7 := whlD_inv (f := specl05Store_f0 code) (I := fun s => VS s.2.1 ∧ s.2.1.1 = specl03Usual ∧ s.2.1.2.2 ≤ 1 + s.1 ∧ (s.2.1.2.1.length : Int) ≤ s.1 ∧ 0 ≤ s.1 ∧ s.1 ≤ 7) (J := fun t => VS t.1 ∧ t.1.1 = specl03Usual ∧ t.1.2.2 ≤ 8 ∧ t.1.2.1.length ≤ 7) (fun s s' hi h => by
    unfold specl05Store_f0 lt at h
    have hb := specl01Below_bd code s.2.2.1 s.2.2.2 7
    generalize specl01Below code s.2.2.1 s.2.2.2 7 = x at h hb
    have e : IntKind.i64.wrap (1 + x.1) = 1 + x.1 := IntWalk.i64_in _ (by omega)
    simp only [e] at h
    obtain ⟨i1, i2, i3, i4, i5, i6⟩ := hi
    by_cases hc : s.1 < 1 + x.1
    · simp only [decide_eq_true hc, cond_true] at h
      have h := Rd.next.inj h
      have e3 : IntKind.i64.wrap (s.1 + 1) = s.1 + 1 := IntWalk.i64_in _ (by omega)
      rw [← h, e3]
      obtain ⟨c1, c2, c3, c4, c5⟩ := create_vs (specl04File code x.2.1 x.2.2 1).1 i1
      refine ⟨c1, c2.trans i2, ?_, ?_, ?_, ?_⟩ <;> dsimp only <;> omega
    · simp only [decide_eq_false hc, cond_false] at h
      cases h) (fun s t hi h => by
    unfold specl05Store_f0 lt at h
    generalize specl01Below code s.2.2.1 s.2.2.2 7 = x at h
    obtain ⟨i1, i2, i3, i4, i5, i6⟩ := hi
    by_cases hc : s.1 < IntKind.i64.wrap (1 + x.1)
    · simp only [decide_eq_true hc, cond_true] at h
      cases h
    · simp only [decide_eq_false hc, cond_false] at h
      have h := Rd.brk.inj h
      rw [← h]
      exact ⟨i1, i2, by dsimp only; omega, by dsimp only; omega⟩) (by
    refine ⟨⟨usual_ok, by simp [specNewStore], by simp [specNewStore], by simp [specNewStore], fun i a h => by simp [specNewStore] at h, fun i a b h => by simp [specNewStore] at h⟩, rfl, ?_, ?_, ?_, ?_⟩
    · show (1 : Int) ≤ 1 + 0; decide
    · show ((0 : Nat) : Int) ≤ 0; decide
    · show (0 : Int) ≤ 0; decide
    · show (0 : Int) ≤ 7; decide) (specl05Store_w code ci ch _) ht
  rw [ht]
  simp only [Out.on]
  obtain ⟨j1, j2, j3, j4⟩ := hj
  have fin : S5 t.1 ∧ t.1.2.1.length ≤ 7 := ⟨⟨j1, j2, by omega⟩, j4⟩
  cases decide ((t.1.2.1.length : Int) > (2 : Int)) with
  | false => exact fin
  | true =>
    simp only [cond_true]
    refine lt_any (P := fun z : StoreD × Nat × Int => S5 z.1 ∧ z.1.2.1.length ≤ 7) (fun _ => True) trivial fun x5 _ => ?_
    cases x5.1 with
    | false => exact fin
    | true =>
      obtain ⟨d1, d2, d3, d4⟩ := delete_vs ((nth t.1.2.1 1).1) j1
      exact ⟨⟨d1, d2.trans j2, by show _ ≤ _; dsimp only [cond_true]; omega⟩, by dsimp only [cond_true]; omega⟩
theorem all_len : A4.all (fun l => decide (l.length ≤ 4)) = true := by kernel_rfl
theorem l04_len (code : List UInt8) (ci : Nat) (ch id : Int) : List.length (specl04File code ci ch id).1.2.2.2.2 ≤ 4 := of_decide_eq_true (List.all_eq_true.1 all_len _ (l04_ok code ci ch id).h6)
theorem l11_len (code : List UInt8) (ci : Nat) (ch : Int) : 1 ≤ (specl11Dirs code ci ch).1.length ∧ (specl11Dirs code ci ch).1.length ≤ 4 := by
  unfold specl11Dirs
  obtain ⟨t, ht⟩ := whlD_brk (f := specl11Dirs_f0 code) (fun s r => by
    unfold specl11Dirs_f0 lt
    generalize specl01Below code s.2.2.1 s.2.2.2 4 = x
    simp only
    generalize decide (s.2.1 < 1 + x.1) = c
    cases c <;> simp) 5 ([], 0, ci, ch)
  have := whlD_inv (f := specl11Dirs_f0 code) (I := fun s => (s.1.length : Int) = s.2.1 ∧ s.2.1 ≤ 4) (J := fun t => 1 ≤ t.1.length ∧ t.1.length ≤ 4) (fun s s' hi h => by
    unfold specl11Dirs_f0 lt at h
    have hb := specl01Below_bd code s.2.2.1 s.2.2.2 4
    generalize specl01Below code s.2.2.1 s.2.2.2 4 = x at h hb
    by_cases hc : s.2.1 < 1 + x.1
    · simp only [decide_eq_true hc, cond_true] at h
      have h := Rd.next.inj h
      rw [← h]
      refine ⟨?_, ?_⟩
      · simp; omega
      · show s.2.1 + 1 ≤ 4; omega
    · simp only [decide_eq_false hc, cond_false] at h
      cases h) (fun s t hi h => by
    unfold specl11Dirs_f0 lt at h
    have hb := specl01Below_bd code s.2.2.1 s.2.2.2 4
    generalize specl01Below code s.2.2.1 s.2.2.2 4 = x at h hb
    by_cases hc : s.2.1 < 1 + x.1
    · simp only [decide_eq_true hc, cond_true] at h
      cases h
    · simp only [decide_eq_false hc, cond_false] at h
      have h := Rd.brk.inj h
      rw [← h]
      dsimp only
      omega) (n := 5) (s := ([], 0, ci, ch)) (t := t) ⟨rfl, by show (0 : Int) ≤ 4; decide⟩ (specl11Dirs_w code ci ch) ht
  rw [ht]
  exact this
open GoE (enc wide)
def specl02Value (code : (List UInt8)) (ci : Nat) (ch : Int) : ValueD × Nat × Int := (lt (α := Int × Nat × Int) (specl01Below code ci ch 5) (fun x1 => (bif (x1.1 == (0 : Int)) then ((0, 0, ⟨#[]⟩), x1.2.1, x1.2.2) else (lt (α := Bool) (bif (x1.1 == (1 : Int)) then (x1.1 == (1 : Int)) else (x1.1 == (2 : Int))) (fun x4 => (bif x4 then (lt (α := Int × Nat × Int) (specl01Below code x1.2.1 x1.2.2 5) (fun x7 => ((specIntValue x7.1), x7.2.1, x7.2.2))) else (lt (α := ByteArray × Nat × Int) (specl01Pick code x1.2.1 x1.2.2 [⟨#[114, 101, 100]⟩, ⟨#[98, 108, 117, 101]⟩, ⟨#[105, 110, 107]⟩]) (fun x9 => ((specStringValue x9.1), x9.2.1, x9.2.2)))))))))
theorem specl02Value_a (code : (List UInt8)) (ci : Nat) (ch : Int) : AGive Try.prog 66 [.h code, .i ((ci : Nat) : Int), .i ch] [] (.a [.i ((((specl02Value code ci ch)).1).1), .i ((((specl02Value code ci ch)).1).2.1), .s ((((specl02Value code ci ch)).1).2.2)]) [.h code, .i ((((specl02Value code ci ch)).2.1 : Nat) : Int), .i (((specl02Value code ci ch)).2.2)] := by
 refine agive_of (tt := tt) tt_ok Try.func66 (fn := Try.f66) rfl (by unfold FnOk; kernel_rfl) (Nat.le_of_ble_eq_true rfl) (Nat.le_of_ble_eq_true rfl) rfl rfl fun w0 F0 hG => ?_
 refine sn tt_ok [0, 2] [2, 60000] (p0) ?_
 refine awp_seq ?_
 obtain ⟨x1, hx1⟩ : ∃ z : Int × Nat × Int, specl01Below code ci ch 5 = z := ⟨_, rfl⟩
 have hbx1 := hx1 ▸ specl01Below_bd code ci ch 5
 refine tn tt_ok [0, 2, 4] [2, 60000] (po 1 (.give none (.i x1.1) [.h code, .i ((x1.2.1 : Nat) : Int), .i x1.2.2]) (px (ob_give (hx1 ▸ specl01Below_a code ci ch 5)) p0)) ?_
 refine awp_block ?_
 refine tu tt_ok [(2, .p 2 0), (4, .i x1.1), (5, .b (x1.1 == (0 : Int)))] [] [(2, [.i 0, .i 0, .s ⟨#[]⟩]), (60000, [.h code, .i ((x1.2.1 : Nat) : Int), .i x1.2.2])] [60000] (p0) ?_
 refine ck (x1.1 == (0 : Int)) (fun h2 => ?_) (fun h2 => ?_)
 ·
  refine su tt_ok [] [4, 5] [] [] (p0) ?_
  refine awp_ret ?_
  have hE3 : specl02Value code ci ch = ((0, 0, ⟨#[]⟩), x1.2.1, x1.2.2) := lt_b hx1 (bif_t h2 (rfl))
  exact gret [] (congrArg (fun z => (.a [.i z.1.1, .i z.1.2.1, .s z.1.2.2] : AV)) hE3.symm) (congrArg (fun z => ([.h code, .i ((z.2.1 : Nat) : Int), .i z.2.2] : List C)) hE3.symm)
 ·
  refine awp_seq ?_
  refine sn tt_ok [0, 2, 4, 8] [2, 60000] (p0) ?_
  refine mz [(8, .b (x1.1 == (1 : Int)))] [5] [] [] ?_
  obtain ⟨x4, hx4⟩ : ∃ z : Bool, (bif (x1.1 == (1 : Int)) then (x1.1 == (1 : Int)) else (x1.1 == (2 : Int))) = z := ⟨_, rfl⟩
  refine jn [(8, .b x4)] [4, 8] [] [] (x1.1 == (1 : Int)) (fun h5 => ?_) (fun h5 => ?_) ?_
  ·
   refine ckt h5 ?_
   refine awp_skip ?_
   obtain rfl : x4 = (x1.1 == (1 : Int)) := hx4.symm.trans (show (bif (x1.1 == (1 : Int)) then (x1.1 == (1 : Int)) else (x1.1 == (2 : Int))) = (x1.1 == (1 : Int)) from bif_t h5 (rfl))
   exact ⟨rfl, weak_fit (by kernel_rfl)⟩
  ·
   refine ckf h5 ?_
   refine rn tt_ok [0, 2, 8] [2, 60000] (p0) ?_
   obtain rfl : x4 = (x1.1 == (2 : Int)) := hx4.symm.trans (show (bif (x1.1 == (1 : Int)) then (x1.1 == (1 : Int)) else (x1.1 == (2 : Int))) = (x1.1 == (2 : Int)) from bif_f h5 (rfl))
   exact ⟨rfl, weak_fit (by kernel_rfl)⟩
  refine ck x4 (fun h6 => ?_) (fun h6 => ?_)
  ·
   obtain ⟨x7, hx7⟩ : ∃ z : Int × Nat × Int, specl01Below code x1.2.1 x1.2.2 5 = z := ⟨_, rfl⟩
   have hbx7 := hx7 ▸ specl01Below_bd code x1.2.1 x1.2.2 5
   refine sn tt_ok [0, 2] [2, 60000] (po 1 (.give none (.i x7.1) [.h code, .i ((x7.2.1 : Nat) : Int), .i x7.2.2]) (px (ob_give (hx7 ▸ specl01Below_a code x1.2.1 x1.2.2 5)) (pc 2 (specIntValue_a x7.1) p0))) ?_
   refine awp_ret ?_
   have hE8 : specl02Value code ci ch = ((specIntValue x7.1), x7.2.1, x7.2.2) := lt_b hx1 (bif_f h2 (lt_b hx4 (bif_t h6 (lt_b hx7 (rfl)))))
   exact gret [] (congrArg (fun z => (.a [.i z.1.1, .i z.1.2.1, .s z.1.2.2] : AV)) hE8.symm) (congrArg (fun z => ([.h code, .i ((z.2.1 : Nat) : Int), .i z.2.2] : List C)) hE8.symm)
  ·
   refine awp_skip ?_
   obtain ⟨x9, hx9⟩ : ∃ z : ByteArray × Nat × Int, specl01Pick code x1.2.1 x1.2.2 [⟨#[114, 101, 100]⟩, ⟨#[98, 108, 117, 101]⟩, ⟨#[105, 110, 107]⟩] = z := ⟨_, rfl⟩
   refine sn tt_ok [0, 2] [2, 60000] (po 2 (.give none (.s x9.1) [.h code, .i ((x9.2.1 : Nat) : Int), .i x9.2.2]) (px (ob_give (hx9 ▸ specl01Pick_a code x1.2.1 x1.2.2 [⟨#[114, 101, 100]⟩, ⟨#[98, 108, 117, 101]⟩, ⟨#[105, 110, 107]⟩] (Nat.zero_lt_succ _))) (pc 3 (specStringValue_a x9.1) p0))) ?_
   refine awp_ret ?_
   have hE10 : specl02Value code ci ch = ((specStringValue x9.1), x9.2.1, x9.2.2) := lt_b hx1 (bif_f h2 (lt_b hx4 (bif_f h6 (lt_b hx9 (rfl)))))
   exact gret [] (congrArg (fun z => (.a [.i z.1.1, .i z.1.2.1, .s z.1.2.2] : AV)) hE10.symm) (congrArg (fun z => ([.h code, .i ((z.2.1 : Nat) : Int), .i z.2.2] : List C)) hE10.symm)
def specl02Any (code : (List UInt8)) (ci : Nat) (ch : Int) : ValueD × Nat × Int := (lt (α := ValueD × Nat × Int) (specl02Value code ci ch) (fun x1 => (lt (α := Int × Nat × Int) (specl01Below code x1.2.1 x1.2.2 10) (fun x2 => (bif (x2.1 == (0 : Int)) then (lt (α := Int × Nat × Int) (specl01Below code x2.2.1 x2.2.2 5) (fun x4 => (((x4.1 - 1), x1.1.2.1, x1.1.2.2), x4.2.1, x4.2.2))) else (bif (x2.1 == (1 : Int)) then (lt (α := Int × Nat × Int) (specl01PickInt code x2.2.1 x2.2.2 [-1, 0, 999, 1000, 9223372036854775807]) (fun x7 => ((x1.1.1, x7.1, x1.1.2.2), x7.2.1, x7.2.2))) else (bif (x2.1 == (2 : Int)) then (lt (α := ByteArray × Nat × Int) (specl01Pick code x2.2.1 x2.2.2 [⟨#[]⟩, ⟨#[65]⟩, ⟨#[97, 98, 99, 100, 101, 102, 103]⟩, ⟨#[97, 98, 99, 100, 101, 102]⟩, ⟨#[97, 32, 98]⟩]) (fun x10 => ((x1.1.1, x1.1.2.1, x10.1), x10.2.1, x10.2.2))) else (x1.1, x2.2.1, x2.2.2))))))))
theorem specl02Any_a (code : (List UInt8)) (ci : Nat) (ch : Int) : AGive Try.prog 81 [.h code, .i ((ci : Nat) : Int), .i ch] [] (.a [.i ((((specl02Any code ci ch)).1).1), .i ((((specl02Any code ci ch)).1).2.1), .s ((((specl02Any code ci ch)).1).2.2)]) [.h code, .i ((((specl02Any code ci ch)).2.1 : Nat) : Int), .i (((specl02Any code ci ch)).2.2)] := by
 refine agive_of (tt := tt) tt_ok Try.func81 (fn := Try.f81) rfl (by unfold FnOk; kernel_rfl) (Nat.le_of_ble_eq_true rfl) (Nat.le_of_ble_eq_true rfl) rfl rfl fun w0 F0 hG => ?_
 refine sn tt_ok [0, 2] [2, 60000] (p0) ?_
 obtain ⟨x1, hx1⟩ : ∃ z : ValueD × Nat × Int, specl02Value code ci ch = z := ⟨_, rfl⟩
 refine tn tt_ok [0, 2, 3] [2, 3, 60000] (po 1 (.give none (.a [.i x1.1.1, .i x1.1.2.1, .s x1.1.2.2]) [.h code, .i ((x1.2.1 : Nat) : Int), .i x1.2.2]) (px (ob_give (hx1 ▸ specl02Value_a code ci ch)) p0)) ?_
 refine awp_seq ?_
 obtain ⟨x2, hx2⟩ : ∃ z : Int × Nat × Int, specl01Below code x1.2.1 x1.2.2 10 = z := ⟨_, rfl⟩
 have hbx2 := hx2 ▸ specl01Below_bd code x1.2.1 x1.2.2 10
 refine tu tt_ok [(2, .p 2 0), (3, .p 3 0), (7, .i x2.1)] [] [(2, [.i 0, .i 0, .s ⟨#[]⟩]), (3, [.i x1.1.1, .i x1.1.2.1, .s x1.1.2.2]), (60000, [.h code, .i ((x2.2.1 : Nat) : Int), .i x2.2.2])] [60000] (po 1 (.give none (.i x2.1) [.h code, .i ((x2.2.1 : Nat) : Int), .i x2.2.2]) (px (ob_give (hx2 ▸ specl01Below_a code x1.2.1 x1.2.2 10)) p0)) ?_
 refine awp_block ?_
 refine sn tt_ok [0, 2, 3, 7, 8] [2, 3, 60000] (p0) ?_
 refine ck (x2.1 == (0 : Int)) (fun h3 => ?_) (fun h3 => ?_)
 ·
  have h3d := eq_of_beq h3
  obtain ⟨x4, hx4⟩ : ∃ z : Int × Nat × Int, specl01Below code x2.2.1 x2.2.2 5 = z := ⟨_, rfl⟩
  have hbx4 := hx4 ▸ specl01Below_bd code x2.2.1 x2.2.2 5
  refine qn tt_ok [0, 2, 3] [2, 3, 60000] (po 1 (.give none (.i x4.1) [.h code, .i ((x4.2.1 : Nat) : Int), .i x4.2.2]) (px (ob_give (hx4 ▸ specl01Below_a code x2.2.1 x2.2.2 5)) (pe 2 (av_i (IntWalk.i64_in (x4.1 - 1) (by omega))) p0))) ?_
  refine tu tt_ok [] [3, 7] [(2, [.i (x4.1 - 1), .i x1.1.2.1, .s x1.1.2.2]), (60000, [.h code, .i ((x4.2.1 : Nat) : Int), .i x4.2.2])] [2, 3, 60000] (p0) ?_
  refine awp_ret ?_
  have hE5 : specl02Any code ci ch = (((x4.1 - 1), x1.1.2.1, x1.1.2.2), x4.2.1, x4.2.2) := lt_b hx1 (lt_b hx2 (bif_t h3 (lt_b hx4 (rfl))))
  exact gret [] (congrArg (fun z => (.a [.i z.1.1, .i z.1.2.1, .s z.1.2.2] : AV)) hE5.symm) (congrArg (fun z => ([.h code, .i ((z.2.1 : Nat) : Int), .i z.2.2] : List C)) hE5.symm)
 ·
  refine tn tt_ok [0, 2, 3, 7, 14] [2, 3, 60000] (p0) ?_
  refine ck (x2.1 == (1 : Int)) (fun h6 => ?_) (fun h6 => ?_)
  ·
   obtain ⟨x7, hx7⟩ : ∃ z : Int × Nat × Int, specl01PickInt code x2.2.1 x2.2.2 [-1, 0, 999, 1000, 9223372036854775807] = z := ⟨_, rfl⟩
   refine qu tt_ok [] [7] [(3, [.i x1.1.1, .i x7.1, .s x1.1.2.2]), (60000, [.h code, .i ((x7.2.1 : Nat) : Int), .i x7.2.2])] [3, 60000] (po 2 (.give none (.i x7.1) [.h code, .i ((x7.2.1 : Nat) : Int), .i x7.2.2]) (px (ob_give (hx7 ▸ specl01PickInt_a code x2.2.1 x2.2.2 [-1, 0, 999, 1000, 9223372036854775807] (Nat.zero_lt_succ _))) p0)) ?_
   refine sn tt_ok [0, 2] [2, 60000] (p0) ?_
   refine awp_ret ?_
   have hE8 : specl02Any code ci ch = ((x1.1.1, x7.1, x1.1.2.2), x7.2.1, x7.2.2) := lt_b hx1 (lt_b hx2 (bif_f h3 (bif_t h6 (lt_b hx7 (rfl)))))
   exact gret [] (congrArg (fun z => (.a [.i z.1.1, .i z.1.2.1, .s z.1.2.2] : AV)) hE8.symm) (congrArg (fun z => ([.h code, .i ((z.2.1 : Nat) : Int), .i z.2.2] : List C)) hE8.symm)
  ·
   refine tu tt_ok [(20, .b (x2.1 == (2 : Int)))] [7] [] [] (p0) ?_
   refine ck (x2.1 == (2 : Int)) (fun h9 => ?_) (fun h9 => ?_)
   ·
    obtain ⟨x10, hx10⟩ : ∃ z : ByteArray × Nat × Int, specl01Pick code x2.2.1 x2.2.2 [⟨#[]⟩, ⟨#[65]⟩, ⟨#[97, 98, 99, 100, 101, 102, 103]⟩, ⟨#[97, 98, 99, 100, 101, 102]⟩, ⟨#[97, 32, 98]⟩] = z := ⟨_, rfl⟩
    refine rn tt_ok [0, 2, 3] [2, 3, 60000] (po 2 (.give none (.s x10.1) [.h code, .i ((x10.2.1 : Nat) : Int), .i x10.2.2]) (px (ob_give (hx10 ▸ specl01Pick_a code x2.2.1 x2.2.2 [⟨#[]⟩, ⟨#[65]⟩, ⟨#[97, 98, 99, 100, 101, 102, 103]⟩, ⟨#[97, 98, 99, 100, 101, 102]⟩, ⟨#[97, 32, 98]⟩] (Nat.zero_lt_succ _))) p0)) ?_
    refine tn tt_ok [0, 2] [2, 60000] (p0) ?_
    refine awp_ret ?_
    have hE11 : specl02Any code ci ch = ((x1.1.1, x1.1.2.1, x10.1), x10.2.1, x10.2.2) := lt_b hx1 (lt_b hx2 (bif_f h3 (bif_f h6 (bif_t h9 (lt_b hx10 (rfl))))))
    exact gret [] (congrArg (fun z => (.a [.i z.1.1, .i z.1.2.1, .s z.1.2.2] : AV)) hE11.symm) (congrArg (fun z => ([.h code, .i ((z.2.1 : Nat) : Int), .i z.2.2] : List C)) hE11.symm)
   ·
    refine awp_skip ?_
    refine sn tt_ok [0, 2] [2, 60000] (p0) ?_
    refine awp_ret ?_
    have hE12 : specl02Any code ci ch = (x1.1, x2.2.1, x2.2.2) := lt_b hx1 (lt_b hx2 (bif_f h3 (bif_f h6 (bif_f h9 (rfl)))))
    exact gret [] (congrArg (fun z => (.a [.i z.1.1, .i z.1.2.1, .s z.1.2.2] : AV)) hE12.symm) (congrArg (fun z => ([.h code, .i ((z.2.1 : Nat) : Int), .i z.2.2] : List C)) hE12.symm)
def specl03Name (code : (List UInt8)) (ci : Nat) (ch : Int) : ByteArray × Nat × Int := (lt (α := ByteArray × Nat × Int) (specl01Pick code ci ch [⟨#[97]⟩, ⟨#[98]⟩, ⟨#[110]⟩, ⟨#[116]⟩, ⟨#[97]⟩, ⟨#[98]⟩, ⟨#[116]⟩, ⟨#[122]⟩, ⟨#[65]⟩, ⟨#[]⟩]) (fun x1 => (x1.1, x1.2.1, x1.2.2)))
theorem specl03Name_a (code : (List UInt8)) (ci : Nat) (ch : Int) : AGive Try.prog 65 [.h code, .i ((ci : Nat) : Int), .i ch] [] (.s (((specl03Name code ci ch)).1)) [.h code, .i ((((specl03Name code ci ch)).2.1 : Nat) : Int), .i (((specl03Name code ci ch)).2.2)] := by
 refine agive_of (tt := tt) tt_ok Try.func65 (fn := Try.f65) rfl (by unfold FnOk; kernel_rfl) (Nat.le_of_ble_eq_true rfl) (Nat.le_of_ble_eq_true rfl) rfl rfl fun w0 F0 hG => ?_
 refine sn tt_ok [0, 2] [60000] (p0) ?_
 obtain ⟨x1, hx1⟩ : ∃ z : ByteArray × Nat × Int, specl01Pick code ci ch [⟨#[97]⟩, ⟨#[98]⟩, ⟨#[110]⟩, ⟨#[116]⟩, ⟨#[97]⟩, ⟨#[98]⟩, ⟨#[116]⟩, ⟨#[122]⟩, ⟨#[65]⟩, ⟨#[]⟩] = z := ⟨_, rfl⟩
 refine tn tt_ok [0, 2] [60000] (po 2 (.give none (.s x1.1) [.h code, .i ((x1.2.1 : Nat) : Int), .i x1.2.2]) (px (ob_give (hx1 ▸ specl01Pick_a code ci ch [⟨#[97]⟩, ⟨#[98]⟩, ⟨#[110]⟩, ⟨#[116]⟩, ⟨#[97]⟩, ⟨#[98]⟩, ⟨#[116]⟩, ⟨#[122]⟩, ⟨#[65]⟩, ⟨#[]⟩] (Nat.zero_lt_succ _))) p0)) ?_
 refine awp_ret ?_
 have hE2 : specl03Name code ci ch = (x1.1, x1.2.1, x1.2.2) := lt_b hx1 (rfl)
 exact gret [] (congrArg (fun z => (.s z.1 : AV)) hE2.symm) (congrArg (fun z => ([.h code, .i ((z.2.1 : Nat) : Int), .i z.2.2] : List C)) hE2.symm)
def specl03Any (code : (List UInt8)) (ci : Nat) (ch : Int) : (List FieldD) × Nat × Int := (lt (α := Int × Nat × Int) (specl01Below code ci ch 8) (fun x1 => (bif (x1.1 == (0 : Int)) then (lt (α := Int × Nat × Int) (specl01Below code x1.2.1 x1.2.2 4) (fun x3 => (List.take (Int.toNat x3.1) specl03Usual, x3.2.1, x3.2.2))) else (bif (x1.1 == (1 : Int)) then (lt (α := Int × Nat × Int) (specl01Below code x1.2.1 x1.2.2 4) (fun x8 => (lt (α := Int × Nat × Int) (specl01Below code x8.2.1 x8.2.2 5) (fun x9 => (List.set specl03Usual (Int.toNat x8.1) ((nth specl03Usual (Int.toNat x8.1)).1, (x9.1 - 1)), x9.2.1, x9.2.2))))) else (bif (x1.1 == (2 : Int)) then (lt (α := Int × Nat × Int) (specl01Below code x1.2.1 x1.2.2 4) (fun x15 => (lt (α := ByteArray × Nat × Int) (specl03Name code x15.2.1 x15.2.2) (fun x16 => (List.set specl03Usual (Int.toNat x15.1) (x16.1, (nth specl03Usual (Int.toNat x15.1)).2), x16.2.1, x16.2.2))))) else (bif (x1.1 == (3 : Int)) then (lt (α := ByteArray × Nat × Int) (specl01Pick code x1.2.1 x1.2.2 [⟨#[117]⟩, ⟨#[122]⟩, ⟨#[97]⟩]) (fun x22 => (specl03Usual ++ [((x22.1, 1) : FieldD)], x22.2.1, x22.2.2))) else (bif (x1.1 == (4 : Int)) then (specl03Usual ++ [((⟨#[117]⟩, 1) : FieldD), ((⟨#[118]⟩, 2) : FieldD)], x1.2.1, x1.2.2) else (specl03Usual, x1.2.1, x1.2.2))))))))
theorem specl03Any_a (code : (List UInt8)) (ci : Nat) (ch : Int) : AGive Try.prog 107 [.h code, .i ((ci : Nat) : Int), .i ch] [] (.h (((specl03Any code ci ch)).1)) [.h code, .i ((((specl03Any code ci ch)).2.1 : Nat) : Int), .i (((specl03Any code ci ch)).2.2)] := by
 refine agive_of (tt := tt) tt_ok Try.func107 (fn := Try.f107) rfl (by unfold FnOk; kernel_rfl) (Nat.le_of_ble_eq_true rfl) (Nat.le_of_ble_eq_true rfl) rfl rfl fun w0 F0 hG => ?_
 have hu4 : List.length specl03Usual = 4 := rfl
 refine sn tt_ok [0, 2] [60000] (p0) ?_
 refine tn tt_ok [0, 2, 3] [60000] (pc 0 (specl03Usual_a) p0) ?_
 refine awp_seq ?_
 obtain ⟨x1, hx1⟩ : ∃ z : Int × Nat × Int, specl01Below code ci ch 8 = z := ⟨_, rfl⟩
 have hbx1 := hx1 ▸ specl01Below_bd code ci ch 8
 refine tu tt_ok [(2, .e 0), (3, .o 256 specl03Usual), (6, .i x1.1)] [] [(60000, [.h code, .i ((x1.2.1 : Nat) : Int), .i x1.2.2])] [60000] (po 1 (.give none (.i x1.1) [.h code, .i ((x1.2.1 : Nat) : Int), .i x1.2.2]) (px (ob_give (hx1 ▸ specl01Below_a code ci ch 8)) p0)) ?_
 refine awp_block ?_
 refine sn tt_ok [0, 2, 3, 6, 7] [60000] (p0) ?_
 refine ck (x1.1 == (0 : Int)) (fun h2 => ?_) (fun h2 => ?_)
 ·
  have h2d := eq_of_beq h2
  obtain ⟨x3, hx3⟩ : ∃ z : Int × Nat × Int, specl01Below code x1.2.1 x1.2.2 4 = z := ⟨_, rfl⟩
  have hbx3 := hx3 ▸ specl01Below_bd code x1.2.1 x1.2.2 4
  refine wT 3 0 (.own true 256) specl03Usual (fun hw4 hl5 => ?_)
  refine qn tt_ok [0, 2, 3] [60000] (po 2 (.give none (.i x3.1) [.h code, .i ((x3.2.1 : Nat) : Int), .i x3.2.2]) (px (ob_give (hx3 ▸ specl01Below_a code x1.2.1 x1.2.2 4)) (pe 3 (av_take (.vw 256) 2 (Int.toNat x3.1) x3.1 specl03Usual rfl) (px (ob_rng (lo := 0) (hi := x3.1) (n := (List.length (eL specl03Usual))) (rng_of (by omega) (by omega) (by omega))) p0)))) ?_
  refine tu tt_ok [(2, .v 256 (List.take (Int.toNat x3.1) specl03Usual))] [2, 3, 6] [(60000, [.h code, .i ((x3.2.1 : Nat) : Int), .i x3.2.2])] [60000] (p0) ?_
  refine awp_ret ?_
  have hE6 : specl03Any code ci ch = (List.take (Int.toNat x3.1) specl03Usual, x3.2.1, x3.2.2) := lt_b hx1 (bif_t h2 (lt_b hx3 (rfl)))
  exact gret [256] (congrArg (fun z => (.h z.1 : AV)) hE6.symm) (congrArg (fun z => ([.h code, .i ((z.2.1 : Nat) : Int), .i z.2.2] : List C)) hE6.symm)
 ·
  have h2d := ne_of_beq h2
  refine tn tt_ok [0, 2, 3, 6, 13] [60000] (p0) ?_
  refine ck (x1.1 == (1 : Int)) (fun h7 => ?_) (fun h7 => ?_)
  ·
   have h7d := eq_of_beq h7
   obtain ⟨x8, hx8⟩ : ∃ z : Int × Nat × Int, specl01Below code x1.2.1 x1.2.2 4 = z := ⟨_, rfl⟩
   have hbx8 := hx8 ▸ specl01Below_bd code x1.2.1 x1.2.2 4
   obtain ⟨x9, hx9⟩ : ∃ z : Int × Nat × Int, specl01Below code x8.2.1 x8.2.2 5 = z := ⟨_, rfl⟩
   have hbx9 := hx9 ▸ specl01Below_bd code x8.2.1 x8.2.2 5
   refine wT 3 0 (.own true 256) specl03Usual (fun hw11 hl12 => ?_)
   have hx10 := ng specl03Usual (Int.toNat x8.1)
   refine qu tt_ok [(3, .one (.slc (.own true 256) 2 (setRow (eL specl03Usual) (Int.toNat x8.1) 1 [.i (x9.1 - 1)])))] [3, 6] [(60000, [.h code, .i ((x9.2.1 : Nat) : Int), .i x9.2.2])] [60000] (po 2 (.give none (.i x8.1) [.h code, .i ((x8.2.1 : Nat) : Int), .i x8.2.2]) (px (ob_give (hx8 ▸ specl01Below_a code x1.2.1 x1.2.2 4)) (po 4 (.give none (.i x9.1) [.h code, .i ((x9.2.1 : Nat) : Int), .i x9.2.2]) (px (ob_give (hx9 ▸ specl01Below_a code x8.2.1 x8.2.2 5)) (pe 5 (av_i (IntWalk.i64_in (x9.1 - 1) (by omega))) (pG 6 x8.1 hx10 p0)))))) ?_
   refine eqn [(3, .o 256 (List.set specl03Usual (Int.toNat x8.1) ((nth specl03Usual (Int.toNat x8.1)).1, (x9.1 - 1))))] [3] [] [] (by rw [setRow_eL (y := ((nth specl03Usual (Int.toNat x8.1)).1, (x9.1 - 1))) hx10 rfl]; first | done | kernel_rfl) ?_
   refine sn tt_ok [0, 2] [60000] (p0) ?_
   refine awp_ret ?_
   have hE13 : specl03Any code ci ch = (List.set specl03Usual (Int.toNat x8.1) ((nth specl03Usual (Int.toNat x8.1)).1, (x9.1 - 1)), x9.2.1, x9.2.2) := lt_b hx1 (bif_f h2 (bif_t h7 (lt_b hx8 (lt_b hx9 (rfl)))))
   exact gret [256] (congrArg (fun z => (.h z.1 : AV)) hE13.symm) (congrArg (fun z => ([.h code, .i ((z.2.1 : Nat) : Int), .i z.2.2] : List C)) hE13.symm)
  ·
   have h7d := ne_of_beq h7
   refine tu tt_ok [(23, .b (x1.1 == (2 : Int)))] [] [] [] (p0) ?_
   refine ck (x1.1 == (2 : Int)) (fun h14 => ?_) (fun h14 => ?_)
   ·
    have h14d := eq_of_beq h14
    obtain ⟨x15, hx15⟩ : ∃ z : Int × Nat × Int, specl01Below code x1.2.1 x1.2.2 4 = z := ⟨_, rfl⟩
    have hbx15 := hx15 ▸ specl01Below_bd code x1.2.1 x1.2.2 4
    obtain ⟨x16, hx16⟩ : ∃ z : ByteArray × Nat × Int, specl03Name code x15.2.1 x15.2.2 = z := ⟨_, rfl⟩
    refine wT 3 0 (.own true 256) specl03Usual (fun hw18 hl19 => ?_)
    have hx17 := ng specl03Usual (Int.toNat x15.1)
    refine ru tt_ok [(3, .one (.slc (.own true 256) 2 (setRow (eL specl03Usual) (Int.toNat x15.1) 0 [.s x16.1])))] [3, 6, 23] [(60000, [.h code, .i ((x16.2.1 : Nat) : Int), .i x16.2.2])] [60000] (po 2 (.give none (.i x15.1) [.h code, .i ((x15.2.1 : Nat) : Int), .i x15.2.2]) (px (ob_give (hx15 ▸ specl01Below_a code x1.2.1 x1.2.2 4)) (po 4 (.give none (.s x16.1) [.h code, .i ((x16.2.1 : Nat) : Int), .i x16.2.2]) (px (ob_give (hx16 ▸ specl03Name_a code x15.2.1 x15.2.2)) (pG 5 x15.1 hx17 p0))))) ?_
    refine eqn [(3, .o 256 (List.set specl03Usual (Int.toNat x15.1) (x16.1, (nth specl03Usual (Int.toNat x15.1)).2)))] [3] [] [] (by rw [setRow_eL (y := (x16.1, (nth specl03Usual (Int.toNat x15.1)).2)) hx17 rfl]; first | done | kernel_rfl) ?_
    refine sn tt_ok [0, 2] [60000] (p0) ?_
    refine awp_ret ?_
    have hE20 : specl03Any code ci ch = (List.set specl03Usual (Int.toNat x15.1) (x16.1, (nth specl03Usual (Int.toNat x15.1)).2), x16.2.1, x16.2.2) := lt_b hx1 (bif_f h2 (bif_f h7 (bif_t h14 (lt_b hx15 (lt_b hx16 (rfl))))))
    exact gret [256] (congrArg (fun z => (.h z.1 : AV)) hE20.symm) (congrArg (fun z => ([.h code, .i ((z.2.1 : Nat) : Int), .i z.2.2] : List C)) hE20.symm)
   ·
    have h14d := ne_of_beq h14
    refine sn tt_ok [0, 2, 3, 6, 32] [60000] (p0) ?_
    refine ck (x1.1 == (3 : Int)) (fun h21 => ?_) (fun h21 => ?_)
    ·
     have h21d := eq_of_beq h21
     obtain ⟨x22, hx22⟩ : ∃ z : ByteArray × Nat × Int, specl01Pick code x1.2.1 x1.2.2 [⟨#[117]⟩, ⟨#[122]⟩, ⟨#[97]⟩] = z := ⟨_, rfl⟩
     refine wT 3 0 (.own true 256) specl03Usual (fun hw23 hl24 => ?_)
     refine qu tt_ok [(3, .one (.slc (.own true 2560) 2 ((eL specl03Usual) ++ [[.s x22.1, .i 1]])))] [3, 6, 23] [(60000, [.h code, .i ((x22.2.1 : Nat) : Int), .i x22.2.2])] [60000] (po 3 (.give none (.s x22.1) [.h code, .i ((x22.2.1 : Nat) : Int), .i x22.2.2]) (px (ob_give (hx22 ▸ specl01Pick_a code x1.2.1 x1.2.2 [⟨#[117]⟩, ⟨#[122]⟩, ⟨#[97]⟩] (Nat.zero_lt_succ _))) (pa specl03Usual [((x22.1, 1) : FieldD)] p0))) ?_
     refine eqn [(3, .o 2560 (specl03Usual ++ [((x22.1, 1) : FieldD)]))] [3] [] [] (by rw [show ((eL specl03Usual) ++ [[.s x22.1, .i 1]]) = (eL (specl03Usual ++ [((x22.1, 1) : FieldD)])) from app_eL (rfl) (rfl)]; first | done | kernel_rfl) ?_
     refine sn tt_ok [0, 2] [60000] (p0) ?_
     refine awp_ret ?_
     have hE25 : specl03Any code ci ch = (specl03Usual ++ [((x22.1, 1) : FieldD)], x22.2.1, x22.2.2) := lt_b hx1 (bif_f h2 (bif_f h7 (bif_f h14 (bif_t h21 (lt_b hx22 (rfl))))))
     exact gret [2560] (congrArg (fun z => (.h z.1 : AV)) hE25.symm) (congrArg (fun z => ([.h code, .i ((z.2.1 : Nat) : Int), .i z.2.2] : List C)) hE25.symm)
    ·
     have h21d := ne_of_beq h21
     refine tn tt_ok [0, 2, 3, 41] [60000] (p0) ?_
     refine ck (x1.1 == (4 : Int)) (fun h26 => ?_) (fun h26 => ?_)
     ·
      have h26d := eq_of_beq h26
      refine wT 3 0 (.own true 256) specl03Usual (fun hw27 hl28 => ?_)
      refine qu tt_ok [(3, .one (.slc (.own true 3008) 2 ((eL specl03Usual) ++ [[.s ⟨#[117]⟩, .i 1], [.s ⟨#[118]⟩, .i 2]])))] [3, 6, 23] [] [] (pa specl03Usual [((⟨#[117]⟩, 1) : FieldD), ((⟨#[118]⟩, 2) : FieldD)] p0) ?_
      refine eqn [(3, .o 3008 (specl03Usual ++ [((⟨#[117]⟩, 1) : FieldD), ((⟨#[118]⟩, 2) : FieldD)]))] [3] [] [] (by rw [show ((eL specl03Usual) ++ [[.s ⟨#[117]⟩, .i 1], [.s ⟨#[118]⟩, .i 2]]) = (eL (specl03Usual ++ [((⟨#[117]⟩, 1) : FieldD), ((⟨#[118]⟩, 2) : FieldD)])) from app_eL (rfl) (rfl)]; first | done | kernel_rfl) ?_
      refine sn tt_ok [0, 2] [60000] (p0) ?_
      refine awp_ret ?_
      have hE29 : specl03Any code ci ch = (specl03Usual ++ [((⟨#[117]⟩, 1) : FieldD), ((⟨#[118]⟩, 2) : FieldD)], x1.2.1, x1.2.2) := lt_b hx1 (bif_f h2 (bif_f h7 (bif_f h14 (bif_f h21 (bif_t h26 (rfl))))))
      exact gret [3008] (congrArg (fun z => (.h z.1 : AV)) hE29.symm) (congrArg (fun z => ([.h code, .i ((z.2.1 : Nat) : Int), .i z.2.2] : List C)) hE29.symm)
     ·
      refine awp_skip ?_
      refine tu tt_ok [(2, .o 256 specl03Usual)] [2, 3, 6, 23] [] [] (p0) ?_
      refine awp_ret ?_
      have hE30 : specl03Any code ci ch = (specl03Usual, x1.2.1, x1.2.2) := lt_b hx1 (bif_f h2 (bif_f h7 (bif_f h14 (bif_f h21 (bif_f h26 (rfl))))))
      exact gret [256] (congrArg (fun z => (.h z.1 : AV)) hE30.symm) (congrArg (fun z => ([.h code, .i ((z.2.1 : Nat) : Int), .i z.2.2] : List C)) hE30.symm)
def specl04Any (code : (List UInt8)) (ci : Nat) (ch : Int) : FileD × Nat × Int := (lt (α := Int × Nat × Int) (specl01Below code ci ch 7) (fun x1 => (lt (α := FileD × Nat × Int) (specl04File code x1.2.1 x1.2.2 (1 + x1.1)) (fun x2 => (lt (α := Int × Nat × Int) (specl01Below code x2.2.1 x2.2.2 14) (fun x3 => (bif (x3.1 == (0 : Int)) then (lt (α := Int × Nat × Int) (specl01PickInt code x3.2.1 x3.2.2 [0, 60, 61, -1]) (fun x5 => ((x5.1, x2.1.2.1, x2.1.2.2.1, x2.1.2.2.2.1, x2.1.2.2.2.2), x5.2.1, x5.2.2))) else (bif (x3.1 == (1 : Int)) then (lt (α := Int × Nat × Int) (specl01PickInt code x3.2.1 x3.2.2 [-1, 2, 3]) (fun x8 => ((x2.1.1, x8.1, x2.1.2.2.1, x2.1.2.2.2.1, x2.1.2.2.2.2), x8.2.1, x8.2.2))) else (bif (x3.1 == (2 : Int)) then (lt (α := Int × Nat × Int) (specl01PickInt code x3.2.1 x3.2.2 [-1, 60, 61, 9223372036854775807]) (fun x11 => ((x2.1.1, x2.1.2.1, x2.1.2.2.1, x11.1, x2.1.2.2.2.2), x11.2.1, x11.2.2))) else (bif (x3.1 == (3 : Int)) then (lt (α := ByteArray × Nat × Int) (specl03Name code x3.2.1 x3.2.2) (fun x14 => (lt (α := ValueD × Nat × Int) (specl02Any code x14.2.1 x14.2.2) (fun x15 => ((x2.1.1, x2.1.2.1, x2.1.2.2.1, x2.1.2.2.2.1, x2.1.2.2.2.2 ++ [(x14.1, x15.1)]), x15.2.1, x15.2.2))))) else (bif (x3.1 == (4 : Int)) then ((specSetAttr x2.1 ⟨#[97]⟩ (specStringValue ⟨#[114, 101, 100]⟩)), x3.2.1, x3.2.2) else (x2.1, x3.2.1, x3.2.2))))))))))))
theorem specl04Any_a (code : (List UInt8)) (ci : Nat) (ch : Int) : AGive Try.prog 47 [.h code, .i ((ci : Nat) : Int), .i ch] [] (.a [.i ((((specl04Any code ci ch)).1).1), .i ((((specl04Any code ci ch)).1).2.1), .b ((((specl04Any code ci ch)).1).2.2.1), .i ((((specl04Any code ci ch)).1).2.2.2.1), .o 0 ((((specl04Any code ci ch)).1).2.2.2.2)]) [.h code, .i ((((specl04Any code ci ch)).2.1 : Nat) : Int), .i (((specl04Any code ci ch)).2.2)] := by
 refine agive_of (tt := tt) tt_ok Try.func47 (fn := Try.f47) rfl (by unfold FnOk; kernel_rfl) (Nat.le_of_ble_eq_true rfl) (Nat.le_of_ble_eq_true rfl) rfl rfl fun w0 F0 hG => ?_
 refine sn tt_ok [0, 2] [2, 60000] (p0) ?_
 obtain ⟨x1, hx1⟩ : ∃ z : Int × Nat × Int, specl01Below code ci ch 7 = z := ⟨_, rfl⟩
 have hbx1 := hx1 ▸ specl01Below_bd code ci ch 7
 obtain ⟨x2, hx2⟩ : ∃ z : FileD × Nat × Int, specl04File code x1.2.1 x1.2.2 (1 + x1.1) = z := ⟨_, rfl⟩
 have hlx2 := l04_len code x1.2.1 x1.2.2 (1 + x1.1)
 rw [hx2] at hlx2
 refine tn tt_ok [0, 2, 3] [2, 3, 60000] (po 2 (.give none (.i x1.1) [.h code, .i ((x1.2.1 : Nat) : Int), .i x1.2.2]) (px (ob_give (hx1 ▸ specl01Below_a code ci ch 7)) (pe 3 (av_i (IntWalk.i64_in (1 + x1.1) (by omega))) (po 4 (.give none (.a [.i x2.1.1, .i x2.1.2.1, .b x2.1.2.2.1, .i x2.1.2.2.2.1, .o 0 x2.1.2.2.2.2]) [.h code, .i ((x2.2.1 : Nat) : Int), .i x2.2.2]) (px (ob_give (hx2 ▸ specl04File_a code x1.2.1 x1.2.2 (1 + x1.1))) p0))))) ?_
 refine awp_seq ?_
 obtain ⟨x3, hx3⟩ : ∃ z : Int × Nat × Int, specl01Below code x2.2.1 x2.2.2 14 = z := ⟨_, rfl⟩
 have hbx3 := hx3 ▸ specl01Below_bd code x2.2.1 x2.2.2 14
 refine tu tt_ok [(2, .p 2 0), (3, .p 3 0), (10, .i x3.1)] [] [(2, [.i 0, .i 0, .b false, .i 0, .e 4]), (3, [.i x2.1.1, .i x2.1.2.1, .b x2.1.2.2.1, .i x2.1.2.2.2.1, .o 512 x2.1.2.2.2.2]), (60000, [.h code, .i ((x3.2.1 : Nat) : Int), .i x3.2.2])] [60000] (po 1 (.give none (.i x3.1) [.h code, .i ((x3.2.1 : Nat) : Int), .i x3.2.2]) (px (ob_give (hx3 ▸ specl01Below_a code x2.2.1 x2.2.2 14)) p0)) ?_
 refine awp_block ?_
 refine sn tt_ok [0, 2, 3, 10, 11] [2, 3, 60000] (p0) ?_
 refine ck (x3.1 == (0 : Int)) (fun h4 => ?_) (fun h4 => ?_)
 ·
  obtain ⟨x5, hx5⟩ : ∃ z : Int × Nat × Int, specl01PickInt code x3.2.1 x3.2.2 [0, 60, 61, -1] = z := ⟨_, rfl⟩
  refine qn tt_ok [0, 2, 3] [2, 3, 60000] (po 2 (.give none (.i x5.1) [.h code, .i ((x5.2.1 : Nat) : Int), .i x5.2.2]) (px (ob_give (hx5 ▸ specl01PickInt_a code x3.2.1 x3.2.2 [0, 60, 61, -1] (Nat.zero_lt_succ _))) p0)) ?_
  refine tu tt_ok [] [3, 10] [(2, [.i x5.1, .i x2.1.2.1, .b x2.1.2.2.1, .i x2.1.2.2.2.1, .o 512 x2.1.2.2.2.2]), (60000, [.h code, .i ((x5.2.1 : Nat) : Int), .i x5.2.2])] [2, 3, 60000] (p0) ?_
  refine awp_ret ?_
  have hE6 : specl04Any code ci ch = ((x5.1, x2.1.2.1, x2.1.2.2.1, x2.1.2.2.2.1, x2.1.2.2.2.2), x5.2.1, x5.2.2) := lt_b hx1 (lt_b hx2 (lt_b hx3 (bif_t h4 (lt_b hx5 (rfl)))))
  exact gret [] (congrArg (fun z => (.a [.i z.1.1, .i z.1.2.1, .b z.1.2.2.1, .i z.1.2.2.2.1, .o 0 z.1.2.2.2.2] : AV)) hE6.symm) (congrArg (fun z => ([.h code, .i ((z.2.1 : Nat) : Int), .i z.2.2] : List C)) hE6.symm)
 ·
  have h4d := ne_of_beq h4
  refine tn tt_ok [0, 2, 3, 10, 17] [2, 3, 60000] (p0) ?_
  refine ck (x3.1 == (1 : Int)) (fun h7 => ?_) (fun h7 => ?_)
  ·
   obtain ⟨x8, hx8⟩ : ∃ z : Int × Nat × Int, specl01PickInt code x3.2.1 x3.2.2 [-1, 2, 3] = z := ⟨_, rfl⟩
   refine qu tt_ok [] [10] [(3, [.i x2.1.1, .i x8.1, .b x2.1.2.2.1, .i x2.1.2.2.2.1, .o 512 x2.1.2.2.2.2]), (60000, [.h code, .i ((x8.2.1 : Nat) : Int), .i x8.2.2])] [3, 60000] (po 2 (.give none (.i x8.1) [.h code, .i ((x8.2.1 : Nat) : Int), .i x8.2.2]) (px (ob_give (hx8 ▸ specl01PickInt_a code x3.2.1 x3.2.2 [-1, 2, 3] (Nat.zero_lt_succ _))) p0)) ?_
   refine sn tt_ok [0, 2] [2, 60000] (p0) ?_
   refine awp_ret ?_
   have hE9 : specl04Any code ci ch = ((x2.1.1, x8.1, x2.1.2.2.1, x2.1.2.2.2.1, x2.1.2.2.2.2), x8.2.1, x8.2.2) := lt_b hx1 (lt_b hx2 (lt_b hx3 (bif_f h4 (bif_t h7 (lt_b hx8 (rfl))))))
   exact gret [] (congrArg (fun z => (.a [.i z.1.1, .i z.1.2.1, .b z.1.2.2.1, .i z.1.2.2.2.1, .o 0 z.1.2.2.2.2] : AV)) hE9.symm) (congrArg (fun z => ([.h code, .i ((z.2.1 : Nat) : Int), .i z.2.2] : List C)) hE9.symm)
  ·
   have h7d := ne_of_beq h7
   refine tu tt_ok [(23, .b (x3.1 == (2 : Int)))] [] [] [] (p0) ?_
   refine ck (x3.1 == (2 : Int)) (fun h10 => ?_) (fun h10 => ?_)
   ·
    obtain ⟨x11, hx11⟩ : ∃ z : Int × Nat × Int, specl01PickInt code x3.2.1 x3.2.2 [-1, 60, 61, 9223372036854775807] = z := ⟨_, rfl⟩
    refine rn tt_ok [0, 2, 3] [2, 3, 60000] (po 2 (.give none (.i x11.1) [.h code, .i ((x11.2.1 : Nat) : Int), .i x11.2.2]) (px (ob_give (hx11 ▸ specl01PickInt_a code x3.2.1 x3.2.2 [-1, 60, 61, 9223372036854775807] (Nat.zero_lt_succ _))) p0)) ?_
    refine tn tt_ok [0, 2] [2, 60000] (p0) ?_
    refine awp_ret ?_
    have hE12 : specl04Any code ci ch = ((x2.1.1, x2.1.2.1, x2.1.2.2.1, x11.1, x2.1.2.2.2.2), x11.2.1, x11.2.2) := lt_b hx1 (lt_b hx2 (lt_b hx3 (bif_f h4 (bif_f h7 (bif_t h10 (lt_b hx11 (rfl)))))))
    exact gret [] (congrArg (fun z => (.a [.i z.1.1, .i z.1.2.1, .b z.1.2.2.1, .i z.1.2.2.2.1, .o 0 z.1.2.2.2.2] : AV)) hE12.symm) (congrArg (fun z => ([.h code, .i ((z.2.1 : Nat) : Int), .i z.2.2] : List C)) hE12.symm)
   ·
    have h10d := ne_of_beq h10
    refine sn tt_ok [0, 2, 3, 10, 29] [2, 3, 60000] (p0) ?_
    refine ck (x3.1 == (3 : Int)) (fun h13 => ?_) (fun h13 => ?_)
    ·
     have h13d := eq_of_beq h13
     obtain ⟨x14, hx14⟩ : ∃ z : ByteArray × Nat × Int, specl03Name code x3.2.1 x3.2.2 = z := ⟨_, rfl⟩
     obtain ⟨x15, hx15⟩ : ∃ z : ValueD × Nat × Int, specl02Any code x14.2.1 x14.2.2 = z := ⟨_, rfl⟩
     refine wB 3 4 (.own true 512) x2.1.2.2.2.2 (fun hw16 hl17 => ?_)
     refine qU tt_ok tt_mx [] [10, 23] [(3, [.i x2.1.1, .i x2.1.2.1, .b x2.1.2.2.1, .i x2.1.2.2.2.1, .slc (.own true 2496) 4 ((eL x2.1.2.2.2.2) ++ [[.s x14.1, .i x15.1.1, .i x15.1.2.1, .s x15.1.2.2]])]), (60000, [.h code, .i ((x15.2.1 : Nat) : Int), .i x15.2.2])] [3, 60000] (po 3 (.give none (.s x14.1) [.h code, .i ((x14.2.1 : Nat) : Int), .i x14.2.2]) (px (ob_give (hx14 ▸ specl03Name_a code x3.2.1 x3.2.2)) (po 5 (.give none (.a [.i x15.1.1, .i x15.1.2.1, .s x15.1.2.2]) [.h code, .i ((x15.2.1 : Nat) : Int), .i x15.2.2]) (px (ob_give (hx15 ▸ specl02Any_a code x14.2.1 x14.2.2)) (pa x2.1.2.2.2.2 [(x14.1, x15.1)] p0))))) ?_
     refine eqn [] [] [(3, [.i x2.1.1, .i x2.1.2.1, .b x2.1.2.2.1, .i x2.1.2.2.2.1, .o 2496 (x2.1.2.2.2.2 ++ [(x14.1, x15.1)])])] [3] (by rw [show ((eL x2.1.2.2.2.2) ++ [[.s x14.1, .i x15.1.1, .i x15.1.2.1, .s x15.1.2.2]]) = (eL (x2.1.2.2.2.2 ++ [(x14.1, x15.1)])) from app_eL (rfl) (rfl)]; first | done | kernel_rfl) ?_
     refine sn tt_ok [0, 2] [2, 60000] (p0) ?_
     refine awp_ret ?_
     have hE18 : specl04Any code ci ch = ((x2.1.1, x2.1.2.1, x2.1.2.2.1, x2.1.2.2.2.1, x2.1.2.2.2.2 ++ [(x14.1, x15.1)]), x15.2.1, x15.2.2) := lt_b hx1 (lt_b hx2 (lt_b hx3 (bif_f h4 (bif_f h7 (bif_f h10 (bif_t h13 (lt_b hx14 (lt_b hx15 (rfl)))))))))
     exact gret [] (congrArg (fun z => (.a [.i z.1.1, .i z.1.2.1, .b z.1.2.2.1, .i z.1.2.2.2.1, .o 0 z.1.2.2.2.2] : AV)) hE18.symm) (congrArg (fun z => ([.h code, .i ((z.2.1 : Nat) : Int), .i z.2.2] : List C)) hE18.symm)
    ·
     have h13d := ne_of_beq h13
     refine tn tt_ok [0, 2, 3, 41] [2, 3, 60000] (p0) ?_
     refine ck (x3.1 == (4 : Int)) (fun h19 => ?_) (fun h19 => ?_)
     ·
      have h19d := eq_of_beq h19
      refine qU tt_ok tt_mx [] [10, 23] [(3, [.i ((specSetAttr x2.1 ⟨#[97]⟩ (specStringValue ⟨#[114, 101, 100]⟩)).1), .i ((specSetAttr x2.1 ⟨#[97]⟩ (specStringValue ⟨#[114, 101, 100]⟩)).2.1), .b ((specSetAttr x2.1 ⟨#[97]⟩ (specStringValue ⟨#[114, 101, 100]⟩)).2.2.1), .i ((specSetAttr x2.1 ⟨#[97]⟩ (specStringValue ⟨#[114, 101, 100]⟩)).2.2.2.1), .o 2880 ((specSetAttr x2.1 ⟨#[97]⟩ (specStringValue ⟨#[114, 101, 100]⟩)).2.2.2.2)])] [3] (pc 1 (specStringValue_a ⟨#[114, 101, 100]⟩) (pc 2 (specSetAttr_a x2.1 ⟨#[97]⟩ (specStringValue ⟨#[114, 101, 100]⟩) (by first | omega | (simp; done) | (simp; omega))) p0)) ?_
      refine sn tt_ok [0, 2] [2, 60000] (p0) ?_
      refine awp_ret ?_
      have hE20 : specl04Any code ci ch = ((specSetAttr x2.1 ⟨#[97]⟩ (specStringValue ⟨#[114, 101, 100]⟩)), x3.2.1, x3.2.2) := lt_b hx1 (lt_b hx2 (lt_b hx3 (bif_f h4 (bif_f h7 (bif_f h10 (bif_f h13 (bif_t h19 (rfl))))))))
      exact gret [] (congrArg (fun z => (.a [.i z.1.1, .i z.1.2.1, .b z.1.2.2.1, .i z.1.2.2.2.1, .o 0 z.1.2.2.2.2] : AV)) hE20.symm) (congrArg (fun z => ([.h code, .i ((z.2.1 : Nat) : Int), .i z.2.2] : List C)) hE20.symm)
     ·
      refine awp_skip ?_
      refine tu tt_ok [] [3, 10, 23] [(2, [.i x2.1.1, .i x2.1.2.1, .b x2.1.2.2.1, .i x2.1.2.2.2.1, .o 512 x2.1.2.2.2.2])] [2, 3] (p0) ?_
      refine awp_ret ?_
      have hE21 : specl04Any code ci ch = (x2.1, x3.2.1, x3.2.2) := lt_b hx1 (lt_b hx2 (lt_b hx3 (bif_f h4 (bif_f h7 (bif_f h10 (bif_f h13 (bif_f h19 (rfl))))))))
      exact gret [] (congrArg (fun z => (.a [.i z.1.1, .i z.1.2.1, .b z.1.2.2.1, .i z.1.2.2.2.1, .o 0 z.1.2.2.2.2] : AV)) hE21.symm) (congrArg (fun z => ([.h code, .i ((z.2.1 : Nat) : Int), .i z.2.2] : List C)) hE21.symm)
def specl05Any_f0 (code : (List UInt8)) (s0 : StoreD × Nat × Int) : Rd (StoreD × Nat × Int) (StoreD × Nat × Int) (StoreD × Nat × Int) := (bif decide ((s0.1.2.1.length : Int) < (12 : Int)) then (lt (α := FileD × Nat × Int) (specl04File code s0.2.1 s0.2.2 1) (fun x16 => (.next ((((specCreateFile s0.1 x16.1)).1), x16.2.1, x16.2.2)))) else (.brk (s0.1, s0.2.1, s0.2.2)))
def specl05Any (code : (List UInt8)) (ci : Nat) (ch : Int) : StoreD × Nat × Int := (lt (α := StoreD × Nat × Int) (specl05Store code ci ch) (fun x1 => (lt (α := Int × Nat × Int) (specl01Below code x1.2.1 x1.2.2 14) (fun x2 => (bif (x2.1 == (0 : Int)) then (lt (α := Int × Nat × Int) (specl01PickInt code x2.2.1 x2.2.2 [0, 60, 61, 62]) (fun x4 => ((x1.1.1, x1.1.2.1, x4.1), x4.2.1, x4.2.2))) else (bif (x2.1 == (1 : Int)) then (lt (α := FileD × Nat × Int) (specl04Any code x2.2.1 x2.2.2) (fun x7 => ((x1.1.1, x1.1.2.1 ++ [x7.1], x1.1.2.2), x7.2.1, x7.2.2))) else (bif (x2.1 == (2 : Int)) then (lt (α := (List FieldD) × Nat × Int) (specl03Any code x2.2.1 x2.2.2) (fun x12 => ((x12.1, x1.1.2.1, x1.1.2.2), x12.2.1, x12.2.2))) else (bif (x2.1 == (3 : Int)) then (Out.on (whlD (specl05Any_f0 code) 13 (x1.1, x2.2.1, x2.2.2)) (fun y0 => (y0.1, y0.2.1, y0.2.2))) else (x1.1, x2.2.1, x2.2.2)))))))))
theorem specl05Any_w (code : List UInt8) (ci : Nat) (ch : Int) {s : StoreD} (h : S5 s) : (whl (specl05Any_f0 code) 13 (s, ci, ch)).isSome = true :=
  whl_upI (fun s => S5 s.1) (fun s => (s.1.2.1.length : Int)) 12 (fun s s' hi h => by
    unfold specl05Any_f0 lt at h
    by_cases hc : (s.1.2.1.length : Int) < 12
    · simp only [decide_eq_true hc, cond_true] at h
      have h := Rd.next.inj h
      obtain ⟨h1, h2⟩ := s5_push hi (by omega) (l04_ok code s.2.1 s.2.2 1)
      rw [← h]
      exact ⟨hc, by dsimp only; omega, h2⟩
    · simp only [decide_eq_false hc, cond_false] at h
      cases h) 12 _ h (by show (12 : Int) ≤ (s.2.1.length : Int) + 12; omega)
theorem specl05Any_a (code : (List UInt8)) (ci : Nat) (ch : Int) : AGive Try.prog 74 [.h code, .i ((ci : Nat) : Int), .i ch] [] (.a [.h ((((specl05Any code ci ch)).1).1), .q 0 ((((specl05Any code ci ch)).1).2.1), .i ((((specl05Any code ci ch)).1).2.2)]) [.h code, .i ((((specl05Any code ci ch)).2.1 : Nat) : Int), .i (((specl05Any code ci ch)).2.2)] := by
 refine agive_of (tt := tt) tt_ok Try.func74 (fn := Try.f74) rfl (by unfold FnOk; kernel_rfl) (Nat.le_of_ble_eq_true rfl) (Nat.le_of_ble_eq_true rfl) rfl rfl fun w0 F0 hG => ?_
 refine sn tt_ok [0, 2] [2, 60000] (p0) ?_
 obtain ⟨x1, hx1⟩ : ∃ z : StoreD × Nat × Int, specl05Store code ci ch = z := ⟨_, rfl⟩
 have hsx1 := l05_ok code ci ch
 rw [hx1] at hsx1
 refine tn tt_ok [0, 2, 3] [2, 3, 60000] (po 1 (.give none (.a [.o 0 x1.1.1, .q 1 x1.1.2.1, .i x1.1.2.2]) [.h code, .i ((x1.2.1 : Nat) : Int), .i x1.2.2]) (px (ob_give (hx1 ▸ specl05Store_a code ci ch)) p0)) ?_
 refine awp_seq ?_
 obtain ⟨x2, hx2⟩ : ∃ z : Int × Nat × Int, specl01Below code x1.2.1 x1.2.2 14 = z := ⟨_, rfl⟩
 have hbx2 := hx2 ▸ specl01Below_bd code x1.2.1 x1.2.2 14
 refine tu tt_ok [(2, .p 2 0), (3, .p 3 0), (7, .i x2.1)] [] [(2, [.e 2, .e 5, .i 0]), (3, [.o 320 x1.1.1, .q 321 x1.1.2.1, .i x1.1.2.2]), (60000, [.h code, .i ((x2.2.1 : Nat) : Int), .i x2.2.2])] [60000] (po 1 (.give none (.i x2.1) [.h code, .i ((x2.2.1 : Nat) : Int), .i x2.2.2]) (px (ob_give (hx2 ▸ specl01Below_a code x1.2.1 x1.2.2 14)) p0)) ?_
 refine awp_block ?_
 refine sn tt_ok [0, 2, 3, 7, 8] [2, 3, 60000] (p0) ?_
 refine ck (x2.1 == (0 : Int)) (fun h3 => ?_) (fun h3 => ?_)
 ·
  obtain ⟨x4, hx4⟩ : ∃ z : Int × Nat × Int, specl01PickInt code x2.2.1 x2.2.2 [0, 60, 61, 62] = z := ⟨_, rfl⟩
  refine qn tt_ok [0, 2, 3] [2, 3, 60000] (po 2 (.give none (.i x4.1) [.h code, .i ((x4.2.1 : Nat) : Int), .i x4.2.2]) (px (ob_give (hx4 ▸ specl01PickInt_a code x2.2.1 x2.2.2 [0, 60, 61, 62] (Nat.zero_lt_succ _))) p0)) ?_
  refine tu tt_ok [] [3, 7] [(2, [.o 320 x1.1.1, .q 321 x1.1.2.1, .i x4.1]), (60000, [.h code, .i ((x4.2.1 : Nat) : Int), .i x4.2.2])] [2, 3, 60000] (p0) ?_
  refine awp_ret ?_
  have hE5 : specl05Any code ci ch = ((x1.1.1, x1.1.2.1, x4.1), x4.2.1, x4.2.2) := lt_b hx1 (lt_b hx2 (bif_t h3 (lt_b hx4 (rfl))))
  exact gret [320] (congrArg (fun z => (.a [.h z.1.1, .q 0 z.1.2.1, .i z.1.2.2] : AV)) hE5.symm) (congrArg (fun z => ([.h code, .i ((z.2.1 : Nat) : Int), .i z.2.2] : List C)) hE5.symm)
 ·
  have h3d := ne_of_beq h3
  refine tn tt_ok [0, 2, 3, 7, 14] [2, 3, 60000] (p0) ?_
  refine ck (x2.1 == (1 : Int)) (fun h6 => ?_) (fun h6 => ?_)
  ·
   have h6d := eq_of_beq h6
   obtain ⟨x7, hx7⟩ : ∃ z : FileD × Nat × Int, specl04Any code x2.2.1 x2.2.2 = z := ⟨_, rfl⟩
   refine wB 3 1 (.own false 321) x1.1.2.1 (fun hw8 hl9 => ?_)
   refine qU tt_ok tt_mx [] [7] [(3, [.o 320 x1.1.1, .slc (.own false 1344) 5 ((eL x1.1.2.1) ++ [[.i x7.1.1, .i x7.1.2.1, .b x7.1.2.2.1, .i x7.1.2.2.2.1, .h x7.1.2.2.2.2]]), .i x1.1.2.2]), (60000, [.h code, .i ((x7.2.1 : Nat) : Int), .i x7.2.2])] [3, 60000] (po 3 (.give none (.a [.i x7.1.1, .i x7.1.2.1, .b x7.1.2.2.1, .i x7.1.2.2.2.1, .o 0 x7.1.2.2.2.2]) [.h code, .i ((x7.2.1 : Nat) : Int), .i x7.2.2]) (px (ob_give (hx7 ▸ specl04Any_a code x2.2.1 x2.2.2)) (pa x1.1.2.1 [x7.1] p0))) ?_
   refine eqn [] [] [(3, [.o 320 x1.1.1, .q 1344 (x1.1.2.1 ++ [x7.1]), .i x1.1.2.2])] [3] (by rw [show ((eL x1.1.2.1) ++ [[.i x7.1.1, .i x7.1.2.1, .b x7.1.2.2.1, .i x7.1.2.2.2.1, .h x7.1.2.2.2.2]]) = (eL (x1.1.2.1 ++ [x7.1])) from app_eL (rfl) (rfl)]; first | done | kernel_rfl) ?_
   refine sn tt_ok [0, 2] [2, 60000] (p0) ?_
   refine awp_ret ?_
   have hE10 : specl05Any code ci ch = ((x1.1.1, x1.1.2.1 ++ [x7.1], x1.1.2.2), x7.2.1, x7.2.2) := lt_b hx1 (lt_b hx2 (bif_f h3 (bif_t h6 (lt_b hx7 (rfl)))))
   exact gret [320] (congrArg (fun z => (.a [.h z.1.1, .q 0 z.1.2.1, .i z.1.2.2] : AV)) hE10.symm) (congrArg (fun z => ([.h code, .i ((z.2.1 : Nat) : Int), .i z.2.2] : List C)) hE10.symm)
  ·
   refine tu tt_ok [(23, .b (x2.1 == (2 : Int)))] [] [] [] (p0) ?_
   refine ck (x2.1 == (2 : Int)) (fun h11 => ?_) (fun h11 => ?_)
   ·
    obtain ⟨x12, hx12⟩ : ∃ z : (List FieldD) × Nat × Int, specl03Any code x2.2.1 x2.2.2 = z := ⟨_, rfl⟩
    refine rn tt_ok [0, 2, 3] [2, 3, 60000] (po 1 (.give none (.h x12.1) [.h code, .i ((x12.2.1 : Nat) : Int), .i x12.2.2]) (px (ob_give (hx12 ▸ specl03Any_a code x2.2.1 x2.2.2)) p0)) ?_
    refine tn tt_ok [0, 2] [2, 60000] (p0) ?_
    refine awp_ret ?_
    have hE13 : specl05Any code ci ch = ((x12.1, x1.1.2.1, x1.1.2.2), x12.2.1, x12.2.2) := lt_b hx1 (lt_b hx2 (bif_f h3 (bif_f h6 (bif_t h11 (lt_b hx12 (rfl))))))
    exact gret [] (congrArg (fun z => (.a [.h z.1.1, .q 0 z.1.2.1, .i z.1.2.2] : AV)) hE13.symm) (congrArg (fun z => ([.h code, .i ((z.2.1 : Nat) : Int), .i z.2.2] : List C)) hE13.symm)
   ·
    refine sn tt_ok [0, 2, 3, 28] [2, 3, 60000] (p0) ?_
    refine ck (x2.1 == (3 : Int)) (fun h14 => ?_) (fun h14 => ?_)
    ·
     refine mz [(28, .b (x2.1 == (3 : Int)))] [7, 23] [] [] ?_
     refine blw (fun (s0 : StoreD × Nat × Int) => []) [28] (fun s0 => [(3, [.o 147206 s0.1.1, .q 147207 s0.1.2.1, .i s0.1.2.2]), (60000, [.h code, .i ((s0.2.1 : Nat) : Int), .i s0.2.2])]) [3, 60000] (fun (y0 : StoreD × Nat × Int) => []) [28] (fun y0 => [(3, [.o 147356 y0.1.1, .q 147357 y0.1.2.1, .i y0.1.2.2]), (60000, [.h code, .i ((y0.2.1 : Nat) : Int), .i y0.2.2])]) [3, 60000] (fun (k0 : Nat) (s0 : StoreD × Nat × Int) => whl (specl05Any_f0 code) k0 s0 = some (whlD (specl05Any_f0 code) 13 (x1.1, x2.2.1, x2.2.2))) (fun (y0 : StoreD × Nat × Int) => (whlD (specl05Any_f0 code) 13 (x1.1, x2.2.1, x2.2.2)) = .brk y0) 13 (x1.1, x2.2.1, x2.2.2) (weak_sf [(320, 147206), (321, 147207)] (by kernel_rfl)) (whl_some (specl05Any_w code _ _ hsx1.1)) (fun _ h => whl_zero h) (fun k0 s0 hI0 => ?_) (fun y0 hD0 => ?_)
     ·
      refine awp_seq ?_
      refine sn tt_ok [0, 2, 3, 33] [2, 3, 60000] (pl 2 s0.1.2.1 p0) ?_
      refine ck (decide ((s0.1.2.1.length : Int) < (12 : Int))) (fun h15 => ?_) (fun h15 => ?_)
      ·
       refine awp_skip ?_
       refine awp_block ?_
       obtain ⟨x16, hx16⟩ : ∃ z : FileD × Nat × Int, specl04File code s0.2.1 s0.2.2 1 = z := ⟨_, rfl⟩
       refine qN tt_ok tt_mx [0, 2, 3] [2, 3, 60000] (po 2 (.give none (.a [.i x16.1.1, .i x16.1.2.1, .b x16.1.2.2.1, .i x16.1.2.2.2.1, .o 0 x16.1.2.2.2.2]) [.h code, .i ((x16.2.1 : Nat) : Int), .i x16.2.2]) (px (ob_give (hx16 ▸ specl04File_a code s0.2.1 s0.2.2 1)) (pc 3 (specCreateFile_a s0.1 x16.1) p0))) ?_
       exact Exists.intro ((((specCreateFile s0.1 x16.1)).1), x16.2.1, x16.2.2) (And.intro (weak_gf [] [] [2433] [(2432, 147206), (2433, 147207)] (by kernel_rfl)) (wn hI0 (bif_t h15 (lt_b hx16 (rfl)))))
      ·
       refine awp_exit ?_
       exact Exists.intro _ (And.intro (weak_sf [(147206, 147356), (147207, 147357)] (by kernel_rfl)) (wb hI0 (bif_f h15 (rfl))))
     ·
      refine sn tt_ok [0, 2] [2, 60000] (p0) ?_
      refine awp_ret ?_
      have hE17 : specl05Any code ci ch = (y0.1, y0.2.1, y0.2.2) := lt_b hx1 (lt_b hx2 (bif_f h3 (bif_f h6 (bif_f h11 (bif_t h14 (on_b hD0 (rfl)))))))
      exact gret [147356] (congrArg (fun z => (.a [.h z.1.1, .q 0 z.1.2.1, .i z.1.2.2] : AV)) hE17.symm) (congrArg (fun z => ([.h code, .i ((z.2.1 : Nat) : Int), .i z.2.2] : List C)) hE17.symm)
    ·
     refine awp_skip ?_
     refine tn tt_ok [0, 2] [2, 60000] (p0) ?_
     refine awp_ret ?_
     have hE18 : specl05Any code ci ch = (x1.1, x2.2.1, x2.2.2) := lt_b hx1 (lt_b hx2 (bif_f h3 (bif_f h6 (bif_f h11 (bif_f h14 (rfl))))))
     exact gret [320] (congrArg (fun z => (.a [.h z.1.1, .q 0 z.1.2.1, .i z.1.2.2] : AV)) hE18.symm) (congrArg (fun z => ([.h code, .i ((z.2.1 : Nat) : Int), .i z.2.2] : List C)) hE18.symm)
def specl09Any (code : (List UInt8)) (ci : Nat) (ch : Int) : (List NodeD) × Nat × Int := (lt (α := (List NodeD) × Nat × Int) (specl09Question code ci ch) (fun x1 => (lt (α := Int × Nat × Int) (specl01Below code x1.2.1 x1.2.2 (x1.1.length : Int)) (fun x2 => (lt (α := Int × Nat × Int) (specl01Below code x2.2.1 x2.2.2 10) (fun x3 => (bif (x3.1 == (0 : Int)) then (lt (α := Int × Nat × Int) (specl01Below code x3.2.1 x3.2.2 12) (fun x5 => (List.set x1.1 (Int.toNat x2.1) ((x5.1 - 1), (nth x1.1 (Int.toNat x2.1)).2.1, (nth x1.1 (Int.toNat x2.1)).2.2.1, (nth x1.1 (Int.toNat x2.1)).2.2.2.1, ((nth x1.1 (Int.toNat x2.1)).2.2.2.2.1, (nth x1.1 (Int.toNat x2.1)).2.2.2.2.2.1, (nth x1.1 (Int.toNat x2.1)).2.2.2.2.2.2)), x5.2.1, x5.2.2))) else (bif (x3.1 == (1 : Int)) then (lt (α := Int × Nat × Int) (specl01PickInt code x3.2.1 x3.2.2 [-1, 0, x2.1, 8, 9223372036854775807]) (fun x11 => (List.set x1.1 (Int.toNat x2.1) ((nth x1.1 (Int.toNat x2.1)).1, x11.1, (nth x1.1 (Int.toNat x2.1)).2.2.1, (nth x1.1 (Int.toNat x2.1)).2.2.2.1, ((nth x1.1 (Int.toNat x2.1)).2.2.2.2.1, (nth x1.1 (Int.toNat x2.1)).2.2.2.2.2.1, (nth x1.1 (Int.toNat x2.1)).2.2.2.2.2.2)), x11.2.1, x11.2.2))) else (bif (x3.1 == (2 : Int)) then (lt (α := ByteArray × Nat × Int) (specl01Pick code x3.2.1 x3.2.2 [⟨#[]⟩, ⟨#[97]⟩, ⟨#[100, 97]⟩, ⟨#[97, 98, 99, 100, 101, 102, 103]⟩, ⟨#[65]⟩]) (fun x17 => (List.set x1.1 (Int.toNat x2.1) ((nth x1.1 (Int.toNat x2.1)).1, (nth x1.1 (Int.toNat x2.1)).2.1, (nth x1.1 (Int.toNat x2.1)).2.2.1, x17.1, ((nth x1.1 (Int.toNat x2.1)).2.2.2.2.1, (nth x1.1 (Int.toNat x2.1)).2.2.2.2.2.1, (nth x1.1 (Int.toNat x2.1)).2.2.2.2.2.2)), x17.2.1, x17.2.2))) else (bif (x3.1 == (3 : Int)) then (lt (α := NodeD × Nat × Int) (specl09Leaf code x3.2.1 x3.2.2) (fun x23 => (x1.1 ++ [x23.1], x23.2.1, x23.2.2))) else (bif (x3.1 == (4 : Int)) then (lt (α := ValueD × Nat × Int) (specl02Any code x3.2.1 x3.2.2) (fun x28 => (List.set x1.1 (Int.toNat x2.1) ((nth x1.1 (Int.toNat x2.1)).1, (nth x1.1 (Int.toNat x2.1)).2.1, (nth x1.1 (Int.toNat x2.1)).2.2.1, (nth x1.1 (Int.toNat x2.1)).2.2.2.1, x28.1), x28.2.1, x28.2.2))) else (bif (x3.1 == (5 : Int)) then ([], x3.2.1, x3.2.2) else (x1.1, x3.2.1, x3.2.2)))))))))))))
theorem specl09Any_a (code : (List UInt8)) (ci : Nat) (ch : Int) : AGive Try.prog 122 [.h code, .i ((ci : Nat) : Int), .i ch] [] (.o 0 (((specl09Any code ci ch)).1)) [.h code, .i ((((specl09Any code ci ch)).2.1 : Nat) : Int), .i (((specl09Any code ci ch)).2.2)] := by
 refine agive_of (tt := tt) tt_ok Try.func122 (fn := Try.f122) rfl (by unfold FnOk; kernel_rfl) (Nat.le_of_ble_eq_true rfl) (Nat.le_of_ble_eq_true rfl) rfl rfl fun w0 F0 hG => ?_
 refine sn tt_ok [0, 2] [60000] (p0) ?_
 obtain ⟨x1, hx1⟩ : ∃ z : (List NodeD) × Nat × Int, specl09Question code ci ch = z := ⟨_, rfl⟩
 have hbx1 := hx1 ▸ ques_len code ci ch
 refine tn tt_ok [0, 2, 3] [60000] (po 1 (.give none (.o 0 x1.1) [.h code, .i ((x1.2.1 : Nat) : Int), .i x1.2.2]) (px (ob_give (hx1 ▸ specl09Question_a code ci ch)) p0)) ?_
 obtain ⟨x2, hx2⟩ : ∃ z : Int × Nat × Int, specl01Below code x1.2.1 x1.2.2 (x1.1.length : Int) = z := ⟨_, rfl⟩
 have hbx2 := hx2 ▸ specl01Below_bd code x1.2.1 x1.2.2 (x1.1.length : Int)
 refine tu tt_ok [(2, .e 0), (3, .o 384 x1.1), (4, .i x2.1)] [] [(60000, [.h code, .i ((x2.2.1 : Nat) : Int), .i x2.2.2])] [60000] (pl 2 x1.1 (po 3 (.give none (.i x2.1) [.h code, .i ((x2.2.1 : Nat) : Int), .i x2.2.2]) (px (ob_give (hx2 ▸ specl01Below_a code x1.2.1 x1.2.2 (x1.1.length : Int))) p0))) ?_
 refine awp_seq ?_
 obtain ⟨x3, hx3⟩ : ∃ z : Int × Nat × Int, specl01Below code x2.2.1 x2.2.2 10 = z := ⟨_, rfl⟩
 have hbx3 := hx3 ▸ specl01Below_bd code x2.2.1 x2.2.2 10
 refine sn tt_ok [0, 2, 3, 4, 12] [60000] (po 1 (.give none (.i x3.1) [.h code, .i ((x3.2.1 : Nat) : Int), .i x3.2.2]) (px (ob_give (hx3 ▸ specl01Below_a code x2.2.1 x2.2.2 10)) p0)) ?_
 refine awp_block ?_
 refine tn tt_ok [0, 2, 3, 4, 12, 13] [60000] (p0) ?_
 refine ck (x3.1 == (0 : Int)) (fun h4 => ?_) (fun h4 => ?_)
 ·
  have h4d := eq_of_beq h4
  obtain ⟨x5, hx5⟩ : ∃ z : Int × Nat × Int, specl01Below code x3.2.1 x3.2.2 12 = z := ⟨_, rfl⟩
  have hbx5 := hx5 ▸ specl01Below_bd code x3.2.1 x3.2.2 12
  refine wT 3 0 (.own true 384) x1.1 (fun hw7 hl8 => ?_)
  have hx6 := ng x1.1 (Int.toNat x2.1)
  refine qu tt_ok [(3, .one (.slc (.own true 384) 7 (setRow (eL x1.1) (Int.toNat x2.1) 0 [.i (x5.1 - 1)])))] [3, 4] [(60000, [.h code, .i ((x5.2.1 : Nat) : Int), .i x5.2.2])] [60000] (po 3 (.give none (.i x5.1) [.h code, .i ((x5.2.1 : Nat) : Int), .i x5.2.2]) (px (ob_give (hx5 ▸ specl01Below_a code x3.2.1 x3.2.2 12)) (pe 4 (av_i (IntWalk.i64_in (x5.1 - 1) (by omega))) (pG 5 x2.1 hx6 p0)))) ?_
  refine eqn [(3, .o 384 (List.set x1.1 (Int.toNat x2.1) ((x5.1 - 1), (nth x1.1 (Int.toNat x2.1)).2.1, (nth x1.1 (Int.toNat x2.1)).2.2.1, (nth x1.1 (Int.toNat x2.1)).2.2.2.1, ((nth x1.1 (Int.toNat x2.1)).2.2.2.2.1, (nth x1.1 (Int.toNat x2.1)).2.2.2.2.2.1, (nth x1.1 (Int.toNat x2.1)).2.2.2.2.2.2))))] [3] [] [] (by rw [setRow_eL (y := ((x5.1 - 1), (nth x1.1 (Int.toNat x2.1)).2.1, (nth x1.1 (Int.toNat x2.1)).2.2.1, (nth x1.1 (Int.toNat x2.1)).2.2.2.1, ((nth x1.1 (Int.toNat x2.1)).2.2.2.2.1, (nth x1.1 (Int.toNat x2.1)).2.2.2.2.2.1, (nth x1.1 (Int.toNat x2.1)).2.2.2.2.2.2))) hx6 rfl]; first | done | kernel_rfl) ?_
  refine sn tt_ok [0, 2] [60000] (p0) ?_
  refine awp_ret ?_
  have hE9 : specl09Any code ci ch = (List.set x1.1 (Int.toNat x2.1) ((x5.1 - 1), (nth x1.1 (Int.toNat x2.1)).2.1, (nth x1.1 (Int.toNat x2.1)).2.2.1, (nth x1.1 (Int.toNat x2.1)).2.2.2.1, ((nth x1.1 (Int.toNat x2.1)).2.2.2.2.1, (nth x1.1 (Int.toNat x2.1)).2.2.2.2.2.1, (nth x1.1 (Int.toNat x2.1)).2.2.2.2.2.2)), x5.2.1, x5.2.2) := lt_b hx1 (lt_b hx2 (lt_b hx3 (bif_t h4 (lt_b hx5 (rfl)))))
  exact gret [] (congrArg (fun z => (.o 0 z.1 : AV)) hE9.symm) (congrArg (fun z => ([.h code, .i ((z.2.1 : Nat) : Int), .i z.2.2] : List C)) hE9.symm)
 ·
  have h4d := ne_of_beq h4
  refine tu tt_ok [(12, .i x3.1), (22, .b (x3.1 == (1 : Int)))] [] [(60000, [.h code, .i ((x3.2.1 : Nat) : Int), .i x3.2.2])] [60000] (p0) ?_
  refine ck (x3.1 == (1 : Int)) (fun h10 => ?_) (fun h10 => ?_)
  ·
   have h10d := eq_of_beq h10
   obtain ⟨x11, hx11⟩ : ∃ z : Int × Nat × Int, specl01PickInt code x3.2.1 x3.2.2 [-1, 0, x2.1, 8, 9223372036854775807] = z := ⟨_, rfl⟩
   refine wT 3 0 (.own true 384) x1.1 (fun hw13 hl14 => ?_)
   have hx12 := ng x1.1 (Int.toNat x2.1)
   refine ru tt_ok [(3, .one (.slc (.own true 384) 7 (setRow (eL x1.1) (Int.toNat x2.1) 1 [.i x11.1])))] [3, 4, 12, 22] [(60000, [.h code, .i ((x11.2.1 : Nat) : Int), .i x11.2.2])] [60000] (po 5 (.give none (.i x11.1) [.h code, .i ((x11.2.1 : Nat) : Int), .i x11.2.2]) (px (ob_give (hx11 ▸ specl01PickInt_a code x3.2.1 x3.2.2 [-1, 0, x2.1, 8, 9223372036854775807] (Nat.zero_lt_succ _))) (pG 6 x2.1 hx12 p0))) ?_
   refine eqn [(3, .o 384 (List.set x1.1 (Int.toNat x2.1) ((nth x1.1 (Int.toNat x2.1)).1, x11.1, (nth x1.1 (Int.toNat x2.1)).2.2.1, (nth x1.1 (Int.toNat x2.1)).2.2.2.1, ((nth x1.1 (Int.toNat x2.1)).2.2.2.2.1, (nth x1.1 (Int.toNat x2.1)).2.2.2.2.2.1, (nth x1.1 (Int.toNat x2.1)).2.2.2.2.2.2))))] [3] [] [] (by rw [setRow_eL (y := ((nth x1.1 (Int.toNat x2.1)).1, x11.1, (nth x1.1 (Int.toNat x2.1)).2.2.1, (nth x1.1 (Int.toNat x2.1)).2.2.2.1, ((nth x1.1 (Int.toNat x2.1)).2.2.2.2.1, (nth x1.1 (Int.toNat x2.1)).2.2.2.2.2.1, (nth x1.1 (Int.toNat x2.1)).2.2.2.2.2.2))) hx12 rfl]; first | done | kernel_rfl) ?_
   refine sn tt_ok [0, 2] [60000] (p0) ?_
   refine awp_ret ?_
   have hE15 : specl09Any code ci ch = (List.set x1.1 (Int.toNat x2.1) ((nth x1.1 (Int.toNat x2.1)).1, x11.1, (nth x1.1 (Int.toNat x2.1)).2.2.1, (nth x1.1 (Int.toNat x2.1)).2.2.2.1, ((nth x1.1 (Int.toNat x2.1)).2.2.2.2.1, (nth x1.1 (Int.toNat x2.1)).2.2.2.2.2.1, (nth x1.1 (Int.toNat x2.1)).2.2.2.2.2.2)), x11.2.1, x11.2.2) := lt_b hx1 (lt_b hx2 (lt_b hx3 (bif_f h4 (bif_t h10 (lt_b hx11 (rfl))))))
   exact gret [] (congrArg (fun z => (.o 0 z.1 : AV)) hE15.symm) (congrArg (fun z => ([.h code, .i ((z.2.1 : Nat) : Int), .i z.2.2] : List C)) hE15.symm)
  ·
   have h10d := ne_of_beq h10
   refine sn tt_ok [0, 2, 3, 4, 12, 32] [60000] (p0) ?_
   refine ck (x3.1 == (2 : Int)) (fun h16 => ?_) (fun h16 => ?_)
   ·
    have h16d := eq_of_beq h16
    obtain ⟨x17, hx17⟩ : ∃ z : ByteArray × Nat × Int, specl01Pick code x3.2.1 x3.2.2 [⟨#[]⟩, ⟨#[97]⟩, ⟨#[100, 97]⟩, ⟨#[97, 98, 99, 100, 101, 102, 103]⟩, ⟨#[65]⟩] = z := ⟨_, rfl⟩
    refine wT 3 0 (.own true 384) x1.1 (fun hw19 hl20 => ?_)
    have hx18 := ng x1.1 (Int.toNat x2.1)
    refine qu tt_ok [(3, .one (.slc (.own true 384) 7 (setRow (eL x1.1) (Int.toNat x2.1) 3 [.s x17.1])))] [3, 4, 12, 22] [(60000, [.h code, .i ((x17.2.1 : Nat) : Int), .i x17.2.2])] [60000] (po 4 (.give none (.s x17.1) [.h code, .i ((x17.2.1 : Nat) : Int), .i x17.2.2]) (px (ob_give (hx17 ▸ specl01Pick_a code x3.2.1 x3.2.2 [⟨#[]⟩, ⟨#[97]⟩, ⟨#[100, 97]⟩, ⟨#[97, 98, 99, 100, 101, 102, 103]⟩, ⟨#[65]⟩] (Nat.zero_lt_succ _))) (pG 5 x2.1 hx18 p0))) ?_
    refine eqn [(3, .o 384 (List.set x1.1 (Int.toNat x2.1) ((nth x1.1 (Int.toNat x2.1)).1, (nth x1.1 (Int.toNat x2.1)).2.1, (nth x1.1 (Int.toNat x2.1)).2.2.1, x17.1, ((nth x1.1 (Int.toNat x2.1)).2.2.2.2.1, (nth x1.1 (Int.toNat x2.1)).2.2.2.2.2.1, (nth x1.1 (Int.toNat x2.1)).2.2.2.2.2.2))))] [3] [] [] (by rw [setRow_eL (y := ((nth x1.1 (Int.toNat x2.1)).1, (nth x1.1 (Int.toNat x2.1)).2.1, (nth x1.1 (Int.toNat x2.1)).2.2.1, x17.1, ((nth x1.1 (Int.toNat x2.1)).2.2.2.2.1, (nth x1.1 (Int.toNat x2.1)).2.2.2.2.2.1, (nth x1.1 (Int.toNat x2.1)).2.2.2.2.2.2))) hx18 rfl]; first | done | kernel_rfl) ?_
    refine sn tt_ok [0, 2] [60000] (p0) ?_
    refine awp_ret ?_
    have hE21 : specl09Any code ci ch = (List.set x1.1 (Int.toNat x2.1) ((nth x1.1 (Int.toNat x2.1)).1, (nth x1.1 (Int.toNat x2.1)).2.1, (nth x1.1 (Int.toNat x2.1)).2.2.1, x17.1, ((nth x1.1 (Int.toNat x2.1)).2.2.2.2.1, (nth x1.1 (Int.toNat x2.1)).2.2.2.2.2.1, (nth x1.1 (Int.toNat x2.1)).2.2.2.2.2.2)), x17.2.1, x17.2.2) := lt_b hx1 (lt_b hx2 (lt_b hx3 (bif_f h4 (bif_f h10 (bif_t h16 (lt_b hx17 (rfl)))))))
    exact gret [] (congrArg (fun z => (.o 0 z.1 : AV)) hE21.symm) (congrArg (fun z => ([.h code, .i ((z.2.1 : Nat) : Int), .i z.2.2] : List C)) hE21.symm)
   ·
    have h16d := ne_of_beq h16
    refine tn tt_ok [0, 2, 3, 4, 12, 41] [60000] (p0) ?_
    refine ck (x3.1 == (3 : Int)) (fun h22 => ?_) (fun h22 => ?_)
    ·
     have h22d := eq_of_beq h22
     obtain ⟨x23, hx23⟩ : ∃ z : NodeD × Nat × Int, specl09Leaf code x3.2.1 x3.2.2 = z := ⟨_, rfl⟩
     refine wT 3 0 (.own true 384) x1.1 (fun hw24 hl25 => ?_)
     refine qu tt_ok [(3, .one (.slc (.own true 3008) 7 ((eL x1.1) ++ [[.i x23.1.1, .i x23.1.2.1, .i x23.1.2.2.1, .s x23.1.2.2.2.1, .i x23.1.2.2.2.2.1, .i x23.1.2.2.2.2.2.1, .s x23.1.2.2.2.2.2.2]])))] [3, 4, 12, 22] [(60000, [.h code, .i ((x23.2.1 : Nat) : Int), .i x23.2.2])] [60000] (po 2 (.give none (.a [.i x23.1.1, .i x23.1.2.1, .i x23.1.2.2.1, .s x23.1.2.2.2.1, .i x23.1.2.2.2.2.1, .i x23.1.2.2.2.2.2.1, .s x23.1.2.2.2.2.2.2]) [.h code, .i ((x23.2.1 : Nat) : Int), .i x23.2.2]) (px (ob_give (hx23 ▸ specl09Leaf_a code x3.2.1 x3.2.2)) (pa x1.1 [x23.1] p0))) ?_
     refine eqn [(3, .o 3008 (x1.1 ++ [x23.1]))] [3] [] [] (by rw [show ((eL x1.1) ++ [[.i x23.1.1, .i x23.1.2.1, .i x23.1.2.2.1, .s x23.1.2.2.2.1, .i x23.1.2.2.2.2.1, .i x23.1.2.2.2.2.2.1, .s x23.1.2.2.2.2.2.2]]) = (eL (x1.1 ++ [x23.1])) from app_eL (rfl) (rfl)]; first | done | kernel_rfl) ?_
     refine sn tt_ok [0, 2] [60000] (p0) ?_
     refine awp_ret ?_
     have hE26 : specl09Any code ci ch = (x1.1 ++ [x23.1], x23.2.1, x23.2.2) := lt_b hx1 (lt_b hx2 (lt_b hx3 (bif_f h4 (bif_f h10 (bif_f h16 (bif_t h22 (lt_b hx23 (rfl))))))))
     exact gret [] (congrArg (fun z => (.o 0 z.1 : AV)) hE26.symm) (congrArg (fun z => ([.h code, .i ((z.2.1 : Nat) : Int), .i z.2.2] : List C)) hE26.symm)
    ·
     have h22d := ne_of_beq h22
     refine tu tt_ok [(48, .b (x3.1 == (4 : Int)))] [22] [] [] (p0) ?_
     refine ck (x3.1 == (4 : Int)) (fun h27 => ?_) (fun h27 => ?_)
     ·
      have h27d := eq_of_beq h27
      obtain ⟨x28, hx28⟩ : ∃ z : ValueD × Nat × Int, specl02Any code x3.2.1 x3.2.2 = z := ⟨_, rfl⟩
      refine wT 3 0 (.own true 384) x1.1 (fun hw30 hl31 => ?_)
      have hx29 := ng x1.1 (Int.toNat x2.1)
      refine ru tt_ok [(3, .one (.slc (.own true 384) 7 (setRow (eL x1.1) (Int.toNat x2.1) 4 [.i x28.1.1, .i x28.1.2.1, .s x28.1.2.2])))] [3, 4, 12, 48] [(60000, [.h code, .i ((x28.2.1 : Nat) : Int), .i x28.2.2])] [60000] (po 3 (.give none (.a [.i x28.1.1, .i x28.1.2.1, .s x28.1.2.2]) [.h code, .i ((x28.2.1 : Nat) : Int), .i x28.2.2]) (px (ob_give (hx28 ▸ specl02Any_a code x3.2.1 x3.2.2)) (pG 4 x2.1 hx29 p0))) ?_
      refine eqn [(3, .o 384 (List.set x1.1 (Int.toNat x2.1) ((nth x1.1 (Int.toNat x2.1)).1, (nth x1.1 (Int.toNat x2.1)).2.1, (nth x1.1 (Int.toNat x2.1)).2.2.1, (nth x1.1 (Int.toNat x2.1)).2.2.2.1, x28.1)))] [3] [] [] (by rw [setRow_eL (y := ((nth x1.1 (Int.toNat x2.1)).1, (nth x1.1 (Int.toNat x2.1)).2.1, (nth x1.1 (Int.toNat x2.1)).2.2.1, (nth x1.1 (Int.toNat x2.1)).2.2.2.1, x28.1)) hx29 rfl]; first | done | kernel_rfl) ?_
      refine sn tt_ok [0, 2] [60000] (p0) ?_
      refine awp_ret ?_
      have hE32 : specl09Any code ci ch = (List.set x1.1 (Int.toNat x2.1) ((nth x1.1 (Int.toNat x2.1)).1, (nth x1.1 (Int.toNat x2.1)).2.1, (nth x1.1 (Int.toNat x2.1)).2.2.1, (nth x1.1 (Int.toNat x2.1)).2.2.2.1, x28.1), x28.2.1, x28.2.2) := lt_b hx1 (lt_b hx2 (lt_b hx3 (bif_f h4 (bif_f h10 (bif_f h16 (bif_f h22 (bif_t h27 (lt_b hx28 (rfl)))))))))
      exact gret [] (congrArg (fun z => (.o 0 z.1 : AV)) hE32.symm) (congrArg (fun z => ([.h code, .i ((z.2.1 : Nat) : Int), .i z.2.2] : List C)) hE32.symm)
     ·
      refine sn tt_ok [0, 2, 3, 56] [60000] (p0) ?_
      refine ck (x3.1 == (5 : Int)) (fun h33 => ?_) (fun h33 => ?_)
      ·
       refine qn tt_ok [0, 2, 3] [60000] (p0) ?_
       refine tu tt_ok [] [3, 4, 12, 48] [] [] (p0) ?_
       refine opn [(false, 2, 0, true, 384000, 7)] ?_
       refine awp_ret ?_
       have hE34 : specl09Any code ci ch = ([], x3.2.1, x3.2.2) := lt_b hx1 (lt_b hx2 (lt_b hx3 (bif_f h4 (bif_f h10 (bif_f h16 (bif_f h22 (bif_f h27 (bif_t h33 (rfl)))))))))
       exact gret [] (congrArg (fun z => (.o 0 z.1 : AV)) hE34.symm) (congrArg (fun z => ([.h code, .i ((z.2.1 : Nat) : Int), .i z.2.2] : List C)) hE34.symm)
      ·
       refine awp_skip ?_
       refine tn tt_ok [0, 2] [60000] (p0) ?_
       refine awp_ret ?_
       have hE35 : specl09Any code ci ch = (x1.1, x3.2.1, x3.2.2) := lt_b hx1 (lt_b hx2 (lt_b hx3 (bif_f h4 (bif_f h10 (bif_f h16 (bif_f h22 (bif_f h27 (bif_f h33 (rfl)))))))))
       exact gret [] (congrArg (fun z => (.o 0 z.1 : AV)) hE35.symm) (congrArg (fun z => ([.h code, .i ((z.2.1 : Nat) : Int), .i z.2.2] : List C)) hE35.symm)
def specl11Any_f0 (code : (List UInt8)) (s0 : (List DirD) × Nat × Int) : Rd ((List DirD) × Nat × Int) ((List DirD) × Nat × Int) ((List DirD) × Nat × Int) := (lt (α := Int × Nat × Int) (specl01Below code s0.2.1 s0.2.2 2) (fun x17 => (bif decide ((s0.1.length : Int) < (5 + x17.1)) then (lt (α := (List NodeD) × Nat × Int) (specl09Question code x17.2.1 x17.2.2) (fun x20 => (.next (s0.1 ++ [((nth ([⟨#[100, 97]⟩, ⟨#[100, 98]⟩, ⟨#[100, 99]⟩, ⟨#[100, 100]⟩, ⟨#[100, 101]⟩, ⟨#[100, 102]⟩] : (List ByteArray)) (Int.toNat (s0.1.length : Int))), x20.1)], x20.2.1, x20.2.2)))) else (.brk (s0.1, x17.2.1, x17.2.2)))))
def specl11Any (code : (List UInt8)) (ci : Nat) (ch : Int) : (List DirD) × Nat × Int := (lt (α := (List DirD) × Nat × Int) (specl11Dirs code ci ch) (fun x1 => (lt (α := Int × Nat × Int) (specl01Below code x1.2.1 x1.2.2 (x1.1.length : Int)) (fun x2 => (lt (α := Int × Nat × Int) (specl01Below code x2.2.1 x2.2.2 10) (fun x3 => (bif (x3.1 == (0 : Int)) then (lt (α := ByteArray × Nat × Int) (specl01Pick code x3.2.1 x3.2.2 [⟨#[]⟩, ⟨#[65]⟩, ⟨#[122, 122]⟩, ⟨#[97, 98, 99, 100, 101, 102, 103]⟩]) (fun x5 => (List.set x1.1 (Int.toNat x2.1) (x5.1, (nth x1.1 (Int.toNat x2.1)).2), x5.2.1, x5.2.2))) else (bif (x3.1 == (1 : Int)) then (lt (α := (List NodeD) × Nat × Int) (specl09Any code x3.2.1 x3.2.2) (fun x11 => (List.set x1.1 (Int.toNat x2.1) ((nth x1.1 (Int.toNat x2.1)).1, x11.1), x11.2.1, x11.2.2))) else (bif (x3.1 == (2 : Int)) then (Out.on (whlD (specl11Any_f0 code) 7 (x1.1, x3.2.1, x3.2.2)) (fun y0 => (y0.1, y0.2.1, y0.2.2))) else (bif (x3.1 == (3 : Int)) then ([], x3.2.1, x3.2.2) else (x1.1, x3.2.1, x3.2.2)))))))))))
theorem specl11Any_w (code : List UInt8) (d : List DirD) (ci : Nat) (ch : Int) : (whl (specl11Any_f0 code) 7 (d, ci, ch)).isSome = true :=
  whl_upI (fun _ => True) (fun s => (s.1.length : Int)) 6 (fun s s' _ h => by
    unfold specl11Any_f0 lt at h
    have hb := specl01Below_bd code s.2.1 s.2.2 2
    generalize specl01Below code s.2.1 s.2.2 2 = x at h hb
    by_cases hc : (s.1.length : Int) < 5 + x.1
    · simp only [decide_eq_true hc, cond_true] at h
      have h := Rd.next.inj h
      rw [← h]
      refine ⟨by omega, by simp, trivial⟩
    · simp only [decide_eq_false hc, cond_false] at h
      cases h) 6 _ trivial (by show (6 : Int) ≤ (d.length : Int) + 6; omega)
theorem specl11Any_a (code : (List UInt8)) (ci : Nat) (ch : Int) : AGive Try.prog 105 [.h code, .i ((ci : Nat) : Int), .i ch] [] (.o 0 (((specl11Any code ci ch)).1)) [.h code, .i ((((specl11Any code ci ch)).2.1 : Nat) : Int), .i (((specl11Any code ci ch)).2.2)] := by
 refine agive_of (tt := tt) tt_ok Try.func105 (fn := Try.f105) rfl (by unfold FnOk; kernel_rfl) (Nat.le_of_ble_eq_true rfl) (Nat.le_of_ble_eq_true rfl) rfl rfl fun w0 F0 hG => ?_
 refine sn tt_ok [0, 2] [60000] (p0) ?_
 obtain ⟨x1, hx1⟩ : ∃ z : (List DirD) × Nat × Int, specl11Dirs code ci ch = z := ⟨_, rfl⟩
 have hlx1 := l11_len code ci ch
 rw [hx1] at hlx1
 refine tn tt_ok [0, 2, 3] [60000] (po 1 (.give none (.o 0 x1.1) [.h code, .i ((x1.2.1 : Nat) : Int), .i x1.2.2]) (px (ob_give (hx1 ▸ specl11Dirs_a code ci ch)) p0)) ?_
 obtain ⟨x2, hx2⟩ : ∃ z : Int × Nat × Int, specl01Below code x1.2.1 x1.2.2 (x1.1.length : Int) = z := ⟨_, rfl⟩
 have hbx2 := hx2 ▸ specl01Below_bd code x1.2.1 x1.2.2 (x1.1.length : Int)
 refine tu tt_ok [(2, .e 0), (3, .o 384 x1.1), (4, .i x2.1)] [] [(60000, [.h code, .i ((x2.2.1 : Nat) : Int), .i x2.2.2])] [60000] (pl 2 x1.1 (po 3 (.give none (.i x2.1) [.h code, .i ((x2.2.1 : Nat) : Int), .i x2.2.2]) (px (ob_give (hx2 ▸ specl01Below_a code x1.2.1 x1.2.2 (x1.1.length : Int))) p0))) ?_
 refine awp_seq ?_
 obtain ⟨x3, hx3⟩ : ∃ z : Int × Nat × Int, specl01Below code x2.2.1 x2.2.2 10 = z := ⟨_, rfl⟩
 have hbx3 := hx3 ▸ specl01Below_bd code x2.2.1 x2.2.2 10
 refine sn tt_ok [0, 2, 3, 4, 12] [60000] (po 1 (.give none (.i x3.1) [.h code, .i ((x3.2.1 : Nat) : Int), .i x3.2.2]) (px (ob_give (hx3 ▸ specl01Below_a code x2.2.1 x2.2.2 10)) p0)) ?_
 refine awp_block ?_
 refine tn tt_ok [0, 2, 3, 4, 12, 13] [60000] (p0) ?_
 refine ck (x3.1 == (0 : Int)) (fun h4 => ?_) (fun h4 => ?_)
 ·
  have h4d := eq_of_beq h4
  obtain ⟨x5, hx5⟩ : ∃ z : ByteArray × Nat × Int, specl01Pick code x3.2.1 x3.2.2 [⟨#[]⟩, ⟨#[65]⟩, ⟨#[122, 122]⟩, ⟨#[97, 98, 99, 100, 101, 102, 103]⟩] = z := ⟨_, rfl⟩
  refine wT 3 0 (.own true 384) x1.1 (fun hw7 hl8 => ?_)
  have hx6 := ng x1.1 (Int.toNat x2.1)
  refine qu tt_ok [(3, .one (.slc (.own true 384) 2 (setRow (eL x1.1) (Int.toNat x2.1) 0 [.s x5.1])))] [3, 4] [(60000, [.h code, .i ((x5.2.1 : Nat) : Int), .i x5.2.2])] [60000] (po 4 (.give none (.s x5.1) [.h code, .i ((x5.2.1 : Nat) : Int), .i x5.2.2]) (px (ob_give (hx5 ▸ specl01Pick_a code x3.2.1 x3.2.2 [⟨#[]⟩, ⟨#[65]⟩, ⟨#[122, 122]⟩, ⟨#[97, 98, 99, 100, 101, 102, 103]⟩] (Nat.zero_lt_succ _))) (pG 5 x2.1 hx6 p0))) ?_
  refine eqn [(3, .o 384 (List.set x1.1 (Int.toNat x2.1) (x5.1, (nth x1.1 (Int.toNat x2.1)).2)))] [3] [] [] (by rw [setRow_eL (y := (x5.1, (nth x1.1 (Int.toNat x2.1)).2)) hx6 rfl]; first | done | kernel_rfl) ?_
  refine sn tt_ok [0, 2] [60000] (p0) ?_
  refine awp_ret ?_
  have hE9 : specl11Any code ci ch = (List.set x1.1 (Int.toNat x2.1) (x5.1, (nth x1.1 (Int.toNat x2.1)).2), x5.2.1, x5.2.2) := lt_b hx1 (lt_b hx2 (lt_b hx3 (bif_t h4 (lt_b hx5 (rfl)))))
  exact gret [] (congrArg (fun z => (.o 0 z.1 : AV)) hE9.symm) (congrArg (fun z => ([.h code, .i ((z.2.1 : Nat) : Int), .i z.2.2] : List C)) hE9.symm)
 ·
  have h4d := ne_of_beq h4
  refine tu tt_ok [(12, .i x3.1), (22, .b (x3.1 == (1 : Int)))] [] [(60000, [.h code, .i ((x3.2.1 : Nat) : Int), .i x3.2.2])] [60000] (p0) ?_
  refine ck (x3.1 == (1 : Int)) (fun h10 => ?_) (fun h10 => ?_)
  ·
   have h10d := eq_of_beq h10
   obtain ⟨x11, hx11⟩ : ∃ z : (List NodeD) × Nat × Int, specl09Any code x3.2.1 x3.2.2 = z := ⟨_, rfl⟩
   refine wT 3 0 (.own true 384) x1.1 (fun hw13 hl14 => ?_)
   have hx12 := ng x1.1 (Int.toNat x2.1)
   refine ru tt_ok [(3, .one (.slc (.own true 384) 2 (setRow (eL x1.1) (Int.toNat x2.1) 1 [.h x11.1])))] [3, 4, 12, 22] [(60000, [.h code, .i ((x11.2.1 : Nat) : Int), .i x11.2.2])] [60000] (po 3 (.give none (.o 0 x11.1) [.h code, .i ((x11.2.1 : Nat) : Int), .i x11.2.2]) (px (ob_give (hx11 ▸ specl09Any_a code x3.2.1 x3.2.2)) (pG 4 x2.1 hx12 p0))) ?_
   refine eqn [(3, .o 384 (List.set x1.1 (Int.toNat x2.1) ((nth x1.1 (Int.toNat x2.1)).1, x11.1)))] [3] [] [] (by rw [setRow_eL (y := ((nth x1.1 (Int.toNat x2.1)).1, x11.1)) hx12 rfl]; first | done | kernel_rfl) ?_
   refine sn tt_ok [0, 2] [60000] (p0) ?_
   refine awp_ret ?_
   have hE15 : specl11Any code ci ch = (List.set x1.1 (Int.toNat x2.1) ((nth x1.1 (Int.toNat x2.1)).1, x11.1), x11.2.1, x11.2.2) := lt_b hx1 (lt_b hx2 (lt_b hx3 (bif_f h4 (bif_t h10 (lt_b hx11 (rfl))))))
   exact gret [] (congrArg (fun z => (.o 0 z.1 : AV)) hE15.symm) (congrArg (fun z => ([.h code, .i ((z.2.1 : Nat) : Int), .i z.2.2] : List C)) hE15.symm)
  ·
   have h10d := ne_of_beq h10
   refine sn tt_ok [0, 2, 3, 12, 30] [60000] (p0) ?_
   refine ck (x3.1 == (2 : Int)) (fun h16 => ?_) (fun h16 => ?_)
   ·
    have h16d := eq_of_beq h16
    refine mz [(30, .b (x3.1 == (2 : Int)))] [4, 22] [] [] ?_
    refine blw (fun (s0 : (List DirD) × Nat × Int) => [(3, .o 147202 s0.1)]) [3, 12, 30] (fun s0 => [(60000, [.h code, .i ((s0.2.1 : Nat) : Int), .i s0.2.2])]) [60000] (fun (y0 : (List DirD) × Nat × Int) => [(3, .o 147352 y0.1)]) [3, 12, 30] (fun y0 => [(60000, [.h code, .i ((y0.2.1 : Nat) : Int), .i y0.2.2])]) [60000] (fun (k0 : Nat) (s0 : (List DirD) × Nat × Int) => whl (specl11Any_f0 code) k0 s0 = some (whlD (specl11Any_f0 code) 7 (x1.1, x3.2.1, x3.2.2))) (fun (y0 : (List DirD) × Nat × Int) => (whlD (specl11Any_f0 code) 7 (x1.1, x3.2.1, x3.2.2)) = .brk y0) 7 (x1.1, x3.2.1, x3.2.2) (weak_sf [(384, 147202)] (by kernel_rfl)) (whl_some (specl11Any_w code _ _ _)) (fun _ h => whl_zero h) (fun k0 s0 hI0 => ?_) (fun y0 hD0 => ?_)
    ·
     refine awp_seq ?_
     obtain ⟨x17, hx17⟩ : ∃ z : Int × Nat × Int, specl01Below code s0.2.1 s0.2.2 2 = z := ⟨_, rfl⟩
     have hbx17 := hx17 ▸ specl01Below_bd code s0.2.1 s0.2.2 2
     refine sn tt_ok [0, 2, 3, 37] [60000] (pl 1 s0.1 (po 3 (.give none (.i x17.1) [.h code, .i ((x17.2.1 : Nat) : Int), .i x17.2.2]) (px (ob_give (hx17 ▸ specl01Below_a code s0.2.1 s0.2.2 2)) (pe 4 (av_i (IntWalk.i64_in (5 + x17.1) (by omega))) p0)))) ?_
     refine ck (decide ((s0.1.length : Int) < (5 + x17.1))) (fun h18 => ?_) (fun h18 => ?_)
     ·
      have h18d := of_decide_eq_true h18
      refine awp_skip ?_
      refine awp_block ?_
      have hx19 := ng ([⟨#[100, 97]⟩, ⟨#[100, 98]⟩, ⟨#[100, 99]⟩, ⟨#[100, 100]⟩, ⟨#[100, 101]⟩, ⟨#[100, 102]⟩] : (List ByteArray)) (Int.toNat (s0.1.length : Int)) (by simp only [List.length_cons, List.length_nil]; omega)
      obtain ⟨x20, hx20⟩ : ∃ z : (List NodeD) × Nat × Int, specl09Question code x17.2.1 x17.2.2 = z := ⟨_, rfl⟩
      have hbx20 := hx20 ▸ ques_len code x17.2.1 x17.2.2
      refine wT 3 0 (.own true 147202) s0.1 (fun hw21 hl22 => ?_)
      refine qU tt_ok tt_mx [(3, .one (.slc (.own true 3072) 2 ((eL s0.1) ++ [[.s (nth ([⟨#[100, 97]⟩, ⟨#[100, 98]⟩, ⟨#[100, 99]⟩, ⟨#[100, 100]⟩, ⟨#[100, 101]⟩, ⟨#[100, 102]⟩] : (List ByteArray)) (Int.toNat (s0.1.length : Int))), .h x20.1]])))] [3] [(60000, [.h code, .i ((x20.2.1 : Nat) : Int), .i x20.2.2])] [60000] (pl 3 s0.1 (pG 4 (s0.1.length : Int) hx19 (po 7 (.give none (.o 0 x20.1) [.h code, .i ((x20.2.1 : Nat) : Int), .i x20.2.2]) (px (ob_give (hx20 ▸ specl09Question_a code x17.2.1 x17.2.2)) (pa s0.1 [((nth ([⟨#[100, 97]⟩, ⟨#[100, 98]⟩, ⟨#[100, 99]⟩, ⟨#[100, 100]⟩, ⟨#[100, 101]⟩, ⟨#[100, 102]⟩] : (List ByteArray)) (Int.toNat (s0.1.length : Int))), x20.1)] p0))))) ?_
      exact Exists.intro (s0.1 ++ [((nth ([⟨#[100, 97]⟩, ⟨#[100, 98]⟩, ⟨#[100, 99]⟩, ⟨#[100, 100]⟩, ⟨#[100, 101]⟩, ⟨#[100, 102]⟩] : (List ByteArray)) (Int.toNat (s0.1.length : Int))), x20.1)], x20.2.1, x20.2.2) (And.intro (weak_sf [(3072, 147202)] (by rw [show ((eL s0.1) ++ [[.s (nth ([⟨#[100, 97]⟩, ⟨#[100, 98]⟩, ⟨#[100, 99]⟩, ⟨#[100, 100]⟩, ⟨#[100, 101]⟩, ⟨#[100, 102]⟩] : (List ByteArray)) (Int.toNat (s0.1.length : Int))), .h x20.1]]) = (eL (s0.1 ++ [((nth ([⟨#[100, 97]⟩, ⟨#[100, 98]⟩, ⟨#[100, 99]⟩, ⟨#[100, 100]⟩, ⟨#[100, 101]⟩, ⟨#[100, 102]⟩] : (List ByteArray)) (Int.toNat (s0.1.length : Int))), x20.1)])) from app_eL (rfl) (rfl)]; first | done | kernel_rfl)) (wn hI0 (lt_b hx17 (bif_t h18 (lt_b hx20 (rfl))))))
     ·
      refine awp_exit ?_
      exact Exists.intro (s0.1, x17.2.1, x17.2.2) (And.intro (weak_sf [(147202, 147352)] (by kernel_rfl)) (wb hI0 (lt_b hx17 (bif_f h18 (rfl)))))
    ·
     refine sn tt_ok [0, 2] [60000] (p0) ?_
     refine awp_ret ?_
     have hE23 : specl11Any code ci ch = (y0.1, y0.2.1, y0.2.2) := lt_b hx1 (lt_b hx2 (lt_b hx3 (bif_f h4 (bif_f h10 (bif_t h16 (on_b hD0 (rfl)))))))
     exact gret [] (congrArg (fun z => (.o 0 z.1 : AV)) hE23.symm) (congrArg (fun z => ([.h code, .i ((z.2.1 : Nat) : Int), .i z.2.2] : List C)) hE23.symm)
   ·
    refine tn tt_ok [0, 2, 3, 49] [60000] (p0) ?_
    refine ck (x3.1 == (3 : Int)) (fun h24 => ?_) (fun h24 => ?_)
    ·
     refine qu tt_ok [(3, .e 0)] [3, 4, 12, 22] [] [] (p0) ?_
     refine su tt_ok [] [3] [] [] (p0) ?_
     refine opn [(false, 2, 0, true, 384000, 2)] ?_
     refine awp_ret ?_
     have hE25 : specl11Any code ci ch = ([], x3.2.1, x3.2.2) := lt_b hx1 (lt_b hx2 (lt_b hx3 (bif_f h4 (bif_f h10 (bif_f h16 (bif_t h24 (rfl)))))))
     exact gret [] (congrArg (fun z => (.o 0 z.1 : AV)) hE25.symm) (congrArg (fun z => ([.h code, .i ((z.2.1 : Nat) : Int), .i z.2.2] : List C)) hE25.symm)
    ·
     refine awp_skip ?_
     refine tu tt_ok [(2, .o 384 x1.1)] [2, 3, 4, 12, 22] [] [] (p0) ?_
     refine awp_ret ?_
     have hE26 : specl11Any code ci ch = (x1.1, x3.2.1, x3.2.2) := lt_b hx1 (lt_b hx2 (lt_b hx3 (bif_f h4 (bif_f h10 (bif_f h16 (bif_f h24 (rfl)))))))
     exact gret [] (congrArg (fun z => (.o 0 z.1 : AV)) hE26.symm) (congrArg (fun z => ([.h code, .i ((z.2.1 : Nat) : Int), .i z.2.2] : List C)) hE26.symm)
open GoE (enc wide)
def implCheckStep (c : CatalogD) (k_ : CheckD) : CheckD × Bool := (bif (!(implwithin k_.1 0 ((c.2.1.length : Int) - 1))) then (k_, false) else (bif (!(slicesEqual_int (implResultIDs c.2.2 ((nth c.2.1 (Int.toNat k_.1)).1)) (implSelectFiles c.1 ((nth c.2.1 (Int.toNat k_.1)).2) c.2.2))) then ((IntKind.i64.wrap (k_.1 + 1), k_.2 ++ [(nth c.2.1 (Int.toNat k_.1)).1]), true) else ((IntKind.i64.wrap (k_.1 + 1), k_.2), true)))
theorem implCheckStep_a (c : CatalogD) (k_ : CheckD) (hp : k_.1 < (c.2.1.length : Int) → (k_.2.length : Int) < 1073741824) : ACalls Try.prog 39 [.a [.h c.1.1, .h c.1.2.1, .i c.1.2.2, .h c.2.1, .h c.2.2], .a [.i k_.1, .h k_.2]] (.tup [(true, [.i ((((implCheckStep c k_)).1).1), .o 0 ((((implCheckStep c k_)).1).2)]), (false, [.b (((implCheckStep c k_)).2)])]) := by
 refine en tt_ok Try.func39 fun w0 F0 hG => ?_
 refine sn tt_ok [2, 3, 4, 5] [2, 3, 4] (p0) ?_
 refine tN tt_ok tt_mx [2, 3, 4, 5, 6] [2, 3, 4, 6] (pc 4 (cloneString_a k_.2) p0) ?_
 refine awp_seq ?_
 refine wB 2 3 .sh c.2.1 (fun hw1 hl2 => ?_)
 refine tu tt_ok [(2, .p 2 0), (3, .p 3 0), (4, .p 4 0), (5, .b false), (6, .p 6 0), (21, .b (!(implwithin k_.1 0 ((c.2.1.length : Int) - 1))))] [0, 1] [(2, [.h c.1.1, .h c.1.2.1, .i c.1.2.2, .h c.2.1, .h c.2.2]), (3, [.i k_.1, .h k_.2]), (4, [.i 0, .e 1]), (6, [.i k_.1, .o 768 k_.2])] [] (pl 4 c.2.1 (pe 5 (av_i (IntWalk.i64_in ((c.2.1.length : Int) - 1) (by omega))) (pc 6 (implwithin_a k_.1 0 ((c.2.1.length : Int) - 1)) p0))) ?_
 refine ck (!(implwithin k_.1 0 ((c.2.1.length : Int) - 1))) (fun h3 => ?_) (fun h3 => ?_)
 ·
  refine sn tt_ok [2, 3, 4, 5, 6] [2, 3, 4, 6] (p0) ?_
  refine awp_ret ?_
  exact pz [] (show implCheckStep c k_ = _ from bif_t h3 (rfl)) (fun z => .tup [(true, [.i z.1.1, .o 0 z.1.2]), (false, [.b z.2])])
 ·
  have h3n : (implwithin k_.1 0 ((c.2.1.length : Int) - 1)) = true := bnot_f h3
  have h3nw := within_iff.1 h3n
  refine awp_skip ?_
  have hx4 := ng c.2.1 (Int.toNat k_.1)
  refine sn tt_ok [2, 4, 5, 6, 7] [2, 4, 6, 7] (pg 4 k_.1 hx4 p0) ?_
  refine awp_seq ?_
  refine tN tt_ok tt_mx [4, 5, 6, 7, 42] [4, 6, 7] (pc 4 (implResultIDs_a c.2.2 ((nth c.2.1 (Int.toNat k_.1)).1)) (pc 11 (implSelectFiles_a c.1 ((nth c.2.1 (Int.toNat k_.1)).2) c.2.2) (pc 12 (slicesEqual_int_a (implResultIDs c.2.2 ((nth c.2.1 (Int.toNat k_.1)).1)) (implSelectFiles c.1 ((nth c.2.1 (Int.toNat k_.1)).2) c.2.2)) p0))) ?_
  refine ck (!(slicesEqual_int (implResultIDs c.2.2 ((nth c.2.1 (Int.toNat k_.1)).1)) (implSelectFiles c.1 ((nth c.2.1 (Int.toNat k_.1)).2) c.2.2))) (fun h5 => ?_) (fun h5 => ?_)
  ·
   refine wB 6 1 (.own true 768) k_.2 (fun hw6 hl7 => ?_)
   refine qu tt_ok [] [2, 3, 21] [(6, [.i k_.1, .slc (.own true 3072) 1 ((eL k_.2) ++ [[.s ((nth c.2.1 (Int.toNat k_.1)).1)]])])] [2, 3, 6] (pa k_.2 [(nth c.2.1 (Int.toNat k_.1)).1] p0) ?_
   refine eqn [] [] [(6, [.i k_.1, .o 3072 (k_.2 ++ [(nth c.2.1 (Int.toNat k_.1)).1])])] [6] (by rw [show ((eL k_.2) ++ [[.s ((nth c.2.1 (Int.toNat k_.1)).1)]]) = (eL (k_.2 ++ [(nth c.2.1 (Int.toNat k_.1)).1])) from app_eL (rfl) (rfl)]; first | done | kernel_rfl) ?_
   refine sn tt_ok [4, 5, 6] [4, 6] (p0) ?_
   refine tn tt_ok [4, 5] [4] (p0) ?_
   refine awp_ret ?_
   exact pz [] (show implCheckStep c k_ = _ from bif_f h3 (bif_t h5 (rfl))) (fun z => .tup [(true, [.i z.1.1, .o 0 z.1.2]), (false, [.b z.2])])
  ·
   refine awp_skip ?_
   refine tu tt_ok [] [2, 3, 21] [(6, [.i (IntKind.i64.wrap (k_.1 + 1)), .o 768 k_.2])] [2, 3, 6] (p0) ?_
   refine sn tt_ok [4, 5] [4] (p0) ?_
   refine awp_ret ?_
   exact pz [] (show implCheckStep c k_ = _ from bif_f h3 (bif_f h5 (rfl))) (fun z => .tup [(true, [.i z.1.1, .o 0 z.1.2]), (false, [.b z.2])])
def specl11Copy_f0 (_ : Nat) (a0 : DirD) (s0 : (List DirD)) : Rd ((List DirD)) ((List DirD)) ((List DirD)) := (.next (s0 ++ [a0]))
def specl11Copy_e0 (_ : Nat) (s0 : (List DirD)) : (List DirD) := s0
def specl11Copy (d : (List DirD)) : (List DirD) := (Out.on (forL specl11Copy_f0 specl11Copy_e0 d 0 []) (fun y0 => y0))
theorem specl11Copy_a (d : (List DirD)) : ACalls Try.prog 131 [.h d] (.o 0 (specl11Copy d)) := by
 refine en tt_ok Try.func131 fun w0 F0 hG => ?_
 refine sn tt_ok [0, 2] [] (p0) ?_
 refine tn tt_ok [0, 2, 3] [] (p0) ?_
 refine awp_seq ?_
 refine tu tt_ok [(2, .e 0), (3, .one (.slc (.own true 320) 2 [])), (4, .i 0)] [] [] [] (p0) ?_
 refine wT 0 0 .sh d (fun hw1 hl2 => ?_)
 refine blL1 specl11Copy_f0 specl11Copy_e0 d [] (fun k0 s0 => [(3, .o 147202 s0), (4, .i ((k0 : Nat) : Int))]) [3, 4] (fun y0 => [(3, .o 147352 y0)]) [0, 3, 4] (fun k0 s0 => List.length s0 ≤ k0) (weak_sf [(320, 147202)] (by kernel_rfl)) (by simp) (fun k0 s0 hk0 hI0 => ?_) (fun k0 s0 hk0 hI0 => ?_) (fun y0 hD0 => ?_)
 ·
  have hA0_0 := hI0.2
  obtain ⟨a0, hx0⟩ := get_some (l := d) (i := k0) hk0
  refine awp_seq ?_
  refine sn tt_ok [0, 2, 3, 4, 9] [] (pl 2 d (pe 3 (av_bool (decide_eq_true (p := ((k0 : Nat) : Int) < (d.length : Int)) (by omega))) p0)) ?_
  refine ckT ?_
  refine awp_skip ?_
  refine awp_seq ?_
  refine awp_block ?_
  have hl3 : List.length a0.2 ≤ 1073741824 := wide_len (wide_snd (wide_get hx0 (hw1)))
  refine wT 3 0 (.own true 147202) s0 (fun hw4 hl5 => ?_)
  refine qU tt_ok tt_mx [(3, .one (.slc (.own true 1728) 2 ((eL s0) ++ [[.s a0.1, .slc 7 ([] ++ (eL a0.2))]])))] [3] [] [] (pn 3 hx0 (pn 9 hx0 (po 12 (.flat) (px (ob_len (n := (([] : List (List PV)).length + ((eL a0.2) : List (List PV)).length)) (len_of (rfl) (eL_length a0.2) (by first | omega | (simp only [List.length_cons, List.length_nil]; omega) | (simp; omega) | simp))) (px (ob_flat (flat_eL a0.2)) (px (ob_len (n := (((eL s0) : List (List PV)).length + ([[.s a0.1, .slc 7 ([] ++ (eL a0.2))]] : List (List PV)).length)) (len_of (eL_length s0) (rfl) (by first | omega | (simp only [List.length_cons, List.length_nil]; omega) | (simp; omega) | simp))) p0)))))) ?_
  refine eqn [(3, .o 1728 (s0 ++ [a0]))] [3] [] [] (by rw [show ((eL s0) ++ [[.s a0.1, .slc 7 ([] ++ (eL a0.2))]]) = (eL (s0 ++ [a0])) from app_eL (rfl) (rfl)]; first | done | kernel_rfl) ?_
  refine rn tt_ok [0, 2, 3, 4] [] (pe 1 (av_i (wrap_succ k0 (by omega))) p0) ?_
  exact Exists.intro (s0 ++ [a0]) (And.intro (weak_sf [(1728, 147202)] (by kernel_rfl)) ⟨forL_next hx0 (rfl) hI0.1, by first | omega | (simp; omega) | simp⟩)
 ·
  have hA0_0 := hI0.2
  refine awp_seq ?_
  refine sn tt_ok [0, 2, 3, 4, 9] [] (pl 2 d (pe 3 (av_bool (decide_eq_false (p := ((k0 : Nat) : Int) < (d.length : Int)) (by omega))) p0)) ?_
  refine ckF ?_
  refine awp_exit ?_
  exact Exists.intro _ (And.intro (weak_sf [(147202, 147352)] (by kernel_rfl)) (forL_end hk0 (rfl) hI0.1))
 ·
  refine sn tt_ok [2] [] (p0) ?_
  refine awp_ret ?_
  exact po0 [] (on_b hD0 (rfl))
def specNewCatalog (s_ : StoreD) (d : (List DirD)) : CatalogD × Bool := (bif (!(((specEvaluate s_ d)).2)) then ((([], [], 0), [], []), false) else (((specl05Copy s_), (specl11Copy d), ((specEvaluate s_ d)).1), true))
theorem specNewCatalog_a (s_ : StoreD) (d : (List DirD)) : ACalls Try.prog 119 [.a [.h s_.1, .h s_.2.1, .i s_.2.2], .h d] (.tup [(true, [.o 0 ((((specNewCatalog s_ d)).1).1.1), .o 1 ((((specNewCatalog s_ d)).1).1.2.1), .i ((((specNewCatalog s_ d)).1).1.2.2), .o 2 ((((specNewCatalog s_ d)).1).2.1), .o 3 ((((specNewCatalog s_ d)).1).2.2)]), (false, [.b (((specNewCatalog s_ d)).2)])]) := by
 refine en tt_ok Try.func119 fun w0 F0 hG => ?_
 refine sn tt_ok [1, 2, 4, 5] [2, 4] (p0) ?_
 refine tn tt_ok [1, 2, 4, 5, 6, 7] [2, 4] (pc 2 (specEvaluate_a s_ d) p0) ?_
 refine awp_seq ?_
 refine tu tt_ok [(2, .p 2 0), (4, .p 4 0), (5, .b false), (6, .o 704 (((specEvaluate s_ d)).1)), (15, .b (!(((specEvaluate s_ d)).2)))] [0] [(2, [.h s_.1, .h s_.2.1, .i s_.2.2]), (4, [.e 2, .e 5, .i 0, .e 2, .e 2])] [] (p0) ?_
 refine ck (!(((specEvaluate s_ d)).2)) (fun h1 => ?_) (fun h1 => ?_)
 ·
  refine su tt_ok [] [15] [] [] (p0) ?_
  refine opn [(true, 4, 0, true, 384000, 2), (true, 4, 1, true, 384001, 5), (true, 4, 3, true, 384002, 2), (true, 4, 4, true, 384003, 2)] ?_
  refine awp_ret ?_
  exact pz [] (show specNewCatalog s_ d = _ from bif_t h1 (rfl)) (fun z => .tup [(true, [.o 0 z.1.1.1, .o 1 z.1.1.2.1, .i z.1.1.2.2, .o 2 z.1.2.1, .o 3 z.1.2.2]), (false, [.b z.2])])
 ·
  refine awp_skip ?_
  refine sn tt_ok [4, 5] [4] (pc 1 (specl05Copy_a s_) (pc 3 (specl11Copy_a d) p0)) ?_
  refine awp_ret ?_
  exact pz [] (show specNewCatalog s_ d = _ from bif_f h1 (rfl)) (fun z => .tup [(true, [.o 0 z.1.1.1, .o 1 z.1.1.2.1, .i z.1.1.2.2, .o 2 z.1.2.1, .o 3 z.1.2.2]), (false, [.b z.2])])
def specl19Live (code : (List UInt8)) (ci : Nat) (ch : Int) : CatalogD × Nat × Int := (lt (α := StoreD × Nat × Int) (specl05Store code ci ch) (fun x1 => (lt (α := (List DirD) × Nat × Int) (specl13Dirs code x1.2.1 x1.2.2) (fun x2 => ((((specNewCatalog x1.1 x2.1)).1), x2.2.1, x2.2.2)))))
theorem specl19Live_a (code : (List UInt8)) (ci : Nat) (ch : Int) : AGive Try.prog 103 [.h code, .i ((ci : Nat) : Int), .i ch] [] (.a [.o 0 ((((specl19Live code ci ch)).1).1.1), .o 1 ((((specl19Live code ci ch)).1).1.2.1), .i ((((specl19Live code ci ch)).1).1.2.2), .o 2 ((((specl19Live code ci ch)).1).2.1), .o 3 ((((specl19Live code ci ch)).1).2.2)]) [.h code, .i ((((specl19Live code ci ch)).2.1 : Nat) : Int), .i (((specl19Live code ci ch)).2.2)] := by
 refine agive_of (tt := tt) tt_ok Try.func103 (fn := Try.f103) rfl (by unfold FnOk; kernel_rfl) (Nat.le_of_ble_eq_true rfl) (Nat.le_of_ble_eq_true rfl) rfl rfl fun w0 F0 hG => ?_
 refine sn tt_ok [0, 2] [2, 60000] (p0) ?_
 obtain ⟨x1, hx1⟩ : ∃ z : StoreD × Nat × Int, specl05Store code ci ch = z := ⟨_, rfl⟩
 obtain ⟨x2, hx2⟩ : ∃ z : (List DirD) × Nat × Int, specl13Dirs code x1.2.1 x1.2.2 = z := ⟨_, rfl⟩
 have hbx2 := hx2 ▸ l13_ne code x1.2.1 x1.2.2
 refine tn tt_ok [0, 2, 3] [2, 3, 60000] (po 1 (.give none (.a [.o 0 x1.1.1, .q 1 x1.1.2.1, .i x1.1.2.2]) [.h code, .i ((x1.2.1 : Nat) : Int), .i x1.2.2]) (px (ob_give (hx1 ▸ specl05Store_a code ci ch)) (po 3 (.give none (.h x2.1) [.h code, .i ((x2.2.1 : Nat) : Int), .i x2.2.2]) (px (ob_give (hx2 ▸ specl13Dirs_a code x1.2.1 x1.2.2)) (pc 4 (specNewCatalog_a x1.1 x2.1) p0))))) ?_
 refine tu tt_ok [(2, .p 2 0)] [] [(2, [.o 640 ((((specNewCatalog x1.1 x2.1)).1).1.1), .o 641 ((((specNewCatalog x1.1 x2.1)).1).1.2.1), .i ((((specNewCatalog x1.1 x2.1)).1).1.2.2), .o 642 ((((specNewCatalog x1.1 x2.1)).1).2.1), .o 643 ((((specNewCatalog x1.1 x2.1)).1).2.2)]), (60000, [.h code, .i ((x2.2.1 : Nat) : Int), .i x2.2.2])] [60000] (p0) ?_
 refine awp_ret ?_
 have hE3 : specl19Live code ci ch = ((((specNewCatalog x1.1 x2.1)).1), x2.2.1, x2.2.2) := lt_b hx1 (lt_b hx2 (rfl))
 exact gret [] (congrArg (fun z => (.a [.o 0 z.1.1.1, .o 1 z.1.1.2.1, .i z.1.1.2.2, .o 2 z.1.2.1, .o 3 z.1.2.2] : AV)) hE3.symm) (congrArg (fun z => ([.h code, .i ((z.2.1 : Nat) : Int), .i z.2.2] : List C)) hE3.symm)
end Go.Proofs.Ytcnkkobgogmakaa
namespace Go.Proofs.Ytcnkkobgogmakaa
open Go.RowKit
theorem implCheckStep_inv {c : CatalogD} {k : CheckD} (hl : c.2.1.length ≤ 1073741824) (h : 0 ≤ k.1 ∧ k.1 ≤ (c.2.1.length : Int) ∧ (k.2.length : Int) ≤ k.1) :
    (0 ≤ (implCheckStep c k).1.1 ∧ (implCheckStep c k).1.1 ≤ (c.2.1.length : Int) ∧ ((implCheckStep c k).1.2.length : Int) ≤ (implCheckStep c k).1.1) ∧ ((implCheckStep c k).2 = true → (implCheckStep c k).1.1 = k.1 + 1 ∧ k.1 < (c.2.1.length : Int)) := by
  have hw : IntKind.i64.wrap (k.1 + 1) = k.1 + 1 := IntWalk.i64_in _ (by omega)
  unfold implCheckStep
  rw [hw]
  cases hc : implwithin k.1 0 ((c.2.1.length : Int) - 1) with
  | false => exact ⟨h, by simp⟩
  | true =>
    have := within_iff.1 hc
    generalize (slicesEqual_int _ _ : Bool) = b
    cases b with
    | false => simp; omega
    | true => simp; omega
theorem checkAll_w {c : CatalogD} {f : Bool × CheckD → Rd (List ByteArray) (Bool × CheckD) CheckD} (hl : c.2.1.length ≤ 1073741824) (hf : ∀ s, f s = (bif s.1 then .next ((implCheckStep c s.2).2, (implCheckStep c s.2).1) else .brk s.2) := by exact fun _ => rfl) :
    (whl f (List.length c.2.1 + 2) (true, ((0 : Int), ([] : List ByteArray)))).isSome = true := by
  have key : ∀ (n : Nat) (k : CheckD), (0 ≤ k.1 ∧ k.1 ≤ (c.2.1.length : Int) ∧ (k.2.length : Int) ≤ k.1) → (c.2.1.length : Int) - k.1 ≤ n → (whl f (n + 2) (true, k)).isSome = true := by
    intro n
    induction n with
    | zero =>
      intro k hk hn
      obtain ⟨_, h2⟩ := implCheckStep_inv hl hk
      simp only [whl, hf, cond_true]
      cases hb : (implCheckStep c k).2 with
      | false => rfl
      | true => have := h2 hb; omega
    | succ n ih =>
      intro k hk hn
      obtain ⟨h1, h2⟩ := implCheckStep_inv hl hk
      rw [show n + 1 + 2 = (n + 2) + 1 by omega, whl, hf]
      simp only [cond_true]
      cases hb : (implCheckStep c k).2 with
      | false => rw [whl, hf]; rfl
      | true => exact ih _ h1 (by have := h2 hb; omega)
  exact key _ _ (by simp) (by simp)
theorem evaluate_yes {s : StoreD} {d : List DirD} (hs : ((implStrata d)).2 = true) (hv : implIsValidStore s = true) : (implEvaluate s d).2 = true := by
  unfold implEvaluate implevaluated
  rw [hs, hv]
  simp only [Bool.not_true, Bool.or_false, cond_false]
  obtain ⟨h1, h2⟩ := ev_start (L := ((implStrata d)).1) (on := onD d (implDirNames d)) (fs := s.2.1) (g := startG [] (implDirNames d)) (f := implevaluated_f0 [] (implDirNames d)) (e := implevaluated_e0) (d := d) (fun k a s => by
    unfold implevaluated_f0 startG
    cases slicesContains_string (implDirNames d) a.1 <;> rfl) (fun j _ hj => by unfold onD at hj; unfold startG; rw [hj]; rfl)
  rw [h1]
  have key : ∀ (n k : Nat) (o : List ResultD) (p : Int), EvS d ((implStrata d)).1 (onD d (implDirNames d)) s.2.1 (((k : Nat)) : Int) o → ∃ o' p', forN (implevaluated_f1 s d (implDirNames d)) implevaluated_e1 n k (o, p) = .brk (o', p') ∧ EvS d ((implStrata d)).1 (onD d (implDirNames d)) s.2.1 (((k + n : Nat)) : Int) o' := by
    intro n
    induction n with
    | zero => intro k o p ho; exact ⟨o, p, rfl, ho⟩
    | succ n ih =>
      intro k o p ho
      obtain ⟨o1, p1, g1, g2⟩ := evaluated_run (p := p) hs ho
      obtain ⟨o2, p2, g3, g4⟩ := ih (k + 1) o1 p1 (by rw [Int.natCast_add]; exact g2)
      refine ⟨o2, p2, ?_, by rw [show k + (n + 1) = k + 1 + n by omega]; exact g4⟩
      simp only [forN]
      unfold implevaluated_f1 whlD
      rw [g1]
      exact g3
  obtain ⟨o, p, g1, g2⟩ := key (Int.toNat (implMaxStratum d + 1)) 0 _ 0 h2
  simp only [Out.on, implevaluated_e0]
  rw [g1]
theorem results_len {s : StoreD} {d : List DirD} (h : (implEvaluate s d).2 = true) : (implEvaluate s d).1.length = d.length := by
  have := congrArg List.length (evaluate_ok h).2.2.1
  simpa using this
theorem l13_strat (code : List UInt8) (ci : Nat) (ch : Int) : specIsStratified (specl13Dirs code ci ch).1 = true := by
  unfold specl13Dirs lt
  generalize specl11Dirs code ci ch = x
  obtain ⟨t, ht⟩ := whlD_brk (f := specl13Dirs_f0) (fun s r => by
    unfold specl13Dirs_f0
    generalize (decide ((s.length : Int) > (0 : Int)) && (!(specIsStratified s))) = c
    cases c <;> simp) (List.length x.1 + 1) x.1
  have hj := whlD_inv (f := specl13Dirs_f0) (I := fun _ => True) (J := fun t => t.length = 0 ∨ specIsStratified t = true) (fun _ _ _ _ => trivial) (fun s t _ h => by
    unfold specl13Dirs_f0 at h
    cases hs : specIsStratified s with
    | true =>
      rw [hs] at h
      simp only [Bool.not_true, Bool.and_false, cond_false] at h
      have h := Rd.brk.inj h
      rw [← h]; exact .inr hs
    | false =>
      rw [hs] at h
      by_cases h0 : (s.length : Int) > 0
      · rw [decide_eq_true h0] at h; simp at h
      · rw [decide_eq_false h0] at h
        simp only [Bool.false_and, cond_false] at h
        have h := Rd.brk.inj h
        rw [← h]; exact .inl (by omega)) (n := List.length x.1 + 1) (s := x.1) (t := t) trivial (specl13Dirs_w code x.1) ht
  simp only [ht, Out.on]
  by_cases h0 : (t.length : Int) = 0
  · rw [beq_iff_eq.2 h0]
    show specIsStratified [((⟨#[100, 97]⟩, [((1, 0, 0, ⟨#[]⟩, (0, 0, ⟨#[]⟩)) : NodeD)]) : DirD)] = true
    kernel_rfl
  · rw [beq_eq_false_iff_ne.2 h0]
    show specIsStratified t = true
    exact hj.resolve_left (by omega)
theorem l13_len (code : List UInt8) (ci : Nat) (ch : Int) : (specl13Dirs code ci ch).1.length ≤ 4 := by
  unfold specl13Dirs lt
  have h11 := (l11_len code ci ch).2
  generalize specl11Dirs code ci ch = x at h11 ⊢
  obtain ⟨t, ht⟩ := whlD_brk (f := specl13Dirs_f0) (fun s r => by
    unfold specl13Dirs_f0
    generalize (decide ((s.length : Int) > (0 : Int)) && (!(specIsStratified s))) = c
    cases c <;> simp) (List.length x.1 + 1) x.1
  have hj := whlD_inv (f := specl13Dirs_f0) (I := fun s => s.length ≤ 4) (J := fun t => t.length ≤ 4) (fun s s' hi h => by
    unfold specl13Dirs_f0 at h
    revert h
    generalize (decide ((s.length : Int) > (0 : Int)) && (!(specIsStratified s))) = c
    intro h
    cases c with
    | true =>
      simp only [cond_true] at h
      have h := Rd.next.inj h
      rw [← h, List.length_take]
      omega
    | false => simp at h) (fun s t hi h => by
    unfold specl13Dirs_f0 at h
    revert h
    generalize (decide ((s.length : Int) > (0 : Int)) && (!(specIsStratified s))) = c
    intro h
    cases c with
    | true => simp at h
    | false =>
      simp only [cond_false] at h
      have h := Rd.brk.inj h
      rw [← h]; exact hi) (n := List.length x.1 + 1) (s := x.1) (t := t) h11 (specl13Dirs_w code x.1) ht
  simp only [ht, Out.on]
  cases ((t.length : Int) == 0) with
  | true => show (1 : Nat) ≤ 4; decide
  | false => exact hj
theorem copy11 (d : List DirD) : specl11Copy d = d := by
  unfold specl11Copy
  rw [forL_map (f := specl11Copy_f0) (e := specl11Copy_e0) (g := id) (fun _ _ _ => rfl), List.map_id]
  rfl
theorem l19_ne (code : List UInt8) (ci : Nat) (ch : Int) : 0 < (specl19Live code ci ch).1.2.2.length ∧ (specl19Live code ci ch).1.2.1.length ≤ 4 := by
  unfold specl19Live lt
  have h5 := (l05_ok code ci ch).1
  generalize specl05Store code ci ch = x1 at h5 ⊢
  dsimp only
  have hst := l13_strat code x1.2.1 x1.2.2
  have hne := l13_ne code x1.2.1 x1.2.2
  have hle := l13_len code x1.2.1 x1.2.2
  generalize specl13Dirs code x1.2.1 x1.2.2 = x2 at hst hne hle ⊢
  have hs : (implStrata x2.1).2 = true := by rw [← strata_alike]; exact hst
  have he := evaluate_yes (s := x1.1) hs (by rw [← store_eq]; exact vs_valid h5.vs)
  have hl := results_len he
  unfold specNewCatalog
  rw [evaluate_eq, he, copy11]
  simp only [Bool.not_true, cond_false]
  omega
theorem l6 {α : Type} {t : α} {f : α → List DirD × Nat × Int} (k : ∀ x, (f x).1.length ≤ 6) : (lt t f).1.length ≤ 6 := k t
theorem l6q {α : Type} {t : α} {f : α → List DirD × Nat × Int} (Q : α → Prop) (h : Q t) (k : ∀ x, Q x → (f x).1.length ≤ 6) : (lt t f).1.length ≤ 6 := k t h
theorem l11Any_len (code : List UInt8) (ci : Nat) (ch : Int) : (specl11Any code ci ch).1.length ≤ 6 := by
  unfold specl11Any
  have h := (l11_len code ci ch).2
  refine l6q (fun x : List DirD × Nat × Int => x.1.length ≤ 4) h fun x1 h => l6 fun x2 => l6 fun x3 => ?_
  cases (x3.1 == (0 : Int)) with
  | true =>
    simp only [cond_true]
    exact l6 fun x => by dsimp only; rw [List.length_set]; omega
  | false =>
    simp only [cond_false]
    cases (x3.1 == (1 : Int)) with
    | true =>
      simp only [cond_true]
      exact l6 fun x => by dsimp only; rw [List.length_set]; omega
    | false =>
      simp only [cond_false]
      cases (x3.1 == (2 : Int)) with
      | true =>
        simp only [cond_true]
        obtain ⟨t, ht⟩ := whlD_brk (f := specl11Any_f0 code) (fun s r => by
          unfold specl11Any_f0 lt
          dsimp only
          generalize decide (_ < 5 + (specl01Below code s.2.1 s.2.2 2).1) = c
          cases c <;> simp) 7 (x1.1, x3.2.1, x3.2.2)
        have hj := whlD_inv (f := specl11Any_f0 code) (I := fun s => s.1.length ≤ 6) (J := fun t => t.1.length ≤ 6) (fun s s' hi h => by
          unfold specl11Any_f0 lt at h
          have hb := specl01Below_bd code s.2.1 s.2.2 2
          generalize specl01Below code s.2.1 s.2.2 2 = x at h hb
          by_cases hc : (s.1.length : Int) < 5 + x.1
          · simp only [decide_eq_true hc, cond_true] at h
            have h := Rd.next.inj h
            rw [← h]
            dsimp only
            rw [List.length_append, List.length_singleton]
            omega
          · simp only [decide_eq_false hc, cond_false] at h
            cases h) (fun s t hi h => by
          unfold specl11Any_f0 lt at h
          generalize specl01Below code s.2.1 s.2.2 2 = x at h
          by_cases hc : (s.1.length : Int) < 5 + x.1
          · simp only [decide_eq_true hc, cond_true] at h
            cases h
          · simp only [decide_eq_false hc, cond_false] at h
            have h := Rd.brk.inj h
            rw [← h]; exact hi) (n := 7) (s := (x1.1, x3.2.1, x3.2.2)) (t := t) (by dsimp only; omega) (specl11Any_w code _ _ _) ht
        rw [ht]
        exact hj
      | false =>
        simp only [cond_false]
        cases (x3.1 == (3 : Int)) with
        | true => show (0 : Nat) ≤ 6; decide
        | false => show x1.1.length ≤ 6; omega
open GoE (enc wide)
def implNewCheck : CheckD := (0, [])
theorem implNewCheck_a : ACalls Try.prog 38 [] (.a [.i implNewCheck.1, .o 0 implNewCheck.2]) := by
 refine en tt_ok Try.func38 fun w0 F0 hG => ?_
 refine sn tt_ok [0] [0] (p0) ?_
 refine tn tt_ok [0] [0] (p0) ?_
 refine opn [(true, 0, 1, true, 384000, 1)] ?_
 refine awp_ret ?_
 exact pz [] (show implNewCheck = (0, []) from rfl) (fun z => .a [.i z.1, .o 0 z.2])
def implCheckAll_f0 (c : CatalogD) (s0 : Bool × CheckD) : Rd ((List ByteArray)) (Bool × CheckD) (CheckD) := (bif s0.1 then (.next (((implCheckStep c s0.2)).2, (((implCheckStep c s0.2)).1))) else (.brk s0.2))
def implCheckAll (c : CatalogD) : (List ByteArray) := (Out.on (whlD (implCheckAll_f0 c) (List.length c.2.1 + 2) (true, implNewCheck)) (fun y0 => y0.2))
theorem implCheckAll_w (c : CatalogD) (hl : c.2.1.length ≤ 1073741824) : (whl (implCheckAll_f0 c) (List.length c.2.1 + 2) (true, implNewCheck)).isSome = true := checkAll_w hl
theorem implCheckAll_a (c : CatalogD) : ACalls Try.prog 41 [.a [.h c.1.1, .h c.1.2.1, .i c.1.2.2, .h c.2.1, .h c.2.2]] (.o 0 (implCheckAll c)) := by
 refine en tt_ok Try.func41 fun w0 F0 hG => ?_
 refine sn tt_ok [1, 2] [1] (p0) ?_
 refine tn tt_ok [1, 2, 3] [1, 3] (pc 0 (implNewCheck_a) p0) ?_
 refine awp_seq ?_
 refine tu tt_ok [(1, .p 1 0), (2, .e 0), (3, .p 3 0), (4, .b true)] [0] [(1, [.h c.1.1, .h c.1.2.1, .i c.1.2.2, .h c.2.1, .h c.2.2]), (3, [.i implNewCheck.1, .o 320 implNewCheck.2])] [] (p0) ?_
 refine wB 1 3 .sh c.2.1 (fun hw1 hl2 => ?_)
 refine blw (fun (s0 : Bool × CheckD) => [(4, .b s0.1)]) [4] (fun s0 => [(3, [.i s0.2.1, .o 147210 s0.2.2])]) [3] (fun (y0 : CheckD) => []) [1, 4] (fun y0 => [(3, [.i y0.1, .o 147360 y0.2])]) [1, 3] (fun (k0 : Nat) (s0 : Bool × CheckD) => whl (implCheckAll_f0 c) k0 s0 = some (whlD (implCheckAll_f0 c) (List.length c.2.1 + 2) (true, implNewCheck)) ∧ 0 ≤ s0.2.1 ∧ s0.2.1 ≤ (c.2.1.length : Int) ∧ (s0.2.2.length : Int) ≤ s0.2.1) (fun (y0 : CheckD) => (whlD (implCheckAll_f0 c) (List.length c.2.1 + 2) (true, implNewCheck)) = .brk y0) (List.length c.2.1 + 2) (true, implNewCheck) (weak_sf [(320, 147210)] (by kernel_rfl)) ⟨whl_some (implCheckAll_w c hl2), (by simp [implNewCheck]), (by simp [implNewCheck]), (by simp [implNewCheck])⟩ (fun _ h => whl_zero h.1) (fun k0 s0 hI0 => ?_) (fun y0 hD0 => ?_)
 ·
  have hA0_0 := hI0.2.1
  have hA0_1 := hI0.2.2.1
  have hA0_2 := hI0.2.2.2
  refine awp_seq ?_
  refine sn tt_ok [1, 2, 3, 4, 6] [1, 3] (p0) ?_
  refine ck s0.1 (fun h3 => ?_) (fun h3 => ?_)
  ·
   refine awp_skip ?_
   refine awp_block ?_
   refine qn tt_ok [1, 2, 3, 4] [1, 3] (pc 2 (implCheckStep_a c s0.2 (by omega)) p0) ?_
   exact Exists.intro (((implCheckStep c s0.2)).2, (((implCheckStep c s0.2)).1)) (And.intro (weak_sf [(640, 147210)] (by kernel_rfl)) ⟨wn hI0.1 (bif_t h3 (rfl)), (by have hz := implCheckStep_inv (c := c) (k := s0.2) (by omega) (by omega); dsimp only; omega), (by have hz := implCheckStep_inv (c := c) (k := s0.2) (by omega) (by omega); dsimp only; omega), (by have hz := implCheckStep_inv (c := c) (k := s0.2) (by omega) (by omega); dsimp only; omega)⟩)
  ·
   refine awp_exit ?_
   exact Exists.intro _ (And.intro (weak_sf [(147210, 147360)] (by kernel_rfl)) (wb hI0.1 (bif_f h3 (rfl))))
 ·
  refine sn tt_ok [2] [] (p0) ?_
  refine awp_ret ?_
  exact po0 [] (on_b hD0 (rfl))
def specl19Any (code : (List UInt8)) (ci : Nat) (ch : Int) : CatalogD × Nat × Int := (lt (α := CatalogD × Nat × Int) (specl19Live code ci ch) (fun x1 => (lt (α := Int × Nat × Int) (specl01Below code x1.2.1 x1.2.2 12) (fun x2 => (bif (x2.1 == (0 : Int)) then (lt (α := (List Int) × Nat × Int) (specl14Ids code x2.2.1 x2.2.2) (fun x4 => ((x1.1.1, x1.1.2.1, List.set x1.1.2.2 0 ((nth x1.1.2.2 0).1, x4.1)), x4.2.1, x4.2.2))) else (bif (x2.1 == (1 : Int)) then (lt (α := (List DirD) × Nat × Int) (specl11Any code x2.2.1 x2.2.2) (fun x10 => ((x1.1.1, x10.1, x1.1.2.2), x10.2.1, x10.2.2))) else (bif (x2.1 == (2 : Int)) then (lt (α := StoreD × Nat × Int) (specl05Any code x2.2.1 x2.2.2) (fun x13 => ((x13.1, x1.1.2.1, x1.1.2.2), x13.2.1, x13.2.2))) else (x1.1, x2.2.1, x2.2.2))))))))
theorem specl19Any_a (code : (List UInt8)) (ci : Nat) (ch : Int) : AGive Try.prog 69 [.h code, .i ((ci : Nat) : Int), .i ch] [] (.a [.h ((((specl19Any code ci ch)).1).1.1), .q 0 ((((specl19Any code ci ch)).1).1.2.1), .i ((((specl19Any code ci ch)).1).1.2.2), .o 1 ((((specl19Any code ci ch)).1).2.1), .o 2 ((((specl19Any code ci ch)).1).2.2)]) [.h code, .i ((((specl19Any code ci ch)).2.1 : Nat) : Int), .i (((specl19Any code ci ch)).2.2)] := by
 refine agive_of (tt := tt) tt_ok Try.func69 (fn := Try.f69) rfl (by unfold FnOk; kernel_rfl) (Nat.le_of_ble_eq_true rfl) (Nat.le_of_ble_eq_true rfl) rfl rfl fun w0 F0 hG => ?_
 refine sn tt_ok [0, 2] [2, 60000] (p0) ?_
 obtain ⟨x1, hx1⟩ : ∃ z : CatalogD × Nat × Int, specl19Live code ci ch = z := ⟨_, rfl⟩
 have hcx1 := l19_ne code ci ch
 rw [hx1] at hcx1
 refine tn tt_ok [0, 2, 3] [2, 3, 60000] (po 1 (.give none (.a [.o 0 x1.1.1.1, .o 1 x1.1.1.2.1, .i x1.1.1.2.2, .o 2 x1.1.2.1, .o 3 x1.1.2.2]) [.h code, .i ((x1.2.1 : Nat) : Int), .i x1.2.2]) (px (ob_give (hx1 ▸ specl19Live_a code ci ch)) p0)) ?_
 refine awp_seq ?_
 obtain ⟨x2, hx2⟩ : ∃ z : Int × Nat × Int, specl01Below code x1.2.1 x1.2.2 12 = z := ⟨_, rfl⟩
 have hbx2 := hx2 ▸ specl01Below_bd code x1.2.1 x1.2.2 12
 refine tu tt_ok [(2, .p 2 0), (3, .p 3 0), (7, .i x2.1)] [] [(2, [.e 2, .e 5, .i 0, .e 2, .e 2]), (3, [.o 320 x1.1.1.1, .o 321 x1.1.1.2.1, .i x1.1.1.2.2, .o 322 x1.1.2.1, .o 323 x1.1.2.2]), (60000, [.h code, .i ((x2.2.1 : Nat) : Int), .i x2.2.2])] [60000] (po 1 (.give none (.i x2.1) [.h code, .i ((x2.2.1 : Nat) : Int), .i x2.2.2]) (px (ob_give (hx2 ▸ specl01Below_a code x1.2.1 x1.2.2 12)) p0)) ?_
 refine awp_block ?_
 refine sn tt_ok [0, 2, 3, 7, 8] [2, 3, 60000] (p0) ?_
 refine ck (x2.1 == (0 : Int)) (fun h3 => ?_) (fun h3 => ?_)
 ·
  have h3d := eq_of_beq h3
  obtain ⟨x4, hx4⟩ : ∃ z : (List Int) × Nat × Int, specl14Ids code x2.2.1 x2.2.2 = z := ⟨_, rfl⟩
  refine wB 3 4 (.own true 323) x1.1.2.2 (fun hw6 hl7 => ?_)
  have hx5 := ng x1.1.2.2 0
  refine qU tt_ok tt_mx [] [7] [(3, [.o 320 x1.1.1.1, .o 321 x1.1.1.2.1, .i x1.1.1.2.2, .o 322 x1.1.2.1, .slc (.own true 323) 2 (setRow (eL x1.1.2.2) 0 1 [.h x4.1])]), (60000, [.h code, .i ((x4.2.1 : Nat) : Int), .i x4.2.2])] [3, 60000] (po 3 (.give none (.o 0 x4.1) [.h code, .i ((x4.2.1 : Nat) : Int), .i x4.2.2]) (px (ob_give (hx4 ▸ specl14Ids_a code x2.2.1 x2.2.2)) (pG 4 0 hx5 p0))) ?_
  refine eqn [] [] [(3, [.o 320 x1.1.1.1, .o 321 x1.1.1.2.1, .i x1.1.1.2.2, .o 322 x1.1.2.1, .o 323 (List.set x1.1.2.2 0 ((nth x1.1.2.2 0).1, x4.1))])] [3] (by rw [setRow_eL (y := ((nth x1.1.2.2 0).1, x4.1)) hx5 rfl]; first | done | kernel_rfl) ?_
  refine sn tt_ok [0, 2] [2, 60000] (p0) ?_
  refine awp_demotes [321] rfl ?_
  refine awp_ret ?_
  have hE8 : specl19Any code ci ch = ((x1.1.1, x1.1.2.1, List.set x1.1.2.2 0 ((nth x1.1.2.2 0).1, x4.1)), x4.2.1, x4.2.2) := lt_b hx1 (lt_b hx2 (bif_t h3 (lt_b hx4 (rfl))))
  exact gret [320] (congrArg (fun z => (.a [.h z.1.1.1, .q 0 z.1.1.2.1, .i z.1.1.2.2, .o 1 z.1.2.1, .o 2 z.1.2.2] : AV)) hE8.symm) (congrArg (fun z => ([.h code, .i ((z.2.1 : Nat) : Int), .i z.2.2] : List C)) hE8.symm)
 ·
  refine tn tt_ok [0, 2, 3, 7, 16] [2, 3, 60000] (p0) ?_
  refine ck (x2.1 == (1 : Int)) (fun h9 => ?_) (fun h9 => ?_)
  ·
   obtain ⟨x10, hx10⟩ : ∃ z : (List DirD) × Nat × Int, specl11Any code x2.2.1 x2.2.2 = z := ⟨_, rfl⟩
   refine qu tt_ok [] [7] [(3, [.o 320 x1.1.1.1, .o 321 x1.1.1.2.1, .i x1.1.1.2.2, .o 1216 x10.1, .o 323 x1.1.2.2]), (60000, [.h code, .i ((x10.2.1 : Nat) : Int), .i x10.2.2])] [3, 60000] (po 1 (.give none (.o 0 x10.1) [.h code, .i ((x10.2.1 : Nat) : Int), .i x10.2.2]) (px (ob_give (hx10 ▸ specl11Any_a code x2.2.1 x2.2.2)) p0)) ?_
   refine sn tt_ok [0, 2] [2, 60000] (p0) ?_
   refine awp_demotes [321] rfl ?_
   refine awp_ret ?_
   have hE11 : specl19Any code ci ch = ((x1.1.1, x10.1, x1.1.2.2), x10.2.1, x10.2.2) := lt_b hx1 (lt_b hx2 (bif_f h3 (bif_t h9 (lt_b hx10 (rfl)))))
   exact gret [320] (congrArg (fun z => (.a [.h z.1.1.1, .q 0 z.1.1.2.1, .i z.1.1.2.2, .o 1 z.1.2.1, .o 2 z.1.2.2] : AV)) hE11.symm) (congrArg (fun z => ([.h code, .i ((z.2.1 : Nat) : Int), .i z.2.2] : List C)) hE11.symm)
  ·
   refine tu tt_ok [(21, .b (x2.1 == (2 : Int)))] [7] [] [] (p0) ?_
   refine ck (x2.1 == (2 : Int)) (fun h12 => ?_) (fun h12 => ?_)
   ·
    obtain ⟨x13, hx13⟩ : ∃ z : StoreD × Nat × Int, specl05Any code x2.2.1 x2.2.2 = z := ⟨_, rfl⟩
    refine rn tt_ok [0, 2, 3] [2, 3, 60000] (po 1 (.give none (.a [.h x13.1.1, .q 0 x13.1.2.1, .i x13.1.2.2]) [.h code, .i ((x13.2.1 : Nat) : Int), .i x13.2.2]) (px (ob_give (hx13 ▸ specl05Any_a code x2.2.1 x2.2.2)) p0)) ?_
    refine tn tt_ok [0, 2] [2, 60000] (p0) ?_
    refine awp_ret ?_
    have hE14 : specl19Any code ci ch = ((x13.1, x1.1.2.1, x1.1.2.2), x13.2.1, x13.2.2) := lt_b hx1 (lt_b hx2 (bif_f h3 (bif_f h9 (bif_t h12 (lt_b hx13 (rfl))))))
    exact gret [] (congrArg (fun z => (.a [.h z.1.1.1, .q 0 z.1.1.2.1, .i z.1.1.2.2, .o 1 z.1.2.1, .o 2 z.1.2.2] : AV)) hE14.symm) (congrArg (fun z => ([.h code, .i ((z.2.1 : Nat) : Int), .i z.2.2] : List C)) hE14.symm)
   ·
    refine awp_skip ?_
    refine sn tt_ok [0, 2] [2, 60000] (p0) ?_
    refine awp_demotes [321] rfl ?_
    refine awp_ret ?_
    have hE15 : specl19Any code ci ch = (x1.1, x2.2.1, x2.2.2) := lt_b hx1 (lt_b hx2 (bif_f h3 (bif_f h9 (bif_f h12 (rfl)))))
    exact gret [320] (congrArg (fun z => (.a [.h z.1.1.1, .q 0 z.1.1.2.1, .i z.1.1.2.2, .o 1 z.1.2.1, .o 2 z.1.2.2] : AV)) hE15.symm) (congrArg (fun z => ([.h code, .i ((z.2.1 : Nat) : Int), .i z.2.2] : List C)) hE15.symm)
def specDrawCheckAll (code : (List UInt8)) : CatalogD := (lt (α := Nat × Int) (specl01New code) (fun x1 => (lt (α := CatalogD × Nat × Int) (specl19Any code x1.1 x1.2) (fun x2 => x2.1))))
theorem specDrawCheckAll_a (code : (List UInt8)) : ACalls Try.prog 37 [.h code] (.a [.h ((specDrawCheckAll code).1.1), .q 0 ((specDrawCheckAll code).1.2.1), .i ((specDrawCheckAll code).1.2.2), .o 1 ((specDrawCheckAll code).2.1), .o 2 ((specDrawCheckAll code).2.2)]) := by
 refine en tt_ok Try.func37 fun w0 F0 hG => ?_
 refine sn tt_ok [0, 2] [2] (p0) ?_
 obtain ⟨x1, hx1⟩ : ∃ z : Nat × Int, specl01New code = z := ⟨_, rfl⟩
 obtain ⟨x2, hx2⟩ : ∃ z : CatalogD × Nat × Int, specl19Any code x1.1 x1.2 = z := ⟨_, rfl⟩
 refine tn tt_ok [2] [2] (po 1 (.new [.h code, .i ((x1.1 : Nat) : Int), .i x1.2]) (px (ob_new (hx1 ▸ specl01New_a code)) (po 2 (.give none (.a [.h x2.1.1.1, .q 0 x2.1.1.2.1, .i x2.1.1.2.2, .o 1 x2.1.2.1, .o 2 x2.1.2.2]) [.h code, .i ((x2.2.1 : Nat) : Int), .i x2.2.2]) (px (ob_give (hx2 ▸ specl19Any_a code x1.1 x1.2)) p0)))) ?_
 refine awp_ret ?_
 exact pz [] (show specDrawCheckAll code = _ from lt_b hx1 (lt_b hx2 (rfl))) (fun z => .a [.h z.1.1, .q 0 z.1.2.1, .i z.1.2.2, .o 1 z.2.1, .o 2 z.2.2])
end Go.Proofs.Ytcnkkobgogmakaa
namespace Go.Proofs.Ytcnkkobgogmakaa
open Go.RowKit
theorem c6 {α : Type} {t : α} {f : α → CatalogD × Nat × Int} (k : ∀ x, (f x).1.2.1.length ≤ 6) : (lt t f).1.2.1.length ≤ 6 := k t
theorem c6q {α : Type} {t : α} {f : α → CatalogD × Nat × Int} (Q : α → Prop) (h : Q t) (k : ∀ x, Q x → (f x).1.2.1.length ≤ 6) : (lt t f).1.2.1.length ≤ 6 := k t h
theorem l19Any_len (code : List UInt8) (ci : Nat) (ch : Int) : (specl19Any code ci ch).1.2.1.length ≤ 6 := by
  unfold specl19Any
  have h := (l19_ne code ci ch).2
  refine c6q (fun x : CatalogD × Nat × Int => x.1.2.1.length ≤ 4) h fun x1 h => c6 fun x2 => ?_
  cases (x2.1 == (0 : Int)) with
  | true => simp only [cond_true]; exact c6 fun x => by dsimp only; omega
  | false =>
    simp only [cond_false]
    cases (x2.1 == (1 : Int)) with
    | true => simp only [cond_true]; exact l11Any_len code _ _
    | false =>
      simp only [cond_false]
      cases (x2.1 == (2 : Int)) with
      | true => simp only [cond_true]; exact c6 fun x => by dsimp only; omega
      | false => simp only [cond_false]; omega
theorem drawCheck_len (code : List UInt8) : (specDrawCheckAll code).2.1.length ≤ 6 := l19Any_len code _ _
open GoE (enc wide)
def lawsbig (code : (List UInt8)) : Bool := decide ((code.length : Int) > (1048576 : Int))
theorem lawsbig_a (code : (List UInt8)) : ACalls Try.prog 6 [.h code] (.b (lawsbig code)) := by
 refine en tt_ok Try.func6 fun w0 F0 hG => ?_
 refine sn tt_ok [0, 2] [] (p0) ?_
 refine tn tt_ok [2] [] (pl 1 code p0) ?_
 refine awp_ret ?_
 exact pb [] (show lawsbig code = decide ((code.length : Int) > (1048576 : Int)) from rfl)
def lawssameTexts_f0 (b : (List ByteArray)) (k0 : Nat) (a0 : ByteArray) (_ : Unit) : Rd (Bool) (Unit) (Unit) := (bif (!(a0.toList == (nth b k0).toList)) then (.ret false) else (.next ()))
def lawssameTexts_e0 (_ : Nat) (_ : Unit) : Unit := ()
def lawssameTexts (a_ : (List ByteArray)) (b : (List ByteArray)) : Bool := (bif ((a_.length : Int) != (b.length : Int)) then false else (Out.on (forL (lawssameTexts_f0 b) lawssameTexts_e0 a_ 0 ()) (fun _ => true)))
theorem lawssameTexts_a (a_ : (List ByteArray)) (b : (List ByteArray)) : ACalls Try.prog 40 [.h a_, .h b] (.b (lawssameTexts a_ b)) := by
 refine en tt_ok Try.func40 fun w0 F0 hG => ?_
 refine sn tt_ok [0, 1, 4] [] (p0) ?_
 refine awp_seq ?_
 refine tn tt_ok [0, 1, 4, 10] [] (pl 1 a_ (pl 3 b p0)) ?_
 refine ck ((a_.length : Int) != (b.length : Int)) (fun h1 => ?_) (fun h1 => ?_)
 ·
  refine tu tt_ok [(4, .b false)] [] [] [] (p0) ?_
  refine awp_ret ?_
  exact pb [] (bif_t h1 (rfl))
 ·
  have h1d := eq_of_bne h1
  refine awp_skip ?_
  refine awp_seq ?_
  refine tu tt_ok [(4, .b false), (5, .i 0)] [] [] [] (p0) ?_
  refine wT 0 0 .sh a_ (fun hw2 hl3 => ?_)
  refine blL0 (lawssameTexts_f0 b) lawssameTexts_e0 a_ () (fun k0 _ => [(5, .i ((k0 : Nat) : Int))]) [5] (fun _ => []) [0, 1, 5] (weak_fit (by kernel_rfl)) (fun k0 s0 hk0 hI0 => ?_) (fun k0 s0 hk0 hI0 => ?_) (fun y0 hD0 => ?_)
  ·
   obtain ⟨a0, hx0⟩ := get_some (l := a_) (i := k0) hk0
   refine awp_seq ?_
   refine sn tt_ok [0, 1, 4, 5, 14] [] (pl 2 a_ (pe 3 (av_bool (decide_eq_true (p := ((k0 : Nat) : Int) < (a_.length : Int)) (by omega))) p0)) ?_
   refine ckT ?_
   refine awp_skip ?_
   refine awp_seq ?_
   refine awp_block ?_
   refine wT 1 0 .sh b (fun hw5 hl6 => ?_)
   have hx4 := ng b k0
   refine tN tt_ok tt_mx [0, 1, 4, 5, 25] [] (pn 2 hx0 (pn 6 hx4 p0)) ?_
   refine ck (!(a0.toList == (nth b k0).toList)) (fun h7 => ?_) (fun h7 => ?_)
   ·
    refine tu tt_ok [] [] [] [] (p0) ?_
    refine awp_ret ?_
    have hr8 : (forL (lawssameTexts_f0 b) lawssameTexts_e0 a_ 0 ()) = .ret false := forL_ret hx0 (bif_t h7 (rfl)) hI0
    exact pb [] (bif_f h1 (on_r hr8))
   ·
    refine awp_skip ?_
    refine qu tt_ok [(5, .i ((k0 + 1 : Nat) : Int))] [5] [] [] (pe 1 (av_i (wrap_succ k0 (by omega))) p0) ?_
    exact Exists.intro _ (And.intro (weak_fit (by kernel_rfl)) (forL_next hx0 (bif_f h7 (rfl)) hI0))
  ·
   refine awp_seq ?_
   refine sn tt_ok [0, 1, 4, 5, 14] [] (pl 2 a_ (pe 3 (av_bool (decide_eq_false (p := ((k0 : Nat) : Int) < (a_.length : Int)) (by omega))) p0)) ?_
   refine ckF ?_
   refine awp_exit ?_
   exact Exists.intro _ (And.intro (weak_fit (by kernel_rfl)) (forL_end hk0 (rfl) hI0))
  ·
   refine sn tt_ok [4] [] (p0) ?_
   refine awp_ret ?_
   exact pb [] (bif_f h1 (on_b hD0 (rfl)))
def lawsFnCheckerBounded_f0 (code : (List UInt8)) (k0 : Nat) (s0 : CheckD) : Rd (Bool) (CheckD) (Int × CheckD) := (bif (!(((implCheckStep (specDrawCheckAll code) s0)).2)) then (.brk (((k0 : Nat) : Int), s0)) else (.next (((implCheckStep (specDrawCheckAll code) s0)).1)))
def lawsFnCheckerBounded_e0 (k0 : Nat) (s0 : CheckD) : Int × CheckD := (((k0 : Nat) : Int), s0)
def lawsFnCheckerBounded (code : (List UInt8)) : Bool := (bif (lawsbig code) then true else (Out.on (forN (lawsFnCheckerBounded_f0 code) lawsFnCheckerBounded_e0 (Int.toNat (10 : Int)) 0 implNewCheck) (fun y0 => ((y0.1 == (((specDrawCheckAll code).2.1).length : Int)) && (lawssameTexts y0.2.2 (implCheckAll (specDrawCheckAll code)))))))
theorem lawsFnCheckerBounded_a (code : (List UInt8)) : ACalls Try.prog 5 [.h code] (.b (lawsFnCheckerBounded code)) := by
 refine en tt_ok Try.func5 fun w0 F0 hG => ?_
 have hdl := drawCheck_len code
 refine sn tt_ok [0, 2] [] (p0) ?_
 refine awp_seq ?_
 refine tn tt_ok [0, 2, 10] [] (pc 1 (lawsbig_a code) p0) ?_
 refine ck (lawsbig code) (fun h1 => ?_) (fun h1 => ?_)
 ·
  refine tu tt_ok [(2, .b true)] [] [] [] (p0) ?_
  refine awp_ret ?_
  exact pb [] (bif_t h1 (rfl))
 ·
  refine awp_skip ?_
  refine tu tt_ok [(2, .b false), (3, .p 3 0)] [0] [(3, [.h ((specDrawCheckAll code).1.1), .q 768 ((specDrawCheckAll code).1.2.1), .i ((specDrawCheckAll code).1.2.2), .o 769 ((specDrawCheckAll code).2.1), .o 770 ((specDrawCheckAll code).2.2)])] [] (pc 1 (specDrawCheckAll_a code) p0) ?_
  refine sn tt_ok [2, 3, 4] [3, 4] (pc 0 (implNewCheck_a) p0) ?_
  refine tn tt_ok [2, 3, 4, 5] [3, 4] (p0) ?_
  refine awp_seq ?_
  refine tu tt_ok [(4, .p 4 0), (5, .i 0), (6, .i 0)] [] [(4, [.i implNewCheck.1, .o 832 implNewCheck.2])] [] (p0) ?_
  refine blN3b (lawsFnCheckerBounded_f0 code) lawsFnCheckerBounded_e0 (Int.toNat (10 : Int)) implNewCheck (fun k0 _ => [(5, .i ((k0 : Nat) : Int)), (6, .i ((k0 : Nat) : Int))]) [5, 6] (fun _ s0 => [(4, [.i s0.1, .o 147211 s0.2])]) [4] (fun y0 => [(5, .i y0.1)]) [5, 6] (fun y0 => [(4, [.i y0.2.1, .o 147361 y0.2.2])]) [4] (fun _ s0 => 0 ≤ s0.1 ∧ s0.1 ≤ ((specDrawCheckAll code).2.1.length : Int) ∧ (s0.2.length : Int) ≤ s0.1) (fun y0 => 0 ≤ y0.1 ∧ y0.1 ≤ ((Int.toNat (10 : Int)) : Int)) (weak_sf [(832, 147211)] (by kernel_rfl)) (by simp [implNewCheck]) (fun k0 s0 hk0 hI0 => ?_) (fun k0 s0 hk0 hI0 => ?_) (fun y0 hD0 => ?_)
  ·
   have hA0_0 := hI0.2
   refine awp_seq ?_
   refine su tt_ok [(15, .b true)] [] [] [] (pe 1 (av_bool (decide_eq_true (p := ((k0 : Nat) : Int) < (10 : Int)) (by omega))) p0) ?_
   refine ckT ?_
   refine awp_skip ?_
   refine awp_seq ?_
   refine awp_block ?_
   refine sn tt_ok [2, 3, 4, 5, 6, 7, 8] [3, 4, 7] (pc 2 (implCheckStep_a (specDrawCheckAll code) s0 (by omega)) p0) ?_
   refine awp_seq ?_
   refine tn tt_ok [2, 3, 4, 5, 6, 7, 25] [3, 4, 7] (p0) ?_
   refine ck (!(((implCheckStep (specDrawCheckAll code) s0)).2)) (fun h2 => ?_) (fun h2 => ?_)
   ·
    have h2n : (((implCheckStep (specDrawCheckAll code) s0)).2) = false := bnot_t h2
    refine awp_exit ?_
    exact Exists.intro (((k0 : Nat) : Int), s0) (And.intro (weak_sf [(147211, 147361)] (by kernel_rfl)) ⟨forN_brk hk0 (bif_t h2 (rfl)) hI0.1, by first | omega | (simp only [List.length_set]; omega)⟩)
   ·
    have h2n : (((implCheckStep (specDrawCheckAll code) s0)).2) = true := bnot_f h2
    refine awp_skip ?_
    refine tu tt_ok [] [15] [(4, [.i ((((implCheckStep (specDrawCheckAll code) s0)).1).1), .o 1344 ((((implCheckStep (specDrawCheckAll code) s0)).1).2)])] [4] (p0) ?_
    refine rn tt_ok [2, 3, 4, 5, 6] [3, 4] (pe 1 (av_i (wrap_succ k0 (by omega))) p0) ?_
    refine qn tt_ok [2, 3, 4, 5, 6] [3, 4] (pe 1 (av_i (wrap_succ k0 (by omega))) p0) ?_
    exact Exists.intro (((implCheckStep (specDrawCheckAll code) s0)).1) (And.intro (weak_sf [(1344, 147211)] (by kernel_rfl)) ⟨forN_next hk0 (bif_f h2 (rfl)) hI0.1, (by exact (implCheckStep_inv (by omega) (by assumption)).1)⟩)
  ·
   have hA0_0 := hI0.2
   refine awp_seq ?_
   refine su tt_ok [(15, .b false)] [] [] [] (pe 1 (av_bool (decide_eq_false (p := ((k0 : Nat) : Int) < (10 : Int)) (by omega))) p0) ?_
   refine ckF ?_
   refine awp_exit ?_
   exact Exists.intro (((k0 : Nat) : Int), s0) (And.intro (weak_sf [(147211, 147361)] (by kernel_rfl)) ⟨forN_end hk0 (rfl) hI0.1, by first | omega | (simp only [List.length_set]; omega)⟩)
  ·
   have hD0_0 := hD0.2
   refine awp_seq ?_
   refine jn [(2, .b ((y0.1 == (((specDrawCheckAll code).2.1).length : Int)) && (lawssameTexts y0.2.2 (implCheckAll (specDrawCheckAll code)))))] [2, 3, 4, 5] [] [3, 4] (y0.1 == (((specDrawCheckAll code).2.1).length : Int)) (fun h3 => ?_) (fun h3 => ?_) ?_
   ·
    have h3d := eq_of_beq h3
    refine rN tt_ok tt_mx [2] [] (pl 3 ((specDrawCheckAll code).2.1) (pt 4 h3 (pc 9 (implCheckAll_a (specDrawCheckAll code)) (pc 10 (lawssameTexts_a y0.2.2 (implCheckAll (specDrawCheckAll code))) p0)))) ?_
    exact ⟨rfl, weak_fit (by rw [h3]; first | done | kernel_rfl)⟩
   ·
    have h3d := ne_of_beq h3
    refine rN tt_ok tt_mx [2] [] (pl 3 ((specDrawCheckAll code).2.1) (pf 4 h3 p0)) ?_
    exact ⟨rfl, weak_fit (by rw [h3]; first | done | kernel_rfl)⟩
   refine awp_ret ?_
   exact pb [] (bif_f h1 (on_b hD0.1 (rfl)))
end Go.Proofs.Ytcnkkobgogmakaa
namespace Go.Proofs.Ytcnkkobgogmakaa
open Go.RowKit
theorem step_at {c : CatalogD} {s : CheckD} {k : Nat} (hs : s.1 = (k : Int)) (hl : c.2.1.length ≤ 6) (hk : k ≤ c.2.1.length) : (k = c.2.1.length ∧ implCheckStep c s = (s, false)) ∨ (k < c.2.1.length ∧ (implCheckStep c s).2 = true ∧ (implCheckStep c s).1.1 = ((k + 1 : Nat) : Int)) := by
  unfold implCheckStep
  by_cases h : k < c.2.1.length
  · right
    have hw : implwithin s.1 0 ((c.2.1.length : Int) - 1) = true := within_iff.2 ⟨by omega, by omega⟩
    have hi : IntKind.i64.wrap (s.1 + 1) = ((k + 1 : Nat) : Int) := by rw [IntWalk.i64_in _ (show _ ∧ _ by omega)]; omega
    rw [hw, hi]
    simp only [Bool.not_true, cond_false]
    generalize (slicesEqual_int _ _ : Bool) = b
    refine ⟨h, ?_, ?_⟩ <;> cases b <;> rfl
  · left
    have hw : implwithin s.1 0 ((c.2.1.length : Int) - 1) = false := by
      cases hw : implwithin s.1 0 ((c.2.1.length : Int) - 1) with
      | false => rfl
      | true => have := within_iff.1 hw; omega
    rw [hw]
    exact ⟨by omega, rfl⟩
theorem both_end (code : List UInt8) {c : CatalogD} (hc : c = specDrawCheckAll code) (hl : c.2.1.length ≤ 6) : ∀ (m k n : Nat) (s : CheckD), s.1 = (k : Int) → k + m = c.2.1.length → k + n = 10 →
    ∃ t, forN (lawsFnCheckerBounded_f0 code) lawsFnCheckerBounded_e0 n k s = .brk ((c.2.1.length : Int), t) ∧ whl (implCheckAll_f0 c) (m + 2) (true, s) = some (.brk t)
  | 0, k, n, s, hs, hk, hn => by
    obtain ⟨n, rfl⟩ : ∃ j, n = j + 1 := ⟨n - 1, by omega⟩
    rcases step_at hs hl (by omega) with ⟨h1, h2⟩ | ⟨h1, _⟩
    · refine ⟨s, ?_, ?_⟩
      · simp only [forN, lawsFnCheckerBounded_f0, ← hc, h2, Bool.not_false, cond_true]
        rw [h1]
      · simp only [whl, implCheckAll_f0, h2, cond_true, cond_false]
    · omega
  | m + 1, k, n, s, hs, hk, hn => by
    obtain ⟨n, rfl⟩ : ∃ j, n = j + 1 := ⟨n - 1, by omega⟩
    rcases step_at hs hl (by omega) with ⟨h1, _⟩ | ⟨h1, h2, h3⟩
    · omega
    · obtain ⟨t, h4, h5⟩ := both_end code hc hl m (k + 1) n (implCheckStep c s).1 h3 (by omega) (by omega)
      refine ⟨t, ?_, ?_⟩
      · simp only [forN, lawsFnCheckerBounded_f0, ← hc, h2, Bool.not_true, cond_false]
        exact h4
      · rw [show m + 1 + 2 = (m + 2) + 1 by omega, whl]
        simp only [implCheckAll_f0, h2, cond_true]
        exact h5
theorem sameTexts_self (l : List ByteArray) : lawssameTexts l l = true := by
  unfold lawssameTexts
  rw [forL_of_all l 0 (fun i a hi => by
    unfold lawssameTexts_f0
    rw [Nat.zero_add, nth_of hi]
    simp)]
  simp [Out.on]
theorem lawsFnCheckerBounded_true (code : List UInt8) : lawsFnCheckerBounded code = true := by
  unfold lawsFnCheckerBounded
  cases lawsbig code with
  | true => rfl
  | false =>
    simp only [cond_false]
    obtain ⟨t, h1, h2⟩ := both_end code rfl (drawCheck_len code) (specDrawCheckAll code).2.1.length 0 10 implNewCheck rfl (by omega) rfl
    have h1 : forN (lawsFnCheckerBounded_f0 code) lawsFnCheckerBounded_e0 (Int.toNat (10 : Int)) 0 implNewCheck = _ := h1
    rw [h1]
    have h3 : implCheckAll (specDrawCheckAll code) = t.2 := by
      unfold implCheckAll whlD
      rw [h2]
      rfl
    simp only [Out.on, h3, sameTexts_self, beq_self_eq_true, Bool.and_self]
end Go.Proofs.Ytcnkkobgogmakaa
namespace Go.Proofs.Ytcnkkobgogmakaa
open Go.RowKit
open GoD (rd own)
theorem bigCheckerBounded (w : World) (v : Value) (a : List UInt8) (h : rd w [v] a) (hbig : ¬ a.length ≤ 1048576) : Calls Try.prog 5 #[v] w (Ret w (.bool true)) := by
  obtain ⟨oa, cap, rfl⟩ := slice_of_rd h
  have hln := len_of_rd h
  clear h
  have hbi : 1048576 < (a.length : Int) := by omega
  go_enter Try.func5, Try.ntmps5
  go_wp2_with (first | (go_at_call 6; go_in))
  go_ret
  exact ⟨rfl, by go_grown⟩
theorem lawCheckerBounded (w : World) (v : Value) (a : List UInt8) (h : rd w [v] a) : Calls Try.prog 5 #[v] w (Ret w (.bool true)) := by
  by_cases hbig : a.length ≤ 1048576
  · haveI : Good Try.prog w := Good.none (by kernel_rfl) w
    have hc := (lawsFnCheckerBounded_a a).run (.cons (arg_sli h ⟨by omega, fun _ _ => trivial⟩) .nil)
    rw [lawsFnCheckerBounded_true] at hc
    exact hc.mono fun _ _ h => ret_bool h
  · exact bigCheckerBounded w v a h hbig
end Go.Proofs.Ytcnkkobgogmakaa
