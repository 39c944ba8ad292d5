/- Texts of this proof, put together by a program: Dra, Lid, Rp, Lia, Wab, Rpa, Rpb, Rpc, Rpd, Nfa, Nfb, Drn, Drb, Drc, LWp, Wpl, MWp. -/
import Derived.Test.YtcnkkobgogmakaaGreatP5
import Derived.KernelRfl
import Derived.Lib.SlicesCompact
import Derived.Outline
set_option linter.unusedVariables false
set_option linter.unusedSimpArgs false
namespace Go.Proofs.YtcnkkobgogmakaaGreat
open Go.RowKit
open GoE (enc wide)
def specl01Once (code : (List UInt8)) (ci : Nat) (ch : Int) (n : Int) : Bool × Nat × Int := (lt (α := Int × Nat × Int) (specl01Below code ci ch n) (fun x1 => ((x1.1 == (0 : Int)), x1.2.1, x1.2.2)))
theorem specl01Once_a (code : (List UInt8)) (ci : Nat) (ch : Int) (n : Int) : AGive Tryz.prog 114 [.h code, .i ((ci : Nat) : Int), .i ch] [.i n] (.b (((specl01Once code ci ch n)).1)) [.h code, .i ((((specl01Once code ci ch n)).2.1 : Nat) : Int), .i (((specl01Once code ci ch n)).2.2)] := by
 refine agive_of (tt := tt) tt_ok Tryz.func114 (fn := Tryz.f114) rfl (by unfold FnOk; kernel_rfl) (Nat.le_of_ble_eq_true rfl) (Nat.le_of_ble_eq_true rfl) rfl rfl fun w0 F0 hG => ?_
 refine sn tt_ok [0, 1, 4] [60000] (p0) ?_
 obtain ⟨x1, hx1⟩ : ∃ z : Int × Nat × Int, specl01Below code ci ch n = z := ⟨_, rfl⟩
 have hbx1 := hx1 ▸ specl01Below_bd code ci ch n
 refine tn tt_ok [0, 4] [60000] (po 2 (.give none (.i x1.1) [.h code, .i ((x1.2.1 : Nat) : Int), .i x1.2.2]) (px (ob_give (hx1 ▸ specl01Below_a code ci ch n)) p0)) ?_
 refine awp_ret ?_
 have hE2 : specl01Once code ci ch n = ((x1.1 == (0 : Int)), x1.2.1, x1.2.2) := lt_b hx1 (rfl)
 exact gret [] (congrArg (fun z => (.b z.1 : AV)) hE2.symm) (congrArg (fun z => ([.h code, .i ((z.2.1 : Nat) : Int), .i z.2.2] : List C)) hE2.symm)
def specIntValue (n : Int) : ValueD := (1, n, ⟨#[]⟩)
theorem specIntValue_a (n : Int) : ACalls Tryz.prog 10 [.i n] (.a [.i ((specIntValue n).1), .i ((specIntValue n).2.1), .s ((specIntValue n).2.2)]) := by
 refine en tt_ok Tryz.func10 fun w0 F0 hG => ?_
 refine sn tt_ok [0, 2] [2] (p0) ?_
 refine tn tt_ok [2] [2] (p0) ?_
 refine awp_ret ?_
 exact pz [] (show specIntValue n = (1, n, ⟨#[]⟩) from rfl) (fun z => .a [.i z.1, .i z.2.1, .s z.2.2])
def specSetAttr_f0 (name : ByteArray) (_ : Nat) (a0 : AttrD) (s0 : (List AttrD)) : Rd (FileD) ((List AttrD)) ((List AttrD)) := (bif (!(a0.1.toList == name.toList)) then (.next (s0 ++ [a0])) else (.next s0))
def specSetAttr_e0 (_ : Nat) (s0 : (List AttrD)) : (List AttrD) := s0
def specSetAttr_f1 (name : ByteArray) (k1 : Nat) (a1 : AttrD) (_ : Unit) : Rd (FileD) (Unit) (Int) := (bif (Op.bytesLess a1.1.toList name.toList || a1.1.toList == name.toList) then (.next ()) else (.brk ((k1 : Nat) : Int)))
def specSetAttr_e1 (k1 : Nat) (_ : Unit) : Int := ((k1 : Nat) : Int)
def specSetAttr (f : FileD) (name : ByteArray) (v : ValueD) : FileD := (Out.on (forL (specSetAttr_f0 name) specSetAttr_e0 f.2.2.2.2 0 []) (fun y0 => (bif (v.1 != (0 : Int)) then (Out.on (forL (specSetAttr_f1 name) specSetAttr_e1 y0 0 ()) (fun y1 => (f.1, f.2.1, f.2.2.1, f.2.2.2.1, List.take (Int.toNat y1) y0 ++ [(name, v)] ++ (List.drop (Int.toNat y1) y0)))) else (f.1, f.2.1, f.2.2.1, f.2.2.2.1, y0))))
theorem setAttrS_len (f : FileD) (name : ByteArray) (v : ValueD) : List.length (specSetAttr f name v).2.2.2.2 ≤ List.length f.2.2.2.2 + 1 := by
  unfold specSetAttr
  rw [forL_filter (f := specSetAttr_f0 name) (e := specSetAttr_e0) (p := fun a => !(a.1.toList == name.toList)) (g := id) (fun _ _ _ => rfl)]
  simp only [Out.on, specSetAttr_e0, List.nil_append, List.map_id]
  have hf := List.length_filter_le (fun a : AttrD => !(a.1.toList == name.toList)) f.2.2.2.2
  generalize List.filter (fun a : AttrD => !(a.1.toList == name.toList)) f.2.2.2.2 = l at hf
  cases (v.1 != (0 : Int)) with
  | false => exact Nat.le_succ_of_le hf
  | true =>
    simp only [cond_true]
    obtain ⟨t, ht⟩ := forL_noret (f := specSetAttr_f1 name) (e := specSetAttr_e1) (fun k a s r => by
      unfold specSetAttr_f1
      generalize (Op.bytesLess a.1.toList name.toList || a.1.toList == name.toList) = c
      cases c <;> simp) l 0 ()
    rw [ht]
    · show (List.take (Int.toNat t) l ++ [(name, v)] ++ List.drop (Int.toNat t) l).length ≤ _
      simp
      omega
theorem join_attr {c : Bool} {α : Type} {t : α} {F : FileD} {nm : ByteArray} {V : α → ValueD} {A : α → Nat × Int} {B : Nat × Int} : List.length (bif c then lt t (fun x => (specSetAttr F nm (V x), A x)) else (F, B)).1.2.2.2.2 ≤ F.2.2.2.2.length + 1 := by
 cases c with
 | true => exact setAttrS_len _ _ _
 | false => exact Nat.le_succ _
theorem specSetAttr_a (f : FileD) (name : ByteArray) (v : ValueD) (hp : List.length f.2.2.2.2 ≤ 1073741000) : ACalls Tryz.prog 13 [.a [.i f.1, .i f.2.1, .b f.2.2.1, .i f.2.2.2.1, .h f.2.2.2.2], .s name, .a [.i v.1, .i v.2.1, .s v.2.2]] (.a [.i ((specSetAttr f name v).1), .i ((specSetAttr f name v).2.1), .b ((specSetAttr f name v).2.2.1), .i ((specSetAttr f name v).2.2.2.1), .o 0 ((specSetAttr f name v).2.2.2.2)]) := by
 refine en tt_ok Tryz.func13 fun w0 F0 hG => ?_
 refine sn tt_ok [1, 3, 5, 6] [3, 5, 6] (p0) ?_
 refine tn tt_ok [1, 3, 5, 6, 7] [3, 5, 6] (p0) ?_
 refine awp_seq ?_
 refine tu tt_ok [(3, .p 3 0), (5, .p 5 0), (6, .p 6 0), (7, .one (.slc (.own true 704) 4 [])), (8, .i 0)] [0, 2] [(3, [.i f.1, .i f.2.1, .b f.2.2.1, .i f.2.2.2.1, .h f.2.2.2.2]), (5, [.i v.1, .i v.2.1, .s v.2.2]), (6, [.i 0, .i 0, .b false, .i 0, .e 4])] [] (p0) ?_
 refine wB 3 4 .sh f.2.2.2.2 (fun hw1 hl2 => ?_)
 refine blL3 (specSetAttr_f0 name) specSetAttr_e0 f.2.2.2.2 [] (fun k0 s0 => [(7, .o 147204 s0), (8, .i ((k0 : Nat) : Int))]) [7, 8] (fun y0 => [(7, .o 147354 y0)]) [7, 8] (fun k0 s0 => List.length s0 ≤ k0) (fun y0 => List.length y0 ≤ List.length f.2.2.2.2) (weak_sf [(704, 147204)] (by kernel_rfl)) (by simp) (fun k0 s0 hk0 hI0 => ?_) (fun k0 s0 hk0 hI0 => ?_) (fun y0 hD0 => ?_)
 ·
  have hA0_0 := hI0.2
  obtain ⟨a0, hx0⟩ := get_some (l := f.2.2.2.2) (i := k0) hk0
  refine awp_seq ?_
  refine su tt_ok [(16, .b true)] [] [] [] (pl 3 f.2.2.2.2 (pe 4 (av_bool (decide_eq_true (p := ((k0 : Nat) : Int) < (f.2.2.2.2.length : Int)) (by omega))) p0)) ?_
  refine ckT ?_
  refine awp_skip ?_
  refine awp_seq ?_
  refine awp_block ?_
  refine sn tt_ok [1, 3, 5, 6, 7, 8, 26] [3, 5, 6] (pn 3 hx0 p0) ?_
  refine ck (!(a0.1.toList == name.toList)) (fun h3 => ?_) (fun h3 => ?_)
  ·
   refine wT 7 0 (.own true 147204) s0 (fun hw4 hl5 => ?_)
   refine qu tt_ok [(7, .one (.slc (.own true 2176) 4 ((eL s0) ++ [[.s a0.1, .i a0.2.1, .i a0.2.2.1, .s a0.2.2.2]])))] [7, 16] [] [] (pn 4 hx0 (pa s0 [a0] p0)) ?_
   refine eqn [(7, .o 2176 (s0 ++ [a0]))] [7] [] [] (by rw [show ((eL s0) ++ [[.s a0.1, .i a0.2.1, .i a0.2.2.1, .s a0.2.2.2]]) = (eL (s0 ++ [a0])) from app_eL (rfl) (rfl)]; first | done | kernel_rfl) ?_
   refine rn tt_ok [1, 3, 5, 6, 7, 8] [3, 5, 6] (pe 1 (av_i (wrap_succ k0 (by omega))) p0) ?_
   exact Exists.intro (s0 ++ [a0]) (And.intro (weak_sf [(2176, 147204)] (by kernel_rfl)) ⟨forL_next hx0 (bif_t h3 (rfl)) hI0.1, by first | omega | (simp; omega) | simp⟩)
  ·
   refine awp_skip ?_
   refine qn tt_ok [1, 3, 5, 6, 7, 8] [3, 5, 6] (pe 1 (av_i (wrap_succ k0 (by omega))) p0) ?_
   exact Exists.intro s0 (And.intro (weak_fit (by kernel_rfl)) ⟨forL_next hx0 (bif_f h3 (rfl)) hI0.1, by first | omega | (simp; omega) | simp⟩)
 ·
  have hA0_0 := hI0.2
  refine awp_seq ?_
  refine su tt_ok [(16, .b false)] [] [] [] (pl 3 f.2.2.2.2 (pe 4 (av_bool (decide_eq_false (p := ((k0 : Nat) : Int) < (f.2.2.2.2.length : Int)) (by omega))) p0)) ?_
  refine ckF ?_
  refine awp_exit ?_
  exact Exists.intro s0 (And.intro (weak_sf [(147204, 147354)] (by kernel_rfl)) ⟨forL_end hk0 (rfl) hI0.1, by first | omega | (simp only [List.length_set]; omega)⟩)
 ·
  have hD0_0 := hD0.2
  refine awp_seq ?_
  refine sn tt_ok [1, 3, 5, 6, 7, 37] [3, 5, 6] (p0) ?_
  refine ck (v.1 != (0 : Int)) (fun h6 => ?_) (fun h6 => ?_)
  ·
   have h6d := ne_of_bne h6
   refine tu tt_ok [(9, .i 0)] [] [] [] (p0) ?_
   refine awp_seq ?_
   refine wT 7 0 (.own true 147354) y0 (fun hw7 hl8 => ?_)
   refine blL2 (specSetAttr_f1 name) specSetAttr_e1 y0 () (fun k1 _ => [(9, .i ((k1 : Nat) : Int))]) [9] (fun y1 => [(9, .i y1)]) [9] (fun y1 => 0 ≤ y1 ∧ y1 ≤ (y0.length : Int)) (weak_fit (by kernel_rfl)) (fun k1 s1 hk1 hI1 => ?_) (fun k1 s1 hk1 hI1 => ?_) (fun y1 hD1 => ?_)
   ·
    obtain ⟨a1, hx1⟩ := get_some (l := y0) (i := k1) hk1
    refine awp_seq ?_
    refine sn tt_ok [1, 3, 5, 6, 7, 9, 50] [3, 5, 6] (pl 2 y0 (pe 3 (av_bool (decide_eq_true (p := ((k1 : Nat) : Int) < (y0.length : Int)) (by omega))) (pN 7 hx1 p0))) ?_
    refine ck (Op.bytesLess a1.1.toList name.toList || a1.1.toList == name.toList) (fun h9 => ?_) (fun h9 => ?_)
    ·
     refine awp_skip ?_
     refine awp_block ?_
     refine qn tt_ok [1, 3, 5, 6, 7, 9] [3, 5, 6] (pe 1 (av_i (wrap_succ k1 (by omega))) p0) ?_
     exact Exists.intro _ (And.intro (weak_fit (by kernel_rfl)) (forL_next hx1 (bif_t h9 (rfl)) hI1))
    ·
     refine awp_exit ?_
     exact Exists.intro ((k1 : Nat) : Int) (And.intro (weak_fit (by kernel_rfl)) ⟨forL_brk hx1 (bif_f h9 (rfl)) hI1, by first | omega | (simp only [List.length_set]; omega)⟩)
   ·
    refine awp_seq ?_
    refine su tt_ok [(50, .b false)] [] [] [] (pl 2 y0 (pe 3 (av_bool (decide_eq_false (p := ((k1 : Nat) : Int) < (y0.length : Int)) (by omega))) p0)) ?_
    refine ckF ?_
    refine awp_exit ?_
    exact Exists.intro ((k1 : Nat) : Int) (And.intro (weak_fit (by kernel_rfl)) ⟨forL_end hk1 (rfl) hI1, by first | omega | (simp only [List.length_set]; omega)⟩)
   ·
    have hD1_0 := hD1.2
    have hl10 : List.length (List.take (Int.toNat y1) y0) ≤ 1073741824 := wide_len (wide_take (Int.toNat y1) (hw7))
    refine sU tt_ok tt_mx [(10, .one (.slc (.own true 3968) 4 (([] ++ (eL (List.take (Int.toNat y1) y0))) ++ [[.s name, .i v.1, .i v.2.1, .s v.2.2]])))] [1, 5] [] [5] (pe 3 (av_take (.vw 147354) 4 (Int.toNat y1) y1 y0 rfl) (px (ob_rng (lo := 0) (hi := y1) (n := (List.length (eL y0))) (rng_of (by omega) (by omega) (by omega))) (po 4 (.flat) (px (ob_len (n := (([] : List (List PV)).length + ((eL (List.take (Int.toNat y1) y0)) : List (List PV)).length)) (len_of (rfl) (eL_length (List.take (Int.toNat y1) y0)) (by first | omega | (simp only [List.length_cons, List.length_nil]; omega) | (simp; omega) | simp))) (px (ob_flat (flat_eL (List.take (Int.toNat y1) y0))) (px (ob_len (n := ((([] ++ (eL (List.take (Int.toNat y1) y0))) : List (List PV)).length + ([[.s name, .i v.1, .i v.2.1, .s v.2.2]] : List (List PV)).length)) (by simp [eL_length]; omega)) p0)))))) ?_
    refine eqn [(10, .o 3968 (List.take (Int.toNat y1) y0 ++ [(name, v)]))] [10] [] [] (by rw [show (([] ++ (eL (List.take (Int.toNat y1) y0))) ++ [[.s name, .i v.1, .i v.2.1, .s v.2.2]]) = (eL (List.take (Int.toNat y1) y0 ++ [(name, v)])) from app_eL (rfl) (rfl)]; first | done | kernel_rfl) ?_
    refine wT 10 0 (.own true 3968) (List.take (Int.toNat y1) y0 ++ [(name, v)]) (fun hw11 hl12 => ?_)
    have hl13 : List.length (List.drop (Int.toNat y1) y0) ≤ 1073741824 := wide_len (wide_drop (Int.toNat y1) (hw7))
    refine ru tt_ok [(7, .one (.slc (.own true 4288) 4 ((eL (List.take (Int.toNat y1) y0 ++ [(name, v)])) ++ (eL (List.drop (Int.toNat y1) y0)))))] [7, 9, 10] [] [] (pe 3 (av_drop (.vw 147354) 4 (Int.toNat y1) y1 y0 rfl) (px (ob_rng (lo := y1) (hi := (((eL y0) : List (List PV)).length : Int)) (n := (List.length (eL y0))) (rng_all (by omega) (by omega))) (po 4 (.flat) (pa (List.take (Int.toNat y1) y0 ++ [(name, v)]) (List.drop (Int.toNat y1) y0) (px (ob_flat (flat_eL (List.drop (Int.toNat y1) y0))) p0))))) ?_
    refine eqn [(7, .o 4288 (List.take (Int.toNat y1) y0 ++ [(name, v)] ++ (List.drop (Int.toNat y1) y0)))] [7] [] [] (by rw [show ((eL (List.take (Int.toNat y1) y0 ++ [(name, v)])) ++ (eL (List.drop (Int.toNat y1) y0))) = (eL (List.take (Int.toNat y1) y0 ++ [(name, v)] ++ (List.drop (Int.toNat y1) y0))) from app_eL (rfl) (rfl)]; first | done | kernel_rfl) ?_
    refine sn tt_ok [3, 6] [3, 6] (p0) ?_
    refine tn tt_ok [6] [6] (p0) ?_
    refine awp_ret ?_
    exact pz [] (show specSetAttr f name v = _ from on_b hD0.1 (bif_t h6 (on_b hD1.1 (rfl)))) (fun z => .a [.i z.1, .i z.2.1, .b z.2.2.1, .i z.2.2.2.1, .o 0 z.2.2.2.2])
  ·
   refine awp_skip ?_
   refine tn tt_ok [3, 6] [3, 6] (p0) ?_
   refine tu tt_ok [] [1, 3, 5, 7] [(6, [.i f.1, .i f.2.1, .b f.2.2.1, .i f.2.2.2.1, .o 147354 y0])] [3, 5, 6] (p0) ?_
   refine awp_ret ?_
   exact pz [] (show specSetAttr f name v = _ from on_b hD0.1 (bif_f h6 (rfl))) (fun z => .a [.i z.1, .i z.2.1, .b z.2.2.1, .i z.2.2.2.1, .o 0 z.2.2.2.2])
def specl01Pick (code : (List UInt8)) (ci : Nat) (ch : Int) (list : (List ByteArray)) : ByteArray × Nat × Int := (lt (α := Int × Nat × Int) (specl01Below code ci ch (list.length : Int)) (fun x1 => ((nth list (Int.toNat x1.1)), x1.2.1, x1.2.2)))
theorem specl01Pick_a (code : (List UInt8)) (ci : Nat) (ch : Int) (list : (List ByteArray)) (hp : 0 < List.length list) : AGive Tryz.prog 159 [.h code, .i ((ci : Nat) : Int), .i ch] [.h list] (.s (((specl01Pick code ci ch list)).1)) [.h code, .i ((((specl01Pick code ci ch list)).2.1 : Nat) : Int), .i (((specl01Pick code ci ch list)).2.2)] := by
 refine agive_of (tt := tt) tt_ok Tryz.func159 (fn := Tryz.f159) rfl (by unfold FnOk; kernel_rfl) (Nat.le_of_ble_eq_true rfl) (Nat.le_of_ble_eq_true rfl) rfl rfl fun w0 F0 hG => ?_
 refine sn tt_ok [0, 1, 4] [60000] (p0) ?_
 obtain ⟨x1, hx1⟩ : ∃ z : Int × Nat × Int, specl01Below code ci ch (list.length : Int) = z := ⟨_, rfl⟩
 have hbx1 := hx1 ▸ specl01Below_bd code ci ch (list.length : Int)
 refine wT 1 0 .sh list (fun hw3 hl4 => ?_)
 have hx2 := ng list (Int.toNat x1.1)
 refine tn tt_ok [0, 4] [60000] (pl 3 list (po 4 (.give none (.i x1.1) [.h code, .i ((x1.2.1 : Nat) : Int), .i x1.2.2]) (px (ob_give (hx1 ▸ specl01Below_a code ci ch (list.length : Int))) (pg 5 x1.1 hx2 p0)))) ?_
 refine awp_ret ?_
 have hE5 : specl01Pick code ci ch list = ((nth list (Int.toNat x1.1)), x1.2.1, x1.2.2) := lt_b hx1 (rfl)
 exact gret [] (congrArg (fun z => (.s z.1 : AV)) hE5.symm) (congrArg (fun z => ([.h code, .i ((z.2.1 : Nat) : Int), .i z.2.2] : List C)) hE5.symm)
def specStringValue (w : ByteArray) : ValueD := (2, 0, w)
theorem specStringValue_a (w : ByteArray) : ACalls Tryz.prog 195 [.s w] (.a [.i ((specStringValue w).1), .i ((specStringValue w).2.1), .s ((specStringValue w).2.2)]) := by
 refine en tt_ok Tryz.func195 fun w0 F0 hG => ?_
 refine sn tt_ok [0, 2] [2] (p0) ?_
 refine tn tt_ok [2] [2] (p0) ?_
 refine awp_ret ?_
 exact pz [] (show specStringValue w = (2, 0, w) from rfl) (fun z => .a [.i z.1, .i z.2.1, .s z.2.2])
def specl04File (code : (List UInt8)) (ci : Nat) (ch : Int) (id : Int) : FileD × Nat × Int := (lt (α := Int × Nat × Int) (specl01Below code ci ch 3) (fun x1 => (lt (α := Bool × Nat × Int) (specl01Once code x1.2.1 x1.2.2 2) (fun x2 => (lt (α := Bool × Nat × Int) (specl01Once code x2.2.1 x2.2.2 2) (fun x3 => (lt (α := Int × Nat × Int) (bif x3.1 then (lt (α := Int × Nat × Int) (specl01Below code x3.2.1 x3.2.2 7) (fun x4 => (x4.1, x4.2.1, x4.2.2))) else (0, x3.2.1, x3.2.2)) (fun x4 => (lt (α := Bool × Nat × Int) (specl01Once code x4.2.1 x4.2.2 4) (fun x7 => (lt (α := FileD × Nat × Int) (bif (!x7.1) then (lt (α := Int × Nat × Int) (specl01Below code x7.2.1 x7.2.2 4) (fun x8 => ((specSetAttr (id, x1.1, x2.1, x4.1, []) ⟨#[97]⟩ (specIntValue x8.1)), x8.2.1, x8.2.2))) else ((id, x1.1, x2.1, x4.1, []), x7.2.1, x7.2.2)) (fun x8 => (lt (α := Bool × Nat × Int) (specl01Once code x8.2.1 x8.2.2 2) (fun x11 => (lt (α := FileD × Nat × Int) (bif x11.1 then (lt (α := Int × Nat × Int) (specl01Below code x11.2.1 x11.2.2 4) (fun x12 => ((specSetAttr x8.1 ⟨#[98]⟩ (specIntValue x12.1)), x12.2.1, x12.2.2))) else (x8.1, x11.2.1, x11.2.2)) (fun x12 => (lt (α := Bool × Nat × Int) (specl01Once code x12.2.1 x12.2.2 3) (fun x15 => (lt (α := FileD × Nat × Int) (bif (!x15.1) then (lt (α := ByteArray × Nat × Int) (specl01Pick code x15.2.1 x15.2.2 [⟨#[105, 110, 107]⟩, ⟨#[115, 101, 97]⟩]) (fun x16 => ((specSetAttr x12.1 ⟨#[110]⟩ (specStringValue x16.1)), x16.2.1, x16.2.2))) else (x12.1, x15.2.1, x15.2.2)) (fun x16 => (lt (α := Bool × Nat × Int) (specl01Once code x16.2.1 x16.2.2 2) (fun x19 => (bif x19.1 then (lt (α := ByteArray × Nat × Int) (specl01Pick code x19.2.1 x19.2.2 [⟨#[114, 101, 100]⟩, ⟨#[98, 108, 117, 101]⟩]) (fun x21 => ((specSetAttr x16.1 ⟨#[116]⟩ (specStringValue x21.1)), x21.2.1, x21.2.2))) else (x16.1, x19.2.1, x19.2.2))))))))))))))))))))))))
theorem specl04File_a (code : (List UInt8)) (ci : Nat) (ch : Int) (id : Int) : AGive Tryz.prog 150 [.h code, .i ((ci : Nat) : Int), .i ch] [.i id] (.a [.i ((((specl04File code ci ch id)).1).1), .i ((((specl04File code ci ch id)).1).2.1), .b ((((specl04File code ci ch id)).1).2.2.1), .i ((((specl04File code ci ch id)).1).2.2.2.1), .o 0 ((((specl04File code ci ch id)).1).2.2.2.2)]) [.h code, .i ((((specl04File code ci ch id)).2.1 : Nat) : Int), .i (((specl04File code ci ch id)).2.2)] := by
 refine agive_of (tt := tt) tt_ok Tryz.func150 (fn := Tryz.f150) rfl (by unfold FnOk; kernel_rfl) (Nat.le_of_ble_eq_true rfl) (Nat.le_of_ble_eq_true rfl) rfl rfl fun w0 F0 hG => ?_
 refine sn tt_ok [0, 1, 4] [4, 60000] (p0) ?_
 obtain ⟨x1, hx1⟩ : ∃ z : Int × Nat × Int, specl01Below code ci ch 3 = z := ⟨_, rfl⟩
 have hbx1 := hx1 ▸ specl01Below_bd code ci ch 3
 obtain ⟨x2, hx2⟩ : ∃ z : Bool × Nat × Int, specl01Once code x1.2.1 x1.2.2 2 = z := ⟨_, rfl⟩
 refine tn tt_ok [0, 4, 5] [4, 5, 60000] (po 2 (.give none (.i x1.1) [.h code, .i ((x1.2.1 : Nat) : Int), .i x1.2.2]) (px (ob_give (hx1 ▸ specl01Below_a code ci ch 3)) (po 4 (.give none (.b x2.1) [.h code, .i ((x2.2.1 : Nat) : Int), .i x2.2.2]) (px (ob_give (hx2 ▸ specl01Once_a code x1.2.1 x1.2.2 2)) p0)))) ?_
 refine awp_seq ?_
 obtain ⟨x3, hx3⟩ : ∃ z : Bool × Nat × Int, specl01Once code x2.2.1 x2.2.2 2 = z := ⟨_, rfl⟩
 refine tu tt_ok [(4, .p 4 0), (5, .p 5 0), (13, .b x3.1)] [1] [(4, [.i 0, .i 0, .b false, .i 0, .e 4]), (5, [.i id, .i x1.1, .b x2.1, .i 0, .e 4]), (60000, [.h code, .i ((x3.2.1 : Nat) : Int), .i x3.2.2])] [60000] (po 1 (.give none (.b x3.1) [.h code, .i ((x3.2.1 : Nat) : Int), .i x3.2.2]) (px (ob_give (hx3 ▸ specl01Once_a code x2.2.1 x2.2.2 2)) p0)) ?_
 obtain ⟨x4, hx4⟩ : ∃ z : Int × Nat × Int, (bif x3.1 then (lt (α := Int × Nat × Int) (specl01Below code x3.2.1 x3.2.2 7) (fun x4 => (x4.1, x4.2.1, x4.2.2))) else (0, x3.2.1, x3.2.2)) = z := ⟨_, rfl⟩
 refine jn [] [13] [(5, [.i id, .i x1.1, .b x2.1, .i x4.1, .e 4]), (60000, [.h code, .i ((x4.2.1 : Nat) : Int), .i x4.2.2])] [5, 60000] x3.1 (fun h5 => ?_) (fun h5 => ?_) ?_
 ·
  refine ckt h5 ?_
  obtain ⟨x6, hx6⟩ : ∃ z : Int × Nat × Int, specl01Below code x3.2.1 x3.2.2 7 = z := ⟨_, rfl⟩
  have hbx6 := hx6 ▸ specl01Below_bd code x3.2.1 x3.2.2 7
  refine rn tt_ok [0, 4, 5] [4, 5, 60000] (po 1 (.give none (.i x6.1) [.h code, .i ((x6.2.1 : Nat) : Int), .i x6.2.2]) (px (ob_give (hx6 ▸ specl01Below_a code x3.2.1 x3.2.2 7)) p0)) ?_
  obtain rfl : x4 = (x6.1, x6.2.1, x6.2.2) := hx4.symm.trans (show (bif x3.1 then (lt (α := Int × Nat × Int) (specl01Below code x3.2.1 x3.2.2 7) (fun x4 => (x4.1, x4.2.1, x4.2.2))) else (0, x3.2.1, x3.2.2)) = (x6.1, x6.2.1, x6.2.2) from bif_t h5 (lt_b hx6 (rfl)))
  exact ⟨rfl, weak_fit (by kernel_rfl)⟩
 ·
  refine ckf h5 ?_
  refine awp_skip ?_
  obtain rfl : x4 = (0, x3.2.1, x3.2.2) := hx4.symm.trans (show (bif x3.1 then (lt (α := Int × Nat × Int) (specl01Below code x3.2.1 x3.2.2 7) (fun x4 => (x4.1, x4.2.1, x4.2.2))) else (0, x3.2.1, x3.2.2)) = (0, x3.2.1, x3.2.2) from bif_f h5 (rfl))
  exact ⟨rfl, weak_fit (by kernel_rfl)⟩
 refine awp_seq ?_
 obtain ⟨x7, hx7⟩ : ∃ z : Bool × Nat × Int, specl01Once code x4.2.1 x4.2.2 4 = z := ⟨_, rfl⟩
 refine sn tt_ok [0, 4, 5, 19] [4, 5, 60000] (po 1 (.give none (.b x7.1) [.h code, .i ((x7.2.1 : Nat) : Int), .i x7.2.2]) (px (ob_give (hx7 ▸ specl01Once_a code x4.2.1 x4.2.2 4)) p0)) ?_
 refine mz [(19, .b (!x7.1))] [] [(60000, [.h code, .i ((x7.2.1 : Nat) : Int), .i x7.2.2])] [60000] ?_
 obtain ⟨x8, hx8⟩ : ∃ z : FileD × Nat × Int, (bif (!x7.1) then (lt (α := Int × Nat × Int) (specl01Below code x7.2.1 x7.2.2 4) (fun x8 => ((specSetAttr (id, x1.1, x2.1, x4.1, []) ⟨#[97]⟩ (specIntValue x8.1)), x8.2.1, x8.2.2))) else ((id, x1.1, x2.1, x4.1, []), x7.2.1, x7.2.2)) = z := ⟨_, rfl⟩
 have hjx8 : List.length x8.1.2.2.2.2 ≤ 1 := by rw [← hx8]; exact Nat.le_trans join_attr (by first | omega | simp)
 refine jn [] [19] [(5, [.i x8.1.1, .i x8.1.2.1, .b x8.1.2.2.1, .i x8.1.2.2.2.1, .o 448768 x8.1.2.2.2.2]), (60000, [.h code, .i ((x8.2.1 : Nat) : Int), .i x8.2.2])] [5, 60000] (!x7.1) (fun h9 => ?_) (fun h9 => ?_) ?_
 ·
  refine ckt h9 ?_
  obtain ⟨x10, hx10⟩ : ∃ z : Int × Nat × Int, specl01Below code x7.2.1 x7.2.2 4 = z := ⟨_, rfl⟩
  have hbx10 := hx10 ▸ specl01Below_bd code x7.2.1 x7.2.2 4
  refine rN tt_ok tt_mx [0, 4, 5] [4, 5, 60000] (po 2 (.give none (.i x10.1) [.h code, .i ((x10.2.1 : Nat) : Int), .i x10.2.2]) (px (ob_give (hx10 ▸ specl01Below_a code x7.2.1 x7.2.2 4)) (pc 3 (specIntValue_a x10.1) (pc 4 (specSetAttr_a (id, x1.1, x2.1, x4.1, []) ⟨#[97]⟩ (specIntValue x10.1) (by first | omega | (simp; done) | (simp; omega))) p0)))) ?_
  obtain rfl : x8 = ((specSetAttr (id, x1.1, x2.1, x4.1, []) ⟨#[97]⟩ (specIntValue x10.1)), x10.2.1, x10.2.2) := hx8.symm.trans (show (bif (!x7.1) then (lt (α := Int × Nat × Int) (specl01Below code x7.2.1 x7.2.2 4) (fun x8 => ((specSetAttr (id, x1.1, x2.1, x4.1, []) ⟨#[97]⟩ (specIntValue x8.1)), x8.2.1, x8.2.2))) else ((id, x1.1, x2.1, x4.1, []), x7.2.1, x7.2.2)) = ((specSetAttr (id, x1.1, x2.1, x4.1, []) ⟨#[97]⟩ (specIntValue x10.1)), x10.2.1, x10.2.2) from bif_t h9 (lt_b hx10 (rfl)))
  exact ⟨rfl, weak_sf [(1536, 448768)] (by kernel_rfl)⟩
 ·
  refine ckf h9 ?_
  refine awp_skip ?_
  obtain rfl : x8 = ((id, x1.1, x2.1, x4.1, []), x7.2.1, x7.2.2) := hx8.symm.trans (show (bif (!x7.1) then (lt (α := Int × Nat × Int) (specl01Below code x7.2.1 x7.2.2 4) (fun x8 => ((specSetAttr (id, x1.1, x2.1, x4.1, []) ⟨#[97]⟩ (specIntValue x8.1)), x8.2.1, x8.2.2))) else ((id, x1.1, x2.1, x4.1, []), x7.2.1, x7.2.2)) = ((id, x1.1, x2.1, x4.1, []), x7.2.1, x7.2.2) from bif_f h9 (rfl))
  exact ⟨rfl, weak_gf [(true, 5, 4, true, 320008, 4)] [] [] [(320008, 448768)] (by kernel_rfl)⟩
 refine awp_seq ?_
 obtain ⟨x11, hx11⟩ : ∃ z : Bool × Nat × Int, specl01Once code x8.2.1 x8.2.2 2 = z := ⟨_, rfl⟩
 refine sn tt_ok [0, 4, 5, 26] [4, 5, 60000] (po 1 (.give none (.b x11.1) [.h code, .i ((x11.2.1 : Nat) : Int), .i x11.2.2]) (px (ob_give (hx11 ▸ specl01Once_a code x8.2.1 x8.2.2 2)) p0)) ?_
 refine mz [(26, .b x11.1)] [] [(60000, [.h code, .i ((x11.2.1 : Nat) : Int), .i x11.2.2])] [60000] ?_
 obtain ⟨x12, hx12⟩ : ∃ z : FileD × Nat × Int, (bif x11.1 then (lt (α := Int × Nat × Int) (specl01Below code x11.2.1 x11.2.2 4) (fun x12 => ((specSetAttr x8.1 ⟨#[98]⟩ (specIntValue x12.1)), x12.2.1, x12.2.2))) else (x8.1, x11.2.1, x11.2.2)) = z := ⟨_, rfl⟩
 have hjx12 : List.length x12.1.2.2.2.2 ≤ 2 := by rw [← hx12]; exact Nat.le_trans join_attr (by first | omega | simp)
 refine jn [] [26] [(5, [.i x12.1.1, .i x12.1.2.1, .b x12.1.2.2.1, .i x12.1.2.2.2.1, .o 448768 x12.1.2.2.2.2]), (60000, [.h code, .i ((x12.2.1 : Nat) : Int), .i x12.2.2])] [5, 60000] x11.1 (fun h13 => ?_) (fun h13 => ?_) ?_
 ·
  refine ckt h13 ?_
  obtain ⟨x14, hx14⟩ : ∃ z : Int × Nat × Int, specl01Below code x11.2.1 x11.2.2 4 = z := ⟨_, rfl⟩
  have hbx14 := hx14 ▸ specl01Below_bd code x11.2.1 x11.2.2 4
  refine rN tt_ok tt_mx [0, 4, 5] [4, 5, 60000] (po 2 (.give none (.i x14.1) [.h code, .i ((x14.2.1 : Nat) : Int), .i x14.2.2]) (px (ob_give (hx14 ▸ specl01Below_a code x11.2.1 x11.2.2 4)) (pc 3 (specIntValue_a x14.1) (pc 4 (specSetAttr_a x8.1 ⟨#[98]⟩ (specIntValue x14.1) (by first | omega | (simp; done) | (simp; omega))) p0)))) ?_
  obtain rfl : x12 = ((specSetAttr x8.1 ⟨#[98]⟩ (specIntValue x14.1)), x14.2.1, x14.2.2) := hx12.symm.trans (show (bif x11.1 then (lt (α := Int × Nat × Int) (specl01Below code x11.2.1 x11.2.2 4) (fun x12 => ((specSetAttr x8.1 ⟨#[98]⟩ (specIntValue x12.1)), x12.2.1, x12.2.2))) else (x8.1, x11.2.1, x11.2.2)) = ((specSetAttr x8.1 ⟨#[98]⟩ (specIntValue x14.1)), x14.2.1, x14.2.2) from bif_t h13 (lt_b hx14 (rfl)))
  exact ⟨rfl, weak_sf [(1984, 448768)] (by kernel_rfl)⟩
 ·
  refine ckf h13 ?_
  refine awp_skip ?_
  obtain rfl : x12 = (x8.1, x11.2.1, x11.2.2) := hx12.symm.trans (show (bif x11.1 then (lt (α := Int × Nat × Int) (specl01Below code x11.2.1 x11.2.2 4) (fun x12 => ((specSetAttr x8.1 ⟨#[98]⟩ (specIntValue x12.1)), x12.2.1, x12.2.2))) else (x8.1, x11.2.1, x11.2.2)) = (x8.1, x11.2.1, x11.2.2) from bif_f h13 (rfl))
  exact ⟨rfl, weak_fit (by kernel_rfl)⟩
 refine awp_seq ?_
 obtain ⟨x15, hx15⟩ : ∃ z : Bool × Nat × Int, specl01Once code x12.2.1 x12.2.2 3 = z := ⟨_, rfl⟩
 refine sn tt_ok [0, 4, 5, 34] [4, 5, 60000] (po 1 (.give none (.b x15.1) [.h code, .i ((x15.2.1 : Nat) : Int), .i x15.2.2]) (px (ob_give (hx15 ▸ specl01Once_a code x12.2.1 x12.2.2 3)) p0)) ?_
 refine mz [(34, .b (!x15.1))] [] [(60000, [.h code, .i ((x15.2.1 : Nat) : Int), .i x15.2.2])] [60000] ?_
 obtain ⟨x16, hx16⟩ : ∃ z : FileD × Nat × Int, (bif (!x15.1) then (lt (α := ByteArray × Nat × Int) (specl01Pick code x15.2.1 x15.2.2 [⟨#[105, 110, 107]⟩, ⟨#[115, 101, 97]⟩]) (fun x16 => ((specSetAttr x12.1 ⟨#[110]⟩ (specStringValue x16.1)), x16.2.1, x16.2.2))) else (x12.1, x15.2.1, x15.2.2)) = z := ⟨_, rfl⟩
 have hjx16 : List.length x16.1.2.2.2.2 ≤ 3 := by rw [← hx16]; exact Nat.le_trans join_attr (by first | omega | simp)
 refine jn [] [34] [(5, [.i x16.1.1, .i x16.1.2.1, .b x16.1.2.2.1, .i x16.1.2.2.2.1, .o 448768 x16.1.2.2.2.2]), (60000, [.h code, .i ((x16.2.1 : Nat) : Int), .i x16.2.2])] [5, 60000] (!x15.1) (fun h17 => ?_) (fun h17 => ?_) ?_
 ·
  refine ckt h17 ?_
  obtain ⟨x18, hx18⟩ : ∃ z : ByteArray × Nat × Int, specl01Pick code x15.2.1 x15.2.2 [⟨#[105, 110, 107]⟩, ⟨#[115, 101, 97]⟩] = z := ⟨_, rfl⟩
  refine rN tt_ok tt_mx [0, 4, 5] [4, 5, 60000] (po 3 (.give none (.s x18.1) [.h code, .i ((x18.2.1 : Nat) : Int), .i x18.2.2]) (px (ob_give (hx18 ▸ specl01Pick_a code x15.2.1 x15.2.2 [⟨#[105, 110, 107]⟩, ⟨#[115, 101, 97]⟩] (Nat.zero_lt_succ _))) (pc 4 (specStringValue_a x18.1) (pc 5 (specSetAttr_a x12.1 ⟨#[110]⟩ (specStringValue x18.1) (by first | omega | (simp; done) | (simp; omega))) p0)))) ?_
  obtain rfl : x16 = ((specSetAttr x12.1 ⟨#[110]⟩ (specStringValue x18.1)), x18.2.1, x18.2.2) := hx16.symm.trans (show (bif (!x15.1) then (lt (α := ByteArray × Nat × Int) (specl01Pick code x15.2.1 x15.2.2 [⟨#[105, 110, 107]⟩, ⟨#[115, 101, 97]⟩]) (fun x16 => ((specSetAttr x12.1 ⟨#[110]⟩ (specStringValue x16.1)), x16.2.1, x16.2.2))) else (x12.1, x15.2.1, x15.2.2)) = ((specSetAttr x12.1 ⟨#[110]⟩ (specStringValue x18.1)), x18.2.1, x18.2.2) from bif_t h17 (lt_b hx18 (rfl)))
  exact ⟨rfl, weak_sf [(2560, 448768)] (by kernel_rfl)⟩
 ·
  refine ckf h17 ?_
  refine awp_skip ?_
  obtain rfl : x16 = (x12.1, x15.2.1, x15.2.2) := hx16.symm.trans (show (bif (!x15.1) then (lt (α := ByteArray × Nat × Int) (specl01Pick code x15.2.1 x15.2.2 [⟨#[105, 110, 107]⟩, ⟨#[115, 101, 97]⟩]) (fun x16 => ((specSetAttr x12.1 ⟨#[110]⟩ (specStringValue x16.1)), x16.2.1, x16.2.2))) else (x12.1, x15.2.1, x15.2.2)) = (x12.1, x15.2.1, x15.2.2) from bif_f h17 (rfl))
  exact ⟨rfl, weak_fit (by kernel_rfl)⟩
 refine awp_seq ?_
 obtain ⟨x19, hx19⟩ : ∃ z : Bool × Nat × Int, specl01Once code x16.2.1 x16.2.2 2 = z := ⟨_, rfl⟩
 refine sn tt_ok [0, 4, 5, 42] [4, 5, 60000] (po 1 (.give none (.b x19.1) [.h code, .i ((x19.2.1 : Nat) : Int), .i x19.2.2]) (px (ob_give (hx19 ▸ specl01Once_a code x16.2.1 x16.2.2 2)) p0)) ?_
 refine ck x19.1 (fun h20 => ?_) (fun h20 => ?_)
 ·
  obtain ⟨x21, hx21⟩ : ∃ z : ByteArray × Nat × Int, specl01Pick code x19.2.1 x19.2.2 [⟨#[114, 101, 100]⟩, ⟨#[98, 108, 117, 101]⟩] = z := ⟨_, rfl⟩
  refine qN tt_ok tt_mx [0, 4, 5] [4, 5, 60000] (po 3 (.give none (.s x21.1) [.h code, .i ((x21.2.1 : Nat) : Int), .i x21.2.2]) (px (ob_give (hx21 ▸ specl01Pick_a code x19.2.1 x19.2.2 [⟨#[114, 101, 100]⟩, ⟨#[98, 108, 117, 101]⟩] (Nat.zero_lt_succ _))) (pc 4 (specStringValue_a x21.1) (pc 5 (specSetAttr_a x16.1 ⟨#[116]⟩ (specStringValue x21.1) (by first | omega | (simp; done) | (simp; omega))) p0)))) ?_
  refine tu tt_ok [] [5] [(4, [.i ((specSetAttr x16.1 ⟨#[116]⟩ (specStringValue x21.1)).1), .i ((specSetAttr x16.1 ⟨#[116]⟩ (specStringValue x21.1)).2.1), .b ((specSetAttr x16.1 ⟨#[116]⟩ (specStringValue x21.1)).2.2.1), .i ((specSetAttr x16.1 ⟨#[116]⟩ (specStringValue x21.1)).2.2.2.1), .o 3072 ((specSetAttr x16.1 ⟨#[116]⟩ (specStringValue x21.1)).2.2.2.2)]), (60000, [.h code, .i ((x21.2.1 : Nat) : Int), .i x21.2.2])] [4, 5, 60000] (p0) ?_
  refine awp_ret ?_
  have hE22 : specl04File code ci ch id = ((specSetAttr x16.1 ⟨#[116]⟩ (specStringValue x21.1)), x21.2.1, x21.2.2) := lt_b hx1 (lt_b hx2 (lt_b hx3 (lt_b hx4 (lt_b hx7 (lt_b hx8 (lt_b hx11 (lt_b hx12 (lt_b hx15 (lt_b hx16 (lt_b hx19 (bif_t h20 (lt_b hx21 (rfl)))))))))))))
  exact gret [] (congrArg (fun z => (.a [.i z.1.1, .i z.1.2.1, .b z.1.2.2.1, .i z.1.2.2.2.1, .o 0 z.1.2.2.2.2] : AV)) hE22.symm) (congrArg (fun z => ([.h code, .i ((z.2.1 : Nat) : Int), .i z.2.2] : List C)) hE22.symm)
 ·
  refine awp_skip ?_
  refine tn tt_ok [0, 4] [4, 60000] (p0) ?_
  refine awp_ret ?_
  have hE23 : specl04File code ci ch id = (x16.1, x19.2.1, x19.2.2) := lt_b hx1 (lt_b hx2 (lt_b hx3 (lt_b hx4 (lt_b hx7 (lt_b hx8 (lt_b hx11 (lt_b hx12 (lt_b hx15 (lt_b hx16 (lt_b hx19 (bif_f h20 (rfl))))))))))))
  exact gret [] (congrArg (fun z => (.a [.i z.1.1, .i z.1.2.1, .b z.1.2.2.1, .i z.1.2.2.2.1, .o 0 z.1.2.2.2.2] : AV)) hE23.symm) (congrArg (fun z => ([.h code, .i ((z.2.1 : Nat) : Int), .i z.2.2] : List C)) hE23.symm)
def specl05Store_f0 (code : (List UInt8)) (s0 : Int × StoreD × Nat × Int) : Rd (StoreD × Nat × Int) (Int × StoreD × Nat × Int) (StoreD × Nat × Int) := (lt (α := Int × Nat × Int) (specl01Below code s0.2.2.1 s0.2.2.2 7) (fun x1 => (bif decide (s0.1 < IntKind.i64.wrap (1 + x1.1)) then (lt (α := FileD × Nat × Int) (specl04File code x1.2.1 x1.2.2 1) (fun x3 => (.next (IntKind.i64.wrap (s0.1 + 1), (((specCreateFile s0.2.1 x3.1)).1), x3.2.1, x3.2.2)))) else (.brk (s0.2.1, x1.2.1, x1.2.2)))))
def specl05Store (code : (List UInt8)) (ci : Nat) (ch : Int) : StoreD × Nat × Int := (Out.on (whlD (specl05Store_f0 code) 8 (0, (specNewStore specl03Usual), ci, ch)) (fun y0 => (bif decide ((y0.1.2.1.length : Int) > (2 : Int)) then (lt (α := Bool × Nat × Int) (specl01Once code y0.2.1 y0.2.2 3) (fun x5 => (bif x5.1 then ((((specDeleteFile y0.1 ((nth y0.1.2.1 1).1))).1), x5.2.1, x5.2.2) else (y0.1, x5.2.1, x5.2.2)))) else (y0.1, y0.2.1, y0.2.2))))
theorem specl05Store_w (code : List UInt8) (ci : Nat) (ch : Int) (s : StoreD) : (whl (specl05Store_f0 code) 8 (0, s, ci, ch)).isSome = true :=
  whl_up (fun s => s.1) 7 (fun s s' h0 h => by
    unfold specl05Store_f0 lt at h
    have hb := specl01Below_bd code s.2.2.1 s.2.2.2 7
    generalize specl01Below code s.2.2.1 s.2.2.2 7 = x at h hb
    have e : IntKind.i64.wrap (1 + x.1) = 1 + x.1 := IntWalk.i64_in _ (by omega)
    simp only [e] at h
    by_cases hc : s.1 < 1 + x.1
    · simp only [decide_eq_true hc, cond_true] at h
      have h := Rd.next.inj h
      rw [← h]
      exact ⟨by omega, IntWalk.i64_in _ (by omega)⟩
    · simp only [decide_eq_false hc, cond_false] at h
      cases h) 7 _ (Int.le_refl 0) (by show (7 : Int) ≤ 0 + 7; omega)
theorem specl05Store_a (code : (List UInt8)) (ci : Nat) (ch : Int) : AGive Tryz.prog 102 [.h code, .i ((ci : Nat) : Int), .i ch] [] (.a [.o 0 ((((specl05Store code ci ch)).1).1), .q 1 ((((specl05Store code ci ch)).1).2.1), .i ((((specl05Store code ci ch)).1).2.2)]) [.h code, .i ((((specl05Store code ci ch)).2.1 : Nat) : Int), .i (((specl05Store code ci ch)).2.2)] := by
 refine agive_of (tt := tt) tt_ok Tryz.func102 (fn := Tryz.f102) rfl (by unfold FnOk; kernel_rfl) (Nat.le_of_ble_eq_true rfl) (Nat.le_of_ble_eq_true rfl) rfl rfl fun w0 F0 hG => ?_
 refine sn tt_ok [0, 2] [2, 60000] (p0) ?_
 refine tn tt_ok [0, 2, 3] [2, 3, 60000] (pc 0 (specl03Usual_a) (pc 1 (specNewStore_a specl03Usual) p0)) ?_
 refine awp_seq ?_
 refine tu tt_ok [(2, .p 2 0), (3, .p 3 0), (4, .i 0)] [] [(2, [.e 2, .e 5, .i 0]), (3, [.o 384 ((specNewStore specl03Usual).1), .o 385 ((specNewStore specl03Usual).2.1), .i ((specNewStore specl03Usual).2.2)])] [] (p0) ?_
 refine blw (fun (s0 : Int × StoreD × Nat × Int) => [(4, .i s0.1)]) [4] (fun s0 => [(3, [.o 147207 s0.2.1.1, .o 147208 s0.2.1.2.1, .i s0.2.1.2.2]), (60000, [.h code, .i ((s0.2.2.1 : Nat) : Int), .i s0.2.2.2])]) [3, 60000] (fun (y0 : StoreD × Nat × Int) => []) [4] (fun y0 => [(3, [.o 147357 y0.1.1, .o 147358 y0.1.2.1, .i y0.1.2.2]), (60000, [.h code, .i ((y0.2.1 : Nat) : Int), .i y0.2.2])]) [3, 60000] (fun (k0 : Nat) (s0 : Int × StoreD × Nat × Int) => whl (specl05Store_f0 code) k0 s0 = some (whlD (specl05Store_f0 code) 8 (0, (specNewStore specl03Usual), ci, ch))) (fun (y0 : StoreD × Nat × Int) => (whlD (specl05Store_f0 code) 8 (0, (specNewStore specl03Usual), ci, ch)) = .brk y0) 8 (0, (specNewStore specl03Usual), ci, ch) (weak_sf [(384, 147207), (385, 147208)] (by kernel_rfl)) (whl_some (specl05Store_w code ci ch _)) (fun _ h => whl_zero h) (fun k0 s0 hI0 => ?_) (fun y0 hD0 => ?_)
 ·
  refine awp_seq ?_
  obtain ⟨x1, hx1⟩ : ∃ z : Int × Nat × Int, specl01Below code s0.2.2.1 s0.2.2.2 7 = z := ⟨_, rfl⟩
  have hbx1 := hx1 ▸ specl01Below_bd code s0.2.2.1 s0.2.2.2 7
  refine sn tt_ok [0, 2, 3, 4, 11] [2, 3, 60000] (po 2 (.give none (.i x1.1) [.h code, .i ((x1.2.1 : Nat) : Int), .i x1.2.2]) (px (ob_give (hx1 ▸ specl01Below_a code s0.2.2.1 s0.2.2.2 7)) p0)) ?_
  refine ck (decide (s0.1 < IntKind.i64.wrap (1 + x1.1))) (fun h2 => ?_) (fun h2 => ?_)
  ·
   refine awp_skip ?_
   refine awp_seq ?_
   refine awp_block ?_
   obtain ⟨x3, hx3⟩ : ∃ z : FileD × Nat × Int, specl04File code x1.2.1 x1.2.2 1 = z := ⟨_, rfl⟩
   refine qN tt_ok tt_mx [0, 2, 3, 4] [2, 3, 60000] (po 2 (.give none (.a [.i x3.1.1, .i x3.1.2.1, .b x3.1.2.2.1, .i x3.1.2.2.2.1, .o 0 x3.1.2.2.2.2]) [.h code, .i ((x3.2.1 : Nat) : Int), .i x3.2.2]) (px (ob_give (hx3 ▸ specl04File_a code x1.2.1 x1.2.2 1)) (pc 3 (specCreateFile_a s0.2.1 x3.1) p0))) ?_
   refine qu tt_ok [(4, .i (IntKind.i64.wrap (s0.1 + 1)))] [4] [(3, [.o 1152 ((((specCreateFile s0.2.1 x3.1)).1).1), .o 1153 ((((specCreateFile s0.2.1 x3.1)).1).2.1), .i ((((specCreateFile s0.2.1 x3.1)).1).2.2)]), (60000, [.h code, .i ((x3.2.1 : Nat) : Int), .i x3.2.2])] [3, 60000] (p0) ?_
   exact Exists.intro (IntKind.i64.wrap (s0.1 + 1), (((specCreateFile s0.2.1 x3.1)).1), x3.2.1, x3.2.2) (And.intro (weak_sf [(1152, 147207), (1153, 147208)] (by kernel_rfl)) (wn hI0 (lt_b hx1 (bif_t h2 (lt_b hx3 (rfl))))))
  ·
   refine awp_exit ?_
   exact Exists.intro (s0.2.1, x1.2.1, x1.2.2) (And.intro (weak_sf [(147207, 147357), (147208, 147358)] (by kernel_rfl)) (wb hI0 (lt_b hx1 (bif_f h2 (rfl)))))
 ·
  refine awp_seq ?_
  refine awp_seq ?_
  refine awp_split (decide ((y0.1.2.1.length : Int) > (2 : Int))) (fun h4 => ?_) (fun h4 => ?_)
  ·
   have h4d := of_decide_eq_true h4
   obtain ⟨x5, hx5⟩ : ∃ z : Bool × Nat × Int, specl01Once code y0.2.1 y0.2.2 3 = z := ⟨_, rfl⟩
   refine rn tt_ok [0, 2, 3, 29] [2, 3, 60000] (pl 2 y0.1.2.1 (pt 3 h4 (po 6 (.give none (.b x5.1) [.h code, .i ((x5.2.1 : Nat) : Int), .i x5.2.2]) (px (ob_give (hx5 ▸ specl01Once_a code y0.2.1 y0.2.2 3)) p0)))) ?_
   refine ck x5.1 (fun h6 => ?_) (fun h6 => ?_)
   ·
    refine wB 3 1 (.own true 147358) y0.1.2.1 (fun hw8 hl9 => ?_)
    have hx7 := ng y0.1.2.1 1
    refine qN tt_ok tt_mx [0, 2, 3] [2, 3, 60000] (pG 3 1 hx7 (pc 6 (specDeleteFile_a y0.1 ((nth y0.1.2.1 1).1)) p0)) ?_
    refine tu tt_ok [] [3] [(2, [.o 2368 ((((specDeleteFile y0.1 ((nth y0.1.2.1 1).1))).1).1), .q 2369 ((((specDeleteFile y0.1 ((nth y0.1.2.1 1).1))).1).2.1), .i ((((specDeleteFile y0.1 ((nth y0.1.2.1 1).1))).1).2.2)]), (60000, [.h code, .i ((x5.2.1 : Nat) : Int), .i x5.2.2])] [2, 3, 60000] (p0) ?_
    refine awp_ret ?_
    have hE10 : specl05Store code ci ch = ((((specDeleteFile y0.1 ((nth y0.1.2.1 1).1))).1), x5.2.1, x5.2.2) := on_b hD0 (bif_t h4 (lt_b hx5 (bif_t h6 (rfl))))
    exact gret [] (congrArg (fun z => (.a [.o 0 z.1.1, .q 1 z.1.2.1, .i z.1.2.2] : AV)) hE10.symm) (congrArg (fun z => ([.h code, .i ((z.2.1 : Nat) : Int), .i z.2.2] : List C)) hE10.symm)
   ·
    refine awp_skip ?_
    refine tn tt_ok [0, 2] [2, 60000] (p0) ?_
    refine awp_demotes [147358] rfl ?_
    refine awp_ret ?_
    have hE11 : specl05Store code ci ch = (y0.1, x5.2.1, x5.2.2) := on_b hD0 (bif_t h4 (lt_b hx5 (bif_f h6 (rfl))))
    exact gret [] (congrArg (fun z => (.a [.o 0 z.1.1, .q 1 z.1.2.1, .i z.1.2.2] : AV)) hE11.symm) (congrArg (fun z => ([.h code, .i ((z.2.1 : Nat) : Int), .i z.2.2] : List C)) hE11.symm)
  ·
   refine ru tt_ok [(29, .b false)] [] [] [] (pl 2 y0.1.2.1 (pf 3 h4 p0)) ?_
   refine ckF ?_
   refine awp_skip ?_
   refine sn tt_ok [0, 2] [2, 60000] (p0) ?_
   refine awp_demotes [147358] rfl ?_
   refine awp_ret ?_
   have hE12 : specl05Store code ci ch = (y0.1, y0.2.1, y0.2.2) := on_b hD0 (bif_f h4 (rfl))
   exact gret [] (congrArg (fun z => (.a [.o 0 z.1.1, .q 1 z.1.2.1, .i z.1.2.2] : AV)) hE12.symm) (congrArg (fun z => ([.h code, .i ((z.2.1 : Nat) : Int), .i z.2.2] : List C)) hE12.symm)
def specl09DirName (code : (List UInt8)) (ci : Nat) (ch : Int) : ByteArray × Nat × Int := (lt (α := ByteArray × Nat × Int) (specl01Pick code ci ch [⟨#[100, 97]⟩, ⟨#[100, 98]⟩, ⟨#[100, 99]⟩, ⟨#[100, 100]⟩, ⟨#[100, 97]⟩, ⟨#[100, 98]⟩, ⟨#[100, 99]⟩]) (fun x1 => (x1.1, x1.2.1, x1.2.2)))
theorem specl09DirName_a (code : (List UInt8)) (ci : Nat) (ch : Int) : AGive Tryz.prog 181 [.h code, .i ((ci : Nat) : Int), .i ch] [] (.s (((specl09DirName code ci ch)).1)) [.h code, .i ((((specl09DirName code ci ch)).2.1 : Nat) : Int), .i (((specl09DirName code ci ch)).2.2)] := by
 refine agive_of (tt := tt) tt_ok Tryz.func181 (fn := Tryz.f181) rfl (by unfold FnOk; kernel_rfl) (Nat.le_of_ble_eq_true rfl) (Nat.le_of_ble_eq_true rfl) rfl rfl fun w0 F0 hG => ?_
 refine sn tt_ok [0, 2] [60000] (p0) ?_
 obtain ⟨x1, hx1⟩ : ∃ z : ByteArray × Nat × Int, specl01Pick code ci ch [⟨#[100, 97]⟩, ⟨#[100, 98]⟩, ⟨#[100, 99]⟩, ⟨#[100, 100]⟩, ⟨#[100, 97]⟩, ⟨#[100, 98]⟩, ⟨#[100, 99]⟩] = z := ⟨_, rfl⟩
 refine tn tt_ok [0, 2] [60000] (po 2 (.give none (.s x1.1) [.h code, .i ((x1.2.1 : Nat) : Int), .i x1.2.2]) (px (ob_give (hx1 ▸ specl01Pick_a code ci ch [⟨#[100, 97]⟩, ⟨#[100, 98]⟩, ⟨#[100, 99]⟩, ⟨#[100, 100]⟩, ⟨#[100, 97]⟩, ⟨#[100, 98]⟩, ⟨#[100, 99]⟩] (Nat.zero_lt_succ _))) p0)) ?_
 refine awp_ret ?_
 have hE2 : specl09DirName code ci ch = (x1.1, x1.2.1, x1.2.2) := lt_b hx1 (rfl)
 exact gret [] (congrArg (fun z => (.s z.1 : AV)) hE2.symm) (congrArg (fun z => ([.h code, .i ((z.2.1 : Nat) : Int), .i z.2.2] : List C)) hE2.symm)
def specl09Leaf (code : (List UInt8)) (ci : Nat) (ch : Int) : NodeD × Nat × Int := (lt (α := Int × Nat × Int) (specl01Below code ci ch 9) (fun x1 => (bif (x1.1 == (0 : Int)) then ((1, 0, 0, ⟨#[]⟩, (0, 0, ⟨#[]⟩)), x1.2.1, x1.2.2) else (bif (x1.1 == (1 : Int)) then (lt (α := ByteArray × Nat × Int) (specl01Pick code x1.2.1 x1.2.2 [⟨#[97]⟩, ⟨#[98]⟩, ⟨#[110]⟩, ⟨#[116]⟩]) (fun x5 => ((2, 0, 0, x5.1, (0, 0, ⟨#[]⟩)), x5.2.1, x5.2.2))) else (bif (x1.1 == (2 : Int)) then (lt (α := Int × Nat × Int) (specl01Below code x1.2.1 x1.2.2 4) (fun x8 => ((3, 0, 0, ⟨#[97]⟩, (specIntValue x8.1)), x8.2.1, x8.2.2))) else (bif (x1.1 == (3 : Int)) then (lt (α := ByteArray × Nat × Int) (specl01Pick code x1.2.1 x1.2.2 [⟨#[114, 101, 100]⟩, ⟨#[98, 108, 117, 101]⟩]) (fun x11 => ((3, 0, 0, ⟨#[116]⟩, (specStringValue x11.1)), x11.2.1, x11.2.2))) else (bif (x1.1 == (4 : Int)) then (lt (α := ByteArray × Nat × Int) (specl01Pick code x1.2.1 x1.2.2 [⟨#[97]⟩, ⟨#[98]⟩]) (fun x14 => (lt (α := Int × Nat × Int) (specl01Below code x14.2.1 x14.2.2 3) (fun x15 => ((4, 0, 0, x14.1, (specIntValue (IntKind.i64.wrap (1 + x15.1)))), x15.2.1, x15.2.2))))) else (bif (bif (x1.1 == (5 : Int)) then (x1.1 == (5 : Int)) else (x1.1 == (6 : Int))) then (lt (α := ByteArray × Nat × Int) (specl09DirName code x1.2.1 x1.2.2) (fun x19 => ((8, 0, 0, x19.1, (0, 0, ⟨#[]⟩)), x19.2.1, x19.2.2))) else (bif (x1.1 == (7 : Int)) then (lt (α := ByteArray × Nat × Int) (specl09DirName code x1.2.1 x1.2.2) (fun x22 => ((9, 0, 0, x22.1, (0, 0, ⟨#[]⟩)), x22.2.1, x22.2.2))) else (lt (α := Int × Nat × Int) (specl01Below code x1.2.1 x1.2.2 4) (fun x24 => ((3, 0, 0, ⟨#[98]⟩, (specIntValue x24.1)), x24.2.1, x24.2.2))))))))))))
theorem specl09Leaf_a (code : (List UInt8)) (ci : Nat) (ch : Int) : AGive Tryz.prog 209 [.h code, .i ((ci : Nat) : Int), .i ch] [] (.a [.i ((((specl09Leaf code ci ch)).1).1), .i ((((specl09Leaf code ci ch)).1).2.1), .i ((((specl09Leaf code ci ch)).1).2.2.1), .s ((((specl09Leaf code ci ch)).1).2.2.2.1), .i ((((specl09Leaf code ci ch)).1).2.2.2.2.1), .i ((((specl09Leaf code ci ch)).1).2.2.2.2.2.1), .s ((((specl09Leaf code ci ch)).1).2.2.2.2.2.2)]) [.h code, .i ((((specl09Leaf code ci ch)).2.1 : Nat) : Int), .i (((specl09Leaf code ci ch)).2.2)] := by
 refine agive_of (tt := tt) tt_ok Tryz.func209 (fn := Tryz.f209) rfl (by unfold FnOk; kernel_rfl) (Nat.le_of_ble_eq_true rfl) (Nat.le_of_ble_eq_true rfl) rfl rfl fun w0 F0 hG => ?_
 refine sn tt_ok [0, 2] [2, 60000] (p0) ?_
 refine awp_seq ?_
 obtain ⟨x1, hx1⟩ : ∃ z : Int × Nat × Int, specl01Below code ci ch 9 = z := ⟨_, rfl⟩
 have hbx1 := hx1 ▸ specl01Below_bd code ci ch 9
 refine tn tt_ok [0, 2, 4] [2, 60000] (po 1 (.give none (.i x1.1) [.h code, .i ((x1.2.1 : Nat) : Int), .i x1.2.2]) (px (ob_give (hx1 ▸ specl01Below_a code ci ch 9)) p0)) ?_
 refine awp_block ?_
 refine tu tt_ok [(2, .p 2 0), (4, .i x1.1), (5, .b (x1.1 == (0 : Int)))] [] [(2, [.i 0, .i 0, .i 0, .s ⟨#[]⟩, .i 0, .i 0, .s ⟨#[]⟩]), (60000, [.h code, .i ((x1.2.1 : Nat) : Int), .i x1.2.2])] [60000] (p0) ?_
 refine ck (x1.1 == (0 : Int)) (fun h2 => ?_) (fun h2 => ?_)
 ·
  refine sn tt_ok [0, 2] [2, 60000] (p0) ?_
  refine awp_ret ?_
  have hE3 : specl09Leaf code ci ch = ((1, 0, 0, ⟨#[]⟩, (0, 0, ⟨#[]⟩)), x1.2.1, x1.2.2) := lt_b hx1 (bif_t h2 (rfl))
  exact gret [] (congrArg (fun z => (.a [.i z.1.1, .i z.1.2.1, .i z.1.2.2.1, .s z.1.2.2.2.1, .i z.1.2.2.2.2.1, .i z.1.2.2.2.2.2.1, .s z.1.2.2.2.2.2.2] : AV)) hE3.symm) (congrArg (fun z => ([.h code, .i ((z.2.1 : Nat) : Int), .i z.2.2] : List C)) hE3.symm)
 ·
  refine sn tt_ok [0, 2, 4, 8] [2, 60000] (p0) ?_
  refine ck (x1.1 == (1 : Int)) (fun h4 => ?_) (fun h4 => ?_)
  ·
   obtain ⟨x5, hx5⟩ : ∃ z : ByteArray × Nat × Int, specl01Pick code x1.2.1 x1.2.2 [⟨#[97]⟩, ⟨#[98]⟩, ⟨#[110]⟩, ⟨#[116]⟩] = z := ⟨_, rfl⟩
   refine tn tt_ok [0, 2] [2, 60000] (po 2 (.give none (.s x5.1) [.h code, .i ((x5.2.1 : Nat) : Int), .i x5.2.2]) (px (ob_give (hx5 ▸ specl01Pick_a code x1.2.1 x1.2.2 [⟨#[97]⟩, ⟨#[98]⟩, ⟨#[110]⟩, ⟨#[116]⟩] (Nat.zero_lt_succ _))) p0)) ?_
   refine awp_ret ?_
   have hE6 : specl09Leaf code ci ch = ((2, 0, 0, x5.1, (0, 0, ⟨#[]⟩)), x5.2.1, x5.2.2) := lt_b hx1 (bif_f h2 (bif_t h4 (lt_b hx5 (rfl))))
   exact gret [] (congrArg (fun z => (.a [.i z.1.1, .i z.1.2.1, .i z.1.2.2.1, .s z.1.2.2.2.1, .i z.1.2.2.2.2.1, .i z.1.2.2.2.2.2.1, .s z.1.2.2.2.2.2.2] : AV)) hE6.symm) (congrArg (fun z => ([.h code, .i ((z.2.1 : Nat) : Int), .i z.2.2] : List C)) hE6.symm)
  ·
   refine tn tt_ok [0, 2, 4, 14] [2, 60000] (p0) ?_
   refine ck (x1.1 == (2 : Int)) (fun h7 => ?_) (fun h7 => ?_)
   ·
    obtain ⟨x8, hx8⟩ : ∃ z : Int × Nat × Int, specl01Below code x1.2.1 x1.2.2 4 = z := ⟨_, rfl⟩
    have hbx8 := hx8 ▸ specl01Below_bd code x1.2.1 x1.2.2 4
    refine tu tt_ok [] [4, 5] [(2, [.i 3, .i 0, .i 0, .s ⟨#[97]⟩, .i ((specIntValue x8.1).1), .i ((specIntValue x8.1).2.1), .s ((specIntValue x8.1).2.2)]), (60000, [.h code, .i ((x8.2.1 : Nat) : Int), .i x8.2.2])] [2, 60000] (po 1 (.give none (.i x8.1) [.h code, .i ((x8.2.1 : Nat) : Int), .i x8.2.2]) (px (ob_give (hx8 ▸ specl01Below_a code x1.2.1 x1.2.2 4)) (pc 2 (specIntValue_a x8.1) p0))) ?_
    refine awp_ret ?_
    have hE9 : specl09Leaf code ci ch = ((3, 0, 0, ⟨#[97]⟩, (specIntValue x8.1)), x8.2.1, x8.2.2) := lt_b hx1 (bif_f h2 (bif_f h4 (bif_t h7 (lt_b hx8 (rfl)))))
    exact gret [] (congrArg (fun z => (.a [.i z.1.1, .i z.1.2.1, .i z.1.2.2.1, .s z.1.2.2.2.1, .i z.1.2.2.2.2.1, .i z.1.2.2.2.2.2.1, .s z.1.2.2.2.2.2.2] : AV)) hE9.symm) (congrArg (fun z => ([.h code, .i ((z.2.1 : Nat) : Int), .i z.2.2] : List C)) hE9.symm)
   ·
    refine tu tt_ok [(20, .b (x1.1 == (3 : Int)))] [5] [] [] (p0) ?_
    refine ck (x1.1 == (3 : Int)) (fun h10 => ?_) (fun h10 => ?_)
    ·
     obtain ⟨x11, hx11⟩ : ∃ z : ByteArray × Nat × Int, specl01Pick code x1.2.1 x1.2.2 [⟨#[114, 101, 100]⟩, ⟨#[98, 108, 117, 101]⟩] = z := ⟨_, rfl⟩
     refine sn tt_ok [0, 2] [2, 60000] (po 2 (.give none (.s x11.1) [.h code, .i ((x11.2.1 : Nat) : Int), .i x11.2.2]) (px (ob_give (hx11 ▸ specl01Pick_a code x1.2.1 x1.2.2 [⟨#[114, 101, 100]⟩, ⟨#[98, 108, 117, 101]⟩] (Nat.zero_lt_succ _))) (pc 3 (specStringValue_a x11.1) p0))) ?_
     refine awp_ret ?_
     have hE12 : specl09Leaf code ci ch = ((3, 0, 0, ⟨#[116]⟩, (specStringValue x11.1)), x11.2.1, x11.2.2) := lt_b hx1 (bif_f h2 (bif_f h4 (bif_f h7 (bif_t h10 (lt_b hx11 (rfl))))))
     exact gret [] (congrArg (fun z => (.a [.i z.1.1, .i z.1.2.1, .i z.1.2.2.1, .s z.1.2.2.2.1, .i z.1.2.2.2.2.1, .i z.1.2.2.2.2.2.1, .s z.1.2.2.2.2.2.2] : AV)) hE12.symm) (congrArg (fun z => ([.h code, .i ((z.2.1 : Nat) : Int), .i z.2.2] : List C)) hE12.symm)
    ·
     refine sn tt_ok [0, 2, 4, 27] [2, 60000] (p0) ?_
     refine ck (x1.1 == (4 : Int)) (fun h13 => ?_) (fun h13 => ?_)
     ·
      obtain ⟨x14, hx14⟩ : ∃ z : ByteArray × Nat × Int, specl01Pick code x1.2.1 x1.2.2 [⟨#[97]⟩, ⟨#[98]⟩] = z := ⟨_, rfl⟩
      obtain ⟨x15, hx15⟩ : ∃ z : Int × Nat × Int, specl01Below code x14.2.1 x14.2.2 3 = z := ⟨_, rfl⟩
      have hbx15 := hx15 ▸ specl01Below_bd code x14.2.1 x14.2.2 3
      refine tn tt_ok [0, 2] [2, 60000] (po 2 (.give none (.s x14.1) [.h code, .i ((x14.2.1 : Nat) : Int), .i x14.2.2]) (px (ob_give (hx14 ▸ specl01Pick_a code x1.2.1 x1.2.2 [⟨#[97]⟩, ⟨#[98]⟩] (Nat.zero_lt_succ _))) (po 4 (.give none (.i x15.1) [.h code, .i ((x15.2.1 : Nat) : Int), .i x15.2.2]) (px (ob_give (hx15 ▸ specl01Below_a code x14.2.1 x14.2.2 3)) (pc 6 (specIntValue_a (IntKind.i64.wrap (1 + x15.1))) p0))))) ?_
      refine awp_ret ?_
      have hE16 : specl09Leaf code ci ch = ((4, 0, 0, x14.1, (specIntValue (IntKind.i64.wrap (1 + x15.1)))), x15.2.1, x15.2.2) := lt_b hx1 (bif_f h2 (bif_f h4 (bif_f h7 (bif_f h10 (bif_t h13 (lt_b hx14 (lt_b hx15 (rfl))))))))
      exact gret [] (congrArg (fun z => (.a [.i z.1.1, .i z.1.2.1, .i z.1.2.2.1, .s z.1.2.2.2.1, .i z.1.2.2.2.2.1, .i z.1.2.2.2.2.2.1, .s z.1.2.2.2.2.2.2] : AV)) hE16.symm) (congrArg (fun z => ([.h code, .i ((z.2.1 : Nat) : Int), .i z.2.2] : List C)) hE16.symm)
     ·
      refine awp_seq ?_
      refine tn tt_ok [0, 2, 4, 37] [2, 60000] (p0) ?_
      refine mz [(37, .b (x1.1 == (5 : Int)))] [20] [] [] ?_
      refine jn [(37, .b (bif (x1.1 == (5 : Int)) then (x1.1 == (5 : Int)) else (x1.1 == (6 : Int))))] [37] [] [] (x1.1 == (5 : Int)) (fun h17 => ?_) (fun h17 => ?_) ?_
      ·
       refine ckt h17 ?_
       refine awp_skip ?_
       exact ⟨rfl, weak_fit (by rw [h17]; first | done | kernel_rfl)⟩
      ·
       refine ckf h17 ?_
       refine rn tt_ok [0, 2, 4, 37] [2, 60000] (p0) ?_
       exact ⟨rfl, weak_fit (by rw [h17]; first | done | kernel_rfl)⟩
      refine ck (bif (x1.1 == (5 : Int)) then (x1.1 == (5 : Int)) else (x1.1 == (6 : Int))) (fun h18 => ?_) (fun h18 => ?_)
      ·
       obtain ⟨x19, hx19⟩ : ∃ z : ByteArray × Nat × Int, specl09DirName code x1.2.1 x1.2.2 = z := ⟨_, rfl⟩
       refine sn tt_ok [0, 2] [2, 60000] (po 1 (.give none (.s x19.1) [.h code, .i ((x19.2.1 : Nat) : Int), .i x19.2.2]) (px (ob_give (hx19 ▸ specl09DirName_a code x1.2.1 x1.2.2)) p0)) ?_
       refine awp_ret ?_
       have hE20 : specl09Leaf code ci ch = ((8, 0, 0, x19.1, (0, 0, ⟨#[]⟩)), x19.2.1, x19.2.2) := lt_b hx1 (bif_f h2 (bif_f h4 (bif_f h7 (bif_f h10 (bif_f h13 (bif_t h18 (lt_b hx19 (rfl))))))))
       exact gret [] (congrArg (fun z => (.a [.i z.1.1, .i z.1.2.1, .i z.1.2.2.1, .s z.1.2.2.2.1, .i z.1.2.2.2.2.1, .i z.1.2.2.2.2.2.1, .s z.1.2.2.2.2.2.2] : AV)) hE20.symm) (congrArg (fun z => ([.h code, .i ((z.2.1 : Nat) : Int), .i z.2.2] : List C)) hE20.symm)
      ·
       refine sn tt_ok [0, 2, 43] [2, 60000] (p0) ?_
       refine ck (x1.1 == (7 : Int)) (fun h21 => ?_) (fun h21 => ?_)
       ·
        obtain ⟨x22, hx22⟩ : ∃ z : ByteArray × Nat × Int, specl09DirName code x1.2.1 x1.2.2 = z := ⟨_, rfl⟩
        refine tn tt_ok [0, 2] [2, 60000] (po 1 (.give none (.s x22.1) [.h code, .i ((x22.2.1 : Nat) : Int), .i x22.2.2]) (px (ob_give (hx22 ▸ specl09DirName_a code x1.2.1 x1.2.2)) p0)) ?_
        refine awp_ret ?_
        have hE23 : specl09Leaf code ci ch = ((9, 0, 0, x22.1, (0, 0, ⟨#[]⟩)), x22.2.1, x22.2.2) := lt_b hx1 (bif_f h2 (bif_f h4 (bif_f h7 (bif_f h10 (bif_f h13 (bif_f h18 (bif_t h21 (lt_b hx22 (rfl)))))))))
        exact gret [] (congrArg (fun z => (.a [.i z.1.1, .i z.1.2.1, .i z.1.2.2.1, .s z.1.2.2.2.1, .i z.1.2.2.2.2.1, .i z.1.2.2.2.2.2.1, .s z.1.2.2.2.2.2.2] : AV)) hE23.symm) (congrArg (fun z => ([.h code, .i ((z.2.1 : Nat) : Int), .i z.2.2] : List C)) hE23.symm)
       ·
        refine awp_skip ?_
        obtain ⟨x24, hx24⟩ : ∃ z : Int × Nat × Int, specl01Below code x1.2.1 x1.2.2 4 = z := ⟨_, rfl⟩
        have hbx24 := hx24 ▸ specl01Below_bd code x1.2.1 x1.2.2 4
        refine tn tt_ok [0, 2] [2, 60000] (po 1 (.give none (.i x24.1) [.h code, .i ((x24.2.1 : Nat) : Int), .i x24.2.2]) (px (ob_give (hx24 ▸ specl01Below_a code x1.2.1 x1.2.2 4)) (pc 2 (specIntValue_a x24.1) p0))) ?_
        refine awp_ret ?_
        have hE25 : specl09Leaf code ci ch = ((3, 0, 0, ⟨#[98]⟩, (specIntValue x24.1)), x24.2.1, x24.2.2) := lt_b hx1 (bif_f h2 (bif_f h4 (bif_f h7 (bif_f h10 (bif_f h13 (bif_f h18 (bif_f h21 (lt_b hx24 (rfl)))))))))
        exact gret [] (congrArg (fun z => (.a [.i z.1.1, .i z.1.2.1, .i z.1.2.2.1, .s z.1.2.2.2.1, .i z.1.2.2.2.2.1, .i z.1.2.2.2.2.2.1, .s z.1.2.2.2.2.2.2] : AV)) hE25.symm) (congrArg (fun z => ([.h code, .i ((z.2.1 : Nat) : Int), .i z.2.2] : List C)) hE25.symm)
def specl09Grow (n_ : Nat) (code : (List UInt8)) (ci : Nat) (ch : Int) (q : (List NodeD)) (deep : Int) (not : Bool) : (List NodeD) × Nat × Int := match n_ with
 | 0 => default
 | n_ + 1 => (bif (deep == (0 : Int)) then (lt (α := NodeD × Nat × Int) (specl09Leaf code ci ch) (fun x2 => (q ++ [x2.1], x2.2.1, x2.2.2))) else (lt (α := Bool × Nat × Int) (specl01Once code ci ch 3) (fun x6 => (bif x6.1 then (lt (α := NodeD × Nat × Int) (specl09Leaf code x6.2.1 x6.2.2) (fun x8 => (q ++ [x8.1], x8.2.1, x8.2.2))) else (lt (α := Int × Nat × Int) (specl01Below code x6.2.1 x6.2.2 5) (fun x12 => (bif ((x12.1 == (0 : Int)) && not) then (lt (α := (List NodeD) × Nat × Int) (specl09Grow n_ code x12.2.1 x12.2.2 q (deep - 1) true) (fun x15 => (x15.1 ++ [((5, ((x15.1.length : Int) - 1), 0, ⟨#[]⟩, (0, 0, ⟨#[]⟩)) : NodeD)], x15.2.1, x15.2.2))) else (lt (α := (List NodeD) × Nat × Int) (specl09Grow n_ code x12.2.1 x12.2.2 q (deep - 1) not) (fun x19 => (lt (α := (List NodeD) × Nat × Int) (specl09Grow n_ code x19.2.1 x19.2.2 x19.1 0 not) (fun x22 => (bif decide (x12.1 < (3 : Int)) then (x22.1 ++ [((6, ((x19.1.length : Int) - 1), ((x22.1.length : Int) - 1), ⟨#[]⟩, (0, 0, ⟨#[]⟩)) : NodeD)], x22.2.1, x22.2.2) else (x22.1 ++ [((7, ((x19.1.length : Int) - 1), ((x22.1.length : Int) - 1), ⟨#[]⟩, (0, 0, ⟨#[]⟩)) : NodeD)], x22.2.1, x22.2.2)))))))))))))
theorem grow_len (code : List UInt8) : ∀ (n ci : Nat) (ch : Int) (q : List NodeD) (deep : Int) (not_ : Bool), 0 ≤ deep → deep < n → q.length + 1 ≤ (specl09Grow n code ci ch q deep not_).1.length ∧ ((specl09Grow n code ci ch q deep not_).1.length : Int) ≤ q.length + 2 * deep + 1
  | 0, _, _, _, _, _, h0, h1 => by omega
  | n + 1, ci, ch, q, deep, not_, h0, h1 => by
    have ih := grow_len code n
    unfold specl09Grow lt
    by_cases hz : deep = 0
    · rw [beq_iff_eq.2 hz]
      simp only [cond_true, List.length_append, List.length_cons, List.length_nil]
      omega
    · rw [beq_eq_false_iff_ne.2 hz]
      simp only [cond_false]
      generalize specl01Once code ci ch 3 = x
      cases x.1 with
      | true =>
        simp only [cond_true, List.length_append, List.length_cons, List.length_nil]
        omega
      | false =>
        simp only [cond_false]
        generalize specl01Below code x.2.1 x.2.2 5 = y
        cases ((y.1 == (0 : Int)) && not_) with
        | true =>
          simp only [cond_true, List.length_append, List.length_cons, List.length_nil]
          have := ih y.2.1 y.2.2 q (deep - 1) true (by omega) (by omega)
          omega
        | false =>
          simp only [cond_false]
          have h2 := ih y.2.1 y.2.2 q (deep - 1) not_ (by omega) (by omega)
          generalize specl09Grow n code y.2.1 y.2.2 q (deep - 1) not_ = z at h2
          have h3 := ih z.2.1 z.2.2 z.1 0 not_ (by omega) (by omega)
          generalize specl09Grow n code z.2.1 z.2.2 z.1 0 not_ = u at h3
          cases decide (y.1 < (3 : Int)) <;> simp only [cond_true, cond_false, List.length_append, List.length_cons, List.length_nil] <;> omega
theorem specl09Grow_a : ∀ (n_ : Nat) (code : (List UInt8)) (ci : Nat) (ch : Int) (q : (List NodeD)) (deep : Int) (not : Bool) (hd : 0 ≤ deep) (hn : deep < (n_ : Int)) (hq : (List.length q : Int) + 2 * deep ≤ 1000), AGive Tryz.prog 210 [.h code, .i ((ci : Nat) : Int), .i ch] [.o 63 q, .i deep, .b not] (.o 0 (((specl09Grow n_ code ci ch q deep not)).1)) [.h code, .i ((((specl09Grow n_ code ci ch q deep not)).2.1 : Nat) : Int), .i (((specl09Grow n_ code ci ch q deep not)).2.2)] := by
 intro n_
 induction n_ with
 | zero => intro code ci ch q deep not hd hn hq; exact (by omega : False).elim
 | succ n_ ih =>
  intro code ci ch q deep not hd hn hq
  refine agive_of (tt := tt) tt_ok Tryz.func210 (fn := Tryz.f210) rfl (by unfold FnOk; kernel_rfl) (Nat.le_of_ble_eq_true rfl) (Nat.le_of_ble_eq_true rfl) rfl rfl fun w0 F0 hG => ?_
  refine su tt_ok [(8, .e 0)] [] [] [] (p0) ?_
  refine awp_seq ?_
  refine awp_seq ?_
  refine awp_split (deep == (0 : Int)) (fun h1 => ?_) (fun h1 => ?_)
  ·
   have h1d := eq_of_beq h1
   refine ru tt_ok [(16, .b true)] [] [] [] (pt 1 h1 p0) ?_
   refine ckT ?_
   obtain ⟨x2, hx2⟩ : ∃ z : NodeD × Nat × Int, specl09Leaf code ci ch = z := ⟨_, rfl⟩
   refine wT 1 0 (.own true 63) q (fun hw3 hl4 => ?_)
   refine su tt_ok [(8, .one (.slc (.own true 1344) 7 ((eL q) ++ [[.i x2.1.1, .i x2.1.2.1, .i x2.1.2.2.1, .s x2.1.2.2.2.1, .i x2.1.2.2.2.2.1, .i x2.1.2.2.2.2.2.1, .s x2.1.2.2.2.2.2.2]])))] [1, 8, 16] [(60000, [.h code, .i ((x2.2.1 : Nat) : Int), .i x2.2.2])] [60000] (po 2 (.give none (.a [.i x2.1.1, .i x2.1.2.1, .i x2.1.2.2.1, .s x2.1.2.2.2.1, .i x2.1.2.2.2.2.1, .i x2.1.2.2.2.2.2.1, .s x2.1.2.2.2.2.2.2]) [.h code, .i ((x2.2.1 : Nat) : Int), .i x2.2.2]) (px (ob_give (hx2 ▸ specl09Leaf_a code ci ch)) (pa q [x2.1] p0))) ?_
   refine eqn [(8, .o 1344 (q ++ [x2.1]))] [8] [] [] (by rw [show ((eL q) ++ [[.i x2.1.1, .i x2.1.2.1, .i x2.1.2.2.1, .s x2.1.2.2.2.1, .i x2.1.2.2.2.2.1, .i x2.1.2.2.2.2.2.1, .s x2.1.2.2.2.2.2.2]]) = (eL (q ++ [x2.1])) from app_eL (rfl) (rfl)]; first | done | kernel_rfl) ?_
   refine awp_ret ?_
   have hE5 : specl09Grow (n_ + 1) code ci ch q deep not = (q ++ [x2.1], x2.2.1, x2.2.2) := bif_t h1 (lt_b hx2 (rfl))
   exact gret [] (congrArg (fun z => (.o 0 z.1 : AV)) hE5.symm) (congrArg (fun z => ([.h code, .i ((z.2.1 : Nat) : Int), .i z.2.2] : List C)) hE5.symm)
  ·
   have h1d := ne_of_beq h1
   obtain ⟨x6, hx6⟩ : ∃ z : Bool × Nat × Int, specl01Once code ci ch 3 = z := ⟨_, rfl⟩
   refine rn tt_ok [0, 1, 2, 3, 8, 16] [60000] (pf 1 h1 (po 4 (.give none (.b x6.1) [.h code, .i ((x6.2.1 : Nat) : Int), .i x6.2.2]) (px (ob_give (hx6 ▸ specl01Once_a code ci ch 3)) p0))) ?_
   refine ck x6.1 (fun h7 => ?_) (fun h7 => ?_)
   ·
    obtain ⟨x8, hx8⟩ : ∃ z : NodeD × Nat × Int, specl09Leaf code x6.2.1 x6.2.2 = z := ⟨_, rfl⟩
    refine wT 1 0 (.own true 63) q (fun hw9 hl10 => ?_)
    refine tu tt_ok [(8, .one (.slc (.own true 1344) 7 ((eL q) ++ [[.i x8.1.1, .i x8.1.2.1, .i x8.1.2.2.1, .s x8.1.2.2.2.1, .i x8.1.2.2.2.2.1, .i x8.1.2.2.2.2.2.1, .s x8.1.2.2.2.2.2.2]])))] [1, 8] [(60000, [.h code, .i ((x8.2.1 : Nat) : Int), .i x8.2.2])] [60000] (po 2 (.give none (.a [.i x8.1.1, .i x8.1.2.1, .i x8.1.2.2.1, .s x8.1.2.2.2.1, .i x8.1.2.2.2.2.1, .i x8.1.2.2.2.2.2.1, .s x8.1.2.2.2.2.2.2]) [.h code, .i ((x8.2.1 : Nat) : Int), .i x8.2.2]) (px (ob_give (hx8 ▸ specl09Leaf_a code x6.2.1 x6.2.2)) (pa q [x8.1] p0))) ?_
    refine eqn [(8, .o 1344 (q ++ [x8.1]))] [8] [] [] (by rw [show ((eL q) ++ [[.i x8.1.1, .i x8.1.2.1, .i x8.1.2.2.1, .s x8.1.2.2.2.1, .i x8.1.2.2.2.2.1, .i x8.1.2.2.2.2.2.1, .s x8.1.2.2.2.2.2.2]]) = (eL (q ++ [x8.1])) from app_eL (rfl) (rfl)]; first | done | kernel_rfl) ?_
    refine awp_ret ?_
    have hE11 : specl09Grow (n_ + 1) code ci ch q deep not = (q ++ [x8.1], x8.2.1, x8.2.2) := bif_f h1 (lt_b hx6 (bif_t h7 (lt_b hx8 (rfl))))
    exact gret [] (congrArg (fun z => (.o 0 z.1 : AV)) hE11.symm) (congrArg (fun z => ([.h code, .i ((z.2.1 : Nat) : Int), .i z.2.2] : List C)) hE11.symm)
   ·
    refine awp_skip ?_
    obtain ⟨x12, hx12⟩ : ∃ z : Int × Nat × Int, specl01Below code x6.2.1 x6.2.2 5 = z := ⟨_, rfl⟩
    have hbx12 := hx12 ▸ specl01Below_bd code x6.2.1 x6.2.2 5
    refine tn tt_ok [0, 1, 2, 3, 8, 9] [60000] (po 1 (.give none (.i x12.1) [.h code, .i ((x12.2.1 : Nat) : Int), .i x12.2.2]) (px (ob_give (hx12 ▸ specl01Below_a code x6.2.1 x6.2.2 5)) p0)) ?_
    refine awp_seq ?_
    refine awp_seq ?_
    refine mz [(9, .i x12.1)] [] [(60000, [.h code, .i ((x12.2.1 : Nat) : Int), .i x12.2.2])] [60000] ?_
    refine jn [(28, .b ((x12.1 == (0 : Int)) && not))] [] [] [] (x12.1 == (0 : Int)) (fun h13 => ?_) (fun h13 => ?_) ?_
    ·
     refine ru tt_ok [(28, .b not)] [] [] [] (pt 1 h13 p0) ?_
     exact ⟨rfl, weak_fit (by rw [h13]; first | done | kernel_rfl)⟩
    ·
     refine ru tt_ok [(28, .b false)] [] [] [] (pf 1 h13 p0) ?_
     exact ⟨rfl, weak_fit (by rw [h13]; first | done | kernel_rfl)⟩
    refine ck ((x12.1 == (0 : Int)) && not) (fun h14 => ?_) (fun h14 => ?_)
    ·
     have h14l : ((x12.1 == (0 : Int))) = true := and_l h14
     have h14ld := eq_of_beq h14l
     have h14r : (not) = true := and_r h14
     obtain ⟨x15, hx15⟩ : ∃ z : (List NodeD) × Nat × Int, specl09Grow n_ code x12.2.1 x12.2.2 q (deep - 1) true = z := ⟨_, rfl⟩
     have hbx15 := hx15 ▸ grow_len code n_ x12.2.1 x12.2.2 q (deep - 1) true (by omega) (by omega)
     refine sn tt_ok [0, 1, 2, 3, 8, 9] [60000] (pe 3 (av_i (IntWalk.i64_in (deep - 1) (by omega))) (pt 4 h14r (po 5 (.give (some 63) (.o 0 x15.1) [.h code, .i ((x15.2.1 : Nat) : Int), .i x15.2.2]) (px (ob_give (hx15 ▸ ih code x12.2.1 x12.2.2 q (deep - 1) true (by omega) (by omega) (by omega))) p0)))) ?_
     refine wT 1 0 (.own true 2176) x15.1 (fun hw16 hl17 => ?_)
     refine tu tt_ok [(8, .one (.slc (.own true 2624) 7 ((eL x15.1) ++ [[.i 5, .i ((x15.1.length : Int) - 1), .i 0, .s ⟨#[]⟩, .i 0, .i 0, .s ⟨#[]⟩]])))] [1, 8, 28] [(60000, [.h code, .i ((x15.2.1 : Nat) : Int), .i x15.2.2])] [60000] (pl 2 x15.1 (pe 3 (av_i (IntWalk.i64_in ((x15.1.length : Int) - 1) (by omega))) (pa x15.1 [((5, ((x15.1.length : Int) - 1), 0, ⟨#[]⟩, (0, 0, ⟨#[]⟩)) : NodeD)] p0))) ?_
     refine eqn [(8, .o 2624 (x15.1 ++ [((5, ((x15.1.length : Int) - 1), 0, ⟨#[]⟩, (0, 0, ⟨#[]⟩)) : NodeD)]))] [8] [] [] (by rw [show ((eL x15.1) ++ [[.i 5, .i ((x15.1.length : Int) - 1), .i 0, .s ⟨#[]⟩, .i 0, .i 0, .s ⟨#[]⟩]]) = (eL (x15.1 ++ [((5, ((x15.1.length : Int) - 1), 0, ⟨#[]⟩, (0, 0, ⟨#[]⟩)) : NodeD)])) from app_eL (rfl) (rfl)]; first | done | kernel_rfl) ?_
     refine awp_ret ?_
     have hE18 : specl09Grow (n_ + 1) code ci ch q deep not = (x15.1 ++ [((5, ((x15.1.length : Int) - 1), 0, ⟨#[]⟩, (0, 0, ⟨#[]⟩)) : NodeD)], x15.2.1, x15.2.2) := bif_f h1 (lt_b hx6 (bif_f h7 (lt_b hx12 (bif_t h14 (lt_b hx15 (rfl))))))
     exact gret [] (congrArg (fun z => (.o 0 z.1 : AV)) hE18.symm) (congrArg (fun z => ([.h code, .i ((z.2.1 : Nat) : Int), .i z.2.2] : List C)) hE18.symm)
    ·
     refine awp_skip ?_
     obtain ⟨x19, hx19⟩ : ∃ z : (List NodeD) × Nat × Int, specl09Grow n_ code x12.2.1 x12.2.2 q (deep - 1) not = z := ⟨_, rfl⟩
     have hbx19 := hx19 ▸ grow_len code n_ x12.2.1 x12.2.2 q (deep - 1) not (by omega) (by omega)
     refine sn tt_ok [0, 1, 3, 8, 9] [60000] (pe 3 (av_i (IntWalk.i64_in (deep - 1) (by omega))) (po 5 (.give (some 63) (.o 0 x19.1) [.h code, .i ((x19.2.1 : Nat) : Int), .i x19.2.2]) (px (ob_give (hx19 ▸ ih code x12.2.1 x12.2.2 q (deep - 1) not (by omega) (by omega) (by omega))) p0))) ?_
     refine wT 1 0 (.own true 3008) x19.1 (fun hw20 hl21 => ?_)
     refine tn tt_ok [0, 1, 3, 8, 9, 10] [60000] (pl 1 x19.1 (pe 2 (av_i (IntWalk.i64_in ((x19.1.length : Int) - 1) (by omega))) p0)) ?_
     obtain ⟨x22, hx22⟩ : ∃ z : (List NodeD) × Nat × Int, specl09Grow n_ code x19.2.1 x19.2.2 x19.1 0 not = z := ⟨_, rfl⟩
     have hbx22 := hx22 ▸ grow_len code n_ x19.2.1 x19.2.2 x19.1 0 not (by omega) (by omega)
     refine tu tt_ok [(1, .o 3456 x22.1), (10, .i ((x19.1.length : Int) - 1))] [1, 2, 3, 28] [(60000, [.h code, .i ((x22.2.1 : Nat) : Int), .i x22.2.2])] [60000] (po 3 (.give (some 3008) (.o 0 x22.1) [.h code, .i ((x22.2.1 : Nat) : Int), .i x22.2.2]) (px (ob_give (hx22 ▸ ih code x19.2.1 x19.2.2 x19.1 0 not (by omega) (by omega) (by omega))) p0)) ?_
     refine awp_seq ?_
     refine sn tt_ok [0, 1, 8, 10, 56] [60000] (p0) ?_
     refine ck (decide (x12.1 < (3 : Int))) (fun h23 => ?_) (fun h23 => ?_)
     ·
      have h23d := of_decide_eq_true h23
      refine wT 1 0 (.own true 3456) x22.1 (fun hw24 hl25 => ?_)
      refine tu tt_ok [(8, .one (.slc (.own true 4096) 7 ((eL x22.1) ++ [[.i 6, .i ((x19.1.length : Int) - 1), .i ((x22.1.length : Int) - 1), .s ⟨#[]⟩, .i 0, .i 0, .s ⟨#[]⟩]])))] [1, 8, 9] [] [] (pl 3 x22.1 (pe 4 (av_i (IntWalk.i64_in ((x22.1.length : Int) - 1) (by omega))) (pa x22.1 [((6, ((x19.1.length : Int) - 1), ((x22.1.length : Int) - 1), ⟨#[]⟩, (0, 0, ⟨#[]⟩)) : NodeD)] p0))) ?_
      refine eqn [(8, .o 4096 (x22.1 ++ [((6, ((x19.1.length : Int) - 1), ((x22.1.length : Int) - 1), ⟨#[]⟩, (0, 0, ⟨#[]⟩)) : NodeD)]))] [8] [] [] (by rw [show ((eL x22.1) ++ [[.i 6, .i ((x19.1.length : Int) - 1), .i ((x22.1.length : Int) - 1), .s ⟨#[]⟩, .i 0, .i 0, .s ⟨#[]⟩]]) = (eL (x22.1 ++ [((6, ((x19.1.length : Int) - 1), ((x22.1.length : Int) - 1), ⟨#[]⟩, (0, 0, ⟨#[]⟩)) : NodeD)])) from app_eL (rfl) (rfl)]; first | done | kernel_rfl) ?_
      refine awp_ret ?_
      have hE26 : specl09Grow (n_ + 1) code ci ch q deep not = (x22.1 ++ [((6, ((x19.1.length : Int) - 1), ((x22.1.length : Int) - 1), ⟨#[]⟩, (0, 0, ⟨#[]⟩)) : NodeD)], x22.2.1, x22.2.2) := bif_f h1 (lt_b hx6 (bif_f h7 (lt_b hx12 (bif_f h14 (lt_b hx19 (lt_b hx22 (bif_t h23 (rfl))))))))
      exact gret [] (congrArg (fun z => (.o 0 z.1 : AV)) hE26.symm) (congrArg (fun z => ([.h code, .i ((z.2.1 : Nat) : Int), .i z.2.2] : List C)) hE26.symm)
     ·
      have h23d := of_decide_eq_false h23
      refine awp_skip ?_
      refine wT 1 0 (.own true 3456) x22.1 (fun hw27 hl28 => ?_)
      refine tu tt_ok [(8, .one (.slc (.own true 4608) 7 ((eL x22.1) ++ [[.i 7, .i ((x19.1.length : Int) - 1), .i ((x22.1.length : Int) - 1), .s ⟨#[]⟩, .i 0, .i 0, .s ⟨#[]⟩]])))] [1, 8, 9, 10] [] [] (pl 3 x22.1 (pe 4 (av_i (IntWalk.i64_in ((x22.1.length : Int) - 1) (by omega))) (pa x22.1 [((7, ((x19.1.length : Int) - 1), ((x22.1.length : Int) - 1), ⟨#[]⟩, (0, 0, ⟨#[]⟩)) : NodeD)] p0))) ?_
      refine eqn [(8, .o 4608 (x22.1 ++ [((7, ((x19.1.length : Int) - 1), ((x22.1.length : Int) - 1), ⟨#[]⟩, (0, 0, ⟨#[]⟩)) : NodeD)]))] [8] [] [] (by rw [show ((eL x22.1) ++ [[.i 7, .i ((x19.1.length : Int) - 1), .i ((x22.1.length : Int) - 1), .s ⟨#[]⟩, .i 0, .i 0, .s ⟨#[]⟩]]) = (eL (x22.1 ++ [((7, ((x19.1.length : Int) - 1), ((x22.1.length : Int) - 1), ⟨#[]⟩, (0, 0, ⟨#[]⟩)) : NodeD)])) from app_eL (rfl) (rfl)]; first | done | kernel_rfl) ?_
      refine awp_ret ?_
      have hE29 : specl09Grow (n_ + 1) code ci ch q deep not = (x22.1 ++ [((7, ((x19.1.length : Int) - 1), ((x22.1.length : Int) - 1), ⟨#[]⟩, (0, 0, ⟨#[]⟩)) : NodeD)], x22.2.1, x22.2.2) := bif_f h1 (lt_b hx6 (bif_f h7 (lt_b hx12 (bif_f h14 (lt_b hx19 (lt_b hx22 (bif_f h23 (rfl))))))))
      exact gret [] (congrArg (fun z => (.o 0 z.1 : AV)) hE29.symm) (congrArg (fun z => ([.h code, .i ((z.2.1 : Nat) : Int), .i z.2.2] : List C)) hE29.symm)
def specl09Question (code : (List UInt8)) (ci : Nat) (ch : Int) : (List NodeD) × Nat × Int := (lt (α := Int × Nat × Int) (specl01Below code ci ch 4) (fun x1 => (lt (α := (List NodeD) × Nat × Int) (specl09Grow (Int.toNat x1.1 + 1) code x1.2.1 x1.2.2 [] x1.1 true) (fun x2 => (x2.1, x2.2.1, x2.2.2)))))
theorem ques_len (code : List UInt8) (ci : Nat) (ch : Int) : 1 ≤ (specl09Question code ci ch).1.length ∧ (specl09Question code ci ch).1.length ≤ 7 := by
 unfold specl09Question lt
 have hb := specl01Below_bd code ci ch 4
 generalize specl01Below code ci ch 4 = x at hb
 have h := grow_len code (Int.toNat x.1 + 1) x.2.1 x.2.2 [] x.1 true (by omega) (by omega)
 simp only [List.length_nil] at h
 simp only
 omega
theorem specl09Question_a (code : (List UInt8)) (ci : Nat) (ch : Int) : AGive Tryz.prog 161 [.h code, .i ((ci : Nat) : Int), .i ch] [] (.o 0 (((specl09Question code ci ch)).1)) [.h code, .i ((((specl09Question code ci ch)).2.1 : Nat) : Int), .i (((specl09Question code ci ch)).2.2)] := by
 refine agive_of (tt := tt) tt_ok Tryz.func161 (fn := Tryz.f161) rfl (by unfold FnOk; kernel_rfl) (Nat.le_of_ble_eq_true rfl) (Nat.le_of_ble_eq_true rfl) rfl rfl fun w0 F0 hG => ?_
 refine sn tt_ok [0, 2] [60000] (p0) ?_
 obtain ⟨x1, hx1⟩ : ∃ z : Int × Nat × Int, specl01Below code ci ch 4 = z := ⟨_, rfl⟩
 have hbx1 := hx1 ▸ specl01Below_bd code ci ch 4
 obtain ⟨x2, hx2⟩ : ∃ z : (List NodeD) × Nat × Int, specl09Grow (Int.toNat x1.1 + 1) code x1.2.1 x1.2.2 [] x1.1 true = z := ⟨_, rfl⟩
 have hbx2 := hx2 ▸ grow_len code (Int.toNat x1.1 + 1) x1.2.1 x1.2.2 [] x1.1 true (by omega) (by omega)
 refine tn tt_ok [0, 2] [60000] (po 2 (.give none (.i x1.1) [.h code, .i ((x1.2.1 : Nat) : Int), .i x1.2.2]) (px (ob_give (hx1 ▸ specl01Below_a code ci ch 4)) (po 3 (.give none (.o 0 x2.1) [.h code, .i ((x2.2.1 : Nat) : Int), .i x2.2.2]) (px (ob_give (hx2 ▸ (specl09Grow_a (Int.toNat x1.1 + 1) code x1.2.1 x1.2.2 [] x1.1 true (by omega) (by omega) (by first | omega | (simp; omega))).emp (m := 0) (by simp [AV.cells, C.key, C.bkeys, Tok.key]))) p0)))) ?_
 refine awp_ret ?_
 have hE3 : specl09Question code ci ch = (x2.1, x2.2.1, x2.2.2) := lt_b hx1 (lt_b hx2 (rfl))
 exact gret [] (congrArg (fun z => (.o 0 z.1 : AV)) hE3.symm) (congrArg (fun z => ([.h code, .i ((z.2.1 : Nat) : Int), .i z.2.2] : List C)) hE3.symm)
def specl11Dirs_f0 (code : (List UInt8)) (s0 : (List DirD) × Int × Nat × Int) : Rd ((List DirD) × Nat × Int) ((List DirD) × Int × Nat × Int) ((List DirD) × Nat × Int) := (lt (α := Int × Nat × Int) (specl01Below code s0.2.2.1 s0.2.2.2 4) (fun x1 => (bif decide (s0.2.1 < (1 + x1.1)) then (lt (α := (List NodeD) × Nat × Int) (specl09Question code x1.2.1 x1.2.2) (fun x4 => (.next (s0.1 ++ [((nth ([⟨#[100, 97]⟩, ⟨#[100, 98]⟩, ⟨#[100, 99]⟩, ⟨#[100, 100]⟩] : (List ByteArray)) (Int.toNat s0.2.1)), x4.1)], (s0.2.1 + 1), x4.2.1, x4.2.2)))) else (.brk (s0.1, x1.2.1, x1.2.2)))))
def specl11Dirs (code : (List UInt8)) (ci : Nat) (ch : Int) : (List DirD) × Nat × Int := (Out.on (whlD (specl11Dirs_f0 code) 5 ([], 0, ci, ch)) (fun y0 => (y0.1, y0.2.1, y0.2.2)))
theorem specl11Dirs_w (code : List UInt8) (ci : Nat) (ch : Int) : (whl (specl11Dirs_f0 code) 5 ([], 0, ci, ch)).isSome = true :=
  whl_up (fun s => s.2.1) 4 (fun s s' h0 h => by
    unfold specl11Dirs_f0 lt at h
    have hb := specl01Below_bd code s.2.2.1 s.2.2.2 4
    generalize specl01Below code s.2.2.1 s.2.2.2 4 = x at h hb
    by_cases hc : s.2.1 < 1 + x.1
    · simp only [decide_eq_true hc, cond_true] at h
      have h := Rd.next.inj h
      rw [← h]
      exact ⟨by omega, rfl⟩
    · simp only [decide_eq_false hc, cond_false] at h
      cases h) 4 _ (by show (0 : Int) ≤ 0; decide) (by show (4 : Int) ≤ 0 + 4; decide)
theorem specl11Dirs_a (code : (List UInt8)) (ci : Nat) (ch : Int) : AGive Tryz.prog 152 [.h code, .i ((ci : Nat) : Int), .i ch] [] (.o 0 (((specl11Dirs code ci ch)).1)) [.h code, .i ((((specl11Dirs code ci ch)).2.1 : Nat) : Int), .i (((specl11Dirs code ci ch)).2.2)] := by
 refine agive_of (tt := tt) tt_ok Tryz.func152 (fn := Tryz.f152) rfl (by unfold FnOk; kernel_rfl) (Nat.le_of_ble_eq_true rfl) (Nat.le_of_ble_eq_true rfl) rfl rfl fun w0 F0 hG => ?_
 refine sn tt_ok [0, 2] [60000] (p0) ?_
 refine tn tt_ok [0, 2, 3] [60000] (p0) ?_
 refine awp_seq ?_
 refine tu tt_ok [(2, .e 0), (3, .one (.slc (.own true 320) 2 [])), (4, .i 0)] [] [] [] (p0) ?_
 refine blw (fun (s0 : (List DirD) × Int × Nat × Int) => [(3, .o 147202 s0.1), (4, .i s0.2.1)]) [3, 4] (fun s0 => [(60000, [.h code, .i ((s0.2.2.1 : Nat) : Int), .i s0.2.2.2])]) [60000] (fun (y0 : (List DirD) × Nat × Int) => [(3, .o 147352 y0.1)]) [3, 4] (fun y0 => [(60000, [.h code, .i ((y0.2.1 : Nat) : Int), .i y0.2.2])]) [60000] (fun (k0 : Nat) (s0 : (List DirD) × Int × Nat × Int) => whl (specl11Dirs_f0 code) k0 s0 = some (whlD (specl11Dirs_f0 code) 5 ([], 0, ci, ch)) ∧ 0 ≤ s0.2.1 ∧ (List.length s0.1 : Int) ≤ s0.2.1) (fun (y0 : (List DirD) × Nat × Int) => (whlD (specl11Dirs_f0 code) 5 ([], 0, ci, ch)) = .brk y0) 5 ([], 0, ci, ch) (weak_sf [(320, 147202)] (by kernel_rfl)) ⟨whl_some (specl11Dirs_w code ci ch), (by first | omega | (simp; done) | (dsimp only; omega)), (by first | omega | (simp; done) | (dsimp only; omega))⟩ (fun _ h => whl_zero h.1) (fun k0 s0 hI0 => ?_) (fun y0 hD0 => ?_)
 ·
  have hA0_0 := hI0.2.1
  have hA0_1 := hI0.2.2
  refine awp_seq ?_
  obtain ⟨x1, hx1⟩ : ∃ z : Int × Nat × Int, specl01Below code s0.2.2.1 s0.2.2.2 4 = z := ⟨_, rfl⟩
  have hbx1 := hx1 ▸ specl01Below_bd code s0.2.2.1 s0.2.2.2 4
  refine sn tt_ok [0, 2, 3, 4, 10] [60000] (po 2 (.give none (.i x1.1) [.h code, .i ((x1.2.1 : Nat) : Int), .i x1.2.2]) (px (ob_give (hx1 ▸ specl01Below_a code s0.2.2.1 s0.2.2.2 4)) (pe 3 (av_i (IntWalk.i64_in (1 + x1.1) (by omega))) p0))) ?_
  refine ck (decide (s0.2.1 < (1 + x1.1))) (fun h2 => ?_) (fun h2 => ?_)
  ·
   have h2d := of_decide_eq_true h2
   refine awp_skip ?_
   refine awp_seq ?_
   refine awp_block ?_
   have hx3 := ng ([⟨#[100, 97]⟩, ⟨#[100, 98]⟩, ⟨#[100, 99]⟩, ⟨#[100, 100]⟩] : (List ByteArray)) (Int.toNat s0.2.1) (by simp only [List.length_cons, List.length_nil]; omega)
   obtain ⟨x4, hx4⟩ : ∃ z : (List NodeD) × Nat × Int, specl09Question code x1.2.1 x1.2.2 = z := ⟨_, rfl⟩
   have hbx4 := hx4 ▸ ques_len code x1.2.1 x1.2.2
   refine wT 3 0 (.own true 147202) s0.1 (fun hw5 hl6 => ?_)
   refine qU tt_ok tt_mx [(3, .one (.slc (.own true 1408) 2 ((eL s0.1) ++ [[.s (nth ([⟨#[100, 97]⟩, ⟨#[100, 98]⟩, ⟨#[100, 99]⟩, ⟨#[100, 100]⟩] : (List ByteArray)) (Int.toNat s0.2.1)), .h x4.1]])))] [3] [(60000, [.h code, .i ((x4.2.1 : Nat) : Int), .i x4.2.2])] [60000] (pG 3 s0.2.1 hx3 (po 6 (.give none (.o 0 x4.1) [.h code, .i ((x4.2.1 : Nat) : Int), .i x4.2.2]) (px (ob_give (hx4 ▸ specl09Question_a code x1.2.1 x1.2.2)) (pa s0.1 [((nth ([⟨#[100, 97]⟩, ⟨#[100, 98]⟩, ⟨#[100, 99]⟩, ⟨#[100, 100]⟩] : (List ByteArray)) (Int.toNat s0.2.1)), x4.1)] p0)))) ?_
   refine eqn [(3, .o 1408 (s0.1 ++ [((nth ([⟨#[100, 97]⟩, ⟨#[100, 98]⟩, ⟨#[100, 99]⟩, ⟨#[100, 100]⟩] : (List ByteArray)) (Int.toNat s0.2.1)), x4.1)]))] [3] [] [] (by rw [show ((eL s0.1) ++ [[.s (nth ([⟨#[100, 97]⟩, ⟨#[100, 98]⟩, ⟨#[100, 99]⟩, ⟨#[100, 100]⟩] : (List ByteArray)) (Int.toNat s0.2.1)), .h x4.1]]) = (eL (s0.1 ++ [((nth ([⟨#[100, 97]⟩, ⟨#[100, 98]⟩, ⟨#[100, 99]⟩, ⟨#[100, 100]⟩] : (List ByteArray)) (Int.toNat s0.2.1)), x4.1)])) from app_eL (rfl) (rfl)]; first | done | kernel_rfl) ?_
   refine rn tt_ok [0, 2, 3, 4] [60000] (pe 1 (av_i (IntWalk.i64_in (s0.2.1 + 1) (by omega))) p0) ?_
   exact Exists.intro (s0.1 ++ [((nth ([⟨#[100, 97]⟩, ⟨#[100, 98]⟩, ⟨#[100, 99]⟩, ⟨#[100, 100]⟩] : (List ByteArray)) (Int.toNat s0.2.1)), x4.1)], (s0.2.1 + 1), x4.2.1, x4.2.2) (And.intro (weak_sf [(1408, 147202)] (by kernel_rfl)) ⟨wn hI0.1 (lt_b hx1 (bif_t h2 (lt_b hx4 (rfl)))), (by first | omega | (simp; omega)), (by first | omega | (simp; omega))⟩)
  ·
   refine awp_exit ?_
   exact Exists.intro (s0.1, x1.2.1, x1.2.2) (And.intro (weak_sf [(147202, 147352)] (by kernel_rfl)) (wb hI0.1 (lt_b hx1 (bif_f h2 (rfl)))))
 ·
  refine sn tt_ok [0, 2] [60000] (p0) ?_
  refine awp_ret ?_
  have hE7 : specl11Dirs code ci ch = (y0.1, y0.2.1, y0.2.2) := on_b hD0 (rfl)
  exact gret [] (congrArg (fun z => (.o 0 z.1 : AV)) hE7.symm) (congrArg (fun z => ([.h code, .i ((z.2.1 : Nat) : Int), .i z.2.2] : List C)) hE7.symm)
def specIsStratified (d : (List DirD)) : Bool := ((specStrata d)).2
theorem specIsStratified_a (d : (List DirD)) : ACalls Tryz.prog 153 [.h d] (.b (specIsStratified d)) := by
 refine en tt_ok Tryz.func153 fun w0 F0 hG => ?_
 refine sn tt_ok [0, 2] [] (p0) ?_
 refine tn tt_ok [2, 4] [] (pc 1 (specStrata_a d) p0) ?_
 refine tu tt_ok [(2, .b (((specStrata d)).2))] [0] [] [] (p0) ?_
 refine awp_ret ?_
 exact pb [] (show specIsStratified d = ((specStrata d)).2 from rfl)
def specl13Dirs_f0 (s0 : (List DirD)) : Rd ((List DirD) × Nat × Int) ((List DirD)) ((List DirD)) := (bif (decide ((s0.length : Int) > (0 : Int)) && (!(specIsStratified s0))) then (.next (List.take (Int.toNat ((s0.length : Int) - 1)) s0)) else (.brk s0))
def specl13Dirs (code : (List UInt8)) (ci : Nat) (ch : Int) : (List DirD) × Nat × Int := (lt (α := (List DirD) × Nat × Int) (specl11Dirs code ci ch) (fun x1 => (Out.on (whlD specl13Dirs_f0 (List.length x1.1 + 1) x1.1) (fun y0 => (bif ((y0.length : Int) == (0 : Int)) then ([((⟨#[100, 97]⟩, [((1, 0, 0, ⟨#[]⟩, (0, 0, ⟨#[]⟩)) : NodeD)]) : DirD)], x1.2.1, x1.2.2) else (y0, x1.2.1, x1.2.2))))))
theorem specl13Dirs_w (code : List UInt8) (d : List DirD) : (whl specl13Dirs_f0 (List.length d + 1) d).isSome = true :=
  whl_down (fun s => List.length s) (fun s s' h => by
    unfold specl13Dirs_f0 at h
    by_cases hc : ((s.length : Int) > 0)
    · simp only [decide_eq_true hc, Bool.true_and, cond_true] at h
      cases hs : specIsStratified s <;> simp only [hs, Bool.not_true, Bool.not_false, cond_true, cond_false] at h
      · have h := Rd.next.inj h
        rw [← h, List.length_take]
        omega
      · cases h
    · simp only [decide_eq_false hc, Bool.false_and, cond_false] at h
      cases h) _ _ (Nat.lt_succ_self _)
theorem l13_ne (code : List UInt8) (ci : Nat) (ch : Int) : 0 < (specl13Dirs code ci ch).1.length := by
  unfold specl13Dirs lt
  generalize specl11Dirs code ci ch = x
  obtain ⟨t, ht⟩ := whlD_brk (f := specl13Dirs_f0) (fun s r => by
    unfold specl13Dirs_f0
    generalize (decide ((s.length : Int) > (0 : Int)) && (!(specIsStratified s))) = c
    cases c <;> simp) (List.length x.1 + 1) x.1
  simp only [ht, Out.on]
  by_cases h : (t.length : Int) = 0
  · rw [beq_iff_eq.2 h]; exact Nat.zero_lt_one
  · rw [beq_eq_false_iff_ne.2 h]
    show 0 < t.length
    omega
theorem specl13Dirs_a (code : (List UInt8)) (ci : Nat) (ch : Int) : AGive Tryz.prog 103 [.h code, .i ((ci : Nat) : Int), .i ch] [] (.h (((specl13Dirs code ci ch)).1)) [.h code, .i ((((specl13Dirs code ci ch)).2.1 : Nat) : Int), .i (((specl13Dirs code ci ch)).2.2)] := by
 refine agive_of (tt := tt) tt_ok Tryz.func103 (fn := Tryz.f103) rfl (by unfold FnOk; kernel_rfl) (Nat.le_of_ble_eq_true rfl) (Nat.le_of_ble_eq_true rfl) rfl rfl fun w0 F0 hG => ?_
 refine sn tt_ok [0, 2] [60000] (p0) ?_
 obtain ⟨x1, hx1⟩ : ∃ z : (List DirD) × Nat × Int, specl11Dirs code ci ch = z := ⟨_, rfl⟩
 refine tn tt_ok [0, 2, 3] [60000] (po 1 (.give none (.o 0 x1.1) [.h code, .i ((x1.2.1 : Nat) : Int), .i x1.2.2]) (px (ob_give (hx1 ▸ specl11Dirs_a code ci ch)) p0)) ?_
 refine awp_seq ?_
 refine mz [(2, .e 0), (3, .o 320 x1.1)] [] [(60000, [.h code, .i ((x1.2.1 : Nat) : Int), .i x1.2.2])] [60000] ?_
 refine blw (fun (s0 : (List DirD)) => [(3, .h s0)]) [3] (fun s0 => []) [] (fun (y0 : (List DirD)) => [(3, .h y0)]) [3] (fun y0 => []) [] (fun (k0 : Nat) (s0 : (List DirD)) => whl specl13Dirs_f0 k0 s0 = some (whlD specl13Dirs_f0 (List.length x1.1 + 1) x1.1)) (fun (y0 : (List DirD)) => (whlD specl13Dirs_f0 (List.length x1.1 + 1) x1.1) = .brk y0) (List.length x1.1 + 1) x1.1 (weak_gf [] [320] [] [] (by kernel_rfl)) (whl_some (specl13Dirs_w code x1.1)) (fun _ h => whl_zero h) (fun k0 s0 hI0 => ?_) (fun y0 hD0 => ?_)
 ·
  refine awp_seq ?_
  refine awp_seq ?_
  refine jn [(13, .b (decide ((s0.length : Int) > (0 : Int)) && (!(specIsStratified s0))))] [] [] [] (decide ((s0.length : Int) > (0 : Int))) (fun h2 => ?_) (fun h2 => ?_) ?_
  ·
   refine rn tt_ok [0, 2, 3, 13] [60000] (pl 1 s0 (pt 2 h2 (pc 5 (specIsStratified_a s0) p0))) ?_
   exact ⟨rfl, weak_fit (by rw [h2]; first | done | kernel_rfl)⟩
  ·
   refine rn tt_ok [0, 2, 3, 13] [60000] (pl 1 s0 (pf 2 h2 p0)) ?_
   exact ⟨rfl, weak_fit (by rw [h2]; first | done | kernel_rfl)⟩
  refine ck (decide ((s0.length : Int) > (0 : Int)) && (!(specIsStratified s0))) (fun h3 => ?_) (fun h3 => ?_)
  ·
   have h3l : (decide ((s0.length : Int) > (0 : Int))) = true := and_l h3
   have h3ld := of_decide_eq_true h3l
   refine awp_skip ?_
   refine awp_block ?_
   refine wT 3 0 .sh s0 (fun hw4 hl5 => ?_)
   refine rn tt_ok [0, 2, 3] [60000] (pl 2 s0 (pe 3 (av_i (IntWalk.i64_in ((s0.length : Int) - 1) (by omega))) (pe 4 (av_take .sh 2 (Int.toNat ((s0.length : Int) - 1)) ((s0.length : Int) - 1) s0 rfl) (px (ob_rng (lo := 0) (hi := ((s0.length : Int) - 1)) (n := (List.length (eL s0))) (rng_of (by omega) (by omega) (by omega))) p0)))) ?_
   exact Exists.intro _ (And.intro (weak_fit (by kernel_rfl)) (wn hI0 (bif_t h3 (rfl))))
  ·
   refine awp_exit ?_
   exact Exists.intro _ (And.intro (weak_fit (by kernel_rfl)) (wb hI0 (bif_f h3 (rfl))))
 ·
  refine awp_seq ?_
  refine sn tt_ok [0, 2, 3, 21] [60000] (pl 1 y0 p0) ?_
  refine ck ((y0.length : Int) == (0 : Int)) (fun h6 => ?_) (fun h6 => ?_)
  ·
   refine qn tt_ok [0, 2, 3] [60000] (p0) ?_
   refine tu tt_ok [(2, .o 1600 [((⟨#[100, 97]⟩, [((1, 0, 0, ⟨#[]⟩, (0, 0, ⟨#[]⟩)) : NodeD)]) : DirD)])] [2, 3] [] [] (p0) ?_
   refine awp_ret ?_
   have hE7 : specl13Dirs code ci ch = ([((⟨#[100, 97]⟩, [((1, 0, 0, ⟨#[]⟩, (0, 0, ⟨#[]⟩)) : NodeD)]) : DirD)], x1.2.1, x1.2.2) := lt_b hx1 (on_b hD0 (bif_t h6 (rfl)))
   exact gret [1600] (congrArg (fun z => (.h z.1 : AV)) hE7.symm) (congrArg (fun z => ([.h code, .i ((z.2.1 : Nat) : Int), .i z.2.2] : List C)) hE7.symm)
  ·
   refine awp_skip ?_
   refine tn tt_ok [0, 2] [60000] (p0) ?_
   refine awp_ret ?_
   have hE8 : specl13Dirs code ci ch = (y0, x1.2.1, x1.2.2) := lt_b hx1 (on_b hD0 (bif_f h6 (rfl)))
   exact gret [] (congrArg (fun z => (.h z.1 : AV)) hE8.symm) (congrArg (fun z => ([.h code, .i ((z.2.1 : Nat) : Int), .i z.2.2] : List C)) hE8.symm)
def specl14Ids_f0 (code : (List UInt8)) (k0 : Nat) (s0 : (List Int) × Nat × Int) : Rd ((List Int) × Nat × Int) ((List Int) × Nat × Int) ((List Int) × Nat × Int) := (lt (α := Bool × Nat × Int) (specl01Once code s0.2.1 s0.2.2 2) (fun x1 => (bif x1.1 then (.next (s0.1 ++ [((k0 + 1 : Nat) : Int)], x1.2.1, x1.2.2)) else (.next (s0.1, x1.2.1, x1.2.2)))))
def specl14Ids_e0 (_ : Nat) (s0 : (List Int) × Nat × Int) : (List Int) × Nat × Int := (s0.1, s0.2.1, s0.2.2)
def specl14Ids (code : (List UInt8)) (ci : Nat) (ch : Int) : (List Int) × Nat × Int := (Out.on (forN (specl14Ids_f0 code) specl14Ids_e0 (Int.toNat ((8 : Int) - 1)) 0 ([], ci, ch)) (fun y0 => (y0.1, y0.2.1, y0.2.2)))
theorem specl14Ids_a (code : (List UInt8)) (ci : Nat) (ch : Int) : AGive Tryz.prog 105 [.h code, .i ((ci : Nat) : Int), .i ch] [] (.o 0 (((specl14Ids code ci ch)).1)) [.h code, .i ((((specl14Ids code ci ch)).2.1 : Nat) : Int), .i (((specl14Ids code ci ch)).2.2)] := by
 refine agive_of (tt := tt) tt_ok Tryz.func105 (fn := Tryz.f105) rfl (by unfold FnOk; kernel_rfl) (Nat.le_of_ble_eq_true rfl) (Nat.le_of_ble_eq_true rfl) rfl rfl fun w0 F0 hG => ?_
 refine sn tt_ok [0, 2] [60000] (p0) ?_
 refine tn tt_ok [0, 2, 3] [60000] (p0) ?_
 refine awp_seq ?_
 refine tu tt_ok [(2, .e 0), (3, .one (.slc (.own true 320) 1 [])), (4, .i 1)] [] [] [] (p0) ?_
 refine blN1b (specl14Ids_f0 code) specl14Ids_e0 (Int.toNat ((8 : Int) - 1)) ([], ci, ch) (fun k0 s0 => [(3, .o 147202 s0.1), (4, .i ((k0 + 1 : Nat) : Int))]) [3, 4] (fun _ s0 => [(60000, [.h code, .i ((s0.2.1 : Nat) : Int), .i s0.2.2])]) [60000] (fun y0 => [(3, .o 147352 y0.1)]) [3, 4] (fun y0 => [(60000, [.h code, .i ((y0.2.1 : Nat) : Int), .i y0.2.2])]) [60000] (fun k0 s0 => List.length s0.1 ≤ k0) (weak_sf [(320, 147202)] (by kernel_rfl)) (by simp) (fun k0 s0 hk0 hI0 => ?_) (fun k0 s0 hk0 hI0 => ?_) (fun y0 hD0 => ?_)
 ·
  have hA0_0 := hI0.2
  refine awp_seq ?_
  refine su tt_ok [(7, .b true)] [] [] [] (pe 1 (av_bool (decide_eq_true (p := ((k0 + 1 : Nat) : Int) < (8 : Int)) (by omega))) p0) ?_
  refine ckT ?_
  refine awp_skip ?_
  refine awp_seq ?_
  refine awp_block ?_
  obtain ⟨x1, hx1⟩ : ∃ z : Bool × Nat × Int, specl01Once code s0.2.1 s0.2.2 2 = z := ⟨_, rfl⟩
  refine sn tt_ok [0, 2, 3, 4, 11] [60000] (po 1 (.give none (.b x1.1) [.h code, .i ((x1.2.1 : Nat) : Int), .i x1.2.2]) (px (ob_give (hx1 ▸ specl01Once_a code s0.2.1 s0.2.2 2)) p0)) ?_
  refine ck x1.1 (fun h2 => ?_) (fun h2 => ?_)
  ·
   refine wT 3 0 (.own true 147202) s0.1 (fun hw3 hl4 => ?_)
   refine qu tt_ok [(3, .one (.slc (.own true 960) 1 ((eL s0.1) ++ [[.i ((k0 + 1 : Nat) : Int)]])))] [3, 7] [(60000, [.h code, .i ((x1.2.1 : Nat) : Int), .i x1.2.2])] [60000] (pa s0.1 [((k0 + 1 : Nat) : Int)] p0) ?_
   refine eqn [(3, .o 960 (s0.1 ++ [((k0 + 1 : Nat) : Int)]))] [3] [] [] (by rw [show ((eL s0.1) ++ [[.i ((k0 + 1 : Nat) : Int)]]) = (eL (s0.1 ++ [((k0 + 1 : Nat) : Int)])) from app_eL (rfl) (rfl)]; first | done | kernel_rfl) ?_
   refine rn tt_ok [0, 2, 3, 4] [60000] (pe 1 (show .i (IntKind.i64.wrap (((k0 + 1 : Nat) : Int) + 1)) = .i ((k0 + 2 : Nat) : Int) from av_i ((IntWalk.i64_in _ (by omega)).trans (by omega))) p0) ?_
   exact Exists.intro (s0.1 ++ [((k0 + 1 : Nat) : Int)], x1.2.1, x1.2.2) (And.intro (weak_sf [(960, 147202)] (by kernel_rfl)) ⟨forN_next hk0 (lt_b hx1 (bif_t h2 (rfl))) hI0.1, by first | omega | (simp; omega) | simp⟩)
  ·
   refine awp_skip ?_
   refine qn tt_ok [0, 2, 3, 4] [60000] (pe 1 (show .i (IntKind.i64.wrap (((k0 + 1 : Nat) : Int) + 1)) = .i ((k0 + 2 : Nat) : Int) from av_i ((IntWalk.i64_in _ (by omega)).trans (by omega))) p0) ?_
   exact Exists.intro (s0.1, x1.2.1, x1.2.2) (And.intro (weak_fit (by kernel_rfl)) ⟨forN_next hk0 (lt_b hx1 (bif_f h2 (rfl))) hI0.1, by first | omega | (simp; omega) | simp⟩)
 ·
  have hA0_0 := hI0.2
  refine awp_seq ?_
  refine sn tt_ok [0, 2, 3, 4, 7] [60000] (pe 1 (av_bool (decide_eq_false (p := ((k0 + 1 : Nat) : Int) < (8 : Int)) (by omega))) p0) ?_
  refine ckF ?_
  refine awp_exit ?_
  exact Exists.intro _ (And.intro (weak_sf [(147202, 147352)] (by kernel_rfl)) (forN_end hk0 (rfl) hI0.1))
 ·
  refine sn tt_ok [0, 2] [60000] (p0) ?_
  refine awp_ret ?_
  have hE5 : specl14Ids code ci ch = (y0.1, y0.2.1, y0.2.2) := on_b hD0 (rfl)
  exact gret [] (congrArg (fun z => (.o 0 z.1 : AV)) hE5.symm) (congrArg (fun z => ([.h code, .i ((z.2.1 : Nat) : Int), .i z.2.2] : List C)) hE5.symm)
def specl01PickInt (code : (List UInt8)) (ci : Nat) (ch : Int) (list : (List Int)) : Int × Nat × Int := (lt (α := Int × Nat × Int) (specl01Below code ci ch (list.length : Int)) (fun x1 => ((nth list (Int.toNat x1.1)), x1.2.1, x1.2.2)))
theorem specl01PickInt_a (code : (List UInt8)) (ci : Nat) (ch : Int) (list : (List Int)) (hp : 0 < List.length list) : AGive Tryz.prog 107 [.h code, .i ((ci : Nat) : Int), .i ch] [.h list] (.i (((specl01PickInt code ci ch list)).1)) [.h code, .i ((((specl01PickInt code ci ch list)).2.1 : Nat) : Int), .i (((specl01PickInt code ci ch list)).2.2)] := by
 refine agive_of (tt := tt) tt_ok Tryz.func107 (fn := Tryz.f107) rfl (by unfold FnOk; kernel_rfl) (Nat.le_of_ble_eq_true rfl) (Nat.le_of_ble_eq_true rfl) rfl rfl fun w0 F0 hG => ?_
 refine sn tt_ok [0, 1, 4] [60000] (p0) ?_
 obtain ⟨x1, hx1⟩ : ∃ z : Int × Nat × Int, specl01Below code ci ch (list.length : Int) = z := ⟨_, rfl⟩
 have hbx1 := hx1 ▸ specl01Below_bd code ci ch (list.length : Int)
 refine wT 1 0 .sh list (fun hw3 hl4 => ?_)
 have hx2 := ng list (Int.toNat x1.1)
 refine tn tt_ok [0, 4] [60000] (pl 3 list (po 4 (.give none (.i x1.1) [.h code, .i ((x1.2.1 : Nat) : Int), .i x1.2.2]) (px (ob_give (hx1 ▸ specl01Below_a code ci ch (list.length : Int))) (pg 5 x1.1 hx2 p0)))) ?_
 refine awp_ret ?_
 have hE5 : specl01PickInt code ci ch list = ((nth list (Int.toNat x1.1)), x1.2.1, x1.2.2) := lt_b hx1 (rfl)
 exact gret [] (congrArg (fun z => (.i z.1 : AV)) hE5.symm) (congrArg (fun z => ([.h code, .i ((z.2.1 : Nat) : Int), .i z.2.2] : List C)) hE5.symm)
def specl06User (code : (List UInt8)) (ci : Nat) (ch : Int) : Int × Nat × Int := (lt (α := Int × Nat × Int) (specl01PickInt code ci ch [0, 1, 2, 0, 1, 3, -1]) (fun x1 => (x1.1, x1.2.1, x1.2.2)))
theorem specl06User_a (code : (List UInt8)) (ci : Nat) (ch : Int) : AGive Tryz.prog 106 [.h code, .i ((ci : Nat) : Int), .i ch] [] (.i (((specl06User code ci ch)).1)) [.h code, .i ((((specl06User code ci ch)).2.1 : Nat) : Int), .i (((specl06User code ci ch)).2.2)] := by
 refine agive_of (tt := tt) tt_ok Tryz.func106 (fn := Tryz.f106) rfl (by unfold FnOk; kernel_rfl) (Nat.le_of_ble_eq_true rfl) (Nat.le_of_ble_eq_true rfl) rfl rfl fun w0 F0 hG => ?_
 refine sn tt_ok [0, 2] [60000] (p0) ?_
 obtain ⟨x1, hx1⟩ : ∃ z : Int × Nat × Int, specl01PickInt code ci ch [0, 1, 2, 0, 1, 3, -1] = z := ⟨_, rfl⟩
 refine tn tt_ok [0, 2] [60000] (po 2 (.give none (.i x1.1) [.h code, .i ((x1.2.1 : Nat) : Int), .i x1.2.2]) (px (ob_give (hx1 ▸ specl01PickInt_a code ci ch [0, 1, 2, 0, 1, 3, -1] (Nat.zero_lt_succ _))) p0)) ?_
 refine awp_ret ?_
 have hE2 : specl06User code ci ch = (x1.1, x1.2.1, x1.2.2) := lt_b hx1 (rfl)
 exact gret [] (congrArg (fun z => (.i z.1 : AV)) hE2.symm) (congrArg (fun z => ([.h code, .i ((z.2.1 : Nat) : Int), .i z.2.2] : List C)) hE2.symm)
def specl28Version (code : (List UInt8)) (ci : Nat) (ch : Int) : Int × Nat × Int := (lt (α := Int × Nat × Int) (specl01PickInt code ci ch [1, 2, 3, 4, 5, 1, 2, 0, -1]) (fun x1 => (x1.1, x1.2.1, x1.2.2)))
theorem specl28Version_a (code : (List UInt8)) (ci : Nat) (ch : Int) : AGive Tryz.prog 62 [.h code, .i ((ci : Nat) : Int), .i ch] [] (.i (((specl28Version code ci ch)).1)) [.h code, .i ((((specl28Version code ci ch)).2.1 : Nat) : Int), .i (((specl28Version code ci ch)).2.2)] := by
 refine agive_of (tt := tt) tt_ok Tryz.func62 (fn := Tryz.f62) rfl (by unfold FnOk; kernel_rfl) (Nat.le_of_ble_eq_true rfl) (Nat.le_of_ble_eq_true rfl) rfl rfl fun w0 F0 hG => ?_
 refine sn tt_ok [0, 2] [60000] (p0) ?_
 obtain ⟨x1, hx1⟩ : ∃ z : Int × Nat × Int, specl01PickInt code ci ch [1, 2, 3, 4, 5, 1, 2, 0, -1] = z := ⟨_, rfl⟩
 refine tn tt_ok [0, 2] [60000] (po 2 (.give none (.i x1.1) [.h code, .i ((x1.2.1 : Nat) : Int), .i x1.2.2]) (px (ob_give (hx1 ▸ specl01PickInt_a code ci ch [1, 2, 3, 4, 5, 1, 2, 0, -1] (Nat.zero_lt_succ _))) p0)) ?_
 refine awp_ret ?_
 have hE2 : specl28Version code ci ch = (x1.1, x1.2.1, x1.2.2) := lt_b hx1 (rfl)
 exact gret [] (congrArg (fun z => (.i z.1 : AV)) hE2.symm) (congrArg (fun z => ([.h code, .i ((z.2.1 : Nat) : Int), .i z.2.2] : List C)) hE2.symm)
def specNewWatch (s_ : StoreD) (d : (List DirD)) (u : Int) (name : ByteArray) : WatchD := (u, name, (specListDir s_ d u name), [])
theorem specNewWatch_a (s_ : StoreD) (d : (List DirD)) (u : Int) (name : ByteArray) : ACalls Tryz.prog 104 [.a [.h s_.1, .h s_.2.1, .i s_.2.2], .h d, .i u, .s name] (.a [.i ((specNewWatch s_ d u name).1), .s ((specNewWatch s_ d u name).2.1), .o 0 ((specNewWatch s_ d u name).2.2.1), .o 1 ((specNewWatch s_ d u name).2.2.2)]) := by
 refine en tt_ok Tryz.func104 fun w0 F0 hG => ?_
 refine sn tt_ok [1, 2, 3, 4, 8] [4, 8] (p0) ?_
 refine tn tt_ok [8] [8] (pc 6 (specListDir_a s_ d u name) p0) ?_
 refine opn [(true, 8, 3, true, 384000, 3)] ?_
 refine awp_ret ?_
 exact pz [] (show specNewWatch s_ d u name = (u, name, (specListDir s_ d u name), []) from rfl) (fun z => .a [.i z.1, .s z.2.1, .o 0 z.2.2.1, .o 1 z.2.2.2])
open GoE (enc wide)
def specl07PutId_f0 (n : Int) (k0 : Nat) (a0 : Int) (_ : Unit) : Rd ((List Int)) (Unit) (Int) := (bif decide (a0 < n) then (.next ()) else (.brk ((k0 : Nat) : Int)))
def specl07PutId_e0 (k0 : Nat) (_ : Unit) : Int := ((k0 : Nat) : Int)
def specl07PutId (list : (List Int)) (n : Int) : (List Int) := (Out.on (forL (specl07PutId_f0 n) specl07PutId_e0 list 0 ()) (fun y0 => (bif (decide (y0 < (list.length : Int)) && ((nth list (Int.toNat y0)) == n)) then list else List.take (Int.toNat y0) list ++ [n] ++ (List.drop (Int.toNat y0) list))))
theorem specl07PutId_a (list : (List Int)) (n : Int) (hp : list.length < 1073741824) : ACalls Tryz.prog 138 [.h list, .i n] (.h (specl07PutId list n)) := by
 refine en tt_ok Tryz.func138 fun w0 F0 hG => ?_
 refine sn tt_ok [0, 1, 4] [] (p0) ?_
 refine tn tt_ok [0, 1, 4, 5] [] (p0) ?_
 refine awp_seq ?_
 refine mz [(4, .e 0), (5, .i 0)] [] [] [] ?_
 refine wT 0 0 .sh list (fun hw1 hl2 => ?_)
 refine blL2 (specl07PutId_f0 n) specl07PutId_e0 list () (fun k0 _ => [(5, .i ((k0 : Nat) : Int))]) [5] (fun y0 => [(5, .i y0)]) [5] (fun y0 => 0 ≤ y0 ∧ y0 ≤ (list.length : Int)) (weak_fit (by kernel_rfl)) (fun k0 s0 hk0 hI0 => ?_) (fun k0 s0 hk0 hI0 => ?_) (fun y0 hD0 => ?_)
 ·
  obtain ⟨a0, hx0⟩ := get_some (l := list) (i := k0) hk0
  refine awp_seq ?_
  refine sn tt_ok [0, 1, 4, 5, 18] [] (pl 2 list (pe 3 (av_bool (decide_eq_true (p := ((k0 : Nat) : Int) < (list.length : Int)) (by omega))) (pn 7 hx0 p0))) ?_
  refine ck (decide (a0 < n)) (fun h3 => ?_) (fun h3 => ?_)
  ·
   have h3d := of_decide_eq_true h3
   refine awp_skip ?_
   refine awp_block ?_
   refine qn tt_ok [0, 1, 4, 5] [] (pe 1 (av_i (wrap_succ k0 (by omega))) p0) ?_
   exact Exists.intro _ (And.intro (weak_fit (by kernel_rfl)) (forL_next hx0 (bif_t h3 (rfl)) hI0))
  ·
   have h3d := of_decide_eq_false h3
   refine awp_exit ?_
   exact Exists.intro ((k0 : Nat) : Int) (And.intro (weak_fit (by kernel_rfl)) ⟨forL_brk hx0 (bif_f h3 (rfl)) hI0, by first | omega | (simp only [List.length_set]; omega)⟩)
 ·
  refine awp_seq ?_
  refine sn tt_ok [0, 1, 4, 5, 18] [] (pl 2 list (pe 3 (av_bool (decide_eq_false (p := ((k0 : Nat) : Int) < (list.length : Int)) (by omega))) p0)) ?_
  refine ckF ?_
  refine awp_exit ?_
  exact Exists.intro ((k0 : Nat) : Int) (And.intro (weak_fit (by kernel_rfl)) ⟨forL_end hk0 (rfl) hI0, by first | omega | (simp only [List.length_set]; omega)⟩)
 ·
  have hD0_0 := hD0.2
  refine awp_seq ?_
  refine awp_seq ?_
  refine jn [(32, .b (decide (y0 < (list.length : Int)) && ((nth list (Int.toNat y0)) == n)))] [] [] [] (decide (y0 < (list.length : Int))) (fun h4 => ?_) (fun h4 => ?_) ?_
  ·
   have h4d := of_decide_eq_true h4
   have hx5 := ng list (Int.toNat y0)
   refine rn tt_ok [0, 1, 4, 5, 32] [] (pl 2 list (pt 3 h4 (pg 7 y0 hx5 p0))) ?_
   exact ⟨rfl, weak_fit (by rw [h4]; first | done | kernel_rfl)⟩
  ·
   refine rn tt_ok [0, 1, 4, 5, 32] [] (pl 2 list (pf 3 h4 p0)) ?_
   exact ⟨rfl, weak_fit (by rw [h4]; first | done | kernel_rfl)⟩
  refine ck (decide (y0 < (list.length : Int)) && ((nth list (Int.toNat y0)) == n)) (fun h6 => ?_) (fun h6 => ?_)
  ·
   refine sn tt_ok [0, 1, 4, 5] [] (p0) ?_
   refine awp_ret ?_
   exact ph0 [] (on_b hD0.1 (bif_t h6 (rfl)))
  ·
   refine awp_skip ?_
   have hl7 : List.length (List.take (Int.toNat y0) list) ≤ 1073741824 := wide_len (wide_take (Int.toNat y0) (hw1))
   refine su tt_ok [(6, .one (.slc (.own true 2624) 1 (([] ++ (eL (List.take (Int.toNat y0) list))) ++ [[.i n]])))] [1, 32] [] [] (pe 3 (av_take .sh 1 (Int.toNat y0) y0 list rfl) (px (ob_rng (lo := 0) (hi := y0) (n := (List.length (eL list))) (rng_of (by omega) (by omega) (by omega))) (po 4 (.flat) (px (ob_len (n := (([] : List (List PV)).length + ((eL (List.take (Int.toNat y0) list)) : List (List PV)).length)) (len_of (rfl) (eL_length (List.take (Int.toNat y0) list)) (by first | omega | (simp only [List.length_cons, List.length_nil]; omega) | (simp; omega) | simp))) (px (ob_flat (flat_eL (List.take (Int.toNat y0) list))) (px (ob_len (n := ((([] ++ (eL (List.take (Int.toNat y0) list))) : List (List PV)).length + ([[.i n]] : List (List PV)).length)) (by simp [eL_length]; omega)) p0)))))) ?_
   refine eqn [(6, .o 2624 (List.take (Int.toNat y0) list ++ [n]))] [6] [] [] (by rw [show (([] ++ (eL (List.take (Int.toNat y0) list))) ++ [[.i n]]) = (eL (List.take (Int.toNat y0) list ++ [n])) from app_eL (rfl) (rfl)]; first | done | kernel_rfl) ?_
   refine wT 6 0 (.own true 2624) (List.take (Int.toNat y0) list ++ [n]) (fun hw8 hl9 => ?_)
   have hl10 : List.length (List.drop (Int.toNat y0) list) ≤ 1073741824 := wide_len (wide_drop (Int.toNat y0) (hw1))
   refine su tt_ok [(4, .one (.slc (.own true 2944) 1 ((eL (List.take (Int.toNat y0) list ++ [n])) ++ (eL (List.drop (Int.toNat y0) list)))))] [0, 4, 5, 6] [] [] (pe 3 (av_drop .sh 1 (Int.toNat y0) y0 list rfl) (px (ob_rng (lo := y0) (hi := (((eL list) : List (List PV)).length : Int)) (n := (List.length (eL list))) (rng_all (by omega) (by omega))) (po 4 (.flat) (pa (List.take (Int.toNat y0) list ++ [n]) (List.drop (Int.toNat y0) list) (px (ob_flat (flat_eL (List.drop (Int.toNat y0) list))) p0))))) ?_
   refine eqn [(4, .o 2944 (List.take (Int.toNat y0) list ++ [n] ++ (List.drop (Int.toNat y0) list)))] [4] [] [] (by rw [show ((eL (List.take (Int.toNat y0) list ++ [n])) ++ (eL (List.drop (Int.toNat y0) list))) = (eL (List.take (Int.toNat y0) list ++ [n] ++ (List.drop (Int.toNat y0) list))) from app_eL (rfl) (rfl)]; first | done | kernel_rfl) ?_
   refine awp_ret ?_
   exact ph0 [2944] (on_b hD0.1 (bif_f h6 (rfl)))
def implwithout_1 (id : Int) (q0 : (List Int)) : Bool := (slicesContains_int q0 id)
theorem implwithout_1_a (id : Int) (q0 : (List Int)) : ACalls Tryz.prog 111 [.i id, .one (.rptr .sh [.h q0])] (.b (implwithout_1 id q0)) := by
 refine en tt_ok Tryz.func111 fun w0 F0 hG => ?_
 refine sn tt_ok [0, 1, 3] [] (p0) ?_
 refine tn tt_ok [3] [] (pc 2 (slicesContains_int_a q0 id) p0) ?_
 refine awp_ret ?_
 exact pb [] (show implwithout_1 id q0 = (slicesContains_int q0 id) from rfl)
def slicesIndexFunc_int_implwithout_1_f0 (c0 : (List Int)) (k0 : Nat) (a0 : Int) (_ : Unit) : Rd (Int) (Unit) (Unit) := (bif (implwithout_1 a0 c0) then (.ret ((k0 : Nat) : Int)) else (.next ()))
def slicesIndexFunc_int_implwithout_1_e0 (_ : Nat) (_ : Unit) : Unit := ()
def slicesIndexFunc_int_implwithout_1 (s_ : (List Int)) (c0 : (List Int)) : Int := (Out.on (forL (slicesIndexFunc_int_implwithout_1_f0 c0) slicesIndexFunc_int_implwithout_1_e0 s_ 0 ()) (fun _ => -1))
theorem slicesIndexFunc_int_implwithout_1_ix (s_ : (List Int)) (c0 : (List Int)) : slicesIndexFunc_int_implwithout_1 s_ c0 = ixF (fun a => implwithout_1 a c0) s_ := idx_eq (fun _ _ _ => rfl) s_
theorem slicesIndexFunc_int_implwithout_1_bd (s_ : (List Int)) (c0 : (List Int)) : -1 ≤ slicesIndexFunc_int_implwithout_1 s_ c0 ∧ slicesIndexFunc_int_implwithout_1 s_ c0 < (List.length s_ : Int) := by rw [slicesIndexFunc_int_implwithout_1_ix]; exact ixF_bd _ _
theorem slicesIndexFunc_int_implwithout_1_a (s_ : (List Int)) (c0 : (List Int)) : ACalls Tryz.prog 154 [.h s_, .one (.fnr 111 [[.h c0]])] (.i (slicesIndexFunc_int_implwithout_1 s_ c0)) := by
 refine en tt_ok Tryz.func154 fun w0 F0 hG => ?_
 refine sn tt_ok [0, 1, 4] [] (p0) ?_
 refine awp_seq ?_
 refine tn tt_ok [0, 1, 4, 7, 8] [] (pl 1 s_ p0) ?_
 refine mz [(4, .i 0), (7, .i (s_.length : Int)), (8, .i 0)] [] [] [] ?_
 refine wT 0 0 .sh s_ (fun hw1 hl2 => ?_)
 refine blL0 (slicesIndexFunc_int_implwithout_1_f0 c0) slicesIndexFunc_int_implwithout_1_e0 s_ () (fun k0 _ => [(8, .i ((k0 : Nat) : Int))]) [8] (fun _ => []) [0, 1, 7, 8] (weak_fit (by kernel_rfl)) (fun k0 s0 hk0 hI0 => ?_) (fun k0 s0 hk0 hI0 => ?_) (fun y0 hD0 => ?_)
 ·
  obtain ⟨a0, hx0⟩ := get_some (l := s_) (i := k0) hk0
  refine sn tt_ok [0, 1, 4, 7, 8, 9] [] (pe 0 (av_bool (decide_eq_true (p := ((k0 : Nat) : Int) < (s_.length : Int)) (by omega))) p0) ?_
  refine awp_seq ?_
  refine ckT ?_
  refine awp_skip ?_
  refine awp_seq ?_
  refine awp_block ?_
  refine tn tt_ok [0, 1, 4, 5, 7, 8] [] (p0) ?_
  refine tu tt_ok [(5, .i ((k0 : Nat) : Int)), (16, .b (implwithout_1 a0 c0))] [] [] [] (pn 3 hx0 (pc 5 (implwithout_1_a a0 c0) p0)) ?_
  refine ck (implwithout_1 a0 c0) (fun h3 => ?_) (fun h3 => ?_)
  ·
   refine sn tt_ok [0, 1, 4, 7, 8] [] (p0) ?_
   refine awp_ret ?_
   have hr4 : (forL (slicesIndexFunc_int_implwithout_1_f0 c0) slicesIndexFunc_int_implwithout_1_e0 s_ 0 ()) = .ret ((k0 : Nat) : Int) := forL_ret hx0 (bif_t h3 (rfl)) hI0
   exact pi [] (on_r hr4)
  ·
   refine awp_skip ?_
   refine rn tt_ok [0, 1, 4, 7, 8] [] (pe 0 (av_i (wrap_succ k0 (by omega))) p0) ?_
   exact Exists.intro _ (And.intro (weak_fit (by kernel_rfl)) (forL_next hx0 (bif_f h3 (rfl)) hI0))
 ·
  refine sn tt_ok [0, 1, 4, 7, 8, 9] [] (pe 0 (av_bool (decide_eq_false (p := ((k0 : Nat) : Int) < (s_.length : Int)) (by omega))) p0) ?_
  refine awp_seq ?_
  refine ckF ?_
  refine awp_exit ?_
  exact Exists.intro _ (And.intro (weak_fit (by kernel_rfl)) (forL_end hk0 (rfl) hI0))
 ·
  refine sn tt_ok [4] [] (p0) ?_
  refine awp_ret ?_
  exact pi [] (on_b hD0 (rfl))
def slicesDeleteFunc_int_implwithout_1_f0 (c0 : (List Int)) (s0 : (List Int) × Int × Int) : Rd ((List Int)) ((List Int) × Int × Int) ((List Int) × Int) := (bif decide (s0.2.2 < (s0.1.length : Int)) then (bif (!(implwithout_1 (nth s0.1 (Int.toNat s0.2.2)) c0)) then (.next (List.set s0.1 (Int.toNat s0.2.1) (nth s0.1 (Int.toNat s0.2.2)), (s0.2.1 + 1), (s0.2.2 + 1))) else (.next (s0.1, s0.2.1, (s0.2.2 + 1)))) else (.brk (s0.1, s0.2.1)))
def slicesDeleteFunc_int_implwithout_1 (s_ : (List Int)) (c0 : (List Int)) : (List Int) := (bif ((slicesIndexFunc_int_implwithout_1 s_ c0) == (-1 : Int)) then s_ else (Out.on (whlD (slicesDeleteFunc_int_implwithout_1_f0 c0) (List.length s_ + 1) (s_, (slicesIndexFunc_int_implwithout_1 s_ c0), ((slicesIndexFunc_int_implwithout_1 s_ c0) + 1))) (fun y0 => List.take (Int.toNat y0.2) y0.1)))
theorem slicesDeleteFunc_int_implwithout_1_st (c0 : (List Int)) : DelStep (slicesDeleteFunc_int_implwithout_1_f0 c0) (fun a => implwithout_1 a c0) := by
 intro s i j hij hj
 unfold slicesDeleteFunc_int_implwithout_1_f0
 by_cases h : (j : Int) < (s.length : Int) <;> cases hp : implwithout_1 (nth s j) c0 <;> simp [h, hp]
theorem slicesDeleteFunc_int_implwithout_1_w (s_ : (List Int)) (c0 : (List Int)) (hp : List.length s_ ≤ 1073741824) (h : slicesIndexFunc_int_implwithout_1 s_ c0 ≠ -1) : (whl (slicesDeleteFunc_int_implwithout_1_f0 c0) (List.length s_ + 1) (s_, slicesIndexFunc_int_implwithout_1 s_ c0, slicesIndexFunc_int_implwithout_1 s_ c0 + 1)).isSome = true := del_some (slicesDeleteFunc_int_implwithout_1_st c0) hp (slicesIndexFunc_int_implwithout_1_ix s_ c0) h
theorem slicesDeleteFunc_int_implwithout_1_eq (s_ : (List Int)) (c0 : (List Int)) (hp : List.length s_ ≤ 1073741824) : slicesDeleteFunc_int_implwithout_1 s_ c0 = s_.filter (fun a => !(implwithout_1 a c0)) := by
 unfold slicesDeleteFunc_int_implwithout_1
 exact del_eq (slicesDeleteFunc_int_implwithout_1_st c0) hp (slicesIndexFunc_int_implwithout_1_ix s_ c0)
theorem slicesDeleteFunc_int_implwithout_1_le (s_ : (List Int)) (c0 : (List Int)) (hp : List.length s_ ≤ 1073741824) : List.length (slicesDeleteFunc_int_implwithout_1 s_ c0) ≤ List.length s_ := by rw [slicesDeleteFunc_int_implwithout_1_eq _ _ hp]; exact List.length_filter_le _ _
theorem slicesDeleteFunc_int_implwithout_1_a (s_ : (List Int)) (c0 : (List Int)) : ATake Tryz.prog 110 1 (eL s_) [.one (.fnr 111 [[.h c0]])] true false (eL (slicesDeleteFunc_int_implwithout_1 s_ c0)) := by
 refine atake_of (tt := tt) tt_ok Tryz.func110 (fn := Tryz.f110) rfl (by unfold FnOk; kernel_rfl) (Nat.le_of_ble_eq_true rfl) (by simp [AV.cells, C.key, C.bkeys]) (t := 4) rfl fun w0 F0 hG => ?_
 refine wT 0 0 (.own false 63) s_ (fun hw1 hl2 => ?_)
 have hix := slicesIndexFunc_int_implwithout_1_bd s_ c0
 refine sn tt_ok [0, 1, 4] [] (p0) ?_
 refine tn tt_ok [0, 1, 4, 5] [] (pc 2 (slicesIndexFunc_int_implwithout_1_a s_ c0) p0) ?_
 refine awp_seq ?_
 refine tu tt_ok [(4, .e 0), (5, .i (slicesIndexFunc_int_implwithout_1 s_ c0)), (12, .b ((slicesIndexFunc_int_implwithout_1 s_ c0) == (-1 : Int)))] [] [] [] (p0) ?_
 refine ck ((slicesIndexFunc_int_implwithout_1 s_ c0) == (-1 : Int)) (fun h3 => ?_) (fun h3 => ?_)
 ·
  refine sn tt_ok [0, 1, 4, 5] [] (p0) ?_
  refine awp_ret ?_
  have hE4 : slicesDeleteFunc_int_implwithout_1 s_ c0 = s_ := bif_t h3 (rfl)
  exact ⟨.inl rfl, 63, by rw [hE4]; kernel_rfl⟩
 ·
  have h3d := ne_of_beq h3
  refine awp_skip ?_
  refine awp_seq ?_
  refine sn tt_ok [0, 1, 4, 5, 6] [] (pe 1 (av_i (IntWalk.i64_in ((slicesIndexFunc_int_implwithout_1 s_ c0) + 1) (by omega))) p0) ?_
  refine mz [(6, .i ((slicesIndexFunc_int_implwithout_1 s_ c0) + 1))] [12] [] [] ?_
  refine blw (fun (s0 : (List Int) × Int × Int) => [(0, .q 63 s0.1), (5, .i s0.2.1), (6, .i s0.2.2)]) [0, 5, 6] (fun s0 => []) [] (fun (y0 : (List Int) × Int) => [(0, .q 63 y0.1), (5, .i y0.2)]) [0, 1, 5, 6] (fun y0 => []) [] (fun (k0 : Nat) (s0 : (List Int) × Int × Int) => whl (slicesDeleteFunc_int_implwithout_1_f0 c0) k0 s0 = some (whlD (slicesDeleteFunc_int_implwithout_1_f0 c0) (List.length s_ + 1) (s_, (slicesIndexFunc_int_implwithout_1 s_ c0), ((slicesIndexFunc_int_implwithout_1 s_ c0) + 1))) ∧ 0 ≤ s0.2.1 ∧ s0.2.1 < s0.2.2 ∧ s0.2.2 ≤ (List.length s0.1 : Int) ∧ List.length s0.1 = List.length s_) (fun (y0 : (List Int) × Int) => (whlD (slicesDeleteFunc_int_implwithout_1_f0 c0) (List.length s_ + 1) (s_, (slicesIndexFunc_int_implwithout_1 s_ c0), ((slicesIndexFunc_int_implwithout_1 s_ c0) + 1))) = .brk y0 ∧ 0 ≤ y0.2 ∧ y0.2 < (List.length y0.1 : Int) ∧ List.length y0.1 = List.length s_) (List.length s_ + 1) (s_, (slicesIndexFunc_int_implwithout_1 s_ c0), ((slicesIndexFunc_int_implwithout_1 s_ c0) + 1)) (weak_fit (by kernel_rfl)) ⟨whl_some (slicesDeleteFunc_int_implwithout_1_w s_ c0 hl2 h3d), (by first | omega | (dsimp only; omega) | rfl), (by first | omega | (dsimp only; omega) | rfl), (by first | omega | (dsimp only; omega) | rfl), (by first | omega | (dsimp only; omega) | rfl)⟩ (fun _ h => whl_zero h.1) (fun k0 s0 hI0 => ?_) (fun y0 hD0 => ?_)
  ·
   have hA0_0 := hI0.2.1
   have hA0_1 := hI0.2.2.1
   have hA0_2 := hI0.2.2.2.1
   have hA0_3 := hI0.2.2.2.2
   refine awp_seq ?_
   refine sn tt_ok [0, 1, 4, 5, 6, 19] [] (pl 2 s0.1 p0) ?_
   refine ck (decide (s0.2.2 < (s0.1.length : Int))) (fun h5 => ?_) (fun h5 => ?_)
   ·
    have h5d := of_decide_eq_true h5
    refine awp_skip ?_
    refine awp_seq ?_
    refine awp_block ?_
    refine wT 0 0 (.own false 63) s0.1 (fun hw7 hl8 => ?_)
    have hx6 := ng s0.1 (Int.toNat s0.2.2)
    refine tn tt_ok [0, 1, 4, 5, 6, 7] [] (pG 2 s0.2.2 hx6 p0) ?_
    refine tu tt_ok [(7, .i (nth s0.1 (Int.toNat s0.2.2))), (29, .b (!(implwithout_1 (nth s0.1 (Int.toNat s0.2.2)) c0)))] [] [] [] (pc 2 (implwithout_1_a (nth s0.1 (Int.toNat s0.2.2)) c0) p0) ?_
    refine ck (!(implwithout_1 (nth s0.1 (Int.toNat s0.2.2)) c0)) (fun h9 => ?_) (fun h9 => ?_)
    ·
     have hx10 := ng s0.1 (Int.toNat s0.2.1)
     refine su tt_ok [(0, .one (.slc (.own false 63) 1 (setRow (eL s0.1) (Int.toNat s0.2.1) 0 [.i (nth s0.1 (Int.toNat s0.2.2))])))] [0, 7, 29] [] [] (pG 3 s0.2.1 hx10 p0) ?_
     refine eqn [(0, .q 63 (List.set s0.1 (Int.toNat s0.2.1) (nth s0.1 (Int.toNat s0.2.2))))] [0] [] [] (by rw [setRow_eL (y := (nth s0.1 (Int.toNat s0.2.2))) hx10 rfl]; first | done | kernel_rfl) ?_
     refine rn tt_ok [0, 1, 4, 5, 6] [] (pe 1 (av_i (IntWalk.i64_in (s0.2.1 + 1) (by omega))) p0) ?_
     refine qn tt_ok [0, 1, 4, 5, 6] [] (pe 1 (av_i (IntWalk.i64_in (s0.2.2 + 1) (by omega))) p0) ?_
     exact Exists.intro (List.set s0.1 (Int.toNat s0.2.1) (nth s0.1 (Int.toNat s0.2.2)), (s0.2.1 + 1), (s0.2.2 + 1)) (And.intro (weak_fit (by kernel_rfl)) ⟨wn hI0.1 (bif_t h5 (bif_t h9 (rfl))), (by first | omega | (dsimp only; omega) | (simp only [List.length_set]; omega)), (by first | omega | (dsimp only; omega) | (simp only [List.length_set]; omega)), (by first | omega | (dsimp only; omega) | (simp only [List.length_set]; omega)), (by first | omega | (dsimp only; omega) | (simp only [List.length_set]; omega))⟩)
    ·
     refine awp_skip ?_
     refine rn tt_ok [0, 1, 4, 5, 6] [] (pe 1 (av_i (IntWalk.i64_in (s0.2.2 + 1) (by omega))) p0) ?_
     exact Exists.intro (s0.1, s0.2.1, (s0.2.2 + 1)) (And.intro (weak_fit (by kernel_rfl)) ⟨wn hI0.1 (bif_t h5 (bif_f h9 (rfl))), (by first | omega | (dsimp only; omega) | (simp only [List.length_set]; omega)), (by first | omega | (dsimp only; omega) | (simp only [List.length_set]; omega)), (by first | omega | (dsimp only; omega) | (simp only [List.length_set]; omega)), (by first | omega | (dsimp only; omega) | (simp only [List.length_set]; omega))⟩)
   ·
    have h5d := of_decide_eq_false h5
    refine awp_exit ?_
    exact Exists.intro (s0.1, s0.2.1) (And.intro (weak_fit (by kernel_rfl)) ⟨wb hI0.1 (bif_f h5 (rfl)), by first | omega | (simp only [List.length_set]; omega), by first | omega | (simp only [List.length_set]; omega), by first | omega | (simp only [List.length_set]; omega)⟩)
  ·
   have hD0_0 := hD0.2.1
   have hD0_1 := hD0.2.2.1
   have hD0_2 := hD0.2.2.2
   refine awp_seq ?_
   refine awp_clear tt_ok rfl (by kernel_rfl) rfl rfl rfl rfl rfl (by omega) (by rw [eL_length]; omega) (fun lc11 hllc11 htlc11 => ?_)
   refine sn tt_ok [4] [] (po 2 (.cut (eL (List.take (Int.toNat y0.2) y0.1))) (px (ob_eq (show .one (.slc (.own false 0) 1 ((lc11.take (Int.toNat y0.2)).drop (Int.toNat 0))) = .q 0 (List.take (Int.toNat y0.2) y0.1) from (congrArg (fun z => AV.one (.slc (.own false 0) 1 (z.drop (Int.toNat 0)))) htlc11).trans (av_take (.own false 0) 1 (Int.toNat y0.2) y0.2 y0.1 rfl))) (px (ob_rng (lo := 0) (hi := y0.2) (n := (List.length lc11)) (rng_lc (by omega) (by rw [hllc11, eL_length]; omega))) p0))) ?_
   refine awp_ret ?_
   have hE12 : slicesDeleteFunc_int_implwithout_1 s_ c0 = List.take (Int.toNat y0.2) y0.1 := bif_f h3 (on_b hD0.1 (rfl))
   exact ⟨.inl rfl, 0, by rw [hE12]; kernel_rfl⟩
def implwithout (a_ : (List Int)) (b : (List Int)) : (List Int) := slicesDeleteFunc_int_implwithout_1 a_ b
theorem implwithout_a (a_ : (List Int)) (b : (List Int)) : ACalls Tryz.prog 70 [.h a_, .h b] (.o 0 (implwithout a_ b)) := by
 refine en tt_ok Tryz.func70 fun w0 F0 hG => ?_
 refine sn tt_ok [0, 3, 4] [3] (p0) ?_
 refine wT 0 0 .sh a_ (fun hw1 hl2 => ?_)
 have hq3 := slicesDeleteFunc_int_implwithout_1_le a_ b hl2
 refine tn tt_ok [4] [] (pc 1 (cloneInt_a a_) (po 3 (.take false false (eL (slicesDeleteFunc_int_implwithout_1 a_ b))) (px (ob_take (atake_flat (slicesDeleteFunc_int_implwithout_1_a a_ b) (flat_eL _))) (px (ob_flat (flat_eL a_)) (px (ob_flat (flat_eL (slicesDeleteFunc_int_implwithout_1 a_ b))) p0))))) ?_
 refine awp_ret ?_
 exact po0 [] (show implwithout a_ b = slicesDeleteFunc_int_implwithout_1 a_ b from rfl)
end Go.Proofs.YtcnkkobgogmakaaGreat
namespace Go.Proofs.YtcnkkobgogmakaaGreat
open Go.RowKit
theorem asc_ext : ∀ (a b : List Int), a.Pairwise (· < ·) → b.Pairwise (· < ·) → (∀ x, x ∈ a ↔ x ∈ b) → a = b
  | [], [], _, _, _ => rfl
  | [], y :: b, _, _, h => by have := (h y).2 (by simp); simp at this
  | x :: a, [], _, _, h => by have := (h x).1 (by simp); simp at this
  | x :: a, y :: b, ha, hb, h => by
    rw [List.pairwise_cons] at ha hb
    have h1 : x = y := by
      have hx := (h x).1 (by simp)
      have hy := (h y).2 (by simp)
      simp only [List.mem_cons] at hx hy
      rcases hx with e | hx
      · exact e
      · rcases hy with e | hy
        · exact e.symm
        · have h1 := ha.1 y hy
          have h2 := hb.1 x hx
          omega
    subst h1
    congr 1
    refine asc_ext a b ha.2 hb.2 fun z => ?_
    have hz := h z
    simp only [List.mem_cons] at hz
    constructor
    · intro hm
      have hlt := ha.1 z hm
      rcases hz.1 (.inr hm) with e | e
      · omega
      · exact e
    · intro hm
      have hlt := hb.1 z hm
      rcases hz.2 (.inr hm) with e | e
      · omega
      · exact e
def putId : List Int → Int → List Int
  | [], n => [n]
  | x :: l, n => if x < n then x :: putId l n else if x = n then x :: l else n :: x :: l
theorem mem_putId (n x : Int) : ∀ l : List Int, x ∈ putId l n ↔ x = n ∨ x ∈ l
  | [] => by simp [putId]
  | y :: l => by
    unfold putId
    by_cases h1 : y < n
    · rw [if_pos h1, List.mem_cons, mem_putId n x l, List.mem_cons]
      constructor
      · rintro (h | h | h)
        · exact .inr (.inl h)
        · exact .inl h
        · exact .inr (.inr h)
      · rintro (h | h | h)
        · exact .inr (.inl h)
        · exact .inl h
        · exact .inr (.inr h)
    · rw [if_neg h1]
      by_cases h2 : y = n
      · rw [if_pos h2, h2]; simp
      · rw [if_neg h2]; simp
theorem asc_putId (n : Int) : ∀ l : List Int, l.Pairwise (· < ·) → (putId l n).Pairwise (· < ·)
  | [], _ => by simp [putId]
  | y :: l, h => by
    rw [List.pairwise_cons] at h
    unfold putId
    by_cases h1 : y < n
    · rw [if_pos h1, List.pairwise_cons]
      refine ⟨fun z hz => ?_, asc_putId n l h.2⟩
      rcases (mem_putId n z l).1 hz with e | e
      · omega
      · exact h.1 z e
    · rw [if_neg h1]
      by_cases h2 : y = n
      · rw [if_pos h2, List.pairwise_cons]; exact h
      · rw [if_neg h2, List.pairwise_cons, List.pairwise_cons]
        refine ⟨fun z hz => ?_, h⟩
        rcases List.mem_cons.1 hz with e | e
        · omega
        · have := h.1 z e; omega
theorem len_putId (n : Int) : ∀ l : List Int, (putId l n).length ≤ l.length + 1
  | [] => by simp [putId]
  | y :: l => by
    have h := len_putId n l
    unfold putId
    split
    · simp only [List.length_cons]; omega
    · split
      · simp
      · simp
def placeOf (l : List Int) (n : Int) : Nat := (l.takeWhile (fun x => decide (x < n))).length
theorem putId_eq (n : Int) : ∀ l : List Int, putId l n = if l[placeOf l n]? = some n then l else l.take (placeOf l n) ++ [n] ++ l.drop (placeOf l n)
  | [] => by simp [putId, placeOf]
  | y :: l => by
    have ih := putId_eq n l
    unfold putId placeOf
    by_cases h1 : y < n
    · rw [if_pos h1, ih]
      simp only [List.takeWhile_cons, h1, decide_true, if_true, List.length_cons, List.getElem?_cons_succ, List.take_succ_cons, List.drop_succ_cons]
      unfold placeOf
      split <;> simp
    · rw [if_neg h1]
      simp only [List.takeWhile_cons, h1, decide_false, List.length_nil, List.getElem?_cons_zero, Option.some.injEq, List.take_zero, List.drop_zero]
      by_cases h2 : y = n
      · rw [if_pos h2]; simp [h2]
      · rw [if_neg h2]; simp [h2]
def putAll (l : List Int) (xs : List Int) : List Int := xs.foldl putId l
theorem mem_putAll (x : Int) : ∀ (xs l : List Int), x ∈ putAll l xs ↔ x ∈ xs ∨ x ∈ l
  | [], l => by simp [putAll]
  | n :: xs, l => by
    have h := mem_putAll x xs (putId l n)
    unfold putAll at h ⊢
    rw [List.foldl_cons, h, mem_putId, List.mem_cons]
    constructor
    · rintro (h | h | h)
      · exact .inl (.inr h)
      · exact .inl (.inl h)
      · exact .inr h
    · rintro ((h | h) | h)
      · exact .inr (.inl h)
      · exact .inl h
      · exact .inr (.inr h)
theorem asc_putAll : ∀ (xs l : List Int), l.Pairwise (· < ·) → (putAll l xs).Pairwise (· < ·)
  | [], _, h => h
  | n :: xs, l, h => asc_putAll xs (putId l n) (asc_putId n l h)
def less (ids removed : List Int) : List Int := ids.filter (fun x => !removed.contains x)
def replay1 (ids added removed : List Int) : List Int := putAll (putAll [] (less ids removed)) added
theorem less_len (ids removed : List Int) : (less ids removed).length ≤ ids.length := List.length_filter_le _ _
theorem compact_asc (d : Array Int) (hs : ∀ i j, i ≤ j → j < d.size → d[i]! ≤ d[j]!) : ∀ m, m ≤ d.size → (Lib.compactUpTo d m).Pairwise (· < ·) ∧ ∀ x, x ∈ Lib.compactUpTo d m ↔ ∃ j, j < m ∧ d[j]! = x
  | 0, _ => by simp [Lib.compactUpTo]
  | m + 1, hm => by
    obtain ⟨h1, h2⟩ := compact_asc d hs m (by omega)
    rw [Lib.compactUpTo_succ]
    by_cases hk : Lib.keeps d m = true
    · rw [if_pos hk]
      refine ⟨?_, fun x => ?_⟩
      · rw [List.pairwise_append]
        refine ⟨h1, by simp, fun a ha b hb => ?_⟩
        obtain ⟨j, hj, rfl⟩ := (h2 a).1 ha
        obtain rfl : b = d[m]! := by simpa using hb
        have hle := hs j (m - 1) (by omega) (by omega)
        have hle2 := hs (m - 1) m (by omega) (by omega)
        have hne : d[m]! ≠ d[m - 1]! := by
          unfold Lib.keeps at hk
          simp only [Bool.or_eq_true, beq_iff_eq, bne_iff_ne, decide_eq_true_eq] at hk
          rcases hk with h | h
          · omega
          · exact h
        omega
      · rw [List.mem_append, h2 x]
        constructor
        · rintro (⟨j, hj, e⟩ | h)
          · exact ⟨j, by omega, e⟩
          · exact ⟨m, by omega, by simpa using (by simpa using h : x = d[m]!).symm⟩
        · rintro ⟨j, hj, e⟩
          by_cases hjm : j = m
          · subst hjm; exact .inr (by simp [e])
          · exact .inl ⟨j, by omega, e⟩
    · rw [if_neg hk, List.append_nil]
      refine ⟨h1, fun x => ?_⟩
      rw [h2 x]
      have hm0 : m ≠ 0 ∧ d[m]! = d[m - 1]! := by
        unfold Lib.keeps at hk
        simp only [Bool.or_eq_true, beq_iff_eq, bne_iff_ne, decide_eq_true_eq, not_or, Decidable.not_not] at hk
        exact hk
      constructor
      · rintro ⟨j, hj, e⟩; exact ⟨j, by omega, e⟩
      · rintro ⟨j, hj, e⟩
        by_cases hjm : j = m
        · subst hjm; exact ⟨j - 1, by omega, hm0.2 ▸ e⟩
        · exact ⟨j, by omega, e⟩
theorem compact_sort (l : List Int) (a : List Int) (ha : a.Pairwise (· < ·)) (hm : ∀ x, x ∈ a ↔ x ∈ l) : Lib.compact (l.mergeSort fun x y => decide (x ≤ y)) = a := by
  have hp := List.mergeSort_perm l (fun x y => decide (x ≤ y))
  have hs := List.pairwise_mergeSort (le := fun (x y : Int) => decide (x ≤ y)) (fun a b c h1 h2 => by simp at h1 h2 ⊢; omega) (fun a b => by simp; omega) l
  generalize (l.mergeSort fun x y => decide (x ≤ y)) = s at hp hs
  have hsz : s.toArray.size = s.length := by simp
  have hget : ∀ j, j < s.length → s.toArray[j]! = s[j]! := fun j hj => by simp
  have hmono : ∀ i j, i ≤ j → j < s.toArray.size → s.toArray[i]! ≤ s.toArray[j]! := fun i j hij hj => by
    rw [hsz] at hj
    rw [hget i (by omega), hget j hj, getElem!_pos s i (by omega), getElem!_pos s j hj]
    by_cases e : i = j
    · subst e; exact Int.le_refl _
    · have := List.pairwise_iff_getElem.1 hs i j (by omega) hj (by omega)
      simpa using this
  obtain ⟨h1, h2⟩ := compact_asc s.toArray hmono s.length (by omega)
  refine asc_ext _ _ h1 ha fun x => ?_
  show x ∈ Lib.compactUpTo s.toArray s.length ↔ _
  rw [h2 x, hm x, ← hp.mem_iff]
  constructor
  · rintro ⟨j, hj, e⟩
    rw [hget j hj, getElem!_pos s j hj] at e
    exact e ▸ List.getElem_mem hj
  · intro h
    obtain ⟨j, hj, e⟩ := List.getElem_of_mem h
    exact ⟨j, hj, by rw [hget j hj, getElem!_pos s j hj]; exact e⟩
theorem replay1_eq (ids added removed : List Int) : Lib.compact ((less ids removed ++ added).mergeSort fun x y => decide (x ≤ y)) = replay1 ids added removed :=
  compact_sort _ _ (asc_putAll _ _ (asc_putAll _ _ (by simp))) fun x => by
    unfold replay1
    rw [mem_putAll, mem_putAll, List.mem_append]
    simp only [List.not_mem_nil, or_false]
    exact Or.comm
end Go.Proofs.YtcnkkobgogmakaaGreat
namespace Go.Proofs.YtcnkkobgogmakaaGreat
open Go.RowKit
theorem putI_loop (n : Int) : ∀ (l : List Int) (k : Nat), forL (specl07PutId_f0 n) specl07PutId_e0 l k () = .brk (((k + placeOf l n : Nat)) : Int)
  | [], k => by simp [forL, specl07PutId_e0, placeOf]
  | a :: l, k => by
    simp only [forL, specl07PutId_f0]
    by_cases h : a < n
    · have e : placeOf (a :: l) n = placeOf l n + 1 := by simp [placeOf, h]
      rw [decide_eq_true h, e]
      simp only [cond_true]
      rw [putI_loop n l (k + 1), show k + 1 + placeOf l n = k + (placeOf l n + 1) by omega]
    · have e : placeOf (a :: l) n = 0 := by simp [placeOf, h]
      rw [decide_eq_false h, e]
      rfl
theorem l07Put_eq (l : List Int) (n : Int) : specl07PutId l n = putId l n := by
  unfold specl07PutId
  rw [putI_loop, putId_eq]
  simp only [Out.on, Nat.zero_add, Int.toNat_natCast]
  by_cases h : l[placeOf l n]? = some n
  · obtain ⟨hlt, _⟩ := List.getElem?_eq_some_iff.1 h
    rw [if_pos h, decide_eq_true (by omega : ((placeOf l n : Nat) : Int) < (l.length : Int)), nth_of h]
    simp
  · rw [if_neg h]
    have hc : (decide (((placeOf l n : Nat) : Int) < (l.length : Int)) && (nth l (placeOf l n) == n)) = false := by
      by_cases hlt : placeOf l n < l.length
      · have : nth l (placeOf l n) ≠ n := fun e => h (by rw [nth_get hlt, e])
        rw [beq_eq_false_iff_ne.2 this, Bool.and_false]
      · rw [decide_eq_false (by omega), Bool.false_and]
    rw [hc, cond_false]
theorem putI_len (l : List Int) (n : Int) : List.length (specl07PutId l n) ≤ List.length l + 1 := by rw [l07Put_eq]; exact len_putId n l
end Go.Proofs.YtcnkkobgogmakaaGreat
namespace Go.Proofs.YtcnkkobgogmakaaGreat
open Go.RowKit
theorem without_less {a b : List Int} (hp : List.length a ≤ 1073741824) : implwithout a b = less a b := by
  unfold implwithout
  rw [slicesDeleteFunc_int_implwithout_1_eq a b hp]
  unfold less
  refine List.filter_congr fun x _ => ?_
  have h : implwithout_1 x b = b.contains x := by
    rw [Bool.eq_iff_iff]
    have := cid_iff b x
    unfold implContainsID at this
    show slicesContains_int b x = true ↔ _
    rw [this]
    simp
  rw [h]
open GoE (enc wide)
def implreplayed (ids : (List Int)) (added : (List Int)) (removed : (List Int)) : (List Int) := compI (sortI (less ids removed ++ added))
theorem implreplayed_a (ids : (List Int)) (added : (List Int)) (removed : (List Int)) (hp : List.length ids + List.length added ≤ 536870912) : ACalls Tryz.prog 72 [.h ids, .h added, .h removed] (.o 0 (implreplayed ids added removed)) := by
 refine en tt_ok Tryz.func72 fun w0 F0 hG => ?_
 have hll := less_len ids removed
 refine sn tt_ok [0, 1, 2, 6] [] (p0) ?_
 refine wT 0 0 .sh ids (fun hw1 hl2 => ?_)
 refine wT 1 0 .sh added (fun hw3 hl4 => ?_)
 refine tu tt_ok [(6, .e 0), (7, .one (.slc (.own true 768) 1 ((eL (less ids removed)) ++ (eL added))))] [0, 1, 2] [] [] (pc 2 ((without_less hl2) ▸ implwithout_a ids removed) (po 4 (.flat) (pa (less ids removed) added (px (ob_flat (flat_eL added)) p0)))) ?_
 refine eqn [(7, .o 768 (less ids removed ++ added))] [7] [] [] (by rw [show ((eL (less ids removed)) ++ (eL added)) = (eL (less ids removed ++ added)) from app_eL (rfl) (rfl)]; first | done | kernel_rfl) ?_
 refine awp_demotes [768] rfl ?_
 refine su tt_ok [(7, .one (.slc (.own false 768) 1 (putR (eL (less ids removed ++ added)) 0 4294967296 (List.flatten (eL (sortI (less ids removed ++ added)))))))] [7] [] [] (po 1 (.take false true (eL (sortI (less ids removed ++ added)))) (px (ob_take (sortI_a (less ids removed ++ added))) p0)) ?_
 refine eqn [(7, .q 768 (sortI (less ids removed ++ added)))] [7] [] [] (by rw [putR_all (fun _ => rfl) (sortI_len _)]; first | done | kernel_rfl) ?_
 refine sn tt_ok [6] [] (po 1 (.take false false (eL (compI (sortI (less ids removed ++ added))))) (px (ob_take (compI_a (sortI (less ids removed ++ added)))) p0)) ?_
 refine awp_promote 6 (k := 1024) (n := 1) (by kernel_rfl) (flat_eL (compI (sortI (less ids removed ++ added)))) ?_
 refine awp_ret ?_
 exact po0 [] (show implreplayed ids added removed = compI (sortI (less ids removed ++ added)) from rfl)
def specApplyDiffToIDs_f0 (d : DiffD) (_ : Nat) (a0 : Int) (s0 : (List Int)) : Rd ((List Int)) ((List Int)) ((List Int)) := (bif (!(specContainsID d.2.2 a0)) then (.next (specl07PutId s0 a0)) else (.next s0))
def specApplyDiffToIDs_e0 (_ : Nat) (s0 : (List Int)) : (List Int) := s0
def specApplyDiffToIDs_f1 (_ : Nat) (a1 : Int) (s1 : (List Int)) : Rd ((List Int)) ((List Int)) ((List Int)) := (.next (specl07PutId s1 a1))
def specApplyDiffToIDs_e1 (_ : Nat) (s1 : (List Int)) : (List Int) := s1
def specApplyDiffToIDs (ids : (List Int)) (d : DiffD) : (List Int) := (Out.on (forL (specApplyDiffToIDs_f0 d) specApplyDiffToIDs_e0 ids 0 []) (fun y0 => (Out.on (forL specApplyDiffToIDs_f1 specApplyDiffToIDs_e1 d.2.1 0 y0) (fun y1 => y1))))
theorem specApplyDiffToIDs_a (ids : (List Int)) (d : DiffD) (hp : List.length ids + List.length d.2.1 ≤ 536870912) : ACalls Tryz.prog 91 [.h ids, .a [.s d.1, .h d.2.1, .h d.2.2]] (.o 0 (specApplyDiffToIDs ids d)) := by
 refine en tt_ok Tryz.func91 fun w0 F0 hG => ?_
 refine sn tt_ok [0, 3, 4] [3] (p0) ?_
 refine tn tt_ok [0, 3, 4, 5] [3] (p0) ?_
 refine awp_seq ?_
 refine tu tt_ok [(3, .p 3 0), (4, .e 0), (5, .one (.slc (.own true 512) 1 [])), (6, .i 0)] [1] [(3, [.s d.1, .h d.2.1, .h d.2.2])] [] (p0) ?_
 refine wT 0 0 .sh ids (fun hw1 hl2 => ?_)
 refine blL3 (specApplyDiffToIDs_f0 d) specApplyDiffToIDs_e0 ids [] (fun k0 s0 => [(5, .h s0), (6, .i ((k0 : Nat) : Int))]) [5, 6] (fun y0 => [(5, .h y0)]) [0, 5, 6] (fun k0 s0 => List.length s0 ≤ k0) (fun y0 => List.length y0 ≤ List.length ids) (weak_gf [] [512] [] [] (by kernel_rfl)) (by simp) (fun k0 s0 hk0 hI0 => ?_) (fun k0 s0 hk0 hI0 => ?_) (fun y0 hD0 => ?_)
 ·
  have hA0_0 := hI0.2
  obtain ⟨a0, hx0⟩ := get_some (l := ids) (i := k0) hk0
  refine awp_seq ?_
  refine sn tt_ok [0, 3, 4, 5, 6, 12] [3] (pl 2 ids (pe 3 (av_bool (decide_eq_true (p := ((k0 : Nat) : Int) < (ids.length : Int)) (by omega))) p0)) ?_
  refine ckT ?_
  refine awp_skip ?_
  refine awp_seq ?_
  refine awp_block ?_
  refine tN tt_ok tt_mx [0, 3, 4, 5, 6, 22] [3] (pn 4 hx0 (pc 6 (specContainsID_a d.2.2 a0) p0)) ?_
  refine ck (!(specContainsID d.2.2 a0)) (fun h3 => ?_) (fun h3 => ?_)
  ·
   refine qu tt_ok [(5, .h (specl07PutId s0 a0))] [5] [] [] (pn 3 hx0 (pc 5 (specl07PutId_a s0 a0 (by omega)) p0)) ?_
   refine rn tt_ok [0, 3, 4, 5, 6] [3] (pe 1 (av_i (wrap_succ k0 (by omega))) p0) ?_
   exact Exists.intro (specl07PutId s0 a0) (And.intro (weak_fit (by kernel_rfl)) ⟨forL_next hx0 (bif_t h3 (rfl)) hI0.1, (by first | omega | (have hz := putI_len s0 a0; omega))⟩)
  ·
   refine awp_skip ?_
   refine qu tt_ok [(6, .i ((k0 + 1 : Nat) : Int))] [6] [] [] (pe 1 (av_i (wrap_succ k0 (by omega))) p0) ?_
   exact Exists.intro s0 (And.intro (weak_fit (by kernel_rfl)) ⟨forL_next hx0 (bif_f h3 (rfl)) hI0.1, (by first | omega | (have hz := putI_len s0 a0; omega))⟩)
 ·
  have hA0_0 := hI0.2
  refine awp_seq ?_
  refine sn tt_ok [0, 3, 4, 5, 6, 12] [3] (pl 2 ids (pe 3 (av_bool (decide_eq_false (p := ((k0 : Nat) : Int) < (ids.length : Int)) (by omega))) p0)) ?_
  refine ckF ?_
  refine awp_exit ?_
  exact Exists.intro s0 (And.intro (weak_fit (by kernel_rfl)) ⟨forL_end hk0 (rfl) hI0.1, by first | omega | (simp only [List.length_set]; omega)⟩)
 ·
  have hD0_0 := hD0.2
  refine awp_seq ?_
  refine sn tt_ok [3, 4, 5, 7] [3] (p0) ?_
  refine mz [(7, .i 0)] [] [] [] ?_
  refine wB 3 1 .sh d.2.1 (fun hw4 hl5 => ?_)
  refine blL1b specApplyDiffToIDs_f1 specApplyDiffToIDs_e1 d.2.1 y0 (fun k1 s1 => [(5, .h s1), (7, .i ((k1 : Nat) : Int))]) [5, 7] (fun _ _ => []) [] (fun y1 => [(5, .h y1)]) [3, 5, 7] (fun _ => []) [3] (fun k1 s1 => List.length s1 ≤ List.length ids + k1) (weak_fit (by kernel_rfl)) (by first | omega | (simp; omega)) (fun k1 s1 hk1 hI1 => ?_) (fun k1 s1 hk1 hI1 => ?_) (fun y1 hD1 => ?_)
  ·
   have hA1_0 := hI1.2
   obtain ⟨a1, hx1⟩ := get_some (l := d.2.1) (i := k1) hk1
   refine awp_seq ?_
   refine sn tt_ok [3, 4, 5, 7, 33] [3] (pl 3 d.2.1 (pe 4 (av_bool (decide_eq_true (p := ((k1 : Nat) : Int) < (d.2.1.length : Int)) (by omega))) p0)) ?_
   refine ckT ?_
   refine awp_skip ?_
   refine awp_seq ?_
   refine awp_block ?_
   refine qn tt_ok [3, 4, 5, 7] [3] (pn 4 hx1 (pc 6 (specl07PutId_a s1 a1 (by omega)) p0)) ?_
   refine qu tt_ok [(5, .h (specl07PutId s1 a1)), (7, .i ((k1 + 1 : Nat) : Int))] [5, 7] [] [] (pe 1 (av_i (wrap_succ k1 (by omega))) p0) ?_
   exact Exists.intro (specl07PutId s1 a1) (And.intro (weak_fit (by kernel_rfl)) ⟨forL_next hx1 (rfl) hI1.1, (by first | omega | (have hz := putI_len s1 a1; omega))⟩)
  ·
   have hA1_0 := hI1.2
   refine awp_seq ?_
   refine sn tt_ok [3, 4, 5, 7, 33] [3] (pl 3 d.2.1 (pe 4 (av_bool (decide_eq_false (p := ((k1 : Nat) : Int) < (d.2.1.length : Int)) (by omega))) p0)) ?_
   refine ckF ?_
   refine awp_exit ?_
   exact Exists.intro _ (And.intro (weak_fit (by kernel_rfl)) (forL_end hk1 (rfl) hI1.1))
  ·
   refine wT 5 0 .sh y1 (fun hw6 hl7 => ?_)
   refine sn tt_ok [4] [] (po 2 (.flat) (px (ob_len (n := (([] : List (List PV)).length + ((eL y1) : List (List PV)).length)) (len_of (rfl) (eL_length y1) (by first | omega | (simp only [List.length_cons, List.length_nil]; omega) | (simp; omega) | simp))) (px (ob_flat (flat_eL y1)) p0))) ?_
   refine awp_ret ?_
   exact po0 [] (on_b hD0.1 (on_b hD1 (rfl)))
end Go.Proofs.YtcnkkobgogmakaaGreat
namespace Go.Proofs.YtcnkkobgogmakaaGreat
open Go.RowKit
theorem cidS_eq (l : List Int) (x : Int) : specContainsID l x = l.contains x := by
  rw [← cid_eq, Bool.eq_iff_iff, cid_iff]
  simp
theorem apply_f0 (d : DiffD) : ∀ (l : List Int) (k : Nat) (s : List Int), forL (specApplyDiffToIDs_f0 d) specApplyDiffToIDs_e0 l k s = .brk (putAll s (less l d.2.2))
  | [], k, s => rfl
  | a :: l, k, s => by
    simp only [forL, specApplyDiffToIDs_f0, cidS_eq]
    cases h : d.2.2.contains a with
    | true =>
      have e : less (a :: l) d.2.2 = less l d.2.2 := by
        show List.filter _ (a :: l) = _
        rw [List.filter_cons, h]; rfl
      rw [e]
      exact apply_f0 d l (k + 1) s
    | false =>
      have e : less (a :: l) d.2.2 = a :: less l d.2.2 := by
        show List.filter _ (a :: l) = _
        rw [List.filter_cons, h]; rfl
      rw [e, l07Put_eq]
      exact apply_f0 d l (k + 1) (putId s a)
theorem apply_f1 : ∀ (l : List Int) (k : Nat) (s : List Int), forL specApplyDiffToIDs_f1 specApplyDiffToIDs_e1 l k s = .brk (putAll s l)
  | [], k, s => rfl
  | a :: l, k, s => by
    simp only [forL, specApplyDiffToIDs_f1, l07Put_eq]
    exact apply_f1 l (k + 1) (putId s a)
theorem apply_eq (ids : List Int) (d : DiffD) : specApplyDiffToIDs ids d = implreplayed ids d.2.1 d.2.2 := by
  unfold specApplyDiffToIDs implreplayed
  rw [apply_f0]
  simp only [Out.on]
  rw [apply_f1]
  exact (replay1_eq ids d.2.1 d.2.2).symm
theorem replayed_len (ids a r : List Int) : List.length (implreplayed ids a r) ≤ List.length ids + List.length a := by
  unfold implreplayed
  have h1 := compI_len (sortI (less ids r ++ a))
  rw [sortI_len, List.length_append] at h1
  have h2 := less_len ids r
  omega
theorem apply_len (ids : List Int) (d : DiffD) : List.length (specApplyDiffToIDs ids d) ≤ List.length ids + List.length d.2.1 := by rw [apply_eq]; exact replayed_len ids d.2.1 d.2.2
theorem size_app {α : Type} [GoD α] (l m : List α) : GoD.size (l ++ m) = GoD.size l + GoD.size m := by
  simp only [size_list, List.length_append, List.map_append, List.sum_append]
  omega
theorem size_one {α : Type} [GoD α] (a : α) : GoD.size [a] = 1 + GoD.size a := by simp [size_list]
theorem size_take1 {α : Type} [GoD α] {l : List α} {k : Nat} {x : α} (h : l[k]? = some x) : GoD.size (List.take (k + 1) l) = GoD.size (List.take k l) + (1 + GoD.size x) := by
  rw [List.take_add_one, h, size_app]
  show _ + GoD.size [x] = _
  rw [size_one]
theorem size_take_le {α : Type} [GoD α] (l : List α) (k : Nat) : GoD.size (List.take k l) ≤ GoD.size l := by
  conv => rhs; rw [← List.take_append_drop k l, size_app]
  exact Nat.le_add_right _ _
theorem event_size (e : EventD) : List.length e.2.1 ≤ GoD.size e := by
  have h : GoD.size e = 0 + (GoD.size e.2.1 + GoD.size e.2.2) := rfl
  rw [ints_size] at h
  omega
theorem replay_step {ids : List Int} {l : List EventD} {k : Nat} {x : EventD} {s : List Int} {n : Nat} (hx : l[k]? = some x) (hs : List.length s ≤ List.length ids + GoD.size (List.take k l)) (hn : n ≤ List.length s + List.length x.2.1) : n ≤ List.length ids + GoD.size (List.take (k + 1) l) := by
  rw [size_take1 hx]
  have := event_size x
  omega
theorem replay_room {ids : List Int} {l : List EventD} {k : Nat} {x : EventD} {s : List Int} (hx : l[k]? = some x) (hs : List.length s ≤ List.length ids + GoD.size (List.take k l)) (hp : List.length ids + GoD.size l ≤ 536870912) : List.length s + List.length x.2.1 ≤ 536870912 := by
  have h1 := replay_step (n := List.length s + List.length x.2.1) hx hs (Nat.le_refl _)
  have h2 := size_take_le l (k + 1)
  omega
theorem watch_size (w : WatchD) : GoD.size w = w.2.1.size + (List.length w.2.2.1 + GoD.size w.2.2.2) := by
  have h : GoD.size w = 0 + (w.2.1.size + (GoD.size w.2.2.1 + GoD.size w.2.2.2)) := rfl
  rw [ints_size] at h
  omega
open GoE (enc wide)
def implReplayEvents_f0 (_ : Nat) (a0 : EventD) (s0 : (List Int)) : Rd ((List Int)) ((List Int)) ((List Int)) := (.next (implreplayed s0 a0.2.1 a0.2.2))
def implReplayEvents_e0 (_ : Nat) (s0 : (List Int)) : (List Int) := s0
def implReplayEvents (ids : (List Int)) (events : (List EventD)) : (List Int) := (Out.on (forL implReplayEvents_f0 implReplayEvents_e0 events 0 ids) (fun y0 => y0))
theorem implReplayEvents_a (ids : (List Int)) (events : (List EventD)) (hp : List.length ids + GoD.size events ≤ 536870912) : ACalls Tryz.prog 25 [.h ids, .h events] (.o 0 (implReplayEvents ids events)) := by
 refine en tt_ok Tryz.func25 fun w0 F0 hG => ?_
 refine sn tt_ok [0, 1, 4] [] (p0) ?_
 refine tn tt_ok [1, 4, 5] [] (pc 1 (cloneInt_a ids) p0) ?_
 refine awp_seq ?_
 refine tu tt_ok [(4, .e 0), (5, .o 576 ids), (10, .h events), (11, .i (events.length : Int)), (12, .i 0)] [0, 1] [] [] (pl 1 events p0) ?_
 refine wT 10 0 .sh events (fun hw1 hl2 => ?_)
 refine blL1 implReplayEvents_f0 implReplayEvents_e0 events ids (fun k0 s0 => [(5, .o 147201 s0), (12, .i ((k0 : Nat) : Int))]) [5, 12] (fun y0 => [(5, .o 147351 y0)]) [5, 10, 11, 12] (fun k0 s0 => List.length s0 ≤ List.length ids + GoD.size (List.take k0 events)) (weak_sf [(576, 147201)] (by kernel_rfl)) (by simp) (fun k0 s0 hk0 hI0 => ?_) (fun k0 s0 hk0 hI0 => ?_) (fun y0 hD0 => ?_)
 ·
  have hA0_0 := hI0.2
  obtain ⟨a0, hx0⟩ := get_some (l := events) (i := k0) hk0
  refine su tt_ok [(13, .b true)] [] [] [] (pe 0 (av_bool (decide_eq_true (p := ((k0 : Nat) : Int) < (events.length : Int)) (by omega))) p0) ?_
  refine awp_seq ?_
  refine ckT ?_
  refine awp_skip ?_
  refine awp_seq ?_
  refine awp_block ?_
  refine sn tt_ok [4, 5, 7, 10, 11, 12] [7] (pn 0 hx0 p0) ?_
  refine qn tt_ok [4, 5, 10, 11, 12] [] (pc 5 (implreplayed_a s0 a0.2.1 a0.2.2 (replay_room hx0 hA0_0 hp)) p0) ?_
  refine qu tt_ok [(5, .o 1344 (implreplayed s0 a0.2.1 a0.2.2)), (12, .i ((k0 + 1 : Nat) : Int))] [5, 12, 13] [] [] (pe 0 (av_i (wrap_succ k0 (by omega))) p0) ?_
  exact Exists.intro (implreplayed s0 a0.2.1 a0.2.2) (And.intro (weak_sf [(1344, 147201)] (by kernel_rfl)) ⟨forL_next hx0 (rfl) hI0.1, (by first | exact replay_step hx0 hA0_0 (replayed_len _ _ _) | exact replay_step hx0 hA0_0 (apply_len _ _))⟩)
 ·
  have hA0_0 := hI0.2
  refine su tt_ok [(13, .b false)] [] [] [] (pe 0 (av_bool (decide_eq_false (p := ((k0 : Nat) : Int) < (events.length : Int)) (by omega))) p0) ?_
  refine awp_seq ?_
  refine ckF ?_
  refine awp_exit ?_
  exact Exists.intro _ (And.intro (weak_sf [(147201, 147351)] (by kernel_rfl)) (forL_end hk0 (rfl) hI0.1))
 ·
  refine sn tt_ok [4] [] (p0) ?_
  refine awp_ret ?_
  exact po0 [] (on_b hD0 (rfl))
def implWatchListing (w : WatchD) : (List Int) := (implReplayEvents w.2.2.1 w.2.2.2)
theorem implWatchListing_a (w : WatchD) (hp : GoD.size w ≤ 536870912) : ACalls Tryz.prog 27 [.a [.i w.1, .s w.2.1, .h w.2.2.1, .h w.2.2.2]] (.o 0 (implWatchListing w)) := by
 refine en tt_ok Tryz.func27 fun w0 F0 hG => ?_
 refine sn tt_ok [1, 2] [1] (p0) ?_
 refine tn tt_ok [2] [] (pc 4 (implReplayEvents_a w.2.2.1 w.2.2.2 (by have hz := watch_size w; omega)) p0) ?_
 refine awp_ret ?_
 exact po0 [] (show implWatchListing w = (implReplayEvents w.2.2.1 w.2.2.2) from rfl)
def specReplayEvents_f0 (_ : Nat) (a0 : EventD) (s0 : (List Int)) : Rd ((List Int)) ((List Int)) ((List Int)) := (.next (specApplyDiffToIDs s0 (⟨#[]⟩, a0.2.1, a0.2.2)))
def specReplayEvents_e0 (_ : Nat) (s0 : (List Int)) : (List Int) := s0
def specReplayEvents (ids : (List Int)) (list : (List EventD)) : (List Int) := (Out.on (forL specReplayEvents_f0 specReplayEvents_e0 list 0 ids) (fun y0 => y0))
theorem specReplayEvents_a (ids : (List Int)) (list : (List EventD)) (hp : List.length ids + GoD.size list ≤ 536870912) : ACalls Tryz.prog 65 [.h ids, .h list] (.o 0 (specReplayEvents ids list)) := by
 refine en tt_ok Tryz.func65 fun w0 F0 hG => ?_
 refine sn tt_ok [0, 1, 4] [] (p0) ?_
 refine wT 0 0 .sh ids (fun hw1 hl2 => ?_)
 refine tn tt_ok [1, 4, 5] [] (po 2 (.flat) (px (ob_len (n := (([] : List (List PV)).length + ((eL ids) : List (List PV)).length)) (len_of (rfl) (eL_length ids) (by first | omega | (simp only [List.length_cons, List.length_nil]; omega) | (simp; omega) | simp))) (px (ob_flat (flat_eL ids)) p0))) ?_
 refine awp_seq ?_
 refine tu tt_ok [(4, .e 0), (5, .o 576 ids), (6, .i 0)] [0] [] [] (p0) ?_
 refine wT 1 0 .sh list (fun hw3 hl4 => ?_)
 refine blL1 specReplayEvents_f0 specReplayEvents_e0 list ids (fun k0 s0 => [(5, .o 147202 s0), (6, .i ((k0 : Nat) : Int))]) [5, 6] (fun y0 => [(5, .o 147352 y0)]) [1, 5, 6] (fun k0 s0 => List.length s0 ≤ List.length ids + GoD.size (List.take k0 list)) (weak_sf [(576, 147202)] (by kernel_rfl)) (by simp) (fun k0 s0 hk0 hI0 => ?_) (fun k0 s0 hk0 hI0 => ?_) (fun y0 hD0 => ?_)
 ·
  have hA0_0 := hI0.2
  obtain ⟨a0, hx0⟩ := get_some (l := list) (i := k0) hk0
  refine awp_seq ?_
  refine sn tt_ok [1, 4, 5, 6, 13] [] (pl 2 list (pe 3 (av_bool (decide_eq_true (p := ((k0 : Nat) : Int) < (list.length : Int)) (by omega))) p0)) ?_
  refine ckT ?_
  refine awp_skip ?_
  refine awp_seq ?_
  refine awp_block ?_
  refine qN tt_ok tt_mx [1, 4, 5, 6] [] (pn 3 hx0 (pn 8 hx0 (pc 12 (specApplyDiffToIDs_a s0 (⟨#[]⟩, a0.2.1, a0.2.2) (replay_room hx0 hA0_0 hp)) p0))) ?_
  refine qu tt_ok [(5, .o 1792 (specApplyDiffToIDs s0 (⟨#[]⟩, a0.2.1, a0.2.2))), (6, .i ((k0 + 1 : Nat) : Int))] [5, 6] [] [] (pe 1 (av_i (wrap_succ k0 (by omega))) p0) ?_
  exact Exists.intro (specApplyDiffToIDs s0 (⟨#[]⟩, a0.2.1, a0.2.2)) (And.intro (weak_sf [(1792, 147202)] (by kernel_rfl)) ⟨forL_next hx0 (rfl) hI0.1, (by first | exact replay_step hx0 hA0_0 (replayed_len _ _ _) | exact replay_step hx0 hA0_0 (apply_len _ _))⟩)
 ·
  have hA0_0 := hI0.2
  refine awp_seq ?_
  refine sn tt_ok [1, 4, 5, 6, 13] [] (pl 2 list (pe 3 (av_bool (decide_eq_false (p := ((k0 : Nat) : Int) < (list.length : Int)) (by omega))) p0)) ?_
  refine ckF ?_
  refine awp_exit ?_
  exact Exists.intro _ (And.intro (weak_sf [(147202, 147352)] (by kernel_rfl)) (forL_end hk0 (rfl) hI0.1))
 ·
  refine sn tt_ok [4] [] (p0) ?_
  refine awp_ret ?_
  exact po0 [] (on_b hD0 (rfl))
def specWatchListing (w : WatchD) : (List Int) := (specReplayEvents w.2.2.1 w.2.2.2)
theorem specWatchListing_a (w : WatchD) (hp : GoD.size w ≤ 536870912) : ACalls Tryz.prog 80 [.a [.i w.1, .s w.2.1, .h w.2.2.1, .h w.2.2.2]] (.o 0 (specWatchListing w)) := by
 refine en tt_ok Tryz.func80 fun w0 F0 hG => ?_
 refine sn tt_ok [1, 2] [1] (p0) ?_
 refine tn tt_ok [2] [] (pc 4 (specReplayEvents_a w.2.2.1 w.2.2.2 (by have hz := watch_size w; omega)) p0) ?_
 refine awp_ret ?_
 exact po0 [] (show specWatchListing w = (specReplayEvents w.2.2.1 w.2.2.2) from rfl)
def implcopyEvent (e_ : EventD) : EventD := e_
theorem implcopyEvent_a (e_ : EventD) : ACalls Tryz.prog 73 [.a [.i e_.1, .h e_.2.1, .h e_.2.2]] (.a [.i ((implcopyEvent e_).1), .o 0 ((implcopyEvent e_).2.1), .o 1 ((implcopyEvent e_).2.2)]) := by
 refine en tt_ok Tryz.func73 fun w0 F0 hG => ?_
 refine sn tt_ok [1, 2] [1, 2] (p0) ?_
 refine tN tt_ok tt_mx [2] [2] (pc 4 (cloneInt_a e_.2.1) (pc 7 (cloneInt_a e_.2.2) p0)) ?_
 refine awp_ret ?_
 exact pz [] (show implcopyEvent e_ = e_ from rfl) (fun z => .a [.i z.1, .o 0 z.2.1, .o 1 z.2.2])
def implcopyWatch_f0 (_ : Nat) (a0 : EventD) (s0 : (List EventD)) : Rd (WatchD) ((List EventD)) ((List EventD)) := (.next (s0 ++ [(implcopyEvent a0)]))
def implcopyWatch_e0 (_ : Nat) (s0 : (List EventD)) : (List EventD) := s0
def implcopyWatch (w : WatchD) : WatchD := (Out.on (forL implcopyWatch_f0 implcopyWatch_e0 w.2.2.2 0 []) (fun y0 => (w.1, w.2.1, w.2.2.1, y0)))
def specl29Events_f0 (_ : Nat) (a0 : EventD) (s0 : (List EventD)) : Rd ((List EventD)) ((List EventD)) ((List EventD)) := (.next (s0 ++ [a0]))
def specl29Events_e0 (_ : Nat) (s0 : (List EventD)) : (List EventD) := s0
def specl29Events (list : (List EventD)) : (List EventD) := (Out.on (forL specl29Events_f0 specl29Events_e0 list 0 []) (fun y0 => y0))
theorem specl29Events_a (list : (List EventD)) : ACalls Tryz.prog 118 [.h list] (.o 0 (specl29Events list)) := by
 refine en tt_ok Tryz.func118 fun w0 F0 hG => ?_
 refine sn tt_ok [0, 2] [] (p0) ?_
 refine tn tt_ok [0, 2, 3] [] (p0) ?_
 refine awp_seq ?_
 refine tu tt_ok [(2, .e 0), (3, .one (.slc (.own true 320) 3 [])), (4, .i 0)] [] [] [] (p0) ?_
 refine wT 0 0 .sh list (fun hw1 hl2 => ?_)
 refine blL1 specl29Events_f0 specl29Events_e0 list [] (fun k0 s0 => [(3, .o 147202 s0), (4, .i ((k0 : Nat) : Int))]) [3, 4] (fun y0 => [(3, .o 147352 y0)]) [0, 3, 4] (fun k0 s0 => List.length s0 ≤ k0) (weak_sf [(320, 147202)] (by kernel_rfl)) (by simp) (fun k0 s0 hk0 hI0 => ?_) (fun k0 s0 hk0 hI0 => ?_) (fun y0 hD0 => ?_)
 ·
  have hA0_0 := hI0.2
  obtain ⟨a0, hx0⟩ := get_some (l := list) (i := k0) hk0
  refine awp_seq ?_
  refine sn tt_ok [0, 2, 3, 4, 9] [] (pl 2 list (pe 3 (av_bool (decide_eq_true (p := ((k0 : Nat) : Int) < (list.length : Int)) (by omega))) p0)) ?_
  refine ckT ?_
  refine awp_skip ?_
  refine awp_seq ?_
  refine awp_block ?_
  have hl3 : List.length a0.2.1 ≤ 1073741824 := wide_len (wide_fst (wide_snd (wide_get hx0 (hw1))))
  have hl4 : List.length a0.2.2 ≤ 1073741824 := wide_len (wide_snd (wide_snd (wide_get hx0 (hw1))))
  refine wT 3 0 (.own true 147202) s0 (fun hw5 hl6 => ?_)
  refine qU tt_ok tt_mx [(3, .one (.slc (.own true 2176) 3 ((eL s0) ++ [[.i a0.1, .slc 1 ([] ++ (eL a0.2.1)), .slc 1 ([] ++ (eL a0.2.2))]])))] [3] [] [] (pn 3 hx0 (pn 9 hx0 (po 12 (.flat) (px (ob_len (n := (([] : List (List PV)).length + ((eL a0.2.1) : List (List PV)).length)) (len_of (rfl) (eL_length a0.2.1) (by first | omega | (simp only [List.length_cons, List.length_nil]; omega) | (simp; omega) | simp))) (px (ob_flat (flat_eL a0.2.1)) (pn 16 hx0 (po 19 (.flat) (px (ob_len (n := (([] : List (List PV)).length + ((eL a0.2.2) : List (List PV)).length)) (len_of (rfl) (eL_length a0.2.2) (by first | omega | (simp only [List.length_cons, List.length_nil]; omega) | (simp; omega) | simp))) (px (ob_flat (flat_eL a0.2.2)) (px (ob_len (n := (((eL s0) : List (List PV)).length + ([[.i a0.1, .slc 1 ([] ++ (eL a0.2.1)), .slc 1 ([] ++ (eL a0.2.2))]] : List (List PV)).length)) (len_of (eL_length s0) (rfl) (by first | omega | (simp only [List.length_cons, List.length_nil]; omega) | (simp; omega) | simp))) p0)))))))))) ?_
  refine eqn [(3, .o 2176 (s0 ++ [a0]))] [3] [] [] (by rw [show ((eL s0) ++ [[.i a0.1, .slc 1 ([] ++ (eL a0.2.1)), .slc 1 ([] ++ (eL a0.2.2))]]) = (eL (s0 ++ [a0])) from app_eL (rfl) (rfl)]; first | done | kernel_rfl) ?_
  refine rn tt_ok [0, 2, 3, 4] [] (pe 1 (av_i (wrap_succ k0 (by omega))) p0) ?_
  exact Exists.intro (s0 ++ [a0]) (And.intro (weak_sf [(2176, 147202)] (by kernel_rfl)) ⟨forL_next hx0 (rfl) hI0.1, by first | omega | (simp; omega) | simp⟩)
 ·
  have hA0_0 := hI0.2
  refine awp_seq ?_
  refine sn tt_ok [0, 2, 3, 4, 9] [] (pl 2 list (pe 3 (av_bool (decide_eq_false (p := ((k0 : Nat) : Int) < (list.length : Int)) (by omega))) p0)) ?_
  refine ckF ?_
  refine awp_exit ?_
  exact Exists.intro _ (And.intro (weak_sf [(147202, 147352)] (by kernel_rfl)) (forL_end hk0 (rfl) hI0.1))
 ·
  refine sn tt_ok [2] [] (p0) ?_
  refine awp_ret ?_
  exact po0 [] (on_b hD0 (rfl))
def specl29Copy (w : WatchD) : WatchD := (w.1, w.2.1, w.2.2.1, (specl29Events w.2.2.2))
theorem specl29Copy_a (w : WatchD) : ACalls Tryz.prog 78 [.a [.i w.1, .s w.2.1, .h w.2.2.1, .h w.2.2.2]] (.a [.i ((specl29Copy w).1), .s ((specl29Copy w).2.1), .o 0 ((specl29Copy w).2.2.1), .o 1 ((specl29Copy w).2.2.2)]) := by
 refine en tt_ok Tryz.func78 fun w0 F0 hG => ?_
 refine sn tt_ok [1, 2] [1, 2] (p0) ?_
 refine wB 1 2 .sh w.2.2.1 (fun hw1 hl2 => ?_)
 refine tN tt_ok tt_mx [2] [2] (po 7 (.flat) (px (ob_len (n := (([] : List (List PV)).length + ((eL w.2.2.1) : List (List PV)).length)) (len_of (rfl) (eL_length w.2.2.1) (by first | omega | (simp only [List.length_cons, List.length_nil]; omega) | (simp; omega) | simp))) (px (ob_flat (flat_eL w.2.2.1)) (pc 10 (specl29Events_a w.2.2.2) p0)))) ?_
 refine awp_ret ?_
 exact pz [] (show specl29Copy w = (w.1, w.2.1, w.2.2.1, (specl29Events w.2.2.2)) from rfl) (fun z => .a [.i z.1, .s z.2.1, .o 0 z.2.2.1, .o 1 z.2.2.2])
def implDiffIDs (a_ : (List Int)) (b : (List Int)) : (List Int) × (List Int) := ((less b a_), (less a_ b))
def specDiffIDs_f0 (a_ : (List Int)) (_ : Nat) (a0 : Int) (s0 : (List Int)) : Rd ((List Int) × (List Int)) ((List Int)) ((List Int)) := (bif (!(specContainsID a_ a0)) then (.next (s0 ++ [a0])) else (.next s0))
def specDiffIDs_e0 (_ : Nat) (s0 : (List Int)) : (List Int) := s0
def specDiffIDs_f1 (b : (List Int)) (_ : Nat) (a1 : Int) (s1 : (List Int)) : Rd ((List Int) × (List Int)) ((List Int)) ((List Int)) := (bif (!(specContainsID b a1)) then (.next (s1 ++ [a1])) else (.next s1))
def specDiffIDs_e1 (_ : Nat) (s1 : (List Int)) : (List Int) := s1
def specDiffIDs (a_ : (List Int)) (b : (List Int)) : (List Int) × (List Int) := (Out.on (forL (specDiffIDs_f0 a_) specDiffIDs_e0 b 0 []) (fun y0 => (Out.on (forL (specDiffIDs_f1 b) specDiffIDs_e1 a_ 0 []) (fun y1 => (y0, y1)))))
theorem specDiffIDs_a (a_ : (List Int)) (b : (List Int)) : ACalls Tryz.prog 79 [.h a_, .h b] (.tup [(false, [.o 0 (((specDiffIDs a_ b)).1)]), (false, [.o 1 (((specDiffIDs a_ b)).2)])]) := by
 refine en tt_ok Tryz.func79 fun w0 F0 hG => ?_
 refine sn tt_ok [0, 1, 4, 5] [] (p0) ?_
 refine tn tt_ok [0, 1, 4, 5, 6] [] (p0) ?_
 refine tu tt_ok [(4, .e 0), (5, .e 0), (6, .one (.slc (.own true 640) 1 [])), (7, .one (.slc (.own true 704) 1 []))] [] [] [] (p0) ?_
 refine awp_seq ?_
 refine su tt_ok [(8, .i 0)] [] [] [] (p0) ?_
 refine wT 1 0 .sh b (fun hw1 hl2 => ?_)
 refine blL1 (specDiffIDs_f0 a_) specDiffIDs_e0 b [] (fun k0 s0 => [(6, .o 147204 s0), (8, .i ((k0 : Nat) : Int))]) [6, 8] (fun y0 => [(6, .o 147354 y0)]) [6, 8] (fun k0 s0 => List.length s0 ≤ k0) (weak_sf [(640, 147204)] (by kernel_rfl)) (by simp) (fun k0 s0 hk0 hI0 => ?_) (fun k0 s0 hk0 hI0 => ?_) (fun y0 hD0 => ?_)
 ·
  have hA0_0 := hI0.2
  obtain ⟨a0, hx0⟩ := get_some (l := b) (i := k0) hk0
  refine awp_seq ?_
  refine su tt_ok [(15, .b true)] [] [] [] (pl 2 b (pe 3 (av_bool (decide_eq_true (p := ((k0 : Nat) : Int) < (b.length : Int)) (by omega))) p0)) ?_
  refine ckT ?_
  refine awp_skip ?_
  refine awp_seq ?_
  refine awp_block ?_
  refine sn tt_ok [0, 1, 4, 5, 6, 7, 8, 24] [] (pn 3 hx0 (pc 5 (specContainsID_a a_ a0) p0)) ?_
  refine ck (!(specContainsID a_ a0)) (fun h3 => ?_) (fun h3 => ?_)
  ·
   refine wT 6 0 (.own true 147204) s0 (fun hw4 hl5 => ?_)
   refine qu tt_ok [(6, .one (.slc (.own true 1984) 1 ((eL s0) ++ [[.i a0]])))] [6, 15] [] [] (pn 3 hx0 (pa s0 [a0] p0)) ?_
   refine eqn [(6, .o 1984 (s0 ++ [a0]))] [6] [] [] (by rw [show ((eL s0) ++ [[.i a0]]) = (eL (s0 ++ [a0])) from app_eL (rfl) (rfl)]; first | done | kernel_rfl) ?_
   refine rn tt_ok [0, 1, 4, 5, 6, 7, 8] [] (pe 1 (av_i (wrap_succ k0 (by omega))) p0) ?_
   exact Exists.intro (s0 ++ [a0]) (And.intro (weak_sf [(1984, 147204)] (by kernel_rfl)) ⟨forL_next hx0 (bif_t h3 (rfl)) hI0.1, by first | omega | (simp; omega) | simp⟩)
  ·
   refine awp_skip ?_
   refine qn tt_ok [0, 1, 4, 5, 6, 7, 8] [] (pe 1 (av_i (wrap_succ k0 (by omega))) p0) ?_
   exact Exists.intro s0 (And.intro (weak_fit (by kernel_rfl)) ⟨forL_next hx0 (bif_f h3 (rfl)) hI0.1, by first | omega | (simp; omega) | simp⟩)
 ·
  have hA0_0 := hI0.2
  refine awp_seq ?_
  refine su tt_ok [(15, .b false)] [] [] [] (pl 2 b (pe 3 (av_bool (decide_eq_false (p := ((k0 : Nat) : Int) < (b.length : Int)) (by omega))) p0)) ?_
  refine ckF ?_
  refine awp_exit ?_
  exact Exists.intro _ (And.intro (weak_sf [(147204, 147354)] (by kernel_rfl)) (forL_end hk0 (rfl) hI0.1))
 ·
  refine awp_seq ?_
  refine su tt_ok [(9, .i 0)] [] [] [] (p0) ?_
  refine wT 0 0 .sh a_ (fun hw6 hl7 => ?_)
  refine blL1 (specDiffIDs_f1 b) specDiffIDs_e1 a_ [] (fun k1 s1 => [(7, .o 147205 s1), (9, .i ((k1 : Nat) : Int))]) [7, 9] (fun y1 => [(7, .o 147355 y1)]) [0, 1, 7, 9] (fun k1 s1 => List.length s1 ≤ k1) (weak_sf [(704, 147205)] (by kernel_rfl)) (by simp) (fun k1 s1 hk1 hI1 => ?_) (fun k1 s1 hk1 hI1 => ?_) (fun y1 hD1 => ?_)
  ·
   have hA1_0 := hI1.2
   obtain ⟨a1, hx1⟩ := get_some (l := a_) (i := k1) hk1
   refine awp_seq ?_
   refine su tt_ok [(35, .b true)] [] [] [] (pl 2 a_ (pe 3 (av_bool (decide_eq_true (p := ((k1 : Nat) : Int) < (a_.length : Int)) (by omega))) p0)) ?_
   refine ckT ?_
   refine awp_skip ?_
   refine awp_seq ?_
   refine awp_block ?_
   refine sn tt_ok [0, 1, 4, 5, 6, 7, 9, 44] [] (pn 3 hx1 (pc 5 (specContainsID_a b a1) p0)) ?_
   refine ck (!(specContainsID b a1)) (fun h8 => ?_) (fun h8 => ?_)
   ·
    refine wT 7 0 (.own true 147205) s1 (fun hw9 hl10 => ?_)
    refine qu tt_ok [(7, .one (.slc (.own true 3264) 1 ((eL s1) ++ [[.i a1]])))] [7, 35] [] [] (pn 3 hx1 (pa s1 [a1] p0)) ?_
    refine eqn [(7, .o 3264 (s1 ++ [a1]))] [7] [] [] (by rw [show ((eL s1) ++ [[.i a1]]) = (eL (s1 ++ [a1])) from app_eL (rfl) (rfl)]; first | done | kernel_rfl) ?_
    refine rn tt_ok [0, 1, 4, 5, 6, 7, 9] [] (pe 1 (av_i (wrap_succ k1 (by omega))) p0) ?_
    exact Exists.intro (s1 ++ [a1]) (And.intro (weak_sf [(3264, 147205)] (by kernel_rfl)) ⟨forL_next hx1 (bif_t h8 (rfl)) hI1.1, by first | omega | (simp; omega) | simp⟩)
   ·
    refine awp_skip ?_
    refine qn tt_ok [0, 1, 4, 5, 6, 7, 9] [] (pe 1 (av_i (wrap_succ k1 (by omega))) p0) ?_
    exact Exists.intro s1 (And.intro (weak_fit (by kernel_rfl)) ⟨forL_next hx1 (bif_f h8 (rfl)) hI1.1, by first | omega | (simp; omega) | simp⟩)
  ·
   have hA1_0 := hI1.2
   refine awp_seq ?_
   refine su tt_ok [(35, .b false)] [] [] [] (pl 2 a_ (pe 3 (av_bool (decide_eq_false (p := ((k1 : Nat) : Int) < (a_.length : Int)) (by omega))) p0)) ?_
   refine ckF ?_
   refine awp_exit ?_
   exact Exists.intro _ (And.intro (weak_sf [(147205, 147355)] (by kernel_rfl)) (forL_end hk1 (rfl) hI1.1))
  ·
   refine sn tt_ok [4, 5] [] (p0) ?_
   refine awp_ret ?_
   exact pz [] (show specDiffIDs a_ b = _ from on_b hD0 (on_b hD1 (rfl))) (fun z => .tup [(false, [.o 0 z.1]), (false, [.o 1 z.2])])
end Go.Proofs.YtcnkkobgogmakaaGreat
namespace Go.Proofs.YtcnkkobgogmakaaGreat
open Go.RowKit
theorem replay_eq (ids : List Int) (l : List EventD) : specReplayEvents ids l = implReplayEvents ids l := by
  unfold specReplayEvents implReplayEvents
  rw [forL_congr (f := specReplayEvents_f0) (g := implReplayEvents_f0) (e := specReplayEvents_e0) (e' := implReplayEvents_e0) (fun _ _ => rfl) l 0 _ (fun i a t _ => by
    unfold specReplayEvents_f0 implReplayEvents_f0
    rw [apply_eq])]
theorem listing_eq (w : WatchD) : specWatchListing w = implWatchListing w := replay_eq w.2.2.1 w.2.2.2
theorem copyWatch_id (w : WatchD) : implcopyWatch w = w := by
  unfold implcopyWatch
  rw [forL_map (f := implcopyWatch_f0) (g := implcopyEvent) (fun _ _ _ => rfl)]
  show (w.1, w.2.1, w.2.2.1, [] ++ w.2.2.2.map implcopyEvent) = w
  rw [show implcopyEvent = id from rfl, List.map_id]
  rfl
theorem l29Copy_id (w : WatchD) : specl29Copy w = w := by
  unfold specl29Copy specl29Events
  rw [forL_map (f := specl29Events_f0) (g := id) (fun _ _ _ => rfl)]
  show (w.1, w.2.1, w.2.2.1, [] ++ w.2.2.2.map id) = w
  rw [List.map_id]
  rfl
theorem l29Copy_len (w : WatchD) : List.length ((specl29Copy w)).2.2.2 = List.length w.2.2.2 := by rw [l29Copy_id]
theorem sz_events (w : WatchD) : List.length w.2.2.2 ≤ GoD.size w := by
  have h := watch_size w
  have h2 : List.length w.2.2.2 ≤ GoD.size w.2.2.2 := by rw [size_list]; omega
  omega
open GoE (enc wide)
def implNotify (w : WatchD) (version : Int) (s_ : StoreD) (d : (List DirD)) : WatchD := (bif decide (IntKind.i64.wrap (((((implDiffIDs (implWatchListing w) (implListDir s_ d w.1 w.2.1))).1).length : Int) + ((((implDiffIDs (implWatchListing w) (implListDir s_ d w.1 w.2.1))).2).length : Int)) > (0 : Int)) then ((implcopyWatch w).1, (implcopyWatch w).2.1, (implcopyWatch w).2.2.1, (implcopyWatch w).2.2.2 ++ [(version, ((implDiffIDs (implWatchListing w) (implListDir s_ d w.1 w.2.1))).1, ((implDiffIDs (implWatchListing w) (implListDir s_ d w.1 w.2.1))).2)]) else (implcopyWatch w))
def specNotify (w : WatchD) (version : Int) (s_ : StoreD) (d : (List DirD)) : WatchD := (bif (decide (((((specDiffIDs (specWatchListing (specl29Copy w)) (specListDir s_ d ((specl29Copy w).1) ((specl29Copy w).2.1)))).1).length : Int) > (0 : Int)) || decide (((((specDiffIDs (specWatchListing (specl29Copy w)) (specListDir s_ d ((specl29Copy w).1) ((specl29Copy w).2.1)))).2).length : Int) > (0 : Int))) then ((specl29Copy w).1, (specl29Copy w).2.1, (specl29Copy w).2.2.1, (specl29Copy w).2.2.2 ++ [(version, ((specDiffIDs (specWatchListing (specl29Copy w)) (specListDir s_ d ((specl29Copy w).1) ((specl29Copy w).2.1)))).1, ((specDiffIDs (specWatchListing (specl29Copy w)) (specListDir s_ d ((specl29Copy w).1) ((specl29Copy w).2.1)))).2)]) else (specl29Copy w))
theorem specNotify_a (w : WatchD) (version : Int) (s_ : StoreD) (d : (List DirD)) (hp : GoD.size w ≤ 536870912) : ACalls Tryz.prog 30 [.a [.i w.1, .s w.2.1, .h w.2.2.1, .h w.2.2.2], .i version, .a [.h s_.1, .h s_.2.1, .i s_.2.2], .h d] (.a [.i ((specNotify w version s_ d).1), .s ((specNotify w version s_ d).2.1), .o 0 ((specNotify w version s_ d).2.2.1), .o 1 ((specNotify w version s_ d).2.2.2)]) := by
 refine en tt_ok Tryz.func30 fun w0 F0 hG => ?_
 have hcl := l29Copy_len w
 have hse := sz_events w
 refine sn tt_ok [1, 3, 4, 6, 8] [4, 6, 8] (p0) ?_
 refine tn tt_ok [1, 3, 4, 6, 8] [4, 6, 8] (pc 1 (specl29Copy_a w) p0) ?_
 refine tU tt_ok tt_mx [(4, .p 4 0), (8, .p 8 0), (9, .o 1472 (((specDiffIDs (specWatchListing (specl29Copy w)) (specListDir s_ d ((specl29Copy w).1) ((specl29Copy w).2.1)))).1)), (10, .o 1473 (((specDiffIDs (specWatchListing (specl29Copy w)) (specListDir s_ d ((specl29Copy w).1) ((specl29Copy w).2.1)))).2))] [0, 2, 3] [(4, [.i ((specl29Copy w).1), .s ((specl29Copy w).2.1), .o 768 ((specl29Copy w).2.2.1), .o 769 ((specl29Copy w).2.2.2)]), (8, [.i 0, .s ⟨#[]⟩, .e 1, .e 3])] [] (pc 1 (specWatchListing_a (specl29Copy w) (by first | omega | (rw [l29Copy_id]; omega) | exact Nat.le_trans (findWatch_size x i) hp | exact Nat.le_trans (findWatch_sizeS x i) hp)) (pc 8 (specListDir_a s_ d ((specl29Copy w).1) ((specl29Copy w).2.1)) (pc 9 (specDiffIDs_a (specWatchListing (specl29Copy w)) (specListDir s_ d ((specl29Copy w).1) ((specl29Copy w).2.1))) p0))) ?_
 refine awp_seq ?_
 refine awp_seq ?_
 refine jn [(33, .b (decide (((((specDiffIDs (specWatchListing (specl29Copy w)) (specListDir s_ d ((specl29Copy w).1) ((specl29Copy w).2.1)))).1).length : Int) > (0 : Int)) || decide (((((specDiffIDs (specWatchListing (specl29Copy w)) (specListDir s_ d ((specl29Copy w).1) ((specl29Copy w).2.1)))).2).length : Int) > (0 : Int))))] [] [] [] (decide (((((specDiffIDs (specWatchListing (specl29Copy w)) (specListDir s_ d ((specl29Copy w).1) ((specl29Copy w).2.1)))).1).length : Int) > (0 : Int))) (fun h1 => ?_) (fun h1 => ?_) ?_
 ·
  refine ru tt_ok [(33, .b true)] [] [] [] (pl 1 (((specDiffIDs (specWatchListing (specl29Copy w)) (specListDir s_ d ((specl29Copy w).1) ((specl29Copy w).2.1)))).1) (pt 2 h1 p0)) ?_
  exact ⟨rfl, weak_fit (by rw [h1]; first | done | kernel_rfl)⟩
 ·
  refine rn tt_ok [1, 4, 8, 9, 10, 33] [4, 8] (pl 1 (((specDiffIDs (specWatchListing (specl29Copy w)) (specListDir s_ d ((specl29Copy w).1) ((specl29Copy w).2.1)))).1) (pf 2 h1 (pl 5 (((specDiffIDs (specWatchListing (specl29Copy w)) (specListDir s_ d ((specl29Copy w).1) ((specl29Copy w).2.1)))).2) p0))) ?_
  exact ⟨rfl, weak_fit (by rw [h1]; first | done | kernel_rfl)⟩
 refine ck (decide (((((specDiffIDs (specWatchListing (specl29Copy w)) (specListDir s_ d ((specl29Copy w).1) ((specl29Copy w).2.1)))).1).length : Int) > (0 : Int)) || decide (((((specDiffIDs (specWatchListing (specl29Copy w)) (specListDir s_ d ((specl29Copy w).1) ((specl29Copy w).2.1)))).2).length : Int) > (0 : Int))) (fun h2 => ?_) (fun h2 => ?_)
 ·
  refine wB 4 3 (.own true 769) ((specl29Copy w).2.2.2) (fun hw3 hl4 => ?_)
  refine ru tt_ok [] [1, 9, 10, 33] [(4, [.i ((specl29Copy w).1), .s ((specl29Copy w).2.1), .o 768 ((specl29Copy w).2.2.1), .slc (.own true 2624) 3 ((eL ((specl29Copy w).2.2.2)) ++ [[.i version, .h (((specDiffIDs (specWatchListing (specl29Copy w)) (specListDir s_ d ((specl29Copy w).1) ((specl29Copy w).2.1)))).1), .h (((specDiffIDs (specWatchListing (specl29Copy w)) (specListDir s_ d ((specl29Copy w).1) ((specl29Copy w).2.1)))).2)]])])] [4] (pa ((specl29Copy w).2.2.2) [(version, ((specDiffIDs (specWatchListing (specl29Copy w)) (specListDir s_ d ((specl29Copy w).1) ((specl29Copy w).2.1)))).1, ((specDiffIDs (specWatchListing (specl29Copy w)) (specListDir s_ d ((specl29Copy w).1) ((specl29Copy w).2.1)))).2)] p0) ?_
  refine eqn [] [] [(4, [.i ((specl29Copy w).1), .s ((specl29Copy w).2.1), .o 768 ((specl29Copy w).2.2.1), .o 2624 ((specl29Copy w).2.2.2 ++ [(version, ((specDiffIDs (specWatchListing (specl29Copy w)) (specListDir s_ d ((specl29Copy w).1) ((specl29Copy w).2.1)))).1, ((specDiffIDs (specWatchListing (specl29Copy w)) (specListDir s_ d ((specl29Copy w).1) ((specl29Copy w).2.1)))).2)])])] [4] (by rw [show ((eL ((specl29Copy w).2.2.2)) ++ [[.i version, .h (((specDiffIDs (specWatchListing (specl29Copy w)) (specListDir s_ d ((specl29Copy w).1) ((specl29Copy w).2.1)))).1), .h (((specDiffIDs (specWatchListing (specl29Copy w)) (specListDir s_ d ((specl29Copy w).1) ((specl29Copy w).2.1)))).2)]]) = (eL ((specl29Copy w).2.2.2 ++ [(version, ((specDiffIDs (specWatchListing (specl29Copy w)) (specListDir s_ d ((specl29Copy w).1) ((specl29Copy w).2.1)))).1, ((specDiffIDs (specWatchListing (specl29Copy w)) (specListDir s_ d ((specl29Copy w).1) ((specl29Copy w).2.1)))).2)])) from app_eL (rfl) (rfl)]; first | done | kernel_rfl) ?_
  refine sn tt_ok [8] [8] (p0) ?_
  refine awp_ret ?_
  exact pz [] (show specNotify w version s_ d = _ from bif_t h2 (rfl)) (fun z => .a [.i z.1, .s z.2.1, .o 0 z.2.2.1, .o 1 z.2.2.2])
 ·
  refine awp_skip ?_
  refine sn tt_ok [8] [8] (p0) ?_
  refine awp_ret ?_
  exact pz [] (show specNotify w version s_ d = _ from bif_f h2 (rfl)) (fun z => .a [.i z.1, .s z.2.1, .o 0 z.2.2.1, .o 1 z.2.2.2])
end Go.Proofs.YtcnkkobgogmakaaGreat
namespace Go.Proofs.YtcnkkobgogmakaaGreat
open Go.RowKit
theorem less_eq {R : Type} {f : Nat → Int → List Int → Rd R (List Int) (List Int)} {e : Nat → List Int → List Int} {b : List Int} (hf : ∀ k a s, f k a s = bif (!(specContainsID b a)) then .next (s ++ [a]) else .next s) (he : ∀ k s, e k s = s) (l : List Int) : forL f e l 0 [] = .brk (less l b) := by
  rw [forL_filter (p := fun x => !b.contains x) (g := fun x => x) (fun k a s => by rw [hf, cidS_eq])]
  rw [he, List.nil_append, List.map_id']
  rfl
theorem diffIDs_eq (a b : List Int) : specDiffIDs a b = implDiffIDs a b := by
  unfold specDiffIDs implDiffIDs
  rw [less_eq (f := specDiffIDs_f0 a) (e := specDiffIDs_e0) (b := a) (fun _ _ _ => rfl) (fun _ _ => rfl), less_eq (f := specDiffIDs_f1 b) (e := specDiffIDs_e1) (b := b) (fun _ _ _ => rfl) (fun _ _ => rfl)]
  rfl
theorem replay_grow : ∀ (l : List EventD) (k : Nat) (s : List Int), ∃ t, forL implReplayEvents_f0 implReplayEvents_e0 l k s = .brk t ∧ t.length ≤ s.length + GoD.size l
  | [], k, s => ⟨s, rfl, Nat.le_add_right _ _⟩
  | x :: l, k, s => by
    obtain ⟨t, h1, h2⟩ := replay_grow l (k + 1) (implreplayed s x.2.1 x.2.2)
    refine ⟨t, h1, ?_⟩
    have h3 := replayed_len s x.2.1 x.2.2
    have h4 := event_size x
    have h5 : GoD.size (x :: l) = GoD.size [x] + GoD.size l := size_app [x] l
    rw [size_one] at h5
    omega
theorem listing_len (w : WatchD) : List.length (implWatchListing w) ≤ GoD.size w := by
  have hw := watch_size w
  unfold implWatchListing implReplayEvents
  obtain ⟨t, h1, h2⟩ := replay_grow w.2.2.2 0 w.2.2.1
  rw [h1]
  simp only [Out.on]
  omega
theorem notify_eq (w : WatchD) (v : Int) (s : StoreD) (d : List DirD) (hp : GoD.size w ≤ 536870912) : specNotify w v s d = implNotify w v s d := by
  unfold specNotify implNotify
  rw [l29Copy_id, copyWatch_id, listing_eq, listDir_eq, diffIDs_eq]
  have h1 := listing_len w
  have h2 := listDir_short s d w.1 w.2.1
  unfold implDiffIDs
  have h3 := less_len (implListDir s d w.1 w.2.1) (implWatchListing w)
  have h4 := less_len (implWatchListing w) (implListDir s d w.1 w.2.1)
  generalize less (implListDir s d w.1 w.2.1) (implWatchListing w) = a at h3 ⊢
  generalize less (implWatchListing w) (implListDir s d w.1 w.2.1) = b at h4 ⊢
  have hw : IntKind.i64.wrap ((a.length : Int) + (b.length : Int)) = (a.length : Int) + (b.length : Int) := IntWalk.i64_in _ (by omega)
  simp only [hw]
  have hc : (decide ((a.length : Int) > (0 : Int)) || decide ((b.length : Int) > (0 : Int))) = decide ((a.length : Int) + (b.length : Int) > (0 : Int)) := by
    rw [Bool.eq_iff_iff]; simp only [Bool.or_eq_true, decide_eq_true_eq]; omega
  rw [hc]
theorem notify_size (w : WatchD) (v : Int) (s : StoreD) (d : List DirD) : GoD.size (implNotify w v s d) ≤ 2 * GoD.size w + 13 := by
  unfold implNotify
  rw [copyWatch_id]
  have h1 := listing_len w
  have h2 := listDir_short s d w.1 w.2.1
  unfold implDiffIDs
  have h3 := less_len (implListDir s d w.1 w.2.1) (implWatchListing w)
  have h4 := less_len (implWatchListing w) (implListDir s d w.1 w.2.1)
  generalize less (implListDir s d w.1 w.2.1) (implWatchListing w) = a at h3 ⊢
  generalize less (implWatchListing w) (implListDir s d w.1 w.2.1) = b at h4 ⊢
  cases decide (IntKind.i64.wrap ((a.length : Int) + (b.length : Int)) > (0 : Int)) with
  | false => simp only [cond_false]; omega
  | true =>
    simp only [cond_true]
    have hw := watch_size w
    rw [watch_size]
    show w.2.1.size + (List.length w.2.2.1 + GoD.size (w.2.2.2 ++ [((v, a, b) : EventD)])) ≤ _
    rw [size_app, size_one]
    have he : GoD.size ((v, a, b) : EventD) = 0 + (GoD.size a + GoD.size b) := rfl
    rw [ints_size, ints_size] at he
    omega
end Go.Proofs.YtcnkkobgogmakaaGreat
namespace Go.Proofs.YtcnkkobgogmakaaGreat
open Go.RowKit
theorem four_names (k : Nat) : (nth ([⟨#[100, 97]⟩, ⟨#[100, 98]⟩, ⟨#[100, 99]⟩, ⟨#[100, 100]⟩] : List ByteArray) k).size ≤ 2 := by
  match k with
  | 0 | 1 | 2 | 3 => exact Nat.le_refl 2
  | n + 4 => exact Nat.zero_le 2
theorem l11_names (code : List UInt8) (ci : Nat) (ch : Int) : ∀ a, a ∈ (specl11Dirs code ci ch).1 → a.1.size ≤ 2 := by
  unfold specl11Dirs
  obtain ⟨t, ht⟩ := whlD_brk (f := specl11Dirs_f0 code) (fun s r => by
    unfold specl11Dirs_f0 lt
    generalize specl01Below code s.2.2.1 s.2.2.2 4 = x
    simp only
    generalize decide (s.2.1 < 1 + x.1) = c
    cases c <;> simp) 5 ([], 0, ci, ch)
  have := whlD_inv (f := specl11Dirs_f0 code) (I := fun s => ∀ a, a ∈ s.1 → a.1.size ≤ 2) (J := fun t => ∀ a, a ∈ t.1 → a.1.size ≤ 2) (fun s s' hi h => by
    unfold specl11Dirs_f0 lt at h
    generalize specl01Below code s.2.2.1 s.2.2.2 4 = x at h
    simp only at h
    revert h
    generalize decide (s.2.1 < 1 + x.1) = c
    intro h
    cases c with
    | true =>
      simp only [cond_true] at h
      have h := Rd.next.inj h
      rw [← h]
      intro a ha
      rcases List.mem_append.1 ha with ha | ha
      · exact hi a ha
      · rw [List.mem_singleton.1 ha]; exact four_names _
    | false => simp at h) (fun s t hi h => by
    unfold specl11Dirs_f0 lt at h
    generalize specl01Below code s.2.2.1 s.2.2.2 4 = x at h
    simp only at h
    revert h
    generalize decide (s.2.1 < 1 + x.1) = c
    intro h
    cases c with
    | true => simp at h
    | false =>
      simp only [cond_false] at h
      have h := Rd.brk.inj h
      rw [← h]
      exact hi) (n := 5) (s := ([], 0, ci, ch)) (t := t) (by intro a ha; simp at ha) (specl11Dirs_w code ci ch) ht
  rw [ht]
  exact this
theorem l13_names (code : List UInt8) (ci : Nat) (ch : Int) (k : Nat) : (nth (specl13Dirs code ci ch).1 k).1.size ≤ 2 := by
  have key : ∀ a, a ∈ (specl13Dirs code ci ch).1 → a.1.size ≤ 2 := by
    unfold specl13Dirs lt
    have h11 := l11_names code ci ch
    generalize specl11Dirs code ci ch = x at h11
    obtain ⟨t, ht⟩ := whlD_brk (f := specl13Dirs_f0) (fun s r => by
      unfold specl13Dirs_f0
      generalize (decide ((s.length : Int) > (0 : Int)) && (!(specIsStratified s))) = c
      cases c <;> simp) (List.length x.1 + 1) x.1
    have hj := whlD_inv (f := specl13Dirs_f0) (I := fun s => ∀ a, a ∈ s → a.1.size ≤ 2) (J := fun t => ∀ a, a ∈ t → a.1.size ≤ 2) (fun s s' hi h => by
      unfold specl13Dirs_f0 at h
      revert h
      generalize (decide ((s.length : Int) > (0 : Int)) && (!(specIsStratified s))) = c
      intro h
      cases c with
      | true =>
        simp only [cond_true] at h
        have h := Rd.next.inj h
        rw [← h]
        exact fun a ha => hi a (List.mem_of_mem_take ha)
      | false => simp at h) (fun s t hi h => by
      unfold specl13Dirs_f0 at h
      revert h
      generalize (decide ((s.length : Int) > (0 : Int)) && (!(specIsStratified s))) = c
      intro h
      cases c with
      | true => simp at h
      | false =>
        simp only [cond_false] at h
        have h := Rd.brk.inj h
        rw [← h]; exact hi) (n := List.length x.1 + 1) (s := x.1) (t := t) h11 (specl13Dirs_w code x.1) ht
    simp only [ht, Out.on]
    cases ((t.length : Int) == 0) with
    | true =>
      intro a ha
      obtain rfl := List.mem_singleton.1 ha
      exact Nat.le_refl 2
    | false => exact hj
  by_cases hk : k < (specl13Dirs code ci ch).1.length
  · exact key _ (List.mem_of_getElem? (nth_get hk))
  · have : nth (specl13Dirs code ci ch).1 k = default := by simp [nth, List.getD, List.getElem?_eq_none (Nat.le_of_not_lt hk)]
    rw [this]; exact Nat.zero_le 2
def W29 (i : Int) (w : WatchD) : Prop := (i = 1 ∧ GoD.size w ≤ 100) ∨ (i = 2 ∧ GoD.size w ≤ 213) ∨ (i = 3 ∧ GoD.size w ≤ 439) ∨ (i = 4 ∧ GoD.size w ≤ 891) ∨ (i = 5 ∧ GoD.size w ≤ 1795)
theorem w29_small {i : Int} {w : WatchD} (h : W29 i w) : GoD.size w ≤ 1795 := by unfold W29 at h; omega
theorem w29_pos {i : Int} {w : WatchD} (h : W29 i w) : 1 ≤ i := by unfold W29 at h; omega
theorem notify_sizeS (w : WatchD) (v : Int) (s : StoreD) (d : List DirD) (hp : GoD.size w ≤ 536870912) : GoD.size (specNotify w v s d) ≤ 2 * GoD.size w + 13 := by rw [notify_eq w v s d hp]; exact notify_size w v s d
theorem w29_next {i : Int} {w : WatchD} {v : Int} {s : StoreD} {d : List DirD} (h : W29 i w) (hi : i ≤ 4) : W29 (i + 1) (specNotify w v s d) := by
  have h1 := w29_small h
  have h2 := notify_sizeS w v s d (by omega)
  unfold W29 at h ⊢
  omega
theorem w29_start {s : StoreD} {d : List DirD} {u : Int} {n : ByteArray} (h : n.size ≤ 2) : W29 1 (specNewWatch s d u n) := by
  refine .inl ⟨rfl, ?_⟩
  rw [watch_size]
  have h1 := listDir_shortS s d u n
  have h2 : GoD.size (specNewWatch s d u n).2.2.2 = 0 := rfl
  rw [h2]
  show n.size + (List.length (specListDir s d u n) + 0) ≤ 100
  omega
theorem ids14_len (code : List UInt8) (ci : Nat) (ch : Int) : (specl14Ids code ci ch).1.length ≤ 7 := by
  unfold specl14Ids
  obtain ⟨s', h1, h2⟩ := forN_inv (f := specl14Ids_f0 code) (e := specl14Ids_e0) (I := fun k s => s.1.length ≤ k) (fun k s hi => by
    unfold specl14Ids_f0 lt
    generalize specl01Once code s.2.1 s.2.2 2 = x
    dsimp only
    cases x.1 with
    | true => exact ⟨(s.1 ++ [((k + 1 : Nat) : Int)], x.2.1, x.2.2), rfl, by simp; omega⟩
    | false => exact ⟨(s.1, x.2.1, x.2.2), rfl, Nat.le_succ_of_le hi⟩) 7 0 ([], ci, ch) (Nat.zero_le _)
  have h1 : forN (specl14Ids_f0 code) specl14Ids_e0 (Int.toNat ((8 : Int) - 1)) 0 ([], ci, ch) = _ := h1
  rw [h1]
  exact h2
/-! ### a watch that is looked through -/
theorem valid_room {w : WatchD} {k : Nat} {a : EventD} {s : List Int} (hx : w.2.2.2[k]? = some a) (hs : List.length s ≤ List.length w.2.2.1 + GoD.size (List.take k w.2.2.2)) (hp : GoD.size w ≤ 268435456) : List.length s + GoD.size [a] ≤ 536870912 := by
  have h1 := size_take1 hx
  have h2 := size_take_le w.2.2.2 (k + 1)
  have h3 := watch_size w
  rw [size_one]
  omega
theorem valid_step {w : WatchD} {k : Nat} {a : EventD} {s : List Int} (hx : w.2.2.2[k]? = some a) (hs : List.length s ≤ List.length w.2.2.1 + GoD.size (List.take k w.2.2.2)) : List.length (specReplayEvents s [a]) ≤ List.length w.2.2.1 + GoD.size (List.take (k + 1) w.2.2.2) := by
  rw [replay_eq]
  show (implreplayed s a.2.1 a.2.2).length ≤ _
  have h1 := replayed_len s a.2.1 a.2.2
  have h2 := size_take1 hx
  have h3 := event_size a
  omega
theorem size_keep {l : List EventD} {k : Nat} {a : EventD} {s : List EventD} (hx : l[k]? = some a) (hs : GoD.size s ≤ GoD.size (List.take k l)) : GoD.size s ≤ GoD.size (List.take (k + 1) l) ∧ GoD.size (s ++ [a]) ≤ GoD.size (List.take (k + 1) l) := by
  have h1 := size_take1 hx
  rw [size_app, size_one]
  omega
open GoE (enc wide)
def specl29Watch_f0 (code : (List UInt8)) (x2 : (List DirD) × Nat × Int) (s0 : Int × WatchD × Nat × Int) : Rd (WatchD × Nat × Int) (Int × WatchD × Nat × Int) (WatchD × Nat × Int) := (lt (α := Int × Nat × Int) (specl01Below code s0.2.2.1 s0.2.2.2 4) (fun x8 => (bif decide (s0.1 < (2 + x8.1)) then (lt (α := StoreD × Nat × Int) (specl05Store code x8.2.1 x8.2.2) (fun x10 => (.next ((s0.1 + 1), (specNotify s0.2.1 s0.1 x10.1 x2.1), x10.2.1, x10.2.2)))) else (.brk (s0.2.1, x8.2.1, x8.2.2)))))
def specl29Watch (code : (List UInt8)) (ci : Nat) (ch : Int) : WatchD × Nat × Int := (lt (α := StoreD × Nat × Int) (specl05Store code ci ch) (fun x1 => (lt (α := (List DirD) × Nat × Int) (specl13Dirs code x1.2.1 x1.2.2) (fun x2 => (lt (α := Int × Nat × Int) (specl01Below code x2.2.1 x2.2.2 3) (fun x3 => (lt (α := Int × Nat × Int) (specl01Below code x3.2.1 x3.2.2 (x2.1.length : Int)) (fun x4 => (Out.on (whlD (specl29Watch_f0 code x2) 5 (1, (specNewWatch x1.1 x2.1 x3.1 ((nth x2.1 (Int.toNat x4.1)).1)), x4.2.1, x4.2.2)) (fun y0 => (lt (α := Int × Nat × Int) (specl01Below code y0.2.1 y0.2.2 10) (fun x11 => (bif (x11.1 == (0 : Int)) then (lt (α := (List Int) × Nat × Int) (specl14Ids code x11.2.1 x11.2.2) (fun x13 => ((y0.1.1, y0.1.2.1, x13.1, y0.1.2.2.2), x13.2.1, x13.2.2))) else (bif (x11.1 == (1 : Int)) then (lt (α := Int × Nat × Int) (specl06User code x11.2.1 x11.2.2) (fun x16 => ((x16.1, y0.1.2.1, y0.1.2.2.1, y0.1.2.2.2), x16.2.1, x16.2.2))) else (bif (x11.1 == (2 : Int)) then (lt (α := Int × Nat × Int) (specl01Below code x11.2.1 x11.2.2 8) (fun x19 => (lt (α := (List Int) × Nat × Int) (specl14Ids code x19.2.1 x19.2.2) (fun x20 => (lt (α := (List Int) × Nat × Int) (specl14Ids code x20.2.1 x20.2.2) (fun x21 => ((y0.1.1, y0.1.2.1, y0.1.2.2.1, y0.1.2.2.2 ++ [(x19.1, x20.1, x21.1)]), x21.2.1, x21.2.2))))))) else (y0.1, x11.2.1, x11.2.2))))))))))))))))
theorem specl29Watch_w (code : List UInt8) (x2 : List DirD × Nat × Int) (w : WatchD) (ci : Nat) (ch : Int) : (whl (specl29Watch_f0 code x2) 5 (1, w, ci, ch)).isSome = true :=
  whl_up (fun s => s.1) 5 (fun s s' h0 h => by
    unfold specl29Watch_f0 lt at h
    have hb := specl01Below_bd code s.2.2.1 s.2.2.2 4
    generalize specl01Below code s.2.2.1 s.2.2.2 4 = x at h hb
    by_cases hc : s.1 < 2 + x.1
    · simp only [decide_eq_true hc, cond_true] at h
      have h := Rd.next.inj h
      rw [← h]
      exact ⟨by omega, rfl⟩
    · simp only [decide_eq_false hc, cond_false] at h
      cases h) 4 _ (by show (0 : Int) ≤ 1; decide) (by show (5 : Int) ≤ 1 + 4; decide)
theorem specl29Watch_a (code : (List UInt8)) (ci : Nat) (ch : Int) : AGive Tryz.prog 61 [.h code, .i ((ci : Nat) : Int), .i ch] [] (.a [.i ((((specl29Watch code ci ch)).1).1), .s ((((specl29Watch code ci ch)).1).2.1), .o 0 ((((specl29Watch code ci ch)).1).2.2.1), .o 1 ((((specl29Watch code ci ch)).1).2.2.2)]) [.h code, .i ((((specl29Watch code ci ch)).2.1 : Nat) : Int), .i (((specl29Watch code ci ch)).2.2)] := by
 refine agive_of (tt := tt) tt_ok Tryz.func61 (fn := Tryz.f61) rfl (by unfold FnOk; kernel_rfl) (Nat.le_of_ble_eq_true rfl) (Nat.le_of_ble_eq_true rfl) rfl rfl fun w0 F0 hG => ?_
 refine sn tt_ok [0, 2] [2, 60000] (p0) ?_
 obtain ⟨x1, hx1⟩ : ∃ z : StoreD × Nat × Int, specl05Store code ci ch = z := ⟨_, rfl⟩
 refine tn tt_ok [0, 2, 3] [2, 3, 60000] (po 1 (.give none (.a [.o 0 x1.1.1, .q 1 x1.1.2.1, .i x1.1.2.2]) [.h code, .i ((x1.2.1 : Nat) : Int), .i x1.2.2]) (px (ob_give (hx1 ▸ specl05Store_a code ci ch)) p0)) ?_
 obtain ⟨x2, hx2⟩ : ∃ z : (List DirD) × Nat × Int, specl13Dirs code x1.2.1 x1.2.2 = z := ⟨_, rfl⟩
 have hbx2 := hx2 ▸ l13_ne code x1.2.1 x1.2.2
 have hnx2 := l13_names code x1.2.1 x1.2.2
 rw [hx2] at hnx2
 refine tu tt_ok [(2, .p 2 0), (3, .p 3 0), (4, .h x2.1)] [] [(2, [.i 0, .s ⟨#[]⟩, .e 1, .e 3]), (3, [.o 512 x1.1.1, .q 513 x1.1.2.1, .i x1.1.2.2]), (60000, [.h code, .i ((x2.2.1 : Nat) : Int), .i x2.2.2])] [60000] (po 1 (.give none (.h x2.1) [.h code, .i ((x2.2.1 : Nat) : Int), .i x2.2.2]) (px (ob_give (hx2 ▸ specl13Dirs_a code x1.2.1 x1.2.2)) p0)) ?_
 obtain ⟨x3, hx3⟩ : ∃ z : Int × Nat × Int, specl01Below code x2.2.1 x2.2.2 3 = z := ⟨_, rfl⟩
 have hbx3 := hx3 ▸ specl01Below_bd code x2.2.1 x2.2.2 3
 obtain ⟨x4, hx4⟩ : ∃ z : Int × Nat × Int, specl01Below code x3.2.1 x3.2.2 (x2.1.length : Int) = z := ⟨_, rfl⟩
 have hbx4 := hx4 ▸ specl01Below_bd code x3.2.1 x3.2.2 (x2.1.length : Int)
 refine wT 4 0 .sh x2.1 (fun hw6 hl7 => ?_)
 have hx5 := ng x2.1 (Int.toNat x4.1)
 refine sN tt_ok tt_mx [0, 2, 4, 5] [2, 5, 60000] (po 3 (.give none (.i x3.1) [.h code, .i ((x3.2.1 : Nat) : Int), .i x3.2.2]) (px (ob_give (hx3 ▸ specl01Below_a code x2.2.1 x2.2.2 3)) (pl 7 x2.1 (po 8 (.give none (.i x4.1) [.h code, .i ((x4.2.1 : Nat) : Int), .i x4.2.2]) (px (ob_give (hx4 ▸ specl01Below_a code x3.2.1 x3.2.2 (x2.1.length : Int))) (pg 9 x4.1 hx5 (pc 12 (specNewWatch_a x1.1 x2.1 x3.1 ((nth x2.1 (Int.toNat x4.1)).1)) p0))))))) ?_
 refine awp_seq ?_
 refine tn tt_ok [0, 2, 4, 5, 6] [2, 5, 60000] (p0) ?_
 refine mz [(5, .p 5 0), (6, .i 1)] [3] [(5, [.i ((specNewWatch x1.1 x2.1 x3.1 ((nth x2.1 (Int.toNat x4.1)).1)).1), .s ((specNewWatch x1.1 x2.1 x3.1 ((nth x2.1 (Int.toNat x4.1)).1)).2.1), .o 1472 ((specNewWatch x1.1 x2.1 x3.1 ((nth x2.1 (Int.toNat x4.1)).1)).2.2.1), .o 1473 ((specNewWatch x1.1 x2.1 x3.1 ((nth x2.1 (Int.toNat x4.1)).1)).2.2.2)]), (60000, [.h code, .i ((x4.2.1 : Nat) : Int), .i x4.2.2])] [3, 60000] ?_
 refine blw (fun (s0 : Int × WatchD × Nat × Int) => [(6, .i s0.1)]) [6] (fun s0 => [(5, [.i s0.2.1.1, .s s0.2.1.2.1, .o 147211 s0.2.1.2.2.1, .o 147212 s0.2.1.2.2.2]), (60000, [.h code, .i ((s0.2.2.1 : Nat) : Int), .i s0.2.2.2])]) [5, 60000] (fun (y0 : WatchD × Nat × Int) => []) [4, 6] (fun y0 => [(5, [.i y0.1.1, .s y0.1.2.1, .o 147361 y0.1.2.2.1, .o 147362 y0.1.2.2.2]), (60000, [.h code, .i ((y0.2.1 : Nat) : Int), .i y0.2.2])]) [5, 60000] (fun (k0 : Nat) (s0 : Int × WatchD × Nat × Int) => whl (specl29Watch_f0 code x2) k0 s0 = some (whlD (specl29Watch_f0 code x2) 5 (1, (specNewWatch x1.1 x2.1 x3.1 ((nth x2.1 (Int.toNat x4.1)).1)), x4.2.1, x4.2.2)) ∧ W29 s0.1 s0.2.1) (fun (y0 : WatchD × Nat × Int) => (whlD (specl29Watch_f0 code x2) 5 (1, (specNewWatch x1.1 x2.1 x3.1 ((nth x2.1 (Int.toNat x4.1)).1)), x4.2.1, x4.2.2)) = .brk y0 ∧ List.length y0.1.2.2.2 ≤ 1795) 5 (1, (specNewWatch x1.1 x2.1 x3.1 ((nth x2.1 (Int.toNat x4.1)).1)), x4.2.1, x4.2.2) (weak_sf [(1472, 147211), (1473, 147212)] (by kernel_rfl)) ⟨whl_some (specl29Watch_w code x2 _ _ _), (by exact w29_start (hnx2 _))⟩ (fun _ h => whl_zero h.1) (fun k0 s0 hI0 => ?_) (fun y0 hD0 => ?_)
 ·
  have hA0_0 := hI0.2
  have hws := w29_small hA0_0
  have hwp := w29_pos hA0_0
  have hse := sz_events s0.2.1
  refine awp_seq ?_
  obtain ⟨x8, hx8⟩ : ∃ z : Int × Nat × Int, specl01Below code s0.2.2.1 s0.2.2.2 4 = z := ⟨_, rfl⟩
  have hbx8 := hx8 ▸ specl01Below_bd code s0.2.2.1 s0.2.2.2 4
  refine sn tt_ok [0, 2, 4, 5, 6, 28] [2, 5, 60000] (po 2 (.give none (.i x8.1) [.h code, .i ((x8.2.1 : Nat) : Int), .i x8.2.2]) (px (ob_give (hx8 ▸ specl01Below_a code s0.2.2.1 s0.2.2.2 4)) (pe 3 (av_i (IntWalk.i64_in (2 + x8.1) (by omega))) p0))) ?_
  refine ck (decide (s0.1 < (2 + x8.1))) (fun h9 => ?_) (fun h9 => ?_)
  ·
   have h9d := of_decide_eq_true h9
   refine awp_skip ?_
   refine awp_seq ?_
   refine awp_block ?_
   obtain ⟨x10, hx10⟩ : ∃ z : StoreD × Nat × Int, specl05Store code x8.2.1 x8.2.2 = z := ⟨_, rfl⟩
   refine qN tt_ok tt_mx [0, 2, 4, 5, 6] [2, 5, 60000] (po 3 (.give none (.a [.o 0 x10.1.1, .q 1 x10.1.2.1, .i x10.1.2.2]) [.h code, .i ((x10.2.1 : Nat) : Int), .i x10.2.2]) (px (ob_give (hx10 ▸ specl05Store_a code x8.2.1 x8.2.2)) (pc 5 (specNotify_a s0.2.1 s0.1 x10.1 x2.1 (by omega)) p0))) ?_
   refine qu tt_ok [(6, .i (s0.1 + 1))] [6] [(5, [.i ((specNotify s0.2.1 s0.1 x10.1 x2.1).1), .s ((specNotify s0.2.1 s0.1 x10.1 x2.1).2.1), .o 2304 ((specNotify s0.2.1 s0.1 x10.1 x2.1).2.2.1), .o 2305 ((specNotify s0.2.1 s0.1 x10.1 x2.1).2.2.2)]), (60000, [.h code, .i ((x10.2.1 : Nat) : Int), .i x10.2.2])] [5, 60000] (pe 1 (av_i (IntWalk.i64_in (s0.1 + 1) (by omega))) p0) ?_
   exact Exists.intro ((s0.1 + 1), (specNotify s0.2.1 s0.1 x10.1 x2.1), x10.2.1, x10.2.2) (And.intro (weak_sf [(2304, 147211), (2305, 147212)] (by kernel_rfl)) ⟨wn hI0.1 (lt_b hx8 (bif_t h9 (lt_b hx10 (rfl)))), (by exact w29_next hA0_0 (by omega))⟩)
  ·
   have h9d := of_decide_eq_false h9
   refine awp_exit ?_
   exact Exists.intro (s0.2.1, x8.2.1, x8.2.2) (And.intro (weak_sf [(147211, 147361), (147212, 147362)] (by kernel_rfl)) ⟨wb hI0.1 (lt_b hx8 (bif_f h9 (rfl))), by first | omega | (simp only [List.length_set]; omega)⟩)
 ·
  have hD0_0 := hD0.2
  refine awp_seq ?_
  obtain ⟨x11, hx11⟩ : ∃ z : Int × Nat × Int, specl01Below code y0.2.1 y0.2.2 10 = z := ⟨_, rfl⟩
  have hbx11 := hx11 ▸ specl01Below_bd code y0.2.1 y0.2.2 10
  refine sn tt_ok [0, 2, 5, 38] [2, 5, 60000] (po 1 (.give none (.i x11.1) [.h code, .i ((x11.2.1 : Nat) : Int), .i x11.2.2]) (px (ob_give (hx11 ▸ specl01Below_a code y0.2.1 y0.2.2 10)) p0)) ?_
  refine awp_block ?_
  refine tn tt_ok [0, 2, 5, 38, 39] [2, 5, 60000] (p0) ?_
  refine ck (x11.1 == (0 : Int)) (fun h12 => ?_) (fun h12 => ?_)
  ·
   obtain ⟨x13, hx13⟩ : ∃ z : (List Int) × Nat × Int, specl14Ids code x11.2.1 x11.2.2 = z := ⟨_, rfl⟩
   refine qu tt_ok [] [] [(5, [.i y0.1.1, .s y0.1.2.1, .o 2688 x13.1, .o 147362 y0.1.2.2.2]), (60000, [.h code, .i ((x13.2.1 : Nat) : Int), .i x13.2.2])] [5, 60000] (po 1 (.give none (.o 0 x13.1) [.h code, .i ((x13.2.1 : Nat) : Int), .i x13.2.2]) (px (ob_give (hx13 ▸ specl14Ids_a code x11.2.1 x11.2.2)) p0)) ?_
   refine sn tt_ok [0, 2] [2, 60000] (p0) ?_
   refine awp_ret ?_
   have hE14 : specl29Watch code ci ch = ((y0.1.1, y0.1.2.1, x13.1, y0.1.2.2.2), x13.2.1, x13.2.2) := lt_b hx1 (lt_b hx2 (lt_b hx3 (lt_b hx4 (on_b hD0.1 (lt_b hx11 (bif_t h12 (lt_b hx13 (rfl))))))))
   exact gret [] (congrArg (fun z => (.a [.i z.1.1, .s z.1.2.1, .o 0 z.1.2.2.1, .o 1 z.1.2.2.2] : AV)) hE14.symm) (congrArg (fun z => ([.h code, .i ((z.2.1 : Nat) : Int), .i z.2.2] : List C)) hE14.symm)
  ·
   have h12d := ne_of_beq h12
   refine tu tt_ok [(38, .i x11.1), (44, .b (x11.1 == (1 : Int)))] [] [(60000, [.h code, .i ((x11.2.1 : Nat) : Int), .i x11.2.2])] [60000] (p0) ?_
   refine ck (x11.1 == (1 : Int)) (fun h15 => ?_) (fun h15 => ?_)
   ·
    obtain ⟨x16, hx16⟩ : ∃ z : Int × Nat × Int, specl06User code x11.2.1 x11.2.2 = z := ⟨_, rfl⟩
    refine rn tt_ok [0, 2, 5] [2, 5, 60000] (po 1 (.give none (.i x16.1) [.h code, .i ((x16.2.1 : Nat) : Int), .i x16.2.2]) (px (ob_give (hx16 ▸ specl06User_a code x11.2.1 x11.2.2)) p0)) ?_
    refine tn tt_ok [0, 2] [2, 60000] (p0) ?_
    refine awp_ret ?_
    have hE17 : specl29Watch code ci ch = ((x16.1, y0.1.2.1, y0.1.2.2.1, y0.1.2.2.2), x16.2.1, x16.2.2) := lt_b hx1 (lt_b hx2 (lt_b hx3 (lt_b hx4 (on_b hD0.1 (lt_b hx11 (bif_f h12 (bif_t h15 (lt_b hx16 (rfl)))))))))
    exact gret [] (congrArg (fun z => (.a [.i z.1.1, .s z.1.2.1, .o 0 z.1.2.2.1, .o 1 z.1.2.2.2] : AV)) hE17.symm) (congrArg (fun z => ([.h code, .i ((z.2.1 : Nat) : Int), .i z.2.2] : List C)) hE17.symm)
   ·
    have h15d := ne_of_beq h15
    refine sn tt_ok [0, 2, 5, 49] [2, 5, 60000] (p0) ?_
    refine ck (x11.1 == (2 : Int)) (fun h18 => ?_) (fun h18 => ?_)
    ·
     have h18d := eq_of_beq h18
     obtain ⟨x19, hx19⟩ : ∃ z : Int × Nat × Int, specl01Below code x11.2.1 x11.2.2 8 = z := ⟨_, rfl⟩
     have hbx19 := hx19 ▸ specl01Below_bd code x11.2.1 x11.2.2 8
     obtain ⟨x20, hx20⟩ : ∃ z : (List Int) × Nat × Int, specl14Ids code x19.2.1 x19.2.2 = z := ⟨_, rfl⟩
     obtain ⟨x21, hx21⟩ : ∃ z : (List Int) × Nat × Int, specl14Ids code x20.2.1 x20.2.2 = z := ⟨_, rfl⟩
     refine wB 5 3 (.own true 147362) y0.1.2.2.2 (fun hw22 hl23 => ?_)
     refine qU tt_ok tt_mx [] [38, 44] [(5, [.i y0.1.1, .s y0.1.2.1, .o 147361 y0.1.2.2.1, .slc (.own true 3904) 3 ((eL y0.1.2.2.2) ++ [[.i x19.1, .h x20.1, .h x21.1]])]), (60000, [.h code, .i ((x21.2.1 : Nat) : Int), .i x21.2.2])] [5, 60000] (po 3 (.give none (.i x19.1) [.h code, .i ((x19.2.1 : Nat) : Int), .i x19.2.2]) (px (ob_give (hx19 ▸ specl01Below_a code x11.2.1 x11.2.2 8)) (po 5 (.give none (.o 0 x20.1) [.h code, .i ((x20.2.1 : Nat) : Int), .i x20.2.2]) (px (ob_give (hx20 ▸ specl14Ids_a code x19.2.1 x19.2.2)) (po 7 (.give none (.o 0 x21.1) [.h code, .i ((x21.2.1 : Nat) : Int), .i x21.2.2]) (px (ob_give (hx21 ▸ specl14Ids_a code x20.2.1 x20.2.2)) (pa y0.1.2.2.2 [(x19.1, x20.1, x21.1)] p0))))))) ?_
     refine eqn [] [] [(5, [.i y0.1.1, .s y0.1.2.1, .o 147361 y0.1.2.2.1, .o 3904 (y0.1.2.2.2 ++ [(x19.1, x20.1, x21.1)])])] [5] (by rw [show ((eL y0.1.2.2.2) ++ [[.i x19.1, .h x20.1, .h x21.1]]) = (eL (y0.1.2.2.2 ++ [(x19.1, x20.1, x21.1)])) from app_eL (rfl) (rfl)]; first | done | kernel_rfl) ?_
     refine sn tt_ok [0, 2] [2, 60000] (p0) ?_
     refine awp_ret ?_
     have hE24 : specl29Watch code ci ch = ((y0.1.1, y0.1.2.1, y0.1.2.2.1, y0.1.2.2.2 ++ [(x19.1, x20.1, x21.1)]), x21.2.1, x21.2.2) := lt_b hx1 (lt_b hx2 (lt_b hx3 (lt_b hx4 (on_b hD0.1 (lt_b hx11 (bif_f h12 (bif_f h15 (bif_t h18 (lt_b hx19 (lt_b hx20 (lt_b hx21 (rfl))))))))))))
     exact gret [] (congrArg (fun z => (.a [.i z.1.1, .s z.1.2.1, .o 0 z.1.2.2.1, .o 1 z.1.2.2.2] : AV)) hE24.symm) (congrArg (fun z => ([.h code, .i ((z.2.1 : Nat) : Int), .i z.2.2] : List C)) hE24.symm)
    ·
     refine awp_skip ?_
     refine tn tt_ok [0, 2] [2, 60000] (p0) ?_
     refine awp_ret ?_
     have hE25 : specl29Watch code ci ch = (y0.1, x11.2.1, x11.2.2) := lt_b hx1 (lt_b hx2 (lt_b hx3 (lt_b hx4 (on_b hD0.1 (lt_b hx11 (bif_f h12 (bif_f h15 (bif_f h18 (rfl)))))))))
     exact gret [] (congrArg (fun z => (.a [.i z.1.1, .s z.1.2.1, .o 0 z.1.2.2.1, .o 1 z.1.2.2.2] : AV)) hE25.symm) (congrArg (fun z => ([.h code, .i ((z.2.1 : Nat) : Int), .i z.2.2] : List C)) hE25.symm)
def specDrawEventsSince (code : (List UInt8)) : WatchD × Int := (lt (α := Nat × Int) (specl01New code) (fun x1 => (lt (α := WatchD × Nat × Int) (specl29Watch code x1.1 x1.2) (fun x2 => (lt (α := Int × Nat × Int) (specl28Version code x2.2.1 x2.2.2) (fun x3 => (x2.1, x3.1)))))))
theorem specDrawEventsSince_a (code : (List UInt8)) : ACalls Tryz.prog 21 [.h code] (.tup [(true, [.i ((((specDrawEventsSince code)).1).1), .s ((((specDrawEventsSince code)).1).2.1), .o 0 ((((specDrawEventsSince code)).1).2.2.1), .o 1 ((((specDrawEventsSince code)).1).2.2.2)]), (false, [.i (((specDrawEventsSince code)).2)])]) := by
 refine en tt_ok Tryz.func21 fun w0 F0 hG => ?_
 refine sn tt_ok [0, 2, 3] [2] (p0) ?_
 obtain ⟨x1, hx1⟩ : ∃ z : Nat × Int, specl01New code = z := ⟨_, rfl⟩
 refine tn tt_ok [2, 3, 4] [2, 6] (po 1 (.new [.h code, .i ((x1.1 : Nat) : Int), .i x1.2]) (px (ob_new (hx1 ▸ specl01New_a code)) p0)) ?_
 obtain ⟨x2, hx2⟩ : ∃ z : WatchD × Nat × Int, specl29Watch code x1.1 x1.2 = z := ⟨_, rfl⟩
 obtain ⟨x3, hx3⟩ : ∃ z : Int × Nat × Int, specl28Version code x2.2.1 x2.2.2 = z := ⟨_, rfl⟩
 refine tu tt_ok [(2, .p 2 0), (3, .i x3.1)] [0] [(2, [.i x2.1.1, .s x2.1.2.1, .o 512 x2.1.2.2.1, .o 513 x2.1.2.2.2])] [] (po 1 (.give none (.a [.i x2.1.1, .s x2.1.2.1, .o 0 x2.1.2.2.1, .o 1 x2.1.2.2.2]) [.h code, .i ((x2.2.1 : Nat) : Int), .i x2.2.2]) (px (ob_give (hx2 ▸ specl29Watch_a code x1.1 x1.2)) (po 3 (.give none (.i x3.1) [.h code, .i ((x3.2.1 : Nat) : Int), .i x3.2.2]) (px (ob_give (hx3 ▸ specl28Version_a code x2.2.1 x2.2.2)) p0)))) ?_
 refine awp_ret ?_
 exact pz [] (show specDrawEventsSince code = _ from lt_b hx1 (lt_b hx2 (lt_b hx3 (rfl)))) (fun z => .tup [(true, [.i z.1.1, .s z.1.2.1, .o 0 z.1.2.2.1, .o 1 z.1.2.2.2]), (false, [.i z.2])])
def implisAscending_f0 (l : (List Int)) (k0 : Nat) (_ : Unit) : Rd (Bool) (Unit) (Unit) := (bif decide ((nth l (Int.toNat (((k0 + 1 : Nat) : Int) - 1))) ≥ (nth l (k0 + 1))) then (.ret false) else (.next ()))
def implisAscending_e0 (_ : Nat) (_ : Unit) : Unit := ()
def implisAscending (l : (List Int)) : Bool := (Out.on (forN (implisAscending_f0 l) implisAscending_e0 (l.length - 1) 0 ()) (fun _ => true))
theorem implisAscending_a (l : (List Int)) : ACalls Tryz.prog 69 [.h l] (.b (implisAscending l)) := by
 refine en tt_ok Tryz.func69 fun w0 F0 hG => ?_
 refine sn tt_ok [0, 2] [] (p0) ?_
 refine awp_seq ?_
 refine tn tt_ok [0, 2, 3] [] (p0) ?_
 refine mz [(2, .b false), (3, .i 1)] [] [] [] ?_
 refine wT 0 0 .sh l (fun hw1 hl2 => ?_)
 refine blN0 (implisAscending_f0 l) implisAscending_e0 (l.length - 1) () (fun k0 _ => [(3, .i ((k0 + 1 : Nat) : Int))]) [3] (fun _ => []) [0, 3] (weak_fit (by kernel_rfl)) (fun k0 s0 hk0 hI0 => ?_) (fun k0 s0 hk0 hI0 => ?_) (fun y0 hD0 => ?_)
 ·
  refine awp_seq ?_
  refine sn tt_ok [0, 2, 3, 7] [] (pl 2 l (pe 3 (av_bool (decide_eq_true (p := ((k0 + 1 : Nat) : Int) < (l.length : Int)) (by omega))) p0)) ?_
  refine ckT ?_
  refine awp_skip ?_
  refine awp_seq ?_
  refine awp_block ?_
  have hx3 := ng l (Int.toNat (((k0 + 1 : Nat) : Int) - 1))
  have hx4 := ng l (k0 + 1)
  refine tN tt_ok tt_mx [0, 2, 3, 19] [] (pe 2 (av_i (IntWalk.i64_in (((k0 + 1 : Nat) : Int) - 1) (by omega))) (pg 3 (((k0 + 1 : Nat) : Int) - 1) hx3 (pg 7 ((k0 + 1 : Nat) : Int) hx4 p0))) ?_
  refine ck (decide ((nth l (Int.toNat (((k0 + 1 : Nat) : Int) - 1))) ≥ (nth l (k0 + 1)))) (fun h5 => ?_) (fun h5 => ?_)
  ·
   refine tu tt_ok [] [] [] [] (p0) ?_
   refine awp_ret ?_
   have hr6 : (forN (implisAscending_f0 l) implisAscending_e0 (l.length - 1) 0 ()) = .ret false := forN_ret hk0 (bif_t h5 (rfl)) hI0
   exact pb [] (on_r hr6)
  ·
   have h5d := of_decide_eq_false h5
   refine awp_skip ?_
   refine qu tt_ok [(3, .i ((k0 + 2 : Nat) : Int))] [3] [] [] (pe 1 (show .i (IntKind.i64.wrap (((k0 + 1 : Nat) : Int) + 1)) = .i ((k0 + 2 : Nat) : Int) from av_i ((IntWalk.i64_in _ (by omega)).trans (by omega))) p0) ?_
   exact Exists.intro _ (And.intro (weak_fit (by kernel_rfl)) (forN_next hk0 (bif_f h5 (rfl)) hI0))
 ·
  refine awp_seq ?_
  refine sn tt_ok [0, 2, 3, 7] [] (pl 2 l (pe 3 (av_bool (decide_eq_false (p := ((k0 + 1 : Nat) : Int) < (l.length : Int)) (by omega))) p0)) ?_
  refine ckF ?_
  refine awp_exit ?_
  exact Exists.intro _ (And.intro (weak_fit (by kernel_rfl)) (forN_end hk0 (rfl) hI0))
 ·
  refine sn tt_ok [2] [] (p0) ?_
  refine awp_ret ?_
  exact pb [] (on_b hD0 (rfl))
def implIsValidWatch_f0 (w : WatchD) (k0 : Nat) (a0 : EventD) (_ : Unit) : Rd (Bool) (Unit) (Unit) := (bif ((!(implisAscending a0.2.1)) || ((!(implisAscending a0.2.2)) || ((IntKind.i64.wrap ((a0.2.1.length : Int) + (a0.2.2.length : Int)) == (0 : Int)) || (bif decide (((k0 : Nat) : Int) > (0 : Int)) then (decide ((nth w.2.2.2 (Int.toNat (((k0 : Nat) : Int) - 1))).1 ≥ a0.1) || ((((less a0.2.1 (implReplayEvents w.2.2.1 (List.take k0 w.2.2.2))).length : Int) != (a0.2.1.length : Int)) || (((less a0.2.2 (implReplayEvents w.2.2.1 (List.take k0 w.2.2.2))).length : Int) != (0 : Int)))) else ((((less a0.2.1 (implReplayEvents w.2.2.1 (List.take k0 w.2.2.2))).length : Int) != (a0.2.1.length : Int)) || (((less a0.2.2 (implReplayEvents w.2.2.1 (List.take k0 w.2.2.2))).length : Int) != (0 : Int))))))) then (.ret false) else (.next ()))
def implIsValidWatch_e0 (_ : Nat) (_ : Unit) : Unit := ()
def implIsValidWatch (w : WatchD) : Bool := (bif ((!(implisUser w.1)) || (!(implisAscending w.2.2.1))) then false else (Out.on (forL (implIsValidWatch_f0 w) implIsValidWatch_e0 w.2.2.2 0 ()) (fun _ => true)))
theorem implIsValidWatch_a (w : WatchD) (hp : GoD.size w ≤ 268435456) : ACalls Tryz.prog 24 [.a [.i w.1, .s w.2.1, .h w.2.2.1, .h w.2.2.2]] (.b (implIsValidWatch w)) := by
 refine en tt_ok Tryz.func24 fun w0 F0 hG => ?_
 refine sn tt_ok [1, 2] [1] (p0) ?_
 refine awp_seq ?_
 refine awp_seq ?_
 refine mz [(1, .p 1 0), (2, .b false)] [0] [(1, [.i w.1, .s w.2.1, .h w.2.2.1, .h w.2.2.2])] [] ?_
 refine jn [(15, .b ((!(implisUser w.1)) || (!(implisAscending w.2.2.1))))] [] [] [] (!(implisUser w.1)) (fun h1 => ?_) (fun h1 => ?_) ?_
 ·
  have h1n : (implisUser w.1) = false := bnot_t h1
  refine rn tt_ok [1, 2, 15] [1] (pc 2 (cb h1n (implisUser_a w.1)) (pe 3 (show .b (!false) = .b true from rfl) p0)) ?_
  exact ⟨rfl, weak_fit (by rw [h1]; first | done | kernel_rfl)⟩
 ·
  have h1n : (implisUser w.1) = true := bnot_f h1
  refine rn tt_ok [1, 2, 15] [1] (pc 2 (cb h1n (implisUser_a w.1)) (pe 3 (show .b (!true) = .b false from rfl) (pc 7 (implisAscending_a w.2.2.1) p0))) ?_
  exact ⟨rfl, weak_fit (by rw [h1]; first | done | kernel_rfl)⟩
 refine ck ((!(implisUser w.1)) || (!(implisAscending w.2.2.1))) (fun h2 => ?_) (fun h2 => ?_)
 ·
  refine sn tt_ok [1, 2] [1] (p0) ?_
  refine awp_ret ?_
  exact pb [] (bif_t h2 (rfl))
 ·
  refine awp_skip ?_
  refine awp_seq ?_
  refine sn tt_ok [1, 2, 17, 18, 19] [1] (pl 2 w.2.2.2 p0) ?_
  refine mz [(17, .h w.2.2.2), (18, .i (w.2.2.2.length : Int)), (19, .i 0)] [15] [] [] ?_
  refine wT 17 0 .sh w.2.2.2 (fun hw3 hl4 => ?_)
  refine blL0b (implIsValidWatch_f0 w) implIsValidWatch_e0 w.2.2.2 () (fun k0 _ => [(19, .i ((k0 : Nat) : Int))]) [19] (fun _ _ => []) [] (fun _ => []) [1, 17, 18, 19] (fun _ => []) [1] (weak_fit (by kernel_rfl)) (fun k0 s0 hk0 hI0 => ?_) (fun k0 s0 hk0 hI0 => ?_) (fun y0 hD0 => ?_)
  ·
   obtain ⟨a0, hx0⟩ := get_some (l := w.2.2.2) (i := k0) hk0
   refine su tt_ok [(20, .b true)] [] [] [] (pe 0 (av_bool (decide_eq_true (p := ((k0 : Nat) : Int) < (w.2.2.2.length : Int)) (by omega))) p0) ?_
   refine awp_seq ?_
   refine ckT ?_
   refine awp_skip ?_
   refine awp_seq ?_
   refine awp_block ?_
   refine sn tt_ok [1, 2, 3, 4, 17, 18, 19] [1, 4] (pn 1 hx0 p0) ?_
   refine tN tt_ok tt_mx [1, 2, 3, 4, 5, 17, 18, 19] [1, 4] (pe 5 (av_take .sh 3 k0 ((k0 : Nat) : Int) w.2.2.2 rfl) (px (ob_rng (lo := 0) (hi := ((k0 : Nat) : Int)) (n := (List.length (eL w.2.2.2))) (rng_of (by omega) (by omega) (by omega))) (pc 6 (implReplayEvents_a w.2.2.1 (List.take k0 w.2.2.2) (by have hz := watch_size w; have hq := size_take_le w.2.2.2 k0; omega)) p0))) ?_
   refine awp_seq ?_
   refine mz [(3, .i ((k0 : Nat) : Int)), (4, .p 4 0), (5, .o 1920 (implReplayEvents w.2.2.1 (List.take k0 w.2.2.2)))] [20] [(4, [.i a0.1, .h a0.2.1, .h a0.2.2])] [] ?_
   refine jn [(85, .b ((!(implisAscending a0.2.1)) || ((!(implisAscending a0.2.2)) || ((IntKind.i64.wrap ((a0.2.1.length : Int) + (a0.2.2.length : Int)) == (0 : Int)) || (bif decide (((k0 : Nat) : Int) > (0 : Int)) then (decide ((nth w.2.2.2 (Int.toNat (((k0 : Nat) : Int) - 1))).1 ≥ a0.1) || ((((less a0.2.1 (implReplayEvents w.2.2.1 (List.take k0 w.2.2.2))).length : Int) != (a0.2.1.length : Int)) || (((less a0.2.2 (implReplayEvents w.2.2.1 (List.take k0 w.2.2.2))).length : Int) != (0 : Int)))) else ((((less a0.2.1 (implReplayEvents w.2.2.1 (List.take k0 w.2.2.2))).length : Int) != (a0.2.1.length : Int)) || (((less a0.2.2 (implReplayEvents w.2.2.1 (List.take k0 w.2.2.2))).length : Int) != (0 : Int))))))))] [3, 4, 5] [] [4] (!(implisAscending a0.2.1)) (fun h5 => ?_) (fun h5 => ?_) ?_
   ·
    have h5n : (implisAscending a0.2.1) = false := bnot_t h5
    refine rN tt_ok tt_mx [1, 2, 17, 18, 19, 85] [1] (pc 2 (cb h5n (implisAscending_a a0.2.1)) (pe 3 (show .b (!false) = .b true from rfl) p0)) ?_
    exact ⟨rfl, weak_fit (by rw [h5]; first | done | kernel_rfl)⟩
   ·
    have h5n : (implisAscending a0.2.1) = true := bnot_f h5
    refine awp_split (!(implisAscending a0.2.2)) (fun h6 => ?_) (fun h6 => ?_)
    ·
     have h6n : (implisAscending a0.2.2) = false := bnot_t h6
     refine rN tt_ok tt_mx [1, 2, 17, 18, 19, 85] [1] (pc 2 (cb h5n (implisAscending_a a0.2.1)) (pe 3 (show .b (!true) = .b false from rfl) (pc 7 (cb h6n (implisAscending_a a0.2.2)) (pe 8 (show .b (!false) = .b true from rfl) p0)))) ?_
     exact ⟨rfl, weak_fit (by rw [h5, h6]; first | done | kernel_rfl)⟩
    ·
     have h6n : (implisAscending a0.2.2) = true := bnot_f h6
     refine awp_split (IntKind.i64.wrap ((a0.2.1.length : Int) + (a0.2.2.length : Int)) == (0 : Int)) (fun h7 => ?_) (fun h7 => ?_)
     ·
      refine rN tt_ok tt_mx [1, 2, 17, 18, 19, 85] [1] (pc 2 (cb h5n (implisAscending_a a0.2.1)) (pe 3 (show .b (!true) = .b false from rfl) (pc 7 (cb h6n (implisAscending_a a0.2.2)) (pe 8 (show .b (!true) = .b false from rfl) (pl 13 a0.2.1 (pl 16 a0.2.2 (pt 18 h7 p0))))))) ?_
      exact ⟨rfl, weak_fit (by rw [h5, h6, h7]; first | done | kernel_rfl)⟩
     ·
      have h7d := ne_of_beq h7
      refine awp_split (decide (((k0 : Nat) : Int) > (0 : Int))) (fun h8 => ?_) (fun h8 => ?_)
      ·
       have h8d := of_decide_eq_true h8
       refine awp_split (decide ((nth w.2.2.2 (Int.toNat (((k0 : Nat) : Int) - 1))).1 ≥ a0.1)) (fun h9 => ?_) (fun h9 => ?_)
       ·
        have h9d := of_decide_eq_true h9
        have hx10 := ng w.2.2.2 (Int.toNat (((k0 : Nat) : Int) - 1))
        refine rN tt_ok tt_mx [1, 2, 17, 18, 19, 85] [1] (pc 2 (cb h5n (implisAscending_a a0.2.1)) (pe 3 (show .b (!true) = .b false from rfl) (pc 7 (cb h6n (implisAscending_a a0.2.2)) (pe 8 (show .b (!true) = .b false from rfl) (pl 13 a0.2.1 (pl 16 a0.2.2 (pf 18 h7 (pt 22 h8 (pe 27 (av_i (IntWalk.i64_in (((k0 : Nat) : Int) - 1) (by omega))) (pg 28 (((k0 : Nat) : Int) - 1) hx10 (pt 33 h9 p0))))))))))) ?_
        exact ⟨rfl, weak_fit (by rw [h5, h6, h7, h8, h9]; first | done | kernel_rfl)⟩
       ·
        have h9d := of_decide_eq_false h9
        refine awp_split (((less a0.2.1 (implReplayEvents w.2.2.1 (List.take k0 w.2.2.2))).length : Int) != (a0.2.1.length : Int)) (fun h11 => ?_) (fun h11 => ?_)
        ·
         have h11d := ne_of_bne h11
         have hx12 := ng w.2.2.2 (Int.toNat (((k0 : Nat) : Int) - 1))
         refine wB 4 1 .sh a0.2.1 (fun hw13 hl14 => ?_)
         refine rN tt_ok tt_mx [1, 2, 17, 18, 19, 85] [1] (pc 2 (cb h5n (implisAscending_a a0.2.1)) (pe 3 (show .b (!true) = .b false from rfl) (pc 7 (cb h6n (implisAscending_a a0.2.2)) (pe 8 (show .b (!true) = .b false from rfl) (pl 13 a0.2.1 (pl 16 a0.2.2 (pf 18 h7 (pt 22 h8 (pe 27 (av_i (IntWalk.i64_in (((k0 : Nat) : Int) - 1) (by omega))) (pg 28 (((k0 : Nat) : Int) - 1) hx12 (pf 33 h9 (pc 40 ((without_less hl14) ▸ implwithout_a a0.2.1 (implReplayEvents w.2.2.1 (List.take k0 w.2.2.2))) (pl 41 (less a0.2.1 (implReplayEvents w.2.2.1 (List.take k0 w.2.2.2))) (pl 44 a0.2.1 (pt 45 h11 p0))))))))))))))) ?_
         exact ⟨rfl, weak_fit (by rw [h5, h6, h7, h8, h9, h11]; first | done | kernel_rfl)⟩
        ·
         have h11d := eq_of_bne h11
         have hx15 := ng w.2.2.2 (Int.toNat (((k0 : Nat) : Int) - 1))
         refine wB 4 1 .sh a0.2.1 (fun hw16 hl17 => ?_)
         refine wB 4 2 .sh a0.2.2 (fun hw18 hl19 => ?_)
         refine rN tt_ok tt_mx [1, 2, 17, 18, 19, 85] [1] (pc 2 (cb h5n (implisAscending_a a0.2.1)) (pe 3 (show .b (!true) = .b false from rfl) (pc 7 (cb h6n (implisAscending_a a0.2.2)) (pe 8 (show .b (!true) = .b false from rfl) (pl 13 a0.2.1 (pl 16 a0.2.2 (pf 18 h7 (pt 22 h8 (pe 27 (av_i (IntWalk.i64_in (((k0 : Nat) : Int) - 1) (by omega))) (pg 28 (((k0 : Nat) : Int) - 1) hx15 (pf 33 h9 (pc 40 ((without_less hl17) ▸ implwithout_a a0.2.1 (implReplayEvents w.2.2.1 (List.take k0 w.2.2.2))) (pl 41 (less a0.2.1 (implReplayEvents w.2.2.1 (List.take k0 w.2.2.2))) (pl 44 a0.2.1 (pf 45 h11 (pc 51 ((without_less hl19) ▸ implwithout_a a0.2.2 (implReplayEvents w.2.2.1 (List.take k0 w.2.2.2))) (pl 52 (less a0.2.2 (implReplayEvents w.2.2.1 (List.take k0 w.2.2.2))) p0))))))))))))))))) ?_
         exact ⟨rfl, weak_fit (by rw [h5, h6, h7, h8, h9, h11]; first | done | kernel_rfl)⟩
      ·
       refine awp_split (((less a0.2.1 (implReplayEvents w.2.2.1 (List.take k0 w.2.2.2))).length : Int) != (a0.2.1.length : Int)) (fun h20 => ?_) (fun h20 => ?_)
       ·
        refine wB 4 1 .sh a0.2.1 (fun hw21 hl22 => ?_)
        refine rN tt_ok tt_mx [1, 2, 17, 18, 19, 85] [1] (pc 2 (cb h5n (implisAscending_a a0.2.1)) (pe 3 (show .b (!true) = .b false from rfl) (pc 7 (cb h6n (implisAscending_a a0.2.2)) (pe 8 (show .b (!true) = .b false from rfl) (pl 13 a0.2.1 (pl 16 a0.2.2 (pf 18 h7 (pf 22 h8 (pc 40 ((without_less hl22) ▸ implwithout_a a0.2.1 (implReplayEvents w.2.2.1 (List.take k0 w.2.2.2))) (pl 41 (less a0.2.1 (implReplayEvents w.2.2.1 (List.take k0 w.2.2.2))) (pl 44 a0.2.1 (pt 45 h20 p0)))))))))))) ?_
        exact ⟨rfl, weak_fit (by rw [h5, h6, h7, h8, h20]; first | done | kernel_rfl)⟩
       ·
        refine wB 4 1 .sh a0.2.1 (fun hw23 hl24 => ?_)
        refine wB 4 2 .sh a0.2.2 (fun hw25 hl26 => ?_)
        refine rN tt_ok tt_mx [1, 2, 17, 18, 19, 85] [1] (pc 2 (cb h5n (implisAscending_a a0.2.1)) (pe 3 (show .b (!true) = .b false from rfl) (pc 7 (cb h6n (implisAscending_a a0.2.2)) (pe 8 (show .b (!true) = .b false from rfl) (pl 13 a0.2.1 (pl 16 a0.2.2 (pf 18 h7 (pf 22 h8 (pc 40 ((without_less hl24) ▸ implwithout_a a0.2.1 (implReplayEvents w.2.2.1 (List.take k0 w.2.2.2))) (pl 41 (less a0.2.1 (implReplayEvents w.2.2.1 (List.take k0 w.2.2.2))) (pl 44 a0.2.1 (pf 45 h20 (pc 51 ((without_less hl26) ▸ implwithout_a a0.2.2 (implReplayEvents w.2.2.1 (List.take k0 w.2.2.2))) (pl 52 (less a0.2.2 (implReplayEvents w.2.2.1 (List.take k0 w.2.2.2))) p0)))))))))))))) ?_
        exact ⟨rfl, weak_fit (by rw [h5, h6, h7, h8, h20]; first | done | kernel_rfl)⟩
   refine ck ((!(implisAscending a0.2.1)) || ((!(implisAscending a0.2.2)) || ((IntKind.i64.wrap ((a0.2.1.length : Int) + (a0.2.2.length : Int)) == (0 : Int)) || (bif decide (((k0 : Nat) : Int) > (0 : Int)) then (decide ((nth w.2.2.2 (Int.toNat (((k0 : Nat) : Int) - 1))).1 ≥ a0.1) || ((((less a0.2.1 (implReplayEvents w.2.2.1 (List.take k0 w.2.2.2))).length : Int) != (a0.2.1.length : Int)) || (((less a0.2.2 (implReplayEvents w.2.2.1 (List.take k0 w.2.2.2))).length : Int) != (0 : Int)))) else ((((less a0.2.1 (implReplayEvents w.2.2.1 (List.take k0 w.2.2.2))).length : Int) != (a0.2.1.length : Int)) || (((less a0.2.2 (implReplayEvents w.2.2.1 (List.take k0 w.2.2.2))).length : Int) != (0 : Int))))))) (fun h27 => ?_) (fun h27 => ?_)
   ·
    refine su tt_ok [] [85] [] [] (p0) ?_
    refine awp_ret ?_
    have hr28 : (forL (implIsValidWatch_f0 w) implIsValidWatch_e0 w.2.2.2 0 ()) = .ret false := forL_ret hx0 (bif_t h27 (rfl)) hI0
    exact pb [] (bif_f h2 (on_r hr28))
   ·
    have h27r : (((!(implisAscending a0.2.2)) || ((IntKind.i64.wrap ((a0.2.1.length : Int) + (a0.2.2.length : Int)) == (0 : Int)) || (bif decide (((k0 : Nat) : Int) > (0 : Int)) then (decide ((nth w.2.2.2 (Int.toNat (((k0 : Nat) : Int) - 1))).1 ≥ a0.1) || ((((less a0.2.1 (implReplayEvents w.2.2.1 (List.take k0 w.2.2.2))).length : Int) != (a0.2.1.length : Int)) || (((less a0.2.2 (implReplayEvents w.2.2.1 (List.take k0 w.2.2.2))).length : Int) != (0 : Int)))) else ((((less a0.2.1 (implReplayEvents w.2.2.1 (List.take k0 w.2.2.2))).length : Int) != (a0.2.1.length : Int)) || (((less a0.2.2 (implReplayEvents w.2.2.1 (List.take k0 w.2.2.2))).length : Int) != (0 : Int))))))) = false := or_r h27
    have h27rr : (((IntKind.i64.wrap ((a0.2.1.length : Int) + (a0.2.2.length : Int)) == (0 : Int)) || (bif decide (((k0 : Nat) : Int) > (0 : Int)) then (decide ((nth w.2.2.2 (Int.toNat (((k0 : Nat) : Int) - 1))).1 ≥ a0.1) || ((((less a0.2.1 (implReplayEvents w.2.2.1 (List.take k0 w.2.2.2))).length : Int) != (a0.2.1.length : Int)) || (((less a0.2.2 (implReplayEvents w.2.2.1 (List.take k0 w.2.2.2))).length : Int) != (0 : Int)))) else ((((less a0.2.1 (implReplayEvents w.2.2.1 (List.take k0 w.2.2.2))).length : Int) != (a0.2.1.length : Int)) || (((less a0.2.2 (implReplayEvents w.2.2.1 (List.take k0 w.2.2.2))).length : Int) != (0 : Int)))))) = false := or_r h27r
    have h27rrl : ((IntKind.i64.wrap ((a0.2.1.length : Int) + (a0.2.2.length : Int)) == (0 : Int))) = false := or_l h27rr
    have h27rrld := ne_of_beq h27rrl
    refine awp_skip ?_
    refine rn tt_ok [1, 2, 17, 18, 19] [1] (pe 0 (av_i (wrap_succ k0 (by omega))) p0) ?_
    exact Exists.intro _ (And.intro (weak_fit (by kernel_rfl)) (forL_next hx0 (bif_f h27 (rfl)) hI0))
  ·
   refine su tt_ok [(20, .b false)] [] [] [] (pe 0 (av_bool (decide_eq_false (p := ((k0 : Nat) : Int) < (w.2.2.2.length : Int)) (by omega))) p0) ?_
   refine awp_seq ?_
   refine ckF ?_
   refine awp_exit ?_
   exact Exists.intro _ (And.intro (weak_fit (by kernel_rfl)) (forL_end hk0 (rfl) hI0))
  ·
   refine sn tt_ok [2] [] (p0) ?_
   refine awp_ret ?_
   exact pb [] (bif_f h2 (on_b hD0 (rfl)))
def specl17Rise_f0 (a_ : (List Int)) (k0 : Nat) (_ : Unit) : Rd (Bool) (Unit) (Unit) := (bif decide ((nth a_ (Int.toNat (((k0 + 1 : Nat) : Int) - 1))) ≥ (nth a_ (k0 + 1))) then (.ret false) else (.next ()))
def specl17Rise_e0 (_ : Nat) (_ : Unit) : Unit := ()
def specl17Rise (a_ : (List Int)) : Bool := (Out.on (forN (specl17Rise_f0 a_) specl17Rise_e0 (a_.length - 1) 0 ()) (fun _ => true))
theorem specl17Rise_a (a_ : (List Int)) : ACalls Tryz.prog 63 [.h a_] (.b (specl17Rise a_)) := by
 refine en tt_ok Tryz.func63 fun w0 F0 hG => ?_
 refine sn tt_ok [0, 2] [] (p0) ?_
 refine awp_seq ?_
 refine tn tt_ok [0, 2, 3] [] (p0) ?_
 refine mz [(2, .b false), (3, .i 1)] [] [] [] ?_
 refine wT 0 0 .sh a_ (fun hw1 hl2 => ?_)
 refine blN0 (specl17Rise_f0 a_) specl17Rise_e0 (a_.length - 1) () (fun k0 _ => [(3, .i ((k0 + 1 : Nat) : Int))]) [3] (fun _ => []) [0, 3] (weak_fit (by kernel_rfl)) (fun k0 s0 hk0 hI0 => ?_) (fun k0 s0 hk0 hI0 => ?_) (fun y0 hD0 => ?_)
 ·
  refine awp_seq ?_
  refine sn tt_ok [0, 2, 3, 7] [] (pl 2 a_ (pe 3 (av_bool (decide_eq_true (p := ((k0 + 1 : Nat) : Int) < (a_.length : Int)) (by omega))) p0)) ?_
  refine ckT ?_
  refine awp_skip ?_
  refine awp_seq ?_
  refine awp_block ?_
  have hx3 := ng a_ (Int.toNat (((k0 + 1 : Nat) : Int) - 1))
  have hx4 := ng a_ (k0 + 1)
  refine tN tt_ok tt_mx [0, 2, 3, 19] [] (pe 2 (av_i (IntWalk.i64_in (((k0 + 1 : Nat) : Int) - 1) (by omega))) (pg 3 (((k0 + 1 : Nat) : Int) - 1) hx3 (pg 7 ((k0 + 1 : Nat) : Int) hx4 p0))) ?_
  refine ck (decide ((nth a_ (Int.toNat (((k0 + 1 : Nat) : Int) - 1))) ≥ (nth a_ (k0 + 1)))) (fun h5 => ?_) (fun h5 => ?_)
  ·
   refine tu tt_ok [] [] [] [] (p0) ?_
   refine awp_ret ?_
   have hr6 : (forN (specl17Rise_f0 a_) specl17Rise_e0 (a_.length - 1) 0 ()) = .ret false := forN_ret hk0 (bif_t h5 (rfl)) hI0
   exact pb [] (on_r hr6)
  ·
   have h5d := of_decide_eq_false h5
   refine awp_skip ?_
   refine qu tt_ok [(3, .i ((k0 + 2 : Nat) : Int))] [3] [] [] (pe 1 (show .i (IntKind.i64.wrap (((k0 + 1 : Nat) : Int) + 1)) = .i ((k0 + 2 : Nat) : Int) from av_i ((IntWalk.i64_in _ (by omega)).trans (by omega))) p0) ?_
   exact Exists.intro _ (And.intro (weak_fit (by kernel_rfl)) (forN_next hk0 (bif_f h5 (rfl)) hI0))
 ·
  refine awp_seq ?_
  refine sn tt_ok [0, 2, 3, 7] [] (pl 2 a_ (pe 3 (av_bool (decide_eq_false (p := ((k0 + 1 : Nat) : Int) < (a_.length : Int)) (by omega))) p0)) ?_
  refine ckF ?_
  refine awp_exit ?_
  exact Exists.intro _ (And.intro (weak_fit (by kernel_rfl)) (forN_end hk0 (rfl) hI0))
 ·
  refine sn tt_ok [2] [] (p0) ?_
  refine awp_ret ?_
  exact pb [] (on_b hD0 (rfl))
def specIsValidWatch_f1 (s0 : (List Int)) (_ : Nat) (a1 : Int) (_ : Unit) : Rd (Rd (Bool) ((List Int)) (Unit)) (Unit) (Unit) := (bif (specContainsID s0 a1) then (.ret (.ret false)) else (.next ()))
def specIsValidWatch_e1 (_ : Nat) (_ : Unit) : Unit := ()
def specIsValidWatch_f2 (s0 : (List Int)) (_ : Nat) (a2 : Int) (_ : Unit) : Rd (Rd (Bool) ((List Int)) (Unit)) (Unit) (Unit) := (bif (!(specContainsID s0 a2)) then (.ret (.ret false)) else (.next ()))
def specIsValidWatch_e2 (_ : Nat) (_ : Unit) : Unit := ()
def specIsValidWatch_f0 (w : WatchD) (k0 : Nat) (a0 : EventD) (s0 : (List Int)) : Rd (Bool) ((List Int)) (Unit) := (bif ((IntKind.i64.wrap ((a0.2.1.length : Int) + (a0.2.2.length : Int)) == (0 : Int)) || ((!(specl17Rise a0.2.1)) || ((!(specl17Rise a0.2.2)) || (decide (((k0 : Nat) : Int) > (0 : Int)) && decide ((nth w.2.2.2 (Int.toNat (((k0 : Nat) : Int) - 1))).1 ≥ a0.1))))) then (.ret false) else (Out.on (forL (specIsValidWatch_f1 s0) specIsValidWatch_e1 a0.2.1 0 ()) (fun _ => (Out.on (forL (specIsValidWatch_f2 s0) specIsValidWatch_e2 a0.2.2 0 ()) (fun _ => (.next (specReplayEvents s0 [a0])))))))
def specIsValidWatch_e0 (_ : Nat) (_ : (List Int)) : Unit := ()
def specIsValidWatch (w : WatchD) : Bool := (Out.on (forL (specIsValidWatch_f0 w) specIsValidWatch_e0 w.2.2.2 0 w.2.2.1) (fun _ => ((specl01In w.1 0 2) && (specl17Rise w.2.2.1))))
theorem specIsValidWatch_a (w : WatchD) (hp : GoD.size w ≤ 268435456) : ACalls Tryz.prog 22 [.a [.i w.1, .s w.2.1, .h w.2.2.1, .h w.2.2.2]] (.b (specIsValidWatch w)) := by
 refine en tt_ok Tryz.func22 fun w0 F0 hG => ?_
 refine sn tt_ok [1, 2] [1] (p0) ?_
 refine wB 1 2 .sh w.2.2.1 (fun hw1 hl2 => ?_)
 refine tn tt_ok [1, 2, 3] [1] (po 3 (.flat) (px (ob_len (n := (([] : List (List PV)).length + ((eL w.2.2.1) : List (List PV)).length)) (len_of (rfl) (eL_length w.2.2.1) (by first | omega | (simp only [List.length_cons, List.length_nil]; omega) | (simp; omega) | simp))) (px (ob_flat (flat_eL w.2.2.1)) p0))) ?_
 refine awp_seq ?_
 refine tu tt_ok [(1, .p 1 0), (2, .b false), (3, .o 704 w.2.2.1), (4, .i 0)] [0] [(1, [.i w.1, .s w.2.1, .h w.2.2.1, .h w.2.2.2])] [] (p0) ?_
 refine wB 1 3 .sh w.2.2.2 (fun hw3 hl4 => ?_)
 refine blL1 (specIsValidWatch_f0 w) specIsValidWatch_e0 w.2.2.2 w.2.2.1 (fun k0 s0 => [(3, .o 147202 s0), (4, .i ((k0 : Nat) : Int))]) [3, 4] (fun _ => []) [3, 4] (fun k0 s0 => List.length s0 ≤ List.length w.2.2.1 + GoD.size (List.take k0 w.2.2.2)) (weak_sf [(704, 147202)] (by kernel_rfl)) (by simp) (fun k0 s0 hk0 hI0 => ?_) (fun k0 s0 hk0 hI0 => ?_) (fun y0 hD0 => ?_)
 ·
  have hA0_0 := hI0.2
  obtain ⟨a0, hx0⟩ := get_some (l := w.2.2.2) (i := k0) hk0
  refine awp_seq ?_
  refine sn tt_ok [1, 2, 3, 4, 16] [1] (pl 3 w.2.2.2 (pe 4 (av_bool (decide_eq_true (p := ((k0 : Nat) : Int) < (w.2.2.2.length : Int)) (by omega))) p0)) ?_
  refine ckT ?_
  refine awp_skip ?_
  refine awp_seq ?_
  refine awp_block ?_
  refine tn tt_ok [1, 2, 3, 4, 5] [1, 5] (pn 3 hx0 p0) ?_
  refine awp_seq ?_
  refine awp_seq ?_
  refine mz [(5, .p 5 0)] [] [(5, [.i a0.1, .h a0.2.1, .h a0.2.2])] [] ?_
  refine jn [(59, .b ((IntKind.i64.wrap ((a0.2.1.length : Int) + (a0.2.2.length : Int)) == (0 : Int)) || ((!(specl17Rise a0.2.1)) || ((!(specl17Rise a0.2.2)) || (decide (((k0 : Nat) : Int) > (0 : Int)) && decide ((nth w.2.2.2 (Int.toNat (((k0 : Nat) : Int) - 1))).1 ≥ a0.1))))))] [] [] [] (IntKind.i64.wrap ((a0.2.1.length : Int) + (a0.2.2.length : Int)) == (0 : Int)) (fun h5 => ?_) (fun h5 => ?_) ?_
  ·
   refine rU tt_ok tt_mx [(59, .b true)] [] [] [] (pl 2 a0.2.1 (pl 5 a0.2.2 (pt 7 h5 p0))) ?_
   exact ⟨rfl, weak_fit (by rw [h5]; first | done | kernel_rfl)⟩
  ·
   have h5d := ne_of_beq h5
   refine awp_split (!(specl17Rise a0.2.1)) (fun h6 => ?_) (fun h6 => ?_)
   ·
    have h6n : (specl17Rise a0.2.1) = false := bnot_t h6
    refine rU tt_ok tt_mx [(59, .b true)] [] [] [] (pl 2 a0.2.1 (pl 5 a0.2.2 (pf 7 h5 (pc 11 (cb h6n (specl17Rise_a a0.2.1)) (pe 12 (show .b (!false) = .b true from rfl) p0))))) ?_
    exact ⟨rfl, weak_fit (by rw [h5, h6]; first | done | kernel_rfl)⟩
   ·
    have h6n : (specl17Rise a0.2.1) = true := bnot_f h6
    refine awp_split (!(specl17Rise a0.2.2)) (fun h7 => ?_) (fun h7 => ?_)
    ·
     have h7n : (specl17Rise a0.2.2) = false := bnot_t h7
     refine rU tt_ok tt_mx [(59, .b true)] [] [] [] (pl 2 a0.2.1 (pl 5 a0.2.2 (pf 7 h5 (pc 11 (cb h6n (specl17Rise_a a0.2.1)) (pe 12 (show .b (!true) = .b false from rfl) (pc 17 (cb h7n (specl17Rise_a a0.2.2)) (pe 18 (show .b (!false) = .b true from rfl) p0))))))) ?_
     exact ⟨rfl, weak_fit (by rw [h5, h6, h7]; first | done | kernel_rfl)⟩
    ·
     have h7n : (specl17Rise a0.2.2) = true := bnot_f h7
     refine awp_split (decide (((k0 : Nat) : Int) > (0 : Int))) (fun h8 => ?_) (fun h8 => ?_)
     ·
      have h8d := of_decide_eq_true h8
      have hx9 := ng w.2.2.2 (Int.toNat (((k0 : Nat) : Int) - 1))
      refine rN tt_ok tt_mx [1, 2, 3, 4, 5, 59] [1, 5] (pl 2 a0.2.1 (pl 5 a0.2.2 (pf 7 h5 (pc 11 (cb h6n (specl17Rise_a a0.2.1)) (pe 12 (show .b (!true) = .b false from rfl) (pc 17 (cb h7n (specl17Rise_a a0.2.2)) (pe 18 (show .b (!true) = .b false from rfl) (pt 22 h8 (pe 27 (av_i (IntWalk.i64_in (((k0 : Nat) : Int) - 1) (by omega))) (pg 28 (((k0 : Nat) : Int) - 1) hx9 p0)))))))))) ?_
      exact ⟨rfl, weak_fit (by rw [h5, h6, h7, h8]; first | done | kernel_rfl)⟩
     ·
      refine rU tt_ok tt_mx [(59, .b false)] [] [] [] (pl 2 a0.2.1 (pl 5 a0.2.2 (pf 7 h5 (pc 11 (cb h6n (specl17Rise_a a0.2.1)) (pe 12 (show .b (!true) = .b false from rfl) (pc 17 (cb h7n (specl17Rise_a a0.2.2)) (pe 18 (show .b (!true) = .b false from rfl) (pf 22 h8 p0)))))))) ?_
      exact ⟨rfl, weak_fit (by rw [h5, h6, h7, h8]; first | done | kernel_rfl)⟩
  refine ck ((IntKind.i64.wrap ((a0.2.1.length : Int) + (a0.2.2.length : Int)) == (0 : Int)) || ((!(specl17Rise a0.2.1)) || ((!(specl17Rise a0.2.2)) || (decide (((k0 : Nat) : Int) > (0 : Int)) && decide ((nth w.2.2.2 (Int.toNat (((k0 : Nat) : Int) - 1))).1 ≥ a0.1))))) (fun h10 => ?_) (fun h10 => ?_)
  ·
   refine su tt_ok [] [59] [] [] (p0) ?_
   refine awp_ret ?_
   have hr11 : (forL (specIsValidWatch_f0 w) specIsValidWatch_e0 w.2.2.2 0 w.2.2.1) = .ret false := forL_ret hx0 (bif_t h10 (rfl)) hI0.1
   exact pb [] (on_r hr11)
  ·
   have h10l : ((IntKind.i64.wrap ((a0.2.1.length : Int) + (a0.2.2.length : Int)) == (0 : Int))) = false := or_l h10
   have h10ld := ne_of_beq h10l
   refine awp_skip ?_
   refine awp_seq ?_
   refine su tt_ok [(6, .i 0)] [59] [] [] (p0) ?_
   refine wB 5 1 .sh a0.2.1 (fun hw12 hl13 => ?_)
   refine blL0 (specIsValidWatch_f1 s0) specIsValidWatch_e1 a0.2.1 () (fun k1 _ => [(6, .i ((k1 : Nat) : Int))]) [6] (fun _ => []) [6] (weak_fit (by kernel_rfl)) (fun k1 s1 hk1 hI1 => ?_) (fun k1 s1 hk1 hI1 => ?_) (fun y1 hD1 => ?_)
   ·
    obtain ⟨a1, hx1⟩ := get_some (l := a0.2.1) (i := k1) hk1
    refine awp_seq ?_
    refine su tt_ok [(64, .b true)] [] [] [] (pl 3 a0.2.1 (pe 4 (av_bool (decide_eq_true (p := ((k1 : Nat) : Int) < (a0.2.1.length : Int)) (by omega))) p0)) ?_
    refine ckT ?_
    refine awp_skip ?_
    refine awp_seq ?_
    refine awp_block ?_
    refine sn tt_ok [1, 2, 3, 4, 5, 6, 73] [1, 5] (pn 4 hx1 (pc 6 (specContainsID_a s0 a1) p0)) ?_
    refine ck (specContainsID s0 a1) (fun h14 => ?_) (fun h14 => ?_)
    ·
     refine tu tt_ok [] [64] [] [] (p0) ?_
     refine awp_ret ?_
     have hr15 : (forL (specIsValidWatch_f1 s0) specIsValidWatch_e1 a0.2.1 0 ()) = .ret (.ret false) := forL_ret hx1 (bif_t h14 (rfl)) hI1
     have hr16 : (forL (specIsValidWatch_f0 w) specIsValidWatch_e0 w.2.2.2 0 w.2.2.1) = .ret false := forL_ret hx0 (bif_f h10 (on_r hr15)) hI0.1
     exact pb [] (on_r hr16)
    ·
     refine awp_skip ?_
     refine qn tt_ok [1, 2, 3, 4, 5, 6] [1, 5] (pe 1 (av_i (wrap_succ k1 (by omega))) p0) ?_
     exact Exists.intro _ (And.intro (weak_fit (by kernel_rfl)) (forL_next hx1 (bif_f h14 (rfl)) hI1))
   ·
    refine awp_seq ?_
    refine su tt_ok [(64, .b false)] [] [] [] (pl 3 a0.2.1 (pe 4 (av_bool (decide_eq_false (p := ((k1 : Nat) : Int) < (a0.2.1.length : Int)) (by omega))) p0)) ?_
    refine ckF ?_
    refine awp_exit ?_
    exact Exists.intro _ (And.intro (weak_fit (by kernel_rfl)) (forL_end hk1 (rfl) hI1))
   ·
    refine awp_seq ?_
    refine su tt_ok [(7, .i 0)] [] [] [] (p0) ?_
    refine wB 5 2 .sh a0.2.2 (fun hw17 hl18 => ?_)
    refine blL0 (specIsValidWatch_f2 s0) specIsValidWatch_e2 a0.2.2 () (fun k2 _ => [(7, .i ((k2 : Nat) : Int))]) [7] (fun _ => []) [7] (weak_fit (by kernel_rfl)) (fun k2 s2 hk2 hI2 => ?_) (fun k2 s2 hk2 hI2 => ?_) (fun y2 hD2 => ?_)
    ·
     obtain ⟨a2, hx2⟩ := get_some (l := a0.2.2) (i := k2) hk2
     refine awp_seq ?_
     refine su tt_ok [(78, .b true)] [] [] [] (pl 3 a0.2.2 (pe 4 (av_bool (decide_eq_true (p := ((k2 : Nat) : Int) < (a0.2.2.length : Int)) (by omega))) p0)) ?_
     refine ckT ?_
     refine awp_skip ?_
     refine awp_seq ?_
     refine awp_block ?_
     refine sn tt_ok [1, 2, 3, 4, 5, 7, 88] [1, 5] (pn 4 hx2 (pc 6 (specContainsID_a s0 a2) p0)) ?_
     refine ck (!(specContainsID s0 a2)) (fun h19 => ?_) (fun h19 => ?_)
     ·
      refine tu tt_ok [] [78] [] [] (p0) ?_
      refine awp_ret ?_
      have hr20 : (forL (specIsValidWatch_f2 s0) specIsValidWatch_e2 a0.2.2 0 ()) = .ret (.ret false) := forL_ret hx2 (bif_t h19 (rfl)) hI2
      have hr21 : (forL (specIsValidWatch_f0 w) specIsValidWatch_e0 w.2.2.2 0 w.2.2.1) = .ret false := forL_ret hx0 (bif_f h10 (on_b hD1 (on_r hr20))) hI0.1
      exact pb [] (on_r hr21)
     ·
      refine awp_skip ?_
      refine qn tt_ok [1, 2, 3, 4, 5, 7] [1, 5] (pe 1 (av_i (wrap_succ k2 (by omega))) p0) ?_
      exact Exists.intro _ (And.intro (weak_fit (by kernel_rfl)) (forL_next hx2 (bif_f h19 (rfl)) hI2))
    ·
     refine awp_seq ?_
     refine su tt_ok [(78, .b false)] [] [] [] (pl 3 a0.2.2 (pe 4 (av_bool (decide_eq_false (p := ((k2 : Nat) : Int) < (a0.2.2.length : Int)) (by omega))) p0)) ?_
     refine ckF ?_
     refine awp_exit ?_
     exact Exists.intro _ (And.intro (weak_fit (by kernel_rfl)) (forL_end hk2 (rfl) hI2))
    ·
     refine rn tt_ok [1, 2, 3, 4] [1] (pc 3 (specReplayEvents_a s0 [a0] (valid_room hx0 hA0_0 hp)) p0) ?_
     refine qn tt_ok [1, 2, 3, 4] [1] (pe 1 (av_i (wrap_succ k0 (by omega))) p0) ?_
     exact Exists.intro (specReplayEvents s0 [a0]) (And.intro (weak_sf [(5888, 147202)] (by kernel_rfl)) ⟨forL_next hx0 (bif_f h10 (on_b hD1 (on_b hD2 (rfl)))) hI0.1, (by exact valid_step hx0 hA0_0)⟩)
 ·
  have hA0_0 := hI0.2
  refine awp_seq ?_
  refine sn tt_ok [1, 2, 3, 4, 16] [1] (pl 3 w.2.2.2 (pe 4 (av_bool (decide_eq_false (p := ((k0 : Nat) : Int) < (w.2.2.2.length : Int)) (by omega))) p0)) ?_
  refine ckF ?_
  refine awp_exit ?_
  exact Exists.intro _ (And.intro (weak_fit (by kernel_rfl)) (forL_end hk0 (rfl) hI0.1))
 ·
  refine awp_seq ?_
  refine jn [(2, .b ((specl01In w.1 0 2) && (specl17Rise w.2.2.1)))] [1, 2] [] [1] (specl01In w.1 0 2) (fun h22 => ?_) (fun h22 => ?_) ?_
  ·
   have h22w := l01In_iff.1 h22
   refine rn tt_ok [2] [] (pc 2 (cb h22 (specl01In_a w.1 0 2)) (pc 6 (specl17Rise_a w.2.2.1) p0)) ?_
   exact ⟨rfl, weak_fit (by rw [h22]; first | done | kernel_rfl)⟩
  ·
   refine rn tt_ok [2] [] (pc 2 (cb h22 (specl01In_a w.1 0 2)) p0) ?_
   exact ⟨rfl, weak_fit (by rw [h22]; first | done | kernel_rfl)⟩
  refine awp_ret ?_
  exact pb [] (on_b hD0 (rfl))
def implEventsSince_f0 (version : Int) (_ : Nat) (a0 : EventD) (s0 : (List EventD)) : Rd ((List EventD)) ((List EventD)) ((List EventD)) := (bif decide (a0.1 > version) then (.next (s0 ++ [(implcopyEvent a0)])) else (.next s0))
def implEventsSince_e0 (_ : Nat) (s0 : (List EventD)) : (List EventD) := s0
def implEventsSince (w : WatchD) (version : Int) : (List EventD) := (Out.on (forL (implEventsSince_f0 version) implEventsSince_e0 w.2.2.2 0 []) (fun y0 => y0))
theorem implEventsSince_a (w : WatchD) (version : Int) : ACalls Tryz.prog 26 [.a [.i w.1, .s w.2.1, .h w.2.2.1, .h w.2.2.2], .i version] (.o 0 (implEventsSince w version)) := by
 refine en tt_ok Tryz.func26 fun w0 F0 hG => ?_
 refine sn tt_ok [1, 2, 4] [2] (p0) ?_
 refine tn tt_ok [1, 2, 4, 5] [2] (p0) ?_
 refine awp_seq ?_
 refine tu tt_ok [(4, .e 0), (5, .one (.slc (.own true 512) 3 [])), (10, .h w.2.2.2), (11, .i (w.2.2.2.length : Int)), (12, .i 0)] [0] [] [] (pl 2 w.2.2.2 p0) ?_
 refine wT 10 0 .sh w.2.2.2 (fun hw1 hl2 => ?_)
 refine blL1 (implEventsSince_f0 version) implEventsSince_e0 w.2.2.2 [] (fun k0 s0 => [(5, .o 147202 s0), (12, .i ((k0 : Nat) : Int))]) [5, 12] (fun y0 => [(5, .o 147352 y0)]) [1, 5, 10, 11, 12] (fun k0 s0 => List.length s0 ≤ k0) (weak_sf [(512, 147202)] (by kernel_rfl)) (by simp) (fun k0 s0 hk0 hI0 => ?_) (fun k0 s0 hk0 hI0 => ?_) (fun y0 hD0 => ?_)
 ·
  have hA0_0 := hI0.2
  obtain ⟨a0, hx0⟩ := get_some (l := w.2.2.2) (i := k0) hk0
  refine su tt_ok [(13, .b true)] [] [] [] (pe 0 (av_bool (decide_eq_true (p := ((k0 : Nat) : Int) < (w.2.2.2.length : Int)) (by omega))) p0) ?_
  refine awp_seq ?_
  refine ckT ?_
  refine awp_skip ?_
  refine awp_seq ?_
  refine awp_block ?_
  refine sn tt_ok [1, 4, 5, 7, 10, 11, 12] [7] (pn 0 hx0 p0) ?_
  refine tn tt_ok [1, 4, 5, 7, 10, 11, 12, 19] [7] (p0) ?_
  refine ck (decide (a0.1 > version)) (fun h3 => ?_) (fun h3 => ?_)
  ·
   have h3d := of_decide_eq_true h3
   refine wT 5 0 (.own true 147202) s0 (fun hw4 hl5 => ?_)
   refine qu tt_ok [(5, .one (.slc (.own true 1536) 3 ((eL s0) ++ [[.i ((implcopyEvent a0).1), .h ((implcopyEvent a0).2.1), .h ((implcopyEvent a0).2.2)]])))] [5, 13] [] [] (pc 2 (implcopyEvent_a a0) (pa s0 [(implcopyEvent a0)] p0)) ?_
   refine eqn [(5, .o 1536 (s0 ++ [(implcopyEvent a0)]))] [5] [] [] (by rw [show ((eL s0) ++ [[.i ((implcopyEvent a0).1), .h ((implcopyEvent a0).2.1), .h ((implcopyEvent a0).2.2)]]) = (eL (s0 ++ [(implcopyEvent a0)])) from app_eL (rfl) (rfl)]; first | done | kernel_rfl) ?_
   refine rn tt_ok [1, 4, 5, 10, 11, 12] [] (pe 0 (av_i (wrap_succ k0 (by omega))) p0) ?_
   exact Exists.intro (s0 ++ [(implcopyEvent a0)]) (And.intro (weak_sf [(1536, 147202)] (by kernel_rfl)) ⟨forL_next hx0 (bif_t h3 (rfl)) hI0.1, by first | omega | (simp; omega) | simp⟩)
  ·
   have h3d := of_decide_eq_false h3
   refine awp_skip ?_
   refine qu tt_ok [(12, .i ((k0 + 1 : Nat) : Int))] [12, 13] [] [] (pe 0 (av_i (wrap_succ k0 (by omega))) p0) ?_
   exact Exists.intro s0 (And.intro (weak_fit (by kernel_rfl)) ⟨forL_next hx0 (bif_f h3 (rfl)) hI0.1, by first | omega | (simp; omega) | simp⟩)
 ·
  have hA0_0 := hI0.2
  refine su tt_ok [(13, .b false)] [] [] [] (pe 0 (av_bool (decide_eq_false (p := ((k0 : Nat) : Int) < (w.2.2.2.length : Int)) (by omega))) p0) ?_
  refine awp_seq ?_
  refine ckF ?_
  refine awp_exit ?_
  exact Exists.intro _ (And.intro (weak_sf [(147202, 147352)] (by kernel_rfl)) (forL_end hk0 (rfl) hI0.1))
 ·
  refine sn tt_ok [4] [] (p0) ?_
  refine awp_ret ?_
  exact po0 [] (on_b hD0 (rfl))
end Go.Proofs.YtcnkkobgogmakaaGreat
namespace Go.Proofs.YtcnkkobgogmakaaGreat
open Go.RowKit
theorem l29_size (code : List UInt8) (ci : Nat) (ch : Int) : GoD.size (specl29Watch code ci ch).1 ≤ 1900 := by
  unfold specl29Watch lt
  generalize specl05Store code ci ch = x1
  have hn := l13_names code x1.2.1 x1.2.2
  dsimp only
  generalize specl13Dirs code x1.2.1 x1.2.2 = x2 at hn ⊢
  generalize specl01Below code x2.2.1 x2.2.2 3 = x3
  generalize specl01Below code x3.2.1 x3.2.2 _ = x4
  obtain ⟨t, ht⟩ := whlD_brk (f := specl29Watch_f0 code x2) (fun s r => by
    unfold specl29Watch_f0 lt
    generalize specl01Below code s.2.2.1 s.2.2.2 4 = x
    simp only
    generalize decide (s.1 < 2 + x.1) = c
    cases c <;> simp) 5 (1, (specNewWatch x1.1 x2.1 x3.1 ((nth x2.1 (Int.toNat x4.1)).1)), x4.2.1, x4.2.2)
  have hj : GoD.size t.1 ≤ 1795 := whlD_inv (f := specl29Watch_f0 code x2) (I := fun s => W29 s.1 s.2.1) (J := fun t => GoD.size t.1 ≤ 1795) (fun s s' hi h => by
    unfold specl29Watch_f0 lt at h
    have hb := specl01Below_bd code s.2.2.1 s.2.2.2 4
    generalize specl01Below code s.2.2.1 s.2.2.2 4 = x at h hb
    by_cases hc : s.1 < 2 + x.1
    · simp only [decide_eq_true hc, cond_true] at h
      have h := Rd.next.inj h
      rw [← h]
      exact w29_next hi (by omega)
    · simp only [decide_eq_false hc, cond_false] at h
      cases h) (fun s t hi h => by
    unfold specl29Watch_f0 lt at h
    generalize specl01Below code s.2.2.1 s.2.2.2 4 = x at h
    by_cases hc : s.1 < 2 + x.1
    · simp only [decide_eq_true hc, cond_true] at h
      cases h
    · simp only [decide_eq_false hc, cond_false] at h
      have h := Rd.brk.inj h
      rw [← h]
      exact w29_small hi) (w29_start (hn _)) (specl29Watch_w code x2 _ _ _) ht
  rw [ht]
  simp only [Out.on]
  have hs := watch_size t.1
  generalize specl01Below code t.2.1 t.2.2 10 = x11
  cases (x11.1 == (0 : Int)) with
  | true =>
    simp only [cond_true]
    have h7 := ids14_len code x11.2.1 x11.2.2
    rw [watch_size]
    show t.1.2.1.size + (List.length (specl14Ids code x11.2.1 x11.2.2).1 + GoD.size t.1.2.2.2) ≤ 1900
    omega
  | false =>
    simp only [cond_false]
    cases (x11.1 == (1 : Int)) with
    | true =>
      simp only [cond_true]
      rw [watch_size]
      show t.1.2.1.size + (List.length t.1.2.2.1 + GoD.size t.1.2.2.2) ≤ 1900
      omega
    | false =>
      simp only [cond_false]
      cases (x11.1 == (2 : Int)) with
      | true =>
        simp only [cond_true]
        generalize specl01Below code x11.2.1 x11.2.2 8 = x19
        have h7 := ids14_len code x19.2.1 x19.2.2
        generalize specl14Ids code x19.2.1 x19.2.2 = x20 at h7
        have h8 := ids14_len code x20.2.1 x20.2.2
        generalize specl14Ids code x20.2.1 x20.2.2 = x21 at h8
        rw [watch_size]
        show t.1.2.1.size + (List.length t.1.2.2.1 + GoD.size (t.1.2.2.2 ++ [(x19.1, x20.1, x21.1)])) ≤ 1900
        rw [size_app, size_one]
        have h9 : GoD.size ((x19.1, x20.1, x21.1) : EventD) = 0 + (GoD.size x20.1 + GoD.size x21.1) := rfl
        rw [h9, ints_size, ints_size]
        omega
      | false => simp only [cond_false]; omega
theorem drawEvents_size (code : List UInt8) : GoD.size (specDrawEventsSince code).1 ≤ 1900 := l29_size code _ _
theorem since_eq (w : WatchD) (v : Int) : implEventsSince w v = w.2.2.2.filter fun a => decide (a.1 > v) := by
  unfold implEventsSince
  rw [forL_filter (f := implEventsSince_f0 v) (e := implEventsSince_e0) (p := fun a : EventD => decide (a.1 > v)) (g := fun a => a) (fun _ _ _ => rfl), List.map_id']
  rfl
theorem size_filter_le (p : EventD → Bool) : ∀ l : List EventD, GoD.size (l.filter p) ≤ GoD.size l
  | [] => Nat.le_refl _
  | a :: l => by
    have ih := size_filter_le p l
    have h : GoD.size (a :: l) = GoD.size [a] + GoD.size l := size_app [a] l
    cases hp : p a with
    | true =>
      rw [List.filter_cons_of_pos hp]
      have h2 : GoD.size (a :: l.filter p) = GoD.size [a] + GoD.size (l.filter p) := size_app [a] _
      omega
    | false => rw [List.filter_cons_of_neg (by simp [hp])]; omega
theorem replay_len (s : List Int) (l : List EventD) : (implReplayEvents s l).length ≤ s.length + GoD.size l := by
  unfold implReplayEvents
  obtain ⟨t, h1, h2⟩ := replay_grow l 0 s
  rw [h1]
  exact h2
theorem wp_room2 {w : WatchD} {v : Int} {y : List EventD} (hw : GoD.size w ≤ 1900) (hy : GoD.size y ≤ GoD.size w.2.2.2) : List.length (implReplayEvents w.2.2.1 y) + GoD.size (implEventsSince w v) ≤ 536870912 := by
  have h1 := replay_len w.2.2.1 y
  have h2 : GoD.size (implEventsSince w v) ≤ GoD.size w.2.2.2 := by rw [since_eq]; exact size_filter_le _ _
  have h3 := watch_size w
  omega
open GoE (enc wide)
def lawsbig (code : (List UInt8)) : Bool := decide ((code.length : Int) > (1048576 : Int))
theorem lawsbig_a (code : (List UInt8)) : ACalls Tryz.prog 8 [.h code] (.b (lawsbig code)) := by
 refine en tt_ok Tryz.func8 fun w0 F0 hG => ?_
 refine sn tt_ok [0, 2] [] (p0) ?_
 refine tn tt_ok [2] [] (pl 1 code p0) ?_
 refine awp_ret ?_
 exact pb [] (show lawsbig code = decide ((code.length : Int) > (1048576 : Int)) from rfl)
def lawssameInts_f0 (b : (List Int)) (k0 : Nat) (a0 : Int) (_ : Unit) : Rd (Bool) (Unit) (Unit) := (bif (a0 != (nth b k0)) then (.ret false) else (.next ()))
def lawssameInts_e0 (_ : Nat) (_ : Unit) : Unit := ()
def lawssameInts (a_ : (List Int)) (b : (List Int)) : Bool := (bif ((a_.length : Int) != (b.length : Int)) then false else (Out.on (forL (lawssameInts_f0 b) lawssameInts_e0 a_ 0 ()) (fun _ => true)))
theorem lawssameInts_a (a_ : (List Int)) (b : (List Int)) : ACalls Tryz.prog 16 [.h a_, .h b] (.b (lawssameInts a_ b)) := by
 refine en tt_ok Tryz.func16 fun w0 F0 hG => ?_
 refine sn tt_ok [0, 1, 4] [] (p0) ?_
 refine awp_seq ?_
 refine tn tt_ok [0, 1, 4, 10] [] (pl 1 a_ (pl 3 b p0)) ?_
 refine ck ((a_.length : Int) != (b.length : Int)) (fun h1 => ?_) (fun h1 => ?_)
 ·
  refine tu tt_ok [(4, .b false)] [] [] [] (p0) ?_
  refine awp_ret ?_
  exact pb [] (bif_t h1 (rfl))
 ·
  have h1d := eq_of_bne h1
  refine awp_skip ?_
  refine awp_seq ?_
  refine tu tt_ok [(4, .b false), (5, .i 0)] [] [] [] (p0) ?_
  refine wT 0 0 .sh a_ (fun hw2 hl3 => ?_)
  refine blL0 (lawssameInts_f0 b) lawssameInts_e0 a_ () (fun k0 _ => [(5, .i ((k0 : Nat) : Int))]) [5] (fun _ => []) [0, 1, 5] (weak_fit (by kernel_rfl)) (fun k0 s0 hk0 hI0 => ?_) (fun k0 s0 hk0 hI0 => ?_) (fun y0 hD0 => ?_)
  ·
   obtain ⟨a0, hx0⟩ := get_some (l := a_) (i := k0) hk0
   refine awp_seq ?_
   refine sn tt_ok [0, 1, 4, 5, 14] [] (pl 2 a_ (pe 3 (av_bool (decide_eq_true (p := ((k0 : Nat) : Int) < (a_.length : Int)) (by omega))) p0)) ?_
   refine ckT ?_
   refine awp_skip ?_
   refine awp_seq ?_
   refine awp_block ?_
   refine wT 1 0 .sh b (fun hw5 hl6 => ?_)
   have hx4 := ng b k0
   refine tN tt_ok tt_mx [0, 1, 4, 5, 25] [] (pn 2 hx0 (pn 6 hx4 p0)) ?_
   refine ck (a0 != (nth b k0)) (fun h7 => ?_) (fun h7 => ?_)
   ·
    refine tu tt_ok [] [] [] [] (p0) ?_
    refine awp_ret ?_
    have hr8 : (forL (lawssameInts_f0 b) lawssameInts_e0 a_ 0 ()) = .ret false := forL_ret hx0 (bif_t h7 (rfl)) hI0
    exact pb [] (bif_f h1 (on_r hr8))
   ·
    have h7d := eq_of_bne h7
    refine awp_skip ?_
    refine qu tt_ok [(5, .i ((k0 + 1 : Nat) : Int))] [5] [] [] (pe 1 (av_i (wrap_succ k0 (by omega))) p0) ?_
    exact Exists.intro _ (And.intro (weak_fit (by kernel_rfl)) (forL_next hx0 (bif_f h7 (rfl)) hI0))
  ·
   refine awp_seq ?_
   refine sn tt_ok [0, 1, 4, 5, 14] [] (pl 2 a_ (pe 3 (av_bool (decide_eq_false (p := ((k0 : Nat) : Int) < (a_.length : Int)) (by omega))) p0)) ?_
   refine ckF ?_
   refine awp_exit ?_
   exact Exists.intro _ (And.intro (weak_fit (by kernel_rfl)) (forL_end hk0 (rfl) hI0))
  ·
   refine sn tt_ok [4] [] (p0) ?_
   refine awp_ret ?_
   exact pb [] (bif_f h1 (on_b hD0 (rfl)))
def lawssameEvent (a_ : EventD) (b : EventD) : Bool := ((a_.1 == b.1) && ((lawssameInts a_.2.1 b.2.1) && (lawssameInts a_.2.2 b.2.2)))
theorem lawssameEvent_a (a_ : EventD) (b : EventD) : ACalls Tryz.prog 108 [.a [.i a_.1, .h a_.2.1, .h a_.2.2], .a [.i b.1, .h b.2.1, .h b.2.2]] (.b (lawssameEvent a_ b)) := by
 refine en tt_ok Tryz.func108 fun w0 F0 hG => ?_
 refine sn tt_ok [2, 3, 4] [2, 3] (p0) ?_
 refine awp_seq ?_
 refine mz [(2, .p 2 0), (3, .p 3 0), (4, .b false)] [0, 1] [(2, [.i a_.1, .h a_.2.1, .h a_.2.2]), (3, [.i b.1, .h b.2.1, .h b.2.2])] [] ?_
 refine jn [(4, .b ((a_.1 == b.1) && ((lawssameInts a_.2.1 b.2.1) && (lawssameInts a_.2.2 b.2.2))))] [2, 3, 4] [] [2, 3] (a_.1 == b.1) (fun h1 => ?_) (fun h1 => ?_) ?_
 ·
  refine awp_split (lawssameInts a_.2.1 b.2.1) (fun h2 => ?_) (fun h2 => ?_)
  ·
   refine rn tt_ok [4] [] (pt 4 h1 (pc 10 (cb h2 (lawssameInts_a a_.2.1 b.2.1)) (pc 17 (lawssameInts_a a_.2.2 b.2.2) p0))) ?_
   exact ⟨rfl, weak_fit (by rw [h1, h2]; first | done | kernel_rfl)⟩
  ·
   refine rn tt_ok [4] [] (pt 4 h1 (pc 10 (cb h2 (lawssameInts_a a_.2.1 b.2.1)) p0)) ?_
   exact ⟨rfl, weak_fit (by rw [h1, h2]; first | done | kernel_rfl)⟩
 ·
  refine rn tt_ok [4] [] (pf 4 h1 p0) ?_
  exact ⟨rfl, weak_fit (by rw [h1]; first | done | kernel_rfl)⟩
 refine awp_ret ?_
 exact pb [] (show lawssameEvent a_ b = ((a_.1 == b.1) && ((lawssameInts a_.2.1 b.2.1) && (lawssameInts a_.2.2 b.2.2))) from rfl)
def lawssameEvents_f0 (b : (List EventD)) (k0 : Nat) (a0 : EventD) (_ : Unit) : Rd (Bool) (Unit) (Unit) := (bif (!(lawssameEvent a0 (nth b k0))) then (.ret false) else (.next ()))
def lawssameEvents_e0 (_ : Nat) (_ : Unit) : Unit := ()
def lawssameEvents (a_ : (List EventD)) (b : (List EventD)) : Bool := (bif ((a_.length : Int) != (b.length : Int)) then false else (Out.on (forL (lawssameEvents_f0 b) lawssameEvents_e0 a_ 0 ()) (fun _ => true)))
theorem lawssameEvents_a (a_ : (List EventD)) (b : (List EventD)) : ACalls Tryz.prog 67 [.h a_, .h b] (.b (lawssameEvents a_ b)) := by
 refine en tt_ok Tryz.func67 fun w0 F0 hG => ?_
 refine sn tt_ok [0, 1, 4] [] (p0) ?_
 refine awp_seq ?_
 refine tn tt_ok [0, 1, 4, 10] [] (pl 1 a_ (pl 3 b p0)) ?_
 refine ck ((a_.length : Int) != (b.length : Int)) (fun h1 => ?_) (fun h1 => ?_)
 ·
  refine tu tt_ok [(4, .b false)] [] [] [] (p0) ?_
  refine awp_ret ?_
  exact pb [] (bif_t h1 (rfl))
 ·
  have h1d := eq_of_bne h1
  refine awp_skip ?_
  refine awp_seq ?_
  refine tu tt_ok [(4, .b false), (5, .i 0)] [] [] [] (p0) ?_
  refine wT 0 0 .sh a_ (fun hw2 hl3 => ?_)
  refine blL0 (lawssameEvents_f0 b) lawssameEvents_e0 a_ () (fun k0 _ => [(5, .i ((k0 : Nat) : Int))]) [5] (fun _ => []) [0, 1, 5] (weak_fit (by kernel_rfl)) (fun k0 s0 hk0 hI0 => ?_) (fun k0 s0 hk0 hI0 => ?_) (fun y0 hD0 => ?_)
  ·
   obtain ⟨a0, hx0⟩ := get_some (l := a_) (i := k0) hk0
   refine awp_seq ?_
   refine sn tt_ok [0, 1, 4, 5, 14] [] (pl 2 a_ (pe 3 (av_bool (decide_eq_true (p := ((k0 : Nat) : Int) < (a_.length : Int)) (by omega))) p0)) ?_
   refine ckT ?_
   refine awp_skip ?_
   refine awp_seq ?_
   refine awp_block ?_
   refine wT 1 0 .sh b (fun hw5 hl6 => ?_)
   have hx4 := ng b k0
   refine tN tt_ok tt_mx [0, 1, 4, 5, 26] [] (pn 2 hx0 (pn 6 hx4 (pc 8 (lawssameEvent_a a0 (nth b k0)) p0))) ?_
   refine ck (!(lawssameEvent a0 (nth b k0))) (fun h7 => ?_) (fun h7 => ?_)
   ·
    refine tu tt_ok [] [] [] [] (p0) ?_
    refine awp_ret ?_
    have hr8 : (forL (lawssameEvents_f0 b) lawssameEvents_e0 a_ 0 ()) = .ret false := forL_ret hx0 (bif_t h7 (rfl)) hI0
    exact pb [] (bif_f h1 (on_r hr8))
   ·
    refine awp_skip ?_
    refine qu tt_ok [(5, .i ((k0 + 1 : Nat) : Int))] [5] [] [] (pe 1 (av_i (wrap_succ k0 (by omega))) p0) ?_
    exact Exists.intro _ (And.intro (weak_fit (by kernel_rfl)) (forL_next hx0 (bif_f h7 (rfl)) hI0))
  ·
   refine awp_seq ?_
   refine sn tt_ok [0, 1, 4, 5, 14] [] (pl 2 a_ (pe 3 (av_bool (decide_eq_false (p := ((k0 : Nat) : Int) < (a_.length : Int)) (by omega))) p0)) ?_
   refine ckF ?_
   refine awp_exit ?_
   exact Exists.intro _ (And.intro (weak_fit (by kernel_rfl)) (forL_end hk0 (rfl) hI0))
  ·
   refine sn tt_ok [4] [] (p0) ?_
   refine awp_ret ?_
   exact pb [] (bif_f h1 (on_b hD0 (rfl)))
def lawssameWatch (a_ : WatchD) (b : WatchD) : Bool := ((a_.1 == b.1) && ((a_.2.1.toList == b.2.1.toList) && ((lawssameInts a_.2.2.1 b.2.2.1) && (lawssameEvents a_.2.2.2 b.2.2.2))))
theorem lawssameWatch_a (a_ : WatchD) (b : WatchD) : ACalls Tryz.prog 23 [.a [.i a_.1, .s a_.2.1, .h a_.2.2.1, .h a_.2.2.2], .a [.i b.1, .s b.2.1, .h b.2.2.1, .h b.2.2.2]] (.b (lawssameWatch a_ b)) := by
 refine en tt_ok Tryz.func23 fun w0 F0 hG => ?_
 refine sn tt_ok [2, 3, 4] [2, 3] (p0) ?_
 refine awp_seq ?_
 refine mz [(2, .p 2 0), (3, .p 3 0), (4, .b false)] [0, 1] [(2, [.i a_.1, .s a_.2.1, .h a_.2.2.1, .h a_.2.2.2]), (3, [.i b.1, .s b.2.1, .h b.2.2.1, .h b.2.2.2])] [] ?_
 refine jn [(4, .b ((a_.1 == b.1) && ((a_.2.1.toList == b.2.1.toList) && ((lawssameInts a_.2.2.1 b.2.2.1) && (lawssameEvents a_.2.2.2 b.2.2.2)))))] [2, 3, 4] [] [2, 3] (a_.1 == b.1) (fun h1 => ?_) (fun h1 => ?_) ?_
 ·
  refine awp_split (a_.2.1.toList == b.2.1.toList) (fun h2 => ?_) (fun h2 => ?_)
  ·
   refine awp_split (lawssameInts a_.2.2.1 b.2.2.1) (fun h3 => ?_) (fun h3 => ?_)
   ·
    refine rn tt_ok [4] [] (pt 4 h1 (pt 10 h2 (pc 17 (cb h3 (lawssameInts_a a_.2.2.1 b.2.2.1)) (pc 24 (lawssameEvents_a a_.2.2.2 b.2.2.2) p0)))) ?_
    exact ⟨rfl, weak_fit (by rw [h1, h2, h3]; first | done | kernel_rfl)⟩
   ·
    refine rn tt_ok [4] [] (pt 4 h1 (pt 10 h2 (pc 17 (cb h3 (lawssameInts_a a_.2.2.1 b.2.2.1)) p0))) ?_
    exact ⟨rfl, weak_fit (by rw [h1, h2, h3]; first | done | kernel_rfl)⟩
  ·
   refine rn tt_ok [4] [] (pt 4 h1 (pf 10 h2 p0)) ?_
   exact ⟨rfl, weak_fit (by rw [h1, h2]; first | done | kernel_rfl)⟩
 ·
  refine rn tt_ok [4] [] (pf 4 h1 p0) ?_
  exact ⟨rfl, weak_fit (by rw [h1]; first | done | kernel_rfl)⟩
 refine awp_ret ?_
 exact pb [] (show lawssameWatch a_ b = ((a_.1 == b.1) && ((a_.2.1.toList == b.2.1.toList) && ((lawssameInts a_.2.2.1 b.2.2.1) && (lawssameEvents a_.2.2.2 b.2.2.2)))) from rfl)
def lawsFnWatchParts_f0 (code : (List UInt8)) (_ : Nat) (a0 : EventD) (s0 : (List EventD)) : Rd (Bool) ((List EventD)) ((List EventD)) := (bif decide (a0.1 ≤ ((specDrawEventsSince code)).2) then (.next (s0 ++ [a0])) else (.next s0))
def lawsFnWatchParts_e0 (_ : Nat) (s0 : (List EventD)) : (List EventD) := s0
def lawsFnWatchParts (code : (List UInt8)) : Bool := (bif (lawsbig code) then true else (bif (!(specIsValidWatch (((specDrawEventsSince code)).1))) then ((lawssameWatch (((specDrawEventsSince code)).1) (((specDrawEventsSince code)).1)) && ((implIsValidWatch (((specDrawEventsSince code)).1)) == false)) else (Out.on (forL (lawsFnWatchParts_f0 code) lawsFnWatchParts_e0 ((((specDrawEventsSince code)).1).2.2.2) 0 []) (fun y0 => ((lawssameInts (implReplayEvents (implReplayEvents ((((specDrawEventsSince code)).1).2.2.1) y0) (implEventsSince (((specDrawEventsSince code)).1) (((specDrawEventsSince code)).2))) (implWatchListing (((specDrawEventsSince code)).1))) && (IntKind.i64.wrap ((y0.length : Int) + ((implEventsSince (((specDrawEventsSince code)).1) (((specDrawEventsSince code)).2)).length : Int)) == (((((specDrawEventsSince code)).1).2.2.2).length : Int)))))))
theorem lawsFnWatchParts_a (code : (List UInt8)) : ACalls Tryz.prog 4 [.h code] (.b (lawsFnWatchParts code)) := by
 refine en tt_ok Tryz.func4 fun w0 F0 hG => ?_
 have hds := drawEvents_size code
 refine sn tt_ok [0, 2] [] (p0) ?_
 refine awp_seq ?_
 refine tn tt_ok [0, 2, 8] [] (pc 1 (lawsbig_a code) p0) ?_
 refine ck (lawsbig code) (fun h1 => ?_) (fun h1 => ?_)
 ·
  refine tu tt_ok [(2, .b true)] [] [] [] (p0) ?_
  refine awp_ret ?_
  exact pb [] (bif_t h1 (rfl))
 ·
  refine awp_skip ?_
  refine tu tt_ok [(2, .b false), (3, .p 3 0), (4, .i (((specDrawEventsSince code)).2))] [0] [(3, [.i ((((specDrawEventsSince code)).1).1), .s ((((specDrawEventsSince code)).1).2.1), .o 704 ((((specDrawEventsSince code)).1).2.2.1), .o 705 ((((specDrawEventsSince code)).1).2.2.2)])] [] (pc 1 (specDrawEventsSince_a code) p0) ?_
  refine awp_seq ?_
  refine sn tt_ok [2, 3, 4, 16] [3] (pc 1 (specIsValidWatch_a (((specDrawEventsSince code)).1) (by omega)) p0) ?_
  refine ck (!(specIsValidWatch (((specDrawEventsSince code)).1))) (fun h2 => ?_) (fun h2 => ?_)
  ·
   have h2n : (specIsValidWatch (((specDrawEventsSince code)).1)) = false := bnot_t h2
   refine awp_seq ?_
   refine mz [(16, .b (!(specIsValidWatch (((specDrawEventsSince code)).1))))] [] [] [] ?_
   refine jn [(2, .b ((lawssameWatch (((specDrawEventsSince code)).1) (((specDrawEventsSince code)).1)) && ((implIsValidWatch (((specDrawEventsSince code)).1)) == false)))] [2, 16] [] [] (lawssameWatch (((specDrawEventsSince code)).1) (((specDrawEventsSince code)).1)) (fun h3 => ?_) (fun h3 => ?_) ?_
   ·
    refine rN tt_ok tt_mx [2, 3, 4] [3] (pc 2 (cb h3 (lawssameWatch_a (((specDrawEventsSince code)).1) (((specDrawEventsSince code)).1))) (pc 5 (implIsValidWatch_a (((specDrawEventsSince code)).1) (by omega)) (pc 7 (cb h2n (specIsValidWatch_a (((specDrawEventsSince code)).1) (by omega))) p0))) ?_
    exact ⟨rfl, weak_fit (by rw [h3]; first | done | kernel_rfl)⟩
   ·
    refine rU tt_ok tt_mx [] [16] [] [] (pc 2 (cb h3 (lawssameWatch_a (((specDrawEventsSince code)).1) (((specDrawEventsSince code)).1))) p0) ?_
    exact ⟨rfl, weak_fit (by rw [h3]; first | done | kernel_rfl)⟩
   refine awp_ret ?_
   exact pb [] (bif_f h1 (bif_t h2 (rfl)))
  ·
   have h2n : (specIsValidWatch (((specDrawEventsSince code)).1)) = true := bnot_f h2
   refine awp_skip ?_
   refine tn tt_ok [2, 3, 4, 5] [3] (p0) ?_
   refine awp_seq ?_
   refine tu tt_ok [(5, .one (.slc (.own true 1728) 3 [])), (6, .i 0)] [] [] [] (p0) ?_
   refine wB 3 3 (.own true 705) ((((specDrawEventsSince code)).1).2.2.2) (fun hw4 hl5 => ?_)
   refine blL3b (lawsFnWatchParts_f0 code) lawsFnWatchParts_e0 ((((specDrawEventsSince code)).1).2.2.2) [] (fun k0 s0 => [(5, .q 147203 s0), (6, .i ((k0 : Nat) : Int))]) [5, 6] (fun _ _ => [(3, [.i ((((specDrawEventsSince code)).1).1), .s ((((specDrawEventsSince code)).1).2.1), .o 704 ((((specDrawEventsSince code)).1).2.2.1), .h ((((specDrawEventsSince code)).1).2.2.2)])]) [3] (fun y0 => [(5, .q 147353 y0)]) [5, 6] (fun _ => [(3, [.i ((((specDrawEventsSince code)).1).1), .s ((((specDrawEventsSince code)).1).2.1), .o 704 ((((specDrawEventsSince code)).1).2.2.1), .h ((((specDrawEventsSince code)).1).2.2.2)])]) [3] (fun k0 s0 => List.length s0 ≤ k0 ∧ GoD.size s0 ≤ GoD.size (List.take k0 (((specDrawEventsSince code)).1).2.2.2)) (fun y0 => GoD.size y0 ≤ GoD.size (((specDrawEventsSince code)).1).2.2.2) (weak_gf [] [705] [1728] [(1728, 147203)] (by kernel_rfl)) ⟨(by simp), (by exact Nat.le_refl _)⟩ (fun k0 s0 hk0 hI0 => ?_) (fun k0 s0 hk0 hI0 => ?_) (fun y0 hD0 => ?_)
   ·
    have hA0_0 := hI0.2.1
    have hA0_1 := hI0.2.2
    obtain ⟨a0, hx0⟩ := get_some (l := (((specDrawEventsSince code)).1).2.2.2) (i := k0) hk0
    have htl := size_take_le (((specDrawEventsSince code)).1).2.2.2 k0
    refine awp_seq ?_
    refine sn tt_ok [2, 3, 4, 5, 6, 32] [3] (pl 3 ((((specDrawEventsSince code)).1).2.2.2) (pe 4 (av_bool (decide_eq_true (p := ((k0 : Nat) : Int) < (((((specDrawEventsSince code)).1).2.2.2).length : Int)) (by omega))) p0)) ?_
    refine ckT ?_
    refine awp_skip ?_
    refine awp_seq ?_
    refine awp_block ?_
    refine tn tt_ok [2, 3, 4, 5, 6, 42] [3] (pn 3 hx0 p0) ?_
    refine ck (decide (a0.1 ≤ ((specDrawEventsSince code)).2)) (fun h6 => ?_) (fun h6 => ?_)
    ·
     have h6d := of_decide_eq_true h6
     refine wT 5 0 (.own false 147203) s0 (fun hw7 hl8 => ?_)
     refine qu tt_ok [(5, .one (.slc (.own false 3200) 3 ((eL s0) ++ [[.i a0.1, .h a0.2.1, .h a0.2.2]])))] [5] [] [] (pn 4 hx0 (pa s0 [a0] p0)) ?_
     refine eqn [(5, .q 3200 (s0 ++ [a0]))] [5] [] [] (by rw [show ((eL s0) ++ [[.i a0.1, .h a0.2.1, .h a0.2.2]]) = (eL (s0 ++ [a0])) from app_eL (rfl) (rfl)]; first | done | kernel_rfl) ?_
     refine rn tt_ok [2, 3, 4, 5, 6] [3] (pe 1 (av_i (wrap_succ k0 (by omega))) p0) ?_
     exact Exists.intro (s0 ++ [a0]) (And.intro (weak_sf [(3200, 147203)] (by kernel_rfl)) ⟨forL_next hx0 (bif_t h6 (rfl)) hI0.1, by first | omega | (simp; omega) | simp, (by first | exact (size_keep hx0 (by assumption)).1 | exact (size_keep hx0 (by assumption)).2)⟩)
    ·
     have h6d := of_decide_eq_false h6
     refine awp_skip ?_
     refine qu tt_ok [(6, .i ((k0 + 1 : Nat) : Int))] [6] [] [] (pe 1 (av_i (wrap_succ k0 (by omega))) p0) ?_
     exact Exists.intro s0 (And.intro (weak_fit (by kernel_rfl)) ⟨forL_next hx0 (bif_f h6 (rfl)) hI0.1, by first | omega | (simp; omega) | simp, (by first | exact (size_keep hx0 (by assumption)).1 | exact (size_keep hx0 (by assumption)).2)⟩)
   ·
    have hA0_0 := hI0.2.1
    have hA0_1 := hI0.2.2
    have htl := size_take_le (((specDrawEventsSince code)).1).2.2.2 k0
    refine awp_seq ?_
    refine sn tt_ok [2, 3, 4, 5, 6, 32] [3] (pl 3 ((((specDrawEventsSince code)).1).2.2.2) (pe 4 (av_bool (decide_eq_false (p := ((k0 : Nat) : Int) < (((((specDrawEventsSince code)).1).2.2.2).length : Int)) (by omega))) p0)) ?_
    refine ckF ?_
    refine awp_exit ?_
    exact Exists.intro s0 (And.intro (weak_sf [(147203, 147353)] (by kernel_rfl)) ⟨forL_end hk0 (rfl) hI0.1, by first | omega | (simp only [List.length_set]; omega)⟩)
   ·
    have hD0_0 := hD0.2
    refine awp_seq ?_
    refine jn [(2, .b ((lawssameInts (implReplayEvents (implReplayEvents ((((specDrawEventsSince code)).1).2.2.1) y0) (implEventsSince (((specDrawEventsSince code)).1) (((specDrawEventsSince code)).2))) (implWatchListing (((specDrawEventsSince code)).1))) && (IntKind.i64.wrap ((y0.length : Int) + ((implEventsSince (((specDrawEventsSince code)).1) (((specDrawEventsSince code)).2)).length : Int)) == (((((specDrawEventsSince code)).1).2.2.2).length : Int))))] [2, 3, 4, 5] [] [3] (lawssameInts (implReplayEvents (implReplayEvents ((((specDrawEventsSince code)).1).2.2.1) y0) (implEventsSince (((specDrawEventsSince code)).1) (((specDrawEventsSince code)).2))) (implWatchListing (((specDrawEventsSince code)).1))) (fun h9 => ?_) (fun h9 => ?_) ?_
    ·
     refine rN tt_ok tt_mx [2] [] (pc 3 (implReplayEvents_a ((((specDrawEventsSince code)).1).2.2.1) y0 (by have hz := watch_size (((specDrawEventsSince code)).1); omega)) (pc 6 (implEventsSince_a (((specDrawEventsSince code)).1) (((specDrawEventsSince code)).2)) (pc 7 (implReplayEvents_a (implReplayEvents ((((specDrawEventsSince code)).1).2.2.1) y0) (implEventsSince (((specDrawEventsSince code)).1) (((specDrawEventsSince code)).2)) (wp_room2 hds hD0_0)) (pc 9 (implWatchListing_a (((specDrawEventsSince code)).1) (by first | omega | (rw [l29Copy_id]; omega) | exact Nat.le_trans (findWatch_size x i) hp | exact Nat.le_trans (findWatch_sizeS x i) hp)) (pc 10 (cb h9 (lawssameInts_a (implReplayEvents (implReplayEvents ((((specDrawEventsSince code)).1).2.2.1) y0) (implEventsSince (((specDrawEventsSince code)).1) (((specDrawEventsSince code)).2))) (implWatchListing (((specDrawEventsSince code)).1)))) (pl 13 y0 (pc 16 (implEventsSince_a (((specDrawEventsSince code)).1) (((specDrawEventsSince code)).2)) (pl 17 (implEventsSince (((specDrawEventsSince code)).1) (((specDrawEventsSince code)).2)) (pl 21 ((((specDrawEventsSince code)).1).2.2.2) p0))))))))) ?_
     exact ⟨rfl, weak_fit (by rw [h9]; first | done | kernel_rfl)⟩
    ·
     refine rN tt_ok tt_mx [2] [] (pc 3 (implReplayEvents_a ((((specDrawEventsSince code)).1).2.2.1) y0 (by have hz := watch_size (((specDrawEventsSince code)).1); omega)) (pc 6 (implEventsSince_a (((specDrawEventsSince code)).1) (((specDrawEventsSince code)).2)) (pc 7 (implReplayEvents_a (implReplayEvents ((((specDrawEventsSince code)).1).2.2.1) y0) (implEventsSince (((specDrawEventsSince code)).1) (((specDrawEventsSince code)).2)) (wp_room2 hds hD0_0)) (pc 9 (implWatchListing_a (((specDrawEventsSince code)).1) (by first | omega | (rw [l29Copy_id]; omega) | exact Nat.le_trans (findWatch_size x i) hp | exact Nat.le_trans (findWatch_sizeS x i) hp)) (pc 10 (cb h9 (lawssameInts_a (implReplayEvents (implReplayEvents ((((specDrawEventsSince code)).1).2.2.1) y0) (implEventsSince (((specDrawEventsSince code)).1) (((specDrawEventsSince code)).2))) (implWatchListing (((specDrawEventsSince code)).1)))) p0))))) ?_
     exact ⟨rfl, weak_fit (by rw [h9]; first | done | kernel_rfl)⟩
    refine awp_ret ?_
    exact pb [] (bif_f h1 (bif_f h2 (on_b hD0.1 (rfl))))
end Go.Proofs.YtcnkkobgogmakaaGreat
namespace Go.Proofs.YtcnkkobgogmakaaGreat
open Go.RowKit
theorem replay_fold : ∀ (l : List EventD) (k : Nat) (s : List Int), forL implReplayEvents_f0 implReplayEvents_e0 l k s = .brk (l.foldl (fun s a => implreplayed s a.2.1 a.2.2) s)
  | [], k, s => rfl
  | a :: l, k, s => by
    simp only [forL, implReplayEvents_f0, List.foldl_cons]
    exact replay_fold l (k + 1) _
theorem replay_is (s : List Int) (l : List EventD) : implReplayEvents s l = l.foldl (fun s a => implreplayed s a.2.1 a.2.2) s := by
  unfold implReplayEvents
  rw [replay_fold]
  rfl
theorem replay_app (s : List Int) (l m : List EventD) : implReplayEvents s (l ++ m) = implReplayEvents (implReplayEvents s l) m := by
  rw [replay_is, replay_is, replay_is, List.foldl_append]
def bef (w : WatchD) (k : Nat) : List Int := implReplayEvents w.2.2.1 (List.take k w.2.2.2)
theorem bef_next {w : WatchD} {k : Nat} {a : EventD} (h : w.2.2.2[k]? = some a) : specReplayEvents (bef w k) [a] = bef w (k + 1) := by
  unfold bef
  rw [replay_eq, List.take_add_one, h, replay_app]
  rfl
structure PW (w : WatchD) (k : Nat) (a : EventD) : Prop where
  a1 : specl17Rise a.2.1 = true
  a2 : specl17Rise a.2.2 = true
  a3 : (IntKind.i64.wrap ((a.2.1.length : Int) + (a.2.2.length : Int)) == (0 : Int)) = false
  a4 : (decide (((k : Nat) : Int) > (0 : Int)) && decide ((nth w.2.2.2 (Int.toNat (((k : Nat) : Int) - 1))).1 ≥ a.1)) = false
  a5 : ∀ x, x ∈ a.2.1 → specContainsID (bef w k) x = false
  a6 : ∀ x, x ∈ a.2.2 → specContainsID (bef w k) x = true
theorem vw_spec {w : WatchD} (hu : specl01In w.1 0 2 = true) (hi : specl17Rise w.2.2.1 = true) (h : ∀ (k : Nat) (a : EventD), w.2.2.2[k]? = some a → PW w k a) : specIsValidWatch w = true := by
  have key : ∀ (l : List EventD) (k : Nat), w.2.2.2.drop k = l → forL (specIsValidWatch_f0 w) specIsValidWatch_e0 l k (bef w k) = .brk () := by
    intro l
    induction l with
    | nil => intro k _; rfl
    | cons a l ih =>
      intro k hk
      have ha : w.2.2.2[k]? = some a := by
        have := congrArg (·[0]?) hk
        simpa using this
      have p := h k a ha
      have hrest : w.2.2.2.drop (k + 1) = l := by rw [← List.drop_drop, hk]; rfl
      have h1 : forL (specIsValidWatch_f1 (bef w k)) specIsValidWatch_e1 a.2.1 0 () = .brk () := forL_of_all a.2.1 0 fun i x hx => by
        unfold specIsValidWatch_f1
        rw [p.a5 x (List.mem_of_getElem? hx)]
        rfl
      have h2 : forL (specIsValidWatch_f2 (bef w k)) specIsValidWatch_e2 a.2.2 0 () = .brk () := forL_of_all a.2.2 0 fun i x hx => by
        unfold specIsValidWatch_f2
        rw [p.a6 x (List.mem_of_getElem? hx)]
        rfl
      have hf : specIsValidWatch_f0 w k a (bef w k) = .next (bef w (k + 1)) := by
        unfold specIsValidWatch_f0
        rw [p.a1, p.a2, p.a3, p.a4, h1, h2, bef_next ha]
        rfl
      simp only [forL, hf]
      exact ih (k + 1) hrest
  have h0 : bef w 0 = w.2.2.1 := rfl
  unfold specIsValidWatch
  rw [← h0, key w.2.2.2 0 rfl]
  simp only [Out.on, hu, h0, hi, Bool.and_self]
theorem len_less {a b : List Int} (h : (((less a b).length : Int) != (a.length : Int)) = false) : ∀ x, x ∈ a → b.contains x = false := by
  have h : (less a b).length = a.length := by have := eq_of_bne h; omega
  intro x hx
  have h2 := List.length_filter_eq_length_iff.1 (show (a.filter _).length = a.length from h) x hx
  simpa using h2
theorem none_less {a b : List Int} (h : (((less a b).length : Int) != (0 : Int)) = false) : ∀ x, x ∈ a → b.contains x = true := by
  have h : (less a b).length = 0 := by have := eq_of_bne h; omega
  intro x hx
  have h2 := List.filter_eq_nil_iff.1 (List.length_eq_zero_iff.1 (show (a.filter _).length = 0 from h)) x hx
  simpa using h2
theorem vw_impl {w : WatchD} (h : implIsValidWatch w = true) : specIsValidWatch w = true := by
  unfold implIsValidWatch at h
  cases hc : ((!(implisUser w.1)) || (!(implisAscending w.2.2.1))) with
  | true => rw [hc] at h; simp at h
  | false =>
    rw [hc] at h
    simp only [cond_false] at h
    have hu : implisUser w.1 = true := bnot_f (or_l hc)
    have hi : implisAscending w.2.2.1 = true := bnot_f (or_r hc)
    cases hl : forL (implIsValidWatch_f0 w) implIsValidWatch_e0 w.2.2.2 0 () with
    | ret r =>
      rw [hl] at h
      obtain rfl : r = true := h
      exfalso
      have key : ∀ (l : List EventD) k, forL (implIsValidWatch_f0 w) implIsValidWatch_e0 l k () ≠ .ret true := by
        intro l
        induction l with
        | nil => intro k h; simp [forL] at h
        | cons a l ih =>
          intro k h
          simp only [forL] at h
          unfold implIsValidWatch_f0 at h
          split at h
          · exact ih _ h
          · cases h
          · rename_i r hf; cases h; revert hf; generalize (_ || _ : Bool) = c; cases c <;> simp
      exact key _ _ hl
    | brk t =>
      have hall := forL_all (fun k a t => by unfold implIsValidWatch_f0; generalize (_ || _ : Bool) = c; cases c <;> simp) hl
      refine vw_spec ?_ hi fun k a ha => ?_
      · rw [← within_in]; exact hu
      · have hk := hall k a ha
        rw [Nat.zero_add] at hk
        unfold implIsValidWatch_f0 at hk
        generalize hC : ((!(implisAscending a.2.1)) || _ : Bool) = C at hk
        cases C with
        | true => simp at hk
        | false =>
          have c1 := or_l hC
          have c2 := or_l (or_r hC)
          have c3 := or_l (or_r (or_r hC))
          have c4 := or_r (or_r (or_r hC))
          have hb : bef w k = implReplayEvents w.2.2.1 (List.take k w.2.2.2) := rfl
          rw [← hb] at c4
          by_cases h0 : ((k : Nat) : Int) > 0
          · rw [decide_eq_true h0] at c4
            simp only [cond_true] at c4
            exact ⟨bnot_f c1, bnot_f c2, c3, by rw [or_l c4, Bool.and_false], fun x hx => by rw [cidS_eq]; exact len_less (or_l (or_r c4)) x hx, fun x hx => by rw [cidS_eq]; exact none_less (or_r (or_r c4)) x hx⟩
          · rw [decide_eq_false h0] at c4
            simp only [cond_false] at c4
            exact ⟨bnot_f c1, bnot_f c2, c3, by rw [decide_eq_false h0, Bool.false_and], fun x hx => by rw [cidS_eq]; exact len_less (or_l c4) x hx, fun x hx => by rw [cidS_eq]; exact none_less (or_r c4) x hx⟩
theorem forL_retv {α R S T : Type} {f : Nat → α → S → Rd R S T} {e : Nat → S → T} {v : R} (hf : ∀ k a s r, f k a s = .ret r → r = v) : ∀ (l : List α) (k : Nat) (s : S) (r : R), forL f e l k s = .ret r → r = v
  | [], k, s, r, h => by simp [forL] at h
  | a :: l, k, s, r, h => by
    simp only [forL] at h
    cases hs : f k a s with
    | next s' => rw [hs] at h; exact forL_retv hf l (k + 1) s' r h
    | brk t => rw [hs] at h; cases h
    | ret r' =>
      rw [hs] at h
      obtain rfl : r' = r := by simpa using h
      exact hf k a s r' hs
theorem vw_f0 (w : WatchD) (k : Nat) (a : EventD) (s : List Int) : specIsValidWatch_f0 w k a s = .ret false ∨ ∃ s', specIsValidWatch_f0 w k a s = .next s' ∧ (decide (((k : Nat) : Int) > (0 : Int)) && decide ((nth w.2.2.2 (Int.toNat (((k : Nat) : Int) - 1))).1 ≥ a.1)) = false := by
  unfold specIsValidWatch_f0
  generalize hC : ((IntKind.i64.wrap ((a.2.1.length : Int) + (a.2.2.length : Int)) == (0 : Int)) || _ : Bool) = C
  cases C with
  | true => exact .inl rfl
  | false =>
    simp only [cond_false]
    cases h1 : forL (specIsValidWatch_f1 s) specIsValidWatch_e1 a.2.1 0 () with
    | ret r =>
      left
      obtain rfl := forL_retv (v := .ret false) (fun k a t r => by
        unfold specIsValidWatch_f1
        cases specContainsID s a with
        | true => intro h; exact (Rd.ret.inj h).symm
        | false => intro h; cases h) _ _ _ _ h1
      rfl
    | brk t =>
      simp only [Out.on]
      cases h2 : forL (specIsValidWatch_f2 s) specIsValidWatch_e2 a.2.2 0 () with
      | ret r =>
        left
        obtain rfl := forL_retv (v := .ret false) (fun k a t r => by
          unfold specIsValidWatch_f2
          cases specContainsID s a with
          | false => intro h; exact (Rd.ret.inj h).symm
          | true => intro h; cases h) _ _ _ _ h2
        rfl
      | brk t => exact .inr ⟨_, rfl, or_r (or_r (or_r hC))⟩
theorem vw_rise {w : WatchD} (h : specIsValidWatch w = true) : ∀ (k : Nat) (a : EventD), w.2.2.2[k]? = some a → (decide (((k : Nat) : Int) > (0 : Int)) && decide ((nth w.2.2.2 (Int.toNat (((k : Nat) : Int) - 1))).1 ≥ a.1)) = false := by
  have key : ∀ (l : List EventD) (k : Nat) (s : List Int), forL (specIsValidWatch_f0 w) specIsValidWatch_e0 l k s = .ret false ∨ (∀ (i : Nat) (a : EventD), l[i]? = some a → (decide (((k + i : Nat) : Int) > (0 : Int)) && decide ((nth w.2.2.2 (Int.toNat (((k + i : Nat) : Int) - 1))).1 ≥ a.1)) = false) := by
    intro l
    induction l with
    | nil => intro k s; exact .inr fun i a h => by simp at h
    | cons a l ih =>
      intro k s
      rcases vw_f0 w k a s with hf | ⟨s', hf, hc⟩
      · left; simp only [forL, hf]
      · rcases ih (k + 1) s' with h1 | h1
        · left; simp only [forL, hf]; exact h1
        · right
          intro i b hb
          cases i with
          | zero =>
            obtain rfl : a = b := by simpa using hb
            exact hc
          | succ i =>
            have := h1 i b (by simpa using hb)
            rwa [show k + 1 + i = k + (i + 1) by omega] at this
  unfold specIsValidWatch at h
  intro k a ha
  rcases key w.2.2.2 0 w.2.2.1 with h1 | h1
  · rw [h1] at h; cases h
  · have := h1 k a ha
    rwa [Nat.zero_add] at this
theorem split_rise (v : Int) : ∀ (l : List EventD), l.Pairwise (fun a b => a.1 < b.1) → l.filter (fun a => decide (a.1 ≤ v)) ++ l.filter (fun a => decide (a.1 > v)) = l
  | [], _ => rfl
  | a :: l, h => by
    obtain ⟨h1, h2⟩ := List.pairwise_cons.1 h
    by_cases hv : a.1 ≤ v
    · rw [List.filter_cons_of_pos (by simpa using hv), List.filter_cons_of_neg (by simp; omega), List.cons_append, split_rise v l h2]
    · rw [List.filter_cons_of_neg (by simpa using hv), List.filter_cons_of_pos (by simp; omega)]
      have e1 : l.filter (fun a => decide (a.1 ≤ v)) = [] := List.filter_eq_nil_iff.2 fun b hb => by have := h1 b hb; simp; omega
      have e2 : l.filter (fun a => decide (a.1 > v)) = l := List.filter_eq_self.2 fun b hb => by have := h1 b hb; simp; omega
      rw [e1, e2]
      rfl
theorem pair_rise {l : List EventD} (h : ∀ (i : Nat) (a b : EventD), l[i]? = some a → l[i+1]? = some b → a.1 < b.1) : l.Pairwise (fun a b => a.1 < b.1) := by
  rw [List.pairwise_iff_getElem]
  have key : ∀ (d i : Nat) (hi : i < l.length) (hj : i + d + 1 < l.length), l[i].1 < l[i + d + 1].1 := by
    intro d
    induction d with
    | zero => intro i hi hj; exact h i _ _ (List.getElem?_eq_getElem hi) (List.getElem?_eq_getElem hj)
    | succ d ih =>
      intro i hi hj
      have h1 := ih i hi (by omega)
      have h2 := h (i + d + 1) _ _ (List.getElem?_eq_getElem (by omega)) (List.getElem?_eq_getElem hj)
      exact Int.lt_trans h1 h2
  intro i j hi hj hij
  have h1 := key (j - i - 1) i hi (by omega)
  have e : i + (j - i - 1) + 1 = j := by omega
  simp only [e] at h1
  exact h1
theorem sameInts_self (l : List Int) : lawssameInts l l = true := by
  unfold lawssameInts
  rw [forL_of_all l 0 (fun i a hi => by
    unfold lawssameInts_f0
    rw [Nat.zero_add, nth_of hi]
    simp)]
  simp [Out.on]
theorem sameEvents_self (l : List EventD) : lawssameEvents l l = true := by
  unfold lawssameEvents
  rw [forL_of_all l 0 (fun i a hi => by
    unfold lawssameEvents_f0 lawssameEvent
    rw [Nat.zero_add, nth_of hi, sameInts_self, sameInts_self]
    simp)]
  simp [Out.on]
theorem sameWatch_self (w : WatchD) : lawssameWatch w w = true := by
  unfold lawssameWatch
  rw [sameInts_self, sameEvents_self]
  simp
theorem lawsFnWatchParts_true (code : List UInt8) : lawsFnWatchParts code = true := by
  unfold lawsFnWatchParts
  cases lawsbig code with
  | true => rfl
  | false =>
    simp only [cond_false]
    have hsz := drawEvents_size code
    have hf : ∀ l : List EventD, forL (lawsFnWatchParts_f0 code) lawsFnWatchParts_e0 l 0 [] = .brk (l.filter fun a => decide (a.1 ≤ (specDrawEventsSince code).2)) := fun l => by
      rw [forL_filter (f := lawsFnWatchParts_f0 code) (e := lawsFnWatchParts_e0) (p := fun a : EventD => decide (a.1 ≤ (specDrawEventsSince code).2)) (g := fun a => a) (fun _ _ _ => rfl), List.map_id']
      rfl
    generalize (specDrawEventsSince code).2 = v at hf ⊢
    generalize (specDrawEventsSince code).1 = w at hsz
    have hlen := sz_events w
    cases hv : specIsValidWatch w with
    | false =>
      have hi : implIsValidWatch w = false := by
        cases hi : implIsValidWatch w with
        | false => rfl
        | true => rw [vw_impl hi] at hv; cases hv
      simp only [Bool.not_false, cond_true, sameWatch_self, hi]
      rfl
    | true =>
      simp only [Bool.not_true, cond_false]
      have hr := vw_rise hv
      have hp : w.2.2.2.Pairwise (fun a b => a.1 < b.1) := pair_rise fun i a b ha hb => by
        have h1 := hr (i + 1) b hb
        rw [decide_eq_true (show ((i + 1 : Nat) : Int) > 0 by omega), Bool.true_and, show Int.toNat (((i + 1 : Nat) : Int) - 1) = i by omega, nth_of ha] at h1
        have := of_decide_eq_false h1
        omega
      have hs := split_rise v w.2.2.2 hp
      rw [hf, since_eq]
      simp only [Out.on]
      have e1 : implReplayEvents (implReplayEvents w.2.2.1 (w.2.2.2.filter fun a => decide (a.1 ≤ v))) (w.2.2.2.filter fun a => decide (a.1 > v)) = implWatchListing w := by
        rw [← replay_app, hs]
        rfl
      rw [e1, sameInts_self, Bool.true_and]
      have e2 : (w.2.2.2.filter fun a => decide (a.1 ≤ v)).length + (w.2.2.2.filter fun a => decide (a.1 > v)).length = w.2.2.2.length := by rw [← List.length_append, hs]
      rw [IntWalk.i64_in _ (show _ ∧ _ by omega), beq_iff_eq]
      omega
end Go.Proofs.YtcnkkobgogmakaaGreat
namespace Go.Proofs.YtcnkkobgogmakaaGreat
open Go.RowKit
open GoD (rd own)
theorem bigWatchParts (w : World) (v : Value) (a : List UInt8) (h : rd w [v] a) (hbig : ¬ a.length ≤ 1048576) : Calls Tryz.prog 4 #[v] w (Ret w (.bool true)) := by
  obtain ⟨oa, cap, rfl⟩ := slice_of_rd h
  have hln := len_of_rd h
  clear h
  have hbi : 1048576 < (a.length : Int) := by omega
  go_enter Tryz.func4, Tryz.ntmps4
  go_wp2_with (first | (go_at_call 8; go_in))
  go_ret
  exact ⟨rfl, by go_grown⟩
theorem lawWatchParts (w : World) (v : Value) (a : List UInt8) (h : rd w [v] a) : Calls Tryz.prog 4 #[v] w (Ret w (.bool true)) := by
  by_cases hbig : a.length ≤ 1048576
  · haveI : Good Tryz.prog w := Good.none (by kernel_rfl) w
    have hc := (lawsFnWatchParts_a a).run (.cons (arg_sli h ⟨by omega, fun _ _ => trivial⟩) .nil)
    rw [lawsFnWatchParts_true] at hc
    exact hc.mono fun _ _ h => ret_bool h
  · exact bigWatchParts w v a h hbig
end Go.Proofs.YtcnkkobgogmakaaGreat
