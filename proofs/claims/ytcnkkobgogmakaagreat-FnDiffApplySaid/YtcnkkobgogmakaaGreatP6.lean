/- Texts of this proof, put together by a program: Dra, Drs, Drd, Lid, Rp, Lia, Wab, Rpa, Rpb, Rpc, Rpd, Nfa, Nfb, Drn, Cue, Pla, Dda, Ddb. -/
import Derived.Test.YtcnkkobgogmakaaGreatP5
import Derived.KernelRfl
import Derived.Lib.SlicesCompact
set_option linter.unusedVariables false
set_option linter.unusedSimpArgs false
namespace Go.Proofs.YtcnkkobgogmakaaGreat
open Go.RowKit
open GoE (enc wide)
def specl01Once (code : (List UInt8)) (ci : Nat) (ch : Int) (n : Int) : Bool × Nat × Int := (lt (α := Int × Nat × Int) (specl01Below code ci ch n) (fun x1 => ((x1.1 == (0 : Int)), x1.2.1, x1.2.2)))
theorem specl01Once_a (code : (List UInt8)) (ci : Nat) (ch : Int) (n : Int) : AGive Tryz.prog 114 [.h code, .i ((ci : Nat) : Int), .i ch] [.i n] (.b (((specl01Once code ci ch n)).1)) [.h code, .i ((((specl01Once code ci ch n)).2.1 : Nat) : Int), .i (((specl01Once code ci ch n)).2.2)] := by
 refine agive_of (tt := tt) tt_ok Tryz.func114 (fn := Tryz.f114) rfl (by unfold FnOk; kernel_rfl) (Nat.le_of_ble_eq_true rfl) (Nat.le_of_ble_eq_true rfl) rfl rfl fun w0 F0 hG => ?_
 refine sn tt_ok [0, 1, 4] [60000] (p0) ?_
 obtain ⟨x1, hx1⟩ : ∃ z : Int × Nat × Int, specl01Below code ci ch n = z := ⟨_, rfl⟩
 have hbx1 := hx1 ▸ specl01Below_bd code ci ch n
 refine tn tt_ok [0, 4] [60000] (po 2 (.give none (.i x1.1) [.h code, .i ((x1.2.1 : Nat) : Int), .i x1.2.2]) (px (ob_give (hx1 ▸ specl01Below_a code ci ch n)) p0)) ?_
 refine awp_ret ?_
 have hE2 : specl01Once code ci ch n = ((x1.1 == (0 : Int)), x1.2.1, x1.2.2) := lt_b hx1 (rfl)
 exact gret [] (congrArg (fun z => (.b z.1 : AV)) hE2.symm) (congrArg (fun z => ([.h code, .i ((z.2.1 : Nat) : Int), .i z.2.2] : List C)) hE2.symm)
def specIntValue (n : Int) : ValueD := (1, n, ⟨#[]⟩)
theorem specIntValue_a (n : Int) : ACalls Tryz.prog 10 [.i n] (.a [.i ((specIntValue n).1), .i ((specIntValue n).2.1), .s ((specIntValue n).2.2)]) := by
 refine en tt_ok Tryz.func10 fun w0 F0 hG => ?_
 refine sn tt_ok [0, 2] [2] (p0) ?_
 refine tn tt_ok [2] [2] (p0) ?_
 refine awp_ret ?_
 exact pz [] (show specIntValue n = (1, n, ⟨#[]⟩) from rfl) (fun z => .a [.i z.1, .i z.2.1, .s z.2.2])
def specSetAttr_f0 (name : ByteArray) (_ : Nat) (a0 : AttrD) (s0 : (List AttrD)) : Rd (FileD) ((List AttrD)) ((List AttrD)) := (bif (!(a0.1.toList == name.toList)) then (.next (s0 ++ [a0])) else (.next s0))
def specSetAttr_e0 (_ : Nat) (s0 : (List AttrD)) : (List AttrD) := s0
def specSetAttr_f1 (name : ByteArray) (k1 : Nat) (a1 : AttrD) (_ : Unit) : Rd (FileD) (Unit) (Int) := (bif (Op.bytesLess a1.1.toList name.toList || a1.1.toList == name.toList) then (.next ()) else (.brk ((k1 : Nat) : Int)))
def specSetAttr_e1 (k1 : Nat) (_ : Unit) : Int := ((k1 : Nat) : Int)
def specSetAttr (f : FileD) (name : ByteArray) (v : ValueD) : FileD := (Out.on (forL (specSetAttr_f0 name) specSetAttr_e0 f.2.2.2.2 0 []) (fun y0 => (bif (v.1 != (0 : Int)) then (Out.on (forL (specSetAttr_f1 name) specSetAttr_e1 y0 0 ()) (fun y1 => (f.1, f.2.1, f.2.2.1, f.2.2.2.1, List.take (Int.toNat y1) y0 ++ [(name, v)] ++ (List.drop (Int.toNat y1) y0)))) else (f.1, f.2.1, f.2.2.1, f.2.2.2.1, y0))))
theorem setAttrS_len (f : FileD) (name : ByteArray) (v : ValueD) : List.length (specSetAttr f name v).2.2.2.2 ≤ List.length f.2.2.2.2 + 1 := by
  unfold specSetAttr
  rw [forL_filter (f := specSetAttr_f0 name) (e := specSetAttr_e0) (p := fun a => !(a.1.toList == name.toList)) (g := id) (fun _ _ _ => rfl)]
  simp only [Out.on, specSetAttr_e0, List.nil_append, List.map_id]
  have hf := List.length_filter_le (fun a : AttrD => !(a.1.toList == name.toList)) f.2.2.2.2
  generalize List.filter (fun a : AttrD => !(a.1.toList == name.toList)) f.2.2.2.2 = l at hf
  cases (v.1 != (0 : Int)) with
  | false => exact Nat.le_succ_of_le hf
  | true =>
    simp only [cond_true]
    obtain ⟨t, ht⟩ := forL_noret (f := specSetAttr_f1 name) (e := specSetAttr_e1) (fun k a s r => by
      unfold specSetAttr_f1
      generalize (Op.bytesLess a.1.toList name.toList || a.1.toList == name.toList) = c
      cases c <;> simp) l 0 ()
    rw [ht]
    · show (List.take (Int.toNat t) l ++ [(name, v)] ++ List.drop (Int.toNat t) l).length ≤ _
      simp
      omega
theorem join_attr {c : Bool} {α : Type} {t : α} {F : FileD} {nm : ByteArray} {V : α → ValueD} {A : α → Nat × Int} {B : Nat × Int} : List.length (bif c then lt t (fun x => (specSetAttr F nm (V x), A x)) else (F, B)).1.2.2.2.2 ≤ F.2.2.2.2.length + 1 := by
 cases c with
 | true => exact setAttrS_len _ _ _
 | false => exact Nat.le_succ _
theorem specSetAttr_a (f : FileD) (name : ByteArray) (v : ValueD) (hp : List.length f.2.2.2.2 ≤ 1073741000) : ACalls Tryz.prog 13 [.a [.i f.1, .i f.2.1, .b f.2.2.1, .i f.2.2.2.1, .h f.2.2.2.2], .s name, .a [.i v.1, .i v.2.1, .s v.2.2]] (.a [.i ((specSetAttr f name v).1), .i ((specSetAttr f name v).2.1), .b ((specSetAttr f name v).2.2.1), .i ((specSetAttr f name v).2.2.2.1), .o 0 ((specSetAttr f name v).2.2.2.2)]) := by
 refine en tt_ok Tryz.func13 fun w0 F0 hG => ?_
 refine sn tt_ok [1, 3, 5, 6] [3, 5, 6] (p0) ?_
 refine tn tt_ok [1, 3, 5, 6, 7] [3, 5, 6] (p0) ?_
 refine awp_seq ?_
 refine tu tt_ok [(3, .p 3 0), (5, .p 5 0), (6, .p 6 0), (7, .one (.slc (.own true 704) 4 [])), (8, .i 0)] [0, 2] [(3, [.i f.1, .i f.2.1, .b f.2.2.1, .i f.2.2.2.1, .h f.2.2.2.2]), (5, [.i v.1, .i v.2.1, .s v.2.2]), (6, [.i 0, .i 0, .b false, .i 0, .e 4])] [] (p0) ?_
 refine wB 3 4 .sh f.2.2.2.2 (fun hw1 hl2 => ?_)
 refine blL3 (specSetAttr_f0 name) specSetAttr_e0 f.2.2.2.2 [] (fun k0 s0 => [(7, .o 147204 s0), (8, .i ((k0 : Nat) : Int))]) [7, 8] (fun y0 => [(7, .o 147354 y0)]) [7, 8] (fun k0 s0 => List.length s0 ≤ k0) (fun y0 => List.length y0 ≤ List.length f.2.2.2.2) (weak_sf [(704, 147204)] (by kernel_rfl)) (by simp) (fun k0 s0 hk0 hI0 => ?_) (fun k0 s0 hk0 hI0 => ?_) (fun y0 hD0 => ?_)
 ·
  have hA0_0 := hI0.2
  obtain ⟨a0, hx0⟩ := get_some (l := f.2.2.2.2) (i := k0) hk0
  refine awp_seq ?_
  refine su tt_ok [(16, .b true)] [] [] [] (pl 3 f.2.2.2.2 (pe 4 (av_bool (decide_eq_true (p := ((k0 : Nat) : Int) < (f.2.2.2.2.length : Int)) (by omega))) p0)) ?_
  refine ckT ?_
  refine awp_skip ?_
  refine awp_seq ?_
  refine awp_block ?_
  refine sn tt_ok [1, 3, 5, 6, 7, 8, 26] [3, 5, 6] (pn 3 hx0 p0) ?_
  refine ck (!(a0.1.toList == name.toList)) (fun h3 => ?_) (fun h3 => ?_)
  ·
   refine wT 7 0 (.own true 147204) s0 (fun hw4 hl5 => ?_)
   refine qu tt_ok [(7, .one (.slc (.own true 2176) 4 ((eL s0) ++ [[.s a0.1, .i a0.2.1, .i a0.2.2.1, .s a0.2.2.2]])))] [7, 16] [] [] (pn 4 hx0 (pa s0 [a0] p0)) ?_
   refine eqn [(7, .o 2176 (s0 ++ [a0]))] [7] [] [] (by rw [show ((eL s0) ++ [[.s a0.1, .i a0.2.1, .i a0.2.2.1, .s a0.2.2.2]]) = (eL (s0 ++ [a0])) from app_eL (rfl) (rfl)]; first | done | kernel_rfl) ?_
   refine rn tt_ok [1, 3, 5, 6, 7, 8] [3, 5, 6] (pe 1 (av_i (wrap_succ k0 (by omega))) p0) ?_
   exact Exists.intro (s0 ++ [a0]) (And.intro (weak_sf [(2176, 147204)] (by kernel_rfl)) ⟨forL_next hx0 (bif_t h3 (rfl)) hI0.1, by first | omega | (simp; omega) | simp⟩)
  ·
   refine awp_skip ?_
   refine qn tt_ok [1, 3, 5, 6, 7, 8] [3, 5, 6] (pe 1 (av_i (wrap_succ k0 (by omega))) p0) ?_
   exact Exists.intro s0 (And.intro (weak_fit (by kernel_rfl)) ⟨forL_next hx0 (bif_f h3 (rfl)) hI0.1, by first | omega | (simp; omega) | simp⟩)
 ·
  have hA0_0 := hI0.2
  refine awp_seq ?_
  refine su tt_ok [(16, .b false)] [] [] [] (pl 3 f.2.2.2.2 (pe 4 (av_bool (decide_eq_false (p := ((k0 : Nat) : Int) < (f.2.2.2.2.length : Int)) (by omega))) p0)) ?_
  refine ckF ?_
  refine awp_exit ?_
  exact Exists.intro s0 (And.intro (weak_sf [(147204, 147354)] (by kernel_rfl)) ⟨forL_end hk0 (rfl) hI0.1, by first | omega | (simp only [List.length_set]; omega)⟩)
 ·
  have hD0_0 := hD0.2
  refine awp_seq ?_
  refine sn tt_ok [1, 3, 5, 6, 7, 37] [3, 5, 6] (p0) ?_
  refine ck (v.1 != (0 : Int)) (fun h6 => ?_) (fun h6 => ?_)
  ·
   have h6d := ne_of_bne h6
   refine tu tt_ok [(9, .i 0)] [] [] [] (p0) ?_
   refine awp_seq ?_
   refine wT 7 0 (.own true 147354) y0 (fun hw7 hl8 => ?_)
   refine blL2 (specSetAttr_f1 name) specSetAttr_e1 y0 () (fun k1 _ => [(9, .i ((k1 : Nat) : Int))]) [9] (fun y1 => [(9, .i y1)]) [9] (fun y1 => 0 ≤ y1 ∧ y1 ≤ (y0.length : Int)) (weak_fit (by kernel_rfl)) (fun k1 s1 hk1 hI1 => ?_) (fun k1 s1 hk1 hI1 => ?_) (fun y1 hD1 => ?_)
   ·
    obtain ⟨a1, hx1⟩ := get_some (l := y0) (i := k1) hk1
    refine awp_seq ?_
    refine sn tt_ok [1, 3, 5, 6, 7, 9, 50] [3, 5, 6] (pl 2 y0 (pe 3 (av_bool (decide_eq_true (p := ((k1 : Nat) : Int) < (y0.length : Int)) (by omega))) (pN 7 hx1 p0))) ?_
    refine ck (Op.bytesLess a1.1.toList name.toList || a1.1.toList == name.toList) (fun h9 => ?_) (fun h9 => ?_)
    ·
     refine awp_skip ?_
     refine awp_block ?_
     refine qn tt_ok [1, 3, 5, 6, 7, 9] [3, 5, 6] (pe 1 (av_i (wrap_succ k1 (by omega))) p0) ?_
     exact Exists.intro _ (And.intro (weak_fit (by kernel_rfl)) (forL_next hx1 (bif_t h9 (rfl)) hI1))
    ·
     refine awp_exit ?_
     exact Exists.intro ((k1 : Nat) : Int) (And.intro (weak_fit (by kernel_rfl)) ⟨forL_brk hx1 (bif_f h9 (rfl)) hI1, by first | omega | (simp only [List.length_set]; omega)⟩)
   ·
    refine awp_seq ?_
    refine su tt_ok [(50, .b false)] [] [] [] (pl 2 y0 (pe 3 (av_bool (decide_eq_false (p := ((k1 : Nat) : Int) < (y0.length : Int)) (by omega))) p0)) ?_
    refine ckF ?_
    refine awp_exit ?_
    exact Exists.intro ((k1 : Nat) : Int) (And.intro (weak_fit (by kernel_rfl)) ⟨forL_end hk1 (rfl) hI1, by first | omega | (simp only [List.length_set]; omega)⟩)
   ·
    have hD1_0 := hD1.2
    have hl10 : List.length (List.take (Int.toNat y1) y0) ≤ 1073741824 := wide_len (wide_take (Int.toNat y1) (hw7))
    refine sU tt_ok tt_mx [(10, .one (.slc (.own true 3968) 4 (([] ++ (eL (List.take (Int.toNat y1) y0))) ++ [[.s name, .i v.1, .i v.2.1, .s v.2.2]])))] [1, 5] [] [5] (pe 3 (av_take (.vw 147354) 4 (Int.toNat y1) y1 y0 rfl) (px (ob_rng (lo := 0) (hi := y1) (n := (List.length (eL y0))) (rng_of (by omega) (by omega) (by omega))) (po 4 (.flat) (px (ob_len (n := (([] : List (List PV)).length + ((eL (List.take (Int.toNat y1) y0)) : List (List PV)).length)) (len_of (rfl) (eL_length (List.take (Int.toNat y1) y0)) (by first | omega | (simp only [List.length_cons, List.length_nil]; omega) | (simp; omega) | simp))) (px (ob_flat (flat_eL (List.take (Int.toNat y1) y0))) (px (ob_len (n := ((([] ++ (eL (List.take (Int.toNat y1) y0))) : List (List PV)).length + ([[.s name, .i v.1, .i v.2.1, .s v.2.2]] : List (List PV)).length)) (by simp [eL_length]; omega)) p0)))))) ?_
    refine eqn [(10, .o 3968 (List.take (Int.toNat y1) y0 ++ [(name, v)]))] [10] [] [] (by rw [show (([] ++ (eL (List.take (Int.toNat y1) y0))) ++ [[.s name, .i v.1, .i v.2.1, .s v.2.2]]) = (eL (List.take (Int.toNat y1) y0 ++ [(name, v)])) from app_eL (rfl) (rfl)]; first | done | kernel_rfl) ?_
    refine wT 10 0 (.own true 3968) (List.take (Int.toNat y1) y0 ++ [(name, v)]) (fun hw11 hl12 => ?_)
    have hl13 : List.length (List.drop (Int.toNat y1) y0) ≤ 1073741824 := wide_len (wide_drop (Int.toNat y1) (hw7))
    refine ru tt_ok [(7, .one (.slc (.own true 4288) 4 ((eL (List.take (Int.toNat y1) y0 ++ [(name, v)])) ++ (eL (List.drop (Int.toNat y1) y0)))))] [7, 9, 10] [] [] (pe 3 (av_drop (.vw 147354) 4 (Int.toNat y1) y1 y0 rfl) (px (ob_rng (lo := y1) (hi := (((eL y0) : List (List PV)).length : Int)) (n := (List.length (eL y0))) (rng_all (by omega) (by omega))) (po 4 (.flat) (pa (List.take (Int.toNat y1) y0 ++ [(name, v)]) (List.drop (Int.toNat y1) y0) (px (ob_flat (flat_eL (List.drop (Int.toNat y1) y0))) p0))))) ?_
    refine eqn [(7, .o 4288 (List.take (Int.toNat y1) y0 ++ [(name, v)] ++ (List.drop (Int.toNat y1) y0)))] [7] [] [] (by rw [show ((eL (List.take (Int.toNat y1) y0 ++ [(name, v)])) ++ (eL (List.drop (Int.toNat y1) y0))) = (eL (List.take (Int.toNat y1) y0 ++ [(name, v)] ++ (List.drop (Int.toNat y1) y0))) from app_eL (rfl) (rfl)]; first | done | kernel_rfl) ?_
    refine sn tt_ok [3, 6] [3, 6] (p0) ?_
    refine tn tt_ok [6] [6] (p0) ?_
    refine awp_ret ?_
    exact pz [] (show specSetAttr f name v = _ from on_b hD0.1 (bif_t h6 (on_b hD1.1 (rfl)))) (fun z => .a [.i z.1, .i z.2.1, .b z.2.2.1, .i z.2.2.2.1, .o 0 z.2.2.2.2])
  ·
   refine awp_skip ?_
   refine tn tt_ok [3, 6] [3, 6] (p0) ?_
   refine tu tt_ok [] [1, 3, 5, 7] [(6, [.i f.1, .i f.2.1, .b f.2.2.1, .i f.2.2.2.1, .o 147354 y0])] [3, 5, 6] (p0) ?_
   refine awp_ret ?_
   exact pz [] (show specSetAttr f name v = _ from on_b hD0.1 (bif_f h6 (rfl))) (fun z => .a [.i z.1, .i z.2.1, .b z.2.2.1, .i z.2.2.2.1, .o 0 z.2.2.2.2])
def specl01Pick (code : (List UInt8)) (ci : Nat) (ch : Int) (list : (List ByteArray)) : ByteArray × Nat × Int := (lt (α := Int × Nat × Int) (specl01Below code ci ch (list.length : Int)) (fun x1 => ((nth list (Int.toNat x1.1)), x1.2.1, x1.2.2)))
theorem specl01Pick_a (code : (List UInt8)) (ci : Nat) (ch : Int) (list : (List ByteArray)) (hp : 0 < List.length list) : AGive Tryz.prog 159 [.h code, .i ((ci : Nat) : Int), .i ch] [.h list] (.s (((specl01Pick code ci ch list)).1)) [.h code, .i ((((specl01Pick code ci ch list)).2.1 : Nat) : Int), .i (((specl01Pick code ci ch list)).2.2)] := by
 refine agive_of (tt := tt) tt_ok Tryz.func159 (fn := Tryz.f159) rfl (by unfold FnOk; kernel_rfl) (Nat.le_of_ble_eq_true rfl) (Nat.le_of_ble_eq_true rfl) rfl rfl fun w0 F0 hG => ?_
 refine sn tt_ok [0, 1, 4] [60000] (p0) ?_
 obtain ⟨x1, hx1⟩ : ∃ z : Int × Nat × Int, specl01Below code ci ch (list.length : Int) = z := ⟨_, rfl⟩
 have hbx1 := hx1 ▸ specl01Below_bd code ci ch (list.length : Int)
 refine wT 1 0 .sh list (fun hw3 hl4 => ?_)
 have hx2 := ng list (Int.toNat x1.1)
 refine tn tt_ok [0, 4] [60000] (pl 3 list (po 4 (.give none (.i x1.1) [.h code, .i ((x1.2.1 : Nat) : Int), .i x1.2.2]) (px (ob_give (hx1 ▸ specl01Below_a code ci ch (list.length : Int))) (pg 5 x1.1 hx2 p0)))) ?_
 refine awp_ret ?_
 have hE5 : specl01Pick code ci ch list = ((nth list (Int.toNat x1.1)), x1.2.1, x1.2.2) := lt_b hx1 (rfl)
 exact gret [] (congrArg (fun z => (.s z.1 : AV)) hE5.symm) (congrArg (fun z => ([.h code, .i ((z.2.1 : Nat) : Int), .i z.2.2] : List C)) hE5.symm)
def specStringValue (w : ByteArray) : ValueD := (2, 0, w)
theorem specStringValue_a (w : ByteArray) : ACalls Tryz.prog 195 [.s w] (.a [.i ((specStringValue w).1), .i ((specStringValue w).2.1), .s ((specStringValue w).2.2)]) := by
 refine en tt_ok Tryz.func195 fun w0 F0 hG => ?_
 refine sn tt_ok [0, 2] [2] (p0) ?_
 refine tn tt_ok [2] [2] (p0) ?_
 refine awp_ret ?_
 exact pz [] (show specStringValue w = (2, 0, w) from rfl) (fun z => .a [.i z.1, .i z.2.1, .s z.2.2])
def specl04File (code : (List UInt8)) (ci : Nat) (ch : Int) (id : Int) : FileD × Nat × Int := (lt (α := Int × Nat × Int) (specl01Below code ci ch 3) (fun x1 => (lt (α := Bool × Nat × Int) (specl01Once code x1.2.1 x1.2.2 2) (fun x2 => (lt (α := Bool × Nat × Int) (specl01Once code x2.2.1 x2.2.2 2) (fun x3 => (lt (α := Int × Nat × Int) (bif x3.1 then (lt (α := Int × Nat × Int) (specl01Below code x3.2.1 x3.2.2 7) (fun x4 => (x4.1, x4.2.1, x4.2.2))) else (0, x3.2.1, x3.2.2)) (fun x4 => (lt (α := Bool × Nat × Int) (specl01Once code x4.2.1 x4.2.2 4) (fun x7 => (lt (α := FileD × Nat × Int) (bif (!x7.1) then (lt (α := Int × Nat × Int) (specl01Below code x7.2.1 x7.2.2 4) (fun x8 => ((specSetAttr (id, x1.1, x2.1, x4.1, []) ⟨#[97]⟩ (specIntValue x8.1)), x8.2.1, x8.2.2))) else ((id, x1.1, x2.1, x4.1, []), x7.2.1, x7.2.2)) (fun x8 => (lt (α := Bool × Nat × Int) (specl01Once code x8.2.1 x8.2.2 2) (fun x11 => (lt (α := FileD × Nat × Int) (bif x11.1 then (lt (α := Int × Nat × Int) (specl01Below code x11.2.1 x11.2.2 4) (fun x12 => ((specSetAttr x8.1 ⟨#[98]⟩ (specIntValue x12.1)), x12.2.1, x12.2.2))) else (x8.1, x11.2.1, x11.2.2)) (fun x12 => (lt (α := Bool × Nat × Int) (specl01Once code x12.2.1 x12.2.2 3) (fun x15 => (lt (α := FileD × Nat × Int) (bif (!x15.1) then (lt (α := ByteArray × Nat × Int) (specl01Pick code x15.2.1 x15.2.2 [⟨#[105, 110, 107]⟩, ⟨#[115, 101, 97]⟩]) (fun x16 => ((specSetAttr x12.1 ⟨#[110]⟩ (specStringValue x16.1)), x16.2.1, x16.2.2))) else (x12.1, x15.2.1, x15.2.2)) (fun x16 => (lt (α := Bool × Nat × Int) (specl01Once code x16.2.1 x16.2.2 2) (fun x19 => (bif x19.1 then (lt (α := ByteArray × Nat × Int) (specl01Pick code x19.2.1 x19.2.2 [⟨#[114, 101, 100]⟩, ⟨#[98, 108, 117, 101]⟩]) (fun x21 => ((specSetAttr x16.1 ⟨#[116]⟩ (specStringValue x21.1)), x21.2.1, x21.2.2))) else (x16.1, x19.2.1, x19.2.2))))))))))))))))))))))))
theorem specl04File_a (code : (List UInt8)) (ci : Nat) (ch : Int) (id : Int) : AGive Tryz.prog 150 [.h code, .i ((ci : Nat) : Int), .i ch] [.i id] (.a [.i ((((specl04File code ci ch id)).1).1), .i ((((specl04File code ci ch id)).1).2.1), .b ((((specl04File code ci ch id)).1).2.2.1), .i ((((specl04File code ci ch id)).1).2.2.2.1), .o 0 ((((specl04File code ci ch id)).1).2.2.2.2)]) [.h code, .i ((((specl04File code ci ch id)).2.1 : Nat) : Int), .i (((specl04File code ci ch id)).2.2)] := by
 refine agive_of (tt := tt) tt_ok Tryz.func150 (fn := Tryz.f150) rfl (by unfold FnOk; kernel_rfl) (Nat.le_of_ble_eq_true rfl) (Nat.le_of_ble_eq_true rfl) rfl rfl fun w0 F0 hG => ?_
 refine sn tt_ok [0, 1, 4] [4, 60000] (p0) ?_
 obtain ⟨x1, hx1⟩ : ∃ z : Int × Nat × Int, specl01Below code ci ch 3 = z := ⟨_, rfl⟩
 have hbx1 := hx1 ▸ specl01Below_bd code ci ch 3
 obtain ⟨x2, hx2⟩ : ∃ z : Bool × Nat × Int, specl01Once code x1.2.1 x1.2.2 2 = z := ⟨_, rfl⟩
 refine tn tt_ok [0, 4, 5] [4, 5, 60000] (po 2 (.give none (.i x1.1) [.h code, .i ((x1.2.1 : Nat) : Int), .i x1.2.2]) (px (ob_give (hx1 ▸ specl01Below_a code ci ch 3)) (po 4 (.give none (.b x2.1) [.h code, .i ((x2.2.1 : Nat) : Int), .i x2.2.2]) (px (ob_give (hx2 ▸ specl01Once_a code x1.2.1 x1.2.2 2)) p0)))) ?_
 refine awp_seq ?_
 obtain ⟨x3, hx3⟩ : ∃ z : Bool × Nat × Int, specl01Once code x2.2.1 x2.2.2 2 = z := ⟨_, rfl⟩
 refine tu tt_ok [(4, .p 4 0), (5, .p 5 0), (13, .b x3.1)] [1] [(4, [.i 0, .i 0, .b false, .i 0, .e 4]), (5, [.i id, .i x1.1, .b x2.1, .i 0, .e 4]), (60000, [.h code, .i ((x3.2.1 : Nat) : Int), .i x3.2.2])] [60000] (po 1 (.give none (.b x3.1) [.h code, .i ((x3.2.1 : Nat) : Int), .i x3.2.2]) (px (ob_give (hx3 ▸ specl01Once_a code x2.2.1 x2.2.2 2)) p0)) ?_
 obtain ⟨x4, hx4⟩ : ∃ z : Int × Nat × Int, (bif x3.1 then (lt (α := Int × Nat × Int) (specl01Below code x3.2.1 x3.2.2 7) (fun x4 => (x4.1, x4.2.1, x4.2.2))) else (0, x3.2.1, x3.2.2)) = z := ⟨_, rfl⟩
 refine jn [] [13] [(5, [.i id, .i x1.1, .b x2.1, .i x4.1, .e 4]), (60000, [.h code, .i ((x4.2.1 : Nat) : Int), .i x4.2.2])] [5, 60000] x3.1 (fun h5 => ?_) (fun h5 => ?_) ?_
 ·
  refine ckt h5 ?_
  obtain ⟨x6, hx6⟩ : ∃ z : Int × Nat × Int, specl01Below code x3.2.1 x3.2.2 7 = z := ⟨_, rfl⟩
  have hbx6 := hx6 ▸ specl01Below_bd code x3.2.1 x3.2.2 7
  refine rn tt_ok [0, 4, 5] [4, 5, 60000] (po 1 (.give none (.i x6.1) [.h code, .i ((x6.2.1 : Nat) : Int), .i x6.2.2]) (px (ob_give (hx6 ▸ specl01Below_a code x3.2.1 x3.2.2 7)) p0)) ?_
  obtain rfl : x4 = (x6.1, x6.2.1, x6.2.2) := hx4.symm.trans (show (bif x3.1 then (lt (α := Int × Nat × Int) (specl01Below code x3.2.1 x3.2.2 7) (fun x4 => (x4.1, x4.2.1, x4.2.2))) else (0, x3.2.1, x3.2.2)) = (x6.1, x6.2.1, x6.2.2) from bif_t h5 (lt_b hx6 (rfl)))
  exact ⟨rfl, weak_fit (by kernel_rfl)⟩
 ·
  refine ckf h5 ?_
  refine awp_skip ?_
  obtain rfl : x4 = (0, x3.2.1, x3.2.2) := hx4.symm.trans (show (bif x3.1 then (lt (α := Int × Nat × Int) (specl01Below code x3.2.1 x3.2.2 7) (fun x4 => (x4.1, x4.2.1, x4.2.2))) else (0, x3.2.1, x3.2.2)) = (0, x3.2.1, x3.2.2) from bif_f h5 (rfl))
  exact ⟨rfl, weak_fit (by kernel_rfl)⟩
 refine awp_seq ?_
 obtain ⟨x7, hx7⟩ : ∃ z : Bool × Nat × Int, specl01Once code x4.2.1 x4.2.2 4 = z := ⟨_, rfl⟩
 refine sn tt_ok [0, 4, 5, 19] [4, 5, 60000] (po 1 (.give none (.b x7.1) [.h code, .i ((x7.2.1 : Nat) : Int), .i x7.2.2]) (px (ob_give (hx7 ▸ specl01Once_a code x4.2.1 x4.2.2 4)) p0)) ?_
 refine mz [(19, .b (!x7.1))] [] [(60000, [.h code, .i ((x7.2.1 : Nat) : Int), .i x7.2.2])] [60000] ?_
 obtain ⟨x8, hx8⟩ : ∃ z : FileD × Nat × Int, (bif (!x7.1) then (lt (α := Int × Nat × Int) (specl01Below code x7.2.1 x7.2.2 4) (fun x8 => ((specSetAttr (id, x1.1, x2.1, x4.1, []) ⟨#[97]⟩ (specIntValue x8.1)), x8.2.1, x8.2.2))) else ((id, x1.1, x2.1, x4.1, []), x7.2.1, x7.2.2)) = z := ⟨_, rfl⟩
 have hjx8 : List.length x8.1.2.2.2.2 ≤ 1 := by rw [← hx8]; exact Nat.le_trans join_attr (by first | omega | simp)
 refine jn [] [19] [(5, [.i x8.1.1, .i x8.1.2.1, .b x8.1.2.2.1, .i x8.1.2.2.2.1, .o 448768 x8.1.2.2.2.2]), (60000, [.h code, .i ((x8.2.1 : Nat) : Int), .i x8.2.2])] [5, 60000] (!x7.1) (fun h9 => ?_) (fun h9 => ?_) ?_
 ·
  refine ckt h9 ?_
  obtain ⟨x10, hx10⟩ : ∃ z : Int × Nat × Int, specl01Below code x7.2.1 x7.2.2 4 = z := ⟨_, rfl⟩
  have hbx10 := hx10 ▸ specl01Below_bd code x7.2.1 x7.2.2 4
  refine rN tt_ok tt_mx [0, 4, 5] [4, 5, 60000] (po 2 (.give none (.i x10.1) [.h code, .i ((x10.2.1 : Nat) : Int), .i x10.2.2]) (px (ob_give (hx10 ▸ specl01Below_a code x7.2.1 x7.2.2 4)) (pc 3 (specIntValue_a x10.1) (pc 4 (specSetAttr_a (id, x1.1, x2.1, x4.1, []) ⟨#[97]⟩ (specIntValue x10.1) (by first | omega | (simp; done) | (simp; omega))) p0)))) ?_
  obtain rfl : x8 = ((specSetAttr (id, x1.1, x2.1, x4.1, []) ⟨#[97]⟩ (specIntValue x10.1)), x10.2.1, x10.2.2) := hx8.symm.trans (show (bif (!x7.1) then (lt (α := Int × Nat × Int) (specl01Below code x7.2.1 x7.2.2 4) (fun x8 => ((specSetAttr (id, x1.1, x2.1, x4.1, []) ⟨#[97]⟩ (specIntValue x8.1)), x8.2.1, x8.2.2))) else ((id, x1.1, x2.1, x4.1, []), x7.2.1, x7.2.2)) = ((specSetAttr (id, x1.1, x2.1, x4.1, []) ⟨#[97]⟩ (specIntValue x10.1)), x10.2.1, x10.2.2) from bif_t h9 (lt_b hx10 (rfl)))
  exact ⟨rfl, weak_sf [(1536, 448768)] (by kernel_rfl)⟩
 ·
  refine ckf h9 ?_
  refine awp_skip ?_
  obtain rfl : x8 = ((id, x1.1, x2.1, x4.1, []), x7.2.1, x7.2.2) := hx8.symm.trans (show (bif (!x7.1) then (lt (α := Int × Nat × Int) (specl01Below code x7.2.1 x7.2.2 4) (fun x8 => ((specSetAttr (id, x1.1, x2.1, x4.1, []) ⟨#[97]⟩ (specIntValue x8.1)), x8.2.1, x8.2.2))) else ((id, x1.1, x2.1, x4.1, []), x7.2.1, x7.2.2)) = ((id, x1.1, x2.1, x4.1, []), x7.2.1, x7.2.2) from bif_f h9 (rfl))
  exact ⟨rfl, weak_gf [(true, 5, 4, true, 320008, 4)] [] [] [(320008, 448768)] (by kernel_rfl)⟩
 refine awp_seq ?_
 obtain ⟨x11, hx11⟩ : ∃ z : Bool × Nat × Int, specl01Once code x8.2.1 x8.2.2 2 = z := ⟨_, rfl⟩
 refine sn tt_ok [0, 4, 5, 26] [4, 5, 60000] (po 1 (.give none (.b x11.1) [.h code, .i ((x11.2.1 : Nat) : Int), .i x11.2.2]) (px (ob_give (hx11 ▸ specl01Once_a code x8.2.1 x8.2.2 2)) p0)) ?_
 refine mz [(26, .b x11.1)] [] [(60000, [.h code, .i ((x11.2.1 : Nat) : Int), .i x11.2.2])] [60000] ?_
 obtain ⟨x12, hx12⟩ : ∃ z : FileD × Nat × Int, (bif x11.1 then (lt (α := Int × Nat × Int) (specl01Below code x11.2.1 x11.2.2 4) (fun x12 => ((specSetAttr x8.1 ⟨#[98]⟩ (specIntValue x12.1)), x12.2.1, x12.2.2))) else (x8.1, x11.2.1, x11.2.2)) = z := ⟨_, rfl⟩
 have hjx12 : List.length x12.1.2.2.2.2 ≤ 2 := by rw [← hx12]; exact Nat.le_trans join_attr (by first | omega | simp)
 refine jn [] [26] [(5, [.i x12.1.1, .i x12.1.2.1, .b x12.1.2.2.1, .i x12.1.2.2.2.1, .o 448768 x12.1.2.2.2.2]), (60000, [.h code, .i ((x12.2.1 : Nat) : Int), .i x12.2.2])] [5, 60000] x11.1 (fun h13 => ?_) (fun h13 => ?_) ?_
 ·
  refine ckt h13 ?_
  obtain ⟨x14, hx14⟩ : ∃ z : Int × Nat × Int, specl01Below code x11.2.1 x11.2.2 4 = z := ⟨_, rfl⟩
  have hbx14 := hx14 ▸ specl01Below_bd code x11.2.1 x11.2.2 4
  refine rN tt_ok tt_mx [0, 4, 5] [4, 5, 60000] (po 2 (.give none (.i x14.1) [.h code, .i ((x14.2.1 : Nat) : Int), .i x14.2.2]) (px (ob_give (hx14 ▸ specl01Below_a code x11.2.1 x11.2.2 4)) (pc 3 (specIntValue_a x14.1) (pc 4 (specSetAttr_a x8.1 ⟨#[98]⟩ (specIntValue x14.1) (by first | omega | (simp; done) | (simp; omega))) p0)))) ?_
  obtain rfl : x12 = ((specSetAttr x8.1 ⟨#[98]⟩ (specIntValue x14.1)), x14.2.1, x14.2.2) := hx12.symm.trans (show (bif x11.1 then (lt (α := Int × Nat × Int) (specl01Below code x11.2.1 x11.2.2 4) (fun x12 => ((specSetAttr x8.1 ⟨#[98]⟩ (specIntValue x12.1)), x12.2.1, x12.2.2))) else (x8.1, x11.2.1, x11.2.2)) = ((specSetAttr x8.1 ⟨#[98]⟩ (specIntValue x14.1)), x14.2.1, x14.2.2) from bif_t h13 (lt_b hx14 (rfl)))
  exact ⟨rfl, weak_sf [(1984, 448768)] (by kernel_rfl)⟩
 ·
  refine ckf h13 ?_
  refine awp_skip ?_
  obtain rfl : x12 = (x8.1, x11.2.1, x11.2.2) := hx12.symm.trans (show (bif x11.1 then (lt (α := Int × Nat × Int) (specl01Below code x11.2.1 x11.2.2 4) (fun x12 => ((specSetAttr x8.1 ⟨#[98]⟩ (specIntValue x12.1)), x12.2.1, x12.2.2))) else (x8.1, x11.2.1, x11.2.2)) = (x8.1, x11.2.1, x11.2.2) from bif_f h13 (rfl))
  exact ⟨rfl, weak_fit (by kernel_rfl)⟩
 refine awp_seq ?_
 obtain ⟨x15, hx15⟩ : ∃ z : Bool × Nat × Int, specl01Once code x12.2.1 x12.2.2 3 = z := ⟨_, rfl⟩
 refine sn tt_ok [0, 4, 5, 34] [4, 5, 60000] (po 1 (.give none (.b x15.1) [.h code, .i ((x15.2.1 : Nat) : Int), .i x15.2.2]) (px (ob_give (hx15 ▸ specl01Once_a code x12.2.1 x12.2.2 3)) p0)) ?_
 refine mz [(34, .b (!x15.1))] [] [(60000, [.h code, .i ((x15.2.1 : Nat) : Int), .i x15.2.2])] [60000] ?_
 obtain ⟨x16, hx16⟩ : ∃ z : FileD × Nat × Int, (bif (!x15.1) then (lt (α := ByteArray × Nat × Int) (specl01Pick code x15.2.1 x15.2.2 [⟨#[105, 110, 107]⟩, ⟨#[115, 101, 97]⟩]) (fun x16 => ((specSetAttr x12.1 ⟨#[110]⟩ (specStringValue x16.1)), x16.2.1, x16.2.2))) else (x12.1, x15.2.1, x15.2.2)) = z := ⟨_, rfl⟩
 have hjx16 : List.length x16.1.2.2.2.2 ≤ 3 := by rw [← hx16]; exact Nat.le_trans join_attr (by first | omega | simp)
 refine jn [] [34] [(5, [.i x16.1.1, .i x16.1.2.1, .b x16.1.2.2.1, .i x16.1.2.2.2.1, .o 448768 x16.1.2.2.2.2]), (60000, [.h code, .i ((x16.2.1 : Nat) : Int), .i x16.2.2])] [5, 60000] (!x15.1) (fun h17 => ?_) (fun h17 => ?_) ?_
 ·
  refine ckt h17 ?_
  obtain ⟨x18, hx18⟩ : ∃ z : ByteArray × Nat × Int, specl01Pick code x15.2.1 x15.2.2 [⟨#[105, 110, 107]⟩, ⟨#[115, 101, 97]⟩] = z := ⟨_, rfl⟩
  refine rN tt_ok tt_mx [0, 4, 5] [4, 5, 60000] (po 3 (.give none (.s x18.1) [.h code, .i ((x18.2.1 : Nat) : Int), .i x18.2.2]) (px (ob_give (hx18 ▸ specl01Pick_a code x15.2.1 x15.2.2 [⟨#[105, 110, 107]⟩, ⟨#[115, 101, 97]⟩] (Nat.zero_lt_succ _))) (pc 4 (specStringValue_a x18.1) (pc 5 (specSetAttr_a x12.1 ⟨#[110]⟩ (specStringValue x18.1) (by first | omega | (simp; done) | (simp; omega))) p0)))) ?_
  obtain rfl : x16 = ((specSetAttr x12.1 ⟨#[110]⟩ (specStringValue x18.1)), x18.2.1, x18.2.2) := hx16.symm.trans (show (bif (!x15.1) then (lt (α := ByteArray × Nat × Int) (specl01Pick code x15.2.1 x15.2.2 [⟨#[105, 110, 107]⟩, ⟨#[115, 101, 97]⟩]) (fun x16 => ((specSetAttr x12.1 ⟨#[110]⟩ (specStringValue x16.1)), x16.2.1, x16.2.2))) else (x12.1, x15.2.1, x15.2.2)) = ((specSetAttr x12.1 ⟨#[110]⟩ (specStringValue x18.1)), x18.2.1, x18.2.2) from bif_t h17 (lt_b hx18 (rfl)))
  exact ⟨rfl, weak_sf [(2560, 448768)] (by kernel_rfl)⟩
 ·
  refine ckf h17 ?_
  refine awp_skip ?_
  obtain rfl : x16 = (x12.1, x15.2.1, x15.2.2) := hx16.symm.trans (show (bif (!x15.1) then (lt (α := ByteArray × Nat × Int) (specl01Pick code x15.2.1 x15.2.2 [⟨#[105, 110, 107]⟩, ⟨#[115, 101, 97]⟩]) (fun x16 => ((specSetAttr x12.1 ⟨#[110]⟩ (specStringValue x16.1)), x16.2.1, x16.2.2))) else (x12.1, x15.2.1, x15.2.2)) = (x12.1, x15.2.1, x15.2.2) from bif_f h17 (rfl))
  exact ⟨rfl, weak_fit (by kernel_rfl)⟩
 refine awp_seq ?_
 obtain ⟨x19, hx19⟩ : ∃ z : Bool × Nat × Int, specl01Once code x16.2.1 x16.2.2 2 = z := ⟨_, rfl⟩
 refine sn tt_ok [0, 4, 5, 42] [4, 5, 60000] (po 1 (.give none (.b x19.1) [.h code, .i ((x19.2.1 : Nat) : Int), .i x19.2.2]) (px (ob_give (hx19 ▸ specl01Once_a code x16.2.1 x16.2.2 2)) p0)) ?_
 refine ck x19.1 (fun h20 => ?_) (fun h20 => ?_)
 ·
  obtain ⟨x21, hx21⟩ : ∃ z : ByteArray × Nat × Int, specl01Pick code x19.2.1 x19.2.2 [⟨#[114, 101, 100]⟩, ⟨#[98, 108, 117, 101]⟩] = z := ⟨_, rfl⟩
  refine qN tt_ok tt_mx [0, 4, 5] [4, 5, 60000] (po 3 (.give none (.s x21.1) [.h code, .i ((x21.2.1 : Nat) : Int), .i x21.2.2]) (px (ob_give (hx21 ▸ specl01Pick_a code x19.2.1 x19.2.2 [⟨#[114, 101, 100]⟩, ⟨#[98, 108, 117, 101]⟩] (Nat.zero_lt_succ _))) (pc 4 (specStringValue_a x21.1) (pc 5 (specSetAttr_a x16.1 ⟨#[116]⟩ (specStringValue x21.1) (by first | omega | (simp; done) | (simp; omega))) p0)))) ?_
  refine tu tt_ok [] [5] [(4, [.i ((specSetAttr x16.1 ⟨#[116]⟩ (specStringValue x21.1)).1), .i ((specSetAttr x16.1 ⟨#[116]⟩ (specStringValue x21.1)).2.1), .b ((specSetAttr x16.1 ⟨#[116]⟩ (specStringValue x21.1)).2.2.1), .i ((specSetAttr x16.1 ⟨#[116]⟩ (specStringValue x21.1)).2.2.2.1), .o 3072 ((specSetAttr x16.1 ⟨#[116]⟩ (specStringValue x21.1)).2.2.2.2)]), (60000, [.h code, .i ((x21.2.1 : Nat) : Int), .i x21.2.2])] [4, 5, 60000] (p0) ?_
  refine awp_ret ?_
  have hE22 : specl04File code ci ch id = ((specSetAttr x16.1 ⟨#[116]⟩ (specStringValue x21.1)), x21.2.1, x21.2.2) := lt_b hx1 (lt_b hx2 (lt_b hx3 (lt_b hx4 (lt_b hx7 (lt_b hx8 (lt_b hx11 (lt_b hx12 (lt_b hx15 (lt_b hx16 (lt_b hx19 (bif_t h20 (lt_b hx21 (rfl)))))))))))))
  exact gret [] (congrArg (fun z => (.a [.i z.1.1, .i z.1.2.1, .b z.1.2.2.1, .i z.1.2.2.2.1, .o 0 z.1.2.2.2.2] : AV)) hE22.symm) (congrArg (fun z => ([.h code, .i ((z.2.1 : Nat) : Int), .i z.2.2] : List C)) hE22.symm)
 ·
  refine awp_skip ?_
  refine tn tt_ok [0, 4] [4, 60000] (p0) ?_
  refine awp_ret ?_
  have hE23 : specl04File code ci ch id = (x16.1, x19.2.1, x19.2.2) := lt_b hx1 (lt_b hx2 (lt_b hx3 (lt_b hx4 (lt_b hx7 (lt_b hx8 (lt_b hx11 (lt_b hx12 (lt_b hx15 (lt_b hx16 (lt_b hx19 (bif_f h20 (rfl))))))))))))
  exact gret [] (congrArg (fun z => (.a [.i z.1.1, .i z.1.2.1, .b z.1.2.2.1, .i z.1.2.2.2.1, .o 0 z.1.2.2.2.2] : AV)) hE23.symm) (congrArg (fun z => ([.h code, .i ((z.2.1 : Nat) : Int), .i z.2.2] : List C)) hE23.symm)
def specl05Store_f0 (code : (List UInt8)) (s0 : Int × StoreD × Nat × Int) : Rd (StoreD × Nat × Int) (Int × StoreD × Nat × Int) (StoreD × Nat × Int) := (lt (α := Int × Nat × Int) (specl01Below code s0.2.2.1 s0.2.2.2 7) (fun x1 => (bif decide (s0.1 < IntKind.i64.wrap (1 + x1.1)) then (lt (α := FileD × Nat × Int) (specl04File code x1.2.1 x1.2.2 1) (fun x3 => (.next (IntKind.i64.wrap (s0.1 + 1), (((specCreateFile s0.2.1 x3.1)).1), x3.2.1, x3.2.2)))) else (.brk (s0.2.1, x1.2.1, x1.2.2)))))
def specl05Store (code : (List UInt8)) (ci : Nat) (ch : Int) : StoreD × Nat × Int := (Out.on (whlD (specl05Store_f0 code) 8 (0, (specNewStore specl03Usual), ci, ch)) (fun y0 => (bif decide ((y0.1.2.1.length : Int) > (2 : Int)) then (lt (α := Bool × Nat × Int) (specl01Once code y0.2.1 y0.2.2 3) (fun x5 => (bif x5.1 then ((((specDeleteFile y0.1 ((nth y0.1.2.1 1).1))).1), x5.2.1, x5.2.2) else (y0.1, x5.2.1, x5.2.2)))) else (y0.1, y0.2.1, y0.2.2))))
theorem specl05Store_w (code : List UInt8) (ci : Nat) (ch : Int) (s : StoreD) : (whl (specl05Store_f0 code) 8 (0, s, ci, ch)).isSome = true :=
  whl_up (fun s => s.1) 7 (fun s s' h0 h => by
    unfold specl05Store_f0 lt at h
    have hb := specl01Below_bd code s.2.2.1 s.2.2.2 7
    generalize specl01Below code s.2.2.1 s.2.2.2 7 = x at h hb
    have e : IntKind.i64.wrap (1 + x.1) = 1 + x.1 := IntWalk.i64_in _ (by omega)
    simp only [e] at h
    by_cases hc : s.1 < 1 + x.1
    · simp only [decide_eq_true hc, cond_true] at h
      have h := Rd.next.inj h
      rw [← h]
      exact ⟨by omega, IntWalk.i64_in _ (by omega)⟩
    · simp only [decide_eq_false hc, cond_false] at h
      cases h) 7 _ (Int.le_refl 0) (by show (7 : Int) ≤ 0 + 7; omega)
theorem specl05Store_a (code : (List UInt8)) (ci : Nat) (ch : Int) : AGive Tryz.prog 102 [.h code, .i ((ci : Nat) : Int), .i ch] [] (.a [.o 0 ((((specl05Store code ci ch)).1).1), .q 1 ((((specl05Store code ci ch)).1).2.1), .i ((((specl05Store code ci ch)).1).2.2)]) [.h code, .i ((((specl05Store code ci ch)).2.1 : Nat) : Int), .i (((specl05Store code ci ch)).2.2)] := by
 refine agive_of (tt := tt) tt_ok Tryz.func102 (fn := Tryz.f102) rfl (by unfold FnOk; kernel_rfl) (Nat.le_of_ble_eq_true rfl) (Nat.le_of_ble_eq_true rfl) rfl rfl fun w0 F0 hG => ?_
 refine sn tt_ok [0, 2] [2, 60000] (p0) ?_
 refine tn tt_ok [0, 2, 3] [2, 3, 60000] (pc 0 (specl03Usual_a) (pc 1 (specNewStore_a specl03Usual) p0)) ?_
 refine awp_seq ?_
 refine tu tt_ok [(2, .p 2 0), (3, .p 3 0), (4, .i 0)] [] [(2, [.e 2, .e 5, .i 0]), (3, [.o 384 ((specNewStore specl03Usual).1), .o 385 ((specNewStore specl03Usual).2.1), .i ((specNewStore specl03Usual).2.2)])] [] (p0) ?_
 refine blw (fun (s0 : Int × StoreD × Nat × Int) => [(4, .i s0.1)]) [4] (fun s0 => [(3, [.o 147207 s0.2.1.1, .o 147208 s0.2.1.2.1, .i s0.2.1.2.2]), (60000, [.h code, .i ((s0.2.2.1 : Nat) : Int), .i s0.2.2.2])]) [3, 60000] (fun (y0 : StoreD × Nat × Int) => []) [4] (fun y0 => [(3, [.o 147357 y0.1.1, .o 147358 y0.1.2.1, .i y0.1.2.2]), (60000, [.h code, .i ((y0.2.1 : Nat) : Int), .i y0.2.2])]) [3, 60000] (fun (k0 : Nat) (s0 : Int × StoreD × Nat × Int) => whl (specl05Store_f0 code) k0 s0 = some (whlD (specl05Store_f0 code) 8 (0, (specNewStore specl03Usual), ci, ch))) (fun (y0 : StoreD × Nat × Int) => (whlD (specl05Store_f0 code) 8 (0, (specNewStore specl03Usual), ci, ch)) = .brk y0) 8 (0, (specNewStore specl03Usual), ci, ch) (weak_sf [(384, 147207), (385, 147208)] (by kernel_rfl)) (whl_some (specl05Store_w code ci ch _)) (fun _ h => whl_zero h) (fun k0 s0 hI0 => ?_) (fun y0 hD0 => ?_)
 ·
  refine awp_seq ?_
  obtain ⟨x1, hx1⟩ : ∃ z : Int × Nat × Int, specl01Below code s0.2.2.1 s0.2.2.2 7 = z := ⟨_, rfl⟩
  have hbx1 := hx1 ▸ specl01Below_bd code s0.2.2.1 s0.2.2.2 7
  refine sn tt_ok [0, 2, 3, 4, 11] [2, 3, 60000] (po 2 (.give none (.i x1.1) [.h code, .i ((x1.2.1 : Nat) : Int), .i x1.2.2]) (px (ob_give (hx1 ▸ specl01Below_a code s0.2.2.1 s0.2.2.2 7)) p0)) ?_
  refine ck (decide (s0.1 < IntKind.i64.wrap (1 + x1.1))) (fun h2 => ?_) (fun h2 => ?_)
  ·
   refine awp_skip ?_
   refine awp_seq ?_
   refine awp_block ?_
   obtain ⟨x3, hx3⟩ : ∃ z : FileD × Nat × Int, specl04File code x1.2.1 x1.2.2 1 = z := ⟨_, rfl⟩
   refine qN tt_ok tt_mx [0, 2, 3, 4] [2, 3, 60000] (po 2 (.give none (.a [.i x3.1.1, .i x3.1.2.1, .b x3.1.2.2.1, .i x3.1.2.2.2.1, .o 0 x3.1.2.2.2.2]) [.h code, .i ((x3.2.1 : Nat) : Int), .i x3.2.2]) (px (ob_give (hx3 ▸ specl04File_a code x1.2.1 x1.2.2 1)) (pc 3 (specCreateFile_a s0.2.1 x3.1) p0))) ?_
   refine qu tt_ok [(4, .i (IntKind.i64.wrap (s0.1 + 1)))] [4] [(3, [.o 1152 ((((specCreateFile s0.2.1 x3.1)).1).1), .o 1153 ((((specCreateFile s0.2.1 x3.1)).1).2.1), .i ((((specCreateFile s0.2.1 x3.1)).1).2.2)]), (60000, [.h code, .i ((x3.2.1 : Nat) : Int), .i x3.2.2])] [3, 60000] (p0) ?_
   exact Exists.intro (IntKind.i64.wrap (s0.1 + 1), (((specCreateFile s0.2.1 x3.1)).1), x3.2.1, x3.2.2) (And.intro (weak_sf [(1152, 147207), (1153, 147208)] (by kernel_rfl)) (wn hI0 (lt_b hx1 (bif_t h2 (lt_b hx3 (rfl))))))
  ·
   refine awp_exit ?_
   exact Exists.intro (s0.2.1, x1.2.1, x1.2.2) (And.intro (weak_sf [(147207, 147357), (147208, 147358)] (by kernel_rfl)) (wb hI0 (lt_b hx1 (bif_f h2 (rfl)))))
 ·
  refine awp_seq ?_
  refine awp_seq ?_
  refine awp_split (decide ((y0.1.2.1.length : Int) > (2 : Int))) (fun h4 => ?_) (fun h4 => ?_)
  ·
   have h4d := of_decide_eq_true h4
   obtain ⟨x5, hx5⟩ : ∃ z : Bool × Nat × Int, specl01Once code y0.2.1 y0.2.2 3 = z := ⟨_, rfl⟩
   refine rn tt_ok [0, 2, 3, 29] [2, 3, 60000] (pl 2 y0.1.2.1 (pt 3 h4 (po 6 (.give none (.b x5.1) [.h code, .i ((x5.2.1 : Nat) : Int), .i x5.2.2]) (px (ob_give (hx5 ▸ specl01Once_a code y0.2.1 y0.2.2 3)) p0)))) ?_
   refine ck x5.1 (fun h6 => ?_) (fun h6 => ?_)
   ·
    refine wB 3 1 (.own true 147358) y0.1.2.1 (fun hw8 hl9 => ?_)
    have hx7 := ng y0.1.2.1 1
    refine qN tt_ok tt_mx [0, 2, 3] [2, 3, 60000] (pG 3 1 hx7 (pc 6 (specDeleteFile_a y0.1 ((nth y0.1.2.1 1).1)) p0)) ?_
    refine tu tt_ok [] [3] [(2, [.o 2368 ((((specDeleteFile y0.1 ((nth y0.1.2.1 1).1))).1).1), .q 2369 ((((specDeleteFile y0.1 ((nth y0.1.2.1 1).1))).1).2.1), .i ((((specDeleteFile y0.1 ((nth y0.1.2.1 1).1))).1).2.2)]), (60000, [.h code, .i ((x5.2.1 : Nat) : Int), .i x5.2.2])] [2, 3, 60000] (p0) ?_
    refine awp_ret ?_
    have hE10 : specl05Store code ci ch = ((((specDeleteFile y0.1 ((nth y0.1.2.1 1).1))).1), x5.2.1, x5.2.2) := on_b hD0 (bif_t h4 (lt_b hx5 (bif_t h6 (rfl))))
    exact gret [] (congrArg (fun z => (.a [.o 0 z.1.1, .q 1 z.1.2.1, .i z.1.2.2] : AV)) hE10.symm) (congrArg (fun z => ([.h code, .i ((z.2.1 : Nat) : Int), .i z.2.2] : List C)) hE10.symm)
   ·
    refine awp_skip ?_
    refine tn tt_ok [0, 2] [2, 60000] (p0) ?_
    refine awp_demotes [147358] rfl ?_
    refine awp_ret ?_
    have hE11 : specl05Store code ci ch = (y0.1, x5.2.1, x5.2.2) := on_b hD0 (bif_t h4 (lt_b hx5 (bif_f h6 (rfl))))
    exact gret [] (congrArg (fun z => (.a [.o 0 z.1.1, .q 1 z.1.2.1, .i z.1.2.2] : AV)) hE11.symm) (congrArg (fun z => ([.h code, .i ((z.2.1 : Nat) : Int), .i z.2.2] : List C)) hE11.symm)
  ·
   refine ru tt_ok [(29, .b false)] [] [] [] (pl 2 y0.1.2.1 (pf 3 h4 p0)) ?_
   refine ckF ?_
   refine awp_skip ?_
   refine sn tt_ok [0, 2] [2, 60000] (p0) ?_
   refine awp_demotes [147358] rfl ?_
   refine awp_ret ?_
   have hE12 : specl05Store code ci ch = (y0.1, y0.2.1, y0.2.2) := on_b hD0 (bif_f h4 (rfl))
   exact gret [] (congrArg (fun z => (.a [.o 0 z.1.1, .q 1 z.1.2.1, .i z.1.2.2] : AV)) hE12.symm) (congrArg (fun z => ([.h code, .i ((z.2.1 : Nat) : Int), .i z.2.2] : List C)) hE12.symm)
def specl09DirName (code : (List UInt8)) (ci : Nat) (ch : Int) : ByteArray × Nat × Int := (lt (α := ByteArray × Nat × Int) (specl01Pick code ci ch [⟨#[100, 97]⟩, ⟨#[100, 98]⟩, ⟨#[100, 99]⟩, ⟨#[100, 100]⟩, ⟨#[100, 97]⟩, ⟨#[100, 98]⟩, ⟨#[100, 99]⟩]) (fun x1 => (x1.1, x1.2.1, x1.2.2)))
theorem specl09DirName_a (code : (List UInt8)) (ci : Nat) (ch : Int) : AGive Tryz.prog 181 [.h code, .i ((ci : Nat) : Int), .i ch] [] (.s (((specl09DirName code ci ch)).1)) [.h code, .i ((((specl09DirName code ci ch)).2.1 : Nat) : Int), .i (((specl09DirName code ci ch)).2.2)] := by
 refine agive_of (tt := tt) tt_ok Tryz.func181 (fn := Tryz.f181) rfl (by unfold FnOk; kernel_rfl) (Nat.le_of_ble_eq_true rfl) (Nat.le_of_ble_eq_true rfl) rfl rfl fun w0 F0 hG => ?_
 refine sn tt_ok [0, 2] [60000] (p0) ?_
 obtain ⟨x1, hx1⟩ : ∃ z : ByteArray × Nat × Int, specl01Pick code ci ch [⟨#[100, 97]⟩, ⟨#[100, 98]⟩, ⟨#[100, 99]⟩, ⟨#[100, 100]⟩, ⟨#[100, 97]⟩, ⟨#[100, 98]⟩, ⟨#[100, 99]⟩] = z := ⟨_, rfl⟩
 refine tn tt_ok [0, 2] [60000] (po 2 (.give none (.s x1.1) [.h code, .i ((x1.2.1 : Nat) : Int), .i x1.2.2]) (px (ob_give (hx1 ▸ specl01Pick_a code ci ch [⟨#[100, 97]⟩, ⟨#[100, 98]⟩, ⟨#[100, 99]⟩, ⟨#[100, 100]⟩, ⟨#[100, 97]⟩, ⟨#[100, 98]⟩, ⟨#[100, 99]⟩] (Nat.zero_lt_succ _))) p0)) ?_
 refine awp_ret ?_
 have hE2 : specl09DirName code ci ch = (x1.1, x1.2.1, x1.2.2) := lt_b hx1 (rfl)
 exact gret [] (congrArg (fun z => (.s z.1 : AV)) hE2.symm) (congrArg (fun z => ([.h code, .i ((z.2.1 : Nat) : Int), .i z.2.2] : List C)) hE2.symm)
def specl09Leaf (code : (List UInt8)) (ci : Nat) (ch : Int) : NodeD × Nat × Int := (lt (α := Int × Nat × Int) (specl01Below code ci ch 9) (fun x1 => (bif (x1.1 == (0 : Int)) then ((1, 0, 0, ⟨#[]⟩, (0, 0, ⟨#[]⟩)), x1.2.1, x1.2.2) else (bif (x1.1 == (1 : Int)) then (lt (α := ByteArray × Nat × Int) (specl01Pick code x1.2.1 x1.2.2 [⟨#[97]⟩, ⟨#[98]⟩, ⟨#[110]⟩, ⟨#[116]⟩]) (fun x5 => ((2, 0, 0, x5.1, (0, 0, ⟨#[]⟩)), x5.2.1, x5.2.2))) else (bif (x1.1 == (2 : Int)) then (lt (α := Int × Nat × Int) (specl01Below code x1.2.1 x1.2.2 4) (fun x8 => ((3, 0, 0, ⟨#[97]⟩, (specIntValue x8.1)), x8.2.1, x8.2.2))) else (bif (x1.1 == (3 : Int)) then (lt (α := ByteArray × Nat × Int) (specl01Pick code x1.2.1 x1.2.2 [⟨#[114, 101, 100]⟩, ⟨#[98, 108, 117, 101]⟩]) (fun x11 => ((3, 0, 0, ⟨#[116]⟩, (specStringValue x11.1)), x11.2.1, x11.2.2))) else (bif (x1.1 == (4 : Int)) then (lt (α := ByteArray × Nat × Int) (specl01Pick code x1.2.1 x1.2.2 [⟨#[97]⟩, ⟨#[98]⟩]) (fun x14 => (lt (α := Int × Nat × Int) (specl01Below code x14.2.1 x14.2.2 3) (fun x15 => ((4, 0, 0, x14.1, (specIntValue (IntKind.i64.wrap (1 + x15.1)))), x15.2.1, x15.2.2))))) else (bif (bif (x1.1 == (5 : Int)) then (x1.1 == (5 : Int)) else (x1.1 == (6 : Int))) then (lt (α := ByteArray × Nat × Int) (specl09DirName code x1.2.1 x1.2.2) (fun x19 => ((8, 0, 0, x19.1, (0, 0, ⟨#[]⟩)), x19.2.1, x19.2.2))) else (bif (x1.1 == (7 : Int)) then (lt (α := ByteArray × Nat × Int) (specl09DirName code x1.2.1 x1.2.2) (fun x22 => ((9, 0, 0, x22.1, (0, 0, ⟨#[]⟩)), x22.2.1, x22.2.2))) else (lt (α := Int × Nat × Int) (specl01Below code x1.2.1 x1.2.2 4) (fun x24 => ((3, 0, 0, ⟨#[98]⟩, (specIntValue x24.1)), x24.2.1, x24.2.2))))))))))))
theorem specl09Leaf_a (code : (List UInt8)) (ci : Nat) (ch : Int) : AGive Tryz.prog 209 [.h code, .i ((ci : Nat) : Int), .i ch] [] (.a [.i ((((specl09Leaf code ci ch)).1).1), .i ((((specl09Leaf code ci ch)).1).2.1), .i ((((specl09Leaf code ci ch)).1).2.2.1), .s ((((specl09Leaf code ci ch)).1).2.2.2.1), .i ((((specl09Leaf code ci ch)).1).2.2.2.2.1), .i ((((specl09Leaf code ci ch)).1).2.2.2.2.2.1), .s ((((specl09Leaf code ci ch)).1).2.2.2.2.2.2)]) [.h code, .i ((((specl09Leaf code ci ch)).2.1 : Nat) : Int), .i (((specl09Leaf code ci ch)).2.2)] := by
 refine agive_of (tt := tt) tt_ok Tryz.func209 (fn := Tryz.f209) rfl (by unfold FnOk; kernel_rfl) (Nat.le_of_ble_eq_true rfl) (Nat.le_of_ble_eq_true rfl) rfl rfl fun w0 F0 hG => ?_
 refine sn tt_ok [0, 2] [2, 60000] (p0) ?_
 refine awp_seq ?_
 obtain ⟨x1, hx1⟩ : ∃ z : Int × Nat × Int, specl01Below code ci ch 9 = z := ⟨_, rfl⟩
 have hbx1 := hx1 ▸ specl01Below_bd code ci ch 9
 refine tn tt_ok [0, 2, 4] [2, 60000] (po 1 (.give none (.i x1.1) [.h code, .i ((x1.2.1 : Nat) : Int), .i x1.2.2]) (px (ob_give (hx1 ▸ specl01Below_a code ci ch 9)) p0)) ?_
 refine awp_block ?_
 refine tu tt_ok [(2, .p 2 0), (4, .i x1.1), (5, .b (x1.1 == (0 : Int)))] [] [(2, [.i 0, .i 0, .i 0, .s ⟨#[]⟩, .i 0, .i 0, .s ⟨#[]⟩]), (60000, [.h code, .i ((x1.2.1 : Nat) : Int), .i x1.2.2])] [60000] (p0) ?_
 refine ck (x1.1 == (0 : Int)) (fun h2 => ?_) (fun h2 => ?_)
 ·
  refine sn tt_ok [0, 2] [2, 60000] (p0) ?_
  refine awp_ret ?_
  have hE3 : specl09Leaf code ci ch = ((1, 0, 0, ⟨#[]⟩, (0, 0, ⟨#[]⟩)), x1.2.1, x1.2.2) := lt_b hx1 (bif_t h2 (rfl))
  exact gret [] (congrArg (fun z => (.a [.i z.1.1, .i z.1.2.1, .i z.1.2.2.1, .s z.1.2.2.2.1, .i z.1.2.2.2.2.1, .i z.1.2.2.2.2.2.1, .s z.1.2.2.2.2.2.2] : AV)) hE3.symm) (congrArg (fun z => ([.h code, .i ((z.2.1 : Nat) : Int), .i z.2.2] : List C)) hE3.symm)
 ·
  refine sn tt_ok [0, 2, 4, 8] [2, 60000] (p0) ?_
  refine ck (x1.1 == (1 : Int)) (fun h4 => ?_) (fun h4 => ?_)
  ·
   obtain ⟨x5, hx5⟩ : ∃ z : ByteArray × Nat × Int, specl01Pick code x1.2.1 x1.2.2 [⟨#[97]⟩, ⟨#[98]⟩, ⟨#[110]⟩, ⟨#[116]⟩] = z := ⟨_, rfl⟩
   refine tn tt_ok [0, 2] [2, 60000] (po 2 (.give none (.s x5.1) [.h code, .i ((x5.2.1 : Nat) : Int), .i x5.2.2]) (px (ob_give (hx5 ▸ specl01Pick_a code x1.2.1 x1.2.2 [⟨#[97]⟩, ⟨#[98]⟩, ⟨#[110]⟩, ⟨#[116]⟩] (Nat.zero_lt_succ _))) p0)) ?_
   refine awp_ret ?_
   have hE6 : specl09Leaf code ci ch = ((2, 0, 0, x5.1, (0, 0, ⟨#[]⟩)), x5.2.1, x5.2.2) := lt_b hx1 (bif_f h2 (bif_t h4 (lt_b hx5 (rfl))))
   exact gret [] (congrArg (fun z => (.a [.i z.1.1, .i z.1.2.1, .i z.1.2.2.1, .s z.1.2.2.2.1, .i z.1.2.2.2.2.1, .i z.1.2.2.2.2.2.1, .s z.1.2.2.2.2.2.2] : AV)) hE6.symm) (congrArg (fun z => ([.h code, .i ((z.2.1 : Nat) : Int), .i z.2.2] : List C)) hE6.symm)
  ·
   refine tn tt_ok [0, 2, 4, 14] [2, 60000] (p0) ?_
   refine ck (x1.1 == (2 : Int)) (fun h7 => ?_) (fun h7 => ?_)
   ·
    obtain ⟨x8, hx8⟩ : ∃ z : Int × Nat × Int, specl01Below code x1.2.1 x1.2.2 4 = z := ⟨_, rfl⟩
    have hbx8 := hx8 ▸ specl01Below_bd code x1.2.1 x1.2.2 4
    refine tu tt_ok [] [4, 5] [(2, [.i 3, .i 0, .i 0, .s ⟨#[97]⟩, .i ((specIntValue x8.1).1), .i ((specIntValue x8.1).2.1), .s ((specIntValue x8.1).2.2)]), (60000, [.h code, .i ((x8.2.1 : Nat) : Int), .i x8.2.2])] [2, 60000] (po 1 (.give none (.i x8.1) [.h code, .i ((x8.2.1 : Nat) : Int), .i x8.2.2]) (px (ob_give (hx8 ▸ specl01Below_a code x1.2.1 x1.2.2 4)) (pc 2 (specIntValue_a x8.1) p0))) ?_
    refine awp_ret ?_
    have hE9 : specl09Leaf code ci ch = ((3, 0, 0, ⟨#[97]⟩, (specIntValue x8.1)), x8.2.1, x8.2.2) := lt_b hx1 (bif_f h2 (bif_f h4 (bif_t h7 (lt_b hx8 (rfl)))))
    exact gret [] (congrArg (fun z => (.a [.i z.1.1, .i z.1.2.1, .i z.1.2.2.1, .s z.1.2.2.2.1, .i z.1.2.2.2.2.1, .i z.1.2.2.2.2.2.1, .s z.1.2.2.2.2.2.2] : AV)) hE9.symm) (congrArg (fun z => ([.h code, .i ((z.2.1 : Nat) : Int), .i z.2.2] : List C)) hE9.symm)
   ·
    refine tu tt_ok [(20, .b (x1.1 == (3 : Int)))] [5] [] [] (p0) ?_
    refine ck (x1.1 == (3 : Int)) (fun h10 => ?_) (fun h10 => ?_)
    ·
     obtain ⟨x11, hx11⟩ : ∃ z : ByteArray × Nat × Int, specl01Pick code x1.2.1 x1.2.2 [⟨#[114, 101, 100]⟩, ⟨#[98, 108, 117, 101]⟩] = z := ⟨_, rfl⟩
     refine sn tt_ok [0, 2] [2, 60000] (po 2 (.give none (.s x11.1) [.h code, .i ((x11.2.1 : Nat) : Int), .i x11.2.2]) (px (ob_give (hx11 ▸ specl01Pick_a code x1.2.1 x1.2.2 [⟨#[114, 101, 100]⟩, ⟨#[98, 108, 117, 101]⟩] (Nat.zero_lt_succ _))) (pc 3 (specStringValue_a x11.1) p0))) ?_
     refine awp_ret ?_
     have hE12 : specl09Leaf code ci ch = ((3, 0, 0, ⟨#[116]⟩, (specStringValue x11.1)), x11.2.1, x11.2.2) := lt_b hx1 (bif_f h2 (bif_f h4 (bif_f h7 (bif_t h10 (lt_b hx11 (rfl))))))
     exact gret [] (congrArg (fun z => (.a [.i z.1.1, .i z.1.2.1, .i z.1.2.2.1, .s z.1.2.2.2.1, .i z.1.2.2.2.2.1, .i z.1.2.2.2.2.2.1, .s z.1.2.2.2.2.2.2] : AV)) hE12.symm) (congrArg (fun z => ([.h code, .i ((z.2.1 : Nat) : Int), .i z.2.2] : List C)) hE12.symm)
    ·
     refine sn tt_ok [0, 2, 4, 27] [2, 60000] (p0) ?_
     refine ck (x1.1 == (4 : Int)) (fun h13 => ?_) (fun h13 => ?_)
     ·
      obtain ⟨x14, hx14⟩ : ∃ z : ByteArray × Nat × Int, specl01Pick code x1.2.1 x1.2.2 [⟨#[97]⟩, ⟨#[98]⟩] = z := ⟨_, rfl⟩
      obtain ⟨x15, hx15⟩ : ∃ z : Int × Nat × Int, specl01Below code x14.2.1 x14.2.2 3 = z := ⟨_, rfl⟩
      have hbx15 := hx15 ▸ specl01Below_bd code x14.2.1 x14.2.2 3
      refine tn tt_ok [0, 2] [2, 60000] (po 2 (.give none (.s x14.1) [.h code, .i ((x14.2.1 : Nat) : Int), .i x14.2.2]) (px (ob_give (hx14 ▸ specl01Pick_a code x1.2.1 x1.2.2 [⟨#[97]⟩, ⟨#[98]⟩] (Nat.zero_lt_succ _))) (po 4 (.give none (.i x15.1) [.h code, .i ((x15.2.1 : Nat) : Int), .i x15.2.2]) (px (ob_give (hx15 ▸ specl01Below_a code x14.2.1 x14.2.2 3)) (pc 6 (specIntValue_a (IntKind.i64.wrap (1 + x15.1))) p0))))) ?_
      refine awp_ret ?_
      have hE16 : specl09Leaf code ci ch = ((4, 0, 0, x14.1, (specIntValue (IntKind.i64.wrap (1 + x15.1)))), x15.2.1, x15.2.2) := lt_b hx1 (bif_f h2 (bif_f h4 (bif_f h7 (bif_f h10 (bif_t h13 (lt_b hx14 (lt_b hx15 (rfl))))))))
      exact gret [] (congrArg (fun z => (.a [.i z.1.1, .i z.1.2.1, .i z.1.2.2.1, .s z.1.2.2.2.1, .i z.1.2.2.2.2.1, .i z.1.2.2.2.2.2.1, .s z.1.2.2.2.2.2.2] : AV)) hE16.symm) (congrArg (fun z => ([.h code, .i ((z.2.1 : Nat) : Int), .i z.2.2] : List C)) hE16.symm)
     ·
      refine awp_seq ?_
      refine tn tt_ok [0, 2, 4, 37] [2, 60000] (p0) ?_
      refine mz [(37, .b (x1.1 == (5 : Int)))] [20] [] [] ?_
      refine jn [(37, .b (bif (x1.1 == (5 : Int)) then (x1.1 == (5 : Int)) else (x1.1 == (6 : Int))))] [37] [] [] (x1.1 == (5 : Int)) (fun h17 => ?_) (fun h17 => ?_) ?_
      ·
       refine ckt h17 ?_
       refine awp_skip ?_
       exact ⟨rfl, weak_fit (by rw [h17]; first | done | kernel_rfl)⟩
      ·
       refine ckf h17 ?_
       refine rn tt_ok [0, 2, 4, 37] [2, 60000] (p0) ?_
       exact ⟨rfl, weak_fit (by rw [h17]; first | done | kernel_rfl)⟩
      refine ck (bif (x1.1 == (5 : Int)) then (x1.1 == (5 : Int)) else (x1.1 == (6 : Int))) (fun h18 => ?_) (fun h18 => ?_)
      ·
       obtain ⟨x19, hx19⟩ : ∃ z : ByteArray × Nat × Int, specl09DirName code x1.2.1 x1.2.2 = z := ⟨_, rfl⟩
       refine sn tt_ok [0, 2] [2, 60000] (po 1 (.give none (.s x19.1) [.h code, .i ((x19.2.1 : Nat) : Int), .i x19.2.2]) (px (ob_give (hx19 ▸ specl09DirName_a code x1.2.1 x1.2.2)) p0)) ?_
       refine awp_ret ?_
       have hE20 : specl09Leaf code ci ch = ((8, 0, 0, x19.1, (0, 0, ⟨#[]⟩)), x19.2.1, x19.2.2) := lt_b hx1 (bif_f h2 (bif_f h4 (bif_f h7 (bif_f h10 (bif_f h13 (bif_t h18 (lt_b hx19 (rfl))))))))
       exact gret [] (congrArg (fun z => (.a [.i z.1.1, .i z.1.2.1, .i z.1.2.2.1, .s z.1.2.2.2.1, .i z.1.2.2.2.2.1, .i z.1.2.2.2.2.2.1, .s z.1.2.2.2.2.2.2] : AV)) hE20.symm) (congrArg (fun z => ([.h code, .i ((z.2.1 : Nat) : Int), .i z.2.2] : List C)) hE20.symm)
      ·
       refine sn tt_ok [0, 2, 43] [2, 60000] (p0) ?_
       refine ck (x1.1 == (7 : Int)) (fun h21 => ?_) (fun h21 => ?_)
       ·
        obtain ⟨x22, hx22⟩ : ∃ z : ByteArray × Nat × Int, specl09DirName code x1.2.1 x1.2.2 = z := ⟨_, rfl⟩
        refine tn tt_ok [0, 2] [2, 60000] (po 1 (.give none (.s x22.1) [.h code, .i ((x22.2.1 : Nat) : Int), .i x22.2.2]) (px (ob_give (hx22 ▸ specl09DirName_a code x1.2.1 x1.2.2)) p0)) ?_
        refine awp_ret ?_
        have hE23 : specl09Leaf code ci ch = ((9, 0, 0, x22.1, (0, 0, ⟨#[]⟩)), x22.2.1, x22.2.2) := lt_b hx1 (bif_f h2 (bif_f h4 (bif_f h7 (bif_f h10 (bif_f h13 (bif_f h18 (bif_t h21 (lt_b hx22 (rfl)))))))))
        exact gret [] (congrArg (fun z => (.a [.i z.1.1, .i z.1.2.1, .i z.1.2.2.1, .s z.1.2.2.2.1, .i z.1.2.2.2.2.1, .i z.1.2.2.2.2.2.1, .s z.1.2.2.2.2.2.2] : AV)) hE23.symm) (congrArg (fun z => ([.h code, .i ((z.2.1 : Nat) : Int), .i z.2.2] : List C)) hE23.symm)
       ·
        refine awp_skip ?_
        obtain ⟨x24, hx24⟩ : ∃ z : Int × Nat × Int, specl01Below code x1.2.1 x1.2.2 4 = z := ⟨_, rfl⟩
        have hbx24 := hx24 ▸ specl01Below_bd code x1.2.1 x1.2.2 4
        refine tn tt_ok [0, 2] [2, 60000] (po 1 (.give none (.i x24.1) [.h code, .i ((x24.2.1 : Nat) : Int), .i x24.2.2]) (px (ob_give (hx24 ▸ specl01Below_a code x1.2.1 x1.2.2 4)) (pc 2 (specIntValue_a x24.1) p0))) ?_
        refine awp_ret ?_
        have hE25 : specl09Leaf code ci ch = ((3, 0, 0, ⟨#[98]⟩, (specIntValue x24.1)), x24.2.1, x24.2.2) := lt_b hx1 (bif_f h2 (bif_f h4 (bif_f h7 (bif_f h10 (bif_f h13 (bif_f h18 (bif_f h21 (lt_b hx24 (rfl)))))))))
        exact gret [] (congrArg (fun z => (.a [.i z.1.1, .i z.1.2.1, .i z.1.2.2.1, .s z.1.2.2.2.1, .i z.1.2.2.2.2.1, .i z.1.2.2.2.2.2.1, .s z.1.2.2.2.2.2.2] : AV)) hE25.symm) (congrArg (fun z => ([.h code, .i ((z.2.1 : Nat) : Int), .i z.2.2] : List C)) hE25.symm)
def specl09Grow (n_ : Nat) (code : (List UInt8)) (ci : Nat) (ch : Int) (q : (List NodeD)) (deep : Int) (not : Bool) : (List NodeD) × Nat × Int := match n_ with
 | 0 => default
 | n_ + 1 => (bif (deep == (0 : Int)) then (lt (α := NodeD × Nat × Int) (specl09Leaf code ci ch) (fun x2 => (q ++ [x2.1], x2.2.1, x2.2.2))) else (lt (α := Bool × Nat × Int) (specl01Once code ci ch 3) (fun x6 => (bif x6.1 then (lt (α := NodeD × Nat × Int) (specl09Leaf code x6.2.1 x6.2.2) (fun x8 => (q ++ [x8.1], x8.2.1, x8.2.2))) else (lt (α := Int × Nat × Int) (specl01Below code x6.2.1 x6.2.2 5) (fun x12 => (bif ((x12.1 == (0 : Int)) && not) then (lt (α := (List NodeD) × Nat × Int) (specl09Grow n_ code x12.2.1 x12.2.2 q (deep - 1) true) (fun x15 => (x15.1 ++ [((5, ((x15.1.length : Int) - 1), 0, ⟨#[]⟩, (0, 0, ⟨#[]⟩)) : NodeD)], x15.2.1, x15.2.2))) else (lt (α := (List NodeD) × Nat × Int) (specl09Grow n_ code x12.2.1 x12.2.2 q (deep - 1) not) (fun x19 => (lt (α := (List NodeD) × Nat × Int) (specl09Grow n_ code x19.2.1 x19.2.2 x19.1 0 not) (fun x22 => (bif decide (x12.1 < (3 : Int)) then (x22.1 ++ [((6, ((x19.1.length : Int) - 1), ((x22.1.length : Int) - 1), ⟨#[]⟩, (0, 0, ⟨#[]⟩)) : NodeD)], x22.2.1, x22.2.2) else (x22.1 ++ [((7, ((x19.1.length : Int) - 1), ((x22.1.length : Int) - 1), ⟨#[]⟩, (0, 0, ⟨#[]⟩)) : NodeD)], x22.2.1, x22.2.2)))))))))))))
theorem grow_len (code : List UInt8) : ∀ (n ci : Nat) (ch : Int) (q : List NodeD) (deep : Int) (not_ : Bool), 0 ≤ deep → deep < n → q.length + 1 ≤ (specl09Grow n code ci ch q deep not_).1.length ∧ ((specl09Grow n code ci ch q deep not_).1.length : Int) ≤ q.length + 2 * deep + 1
  | 0, _, _, _, _, _, h0, h1 => by omega
  | n + 1, ci, ch, q, deep, not_, h0, h1 => by
    have ih := grow_len code n
    unfold specl09Grow lt
    by_cases hz : deep = 0
    · rw [beq_iff_eq.2 hz]
      simp only [cond_true, List.length_append, List.length_cons, List.length_nil]
      omega
    · rw [beq_eq_false_iff_ne.2 hz]
      simp only [cond_false]
      generalize specl01Once code ci ch 3 = x
      cases x.1 with
      | true =>
        simp only [cond_true, List.length_append, List.length_cons, List.length_nil]
        omega
      | false =>
        simp only [cond_false]
        generalize specl01Below code x.2.1 x.2.2 5 = y
        cases ((y.1 == (0 : Int)) && not_) with
        | true =>
          simp only [cond_true, List.length_append, List.length_cons, List.length_nil]
          have := ih y.2.1 y.2.2 q (deep - 1) true (by omega) (by omega)
          omega
        | false =>
          simp only [cond_false]
          have h2 := ih y.2.1 y.2.2 q (deep - 1) not_ (by omega) (by omega)
          generalize specl09Grow n code y.2.1 y.2.2 q (deep - 1) not_ = z at h2
          have h3 := ih z.2.1 z.2.2 z.1 0 not_ (by omega) (by omega)
          generalize specl09Grow n code z.2.1 z.2.2 z.1 0 not_ = u at h3
          cases decide (y.1 < (3 : Int)) <;> simp only [cond_true, cond_false, List.length_append, List.length_cons, List.length_nil] <;> omega
theorem specl09Grow_a : ∀ (n_ : Nat) (code : (List UInt8)) (ci : Nat) (ch : Int) (q : (List NodeD)) (deep : Int) (not : Bool) (hd : 0 ≤ deep) (hn : deep < (n_ : Int)) (hq : (List.length q : Int) + 2 * deep ≤ 1000), AGive Tryz.prog 210 [.h code, .i ((ci : Nat) : Int), .i ch] [.o 63 q, .i deep, .b not] (.o 0 (((specl09Grow n_ code ci ch q deep not)).1)) [.h code, .i ((((specl09Grow n_ code ci ch q deep not)).2.1 : Nat) : Int), .i (((specl09Grow n_ code ci ch q deep not)).2.2)] := by
 intro n_
 induction n_ with
 | zero => intro code ci ch q deep not hd hn hq; exact (by omega : False).elim
 | succ n_ ih =>
  intro code ci ch q deep not hd hn hq
  refine agive_of (tt := tt) tt_ok Tryz.func210 (fn := Tryz.f210) rfl (by unfold FnOk; kernel_rfl) (Nat.le_of_ble_eq_true rfl) (Nat.le_of_ble_eq_true rfl) rfl rfl fun w0 F0 hG => ?_
  refine su tt_ok [(8, .e 0)] [] [] [] (p0) ?_
  refine awp_seq ?_
  refine awp_seq ?_
  refine awp_split (deep == (0 : Int)) (fun h1 => ?_) (fun h1 => ?_)
  ·
   have h1d := eq_of_beq h1
   refine ru tt_ok [(16, .b true)] [] [] [] (pt 1 h1 p0) ?_
   refine ckT ?_
   obtain ⟨x2, hx2⟩ : ∃ z : NodeD × Nat × Int, specl09Leaf code ci ch = z := ⟨_, rfl⟩
   refine wT 1 0 (.own true 63) q (fun hw3 hl4 => ?_)
   refine su tt_ok [(8, .one (.slc (.own true 1344) 7 ((eL q) ++ [[.i x2.1.1, .i x2.1.2.1, .i x2.1.2.2.1, .s x2.1.2.2.2.1, .i x2.1.2.2.2.2.1, .i x2.1.2.2.2.2.2.1, .s x2.1.2.2.2.2.2.2]])))] [1, 8, 16] [(60000, [.h code, .i ((x2.2.1 : Nat) : Int), .i x2.2.2])] [60000] (po 2 (.give none (.a [.i x2.1.1, .i x2.1.2.1, .i x2.1.2.2.1, .s x2.1.2.2.2.1, .i x2.1.2.2.2.2.1, .i x2.1.2.2.2.2.2.1, .s x2.1.2.2.2.2.2.2]) [.h code, .i ((x2.2.1 : Nat) : Int), .i x2.2.2]) (px (ob_give (hx2 ▸ specl09Leaf_a code ci ch)) (pa q [x2.1] p0))) ?_
   refine eqn [(8, .o 1344 (q ++ [x2.1]))] [8] [] [] (by rw [show ((eL q) ++ [[.i x2.1.1, .i x2.1.2.1, .i x2.1.2.2.1, .s x2.1.2.2.2.1, .i x2.1.2.2.2.2.1, .i x2.1.2.2.2.2.2.1, .s x2.1.2.2.2.2.2.2]]) = (eL (q ++ [x2.1])) from app_eL (rfl) (rfl)]; first | done | kernel_rfl) ?_
   refine awp_ret ?_
   have hE5 : specl09Grow (n_ + 1) code ci ch q deep not = (q ++ [x2.1], x2.2.1, x2.2.2) := bif_t h1 (lt_b hx2 (rfl))
   exact gret [] (congrArg (fun z => (.o 0 z.1 : AV)) hE5.symm) (congrArg (fun z => ([.h code, .i ((z.2.1 : Nat) : Int), .i z.2.2] : List C)) hE5.symm)
  ·
   have h1d := ne_of_beq h1
   obtain ⟨x6, hx6⟩ : ∃ z : Bool × Nat × Int, specl01Once code ci ch 3 = z := ⟨_, rfl⟩
   refine rn tt_ok [0, 1, 2, 3, 8, 16] [60000] (pf 1 h1 (po 4 (.give none (.b x6.1) [.h code, .i ((x6.2.1 : Nat) : Int), .i x6.2.2]) (px (ob_give (hx6 ▸ specl01Once_a code ci ch 3)) p0))) ?_
   refine ck x6.1 (fun h7 => ?_) (fun h7 => ?_)
   ·
    obtain ⟨x8, hx8⟩ : ∃ z : NodeD × Nat × Int, specl09Leaf code x6.2.1 x6.2.2 = z := ⟨_, rfl⟩
    refine wT 1 0 (.own true 63) q (fun hw9 hl10 => ?_)
    refine tu tt_ok [(8, .one (.slc (.own true 1344) 7 ((eL q) ++ [[.i x8.1.1, .i x8.1.2.1, .i x8.1.2.2.1, .s x8.1.2.2.2.1, .i x8.1.2.2.2.2.1, .i x8.1.2.2.2.2.2.1, .s x8.1.2.2.2.2.2.2]])))] [1, 8] [(60000, [.h code, .i ((x8.2.1 : Nat) : Int), .i x8.2.2])] [60000] (po 2 (.give none (.a [.i x8.1.1, .i x8.1.2.1, .i x8.1.2.2.1, .s x8.1.2.2.2.1, .i x8.1.2.2.2.2.1, .i x8.1.2.2.2.2.2.1, .s x8.1.2.2.2.2.2.2]) [.h code, .i ((x8.2.1 : Nat) : Int), .i x8.2.2]) (px (ob_give (hx8 ▸ specl09Leaf_a code x6.2.1 x6.2.2)) (pa q [x8.1] p0))) ?_
    refine eqn [(8, .o 1344 (q ++ [x8.1]))] [8] [] [] (by rw [show ((eL q) ++ [[.i x8.1.1, .i x8.1.2.1, .i x8.1.2.2.1, .s x8.1.2.2.2.1, .i x8.1.2.2.2.2.1, .i x8.1.2.2.2.2.2.1, .s x8.1.2.2.2.2.2.2]]) = (eL (q ++ [x8.1])) from app_eL (rfl) (rfl)]; first | done | kernel_rfl) ?_
    refine awp_ret ?_
    have hE11 : specl09Grow (n_ + 1) code ci ch q deep not = (q ++ [x8.1], x8.2.1, x8.2.2) := bif_f h1 (lt_b hx6 (bif_t h7 (lt_b hx8 (rfl))))
    exact gret [] (congrArg (fun z => (.o 0 z.1 : AV)) hE11.symm) (congrArg (fun z => ([.h code, .i ((z.2.1 : Nat) : Int), .i z.2.2] : List C)) hE11.symm)
   ·
    refine awp_skip ?_
    obtain ⟨x12, hx12⟩ : ∃ z : Int × Nat × Int, specl01Below code x6.2.1 x6.2.2 5 = z := ⟨_, rfl⟩
    have hbx12 := hx12 ▸ specl01Below_bd code x6.2.1 x6.2.2 5
    refine tn tt_ok [0, 1, 2, 3, 8, 9] [60000] (po 1 (.give none (.i x12.1) [.h code, .i ((x12.2.1 : Nat) : Int), .i x12.2.2]) (px (ob_give (hx12 ▸ specl01Below_a code x6.2.1 x6.2.2 5)) p0)) ?_
    refine awp_seq ?_
    refine awp_seq ?_
    refine mz [(9, .i x12.1)] [] [(60000, [.h code, .i ((x12.2.1 : Nat) : Int), .i x12.2.2])] [60000] ?_
    refine jn [(28, .b ((x12.1 == (0 : Int)) && not))] [] [] [] (x12.1 == (0 : Int)) (fun h13 => ?_) (fun h13 => ?_) ?_
    ·
     refine ru tt_ok [(28, .b not)] [] [] [] (pt 1 h13 p0) ?_
     exact ⟨rfl, weak_fit (by rw [h13]; first | done | kernel_rfl)⟩
    ·
     refine ru tt_ok [(28, .b false)] [] [] [] (pf 1 h13 p0) ?_
     exact ⟨rfl, weak_fit (by rw [h13]; first | done | kernel_rfl)⟩
    refine ck ((x12.1 == (0 : Int)) && not) (fun h14 => ?_) (fun h14 => ?_)
    ·
     have h14l : ((x12.1 == (0 : Int))) = true := and_l h14
     have h14ld := eq_of_beq h14l
     have h14r : (not) = true := and_r h14
     obtain ⟨x15, hx15⟩ : ∃ z : (List NodeD) × Nat × Int, specl09Grow n_ code x12.2.1 x12.2.2 q (deep - 1) true = z := ⟨_, rfl⟩
     have hbx15 := hx15 ▸ grow_len code n_ x12.2.1 x12.2.2 q (deep - 1) true (by omega) (by omega)
     refine sn tt_ok [0, 1, 2, 3, 8, 9] [60000] (pe 3 (av_i (IntWalk.i64_in (deep - 1) (by omega))) (pt 4 h14r (po 5 (.give (some 63) (.o 0 x15.1) [.h code, .i ((x15.2.1 : Nat) : Int), .i x15.2.2]) (px (ob_give (hx15 ▸ ih code x12.2.1 x12.2.2 q (deep - 1) true (by omega) (by omega) (by omega))) p0)))) ?_
     refine wT 1 0 (.own true 2176) x15.1 (fun hw16 hl17 => ?_)
     refine tu tt_ok [(8, .one (.slc (.own true 2624) 7 ((eL x15.1) ++ [[.i 5, .i ((x15.1.length : Int) - 1), .i 0, .s ⟨#[]⟩, .i 0, .i 0, .s ⟨#[]⟩]])))] [1, 8, 28] [(60000, [.h code, .i ((x15.2.1 : Nat) : Int), .i x15.2.2])] [60000] (pl 2 x15.1 (pe 3 (av_i (IntWalk.i64_in ((x15.1.length : Int) - 1) (by omega))) (pa x15.1 [((5, ((x15.1.length : Int) - 1), 0, ⟨#[]⟩, (0, 0, ⟨#[]⟩)) : NodeD)] p0))) ?_
     refine eqn [(8, .o 2624 (x15.1 ++ [((5, ((x15.1.length : Int) - 1), 0, ⟨#[]⟩, (0, 0, ⟨#[]⟩)) : NodeD)]))] [8] [] [] (by rw [show ((eL x15.1) ++ [[.i 5, .i ((x15.1.length : Int) - 1), .i 0, .s ⟨#[]⟩, .i 0, .i 0, .s ⟨#[]⟩]]) = (eL (x15.1 ++ [((5, ((x15.1.length : Int) - 1), 0, ⟨#[]⟩, (0, 0, ⟨#[]⟩)) : NodeD)])) from app_eL (rfl) (rfl)]; first | done | kernel_rfl) ?_
     refine awp_ret ?_
     have hE18 : specl09Grow (n_ + 1) code ci ch q deep not = (x15.1 ++ [((5, ((x15.1.length : Int) - 1), 0, ⟨#[]⟩, (0, 0, ⟨#[]⟩)) : NodeD)], x15.2.1, x15.2.2) := bif_f h1 (lt_b hx6 (bif_f h7 (lt_b hx12 (bif_t h14 (lt_b hx15 (rfl))))))
     exact gret [] (congrArg (fun z => (.o 0 z.1 : AV)) hE18.symm) (congrArg (fun z => ([.h code, .i ((z.2.1 : Nat) : Int), .i z.2.2] : List C)) hE18.symm)
    ·
     refine awp_skip ?_
     obtain ⟨x19, hx19⟩ : ∃ z : (List NodeD) × Nat × Int, specl09Grow n_ code x12.2.1 x12.2.2 q (deep - 1) not = z := ⟨_, rfl⟩
     have hbx19 := hx19 ▸ grow_len code n_ x12.2.1 x12.2.2 q (deep - 1) not (by omega) (by omega)
     refine sn tt_ok [0, 1, 3, 8, 9] [60000] (pe 3 (av_i (IntWalk.i64_in (deep - 1) (by omega))) (po 5 (.give (some 63) (.o 0 x19.1) [.h code, .i ((x19.2.1 : Nat) : Int), .i x19.2.2]) (px (ob_give (hx19 ▸ ih code x12.2.1 x12.2.2 q (deep - 1) not (by omega) (by omega) (by omega))) p0))) ?_
     refine wT 1 0 (.own true 3008) x19.1 (fun hw20 hl21 => ?_)
     refine tn tt_ok [0, 1, 3, 8, 9, 10] [60000] (pl 1 x19.1 (pe 2 (av_i (IntWalk.i64_in ((x19.1.length : Int) - 1) (by omega))) p0)) ?_
     obtain ⟨x22, hx22⟩ : ∃ z : (List NodeD) × Nat × Int, specl09Grow n_ code x19.2.1 x19.2.2 x19.1 0 not = z := ⟨_, rfl⟩
     have hbx22 := hx22 ▸ grow_len code n_ x19.2.1 x19.2.2 x19.1 0 not (by omega) (by omega)
     refine tu tt_ok [(1, .o 3456 x22.1), (10, .i ((x19.1.length : Int) - 1))] [1, 2, 3, 28] [(60000, [.h code, .i ((x22.2.1 : Nat) : Int), .i x22.2.2])] [60000] (po 3 (.give (some 3008) (.o 0 x22.1) [.h code, .i ((x22.2.1 : Nat) : Int), .i x22.2.2]) (px (ob_give (hx22 ▸ ih code x19.2.1 x19.2.2 x19.1 0 not (by omega) (by omega) (by omega))) p0)) ?_
     refine awp_seq ?_
     refine sn tt_ok [0, 1, 8, 10, 56] [60000] (p0) ?_
     refine ck (decide (x12.1 < (3 : Int))) (fun h23 => ?_) (fun h23 => ?_)
     ·
      have h23d := of_decide_eq_true h23
      refine wT 1 0 (.own true 3456) x22.1 (fun hw24 hl25 => ?_)
      refine tu tt_ok [(8, .one (.slc (.own true 4096) 7 ((eL x22.1) ++ [[.i 6, .i ((x19.1.length : Int) - 1), .i ((x22.1.length : Int) - 1), .s ⟨#[]⟩, .i 0, .i 0, .s ⟨#[]⟩]])))] [1, 8, 9] [] [] (pl 3 x22.1 (pe 4 (av_i (IntWalk.i64_in ((x22.1.length : Int) - 1) (by omega))) (pa x22.1 [((6, ((x19.1.length : Int) - 1), ((x22.1.length : Int) - 1), ⟨#[]⟩, (0, 0, ⟨#[]⟩)) : NodeD)] p0))) ?_
      refine eqn [(8, .o 4096 (x22.1 ++ [((6, ((x19.1.length : Int) - 1), ((x22.1.length : Int) - 1), ⟨#[]⟩, (0, 0, ⟨#[]⟩)) : NodeD)]))] [8] [] [] (by rw [show ((eL x22.1) ++ [[.i 6, .i ((x19.1.length : Int) - 1), .i ((x22.1.length : Int) - 1), .s ⟨#[]⟩, .i 0, .i 0, .s ⟨#[]⟩]]) = (eL (x22.1 ++ [((6, ((x19.1.length : Int) - 1), ((x22.1.length : Int) - 1), ⟨#[]⟩, (0, 0, ⟨#[]⟩)) : NodeD)])) from app_eL (rfl) (rfl)]; first | done | kernel_rfl) ?_
      refine awp_ret ?_
      have hE26 : specl09Grow (n_ + 1) code ci ch q deep not = (x22.1 ++ [((6, ((x19.1.length : Int) - 1), ((x22.1.length : Int) - 1), ⟨#[]⟩, (0, 0, ⟨#[]⟩)) : NodeD)], x22.2.1, x22.2.2) := bif_f h1 (lt_b hx6 (bif_f h7 (lt_b hx12 (bif_f h14 (lt_b hx19 (lt_b hx22 (bif_t h23 (rfl))))))))
      exact gret [] (congrArg (fun z => (.o 0 z.1 : AV)) hE26.symm) (congrArg (fun z => ([.h code, .i ((z.2.1 : Nat) : Int), .i z.2.2] : List C)) hE26.symm)
     ·
      have h23d := of_decide_eq_false h23
      refine awp_skip ?_
      refine wT 1 0 (.own true 3456) x22.1 (fun hw27 hl28 => ?_)
      refine tu tt_ok [(8, .one (.slc (.own true 4608) 7 ((eL x22.1) ++ [[.i 7, .i ((x19.1.length : Int) - 1), .i ((x22.1.length : Int) - 1), .s ⟨#[]⟩, .i 0, .i 0, .s ⟨#[]⟩]])))] [1, 8, 9, 10] [] [] (pl 3 x22.1 (pe 4 (av_i (IntWalk.i64_in ((x22.1.length : Int) - 1) (by omega))) (pa x22.1 [((7, ((x19.1.length : Int) - 1), ((x22.1.length : Int) - 1), ⟨#[]⟩, (0, 0, ⟨#[]⟩)) : NodeD)] p0))) ?_
      refine eqn [(8, .o 4608 (x22.1 ++ [((7, ((x19.1.length : Int) - 1), ((x22.1.length : Int) - 1), ⟨#[]⟩, (0, 0, ⟨#[]⟩)) : NodeD)]))] [8] [] [] (by rw [show ((eL x22.1) ++ [[.i 7, .i ((x19.1.length : Int) - 1), .i ((x22.1.length : Int) - 1), .s ⟨#[]⟩, .i 0, .i 0, .s ⟨#[]⟩]]) = (eL (x22.1 ++ [((7, ((x19.1.length : Int) - 1), ((x22.1.length : Int) - 1), ⟨#[]⟩, (0, 0, ⟨#[]⟩)) : NodeD)])) from app_eL (rfl) (rfl)]; first | done | kernel_rfl) ?_
      refine awp_ret ?_
      have hE29 : specl09Grow (n_ + 1) code ci ch q deep not = (x22.1 ++ [((7, ((x19.1.length : Int) - 1), ((x22.1.length : Int) - 1), ⟨#[]⟩, (0, 0, ⟨#[]⟩)) : NodeD)], x22.2.1, x22.2.2) := bif_f h1 (lt_b hx6 (bif_f h7 (lt_b hx12 (bif_f h14 (lt_b hx19 (lt_b hx22 (bif_f h23 (rfl))))))))
      exact gret [] (congrArg (fun z => (.o 0 z.1 : AV)) hE29.symm) (congrArg (fun z => ([.h code, .i ((z.2.1 : Nat) : Int), .i z.2.2] : List C)) hE29.symm)
def specl09Question (code : (List UInt8)) (ci : Nat) (ch : Int) : (List NodeD) × Nat × Int := (lt (α := Int × Nat × Int) (specl01Below code ci ch 4) (fun x1 => (lt (α := (List NodeD) × Nat × Int) (specl09Grow (Int.toNat x1.1 + 1) code x1.2.1 x1.2.2 [] x1.1 true) (fun x2 => (x2.1, x2.2.1, x2.2.2)))))
theorem ques_len (code : List UInt8) (ci : Nat) (ch : Int) : 1 ≤ (specl09Question code ci ch).1.length ∧ (specl09Question code ci ch).1.length ≤ 7 := by
 unfold specl09Question lt
 have hb := specl01Below_bd code ci ch 4
 generalize specl01Below code ci ch 4 = x at hb
 have h := grow_len code (Int.toNat x.1 + 1) x.2.1 x.2.2 [] x.1 true (by omega) (by omega)
 simp only [List.length_nil] at h
 simp only
 omega
theorem specl09Question_a (code : (List UInt8)) (ci : Nat) (ch : Int) : AGive Tryz.prog 161 [.h code, .i ((ci : Nat) : Int), .i ch] [] (.o 0 (((specl09Question code ci ch)).1)) [.h code, .i ((((specl09Question code ci ch)).2.1 : Nat) : Int), .i (((specl09Question code ci ch)).2.2)] := by
 refine agive_of (tt := tt) tt_ok Tryz.func161 (fn := Tryz.f161) rfl (by unfold FnOk; kernel_rfl) (Nat.le_of_ble_eq_true rfl) (Nat.le_of_ble_eq_true rfl) rfl rfl fun w0 F0 hG => ?_
 refine sn tt_ok [0, 2] [60000] (p0) ?_
 obtain ⟨x1, hx1⟩ : ∃ z : Int × Nat × Int, specl01Below code ci ch 4 = z := ⟨_, rfl⟩
 have hbx1 := hx1 ▸ specl01Below_bd code ci ch 4
 obtain ⟨x2, hx2⟩ : ∃ z : (List NodeD) × Nat × Int, specl09Grow (Int.toNat x1.1 + 1) code x1.2.1 x1.2.2 [] x1.1 true = z := ⟨_, rfl⟩
 have hbx2 := hx2 ▸ grow_len code (Int.toNat x1.1 + 1) x1.2.1 x1.2.2 [] x1.1 true (by omega) (by omega)
 refine tn tt_ok [0, 2] [60000] (po 2 (.give none (.i x1.1) [.h code, .i ((x1.2.1 : Nat) : Int), .i x1.2.2]) (px (ob_give (hx1 ▸ specl01Below_a code ci ch 4)) (po 3 (.give none (.o 0 x2.1) [.h code, .i ((x2.2.1 : Nat) : Int), .i x2.2.2]) (px (ob_give (hx2 ▸ (specl09Grow_a (Int.toNat x1.1 + 1) code x1.2.1 x1.2.2 [] x1.1 true (by omega) (by omega) (by first | omega | (simp; omega))).emp (m := 0) (by simp [AV.cells, C.key, C.bkeys, Tok.key]))) p0)))) ?_
 refine awp_ret ?_
 have hE3 : specl09Question code ci ch = (x2.1, x2.2.1, x2.2.2) := lt_b hx1 (lt_b hx2 (rfl))
 exact gret [] (congrArg (fun z => (.o 0 z.1 : AV)) hE3.symm) (congrArg (fun z => ([.h code, .i ((z.2.1 : Nat) : Int), .i z.2.2] : List C)) hE3.symm)
def specl11Dirs_f0 (code : (List UInt8)) (s0 : (List DirD) × Int × Nat × Int) : Rd ((List DirD) × Nat × Int) ((List DirD) × Int × Nat × Int) ((List DirD) × Nat × Int) := (lt (α := Int × Nat × Int) (specl01Below code s0.2.2.1 s0.2.2.2 4) (fun x1 => (bif decide (s0.2.1 < (1 + x1.1)) then (lt (α := (List NodeD) × Nat × Int) (specl09Question code x1.2.1 x1.2.2) (fun x4 => (.next (s0.1 ++ [((nth ([⟨#[100, 97]⟩, ⟨#[100, 98]⟩, ⟨#[100, 99]⟩, ⟨#[100, 100]⟩] : (List ByteArray)) (Int.toNat s0.2.1)), x4.1)], (s0.2.1 + 1), x4.2.1, x4.2.2)))) else (.brk (s0.1, x1.2.1, x1.2.2)))))
def specl11Dirs (code : (List UInt8)) (ci : Nat) (ch : Int) : (List DirD) × Nat × Int := (Out.on (whlD (specl11Dirs_f0 code) 5 ([], 0, ci, ch)) (fun y0 => (y0.1, y0.2.1, y0.2.2)))
theorem specl11Dirs_w (code : List UInt8) (ci : Nat) (ch : Int) : (whl (specl11Dirs_f0 code) 5 ([], 0, ci, ch)).isSome = true :=
  whl_up (fun s => s.2.1) 4 (fun s s' h0 h => by
    unfold specl11Dirs_f0 lt at h
    have hb := specl01Below_bd code s.2.2.1 s.2.2.2 4
    generalize specl01Below code s.2.2.1 s.2.2.2 4 = x at h hb
    by_cases hc : s.2.1 < 1 + x.1
    · simp only [decide_eq_true hc, cond_true] at h
      have h := Rd.next.inj h
      rw [← h]
      exact ⟨by omega, rfl⟩
    · simp only [decide_eq_false hc, cond_false] at h
      cases h) 4 _ (by show (0 : Int) ≤ 0; decide) (by show (4 : Int) ≤ 0 + 4; decide)
theorem specl11Dirs_a (code : (List UInt8)) (ci : Nat) (ch : Int) : AGive Tryz.prog 152 [.h code, .i ((ci : Nat) : Int), .i ch] [] (.o 0 (((specl11Dirs code ci ch)).1)) [.h code, .i ((((specl11Dirs code ci ch)).2.1 : Nat) : Int), .i (((specl11Dirs code ci ch)).2.2)] := by
 refine agive_of (tt := tt) tt_ok Tryz.func152 (fn := Tryz.f152) rfl (by unfold FnOk; kernel_rfl) (Nat.le_of_ble_eq_true rfl) (Nat.le_of_ble_eq_true rfl) rfl rfl fun w0 F0 hG => ?_
 refine sn tt_ok [0, 2] [60000] (p0) ?_
 refine tn tt_ok [0, 2, 3] [60000] (p0) ?_
 refine awp_seq ?_
 refine tu tt_ok [(2, .e 0), (3, .one (.slc (.own true 320) 2 [])), (4, .i 0)] [] [] [] (p0) ?_
 refine blw (fun (s0 : (List DirD) × Int × Nat × Int) => [(3, .o 147202 s0.1), (4, .i s0.2.1)]) [3, 4] (fun s0 => [(60000, [.h code, .i ((s0.2.2.1 : Nat) : Int), .i s0.2.2.2])]) [60000] (fun (y0 : (List DirD) × Nat × Int) => [(3, .o 147352 y0.1)]) [3, 4] (fun y0 => [(60000, [.h code, .i ((y0.2.1 : Nat) : Int), .i y0.2.2])]) [60000] (fun (k0 : Nat) (s0 : (List DirD) × Int × Nat × Int) => whl (specl11Dirs_f0 code) k0 s0 = some (whlD (specl11Dirs_f0 code) 5 ([], 0, ci, ch)) ∧ 0 ≤ s0.2.1 ∧ (List.length s0.1 : Int) ≤ s0.2.1) (fun (y0 : (List DirD) × Nat × Int) => (whlD (specl11Dirs_f0 code) 5 ([], 0, ci, ch)) = .brk y0) 5 ([], 0, ci, ch) (weak_sf [(320, 147202)] (by kernel_rfl)) ⟨whl_some (specl11Dirs_w code ci ch), (by first | omega | (simp; done) | (dsimp only; omega)), (by first | omega | (simp; done) | (dsimp only; omega))⟩ (fun _ h => whl_zero h.1) (fun k0 s0 hI0 => ?_) (fun y0 hD0 => ?_)
 ·
  have hA0_0 := hI0.2.1
  have hA0_1 := hI0.2.2
  refine awp_seq ?_
  obtain ⟨x1, hx1⟩ : ∃ z : Int × Nat × Int, specl01Below code s0.2.2.1 s0.2.2.2 4 = z := ⟨_, rfl⟩
  have hbx1 := hx1 ▸ specl01Below_bd code s0.2.2.1 s0.2.2.2 4
  refine sn tt_ok [0, 2, 3, 4, 10] [60000] (po 2 (.give none (.i x1.1) [.h code, .i ((x1.2.1 : Nat) : Int), .i x1.2.2]) (px (ob_give (hx1 ▸ specl01Below_a code s0.2.2.1 s0.2.2.2 4)) (pe 3 (av_i (IntWalk.i64_in (1 + x1.1) (by omega))) p0))) ?_
  refine ck (decide (s0.2.1 < (1 + x1.1))) (fun h2 => ?_) (fun h2 => ?_)
  ·
   have h2d := of_decide_eq_true h2
   refine awp_skip ?_
   refine awp_seq ?_
   refine awp_block ?_
   have hx3 := ng ([⟨#[100, 97]⟩, ⟨#[100, 98]⟩, ⟨#[100, 99]⟩, ⟨#[100, 100]⟩] : (List ByteArray)) (Int.toNat s0.2.1) (by simp only [List.length_cons, List.length_nil]; omega)
   obtain ⟨x4, hx4⟩ : ∃ z : (List NodeD) × Nat × Int, specl09Question code x1.2.1 x1.2.2 = z := ⟨_, rfl⟩
   have hbx4 := hx4 ▸ ques_len code x1.2.1 x1.2.2
   refine wT 3 0 (.own true 147202) s0.1 (fun hw5 hl6 => ?_)
   refine qU tt_ok tt_mx [(3, .one (.slc (.own true 1408) 2 ((eL s0.1) ++ [[.s (nth ([⟨#[100, 97]⟩, ⟨#[100, 98]⟩, ⟨#[100, 99]⟩, ⟨#[100, 100]⟩] : (List ByteArray)) (Int.toNat s0.2.1)), .h x4.1]])))] [3] [(60000, [.h code, .i ((x4.2.1 : Nat) : Int), .i x4.2.2])] [60000] (pG 3 s0.2.1 hx3 (po 6 (.give none (.o 0 x4.1) [.h code, .i ((x4.2.1 : Nat) : Int), .i x4.2.2]) (px (ob_give (hx4 ▸ specl09Question_a code x1.2.1 x1.2.2)) (pa s0.1 [((nth ([⟨#[100, 97]⟩, ⟨#[100, 98]⟩, ⟨#[100, 99]⟩, ⟨#[100, 100]⟩] : (List ByteArray)) (Int.toNat s0.2.1)), x4.1)] p0)))) ?_
   refine eqn [(3, .o 1408 (s0.1 ++ [((nth ([⟨#[100, 97]⟩, ⟨#[100, 98]⟩, ⟨#[100, 99]⟩, ⟨#[100, 100]⟩] : (List ByteArray)) (Int.toNat s0.2.1)), x4.1)]))] [3] [] [] (by rw [show ((eL s0.1) ++ [[.s (nth ([⟨#[100, 97]⟩, ⟨#[100, 98]⟩, ⟨#[100, 99]⟩, ⟨#[100, 100]⟩] : (List ByteArray)) (Int.toNat s0.2.1)), .h x4.1]]) = (eL (s0.1 ++ [((nth ([⟨#[100, 97]⟩, ⟨#[100, 98]⟩, ⟨#[100, 99]⟩, ⟨#[100, 100]⟩] : (List ByteArray)) (Int.toNat s0.2.1)), x4.1)])) from app_eL (rfl) (rfl)]; first | done | kernel_rfl) ?_
   refine rn tt_ok [0, 2, 3, 4] [60000] (pe 1 (av_i (IntWalk.i64_in (s0.2.1 + 1) (by omega))) p0) ?_
   exact Exists.intro (s0.1 ++ [((nth ([⟨#[100, 97]⟩, ⟨#[100, 98]⟩, ⟨#[100, 99]⟩, ⟨#[100, 100]⟩] : (List ByteArray)) (Int.toNat s0.2.1)), x4.1)], (s0.2.1 + 1), x4.2.1, x4.2.2) (And.intro (weak_sf [(1408, 147202)] (by kernel_rfl)) ⟨wn hI0.1 (lt_b hx1 (bif_t h2 (lt_b hx4 (rfl)))), (by first | omega | (simp; omega)), (by first | omega | (simp; omega))⟩)
  ·
   refine awp_exit ?_
   exact Exists.intro (s0.1, x1.2.1, x1.2.2) (And.intro (weak_sf [(147202, 147352)] (by kernel_rfl)) (wb hI0.1 (lt_b hx1 (bif_f h2 (rfl)))))
 ·
  refine sn tt_ok [0, 2] [60000] (p0) ?_
  refine awp_ret ?_
  have hE7 : specl11Dirs code ci ch = (y0.1, y0.2.1, y0.2.2) := on_b hD0 (rfl)
  exact gret [] (congrArg (fun z => (.o 0 z.1 : AV)) hE7.symm) (congrArg (fun z => ([.h code, .i ((z.2.1 : Nat) : Int), .i z.2.2] : List C)) hE7.symm)
def specIsStratified (d : (List DirD)) : Bool := ((specStrata d)).2
theorem specIsStratified_a (d : (List DirD)) : ACalls Tryz.prog 153 [.h d] (.b (specIsStratified d)) := by
 refine en tt_ok Tryz.func153 fun w0 F0 hG => ?_
 refine sn tt_ok [0, 2] [] (p0) ?_
 refine tn tt_ok [2, 4] [] (pc 1 (specStrata_a d) p0) ?_
 refine tu tt_ok [(2, .b (((specStrata d)).2))] [0] [] [] (p0) ?_
 refine awp_ret ?_
 exact pb [] (show specIsStratified d = ((specStrata d)).2 from rfl)
def specl13Dirs_f0 (s0 : (List DirD)) : Rd ((List DirD) × Nat × Int) ((List DirD)) ((List DirD)) := (bif (decide ((s0.length : Int) > (0 : Int)) && (!(specIsStratified s0))) then (.next (List.take (Int.toNat ((s0.length : Int) - 1)) s0)) else (.brk s0))
def specl13Dirs (code : (List UInt8)) (ci : Nat) (ch : Int) : (List DirD) × Nat × Int := (lt (α := (List DirD) × Nat × Int) (specl11Dirs code ci ch) (fun x1 => (Out.on (whlD specl13Dirs_f0 (List.length x1.1 + 1) x1.1) (fun y0 => (bif ((y0.length : Int) == (0 : Int)) then ([((⟨#[100, 97]⟩, [((1, 0, 0, ⟨#[]⟩, (0, 0, ⟨#[]⟩)) : NodeD)]) : DirD)], x1.2.1, x1.2.2) else (y0, x1.2.1, x1.2.2))))))
theorem specl13Dirs_w (code : List UInt8) (d : List DirD) : (whl specl13Dirs_f0 (List.length d + 1) d).isSome = true :=
  whl_down (fun s => List.length s) (fun s s' h => by
    unfold specl13Dirs_f0 at h
    by_cases hc : ((s.length : Int) > 0)
    · simp only [decide_eq_true hc, Bool.true_and, cond_true] at h
      cases hs : specIsStratified s <;> simp only [hs, Bool.not_true, Bool.not_false, cond_true, cond_false] at h
      · have h := Rd.next.inj h
        rw [← h, List.length_take]
        omega
      · cases h
    · simp only [decide_eq_false hc, Bool.false_and, cond_false] at h
      cases h) _ _ (Nat.lt_succ_self _)
theorem l13_ne (code : List UInt8) (ci : Nat) (ch : Int) : 0 < (specl13Dirs code ci ch).1.length := by
  unfold specl13Dirs lt
  generalize specl11Dirs code ci ch = x
  obtain ⟨t, ht⟩ := whlD_brk (f := specl13Dirs_f0) (fun s r => by
    unfold specl13Dirs_f0
    generalize (decide ((s.length : Int) > (0 : Int)) && (!(specIsStratified s))) = c
    cases c <;> simp) (List.length x.1 + 1) x.1
  simp only [ht, Out.on]
  by_cases h : (t.length : Int) = 0
  · rw [beq_iff_eq.2 h]; exact Nat.zero_lt_one
  · rw [beq_eq_false_iff_ne.2 h]
    show 0 < t.length
    omega
theorem specl13Dirs_a (code : (List UInt8)) (ci : Nat) (ch : Int) : AGive Tryz.prog 103 [.h code, .i ((ci : Nat) : Int), .i ch] [] (.h (((specl13Dirs code ci ch)).1)) [.h code, .i ((((specl13Dirs code ci ch)).2.1 : Nat) : Int), .i (((specl13Dirs code ci ch)).2.2)] := by
 refine agive_of (tt := tt) tt_ok Tryz.func103 (fn := Tryz.f103) rfl (by unfold FnOk; kernel_rfl) (Nat.le_of_ble_eq_true rfl) (Nat.le_of_ble_eq_true rfl) rfl rfl fun w0 F0 hG => ?_
 refine sn tt_ok [0, 2] [60000] (p0) ?_
 obtain ⟨x1, hx1⟩ : ∃ z : (List DirD) × Nat × Int, specl11Dirs code ci ch = z := ⟨_, rfl⟩
 refine tn tt_ok [0, 2, 3] [60000] (po 1 (.give none (.o 0 x1.1) [.h code, .i ((x1.2.1 : Nat) : Int), .i x1.2.2]) (px (ob_give (hx1 ▸ specl11Dirs_a code ci ch)) p0)) ?_
 refine awp_seq ?_
 refine mz [(2, .e 0), (3, .o 320 x1.1)] [] [(60000, [.h code, .i ((x1.2.1 : Nat) : Int), .i x1.2.2])] [60000] ?_
 refine blw (fun (s0 : (List DirD)) => [(3, .h s0)]) [3] (fun s0 => []) [] (fun (y0 : (List DirD)) => [(3, .h y0)]) [3] (fun y0 => []) [] (fun (k0 : Nat) (s0 : (List DirD)) => whl specl13Dirs_f0 k0 s0 = some (whlD specl13Dirs_f0 (List.length x1.1 + 1) x1.1)) (fun (y0 : (List DirD)) => (whlD specl13Dirs_f0 (List.length x1.1 + 1) x1.1) = .brk y0) (List.length x1.1 + 1) x1.1 (weak_gf [] [320] [] [] (by kernel_rfl)) (whl_some (specl13Dirs_w code x1.1)) (fun _ h => whl_zero h) (fun k0 s0 hI0 => ?_) (fun y0 hD0 => ?_)
 ·
  refine awp_seq ?_
  refine awp_seq ?_
  refine jn [(13, .b (decide ((s0.length : Int) > (0 : Int)) && (!(specIsStratified s0))))] [] [] [] (decide ((s0.length : Int) > (0 : Int))) (fun h2 => ?_) (fun h2 => ?_) ?_
  ·
   refine rn tt_ok [0, 2, 3, 13] [60000] (pl 1 s0 (pt 2 h2 (pc 5 (specIsStratified_a s0) p0))) ?_
   exact ⟨rfl, weak_fit (by rw [h2]; first | done | kernel_rfl)⟩
  ·
   refine rn tt_ok [0, 2, 3, 13] [60000] (pl 1 s0 (pf 2 h2 p0)) ?_
   exact ⟨rfl, weak_fit (by rw [h2]; first | done | kernel_rfl)⟩
  refine ck (decide ((s0.length : Int) > (0 : Int)) && (!(specIsStratified s0))) (fun h3 => ?_) (fun h3 => ?_)
  ·
   have h3l : (decide ((s0.length : Int) > (0 : Int))) = true := and_l h3
   have h3ld := of_decide_eq_true h3l
   refine awp_skip ?_
   refine awp_block ?_
   refine wT 3 0 .sh s0 (fun hw4 hl5 => ?_)
   refine rn tt_ok [0, 2, 3] [60000] (pl 2 s0 (pe 3 (av_i (IntWalk.i64_in ((s0.length : Int) - 1) (by omega))) (pe 4 (av_take .sh 2 (Int.toNat ((s0.length : Int) - 1)) ((s0.length : Int) - 1) s0 rfl) (px (ob_rng (lo := 0) (hi := ((s0.length : Int) - 1)) (n := (List.length (eL s0))) (rng_of (by omega) (by omega) (by omega))) p0)))) ?_
   exact Exists.intro _ (And.intro (weak_fit (by kernel_rfl)) (wn hI0 (bif_t h3 (rfl))))
  ·
   refine awp_exit ?_
   exact Exists.intro _ (And.intro (weak_fit (by kernel_rfl)) (wb hI0 (bif_f h3 (rfl))))
 ·
  refine awp_seq ?_
  refine sn tt_ok [0, 2, 3, 21] [60000] (pl 1 y0 p0) ?_
  refine ck ((y0.length : Int) == (0 : Int)) (fun h6 => ?_) (fun h6 => ?_)
  ·
   refine qn tt_ok [0, 2, 3] [60000] (p0) ?_
   refine tu tt_ok [(2, .o 1600 [((⟨#[100, 97]⟩, [((1, 0, 0, ⟨#[]⟩, (0, 0, ⟨#[]⟩)) : NodeD)]) : DirD)])] [2, 3] [] [] (p0) ?_
   refine awp_ret ?_
   have hE7 : specl13Dirs code ci ch = ([((⟨#[100, 97]⟩, [((1, 0, 0, ⟨#[]⟩, (0, 0, ⟨#[]⟩)) : NodeD)]) : DirD)], x1.2.1, x1.2.2) := lt_b hx1 (on_b hD0 (bif_t h6 (rfl)))
   exact gret [1600] (congrArg (fun z => (.h z.1 : AV)) hE7.symm) (congrArg (fun z => ([.h code, .i ((z.2.1 : Nat) : Int), .i z.2.2] : List C)) hE7.symm)
  ·
   refine awp_skip ?_
   refine tn tt_ok [0, 2] [60000] (p0) ?_
   refine awp_ret ?_
   have hE8 : specl13Dirs code ci ch = (y0, x1.2.1, x1.2.2) := lt_b hx1 (on_b hD0 (bif_f h6 (rfl)))
   exact gret [] (congrArg (fun z => (.h z.1 : AV)) hE8.symm) (congrArg (fun z => ([.h code, .i ((z.2.1 : Nat) : Int), .i z.2.2] : List C)) hE8.symm)
def specl14Ids_f0 (code : (List UInt8)) (k0 : Nat) (s0 : (List Int) × Nat × Int) : Rd ((List Int) × Nat × Int) ((List Int) × Nat × Int) ((List Int) × Nat × Int) := (lt (α := Bool × Nat × Int) (specl01Once code s0.2.1 s0.2.2 2) (fun x1 => (bif x1.1 then (.next (s0.1 ++ [((k0 + 1 : Nat) : Int)], x1.2.1, x1.2.2)) else (.next (s0.1, x1.2.1, x1.2.2)))))
def specl14Ids_e0 (_ : Nat) (s0 : (List Int) × Nat × Int) : (List Int) × Nat × Int := (s0.1, s0.2.1, s0.2.2)
def specl14Ids (code : (List UInt8)) (ci : Nat) (ch : Int) : (List Int) × Nat × Int := (Out.on (forN (specl14Ids_f0 code) specl14Ids_e0 (Int.toNat ((8 : Int) - 1)) 0 ([], ci, ch)) (fun y0 => (y0.1, y0.2.1, y0.2.2)))
theorem specl14Ids_a (code : (List UInt8)) (ci : Nat) (ch : Int) : AGive Tryz.prog 105 [.h code, .i ((ci : Nat) : Int), .i ch] [] (.o 0 (((specl14Ids code ci ch)).1)) [.h code, .i ((((specl14Ids code ci ch)).2.1 : Nat) : Int), .i (((specl14Ids code ci ch)).2.2)] := by
 refine agive_of (tt := tt) tt_ok Tryz.func105 (fn := Tryz.f105) rfl (by unfold FnOk; kernel_rfl) (Nat.le_of_ble_eq_true rfl) (Nat.le_of_ble_eq_true rfl) rfl rfl fun w0 F0 hG => ?_
 refine sn tt_ok [0, 2] [60000] (p0) ?_
 refine tn tt_ok [0, 2, 3] [60000] (p0) ?_
 refine awp_seq ?_
 refine tu tt_ok [(2, .e 0), (3, .one (.slc (.own true 320) 1 [])), (4, .i 1)] [] [] [] (p0) ?_
 refine blN1b (specl14Ids_f0 code) specl14Ids_e0 (Int.toNat ((8 : Int) - 1)) ([], ci, ch) (fun k0 s0 => [(3, .o 147202 s0.1), (4, .i ((k0 + 1 : Nat) : Int))]) [3, 4] (fun _ s0 => [(60000, [.h code, .i ((s0.2.1 : Nat) : Int), .i s0.2.2])]) [60000] (fun y0 => [(3, .o 147352 y0.1)]) [3, 4] (fun y0 => [(60000, [.h code, .i ((y0.2.1 : Nat) : Int), .i y0.2.2])]) [60000] (fun k0 s0 => List.length s0.1 ≤ k0) (weak_sf [(320, 147202)] (by kernel_rfl)) (by simp) (fun k0 s0 hk0 hI0 => ?_) (fun k0 s0 hk0 hI0 => ?_) (fun y0 hD0 => ?_)
 ·
  have hA0_0 := hI0.2
  refine awp_seq ?_
  refine su tt_ok [(7, .b true)] [] [] [] (pe 1 (av_bool (decide_eq_true (p := ((k0 + 1 : Nat) : Int) < (8 : Int)) (by omega))) p0) ?_
  refine ckT ?_
  refine awp_skip ?_
  refine awp_seq ?_
  refine awp_block ?_
  obtain ⟨x1, hx1⟩ : ∃ z : Bool × Nat × Int, specl01Once code s0.2.1 s0.2.2 2 = z := ⟨_, rfl⟩
  refine sn tt_ok [0, 2, 3, 4, 11] [60000] (po 1 (.give none (.b x1.1) [.h code, .i ((x1.2.1 : Nat) : Int), .i x1.2.2]) (px (ob_give (hx1 ▸ specl01Once_a code s0.2.1 s0.2.2 2)) p0)) ?_
  refine ck x1.1 (fun h2 => ?_) (fun h2 => ?_)
  ·
   refine wT 3 0 (.own true 147202) s0.1 (fun hw3 hl4 => ?_)
   refine qu tt_ok [(3, .one (.slc (.own true 960) 1 ((eL s0.1) ++ [[.i ((k0 + 1 : Nat) : Int)]])))] [3, 7] [(60000, [.h code, .i ((x1.2.1 : Nat) : Int), .i x1.2.2])] [60000] (pa s0.1 [((k0 + 1 : Nat) : Int)] p0) ?_
   refine eqn [(3, .o 960 (s0.1 ++ [((k0 + 1 : Nat) : Int)]))] [3] [] [] (by rw [show ((eL s0.1) ++ [[.i ((k0 + 1 : Nat) : Int)]]) = (eL (s0.1 ++ [((k0 + 1 : Nat) : Int)])) from app_eL (rfl) (rfl)]; first | done | kernel_rfl) ?_
   refine rn tt_ok [0, 2, 3, 4] [60000] (pe 1 (show .i (IntKind.i64.wrap (((k0 + 1 : Nat) : Int) + 1)) = .i ((k0 + 2 : Nat) : Int) from av_i ((IntWalk.i64_in _ (by omega)).trans (by omega))) p0) ?_
   exact Exists.intro (s0.1 ++ [((k0 + 1 : Nat) : Int)], x1.2.1, x1.2.2) (And.intro (weak_sf [(960, 147202)] (by kernel_rfl)) ⟨forN_next hk0 (lt_b hx1 (bif_t h2 (rfl))) hI0.1, by first | omega | (simp; omega) | simp⟩)
  ·
   refine awp_skip ?_
   refine qn tt_ok [0, 2, 3, 4] [60000] (pe 1 (show .i (IntKind.i64.wrap (((k0 + 1 : Nat) : Int) + 1)) = .i ((k0 + 2 : Nat) : Int) from av_i ((IntWalk.i64_in _ (by omega)).trans (by omega))) p0) ?_
   exact Exists.intro (s0.1, x1.2.1, x1.2.2) (And.intro (weak_fit (by kernel_rfl)) ⟨forN_next hk0 (lt_b hx1 (bif_f h2 (rfl))) hI0.1, by first | omega | (simp; omega) | simp⟩)
 ·
  have hA0_0 := hI0.2
  refine awp_seq ?_
  refine sn tt_ok [0, 2, 3, 4, 7] [60000] (pe 1 (av_bool (decide_eq_false (p := ((k0 + 1 : Nat) : Int) < (8 : Int)) (by omega))) p0) ?_
  refine ckF ?_
  refine awp_exit ?_
  exact Exists.intro _ (And.intro (weak_sf [(147202, 147352)] (by kernel_rfl)) (forN_end hk0 (rfl) hI0.1))
 ·
  refine sn tt_ok [0, 2] [60000] (p0) ?_
  refine awp_ret ?_
  have hE5 : specl14Ids code ci ch = (y0.1, y0.2.1, y0.2.2) := on_b hD0 (rfl)
  exact gret [] (congrArg (fun z => (.o 0 z.1 : AV)) hE5.symm) (congrArg (fun z => ([.h code, .i ((z.2.1 : Nat) : Int), .i z.2.2] : List C)) hE5.symm)
def specl01PickInt (code : (List UInt8)) (ci : Nat) (ch : Int) (list : (List Int)) : Int × Nat × Int := (lt (α := Int × Nat × Int) (specl01Below code ci ch (list.length : Int)) (fun x1 => ((nth list (Int.toNat x1.1)), x1.2.1, x1.2.2)))
theorem specl01PickInt_a (code : (List UInt8)) (ci : Nat) (ch : Int) (list : (List Int)) (hp : 0 < List.length list) : AGive Tryz.prog 107 [.h code, .i ((ci : Nat) : Int), .i ch] [.h list] (.i (((specl01PickInt code ci ch list)).1)) [.h code, .i ((((specl01PickInt code ci ch list)).2.1 : Nat) : Int), .i (((specl01PickInt code ci ch list)).2.2)] := by
 refine agive_of (tt := tt) tt_ok Tryz.func107 (fn := Tryz.f107) rfl (by unfold FnOk; kernel_rfl) (Nat.le_of_ble_eq_true rfl) (Nat.le_of_ble_eq_true rfl) rfl rfl fun w0 F0 hG => ?_
 refine sn tt_ok [0, 1, 4] [60000] (p0) ?_
 obtain ⟨x1, hx1⟩ : ∃ z : Int × Nat × Int, specl01Below code ci ch (list.length : Int) = z := ⟨_, rfl⟩
 have hbx1 := hx1 ▸ specl01Below_bd code ci ch (list.length : Int)
 refine wT 1 0 .sh list (fun hw3 hl4 => ?_)
 have hx2 := ng list (Int.toNat x1.1)
 refine tn tt_ok [0, 4] [60000] (pl 3 list (po 4 (.give none (.i x1.1) [.h code, .i ((x1.2.1 : Nat) : Int), .i x1.2.2]) (px (ob_give (hx1 ▸ specl01Below_a code ci ch (list.length : Int))) (pg 5 x1.1 hx2 p0)))) ?_
 refine awp_ret ?_
 have hE5 : specl01PickInt code ci ch list = ((nth list (Int.toNat x1.1)), x1.2.1, x1.2.2) := lt_b hx1 (rfl)
 exact gret [] (congrArg (fun z => (.i z.1 : AV)) hE5.symm) (congrArg (fun z => ([.h code, .i ((z.2.1 : Nat) : Int), .i z.2.2] : List C)) hE5.symm)
end Go.Proofs.YtcnkkobgogmakaaGreat
namespace Go.Proofs.YtcnkkobgogmakaaGreat
open Go.RowKit
def stA (l : List AttrD) (nm : ByteArray) (v : ValueD) : List AttrD := (specSetAttr (0, 0, false, 0, l) nm v).2.2.2.2
theorem setAttr_at (f : FileD) (nm : ByteArray) (v : ValueD) : specSetAttr f nm v = (f.1, f.2.1, f.2.2.1, f.2.2.2.1, stA f.2.2.2.2 nm v) := by
  obtain ⟨a, b, c, d, l⟩ := f
  unfold stA specSetAttr
  dsimp only
  rw [forL_filter (f := specSetAttr_f0 nm) (e := specSetAttr_e0) (p := fun a => !(a.1.toList == nm.toList)) (g := id) (fun _ _ _ => rfl)]
  simp only [Out.on]
  cases (v.1 != (0 : Int)) with
  | false => rfl
  | true =>
    simp only [cond_true]
    generalize specSetAttr_e0 _ _ = l'
    obtain ⟨t, ht⟩ := forL_noret (f := specSetAttr_f1 nm) (e := specSetAttr_e1) (fun k a s r => by
      unfold specSetAttr_f1
      generalize (Op.bytesLess a.1.toList nm.toList || a.1.toList == nm.toList) = c
      cases c <;> simp) l' 0 ()
    rw [ht]
def ints4 : List Int := [0, 1, 2, 3]
def A1 : List (List AttrD) := [] :: ints4.map fun n => stA [] ⟨#[97]⟩ (specIntValue n)
def A2 : List (List AttrD) := A1 ++ A1.flatMap fun l => ints4.map fun n => stA l ⟨#[98]⟩ (specIntValue n)
def A3 : List (List AttrD) := A2 ++ A2.flatMap fun l => ([⟨#[105, 110, 107]⟩, ⟨#[115, 101, 97]⟩] : List ByteArray).map fun s => stA l ⟨#[110]⟩ (specStringValue s)
def A4 : List (List AttrD) := A3 ++ A3.flatMap fun l => ([⟨#[114, 101, 100]⟩, ⟨#[98, 108, 117, 101]⟩] : List ByteArray).map fun s => stA l ⟨#[116]⟩ (specStringValue s)
theorem in4 {x : Int} (h0 : 0 ≤ x) (h1 : x < 4) : x ∈ ints4 := by
  unfold ints4
  simp only [List.mem_cons, List.not_mem_nil, or_false]
  omega
theorem pick_mem (code : List UInt8) (ci : Nat) (ch : Int) {list : List ByteArray} (hp : 0 < list.length) : (specl01Pick code ci ch list).1 ∈ list := by
  unfold specl01Pick lt
  have hb := specl01Below_bd code ci ch (list.length : Int)
  generalize specl01Below code ci ch (list.length : Int) = x at hb ⊢
  exact List.mem_of_getElem? (nth_get (by omega))
structure FOk (id : Int) (S : List (List AttrD)) (f : FileD) : Prop where
  h1 : f.1 = id
  h2 : 0 ≤ f.2.1
  h3 : f.2.1 ≤ 2
  h4 : 0 ≤ f.2.2.2.1
  h5 : f.2.2.2.1 ≤ 6
  h6 : f.2.2.2.2 ∈ S
theorem fok_set {id : Int} {S S' : List (List AttrD)} {f : FileD} {nm : ByteArray} {v : ValueD} (h : FOk id S f) (hm : ∀ l, l ∈ S → stA l nm v ∈ S') : FOk id S' (specSetAttr f nm v) := by
  rw [setAttr_at]
  exact ⟨h.h1, h.h2, h.h3, h.h4, h.h5, hm _ h.h6⟩
theorem fok_sub {id : Int} {S S' : List (List AttrD)} {f : FileD} (h : FOk id S f) (hm : ∀ l, l ∈ S → l ∈ S') : FOk id S' f := ⟨h.h1, h.h2, h.h3, h.h4, h.h5, hm _ h.h6⟩
theorem st_a {x : Int} (h0 : 0 ≤ x) (h1 : x < 4) : ∀ l, l ∈ ([[]] : List (List AttrD)) → stA l ⟨#[97]⟩ (specIntValue x) ∈ A1 := fun l hl => by
  rw [List.mem_singleton.1 hl]
  exact List.mem_cons_of_mem _ (List.mem_map.2 ⟨x, in4 h0 h1, rfl⟩)
theorem lf {id : Int} {S : List (List AttrD)} {α : Type} {t : α} {f : α → FileD × Nat × Int} (Q : α → Prop) (h : Q t) (k : ∀ x, Q x → FOk id S (f x).1) : FOk id S (lt t f).1 := k t h
theorem l04_ok (code : List UInt8) (ci : Nat) (ch id : Int) : FOk id A4 (specl04File code ci ch id).1 := by
  have bd : ∀ (ci : Nat) (ch : Int) (n : Int), 0 < n → 0 ≤ (specl01Below code ci ch n).1 ∧ (specl01Below code ci ch n).1 < n := fun ci ch n h => ⟨(specl01Below_bd code ci ch n).1, (specl01Below_bd code ci ch n).2.1 h⟩
  unfold specl04File
  refine lf (fun x : Int × Nat × Int => 0 ≤ x.1 ∧ x.1 < 3) (bd ci ch 3 (by decide)) fun x1 hx1 => ?_
  refine lf (fun _ => True) trivial fun x2 _ => ?_
  refine lf (fun _ => True) trivial fun x3 _ => ?_
  refine lf (fun x : Int × Nat × Int => 0 ≤ x.1 ∧ x.1 ≤ 6) ?_ fun x4 hx4 => ?_
  · cases x3.1 with
    | true => simp only [cond_true]; exact lt_any (P := fun x : Int × Nat × Int => 0 ≤ x.1 ∧ x.1 ≤ 6) (fun x : Int × Nat × Int => 0 ≤ x.1 ∧ x.1 < 7) (bd _ _ 7 (by decide)) fun x h => ⟨h.1, by have := h.2; show x.1 ≤ 6; omega⟩
    | false => exact ⟨Int.le_refl 0, by show (0 : Int) ≤ 6; decide⟩
  refine lf (fun _ => True) trivial fun x7 _ => ?_
  have f0 : FOk id [[]] (id, x1.1, x2.1, x4.1, []) := ⟨rfl, hx1.1, by have := hx1.2; show x1.1 ≤ 2; omega, hx4.1, hx4.2, by simp⟩
  refine lf (fun z : FileD × Nat × Int => FOk id A1 z.1) ?_ fun x8 hx8 => ?_
  · cases x7.1 with
    | true => exact fok_sub f0 fun l hl => by rw [List.mem_singleton.1 hl]; exact List.mem_cons_self
    | false => simp only [Bool.not_false, cond_true]; exact lf (S := A1) (fun x : Int × Nat × Int => 0 ≤ x.1 ∧ x.1 < 4) (bd _ _ 4 (by decide)) fun y hy => fok_set f0 (st_a hy.1 hy.2)
  refine lf (fun _ => True) trivial fun x11 _ => ?_
  refine lf (fun z : FileD × Nat × Int => FOk id A2 z.1) ?_ fun x12 hx12 => ?_
  · cases x11.1 with
    | false => exact fok_sub hx8 fun l hl => List.mem_append_left _ hl
    | true => simp only [cond_true]; exact lf (S := A2) (fun x : Int × Nat × Int => 0 ≤ x.1 ∧ x.1 < 4) (bd _ _ 4 (by decide)) fun y hy => fok_set hx8 fun l hl => List.mem_append_right _ (List.mem_flatMap.2 ⟨l, hl, List.mem_map.2 ⟨y.1, in4 hy.1 hy.2, rfl⟩⟩)
  refine lf (fun _ => True) trivial fun x15 _ => ?_
  refine lf (fun z : FileD × Nat × Int => FOk id A3 z.1) ?_ fun x16 hx16 => ?_
  · cases x15.1 with
    | true => exact fok_sub hx12 fun l hl => List.mem_append_left _ hl
    | false => simp only [Bool.not_false, cond_true]; exact lf (S := A3) (fun x : ByteArray × Nat × Int => x.1 ∈ ([⟨#[105, 110, 107]⟩, ⟨#[115, 101, 97]⟩] : List ByteArray)) (pick_mem code _ _ (Nat.zero_lt_succ _)) fun y hy => fok_set hx12 fun l hl => List.mem_append_right _ (List.mem_flatMap.2 ⟨l, hl, List.mem_map.2 ⟨y.1, hy, rfl⟩⟩)
  refine lf (fun _ => True) trivial fun x19 _ => ?_
  cases x19.1 with
  | false => exact fok_sub hx16 fun l hl => List.mem_append_left _ hl
  | true => simp only [cond_true]; exact lf (S := A4) (fun x : ByteArray × Nat × Int => x.1 ∈ ([⟨#[114, 101, 100]⟩, ⟨#[98, 108, 117, 101]⟩] : List ByteArray)) (pick_mem code _ _ (Nat.zero_lt_succ _)) fun y hy => fok_set hx16 fun l hl => List.mem_append_right _ (List.mem_flatMap.2 ⟨l, hl, List.mem_map.2 ⟨y.1, hy, rfl⟩⟩)
def okAttrs (l : List AttrD) : Bool := match forL (specIsValidFile_f0 specl03Usual (0, 0, false, 0, l)) specIsValidFile_e0 l 0 () with
  | .brk _ => true
  | .ret _ => false
theorem all_ok : A4.all okAttrs = true := by kernel_rfl
theorem usual_ok : specIsValidSchema specl03Usual = true := by kernel_rfl
theorem l04_valid {id i : Int} {f : FileD} (h : FOk id A4 f) (h1 : 1 ≤ i) (h2 : i ≤ 60) : specIsValidFile specl03Usual (i, f.2) = true := by
  obtain ⟨a, o, s, x, l⟩ := f
  have hl := List.all_eq_true.1 all_ok l h.h6
  have e : forL (specIsValidFile_f0 specl03Usual (i, o, s, x, l)) specIsValidFile_e0 l 0 () = .brk () := by
    have e2 : specIsValidFile_f0 specl03Usual (i, o, s, x, l) = specIsValidFile_f0 specl03Usual (0, 0, false, 0, l) := rfl
    rw [e2]
    unfold okAttrs at hl
    split at hl
    · rename_i t ht; exact ht
    · cases hl
  have h2' := h.h2
  have h3' := h.h3
  have h4' := h.h4
  have h5' := h.h5
  dsimp only at h2' h3' h4' h5'
  show Out.on (forL (specIsValidFile_f0 specl03Usual (i, o, s, x, l)) specIsValidFile_e0 l 0 ()) _ = true
  rw [e]
  simp only [Out.on, usual_ok, specl01In, Bool.true_and]
  rw [decide_eq_true (show i ≥ 1 from h1), decide_eq_true (show i ≤ 60 from h2), decide_eq_true (show o ≥ 0 from h2'), decide_eq_true (show o ≤ 2 from h3'), decide_eq_true (show x ≥ 0 from h4'), decide_eq_true (show x ≤ 60 by omega)]
  rfl
structure S5 (s : StoreD) : Prop where
  vs : VS s
  sch : s.1 = specl03Usual
  nx : s.2.2 ≤ 8 + s.2.1.length
theorem s5_push {s : StoreD} {id : Int} {f : FileD} (h : S5 s) (hl : s.2.1.length < 12) (hf : FOk id A4 f) : (specCreateFile s f).1.2.1.length = s.2.1.length + 1 ∧ S5 (specCreateFile s f).1 := by
  have hn : s.2.2 ≤ 60 := by have := h.nx; omega
  have hv : specIsValidFile s.1 (s.2.2, f.2) = true := by rw [h.sch]; exact l04_valid hf h.vs.nx1 hn
  rw [createS h.vs hl hn hv]
  exact ⟨by simp, vs_push h.vs hl hn hv, h.sch, by have := h.nx; simp; omega⟩
theorem l05_ok (code : List UInt8) (ci : Nat) (ch : Int) : S5 (specl05Store code ci ch).1 ∧ (specl05Store code ci ch).1.2.1.length ≤ 7 := by
  unfold specl05Store
  obtain ⟨t, ht⟩ := whlD_brk (f := specl05Store_f0 code) (fun s r => by
    unfold specl05Store_f0 lt
    dsimp only
    generalize decide (_ < IntKind.i64.wrap _) = c
    cases c <;> simp) 8 (0, (specNewStore specl03Usual), ci, ch)
  have hj : VS t.1 ∧ t.1.1 = specl03Usual ∧ t.1.2.2 ≤ 8 ∧ t.1.2.1.length ≤ 7 := whlD_inv (f := specl05Store_f0 code) (I := fun s => VS s.2.1 ∧ s.2.1.1 = specl03Usual ∧ s.2.1.2.2 ≤ 1 + s.1 ∧ (s.2.1.2.1.length : Int) ≤ s.1 ∧ 0 ≤ s.1 ∧ s.1 ≤ 7) (J := fun t => VS t.1 ∧ t.1.1 = specl03Usual ∧ t.1.2.2 ≤ 8 ∧ t.1.2.1.length ≤ 7) (fun s s' hi h => by
    unfold specl05Store_f0 lt at h
    have hb := specl01Below_bd code s.2.2.1 s.2.2.2 7
    generalize specl01Below code s.2.2.1 s.2.2.2 7 = x at h hb
    have e : IntKind.i64.wrap (1 + x.1) = 1 + x.1 := IntWalk.i64_in _ (by omega)
    simp only [e] at h
    obtain ⟨i1, i2, i3, i4, i5, i6⟩ := hi
    by_cases hc : s.1 < 1 + x.1
    · simp only [decide_eq_true hc, cond_true] at h
      have h := Rd.next.inj h
      have e3 : IntKind.i64.wrap (s.1 + 1) = s.1 + 1 := IntWalk.i64_in _ (by omega)
      rw [← h, e3]
      obtain ⟨c1, c2, c3, c4, c5⟩ := create_vs (specl04File code x.2.1 x.2.2 1).1 i1
      refine ⟨c1, c2.trans i2, ?_, ?_, ?_, ?_⟩ <;> dsimp only <;> omega
    · simp only [decide_eq_false hc, cond_false] at h
      cases h) (fun s t hi h => by
    unfold specl05Store_f0 lt at h
    generalize specl01Below code s.2.2.1 s.2.2.2 7 = x at h
    obtain ⟨i1, i2, i3, i4, i5, i6⟩ := hi
    by_cases hc : s.1 < IntKind.i64.wrap (1 + x.1)
    · simp only [decide_eq_true hc, cond_true] at h
      cases h
    · simp only [decide_eq_false hc, cond_false] at h
      have h := Rd.brk.inj h
      rw [← h]
      exact ⟨i1, i2, by dsimp only; omega, by dsimp only; omega⟩) (by
    refine ⟨⟨usual_ok, by simp [specNewStore], by simp [specNewStore], by simp [specNewStore], fun i a h => by simp [specNewStore] at h, fun i a b h => by simp [specNewStore] at h⟩, rfl, ?_, ?_, ?_, ?_⟩
    · show (1 : Int) ≤ 1 + 0; decide
    · show ((0 : Nat) : Int) ≤ 0; decide
    · show (0 : Int) ≤ 0; decide
    · show (0 : Int) ≤ 7; decide) (specl05Store_w code ci ch _) ht
  rw [ht]
  simp only [Out.on]
  obtain ⟨j1, j2, j3, j4⟩ := hj
  have fin : S5 t.1 ∧ t.1.2.1.length ≤ 7 := ⟨⟨j1, j2, by omega⟩, j4⟩
  cases decide ((t.1.2.1.length : Int) > (2 : Int)) with
  | false => exact fin
  | true =>
    simp only [cond_true]
    refine lt_any (P := fun z : StoreD × Nat × Int => S5 z.1 ∧ z.1.2.1.length ≤ 7) (fun _ => True) trivial fun x5 _ => ?_
    cases x5.1 with
    | false => exact fin
    | true =>
      obtain ⟨d1, d2, d3, d4⟩ := delete_vs ((nth t.1.2.1 1).1) j1
      exact ⟨⟨d1, d2.trans j2, by show _ ≤ _; dsimp only [cond_true]; omega⟩, by dsimp only [cond_true]; omega⟩
theorem all_len : A4.all (fun l => decide (l.length ≤ 4)) = true := by kernel_rfl
theorem l04_len (code : List UInt8) (ci : Nat) (ch id : Int) : List.length (specl04File code ci ch id).1.2.2.2.2 ≤ 4 := of_decide_eq_true (List.all_eq_true.1 all_len _ (l04_ok code ci ch id).h6)
theorem l11_len (code : List UInt8) (ci : Nat) (ch : Int) : 1 ≤ (specl11Dirs code ci ch).1.length ∧ (specl11Dirs code ci ch).1.length ≤ 4 := by
  unfold specl11Dirs
  obtain ⟨t, ht⟩ := whlD_brk (f := specl11Dirs_f0 code) (fun s r => by
    unfold specl11Dirs_f0 lt
    generalize specl01Below code s.2.2.1 s.2.2.2 4 = x
    simp only
    generalize decide (s.2.1 < 1 + x.1) = c
    cases c <;> simp) 5 ([], 0, ci, ch)
  have := whlD_inv (f := specl11Dirs_f0 code) (I := fun s => (s.1.length : Int) = s.2.1 ∧ s.2.1 ≤ 4) (J := fun t => 1 ≤ t.1.length ∧ t.1.length ≤ 4) (fun s s' hi h => by
    unfold specl11Dirs_f0 lt at h
    have hb := specl01Below_bd code s.2.2.1 s.2.2.2 4
    generalize specl01Below code s.2.2.1 s.2.2.2 4 = x at h hb
    by_cases hc : s.2.1 < 1 + x.1
    · simp only [decide_eq_true hc, cond_true] at h
      have h := Rd.next.inj h
      rw [← h]
      refine ⟨?_, ?_⟩
      · simp; omega
      · show s.2.1 + 1 ≤ 4; omega
    · simp only [decide_eq_false hc, cond_false] at h
      cases h) (fun s t hi h => by
    unfold specl11Dirs_f0 lt at h
    have hb := specl01Below_bd code s.2.2.1 s.2.2.2 4
    generalize specl01Below code s.2.2.1 s.2.2.2 4 = x at h hb
    by_cases hc : s.2.1 < 1 + x.1
    · simp only [decide_eq_true hc, cond_true] at h
      cases h
    · simp only [decide_eq_false hc, cond_false] at h
      have h := Rd.brk.inj h
      rw [← h]
      dsimp only
      omega) (n := 5) (s := ([], 0, ci, ch)) (t := t) ⟨rfl, by show (0 : Int) ≤ 4; decide⟩ (specl11Dirs_w code ci ch) ht
  rw [ht]
  exact this
open GoE (enc wide)
def specl02Value (code : (List UInt8)) (ci : Nat) (ch : Int) : ValueD × Nat × Int := (lt (α := Int × Nat × Int) (specl01Below code ci ch 5) (fun x1 => (bif (x1.1 == (0 : Int)) then ((0, 0, ⟨#[]⟩), x1.2.1, x1.2.2) else (lt (α := Bool) (bif (x1.1 == (1 : Int)) then (x1.1 == (1 : Int)) else (x1.1 == (2 : Int))) (fun x4 => (bif x4 then (lt (α := Int × Nat × Int) (specl01Below code x1.2.1 x1.2.2 5) (fun x7 => ((specIntValue x7.1), x7.2.1, x7.2.2))) else (lt (α := ByteArray × Nat × Int) (specl01Pick code x1.2.1 x1.2.2 [⟨#[114, 101, 100]⟩, ⟨#[98, 108, 117, 101]⟩, ⟨#[105, 110, 107]⟩]) (fun x9 => ((specStringValue x9.1), x9.2.1, x9.2.2)))))))))
theorem specl02Value_a (code : (List UInt8)) (ci : Nat) (ch : Int) : AGive Tryz.prog 247 [.h code, .i ((ci : Nat) : Int), .i ch] [] (.a [.i ((((specl02Value code ci ch)).1).1), .i ((((specl02Value code ci ch)).1).2.1), .s ((((specl02Value code ci ch)).1).2.2)]) [.h code, .i ((((specl02Value code ci ch)).2.1 : Nat) : Int), .i (((specl02Value code ci ch)).2.2)] := by
 refine agive_of (tt := tt) tt_ok Tryz.func247 (fn := Tryz.f247) rfl (by unfold FnOk; kernel_rfl) (Nat.le_of_ble_eq_true rfl) (Nat.le_of_ble_eq_true rfl) rfl rfl fun w0 F0 hG => ?_
 refine sn tt_ok [0, 2] [2, 60000] (p0) ?_
 refine awp_seq ?_
 obtain ⟨x1, hx1⟩ : ∃ z : Int × Nat × Int, specl01Below code ci ch 5 = z := ⟨_, rfl⟩
 have hbx1 := hx1 ▸ specl01Below_bd code ci ch 5
 refine tn tt_ok [0, 2, 4] [2, 60000] (po 1 (.give none (.i x1.1) [.h code, .i ((x1.2.1 : Nat) : Int), .i x1.2.2]) (px (ob_give (hx1 ▸ specl01Below_a code ci ch 5)) p0)) ?_
 refine awp_block ?_
 refine tu tt_ok [(2, .p 2 0), (4, .i x1.1), (5, .b (x1.1 == (0 : Int)))] [] [(2, [.i 0, .i 0, .s ⟨#[]⟩]), (60000, [.h code, .i ((x1.2.1 : Nat) : Int), .i x1.2.2])] [60000] (p0) ?_
 refine ck (x1.1 == (0 : Int)) (fun h2 => ?_) (fun h2 => ?_)
 ·
  refine su tt_ok [] [4, 5] [] [] (p0) ?_
  refine awp_ret ?_
  have hE3 : specl02Value code ci ch = ((0, 0, ⟨#[]⟩), x1.2.1, x1.2.2) := lt_b hx1 (bif_t h2 (rfl))
  exact gret [] (congrArg (fun z => (.a [.i z.1.1, .i z.1.2.1, .s z.1.2.2] : AV)) hE3.symm) (congrArg (fun z => ([.h code, .i ((z.2.1 : Nat) : Int), .i z.2.2] : List C)) hE3.symm)
 ·
  refine awp_seq ?_
  refine sn tt_ok [0, 2, 4, 8] [2, 60000] (p0) ?_
  refine mz [(8, .b (x1.1 == (1 : Int)))] [5] [] [] ?_
  obtain ⟨x4, hx4⟩ : ∃ z : Bool, (bif (x1.1 == (1 : Int)) then (x1.1 == (1 : Int)) else (x1.1 == (2 : Int))) = z := ⟨_, rfl⟩
  refine jn [(8, .b x4)] [4, 8] [] [] (x1.1 == (1 : Int)) (fun h5 => ?_) (fun h5 => ?_) ?_
  ·
   refine ckt h5 ?_
   refine awp_skip ?_
   obtain rfl : x4 = (x1.1 == (1 : Int)) := hx4.symm.trans (show (bif (x1.1 == (1 : Int)) then (x1.1 == (1 : Int)) else (x1.1 == (2 : Int))) = (x1.1 == (1 : Int)) from bif_t h5 (rfl))
   exact ⟨rfl, weak_fit (by kernel_rfl)⟩
  ·
   refine ckf h5 ?_
   refine rn tt_ok [0, 2, 8] [2, 60000] (p0) ?_
   obtain rfl : x4 = (x1.1 == (2 : Int)) := hx4.symm.trans (show (bif (x1.1 == (1 : Int)) then (x1.1 == (1 : Int)) else (x1.1 == (2 : Int))) = (x1.1 == (2 : Int)) from bif_f h5 (rfl))
   exact ⟨rfl, weak_fit (by kernel_rfl)⟩
  refine ck x4 (fun h6 => ?_) (fun h6 => ?_)
  ·
   obtain ⟨x7, hx7⟩ : ∃ z : Int × Nat × Int, specl01Below code x1.2.1 x1.2.2 5 = z := ⟨_, rfl⟩
   have hbx7 := hx7 ▸ specl01Below_bd code x1.2.1 x1.2.2 5
   refine sn tt_ok [0, 2] [2, 60000] (po 1 (.give none (.i x7.1) [.h code, .i ((x7.2.1 : Nat) : Int), .i x7.2.2]) (px (ob_give (hx7 ▸ specl01Below_a code x1.2.1 x1.2.2 5)) (pc 2 (specIntValue_a x7.1) p0))) ?_
   refine awp_ret ?_
   have hE8 : specl02Value code ci ch = ((specIntValue x7.1), x7.2.1, x7.2.2) := lt_b hx1 (bif_f h2 (lt_b hx4 (bif_t h6 (lt_b hx7 (rfl)))))
   exact gret [] (congrArg (fun z => (.a [.i z.1.1, .i z.1.2.1, .s z.1.2.2] : AV)) hE8.symm) (congrArg (fun z => ([.h code, .i ((z.2.1 : Nat) : Int), .i z.2.2] : List C)) hE8.symm)
  ·
   refine awp_skip ?_
   obtain ⟨x9, hx9⟩ : ∃ z : ByteArray × Nat × Int, specl01Pick code x1.2.1 x1.2.2 [⟨#[114, 101, 100]⟩, ⟨#[98, 108, 117, 101]⟩, ⟨#[105, 110, 107]⟩] = z := ⟨_, rfl⟩
   refine sn tt_ok [0, 2] [2, 60000] (po 2 (.give none (.s x9.1) [.h code, .i ((x9.2.1 : Nat) : Int), .i x9.2.2]) (px (ob_give (hx9 ▸ specl01Pick_a code x1.2.1 x1.2.2 [⟨#[114, 101, 100]⟩, ⟨#[98, 108, 117, 101]⟩, ⟨#[105, 110, 107]⟩] (Nat.zero_lt_succ _))) (pc 3 (specStringValue_a x9.1) p0))) ?_
   refine awp_ret ?_
   have hE10 : specl02Value code ci ch = ((specStringValue x9.1), x9.2.1, x9.2.2) := lt_b hx1 (bif_f h2 (lt_b hx4 (bif_f h6 (lt_b hx9 (rfl)))))
   exact gret [] (congrArg (fun z => (.a [.i z.1.1, .i z.1.2.1, .s z.1.2.2] : AV)) hE10.symm) (congrArg (fun z => ([.h code, .i ((z.2.1 : Nat) : Int), .i z.2.2] : List C)) hE10.symm)
def specl02Any (code : (List UInt8)) (ci : Nat) (ch : Int) : ValueD × Nat × Int := (lt (α := ValueD × Nat × Int) (specl02Value code ci ch) (fun x1 => (lt (α := Int × Nat × Int) (specl01Below code x1.2.1 x1.2.2 10) (fun x2 => (bif (x2.1 == (0 : Int)) then (lt (α := Int × Nat × Int) (specl01Below code x2.2.1 x2.2.2 5) (fun x4 => (((x4.1 - 1), x1.1.2.1, x1.1.2.2), x4.2.1, x4.2.2))) else (bif (x2.1 == (1 : Int)) then (lt (α := Int × Nat × Int) (specl01PickInt code x2.2.1 x2.2.2 [-1, 0, 999, 1000, 9223372036854775807]) (fun x7 => ((x1.1.1, x7.1, x1.1.2.2), x7.2.1, x7.2.2))) else (bif (x2.1 == (2 : Int)) then (lt (α := ByteArray × Nat × Int) (specl01Pick code x2.2.1 x2.2.2 [⟨#[]⟩, ⟨#[65]⟩, ⟨#[97, 98, 99, 100, 101, 102, 103]⟩, ⟨#[97, 98, 99, 100, 101, 102]⟩, ⟨#[97, 32, 98]⟩]) (fun x10 => ((x1.1.1, x1.1.2.1, x10.1), x10.2.1, x10.2.2))) else (x1.1, x2.2.1, x2.2.2))))))))
theorem specl02Any_a (code : (List UInt8)) (ci : Nat) (ch : Int) : AGive Tryz.prog 208 [.h code, .i ((ci : Nat) : Int), .i ch] [] (.a [.i ((((specl02Any code ci ch)).1).1), .i ((((specl02Any code ci ch)).1).2.1), .s ((((specl02Any code ci ch)).1).2.2)]) [.h code, .i ((((specl02Any code ci ch)).2.1 : Nat) : Int), .i (((specl02Any code ci ch)).2.2)] := by
 refine agive_of (tt := tt) tt_ok Tryz.func208 (fn := Tryz.f208) rfl (by unfold FnOk; kernel_rfl) (Nat.le_of_ble_eq_true rfl) (Nat.le_of_ble_eq_true rfl) rfl rfl fun w0 F0 hG => ?_
 refine sn tt_ok [0, 2] [2, 60000] (p0) ?_
 obtain ⟨x1, hx1⟩ : ∃ z : ValueD × Nat × Int, specl02Value code ci ch = z := ⟨_, rfl⟩
 refine tn tt_ok [0, 2, 3] [2, 3, 60000] (po 1 (.give none (.a [.i x1.1.1, .i x1.1.2.1, .s x1.1.2.2]) [.h code, .i ((x1.2.1 : Nat) : Int), .i x1.2.2]) (px (ob_give (hx1 ▸ specl02Value_a code ci ch)) p0)) ?_
 refine awp_seq ?_
 obtain ⟨x2, hx2⟩ : ∃ z : Int × Nat × Int, specl01Below code x1.2.1 x1.2.2 10 = z := ⟨_, rfl⟩
 have hbx2 := hx2 ▸ specl01Below_bd code x1.2.1 x1.2.2 10
 refine tu tt_ok [(2, .p 2 0), (3, .p 3 0), (7, .i x2.1)] [] [(2, [.i 0, .i 0, .s ⟨#[]⟩]), (3, [.i x1.1.1, .i x1.1.2.1, .s x1.1.2.2]), (60000, [.h code, .i ((x2.2.1 : Nat) : Int), .i x2.2.2])] [60000] (po 1 (.give none (.i x2.1) [.h code, .i ((x2.2.1 : Nat) : Int), .i x2.2.2]) (px (ob_give (hx2 ▸ specl01Below_a code x1.2.1 x1.2.2 10)) p0)) ?_
 refine awp_block ?_
 refine sn tt_ok [0, 2, 3, 7, 8] [2, 3, 60000] (p0) ?_
 refine ck (x2.1 == (0 : Int)) (fun h3 => ?_) (fun h3 => ?_)
 ·
  have h3d := eq_of_beq h3
  obtain ⟨x4, hx4⟩ : ∃ z : Int × Nat × Int, specl01Below code x2.2.1 x2.2.2 5 = z := ⟨_, rfl⟩
  have hbx4 := hx4 ▸ specl01Below_bd code x2.2.1 x2.2.2 5
  refine qn tt_ok [0, 2, 3] [2, 3, 60000] (po 1 (.give none (.i x4.1) [.h code, .i ((x4.2.1 : Nat) : Int), .i x4.2.2]) (px (ob_give (hx4 ▸ specl01Below_a code x2.2.1 x2.2.2 5)) (pe 2 (av_i (IntWalk.i64_in (x4.1 - 1) (by omega))) p0))) ?_
  refine tu tt_ok [] [3, 7] [(2, [.i (x4.1 - 1), .i x1.1.2.1, .s x1.1.2.2]), (60000, [.h code, .i ((x4.2.1 : Nat) : Int), .i x4.2.2])] [2, 3, 60000] (p0) ?_
  refine awp_ret ?_
  have hE5 : specl02Any code ci ch = (((x4.1 - 1), x1.1.2.1, x1.1.2.2), x4.2.1, x4.2.2) := lt_b hx1 (lt_b hx2 (bif_t h3 (lt_b hx4 (rfl))))
  exact gret [] (congrArg (fun z => (.a [.i z.1.1, .i z.1.2.1, .s z.1.2.2] : AV)) hE5.symm) (congrArg (fun z => ([.h code, .i ((z.2.1 : Nat) : Int), .i z.2.2] : List C)) hE5.symm)
 ·
  refine tn tt_ok [0, 2, 3, 7, 14] [2, 3, 60000] (p0) ?_
  refine ck (x2.1 == (1 : Int)) (fun h6 => ?_) (fun h6 => ?_)
  ·
   obtain ⟨x7, hx7⟩ : ∃ z : Int × Nat × Int, specl01PickInt code x2.2.1 x2.2.2 [-1, 0, 999, 1000, 9223372036854775807] = z := ⟨_, rfl⟩
   refine qu tt_ok [] [7] [(3, [.i x1.1.1, .i x7.1, .s x1.1.2.2]), (60000, [.h code, .i ((x7.2.1 : Nat) : Int), .i x7.2.2])] [3, 60000] (po 2 (.give none (.i x7.1) [.h code, .i ((x7.2.1 : Nat) : Int), .i x7.2.2]) (px (ob_give (hx7 ▸ specl01PickInt_a code x2.2.1 x2.2.2 [-1, 0, 999, 1000, 9223372036854775807] (Nat.zero_lt_succ _))) p0)) ?_
   refine sn tt_ok [0, 2] [2, 60000] (p0) ?_
   refine awp_ret ?_
   have hE8 : specl02Any code ci ch = ((x1.1.1, x7.1, x1.1.2.2), x7.2.1, x7.2.2) := lt_b hx1 (lt_b hx2 (bif_f h3 (bif_t h6 (lt_b hx7 (rfl)))))
   exact gret [] (congrArg (fun z => (.a [.i z.1.1, .i z.1.2.1, .s z.1.2.2] : AV)) hE8.symm) (congrArg (fun z => ([.h code, .i ((z.2.1 : Nat) : Int), .i z.2.2] : List C)) hE8.symm)
  ·
   refine tu tt_ok [(20, .b (x2.1 == (2 : Int)))] [7] [] [] (p0) ?_
   refine ck (x2.1 == (2 : Int)) (fun h9 => ?_) (fun h9 => ?_)
   ·
    obtain ⟨x10, hx10⟩ : ∃ z : ByteArray × Nat × Int, specl01Pick code x2.2.1 x2.2.2 [⟨#[]⟩, ⟨#[65]⟩, ⟨#[97, 98, 99, 100, 101, 102, 103]⟩, ⟨#[97, 98, 99, 100, 101, 102]⟩, ⟨#[97, 32, 98]⟩] = z := ⟨_, rfl⟩
    refine rn tt_ok [0, 2, 3] [2, 3, 60000] (po 2 (.give none (.s x10.1) [.h code, .i ((x10.2.1 : Nat) : Int), .i x10.2.2]) (px (ob_give (hx10 ▸ specl01Pick_a code x2.2.1 x2.2.2 [⟨#[]⟩, ⟨#[65]⟩, ⟨#[97, 98, 99, 100, 101, 102, 103]⟩, ⟨#[97, 98, 99, 100, 101, 102]⟩, ⟨#[97, 32, 98]⟩] (Nat.zero_lt_succ _))) p0)) ?_
    refine tn tt_ok [0, 2] [2, 60000] (p0) ?_
    refine awp_ret ?_
    have hE11 : specl02Any code ci ch = ((x1.1.1, x1.1.2.1, x10.1), x10.2.1, x10.2.2) := lt_b hx1 (lt_b hx2 (bif_f h3 (bif_f h6 (bif_t h9 (lt_b hx10 (rfl))))))
    exact gret [] (congrArg (fun z => (.a [.i z.1.1, .i z.1.2.1, .s z.1.2.2] : AV)) hE11.symm) (congrArg (fun z => ([.h code, .i ((z.2.1 : Nat) : Int), .i z.2.2] : List C)) hE11.symm)
   ·
    refine awp_skip ?_
    refine sn tt_ok [0, 2] [2, 60000] (p0) ?_
    refine awp_ret ?_
    have hE12 : specl02Any code ci ch = (x1.1, x2.2.1, x2.2.2) := lt_b hx1 (lt_b hx2 (bif_f h3 (bif_f h6 (bif_f h9 (rfl)))))
    exact gret [] (congrArg (fun z => (.a [.i z.1.1, .i z.1.2.1, .s z.1.2.2] : AV)) hE12.symm) (congrArg (fun z => ([.h code, .i ((z.2.1 : Nat) : Int), .i z.2.2] : List C)) hE12.symm)
def specl03Name (code : (List UInt8)) (ci : Nat) (ch : Int) : ByteArray × Nat × Int := (lt (α := ByteArray × Nat × Int) (specl01Pick code ci ch [⟨#[97]⟩, ⟨#[98]⟩, ⟨#[110]⟩, ⟨#[116]⟩, ⟨#[97]⟩, ⟨#[98]⟩, ⟨#[116]⟩, ⟨#[122]⟩, ⟨#[65]⟩, ⟨#[]⟩]) (fun x1 => (x1.1, x1.2.1, x1.2.2)))
theorem specl03Name_a (code : (List UInt8)) (ci : Nat) (ch : Int) : AGive Tryz.prog 207 [.h code, .i ((ci : Nat) : Int), .i ch] [] (.s (((specl03Name code ci ch)).1)) [.h code, .i ((((specl03Name code ci ch)).2.1 : Nat) : Int), .i (((specl03Name code ci ch)).2.2)] := by
 refine agive_of (tt := tt) tt_ok Tryz.func207 (fn := Tryz.f207) rfl (by unfold FnOk; kernel_rfl) (Nat.le_of_ble_eq_true rfl) (Nat.le_of_ble_eq_true rfl) rfl rfl fun w0 F0 hG => ?_
 refine sn tt_ok [0, 2] [60000] (p0) ?_
 obtain ⟨x1, hx1⟩ : ∃ z : ByteArray × Nat × Int, specl01Pick code ci ch [⟨#[97]⟩, ⟨#[98]⟩, ⟨#[110]⟩, ⟨#[116]⟩, ⟨#[97]⟩, ⟨#[98]⟩, ⟨#[116]⟩, ⟨#[122]⟩, ⟨#[65]⟩, ⟨#[]⟩] = z := ⟨_, rfl⟩
 refine tn tt_ok [0, 2] [60000] (po 2 (.give none (.s x1.1) [.h code, .i ((x1.2.1 : Nat) : Int), .i x1.2.2]) (px (ob_give (hx1 ▸ specl01Pick_a code ci ch [⟨#[97]⟩, ⟨#[98]⟩, ⟨#[110]⟩, ⟨#[116]⟩, ⟨#[97]⟩, ⟨#[98]⟩, ⟨#[116]⟩, ⟨#[122]⟩, ⟨#[65]⟩, ⟨#[]⟩] (Nat.zero_lt_succ _))) p0)) ?_
 refine awp_ret ?_
 have hE2 : specl03Name code ci ch = (x1.1, x1.2.1, x1.2.2) := lt_b hx1 (rfl)
 exact gret [] (congrArg (fun z => (.s z.1 : AV)) hE2.symm) (congrArg (fun z => ([.h code, .i ((z.2.1 : Nat) : Int), .i z.2.2] : List C)) hE2.symm)
def specl03Any (code : (List UInt8)) (ci : Nat) (ch : Int) : (List FieldD) × Nat × Int := (lt (α := Int × Nat × Int) (specl01Below code ci ch 8) (fun x1 => (bif (x1.1 == (0 : Int)) then (lt (α := Int × Nat × Int) (specl01Below code x1.2.1 x1.2.2 4) (fun x3 => (List.take (Int.toNat x3.1) specl03Usual, x3.2.1, x3.2.2))) else (bif (x1.1 == (1 : Int)) then (lt (α := Int × Nat × Int) (specl01Below code x1.2.1 x1.2.2 4) (fun x8 => (lt (α := Int × Nat × Int) (specl01Below code x8.2.1 x8.2.2 5) (fun x9 => (List.set specl03Usual (Int.toNat x8.1) ((nth specl03Usual (Int.toNat x8.1)).1, (x9.1 - 1)), x9.2.1, x9.2.2))))) else (bif (x1.1 == (2 : Int)) then (lt (α := Int × Nat × Int) (specl01Below code x1.2.1 x1.2.2 4) (fun x15 => (lt (α := ByteArray × Nat × Int) (specl03Name code x15.2.1 x15.2.2) (fun x16 => (List.set specl03Usual (Int.toNat x15.1) (x16.1, (nth specl03Usual (Int.toNat x15.1)).2), x16.2.1, x16.2.2))))) else (bif (x1.1 == (3 : Int)) then (lt (α := ByteArray × Nat × Int) (specl01Pick code x1.2.1 x1.2.2 [⟨#[117]⟩, ⟨#[122]⟩, ⟨#[97]⟩]) (fun x22 => (specl03Usual ++ [((x22.1, 1) : FieldD)], x22.2.1, x22.2.2))) else (bif (x1.1 == (4 : Int)) then (specl03Usual ++ [((⟨#[117]⟩, 1) : FieldD), ((⟨#[118]⟩, 2) : FieldD)], x1.2.1, x1.2.2) else (specl03Usual, x1.2.1, x1.2.2))))))))
theorem specl03Any_a (code : (List UInt8)) (ci : Nat) (ch : Int) : AGive Tryz.prog 158 [.h code, .i ((ci : Nat) : Int), .i ch] [] (.h (((specl03Any code ci ch)).1)) [.h code, .i ((((specl03Any code ci ch)).2.1 : Nat) : Int), .i (((specl03Any code ci ch)).2.2)] := by
 refine agive_of (tt := tt) tt_ok Tryz.func158 (fn := Tryz.f158) rfl (by unfold FnOk; kernel_rfl) (Nat.le_of_ble_eq_true rfl) (Nat.le_of_ble_eq_true rfl) rfl rfl fun w0 F0 hG => ?_
 have hu4 : List.length specl03Usual = 4 := rfl
 refine sn tt_ok [0, 2] [60000] (p0) ?_
 refine tn tt_ok [0, 2, 3] [60000] (pc 0 (specl03Usual_a) p0) ?_
 refine awp_seq ?_
 obtain ⟨x1, hx1⟩ : ∃ z : Int × Nat × Int, specl01Below code ci ch 8 = z := ⟨_, rfl⟩
 have hbx1 := hx1 ▸ specl01Below_bd code ci ch 8
 refine tu tt_ok [(2, .e 0), (3, .o 256 specl03Usual), (6, .i x1.1)] [] [(60000, [.h code, .i ((x1.2.1 : Nat) : Int), .i x1.2.2])] [60000] (po 1 (.give none (.i x1.1) [.h code, .i ((x1.2.1 : Nat) : Int), .i x1.2.2]) (px (ob_give (hx1 ▸ specl01Below_a code ci ch 8)) p0)) ?_
 refine awp_block ?_
 refine sn tt_ok [0, 2, 3, 6, 7] [60000] (p0) ?_
 refine ck (x1.1 == (0 : Int)) (fun h2 => ?_) (fun h2 => ?_)
 ·
  have h2d := eq_of_beq h2
  obtain ⟨x3, hx3⟩ : ∃ z : Int × Nat × Int, specl01Below code x1.2.1 x1.2.2 4 = z := ⟨_, rfl⟩
  have hbx3 := hx3 ▸ specl01Below_bd code x1.2.1 x1.2.2 4
  refine wT 3 0 (.own true 256) specl03Usual (fun hw4 hl5 => ?_)
  refine qn tt_ok [0, 2, 3] [60000] (po 2 (.give none (.i x3.1) [.h code, .i ((x3.2.1 : Nat) : Int), .i x3.2.2]) (px (ob_give (hx3 ▸ specl01Below_a code x1.2.1 x1.2.2 4)) (pe 3 (av_take (.vw 256) 2 (Int.toNat x3.1) x3.1 specl03Usual rfl) (px (ob_rng (lo := 0) (hi := x3.1) (n := (List.length (eL specl03Usual))) (rng_of (by omega) (by omega) (by omega))) p0)))) ?_
  refine tu tt_ok [(2, .v 256 (List.take (Int.toNat x3.1) specl03Usual))] [2, 3, 6] [(60000, [.h code, .i ((x3.2.1 : Nat) : Int), .i x3.2.2])] [60000] (p0) ?_
  refine awp_ret ?_
  have hE6 : specl03Any code ci ch = (List.take (Int.toNat x3.1) specl03Usual, x3.2.1, x3.2.2) := lt_b hx1 (bif_t h2 (lt_b hx3 (rfl)))
  exact gret [256] (congrArg (fun z => (.h z.1 : AV)) hE6.symm) (congrArg (fun z => ([.h code, .i ((z.2.1 : Nat) : Int), .i z.2.2] : List C)) hE6.symm)
 ·
  have h2d := ne_of_beq h2
  refine tn tt_ok [0, 2, 3, 6, 13] [60000] (p0) ?_
  refine ck (x1.1 == (1 : Int)) (fun h7 => ?_) (fun h7 => ?_)
  ·
   have h7d := eq_of_beq h7
   obtain ⟨x8, hx8⟩ : ∃ z : Int × Nat × Int, specl01Below code x1.2.1 x1.2.2 4 = z := ⟨_, rfl⟩
   have hbx8 := hx8 ▸ specl01Below_bd code x1.2.1 x1.2.2 4
   obtain ⟨x9, hx9⟩ : ∃ z : Int × Nat × Int, specl01Below code x8.2.1 x8.2.2 5 = z := ⟨_, rfl⟩
   have hbx9 := hx9 ▸ specl01Below_bd code x8.2.1 x8.2.2 5
   refine wT 3 0 (.own true 256) specl03Usual (fun hw11 hl12 => ?_)
   have hx10 := ng specl03Usual (Int.toNat x8.1)
   refine qu tt_ok [(3, .one (.slc (.own true 256) 2 (setRow (eL specl03Usual) (Int.toNat x8.1) 1 [.i (x9.1 - 1)])))] [3, 6] [(60000, [.h code, .i ((x9.2.1 : Nat) : Int), .i x9.2.2])] [60000] (po 2 (.give none (.i x8.1) [.h code, .i ((x8.2.1 : Nat) : Int), .i x8.2.2]) (px (ob_give (hx8 ▸ specl01Below_a code x1.2.1 x1.2.2 4)) (po 4 (.give none (.i x9.1) [.h code, .i ((x9.2.1 : Nat) : Int), .i x9.2.2]) (px (ob_give (hx9 ▸ specl01Below_a code x8.2.1 x8.2.2 5)) (pe 5 (av_i (IntWalk.i64_in (x9.1 - 1) (by omega))) (pG 6 x8.1 hx10 p0)))))) ?_
   refine eqn [(3, .o 256 (List.set specl03Usual (Int.toNat x8.1) ((nth specl03Usual (Int.toNat x8.1)).1, (x9.1 - 1))))] [3] [] [] (by rw [setRow_eL (y := ((nth specl03Usual (Int.toNat x8.1)).1, (x9.1 - 1))) hx10 rfl]; first | done | kernel_rfl) ?_
   refine sn tt_ok [0, 2] [60000] (p0) ?_
   refine awp_ret ?_
   have hE13 : specl03Any code ci ch = (List.set specl03Usual (Int.toNat x8.1) ((nth specl03Usual (Int.toNat x8.1)).1, (x9.1 - 1)), x9.2.1, x9.2.2) := lt_b hx1 (bif_f h2 (bif_t h7 (lt_b hx8 (lt_b hx9 (rfl)))))
   exact gret [256] (congrArg (fun z => (.h z.1 : AV)) hE13.symm) (congrArg (fun z => ([.h code, .i ((z.2.1 : Nat) : Int), .i z.2.2] : List C)) hE13.symm)
  ·
   have h7d := ne_of_beq h7
   refine tu tt_ok [(23, .b (x1.1 == (2 : Int)))] [] [] [] (p0) ?_
   refine ck (x1.1 == (2 : Int)) (fun h14 => ?_) (fun h14 => ?_)
   ·
    have h14d := eq_of_beq h14
    obtain ⟨x15, hx15⟩ : ∃ z : Int × Nat × Int, specl01Below code x1.2.1 x1.2.2 4 = z := ⟨_, rfl⟩
    have hbx15 := hx15 ▸ specl01Below_bd code x1.2.1 x1.2.2 4
    obtain ⟨x16, hx16⟩ : ∃ z : ByteArray × Nat × Int, specl03Name code x15.2.1 x15.2.2 = z := ⟨_, rfl⟩
    refine wT 3 0 (.own true 256) specl03Usual (fun hw18 hl19 => ?_)
    have hx17 := ng specl03Usual (Int.toNat x15.1)
    refine ru tt_ok [(3, .one (.slc (.own true 256) 2 (setRow (eL specl03Usual) (Int.toNat x15.1) 0 [.s x16.1])))] [3, 6, 23] [(60000, [.h code, .i ((x16.2.1 : Nat) : Int), .i x16.2.2])] [60000] (po 2 (.give none (.i x15.1) [.h code, .i ((x15.2.1 : Nat) : Int), .i x15.2.2]) (px (ob_give (hx15 ▸ specl01Below_a code x1.2.1 x1.2.2 4)) (po 4 (.give none (.s x16.1) [.h code, .i ((x16.2.1 : Nat) : Int), .i x16.2.2]) (px (ob_give (hx16 ▸ specl03Name_a code x15.2.1 x15.2.2)) (pG 5 x15.1 hx17 p0))))) ?_
    refine eqn [(3, .o 256 (List.set specl03Usual (Int.toNat x15.1) (x16.1, (nth specl03Usual (Int.toNat x15.1)).2)))] [3] [] [] (by rw [setRow_eL (y := (x16.1, (nth specl03Usual (Int.toNat x15.1)).2)) hx17 rfl]; first | done | kernel_rfl) ?_
    refine sn tt_ok [0, 2] [60000] (p0) ?_
    refine awp_ret ?_
    have hE20 : specl03Any code ci ch = (List.set specl03Usual (Int.toNat x15.1) (x16.1, (nth specl03Usual (Int.toNat x15.1)).2), x16.2.1, x16.2.2) := lt_b hx1 (bif_f h2 (bif_f h7 (bif_t h14 (lt_b hx15 (lt_b hx16 (rfl))))))
    exact gret [256] (congrArg (fun z => (.h z.1 : AV)) hE20.symm) (congrArg (fun z => ([.h code, .i ((z.2.1 : Nat) : Int), .i z.2.2] : List C)) hE20.symm)
   ·
    have h14d := ne_of_beq h14
    refine sn tt_ok [0, 2, 3, 6, 32] [60000] (p0) ?_
    refine ck (x1.1 == (3 : Int)) (fun h21 => ?_) (fun h21 => ?_)
    ·
     have h21d := eq_of_beq h21
     obtain ⟨x22, hx22⟩ : ∃ z : ByteArray × Nat × Int, specl01Pick code x1.2.1 x1.2.2 [⟨#[117]⟩, ⟨#[122]⟩, ⟨#[97]⟩] = z := ⟨_, rfl⟩
     refine wT 3 0 (.own true 256) specl03Usual (fun hw23 hl24 => ?_)
     refine qu tt_ok [(3, .one (.slc (.own true 2560) 2 ((eL specl03Usual) ++ [[.s x22.1, .i 1]])))] [3, 6, 23] [(60000, [.h code, .i ((x22.2.1 : Nat) : Int), .i x22.2.2])] [60000] (po 3 (.give none (.s x22.1) [.h code, .i ((x22.2.1 : Nat) : Int), .i x22.2.2]) (px (ob_give (hx22 ▸ specl01Pick_a code x1.2.1 x1.2.2 [⟨#[117]⟩, ⟨#[122]⟩, ⟨#[97]⟩] (Nat.zero_lt_succ _))) (pa specl03Usual [((x22.1, 1) : FieldD)] p0))) ?_
     refine eqn [(3, .o 2560 (specl03Usual ++ [((x22.1, 1) : FieldD)]))] [3] [] [] (by rw [show ((eL specl03Usual) ++ [[.s x22.1, .i 1]]) = (eL (specl03Usual ++ [((x22.1, 1) : FieldD)])) from app_eL (rfl) (rfl)]; first | done | kernel_rfl) ?_
     refine sn tt_ok [0, 2] [60000] (p0) ?_
     refine awp_ret ?_
     have hE25 : specl03Any code ci ch = (specl03Usual ++ [((x22.1, 1) : FieldD)], x22.2.1, x22.2.2) := lt_b hx1 (bif_f h2 (bif_f h7 (bif_f h14 (bif_t h21 (lt_b hx22 (rfl))))))
     exact gret [2560] (congrArg (fun z => (.h z.1 : AV)) hE25.symm) (congrArg (fun z => ([.h code, .i ((z.2.1 : Nat) : Int), .i z.2.2] : List C)) hE25.symm)
    ·
     have h21d := ne_of_beq h21
     refine tn tt_ok [0, 2, 3, 41] [60000] (p0) ?_
     refine ck (x1.1 == (4 : Int)) (fun h26 => ?_) (fun h26 => ?_)
     ·
      have h26d := eq_of_beq h26
      refine wT 3 0 (.own true 256) specl03Usual (fun hw27 hl28 => ?_)
      refine qu tt_ok [(3, .one (.slc (.own true 3008) 2 ((eL specl03Usual) ++ [[.s ⟨#[117]⟩, .i 1], [.s ⟨#[118]⟩, .i 2]])))] [3, 6, 23] [] [] (pa specl03Usual [((⟨#[117]⟩, 1) : FieldD), ((⟨#[118]⟩, 2) : FieldD)] p0) ?_
      refine eqn [(3, .o 3008 (specl03Usual ++ [((⟨#[117]⟩, 1) : FieldD), ((⟨#[118]⟩, 2) : FieldD)]))] [3] [] [] (by rw [show ((eL specl03Usual) ++ [[.s ⟨#[117]⟩, .i 1], [.s ⟨#[118]⟩, .i 2]]) = (eL (specl03Usual ++ [((⟨#[117]⟩, 1) : FieldD), ((⟨#[118]⟩, 2) : FieldD)])) from app_eL (rfl) (rfl)]; first | done | kernel_rfl) ?_
      refine sn tt_ok [0, 2] [60000] (p0) ?_
      refine awp_ret ?_
      have hE29 : specl03Any code ci ch = (specl03Usual ++ [((⟨#[117]⟩, 1) : FieldD), ((⟨#[118]⟩, 2) : FieldD)], x1.2.1, x1.2.2) := lt_b hx1 (bif_f h2 (bif_f h7 (bif_f h14 (bif_f h21 (bif_t h26 (rfl))))))
      exact gret [3008] (congrArg (fun z => (.h z.1 : AV)) hE29.symm) (congrArg (fun z => ([.h code, .i ((z.2.1 : Nat) : Int), .i z.2.2] : List C)) hE29.symm)
     ·
      refine awp_skip ?_
      refine tu tt_ok [(2, .o 256 specl03Usual)] [2, 3, 6, 23] [] [] (p0) ?_
      refine awp_ret ?_
      have hE30 : specl03Any code ci ch = (specl03Usual, x1.2.1, x1.2.2) := lt_b hx1 (bif_f h2 (bif_f h7 (bif_f h14 (bif_f h21 (bif_f h26 (rfl))))))
      exact gret [256] (congrArg (fun z => (.h z.1 : AV)) hE30.symm) (congrArg (fun z => ([.h code, .i ((z.2.1 : Nat) : Int), .i z.2.2] : List C)) hE30.symm)
def specl04Any (code : (List UInt8)) (ci : Nat) (ch : Int) : FileD × Nat × Int := (lt (α := Int × Nat × Int) (specl01Below code ci ch 7) (fun x1 => (lt (α := FileD × Nat × Int) (specl04File code x1.2.1 x1.2.2 (1 + x1.1)) (fun x2 => (lt (α := Int × Nat × Int) (specl01Below code x2.2.1 x2.2.2 14) (fun x3 => (bif (x3.1 == (0 : Int)) then (lt (α := Int × Nat × Int) (specl01PickInt code x3.2.1 x3.2.2 [0, 60, 61, -1]) (fun x5 => ((x5.1, x2.1.2.1, x2.1.2.2.1, x2.1.2.2.2.1, x2.1.2.2.2.2), x5.2.1, x5.2.2))) else (bif (x3.1 == (1 : Int)) then (lt (α := Int × Nat × Int) (specl01PickInt code x3.2.1 x3.2.2 [-1, 2, 3]) (fun x8 => ((x2.1.1, x8.1, x2.1.2.2.1, x2.1.2.2.2.1, x2.1.2.2.2.2), x8.2.1, x8.2.2))) else (bif (x3.1 == (2 : Int)) then (lt (α := Int × Nat × Int) (specl01PickInt code x3.2.1 x3.2.2 [-1, 60, 61, 9223372036854775807]) (fun x11 => ((x2.1.1, x2.1.2.1, x2.1.2.2.1, x11.1, x2.1.2.2.2.2), x11.2.1, x11.2.2))) else (bif (x3.1 == (3 : Int)) then (lt (α := ByteArray × Nat × Int) (specl03Name code x3.2.1 x3.2.2) (fun x14 => (lt (α := ValueD × Nat × Int) (specl02Any code x14.2.1 x14.2.2) (fun x15 => ((x2.1.1, x2.1.2.1, x2.1.2.2.1, x2.1.2.2.2.1, x2.1.2.2.2.2 ++ [(x14.1, x15.1)]), x15.2.1, x15.2.2))))) else (bif (x3.1 == (4 : Int)) then ((specSetAttr x2.1 ⟨#[97]⟩ (specStringValue ⟨#[114, 101, 100]⟩)), x3.2.1, x3.2.2) else (x2.1, x3.2.1, x3.2.2))))))))))))
theorem specl04Any_a (code : (List UInt8)) (ci : Nat) (ch : Int) : AGive Tryz.prog 157 [.h code, .i ((ci : Nat) : Int), .i ch] [] (.a [.i ((((specl04Any code ci ch)).1).1), .i ((((specl04Any code ci ch)).1).2.1), .b ((((specl04Any code ci ch)).1).2.2.1), .i ((((specl04Any code ci ch)).1).2.2.2.1), .o 0 ((((specl04Any code ci ch)).1).2.2.2.2)]) [.h code, .i ((((specl04Any code ci ch)).2.1 : Nat) : Int), .i (((specl04Any code ci ch)).2.2)] := by
 refine agive_of (tt := tt) tt_ok Tryz.func157 (fn := Tryz.f157) rfl (by unfold FnOk; kernel_rfl) (Nat.le_of_ble_eq_true rfl) (Nat.le_of_ble_eq_true rfl) rfl rfl fun w0 F0 hG => ?_
 refine sn tt_ok [0, 2] [2, 60000] (p0) ?_
 obtain ⟨x1, hx1⟩ : ∃ z : Int × Nat × Int, specl01Below code ci ch 7 = z := ⟨_, rfl⟩
 have hbx1 := hx1 ▸ specl01Below_bd code ci ch 7
 obtain ⟨x2, hx2⟩ : ∃ z : FileD × Nat × Int, specl04File code x1.2.1 x1.2.2 (1 + x1.1) = z := ⟨_, rfl⟩
 have hlx2 := l04_len code x1.2.1 x1.2.2 (1 + x1.1)
 rw [hx2] at hlx2
 refine tn tt_ok [0, 2, 3] [2, 3, 60000] (po 2 (.give none (.i x1.1) [.h code, .i ((x1.2.1 : Nat) : Int), .i x1.2.2]) (px (ob_give (hx1 ▸ specl01Below_a code ci ch 7)) (pe 3 (av_i (IntWalk.i64_in (1 + x1.1) (by omega))) (po 4 (.give none (.a [.i x2.1.1, .i x2.1.2.1, .b x2.1.2.2.1, .i x2.1.2.2.2.1, .o 0 x2.1.2.2.2.2]) [.h code, .i ((x2.2.1 : Nat) : Int), .i x2.2.2]) (px (ob_give (hx2 ▸ specl04File_a code x1.2.1 x1.2.2 (1 + x1.1))) p0))))) ?_
 refine awp_seq ?_
 obtain ⟨x3, hx3⟩ : ∃ z : Int × Nat × Int, specl01Below code x2.2.1 x2.2.2 14 = z := ⟨_, rfl⟩
 have hbx3 := hx3 ▸ specl01Below_bd code x2.2.1 x2.2.2 14
 refine tu tt_ok [(2, .p 2 0), (3, .p 3 0), (10, .i x3.1)] [] [(2, [.i 0, .i 0, .b false, .i 0, .e 4]), (3, [.i x2.1.1, .i x2.1.2.1, .b x2.1.2.2.1, .i x2.1.2.2.2.1, .o 512 x2.1.2.2.2.2]), (60000, [.h code, .i ((x3.2.1 : Nat) : Int), .i x3.2.2])] [60000] (po 1 (.give none (.i x3.1) [.h code, .i ((x3.2.1 : Nat) : Int), .i x3.2.2]) (px (ob_give (hx3 ▸ specl01Below_a code x2.2.1 x2.2.2 14)) p0)) ?_
 refine awp_block ?_
 refine sn tt_ok [0, 2, 3, 10, 11] [2, 3, 60000] (p0) ?_
 refine ck (x3.1 == (0 : Int)) (fun h4 => ?_) (fun h4 => ?_)
 ·
  obtain ⟨x5, hx5⟩ : ∃ z : Int × Nat × Int, specl01PickInt code x3.2.1 x3.2.2 [0, 60, 61, -1] = z := ⟨_, rfl⟩
  refine qn tt_ok [0, 2, 3] [2, 3, 60000] (po 2 (.give none (.i x5.1) [.h code, .i ((x5.2.1 : Nat) : Int), .i x5.2.2]) (px (ob_give (hx5 ▸ specl01PickInt_a code x3.2.1 x3.2.2 [0, 60, 61, -1] (Nat.zero_lt_succ _))) p0)) ?_
  refine tu tt_ok [] [3, 10] [(2, [.i x5.1, .i x2.1.2.1, .b x2.1.2.2.1, .i x2.1.2.2.2.1, .o 512 x2.1.2.2.2.2]), (60000, [.h code, .i ((x5.2.1 : Nat) : Int), .i x5.2.2])] [2, 3, 60000] (p0) ?_
  refine awp_ret ?_
  have hE6 : specl04Any code ci ch = ((x5.1, x2.1.2.1, x2.1.2.2.1, x2.1.2.2.2.1, x2.1.2.2.2.2), x5.2.1, x5.2.2) := lt_b hx1 (lt_b hx2 (lt_b hx3 (bif_t h4 (lt_b hx5 (rfl)))))
  exact gret [] (congrArg (fun z => (.a [.i z.1.1, .i z.1.2.1, .b z.1.2.2.1, .i z.1.2.2.2.1, .o 0 z.1.2.2.2.2] : AV)) hE6.symm) (congrArg (fun z => ([.h code, .i ((z.2.1 : Nat) : Int), .i z.2.2] : List C)) hE6.symm)
 ·
  have h4d := ne_of_beq h4
  refine tn tt_ok [0, 2, 3, 10, 17] [2, 3, 60000] (p0) ?_
  refine ck (x3.1 == (1 : Int)) (fun h7 => ?_) (fun h7 => ?_)
  ·
   obtain ⟨x8, hx8⟩ : ∃ z : Int × Nat × Int, specl01PickInt code x3.2.1 x3.2.2 [-1, 2, 3] = z := ⟨_, rfl⟩
   refine qu tt_ok [] [10] [(3, [.i x2.1.1, .i x8.1, .b x2.1.2.2.1, .i x2.1.2.2.2.1, .o 512 x2.1.2.2.2.2]), (60000, [.h code, .i ((x8.2.1 : Nat) : Int), .i x8.2.2])] [3, 60000] (po 2 (.give none (.i x8.1) [.h code, .i ((x8.2.1 : Nat) : Int), .i x8.2.2]) (px (ob_give (hx8 ▸ specl01PickInt_a code x3.2.1 x3.2.2 [-1, 2, 3] (Nat.zero_lt_succ _))) p0)) ?_
   refine sn tt_ok [0, 2] [2, 60000] (p0) ?_
   refine awp_ret ?_
   have hE9 : specl04Any code ci ch = ((x2.1.1, x8.1, x2.1.2.2.1, x2.1.2.2.2.1, x2.1.2.2.2.2), x8.2.1, x8.2.2) := lt_b hx1 (lt_b hx2 (lt_b hx3 (bif_f h4 (bif_t h7 (lt_b hx8 (rfl))))))
   exact gret [] (congrArg (fun z => (.a [.i z.1.1, .i z.1.2.1, .b z.1.2.2.1, .i z.1.2.2.2.1, .o 0 z.1.2.2.2.2] : AV)) hE9.symm) (congrArg (fun z => ([.h code, .i ((z.2.1 : Nat) : Int), .i z.2.2] : List C)) hE9.symm)
  ·
   have h7d := ne_of_beq h7
   refine tu tt_ok [(23, .b (x3.1 == (2 : Int)))] [] [] [] (p0) ?_
   refine ck (x3.1 == (2 : Int)) (fun h10 => ?_) (fun h10 => ?_)
   ·
    obtain ⟨x11, hx11⟩ : ∃ z : Int × Nat × Int, specl01PickInt code x3.2.1 x3.2.2 [-1, 60, 61, 9223372036854775807] = z := ⟨_, rfl⟩
    refine rn tt_ok [0, 2, 3] [2, 3, 60000] (po 2 (.give none (.i x11.1) [.h code, .i ((x11.2.1 : Nat) : Int), .i x11.2.2]) (px (ob_give (hx11 ▸ specl01PickInt_a code x3.2.1 x3.2.2 [-1, 60, 61, 9223372036854775807] (Nat.zero_lt_succ _))) p0)) ?_
    refine tn tt_ok [0, 2] [2, 60000] (p0) ?_
    refine awp_ret ?_
    have hE12 : specl04Any code ci ch = ((x2.1.1, x2.1.2.1, x2.1.2.2.1, x11.1, x2.1.2.2.2.2), x11.2.1, x11.2.2) := lt_b hx1 (lt_b hx2 (lt_b hx3 (bif_f h4 (bif_f h7 (bif_t h10 (lt_b hx11 (rfl)))))))
    exact gret [] (congrArg (fun z => (.a [.i z.1.1, .i z.1.2.1, .b z.1.2.2.1, .i z.1.2.2.2.1, .o 0 z.1.2.2.2.2] : AV)) hE12.symm) (congrArg (fun z => ([.h code, .i ((z.2.1 : Nat) : Int), .i z.2.2] : List C)) hE12.symm)
   ·
    have h10d := ne_of_beq h10
    refine sn tt_ok [0, 2, 3, 10, 29] [2, 3, 60000] (p0) ?_
    refine ck (x3.1 == (3 : Int)) (fun h13 => ?_) (fun h13 => ?_)
    ·
     have h13d := eq_of_beq h13
     obtain ⟨x14, hx14⟩ : ∃ z : ByteArray × Nat × Int, specl03Name code x3.2.1 x3.2.2 = z := ⟨_, rfl⟩
     obtain ⟨x15, hx15⟩ : ∃ z : ValueD × Nat × Int, specl02Any code x14.2.1 x14.2.2 = z := ⟨_, rfl⟩
     refine wB 3 4 (.own true 512) x2.1.2.2.2.2 (fun hw16 hl17 => ?_)
     refine qU tt_ok tt_mx [] [10, 23] [(3, [.i x2.1.1, .i x2.1.2.1, .b x2.1.2.2.1, .i x2.1.2.2.2.1, .slc (.own true 2496) 4 ((eL x2.1.2.2.2.2) ++ [[.s x14.1, .i x15.1.1, .i x15.1.2.1, .s x15.1.2.2]])]), (60000, [.h code, .i ((x15.2.1 : Nat) : Int), .i x15.2.2])] [3, 60000] (po 3 (.give none (.s x14.1) [.h code, .i ((x14.2.1 : Nat) : Int), .i x14.2.2]) (px (ob_give (hx14 ▸ specl03Name_a code x3.2.1 x3.2.2)) (po 5 (.give none (.a [.i x15.1.1, .i x15.1.2.1, .s x15.1.2.2]) [.h code, .i ((x15.2.1 : Nat) : Int), .i x15.2.2]) (px (ob_give (hx15 ▸ specl02Any_a code x14.2.1 x14.2.2)) (pa x2.1.2.2.2.2 [(x14.1, x15.1)] p0))))) ?_
     refine eqn [] [] [(3, [.i x2.1.1, .i x2.1.2.1, .b x2.1.2.2.1, .i x2.1.2.2.2.1, .o 2496 (x2.1.2.2.2.2 ++ [(x14.1, x15.1)])])] [3] (by rw [show ((eL x2.1.2.2.2.2) ++ [[.s x14.1, .i x15.1.1, .i x15.1.2.1, .s x15.1.2.2]]) = (eL (x2.1.2.2.2.2 ++ [(x14.1, x15.1)])) from app_eL (rfl) (rfl)]; first | done | kernel_rfl) ?_
     refine sn tt_ok [0, 2] [2, 60000] (p0) ?_
     refine awp_ret ?_
     have hE18 : specl04Any code ci ch = ((x2.1.1, x2.1.2.1, x2.1.2.2.1, x2.1.2.2.2.1, x2.1.2.2.2.2 ++ [(x14.1, x15.1)]), x15.2.1, x15.2.2) := lt_b hx1 (lt_b hx2 (lt_b hx3 (bif_f h4 (bif_f h7 (bif_f h10 (bif_t h13 (lt_b hx14 (lt_b hx15 (rfl)))))))))
     exact gret [] (congrArg (fun z => (.a [.i z.1.1, .i z.1.2.1, .b z.1.2.2.1, .i z.1.2.2.2.1, .o 0 z.1.2.2.2.2] : AV)) hE18.symm) (congrArg (fun z => ([.h code, .i ((z.2.1 : Nat) : Int), .i z.2.2] : List C)) hE18.symm)
    ·
     have h13d := ne_of_beq h13
     refine tn tt_ok [0, 2, 3, 41] [2, 3, 60000] (p0) ?_
     refine ck (x3.1 == (4 : Int)) (fun h19 => ?_) (fun h19 => ?_)
     ·
      have h19d := eq_of_beq h19
      refine qU tt_ok tt_mx [] [10, 23] [(3, [.i ((specSetAttr x2.1 ⟨#[97]⟩ (specStringValue ⟨#[114, 101, 100]⟩)).1), .i ((specSetAttr x2.1 ⟨#[97]⟩ (specStringValue ⟨#[114, 101, 100]⟩)).2.1), .b ((specSetAttr x2.1 ⟨#[97]⟩ (specStringValue ⟨#[114, 101, 100]⟩)).2.2.1), .i ((specSetAttr x2.1 ⟨#[97]⟩ (specStringValue ⟨#[114, 101, 100]⟩)).2.2.2.1), .o 2880 ((specSetAttr x2.1 ⟨#[97]⟩ (specStringValue ⟨#[114, 101, 100]⟩)).2.2.2.2)])] [3] (pc 1 (specStringValue_a ⟨#[114, 101, 100]⟩) (pc 2 (specSetAttr_a x2.1 ⟨#[97]⟩ (specStringValue ⟨#[114, 101, 100]⟩) (by first | omega | (simp; done) | (simp; omega))) p0)) ?_
      refine sn tt_ok [0, 2] [2, 60000] (p0) ?_
      refine awp_ret ?_
      have hE20 : specl04Any code ci ch = ((specSetAttr x2.1 ⟨#[97]⟩ (specStringValue ⟨#[114, 101, 100]⟩)), x3.2.1, x3.2.2) := lt_b hx1 (lt_b hx2 (lt_b hx3 (bif_f h4 (bif_f h7 (bif_f h10 (bif_f h13 (bif_t h19 (rfl))))))))
      exact gret [] (congrArg (fun z => (.a [.i z.1.1, .i z.1.2.1, .b z.1.2.2.1, .i z.1.2.2.2.1, .o 0 z.1.2.2.2.2] : AV)) hE20.symm) (congrArg (fun z => ([.h code, .i ((z.2.1 : Nat) : Int), .i z.2.2] : List C)) hE20.symm)
     ·
      refine awp_skip ?_
      refine tu tt_ok [] [3, 10, 23] [(2, [.i x2.1.1, .i x2.1.2.1, .b x2.1.2.2.1, .i x2.1.2.2.2.1, .o 512 x2.1.2.2.2.2])] [2, 3] (p0) ?_
      refine awp_ret ?_
      have hE21 : specl04Any code ci ch = (x2.1, x3.2.1, x3.2.2) := lt_b hx1 (lt_b hx2 (lt_b hx3 (bif_f h4 (bif_f h7 (bif_f h10 (bif_f h13 (bif_f h19 (rfl))))))))
      exact gret [] (congrArg (fun z => (.a [.i z.1.1, .i z.1.2.1, .b z.1.2.2.1, .i z.1.2.2.2.1, .o 0 z.1.2.2.2.2] : AV)) hE21.symm) (congrArg (fun z => ([.h code, .i ((z.2.1 : Nat) : Int), .i z.2.2] : List C)) hE21.symm)
def specl05Any_f0 (code : (List UInt8)) (s0 : StoreD × Nat × Int) : Rd (StoreD × Nat × Int) (StoreD × Nat × Int) (StoreD × Nat × Int) := (bif decide ((s0.1.2.1.length : Int) < (12 : Int)) then (lt (α := FileD × Nat × Int) (specl04File code s0.2.1 s0.2.2 1) (fun x16 => (.next ((((specCreateFile s0.1 x16.1)).1), x16.2.1, x16.2.2)))) else (.brk (s0.1, s0.2.1, s0.2.2)))
def specl05Any (code : (List UInt8)) (ci : Nat) (ch : Int) : StoreD × Nat × Int := (lt (α := StoreD × Nat × Int) (specl05Store code ci ch) (fun x1 => (lt (α := Int × Nat × Int) (specl01Below code x1.2.1 x1.2.2 14) (fun x2 => (bif (x2.1 == (0 : Int)) then (lt (α := Int × Nat × Int) (specl01PickInt code x2.2.1 x2.2.2 [0, 60, 61, 62]) (fun x4 => ((x1.1.1, x1.1.2.1, x4.1), x4.2.1, x4.2.2))) else (bif (x2.1 == (1 : Int)) then (lt (α := FileD × Nat × Int) (specl04Any code x2.2.1 x2.2.2) (fun x7 => ((x1.1.1, x1.1.2.1 ++ [x7.1], x1.1.2.2), x7.2.1, x7.2.2))) else (bif (x2.1 == (2 : Int)) then (lt (α := (List FieldD) × Nat × Int) (specl03Any code x2.2.1 x2.2.2) (fun x12 => ((x12.1, x1.1.2.1, x1.1.2.2), x12.2.1, x12.2.2))) else (bif (x2.1 == (3 : Int)) then (Out.on (whlD (specl05Any_f0 code) 13 (x1.1, x2.2.1, x2.2.2)) (fun y0 => (y0.1, y0.2.1, y0.2.2))) else (x1.1, x2.2.1, x2.2.2)))))))))
theorem specl05Any_w (code : List UInt8) (ci : Nat) (ch : Int) {s : StoreD} (h : S5 s) : (whl (specl05Any_f0 code) 13 (s, ci, ch)).isSome = true :=
  whl_upI (fun s => S5 s.1) (fun s => (s.1.2.1.length : Int)) 12 (fun s s' hi h => by
    unfold specl05Any_f0 lt at h
    by_cases hc : (s.1.2.1.length : Int) < 12
    · simp only [decide_eq_true hc, cond_true] at h
      have h := Rd.next.inj h
      obtain ⟨h1, h2⟩ := s5_push hi (by omega) (l04_ok code s.2.1 s.2.2 1)
      rw [← h]
      exact ⟨hc, by dsimp only; omega, h2⟩
    · simp only [decide_eq_false hc, cond_false] at h
      cases h) 12 _ h (by show (12 : Int) ≤ (s.2.1.length : Int) + 12; omega)
theorem specl05Any_a (code : (List UInt8)) (ci : Nat) (ch : Int) : AGive Tryz.prog 115 [.h code, .i ((ci : Nat) : Int), .i ch] [] (.a [.h ((((specl05Any code ci ch)).1).1), .q 0 ((((specl05Any code ci ch)).1).2.1), .i ((((specl05Any code ci ch)).1).2.2)]) [.h code, .i ((((specl05Any code ci ch)).2.1 : Nat) : Int), .i (((specl05Any code ci ch)).2.2)] := by
 refine agive_of (tt := tt) tt_ok Tryz.func115 (fn := Tryz.f115) rfl (by unfold FnOk; kernel_rfl) (Nat.le_of_ble_eq_true rfl) (Nat.le_of_ble_eq_true rfl) rfl rfl fun w0 F0 hG => ?_
 refine sn tt_ok [0, 2] [2, 60000] (p0) ?_
 obtain ⟨x1, hx1⟩ : ∃ z : StoreD × Nat × Int, specl05Store code ci ch = z := ⟨_, rfl⟩
 have hsx1 := l05_ok code ci ch
 rw [hx1] at hsx1
 refine tn tt_ok [0, 2, 3] [2, 3, 60000] (po 1 (.give none (.a [.o 0 x1.1.1, .q 1 x1.1.2.1, .i x1.1.2.2]) [.h code, .i ((x1.2.1 : Nat) : Int), .i x1.2.2]) (px (ob_give (hx1 ▸ specl05Store_a code ci ch)) p0)) ?_
 refine awp_seq ?_
 obtain ⟨x2, hx2⟩ : ∃ z : Int × Nat × Int, specl01Below code x1.2.1 x1.2.2 14 = z := ⟨_, rfl⟩
 have hbx2 := hx2 ▸ specl01Below_bd code x1.2.1 x1.2.2 14
 refine tu tt_ok [(2, .p 2 0), (3, .p 3 0), (7, .i x2.1)] [] [(2, [.e 2, .e 5, .i 0]), (3, [.o 320 x1.1.1, .q 321 x1.1.2.1, .i x1.1.2.2]), (60000, [.h code, .i ((x2.2.1 : Nat) : Int), .i x2.2.2])] [60000] (po 1 (.give none (.i x2.1) [.h code, .i ((x2.2.1 : Nat) : Int), .i x2.2.2]) (px (ob_give (hx2 ▸ specl01Below_a code x1.2.1 x1.2.2 14)) p0)) ?_
 refine awp_block ?_
 refine sn tt_ok [0, 2, 3, 7, 8] [2, 3, 60000] (p0) ?_
 refine ck (x2.1 == (0 : Int)) (fun h3 => ?_) (fun h3 => ?_)
 ·
  obtain ⟨x4, hx4⟩ : ∃ z : Int × Nat × Int, specl01PickInt code x2.2.1 x2.2.2 [0, 60, 61, 62] = z := ⟨_, rfl⟩
  refine qn tt_ok [0, 2, 3] [2, 3, 60000] (po 2 (.give none (.i x4.1) [.h code, .i ((x4.2.1 : Nat) : Int), .i x4.2.2]) (px (ob_give (hx4 ▸ specl01PickInt_a code x2.2.1 x2.2.2 [0, 60, 61, 62] (Nat.zero_lt_succ _))) p0)) ?_
  refine tu tt_ok [] [3, 7] [(2, [.o 320 x1.1.1, .q 321 x1.1.2.1, .i x4.1]), (60000, [.h code, .i ((x4.2.1 : Nat) : Int), .i x4.2.2])] [2, 3, 60000] (p0) ?_
  refine awp_ret ?_
  have hE5 : specl05Any code ci ch = ((x1.1.1, x1.1.2.1, x4.1), x4.2.1, x4.2.2) := lt_b hx1 (lt_b hx2 (bif_t h3 (lt_b hx4 (rfl))))
  exact gret [320] (congrArg (fun z => (.a [.h z.1.1, .q 0 z.1.2.1, .i z.1.2.2] : AV)) hE5.symm) (congrArg (fun z => ([.h code, .i ((z.2.1 : Nat) : Int), .i z.2.2] : List C)) hE5.symm)
 ·
  have h3d := ne_of_beq h3
  refine tn tt_ok [0, 2, 3, 7, 14] [2, 3, 60000] (p0) ?_
  refine ck (x2.1 == (1 : Int)) (fun h6 => ?_) (fun h6 => ?_)
  ·
   have h6d := eq_of_beq h6
   obtain ⟨x7, hx7⟩ : ∃ z : FileD × Nat × Int, specl04Any code x2.2.1 x2.2.2 = z := ⟨_, rfl⟩
   refine wB 3 1 (.own false 321) x1.1.2.1 (fun hw8 hl9 => ?_)
   refine qU tt_ok tt_mx [] [7] [(3, [.o 320 x1.1.1, .slc (.own false 1344) 5 ((eL x1.1.2.1) ++ [[.i x7.1.1, .i x7.1.2.1, .b x7.1.2.2.1, .i x7.1.2.2.2.1, .h x7.1.2.2.2.2]]), .i x1.1.2.2]), (60000, [.h code, .i ((x7.2.1 : Nat) : Int), .i x7.2.2])] [3, 60000] (po 3 (.give none (.a [.i x7.1.1, .i x7.1.2.1, .b x7.1.2.2.1, .i x7.1.2.2.2.1, .o 0 x7.1.2.2.2.2]) [.h code, .i ((x7.2.1 : Nat) : Int), .i x7.2.2]) (px (ob_give (hx7 ▸ specl04Any_a code x2.2.1 x2.2.2)) (pa x1.1.2.1 [x7.1] p0))) ?_
   refine eqn [] [] [(3, [.o 320 x1.1.1, .q 1344 (x1.1.2.1 ++ [x7.1]), .i x1.1.2.2])] [3] (by rw [show ((eL x1.1.2.1) ++ [[.i x7.1.1, .i x7.1.2.1, .b x7.1.2.2.1, .i x7.1.2.2.2.1, .h x7.1.2.2.2.2]]) = (eL (x1.1.2.1 ++ [x7.1])) from app_eL (rfl) (rfl)]; first | done | kernel_rfl) ?_
   refine sn tt_ok [0, 2] [2, 60000] (p0) ?_
   refine awp_ret ?_
   have hE10 : specl05Any code ci ch = ((x1.1.1, x1.1.2.1 ++ [x7.1], x1.1.2.2), x7.2.1, x7.2.2) := lt_b hx1 (lt_b hx2 (bif_f h3 (bif_t h6 (lt_b hx7 (rfl)))))
   exact gret [320] (congrArg (fun z => (.a [.h z.1.1, .q 0 z.1.2.1, .i z.1.2.2] : AV)) hE10.symm) (congrArg (fun z => ([.h code, .i ((z.2.1 : Nat) : Int), .i z.2.2] : List C)) hE10.symm)
  ·
   refine tu tt_ok [(23, .b (x2.1 == (2 : Int)))] [] [] [] (p0) ?_
   refine ck (x2.1 == (2 : Int)) (fun h11 => ?_) (fun h11 => ?_)
   ·
    obtain ⟨x12, hx12⟩ : ∃ z : (List FieldD) × Nat × Int, specl03Any code x2.2.1 x2.2.2 = z := ⟨_, rfl⟩
    refine rn tt_ok [0, 2, 3] [2, 3, 60000] (po 1 (.give none (.h x12.1) [.h code, .i ((x12.2.1 : Nat) : Int), .i x12.2.2]) (px (ob_give (hx12 ▸ specl03Any_a code x2.2.1 x2.2.2)) p0)) ?_
    refine tn tt_ok [0, 2] [2, 60000] (p0) ?_
    refine awp_ret ?_
    have hE13 : specl05Any code ci ch = ((x12.1, x1.1.2.1, x1.1.2.2), x12.2.1, x12.2.2) := lt_b hx1 (lt_b hx2 (bif_f h3 (bif_f h6 (bif_t h11 (lt_b hx12 (rfl))))))
    exact gret [] (congrArg (fun z => (.a [.h z.1.1, .q 0 z.1.2.1, .i z.1.2.2] : AV)) hE13.symm) (congrArg (fun z => ([.h code, .i ((z.2.1 : Nat) : Int), .i z.2.2] : List C)) hE13.symm)
   ·
    refine sn tt_ok [0, 2, 3, 28] [2, 3, 60000] (p0) ?_
    refine ck (x2.1 == (3 : Int)) (fun h14 => ?_) (fun h14 => ?_)
    ·
     refine mz [(28, .b (x2.1 == (3 : Int)))] [7, 23] [] [] ?_
     refine blw (fun (s0 : StoreD × Nat × Int) => []) [28] (fun s0 => [(3, [.o 147206 s0.1.1, .q 147207 s0.1.2.1, .i s0.1.2.2]), (60000, [.h code, .i ((s0.2.1 : Nat) : Int), .i s0.2.2])]) [3, 60000] (fun (y0 : StoreD × Nat × Int) => []) [28] (fun y0 => [(3, [.o 147356 y0.1.1, .q 147357 y0.1.2.1, .i y0.1.2.2]), (60000, [.h code, .i ((y0.2.1 : Nat) : Int), .i y0.2.2])]) [3, 60000] (fun (k0 : Nat) (s0 : StoreD × Nat × Int) => whl (specl05Any_f0 code) k0 s0 = some (whlD (specl05Any_f0 code) 13 (x1.1, x2.2.1, x2.2.2))) (fun (y0 : StoreD × Nat × Int) => (whlD (specl05Any_f0 code) 13 (x1.1, x2.2.1, x2.2.2)) = .brk y0) 13 (x1.1, x2.2.1, x2.2.2) (weak_sf [(320, 147206), (321, 147207)] (by kernel_rfl)) (whl_some (specl05Any_w code _ _ hsx1.1)) (fun _ h => whl_zero h) (fun k0 s0 hI0 => ?_) (fun y0 hD0 => ?_)
     ·
      refine awp_seq ?_
      refine sn tt_ok [0, 2, 3, 33] [2, 3, 60000] (pl 2 s0.1.2.1 p0) ?_
      refine ck (decide ((s0.1.2.1.length : Int) < (12 : Int))) (fun h15 => ?_) (fun h15 => ?_)
      ·
       refine awp_skip ?_
       refine awp_block ?_
       obtain ⟨x16, hx16⟩ : ∃ z : FileD × Nat × Int, specl04File code s0.2.1 s0.2.2 1 = z := ⟨_, rfl⟩
       refine qN tt_ok tt_mx [0, 2, 3] [2, 3, 60000] (po 2 (.give none (.a [.i x16.1.1, .i x16.1.2.1, .b x16.1.2.2.1, .i x16.1.2.2.2.1, .o 0 x16.1.2.2.2.2]) [.h code, .i ((x16.2.1 : Nat) : Int), .i x16.2.2]) (px (ob_give (hx16 ▸ specl04File_a code s0.2.1 s0.2.2 1)) (pc 3 (specCreateFile_a s0.1 x16.1) p0))) ?_
       exact Exists.intro ((((specCreateFile s0.1 x16.1)).1), x16.2.1, x16.2.2) (And.intro (weak_gf [] [] [2433] [(2432, 147206), (2433, 147207)] (by kernel_rfl)) (wn hI0 (bif_t h15 (lt_b hx16 (rfl)))))
      ·
       refine awp_exit ?_
       exact Exists.intro _ (And.intro (weak_sf [(147206, 147356), (147207, 147357)] (by kernel_rfl)) (wb hI0 (bif_f h15 (rfl))))
     ·
      refine sn tt_ok [0, 2] [2, 60000] (p0) ?_
      refine awp_ret ?_
      have hE17 : specl05Any code ci ch = (y0.1, y0.2.1, y0.2.2) := lt_b hx1 (lt_b hx2 (bif_f h3 (bif_f h6 (bif_f h11 (bif_t h14 (on_b hD0 (rfl)))))))
      exact gret [147356] (congrArg (fun z => (.a [.h z.1.1, .q 0 z.1.2.1, .i z.1.2.2] : AV)) hE17.symm) (congrArg (fun z => ([.h code, .i ((z.2.1 : Nat) : Int), .i z.2.2] : List C)) hE17.symm)
    ·
     refine awp_skip ?_
     refine tn tt_ok [0, 2] [2, 60000] (p0) ?_
     refine awp_ret ?_
     have hE18 : specl05Any code ci ch = (x1.1, x2.2.1, x2.2.2) := lt_b hx1 (lt_b hx2 (bif_f h3 (bif_f h6 (bif_f h11 (bif_f h14 (rfl))))))
     exact gret [320] (congrArg (fun z => (.a [.h z.1.1, .q 0 z.1.2.1, .i z.1.2.2] : AV)) hE18.symm) (congrArg (fun z => ([.h code, .i ((z.2.1 : Nat) : Int), .i z.2.2] : List C)) hE18.symm)
def specl09Any (code : (List UInt8)) (ci : Nat) (ch : Int) : (List NodeD) × Nat × Int := (lt (α := (List NodeD) × Nat × Int) (specl09Question code ci ch) (fun x1 => (lt (α := Int × Nat × Int) (specl01Below code x1.2.1 x1.2.2 (x1.1.length : Int)) (fun x2 => (lt (α := Int × Nat × Int) (specl01Below code x2.2.1 x2.2.2 10) (fun x3 => (bif (x3.1 == (0 : Int)) then (lt (α := Int × Nat × Int) (specl01Below code x3.2.1 x3.2.2 12) (fun x5 => (List.set x1.1 (Int.toNat x2.1) ((x5.1 - 1), (nth x1.1 (Int.toNat x2.1)).2.1, (nth x1.1 (Int.toNat x2.1)).2.2.1, (nth x1.1 (Int.toNat x2.1)).2.2.2.1, ((nth x1.1 (Int.toNat x2.1)).2.2.2.2.1, (nth x1.1 (Int.toNat x2.1)).2.2.2.2.2.1, (nth x1.1 (Int.toNat x2.1)).2.2.2.2.2.2)), x5.2.1, x5.2.2))) else (bif (x3.1 == (1 : Int)) then (lt (α := Int × Nat × Int) (specl01PickInt code x3.2.1 x3.2.2 [-1, 0, x2.1, 8, 9223372036854775807]) (fun x11 => (List.set x1.1 (Int.toNat x2.1) ((nth x1.1 (Int.toNat x2.1)).1, x11.1, (nth x1.1 (Int.toNat x2.1)).2.2.1, (nth x1.1 (Int.toNat x2.1)).2.2.2.1, ((nth x1.1 (Int.toNat x2.1)).2.2.2.2.1, (nth x1.1 (Int.toNat x2.1)).2.2.2.2.2.1, (nth x1.1 (Int.toNat x2.1)).2.2.2.2.2.2)), x11.2.1, x11.2.2))) else (bif (x3.1 == (2 : Int)) then (lt (α := ByteArray × Nat × Int) (specl01Pick code x3.2.1 x3.2.2 [⟨#[]⟩, ⟨#[97]⟩, ⟨#[100, 97]⟩, ⟨#[97, 98, 99, 100, 101, 102, 103]⟩, ⟨#[65]⟩]) (fun x17 => (List.set x1.1 (Int.toNat x2.1) ((nth x1.1 (Int.toNat x2.1)).1, (nth x1.1 (Int.toNat x2.1)).2.1, (nth x1.1 (Int.toNat x2.1)).2.2.1, x17.1, ((nth x1.1 (Int.toNat x2.1)).2.2.2.2.1, (nth x1.1 (Int.toNat x2.1)).2.2.2.2.2.1, (nth x1.1 (Int.toNat x2.1)).2.2.2.2.2.2)), x17.2.1, x17.2.2))) else (bif (x3.1 == (3 : Int)) then (lt (α := NodeD × Nat × Int) (specl09Leaf code x3.2.1 x3.2.2) (fun x23 => (x1.1 ++ [x23.1], x23.2.1, x23.2.2))) else (bif (x3.1 == (4 : Int)) then (lt (α := ValueD × Nat × Int) (specl02Any code x3.2.1 x3.2.2) (fun x28 => (List.set x1.1 (Int.toNat x2.1) ((nth x1.1 (Int.toNat x2.1)).1, (nth x1.1 (Int.toNat x2.1)).2.1, (nth x1.1 (Int.toNat x2.1)).2.2.1, (nth x1.1 (Int.toNat x2.1)).2.2.2.1, x28.1), x28.2.1, x28.2.2))) else (bif (x3.1 == (5 : Int)) then ([], x3.2.1, x3.2.2) else (x1.1, x3.2.1, x3.2.2)))))))))))))
theorem specl09Any_a (code : (List UInt8)) (ci : Nat) (ch : Int) : AGive Tryz.prog 160 [.h code, .i ((ci : Nat) : Int), .i ch] [] (.o 0 (((specl09Any code ci ch)).1)) [.h code, .i ((((specl09Any code ci ch)).2.1 : Nat) : Int), .i (((specl09Any code ci ch)).2.2)] := by
 refine agive_of (tt := tt) tt_ok Tryz.func160 (fn := Tryz.f160) rfl (by unfold FnOk; kernel_rfl) (Nat.le_of_ble_eq_true rfl) (Nat.le_of_ble_eq_true rfl) rfl rfl fun w0 F0 hG => ?_
 refine sn tt_ok [0, 2] [60000] (p0) ?_
 obtain ⟨x1, hx1⟩ : ∃ z : (List NodeD) × Nat × Int, specl09Question code ci ch = z := ⟨_, rfl⟩
 have hbx1 := hx1 ▸ ques_len code ci ch
 refine tn tt_ok [0, 2, 3] [60000] (po 1 (.give none (.o 0 x1.1) [.h code, .i ((x1.2.1 : Nat) : Int), .i x1.2.2]) (px (ob_give (hx1 ▸ specl09Question_a code ci ch)) p0)) ?_
 obtain ⟨x2, hx2⟩ : ∃ z : Int × Nat × Int, specl01Below code x1.2.1 x1.2.2 (x1.1.length : Int) = z := ⟨_, rfl⟩
 have hbx2 := hx2 ▸ specl01Below_bd code x1.2.1 x1.2.2 (x1.1.length : Int)
 refine tu tt_ok [(2, .e 0), (3, .o 384 x1.1), (4, .i x2.1)] [] [(60000, [.h code, .i ((x2.2.1 : Nat) : Int), .i x2.2.2])] [60000] (pl 2 x1.1 (po 3 (.give none (.i x2.1) [.h code, .i ((x2.2.1 : Nat) : Int), .i x2.2.2]) (px (ob_give (hx2 ▸ specl01Below_a code x1.2.1 x1.2.2 (x1.1.length : Int))) p0))) ?_
 refine awp_seq ?_
 obtain ⟨x3, hx3⟩ : ∃ z : Int × Nat × Int, specl01Below code x2.2.1 x2.2.2 10 = z := ⟨_, rfl⟩
 have hbx3 := hx3 ▸ specl01Below_bd code x2.2.1 x2.2.2 10
 refine sn tt_ok [0, 2, 3, 4, 12] [60000] (po 1 (.give none (.i x3.1) [.h code, .i ((x3.2.1 : Nat) : Int), .i x3.2.2]) (px (ob_give (hx3 ▸ specl01Below_a code x2.2.1 x2.2.2 10)) p0)) ?_
 refine awp_block ?_
 refine tn tt_ok [0, 2, 3, 4, 12, 13] [60000] (p0) ?_
 refine ck (x3.1 == (0 : Int)) (fun h4 => ?_) (fun h4 => ?_)
 ·
  have h4d := eq_of_beq h4
  obtain ⟨x5, hx5⟩ : ∃ z : Int × Nat × Int, specl01Below code x3.2.1 x3.2.2 12 = z := ⟨_, rfl⟩
  have hbx5 := hx5 ▸ specl01Below_bd code x3.2.1 x3.2.2 12
  refine wT 3 0 (.own true 384) x1.1 (fun hw7 hl8 => ?_)
  have hx6 := ng x1.1 (Int.toNat x2.1)
  refine qu tt_ok [(3, .one (.slc (.own true 384) 7 (setRow (eL x1.1) (Int.toNat x2.1) 0 [.i (x5.1 - 1)])))] [3, 4] [(60000, [.h code, .i ((x5.2.1 : Nat) : Int), .i x5.2.2])] [60000] (po 3 (.give none (.i x5.1) [.h code, .i ((x5.2.1 : Nat) : Int), .i x5.2.2]) (px (ob_give (hx5 ▸ specl01Below_a code x3.2.1 x3.2.2 12)) (pe 4 (av_i (IntWalk.i64_in (x5.1 - 1) (by omega))) (pG 5 x2.1 hx6 p0)))) ?_
  refine eqn [(3, .o 384 (List.set x1.1 (Int.toNat x2.1) ((x5.1 - 1), (nth x1.1 (Int.toNat x2.1)).2.1, (nth x1.1 (Int.toNat x2.1)).2.2.1, (nth x1.1 (Int.toNat x2.1)).2.2.2.1, ((nth x1.1 (Int.toNat x2.1)).2.2.2.2.1, (nth x1.1 (Int.toNat x2.1)).2.2.2.2.2.1, (nth x1.1 (Int.toNat x2.1)).2.2.2.2.2.2))))] [3] [] [] (by rw [setRow_eL (y := ((x5.1 - 1), (nth x1.1 (Int.toNat x2.1)).2.1, (nth x1.1 (Int.toNat x2.1)).2.2.1, (nth x1.1 (Int.toNat x2.1)).2.2.2.1, ((nth x1.1 (Int.toNat x2.1)).2.2.2.2.1, (nth x1.1 (Int.toNat x2.1)).2.2.2.2.2.1, (nth x1.1 (Int.toNat x2.1)).2.2.2.2.2.2))) hx6 rfl]; first | done | kernel_rfl) ?_
  refine sn tt_ok [0, 2] [60000] (p0) ?_
  refine awp_ret ?_
  have hE9 : specl09Any code ci ch = (List.set x1.1 (Int.toNat x2.1) ((x5.1 - 1), (nth x1.1 (Int.toNat x2.1)).2.1, (nth x1.1 (Int.toNat x2.1)).2.2.1, (nth x1.1 (Int.toNat x2.1)).2.2.2.1, ((nth x1.1 (Int.toNat x2.1)).2.2.2.2.1, (nth x1.1 (Int.toNat x2.1)).2.2.2.2.2.1, (nth x1.1 (Int.toNat x2.1)).2.2.2.2.2.2)), x5.2.1, x5.2.2) := lt_b hx1 (lt_b hx2 (lt_b hx3 (bif_t h4 (lt_b hx5 (rfl)))))
  exact gret [] (congrArg (fun z => (.o 0 z.1 : AV)) hE9.symm) (congrArg (fun z => ([.h code, .i ((z.2.1 : Nat) : Int), .i z.2.2] : List C)) hE9.symm)
 ·
  have h4d := ne_of_beq h4
  refine tu tt_ok [(12, .i x3.1), (22, .b (x3.1 == (1 : Int)))] [] [(60000, [.h code, .i ((x3.2.1 : Nat) : Int), .i x3.2.2])] [60000] (p0) ?_
  refine ck (x3.1 == (1 : Int)) (fun h10 => ?_) (fun h10 => ?_)
  ·
   have h10d := eq_of_beq h10
   obtain ⟨x11, hx11⟩ : ∃ z : Int × Nat × Int, specl01PickInt code x3.2.1 x3.2.2 [-1, 0, x2.1, 8, 9223372036854775807] = z := ⟨_, rfl⟩
   refine wT 3 0 (.own true 384) x1.1 (fun hw13 hl14 => ?_)
   have hx12 := ng x1.1 (Int.toNat x2.1)
   refine ru tt_ok [(3, .one (.slc (.own true 384) 7 (setRow (eL x1.1) (Int.toNat x2.1) 1 [.i x11.1])))] [3, 4, 12, 22] [(60000, [.h code, .i ((x11.2.1 : Nat) : Int), .i x11.2.2])] [60000] (po 5 (.give none (.i x11.1) [.h code, .i ((x11.2.1 : Nat) : Int), .i x11.2.2]) (px (ob_give (hx11 ▸ specl01PickInt_a code x3.2.1 x3.2.2 [-1, 0, x2.1, 8, 9223372036854775807] (Nat.zero_lt_succ _))) (pG 6 x2.1 hx12 p0))) ?_
   refine eqn [(3, .o 384 (List.set x1.1 (Int.toNat x2.1) ((nth x1.1 (Int.toNat x2.1)).1, x11.1, (nth x1.1 (Int.toNat x2.1)).2.2.1, (nth x1.1 (Int.toNat x2.1)).2.2.2.1, ((nth x1.1 (Int.toNat x2.1)).2.2.2.2.1, (nth x1.1 (Int.toNat x2.1)).2.2.2.2.2.1, (nth x1.1 (Int.toNat x2.1)).2.2.2.2.2.2))))] [3] [] [] (by rw [setRow_eL (y := ((nth x1.1 (Int.toNat x2.1)).1, x11.1, (nth x1.1 (Int.toNat x2.1)).2.2.1, (nth x1.1 (Int.toNat x2.1)).2.2.2.1, ((nth x1.1 (Int.toNat x2.1)).2.2.2.2.1, (nth x1.1 (Int.toNat x2.1)).2.2.2.2.2.1, (nth x1.1 (Int.toNat x2.1)).2.2.2.2.2.2))) hx12 rfl]; first | done | kernel_rfl) ?_
   refine sn tt_ok [0, 2] [60000] (p0) ?_
   refine awp_ret ?_
   have hE15 : specl09Any code ci ch = (List.set x1.1 (Int.toNat x2.1) ((nth x1.1 (Int.toNat x2.1)).1, x11.1, (nth x1.1 (Int.toNat x2.1)).2.2.1, (nth x1.1 (Int.toNat x2.1)).2.2.2.1, ((nth x1.1 (Int.toNat x2.1)).2.2.2.2.1, (nth x1.1 (Int.toNat x2.1)).2.2.2.2.2.1, (nth x1.1 (Int.toNat x2.1)).2.2.2.2.2.2)), x11.2.1, x11.2.2) := lt_b hx1 (lt_b hx2 (lt_b hx3 (bif_f h4 (bif_t h10 (lt_b hx11 (rfl))))))
   exact gret [] (congrArg (fun z => (.o 0 z.1 : AV)) hE15.symm) (congrArg (fun z => ([.h code, .i ((z.2.1 : Nat) : Int), .i z.2.2] : List C)) hE15.symm)
  ·
   have h10d := ne_of_beq h10
   refine sn tt_ok [0, 2, 3, 4, 12, 32] [60000] (p0) ?_
   refine ck (x3.1 == (2 : Int)) (fun h16 => ?_) (fun h16 => ?_)
   ·
    have h16d := eq_of_beq h16
    obtain ⟨x17, hx17⟩ : ∃ z : ByteArray × Nat × Int, specl01Pick code x3.2.1 x3.2.2 [⟨#[]⟩, ⟨#[97]⟩, ⟨#[100, 97]⟩, ⟨#[97, 98, 99, 100, 101, 102, 103]⟩, ⟨#[65]⟩] = z := ⟨_, rfl⟩
    refine wT 3 0 (.own true 384) x1.1 (fun hw19 hl20 => ?_)
    have hx18 := ng x1.1 (Int.toNat x2.1)
    refine qu tt_ok [(3, .one (.slc (.own true 384) 7 (setRow (eL x1.1) (Int.toNat x2.1) 3 [.s x17.1])))] [3, 4, 12, 22] [(60000, [.h code, .i ((x17.2.1 : Nat) : Int), .i x17.2.2])] [60000] (po 4 (.give none (.s x17.1) [.h code, .i ((x17.2.1 : Nat) : Int), .i x17.2.2]) (px (ob_give (hx17 ▸ specl01Pick_a code x3.2.1 x3.2.2 [⟨#[]⟩, ⟨#[97]⟩, ⟨#[100, 97]⟩, ⟨#[97, 98, 99, 100, 101, 102, 103]⟩, ⟨#[65]⟩] (Nat.zero_lt_succ _))) (pG 5 x2.1 hx18 p0))) ?_
    refine eqn [(3, .o 384 (List.set x1.1 (Int.toNat x2.1) ((nth x1.1 (Int.toNat x2.1)).1, (nth x1.1 (Int.toNat x2.1)).2.1, (nth x1.1 (Int.toNat x2.1)).2.2.1, x17.1, ((nth x1.1 (Int.toNat x2.1)).2.2.2.2.1, (nth x1.1 (Int.toNat x2.1)).2.2.2.2.2.1, (nth x1.1 (Int.toNat x2.1)).2.2.2.2.2.2))))] [3] [] [] (by rw [setRow_eL (y := ((nth x1.1 (Int.toNat x2.1)).1, (nth x1.1 (Int.toNat x2.1)).2.1, (nth x1.1 (Int.toNat x2.1)).2.2.1, x17.1, ((nth x1.1 (Int.toNat x2.1)).2.2.2.2.1, (nth x1.1 (Int.toNat x2.1)).2.2.2.2.2.1, (nth x1.1 (Int.toNat x2.1)).2.2.2.2.2.2))) hx18 rfl]; first | done | kernel_rfl) ?_
    refine sn tt_ok [0, 2] [60000] (p0) ?_
    refine awp_ret ?_
    have hE21 : specl09Any code ci ch = (List.set x1.1 (Int.toNat x2.1) ((nth x1.1 (Int.toNat x2.1)).1, (nth x1.1 (Int.toNat x2.1)).2.1, (nth x1.1 (Int.toNat x2.1)).2.2.1, x17.1, ((nth x1.1 (Int.toNat x2.1)).2.2.2.2.1, (nth x1.1 (Int.toNat x2.1)).2.2.2.2.2.1, (nth x1.1 (Int.toNat x2.1)).2.2.2.2.2.2)), x17.2.1, x17.2.2) := lt_b hx1 (lt_b hx2 (lt_b hx3 (bif_f h4 (bif_f h10 (bif_t h16 (lt_b hx17 (rfl)))))))
    exact gret [] (congrArg (fun z => (.o 0 z.1 : AV)) hE21.symm) (congrArg (fun z => ([.h code, .i ((z.2.1 : Nat) : Int), .i z.2.2] : List C)) hE21.symm)
   ·
    have h16d := ne_of_beq h16
    refine tn tt_ok [0, 2, 3, 4, 12, 41] [60000] (p0) ?_
    refine ck (x3.1 == (3 : Int)) (fun h22 => ?_) (fun h22 => ?_)
    ·
     have h22d := eq_of_beq h22
     obtain ⟨x23, hx23⟩ : ∃ z : NodeD × Nat × Int, specl09Leaf code x3.2.1 x3.2.2 = z := ⟨_, rfl⟩
     refine wT 3 0 (.own true 384) x1.1 (fun hw24 hl25 => ?_)
     refine qu tt_ok [(3, .one (.slc (.own true 3008) 7 ((eL x1.1) ++ [[.i x23.1.1, .i x23.1.2.1, .i x23.1.2.2.1, .s x23.1.2.2.2.1, .i x23.1.2.2.2.2.1, .i x23.1.2.2.2.2.2.1, .s x23.1.2.2.2.2.2.2]])))] [3, 4, 12, 22] [(60000, [.h code, .i ((x23.2.1 : Nat) : Int), .i x23.2.2])] [60000] (po 2 (.give none (.a [.i x23.1.1, .i x23.1.2.1, .i x23.1.2.2.1, .s x23.1.2.2.2.1, .i x23.1.2.2.2.2.1, .i x23.1.2.2.2.2.2.1, .s x23.1.2.2.2.2.2.2]) [.h code, .i ((x23.2.1 : Nat) : Int), .i x23.2.2]) (px (ob_give (hx23 ▸ specl09Leaf_a code x3.2.1 x3.2.2)) (pa x1.1 [x23.1] p0))) ?_
     refine eqn [(3, .o 3008 (x1.1 ++ [x23.1]))] [3] [] [] (by rw [show ((eL x1.1) ++ [[.i x23.1.1, .i x23.1.2.1, .i x23.1.2.2.1, .s x23.1.2.2.2.1, .i x23.1.2.2.2.2.1, .i x23.1.2.2.2.2.2.1, .s x23.1.2.2.2.2.2.2]]) = (eL (x1.1 ++ [x23.1])) from app_eL (rfl) (rfl)]; first | done | kernel_rfl) ?_
     refine sn tt_ok [0, 2] [60000] (p0) ?_
     refine awp_ret ?_
     have hE26 : specl09Any code ci ch = (x1.1 ++ [x23.1], x23.2.1, x23.2.2) := lt_b hx1 (lt_b hx2 (lt_b hx3 (bif_f h4 (bif_f h10 (bif_f h16 (bif_t h22 (lt_b hx23 (rfl))))))))
     exact gret [] (congrArg (fun z => (.o 0 z.1 : AV)) hE26.symm) (congrArg (fun z => ([.h code, .i ((z.2.1 : Nat) : Int), .i z.2.2] : List C)) hE26.symm)
    ·
     have h22d := ne_of_beq h22
     refine tu tt_ok [(48, .b (x3.1 == (4 : Int)))] [22] [] [] (p0) ?_
     refine ck (x3.1 == (4 : Int)) (fun h27 => ?_) (fun h27 => ?_)
     ·
      have h27d := eq_of_beq h27
      obtain ⟨x28, hx28⟩ : ∃ z : ValueD × Nat × Int, specl02Any code x3.2.1 x3.2.2 = z := ⟨_, rfl⟩
      refine wT 3 0 (.own true 384) x1.1 (fun hw30 hl31 => ?_)
      have hx29 := ng x1.1 (Int.toNat x2.1)
      refine ru tt_ok [(3, .one (.slc (.own true 384) 7 (setRow (eL x1.1) (Int.toNat x2.1) 4 [.i x28.1.1, .i x28.1.2.1, .s x28.1.2.2])))] [3, 4, 12, 48] [(60000, [.h code, .i ((x28.2.1 : Nat) : Int), .i x28.2.2])] [60000] (po 3 (.give none (.a [.i x28.1.1, .i x28.1.2.1, .s x28.1.2.2]) [.h code, .i ((x28.2.1 : Nat) : Int), .i x28.2.2]) (px (ob_give (hx28 ▸ specl02Any_a code x3.2.1 x3.2.2)) (pG 4 x2.1 hx29 p0))) ?_
      refine eqn [(3, .o 384 (List.set x1.1 (Int.toNat x2.1) ((nth x1.1 (Int.toNat x2.1)).1, (nth x1.1 (Int.toNat x2.1)).2.1, (nth x1.1 (Int.toNat x2.1)).2.2.1, (nth x1.1 (Int.toNat x2.1)).2.2.2.1, x28.1)))] [3] [] [] (by rw [setRow_eL (y := ((nth x1.1 (Int.toNat x2.1)).1, (nth x1.1 (Int.toNat x2.1)).2.1, (nth x1.1 (Int.toNat x2.1)).2.2.1, (nth x1.1 (Int.toNat x2.1)).2.2.2.1, x28.1)) hx29 rfl]; first | done | kernel_rfl) ?_
      refine sn tt_ok [0, 2] [60000] (p0) ?_
      refine awp_ret ?_
      have hE32 : specl09Any code ci ch = (List.set x1.1 (Int.toNat x2.1) ((nth x1.1 (Int.toNat x2.1)).1, (nth x1.1 (Int.toNat x2.1)).2.1, (nth x1.1 (Int.toNat x2.1)).2.2.1, (nth x1.1 (Int.toNat x2.1)).2.2.2.1, x28.1), x28.2.1, x28.2.2) := lt_b hx1 (lt_b hx2 (lt_b hx3 (bif_f h4 (bif_f h10 (bif_f h16 (bif_f h22 (bif_t h27 (lt_b hx28 (rfl)))))))))
      exact gret [] (congrArg (fun z => (.o 0 z.1 : AV)) hE32.symm) (congrArg (fun z => ([.h code, .i ((z.2.1 : Nat) : Int), .i z.2.2] : List C)) hE32.symm)
     ·
      refine sn tt_ok [0, 2, 3, 56] [60000] (p0) ?_
      refine ck (x3.1 == (5 : Int)) (fun h33 => ?_) (fun h33 => ?_)
      ·
       refine qn tt_ok [0, 2, 3] [60000] (p0) ?_
       refine tu tt_ok [] [3, 4, 12, 48] [] [] (p0) ?_
       refine opn [(false, 2, 0, true, 384000, 7)] ?_
       refine awp_ret ?_
       have hE34 : specl09Any code ci ch = ([], x3.2.1, x3.2.2) := lt_b hx1 (lt_b hx2 (lt_b hx3 (bif_f h4 (bif_f h10 (bif_f h16 (bif_f h22 (bif_f h27 (bif_t h33 (rfl)))))))))
       exact gret [] (congrArg (fun z => (.o 0 z.1 : AV)) hE34.symm) (congrArg (fun z => ([.h code, .i ((z.2.1 : Nat) : Int), .i z.2.2] : List C)) hE34.symm)
      ·
       refine awp_skip ?_
       refine tn tt_ok [0, 2] [60000] (p0) ?_
       refine awp_ret ?_
       have hE35 : specl09Any code ci ch = (x1.1, x3.2.1, x3.2.2) := lt_b hx1 (lt_b hx2 (lt_b hx3 (bif_f h4 (bif_f h10 (bif_f h16 (bif_f h22 (bif_f h27 (bif_f h33 (rfl)))))))))
       exact gret [] (congrArg (fun z => (.o 0 z.1 : AV)) hE35.symm) (congrArg (fun z => ([.h code, .i ((z.2.1 : Nat) : Int), .i z.2.2] : List C)) hE35.symm)
def specl11Any_f0 (code : (List UInt8)) (s0 : (List DirD) × Nat × Int) : Rd ((List DirD) × Nat × Int) ((List DirD) × Nat × Int) ((List DirD) × Nat × Int) := (lt (α := Int × Nat × Int) (specl01Below code s0.2.1 s0.2.2 2) (fun x17 => (bif decide ((s0.1.length : Int) < (5 + x17.1)) then (lt (α := (List NodeD) × Nat × Int) (specl09Question code x17.2.1 x17.2.2) (fun x20 => (.next (s0.1 ++ [((nth ([⟨#[100, 97]⟩, ⟨#[100, 98]⟩, ⟨#[100, 99]⟩, ⟨#[100, 100]⟩, ⟨#[100, 101]⟩, ⟨#[100, 102]⟩] : (List ByteArray)) (Int.toNat (s0.1.length : Int))), x20.1)], x20.2.1, x20.2.2)))) else (.brk (s0.1, x17.2.1, x17.2.2)))))
def specl11Any (code : (List UInt8)) (ci : Nat) (ch : Int) : (List DirD) × Nat × Int := (lt (α := (List DirD) × Nat × Int) (specl11Dirs code ci ch) (fun x1 => (lt (α := Int × Nat × Int) (specl01Below code x1.2.1 x1.2.2 (x1.1.length : Int)) (fun x2 => (lt (α := Int × Nat × Int) (specl01Below code x2.2.1 x2.2.2 10) (fun x3 => (bif (x3.1 == (0 : Int)) then (lt (α := ByteArray × Nat × Int) (specl01Pick code x3.2.1 x3.2.2 [⟨#[]⟩, ⟨#[65]⟩, ⟨#[122, 122]⟩, ⟨#[97, 98, 99, 100, 101, 102, 103]⟩]) (fun x5 => (List.set x1.1 (Int.toNat x2.1) (x5.1, (nth x1.1 (Int.toNat x2.1)).2), x5.2.1, x5.2.2))) else (bif (x3.1 == (1 : Int)) then (lt (α := (List NodeD) × Nat × Int) (specl09Any code x3.2.1 x3.2.2) (fun x11 => (List.set x1.1 (Int.toNat x2.1) ((nth x1.1 (Int.toNat x2.1)).1, x11.1), x11.2.1, x11.2.2))) else (bif (x3.1 == (2 : Int)) then (Out.on (whlD (specl11Any_f0 code) 7 (x1.1, x3.2.1, x3.2.2)) (fun y0 => (y0.1, y0.2.1, y0.2.2))) else (bif (x3.1 == (3 : Int)) then ([], x3.2.1, x3.2.2) else (x1.1, x3.2.1, x3.2.2)))))))))))
theorem specl11Any_w (code : List UInt8) (d : List DirD) (ci : Nat) (ch : Int) : (whl (specl11Any_f0 code) 7 (d, ci, ch)).isSome = true :=
  whl_upI (fun _ => True) (fun s => (s.1.length : Int)) 6 (fun s s' _ h => by
    unfold specl11Any_f0 lt at h
    have hb := specl01Below_bd code s.2.1 s.2.2 2
    generalize specl01Below code s.2.1 s.2.2 2 = x at h hb
    by_cases hc : (s.1.length : Int) < 5 + x.1
    · simp only [decide_eq_true hc, cond_true] at h
      have h := Rd.next.inj h
      rw [← h]
      refine ⟨by omega, by simp, trivial⟩
    · simp only [decide_eq_false hc, cond_false] at h
      cases h) 6 _ trivial (by show (6 : Int) ≤ (d.length : Int) + 6; omega)
theorem specl11Any_a (code : (List UInt8)) (ci : Nat) (ch : Int) : AGive Tryz.prog 116 [.h code, .i ((ci : Nat) : Int), .i ch] [] (.o 0 (((specl11Any code ci ch)).1)) [.h code, .i ((((specl11Any code ci ch)).2.1 : Nat) : Int), .i (((specl11Any code ci ch)).2.2)] := by
 refine agive_of (tt := tt) tt_ok Tryz.func116 (fn := Tryz.f116) rfl (by unfold FnOk; kernel_rfl) (Nat.le_of_ble_eq_true rfl) (Nat.le_of_ble_eq_true rfl) rfl rfl fun w0 F0 hG => ?_
 refine sn tt_ok [0, 2] [60000] (p0) ?_
 obtain ⟨x1, hx1⟩ : ∃ z : (List DirD) × Nat × Int, specl11Dirs code ci ch = z := ⟨_, rfl⟩
 have hlx1 := l11_len code ci ch
 rw [hx1] at hlx1
 refine tn tt_ok [0, 2, 3] [60000] (po 1 (.give none (.o 0 x1.1) [.h code, .i ((x1.2.1 : Nat) : Int), .i x1.2.2]) (px (ob_give (hx1 ▸ specl11Dirs_a code ci ch)) p0)) ?_
 obtain ⟨x2, hx2⟩ : ∃ z : Int × Nat × Int, specl01Below code x1.2.1 x1.2.2 (x1.1.length : Int) = z := ⟨_, rfl⟩
 have hbx2 := hx2 ▸ specl01Below_bd code x1.2.1 x1.2.2 (x1.1.length : Int)
 refine tu tt_ok [(2, .e 0), (3, .o 384 x1.1), (4, .i x2.1)] [] [(60000, [.h code, .i ((x2.2.1 : Nat) : Int), .i x2.2.2])] [60000] (pl 2 x1.1 (po 3 (.give none (.i x2.1) [.h code, .i ((x2.2.1 : Nat) : Int), .i x2.2.2]) (px (ob_give (hx2 ▸ specl01Below_a code x1.2.1 x1.2.2 (x1.1.length : Int))) p0))) ?_
 refine awp_seq ?_
 obtain ⟨x3, hx3⟩ : ∃ z : Int × Nat × Int, specl01Below code x2.2.1 x2.2.2 10 = z := ⟨_, rfl⟩
 have hbx3 := hx3 ▸ specl01Below_bd code x2.2.1 x2.2.2 10
 refine sn tt_ok [0, 2, 3, 4, 12] [60000] (po 1 (.give none (.i x3.1) [.h code, .i ((x3.2.1 : Nat) : Int), .i x3.2.2]) (px (ob_give (hx3 ▸ specl01Below_a code x2.2.1 x2.2.2 10)) p0)) ?_
 refine awp_block ?_
 refine tn tt_ok [0, 2, 3, 4, 12, 13] [60000] (p0) ?_
 refine ck (x3.1 == (0 : Int)) (fun h4 => ?_) (fun h4 => ?_)
 ·
  have h4d := eq_of_beq h4
  obtain ⟨x5, hx5⟩ : ∃ z : ByteArray × Nat × Int, specl01Pick code x3.2.1 x3.2.2 [⟨#[]⟩, ⟨#[65]⟩, ⟨#[122, 122]⟩, ⟨#[97, 98, 99, 100, 101, 102, 103]⟩] = z := ⟨_, rfl⟩
  refine wT 3 0 (.own true 384) x1.1 (fun hw7 hl8 => ?_)
  have hx6 := ng x1.1 (Int.toNat x2.1)
  refine qu tt_ok [(3, .one (.slc (.own true 384) 2 (setRow (eL x1.1) (Int.toNat x2.1) 0 [.s x5.1])))] [3, 4] [(60000, [.h code, .i ((x5.2.1 : Nat) : Int), .i x5.2.2])] [60000] (po 4 (.give none (.s x5.1) [.h code, .i ((x5.2.1 : Nat) : Int), .i x5.2.2]) (px (ob_give (hx5 ▸ specl01Pick_a code x3.2.1 x3.2.2 [⟨#[]⟩, ⟨#[65]⟩, ⟨#[122, 122]⟩, ⟨#[97, 98, 99, 100, 101, 102, 103]⟩] (Nat.zero_lt_succ _))) (pG 5 x2.1 hx6 p0))) ?_
  refine eqn [(3, .o 384 (List.set x1.1 (Int.toNat x2.1) (x5.1, (nth x1.1 (Int.toNat x2.1)).2)))] [3] [] [] (by rw [setRow_eL (y := (x5.1, (nth x1.1 (Int.toNat x2.1)).2)) hx6 rfl]; first | done | kernel_rfl) ?_
  refine sn tt_ok [0, 2] [60000] (p0) ?_
  refine awp_ret ?_
  have hE9 : specl11Any code ci ch = (List.set x1.1 (Int.toNat x2.1) (x5.1, (nth x1.1 (Int.toNat x2.1)).2), x5.2.1, x5.2.2) := lt_b hx1 (lt_b hx2 (lt_b hx3 (bif_t h4 (lt_b hx5 (rfl)))))
  exact gret [] (congrArg (fun z => (.o 0 z.1 : AV)) hE9.symm) (congrArg (fun z => ([.h code, .i ((z.2.1 : Nat) : Int), .i z.2.2] : List C)) hE9.symm)
 ·
  have h4d := ne_of_beq h4
  refine tu tt_ok [(12, .i x3.1), (22, .b (x3.1 == (1 : Int)))] [] [(60000, [.h code, .i ((x3.2.1 : Nat) : Int), .i x3.2.2])] [60000] (p0) ?_
  refine ck (x3.1 == (1 : Int)) (fun h10 => ?_) (fun h10 => ?_)
  ·
   have h10d := eq_of_beq h10
   obtain ⟨x11, hx11⟩ : ∃ z : (List NodeD) × Nat × Int, specl09Any code x3.2.1 x3.2.2 = z := ⟨_, rfl⟩
   refine wT 3 0 (.own true 384) x1.1 (fun hw13 hl14 => ?_)
   have hx12 := ng x1.1 (Int.toNat x2.1)
   refine ru tt_ok [(3, .one (.slc (.own true 384) 2 (setRow (eL x1.1) (Int.toNat x2.1) 1 [.h x11.1])))] [3, 4, 12, 22] [(60000, [.h code, .i ((x11.2.1 : Nat) : Int), .i x11.2.2])] [60000] (po 3 (.give none (.o 0 x11.1) [.h code, .i ((x11.2.1 : Nat) : Int), .i x11.2.2]) (px (ob_give (hx11 ▸ specl09Any_a code x3.2.1 x3.2.2)) (pG 4 x2.1 hx12 p0))) ?_
   refine eqn [(3, .o 384 (List.set x1.1 (Int.toNat x2.1) ((nth x1.1 (Int.toNat x2.1)).1, x11.1)))] [3] [] [] (by rw [setRow_eL (y := ((nth x1.1 (Int.toNat x2.1)).1, x11.1)) hx12 rfl]; first | done | kernel_rfl) ?_
   refine sn tt_ok [0, 2] [60000] (p0) ?_
   refine awp_ret ?_
   have hE15 : specl11Any code ci ch = (List.set x1.1 (Int.toNat x2.1) ((nth x1.1 (Int.toNat x2.1)).1, x11.1), x11.2.1, x11.2.2) := lt_b hx1 (lt_b hx2 (lt_b hx3 (bif_f h4 (bif_t h10 (lt_b hx11 (rfl))))))
   exact gret [] (congrArg (fun z => (.o 0 z.1 : AV)) hE15.symm) (congrArg (fun z => ([.h code, .i ((z.2.1 : Nat) : Int), .i z.2.2] : List C)) hE15.symm)
  ·
   have h10d := ne_of_beq h10
   refine sn tt_ok [0, 2, 3, 12, 30] [60000] (p0) ?_
   refine ck (x3.1 == (2 : Int)) (fun h16 => ?_) (fun h16 => ?_)
   ·
    have h16d := eq_of_beq h16
    refine mz [(30, .b (x3.1 == (2 : Int)))] [4, 22] [] [] ?_
    refine blw (fun (s0 : (List DirD) × Nat × Int) => [(3, .o 147202 s0.1)]) [3, 12, 30] (fun s0 => [(60000, [.h code, .i ((s0.2.1 : Nat) : Int), .i s0.2.2])]) [60000] (fun (y0 : (List DirD) × Nat × Int) => [(3, .o 147352 y0.1)]) [3, 12, 30] (fun y0 => [(60000, [.h code, .i ((y0.2.1 : Nat) : Int), .i y0.2.2])]) [60000] (fun (k0 : Nat) (s0 : (List DirD) × Nat × Int) => whl (specl11Any_f0 code) k0 s0 = some (whlD (specl11Any_f0 code) 7 (x1.1, x3.2.1, x3.2.2))) (fun (y0 : (List DirD) × Nat × Int) => (whlD (specl11Any_f0 code) 7 (x1.1, x3.2.1, x3.2.2)) = .brk y0) 7 (x1.1, x3.2.1, x3.2.2) (weak_sf [(384, 147202)] (by kernel_rfl)) (whl_some (specl11Any_w code _ _ _)) (fun _ h => whl_zero h) (fun k0 s0 hI0 => ?_) (fun y0 hD0 => ?_)
    ·
     refine awp_seq ?_
     obtain ⟨x17, hx17⟩ : ∃ z : Int × Nat × Int, specl01Below code s0.2.1 s0.2.2 2 = z := ⟨_, rfl⟩
     have hbx17 := hx17 ▸ specl01Below_bd code s0.2.1 s0.2.2 2
     refine sn tt_ok [0, 2, 3, 37] [60000] (pl 1 s0.1 (po 3 (.give none (.i x17.1) [.h code, .i ((x17.2.1 : Nat) : Int), .i x17.2.2]) (px (ob_give (hx17 ▸ specl01Below_a code s0.2.1 s0.2.2 2)) (pe 4 (av_i (IntWalk.i64_in (5 + x17.1) (by omega))) p0)))) ?_
     refine ck (decide ((s0.1.length : Int) < (5 + x17.1))) (fun h18 => ?_) (fun h18 => ?_)
     ·
      have h18d := of_decide_eq_true h18
      refine awp_skip ?_
      refine awp_block ?_
      have hx19 := ng ([⟨#[100, 97]⟩, ⟨#[100, 98]⟩, ⟨#[100, 99]⟩, ⟨#[100, 100]⟩, ⟨#[100, 101]⟩, ⟨#[100, 102]⟩] : (List ByteArray)) (Int.toNat (s0.1.length : Int)) (by simp only [List.length_cons, List.length_nil]; omega)
      obtain ⟨x20, hx20⟩ : ∃ z : (List NodeD) × Nat × Int, specl09Question code x17.2.1 x17.2.2 = z := ⟨_, rfl⟩
      have hbx20 := hx20 ▸ ques_len code x17.2.1 x17.2.2
      refine wT 3 0 (.own true 147202) s0.1 (fun hw21 hl22 => ?_)
      refine qU tt_ok tt_mx [(3, .one (.slc (.own true 3072) 2 ((eL s0.1) ++ [[.s (nth ([⟨#[100, 97]⟩, ⟨#[100, 98]⟩, ⟨#[100, 99]⟩, ⟨#[100, 100]⟩, ⟨#[100, 101]⟩, ⟨#[100, 102]⟩] : (List ByteArray)) (Int.toNat (s0.1.length : Int))), .h x20.1]])))] [3] [(60000, [.h code, .i ((x20.2.1 : Nat) : Int), .i x20.2.2])] [60000] (pl 3 s0.1 (pG 4 (s0.1.length : Int) hx19 (po 7 (.give none (.o 0 x20.1) [.h code, .i ((x20.2.1 : Nat) : Int), .i x20.2.2]) (px (ob_give (hx20 ▸ specl09Question_a code x17.2.1 x17.2.2)) (pa s0.1 [((nth ([⟨#[100, 97]⟩, ⟨#[100, 98]⟩, ⟨#[100, 99]⟩, ⟨#[100, 100]⟩, ⟨#[100, 101]⟩, ⟨#[100, 102]⟩] : (List ByteArray)) (Int.toNat (s0.1.length : Int))), x20.1)] p0))))) ?_
      exact Exists.intro (s0.1 ++ [((nth ([⟨#[100, 97]⟩, ⟨#[100, 98]⟩, ⟨#[100, 99]⟩, ⟨#[100, 100]⟩, ⟨#[100, 101]⟩, ⟨#[100, 102]⟩] : (List ByteArray)) (Int.toNat (s0.1.length : Int))), x20.1)], x20.2.1, x20.2.2) (And.intro (weak_sf [(3072, 147202)] (by rw [show ((eL s0.1) ++ [[.s (nth ([⟨#[100, 97]⟩, ⟨#[100, 98]⟩, ⟨#[100, 99]⟩, ⟨#[100, 100]⟩, ⟨#[100, 101]⟩, ⟨#[100, 102]⟩] : (List ByteArray)) (Int.toNat (s0.1.length : Int))), .h x20.1]]) = (eL (s0.1 ++ [((nth ([⟨#[100, 97]⟩, ⟨#[100, 98]⟩, ⟨#[100, 99]⟩, ⟨#[100, 100]⟩, ⟨#[100, 101]⟩, ⟨#[100, 102]⟩] : (List ByteArray)) (Int.toNat (s0.1.length : Int))), x20.1)])) from app_eL (rfl) (rfl)]; first | done | kernel_rfl)) (wn hI0 (lt_b hx17 (bif_t h18 (lt_b hx20 (rfl))))))
     ·
      refine awp_exit ?_
      exact Exists.intro (s0.1, x17.2.1, x17.2.2) (And.intro (weak_sf [(147202, 147352)] (by kernel_rfl)) (wb hI0 (lt_b hx17 (bif_f h18 (rfl)))))
    ·
     refine sn tt_ok [0, 2] [60000] (p0) ?_
     refine awp_ret ?_
     have hE23 : specl11Any code ci ch = (y0.1, y0.2.1, y0.2.2) := lt_b hx1 (lt_b hx2 (lt_b hx3 (bif_f h4 (bif_f h10 (bif_t h16 (on_b hD0 (rfl)))))))
     exact gret [] (congrArg (fun z => (.o 0 z.1 : AV)) hE23.symm) (congrArg (fun z => ([.h code, .i ((z.2.1 : Nat) : Int), .i z.2.2] : List C)) hE23.symm)
   ·
    refine tn tt_ok [0, 2, 3, 49] [60000] (p0) ?_
    refine ck (x3.1 == (3 : Int)) (fun h24 => ?_) (fun h24 => ?_)
    ·
     refine qu tt_ok [(3, .e 0)] [3, 4, 12, 22] [] [] (p0) ?_
     refine su tt_ok [] [3] [] [] (p0) ?_
     refine opn [(false, 2, 0, true, 384000, 2)] ?_
     refine awp_ret ?_
     have hE25 : specl11Any code ci ch = ([], x3.2.1, x3.2.2) := lt_b hx1 (lt_b hx2 (lt_b hx3 (bif_f h4 (bif_f h10 (bif_f h16 (bif_t h24 (rfl)))))))
     exact gret [] (congrArg (fun z => (.o 0 z.1 : AV)) hE25.symm) (congrArg (fun z => ([.h code, .i ((z.2.1 : Nat) : Int), .i z.2.2] : List C)) hE25.symm)
    ·
     refine awp_skip ?_
     refine tu tt_ok [(2, .o 384 x1.1)] [2, 3, 4, 12, 22] [] [] (p0) ?_
     refine awp_ret ?_
     have hE26 : specl11Any code ci ch = (x1.1, x3.2.1, x3.2.2) := lt_b hx1 (lt_b hx2 (lt_b hx3 (bif_f h4 (bif_f h10 (bif_f h16 (bif_f h24 (rfl)))))))
     exact gret [] (congrArg (fun z => (.o 0 z.1 : AV)) hE26.symm) (congrArg (fun z => ([.h code, .i ((z.2.1 : Nat) : Int), .i z.2.2] : List C)) hE26.symm)
def specl15Case (code : (List UInt8)) (ci : Nat) (ch : Int) : StoreD × (List DirD) × Nat × Int := (lt (α := StoreD × Nat × Int) (specl05Store code ci ch) (fun x1 => (lt (α := Bool × Nat × Int) (specl01Once code x1.2.1 x1.2.2 12) (fun x2 => (lt (α := StoreD × Nat × Int) (bif x2.1 then (lt (α := StoreD × Nat × Int) (specl05Any code x2.2.1 x2.2.2) (fun x3 => (x3.1, x3.2.1, x3.2.2))) else (x1.1, x2.2.1, x2.2.2)) (fun x3 => (lt (α := Bool × Nat × Int) (specl01Once code x3.2.1 x3.2.2 5) (fun x6 => (bif x6.1 then (lt (α := (List DirD) × Nat × Int) (specl11Any code x6.2.1 x6.2.2) (fun x8 => (x3.1, x8.1, x8.2.1, x8.2.2))) else (lt (α := (List DirD) × Nat × Int) (specl13Dirs code x6.2.1 x6.2.2) (fun x10 => (x3.1, x10.1, x10.2.1, x10.2.2))))))))))))
theorem specl15Case_a (code : (List UInt8)) (ci : Nat) (ch : Int) : AGive Tryz.prog 74 [.h code, .i ((ci : Nat) : Int), .i ch] [] (.tup [(true, [.h ((((specl15Case code ci ch)).1).1), .q 0 ((((specl15Case code ci ch)).1).2.1), .i ((((specl15Case code ci ch)).1).2.2)]), (false, [.h (((specl15Case code ci ch)).2.1)])]) [.h code, .i ((((specl15Case code ci ch)).2.2.1 : Nat) : Int), .i (((specl15Case code ci ch)).2.2.2)] := by
 refine agive_of (tt := tt) tt_ok Tryz.func74 (fn := Tryz.f74) rfl (by unfold FnOk; kernel_rfl) (Nat.le_of_ble_eq_true rfl) (Nat.le_of_ble_eq_true rfl) rfl rfl fun w0 F0 hG => ?_
 refine sn tt_ok [0, 2, 3] [2, 60000] (p0) ?_
 obtain ⟨x1, hx1⟩ : ∃ z : StoreD × Nat × Int, specl05Store code ci ch = z := ⟨_, rfl⟩
 refine tn tt_ok [0, 2, 3, 4] [2, 4, 60000] (po 1 (.give none (.a [.o 0 x1.1.1, .q 1 x1.1.2.1, .i x1.1.2.2]) [.h code, .i ((x1.2.1 : Nat) : Int), .i x1.2.2]) (px (ob_give (hx1 ▸ specl05Store_a code ci ch)) p0)) ?_
 refine awp_seq ?_
 obtain ⟨x2, hx2⟩ : ∃ z : Bool × Nat × Int, specl01Once code x1.2.1 x1.2.2 12 = z := ⟨_, rfl⟩
 refine tu tt_ok [(2, .p 2 0), (3, .e 0), (4, .p 4 0), (8, .b x2.1)] [] [(2, [.e 2, .e 5, .i 0]), (4, [.o 384 x1.1.1, .q 385 x1.1.2.1, .i x1.1.2.2]), (60000, [.h code, .i ((x2.2.1 : Nat) : Int), .i x2.2.2])] [60000] (po 1 (.give none (.b x2.1) [.h code, .i ((x2.2.1 : Nat) : Int), .i x2.2.2]) (px (ob_give (hx2 ▸ specl01Once_a code x1.2.1 x1.2.2 12)) p0)) ?_
 obtain ⟨x3, hx3⟩ : ∃ z : StoreD × Nat × Int, (bif x2.1 then (lt (α := StoreD × Nat × Int) (specl05Any code x2.2.1 x2.2.2) (fun x3 => (x3.1, x3.2.1, x3.2.2))) else (x1.1, x2.2.1, x2.2.2)) = z := ⟨_, rfl⟩
 refine jn [] [8] [(4, [.h x3.1.1, .q 448512 x3.1.2.1, .i x3.1.2.2]), (60000, [.h code, .i ((x3.2.1 : Nat) : Int), .i x3.2.2])] [4, 60000] x2.1 (fun h4 => ?_) (fun h4 => ?_) ?_
 ·
  refine ckt h4 ?_
  obtain ⟨x5, hx5⟩ : ∃ z : StoreD × Nat × Int, specl05Any code x2.2.1 x2.2.2 = z := ⟨_, rfl⟩
  refine rn tt_ok [0, 2, 3, 4] [2, 4, 60000] (po 1 (.give none (.a [.h x5.1.1, .q 0 x5.1.2.1, .i x5.1.2.2]) [.h code, .i ((x5.2.1 : Nat) : Int), .i x5.2.2]) (px (ob_give (hx5 ▸ specl05Any_a code x2.2.1 x2.2.2)) p0)) ?_
  obtain rfl : x3 = (x5.1, x5.2.1, x5.2.2) := hx3.symm.trans (show (bif x2.1 then (lt (α := StoreD × Nat × Int) (specl05Any code x2.2.1 x2.2.2) (fun x3 => (x3.1, x3.2.1, x3.2.2))) else (x1.1, x2.2.1, x2.2.2)) = (x5.1, x5.2.1, x5.2.2) from bif_t h4 (lt_b hx5 (rfl)))
  exact ⟨rfl, weak_sf [(640, 448512)] (by kernel_rfl)⟩
 ·
  refine ckf h4 ?_
  refine awp_skip ?_
  obtain rfl : x3 = (x1.1, x2.2.1, x2.2.2) := hx3.symm.trans (show (bif x2.1 then (lt (α := StoreD × Nat × Int) (specl05Any code x2.2.1 x2.2.2) (fun x3 => (x3.1, x3.2.1, x3.2.2))) else (x1.1, x2.2.1, x2.2.2)) = (x1.1, x2.2.1, x2.2.2) from bif_f h4 (rfl))
  exact ⟨rfl, weak_gf [] [384] [] [(385, 448512)] (by kernel_rfl)⟩
 refine awp_seq ?_
 obtain ⟨x6, hx6⟩ : ∃ z : Bool × Nat × Int, specl01Once code x3.2.1 x3.2.2 5 = z := ⟨_, rfl⟩
 refine sn tt_ok [0, 2, 3, 4, 12] [2, 4, 60000] (po 1 (.give none (.b x6.1) [.h code, .i ((x6.2.1 : Nat) : Int), .i x6.2.2]) (px (ob_give (hx6 ▸ specl01Once_a code x3.2.1 x3.2.2 5)) p0)) ?_
 refine ck x6.1 (fun h7 => ?_) (fun h7 => ?_)
 ·
  obtain ⟨x8, hx8⟩ : ∃ z : (List DirD) × Nat × Int, specl11Any code x6.2.1 x6.2.2 = z := ⟨_, rfl⟩
  refine tN tt_ok tt_mx [0, 2, 3, 4] [2, 4, 60000] (po 2 (.give none (.o 0 x8.1) [.h code, .i ((x8.2.1 : Nat) : Int), .i x8.2.2]) (px (ob_give (hx8 ▸ specl11Any_a code x6.2.1 x6.2.2)) p0)) ?_
  refine awp_ret ?_
  have hE9 : specl15Case code ci ch = (x3.1, x8.1, x8.2.1, x8.2.2) := lt_b hx1 (lt_b hx2 (lt_b hx3 (lt_b hx6 (bif_t h7 (lt_b hx8 (rfl))))))
  exact gret [960] (congrArg (fun z => (.tup [(true, [.h z.1.1, .q 0 z.1.2.1, .i z.1.2.2]), (false, [.h z.2.1])] : AV)) hE9.symm) (congrArg (fun z => ([.h code, .i ((z.2.2.1 : Nat) : Int), .i z.2.2.2] : List C)) hE9.symm)
 ·
  refine awp_skip ?_
  obtain ⟨x10, hx10⟩ : ∃ z : (List DirD) × Nat × Int, specl13Dirs code x6.2.1 x6.2.2 = z := ⟨_, rfl⟩
  have hbx10 := hx10 ▸ l13_ne code x6.2.1 x6.2.2
  refine tN tt_ok tt_mx [0, 2, 3] [2, 60000] (po 2 (.give none (.h x10.1) [.h code, .i ((x10.2.1 : Nat) : Int), .i x10.2.2]) (px (ob_give (hx10 ▸ specl13Dirs_a code x6.2.1 x6.2.2)) p0)) ?_
  refine awp_ret ?_
  have hE11 : specl15Case code ci ch = (x3.1, x10.1, x10.2.1, x10.2.2) := lt_b hx1 (lt_b hx2 (lt_b hx3 (lt_b hx6 (bif_f h7 (lt_b hx10 (rfl))))))
  exact gret [] (congrArg (fun z => (.tup [(true, [.h z.1.1, .q 0 z.1.2.1, .i z.1.2.2]), (false, [.h z.2.1])] : AV)) hE11.symm) (congrArg (fun z => ([.h code, .i ((z.2.2.1 : Nat) : Int), .i z.2.2.2] : List C)) hE11.symm)
open GoE (enc wide)
def specl07PutId_f0 (n : Int) (k0 : Nat) (a0 : Int) (_ : Unit) : Rd ((List Int)) (Unit) (Int) := (bif decide (a0 < n) then (.next ()) else (.brk ((k0 : Nat) : Int)))
def specl07PutId_e0 (k0 : Nat) (_ : Unit) : Int := ((k0 : Nat) : Int)
def specl07PutId (list : (List Int)) (n : Int) : (List Int) := (Out.on (forL (specl07PutId_f0 n) specl07PutId_e0 list 0 ()) (fun y0 => (bif (decide (y0 < (list.length : Int)) && ((nth list (Int.toNat y0)) == n)) then list else List.take (Int.toNat y0) list ++ [n] ++ (List.drop (Int.toNat y0) list))))
theorem specl07PutId_a (list : (List Int)) (n : Int) (hp : list.length < 1073741824) : ACalls Tryz.prog 138 [.h list, .i n] (.h (specl07PutId list n)) := by
 refine en tt_ok Tryz.func138 fun w0 F0 hG => ?_
 refine sn tt_ok [0, 1, 4] [] (p0) ?_
 refine tn tt_ok [0, 1, 4, 5] [] (p0) ?_
 refine awp_seq ?_
 refine mz [(4, .e 0), (5, .i 0)] [] [] [] ?_
 refine wT 0 0 .sh list (fun hw1 hl2 => ?_)
 refine blL2 (specl07PutId_f0 n) specl07PutId_e0 list () (fun k0 _ => [(5, .i ((k0 : Nat) : Int))]) [5] (fun y0 => [(5, .i y0)]) [5] (fun y0 => 0 ≤ y0 ∧ y0 ≤ (list.length : Int)) (weak_fit (by kernel_rfl)) (fun k0 s0 hk0 hI0 => ?_) (fun k0 s0 hk0 hI0 => ?_) (fun y0 hD0 => ?_)
 ·
  obtain ⟨a0, hx0⟩ := get_some (l := list) (i := k0) hk0
  refine awp_seq ?_
  refine sn tt_ok [0, 1, 4, 5, 18] [] (pl 2 list (pe 3 (av_bool (decide_eq_true (p := ((k0 : Nat) : Int) < (list.length : Int)) (by omega))) (pn 7 hx0 p0))) ?_
  refine ck (decide (a0 < n)) (fun h3 => ?_) (fun h3 => ?_)
  ·
   have h3d := of_decide_eq_true h3
   refine awp_skip ?_
   refine awp_block ?_
   refine qn tt_ok [0, 1, 4, 5] [] (pe 1 (av_i (wrap_succ k0 (by omega))) p0) ?_
   exact Exists.intro _ (And.intro (weak_fit (by kernel_rfl)) (forL_next hx0 (bif_t h3 (rfl)) hI0))
  ·
   have h3d := of_decide_eq_false h3
   refine awp_exit ?_
   exact Exists.intro ((k0 : Nat) : Int) (And.intro (weak_fit (by kernel_rfl)) ⟨forL_brk hx0 (bif_f h3 (rfl)) hI0, by first | omega | (simp only [List.length_set]; omega)⟩)
 ·
  refine awp_seq ?_
  refine sn tt_ok [0, 1, 4, 5, 18] [] (pl 2 list (pe 3 (av_bool (decide_eq_false (p := ((k0 : Nat) : Int) < (list.length : Int)) (by omega))) p0)) ?_
  refine ckF ?_
  refine awp_exit ?_
  exact Exists.intro ((k0 : Nat) : Int) (And.intro (weak_fit (by kernel_rfl)) ⟨forL_end hk0 (rfl) hI0, by first | omega | (simp only [List.length_set]; omega)⟩)
 ·
  have hD0_0 := hD0.2
  refine awp_seq ?_
  refine awp_seq ?_
  refine jn [(32, .b (decide (y0 < (list.length : Int)) && ((nth list (Int.toNat y0)) == n)))] [] [] [] (decide (y0 < (list.length : Int))) (fun h4 => ?_) (fun h4 => ?_) ?_
  ·
   have h4d := of_decide_eq_true h4
   have hx5 := ng list (Int.toNat y0)
   refine rn tt_ok [0, 1, 4, 5, 32] [] (pl 2 list (pt 3 h4 (pg 7 y0 hx5 p0))) ?_
   exact ⟨rfl, weak_fit (by rw [h4]; first | done | kernel_rfl)⟩
  ·
   refine rn tt_ok [0, 1, 4, 5, 32] [] (pl 2 list (pf 3 h4 p0)) ?_
   exact ⟨rfl, weak_fit (by rw [h4]; first | done | kernel_rfl)⟩
  refine ck (decide (y0 < (list.length : Int)) && ((nth list (Int.toNat y0)) == n)) (fun h6 => ?_) (fun h6 => ?_)
  ·
   refine sn tt_ok [0, 1, 4, 5] [] (p0) ?_
   refine awp_ret ?_
   exact ph0 [] (on_b hD0.1 (bif_t h6 (rfl)))
  ·
   refine awp_skip ?_
   have hl7 : List.length (List.take (Int.toNat y0) list) ≤ 1073741824 := wide_len (wide_take (Int.toNat y0) (hw1))
   refine su tt_ok [(6, .one (.slc (.own true 2624) 1 (([] ++ (eL (List.take (Int.toNat y0) list))) ++ [[.i n]])))] [1, 32] [] [] (pe 3 (av_take .sh 1 (Int.toNat y0) y0 list rfl) (px (ob_rng (lo := 0) (hi := y0) (n := (List.length (eL list))) (rng_of (by omega) (by omega) (by omega))) (po 4 (.flat) (px (ob_len (n := (([] : List (List PV)).length + ((eL (List.take (Int.toNat y0) list)) : List (List PV)).length)) (len_of (rfl) (eL_length (List.take (Int.toNat y0) list)) (by first | omega | (simp only [List.length_cons, List.length_nil]; omega) | (simp; omega) | simp))) (px (ob_flat (flat_eL (List.take (Int.toNat y0) list))) (px (ob_len (n := ((([] ++ (eL (List.take (Int.toNat y0) list))) : List (List PV)).length + ([[.i n]] : List (List PV)).length)) (by simp [eL_length]; omega)) p0)))))) ?_
   refine eqn [(6, .o 2624 (List.take (Int.toNat y0) list ++ [n]))] [6] [] [] (by rw [show (([] ++ (eL (List.take (Int.toNat y0) list))) ++ [[.i n]]) = (eL (List.take (Int.toNat y0) list ++ [n])) from app_eL (rfl) (rfl)]; first | done | kernel_rfl) ?_
   refine wT 6 0 (.own true 2624) (List.take (Int.toNat y0) list ++ [n]) (fun hw8 hl9 => ?_)
   have hl10 : List.length (List.drop (Int.toNat y0) list) ≤ 1073741824 := wide_len (wide_drop (Int.toNat y0) (hw1))
   refine su tt_ok [(4, .one (.slc (.own true 2944) 1 ((eL (List.take (Int.toNat y0) list ++ [n])) ++ (eL (List.drop (Int.toNat y0) list)))))] [0, 4, 5, 6] [] [] (pe 3 (av_drop .sh 1 (Int.toNat y0) y0 list rfl) (px (ob_rng (lo := y0) (hi := (((eL list) : List (List PV)).length : Int)) (n := (List.length (eL list))) (rng_all (by omega) (by omega))) (po 4 (.flat) (pa (List.take (Int.toNat y0) list ++ [n]) (List.drop (Int.toNat y0) list) (px (ob_flat (flat_eL (List.drop (Int.toNat y0) list))) p0))))) ?_
   refine eqn [(4, .o 2944 (List.take (Int.toNat y0) list ++ [n] ++ (List.drop (Int.toNat y0) list)))] [4] [] [] (by rw [show ((eL (List.take (Int.toNat y0) list ++ [n])) ++ (eL (List.drop (Int.toNat y0) list))) = (eL (List.take (Int.toNat y0) list ++ [n] ++ (List.drop (Int.toNat y0) list))) from app_eL (rfl) (rfl)]; first | done | kernel_rfl) ?_
   refine awp_ret ?_
   exact ph0 [2944] (on_b hD0.1 (bif_f h6 (rfl)))
def implwithout_1 (id : Int) (q0 : (List Int)) : Bool := (slicesContains_int q0 id)
theorem implwithout_1_a (id : Int) (q0 : (List Int)) : ACalls Tryz.prog 111 [.i id, .one (.rptr .sh [.h q0])] (.b (implwithout_1 id q0)) := by
 refine en tt_ok Tryz.func111 fun w0 F0 hG => ?_
 refine sn tt_ok [0, 1, 3] [] (p0) ?_
 refine tn tt_ok [3] [] (pc 2 (slicesContains_int_a q0 id) p0) ?_
 refine awp_ret ?_
 exact pb [] (show implwithout_1 id q0 = (slicesContains_int q0 id) from rfl)
def slicesIndexFunc_int_implwithout_1_f0 (c0 : (List Int)) (k0 : Nat) (a0 : Int) (_ : Unit) : Rd (Int) (Unit) (Unit) := (bif (implwithout_1 a0 c0) then (.ret ((k0 : Nat) : Int)) else (.next ()))
def slicesIndexFunc_int_implwithout_1_e0 (_ : Nat) (_ : Unit) : Unit := ()
def slicesIndexFunc_int_implwithout_1 (s_ : (List Int)) (c0 : (List Int)) : Int := (Out.on (forL (slicesIndexFunc_int_implwithout_1_f0 c0) slicesIndexFunc_int_implwithout_1_e0 s_ 0 ()) (fun _ => -1))
theorem slicesIndexFunc_int_implwithout_1_ix (s_ : (List Int)) (c0 : (List Int)) : slicesIndexFunc_int_implwithout_1 s_ c0 = ixF (fun a => implwithout_1 a c0) s_ := idx_eq (fun _ _ _ => rfl) s_
theorem slicesIndexFunc_int_implwithout_1_bd (s_ : (List Int)) (c0 : (List Int)) : -1 ≤ slicesIndexFunc_int_implwithout_1 s_ c0 ∧ slicesIndexFunc_int_implwithout_1 s_ c0 < (List.length s_ : Int) := by rw [slicesIndexFunc_int_implwithout_1_ix]; exact ixF_bd _ _
theorem slicesIndexFunc_int_implwithout_1_a (s_ : (List Int)) (c0 : (List Int)) : ACalls Tryz.prog 154 [.h s_, .one (.fnr 111 [[.h c0]])] (.i (slicesIndexFunc_int_implwithout_1 s_ c0)) := by
 refine en tt_ok Tryz.func154 fun w0 F0 hG => ?_
 refine sn tt_ok [0, 1, 4] [] (p0) ?_
 refine awp_seq ?_
 refine tn tt_ok [0, 1, 4, 7, 8] [] (pl 1 s_ p0) ?_
 refine mz [(4, .i 0), (7, .i (s_.length : Int)), (8, .i 0)] [] [] [] ?_
 refine wT 0 0 .sh s_ (fun hw1 hl2 => ?_)
 refine blL0 (slicesIndexFunc_int_implwithout_1_f0 c0) slicesIndexFunc_int_implwithout_1_e0 s_ () (fun k0 _ => [(8, .i ((k0 : Nat) : Int))]) [8] (fun _ => []) [0, 1, 7, 8] (weak_fit (by kernel_rfl)) (fun k0 s0 hk0 hI0 => ?_) (fun k0 s0 hk0 hI0 => ?_) (fun y0 hD0 => ?_)
 ·
  obtain ⟨a0, hx0⟩ := get_some (l := s_) (i := k0) hk0
  refine sn tt_ok [0, 1, 4, 7, 8, 9] [] (pe 0 (av_bool (decide_eq_true (p := ((k0 : Nat) : Int) < (s_.length : Int)) (by omega))) p0) ?_
  refine awp_seq ?_
  refine ckT ?_
  refine awp_skip ?_
  refine awp_seq ?_
  refine awp_block ?_
  refine tn tt_ok [0, 1, 4, 5, 7, 8] [] (p0) ?_
  refine tu tt_ok [(5, .i ((k0 : Nat) : Int)), (16, .b (implwithout_1 a0 c0))] [] [] [] (pn 3 hx0 (pc 5 (implwithout_1_a a0 c0) p0)) ?_
  refine ck (implwithout_1 a0 c0) (fun h3 => ?_) (fun h3 => ?_)
  ·
   refine sn tt_ok [0, 1, 4, 7, 8] [] (p0) ?_
   refine awp_ret ?_
   have hr4 : (forL (slicesIndexFunc_int_implwithout_1_f0 c0) slicesIndexFunc_int_implwithout_1_e0 s_ 0 ()) = .ret ((k0 : Nat) : Int) := forL_ret hx0 (bif_t h3 (rfl)) hI0
   exact pi [] (on_r hr4)
  ·
   refine awp_skip ?_
   refine rn tt_ok [0, 1, 4, 7, 8] [] (pe 0 (av_i (wrap_succ k0 (by omega))) p0) ?_
   exact Exists.intro _ (And.intro (weak_fit (by kernel_rfl)) (forL_next hx0 (bif_f h3 (rfl)) hI0))
 ·
  refine sn tt_ok [0, 1, 4, 7, 8, 9] [] (pe 0 (av_bool (decide_eq_false (p := ((k0 : Nat) : Int) < (s_.length : Int)) (by omega))) p0) ?_
  refine awp_seq ?_
  refine ckF ?_
  refine awp_exit ?_
  exact Exists.intro _ (And.intro (weak_fit (by kernel_rfl)) (forL_end hk0 (rfl) hI0))
 ·
  refine sn tt_ok [4] [] (p0) ?_
  refine awp_ret ?_
  exact pi [] (on_b hD0 (rfl))
def slicesDeleteFunc_int_implwithout_1_f0 (c0 : (List Int)) (s0 : (List Int) × Int × Int) : Rd ((List Int)) ((List Int) × Int × Int) ((List Int) × Int) := (bif decide (s0.2.2 < (s0.1.length : Int)) then (bif (!(implwithout_1 (nth s0.1 (Int.toNat s0.2.2)) c0)) then (.next (List.set s0.1 (Int.toNat s0.2.1) (nth s0.1 (Int.toNat s0.2.2)), (s0.2.1 + 1), (s0.2.2 + 1))) else (.next (s0.1, s0.2.1, (s0.2.2 + 1)))) else (.brk (s0.1, s0.2.1)))
def slicesDeleteFunc_int_implwithout_1 (s_ : (List Int)) (c0 : (List Int)) : (List Int) := (bif ((slicesIndexFunc_int_implwithout_1 s_ c0) == (-1 : Int)) then s_ else (Out.on (whlD (slicesDeleteFunc_int_implwithout_1_f0 c0) (List.length s_ + 1) (s_, (slicesIndexFunc_int_implwithout_1 s_ c0), ((slicesIndexFunc_int_implwithout_1 s_ c0) + 1))) (fun y0 => List.take (Int.toNat y0.2) y0.1)))
theorem slicesDeleteFunc_int_implwithout_1_st (c0 : (List Int)) : DelStep (slicesDeleteFunc_int_implwithout_1_f0 c0) (fun a => implwithout_1 a c0) := by
 intro s i j hij hj
 unfold slicesDeleteFunc_int_implwithout_1_f0
 by_cases h : (j : Int) < (s.length : Int) <;> cases hp : implwithout_1 (nth s j) c0 <;> simp [h, hp]
theorem slicesDeleteFunc_int_implwithout_1_w (s_ : (List Int)) (c0 : (List Int)) (hp : List.length s_ ≤ 1073741824) (h : slicesIndexFunc_int_implwithout_1 s_ c0 ≠ -1) : (whl (slicesDeleteFunc_int_implwithout_1_f0 c0) (List.length s_ + 1) (s_, slicesIndexFunc_int_implwithout_1 s_ c0, slicesIndexFunc_int_implwithout_1 s_ c0 + 1)).isSome = true := del_some (slicesDeleteFunc_int_implwithout_1_st c0) hp (slicesIndexFunc_int_implwithout_1_ix s_ c0) h
theorem slicesDeleteFunc_int_implwithout_1_eq (s_ : (List Int)) (c0 : (List Int)) (hp : List.length s_ ≤ 1073741824) : slicesDeleteFunc_int_implwithout_1 s_ c0 = s_.filter (fun a => !(implwithout_1 a c0)) := by
 unfold slicesDeleteFunc_int_implwithout_1
 exact del_eq (slicesDeleteFunc_int_implwithout_1_st c0) hp (slicesIndexFunc_int_implwithout_1_ix s_ c0)
theorem slicesDeleteFunc_int_implwithout_1_le (s_ : (List Int)) (c0 : (List Int)) (hp : List.length s_ ≤ 1073741824) : List.length (slicesDeleteFunc_int_implwithout_1 s_ c0) ≤ List.length s_ := by rw [slicesDeleteFunc_int_implwithout_1_eq _ _ hp]; exact List.length_filter_le _ _
theorem slicesDeleteFunc_int_implwithout_1_a (s_ : (List Int)) (c0 : (List Int)) : ATake Tryz.prog 110 1 (eL s_) [.one (.fnr 111 [[.h c0]])] true false (eL (slicesDeleteFunc_int_implwithout_1 s_ c0)) := by
 refine atake_of (tt := tt) tt_ok Tryz.func110 (fn := Tryz.f110) rfl (by unfold FnOk; kernel_rfl) (Nat.le_of_ble_eq_true rfl) (by simp [AV.cells, C.key, C.bkeys]) (t := 4) rfl fun w0 F0 hG => ?_
 refine wT 0 0 (.own false 63) s_ (fun hw1 hl2 => ?_)
 have hix := slicesIndexFunc_int_implwithout_1_bd s_ c0
 refine sn tt_ok [0, 1, 4] [] (p0) ?_
 refine tn tt_ok [0, 1, 4, 5] [] (pc 2 (slicesIndexFunc_int_implwithout_1_a s_ c0) p0) ?_
 refine awp_seq ?_
 refine tu tt_ok [(4, .e 0), (5, .i (slicesIndexFunc_int_implwithout_1 s_ c0)), (12, .b ((slicesIndexFunc_int_implwithout_1 s_ c0) == (-1 : Int)))] [] [] [] (p0) ?_
 refine ck ((slicesIndexFunc_int_implwithout_1 s_ c0) == (-1 : Int)) (fun h3 => ?_) (fun h3 => ?_)
 ·
  refine sn tt_ok [0, 1, 4, 5] [] (p0) ?_
  refine awp_ret ?_
  have hE4 : slicesDeleteFunc_int_implwithout_1 s_ c0 = s_ := bif_t h3 (rfl)
  exact ⟨.inl rfl, 63, by rw [hE4]; kernel_rfl⟩
 ·
  have h3d := ne_of_beq h3
  refine awp_skip ?_
  refine awp_seq ?_
  refine sn tt_ok [0, 1, 4, 5, 6] [] (pe 1 (av_i (IntWalk.i64_in ((slicesIndexFunc_int_implwithout_1 s_ c0) + 1) (by omega))) p0) ?_
  refine mz [(6, .i ((slicesIndexFunc_int_implwithout_1 s_ c0) + 1))] [12] [] [] ?_
  refine blw (fun (s0 : (List Int) × Int × Int) => [(0, .q 63 s0.1), (5, .i s0.2.1), (6, .i s0.2.2)]) [0, 5, 6] (fun s0 => []) [] (fun (y0 : (List Int) × Int) => [(0, .q 63 y0.1), (5, .i y0.2)]) [0, 1, 5, 6] (fun y0 => []) [] (fun (k0 : Nat) (s0 : (List Int) × Int × Int) => whl (slicesDeleteFunc_int_implwithout_1_f0 c0) k0 s0 = some (whlD (slicesDeleteFunc_int_implwithout_1_f0 c0) (List.length s_ + 1) (s_, (slicesIndexFunc_int_implwithout_1 s_ c0), ((slicesIndexFunc_int_implwithout_1 s_ c0) + 1))) ∧ 0 ≤ s0.2.1 ∧ s0.2.1 < s0.2.2 ∧ s0.2.2 ≤ (List.length s0.1 : Int) ∧ List.length s0.1 = List.length s_) (fun (y0 : (List Int) × Int) => (whlD (slicesDeleteFunc_int_implwithout_1_f0 c0) (List.length s_ + 1) (s_, (slicesIndexFunc_int_implwithout_1 s_ c0), ((slicesIndexFunc_int_implwithout_1 s_ c0) + 1))) = .brk y0 ∧ 0 ≤ y0.2 ∧ y0.2 < (List.length y0.1 : Int) ∧ List.length y0.1 = List.length s_) (List.length s_ + 1) (s_, (slicesIndexFunc_int_implwithout_1 s_ c0), ((slicesIndexFunc_int_implwithout_1 s_ c0) + 1)) (weak_fit (by kernel_rfl)) ⟨whl_some (slicesDeleteFunc_int_implwithout_1_w s_ c0 hl2 h3d), (by first | omega | (dsimp only; omega) | rfl), (by first | omega | (dsimp only; omega) | rfl), (by first | omega | (dsimp only; omega) | rfl), (by first | omega | (dsimp only; omega) | rfl)⟩ (fun _ h => whl_zero h.1) (fun k0 s0 hI0 => ?_) (fun y0 hD0 => ?_)
  ·
   have hA0_0 := hI0.2.1
   have hA0_1 := hI0.2.2.1
   have hA0_2 := hI0.2.2.2.1
   have hA0_3 := hI0.2.2.2.2
   refine awp_seq ?_
   refine sn tt_ok [0, 1, 4, 5, 6, 19] [] (pl 2 s0.1 p0) ?_
   refine ck (decide (s0.2.2 < (s0.1.length : Int))) (fun h5 => ?_) (fun h5 => ?_)
   ·
    have h5d := of_decide_eq_true h5
    refine awp_skip ?_
    refine awp_seq ?_
    refine awp_block ?_
    refine wT 0 0 (.own false 63) s0.1 (fun hw7 hl8 => ?_)
    have hx6 := ng s0.1 (Int.toNat s0.2.2)
    refine tn tt_ok [0, 1, 4, 5, 6, 7] [] (pG 2 s0.2.2 hx6 p0) ?_
    refine tu tt_ok [(7, .i (nth s0.1 (Int.toNat s0.2.2))), (29, .b (!(implwithout_1 (nth s0.1 (Int.toNat s0.2.2)) c0)))] [] [] [] (pc 2 (implwithout_1_a (nth s0.1 (Int.toNat s0.2.2)) c0) p0) ?_
    refine ck (!(implwithout_1 (nth s0.1 (Int.toNat s0.2.2)) c0)) (fun h9 => ?_) (fun h9 => ?_)
    ·
     have hx10 := ng s0.1 (Int.toNat s0.2.1)
     refine su tt_ok [(0, .one (.slc (.own false 63) 1 (setRow (eL s0.1) (Int.toNat s0.2.1) 0 [.i (nth s0.1 (Int.toNat s0.2.2))])))] [0, 7, 29] [] [] (pG 3 s0.2.1 hx10 p0) ?_
     refine eqn [(0, .q 63 (List.set s0.1 (Int.toNat s0.2.1) (nth s0.1 (Int.toNat s0.2.2))))] [0] [] [] (by rw [setRow_eL (y := (nth s0.1 (Int.toNat s0.2.2))) hx10 rfl]; first | done | kernel_rfl) ?_
     refine rn tt_ok [0, 1, 4, 5, 6] [] (pe 1 (av_i (IntWalk.i64_in (s0.2.1 + 1) (by omega))) p0) ?_
     refine qn tt_ok [0, 1, 4, 5, 6] [] (pe 1 (av_i (IntWalk.i64_in (s0.2.2 + 1) (by omega))) p0) ?_
     exact Exists.intro (List.set s0.1 (Int.toNat s0.2.1) (nth s0.1 (Int.toNat s0.2.2)), (s0.2.1 + 1), (s0.2.2 + 1)) (And.intro (weak_fit (by kernel_rfl)) ⟨wn hI0.1 (bif_t h5 (bif_t h9 (rfl))), (by first | omega | (dsimp only; omega) | (simp only [List.length_set]; omega)), (by first | omega | (dsimp only; omega) | (simp only [List.length_set]; omega)), (by first | omega | (dsimp only; omega) | (simp only [List.length_set]; omega)), (by first | omega | (dsimp only; omega) | (simp only [List.length_set]; omega))⟩)
    ·
     refine awp_skip ?_
     refine rn tt_ok [0, 1, 4, 5, 6] [] (pe 1 (av_i (IntWalk.i64_in (s0.2.2 + 1) (by omega))) p0) ?_
     exact Exists.intro (s0.1, s0.2.1, (s0.2.2 + 1)) (And.intro (weak_fit (by kernel_rfl)) ⟨wn hI0.1 (bif_t h5 (bif_f h9 (rfl))), (by first | omega | (dsimp only; omega) | (simp only [List.length_set]; omega)), (by first | omega | (dsimp only; omega) | (simp only [List.length_set]; omega)), (by first | omega | (dsimp only; omega) | (simp only [List.length_set]; omega)), (by first | omega | (dsimp only; omega) | (simp only [List.length_set]; omega))⟩)
   ·
    have h5d := of_decide_eq_false h5
    refine awp_exit ?_
    exact Exists.intro (s0.1, s0.2.1) (And.intro (weak_fit (by kernel_rfl)) ⟨wb hI0.1 (bif_f h5 (rfl)), by first | omega | (simp only [List.length_set]; omega), by first | omega | (simp only [List.length_set]; omega), by first | omega | (simp only [List.length_set]; omega)⟩)
  ·
   have hD0_0 := hD0.2.1
   have hD0_1 := hD0.2.2.1
   have hD0_2 := hD0.2.2.2
   refine awp_seq ?_
   refine awp_clear tt_ok rfl (by kernel_rfl) rfl rfl rfl rfl rfl (by omega) (by rw [eL_length]; omega) (fun lc11 hllc11 htlc11 => ?_)
   refine sn tt_ok [4] [] (po 2 (.cut (eL (List.take (Int.toNat y0.2) y0.1))) (px (ob_eq (show .one (.slc (.own false 0) 1 ((lc11.take (Int.toNat y0.2)).drop (Int.toNat 0))) = .q 0 (List.take (Int.toNat y0.2) y0.1) from (congrArg (fun z => AV.one (.slc (.own false 0) 1 (z.drop (Int.toNat 0)))) htlc11).trans (av_take (.own false 0) 1 (Int.toNat y0.2) y0.2 y0.1 rfl))) (px (ob_rng (lo := 0) (hi := y0.2) (n := (List.length lc11)) (rng_lc (by omega) (by rw [hllc11, eL_length]; omega))) p0))) ?_
   refine awp_ret ?_
   have hE12 : slicesDeleteFunc_int_implwithout_1 s_ c0 = List.take (Int.toNat y0.2) y0.1 := bif_f h3 (on_b hD0.1 (rfl))
   exact ⟨.inl rfl, 0, by rw [hE12]; kernel_rfl⟩
def implwithout (a_ : (List Int)) (b : (List Int)) : (List Int) := slicesDeleteFunc_int_implwithout_1 a_ b
theorem implwithout_a (a_ : (List Int)) (b : (List Int)) : ACalls Tryz.prog 70 [.h a_, .h b] (.o 0 (implwithout a_ b)) := by
 refine en tt_ok Tryz.func70 fun w0 F0 hG => ?_
 refine sn tt_ok [0, 3, 4] [3] (p0) ?_
 refine wT 0 0 .sh a_ (fun hw1 hl2 => ?_)
 have hq3 := slicesDeleteFunc_int_implwithout_1_le a_ b hl2
 refine tn tt_ok [4] [] (pc 1 (cloneInt_a a_) (po 3 (.take false false (eL (slicesDeleteFunc_int_implwithout_1 a_ b))) (px (ob_take (atake_flat (slicesDeleteFunc_int_implwithout_1_a a_ b) (flat_eL _))) (px (ob_flat (flat_eL a_)) (px (ob_flat (flat_eL (slicesDeleteFunc_int_implwithout_1 a_ b))) p0))))) ?_
 refine awp_ret ?_
 exact po0 [] (show implwithout a_ b = slicesDeleteFunc_int_implwithout_1 a_ b from rfl)
end Go.Proofs.YtcnkkobgogmakaaGreat
namespace Go.Proofs.YtcnkkobgogmakaaGreat
open Go.RowKit
theorem asc_ext : ∀ (a b : List Int), a.Pairwise (· < ·) → b.Pairwise (· < ·) → (∀ x, x ∈ a ↔ x ∈ b) → a = b
  | [], [], _, _, _ => rfl
  | [], y :: b, _, _, h => by have := (h y).2 (by simp); simp at this
  | x :: a, [], _, _, h => by have := (h x).1 (by simp); simp at this
  | x :: a, y :: b, ha, hb, h => by
    rw [List.pairwise_cons] at ha hb
    have h1 : x = y := by
      have hx := (h x).1 (by simp)
      have hy := (h y).2 (by simp)
      simp only [List.mem_cons] at hx hy
      rcases hx with e | hx
      · exact e
      · rcases hy with e | hy
        · exact e.symm
        · have h1 := ha.1 y hy
          have h2 := hb.1 x hx
          omega
    subst h1
    congr 1
    refine asc_ext a b ha.2 hb.2 fun z => ?_
    have hz := h z
    simp only [List.mem_cons] at hz
    constructor
    · intro hm
      have hlt := ha.1 z hm
      rcases hz.1 (.inr hm) with e | e
      · omega
      · exact e
    · intro hm
      have hlt := hb.1 z hm
      rcases hz.2 (.inr hm) with e | e
      · omega
      · exact e
def putId : List Int → Int → List Int
  | [], n => [n]
  | x :: l, n => if x < n then x :: putId l n else if x = n then x :: l else n :: x :: l
theorem mem_putId (n x : Int) : ∀ l : List Int, x ∈ putId l n ↔ x = n ∨ x ∈ l
  | [] => by simp [putId]
  | y :: l => by
    unfold putId
    by_cases h1 : y < n
    · rw [if_pos h1, List.mem_cons, mem_putId n x l, List.mem_cons]
      constructor
      · rintro (h | h | h)
        · exact .inr (.inl h)
        · exact .inl h
        · exact .inr (.inr h)
      · rintro (h | h | h)
        · exact .inr (.inl h)
        · exact .inl h
        · exact .inr (.inr h)
    · rw [if_neg h1]
      by_cases h2 : y = n
      · rw [if_pos h2, h2]; simp
      · rw [if_neg h2]; simp
theorem asc_putId (n : Int) : ∀ l : List Int, l.Pairwise (· < ·) → (putId l n).Pairwise (· < ·)
  | [], _ => by simp [putId]
  | y :: l, h => by
    rw [List.pairwise_cons] at h
    unfold putId
    by_cases h1 : y < n
    · rw [if_pos h1, List.pairwise_cons]
      refine ⟨fun z hz => ?_, asc_putId n l h.2⟩
      rcases (mem_putId n z l).1 hz with e | e
      · omega
      · exact h.1 z e
    · rw [if_neg h1]
      by_cases h2 : y = n
      · rw [if_pos h2, List.pairwise_cons]; exact h
      · rw [if_neg h2, List.pairwise_cons, List.pairwise_cons]
        refine ⟨fun z hz => ?_, h⟩
        rcases List.mem_cons.1 hz with e | e
        · omega
        · have := h.1 z e; omega
theorem len_putId (n : Int) : ∀ l : List Int, (putId l n).length ≤ l.length + 1
  | [] => by simp [putId]
  | y :: l => by
    have h := len_putId n l
    unfold putId
    split
    · simp only [List.length_cons]; omega
    · split
      · simp
      · simp
def placeOf (l : List Int) (n : Int) : Nat := (l.takeWhile (fun x => decide (x < n))).length
theorem putId_eq (n : Int) : ∀ l : List Int, putId l n = if l[placeOf l n]? = some n then l else l.take (placeOf l n) ++ [n] ++ l.drop (placeOf l n)
  | [] => by simp [putId, placeOf]
  | y :: l => by
    have ih := putId_eq n l
    unfold putId placeOf
    by_cases h1 : y < n
    · rw [if_pos h1, ih]
      simp only [List.takeWhile_cons, h1, decide_true, if_true, List.length_cons, List.getElem?_cons_succ, List.take_succ_cons, List.drop_succ_cons]
      unfold placeOf
      split <;> simp
    · rw [if_neg h1]
      simp only [List.takeWhile_cons, h1, decide_false, List.length_nil, List.getElem?_cons_zero, Option.some.injEq, List.take_zero, List.drop_zero]
      by_cases h2 : y = n
      · rw [if_pos h2]; simp [h2]
      · rw [if_neg h2]; simp [h2]
def putAll (l : List Int) (xs : List Int) : List Int := xs.foldl putId l
theorem mem_putAll (x : Int) : ∀ (xs l : List Int), x ∈ putAll l xs ↔ x ∈ xs ∨ x ∈ l
  | [], l => by simp [putAll]
  | n :: xs, l => by
    have h := mem_putAll x xs (putId l n)
    unfold putAll at h ⊢
    rw [List.foldl_cons, h, mem_putId, List.mem_cons]
    constructor
    · rintro (h | h | h)
      · exact .inl (.inr h)
      · exact .inl (.inl h)
      · exact .inr h
    · rintro ((h | h) | h)
      · exact .inr (.inl h)
      · exact .inl h
      · exact .inr (.inr h)
theorem asc_putAll : ∀ (xs l : List Int), l.Pairwise (· < ·) → (putAll l xs).Pairwise (· < ·)
  | [], _, h => h
  | n :: xs, l, h => asc_putAll xs (putId l n) (asc_putId n l h)
def less (ids removed : List Int) : List Int := ids.filter (fun x => !removed.contains x)
def replay1 (ids added removed : List Int) : List Int := putAll (putAll [] (less ids removed)) added
theorem less_len (ids removed : List Int) : (less ids removed).length ≤ ids.length := List.length_filter_le _ _
theorem compact_asc (d : Array Int) (hs : ∀ i j, i ≤ j → j < d.size → d[i]! ≤ d[j]!) : ∀ m, m ≤ d.size → (Lib.compactUpTo d m).Pairwise (· < ·) ∧ ∀ x, x ∈ Lib.compactUpTo d m ↔ ∃ j, j < m ∧ d[j]! = x
  | 0, _ => by simp [Lib.compactUpTo]
  | m + 1, hm => by
    obtain ⟨h1, h2⟩ := compact_asc d hs m (by omega)
    rw [Lib.compactUpTo_succ]
    by_cases hk : Lib.keeps d m = true
    · rw [if_pos hk]
      refine ⟨?_, fun x => ?_⟩
      · rw [List.pairwise_append]
        refine ⟨h1, by simp, fun a ha b hb => ?_⟩
        obtain ⟨j, hj, rfl⟩ := (h2 a).1 ha
        obtain rfl : b = d[m]! := by simpa using hb
        have hle := hs j (m - 1) (by omega) (by omega)
        have hle2 := hs (m - 1) m (by omega) (by omega)
        have hne : d[m]! ≠ d[m - 1]! := by
          unfold Lib.keeps at hk
          simp only [Bool.or_eq_true, beq_iff_eq, bne_iff_ne, decide_eq_true_eq] at hk
          rcases hk with h | h
          · omega
          · exact h
        omega
      · rw [List.mem_append, h2 x]
        constructor
        · rintro (⟨j, hj, e⟩ | h)
          · exact ⟨j, by omega, e⟩
          · exact ⟨m, by omega, by simpa using (by simpa using h : x = d[m]!).symm⟩
        · rintro ⟨j, hj, e⟩
          by_cases hjm : j = m
          · subst hjm; exact .inr (by simp [e])
          · exact .inl ⟨j, by omega, e⟩
    · rw [if_neg hk, List.append_nil]
      refine ⟨h1, fun x => ?_⟩
      rw [h2 x]
      have hm0 : m ≠ 0 ∧ d[m]! = d[m - 1]! := by
        unfold Lib.keeps at hk
        simp only [Bool.or_eq_true, beq_iff_eq, bne_iff_ne, decide_eq_true_eq, not_or, Decidable.not_not] at hk
        exact hk
      constructor
      · rintro ⟨j, hj, e⟩; exact ⟨j, by omega, e⟩
      · rintro ⟨j, hj, e⟩
        by_cases hjm : j = m
        · subst hjm; exact ⟨j - 1, by omega, hm0.2 ▸ e⟩
        · exact ⟨j, by omega, e⟩
theorem compact_sort (l : List Int) (a : List Int) (ha : a.Pairwise (· < ·)) (hm : ∀ x, x ∈ a ↔ x ∈ l) : Lib.compact (l.mergeSort fun x y => decide (x ≤ y)) = a := by
  have hp := List.mergeSort_perm l (fun x y => decide (x ≤ y))
  have hs := List.pairwise_mergeSort (le := fun (x y : Int) => decide (x ≤ y)) (fun a b c h1 h2 => by simp at h1 h2 ⊢; omega) (fun a b => by simp; omega) l
  generalize (l.mergeSort fun x y => decide (x ≤ y)) = s at hp hs
  have hsz : s.toArray.size = s.length := by simp
  have hget : ∀ j, j < s.length → s.toArray[j]! = s[j]! := fun j hj => by simp
  have hmono : ∀ i j, i ≤ j → j < s.toArray.size → s.toArray[i]! ≤ s.toArray[j]! := fun i j hij hj => by
    rw [hsz] at hj
    rw [hget i (by omega), hget j hj, getElem!_pos s i (by omega), getElem!_pos s j hj]
    by_cases e : i = j
    · subst e; exact Int.le_refl _
    · have := List.pairwise_iff_getElem.1 hs i j (by omega) hj (by omega)
      simpa using this
  obtain ⟨h1, h2⟩ := compact_asc s.toArray hmono s.length (by omega)
  refine asc_ext _ _ h1 ha fun x => ?_
  show x ∈ Lib.compactUpTo s.toArray s.length ↔ _
  rw [h2 x, hm x, ← hp.mem_iff]
  constructor
  · rintro ⟨j, hj, e⟩
    rw [hget j hj, getElem!_pos s j hj] at e
    exact e ▸ List.getElem_mem hj
  · intro h
    obtain ⟨j, hj, e⟩ := List.getElem_of_mem h
    exact ⟨j, hj, by rw [hget j hj, getElem!_pos s j hj]; exact e⟩
theorem replay1_eq (ids added removed : List Int) : Lib.compact ((less ids removed ++ added).mergeSort fun x y => decide (x ≤ y)) = replay1 ids added removed :=
  compact_sort _ _ (asc_putAll _ _ (asc_putAll _ _ (by simp))) fun x => by
    unfold replay1
    rw [mem_putAll, mem_putAll, List.mem_append]
    simp only [List.not_mem_nil, or_false]
    exact Or.comm
end Go.Proofs.YtcnkkobgogmakaaGreat
namespace Go.Proofs.YtcnkkobgogmakaaGreat
open Go.RowKit
theorem putI_loop (n : Int) : ∀ (l : List Int) (k : Nat), forL (specl07PutId_f0 n) specl07PutId_e0 l k () = .brk (((k + placeOf l n : Nat)) : Int)
  | [], k => by simp [forL, specl07PutId_e0, placeOf]
  | a :: l, k => by
    simp only [forL, specl07PutId_f0]
    by_cases h : a < n
    · have e : placeOf (a :: l) n = placeOf l n + 1 := by simp [placeOf, h]
      rw [decide_eq_true h, e]
      simp only [cond_true]
      rw [putI_loop n l (k + 1), show k + 1 + placeOf l n = k + (placeOf l n + 1) by omega]
    · have e : placeOf (a :: l) n = 0 := by simp [placeOf, h]
      rw [decide_eq_false h, e]
      rfl
theorem l07Put_eq (l : List Int) (n : Int) : specl07PutId l n = putId l n := by
  unfold specl07PutId
  rw [putI_loop, putId_eq]
  simp only [Out.on, Nat.zero_add, Int.toNat_natCast]
  by_cases h : l[placeOf l n]? = some n
  · obtain ⟨hlt, _⟩ := List.getElem?_eq_some_iff.1 h
    rw [if_pos h, decide_eq_true (by omega : ((placeOf l n : Nat) : Int) < (l.length : Int)), nth_of h]
    simp
  · rw [if_neg h]
    have hc : (decide (((placeOf l n : Nat) : Int) < (l.length : Int)) && (nth l (placeOf l n) == n)) = false := by
      by_cases hlt : placeOf l n < l.length
      · have : nth l (placeOf l n) ≠ n := fun e => h (by rw [nth_get hlt, e])
        rw [beq_eq_false_iff_ne.2 this, Bool.and_false]
      · rw [decide_eq_false (by omega), Bool.false_and]
    rw [hc, cond_false]
theorem putI_len (l : List Int) (n : Int) : List.length (specl07PutId l n) ≤ List.length l + 1 := by rw [l07Put_eq]; exact len_putId n l
end Go.Proofs.YtcnkkobgogmakaaGreat
namespace Go.Proofs.YtcnkkobgogmakaaGreat
open Go.RowKit
theorem without_less {a b : List Int} (hp : List.length a ≤ 1073741824) : implwithout a b = less a b := by
  unfold implwithout
  rw [slicesDeleteFunc_int_implwithout_1_eq a b hp]
  unfold less
  refine List.filter_congr fun x _ => ?_
  have h : implwithout_1 x b = b.contains x := by
    rw [Bool.eq_iff_iff]
    have := cid_iff b x
    unfold implContainsID at this
    show slicesContains_int b x = true ↔ _
    rw [this]
    simp
  rw [h]
open GoE (enc wide)
def implreplayed (ids : (List Int)) (added : (List Int)) (removed : (List Int)) : (List Int) := compI (sortI (less ids removed ++ added))
theorem implreplayed_a (ids : (List Int)) (added : (List Int)) (removed : (List Int)) (hp : List.length ids + List.length added ≤ 536870912) : ACalls Tryz.prog 72 [.h ids, .h added, .h removed] (.o 0 (implreplayed ids added removed)) := by
 refine en tt_ok Tryz.func72 fun w0 F0 hG => ?_
 have hll := less_len ids removed
 refine sn tt_ok [0, 1, 2, 6] [] (p0) ?_
 refine wT 0 0 .sh ids (fun hw1 hl2 => ?_)
 refine wT 1 0 .sh added (fun hw3 hl4 => ?_)
 refine tu tt_ok [(6, .e 0), (7, .one (.slc (.own true 768) 1 ((eL (less ids removed)) ++ (eL added))))] [0, 1, 2] [] [] (pc 2 ((without_less hl2) ▸ implwithout_a ids removed) (po 4 (.flat) (pa (less ids removed) added (px (ob_flat (flat_eL added)) p0)))) ?_
 refine eqn [(7, .o 768 (less ids removed ++ added))] [7] [] [] (by rw [show ((eL (less ids removed)) ++ (eL added)) = (eL (less ids removed ++ added)) from app_eL (rfl) (rfl)]; first | done | kernel_rfl) ?_
 refine awp_demotes [768] rfl ?_
 refine su tt_ok [(7, .one (.slc (.own false 768) 1 (putR (eL (less ids removed ++ added)) 0 4294967296 (List.flatten (eL (sortI (less ids removed ++ added)))))))] [7] [] [] (po 1 (.take false true (eL (sortI (less ids removed ++ added)))) (px (ob_take (sortI_a (less ids removed ++ added))) p0)) ?_
 refine eqn [(7, .q 768 (sortI (less ids removed ++ added)))] [7] [] [] (by rw [putR_all (fun _ => rfl) (sortI_len _)]; first | done | kernel_rfl) ?_
 refine sn tt_ok [6] [] (po 1 (.take false false (eL (compI (sortI (less ids removed ++ added))))) (px (ob_take (compI_a (sortI (less ids removed ++ added)))) p0)) ?_
 refine awp_promote 6 (k := 1024) (n := 1) (by kernel_rfl) (flat_eL (compI (sortI (less ids removed ++ added)))) ?_
 refine awp_ret ?_
 exact po0 [] (show implreplayed ids added removed = compI (sortI (less ids removed ++ added)) from rfl)
def specApplyDiffToIDs_f0 (d : DiffD) (_ : Nat) (a0 : Int) (s0 : (List Int)) : Rd ((List Int)) ((List Int)) ((List Int)) := (bif (!(specContainsID d.2.2 a0)) then (.next (specl07PutId s0 a0)) else (.next s0))
def specApplyDiffToIDs_e0 (_ : Nat) (s0 : (List Int)) : (List Int) := s0
def specApplyDiffToIDs_f1 (_ : Nat) (a1 : Int) (s1 : (List Int)) : Rd ((List Int)) ((List Int)) ((List Int)) := (.next (specl07PutId s1 a1))
def specApplyDiffToIDs_e1 (_ : Nat) (s1 : (List Int)) : (List Int) := s1
def specApplyDiffToIDs (ids : (List Int)) (d : DiffD) : (List Int) := (Out.on (forL (specApplyDiffToIDs_f0 d) specApplyDiffToIDs_e0 ids 0 []) (fun y0 => (Out.on (forL specApplyDiffToIDs_f1 specApplyDiffToIDs_e1 d.2.1 0 y0) (fun y1 => y1))))
theorem specApplyDiffToIDs_a (ids : (List Int)) (d : DiffD) (hp : List.length ids + List.length d.2.1 ≤ 536870912) : ACalls Tryz.prog 91 [.h ids, .a [.s d.1, .h d.2.1, .h d.2.2]] (.o 0 (specApplyDiffToIDs ids d)) := by
 refine en tt_ok Tryz.func91 fun w0 F0 hG => ?_
 refine sn tt_ok [0, 3, 4] [3] (p0) ?_
 refine tn tt_ok [0, 3, 4, 5] [3] (p0) ?_
 refine awp_seq ?_
 refine tu tt_ok [(3, .p 3 0), (4, .e 0), (5, .one (.slc (.own true 512) 1 [])), (6, .i 0)] [1] [(3, [.s d.1, .h d.2.1, .h d.2.2])] [] (p0) ?_
 refine wT 0 0 .sh ids (fun hw1 hl2 => ?_)
 refine blL3 (specApplyDiffToIDs_f0 d) specApplyDiffToIDs_e0 ids [] (fun k0 s0 => [(5, .h s0), (6, .i ((k0 : Nat) : Int))]) [5, 6] (fun y0 => [(5, .h y0)]) [0, 5, 6] (fun k0 s0 => List.length s0 ≤ k0) (fun y0 => List.length y0 ≤ List.length ids) (weak_gf [] [512] [] [] (by kernel_rfl)) (by simp) (fun k0 s0 hk0 hI0 => ?_) (fun k0 s0 hk0 hI0 => ?_) (fun y0 hD0 => ?_)
 ·
  have hA0_0 := hI0.2
  obtain ⟨a0, hx0⟩ := get_some (l := ids) (i := k0) hk0
  refine awp_seq ?_
  refine sn tt_ok [0, 3, 4, 5, 6, 12] [3] (pl 2 ids (pe 3 (av_bool (decide_eq_true (p := ((k0 : Nat) : Int) < (ids.length : Int)) (by omega))) p0)) ?_
  refine ckT ?_
  refine awp_skip ?_
  refine awp_seq ?_
  refine awp_block ?_
  refine tN tt_ok tt_mx [0, 3, 4, 5, 6, 22] [3] (pn 4 hx0 (pc 6 (specContainsID_a d.2.2 a0) p0)) ?_
  refine ck (!(specContainsID d.2.2 a0)) (fun h3 => ?_) (fun h3 => ?_)
  ·
   refine qu tt_ok [(5, .h (specl07PutId s0 a0))] [5] [] [] (pn 3 hx0 (pc 5 (specl07PutId_a s0 a0 (by omega)) p0)) ?_
   refine rn tt_ok [0, 3, 4, 5, 6] [3] (pe 1 (av_i (wrap_succ k0 (by omega))) p0) ?_
   exact Exists.intro (specl07PutId s0 a0) (And.intro (weak_fit (by kernel_rfl)) ⟨forL_next hx0 (bif_t h3 (rfl)) hI0.1, (by first | omega | (have hz := putI_len s0 a0; omega))⟩)
  ·
   refine awp_skip ?_
   refine qu tt_ok [(6, .i ((k0 + 1 : Nat) : Int))] [6] [] [] (pe 1 (av_i (wrap_succ k0 (by omega))) p0) ?_
   exact Exists.intro s0 (And.intro (weak_fit (by kernel_rfl)) ⟨forL_next hx0 (bif_f h3 (rfl)) hI0.1, (by first | omega | (have hz := putI_len s0 a0; omega))⟩)
 ·
  have hA0_0 := hI0.2
  refine awp_seq ?_
  refine sn tt_ok [0, 3, 4, 5, 6, 12] [3] (pl 2 ids (pe 3 (av_bool (decide_eq_false (p := ((k0 : Nat) : Int) < (ids.length : Int)) (by omega))) p0)) ?_
  refine ckF ?_
  refine awp_exit ?_
  exact Exists.intro s0 (And.intro (weak_fit (by kernel_rfl)) ⟨forL_end hk0 (rfl) hI0.1, by first | omega | (simp only [List.length_set]; omega)⟩)
 ·
  have hD0_0 := hD0.2
  refine awp_seq ?_
  refine sn tt_ok [3, 4, 5, 7] [3] (p0) ?_
  refine mz [(7, .i 0)] [] [] [] ?_
  refine wB 3 1 .sh d.2.1 (fun hw4 hl5 => ?_)
  refine blL1b specApplyDiffToIDs_f1 specApplyDiffToIDs_e1 d.2.1 y0 (fun k1 s1 => [(5, .h s1), (7, .i ((k1 : Nat) : Int))]) [5, 7] (fun _ _ => []) [] (fun y1 => [(5, .h y1)]) [3, 5, 7] (fun _ => []) [3] (fun k1 s1 => List.length s1 ≤ List.length ids + k1) (weak_fit (by kernel_rfl)) (by first | omega | (simp; omega)) (fun k1 s1 hk1 hI1 => ?_) (fun k1 s1 hk1 hI1 => ?_) (fun y1 hD1 => ?_)
  ·
   have hA1_0 := hI1.2
   obtain ⟨a1, hx1⟩ := get_some (l := d.2.1) (i := k1) hk1
   refine awp_seq ?_
   refine sn tt_ok [3, 4, 5, 7, 33] [3] (pl 3 d.2.1 (pe 4 (av_bool (decide_eq_true (p := ((k1 : Nat) : Int) < (d.2.1.length : Int)) (by omega))) p0)) ?_
   refine ckT ?_
   refine awp_skip ?_
   refine awp_seq ?_
   refine awp_block ?_
   refine qn tt_ok [3, 4, 5, 7] [3] (pn 4 hx1 (pc 6 (specl07PutId_a s1 a1 (by omega)) p0)) ?_
   refine qu tt_ok [(5, .h (specl07PutId s1 a1)), (7, .i ((k1 + 1 : Nat) : Int))] [5, 7] [] [] (pe 1 (av_i (wrap_succ k1 (by omega))) p0) ?_
   exact Exists.intro (specl07PutId s1 a1) (And.intro (weak_fit (by kernel_rfl)) ⟨forL_next hx1 (rfl) hI1.1, (by first | omega | (have hz := putI_len s1 a1; omega))⟩)
  ·
   have hA1_0 := hI1.2
   refine awp_seq ?_
   refine sn tt_ok [3, 4, 5, 7, 33] [3] (pl 3 d.2.1 (pe 4 (av_bool (decide_eq_false (p := ((k1 : Nat) : Int) < (d.2.1.length : Int)) (by omega))) p0)) ?_
   refine ckF ?_
   refine awp_exit ?_
   exact Exists.intro _ (And.intro (weak_fit (by kernel_rfl)) (forL_end hk1 (rfl) hI1.1))
  ·
   refine wT 5 0 .sh y1 (fun hw6 hl7 => ?_)
   refine sn tt_ok [4] [] (po 2 (.flat) (px (ob_len (n := (([] : List (List PV)).length + ((eL y1) : List (List PV)).length)) (len_of (rfl) (eL_length y1) (by first | omega | (simp only [List.length_cons, List.length_nil]; omega) | (simp; omega) | simp))) (px (ob_flat (flat_eL y1)) p0))) ?_
   refine awp_ret ?_
   exact po0 [] (on_b hD0.1 (on_b hD1 (rfl)))
end Go.Proofs.YtcnkkobgogmakaaGreat
namespace Go.Proofs.YtcnkkobgogmakaaGreat
open Go.RowKit
theorem cidS_eq (l : List Int) (x : Int) : specContainsID l x = l.contains x := by
  rw [← cid_eq, Bool.eq_iff_iff, cid_iff]
  simp
theorem apply_f0 (d : DiffD) : ∀ (l : List Int) (k : Nat) (s : List Int), forL (specApplyDiffToIDs_f0 d) specApplyDiffToIDs_e0 l k s = .brk (putAll s (less l d.2.2))
  | [], k, s => rfl
  | a :: l, k, s => by
    simp only [forL, specApplyDiffToIDs_f0, cidS_eq]
    cases h : d.2.2.contains a with
    | true =>
      have e : less (a :: l) d.2.2 = less l d.2.2 := by
        show List.filter _ (a :: l) = _
        rw [List.filter_cons, h]; rfl
      rw [e]
      exact apply_f0 d l (k + 1) s
    | false =>
      have e : less (a :: l) d.2.2 = a :: less l d.2.2 := by
        show List.filter _ (a :: l) = _
        rw [List.filter_cons, h]; rfl
      rw [e, l07Put_eq]
      exact apply_f0 d l (k + 1) (putId s a)
theorem apply_f1 : ∀ (l : List Int) (k : Nat) (s : List Int), forL specApplyDiffToIDs_f1 specApplyDiffToIDs_e1 l k s = .brk (putAll s l)
  | [], k, s => rfl
  | a :: l, k, s => by
    simp only [forL, specApplyDiffToIDs_f1, l07Put_eq]
    exact apply_f1 l (k + 1) (putId s a)
theorem apply_eq (ids : List Int) (d : DiffD) : specApplyDiffToIDs ids d = implreplayed ids d.2.1 d.2.2 := by
  unfold specApplyDiffToIDs implreplayed
  rw [apply_f0]
  simp only [Out.on]
  rw [apply_f1]
  exact (replay1_eq ids d.2.1 d.2.2).symm
theorem replayed_len (ids a r : List Int) : List.length (implreplayed ids a r) ≤ List.length ids + List.length a := by
  unfold implreplayed
  have h1 := compI_len (sortI (less ids r ++ a))
  rw [sortI_len, List.length_append] at h1
  have h2 := less_len ids r
  omega
theorem apply_len (ids : List Int) (d : DiffD) : List.length (specApplyDiffToIDs ids d) ≤ List.length ids + List.length d.2.1 := by rw [apply_eq]; exact replayed_len ids d.2.1 d.2.2
open GoE (enc wide)
def implDiffIDs (a_ : (List Int)) (b : (List Int)) : (List Int) × (List Int) := ((less b a_), (less a_ b))
theorem implDiffIDs_a (a_ : (List Int)) (b : (List Int)) : ACalls Tryz.prog 76 [.h a_, .h b] (.tup [(false, [.o 0 (((implDiffIDs a_ b)).1)]), (false, [.o 1 (((implDiffIDs a_ b)).2)])]) := by
 refine en tt_ok Tryz.func76 fun w0 F0 hG => ?_
 refine sn tt_ok [0, 1, 4, 5] [] (p0) ?_
 refine wT 1 0 .sh b (fun hw1 hl2 => ?_)
 refine wT 0 0 .sh a_ (fun hw3 hl4 => ?_)
 refine tn tt_ok [4, 5] [] (pc 2 ((without_less hl2) ▸ implwithout_a b a_) (pc 5 ((without_less hl4) ▸ implwithout_a a_ b) p0)) ?_
 refine awp_ret ?_
 exact pz [] (show implDiffIDs a_ b = ((less b a_), (less a_ b)) from rfl) (fun z => .tup [(false, [.o 0 z.1]), (false, [.o 1 z.2])])
def specDiffIDs_f0 (a_ : (List Int)) (_ : Nat) (a0 : Int) (s0 : (List Int)) : Rd ((List Int) × (List Int)) ((List Int)) ((List Int)) := (bif (!(specContainsID a_ a0)) then (.next (s0 ++ [a0])) else (.next s0))
def specDiffIDs_e0 (_ : Nat) (s0 : (List Int)) : (List Int) := s0
def specDiffIDs_f1 (b : (List Int)) (_ : Nat) (a1 : Int) (s1 : (List Int)) : Rd ((List Int) × (List Int)) ((List Int)) ((List Int)) := (bif (!(specContainsID b a1)) then (.next (s1 ++ [a1])) else (.next s1))
def specDiffIDs_e1 (_ : Nat) (s1 : (List Int)) : (List Int) := s1
def specDiffIDs (a_ : (List Int)) (b : (List Int)) : (List Int) × (List Int) := (Out.on (forL (specDiffIDs_f0 a_) specDiffIDs_e0 b 0 []) (fun y0 => (Out.on (forL (specDiffIDs_f1 b) specDiffIDs_e1 a_ 0 []) (fun y1 => (y0, y1)))))
theorem specDiffIDs_a (a_ : (List Int)) (b : (List Int)) : ACalls Tryz.prog 79 [.h a_, .h b] (.tup [(false, [.o 0 (((specDiffIDs a_ b)).1)]), (false, [.o 1 (((specDiffIDs a_ b)).2)])]) := by
 refine en tt_ok Tryz.func79 fun w0 F0 hG => ?_
 refine sn tt_ok [0, 1, 4, 5] [] (p0) ?_
 refine tn tt_ok [0, 1, 4, 5, 6] [] (p0) ?_
 refine tu tt_ok [(4, .e 0), (5, .e 0), (6, .one (.slc (.own true 640) 1 [])), (7, .one (.slc (.own true 704) 1 []))] [] [] [] (p0) ?_
 refine awp_seq ?_
 refine su tt_ok [(8, .i 0)] [] [] [] (p0) ?_
 refine wT 1 0 .sh b (fun hw1 hl2 => ?_)
 refine blL1 (specDiffIDs_f0 a_) specDiffIDs_e0 b [] (fun k0 s0 => [(6, .o 147204 s0), (8, .i ((k0 : Nat) : Int))]) [6, 8] (fun y0 => [(6, .o 147354 y0)]) [6, 8] (fun k0 s0 => List.length s0 ≤ k0) (weak_sf [(640, 147204)] (by kernel_rfl)) (by simp) (fun k0 s0 hk0 hI0 => ?_) (fun k0 s0 hk0 hI0 => ?_) (fun y0 hD0 => ?_)
 ·
  have hA0_0 := hI0.2
  obtain ⟨a0, hx0⟩ := get_some (l := b) (i := k0) hk0
  refine awp_seq ?_
  refine su tt_ok [(15, .b true)] [] [] [] (pl 2 b (pe 3 (av_bool (decide_eq_true (p := ((k0 : Nat) : Int) < (b.length : Int)) (by omega))) p0)) ?_
  refine ckT ?_
  refine awp_skip ?_
  refine awp_seq ?_
  refine awp_block ?_
  refine sn tt_ok [0, 1, 4, 5, 6, 7, 8, 24] [] (pn 3 hx0 (pc 5 (specContainsID_a a_ a0) p0)) ?_
  refine ck (!(specContainsID a_ a0)) (fun h3 => ?_) (fun h3 => ?_)
  ·
   refine wT 6 0 (.own true 147204) s0 (fun hw4 hl5 => ?_)
   refine qu tt_ok [(6, .one (.slc (.own true 1984) 1 ((eL s0) ++ [[.i a0]])))] [6, 15] [] [] (pn 3 hx0 (pa s0 [a0] p0)) ?_
   refine eqn [(6, .o 1984 (s0 ++ [a0]))] [6] [] [] (by rw [show ((eL s0) ++ [[.i a0]]) = (eL (s0 ++ [a0])) from app_eL (rfl) (rfl)]; first | done | kernel_rfl) ?_
   refine rn tt_ok [0, 1, 4, 5, 6, 7, 8] [] (pe 1 (av_i (wrap_succ k0 (by omega))) p0) ?_
   exact Exists.intro (s0 ++ [a0]) (And.intro (weak_sf [(1984, 147204)] (by kernel_rfl)) ⟨forL_next hx0 (bif_t h3 (rfl)) hI0.1, by first | omega | (simp; omega) | simp⟩)
  ·
   refine awp_skip ?_
   refine qn tt_ok [0, 1, 4, 5, 6, 7, 8] [] (pe 1 (av_i (wrap_succ k0 (by omega))) p0) ?_
   exact Exists.intro s0 (And.intro (weak_fit (by kernel_rfl)) ⟨forL_next hx0 (bif_f h3 (rfl)) hI0.1, by first | omega | (simp; omega) | simp⟩)
 ·
  have hA0_0 := hI0.2
  refine awp_seq ?_
  refine su tt_ok [(15, .b false)] [] [] [] (pl 2 b (pe 3 (av_bool (decide_eq_false (p := ((k0 : Nat) : Int) < (b.length : Int)) (by omega))) p0)) ?_
  refine ckF ?_
  refine awp_exit ?_
  exact Exists.intro _ (And.intro (weak_sf [(147204, 147354)] (by kernel_rfl)) (forL_end hk0 (rfl) hI0.1))
 ·
  refine awp_seq ?_
  refine su tt_ok [(9, .i 0)] [] [] [] (p0) ?_
  refine wT 0 0 .sh a_ (fun hw6 hl7 => ?_)
  refine blL1 (specDiffIDs_f1 b) specDiffIDs_e1 a_ [] (fun k1 s1 => [(7, .o 147205 s1), (9, .i ((k1 : Nat) : Int))]) [7, 9] (fun y1 => [(7, .o 147355 y1)]) [0, 1, 7, 9] (fun k1 s1 => List.length s1 ≤ k1) (weak_sf [(704, 147205)] (by kernel_rfl)) (by simp) (fun k1 s1 hk1 hI1 => ?_) (fun k1 s1 hk1 hI1 => ?_) (fun y1 hD1 => ?_)
  ·
   have hA1_0 := hI1.2
   obtain ⟨a1, hx1⟩ := get_some (l := a_) (i := k1) hk1
   refine awp_seq ?_
   refine su tt_ok [(35, .b true)] [] [] [] (pl 2 a_ (pe 3 (av_bool (decide_eq_true (p := ((k1 : Nat) : Int) < (a_.length : Int)) (by omega))) p0)) ?_
   refine ckT ?_
   refine awp_skip ?_
   refine awp_seq ?_
   refine awp_block ?_
   refine sn tt_ok [0, 1, 4, 5, 6, 7, 9, 44] [] (pn 3 hx1 (pc 5 (specContainsID_a b a1) p0)) ?_
   refine ck (!(specContainsID b a1)) (fun h8 => ?_) (fun h8 => ?_)
   ·
    refine wT 7 0 (.own true 147205) s1 (fun hw9 hl10 => ?_)
    refine qu tt_ok [(7, .one (.slc (.own true 3264) 1 ((eL s1) ++ [[.i a1]])))] [7, 35] [] [] (pn 3 hx1 (pa s1 [a1] p0)) ?_
    refine eqn [(7, .o 3264 (s1 ++ [a1]))] [7] [] [] (by rw [show ((eL s1) ++ [[.i a1]]) = (eL (s1 ++ [a1])) from app_eL (rfl) (rfl)]; first | done | kernel_rfl) ?_
    refine rn tt_ok [0, 1, 4, 5, 6, 7, 9] [] (pe 1 (av_i (wrap_succ k1 (by omega))) p0) ?_
    exact Exists.intro (s1 ++ [a1]) (And.intro (weak_sf [(3264, 147205)] (by kernel_rfl)) ⟨forL_next hx1 (bif_t h8 (rfl)) hI1.1, by first | omega | (simp; omega) | simp⟩)
   ·
    refine awp_skip ?_
    refine qn tt_ok [0, 1, 4, 5, 6, 7, 9] [] (pe 1 (av_i (wrap_succ k1 (by omega))) p0) ?_
    exact Exists.intro s1 (And.intro (weak_fit (by kernel_rfl)) ⟨forL_next hx1 (bif_f h8 (rfl)) hI1.1, by first | omega | (simp; omega) | simp⟩)
  ·
   have hA1_0 := hI1.2
   refine awp_seq ?_
   refine su tt_ok [(35, .b false)] [] [] [] (pl 2 a_ (pe 3 (av_bool (decide_eq_false (p := ((k1 : Nat) : Int) < (a_.length : Int)) (by omega))) p0)) ?_
   refine ckF ?_
   refine awp_exit ?_
   exact Exists.intro _ (And.intro (weak_sf [(147205, 147355)] (by kernel_rfl)) (forL_end hk1 (rfl) hI1.1))
  ·
   refine sn tt_ok [4, 5] [] (p0) ?_
   refine awp_ret ?_
   exact pz [] (show specDiffIDs a_ b = _ from on_b hD0 (on_b hD1 (rfl))) (fun z => .tup [(false, [.o 0 z.1]), (false, [.o 1 z.2])])
end Go.Proofs.YtcnkkobgogmakaaGreat
namespace Go.Proofs.YtcnkkobgogmakaaGreat
open Go.RowKit
open GoE (enc wide)
end Go.Proofs.YtcnkkobgogmakaaGreat
namespace Go.Proofs.YtcnkkobgogmakaaGreat
open Go.RowKit
theorem less_eq {R : Type} {f : Nat → Int → List Int → Rd R (List Int) (List Int)} {e : Nat → List Int → List Int} {b : List Int} (hf : ∀ k a s, f k a s = bif (!(specContainsID b a)) then .next (s ++ [a]) else .next s) (he : ∀ k s, e k s = s) (l : List Int) : forL f e l 0 [] = .brk (less l b) := by
  rw [forL_filter (p := fun x => !b.contains x) (g := fun x => x) (fun k a s => by rw [hf, cidS_eq])]
  rw [he, List.nil_append, List.map_id']
  rfl
theorem diffIDs_eq (a b : List Int) : specDiffIDs a b = implDiffIDs a b := by
  unfold specDiffIDs implDiffIDs
  rw [less_eq (f := specDiffIDs_f0 a) (e := specDiffIDs_e0) (b := a) (fun _ _ _ => rfl) (fun _ _ => rfl), less_eq (f := specDiffIDs_f1 b) (e := specDiffIDs_e1) (b := b) (fun _ _ _ => rfl) (fun _ _ => rfl)]
  rfl
end Go.Proofs.YtcnkkobgogmakaaGreat
namespace Go.Proofs.YtcnkkobgogmakaaGreat
open Go.RowKit
theorem ids14_len (code : List UInt8) (ci : Nat) (ch : Int) : (specl14Ids code ci ch).1.length ≤ 7 := by
  unfold specl14Ids
  obtain ⟨s', h1, h2⟩ := forN_inv (f := specl14Ids_f0 code) (e := specl14Ids_e0) (I := fun k s => s.1.length ≤ k) (fun k s hi => by
    unfold specl14Ids_f0 lt
    generalize specl01Once code s.2.1 s.2.2 2 = x
    dsimp only
    cases x.1 with
    | true => exact ⟨(s.1 ++ [((k + 1 : Nat) : Int)], x.2.1, x.2.2), rfl, by simp; omega⟩
    | false => exact ⟨(s.1, x.2.1, x.2.2), rfl, Nat.le_succ_of_le hi⟩) 7 0 ([], ci, ch) (Nat.zero_le _)
  have h1 : forN (specl14Ids_f0 code) specl14Ids_e0 (Int.toNat ((8 : Int) - 1)) 0 ([], ci, ch) = _ := h1
  rw [h1]
  exact h2
/-! ### a watch that is looked through -/
open GoE (enc wide)
def specDrawPlaces_f0 (code : (List UInt8)) (_ : Nat) (s0 : (List Int) × Nat × Int) : Rd ((List Int)) ((List Int) × Nat × Int) ((List Int)) := (lt (α := Int × Nat × Int) (specl01Below code s0.2.1 s0.2.2 10000) (fun x2 => (.next (s0.1 ++ [x2.1], x2.2.1, x2.2.2))))
def specDrawPlaces_e0 (_ : Nat) (s0 : (List Int) × Nat × Int) : (List Int) := s0.1
def specDrawPlaces (code : (List UInt8)) : (List Int) := (lt (α := Nat × Int) (specl01New code) (fun x1 => (Out.on (forN (specDrawPlaces_f0 code) specDrawPlaces_e0 (Int.toNat (12 : Int)) 0 ([], x1.1, x1.2)) (fun y0 => y0))))
theorem specDrawPlaces_a (code : (List UInt8)) : ACalls Tryz.prog 9 [.h code] (.o 0 (specDrawPlaces code)) := by
 refine en tt_ok Tryz.func9 fun w0 F0 hG => ?_
 refine sn tt_ok [0, 2] [] (p0) ?_
 obtain ⟨x1, hx1⟩ : ∃ z : Nat × Int, specl01New code = z := ⟨_, rfl⟩
 refine tn tt_ok [2, 3] [7] (po 1 (.new [.h code, .i ((x1.1 : Nat) : Int), .i x1.2]) (px (ob_new (hx1 ▸ specl01New_a code)) p0)) ?_
 refine tu tt_ok [(2, .e 0), (3, .p 7 0), (4, .one (.slc (.own true 512) 1 []))] [0] [(7, [.h code, .i ((x1.1 : Nat) : Int), .i x1.2])] [] (p0) ?_
 refine awp_seq ?_
 refine sn tt_ok [2, 3, 4, 5] [7] (p0) ?_
 refine mz [(5, .i 0)] [] [] [] ?_
 refine blN1b (specDrawPlaces_f0 code) specDrawPlaces_e0 (Int.toNat (12 : Int)) ([], x1.1, x1.2) (fun k0 s0 => [(4, .o 147202 s0.1), (5, .i ((k0 : Nat) : Int))]) [4, 5] (fun _ s0 => [(7, [.h code, .i ((s0.2.1 : Nat) : Int), .i s0.2.2])]) [7] (fun y0 => [(4, .o 147352 y0)]) [3, 4, 5] (fun _ => []) [7] (fun k0 s0 => List.length s0.1 ≤ k0) (weak_sf [(512, 147202)] (by kernel_rfl)) (by simp) (fun k0 s0 hk0 hI0 => ?_) (fun k0 s0 hk0 hI0 => ?_) (fun y0 hD0 => ?_)
 ·
  have hA0_0 := hI0.2
  refine awp_seq ?_
  refine sn tt_ok [2, 3, 4, 5, 10] [7] (pe 1 (av_bool (decide_eq_true (p := ((k0 : Nat) : Int) < (12 : Int)) (by omega))) p0) ?_
  refine ckT ?_
  refine awp_skip ?_
  refine awp_seq ?_
  refine awp_block ?_
  obtain ⟨x2, hx2⟩ : ∃ z : Int × Nat × Int, specl01Below code s0.2.1 s0.2.2 10000 = z := ⟨_, rfl⟩
  have hbx2 := hx2 ▸ specl01Below_bd code s0.2.1 s0.2.2 10000
  refine wT 4 0 (.own true 147202) s0.1 (fun hw3 hl4 => ?_)
  refine qu tt_ok [(4, .one (.slc (.own true 1088) 1 ((eL s0.1) ++ [[.i x2.1]])))] [4] [(7, [.h code, .i ((x2.2.1 : Nat) : Int), .i x2.2.2])] [7] (po 2 (.give none (.i x2.1) [.h code, .i ((x2.2.1 : Nat) : Int), .i x2.2.2]) (px (ob_give (hx2 ▸ specl01Below_a code s0.2.1 s0.2.2 10000)) (pa s0.1 [x2.1] p0))) ?_
  refine eqn [(4, .o 1088 (s0.1 ++ [x2.1]))] [4] [] [] (by rw [show ((eL s0.1) ++ [[.i x2.1]]) = (eL (s0.1 ++ [x2.1])) from app_eL (rfl) (rfl)]; first | done | kernel_rfl) ?_
  refine rn tt_ok [2, 3, 4, 5] [7] (pe 1 (av_i (wrap_succ k0 (by omega))) p0) ?_
  exact Exists.intro (s0.1 ++ [x2.1], x2.2.1, x2.2.2) (And.intro (weak_sf [(1088, 147202)] (by kernel_rfl)) ⟨forN_next hk0 (lt_b hx2 (rfl)) hI0.1, by first | omega | (simp; omega) | simp⟩)
 ·
  have hA0_0 := hI0.2
  refine awp_seq ?_
  refine sn tt_ok [2, 3, 4, 5, 10] [7] (pe 1 (av_bool (decide_eq_false (p := ((k0 : Nat) : Int) < (12 : Int)) (by omega))) p0) ?_
  refine ckF ?_
  refine awp_exit ?_
  exact Exists.intro _ (And.intro (weak_sf [(147202, 147352)] (by kernel_rfl)) (forN_end hk0 (rfl) hI0.1))
 ·
  refine sn tt_ok [2] [] (p0) ?_
  refine awp_ret ?_
  exact po0 [] (lt_b hx1 (on_b hD0 (rfl)))
end Go.Proofs.YtcnkkobgogmakaaGreat
namespace Go.Proofs.YtcnkkobgogmakaaGreat
open Go.RowKit
theorem places_go (code : List UInt8) : ∀ (n k : Nat) (s : List Int × Nat × Int), s.1.length = k → (∀ x, x ∈ s.1 → 0 ≤ x ∧ x < 10000) → ∃ t, forN (specDrawPlaces_f0 code) specDrawPlaces_e0 n k s = .brk t ∧ t.length = k + n ∧ ∀ x, x ∈ t → 0 ≤ x ∧ x < 10000
  | 0, k, s, h, hb => ⟨s.1, rfl, h, hb⟩
  | n + 1, k, s, h, hb => by
    simp only [forN, specDrawPlaces_f0, lt]
    have hd := specl01Below_bd code s.2.1 s.2.2 10000
    obtain ⟨t, h1, h2, h3⟩ := places_go code n (k + 1) (s.1 ++ [(specl01Below code s.2.1 s.2.2 10000).1], (specl01Below code s.2.1 s.2.2 10000).2.1, (specl01Below code s.2.1 s.2.2 10000).2.2) (by simp [h]) (fun x hx => by
      rcases List.mem_append.1 hx with hx | hx
      · exact hb x hx
      · obtain rfl := List.mem_singleton.1 hx
        exact ⟨hd.1, hd.2.1 (by decide)⟩)
    exact ⟨t, h1, by omega, h3⟩
theorem places_ok (code : List UInt8) : (specDrawPlaces code).length = 12 ∧ ∀ x, x ∈ specDrawPlaces code → 0 ≤ x ∧ x < 10000 := by
  unfold specDrawPlaces lt
  obtain ⟨t, h1, h2, h3⟩ := places_go code (Int.toNat (12 : Int)) 0 ([], (specl01New code).1, (specl01New code).2) rfl (fun x hx => by simp at hx)
  simp only [h1, Out.on]
  exact ⟨by simpa using h2, h3⟩
theorem places_len (code : List UInt8) : (specDrawPlaces code).length = 12 := (places_ok code).1
theorem places_bd (code : List UInt8) : ∀ x, x ∈ specDrawPlaces code → 0 ≤ x ∧ x < 10000 := (places_ok code).2
theorem place_mod (code : List UInt8) (i : Nat) (hi : i < 12) {m : Int} (hm : 0 < m) : (0 ≤ nth (specDrawPlaces code) i ∧ nth (specDrawPlaces code) i < 10000) ∧ 0 ≤ Int.tmod (nth (specDrawPlaces code) i) m ∧ Int.tmod (nth (specDrawPlaces code) i) m < m := by
  have h := places_bd code _ (List.mem_of_getElem? (nth_get (l := specDrawPlaces code) (i := i) (by rw [places_len]; exact hi)))
  exact ⟨h, Int.tmod_nonneg _ h.1, Int.tmod_lt_of_pos _ hm⟩
open GoE (enc wide)
set_option maxRecDepth 100000 in
set_option maxHeartbeats 4000000 in
theorem insDiff_run (w : World) (oa : Option Addr) (m cap : Nat) (olds : List Value) (i vb voff vc : Nat) (vs : List Value) (hR : RowAt w 3 oa m cap olds) (hO : OneAt w 3 oa cap vb voff vs) (hi : i ≤ m) : Calls Tryz.prog 92 #[.slice oa m cap, .int .i64 (i : Int), .slice (some ⟨vb, voff, none⟩) 1 vc] w (InsTo w 3 i oa m cap olds vs) := by
  have hei := ttOk_get tt_ok (t := 95) rfl
  have hu := (ttOk_get tt_ok (t := 82) rfl).sli
  have hui := run_underlying (P := Tryz.prog) hu
  have hsz : ∀ w, (Go.sizeOf 95).run Tryz.prog w = .ok 3 w := fun w => sizeOf_run (ttOk_get tt_ok (t := 95) rfl) w
  have hlim := hR.lim
  have hle := hR.le
  have hcm : cap ≤ 9223372036854775807 := by have := hR.cap; unfold maxLen at this; omega
  have mixed := tt_mx
  have hz1 : ¬ ((1 : Int) = 0) := by omega
  by_cases him : i = m
  · subst him
    obtain ⟨u, w', hrun, u', h1, hT⟩ := road_end (vc := vc) hu hei (by decide) hR hO
    cases h1
    have hc : Calls Tryz.prog 92 #[.slice oa i cap, .int .i64 (i : Int), .slice (some ⟨vb, voff, none⟩) 1 vc] w (fun e w2 => e = .returned u ∧ w2 = w') := by
      clear hT hR hO hei
      go_enter Tryz.func92, Tryz.ntmps92
      cases oa with
      | none =>
        go_wp2_with (at_builtin; refine Lib.wpList_append_run _ rfl _ _ _ _ rfl _ _ rfl rfl _ _ (hrun _) ?_)
        all_goals (go_ret; exact ⟨rfl, rfl⟩)
      | some a =>
        obtain ⟨ab, ao, asp⟩ := a
        go_wp2_with (at_builtin; refine Lib.wpList_append_run _ rfl _ _ _ _ rfl _ _ rfl rfl _ _ (hrun _) ?_)
        all_goals (go_ret; exact ⟨rfl, rfl⟩)
    exact hc.mono (by rintro e w2 ⟨rfl, rfl⟩; exact ⟨_, rfl, hT⟩)
  · rcases hR.row with ⟨_, h0, _⟩ | ⟨g, cur, e0, rfl, hg, hcs, htk⟩
    · omega
    have him2 : i < m := by omega
    have hz2 : ¬ ((i : Int) = (m : Int)) := by omega
    have hw1 : IntKind.i64.wrap ((m : Int) + 1) = (m : Int) + 1 := by rw [IntKind.wrap_i64]; omega
    have hw2 : IntKind.i64.wrap ((i : Int) + 1) = (i : Int) + 1 := by rw [IntKind.wrap_i64]; omega
    have htn : ((i : Int) + 1).toNat = i + 1 := by omega
    have htm : ((m : Int) + 1).toNat = m + 1 := by omega
    have hb1 : (0 : Int) ≤ (i : Int) + 1 := by omega
    have hb3 : (i : Int) ≤ (m : Int) + 1 := by omega
    have hbm : (0 : Int) ≤ (m : Int) + 1 := by omega
    have hin : i ≤ m := hi
    obtain ⟨hvw, arrA, tA, frA, hA, hposA⟩ := hO.block (by decide)
    have hcp : 0 < cap := by omega
    have hvg : vb ≠ g := hO.ne g rfl hcp
    have hov : ∀ o lb cb, (callFunc 139 #[.slice (some ⟨vb, voff, none⟩) 1 vc, .slice (some ⟨g, o, none⟩) lb cb]).run Tryz.prog w = .ok (.value (.bool false)) w := fun o lb cb => by
      rw [run_callFunc_extern Tryz.func139 (by kernel_rfl) (by kernel_rfl) (by kernel_rfl) (e := Extern.SlicesOverlaps.overlaps #[82, 82] #[4]) (by kernel_rfl), overlaps_run w 82 4 95 hu 3 hsz ⟨vb, voff, none⟩ ⟨g, o, none⟩ 1 vc lb cb hvg hA hg (by omega) hposA]
      rfl
    by_cases hroom : m + 1 ≤ cap
    · obtain ⟨q1, q2, q3⟩ := road_room (vc := vc) (w := w) hu hei (by decide) hg hcs htk hR hO him2 hroom
      have hb2 : ¬ (cap = i + 1) := by omega
      have hb4 : ¬ (cap = i) := by omega
      have hng : ¬ ((cap : Int) < (m : Int) + 1) := by omega
      have hmc : ((m : Int) + 1) ≤ (cap : Int) := by omega
      have hc : Calls Tryz.prog 92 #[.slice (some ⟨g, 0, none⟩) m cap, .int .i64 (i : Int), .slice (some ⟨vb, voff, none⟩) 1 vc] w (fun e w2 => e = .returned (.slice (some ⟨g, 0, none⟩) (m + 1) cap) ∧ w2 = (w.drew.setCells g ((i + 1) * 3) (olds.drop (i * 3))).setCells g (i * 3) vs) := by
        obtain ⟨q4, q5, q6⟩ := road_room (vc := vc) (w := w.drew) hu hei (by decide) hg hcs htk ⟨hR.len, hR.row, hR.le, hR.cap, hR.lim, hR.ones⟩ ⟨hO.len, hO.cells, hO.ones, hO.ne⟩ him2 hroom
        clear hR hO hei q1 q2 q3 q6 hg hA hcs htk
        go_enter Tryz.func92, Tryz.ntmps92
        go_wp2_with (simp only [hov])
        go_region_law (refine step_copy_rn rfl _ _ 82 82 rfl (.slice (some ⟨g, (i + 1) * 3, none⟩) (m + 1 - (i + 1)) (cap - (i + 1))) (.slice (some ⟨g, i * 3, none⟩) (m + 1 - i) (cap - i)) (by simp [Act.eval, Act.put]) (by simp [Act.eval, Act.put]) (q4 _ _ _) ?_)
        go_wp2_with (at_builtin; refine wpList_copy_rn rfl _ _ 82 82 rfl (.slice (some ⟨g, i * 3, none⟩) (m + 1 - i) (cap - i)) _ (by simp [Act.eval, Act.put]) rfl (q5 _ rfl _ _) ?_)
        go_ret
        exact ⟨rfl, rfl⟩
      refine hc.mono ?_
      rintro e w2 ⟨rfl, rfl⟩
      obtain ⟨p1, p2, p3⟩ := heap_os_setCells g (olds.drop (i * 3)) ((i + 1) * 3) w.drew
      exact q3 _ (heap_drew_setCells g _ _ w) p1 p2 p3
    · obtain ⟨G, W1, hG1, hG2, qa, qb, qc, qd, o1, o2, o3⟩ := road_grow (vc := vc) (tn := 3) hu (by kernel_rfl) hei (by decide) hg hcs htk hR hO hvw him2 (by omega)
      have hG63 : G ≤ 9223372036854775807 := by unfold maxLen at hG2; omega
      have hGi : ¬ (G = i) := by omega
      have hGim : ¬ (G = i + 1) := by omega
      have hci : ¬ (cap = i) := by omega
      have hlt : (cap : Int) < (m : Int) + 1 := by omega
      have hw3 : IntKind.i64.wrap ((m : Int) + 1 - (i : Int)) = (m : Int) + 1 - (i : Int) := by rw [IntKind.wrap_i64]; omega
      have hii : (i : Int) ≤ (m : Int) := by omega
      have hqa : ∀ ty, (Builtin.append_ #[82, 3] ty #[.slice (some ⟨g, 0, none⟩) i cap, .int .i64 ((m : Int) + 1 - (i : Int))]).run Tryz.prog w = .ok (.slice (some ⟨w.heap.size, 0, none⟩) (m + 1) G) W1 := fun ty => qa ty _ (by omega)
      have hqb := qb W1 rfl
      have hqc := qc (W1.setCells w.heap.size (i * 3) vs).drew rfl
      have hc : Calls Tryz.prog 92 #[.slice (some ⟨g, 0, none⟩) m cap, .int .i64 (i : Int), .slice (some ⟨vb, voff, none⟩) 1 vc] w (fun e w2 => e = .returned (.slice (some ⟨w.heap.size, 0, none⟩) (m + 1) G) ∧ w2 = (W1.setCells w.heap.size (i * 3) vs).drew.setCells w.heap.size ((i + 1) * 3) (olds.drop (i * 3))) := by
        clear hR hO hei qa qb qc qd hg hA hcs htk hov hG1 hG2
        go_enter Tryz.func92, Tryz.ntmps92
        go_wp2_with (first
          | (at_builtin; refine Lib.wpList_append_run _ rfl _ _ _ _ rfl _ _ rfl rfl _ _ (hqa _) ?_)
          | (at_builtin; refine wpList_copy_rn rfl _ _ 82 82 rfl (.slice (some ⟨w.heap.size, i * 3, none⟩) (m + 1 - i) (G - i)) _ (by simp [Act.eval, Act.put]) rfl (hqb _ _) ?_))
        go_region_law (refine step_copy_rn rfl _ _ 82 82 rfl (.slice (some ⟨w.heap.size, (i + 1) * 3, none⟩) (m + 1 - (i + 1)) (G - (i + 1))) (.slice (some ⟨g, i * 3, none⟩) (m - i) (cap - i)) (by simp [Act.eval, Act.put]) (by simp [Act.eval, Act.put]) (hqc _ _ _) ?_)
        go_wp2
        go_ret
        exact ⟨rfl, rfl⟩
      refine hc.mono ?_
      rintro e w2 ⟨rfl, rfl⟩
      obtain ⟨p1, p2, p3⟩ := heap_os_setCells w.heap.size vs (i * 3) W1
      exact qd _ rfl (p1.trans o1) (p2.trans o2) (p3.trans o3)
theorem insDiff_a (l : List DiffD) (y : DiffD) {i : Int} (hi : 0 ≤ i) (hj : i ≤ l.length) (hl : l.length < 1073741824) : ATake Tryz.prog 92 3 (eL l) [.one (.int .i64 i), .one (.slc .sh 3 (eL [y]))] true false (eL (insAt l i.toNat y)) :=
 atake_insT (by unfold FnOk; kernel_rfl) (by decide) (fun w oa m cap olds i vb voff vc vs => insDiff_run w oa m cap olds i vb voff vc vs) l y hi hj hl
def implApplyDiffToIDs (ids : (List Int)) (d : DiffD) : (List Int) := (implreplayed ids d.2.1 d.2.2)
theorem implApplyDiffToIDs_a (ids : (List Int)) (d : DiffD) (hp : List.length ids + List.length d.2.1 ≤ 536870912) : ACalls Tryz.prog 90 [.h ids, .a [.s d.1, .h d.2.1, .h d.2.2]] (.o 0 (implApplyDiffToIDs ids d)) := by
 refine en tt_ok Tryz.func90 fun w0 F0 hG => ?_
 refine sn tt_ok [0, 3, 4] [3] (p0) ?_
 refine tn tt_ok [4] [] (pc 5 (implreplayed_a ids d.2.1 d.2.2 hp) p0) ?_
 refine awp_ret ?_
 exact po0 [] (show implApplyDiffToIDs ids d = (implreplayed ids d.2.1 d.2.2) from rfl)
def implcopyResults_f0 (_ : Nat) (a0 : ResultD) (s0 : (List ResultD)) : Rd ((List ResultD)) ((List ResultD)) ((List ResultD)) := (.next (s0 ++ [a0]))
def implcopyResults_e0 (_ : Nat) (s0 : (List ResultD)) : (List ResultD) := s0
def implcopyResults (r : (List ResultD)) : (List ResultD) := (Out.on (forL implcopyResults_f0 implcopyResults_e0 r 0 []) (fun y0 => y0))
theorem implcopyResults_a (r : (List ResultD)) : ACalls Tryz.prog 89 [.h r] (.o 0 (implcopyResults r)) := by
 refine en tt_ok Tryz.func89 fun w0 F0 hG => ?_
 refine sn tt_ok [0, 2] [] (p0) ?_
 refine tn tt_ok [0, 2, 3] [] (p0) ?_
 refine awp_seq ?_
 refine tu tt_ok [(2, .e 0), (3, .one (.slc (.own true 384) 2 [])), (7, .h r), (8, .i (r.length : Int)), (9, .i 0)] [0] [] [] (pl 1 r p0) ?_
 refine wT 7 0 .sh r (fun hw1 hl2 => ?_)
 refine blL1 implcopyResults_f0 implcopyResults_e0 r [] (fun k0 s0 => [(3, .o 147201 s0), (9, .i ((k0 : Nat) : Int))]) [3, 9] (fun y0 => [(3, .o 147351 y0)]) [3, 7, 8, 9] (fun k0 s0 => List.length s0 ≤ k0) (weak_sf [(384, 147201)] (by kernel_rfl)) (by simp) (fun k0 s0 hk0 hI0 => ?_) (fun k0 s0 hk0 hI0 => ?_) (fun y0 hD0 => ?_)
 ·
  have hA0_0 := hI0.2
  obtain ⟨a0, hx0⟩ := get_some (l := r) (i := k0) hk0
  refine sn tt_ok [2, 3, 7, 8, 9, 10] [] (pe 0 (av_bool (decide_eq_true (p := ((k0 : Nat) : Int) < (r.length : Int)) (by omega))) p0) ?_
  refine awp_seq ?_
  refine ckT ?_
  refine awp_skip ?_
  refine awp_seq ?_
  refine awp_block ?_
  refine tn tt_ok [2, 3, 5, 7, 8, 9] [5] (pn 0 hx0 p0) ?_
  refine wT 3 0 (.own true 147201) s0 (fun hw3 hl4 => ?_)
  refine qU tt_ok tt_mx [(3, .one (.slc (.own true 1344) 2 ((eL s0) ++ [[.s a0.1, .h a0.2]])))] [3] [] [] (pc 5 (cloneInt_a a0.2) (pa s0 [a0] p0)) ?_
  refine eqn [(3, .o 1344 (s0 ++ [a0]))] [3] [] [] (by rw [show ((eL s0) ++ [[.s a0.1, .h a0.2]]) = (eL (s0 ++ [a0])) from app_eL (rfl) (rfl)]; first | done | kernel_rfl) ?_
  refine rn tt_ok [2, 3, 7, 8, 9] [] (pe 0 (av_i (wrap_succ k0 (by omega))) p0) ?_
  exact Exists.intro (s0 ++ [a0]) (And.intro (weak_sf [(1344, 147201)] (by kernel_rfl)) ⟨forL_next hx0 (rfl) hI0.1, by first | omega | (simp; omega) | simp⟩)
 ·
  have hA0_0 := hI0.2
  refine sn tt_ok [2, 3, 7, 8, 9, 10] [] (pe 0 (av_bool (decide_eq_false (p := ((k0 : Nat) : Int) < (r.length : Int)) (by omega))) p0) ?_
  refine awp_seq ?_
  refine ckF ?_
  refine awp_exit ?_
  exact Exists.intro _ (And.intro (weak_sf [(147201, 147351)] (by kernel_rfl)) (forL_end hk0 (rfl) hI0.1))
 ·
  refine sn tt_ok [2] [] (p0) ?_
  refine awp_ret ?_
  exact po0 [] (on_b hD0 (rfl))
def implDiffResults_f0 (a_ : (List ResultD)) (_ : Nat) (a0 : ResultD) (s0 : (List DiffD)) : Rd ((List DiffD)) ((List DiffD)) ((List DiffD)) := (bif decide (IntKind.i64.wrap (((((implDiffIDs (implResultIDs a_ a0.1) a0.2)).1).length : Int) + ((((implDiffIDs (implResultIDs a_ a0.1) a0.2)).2).length : Int)) > (0 : Int)) then (.next (s0 ++ [(a0.1, ((implDiffIDs (implResultIDs a_ a0.1) a0.2)).1, ((implDiffIDs (implResultIDs a_ a0.1) a0.2)).2)])) else (.next s0))
def implDiffResults_e0 (_ : Nat) (s0 : (List DiffD)) : (List DiffD) := s0
def implDiffResults (a_ : (List ResultD)) (b : (List ResultD)) : (List DiffD) := (Out.on (forL (implDiffResults_f0 a_) implDiffResults_e0 b 0 []) (fun y0 => y0))
theorem implDiffResults_a (a_ : (List ResultD)) (b : (List ResultD)) : ACalls Tryz.prog 37 [.h a_, .h b] (.o 0 (implDiffResults a_ b)) := by
 refine en tt_ok Tryz.func37 fun w0 F0 hG => ?_
 refine sn tt_ok [0, 1, 4] [] (p0) ?_
 refine tn tt_ok [0, 1, 4, 5] [] (p0) ?_
 refine awp_seq ?_
 refine tu tt_ok [(4, .e 0), (5, .one (.slc (.own true 640) 3 [])), (11, .h b), (12, .i (b.length : Int)), (13, .i 0)] [1] [] [] (pl 1 b p0) ?_
 refine wT 11 0 .sh b (fun hw1 hl2 => ?_)
 refine blL1 (implDiffResults_f0 a_) implDiffResults_e0 b [] (fun k0 s0 => [(5, .o 147202 s0), (13, .i ((k0 : Nat) : Int))]) [5, 13] (fun y0 => [(5, .o 147352 y0)]) [0, 5, 11, 12, 13] (fun k0 s0 => List.length s0 ≤ k0) (weak_sf [(640, 147202)] (by kernel_rfl)) (by simp) (fun k0 s0 hk0 hI0 => ?_) (fun k0 s0 hk0 hI0 => ?_) (fun y0 hD0 => ?_)
 ·
  have hA0_0 := hI0.2
  obtain ⟨a0, hx0⟩ := get_some (l := b) (i := k0) hk0
  refine su tt_ok [(14, .b true)] [] [] [] (pe 0 (av_bool (decide_eq_true (p := ((k0 : Nat) : Int) < (b.length : Int)) (by omega))) p0) ?_
  refine awp_seq ?_
  refine ckT ?_
  refine awp_skip ?_
  refine awp_seq ?_
  refine awp_block ?_
  refine sn tt_ok [0, 4, 5, 7, 11, 12, 13] [7] (pn 0 hx0 p0) ?_
  refine tN tt_ok tt_mx [0, 4, 5, 7, 8, 9, 11, 12, 13] [7] (pc 3 (implResultIDs_a a_ a0.1) (pc 6 (implDiffIDs_a (implResultIDs a_ a0.1) a0.2) p0)) ?_
  refine tu tt_ok [(7, .p 7 0), (8, .o 1536 (((implDiffIDs (implResultIDs a_ a0.1) a0.2)).1)), (9, .o 1537 (((implDiffIDs (implResultIDs a_ a0.1) a0.2)).2)), (32, .b (decide (IntKind.i64.wrap (((((implDiffIDs (implResultIDs a_ a0.1) a0.2)).1).length : Int) + ((((implDiffIDs (implResultIDs a_ a0.1) a0.2)).2).length : Int)) > (0 : Int))))] [14] [(7, [.s a0.1, .h a0.2])] [] (pl 1 (((implDiffIDs (implResultIDs a_ a0.1) a0.2)).1) (pl 3 (((implDiffIDs (implResultIDs a_ a0.1) a0.2)).2) p0)) ?_
  refine ck (decide (IntKind.i64.wrap (((((implDiffIDs (implResultIDs a_ a0.1) a0.2)).1).length : Int) + ((((implDiffIDs (implResultIDs a_ a0.1) a0.2)).2).length : Int)) > (0 : Int))) (fun h3 => ?_) (fun h3 => ?_)
  ·
   have h3d := of_decide_eq_true h3
   refine wT 5 0 (.own true 147202) s0 (fun hw4 hl5 => ?_)
   refine ru tt_ok [(5, .one (.slc (.own true 2560) 3 ((eL s0) ++ [[.s a0.1, .h (((implDiffIDs (implResultIDs a_ a0.1) a0.2)).1), .h (((implDiffIDs (implResultIDs a_ a0.1) a0.2)).2)]])))] [5, 7, 8, 9, 32] [] [7] (pa s0 [(a0.1, ((implDiffIDs (implResultIDs a_ a0.1) a0.2)).1, ((implDiffIDs (implResultIDs a_ a0.1) a0.2)).2)] p0) ?_
   refine eqn [(5, .o 2560 (s0 ++ [(a0.1, ((implDiffIDs (implResultIDs a_ a0.1) a0.2)).1, ((implDiffIDs (implResultIDs a_ a0.1) a0.2)).2)]))] [5] [] [] (by rw [show ((eL s0) ++ [[.s a0.1, .h (((implDiffIDs (implResultIDs a_ a0.1) a0.2)).1), .h (((implDiffIDs (implResultIDs a_ a0.1) a0.2)).2)]]) = (eL (s0 ++ [(a0.1, ((implDiffIDs (implResultIDs a_ a0.1) a0.2)).1, ((implDiffIDs (implResultIDs a_ a0.1) a0.2)).2)])) from app_eL (rfl) (rfl)]; first | done | kernel_rfl) ?_
   refine rn tt_ok [0, 4, 5, 11, 12, 13] [] (pe 0 (av_i (wrap_succ k0 (by omega))) p0) ?_
   exact Exists.intro (s0 ++ [(a0.1, ((implDiffIDs (implResultIDs a_ a0.1) a0.2)).1, ((implDiffIDs (implResultIDs a_ a0.1) a0.2)).2)]) (And.intro (weak_sf [(2560, 147202)] (by kernel_rfl)) ⟨forL_next hx0 (bif_t h3 (rfl)) hI0.1, by first | omega | (simp; omega) | simp⟩)
  ·
   have h3d := of_decide_eq_false h3
   refine awp_skip ?_
   refine rn tt_ok [0, 4, 5, 11, 12, 13] [] (pe 0 (av_i (wrap_succ k0 (by omega))) p0) ?_
   exact Exists.intro s0 (And.intro (weak_fit (by kernel_rfl)) ⟨forL_next hx0 (bif_f h3 (rfl)) hI0.1, by first | omega | (simp; omega) | simp⟩)
 ·
  have hA0_0 := hI0.2
  refine su tt_ok [(14, .b false)] [] [] [] (pe 0 (av_bool (decide_eq_false (p := ((k0 : Nat) : Int) < (b.length : Int)) (by omega))) p0) ?_
  refine awp_seq ?_
  refine ckF ?_
  refine awp_exit ?_
  exact Exists.intro _ (And.intro (weak_sf [(147202, 147352)] (by kernel_rfl)) (forL_end hk0 (rfl) hI0.1))
 ·
  refine sn tt_ok [4] [] (p0) ?_
  refine awp_ret ?_
  exact po0 [] (on_b hD0 (rfl))
def specDiffResults_f0 (a_ : (List ResultD)) (_ : Nat) (a0 : ResultD) (s0 : (List DiffD)) : Rd ((List DiffD)) ((List DiffD)) ((List DiffD)) := (bif (decide (((((specDiffIDs (specResultIDs a_ a0.1) a0.2)).1).length : Int) > (0 : Int)) || decide (((((specDiffIDs (specResultIDs a_ a0.1) a0.2)).2).length : Int) > (0 : Int))) then (.next (s0 ++ [(a0.1, ((specDiffIDs (specResultIDs a_ a0.1) a0.2)).1, ((specDiffIDs (specResultIDs a_ a0.1) a0.2)).2)])) else (.next s0))
def specDiffResults_e0 (_ : Nat) (s0 : (List DiffD)) : (List DiffD) := s0
def specDiffResults (a_ : (List ResultD)) (b : (List ResultD)) : (List DiffD) := (Out.on (forL (specDiffResults_f0 a_) specDiffResults_e0 b 0 []) (fun y0 => y0))
theorem specDiffResults_a (a_ : (List ResultD)) (b : (List ResultD)) : ACalls Tryz.prog 42 [.h a_, .h b] (.o 0 (specDiffResults a_ b)) := by
 refine en tt_ok Tryz.func42 fun w0 F0 hG => ?_
 refine sn tt_ok [0, 1, 4] [] (p0) ?_
 refine tn tt_ok [0, 1, 4, 5] [] (p0) ?_
 refine awp_seq ?_
 refine tu tt_ok [(4, .e 0), (5, .one (.slc (.own true 576) 3 [])), (6, .i 0)] [] [] [] (p0) ?_
 refine wT 1 0 .sh b (fun hw1 hl2 => ?_)
 refine blL1 (specDiffResults_f0 a_) specDiffResults_e0 b [] (fun k0 s0 => [(5, .o 147203 s0), (6, .i ((k0 : Nat) : Int))]) [5, 6] (fun y0 => [(5, .o 147353 y0)]) [0, 1, 5, 6] (fun k0 s0 => List.length s0 ≤ k0) (weak_sf [(576, 147203)] (by kernel_rfl)) (by simp) (fun k0 s0 hk0 hI0 => ?_) (fun k0 s0 hk0 hI0 => ?_) (fun y0 hD0 => ?_)
 ·
  have hA0_0 := hI0.2
  obtain ⟨a0, hx0⟩ := get_some (l := b) (i := k0) hk0
  refine awp_seq ?_
  refine sn tt_ok [0, 1, 4, 5, 6, 13] [] (pl 2 b (pe 3 (av_bool (decide_eq_true (p := ((k0 : Nat) : Int) < (b.length : Int)) (by omega))) p0)) ?_
  refine ckT ?_
  refine awp_skip ?_
  refine awp_seq ?_
  refine awp_block ?_
  refine tN tt_ok tt_mx [0, 1, 4, 5, 6, 7, 8] [] (pn 3 hx0 (pc 6 (specResultIDs_a a_ a0.1) (pn 9 hx0 (pc 12 (specDiffIDs_a (specResultIDs a_ a0.1) a0.2) p0)))) ?_
  refine awp_seq ?_
  refine mz [(7, .o 1856 (((specDiffIDs (specResultIDs a_ a0.1) a0.2)).1)), (8, .o 1857 (((specDiffIDs (specResultIDs a_ a0.1) a0.2)).2))] [] [] [] ?_
  refine jn [(39, .b (decide (((((specDiffIDs (specResultIDs a_ a0.1) a0.2)).1).length : Int) > (0 : Int)) || decide (((((specDiffIDs (specResultIDs a_ a0.1) a0.2)).2).length : Int) > (0 : Int))))] [] [] [] (decide (((((specDiffIDs (specResultIDs a_ a0.1) a0.2)).1).length : Int) > (0 : Int))) (fun h3 => ?_) (fun h3 => ?_) ?_
  ·
   refine ru tt_ok [(39, .b true)] [] [] [] (pl 1 (((specDiffIDs (specResultIDs a_ a0.1) a0.2)).1) (pt 2 h3 p0)) ?_
   exact ⟨rfl, weak_fit (by rw [h3]; first | done | kernel_rfl)⟩
  ·
   refine rn tt_ok [0, 1, 4, 5, 6, 7, 8, 39] [] (pl 1 (((specDiffIDs (specResultIDs a_ a0.1) a0.2)).1) (pf 2 h3 (pl 5 (((specDiffIDs (specResultIDs a_ a0.1) a0.2)).2) p0))) ?_
   exact ⟨rfl, weak_fit (by rw [h3]; first | done | kernel_rfl)⟩
  refine ck (decide (((((specDiffIDs (specResultIDs a_ a0.1) a0.2)).1).length : Int) > (0 : Int)) || decide (((((specDiffIDs (specResultIDs a_ a0.1) a0.2)).2).length : Int) > (0 : Int))) (fun h4 => ?_) (fun h4 => ?_)
  ·
   refine wT 5 0 (.own true 147203) s0 (fun hw5 hl6 => ?_)
   refine ru tt_ok [(5, .one (.slc (.own true 3200) 3 ((eL s0) ++ [[.s a0.1, .h (((specDiffIDs (specResultIDs a_ a0.1) a0.2)).1), .h (((specDiffIDs (specResultIDs a_ a0.1) a0.2)).2)]])))] [5, 7, 8, 39] [] [] (pn 3 hx0 (pa s0 [(a0.1, ((specDiffIDs (specResultIDs a_ a0.1) a0.2)).1, ((specDiffIDs (specResultIDs a_ a0.1) a0.2)).2)] p0)) ?_
   refine eqn [(5, .o 3200 (s0 ++ [(a0.1, ((specDiffIDs (specResultIDs a_ a0.1) a0.2)).1, ((specDiffIDs (specResultIDs a_ a0.1) a0.2)).2)]))] [5] [] [] (by rw [show ((eL s0) ++ [[.s a0.1, .h (((specDiffIDs (specResultIDs a_ a0.1) a0.2)).1), .h (((specDiffIDs (specResultIDs a_ a0.1) a0.2)).2)]]) = (eL (s0 ++ [(a0.1, ((specDiffIDs (specResultIDs a_ a0.1) a0.2)).1, ((specDiffIDs (specResultIDs a_ a0.1) a0.2)).2)])) from app_eL (rfl) (rfl)]; first | done | kernel_rfl) ?_
   refine rn tt_ok [0, 1, 4, 5, 6] [] (pe 1 (av_i (wrap_succ k0 (by omega))) p0) ?_
   exact Exists.intro (s0 ++ [(a0.1, ((specDiffIDs (specResultIDs a_ a0.1) a0.2)).1, ((specDiffIDs (specResultIDs a_ a0.1) a0.2)).2)]) (And.intro (weak_sf [(3200, 147203)] (by kernel_rfl)) ⟨forL_next hx0 (bif_t h4 (rfl)) hI0.1, by first | omega | (simp; omega) | simp⟩)
  ·
   have h4l : (decide (((((specDiffIDs (specResultIDs a_ a0.1) a0.2)).1).length : Int) > (0 : Int))) = false := or_l h4
   have h4ld := of_decide_eq_false h4l
   have h4r : (decide (((((specDiffIDs (specResultIDs a_ a0.1) a0.2)).2).length : Int) > (0 : Int))) = false := or_r h4
   have h4rd := of_decide_eq_false h4r
   refine awp_skip ?_
   refine rn tt_ok [0, 1, 4, 5, 6] [] (pe 1 (av_i (wrap_succ k0 (by omega))) p0) ?_
   exact Exists.intro s0 (And.intro (weak_fit (by kernel_rfl)) ⟨forL_next hx0 (bif_f h4 (rfl)) hI0.1, by first | omega | (simp; omega) | simp⟩)
 ·
  have hA0_0 := hI0.2
  refine awp_seq ?_
  refine sn tt_ok [0, 1, 4, 5, 6, 13] [] (pl 2 b (pe 3 (av_bool (decide_eq_false (p := ((k0 : Nat) : Int) < (b.length : Int)) (by omega))) p0)) ?_
  refine ckF ?_
  refine awp_exit ?_
  exact Exists.intro _ (And.intro (weak_sf [(147203, 147353)] (by kernel_rfl)) (forL_end hk0 (rfl) hI0.1))
 ·
  refine sn tt_ok [4] [] (p0) ?_
  refine awp_ret ?_
  exact po0 [] (on_b hD0 (rfl))
def specl14Answers_f0 (code : (List UInt8)) (s0 : (List ResultD) × Int × Nat × Int) : Rd ((List ResultD) × Nat × Int) ((List ResultD) × Int × Nat × Int) ((List ResultD) × Nat × Int) := (lt (α := Int × Nat × Int) (specl01Below code s0.2.2.1 s0.2.2.2 5) (fun x1 => (bif decide (s0.2.1 < x1.1) then (lt (α := (List Int) × Nat × Int) (specl14Ids code x1.2.1 x1.2.2) (fun x4 => (.next (s0.1 ++ [((nth ([⟨#[100, 97]⟩, ⟨#[100, 98]⟩, ⟨#[100, 99]⟩, ⟨#[100, 100]⟩] : (List ByteArray)) (Int.toNat s0.2.1)), x4.1)], (s0.2.1 + 1), x4.2.1, x4.2.2)))) else (.brk (s0.1, x1.2.1, x1.2.2)))))
def specl14Answers (code : (List UInt8)) (ci : Nat) (ch : Int) : (List ResultD) × Nat × Int := (Out.on (whlD (specl14Answers_f0 code) 5 ([], 0, ci, ch)) (fun y0 => (y0.1, y0.2.1, y0.2.2)))
theorem specl14Answers_w (code : List UInt8) (ci : Nat) (ch : Int) : (whl (specl14Answers_f0 code) 5 ([], 0, ci, ch)).isSome = true :=
  whl_up (fun s => s.2.1) 4 (fun s s' h0 h => by
    unfold specl14Answers_f0 lt at h
    have hb := specl01Below_bd code s.2.2.1 s.2.2.2 5
    generalize specl01Below code s.2.2.1 s.2.2.2 5 = x at h hb
    by_cases hc : s.2.1 < x.1
    · simp only [decide_eq_true hc, cond_true] at h
      have h := Rd.next.inj h
      rw [← h]
      exact ⟨by omega, rfl⟩
    · simp only [decide_eq_false hc, cond_false] at h
      cases h) 4 _ (by show (0 : Int) ≤ 0; decide) (by show (4 : Int) ≤ 0 + 4; decide)
theorem specl14Answers_a (code : (List UInt8)) (ci : Nat) (ch : Int) : AGive Tryz.prog 85 [.h code, .i ((ci : Nat) : Int), .i ch] [] (.o 0 (((specl14Answers code ci ch)).1)) [.h code, .i ((((specl14Answers code ci ch)).2.1 : Nat) : Int), .i (((specl14Answers code ci ch)).2.2)] := by
 refine agive_of (tt := tt) tt_ok Tryz.func85 (fn := Tryz.f85) rfl (by unfold FnOk; kernel_rfl) (Nat.le_of_ble_eq_true rfl) (Nat.le_of_ble_eq_true rfl) rfl rfl fun w0 F0 hG => ?_
 refine sn tt_ok [0, 2] [60000] (p0) ?_
 refine tn tt_ok [0, 2, 3] [60000] (p0) ?_
 refine awp_seq ?_
 refine tu tt_ok [(2, .e 0), (3, .one (.slc (.own true 320) 2 [])), (4, .i 0)] [] [] [] (p0) ?_
 refine blw (fun (s0 : (List ResultD) × Int × Nat × Int) => [(3, .o 147202 s0.1), (4, .i s0.2.1)]) [3, 4] (fun s0 => [(60000, [.h code, .i ((s0.2.2.1 : Nat) : Int), .i s0.2.2.2])]) [60000] (fun (y0 : (List ResultD) × Nat × Int) => [(3, .o 147352 y0.1)]) [3, 4] (fun y0 => [(60000, [.h code, .i ((y0.2.1 : Nat) : Int), .i y0.2.2])]) [60000] (fun (k0 : Nat) (s0 : (List ResultD) × Int × Nat × Int) => whl (specl14Answers_f0 code) k0 s0 = some (whlD (specl14Answers_f0 code) 5 ([], 0, ci, ch)) ∧ 0 ≤ s0.2.1 ∧ (List.length s0.1 : Int) ≤ s0.2.1) (fun (y0 : (List ResultD) × Nat × Int) => (whlD (specl14Answers_f0 code) 5 ([], 0, ci, ch)) = .brk y0) 5 ([], 0, ci, ch) (weak_sf [(320, 147202)] (by kernel_rfl)) ⟨whl_some (specl14Answers_w code ci ch), (by first | omega | (simp; done) | (dsimp only; omega)), (by first | omega | (simp; done) | (dsimp only; omega))⟩ (fun _ h => whl_zero h.1) (fun k0 s0 hI0 => ?_) (fun y0 hD0 => ?_)
 ·
  have hA0_0 := hI0.2.1
  have hA0_1 := hI0.2.2
  refine awp_seq ?_
  obtain ⟨x1, hx1⟩ : ∃ z : Int × Nat × Int, specl01Below code s0.2.2.1 s0.2.2.2 5 = z := ⟨_, rfl⟩
  have hbx1 := hx1 ▸ specl01Below_bd code s0.2.2.1 s0.2.2.2 5
  refine sn tt_ok [0, 2, 3, 4, 9] [60000] (po 2 (.give none (.i x1.1) [.h code, .i ((x1.2.1 : Nat) : Int), .i x1.2.2]) (px (ob_give (hx1 ▸ specl01Below_a code s0.2.2.1 s0.2.2.2 5)) p0)) ?_
  refine ck (decide (s0.2.1 < x1.1)) (fun h2 => ?_) (fun h2 => ?_)
  ·
   have h2d := of_decide_eq_true h2
   refine awp_skip ?_
   refine awp_seq ?_
   refine awp_block ?_
   have hx3 := ng ([⟨#[100, 97]⟩, ⟨#[100, 98]⟩, ⟨#[100, 99]⟩, ⟨#[100, 100]⟩] : (List ByteArray)) (Int.toNat s0.2.1) (by simp only [List.length_cons, List.length_nil]; omega)
   obtain ⟨x4, hx4⟩ : ∃ z : (List Int) × Nat × Int, specl14Ids code x1.2.1 x1.2.2 = z := ⟨_, rfl⟩
   refine wT 3 0 (.own true 147202) s0.1 (fun hw5 hl6 => ?_)
   refine qU tt_ok tt_mx [(3, .one (.slc (.own true 1344) 2 ((eL s0.1) ++ [[.s (nth ([⟨#[100, 97]⟩, ⟨#[100, 98]⟩, ⟨#[100, 99]⟩, ⟨#[100, 100]⟩] : (List ByteArray)) (Int.toNat s0.2.1)), .h x4.1]])))] [3] [(60000, [.h code, .i ((x4.2.1 : Nat) : Int), .i x4.2.2])] [60000] (pG 3 s0.2.1 hx3 (po 6 (.give none (.o 0 x4.1) [.h code, .i ((x4.2.1 : Nat) : Int), .i x4.2.2]) (px (ob_give (hx4 ▸ specl14Ids_a code x1.2.1 x1.2.2)) (pa s0.1 [((nth ([⟨#[100, 97]⟩, ⟨#[100, 98]⟩, ⟨#[100, 99]⟩, ⟨#[100, 100]⟩] : (List ByteArray)) (Int.toNat s0.2.1)), x4.1)] p0)))) ?_
   refine eqn [(3, .o 1344 (s0.1 ++ [((nth ([⟨#[100, 97]⟩, ⟨#[100, 98]⟩, ⟨#[100, 99]⟩, ⟨#[100, 100]⟩] : (List ByteArray)) (Int.toNat s0.2.1)), x4.1)]))] [3] [] [] (by rw [show ((eL s0.1) ++ [[.s (nth ([⟨#[100, 97]⟩, ⟨#[100, 98]⟩, ⟨#[100, 99]⟩, ⟨#[100, 100]⟩] : (List ByteArray)) (Int.toNat s0.2.1)), .h x4.1]]) = (eL (s0.1 ++ [((nth ([⟨#[100, 97]⟩, ⟨#[100, 98]⟩, ⟨#[100, 99]⟩, ⟨#[100, 100]⟩] : (List ByteArray)) (Int.toNat s0.2.1)), x4.1)])) from app_eL (rfl) (rfl)]; first | done | kernel_rfl) ?_
   refine rn tt_ok [0, 2, 3, 4] [60000] (pe 1 (av_i (IntWalk.i64_in (s0.2.1 + 1) (by omega))) p0) ?_
   exact Exists.intro (s0.1 ++ [((nth ([⟨#[100, 97]⟩, ⟨#[100, 98]⟩, ⟨#[100, 99]⟩, ⟨#[100, 100]⟩] : (List ByteArray)) (Int.toNat s0.2.1)), x4.1)], (s0.2.1 + 1), x4.2.1, x4.2.2) (And.intro (weak_sf [(1344, 147202)] (by kernel_rfl)) ⟨wn hI0.1 (lt_b hx1 (bif_t h2 (lt_b hx4 (rfl)))), (by first | omega | (simp; omega)), (by first | omega | (simp; omega))⟩)
  ·
   refine awp_exit ?_
   exact Exists.intro (s0.1, x1.2.1, x1.2.2) (And.intro (weak_sf [(147202, 147352)] (by kernel_rfl)) (wb hI0.1 (lt_b hx1 (bif_f h2 (rfl)))))
 ·
  refine sn tt_ok [0, 2] [60000] (p0) ?_
  refine awp_ret ?_
  have hE7 : specl14Answers code ci ch = (y0.1, y0.2.1, y0.2.2) := on_b hD0 (rfl)
  exact gret [] (congrArg (fun z => (.o 0 z.1 : AV)) hE7.symm) (congrArg (fun z => ([.h code, .i ((z.2.1 : Nat) : Int), .i z.2.2] : List C)) hE7.symm)
end Go.Proofs.YtcnkkobgogmakaaGreat
namespace Go.Proofs.YtcnkkobgogmakaaGreat
open Go.RowKit
def Mlr (r : List ResultD) : Prop := ∀ x, x ∈ r → x.2.length ≤ 1000
def Mdr (e : List DiffD) : Prop := e.length ≤ 100 ∧ ∀ y, y ∈ e → y.2.1.length ≤ 1000 ∧ y.2.2.length ≤ 1000
def RO (k : Nat) (s : List ResultD) : Prop := ∀ j, k ≤ j → (nth s j).2.length ≤ 1000
def RI (k i : Nat) (s : List ResultD) : Prop := (nth s k).2.length ≤ 1000 + 1000 * i ∧ RO (k + 1) s
theorem copyRl (r : List ResultD) : implcopyResults r = r := by
  unfold implcopyResults
  rw [forL_map (f := implcopyResults_f0) (e := implcopyResults_e0) (g := id) (fun _ _ _ => rfl), List.map_id]
  rfl
theorem ro_start {r : List ResultD} (h : Mlr r) : RO 0 (implcopyResults r) := by
  rw [copyRl]
  intro j _
  by_cases hj : j < r.length
  · exact h _ (List.mem_of_getElem? (nth_get hj))
  · have : nth r j = default := by simp [nth, List.getD, List.getElem?_eq_none (Nat.le_of_not_lt hj)]
    rw [this]; exact Nat.zero_le _
theorem ri_start {k : Nat} {s : List ResultD} (h : RO k s) : RI k 0 s := ⟨h k (Nat.le_refl _), fun j hj => h j (by omega)⟩
theorem ri_skip {k i : Nat} {s : List ResultD} (h : RI k i s) : RI k (i + 1) s := ⟨by have := h.1; omega, h.2⟩
theorem ri_use {k i : Nat} {s : List ResultD} {d : List DiffD} {y : DiffD} (he : Mdr d) (hx : d[i]? = some y) (h : RI k i s) : List.length (nth s k).2 + List.length y.2.1 ≤ 536870912 := by
  have h1 := (List.getElem?_eq_some_iff.1 hx).1
  have h2 := he.1
  have h3 := (he.2 y (List.mem_of_getElem? hx)).1
  have h4 := h.1
  omega
theorem nth_setR {s : List ResultD} {k : Nat} (x : ResultD) (hk : k < s.length) (j : Nat) : nth (s.set k x) j = if j = k then x else nth s j := by
  unfold nth List.getD
  rw [List.getElem?_set]
  by_cases e : j = k
  · subst e; simp [hk]
  · rw [if_neg (fun h => e h.symm), if_neg e]
theorem ri_next {k i : Nat} {s : List ResultD} {d : List DiffD} {y : DiffD} (he : Mdr d) (hx : d[i]? = some y) (h : RI k i s) (hk : k < s.length) : RI k (i + 1) (List.set s k ((nth s k).1, implApplyDiffToIDs (nth s k).2 y)) := by
  have h3 := (he.2 y (List.mem_of_getElem? hx)).1
  have h4 := h.1
  have h5 := replayed_len (nth s k).2 y.2.1 y.2.2
  refine ⟨?_, fun j hj => ?_⟩
  · rw [nth_setR _ hk, if_pos rfl]
    show List.length (implreplayed (nth s k).2 y.2.1 y.2.2) ≤ _
    omega
  · rw [nth_setR _ hk, if_neg (by omega)]
    exact h.2 j hj
theorem ri_end {k i : Nat} {s : List ResultD} (h : RI k i s) : RO (k + 1) s := h.2
theorem diffS_len (a b : List Int) : (specDiffIDs a b).1.length ≤ b.length ∧ (specDiffIDs a b).2.length ≤ a.length := by
  rw [diffIDs_eq]
  exact ⟨less_len b a, less_len a b⟩
theorem insAt_len3 {α : Type} (l : List α) (j : Nat) (y : α) : (insAt l j y).length = l.length + 1 := by simp [insAt]; omega
end Go.Proofs.YtcnkkobgogmakaaGreat
