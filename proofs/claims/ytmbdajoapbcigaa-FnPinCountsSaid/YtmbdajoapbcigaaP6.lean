/- Texts of this proof, put together by a program: Pca, Ev, LPc, Pcl, MPc. -/
import Derived.Test.YtmbdajoapbcigaaP5
import Derived.KernelRfl
import Derived.Outline
set_option linter.unusedVariables false
set_option linter.unusedSimpArgs false
namespace Go.Proofs.Ytmbdajoapbcigaa
open Go.RowKit
open GoE (enc wide)
def specl03Usual : (List FieldD) := [((⟨#[97]⟩, 1) : FieldD), ((⟨#[98]⟩, 1) : FieldD), ((⟨#[110]⟩, 2) : FieldD), ((⟨#[116]⟩, 2) : FieldD)]
theorem specl03Usual_a : ACalls Try.prog 71 [] (.o 0 specl03Usual) := by
  refine acalls_of (tt := tt) tt_ok Try.func71 (fn := Try.f71) rfl (by unfold FnOk; kernel_rfl) (Nat.le_of_ble_eq_true rfl) fun w0 F0 hG => ?_
  refine awp_seq ?_
  refine rk tt_ok [(0, .e 0)] [] [] [] [] (o0) ?_
  refine awp_seq ?_
  refine rk tt_ok [(0, .o 320 [((⟨#[97]⟩, 1) : FieldD), ((⟨#[98]⟩, 1) : FieldD), ((⟨#[110]⟩, 2) : FieldD), ((⟨#[116]⟩, 2) : FieldD)])] [0] [] [] [] (o0) ?_
  refine awp_ret ?_
  exact pret [] (congrArg (fun z => (.o 0 z : AV)) (show specl03Usual = [((⟨#[97]⟩, 1) : FieldD), ((⟨#[98]⟩, 1) : FieldD), ((⟨#[110]⟩, 2) : FieldD), ((⟨#[116]⟩, 2) : FieldD)] from rfl).symm)
def specDefaultSchema : (List FieldD) := specl03Usual
theorem specDefaultSchema_a : ACalls Try.prog 38 [] (.o 0 specDefaultSchema) := by
  refine acalls_of (tt := tt) tt_ok Try.func38 (fn := Try.f38) rfl (by unfold FnOk; kernel_rfl) (Nat.le_of_ble_eq_true rfl) fun w0 F0 hG => ?_
  refine awp_seq ?_
  refine rk tt_ok [(0, .e 0)] [] [] [] [] (o0) ?_
  refine awp_seq ?_
  refine rk tt_ok [(0, .o 64 specl03Usual)] [0] [] [] [(0, .val (.o 0 specl03Usual))] (o1 (ob_call (specl03Usual_a))) ?_
  refine awp_ret ?_
  exact pret [] (congrArg (fun z => (.o 0 z : AV)) (show specDefaultSchema = specl03Usual from rfl).symm)
def specNewStore (s_ : (List FieldD)) : StoreD := (s_, [], 1)
theorem specNewStore_a (s_ : (List FieldD)) : ACalls Try.prog 37 [.h s_] (.a [.o 0 ((specNewStore s_).1), .o 1 ((specNewStore s_).2.1), .i ((specNewStore s_).2.2)]) := by
  refine acalls_of (tt := tt) tt_ok Try.func37 (fn := Try.f37) rfl (by unfold FnOk; kernel_rfl) (Nat.le_of_ble_eq_true rfl) fun w0 F0 hG => ?_
  refine awp_seq ?_
  refine rk tt_ok [(2, .p 2 0)] [] [(2, [.e 2, .e 5, .i 0])] [] [] (o0) ?_
  refine awp_seq ?_
  refine wdT 0 0 .sh s_ (fun hw1 => ?_)
  have hl2 : List.length s_ ≤ 1073741824 := wide_len (hw1)
  refine rk tt_ok [] [0] [(2, [.o 320 s_, .e 5, .i 1])] [2] [(2, .flat)] (o2 (ob_len (n := (([] : List (List PV)).length + ((eL s_) : List (List PV)).length)) (len_of (rfl) (eL_length s_) (by first | omega | (simp only [List.length_cons, List.length_nil]; omega) | (simp; omega) | simp))) (o1 (ob_flat (flat_eL s_)))) ?_
  refine opn [(true, 2, 1, true, 384000, 5)] ?_
  refine awp_ret ?_
  exact pret [] (congrArg (fun z => (.a [.o 0 z.1, .o 1 z.2.1, .i z.2.2] : AV)) (show specNewStore s_ = (s_, [], 1) from rfl).symm)
def specIntValue (n : Int) : ValueD := (1, n, ⟨#[]⟩)
theorem specIntValue_a (n : Int) : ACalls Try.prog 40 [.i n] (.a [.i ((specIntValue n).1), .i ((specIntValue n).2.1), .s ((specIntValue n).2.2)]) := by
  refine acalls_of (tt := tt) tt_ok Try.func40 (fn := Try.f40) rfl (by unfold FnOk; kernel_rfl) (Nat.le_of_ble_eq_true rfl) fun w0 F0 hG => ?_
  refine awp_seq ?_
  refine rk tt_ok [(2, .p 2 0)] [] [(2, [.i 0, .i 0, .s ⟨#[]⟩])] [] [] (o0) ?_
  refine awp_seq ?_
  refine rk tt_ok [] [0] [(2, [.i 1, .i n, .s ⟨#[]⟩])] [2] [] (o0) ?_
  refine awp_ret ?_
  exact pret [] (congrArg (fun z => (.a [.i z.1, .i z.2.1, .s z.2.2] : AV)) (show specIntValue n = (1, n, ⟨#[]⟩) from rfl).symm)
def specSetAttr_f0 (name : ByteArray) (_ : Nat) (a0 : AttrD) (s0 : (List AttrD)) : Rd (FileD) ((List AttrD)) ((List AttrD)) := (bif (!(a0.1.toList == name.toList)) then (.next (s0 ++ [a0])) else (.next s0))
def specSetAttr_e0 (_ : Nat) (s0 : (List AttrD)) : (List AttrD) := s0
def specSetAttr_f1 (name : ByteArray) (k1 : Nat) (a1 : AttrD) (_ : Unit) : Rd (FileD) (Unit) (Int) := (bif (Op.bytesLess a1.1.toList name.toList || a1.1.toList == name.toList) then (.next ()) else (.brk ((k1 : Nat) : Int)))
def specSetAttr_e1 (k1 : Nat) (_ : Unit) : Int := ((k1 : Nat) : Int)
def specSetAttr (f : FileD) (name : ByteArray) (v : ValueD) : FileD := (Out.on (forL (specSetAttr_f0 name) specSetAttr_e0 f.2.2.2.2 0 []) (fun y0 => (bif (v.1 != (0 : Int)) then (Out.on (forL (specSetAttr_f1 name) specSetAttr_e1 y0 0 ()) (fun y1 => (f.1, f.2.1, f.2.2.1, f.2.2.2.1, List.take (Int.toNat y1) y0 ++ [(name, v)] ++ (List.drop (Int.toNat y1) y0)))) else (f.1, f.2.1, f.2.2.1, f.2.2.2.1, y0))))
theorem specSetAttr_a (f : FileD) (name : ByteArray) (v : ValueD) (hp : List.length f.2.2.2.2 ≤ 1073741000) : ACalls Try.prog 39 [.a [.i f.1, .i f.2.1, .b f.2.2.1, .i f.2.2.2.1, .h f.2.2.2.2], .s name, .a [.i v.1, .i v.2.1, .s v.2.2]] (.a [.i ((specSetAttr f name v).1), .i ((specSetAttr f name v).2.1), .b ((specSetAttr f name v).2.2.1), .i ((specSetAttr f name v).2.2.2.1), .o 0 ((specSetAttr f name v).2.2.2.2)]) := by
  refine acalls_of (tt := tt) tt_ok Try.func39 (fn := Try.f39) rfl (by unfold FnOk; kernel_rfl) (Nat.le_of_ble_eq_true rfl) fun w0 F0 hG => ?_
  refine awp_seq ?_
  refine rk tt_ok [(3, .p 3 0), (5, .p 5 0), (6, .p 6 0)] [0, 2] [(3, [.i f.1, .i f.2.1, .b f.2.2.1, .i f.2.2.2.1, .h f.2.2.2.2]), (5, [.i v.1, .i v.2.1, .s v.2.2]), (6, [.i 0, .i 0, .b false, .i 0, .e 4])] [] [] (o0) ?_
  refine awp_seq ?_
  refine rk tt_ok [(7, .one (.slc (.own true 704) 4 []))] [] [] [] [] (o0) ?_
  refine awp_seq ?_
  refine awp_seq ?_
  refine rk tt_ok [(8, .i 0)] [] [] [] [] (o0) ?_
  refine wdB 3 4 .sh f.2.2.2.2 (fun hw1 => ?_)
  have hl2 : List.length f.2.2.2.2 ≤ 1073741824 := wide_len (hw1)
  refine blk (fun (k0 : Nat) (s0 : (List AttrD)) => [(7, .o 147204 s0), (8, .i ((k0 : Nat) : Int))]) [7, 8] (fun k0 s0 => []) [] (fun (y0 : (List AttrD)) => [(7, .o 147354 y0)]) [7, 8] (fun y0 => []) [] (fun (k0 : Nat) (s0 : (List AttrD)) => (forL (specSetAttr_f0 name) specSetAttr_e0 f.2.2.2.2 0 []) = forL (specSetAttr_f0 name) specSetAttr_e0 (List.drop k0 f.2.2.2.2) k0 s0 ∧ List.length s0 ≤ k0) (fun (y0 : (List AttrD)) => (forL (specSetAttr_f0 name) specSetAttr_e0 f.2.2.2.2 0 []) = .brk y0 ∧ List.length y0 ≤ List.length f.2.2.2.2) f.2.2.2.2.length [] (weak_sf [(704, 147204)] (by kernel_rfl)) ⟨rfl, (by simp)⟩ (fun k0 s0 hk0 hI0 => ?_) (fun k0 s0 hk0 hI0 => ?_) (fun y0 hD0 => ?_)
  ·
    have hA0_0 := hI0.2
    obtain ⟨a0, hx0⟩ := get_some (l := f.2.2.2.2) (i := k0) hk0
    refine awp_seq ?_
    refine awp_seq ?_
    refine rk tt_ok [(16, .b true)] [] [] [] [(3, .val (.i (f.2.2.2.2.length : Int))), (4, .val (.b true))] (o2 (ob_eq (av_len f.2.2.2.2)) (o1 (ob_eq (av_bool (decide_eq_true (p := ((k0 : Nat) : Int) < (f.2.2.2.2.length : Int)) (by omega)))))) ?_
    refine ckT ?_
    refine awp_skip ?_
    refine awp_seq ?_
    refine awp_block ?_
    refine awp_seq ?_
    refine rk tt_ok [(26, .b (!(a0.1.toList == name.toList)))] [16] [] [] [(3, .row [.s a0.1, .i a0.2.1, .i a0.2.2.1, .s a0.2.2.2])] (o1 (ob_elem (el_of (i := ((k0 : Nat) : Int)) (by omega) rfl hx0))) ?_
    refine ck (!(a0.1.toList == name.toList)) (fun h3 => ?_) (fun h3 => ?_)
    ·
      have h3n : (a0.1.toList == name.toList) = false := bnot_t h3
      refine wdT 7 0 (.own true 147204) s0 (fun hw4 => ?_)
      have hl5 : List.length s0 ≤ 1073741824 := wide_len (hw4)
      refine rk tt_ok [(7, .one (.slc (.own true 2176) 4 ((eL s0) ++ [[.s a0.1, .i a0.2.1, .i a0.2.2.1, .s a0.2.2.2]])))] [7, 26] [] [] [(4, .row [.s a0.1, .i a0.2.1, .i a0.2.2.1, .s a0.2.2.2])] (o2 (ob_elem (el_of (i := ((k0 : Nat) : Int)) (by omega) rfl hx0)) (o1 (ob_len (len_of (eL_length s0) (eL_length [a0]) (by first | omega | (simp only [List.length_cons, List.length_nil]; omega) | (simp; omega) | simp))))) ?_
      refine eqn [(7, .o 2176 (s0 ++ [a0]))] [7] [] [] (by rw [show ((eL s0) ++ [[.s a0.1, .i a0.2.1, .i a0.2.2.1, .s a0.2.2.2]]) = (eL (s0 ++ [a0])) from app_eL (rfl) (rfl)]; first | done | kernel_rfl) ?_
      refine rk tt_ok [(8, .i ((k0 + 1 : Nat) : Int))] [8] [] [] [(1, .val (.i ((k0 + 1 : Nat) : Int)))] (o1 (ob_eq (av_i (wrap_succ k0 (by omega))))) ?_
      exact Exists.intro (s0 ++ [a0]) (And.intro (weak_sf [(2176, 147204)] (by kernel_rfl)) ⟨forL_next hx0 (bif_t h3 (rfl)) hI0.1, by first | omega | (simp; omega) | simp⟩)
    ·
      have h3n : (a0.1.toList == name.toList) = true := bnot_f h3
      refine awp_skip ?_
      refine rk tt_ok [(8, .i ((k0 + 1 : Nat) : Int))] [8, 26] [] [] [(1, .val (.i ((k0 + 1 : Nat) : Int)))] (o1 (ob_eq (av_i (wrap_succ k0 (by omega))))) ?_
      exact Exists.intro s0 (And.intro (weak_fit (by kernel_rfl)) ⟨forL_next hx0 (bif_f h3 (rfl)) hI0.1, by first | omega | (simp; omega) | simp⟩)
  ·
    have hA0_0 := hI0.2
    refine awp_seq ?_
    refine awp_seq ?_
    refine rk tt_ok [(16, .b false)] [] [] [] [(3, .val (.i (f.2.2.2.2.length : Int))), (4, .val (.b false))] (o2 (ob_eq (av_len f.2.2.2.2)) (o1 (ob_eq (av_bool (decide_eq_false (p := ((k0 : Nat) : Int) < (f.2.2.2.2.length : Int)) (by omega)))))) ?_
    refine ckF ?_
    refine awp_exit ?_
    exact Exists.intro s0 (And.intro (weak_sf [(147204, 147354)] (by kernel_rfl)) ⟨forL_end hk0 (rfl) hI0.1, by first | omega | (simp only [List.length_set]; omega)⟩)
  ·
    have hD0_0 := hD0.2
    refine awp_seq ?_
    refine awp_seq ?_
    refine rk tt_ok [(37, .b (v.1 != (0 : Int)))] [] [] [] [] (o0) ?_
    refine ck (v.1 != (0 : Int)) (fun h6 => ?_) (fun h6 => ?_)
    ·
      have h6d := ne_of_bne h6
      refine awp_seq ?_
      refine rk tt_ok [(9, .i 0)] [37] [] [] [] (o0) ?_
      refine awp_seq ?_
      refine wdT 7 0 (.own true 147354) y0 (fun hw7 => ?_)
      have hl8 : List.length y0 ≤ 1073741824 := wide_len (hw7)
      refine blk (fun (k1 : Nat) (s1 : Unit) => [(9, .i ((k1 : Nat) : Int))]) [9] (fun k1 s1 => []) [] (fun (y1 : Int) => [(9, .i y1)]) [9] (fun y1 => []) [] (fun (k1 : Nat) (s1 : Unit) => (forL (specSetAttr_f1 name) specSetAttr_e1 y0 0 ()) = forL (specSetAttr_f1 name) specSetAttr_e1 (List.drop k1 y0) k1 s1) (fun (y1 : Int) => (forL (specSetAttr_f1 name) specSetAttr_e1 y0 0 ()) = .brk y1 ∧ 0 ≤ y1 ∧ y1 ≤ (y0.length : Int)) y0.length () (weak_fit (by kernel_rfl)) rfl (fun k1 s1 hk1 hI1 => ?_) (fun k1 s1 hk1 hI1 => ?_) (fun y1 hD1 => ?_)
      ·
        obtain ⟨a1, hx1⟩ := get_some (l := y0) (i := k1) hk1
        refine awp_seq ?_
        refine awp_seq ?_
        refine rk tt_ok [(50, .b (Op.bytesLess a1.1.toList name.toList || a1.1.toList == name.toList))] [] [] [] [(2, .val (.i (y0.length : Int))), (3, .val (.b true)), (7, .rowE [.s a1.1, .i a1.2.1, .i a1.2.2.1, .s a1.2.2.2])] (o2 (ob_eq (av_len y0)) (o2 (ob_eq (av_bool (decide_eq_true (p := ((k1 : Nat) : Int) < (y0.length : Int)) (by omega)))) (o1 (ob_elem (el_of (i := ((k1 : Nat) : Int)) (by omega) rfl hx1))))) ?_
        refine ck (Op.bytesLess a1.1.toList name.toList || a1.1.toList == name.toList) (fun h9 => ?_) (fun h9 => ?_)
        ·
          refine awp_skip ?_
          refine awp_block ?_
          refine rk tt_ok [(9, .i ((k1 + 1 : Nat) : Int))] [9, 50] [] [] [(1, .val (.i ((k1 + 1 : Nat) : Int)))] (o1 (ob_eq (av_i (wrap_succ k1 (by omega))))) ?_
          exact Exists.intro () (And.intro (weak_fit (by kernel_rfl)) (forL_next hx1 (bif_t h9 (rfl)) hI1))
        ·
          have h9l : (Op.bytesLess a1.1.toList name.toList) = false := or_l h9
          have h9r : (a1.1.toList == name.toList) = false := or_r h9
          refine awp_exit ?_
          exact Exists.intro ((k1 : Nat) : Int) (And.intro (weak_fit (by kernel_rfl)) ⟨forL_brk hx1 (bif_f h9 (rfl)) hI1, by first | omega | (simp only [List.length_set]; omega)⟩)
      ·
        refine awp_seq ?_
        refine awp_seq ?_
        refine rk tt_ok [(50, .b false)] [] [] [] [(2, .val (.i (y0.length : Int))), (3, .val (.b false))] (o2 (ob_eq (av_len y0)) (o1 (ob_eq (av_bool (decide_eq_false (p := ((k1 : Nat) : Int) < (y0.length : Int)) (by omega)))))) ?_
        refine ckF ?_
        refine awp_exit ?_
        exact Exists.intro ((k1 : Nat) : Int) (And.intro (weak_fit (by kernel_rfl)) ⟨forL_end hk1 (rfl) hI1, by first | omega | (simp only [List.length_set]; omega)⟩)
      ·
        have hD1_0 := hD1.2
        refine awp_seq ?_
        have hl10 : List.length (List.take (Int.toNat y1) y0) ≤ 1073741824 := wide_len (wide_take (Int.toNat y1) (hw7))
        refine rd' tt_ok tt_mx [(10, .one (.slc (.own true 3968) 4 (([] ++ (eL (List.take (Int.toNat y1) y0))) ++ [[.s name, .i v.1, .i v.2.1, .s v.2.2]])))] [1, 5] [] [5] [(3, .val (.v 147354 (List.take (Int.toNat y1) y0))), (4, .flat)] (o2 (ob_eq (av_take (.vw 147354) 4 (Int.toNat y1) y1 y0 rfl)) (o2 (ob_rng (lo := 0) (hi := y1) (n := (List.length (eL y0))) (rng_of (by omega) (by omega) (by omega))) (o2 (ob_len (n := (([] : List (List PV)).length + ((eL (List.take (Int.toNat y1) y0)) : List (List PV)).length)) (len_of (rfl) (eL_length (List.take (Int.toNat y1) y0)) (by first | omega | (simp only [List.length_cons, List.length_nil]; omega) | (simp; omega) | simp))) (o2 (ob_flat (flat_eL (List.take (Int.toNat y1) y0))) (o1 (ob_len (n := ((([] ++ (eL (List.take (Int.toNat y1) y0))) : List (List PV)).length + ([[.s name, .i v.1, .i v.2.1, .s v.2.2]] : List (List PV)).length)) (by simp [eL_length]; omega))))))) ?_
        refine eqn [(10, .o 3968 (List.take (Int.toNat y1) y0 ++ [(name, v)]))] [10] [] [] (by rw [show (([] ++ (eL (List.take (Int.toNat y1) y0))) ++ [[.s name, .i v.1, .i v.2.1, .s v.2.2]]) = (eL (List.take (Int.toNat y1) y0 ++ [(name, v)])) from app_eL (rfl) (rfl)]; first | done | kernel_rfl) ?_
        refine wdT 10 0 (.own true 3968) (List.take (Int.toNat y1) y0 ++ [(name, v)]) (fun hw11 => ?_)
        have hl12 : List.length (List.take (Int.toNat y1) y0 ++ [(name, v)]) ≤ 1073741824 := wide_len (hw11)
        have hl13 : List.length (List.drop (Int.toNat y1) y0) ≤ 1073741824 := wide_len (wide_drop (Int.toNat y1) (hw7))
        refine rk tt_ok [(7, .one (.slc (.own true 4288) 4 ((eL (List.take (Int.toNat y1) y0 ++ [(name, v)])) ++ (eL (List.drop (Int.toNat y1) y0)))))] [7, 9, 10] [] [] [(3, .val (.v 147354 (List.drop (Int.toNat y1) y0))), (4, .flat)] (o2 (ob_eq (av_drop (.vw 147354) 4 (Int.toNat y1) y1 y0 rfl)) (o2 (ob_rng (lo := y1) (hi := (((eL y0) : List (List PV)).length : Int)) (n := (List.length (eL y0))) (rng_all (by omega) (by omega))) (o2 (ob_len (len_of (eL_length (List.take (Int.toNat y1) y0 ++ [(name, v)])) (eL_length (List.drop (Int.toNat y1) y0)) (by first | omega | (simp only [List.length_cons, List.length_nil]; omega) | (simp; omega) | simp))) (o1 (ob_flat (flat_eL (List.drop (Int.toNat y1) y0))))))) ?_
        refine eqn [(7, .o 4288 (List.take (Int.toNat y1) y0 ++ [(name, v)] ++ (List.drop (Int.toNat y1) y0)))] [7] [] [] (by rw [show ((eL (List.take (Int.toNat y1) y0 ++ [(name, v)])) ++ (eL (List.drop (Int.toNat y1) y0))) = (eL (List.take (Int.toNat y1) y0 ++ [(name, v)] ++ (List.drop (Int.toNat y1) y0))) from app_eL (rfl) (rfl)]; first | done | kernel_rfl) ?_
        refine awp_seq ?_
        refine rk tt_ok [] [7] [(3, [.i f.1, .i f.2.1, .b f.2.2.1, .i f.2.2.2.1, .o 4288 (List.take (Int.toNat y1) y0 ++ [(name, v)] ++ (List.drop (Int.toNat y1) y0))])] [3] [] (o0) ?_
        refine awp_seq ?_
        refine rk tt_ok [] [3] [(6, [.i f.1, .i f.2.1, .b f.2.2.1, .i f.2.2.2.1, .o 4288 (List.take (Int.toNat y1) y0 ++ [(name, v)] ++ (List.drop (Int.toNat y1) y0))])] [3, 6] [] (o0) ?_
        refine awp_ret ?_
        exact pret [] (congrArg (fun z => (.a [.i z.1, .i z.2.1, .b z.2.2.1, .i z.2.2.2.1, .o 0 z.2.2.2.2] : AV)) (show specSetAttr f name v = (f.1, f.2.1, f.2.2.1, f.2.2.2.1, List.take (Int.toNat y1) y0 ++ [(name, v)] ++ (List.drop (Int.toNat y1) y0)) from on_b hD0.1 (bif_t h6 (on_b hD1.1 (rfl)))).symm)
    ·
      have h6d := eq_of_bne h6
      refine awp_skip ?_
      refine awp_seq ?_
      refine rk tt_ok [] [1, 5, 7, 37] [(3, [.i f.1, .i f.2.1, .b f.2.2.1, .i f.2.2.2.1, .o 147354 y0])] [3, 5] [] (o0) ?_
      refine awp_seq ?_
      refine rk tt_ok [] [3] [(6, [.i f.1, .i f.2.1, .b f.2.2.1, .i f.2.2.2.1, .o 147354 y0])] [3, 6] [] (o0) ?_
      refine awp_ret ?_
      exact pret [] (congrArg (fun z => (.a [.i z.1, .i z.2.1, .b z.2.2.1, .i z.2.2.2.1, .o 0 z.2.2.2.2] : AV)) (show specSetAttr f name v = (f.1, f.2.1, f.2.2.1, f.2.2.2.1, y0) from on_b hD0.1 (bif_f h6 (rfl))).symm)
def specl04Copy (f : FileD) : FileD := f
theorem specl04Copy_a (f : FileD) : ACalls Try.prog 68 [.a [.i f.1, .i f.2.1, .b f.2.2.1, .i f.2.2.2.1, .h f.2.2.2.2]] (.a [.i ((specl04Copy f).1), .i ((specl04Copy f).2.1), .b ((specl04Copy f).2.2.1), .i ((specl04Copy f).2.2.2.1), .o 0 ((specl04Copy f).2.2.2.2)]) := by
  refine acalls_of (tt := tt) tt_ok Try.func68 (fn := Try.f68) rfl (by unfold FnOk; kernel_rfl) (Nat.le_of_ble_eq_true rfl) fun w0 F0 hG => ?_
  refine awp_seq ?_
  refine rk tt_ok [(1, .p 1 0), (2, .p 2 0)] [0] [(1, [.i f.1, .i f.2.1, .b f.2.2.1, .i f.2.2.2.1, .h f.2.2.2.2]), (2, [.i 0, .i 0, .b false, .i 0, .e 4])] [] [] (o0) ?_
  refine awp_seq ?_
  refine wdB 1 4 .sh f.2.2.2.2 (fun hw1 => ?_)
  have hl2 : List.length f.2.2.2.2 ≤ 1073741824 := wide_len (hw1)
  refine rk tt_ok [] [] [(1, [.i f.1, .i f.2.1, .b f.2.2.1, .i f.2.2.2.1, .o 384 f.2.2.2.2])] [1] [(3, .flat)] (o2 (ob_len (n := (([] : List (List PV)).length + ((eL f.2.2.2.2) : List (List PV)).length)) (len_of (rfl) (eL_length f.2.2.2.2) (by first | omega | (simp only [List.length_cons, List.length_nil]; omega) | (simp; omega) | simp))) (o1 (ob_flat (flat_eL f.2.2.2.2)))) ?_
  refine awp_seq ?_
  refine rk tt_ok [] [1] [(2, [.i f.1, .i f.2.1, .b f.2.2.1, .i f.2.2.2.1, .o 384 f.2.2.2.2])] [1, 2] [] (o0) ?_
  refine awp_ret ?_
  exact pret [] (congrArg (fun z => (.a [.i z.1, .i z.2.1, .b z.2.2.1, .i z.2.2.2.1, .o 0 z.2.2.2.2] : AV)) (show specl04Copy f = f from rfl).symm)
def specl05Copy_f0 (_ : Nat) (a0 : FileD) (s0 : (List FileD)) : Rd (StoreD) ((List FileD)) ((List FileD)) := (.next (s0 ++ [(specl04Copy a0)]))
def specl05Copy_e0 (_ : Nat) (s0 : (List FileD)) : (List FileD) := s0
def specl05Copy (s_ : StoreD) : StoreD := (Out.on (forL specl05Copy_f0 specl05Copy_e0 s_.2.1 0 []) (fun y0 => (s_.1, y0, s_.2.2)))
theorem specl05Copy_a (s_ : StoreD) : ACalls Try.prog 67 [.a [.h s_.1, .h s_.2.1, .i s_.2.2]] (.a [.o 0 ((specl05Copy s_).1), .o 1 ((specl05Copy s_).2.1), .i ((specl05Copy s_).2.2)]) := by
  refine acalls_of (tt := tt) tt_ok Try.func67 (fn := Try.f67) rfl (by unfold FnOk; kernel_rfl) (Nat.le_of_ble_eq_true rfl) fun w0 F0 hG => ?_
  refine awp_seq ?_
  refine rk tt_ok [(1, .p 1 0), (2, .p 2 0)] [0] [(1, [.h s_.1, .h s_.2.1, .i s_.2.2]), (2, [.e 2, .e 5, .i 0])] [] [] (o0) ?_
  refine awp_seq ?_
  refine wdB 1 0 .sh s_.1 (fun hw1 => ?_)
  have hl2 : List.length s_.1 ≤ 1073741824 := wide_len (hw1)
  refine rd' tt_ok tt_mx [(3, .p 3 0)] [] [(3, [.o 512 s_.1, .e 5, .i s_.2.2])] [] [(3, .flat)] (o2 (ob_len (n := (([] : List (List PV)).length + ((eL s_.1) : List (List PV)).length)) (len_of (rfl) (eL_length s_.1) (by first | omega | (simp only [List.length_cons, List.length_nil]; omega) | (simp; omega) | simp))) (o1 (ob_flat (flat_eL s_.1)))) ?_
  refine awp_seq ?_
  refine awp_seq ?_
  refine rk tt_ok [(4, .i 0)] [] [] [] [] (o0) ?_
  refine wdB 1 1 .sh s_.2.1 (fun hw3 => ?_)
  have hl4 : List.length s_.2.1 ≤ 1073741824 := wide_len (hw3)
  refine blk (fun (k0 : Nat) (s0 : (List FileD)) => [(4, .i ((k0 : Nat) : Int))]) [4] (fun k0 s0 => [(3, [.o 512 s_.1, .o 147211 s0, .i s_.2.2])]) [3] (fun (y0 : (List FileD)) => []) [1, 4] (fun y0 => [(3, [.o 512 s_.1, .o 147361 y0, .i s_.2.2])]) [1, 3] (fun (k0 : Nat) (s0 : (List FileD)) => (forL specl05Copy_f0 specl05Copy_e0 s_.2.1 0 []) = forL specl05Copy_f0 specl05Copy_e0 (List.drop k0 s_.2.1) k0 s0 ∧ List.length s0 ≤ k0) (fun (y0 : (List FileD)) => (forL specl05Copy_f0 specl05Copy_e0 s_.2.1 0 []) = .brk y0) s_.2.1.length [] (weak_gf [(true, 3, 1, true, 320008, 5)] [] [] [(320008, 147211)] (by kernel_rfl)) ⟨rfl, (by simp)⟩ (fun k0 s0 hk0 hI0 => ?_) (fun k0 s0 hk0 hI0 => ?_) (fun y0 hD0 => ?_)
  ·
    have hA0_0 := hI0.2
    obtain ⟨a0, hx0⟩ := get_some (l := s_.2.1) (i := k0) hk0
    refine awp_seq ?_
    refine awp_seq ?_
    refine rk tt_ok [(16, .b true)] [] [] [] [(3, .val (.i (s_.2.1.length : Int))), (4, .val (.b true))] (o2 (ob_eq (av_len s_.2.1)) (o1 (ob_eq (av_bool (decide_eq_true (p := ((k0 : Nat) : Int) < (s_.2.1.length : Int)) (by omega)))))) ?_
    refine ckT ?_
    refine awp_skip ?_
    refine awp_seq ?_
    refine awp_block ?_
    refine wdB 3 1 (.own true 147211) s0 (fun hw5 => ?_)
    have hl6 : List.length s0 ≤ 1073741824 := wide_len (hw5)
    refine rd' tt_ok tt_mx [] [16] [(3, [.o 512 s_.1, .slc (.own true 1792) 5 ((eL s0) ++ [[.i ((specl04Copy a0).1), .i ((specl04Copy a0).2.1), .b ((specl04Copy a0).2.2.1), .i ((specl04Copy a0).2.2.2.1), .h ((specl04Copy a0).2.2.2.2)]]), .i s_.2.2])] [3] [(5, .row [.i a0.1, .i a0.2.1, .b a0.2.2.1, .i a0.2.2.2.1, .h a0.2.2.2.2]), (7, .val (.a [.i ((specl04Copy a0).1), .i ((specl04Copy a0).2.1), .b ((specl04Copy a0).2.2.1), .i ((specl04Copy a0).2.2.2.1), .o 0 ((specl04Copy a0).2.2.2.2)]))] (o2 (ob_elem (el_of (i := ((k0 : Nat) : Int)) (by omega) rfl hx0)) (o2 (ob_call (specl04Copy_a a0)) (o1 (ob_len (len_of (eL_length s0) (eL_length [(specl04Copy a0)]) (by first | omega | (simp only [List.length_cons, List.length_nil]; omega) | (simp; omega) | simp)))))) ?_
    refine eqn [] [] [(3, [.o 512 s_.1, .o 1792 (s0 ++ [(specl04Copy a0)]), .i s_.2.2])] [3] (by rw [show ((eL s0) ++ [[.i ((specl04Copy a0).1), .i ((specl04Copy a0).2.1), .b ((specl04Copy a0).2.2.1), .i ((specl04Copy a0).2.2.2.1), .h ((specl04Copy a0).2.2.2.2)]]) = (eL (s0 ++ [(specl04Copy a0)])) from app_eL (rfl) (rfl)]; first | done | kernel_rfl) ?_
    refine rk tt_ok [(4, .i ((k0 + 1 : Nat) : Int))] [4] [] [] [(1, .val (.i ((k0 + 1 : Nat) : Int)))] (o1 (ob_eq (av_i (wrap_succ k0 (by omega))))) ?_
    exact Exists.intro (s0 ++ [(specl04Copy a0)]) (And.intro (weak_sf [(1792, 147211)] (by kernel_rfl)) ⟨forL_next hx0 (rfl) hI0.1, by first | omega | (simp; omega) | simp⟩)
  ·
    have hA0_0 := hI0.2
    refine awp_seq ?_
    refine awp_seq ?_
    refine rk tt_ok [(16, .b false)] [] [] [] [(3, .val (.i (s_.2.1.length : Int))), (4, .val (.b false))] (o2 (ob_eq (av_len s_.2.1)) (o1 (ob_eq (av_bool (decide_eq_false (p := ((k0 : Nat) : Int) < (s_.2.1.length : Int)) (by omega)))))) ?_
    refine ckF ?_
    refine awp_exit ?_
    exact Exists.intro s0 (And.intro (weak_sf [(147211, 147361)] (by kernel_rfl)) (forL_end hk0 (rfl) hI0.1))
  ·
    refine awp_seq ?_
    refine rk tt_ok [] [3] [(2, [.o 512 s_.1, .o 147361 y0, .i s_.2.2])] [2, 3] [] (o0) ?_
    refine awp_ret ?_
    exact pret [] (congrArg (fun z => (.a [.o 0 z.1, .o 1 z.2.1, .i z.2.2] : AV)) (show specl05Copy s_ = (s_.1, y0, s_.2.2) from on_b hD0 (rfl)).symm)
def specFieldKind_f0 (name : ByteArray) (_ : Nat) (a0 : FieldD) (_ : Unit) : Rd (Int) (Unit) (Unit) := (bif (a0.1.toList == name.toList) then (.ret a0.2) else (.next ()))
def specFieldKind_e0 (_ : Nat) (_ : Unit) : Unit := ()
def specFieldKind (s_ : (List FieldD)) (name : ByteArray) : Int := (Out.on (forL (specFieldKind_f0 name) specFieldKind_e0 s_ 0 ()) (fun _ => 0))
theorem specFieldKind_a (s_ : (List FieldD)) (name : ByteArray) : ACalls Try.prog 117 [.h s_, .s name] (.i (specFieldKind s_ name)) := by
  refine acalls_of (tt := tt) tt_ok Try.func117 (fn := Try.f117) rfl (by unfold FnOk; kernel_rfl) (Nat.le_of_ble_eq_true rfl) fun w0 F0 hG => ?_
  refine awp_seq ?_
  refine rk tt_ok [(4, .i 0)] [] [] [] [] (o0) ?_
  refine awp_seq ?_
  refine awp_seq ?_
  refine rk tt_ok [(5, .i 0)] [] [] [] [] (o0) ?_
  refine wdT 0 0 .sh s_ (fun hw1 => ?_)
  have hl2 : List.length s_ ≤ 1073741824 := wide_len (hw1)
  refine blk (fun (k0 : Nat) (s0 : Unit) => [(5, .i ((k0 : Nat) : Int))]) [5] (fun k0 s0 => []) [] (fun (y0 : Unit) => []) [0, 1, 5] (fun y0 => []) [] (fun (k0 : Nat) (s0 : Unit) => (forL (specFieldKind_f0 name) specFieldKind_e0 s_ 0 ()) = forL (specFieldKind_f0 name) specFieldKind_e0 (List.drop k0 s_) k0 s0) (fun (y0 : Unit) => (forL (specFieldKind_f0 name) specFieldKind_e0 s_ 0 ()) = .brk y0) s_.length () (weak_fit (by kernel_rfl)) rfl (fun k0 s0 hk0 hI0 => ?_) (fun k0 s0 hk0 hI0 => ?_) (fun y0 hD0 => ?_)
  ·
    obtain ⟨a0, hx0⟩ := get_some (l := s_) (i := k0) hk0
    refine awp_seq ?_
    refine awp_seq ?_
    refine rk tt_ok [(9, .b true)] [] [] [] [(2, .val (.i (s_.length : Int))), (3, .val (.b true))] (o2 (ob_eq (av_len s_)) (o1 (ob_eq (av_bool (decide_eq_true (p := ((k0 : Nat) : Int) < (s_.length : Int)) (by omega)))))) ?_
    refine ckT ?_
    refine awp_skip ?_
    refine awp_seq ?_
    refine awp_block ?_
    refine awp_seq ?_
    refine rk tt_ok [(18, .b (a0.1.toList == name.toList))] [9] [] [] [(2, .row [.s a0.1, .i a0.2])] (o1 (ob_elem (el_of (i := ((k0 : Nat) : Int)) (by omega) rfl hx0))) ?_
    refine ck (a0.1.toList == name.toList) (fun h3 => ?_) (fun h3 => ?_)
    ·
      refine awp_seq ?_
      refine rk tt_ok [(4, .i a0.2)] [4, 18] [] [] [(2, .row [.s a0.1, .i a0.2])] (o1 (ob_elem (el_of (i := ((k0 : Nat) : Int)) (by omega) rfl hx0))) ?_
      refine awp_ret ?_
      have hr4 : (forL (specFieldKind_f0 name) specFieldKind_e0 s_ 0 ()) = .ret a0.2 := forL_ret hx0 (bif_t h3 (rfl)) hI0
      exact pret [] (congrArg (fun z => (.i z : AV)) (show specFieldKind s_ name = a0.2 from on_r hr4).symm)
    ·
      refine awp_skip ?_
      refine rk tt_ok [(5, .i ((k0 + 1 : Nat) : Int))] [5, 18] [] [] [(1, .val (.i ((k0 + 1 : Nat) : Int)))] (o1 (ob_eq (av_i (wrap_succ k0 (by omega))))) ?_
      exact Exists.intro () (And.intro (weak_fit (by kernel_rfl)) (forL_next hx0 (bif_f h3 (rfl)) hI0))
  ·
    refine awp_seq ?_
    refine awp_seq ?_
    refine rk tt_ok [(9, .b false)] [] [] [] [(2, .val (.i (s_.length : Int))), (3, .val (.b false))] (o2 (ob_eq (av_len s_)) (o1 (ob_eq (av_bool (decide_eq_false (p := ((k0 : Nat) : Int) < (s_.length : Int)) (by omega)))))) ?_
    refine ckF ?_
    refine awp_exit ?_
    exact Exists.intro () (And.intro (weak_fit (by kernel_rfl)) (forL_end hk0 (rfl) hI0))
  ·
    refine awp_seq ?_
    refine rk tt_ok [] [] [] [] [] (o0) ?_
    refine awp_ret ?_
    exact pret [] (congrArg (fun z => (.i z : AV)) (show specFieldKind s_ name = 0 from on_b hD0 (rfl)).symm)
def specMatchesSchema (s_ : (List FieldD)) (name : ByteArray) (v : ValueD) : Bool := ((specIsValidValue v) && ((v.1 != (0 : Int)) && (v.1 == (specFieldKind s_ name))))
theorem specMatchesSchema_a (s_ : (List FieldD)) (name : ByteArray) (v : ValueD) : ACalls Try.prog 97 [.h s_, .s name, .a [.i v.1, .i v.2.1, .s v.2.2]] (.b (specMatchesSchema s_ name v)) := by
  refine acalls_of (tt := tt) tt_ok Try.func97 (fn := Try.f97) rfl (by unfold FnOk; kernel_rfl) (Nat.le_of_ble_eq_true rfl) fun w0 F0 hG => ?_
  refine awp_seq ?_
  refine rk tt_ok [(5, .p 5 0), (6, .b false)] [2] [(5, [.i v.1, .i v.2.1, .s v.2.2])] [] [] (o0) ?_
  refine awp_seq ?_
  refine jn [(6, .b ((specIsValidValue v) && ((v.1 != (0 : Int)) && (v.1 == (specFieldKind s_ name)))))] [0, 1, 5, 6] [] [5] (specIsValidValue v) (fun h1 => ?_) (fun h1 => ?_) ?_
  ·
    refine awp_split (v.1 != (0 : Int)) (fun h2 => ?_) (fun h2 => ?_)
    ·
      have h2d := ne_of_bne h2
      refine rd' tt_ok tt_mx [(6, .b (v.1 == (specFieldKind s_ name)))] [0, 1, 5, 6] [] [5] [(1, .val (.b true)), (5, .val (.b true)), (12, .val (.i (specFieldKind s_ name)))] (o2 (ob_call (cb h1 (specIsValidValue_a v))) (o2 (ob_eq (av_bool h2)) (o1 (ob_call (specFieldKind_a s_ name))))) ?_
      exact ⟨rfl, weak_fit (by rw [h1, h2]; first | done | kernel_rfl)⟩
    ·
      have h2d := eq_of_bne h2
      refine rd' tt_ok tt_mx [] [0, 1, 5] [] [5] [(1, .val (.b true)), (5, .val (.b false))] (o2 (ob_call (cb h1 (specIsValidValue_a v))) (o1 (ob_eq (av_bool h2)))) ?_
      exact ⟨rfl, weak_fit (by rw [h1, h2]; first | done | kernel_rfl)⟩
  ·
    refine rd' tt_ok tt_mx [] [0, 1, 5] [] [5] [(1, .val (.b false))] (o1 (ob_call (cb h1 (specIsValidValue_a v)))) ?_
    exact ⟨rfl, weak_fit (by rw [h1]; first | done | kernel_rfl)⟩
  refine awp_ret ?_
  exact pret [] (congrArg (fun z => (.b z : AV)) (show specMatchesSchema s_ name v = ((specIsValidValue v) && ((v.1 != (0 : Int)) && (v.1 == (specFieldKind s_ name)))) from rfl).symm)
def specIsValidSchema_f0 (s_ : (List FieldD)) (k0 : Nat) (a0 : FieldD) (_ : Unit) : Rd (Bool) (Unit) (Unit) := (bif ((!(specIsValidAttrName a0.1)) || ((!(specl01In a0.2 1 2)) || (decide (((k0 : Nat) : Int) > (0 : Int)) && (!(Op.bytesLess ((nth s_ (Int.toNat (((k0 : Nat) : Int) - 1))).1).toList a0.1.toList))))) then (.ret false) else (.next ()))
def specIsValidSchema_e0 (_ : Nat) (_ : Unit) : Unit := ()
def specIsValidSchema (s_ : (List FieldD)) : Bool := (Out.on (forL (specIsValidSchema_f0 s_) specIsValidSchema_e0 s_ 0 ()) (fun _ => decide ((s_.length : Int) ≤ (5 : Int))))
theorem specIsValidSchema_a (s_ : (List FieldD)) : ACalls Try.prog 95 [.h s_] (.b (specIsValidSchema s_)) := by
  refine acalls_of (tt := tt) tt_ok Try.func95 (fn := Try.f95) rfl (by unfold FnOk; kernel_rfl) (Nat.le_of_ble_eq_true rfl) fun w0 F0 hG => ?_
  refine awp_seq ?_
  refine rk tt_ok [(2, .b false)] [] [] [] [] (o0) ?_
  refine awp_seq ?_
  refine awp_seq ?_
  refine rk tt_ok [(3, .i 0)] [] [] [] [] (o0) ?_
  refine wdT 0 0 .sh s_ (fun hw1 => ?_)
  have hl2 : List.length s_ ≤ 1073741824 := wide_len (hw1)
  refine blk (fun (k0 : Nat) (s0 : Unit) => [(3, .i ((k0 : Nat) : Int))]) [3] (fun k0 s0 => []) [] (fun (y0 : Unit) => []) [3] (fun y0 => []) [] (fun (k0 : Nat) (s0 : Unit) => (forL (specIsValidSchema_f0 s_) specIsValidSchema_e0 s_ 0 ()) = forL (specIsValidSchema_f0 s_) specIsValidSchema_e0 (List.drop k0 s_) k0 s0) (fun (y0 : Unit) => (forL (specIsValidSchema_f0 s_) specIsValidSchema_e0 s_ 0 ()) = .brk y0) s_.length () (weak_fit (by kernel_rfl)) rfl (fun k0 s0 hk0 hI0 => ?_) (fun k0 s0 hk0 hI0 => ?_) (fun y0 hD0 => ?_)
  ·
    obtain ⟨a0, hx0⟩ := get_some (l := s_) (i := k0) hk0
    refine awp_seq ?_
    refine awp_seq ?_
    refine rk tt_ok [(7, .b true)] [] [] [] [(2, .val (.i (s_.length : Int))), (3, .val (.b true))] (o2 (ob_eq (av_len s_)) (o1 (ob_eq (av_bool (decide_eq_true (p := ((k0 : Nat) : Int) < (s_.length : Int)) (by omega)))))) ?_
    refine ckT ?_
    refine awp_skip ?_
    refine awp_seq ?_
    refine awp_block ?_
    refine awp_seq ?_
    refine jn [(43, .b ((!(specIsValidAttrName a0.1)) || ((!(specl01In a0.2 1 2)) || (decide (((k0 : Nat) : Int) > (0 : Int)) && (!(Op.bytesLess ((nth s_ (Int.toNat (((k0 : Nat) : Int) - 1))).1).toList a0.1.toList))))))] [7] [] [] (!(specIsValidAttrName a0.1)) (fun h3 => ?_) (fun h3 => ?_) ?_
    ·
      have h3n : (specIsValidAttrName a0.1) = false := bnot_t h3
      refine rd' tt_ok tt_mx [(43, .b true)] [7] [] [] [(2, .row [.s a0.1, .i a0.2]), (5, .val (.b false)), (6, .val (.b true))] (o2 (ob_elem (el_of (i := ((k0 : Nat) : Int)) (by omega) rfl hx0)) (o2 (ob_call (cb h3n (specIsValidAttrName_a a0.1))) (o1 (ob_eq (show .b (!false) = .b true from rfl))))) ?_
      exact ⟨rfl, weak_fit (by rw [h3]; first | done | kernel_rfl)⟩
    ·
      have h3n : (specIsValidAttrName a0.1) = true := bnot_f h3
      refine awp_split (!(specl01In a0.2 1 2)) (fun h4 => ?_) (fun h4 => ?_)
      ·
        have h4n : (specl01In a0.2 1 2) = false := bnot_t h4
        refine rd' tt_ok tt_mx [(43, .b true)] [7] [] [] [(2, .row [.s a0.1, .i a0.2]), (5, .val (.b true)), (6, .val (.b false)), (10, .row [.s a0.1, .i a0.2]), (13, .val (.b false)), (14, .val (.b true))] (o2 (ob_elem (el_of (i := ((k0 : Nat) : Int)) (by omega) rfl hx0)) (o2 (ob_call (cb h3n (specIsValidAttrName_a a0.1))) (o2 (ob_eq (show .b (!true) = .b false from rfl)) (o2 (ob_elem (el_of (i := ((k0 : Nat) : Int)) (by omega) rfl hx0)) (o2 (ob_call (cb h4n (specl01In_a a0.2 1 2))) (o1 (ob_eq (show .b (!false) = .b true from rfl)))))))) ?_
        exact ⟨rfl, weak_fit (by rw [h3, h4]; first | done | kernel_rfl)⟩
      ·
        have h4n : (specl01In a0.2 1 2) = true := bnot_f h4
        refine awp_split (decide (((k0 : Nat) : Int) > (0 : Int))) (fun h5 => ?_) (fun h5 => ?_)
        ·
          have h5d := of_decide_eq_true h5
          have hx6 : s_[(Int.toNat (((k0 : Nat) : Int) - 1))]? = some (nth s_ (Int.toNat (((k0 : Nat) : Int) - 1))) := nth_get (by omega)
          refine rd' tt_ok tt_mx [(43, .b (!(Op.bytesLess ((nth s_ (Int.toNat (((k0 : Nat) : Int) - 1))).1).toList a0.1.toList)))] [7] [] [] [(2, .row [.s a0.1, .i a0.2]), (5, .val (.b true)), (6, .val (.b false)), (10, .row [.s a0.1, .i a0.2]), (13, .val (.b true)), (14, .val (.b false)), (18, .val (.b true)), (22, .val (.i (((k0 : Nat) : Int) - 1))), (23, .row [.s ((nth s_ (Int.toNat (((k0 : Nat) : Int) - 1))).1), .i ((nth s_ (Int.toNat (((k0 : Nat) : Int) - 1))).2)]), (28, .row [.s a0.1, .i a0.2])] (o2 (ob_elem (el_of (i := ((k0 : Nat) : Int)) (by omega) rfl hx0)) (o2 (ob_call (cb h3n (specIsValidAttrName_a a0.1))) (o2 (ob_eq (show .b (!true) = .b false from rfl)) (o2 (ob_elem (el_of (i := ((k0 : Nat) : Int)) (by omega) rfl hx0)) (o2 (ob_call (cb h4n (specl01In_a a0.2 1 2))) (o2 (ob_eq (show .b (!true) = .b false from rfl)) (o2 (ob_eq (av_bool h5)) (o2 (ob_eq (av_i (IntWalk.i64_in (((k0 : Nat) : Int) - 1) (by omega)))) (o2 (ob_elem (el_of (i := (((k0 : Nat) : Int) - 1)) (by omega) rfl hx6)) (o1 (ob_elem (el_of (i := ((k0 : Nat) : Int)) (by omega) rfl hx0)))))))))))) ?_
          exact ⟨rfl, weak_fit (by rw [h3, h4, h5]; first | done | kernel_rfl)⟩
        ·
          have h5d := of_decide_eq_false h5
          refine rd' tt_ok tt_mx [(43, .b false)] [7] [] [] [(2, .row [.s a0.1, .i a0.2]), (5, .val (.b true)), (6, .val (.b false)), (10, .row [.s a0.1, .i a0.2]), (13, .val (.b true)), (14, .val (.b false)), (18, .val (.b false))] (o2 (ob_elem (el_of (i := ((k0 : Nat) : Int)) (by omega) rfl hx0)) (o2 (ob_call (cb h3n (specIsValidAttrName_a a0.1))) (o2 (ob_eq (show .b (!true) = .b false from rfl)) (o2 (ob_elem (el_of (i := ((k0 : Nat) : Int)) (by omega) rfl hx0)) (o2 (ob_call (cb h4n (specl01In_a a0.2 1 2))) (o2 (ob_eq (show .b (!true) = .b false from rfl)) (o1 (ob_eq (av_bool h5))))))))) ?_
          exact ⟨rfl, weak_fit (by rw [h3, h4, h5]; first | done | kernel_rfl)⟩
    refine ck ((!(specIsValidAttrName a0.1)) || ((!(specl01In a0.2 1 2)) || (decide (((k0 : Nat) : Int) > (0 : Int)) && (!(Op.bytesLess ((nth s_ (Int.toNat (((k0 : Nat) : Int) - 1))).1).toList a0.1.toList))))) (fun h7 => ?_) (fun h7 => ?_)
    ·
      refine awp_seq ?_
      refine rk tt_ok [] [43] [] [] [] (o0) ?_
      refine awp_ret ?_
      have hr8 : (forL (specIsValidSchema_f0 s_) specIsValidSchema_e0 s_ 0 ()) = .ret false := forL_ret hx0 (bif_t h7 (rfl)) hI0
      exact pret [] (congrArg (fun z => (.b z : AV)) (show specIsValidSchema s_ = false from on_r hr8).symm)
    ·
      have h7l : ((!(specIsValidAttrName a0.1))) = false := or_l h7
      have h7ln : (specIsValidAttrName a0.1) = true := bnot_f h7l
      have h7r : (((!(specl01In a0.2 1 2)) || (decide (((k0 : Nat) : Int) > (0 : Int)) && (!(Op.bytesLess ((nth s_ (Int.toNat (((k0 : Nat) : Int) - 1))).1).toList a0.1.toList))))) = false := or_r h7
      have h7rl : ((!(specl01In a0.2 1 2))) = false := or_l h7r
      have h7rln : (specl01In a0.2 1 2) = true := bnot_f h7rl
      have h7rr : ((decide (((k0 : Nat) : Int) > (0 : Int)) && (!(Op.bytesLess ((nth s_ (Int.toNat (((k0 : Nat) : Int) - 1))).1).toList a0.1.toList)))) = false := or_r h7r
      refine awp_skip ?_
      refine rk tt_ok [(3, .i ((k0 + 1 : Nat) : Int))] [3, 43] [] [] [(1, .val (.i ((k0 + 1 : Nat) : Int)))] (o1 (ob_eq (av_i (wrap_succ k0 (by omega))))) ?_
      exact Exists.intro () (And.intro (weak_fit (by kernel_rfl)) (forL_next hx0 (bif_f h7 (rfl)) hI0))
  ·
    refine awp_seq ?_
    refine awp_seq ?_
    refine rk tt_ok [(7, .b false)] [] [] [] [(2, .val (.i (s_.length : Int))), (3, .val (.b false))] (o2 (ob_eq (av_len s_)) (o1 (ob_eq (av_bool (decide_eq_false (p := ((k0 : Nat) : Int) < (s_.length : Int)) (by omega)))))) ?_
    refine ckF ?_
    refine awp_exit ?_
    exact Exists.intro () (And.intro (weak_fit (by kernel_rfl)) (forL_end hk0 (rfl) hI0))
  ·
    refine awp_seq ?_
    refine rk tt_ok [(2, .b (decide ((s_.length : Int) ≤ (5 : Int))))] [0, 2] [] [] [(1, .val (.i (s_.length : Int)))] (o1 (ob_eq (av_len s_))) ?_
    refine awp_ret ?_
    exact pret [] (congrArg (fun z => (.b z : AV)) (show specIsValidSchema s_ = decide ((s_.length : Int) ≤ (5 : Int)) from on_b hD0 (rfl)).symm)
def specIsValidFile_f0 (s_ : (List FieldD)) (f : FileD) (k0 : Nat) (a0 : AttrD) (_ : Unit) : Rd (Bool) (Unit) (Unit) := (bif ((!(specMatchesSchema s_ a0.1 a0.2)) || (decide (((k0 : Nat) : Int) > (0 : Int)) && (!(Op.bytesLess ((nth f.2.2.2.2 (Int.toNat (((k0 : Nat) : Int) - 1))).1).toList a0.1.toList)))) then (.ret false) else (.next ()))
def specIsValidFile_e0 (_ : Nat) (_ : Unit) : Unit := ()
def specIsValidFile (s_ : (List FieldD)) (f : FileD) : Bool := (Out.on (forL (specIsValidFile_f0 s_ f) specIsValidFile_e0 f.2.2.2.2 0 ()) (fun _ => ((specIsValidSchema s_) && ((specl01In f.1 1 60) && ((specl01In f.2.1 0 2) && (specl01In f.2.2.2.1 0 60))))))
theorem specIsValidFile_a (s_ : (List FieldD)) (f : FileD) : ACalls Try.prog 70 [.h s_, .a [.i f.1, .i f.2.1, .b f.2.2.1, .i f.2.2.2.1, .h f.2.2.2.2]] (.b (specIsValidFile s_ f)) := by
  refine acalls_of (tt := tt) tt_ok Try.func70 (fn := Try.f70) rfl (by unfold FnOk; kernel_rfl) (Nat.le_of_ble_eq_true rfl) fun w0 F0 hG => ?_
  refine awp_seq ?_
  refine rk tt_ok [(3, .p 3 0), (4, .b false)] [1] [(3, [.i f.1, .i f.2.1, .b f.2.2.1, .i f.2.2.2.1, .h f.2.2.2.2])] [] [] (o0) ?_
  refine awp_seq ?_
  refine awp_seq ?_
  refine rk tt_ok [(5, .i 0)] [] [] [] [] (o0) ?_
  refine wdB 3 4 .sh f.2.2.2.2 (fun hw1 => ?_)
  have hl2 : List.length f.2.2.2.2 ≤ 1073741824 := wide_len (hw1)
  refine blk (fun (k0 : Nat) (s0 : Unit) => [(5, .i ((k0 : Nat) : Int))]) [5] (fun k0 s0 => []) [] (fun (y0 : Unit) => []) [5] (fun y0 => []) [] (fun (k0 : Nat) (s0 : Unit) => (forL (specIsValidFile_f0 s_ f) specIsValidFile_e0 f.2.2.2.2 0 ()) = forL (specIsValidFile_f0 s_ f) specIsValidFile_e0 (List.drop k0 f.2.2.2.2) k0 s0) (fun (y0 : Unit) => (forL (specIsValidFile_f0 s_ f) specIsValidFile_e0 f.2.2.2.2 0 ()) = .brk y0) f.2.2.2.2.length () (weak_fit (by kernel_rfl)) rfl (fun k0 s0 hk0 hI0 => ?_) (fun k0 s0 hk0 hI0 => ?_) (fun y0 hD0 => ?_)
  ·
    obtain ⟨a0, hx0⟩ := get_some (l := f.2.2.2.2) (i := k0) hk0
    refine awp_seq ?_
    refine awp_seq ?_
    refine rk tt_ok [(10, .b true)] [] [] [] [(3, .val (.i (f.2.2.2.2.length : Int))), (4, .val (.b true))] (o2 (ob_eq (av_len f.2.2.2.2)) (o1 (ob_eq (av_bool (decide_eq_true (p := ((k0 : Nat) : Int) < (f.2.2.2.2.length : Int)) (by omega)))))) ?_
    refine ckT ?_
    refine awp_skip ?_
    refine awp_seq ?_
    refine awp_block ?_
    refine awp_seq ?_
    refine jn [(47, .b ((!(specMatchesSchema s_ a0.1 a0.2)) || (decide (((k0 : Nat) : Int) > (0 : Int)) && (!(Op.bytesLess ((nth f.2.2.2.2 (Int.toNat (((k0 : Nat) : Int) - 1))).1).toList a0.1.toList)))))] [10] [] [] (!(specMatchesSchema s_ a0.1 a0.2)) (fun h3 => ?_) (fun h3 => ?_) ?_
    ·
      have h3n : (specMatchesSchema s_ a0.1 a0.2) = false := bnot_t h3
      refine rd' tt_ok tt_mx [(47, .b true)] [10] [] [] [(4, .row [.s a0.1, .i a0.2.1, .i a0.2.2.1, .s a0.2.2.2]), (10, .row [.s a0.1, .i a0.2.1, .i a0.2.2.1, .s a0.2.2.2]), (13, .val (.b false)), (14, .val (.b true))] (o2 (ob_elem (el_of (i := ((k0 : Nat) : Int)) (by omega) rfl hx0)) (o2 (ob_elem (el_of (i := ((k0 : Nat) : Int)) (by omega) rfl hx0)) (o2 (ob_call (cb h3n (specMatchesSchema_a s_ a0.1 a0.2))) (o1 (ob_eq (show .b (!false) = .b true from rfl)))))) ?_
      exact ⟨rfl, weak_fit (by rw [h3]; first | done | kernel_rfl)⟩
    ·
      have h3n : (specMatchesSchema s_ a0.1 a0.2) = true := bnot_f h3
      refine awp_split (decide (((k0 : Nat) : Int) > (0 : Int))) (fun h4 => ?_) (fun h4 => ?_)
      ·
        have h4d := of_decide_eq_true h4
        have hx5 : f.2.2.2.2[(Int.toNat (((k0 : Nat) : Int) - 1))]? = some (nth f.2.2.2.2 (Int.toNat (((k0 : Nat) : Int) - 1))) := nth_get (by omega)
        refine rd' tt_ok tt_mx [(47, .b (!(Op.bytesLess ((nth f.2.2.2.2 (Int.toNat (((k0 : Nat) : Int) - 1))).1).toList a0.1.toList)))] [10] [] [] [(4, .row [.s a0.1, .i a0.2.1, .i a0.2.2.1, .s a0.2.2.2]), (10, .row [.s a0.1, .i a0.2.1, .i a0.2.2.1, .s a0.2.2.2]), (13, .val (.b true)), (14, .val (.b false)), (17, .val (.b true)), (22, .val (.i (((k0 : Nat) : Int) - 1))), (23, .row [.s ((nth f.2.2.2.2 (Int.toNat (((k0 : Nat) : Int) - 1))).1), .i ((nth f.2.2.2.2 (Int.toNat (((k0 : Nat) : Int) - 1))).2.1), .i ((nth f.2.2.2.2 (Int.toNat (((k0 : Nat) : Int) - 1))).2.2.1), .s ((nth f.2.2.2.2 (Int.toNat (((k0 : Nat) : Int) - 1))).2.2.2)]), (29, .row [.s a0.1, .i a0.2.1, .i a0.2.2.1, .s a0.2.2.2])] (o2 (ob_elem (el_of (i := ((k0 : Nat) : Int)) (by omega) rfl hx0)) (o2 (ob_elem (el_of (i := ((k0 : Nat) : Int)) (by omega) rfl hx0)) (o2 (ob_call (cb h3n (specMatchesSchema_a s_ a0.1 a0.2))) (o2 (ob_eq (show .b (!true) = .b false from rfl)) (o2 (ob_eq (av_bool h4)) (o2 (ob_eq (av_i (IntWalk.i64_in (((k0 : Nat) : Int) - 1) (by omega)))) (o2 (ob_elem (el_of (i := (((k0 : Nat) : Int) - 1)) (by omega) rfl hx5)) (o1 (ob_elem (el_of (i := ((k0 : Nat) : Int)) (by omega) rfl hx0)))))))))) ?_
        exact ⟨rfl, weak_fit (by rw [h3, h4]; first | done | kernel_rfl)⟩
      ·
        have h4d := of_decide_eq_false h4
        refine rd' tt_ok tt_mx [(47, .b false)] [10] [] [] [(4, .row [.s a0.1, .i a0.2.1, .i a0.2.2.1, .s a0.2.2.2]), (10, .row [.s a0.1, .i a0.2.1, .i a0.2.2.1, .s a0.2.2.2]), (13, .val (.b true)), (14, .val (.b false)), (17, .val (.b false))] (o2 (ob_elem (el_of (i := ((k0 : Nat) : Int)) (by omega) rfl hx0)) (o2 (ob_elem (el_of (i := ((k0 : Nat) : Int)) (by omega) rfl hx0)) (o2 (ob_call (cb h3n (specMatchesSchema_a s_ a0.1 a0.2))) (o2 (ob_eq (show .b (!true) = .b false from rfl)) (o1 (ob_eq (av_bool h4))))))) ?_
        exact ⟨rfl, weak_fit (by rw [h3, h4]; first | done | kernel_rfl)⟩
    refine ck ((!(specMatchesSchema s_ a0.1 a0.2)) || (decide (((k0 : Nat) : Int) > (0 : Int)) && (!(Op.bytesLess ((nth f.2.2.2.2 (Int.toNat (((k0 : Nat) : Int) - 1))).1).toList a0.1.toList)))) (fun h6 => ?_) (fun h6 => ?_)
    ·
      refine awp_seq ?_
      refine rk tt_ok [] [47] [] [] [] (o0) ?_
      refine awp_ret ?_
      have hr7 : (forL (specIsValidFile_f0 s_ f) specIsValidFile_e0 f.2.2.2.2 0 ()) = .ret false := forL_ret hx0 (bif_t h6 (rfl)) hI0
      exact pret [] (congrArg (fun z => (.b z : AV)) (show specIsValidFile s_ f = false from on_r hr7).symm)
    ·
      have h6l : ((!(specMatchesSchema s_ a0.1 a0.2))) = false := or_l h6
      have h6ln : (specMatchesSchema s_ a0.1 a0.2) = true := bnot_f h6l
      have h6r : ((decide (((k0 : Nat) : Int) > (0 : Int)) && (!(Op.bytesLess ((nth f.2.2.2.2 (Int.toNat (((k0 : Nat) : Int) - 1))).1).toList a0.1.toList)))) = false := or_r h6
      refine awp_skip ?_
      refine rk tt_ok [(5, .i ((k0 + 1 : Nat) : Int))] [5, 47] [] [] [(1, .val (.i ((k0 + 1 : Nat) : Int)))] (o1 (ob_eq (av_i (wrap_succ k0 (by omega))))) ?_
      exact Exists.intro () (And.intro (weak_fit (by kernel_rfl)) (forL_next hx0 (bif_f h6 (rfl)) hI0))
  ·
    refine awp_seq ?_
    refine awp_seq ?_
    refine rk tt_ok [(10, .b false)] [] [] [] [(3, .val (.i (f.2.2.2.2.length : Int))), (4, .val (.b false))] (o2 (ob_eq (av_len f.2.2.2.2)) (o1 (ob_eq (av_bool (decide_eq_false (p := ((k0 : Nat) : Int) < (f.2.2.2.2.length : Int)) (by omega)))))) ?_
    refine ckF ?_
    refine awp_exit ?_
    exact Exists.intro () (And.intro (weak_fit (by kernel_rfl)) (forL_end hk0 (rfl) hI0))
  ·
    refine awp_seq ?_
    refine jn [(4, .b ((specIsValidSchema s_) && ((specl01In f.1 1 60) && ((specl01In f.2.1 0 2) && (specl01In f.2.2.2.1 0 60)))))] [0, 3, 4] [] [3] (specIsValidSchema s_) (fun h8 => ?_) (fun h8 => ?_) ?_
    ·
      refine awp_split (specl01In f.1 1 60) (fun h9 => ?_) (fun h9 => ?_)
      ·
        refine awp_split (specl01In f.2.1 0 2) (fun h10 => ?_) (fun h10 => ?_)
        ·
          refine rk tt_ok [(4, .b (specl01In f.2.2.2.1 0 60))] [0, 3, 4] [] [3] [(1, .val (.b true)), (5, .val (.b true)), (10, .val (.b true)), (15, .val (.b (specl01In f.2.2.2.1 0 60)))] (o2 (ob_call (cb h8 (specIsValidSchema_a s_))) (o2 (ob_call (cb h9 (specl01In_a f.1 1 60))) (o2 (ob_call (cb h10 (specl01In_a f.2.1 0 2))) (o1 (ob_call (specl01In_a f.2.2.2.1 0 60)))))) ?_
          exact ⟨rfl, weak_fit (by rw [h8, h9, h10]; first | done | kernel_rfl)⟩
        ·
          refine rk tt_ok [] [0, 3] [] [3] [(1, .val (.b true)), (5, .val (.b true)), (10, .val (.b false))] (o2 (ob_call (cb h8 (specIsValidSchema_a s_))) (o2 (ob_call (cb h9 (specl01In_a f.1 1 60))) (o1 (ob_call (cb h10 (specl01In_a f.2.1 0 2)))))) ?_
          exact ⟨rfl, weak_fit (by rw [h8, h9, h10]; first | done | kernel_rfl)⟩
      ·
        refine rk tt_ok [] [0, 3] [] [3] [(1, .val (.b true)), (5, .val (.b false))] (o2 (ob_call (cb h8 (specIsValidSchema_a s_))) (o1 (ob_call (cb h9 (specl01In_a f.1 1 60))))) ?_
        exact ⟨rfl, weak_fit (by rw [h8, h9]; first | done | kernel_rfl)⟩
    ·
      refine rk tt_ok [] [0, 3] [] [3] [(1, .val (.b false))] (o1 (ob_call (cb h8 (specIsValidSchema_a s_)))) ?_
      exact ⟨rfl, weak_fit (by rw [h8]; first | done | kernel_rfl)⟩
    refine awp_ret ?_
    exact pret [] (congrArg (fun z => (.b z : AV)) (show specIsValidFile s_ f = ((specIsValidSchema s_) && ((specl01In f.1 1 60) && ((specl01In f.2.1 0 2) && (specl01In f.2.2.2.1 0 60)))) from on_b hD0 (rfl)).symm)
def specIsValidStore_f0 (s_ : StoreD) (k0 : Nat) (a0 : FileD) (_ : Unit) : Rd (Bool) (Unit) (Unit) := (bif ((!(specIsValidFile s_.1 a0)) || (decide (a0.1 ≥ s_.2.2) || (decide (((k0 : Nat) : Int) > (0 : Int)) && decide ((nth s_.2.1 (Int.toNat (((k0 : Nat) : Int) - 1))).1 ≥ a0.1)))) then (.ret false) else (.next ()))
def specIsValidStore_e0 (_ : Nat) (_ : Unit) : Unit := ()
def specIsValidStore (s_ : StoreD) : Bool := (Out.on (forL (specIsValidStore_f0 s_) specIsValidStore_e0 s_.2.1 0 ()) (fun _ => ((specIsValidSchema s_.1) && (decide ((s_.2.1.length : Int) ≤ (12 : Int)) && (specl01In s_.2.2 1 61)))))
theorem specIsValidStore_a (s_ : StoreD) : ACalls Try.prog 69 [.a [.h s_.1, .h s_.2.1, .i s_.2.2]] (.b (specIsValidStore s_)) := by
  refine acalls_of (tt := tt) tt_ok Try.func69 (fn := Try.f69) rfl (by unfold FnOk; kernel_rfl) (Nat.le_of_ble_eq_true rfl) fun w0 F0 hG => ?_
  refine awp_seq ?_
  refine rk tt_ok [(1, .p 1 0), (2, .b false)] [0] [(1, [.h s_.1, .h s_.2.1, .i s_.2.2])] [] [] (o0) ?_
  refine awp_seq ?_
  refine awp_seq ?_
  refine rk tt_ok [(3, .i 0)] [] [] [] [] (o0) ?_
  refine wdB 1 1 .sh s_.2.1 (fun hw1 => ?_)
  have hl2 : List.length s_.2.1 ≤ 1073741824 := wide_len (hw1)
  refine blk (fun (k0 : Nat) (s0 : Unit) => [(3, .i ((k0 : Nat) : Int))]) [3] (fun k0 s0 => []) [] (fun (y0 : Unit) => []) [3] (fun y0 => []) [] (fun (k0 : Nat) (s0 : Unit) => (forL (specIsValidStore_f0 s_) specIsValidStore_e0 s_.2.1 0 ()) = forL (specIsValidStore_f0 s_) specIsValidStore_e0 (List.drop k0 s_.2.1) k0 s0) (fun (y0 : Unit) => (forL (specIsValidStore_f0 s_) specIsValidStore_e0 s_.2.1 0 ()) = .brk y0) s_.2.1.length () (weak_fit (by kernel_rfl)) rfl (fun k0 s0 hk0 hI0 => ?_) (fun k0 s0 hk0 hI0 => ?_) (fun y0 hD0 => ?_)
  ·
    obtain ⟨a0, hx0⟩ := get_some (l := s_.2.1) (i := k0) hk0
    refine awp_seq ?_
    refine awp_seq ?_
    refine rk tt_ok [(8, .b true)] [] [] [] [(3, .val (.i (s_.2.1.length : Int))), (4, .val (.b true))] (o2 (ob_eq (av_len s_.2.1)) (o1 (ob_eq (av_bool (decide_eq_true (p := ((k0 : Nat) : Int) < (s_.2.1.length : Int)) (by omega)))))) ?_
    refine ckT ?_
    refine awp_skip ?_
    refine awp_seq ?_
    refine awp_block ?_
    refine awp_seq ?_
    refine jn [(50, .b ((!(specIsValidFile s_.1 a0)) || (decide (a0.1 ≥ s_.2.2) || (decide (((k0 : Nat) : Int) > (0 : Int)) && decide ((nth s_.2.1 (Int.toNat (((k0 : Nat) : Int) - 1))).1 ≥ a0.1)))))] [8] [] [] (!(specIsValidFile s_.1 a0)) (fun h3 => ?_) (fun h3 => ?_) ?_
    ·
      have h3n : (specIsValidFile s_.1 a0) = false := bnot_t h3
      refine rd' tt_ok tt_mx [(50, .b true)] [8] [] [] [(5, .row [.i a0.1, .i a0.2.1, .b a0.2.2.1, .i a0.2.2.2.1, .h a0.2.2.2.2]), (7, .val (.b false)), (8, .val (.b true))] (o2 (ob_elem (el_of (i := ((k0 : Nat) : Int)) (by omega) rfl hx0)) (o2 (ob_call (cb h3n (specIsValidFile_a s_.1 a0))) (o1 (ob_eq (show .b (!false) = .b true from rfl))))) ?_
      exact ⟨rfl, weak_fit (by rw [h3]; first | done | kernel_rfl)⟩
    ·
      have h3n : (specIsValidFile s_.1 a0) = true := bnot_f h3
      refine awp_split (decide (a0.1 ≥ s_.2.2)) (fun h4 => ?_) (fun h4 => ?_)
      ·
        have h4d := of_decide_eq_true h4
        refine rd' tt_ok tt_mx [(50, .b true)] [8] [] [] [(5, .row [.i a0.1, .i a0.2.1, .b a0.2.2.1, .i a0.2.2.2.1, .h a0.2.2.2.2]), (7, .val (.b true)), (8, .val (.b false)), (13, .row [.i a0.1, .i a0.2.1, .b a0.2.2.1, .i a0.2.2.2.1, .h a0.2.2.2.2]), (18, .val (.b true))] (o2 (ob_elem (el_of (i := ((k0 : Nat) : Int)) (by omega) rfl hx0)) (o2 (ob_call (cb h3n (specIsValidFile_a s_.1 a0))) (o2 (ob_eq (show .b (!true) = .b false from rfl)) (o2 (ob_elem (el_of (i := ((k0 : Nat) : Int)) (by omega) rfl hx0)) (o1 (ob_eq (av_bool h4))))))) ?_
        exact ⟨rfl, weak_fit (by rw [h3, h4]; first | done | kernel_rfl)⟩
      ·
        have h4d := of_decide_eq_false h4
        refine awp_split (decide (((k0 : Nat) : Int) > (0 : Int))) (fun h5 => ?_) (fun h5 => ?_)
        ·
          have h5d := of_decide_eq_true h5
          have hx6 : s_.2.1[(Int.toNat (((k0 : Nat) : Int) - 1))]? = some (nth s_.2.1 (Int.toNat (((k0 : Nat) : Int) - 1))) := nth_get (by omega)
          refine rd' tt_ok tt_mx [(50, .b (decide ((nth s_.2.1 (Int.toNat (((k0 : Nat) : Int) - 1))).1 ≥ a0.1)))] [8] [] [] [(5, .row [.i a0.1, .i a0.2.1, .b a0.2.2.1, .i a0.2.2.2.1, .h a0.2.2.2.2]), (7, .val (.b true)), (8, .val (.b false)), (13, .row [.i a0.1, .i a0.2.1, .b a0.2.2.1, .i a0.2.2.2.1, .h a0.2.2.2.2]), (18, .val (.b false)), (22, .val (.b true)), (27, .val (.i (((k0 : Nat) : Int) - 1))), (28, .row [.i ((nth s_.2.1 (Int.toNat (((k0 : Nat) : Int) - 1))).1), .i ((nth s_.2.1 (Int.toNat (((k0 : Nat) : Int) - 1))).2.1), .b ((nth s_.2.1 (Int.toNat (((k0 : Nat) : Int) - 1))).2.2.1), .i ((nth s_.2.1 (Int.toNat (((k0 : Nat) : Int) - 1))).2.2.2.1), .h ((nth s_.2.1 (Int.toNat (((k0 : Nat) : Int) - 1))).2.2.2.2)]), (34, .row [.i a0.1, .i a0.2.1, .b a0.2.2.1, .i a0.2.2.2.1, .h a0.2.2.2.2])] (o2 (ob_elem (el_of (i := ((k0 : Nat) : Int)) (by omega) rfl hx0)) (o2 (ob_call (cb h3n (specIsValidFile_a s_.1 a0))) (o2 (ob_eq (show .b (!true) = .b false from rfl)) (o2 (ob_elem (el_of (i := ((k0 : Nat) : Int)) (by omega) rfl hx0)) (o2 (ob_eq (av_bool h4)) (o2 (ob_eq (av_bool h5)) (o2 (ob_eq (av_i (IntWalk.i64_in (((k0 : Nat) : Int) - 1) (by omega)))) (o2 (ob_elem (el_of (i := (((k0 : Nat) : Int) - 1)) (by omega) rfl hx6)) (o1 (ob_elem (el_of (i := ((k0 : Nat) : Int)) (by omega) rfl hx0))))))))))) ?_
          exact ⟨rfl, weak_fit (by rw [h3, h4, h5]; first | done | kernel_rfl)⟩
        ·
          have h5d := of_decide_eq_false h5
          refine rd' tt_ok tt_mx [(50, .b false)] [8] [] [] [(5, .row [.i a0.1, .i a0.2.1, .b a0.2.2.1, .i a0.2.2.2.1, .h a0.2.2.2.2]), (7, .val (.b true)), (8, .val (.b false)), (13, .row [.i a0.1, .i a0.2.1, .b a0.2.2.1, .i a0.2.2.2.1, .h a0.2.2.2.2]), (18, .val (.b false)), (22, .val (.b false))] (o2 (ob_elem (el_of (i := ((k0 : Nat) : Int)) (by omega) rfl hx0)) (o2 (ob_call (cb h3n (specIsValidFile_a s_.1 a0))) (o2 (ob_eq (show .b (!true) = .b false from rfl)) (o2 (ob_elem (el_of (i := ((k0 : Nat) : Int)) (by omega) rfl hx0)) (o2 (ob_eq (av_bool h4)) (o1 (ob_eq (av_bool h5)))))))) ?_
          exact ⟨rfl, weak_fit (by rw [h3, h4, h5]; first | done | kernel_rfl)⟩
    refine ck ((!(specIsValidFile s_.1 a0)) || (decide (a0.1 ≥ s_.2.2) || (decide (((k0 : Nat) : Int) > (0 : Int)) && decide ((nth s_.2.1 (Int.toNat (((k0 : Nat) : Int) - 1))).1 ≥ a0.1)))) (fun h7 => ?_) (fun h7 => ?_)
    ·
      refine awp_seq ?_
      refine rk tt_ok [] [50] [] [] [] (o0) ?_
      refine awp_ret ?_
      have hr8 : (forL (specIsValidStore_f0 s_) specIsValidStore_e0 s_.2.1 0 ()) = .ret false := forL_ret hx0 (bif_t h7 (rfl)) hI0
      exact pret [] (congrArg (fun z => (.b z : AV)) (show specIsValidStore s_ = false from on_r hr8).symm)
    ·
      have h7l : ((!(specIsValidFile s_.1 a0))) = false := or_l h7
      have h7ln : (specIsValidFile s_.1 a0) = true := bnot_f h7l
      have h7r : ((decide (a0.1 ≥ s_.2.2) || (decide (((k0 : Nat) : Int) > (0 : Int)) && decide ((nth s_.2.1 (Int.toNat (((k0 : Nat) : Int) - 1))).1 ≥ a0.1)))) = false := or_r h7
      have h7rl : (decide (a0.1 ≥ s_.2.2)) = false := or_l h7r
      have h7rld := of_decide_eq_false h7rl
      have h7rr : ((decide (((k0 : Nat) : Int) > (0 : Int)) && decide ((nth s_.2.1 (Int.toNat (((k0 : Nat) : Int) - 1))).1 ≥ a0.1))) = false := or_r h7r
      refine awp_skip ?_
      refine rk tt_ok [(3, .i ((k0 + 1 : Nat) : Int))] [3, 50] [] [] [(1, .val (.i ((k0 + 1 : Nat) : Int)))] (o1 (ob_eq (av_i (wrap_succ k0 (by omega))))) ?_
      exact Exists.intro () (And.intro (weak_fit (by kernel_rfl)) (forL_next hx0 (bif_f h7 (rfl)) hI0))
  ·
    refine awp_seq ?_
    refine awp_seq ?_
    refine rk tt_ok [(8, .b false)] [] [] [] [(3, .val (.i (s_.2.1.length : Int))), (4, .val (.b false))] (o2 (ob_eq (av_len s_.2.1)) (o1 (ob_eq (av_bool (decide_eq_false (p := ((k0 : Nat) : Int) < (s_.2.1.length : Int)) (by omega)))))) ?_
    refine ckF ?_
    refine awp_exit ?_
    exact Exists.intro () (And.intro (weak_fit (by kernel_rfl)) (forL_end hk0 (rfl) hI0))
  ·
    refine awp_seq ?_
    refine jn [(2, .b ((specIsValidSchema s_.1) && (decide ((s_.2.1.length : Int) ≤ (12 : Int)) && (specl01In s_.2.2 1 61))))] [1, 2] [] [1] (specIsValidSchema s_.1) (fun h9 => ?_) (fun h9 => ?_) ?_
    ·
      refine awp_split (decide ((s_.2.1.length : Int) ≤ (12 : Int))) (fun h10 => ?_) (fun h10 => ?_)
      ·
        have h10d := of_decide_eq_true h10
        refine rk tt_ok [(2, .b (specl01In s_.2.2 1 61))] [1, 2] [] [1] [(2, .val (.b true)), (6, .val (.i (s_.2.1.length : Int))), (7, .val (.b true)), (12, .val (.b (specl01In s_.2.2 1 61)))] (o2 (ob_call (cb h9 (specIsValidSchema_a s_.1))) (o2 (ob_eq (av_len s_.2.1)) (o2 (ob_eq (av_bool h10)) (o1 (ob_call (specl01In_a s_.2.2 1 61)))))) ?_
        exact ⟨rfl, weak_fit (by rw [h9, h10]; first | done | kernel_rfl)⟩
      ·
        have h10d := of_decide_eq_false h10
        refine rk tt_ok [] [1] [] [1] [(2, .val (.b true)), (6, .val (.i (s_.2.1.length : Int))), (7, .val (.b false))] (o2 (ob_call (cb h9 (specIsValidSchema_a s_.1))) (o2 (ob_eq (av_len s_.2.1)) (o1 (ob_eq (av_bool h10))))) ?_
        exact ⟨rfl, weak_fit (by rw [h9, h10]; first | done | kernel_rfl)⟩
    ·
      refine rk tt_ok [] [1] [] [1] [(2, .val (.b false))] (o1 (ob_call (cb h9 (specIsValidSchema_a s_.1)))) ?_
      exact ⟨rfl, weak_fit (by rw [h9]; first | done | kernel_rfl)⟩
    refine awp_ret ?_
    exact pret [] (congrArg (fun z => (.b z : AV)) (show specIsValidStore s_ = ((specIsValidSchema s_.1) && (decide ((s_.2.1.length : Int) ≤ (12 : Int)) && (specl01In s_.2.2 1 61))) from on_b hD0 (rfl)).symm)
def specCreateFile (s_ : StoreD) (f : FileD) : StoreD × Int × Bool := (bif ((!(specIsValidStore (specl05Copy s_))) || (decide ((((specl05Copy s_).2.1).length : Int) ≥ (12 : Int)) || (!(specIsValidFile ((specl05Copy s_).1) ((specl05Copy s_).2.2, (specl04Copy f).2.1, (specl04Copy f).2.2.1, (specl04Copy f).2.2.2.1, (specl04Copy f).2.2.2.2))))) then ((specl05Copy s_), 0, false) else (((specl05Copy s_).1, (specl05Copy s_).2.1 ++ [((specl05Copy s_).2.2, (specl04Copy f).2.1, (specl04Copy f).2.2.1, (specl04Copy f).2.2.2.1, (specl04Copy f).2.2.2.2)], IntKind.i64.wrap ((specl05Copy s_).2.2 + 1)), (specl05Copy s_).2.2, true))
theorem specCreateFile_a (s_ : StoreD) (f : FileD) : ACalls Try.prog 36 [.a [.h s_.1, .h s_.2.1, .i s_.2.2], .a [.i f.1, .i f.2.1, .b f.2.2.1, .i f.2.2.2.1, .h f.2.2.2.2]] (.tup [(true, [.o 0 ((((specCreateFile s_ f)).1).1), .o 1 ((((specCreateFile s_ f)).1).2.1), .i ((((specCreateFile s_ f)).1).2.2)]), (false, [.i (((specCreateFile s_ f)).2.1)]), (false, [.b (((specCreateFile s_ f)).2.2)])]) := by
  refine acalls_of (tt := tt) tt_ok Try.func36 (fn := Try.f36) rfl (by unfold FnOk; kernel_rfl) (Nat.le_of_ble_eq_true rfl) fun w0 F0 hG => ?_
  refine awp_seq ?_
  refine rk tt_ok [(2, .p 2 0), (3, .p 3 0), (4, .p 4 0), (5, .i 0), (6, .b false)] [0, 1] [(2, [.h s_.1, .h s_.2.1, .i s_.2.2]), (3, [.i f.1, .i f.2.1, .b f.2.2.1, .i f.2.2.2.1, .h f.2.2.2.2]), (4, [.e 2, .e 5, .i 0])] [] [] (o0) ?_
  refine awp_seq ?_
  refine rk tt_ok [] [] [(2, [.o 512 ((specl05Copy s_).1), .o 513 ((specl05Copy s_).2.1), .i ((specl05Copy s_).2.2)])] [2] [(1, .val (.a [.o 0 ((specl05Copy s_).1), .o 1 ((specl05Copy s_).2.1), .i ((specl05Copy s_).2.2)]))] (o1 (ob_call (specl05Copy_a s_))) ?_
  refine awp_seq ?_
  refine rk tt_ok [] [] [(3, [.i ((specl04Copy f).1), .i ((specl04Copy f).2.1), .b ((specl04Copy f).2.2.1), .i ((specl04Copy f).2.2.2.1), .o 640 ((specl04Copy f).2.2.2.2)])] [3] [(1, .val (.a [.i ((specl04Copy f).1), .i ((specl04Copy f).2.1), .b ((specl04Copy f).2.2.1), .i ((specl04Copy f).2.2.2.1), .o 0 ((specl04Copy f).2.2.2.2)]))] (o1 (ob_call (specl04Copy_a f))) ?_
  refine awp_seq ?_
  refine rk tt_ok [] [] [(3, [.i ((specl05Copy s_).2.2), .i ((specl04Copy f).2.1), .b ((specl04Copy f).2.2.1), .i ((specl04Copy f).2.2.2.1), .o 640 ((specl04Copy f).2.2.2.2)])] [3] [] (o0) ?_
  refine awp_seq ?_
  refine awp_seq ?_
  refine jn [(29, .b ((!(specIsValidStore (specl05Copy s_))) || (decide ((((specl05Copy s_).2.1).length : Int) ≥ (12 : Int)) || (!(specIsValidFile ((specl05Copy s_).1) ((specl05Copy s_).2.2, (specl04Copy f).2.1, (specl04Copy f).2.2.1, (specl04Copy f).2.2.2.1, (specl04Copy f).2.2.2.2))))))] [] [] [] (!(specIsValidStore (specl05Copy s_))) (fun h1 => ?_) (fun h1 => ?_) ?_
  ·
    have h1n : (specIsValidStore (specl05Copy s_)) = false := bnot_t h1
    refine rk tt_ok [(29, .b true)] [] [] [] [(1, .val (.b false)), (2, .val (.b true))] (o2 (ob_call (cb h1n (specIsValidStore_a (specl05Copy s_)))) (o1 (ob_eq (show .b (!false) = .b true from rfl)))) ?_
    exact ⟨rfl, weak_fit (by rw [h1]; first | done | kernel_rfl)⟩
  ·
    have h1n : (specIsValidStore (specl05Copy s_)) = true := bnot_f h1
    refine awp_split (decide ((((specl05Copy s_).2.1).length : Int) ≥ (12 : Int))) (fun h2 => ?_) (fun h2 => ?_)
    ·
      have h2d := of_decide_eq_true h2
      refine rk tt_ok [(29, .b true)] [] [] [] [(1, .val (.b true)), (2, .val (.b false)), (6, .val (.i (((specl05Copy s_).2.1).length : Int))), (7, .val (.b true))] (o2 (ob_call (cb h1n (specIsValidStore_a (specl05Copy s_)))) (o2 (ob_eq (show .b (!true) = .b false from rfl)) (o2 (ob_eq (av_len ((specl05Copy s_).2.1))) (o1 (ob_eq (av_bool h2)))))) ?_
      exact ⟨rfl, weak_fit (by rw [h1, h2]; first | done | kernel_rfl)⟩
    ·
      have h2d := of_decide_eq_false h2
      refine rk tt_ok [(29, .b (!(specIsValidFile ((specl05Copy s_).1) ((specl05Copy s_).2.2, (specl04Copy f).2.1, (specl04Copy f).2.2.1, (specl04Copy f).2.2.2.1, (specl04Copy f).2.2.2.2))))] [] [] [] [(1, .val (.b true)), (2, .val (.b false)), (6, .val (.i (((specl05Copy s_).2.1).length : Int))), (7, .val (.b false)), (13, .val (.b (specIsValidFile ((specl05Copy s_).1) ((specl05Copy s_).2.2, (specl04Copy f).2.1, (specl04Copy f).2.2.1, (specl04Copy f).2.2.2.1, (specl04Copy f).2.2.2.2))))] (o2 (ob_call (cb h1n (specIsValidStore_a (specl05Copy s_)))) (o2 (ob_eq (show .b (!true) = .b false from rfl)) (o2 (ob_eq (av_len ((specl05Copy s_).2.1))) (o2 (ob_eq (av_bool h2)) (o1 (ob_call (specIsValidFile_a ((specl05Copy s_).1) ((specl05Copy s_).2.2, (specl04Copy f).2.1, (specl04Copy f).2.2.1, (specl04Copy f).2.2.2.1, (specl04Copy f).2.2.2.2)))))))) ?_
      exact ⟨rfl, weak_fit (by rw [h1, h2]; first | done | kernel_rfl)⟩
  refine ck ((!(specIsValidStore (specl05Copy s_))) || (decide ((((specl05Copy s_).2.1).length : Int) ≥ (12 : Int)) || (!(specIsValidFile ((specl05Copy s_).1) ((specl05Copy s_).2.2, (specl04Copy f).2.1, (specl04Copy f).2.2.1, (specl04Copy f).2.2.2.1, (specl04Copy f).2.2.2.2))))) (fun h3 => ?_) (fun h3 => ?_)
  ·
    refine awp_seq ?_
    refine rk tt_ok [] [29] [(4, [.o 512 ((specl05Copy s_).1), .o 513 ((specl05Copy s_).2.1), .i ((specl05Copy s_).2.2)])] [4] [] (o0) ?_
    refine awp_ret ?_
    exact pret [] (congrArg (fun z => (.tup [(true, [.o 0 z.1.1, .o 1 z.1.2.1, .i z.1.2.2]), (false, [.i z.2.1]), (false, [.b z.2.2])] : AV)) (show specCreateFile s_ f = ((specl05Copy s_), 0, false) from bif_t h3 (rfl)).symm)
  ·
    have h3l : ((!(specIsValidStore (specl05Copy s_)))) = false := or_l h3
    have h3ln : (specIsValidStore (specl05Copy s_)) = true := bnot_f h3l
    have h3r : ((decide ((((specl05Copy s_).2.1).length : Int) ≥ (12 : Int)) || (!(specIsValidFile ((specl05Copy s_).1) ((specl05Copy s_).2.2, (specl04Copy f).2.1, (specl04Copy f).2.2.1, (specl04Copy f).2.2.2.1, (specl04Copy f).2.2.2.2))))) = false := or_r h3
    have h3rl : (decide ((((specl05Copy s_).2.1).length : Int) ≥ (12 : Int))) = false := or_l h3r
    have h3rld := of_decide_eq_false h3rl
    have h3rr : ((!(specIsValidFile ((specl05Copy s_).1) ((specl05Copy s_).2.2, (specl04Copy f).2.1, (specl04Copy f).2.2.1, (specl04Copy f).2.2.2.1, (specl04Copy f).2.2.2.2)))) = false := or_r h3r
    have h3rrn : (specIsValidFile ((specl05Copy s_).1) ((specl05Copy s_).2.2, (specl04Copy f).2.1, (specl04Copy f).2.2.1, (specl04Copy f).2.2.2.1, (specl04Copy f).2.2.2.2)) = true := bnot_f h3rr
    refine awp_skip ?_
    refine awp_seq ?_
    refine wdB 2 1 (.own true 513) ((specl05Copy s_).2.1) (fun hw4 => ?_)
    have hl5 : List.length ((specl05Copy s_).2.1) ≤ 1073741824 := wide_len (hw4)
    refine rk tt_ok [] [29] [(2, [.o 512 ((specl05Copy s_).1), .slc (.own true 2240) 5 ((eL ((specl05Copy s_).2.1)) ++ [[.i ((specl05Copy s_).2.2), .i ((specl04Copy f).2.1), .b ((specl04Copy f).2.2.1), .i ((specl04Copy f).2.2.2.1), .h ((specl04Copy f).2.2.2.2)]]), .i ((specl05Copy s_).2.2)]), (3, [.i ((specl05Copy s_).2.2), .i ((specl04Copy f).2.1), .b ((specl04Copy f).2.2.1), .i ((specl04Copy f).2.2.2.1), .dead])] [2, 3] [] (o1 (ob_len (len_of (eL_length ((specl05Copy s_).2.1)) (eL_length [((specl05Copy s_).2.2, (specl04Copy f).2.1, (specl04Copy f).2.2.1, (specl04Copy f).2.2.2.1, (specl04Copy f).2.2.2.2)]) (by first | omega | (simp only [List.length_cons, List.length_nil]; omega) | (simp; omega) | simp)))) ?_
    refine eqn [] [] [(2, [.o 512 ((specl05Copy s_).1), .o 2240 ((specl05Copy s_).2.1 ++ [((specl05Copy s_).2.2, (specl04Copy f).2.1, (specl04Copy f).2.2.1, (specl04Copy f).2.2.2.1, (specl04Copy f).2.2.2.2)]), .i ((specl05Copy s_).2.2)])] [2] (by rw [show ((eL ((specl05Copy s_).2.1)) ++ [[.i ((specl05Copy s_).2.2), .i ((specl04Copy f).2.1), .b ((specl04Copy f).2.2.1), .i ((specl04Copy f).2.2.2.1), .h ((specl04Copy f).2.2.2.2)]]) = (eL ((specl05Copy s_).2.1 ++ [((specl05Copy s_).2.2, (specl04Copy f).2.1, (specl04Copy f).2.2.1, (specl04Copy f).2.2.2.1, (specl04Copy f).2.2.2.2)])) from app_eL (rfl) (rfl)]; first | done | kernel_rfl) ?_
    refine awp_seq ?_
    refine rk tt_ok [] [] [(2, [.o 512 ((specl05Copy s_).1), .o 2240 ((specl05Copy s_).2.1 ++ [((specl05Copy s_).2.2, (specl04Copy f).2.1, (specl04Copy f).2.2.1, (specl04Copy f).2.2.2.1, (specl04Copy f).2.2.2.2)]), .i (IntKind.i64.wrap ((specl05Copy s_).2.2 + 1))])] [2] [] (o0) ?_
    refine awp_seq ?_
    refine rd' tt_ok tt_mx [(5, .i ((specl05Copy s_).2.2)), (6, .b true)] [2, 3, 5, 6] [(4, [.o 512 ((specl05Copy s_).1), .o 2240 ((specl05Copy s_).2.1 ++ [((specl05Copy s_).2.2, (specl04Copy f).2.1, (specl04Copy f).2.2.1, (specl04Copy f).2.2.2.1, (specl04Copy f).2.2.2.2)]), .i (IntKind.i64.wrap ((specl05Copy s_).2.2 + 1))])] [2, 3, 4] [] (o0) ?_
    refine awp_ret ?_
    exact pret [] (congrArg (fun z => (.tup [(true, [.o 0 z.1.1, .o 1 z.1.2.1, .i z.1.2.2]), (false, [.i z.2.1]), (false, [.b z.2.2])] : AV)) (show specCreateFile s_ f = (((specl05Copy s_).1, (specl05Copy s_).2.1 ++ [((specl05Copy s_).2.2, (specl04Copy f).2.1, (specl04Copy f).2.2.1, (specl04Copy f).2.2.2.1, (specl04Copy f).2.2.2.2)], IntKind.i64.wrap ((specl05Copy s_).2.2 + 1)), (specl05Copy s_).2.2, true) from bif_f h3 (rfl)).symm)
def lawssampleStore (n : Int) : StoreD := (((specCreateFile (specNewStore specDefaultSchema) (specSetAttr (0, 0, false, 0, []) ⟨#[97]⟩ (specIntValue n)))).1)
theorem lawssampleStore_a (n : Int) : ACalls Try.prog 15 [.i n] (.a [.o 0 ((lawssampleStore n).1), .o 1 ((lawssampleStore n).2.1), .i ((lawssampleStore n).2.2)]) := by
  refine acalls_of (tt := tt) tt_ok Try.func15 (fn := Try.f15) rfl (by unfold FnOk; kernel_rfl) (Nat.le_of_ble_eq_true rfl) fun w0 F0 hG => ?_
  refine awp_seq ?_
  refine rk tt_ok [(2, .p 2 0)] [] [(2, [.e 2, .e 5, .i 0])] [] [] (o0) ?_
  refine awp_seq ?_
  refine rk tt_ok [(3, .p 3 0)] [0] [(3, [.o 832 ((((specCreateFile (specNewStore specDefaultSchema) (specSetAttr (0, 0, false, 0, []) ⟨#[97]⟩ (specIntValue n)))).1).1), .o 833 ((((specCreateFile (specNewStore specDefaultSchema) (specSetAttr (0, 0, false, 0, []) ⟨#[97]⟩ (specIntValue n)))).1).2.1), .i ((((specCreateFile (specNewStore specDefaultSchema) (specSetAttr (0, 0, false, 0, []) ⟨#[97]⟩ (specIntValue n)))).1).2.2)])] [] [(0, .val (.o 0 specDefaultSchema)), (1, .val (.a [.o 0 ((specNewStore specDefaultSchema).1), .o 1 ((specNewStore specDefaultSchema).2.1), .i ((specNewStore specDefaultSchema).2.2)])), (4, .val (.a [.i ((specIntValue n).1), .i ((specIntValue n).2.1), .s ((specIntValue n).2.2)])), (5, .val (.a [.i ((specSetAttr (0, 0, false, 0, []) ⟨#[97]⟩ (specIntValue n)).1), .i ((specSetAttr (0, 0, false, 0, []) ⟨#[97]⟩ (specIntValue n)).2.1), .b ((specSetAttr (0, 0, false, 0, []) ⟨#[97]⟩ (specIntValue n)).2.2.1), .i ((specSetAttr (0, 0, false, 0, []) ⟨#[97]⟩ (specIntValue n)).2.2.2.1), .o 0 ((specSetAttr (0, 0, false, 0, []) ⟨#[97]⟩ (specIntValue n)).2.2.2.2)])), (6, .val (.tup [(true, [.o 0 ((((specCreateFile (specNewStore specDefaultSchema) (specSetAttr (0, 0, false, 0, []) ⟨#[97]⟩ (specIntValue n)))).1).1), .o 1 ((((specCreateFile (specNewStore specDefaultSchema) (specSetAttr (0, 0, false, 0, []) ⟨#[97]⟩ (specIntValue n)))).1).2.1), .i ((((specCreateFile (specNewStore specDefaultSchema) (specSetAttr (0, 0, false, 0, []) ⟨#[97]⟩ (specIntValue n)))).1).2.2)]), (false, [.i (((specCreateFile (specNewStore specDefaultSchema) (specSetAttr (0, 0, false, 0, []) ⟨#[97]⟩ (specIntValue n)))).2.1)]), (false, [.b (((specCreateFile (specNewStore specDefaultSchema) (specSetAttr (0, 0, false, 0, []) ⟨#[97]⟩ (specIntValue n)))).2.2)])]))] (o2 (ob_call (specDefaultSchema_a)) (o2 (ob_call (specNewStore_a specDefaultSchema)) (o2 (ob_call (specIntValue_a n)) (o2 (ob_call (specSetAttr_a (0, 0, false, 0, []) ⟨#[97]⟩ (specIntValue n) (by first | omega | (simp; done) | (simp; omega)))) (o1 (ob_call (specCreateFile_a (specNewStore specDefaultSchema) (specSetAttr (0, 0, false, 0, []) ⟨#[97]⟩ (specIntValue n))))))))) ?_
  refine awp_seq ?_
  refine rk tt_ok [] [3] [(2, [.o 832 ((((specCreateFile (specNewStore specDefaultSchema) (specSetAttr (0, 0, false, 0, []) ⟨#[97]⟩ (specIntValue n)))).1).1), .o 833 ((((specCreateFile (specNewStore specDefaultSchema) (specSetAttr (0, 0, false, 0, []) ⟨#[97]⟩ (specIntValue n)))).1).2.1), .i ((((specCreateFile (specNewStore specDefaultSchema) (specSetAttr (0, 0, false, 0, []) ⟨#[97]⟩ (specIntValue n)))).1).2.2)])] [2, 3] [] (o0) ?_
  refine awp_ret ?_
  exact pret [] (congrArg (fun z => (.a [.o 0 z.1, .o 1 z.2.1, .i z.2.2] : AV)) (show lawssampleStore n = (((specCreateFile (specNewStore specDefaultSchema) (specSetAttr (0, 0, false, 0, []) ⟨#[97]⟩ (specIntValue n)))).1) from rfl).symm)
end Go.Proofs.Ytmbdajoapbcigaa
namespace Go.Proofs.Ytmbdajoapbcigaa
section
variable {φ : Type} (fs : List φ) (idOf : φ → Int)
def sel (p : φ → Bool) : List Int := (fs.filter p).map idOf
theorem filter_grow {p q : φ → Bool} : ∀ (l : List φ), (∀ f, f ∈ l → p f = true → q f = true) → (l.filter p).length ≤ (l.filter q).length ∧ ((l.filter q).length ≤ (l.filter p).length → l.filter p = l.filter q)
  | [], _ => ⟨Nat.le_refl _, fun _ => rfl⟩
  | f :: l, h => by
    obtain ⟨h1, h2⟩ := filter_grow l fun g hg => h g (List.mem_cons_of_mem _ hg)
    have h0 := h f (List.mem_cons_self ..)
    cases hp : p f with
    | true =>
      have hq := h0 hp
      simp only [List.filter_cons, hp, hq, if_true, List.length_cons]
      exact ⟨by omega, fun hl => by rw [h2 (by omega)]⟩
    | false =>
      cases hq : q f with
      | true =>
        simp only [List.filter_cons, hp, hq, if_true, List.length_cons, Bool.false_eq_true, if_false]
        exact ⟨by omega, fun hl => absurd hl (by omega)⟩
      | false =>
        simp only [List.filter_cons, hp, hq, Bool.false_eq_true, if_false]
        exact ⟨h1, h2⟩
theorem sel_len (p : φ → Bool) : (sel fs idOf p).length ≤ fs.length := by
  unfold sel; rw [List.length_map]; exact List.length_filter_le _ _
variable {fs idOf}
theorem sel_grow {p q : φ → Bool} (h : ∀ f, f ∈ fs → p f = true → q f = true) (hn : sel fs idOf p ≠ sel fs idOf q) : (sel fs idOf p).length + 1 ≤ (sel fs idOf q).length := by
  obtain ⟨h1, h2⟩ := filter_grow fs h
  unfold sel at hn ⊢
  rw [List.length_map, List.length_map]
  refine Nat.lt_of_le_of_ne h1 fun e => hn ?_
  rw [h2 (by omega)]
theorem sel_sub {p q : φ → Bool} (h : ∀ f, f ∈ fs → p f = true → q f = true) {x : Int} (hx : x ∈ sel fs idOf p) : x ∈ sel fs idOf q := by
  unfold sel at hx ⊢
  obtain ⟨f, hf, rfl⟩ := List.mem_map.1 hx
  obtain ⟨h1, h2⟩ := List.mem_filter.1 hf
  exact List.mem_map.2 ⟨f, List.mem_filter.2 ⟨h1, h f h1 h2⟩, rfl⟩
end
abbrev CD := ByteArray × List Int
def putC (out : List CD) (k : Nat) (ids : List Int) : List CD := out.set k ((nth out k).1, ids)
theorem nth_setC {out : List CD} {k : Nat} (x : CD) (hk : k < out.length) (j : Nat) : nth (out.set k x) j = if j = k then x else nth out j := by
  unfold nth
  simp only [List.getD_eq_getElem?_getD, List.getElem?_set]
  by_cases h : k = j
  · subst h; simp [hk]
  · simp [h, Ne.symm h]
theorem nth_map1 {out : List CD} {k : Nat} (hk : k < out.length) : nth (out.map (·.1)) k = (nth out k).1 := by
  simp [nth, List.getD, hk]
theorem putC_names {out : List CD} {k : Nat} (ids : List Int) (hk : k < out.length) : (putC out k ids).map (·.1) = out.map (·.1) := by
  unfold putC
  rw [List.map_set]
  refine List.ext_getElem (by simp) fun i h1 h2 => ?_
  rw [List.getElem_set]
  split
  · rename_i h; subst h; simp [nth, List.getD, hk]
  · rfl
def room (B : Nat) (act : Nat → Bool) : Nat → List CD → Nat
  | _, [] => 0
  | k, r :: l => (bif act k then B - r.2.length else 0) + room B act (k + 1) l
theorem room_le (B : Nat) (act : Nat → Bool) : ∀ (l : List CD) (k : Nat), room B act k l ≤ l.length * B
  | [], k => by simp [room]
  | r :: l, k => by
    have := room_le B act l (k + 1)
    simp only [room, List.length_cons, Nat.add_mul, Nat.one_mul]
    cases act k with
    | true => simp only [cond_true]; omega
    | false => simp only [cond_false]; omega
theorem room_set (B : Nat) (act : Nat → Bool) (x : CD) : ∀ (l : List CD) (k i : Nat), i < l.length → act (k + i) = true → (nth l i).2.length + 1 ≤ x.2.length → x.2.length ≤ B → room B act k (l.set i x) + 1 ≤ room B act k l
  | [], k, i, hi, _, _, _ => by simp at hi
  | r :: l, k, 0, _, ha, h1, h2 => by
    have e : nth (r :: l) 0 = r := rfl
    rw [e] at h1
    rw [Nat.add_zero] at ha
    simp only [List.set, room, ha, cond_true]
    omega
  | r :: l, k, i + 1, hi, ha, h1, h2 => by
    have := room_set B act x l (k + 1) i (by simpa using hi) (by rwa [show k + 1 + i = k + (i + 1) by omega]) h1 h2
    simp only [List.set, room]
    omega
section
variable {φ : Type} {fs : List φ} {idOf : φ → Int} (m : Nat → List CD → φ → Bool) (act : Nat → Bool)
def LeC (a b : List CD) : Prop := ∀ j, (∀ x, x ∈ (nth a j).2 → x ∈ (nth b j).2) ∧ (act j = false → (nth a j).2 = (nth b j).2)
variable (fs idOf)
def GoodC (out : List CD) : Prop := ∀ k, k < out.length → act k = true → ∃ p : φ → Bool, (nth out k).2 = sel fs idOf p ∧ ∀ f, f ∈ fs → p f = true → m k out f = true
def MonoC (nm : List ByteArray) : Prop := ∀ a b : List CD, a.map (·.1) = nm → b.map (·.1) = nm → LeC act a b → ∀ k, k < nm.length → act k = true → ∀ f, f ∈ fs → m k a f = true → m k b f = true
def stepC (s : List CD × Bool) (k : Nat) : List CD × Bool := bif act k then (if sel fs idOf (m k s.1) = (nth s.1 k).2 then s else (putC s.1 k (sel fs idOf (m k s.1)), true)) else s
def passC (ks : List Nat) (s : List CD × Bool) : List CD × Bool := ks.foldl (stepC fs idOf m act) s
variable {fs idOf m act} {nm : List ByteArray}
structure StateC (fs : List φ) (idOf : φ → Int) (m : Nat → List CD → φ → Bool) (act : Nat → Bool) (nm : List ByteArray) (o out : List CD) : Prop where
  names : out.map (·.1) = nm
  good : GoodC fs idOf m act out
  rest : ∀ j, act j = false → nth out j = nth o j
theorem stepC_ok (hm : MonoC fs m act nm) {o : List CD} {s : List CD × Bool} (h : StateC fs idOf m act nm o s.1) {k : Nat} (hk : k < nm.length) :
    StateC fs idOf m act nm o (stepC fs idOf m act s k).1 ∧ room fs.length act 0 (stepC fs idOf m act s k).1 ≤ room fs.length act 0 s.1 ∧ ((stepC fs idOf m act s k).2 = true → s.2 = true ∨ room fs.length act 0 (stepC fs idOf m act s k).1 + 1 ≤ room fs.length act 0 s.1) := by
  unfold stepC
  cases ha : act k with
  | false => exact ⟨h, Nat.le_refl _, .inl⟩
  | true =>
    simp only [cond_true]
    split
    · exact ⟨h, Nat.le_refl _, .inl⟩
    · rename_i hne
      have hlen : nm.length = s.1.length := by rw [← h.names, List.length_map]
      have hk' : k < s.1.length := by omega
      obtain ⟨p, hp1, hp2⟩ := h.good k hk' ha
      rw [hp1] at hne
      have hgrow := sel_grow (idOf := idOf) hp2 (Ne.symm hne)
      have hnames : (putC s.1 k (sel fs idOf (m k s.1))).map (·.1) = nm := by rw [putC_names _ hk', h.names]
      have hle : LeC act s.1 (putC s.1 k (sel fs idOf (m k s.1))) := fun j => by
        unfold putC
        rw [nth_setC _ hk']
        by_cases hj : j = k
        · subst hj
          rw [if_pos rfl]
          exact ⟨fun x hx => sel_sub hp2 (hp1 ▸ hx), fun hf => absurd ha (by simp [hf])⟩
        · rw [if_neg hj]
          exact ⟨fun _ hx => hx, fun _ => rfl⟩
      have hmono := hm _ _ h.names hnames hle
      have hr : room fs.length act 0 (putC s.1 k (sel fs idOf (m k s.1))) + 1 ≤ room fs.length act 0 s.1 :=
        room_set _ _ _ _ 0 k hk' (by rw [Nat.zero_add]; exact ha) (by rw [hp1]; exact hgrow) (sel_len _ _ _)
      refine ⟨⟨hnames, fun j hj hja => ?_, fun j hj => ?_⟩, Nat.le_of_succ_le hr, fun _ => .inr hr⟩
      · have hj' : j < s.1.length := by unfold putC at hj; rwa [List.length_set] at hj
        by_cases e : j = k
        · subst e
          refine ⟨m j s.1, ?_, fun f hf hmf => hmono j (by omega) hja f hf hmf⟩
          unfold putC; rw [nth_setC _ hk', if_pos rfl]
        · obtain ⟨p', h1, h2⟩ := h.good j hj' hja
          refine ⟨p', ?_, fun f hf hpf => hmono j (by omega) hja f hf (h2 f hf hpf)⟩
          unfold putC; rw [nth_setC _ hk', if_neg e]; exact h1
      · have e : j ≠ k := fun e => absurd ha (by simp [← e, hj])
        unfold putC; rw [nth_setC _ hk', if_neg e]; exact h.rest j hj
theorem passC_ok (hm : MonoC fs m act nm) {o : List CD} : ∀ (ks : List Nat) (s : List CD × Bool), (∀ k, k ∈ ks → k < nm.length) → StateC fs idOf m act nm o s.1 →
    StateC fs idOf m act nm o (passC fs idOf m act ks s).1 ∧ room fs.length act 0 (passC fs idOf m act ks s).1 ≤ room fs.length act 0 s.1 ∧ ((passC fs idOf m act ks s).2 = true → s.2 = true ∨ room fs.length act 0 (passC fs idOf m act ks s).1 + 1 ≤ room fs.length act 0 s.1)
  | [], s, _, h => ⟨h, Nat.le_refl _, .inl⟩
  | k :: ks, s, hks, h => by
    obtain ⟨h1, h2, h3⟩ := stepC_ok hm h (hks k (List.mem_cons_self ..))
    obtain ⟨g1, g2, g3⟩ := passC_ok hm ks _ (fun j hj => hks j (List.mem_cons_of_mem _ hj)) h1
    refine ⟨g1, Nat.le_trans g2 h2, fun hc => ?_⟩
    rcases g3 hc with hc | hc
    · rcases h3 hc with hc | hc
      · exact .inl hc
      · exact .inr (Nat.le_trans (Nat.add_le_add_right g2 1) hc)
    · exact .inr (Nat.le_trans hc h2)
theorem whlC {R S T : Type} {F : S → Rd R S T} {out : S → List CD} {ch : S → Bool} {n : Nat} (hn : n = nm.length)
    (hF : ∀ s, ch s = true → ∃ s', F s = .next s' ∧ (out s', ch s') = passC fs idOf m act (List.range n) (out s, false))
    (hE : ∀ s, ch s = false → ∃ t, F s = .brk t)
    (hm : MonoC fs m act nm) {o : List CD} : ∀ (k : Nat) (s : S), StateC fs idOf m act nm o (out s) → room fs.length act 0 (out s) + (bif ch s then 2 else 1) ≤ k →
    ∃ s', StateC fs idOf m act nm o (out s') ∧ ch s' = false ∧ ∃ t, F s' = .brk t ∧ whl F k s = some (.brk t)
  | 0, s, _, hk => by cases hc : ch s <;> simp [hc] at hk
  | k + 1, s, h, hk => by
    cases hc : ch s with
    | false =>
      obtain ⟨t, ht⟩ := hE s hc
      exact ⟨s, h, hc, t, ht, by simp only [whl, ht]⟩
    | true =>
      rw [hc] at hk
      simp only [cond_true] at hk
      obtain ⟨s', h1, h2⟩ := hF s hc
      obtain ⟨g1, g2, g3⟩ := passC_ok hm (o := o) (List.range n) (out s, false) (fun j hj => by rw [← hn]; exact List.mem_range.1 hj) h
      rw [← h2] at g1 g2 g3
      simp only [whl, h1]
      refine whlC hn hF hE hm k s' g1 ?_
      simp only [Bool.false_eq_true, false_or] at g3
      cases hc' : ch s' with
      | false => simp only [cond_false]; have : room fs.length act 0 (out s') ≤ room fs.length act 0 (out s) := g2; omega
      | true => simp only [cond_true]; have : room fs.length act 0 (out s') + 1 ≤ room fs.length act 0 (out s) := g3 hc'; omega
end
/-! ### a slice that is nil, handed on -/
open Go.RowKit in
def ArgLe (a b : AV) : Prop := ∀ (J : Inj) (w : World) (v : Value), AR J w v a → AR J w v b
theorem ArgLe.rfl (a : AV) : ArgLe a a := fun _ _ _ h => h
theorem ArgLe.nil (n : Nat) : ArgLe (.one (.slc .sh 0 [])) (.one (.slc .sh n [])) := fun J w v h => by
  have h' : VV J.F w v (.slc 0 []) := h
  show VV J.F w v (.slc n [])
  generalize hp : PV.slc 0 ([] : List (List PV)) = p at h'
  cases h' with
  | int | bool | str => cases hp
  | emp oa m hc => exact .emp oa n hc
  | @slc b off cap m cs l hx hcells hr hle hcap =>
    cases hp
    exact .emp _ n hcap.1
theorem acalls_args {P : Program} {f : Nat} {r : AV} {args args' : List AV} (h : All2 ArgLe args args') (c : ACalls P f args' r) : ACalls P f args r := ⟨c.1, fun w hg F vals hF hall => c.2 w hg F vals hF (by
  clear c
  induction h generalizing vals with
  | nil => exact hall
  | cons h1 h2 ih =>
    cases hall with
    | cons g1 g2 => exact .cons (h1 _ _ _ g1) (ih _ g2))⟩
/-! ### a flat row of ours, handed back -/
theorem weak_promote {s : St} {t k n : Nat} {l : List (List PV)} (ht : get s.tm t = some (.one (.slc (.own false k) n l))) (hf : RowsLike l) : Weak s ⟨[(t, .one (.slc (.own true k) n l))], []⟩ := fun N w0 F0 J a w h =>
  ⟨J, { h with
    bo := fun k c hc => by simp [get] at hc
    bi := fun k k' c c' hc => by simp [get] at hc
    tm := fun t' v hv => by
      have h1 := h.tm t _ ht
      by_cases e : t' = t
      · subst e
        obtain rfl : AV.one (.slc (.own true k) n l) = v := by simpa [get] using hv
        exact flat_deep h1 hf
      · simp [get, Ne.symm e] at hv }⟩
theorem awp_promote {P : Program} {N : Nat} {w0 : Base} {F0 : Nat → Prop} {Q : Exit → St → Prop} {s : St} {c : Code} (t : Nat) {k n : Nat} {l : List (List PV)} (ht : get s.tm t = some (.one (.slc (.own false k) n l))) (hf : RowsLike l) (h : AWP P N w0 F0 c Q ⟨[(t, .one (.slc (.own true k) n l))], []⟩) : AWP P N w0 F0 c Q s := awp_weak (weak_promote ht hf) h
open GoE (enc wide)
def lawsbig (code : (List UInt8)) : Bool := decide ((code.length : Int) > (1048576 : Int))
theorem lawsbig_a (code : (List UInt8)) : ACalls Try.prog 13 [.h code] (.b (lawsbig code)) := by
  refine acalls_of (tt := tt) tt_ok Try.func13 (fn := Try.f13) rfl (by unfold FnOk; kernel_rfl) (Nat.le_of_ble_eq_true rfl) fun w0 F0 hG => ?_
  refine awp_seq ?_
  refine rk tt_ok [(2, .b false)] [] [] [] [] (o0) ?_
  refine awp_seq ?_
  refine rk tt_ok [(2, .b (decide ((code.length : Int) > (1048576 : Int))))] [0, 2] [] [] [(1, .val (.i (code.length : Int)))] (o1 (ob_eq (av_len code))) ?_
  refine awp_ret ?_
  exact pret [] (congrArg (fun z => (.b z : AV)) (show lawsbig code = decide ((code.length : Int) > (1048576 : Int)) from rfl).symm)
def lawsFnPinCounts (code : (List UInt8)) : Bool := (bif (lawsbig code) then true else (((implPinVersion (((implAppendVersion (((implAppendVersion [] 1 ((lawssampleStore (Int.tmod (nth (specDrawPlaces code) 0) 99)), []))).1) (IntKind.i64.wrap (2 + Int.tmod (nth (specDrawPlaces code) 1) 9)) ((lawssampleStore (Int.tmod (nth (specDrawPlaces code) 0) 99)), []))).1) 1)).2 && (((implPinVersion (((implPinVersion (((implAppendVersion (((implAppendVersion [] 1 ((lawssampleStore (Int.tmod (nth (specDrawPlaces code) 0) 99)), []))).1) (IntKind.i64.wrap (2 + Int.tmod (nth (specDrawPlaces code) 1) 9)) ((lawssampleStore (Int.tmod (nth (specDrawPlaces code) 0) 99)), []))).1) 1)).1) 1)).2 && (((implUnpinVersion (((implPinVersion (((implPinVersion (((implAppendVersion (((implAppendVersion [] 1 ((lawssampleStore (Int.tmod (nth (specDrawPlaces code) 0) 99)), []))).1) (IntKind.i64.wrap (2 + Int.tmod (nth (specDrawPlaces code) 1) 9)) ((lawssampleStore (Int.tmod (nth (specDrawPlaces code) 0) 99)), []))).1) 1)).1) 1)).1) 1)).2 && (((implUnpinVersion (((implUnpinVersion (((implPinVersion (((implPinVersion (((implAppendVersion (((implAppendVersion [] 1 ((lawssampleStore (Int.tmod (nth (specDrawPlaces code) 0) 99)), []))).1) (IntKind.i64.wrap (2 + Int.tmod (nth (specDrawPlaces code) 1) 9)) ((lawssampleStore (Int.tmod (nth (specDrawPlaces code) 0) 99)), []))).1) 1)).1) 1)).1) 1)).1) 1)).2 && (((implFindVersion (implCollectVersions (((implUnpinVersion (((implPinVersion (((implPinVersion (((implAppendVersion (((implAppendVersion [] 1 ((lawssampleStore (Int.tmod (nth (specDrawPlaces code) 0) 99)), []))).1) (IntKind.i64.wrap (2 + Int.tmod (nth (specDrawPlaces code) 1) 9)) ((lawssampleStore (Int.tmod (nth (specDrawPlaces code) 0) 99)), []))).1) 1)).1) 1)).1) 1)).1)) 1)).2 && ((!(((implFindVersion (implCollectVersions (((implUnpinVersion (((implUnpinVersion (((implPinVersion (((implPinVersion (((implAppendVersion (((implAppendVersion [] 1 ((lawssampleStore (Int.tmod (nth (specDrawPlaces code) 0) 99)), []))).1) (IntKind.i64.wrap (2 + Int.tmod (nth (specDrawPlaces code) 1) 9)) ((lawssampleStore (Int.tmod (nth (specDrawPlaces code) 0) 99)), []))).1) 1)).1) 1)).1) 1)).1) 1)).1)) 1)).2)) && ((!(((implUnpinVersion (((implUnpinVersion (((implUnpinVersion (((implPinVersion (((implPinVersion (((implAppendVersion (((implAppendVersion [] 1 ((lawssampleStore (Int.tmod (nth (specDrawPlaces code) 0) 99)), []))).1) (IntKind.i64.wrap (2 + Int.tmod (nth (specDrawPlaces code) 1) 9)) ((lawssampleStore (Int.tmod (nth (specDrawPlaces code) 0) 99)), []))).1) 1)).1) 1)).1) 1)).1) 1)).1) 1)).2)) && (((implCollectVersions (((implUnpinVersion (((implUnpinVersion (((implPinVersion (((implPinVersion (((implAppendVersion (((implAppendVersion [] 1 ((lawssampleStore (Int.tmod (nth (specDrawPlaces code) 0) 99)), []))).1) (IntKind.i64.wrap (2 + Int.tmod (nth (specDrawPlaces code) 1) 9)) ((lawssampleStore (Int.tmod (nth (specDrawPlaces code) 0) 99)), []))).1) 1)).1) 1)).1) 1)).1) 1)).1)).length : Int) == (1 : Int))))))))))
theorem lawsFnPinCounts_a (code : (List UInt8)) : ACalls Try.prog 4 [.h code] (.b (lawsFnPinCounts code)) := by
  refine acalls_of (tt := tt) tt_ok Try.func4 (fn := Try.f4) rfl (by unfold FnOk; kernel_rfl) (Nat.le_of_ble_eq_true rfl) fun w0 F0 hG => ?_
  have hpl := places_len code
  have hp1 := (place_mod code 1 (by decide) (m := 9) (by decide)).2
  refine awp_seq ?_
  refine rk tt_ok [(2, .b false)] [] [] [] [] (o0) ?_
  refine awp_seq ?_
  refine awp_seq ?_
  refine rk tt_ok [(18, .b (lawsbig code))] [] [] [] [(1, .val (.b (lawsbig code)))] (o1 (ob_call (lawsbig_a code))) ?_
  refine ck (lawsbig code) (fun h1 => ?_) (fun h1 => ?_)
  ·
    refine awp_seq ?_
    refine rk tt_ok [(2, .b true)] [2, 18] [] [] [] (o0) ?_
    refine awp_ret ?_
    exact pret [] (congrArg (fun z => (.b z : AV)) (show lawsFnPinCounts code = true from bif_t h1 (rfl)).symm)
  ·
    refine awp_skip ?_
    refine awp_seq ?_
    refine rk tt_ok [(3, .o 1280 (specDrawPlaces code))] [0, 18] [] [] [(1, .val (.o 0 (specDrawPlaces code)))] (o1 (ob_call (specDrawPlaces_a code))) ?_
    refine awp_seq ?_
    refine wdT 3 0 (.own true 1280) (specDrawPlaces code) (fun hw3 => ?_)
    have hl4 : List.length (specDrawPlaces code) ≤ 1073741824 := wide_len (hw3)
    have hx2 : (specDrawPlaces code)[0]? = some (nth (specDrawPlaces code) 0) := nth_get (by omega)
    have hx2b := places_bd code _ (List.mem_of_getElem? hx2)
    refine rk tt_ok [(4, .p 4 0)] [] [(4, [.o 1600 ((lawssampleStore (Int.tmod (nth (specDrawPlaces code) 0) 99)).1), .o 1601 ((lawssampleStore (Int.tmod (nth (specDrawPlaces code) 0) 99)).2.1), .i ((lawssampleStore (Int.tmod (nth (specDrawPlaces code) 0) 99)).2.2), .e 2])] [] [(1, .rowE [.i (nth (specDrawPlaces code) 0)]), (4, .val (.a [.o 0 ((lawssampleStore (Int.tmod (nth (specDrawPlaces code) 0) 99)).1), .o 1 ((lawssampleStore (Int.tmod (nth (specDrawPlaces code) 0) 99)).2.1), .i ((lawssampleStore (Int.tmod (nth (specDrawPlaces code) 0) 99)).2.2)]))] (o2 (ob_elem (el_of (i := 0) (by omega) rfl hx2)) (o2 (ob_nz (n := 99) (by omega)) (o2 (ob_inr (k := .i64) (n := Int.tmod (nth (specDrawPlaces code) 0) 99) (inr_rem0 (by omega))) (o1 (ob_call (lawssampleStore_a (Int.tmod (nth (specDrawPlaces code) 0) 99))))))) ?_
    refine awp_seq ?_
    refine rk tt_ok [(5, .q 1856 (((implAppendVersion [] 1 ((lawssampleStore (Int.tmod (nth (specDrawPlaces code) 0) 99)), []))).1))] [] [(4, [.h ((lawssampleStore (Int.tmod (nth (specDrawPlaces code) 0) 99)).1), .h ((lawssampleStore (Int.tmod (nth (specDrawPlaces code) 0) 99)).2.1), .i ((lawssampleStore (Int.tmod (nth (specDrawPlaces code) 0) 99)).2.2), .e 2])] [4] [(1, .val (.tup [(false, [.q 0 (((implAppendVersion [] 1 ((lawssampleStore (Int.tmod (nth (specDrawPlaces code) 0) 99)), []))).1)]), (false, [.b (((implAppendVersion [] 1 ((lawssampleStore (Int.tmod (nth (specDrawPlaces code) 0) 99)), []))).2)])]))] (o1 (ob_call (acalls_args (.cons (ArgLe.nil 6) ( .cons (ArgLe.rfl _) ( .cons (ArgLe.rfl _) (.nil)))) (implAppendVersion_a [] 1 ((lawssampleStore (Int.tmod (nth (specDrawPlaces code) 0) 99)), []) (by simp))))) ?_
    refine awp_seq ?_
    have hx5 : (specDrawPlaces code)[1]? = some (nth (specDrawPlaces code) 1) := nth_get (by omega)
    have hx5b := places_bd code _ (List.mem_of_getElem? hx5)
    refine rd' tt_ok tt_mx [(5, .q 2560 (((implAppendVersion (((implAppendVersion [] 1 ((lawssampleStore (Int.tmod (nth (specDrawPlaces code) 0) 99)), []))).1) (IntKind.i64.wrap (2 + Int.tmod (nth (specDrawPlaces code) 1) 9)) ((lawssampleStore (Int.tmod (nth (specDrawPlaces code) 0) 99)), []))).1))] [3, 4, 5] [] [4] [(2, .rowE [.i (nth (specDrawPlaces code) 1)]), (7, .val (.tup [(false, [.q 0 (((implAppendVersion (((implAppendVersion [] 1 ((lawssampleStore (Int.tmod (nth (specDrawPlaces code) 0) 99)), []))).1) (IntKind.i64.wrap (2 + Int.tmod (nth (specDrawPlaces code) 1) 9)) ((lawssampleStore (Int.tmod (nth (specDrawPlaces code) 0) 99)), []))).1)]), (false, [.b (((implAppendVersion (((implAppendVersion [] 1 ((lawssampleStore (Int.tmod (nth (specDrawPlaces code) 0) 99)), []))).1) (IntKind.i64.wrap (2 + Int.tmod (nth (specDrawPlaces code) 1) 9)) ((lawssampleStore (Int.tmod (nth (specDrawPlaces code) 0) 99)), []))).2)])]))] (o2 (ob_elem (el_of (i := 1) (by omega) rfl hx5)) (o2 (ob_nz (n := 9) (by omega)) (o2 (ob_inr (k := .i64) (n := Int.tmod (nth (specDrawPlaces code) 1) 9) (inr_rem0 (by omega))) (o1 (ob_call (implAppendVersion_a (((implAppendVersion [] 1 ((lawssampleStore (Int.tmod (nth (specDrawPlaces code) 0) 99)), []))).1) (IntKind.i64.wrap (2 + Int.tmod (nth (specDrawPlaces code) 1) 9)) ((lawssampleStore (Int.tmod (nth (specDrawPlaces code) 0) 99)), []) (app_lt0 rfl))))))) ?_
    refine awp_seq ?_
    refine rk tt_ok [(5, .q 2880 (((implPinVersion (((implAppendVersion (((implAppendVersion [] 1 ((lawssampleStore (Int.tmod (nth (specDrawPlaces code) 0) 99)), []))).1) (IntKind.i64.wrap (2 + Int.tmod (nth (specDrawPlaces code) 1) 9)) ((lawssampleStore (Int.tmod (nth (specDrawPlaces code) 0) 99)), []))).1) 1)).1)), (7, .b (((implPinVersion (((implAppendVersion (((implAppendVersion [] 1 ((lawssampleStore (Int.tmod (nth (specDrawPlaces code) 0) 99)), []))).1) (IntKind.i64.wrap (2 + Int.tmod (nth (specDrawPlaces code) 1) 9)) ((lawssampleStore (Int.tmod (nth (specDrawPlaces code) 0) 99)), []))).1) 1)).2))] [5] [] [] [(1, .val (.tup [(false, [.q 0 (((implPinVersion (((implAppendVersion (((implAppendVersion [] 1 ((lawssampleStore (Int.tmod (nth (specDrawPlaces code) 0) 99)), []))).1) (IntKind.i64.wrap (2 + Int.tmod (nth (specDrawPlaces code) 1) 9)) ((lawssampleStore (Int.tmod (nth (specDrawPlaces code) 0) 99)), []))).1) 1)).1)]), (false, [.b (((implPinVersion (((implAppendVersion (((implAppendVersion [] 1 ((lawssampleStore (Int.tmod (nth (specDrawPlaces code) 0) 99)), []))).1) (IntKind.i64.wrap (2 + Int.tmod (nth (specDrawPlaces code) 1) 9)) ((lawssampleStore (Int.tmod (nth (specDrawPlaces code) 0) 99)), []))).1) 1)).2)])]))] (o1 (ob_call (implPinVersion_a (((implAppendVersion (((implAppendVersion [] 1 ((lawssampleStore (Int.tmod (nth (specDrawPlaces code) 0) 99)), []))).1) (IntKind.i64.wrap (2 + Int.tmod (nth (specDrawPlaces code) 1) 9)) ((lawssampleStore (Int.tmod (nth (specDrawPlaces code) 0) 99)), []))).1) 1))) ?_
    refine awp_seq ?_
    refine rk tt_ok [(5, .q 3200 (((implPinVersion (((implPinVersion (((implAppendVersion (((implAppendVersion [] 1 ((lawssampleStore (Int.tmod (nth (specDrawPlaces code) 0) 99)), []))).1) (IntKind.i64.wrap (2 + Int.tmod (nth (specDrawPlaces code) 1) 9)) ((lawssampleStore (Int.tmod (nth (specDrawPlaces code) 0) 99)), []))).1) 1)).1) 1)).1)), (8, .b (((implPinVersion (((implPinVersion (((implAppendVersion (((implAppendVersion [] 1 ((lawssampleStore (Int.tmod (nth (specDrawPlaces code) 0) 99)), []))).1) (IntKind.i64.wrap (2 + Int.tmod (nth (specDrawPlaces code) 1) 9)) ((lawssampleStore (Int.tmod (nth (specDrawPlaces code) 0) 99)), []))).1) 1)).1) 1)).2))] [5] [] [] [(1, .val (.tup [(false, [.q 0 (((implPinVersion (((implPinVersion (((implAppendVersion (((implAppendVersion [] 1 ((lawssampleStore (Int.tmod (nth (specDrawPlaces code) 0) 99)), []))).1) (IntKind.i64.wrap (2 + Int.tmod (nth (specDrawPlaces code) 1) 9)) ((lawssampleStore (Int.tmod (nth (specDrawPlaces code) 0) 99)), []))).1) 1)).1) 1)).1)]), (false, [.b (((implPinVersion (((implPinVersion (((implAppendVersion (((implAppendVersion [] 1 ((lawssampleStore (Int.tmod (nth (specDrawPlaces code) 0) 99)), []))).1) (IntKind.i64.wrap (2 + Int.tmod (nth (specDrawPlaces code) 1) 9)) ((lawssampleStore (Int.tmod (nth (specDrawPlaces code) 0) 99)), []))).1) 1)).1) 1)).2)])]))] (o1 (ob_call (implPinVersion_a (((implPinVersion (((implAppendVersion (((implAppendVersion [] 1 ((lawssampleStore (Int.tmod (nth (specDrawPlaces code) 0) 99)), []))).1) (IntKind.i64.wrap (2 + Int.tmod (nth (specDrawPlaces code) 1) 9)) ((lawssampleStore (Int.tmod (nth (specDrawPlaces code) 0) 99)), []))).1) 1)).1) 1))) ?_
    refine awp_seq ?_
    refine rk tt_ok [(5, .q 3520 (((implUnpinVersion (((implPinVersion (((implPinVersion (((implAppendVersion (((implAppendVersion [] 1 ((lawssampleStore (Int.tmod (nth (specDrawPlaces code) 0) 99)), []))).1) (IntKind.i64.wrap (2 + Int.tmod (nth (specDrawPlaces code) 1) 9)) ((lawssampleStore (Int.tmod (nth (specDrawPlaces code) 0) 99)), []))).1) 1)).1) 1)).1) 1)).1)), (9, .b (((implUnpinVersion (((implPinVersion (((implPinVersion (((implAppendVersion (((implAppendVersion [] 1 ((lawssampleStore (Int.tmod (nth (specDrawPlaces code) 0) 99)), []))).1) (IntKind.i64.wrap (2 + Int.tmod (nth (specDrawPlaces code) 1) 9)) ((lawssampleStore (Int.tmod (nth (specDrawPlaces code) 0) 99)), []))).1) 1)).1) 1)).1) 1)).2))] [5] [] [] [(1, .val (.tup [(false, [.q 0 (((implUnpinVersion (((implPinVersion (((implPinVersion (((implAppendVersion (((implAppendVersion [] 1 ((lawssampleStore (Int.tmod (nth (specDrawPlaces code) 0) 99)), []))).1) (IntKind.i64.wrap (2 + Int.tmod (nth (specDrawPlaces code) 1) 9)) ((lawssampleStore (Int.tmod (nth (specDrawPlaces code) 0) 99)), []))).1) 1)).1) 1)).1) 1)).1)]), (false, [.b (((implUnpinVersion (((implPinVersion (((implPinVersion (((implAppendVersion (((implAppendVersion [] 1 ((lawssampleStore (Int.tmod (nth (specDrawPlaces code) 0) 99)), []))).1) (IntKind.i64.wrap (2 + Int.tmod (nth (specDrawPlaces code) 1) 9)) ((lawssampleStore (Int.tmod (nth (specDrawPlaces code) 0) 99)), []))).1) 1)).1) 1)).1) 1)).2)])]))] (o1 (ob_call (implUnpinVersion_a (((implPinVersion (((implPinVersion (((implAppendVersion (((implAppendVersion [] 1 ((lawssampleStore (Int.tmod (nth (specDrawPlaces code) 0) 99)), []))).1) (IntKind.i64.wrap (2 + Int.tmod (nth (specDrawPlaces code) 1) 9)) ((lawssampleStore (Int.tmod (nth (specDrawPlaces code) 0) 99)), []))).1) 1)).1) 1)).1) 1))) ?_
    refine awp_seq ?_
    refine rk tt_ok [(5, .h (((implUnpinVersion (((implPinVersion (((implPinVersion (((implAppendVersion (((implAppendVersion [] 1 ((lawssampleStore (Int.tmod (nth (specDrawPlaces code) 0) 99)), []))).1) (IntKind.i64.wrap (2 + Int.tmod (nth (specDrawPlaces code) 1) 9)) ((lawssampleStore (Int.tmod (nth (specDrawPlaces code) 0) 99)), []))).1) 1)).1) 1)).1) 1)).1)), (11, .b (((implFindVersion (implCollectVersions (((implUnpinVersion (((implPinVersion (((implPinVersion (((implAppendVersion (((implAppendVersion [] 1 ((lawssampleStore (Int.tmod (nth (specDrawPlaces code) 0) 99)), []))).1) (IntKind.i64.wrap (2 + Int.tmod (nth (specDrawPlaces code) 1) 9)) ((lawssampleStore (Int.tmod (nth (specDrawPlaces code) 0) 99)), []))).1) 1)).1) 1)).1) 1)).1)) 1)).2))] [5] [] [] [(1, .val (.q 0 (implCollectVersions (((implUnpinVersion (((implPinVersion (((implPinVersion (((implAppendVersion (((implAppendVersion [] 1 ((lawssampleStore (Int.tmod (nth (specDrawPlaces code) 0) 99)), []))).1) (IntKind.i64.wrap (2 + Int.tmod (nth (specDrawPlaces code) 1) 9)) ((lawssampleStore (Int.tmod (nth (specDrawPlaces code) 0) 99)), []))).1) 1)).1) 1)).1) 1)).1)))), (2, .val (.tup [(true, [.o 0 ((((implFindVersion (implCollectVersions (((implUnpinVersion (((implPinVersion (((implPinVersion (((implAppendVersion (((implAppendVersion [] 1 ((lawssampleStore (Int.tmod (nth (specDrawPlaces code) 0) 99)), []))).1) (IntKind.i64.wrap (2 + Int.tmod (nth (specDrawPlaces code) 1) 9)) ((lawssampleStore (Int.tmod (nth (specDrawPlaces code) 0) 99)), []))).1) 1)).1) 1)).1) 1)).1)) 1)).1).1.1), .o 1 ((((implFindVersion (implCollectVersions (((implUnpinVersion (((implPinVersion (((implPinVersion (((implAppendVersion (((implAppendVersion [] 1 ((lawssampleStore (Int.tmod (nth (specDrawPlaces code) 0) 99)), []))).1) (IntKind.i64.wrap (2 + Int.tmod (nth (specDrawPlaces code) 1) 9)) ((lawssampleStore (Int.tmod (nth (specDrawPlaces code) 0) 99)), []))).1) 1)).1) 1)).1) 1)).1)) 1)).1).1.2.1), .i ((((implFindVersion (implCollectVersions (((implUnpinVersion (((implPinVersion (((implPinVersion (((implAppendVersion (((implAppendVersion [] 1 ((lawssampleStore (Int.tmod (nth (specDrawPlaces code) 0) 99)), []))).1) (IntKind.i64.wrap (2 + Int.tmod (nth (specDrawPlaces code) 1) 9)) ((lawssampleStore (Int.tmod (nth (specDrawPlaces code) 0) 99)), []))).1) 1)).1) 1)).1) 1)).1)) 1)).1).1.2.2), .o 2 ((((implFindVersion (implCollectVersions (((implUnpinVersion (((implPinVersion (((implPinVersion (((implAppendVersion (((implAppendVersion [] 1 ((lawssampleStore (Int.tmod (nth (specDrawPlaces code) 0) 99)), []))).1) (IntKind.i64.wrap (2 + Int.tmod (nth (specDrawPlaces code) 1) 9)) ((lawssampleStore (Int.tmod (nth (specDrawPlaces code) 0) 99)), []))).1) 1)).1) 1)).1) 1)).1)) 1)).1).2)]), (false, [.b (((implFindVersion (implCollectVersions (((implUnpinVersion (((implPinVersion (((implPinVersion (((implAppendVersion (((implAppendVersion [] 1 ((lawssampleStore (Int.tmod (nth (specDrawPlaces code) 0) 99)), []))).1) (IntKind.i64.wrap (2 + Int.tmod (nth (specDrawPlaces code) 1) 9)) ((lawssampleStore (Int.tmod (nth (specDrawPlaces code) 0) 99)), []))).1) 1)).1) 1)).1) 1)).1)) 1)).2)])]))] (o2 (ob_call (implCollectVersions_a (((implUnpinVersion (((implPinVersion (((implPinVersion (((implAppendVersion (((implAppendVersion [] 1 ((lawssampleStore (Int.tmod (nth (specDrawPlaces code) 0) 99)), []))).1) (IntKind.i64.wrap (2 + Int.tmod (nth (specDrawPlaces code) 1) 9)) ((lawssampleStore (Int.tmod (nth (specDrawPlaces code) 0) 99)), []))).1) 1)).1) 1)).1) 1)).1))) (o1 (ob_call (implFindVersion_a (implCollectVersions (((implUnpinVersion (((implPinVersion (((implPinVersion (((implAppendVersion (((implAppendVersion [] 1 ((lawssampleStore (Int.tmod (nth (specDrawPlaces code) 0) 99)), []))).1) (IntKind.i64.wrap (2 + Int.tmod (nth (specDrawPlaces code) 1) 9)) ((lawssampleStore (Int.tmod (nth (specDrawPlaces code) 0) 99)), []))).1) 1)).1) 1)).1) 1)).1)) 1)))) ?_
    refine awp_seq ?_
    refine rk tt_ok [(5, .q 4224 (((implUnpinVersion (((implUnpinVersion (((implPinVersion (((implPinVersion (((implAppendVersion (((implAppendVersion [] 1 ((lawssampleStore (Int.tmod (nth (specDrawPlaces code) 0) 99)), []))).1) (IntKind.i64.wrap (2 + Int.tmod (nth (specDrawPlaces code) 1) 9)) ((lawssampleStore (Int.tmod (nth (specDrawPlaces code) 0) 99)), []))).1) 1)).1) 1)).1) 1)).1) 1)).1)), (12, .b (((implUnpinVersion (((implUnpinVersion (((implPinVersion (((implPinVersion (((implAppendVersion (((implAppendVersion [] 1 ((lawssampleStore (Int.tmod (nth (specDrawPlaces code) 0) 99)), []))).1) (IntKind.i64.wrap (2 + Int.tmod (nth (specDrawPlaces code) 1) 9)) ((lawssampleStore (Int.tmod (nth (specDrawPlaces code) 0) 99)), []))).1) 1)).1) 1)).1) 1)).1) 1)).2))] [5] [] [] [(1, .val (.tup [(false, [.q 0 (((implUnpinVersion (((implUnpinVersion (((implPinVersion (((implPinVersion (((implAppendVersion (((implAppendVersion [] 1 ((lawssampleStore (Int.tmod (nth (specDrawPlaces code) 0) 99)), []))).1) (IntKind.i64.wrap (2 + Int.tmod (nth (specDrawPlaces code) 1) 9)) ((lawssampleStore (Int.tmod (nth (specDrawPlaces code) 0) 99)), []))).1) 1)).1) 1)).1) 1)).1) 1)).1)]), (false, [.b (((implUnpinVersion (((implUnpinVersion (((implPinVersion (((implPinVersion (((implAppendVersion (((implAppendVersion [] 1 ((lawssampleStore (Int.tmod (nth (specDrawPlaces code) 0) 99)), []))).1) (IntKind.i64.wrap (2 + Int.tmod (nth (specDrawPlaces code) 1) 9)) ((lawssampleStore (Int.tmod (nth (specDrawPlaces code) 0) 99)), []))).1) 1)).1) 1)).1) 1)).1) 1)).2)])]))] (o1 (ob_call (implUnpinVersion_a (((implUnpinVersion (((implPinVersion (((implPinVersion (((implAppendVersion (((implAppendVersion [] 1 ((lawssampleStore (Int.tmod (nth (specDrawPlaces code) 0) 99)), []))).1) (IntKind.i64.wrap (2 + Int.tmod (nth (specDrawPlaces code) 1) 9)) ((lawssampleStore (Int.tmod (nth (specDrawPlaces code) 0) 99)), []))).1) 1)).1) 1)).1) 1)).1) 1))) ?_
    refine awp_seq ?_
    refine rk tt_ok [(5, .h (((implUnpinVersion (((implUnpinVersion (((implPinVersion (((implPinVersion (((implAppendVersion (((implAppendVersion [] 1 ((lawssampleStore (Int.tmod (nth (specDrawPlaces code) 0) 99)), []))).1) (IntKind.i64.wrap (2 + Int.tmod (nth (specDrawPlaces code) 1) 9)) ((lawssampleStore (Int.tmod (nth (specDrawPlaces code) 0) 99)), []))).1) 1)).1) 1)).1) 1)).1) 1)).1)), (14, .b (((implFindVersion (implCollectVersions (((implUnpinVersion (((implUnpinVersion (((implPinVersion (((implPinVersion (((implAppendVersion (((implAppendVersion [] 1 ((lawssampleStore (Int.tmod (nth (specDrawPlaces code) 0) 99)), []))).1) (IntKind.i64.wrap (2 + Int.tmod (nth (specDrawPlaces code) 1) 9)) ((lawssampleStore (Int.tmod (nth (specDrawPlaces code) 0) 99)), []))).1) 1)).1) 1)).1) 1)).1) 1)).1)) 1)).2))] [5] [] [] [(1, .val (.q 0 (implCollectVersions (((implUnpinVersion (((implUnpinVersion (((implPinVersion (((implPinVersion (((implAppendVersion (((implAppendVersion [] 1 ((lawssampleStore (Int.tmod (nth (specDrawPlaces code) 0) 99)), []))).1) (IntKind.i64.wrap (2 + Int.tmod (nth (specDrawPlaces code) 1) 9)) ((lawssampleStore (Int.tmod (nth (specDrawPlaces code) 0) 99)), []))).1) 1)).1) 1)).1) 1)).1) 1)).1)))), (2, .val (.tup [(true, [.o 0 ((((implFindVersion (implCollectVersions (((implUnpinVersion (((implUnpinVersion (((implPinVersion (((implPinVersion (((implAppendVersion (((implAppendVersion [] 1 ((lawssampleStore (Int.tmod (nth (specDrawPlaces code) 0) 99)), []))).1) (IntKind.i64.wrap (2 + Int.tmod (nth (specDrawPlaces code) 1) 9)) ((lawssampleStore (Int.tmod (nth (specDrawPlaces code) 0) 99)), []))).1) 1)).1) 1)).1) 1)).1) 1)).1)) 1)).1).1.1), .o 1 ((((implFindVersion (implCollectVersions (((implUnpinVersion (((implUnpinVersion (((implPinVersion (((implPinVersion (((implAppendVersion (((implAppendVersion [] 1 ((lawssampleStore (Int.tmod (nth (specDrawPlaces code) 0) 99)), []))).1) (IntKind.i64.wrap (2 + Int.tmod (nth (specDrawPlaces code) 1) 9)) ((lawssampleStore (Int.tmod (nth (specDrawPlaces code) 0) 99)), []))).1) 1)).1) 1)).1) 1)).1) 1)).1)) 1)).1).1.2.1), .i ((((implFindVersion (implCollectVersions (((implUnpinVersion (((implUnpinVersion (((implPinVersion (((implPinVersion (((implAppendVersion (((implAppendVersion [] 1 ((lawssampleStore (Int.tmod (nth (specDrawPlaces code) 0) 99)), []))).1) (IntKind.i64.wrap (2 + Int.tmod (nth (specDrawPlaces code) 1) 9)) ((lawssampleStore (Int.tmod (nth (specDrawPlaces code) 0) 99)), []))).1) 1)).1) 1)).1) 1)).1) 1)).1)) 1)).1).1.2.2), .o 2 ((((implFindVersion (implCollectVersions (((implUnpinVersion (((implUnpinVersion (((implPinVersion (((implPinVersion (((implAppendVersion (((implAppendVersion [] 1 ((lawssampleStore (Int.tmod (nth (specDrawPlaces code) 0) 99)), []))).1) (IntKind.i64.wrap (2 + Int.tmod (nth (specDrawPlaces code) 1) 9)) ((lawssampleStore (Int.tmod (nth (specDrawPlaces code) 0) 99)), []))).1) 1)).1) 1)).1) 1)).1) 1)).1)) 1)).1).2)]), (false, [.b (((implFindVersion (implCollectVersions (((implUnpinVersion (((implUnpinVersion (((implPinVersion (((implPinVersion (((implAppendVersion (((implAppendVersion [] 1 ((lawssampleStore (Int.tmod (nth (specDrawPlaces code) 0) 99)), []))).1) (IntKind.i64.wrap (2 + Int.tmod (nth (specDrawPlaces code) 1) 9)) ((lawssampleStore (Int.tmod (nth (specDrawPlaces code) 0) 99)), []))).1) 1)).1) 1)).1) 1)).1) 1)).1)) 1)).2)])]))] (o2 (ob_call (implCollectVersions_a (((implUnpinVersion (((implUnpinVersion (((implPinVersion (((implPinVersion (((implAppendVersion (((implAppendVersion [] 1 ((lawssampleStore (Int.tmod (nth (specDrawPlaces code) 0) 99)), []))).1) (IntKind.i64.wrap (2 + Int.tmod (nth (specDrawPlaces code) 1) 9)) ((lawssampleStore (Int.tmod (nth (specDrawPlaces code) 0) 99)), []))).1) 1)).1) 1)).1) 1)).1) 1)).1))) (o1 (ob_call (implFindVersion_a (implCollectVersions (((implUnpinVersion (((implUnpinVersion (((implPinVersion (((implPinVersion (((implAppendVersion (((implAppendVersion [] 1 ((lawssampleStore (Int.tmod (nth (specDrawPlaces code) 0) 99)), []))).1) (IntKind.i64.wrap (2 + Int.tmod (nth (specDrawPlaces code) 1) 9)) ((lawssampleStore (Int.tmod (nth (specDrawPlaces code) 0) 99)), []))).1) 1)).1) 1)).1) 1)).1) 1)).1)) 1)))) ?_
    refine awp_seq ?_
    refine rk tt_ok [(16, .b (((implUnpinVersion (((implUnpinVersion (((implUnpinVersion (((implPinVersion (((implPinVersion (((implAppendVersion (((implAppendVersion [] 1 ((lawssampleStore (Int.tmod (nth (specDrawPlaces code) 0) 99)), []))).1) (IntKind.i64.wrap (2 + Int.tmod (nth (specDrawPlaces code) 1) 9)) ((lawssampleStore (Int.tmod (nth (specDrawPlaces code) 0) 99)), []))).1) 1)).1) 1)).1) 1)).1) 1)).1) 1)).2))] [] [] [] [(1, .val (.tup [(false, [.q 0 (((implUnpinVersion (((implUnpinVersion (((implUnpinVersion (((implPinVersion (((implPinVersion (((implAppendVersion (((implAppendVersion [] 1 ((lawssampleStore (Int.tmod (nth (specDrawPlaces code) 0) 99)), []))).1) (IntKind.i64.wrap (2 + Int.tmod (nth (specDrawPlaces code) 1) 9)) ((lawssampleStore (Int.tmod (nth (specDrawPlaces code) 0) 99)), []))).1) 1)).1) 1)).1) 1)).1) 1)).1) 1)).1)]), (false, [.b (((implUnpinVersion (((implUnpinVersion (((implUnpinVersion (((implPinVersion (((implPinVersion (((implAppendVersion (((implAppendVersion [] 1 ((lawssampleStore (Int.tmod (nth (specDrawPlaces code) 0) 99)), []))).1) (IntKind.i64.wrap (2 + Int.tmod (nth (specDrawPlaces code) 1) 9)) ((lawssampleStore (Int.tmod (nth (specDrawPlaces code) 0) 99)), []))).1) 1)).1) 1)).1) 1)).1) 1)).1) 1)).2)])]))] (o1 (ob_call (implUnpinVersion_a (((implUnpinVersion (((implUnpinVersion (((implPinVersion (((implPinVersion (((implAppendVersion (((implAppendVersion [] 1 ((lawssampleStore (Int.tmod (nth (specDrawPlaces code) 0) 99)), []))).1) (IntKind.i64.wrap (2 + Int.tmod (nth (specDrawPlaces code) 1) 9)) ((lawssampleStore (Int.tmod (nth (specDrawPlaces code) 0) 99)), []))).1) 1)).1) 1)).1) 1)).1) 1)).1) 1))) ?_
    refine awp_seq ?_
    refine jn [(2, .b (((implPinVersion (((implAppendVersion (((implAppendVersion [] 1 ((lawssampleStore (Int.tmod (nth (specDrawPlaces code) 0) 99)), []))).1) (IntKind.i64.wrap (2 + Int.tmod (nth (specDrawPlaces code) 1) 9)) ((lawssampleStore (Int.tmod (nth (specDrawPlaces code) 0) 99)), []))).1) 1)).2 && (((implPinVersion (((implPinVersion (((implAppendVersion (((implAppendVersion [] 1 ((lawssampleStore (Int.tmod (nth (specDrawPlaces code) 0) 99)), []))).1) (IntKind.i64.wrap (2 + Int.tmod (nth (specDrawPlaces code) 1) 9)) ((lawssampleStore (Int.tmod (nth (specDrawPlaces code) 0) 99)), []))).1) 1)).1) 1)).2 && (((implUnpinVersion (((implPinVersion (((implPinVersion (((implAppendVersion (((implAppendVersion [] 1 ((lawssampleStore (Int.tmod (nth (specDrawPlaces code) 0) 99)), []))).1) (IntKind.i64.wrap (2 + Int.tmod (nth (specDrawPlaces code) 1) 9)) ((lawssampleStore (Int.tmod (nth (specDrawPlaces code) 0) 99)), []))).1) 1)).1) 1)).1) 1)).2 && (((implUnpinVersion (((implUnpinVersion (((implPinVersion (((implPinVersion (((implAppendVersion (((implAppendVersion [] 1 ((lawssampleStore (Int.tmod (nth (specDrawPlaces code) 0) 99)), []))).1) (IntKind.i64.wrap (2 + Int.tmod (nth (specDrawPlaces code) 1) 9)) ((lawssampleStore (Int.tmod (nth (specDrawPlaces code) 0) 99)), []))).1) 1)).1) 1)).1) 1)).1) 1)).2 && (((implFindVersion (implCollectVersions (((implUnpinVersion (((implPinVersion (((implPinVersion (((implAppendVersion (((implAppendVersion [] 1 ((lawssampleStore (Int.tmod (nth (specDrawPlaces code) 0) 99)), []))).1) (IntKind.i64.wrap (2 + Int.tmod (nth (specDrawPlaces code) 1) 9)) ((lawssampleStore (Int.tmod (nth (specDrawPlaces code) 0) 99)), []))).1) 1)).1) 1)).1) 1)).1)) 1)).2 && ((!(((implFindVersion (implCollectVersions (((implUnpinVersion (((implUnpinVersion (((implPinVersion (((implPinVersion (((implAppendVersion (((implAppendVersion [] 1 ((lawssampleStore (Int.tmod (nth (specDrawPlaces code) 0) 99)), []))).1) (IntKind.i64.wrap (2 + Int.tmod (nth (specDrawPlaces code) 1) 9)) ((lawssampleStore (Int.tmod (nth (specDrawPlaces code) 0) 99)), []))).1) 1)).1) 1)).1) 1)).1) 1)).1)) 1)).2)) && ((!(((implUnpinVersion (((implUnpinVersion (((implUnpinVersion (((implPinVersion (((implPinVersion (((implAppendVersion (((implAppendVersion [] 1 ((lawssampleStore (Int.tmod (nth (specDrawPlaces code) 0) 99)), []))).1) (IntKind.i64.wrap (2 + Int.tmod (nth (specDrawPlaces code) 1) 9)) ((lawssampleStore (Int.tmod (nth (specDrawPlaces code) 0) 99)), []))).1) 1)).1) 1)).1) 1)).1) 1)).1) 1)).2)) && (((implCollectVersions (((implUnpinVersion (((implUnpinVersion (((implPinVersion (((implPinVersion (((implAppendVersion (((implAppendVersion [] 1 ((lawssampleStore (Int.tmod (nth (specDrawPlaces code) 0) 99)), []))).1) (IntKind.i64.wrap (2 + Int.tmod (nth (specDrawPlaces code) 1) 9)) ((lawssampleStore (Int.tmod (nth (specDrawPlaces code) 0) 99)), []))).1) 1)).1) 1)).1) 1)).1) 1)).1)).length : Int) == (1 : Int))))))))))] [2, 5, 7, 8, 9, 11, 12, 14, 16] [] [] (((implPinVersion (((implAppendVersion (((implAppendVersion [] 1 ((lawssampleStore (Int.tmod (nth (specDrawPlaces code) 0) 99)), []))).1) (IntKind.i64.wrap (2 + Int.tmod (nth (specDrawPlaces code) 1) 9)) ((lawssampleStore (Int.tmod (nth (specDrawPlaces code) 0) 99)), []))).1) 1)).2) (fun h6 => ?_) (fun h6 => ?_) ?_
    ·
      refine awp_split (((implPinVersion (((implPinVersion (((implAppendVersion (((implAppendVersion [] 1 ((lawssampleStore (Int.tmod (nth (specDrawPlaces code) 0) 99)), []))).1) (IntKind.i64.wrap (2 + Int.tmod (nth (specDrawPlaces code) 1) 9)) ((lawssampleStore (Int.tmod (nth (specDrawPlaces code) 0) 99)), []))).1) 1)).1) 1)).2) (fun h7 => ?_) (fun h7 => ?_)
      ·
        refine awp_split (((implUnpinVersion (((implPinVersion (((implPinVersion (((implAppendVersion (((implAppendVersion [] 1 ((lawssampleStore (Int.tmod (nth (specDrawPlaces code) 0) 99)), []))).1) (IntKind.i64.wrap (2 + Int.tmod (nth (specDrawPlaces code) 1) 9)) ((lawssampleStore (Int.tmod (nth (specDrawPlaces code) 0) 99)), []))).1) 1)).1) 1)).1) 1)).2) (fun h8 => ?_) (fun h8 => ?_)
        ·
          refine awp_split (((implUnpinVersion (((implUnpinVersion (((implPinVersion (((implPinVersion (((implAppendVersion (((implAppendVersion [] 1 ((lawssampleStore (Int.tmod (nth (specDrawPlaces code) 0) 99)), []))).1) (IntKind.i64.wrap (2 + Int.tmod (nth (specDrawPlaces code) 1) 9)) ((lawssampleStore (Int.tmod (nth (specDrawPlaces code) 0) 99)), []))).1) 1)).1) 1)).1) 1)).1) 1)).2) (fun h9 => ?_) (fun h9 => ?_)
          ·
            refine awp_split (((implFindVersion (implCollectVersions (((implUnpinVersion (((implPinVersion (((implPinVersion (((implAppendVersion (((implAppendVersion [] 1 ((lawssampleStore (Int.tmod (nth (specDrawPlaces code) 0) 99)), []))).1) (IntKind.i64.wrap (2 + Int.tmod (nth (specDrawPlaces code) 1) 9)) ((lawssampleStore (Int.tmod (nth (specDrawPlaces code) 0) 99)), []))).1) 1)).1) 1)).1) 1)).1)) 1)).2) (fun h10 => ?_) (fun h10 => ?_)
            ·
              refine awp_split (!(((implFindVersion (implCollectVersions (((implUnpinVersion (((implUnpinVersion (((implPinVersion (((implPinVersion (((implAppendVersion (((implAppendVersion [] 1 ((lawssampleStore (Int.tmod (nth (specDrawPlaces code) 0) 99)), []))).1) (IntKind.i64.wrap (2 + Int.tmod (nth (specDrawPlaces code) 1) 9)) ((lawssampleStore (Int.tmod (nth (specDrawPlaces code) 0) 99)), []))).1) 1)).1) 1)).1) 1)).1) 1)).1)) 1)).2)) (fun h11 => ?_) (fun h11 => ?_)
              ·
                have h11n : (((implFindVersion (implCollectVersions (((implUnpinVersion (((implUnpinVersion (((implPinVersion (((implPinVersion (((implAppendVersion (((implAppendVersion [] 1 ((lawssampleStore (Int.tmod (nth (specDrawPlaces code) 0) 99)), []))).1) (IntKind.i64.wrap (2 + Int.tmod (nth (specDrawPlaces code) 1) 9)) ((lawssampleStore (Int.tmod (nth (specDrawPlaces code) 0) 99)), []))).1) 1)).1) 1)).1) 1)).1) 1)).1)) 1)).2) = false := bnot_t h11
                refine awp_split (!(((implUnpinVersion (((implUnpinVersion (((implUnpinVersion (((implPinVersion (((implPinVersion (((implAppendVersion (((implAppendVersion [] 1 ((lawssampleStore (Int.tmod (nth (specDrawPlaces code) 0) 99)), []))).1) (IntKind.i64.wrap (2 + Int.tmod (nth (specDrawPlaces code) 1) 9)) ((lawssampleStore (Int.tmod (nth (specDrawPlaces code) 0) 99)), []))).1) 1)).1) 1)).1) 1)).1) 1)).1) 1)).2)) (fun h12 => ?_) (fun h12 => ?_)
                ·
                  have h12n : (((implUnpinVersion (((implUnpinVersion (((implUnpinVersion (((implPinVersion (((implPinVersion (((implAppendVersion (((implAppendVersion [] 1 ((lawssampleStore (Int.tmod (nth (specDrawPlaces code) 0) 99)), []))).1) (IntKind.i64.wrap (2 + Int.tmod (nth (specDrawPlaces code) 1) 9)) ((lawssampleStore (Int.tmod (nth (specDrawPlaces code) 0) 99)), []))).1) 1)).1) 1)).1) 1)).1) 1)).1) 1)).2) = false := bnot_t h12
                  refine rk tt_ok [(2, .b (((implCollectVersions (((implUnpinVersion (((implUnpinVersion (((implPinVersion (((implPinVersion (((implAppendVersion (((implAppendVersion [] 1 ((lawssampleStore (Int.tmod (nth (specDrawPlaces code) 0) 99)), []))).1) (IntKind.i64.wrap (2 + Int.tmod (nth (specDrawPlaces code) 1) 9)) ((lawssampleStore (Int.tmod (nth (specDrawPlaces code) 0) 99)), []))).1) 1)).1) 1)).1) 1)).1) 1)).1)).length : Int) == (1 : Int)))] [2, 5, 7, 8, 9, 11, 12, 14, 16] [] [] [(0, .val (.b true)), (2, .val (.b true)), (5, .val (.b true)), (8, .val (.b true)), (11, .val (.b true)), (14, .val (.b false)), (15, .val (.b true)), (18, .val (.b false)), (19, .val (.b true)), (23, .val (.q 0 (implCollectVersions (((implUnpinVersion (((implUnpinVersion (((implPinVersion (((implPinVersion (((implAppendVersion (((implAppendVersion [] 1 ((lawssampleStore (Int.tmod (nth (specDrawPlaces code) 0) 99)), []))).1) (IntKind.i64.wrap (2 + Int.tmod (nth (specDrawPlaces code) 1) 9)) ((lawssampleStore (Int.tmod (nth (specDrawPlaces code) 0) 99)), []))).1) 1)).1) 1)).1) 1)).1) 1)).1)))), (24, .val (.i ((implCollectVersions (((implUnpinVersion (((implUnpinVersion (((implPinVersion (((implPinVersion (((implAppendVersion (((implAppendVersion [] 1 ((lawssampleStore (Int.tmod (nth (specDrawPlaces code) 0) 99)), []))).1) (IntKind.i64.wrap (2 + Int.tmod (nth (specDrawPlaces code) 1) 9)) ((lawssampleStore (Int.tmod (nth (specDrawPlaces code) 0) 99)), []))).1) 1)).1) 1)).1) 1)).1) 1)).1)).length : Int)))] (o2 (ob_eq (av_bool h6)) (o2 (ob_eq (av_bool h7)) (o2 (ob_eq (av_bool h8)) (o2 (ob_eq (av_bool h9)) (o2 (ob_eq (av_bool h10)) (o2 (ob_eq (av_bool h11n)) (o2 (ob_eq (show .b (!false) = .b true from rfl)) (o2 (ob_eq (av_bool h12n)) (o2 (ob_eq (show .b (!false) = .b true from rfl)) (o2 (ob_call (implCollectVersions_a (((implUnpinVersion (((implUnpinVersion (((implPinVersion (((implPinVersion (((implAppendVersion (((implAppendVersion [] 1 ((lawssampleStore (Int.tmod (nth (specDrawPlaces code) 0) 99)), []))).1) (IntKind.i64.wrap (2 + Int.tmod (nth (specDrawPlaces code) 1) 9)) ((lawssampleStore (Int.tmod (nth (specDrawPlaces code) 0) 99)), []))).1) 1)).1) 1)).1) 1)).1) 1)).1))) (o1 (ob_eq (av_len (implCollectVersions (((implUnpinVersion (((implUnpinVersion (((implPinVersion (((implPinVersion (((implAppendVersion (((implAppendVersion [] 1 ((lawssampleStore (Int.tmod (nth (specDrawPlaces code) 0) 99)), []))).1) (IntKind.i64.wrap (2 + Int.tmod (nth (specDrawPlaces code) 1) 9)) ((lawssampleStore (Int.tmod (nth (specDrawPlaces code) 0) 99)), []))).1) 1)).1) 1)).1) 1)).1) 1)).1))))))))))))))) ?_
                  exact ⟨rfl, weak_fit (by rw [h6, h7, h8, h9, h10, h11, h12]; first | done | kernel_rfl)⟩
                ·
                  have h12n : (((implUnpinVersion (((implUnpinVersion (((implUnpinVersion (((implPinVersion (((implPinVersion (((implAppendVersion (((implAppendVersion [] 1 ((lawssampleStore (Int.tmod (nth (specDrawPlaces code) 0) 99)), []))).1) (IntKind.i64.wrap (2 + Int.tmod (nth (specDrawPlaces code) 1) 9)) ((lawssampleStore (Int.tmod (nth (specDrawPlaces code) 0) 99)), []))).1) 1)).1) 1)).1) 1)).1) 1)).1) 1)).2) = true := bnot_f h12
                  refine rk tt_ok [] [5, 7, 8, 9, 11, 12, 14, 16] [] [] [(0, .val (.b true)), (2, .val (.b true)), (5, .val (.b true)), (8, .val (.b true)), (11, .val (.b true)), (14, .val (.b false)), (15, .val (.b true)), (18, .val (.b true)), (19, .val (.b false))] (o2 (ob_eq (av_bool h6)) (o2 (ob_eq (av_bool h7)) (o2 (ob_eq (av_bool h8)) (o2 (ob_eq (av_bool h9)) (o2 (ob_eq (av_bool h10)) (o2 (ob_eq (av_bool h11n)) (o2 (ob_eq (show .b (!false) = .b true from rfl)) (o2 (ob_eq (av_bool h12n)) (o1 (ob_eq (show .b (!true) = .b false from rfl))))))))))) ?_
                  exact ⟨rfl, weak_fit (by rw [h6, h7, h8, h9, h10, h11, h12]; first | done | kernel_rfl)⟩
              ·
                have h11n : (((implFindVersion (implCollectVersions (((implUnpinVersion (((implUnpinVersion (((implPinVersion (((implPinVersion (((implAppendVersion (((implAppendVersion [] 1 ((lawssampleStore (Int.tmod (nth (specDrawPlaces code) 0) 99)), []))).1) (IntKind.i64.wrap (2 + Int.tmod (nth (specDrawPlaces code) 1) 9)) ((lawssampleStore (Int.tmod (nth (specDrawPlaces code) 0) 99)), []))).1) 1)).1) 1)).1) 1)).1) 1)).1)) 1)).2) = true := bnot_f h11
                refine rk tt_ok [] [5, 7, 8, 9, 11, 12, 14, 16] [] [] [(0, .val (.b true)), (2, .val (.b true)), (5, .val (.b true)), (8, .val (.b true)), (11, .val (.b true)), (14, .val (.b true)), (15, .val (.b false))] (o2 (ob_eq (av_bool h6)) (o2 (ob_eq (av_bool h7)) (o2 (ob_eq (av_bool h8)) (o2 (ob_eq (av_bool h9)) (o2 (ob_eq (av_bool h10)) (o2 (ob_eq (av_bool h11n)) (o1 (ob_eq (show .b (!true) = .b false from rfl))))))))) ?_
                exact ⟨rfl, weak_fit (by rw [h6, h7, h8, h9, h10, h11]; first | done | kernel_rfl)⟩
            ·
              refine rk tt_ok [] [5, 7, 8, 9, 11, 12, 14, 16] [] [] [(0, .val (.b true)), (2, .val (.b true)), (5, .val (.b true)), (8, .val (.b true)), (11, .val (.b false))] (o2 (ob_eq (av_bool h6)) (o2 (ob_eq (av_bool h7)) (o2 (ob_eq (av_bool h8)) (o2 (ob_eq (av_bool h9)) (o1 (ob_eq (av_bool h10))))))) ?_
              exact ⟨rfl, weak_fit (by rw [h6, h7, h8, h9, h10]; first | done | kernel_rfl)⟩
          ·
            refine rk tt_ok [] [5, 7, 8, 9, 11, 12, 14, 16] [] [] [(0, .val (.b true)), (2, .val (.b true)), (5, .val (.b true)), (8, .val (.b false))] (o2 (ob_eq (av_bool h6)) (o2 (ob_eq (av_bool h7)) (o2 (ob_eq (av_bool h8)) (o1 (ob_eq (av_bool h9)))))) ?_
            exact ⟨rfl, weak_fit (by rw [h6, h7, h8, h9]; first | done | kernel_rfl)⟩
        ·
          refine rk tt_ok [] [5, 7, 8, 9, 11, 12, 14, 16] [] [] [(0, .val (.b true)), (2, .val (.b true)), (5, .val (.b false))] (o2 (ob_eq (av_bool h6)) (o2 (ob_eq (av_bool h7)) (o1 (ob_eq (av_bool h8))))) ?_
          exact ⟨rfl, weak_fit (by rw [h6, h7, h8]; first | done | kernel_rfl)⟩
      ·
        refine rk tt_ok [] [5, 7, 8, 9, 11, 12, 14, 16] [] [] [(0, .val (.b true)), (2, .val (.b false))] (o2 (ob_eq (av_bool h6)) (o1 (ob_eq (av_bool h7)))) ?_
        exact ⟨rfl, weak_fit (by rw [h6, h7]; first | done | kernel_rfl)⟩
    ·
      refine rk tt_ok [] [5, 7, 8, 9, 11, 12, 14, 16] [] [] [(0, .val (.b false))] (o1 (ob_eq (av_bool h6))) ?_
      exact ⟨rfl, weak_fit (by rw [h6]; first | done | kernel_rfl)⟩
    refine awp_ret ?_
    exact pret [] (congrArg (fun z => (.b z : AV)) (show lawsFnPinCounts code = (((implPinVersion (((implAppendVersion (((implAppendVersion [] 1 ((lawssampleStore (Int.tmod (nth (specDrawPlaces code) 0) 99)), []))).1) (IntKind.i64.wrap (2 + Int.tmod (nth (specDrawPlaces code) 1) 9)) ((lawssampleStore (Int.tmod (nth (specDrawPlaces code) 0) 99)), []))).1) 1)).2 && (((implPinVersion (((implPinVersion (((implAppendVersion (((implAppendVersion [] 1 ((lawssampleStore (Int.tmod (nth (specDrawPlaces code) 0) 99)), []))).1) (IntKind.i64.wrap (2 + Int.tmod (nth (specDrawPlaces code) 1) 9)) ((lawssampleStore (Int.tmod (nth (specDrawPlaces code) 0) 99)), []))).1) 1)).1) 1)).2 && (((implUnpinVersion (((implPinVersion (((implPinVersion (((implAppendVersion (((implAppendVersion [] 1 ((lawssampleStore (Int.tmod (nth (specDrawPlaces code) 0) 99)), []))).1) (IntKind.i64.wrap (2 + Int.tmod (nth (specDrawPlaces code) 1) 9)) ((lawssampleStore (Int.tmod (nth (specDrawPlaces code) 0) 99)), []))).1) 1)).1) 1)).1) 1)).2 && (((implUnpinVersion (((implUnpinVersion (((implPinVersion (((implPinVersion (((implAppendVersion (((implAppendVersion [] 1 ((lawssampleStore (Int.tmod (nth (specDrawPlaces code) 0) 99)), []))).1) (IntKind.i64.wrap (2 + Int.tmod (nth (specDrawPlaces code) 1) 9)) ((lawssampleStore (Int.tmod (nth (specDrawPlaces code) 0) 99)), []))).1) 1)).1) 1)).1) 1)).1) 1)).2 && (((implFindVersion (implCollectVersions (((implUnpinVersion (((implPinVersion (((implPinVersion (((implAppendVersion (((implAppendVersion [] 1 ((lawssampleStore (Int.tmod (nth (specDrawPlaces code) 0) 99)), []))).1) (IntKind.i64.wrap (2 + Int.tmod (nth (specDrawPlaces code) 1) 9)) ((lawssampleStore (Int.tmod (nth (specDrawPlaces code) 0) 99)), []))).1) 1)).1) 1)).1) 1)).1)) 1)).2 && ((!(((implFindVersion (implCollectVersions (((implUnpinVersion (((implUnpinVersion (((implPinVersion (((implPinVersion (((implAppendVersion (((implAppendVersion [] 1 ((lawssampleStore (Int.tmod (nth (specDrawPlaces code) 0) 99)), []))).1) (IntKind.i64.wrap (2 + Int.tmod (nth (specDrawPlaces code) 1) 9)) ((lawssampleStore (Int.tmod (nth (specDrawPlaces code) 0) 99)), []))).1) 1)).1) 1)).1) 1)).1) 1)).1)) 1)).2)) && ((!(((implUnpinVersion (((implUnpinVersion (((implUnpinVersion (((implPinVersion (((implPinVersion (((implAppendVersion (((implAppendVersion [] 1 ((lawssampleStore (Int.tmod (nth (specDrawPlaces code) 0) 99)), []))).1) (IntKind.i64.wrap (2 + Int.tmod (nth (specDrawPlaces code) 1) 9)) ((lawssampleStore (Int.tmod (nth (specDrawPlaces code) 0) 99)), []))).1) 1)).1) 1)).1) 1)).1) 1)).1) 1)).2)) && (((implCollectVersions (((implUnpinVersion (((implUnpinVersion (((implPinVersion (((implPinVersion (((implAppendVersion (((implAppendVersion [] 1 ((lawssampleStore (Int.tmod (nth (specDrawPlaces code) 0) 99)), []))).1) (IntKind.i64.wrap (2 + Int.tmod (nth (specDrawPlaces code) 1) 9)) ((lawssampleStore (Int.tmod (nth (specDrawPlaces code) 0) 99)), []))).1) 1)).1) 1)).1) 1)).1) 1)).1)).length : Int) == (1 : Int))))))))) from bif_f h1 (rfl)).symm)
end Go.Proofs.Ytmbdajoapbcigaa
namespace Go.Proofs.Ytmbdajoapbcigaa
open Go.RowKit
def pcX (a : Int) : SnapshotD := (lawssampleStore a, [])
def pcV (a b : Int) : List VersionD := (implAppendVersion (implAppendVersion [] 1 (pcX a)).1 (IntKind.i64.wrap (2 + b)) (pcX a)).1
def pcP (v : List VersionD) : List VersionD := (implPinVersion v 1).1
def pcU (v : List VersionD) : List VersionD := (implUnpinVersion v 1).1
def pcAll (v : List VersionD) : Bool := (implPinVersion v 1).2 && ((implPinVersion (pcP v) 1).2 && ((implUnpinVersion (pcP (pcP v)) 1).2 && ((implUnpinVersion (pcU (pcP (pcP v))) 1).2 && ((implFindVersion (implCollectVersions (pcU (pcP (pcP v)))) 1).2 && ((!(implFindVersion (implCollectVersions (pcU (pcU (pcP (pcP v))))) 1).2) && ((!(implUnpinVersion (pcU (pcU (pcP (pcP v)))) 1).2) && (((implCollectVersions (pcU (pcU (pcP (pcP v))))).length : Int) == (1 : Int))))))))
theorem pc_0 : ((List.range 11).all fun a => (List.range 9).all fun b => pcAll (pcV ((0 + a : Nat) : Int) (b : Int))) = true := by kernel_rfl
theorem pc_1 : ((List.range 11).all fun a => (List.range 9).all fun b => pcAll (pcV ((11 + a : Nat) : Int) (b : Int))) = true := by kernel_rfl
theorem pc_2 : ((List.range 11).all fun a => (List.range 9).all fun b => pcAll (pcV ((22 + a : Nat) : Int) (b : Int))) = true := by kernel_rfl
theorem pc_3 : ((List.range 11).all fun a => (List.range 9).all fun b => pcAll (pcV ((33 + a : Nat) : Int) (b : Int))) = true := by kernel_rfl
theorem pc_4 : ((List.range 11).all fun a => (List.range 9).all fun b => pcAll (pcV ((44 + a : Nat) : Int) (b : Int))) = true := by kernel_rfl
theorem pc_5 : ((List.range 11).all fun a => (List.range 9).all fun b => pcAll (pcV ((55 + a : Nat) : Int) (b : Int))) = true := by kernel_rfl
theorem pc_6 : ((List.range 11).all fun a => (List.range 9).all fun b => pcAll (pcV ((66 + a : Nat) : Int) (b : Int))) = true := by kernel_rfl
theorem pc_7 : ((List.range 11).all fun a => (List.range 9).all fun b => pcAll (pcV ((77 + a : Nat) : Int) (b : Int))) = true := by kernel_rfl
theorem pc_8 : ((List.range 11).all fun a => (List.range 9).all fun b => pcAll (pcV ((88 + a : Nat) : Int) (b : Int))) = true := by kernel_rfl
theorem pc_of {k : Nat} (h : ((List.range 11).all fun a => (List.range 9).all fun b => pcAll (pcV ((k + a : Nat) : Int) (b : Int))) = true) {a b : Int} (h0 : (k : Int) ≤ a) (h1 : a < (k : Int) + 11) (h2 : 0 ≤ b) (h3 : b < 9) : pcAll (pcV a b) = true := by
  have ha := List.all_eq_true.1 h (a.toNat - k) (by rw [List.mem_range]; omega)
  have hb := List.all_eq_true.1 ha b.toNat (by rw [List.mem_range]; omega)
  rw [show ((k + (a.toNat - k) : Nat) : Int) = a by omega, Int.toNat_of_nonneg h2] at hb
  exact hb
theorem lawsFnPinCounts_true (code : List UInt8) : lawsFnPinCounts code = true := by
  unfold lawsFnPinCounts
  cases lawsbig code with
  | true => rfl
  | false =>
    obtain ⟨h0, h1⟩ := (place_mod code 0 (by decide) (m := 99) (by decide)).2
    obtain ⟨h2, h3⟩ := (place_mod code 1 (by decide) (m := 9) (by decide)).2
    show pcAll (pcV (Int.tmod (nth (specDrawPlaces code) 0) 99) (Int.tmod (nth (specDrawPlaces code) 1) 9)) = true
    generalize Int.tmod (nth (specDrawPlaces code) 0) 99 = a at h0 h1 ⊢
    generalize Int.tmod (nth (specDrawPlaces code) 1) 9 = b at h2 h3 ⊢
    by_cases c0 : a < 11
    · exact pc_of pc_0 (by omega) (by omega) h2 h3
    by_cases c1 : a < 22
    · exact pc_of pc_1 (by omega) (by omega) h2 h3
    by_cases c2 : a < 33
    · exact pc_of pc_2 (by omega) (by omega) h2 h3
    by_cases c3 : a < 44
    · exact pc_of pc_3 (by omega) (by omega) h2 h3
    by_cases c4 : a < 55
    · exact pc_of pc_4 (by omega) (by omega) h2 h3
    by_cases c5 : a < 66
    · exact pc_of pc_5 (by omega) (by omega) h2 h3
    by_cases c6 : a < 77
    · exact pc_of pc_6 (by omega) (by omega) h2 h3
    by_cases c7 : a < 88
    · exact pc_of pc_7 (by omega) (by omega) h2 h3
    by_cases c8 : a < 99
    · exact pc_of pc_8 (by omega) (by omega) h2 h3
    omega
end Go.Proofs.Ytmbdajoapbcigaa
namespace Go.Proofs.Ytmbdajoapbcigaa
open Go.RowKit
open GoD (rd own)
theorem bigPinCounts (w : World) (v : Value) (a : List UInt8) (h : rd w [v] a) (hbig : ¬ a.length ≤ 1048576) : Calls Try.prog 4 #[v] w (Ret w (.bool true)) := by
  obtain ⟨oa, cap, rfl⟩ := slice_of_rd h
  have hln := len_of_rd h
  clear h
  have hbi : 1048576 < (a.length : Int) := by omega
  go_enter Try.func4, Try.ntmps4
  go_wp2_with (first | (go_at_call 13; go_in))
  go_ret
  exact ⟨rfl, by go_grown⟩
theorem lawPinCounts (w : World) (v : Value) (a : List UInt8) (h : rd w [v] a) : Calls Try.prog 4 #[v] w (Ret w (.bool true)) := by
  by_cases hbig : a.length ≤ 1048576
  · haveI : Good Try.prog w := Good.none (by kernel_rfl) w
    have hc := (lawsFnPinCounts_a a).run (.cons (arg_sli h ⟨by omega, fun _ _ => trivial⟩) .nil)
    rw [lawsFnPinCounts_true] at hc
    exact hc.mono fun _ _ h => ret_bool h
  · exact bigPinCounts w v a h hbig
end Go.Proofs.Ytmbdajoapbcigaa
