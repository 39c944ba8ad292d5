/- What functions compute, and that they do (printed by am2.py): each function as a Lean function, then its contract. -/
import Derived.Test.YtceekipigpcilaaDoorFnd
import Derived.KernelRfl
set_option linter.unusedVariables false
set_option linter.unusedSimpArgs false
namespace Go.Proofs.YtceekipigpcilaaDoor
open Go.RowKit
open GoE (enc wide)
def lawsbig (code : (List UInt8)) : Bool := decide ((code.length : Int) > (1048576 : Int))
theorem lawsbig_a (code : (List UInt8)) : ACalls Tryd.prog 4 [.h code] (.b (lawsbig code)) := by
  refine acalls_of (tt := tt) tt_ok Tryd.func4 (fn := Tryd.f4) rfl (by unfold FnOk; kernel_rfl) (Nat.le_of_ble_eq_true rfl) fun w0 F0 hG => ?_
  refine awp_seq ?_
  refine rk tt_ok [(2, .b false)] [] [] [] [] (o0) ?_
  refine awp_seq ?_
  refine rk tt_ok [(2, .b (decide ((code.length : Int) > (1048576 : Int))))] [0, 2] [] [] [(1, .val (.i (code.length : Int)))] (o1 (ob_eq (av_len code))) ?_
  refine awp_ret ?_
  exact pret [] (congrArg (fun z => (.b z : AV)) (show lawsbig code = decide ((code.length : Int) > (1048576 : Int)) from rfl).symm)
def specl03Usual : (List FieldD) := [((⟨#[97]⟩, 1) : FieldD), ((⟨#[98]⟩, 1) : FieldD), ((⟨#[110]⟩, 2) : FieldD), ((⟨#[116]⟩, 2) : FieldD)]
theorem specl03Usual_a : ACalls Tryd.prog 17 [] (.o 0 specl03Usual) := by
  refine acalls_of (tt := tt) tt_ok Tryd.func17 (fn := Tryd.f17) rfl (by unfold FnOk; kernel_rfl) (Nat.le_of_ble_eq_true rfl) fun w0 F0 hG => ?_
  refine awp_seq ?_
  refine rk tt_ok [(0, .e 0)] [] [] [] [] (o0) ?_
  refine awp_seq ?_
  refine rk tt_ok [(0, .o 320 [((⟨#[97]⟩, 1) : FieldD), ((⟨#[98]⟩, 1) : FieldD), ((⟨#[110]⟩, 2) : FieldD), ((⟨#[116]⟩, 2) : FieldD)])] [0] [] [] [] (o0) ?_
  refine awp_ret ?_
  exact pret [] (congrArg (fun z => (.o 0 z : AV)) (show specl03Usual = [((⟨#[97]⟩, 1) : FieldD), ((⟨#[98]⟩, 1) : FieldD), ((⟨#[110]⟩, 2) : FieldD), ((⟨#[116]⟩, 2) : FieldD)] from rfl).symm)
def specDefaultSchema : (List FieldD) := specl03Usual
theorem specDefaultSchema_a : ACalls Tryd.prog 7 [] (.o 0 specDefaultSchema) := by
  refine acalls_of (tt := tt) tt_ok Tryd.func7 (fn := Tryd.f7) rfl (by unfold FnOk; kernel_rfl) (Nat.le_of_ble_eq_true rfl) fun w0 F0 hG => ?_
  refine awp_seq ?_
  refine rk tt_ok [(0, .e 0)] [] [] [] [] (o0) ?_
  refine awp_seq ?_
  refine rk tt_ok [(0, .o 64 specl03Usual)] [0] [] [] [(0, .val (.o 0 specl03Usual))] (o1 (ob_call (specl03Usual_a))) ?_
  refine awp_ret ?_
  exact pret [] (congrArg (fun z => (.o 0 z : AV)) (show specDefaultSchema = specl03Usual from rfl).symm)
def specNewStore (s_ : (List FieldD)) : StoreD := (s_, [], 1)
theorem specNewStore_a (s_ : (List FieldD)) : ACalls Tryd.prog 6 [.h s_] (.a [.o 0 ((specNewStore s_).1), .o 1 ((specNewStore s_).2.1), .i ((specNewStore s_).2.2)]) := by
  refine acalls_of (tt := tt) tt_ok Tryd.func6 (fn := Tryd.f6) rfl (by unfold FnOk; kernel_rfl) (Nat.le_of_ble_eq_true rfl) fun w0 F0 hG => ?_
  refine awp_seq ?_
  refine rk tt_ok [(2, .p 2 0)] [] [(2, [.e 2, .e 5, .i 0])] [] [] (o0) ?_
  refine awp_seq ?_
  refine wdT 0 0 .sh s_ (fun hw1 => ?_)
  have hl2 : List.length s_ ≤ 1073741824 := wide_len (hw1)
  refine rk tt_ok [] [0] [(2, [.o 320 s_, .e 5, .i 1])] [2] [(2, .flat)] (o2 (ob_len (n := (([] : List (List PV)).length + ((eL s_) : List (List PV)).length)) (len_of (rfl) (eL_length s_) (by first | omega | (simp; omega) | simp))) (o1 (ob_flat (flat_eL s_)))) ?_
  refine opn [(true, 2, 1, true, 384000, 5)] ?_
  refine awp_ret ?_
  exact pret [] (congrArg (fun z => (.a [.o 0 z.1, .o 1 z.2.1, .i z.2.2] : AV)) (show specNewStore s_ = (s_, [], 1) from rfl).symm)
def specStringValue (w : ByteArray) : ValueD := (2, 0, w)
theorem specStringValue_a (w : ByteArray) : ACalls Tryd.prog 10 [.s w] (.a [.i ((specStringValue w).1), .i ((specStringValue w).2.1), .s ((specStringValue w).2.2)]) := by
  refine acalls_of (tt := tt) tt_ok Tryd.func10 (fn := Tryd.f10) rfl (by unfold FnOk; kernel_rfl) (Nat.le_of_ble_eq_true rfl) fun w0 F0 hG => ?_
  refine awp_seq ?_
  refine rk tt_ok [(2, .p 2 0)] [] [(2, [.i 0, .i 0, .s ⟨#[]⟩])] [] [] (o0) ?_
  refine awp_seq ?_
  refine rk tt_ok [] [0] [(2, [.i 2, .i 0, .s w])] [2] [] (o0) ?_
  refine awp_ret ?_
  exact pret [] (congrArg (fun z => (.a [.i z.1, .i z.2.1, .s z.2.2] : AV)) (show specStringValue w = (2, 0, w) from rfl).symm)
def specSetAttr_f0 (name : ByteArray) (_ : Nat) (a0 : AttrD) (s0 : (List AttrD)) : Rd (FileD) ((List AttrD)) ((List AttrD)) := (bif (!(a0.1.toList == name.toList)) then (.next (s0 ++ [a0])) else (.next s0))
def specSetAttr_e0 (_ : Nat) (s0 : (List AttrD)) : (List AttrD) := s0
def specSetAttr_f1 (name : ByteArray) (k1 : Nat) (a1 : AttrD) (_ : Unit) : Rd (FileD) (Unit) (Int) := (bif (Op.bytesLess a1.1.toList name.toList || a1.1.toList == name.toList) then (.next ()) else (.brk ((k1 : Nat) : Int)))
def specSetAttr_e1 (k1 : Nat) (_ : Unit) : Int := ((k1 : Nat) : Int)
def specSetAttr (f : FileD) (name : ByteArray) (v : ValueD) : FileD := (Out.on (forL (specSetAttr_f0 name) specSetAttr_e0 f.2.2.2.2 0 []) (fun y0 => (bif (v.1 != (0 : Int)) then (Out.on (forL (specSetAttr_f1 name) specSetAttr_e1 y0 0 ()) (fun y1 => (f.1, f.2.1, f.2.2.1, f.2.2.2.1, List.take (Int.toNat y1) y0 ++ [(name, v)] ++ (List.drop (Int.toNat y1) y0)))) else (f.1, f.2.1, f.2.2.1, f.2.2.2.1, y0))))
theorem specSetAttr_a (f : FileD) (name : ByteArray) (v : ValueD) (hp : List.length f.2.2.2.2 ≤ 1073741000) : ACalls Tryd.prog 9 [.a [.i f.1, .i f.2.1, .b f.2.2.1, .i f.2.2.2.1, .h f.2.2.2.2], .s name, .a [.i v.1, .i v.2.1, .s v.2.2]] (.a [.i ((specSetAttr f name v).1), .i ((specSetAttr f name v).2.1), .b ((specSetAttr f name v).2.2.1), .i ((specSetAttr f name v).2.2.2.1), .o 0 ((specSetAttr f name v).2.2.2.2)]) := by
  refine acalls_of (tt := tt) tt_ok Tryd.func9 (fn := Tryd.f9) rfl (by unfold FnOk; kernel_rfl) (Nat.le_of_ble_eq_true rfl) fun w0 F0 hG => ?_
  refine awp_seq ?_
  refine rk tt_ok [(3, .p 3 0), (5, .p 5 0), (6, .p 6 0)] [0, 2] [(3, [.i f.1, .i f.2.1, .b f.2.2.1, .i f.2.2.2.1, .h f.2.2.2.2]), (5, [.i v.1, .i v.2.1, .s v.2.2]), (6, [.i 0, .i 0, .b false, .i 0, .e 4])] [] [] (o0) ?_
  refine awp_seq ?_
  refine rk tt_ok [(7, .one (.slc (.own true 704) 4 []))] [] [] [] [] (o0) ?_
  refine awp_seq ?_
  refine awp_seq ?_
  refine rk tt_ok [(8, .i 0)] [] [] [] [] (o0) ?_
  refine wdB 3 4 .sh f.2.2.2.2 (fun hw1 => ?_)
  have hl2 : List.length f.2.2.2.2 ≤ 1073741824 := wide_len (hw1)
  refine blk (fun (k0 : Nat) (s0 : (List AttrD)) => [(7, .o 147204 s0), (8, .i ((k0 : Nat) : Int))]) [7, 8] (fun k0 s0 => []) [] (fun (y0 : (List AttrD)) => [(7, .o 147354 y0)]) [7, 8] (fun y0 => []) [] (fun (k0 : Nat) (s0 : (List AttrD)) => (forL (specSetAttr_f0 name) specSetAttr_e0 f.2.2.2.2 0 []) = forL (specSetAttr_f0 name) specSetAttr_e0 (List.drop k0 f.2.2.2.2) k0 s0 ∧ List.length s0 ≤ k0) (fun (y0 : (List AttrD)) => (forL (specSetAttr_f0 name) specSetAttr_e0 f.2.2.2.2 0 []) = .brk y0 ∧ List.length y0 ≤ List.length f.2.2.2.2) f.2.2.2.2.length [] (weak_sf [(704, 147204)] (by kernel_rfl)) ⟨rfl, (by simp)⟩ (fun k0 s0 hk0 hI0 => ?_) (fun k0 s0 hk0 hI0 => ?_) (fun y0 hD0 => ?_)
  ·
    have hA0_0 := hI0.2
    obtain ⟨a0, hx0⟩ := get_some (l := f.2.2.2.2) (i := k0) hk0
    refine awp_seq ?_
    refine awp_seq ?_
    refine rk tt_ok [(16, .b true)] [] [] [] [(3, .val (.i (f.2.2.2.2.length : Int))), (4, .val (.b true))] (o2 (ob_eq (av_len f.2.2.2.2)) (o1 (ob_eq (av_bool (decide_eq_true (p := ((k0 : Nat) : Int) < (f.2.2.2.2.length : Int)) (by omega)))))) ?_
    refine ckT ?_
    refine awp_skip ?_
    refine awp_seq ?_
    refine awp_block ?_
    refine awp_seq ?_
    refine rk tt_ok [(26, .b (!(a0.1.toList == name.toList)))] [16] [] [] [(3, .row [.s a0.1, .i a0.2.1, .i a0.2.2.1, .s a0.2.2.2])] (o1 (ob_elem (el_of (i := ((k0 : Nat) : Int)) (by omega) rfl hx0))) ?_
    refine ck (!(a0.1.toList == name.toList)) (fun h3 => ?_) (fun h3 => ?_)
    ·
      have h3n : (a0.1.toList == name.toList) = false := bnot_t h3
      refine wdT 7 0 (.own true 147204) s0 (fun hw4 => ?_)
      have hl5 : List.length s0 ≤ 1073741824 := wide_len (hw4)
      refine rk tt_ok [(7, .one (.slc (.own true 2176) 4 ((eL s0) ++ [[.s a0.1, .i a0.2.1, .i a0.2.2.1, .s a0.2.2.2]])))] [7, 26] [] [] [(4, .row [.s a0.1, .i a0.2.1, .i a0.2.2.1, .s a0.2.2.2])] (o2 (ob_elem (el_of (i := ((k0 : Nat) : Int)) (by omega) rfl hx0)) (o1 (ob_len (len_of (eL_length s0) (eL_length [a0]) (by first | omega | (simp; omega) | simp))))) ?_
      refine eqn [(7, .o 2176 (s0 ++ [a0]))] [7] [] [] (by rw [show ((eL s0) ++ [[.s a0.1, .i a0.2.1, .i a0.2.2.1, .s a0.2.2.2]]) = (eL (s0 ++ [a0])) from app_eL (rfl) (rfl)]; first | done | kernel_rfl) ?_
      refine rk tt_ok [(8, .i ((k0 + 1 : Nat) : Int))] [8] [] [] [(1, .val (.i ((k0 + 1 : Nat) : Int)))] (o1 (ob_eq (av_i (wrap_succ k0 (by omega))))) ?_
      exact Exists.intro (s0 ++ [a0]) (And.intro (weak_sf [(2176, 147204)] (by kernel_rfl)) ⟨forL_next hx0 (bif_t h3 (rfl)) hI0.1, by first | omega | (simp; omega) | simp⟩)
    ·
      have h3n : (a0.1.toList == name.toList) = true := bnot_f h3
      refine awp_skip ?_
      refine rk tt_ok [(8, .i ((k0 + 1 : Nat) : Int))] [8, 26] [] [] [(1, .val (.i ((k0 + 1 : Nat) : Int)))] (o1 (ob_eq (av_i (wrap_succ k0 (by omega))))) ?_
      exact Exists.intro s0 (And.intro (weak_fit (by kernel_rfl)) ⟨forL_next hx0 (bif_f h3 (rfl)) hI0.1, by first | omega | (simp; omega) | simp⟩)
  ·
    have hA0_0 := hI0.2
    refine awp_seq ?_
    refine awp_seq ?_
    refine rk tt_ok [(16, .b false)] [] [] [] [(3, .val (.i (f.2.2.2.2.length : Int))), (4, .val (.b false))] (o2 (ob_eq (av_len f.2.2.2.2)) (o1 (ob_eq (av_bool (decide_eq_false (p := ((k0 : Nat) : Int) < (f.2.2.2.2.length : Int)) (by omega)))))) ?_
    refine ckF ?_
    refine awp_exit ?_
    exact Exists.intro s0 (And.intro (weak_sf [(147204, 147354)] (by kernel_rfl)) ⟨forL_end hk0 (rfl) hI0.1, by first | omega | (simp only [List.length_set]; omega)⟩)
  ·
    have hD0_0 := hD0.2
    refine awp_seq ?_
    refine awp_seq ?_
    refine rk tt_ok [(37, .b (v.1 != (0 : Int)))] [] [] [] [] (o0) ?_
    refine ck (v.1 != (0 : Int)) (fun h6 => ?_) (fun h6 => ?_)
    ·
      have h6d := ne_of_bne h6
      refine awp_seq ?_
      refine rk tt_ok [(9, .i 0)] [37] [] [] [] (o0) ?_
      refine awp_seq ?_
      refine wdT 7 0 (.own true 147354) y0 (fun hw7 => ?_)
      have hl8 : List.length y0 ≤ 1073741824 := wide_len (hw7)
      refine blk (fun (k1 : Nat) (s1 : Unit) => [(9, .i ((k1 : Nat) : Int))]) [9] (fun k1 s1 => []) [] (fun (y1 : Int) => [(9, .i y1)]) [9] (fun y1 => []) [] (fun (k1 : Nat) (s1 : Unit) => (forL (specSetAttr_f1 name) specSetAttr_e1 y0 0 ()) = forL (specSetAttr_f1 name) specSetAttr_e1 (List.drop k1 y0) k1 s1) (fun (y1 : Int) => (forL (specSetAttr_f1 name) specSetAttr_e1 y0 0 ()) = .brk y1 ∧ 0 ≤ y1 ∧ y1 ≤ (y0.length : Int)) y0.length () (weak_fit (by kernel_rfl)) rfl (fun k1 s1 hk1 hI1 => ?_) (fun k1 s1 hk1 hI1 => ?_) (fun y1 hD1 => ?_)
      ·
        obtain ⟨a1, hx1⟩ := get_some (l := y0) (i := k1) hk1
        refine awp_seq ?_
        refine awp_seq ?_
        refine rk tt_ok [(50, .b (Op.bytesLess a1.1.toList name.toList || a1.1.toList == name.toList))] [] [] [] [(2, .val (.i (y0.length : Int))), (3, .val (.b true)), (7, .rowE [.s a1.1, .i a1.2.1, .i a1.2.2.1, .s a1.2.2.2])] (o2 (ob_eq (av_len y0)) (o2 (ob_eq (av_bool (decide_eq_true (p := ((k1 : Nat) : Int) < (y0.length : Int)) (by omega)))) (o1 (ob_elem (el_of (i := ((k1 : Nat) : Int)) (by omega) rfl hx1))))) ?_
        refine ck (Op.bytesLess a1.1.toList name.toList || a1.1.toList == name.toList) (fun h9 => ?_) (fun h9 => ?_)
        ·
          refine awp_skip ?_
          refine awp_block ?_
          refine rk tt_ok [(9, .i ((k1 + 1 : Nat) : Int))] [9, 50] [] [] [(1, .val (.i ((k1 + 1 : Nat) : Int)))] (o1 (ob_eq (av_i (wrap_succ k1 (by omega))))) ?_
          exact Exists.intro () (And.intro (weak_fit (by kernel_rfl)) (forL_next hx1 (bif_t h9 (rfl)) hI1))
        ·
          have h9l : (Op.bytesLess a1.1.toList name.toList) = false := or_l h9
          have h9r : (a1.1.toList == name.toList) = false := or_r h9
          refine awp_exit ?_
          exact Exists.intro ((k1 : Nat) : Int) (And.intro (weak_fit (by kernel_rfl)) ⟨forL_brk hx1 (bif_f h9 (rfl)) hI1, by first | omega | (simp only [List.length_set]; omega)⟩)
      ·
        refine awp_seq ?_
        refine awp_seq ?_
        refine rk tt_ok [(50, .b false)] [] [] [] [(2, .val (.i (y0.length : Int))), (3, .val (.b false))] (o2 (ob_eq (av_len y0)) (o1 (ob_eq (av_bool (decide_eq_false (p := ((k1 : Nat) : Int) < (y0.length : Int)) (by omega)))))) ?_
        refine ckF ?_
        refine awp_exit ?_
        exact Exists.intro ((k1 : Nat) : Int) (And.intro (weak_fit (by kernel_rfl)) ⟨forL_end hk1 (rfl) hI1, by first | omega | (simp only [List.length_set]; omega)⟩)
      ·
        have hD1_0 := hD1.2
        refine awp_seq ?_
        refine rd' tt_ok tt_mx [(10, .one (.slc (.own true 3968) 4 (([] ++ (eL (List.take (Int.toNat y1) y0))) ++ [[.s name, .i v.1, .i v.2.1, .s v.2.2]])))] [1, 5] [] [5] [(3, .val (.v 147354 (List.take (Int.toNat y1) y0))), (4, .flat)] (o2 (ob_eq (av_take (.vw 147354) 4 (Int.toNat y1) y1 y0 rfl)) (o2 (ob_rng (lo := 0) (hi := y1) (n := (List.length (eL y0))) (rng_of (by omega) (by omega) (by omega))) (o2 (ob_len (n := (([] : List (List PV)).length + ((eL (List.take (Int.toNat y1) y0)) : List (List PV)).length)) (len_of (rfl) (eL_length (List.take (Int.toNat y1) y0)) (by first | omega | (simp; omega) | simp))) (o2 (ob_flat (flat_eL (List.take (Int.toNat y1) y0))) (o1 (ob_len (n := ((([] ++ (eL (List.take (Int.toNat y1) y0))) : List (List PV)).length + ([[.s name, .i v.1, .i v.2.1, .s v.2.2]] : List (List PV)).length)) (by simp [eL_length]; omega))))))) ?_
        refine eqn [(10, .o 3968 (List.take (Int.toNat y1) y0 ++ [(name, v)]))] [10] [] [] (by rw [show (([] ++ (eL (List.take (Int.toNat y1) y0))) ++ [[.s name, .i v.1, .i v.2.1, .s v.2.2]]) = (eL (List.take (Int.toNat y1) y0 ++ [(name, v)])) from app_eL (rfl) (rfl)]; first | done | kernel_rfl) ?_
        refine wdT 10 0 (.own true 3968) (List.take (Int.toNat y1) y0 ++ [(name, v)]) (fun hw10 => ?_)
        have hl11 : List.length (List.take (Int.toNat y1) y0 ++ [(name, v)]) ≤ 1073741824 := wide_len (hw10)
        refine rk tt_ok [(7, .one (.slc (.own true 4288) 4 ((eL (List.take (Int.toNat y1) y0 ++ [(name, v)])) ++ (eL (List.drop (Int.toNat y1) y0)))))] [7, 9, 10] [] [] [(3, .val (.v 147354 (List.drop (Int.toNat y1) y0))), (4, .flat)] (o2 (ob_eq (av_drop (.vw 147354) 4 (Int.toNat y1) y1 y0 rfl)) (o2 (ob_rng (lo := y1) (hi := (((eL y0) : List (List PV)).length : Int)) (n := (List.length (eL y0))) (rng_all (by omega) (by omega))) (o2 (ob_len (len_of (eL_length (List.take (Int.toNat y1) y0 ++ [(name, v)])) (eL_length (List.drop (Int.toNat y1) y0)) (by first | omega | (simp; omega) | simp))) (o1 (ob_flat (flat_eL (List.drop (Int.toNat y1) y0))))))) ?_
        refine eqn [(7, .o 4288 (List.take (Int.toNat y1) y0 ++ [(name, v)] ++ (List.drop (Int.toNat y1) y0)))] [7] [] [] (by rw [show ((eL (List.take (Int.toNat y1) y0 ++ [(name, v)])) ++ (eL (List.drop (Int.toNat y1) y0))) = (eL (List.take (Int.toNat y1) y0 ++ [(name, v)] ++ (List.drop (Int.toNat y1) y0))) from app_eL (rfl) (rfl)]; first | done | kernel_rfl) ?_
        refine awp_seq ?_
        refine rk tt_ok [] [7] [(3, [.i f.1, .i f.2.1, .b f.2.2.1, .i f.2.2.2.1, .o 4288 (List.take (Int.toNat y1) y0 ++ [(name, v)] ++ (List.drop (Int.toNat y1) y0))])] [3] [] (o0) ?_
        refine awp_seq ?_
        refine rk tt_ok [] [3] [(6, [.i f.1, .i f.2.1, .b f.2.2.1, .i f.2.2.2.1, .o 4288 (List.take (Int.toNat y1) y0 ++ [(name, v)] ++ (List.drop (Int.toNat y1) y0))])] [3, 6] [] (o0) ?_
        refine awp_ret ?_
        exact pret [] (congrArg (fun z => (.a [.i z.1, .i z.2.1, .b z.2.2.1, .i z.2.2.2.1, .o 0 z.2.2.2.2] : AV)) (show specSetAttr f name v = (f.1, f.2.1, f.2.2.1, f.2.2.2.1, List.take (Int.toNat y1) y0 ++ [(name, v)] ++ (List.drop (Int.toNat y1) y0)) from on_b hD0.1 (bif_t h6 (on_b hD1.1 (rfl)))).symm)
    ·
      have h6d := eq_of_bne h6
      refine awp_skip ?_
      refine awp_seq ?_
      refine rk tt_ok [] [1, 5, 7, 37] [(3, [.i f.1, .i f.2.1, .b f.2.2.1, .i f.2.2.2.1, .o 147354 y0])] [3, 5] [] (o0) ?_
      refine awp_seq ?_
      refine rk tt_ok [] [3] [(6, [.i f.1, .i f.2.1, .b f.2.2.1, .i f.2.2.2.1, .o 147354 y0])] [3, 6] [] (o0) ?_
      refine awp_ret ?_
      exact pret [] (congrArg (fun z => (.a [.i z.1, .i z.2.1, .b z.2.2.1, .i z.2.2.2.1, .o 0 z.2.2.2.2] : AV)) (show specSetAttr f name v = (f.1, f.2.1, f.2.2.1, f.2.2.2.1, y0) from on_b hD0.1 (bif_f h6 (rfl))).symm)
def specl04Copy (f : FileD) : FileD := f
theorem specl04Copy_a (f : FileD) : ACalls Tryd.prog 19 [.a [.i f.1, .i f.2.1, .b f.2.2.1, .i f.2.2.2.1, .h f.2.2.2.2]] (.a [.i ((specl04Copy f).1), .i ((specl04Copy f).2.1), .b ((specl04Copy f).2.2.1), .i ((specl04Copy f).2.2.2.1), .o 0 ((specl04Copy f).2.2.2.2)]) := by
  refine acalls_of (tt := tt) tt_ok Tryd.func19 (fn := Tryd.f19) rfl (by unfold FnOk; kernel_rfl) (Nat.le_of_ble_eq_true rfl) fun w0 F0 hG => ?_
  refine awp_seq ?_
  refine rk tt_ok [(1, .p 1 0), (2, .p 2 0)] [0] [(1, [.i f.1, .i f.2.1, .b f.2.2.1, .i f.2.2.2.1, .h f.2.2.2.2]), (2, [.i 0, .i 0, .b false, .i 0, .e 4])] [] [] (o0) ?_
  refine awp_seq ?_
  refine wdB 1 4 .sh f.2.2.2.2 (fun hw1 => ?_)
  have hl2 : List.length f.2.2.2.2 ≤ 1073741824 := wide_len (hw1)
  refine rk tt_ok [] [] [(1, [.i f.1, .i f.2.1, .b f.2.2.1, .i f.2.2.2.1, .o 384 f.2.2.2.2])] [1] [(3, .flat)] (o2 (ob_len (n := (([] : List (List PV)).length + ((eL f.2.2.2.2) : List (List PV)).length)) (len_of (rfl) (eL_length f.2.2.2.2) (by first | omega | (simp; omega) | simp))) (o1 (ob_flat (flat_eL f.2.2.2.2)))) ?_
  refine awp_seq ?_
  refine rk tt_ok [] [1] [(2, [.i f.1, .i f.2.1, .b f.2.2.1, .i f.2.2.2.1, .o 384 f.2.2.2.2])] [1, 2] [] (o0) ?_
  refine awp_ret ?_
  exact pret [] (congrArg (fun z => (.a [.i z.1, .i z.2.1, .b z.2.2.1, .i z.2.2.2.1, .o 0 z.2.2.2.2] : AV)) (show specl04Copy f = f from rfl).symm)
def specl05Copy_f0 (_ : Nat) (a0 : FileD) (s0 : (List FileD)) : Rd (StoreD) ((List FileD)) ((List FileD)) := (.next (s0 ++ [(specl04Copy a0)]))
def specl05Copy_e0 (_ : Nat) (s0 : (List FileD)) : (List FileD) := s0
def specl05Copy (s_ : StoreD) : StoreD := (Out.on (forL specl05Copy_f0 specl05Copy_e0 s_.2.1 0 []) (fun y0 => (s_.1, y0, s_.2.2)))
theorem specl05Copy_a (s_ : StoreD) : ACalls Tryd.prog 18 [.a [.h s_.1, .h s_.2.1, .i s_.2.2]] (.a [.o 0 ((specl05Copy s_).1), .o 1 ((specl05Copy s_).2.1), .i ((specl05Copy s_).2.2)]) := by
  refine acalls_of (tt := tt) tt_ok Tryd.func18 (fn := Tryd.f18) rfl (by unfold FnOk; kernel_rfl) (Nat.le_of_ble_eq_true rfl) fun w0 F0 hG => ?_
  refine awp_seq ?_
  refine rk tt_ok [(1, .p 1 0), (2, .p 2 0)] [0] [(1, [.h s_.1, .h s_.2.1, .i s_.2.2]), (2, [.e 2, .e 5, .i 0])] [] [] (o0) ?_
  refine awp_seq ?_
  refine wdB 1 0 .sh s_.1 (fun hw1 => ?_)
  have hl2 : List.length s_.1 ≤ 1073741824 := wide_len (hw1)
  refine rd' tt_ok tt_mx [(3, .p 3 0)] [] [(3, [.o 512 s_.1, .e 5, .i s_.2.2])] [] [(3, .flat)] (o2 (ob_len (n := (([] : List (List PV)).length + ((eL s_.1) : List (List PV)).length)) (len_of (rfl) (eL_length s_.1) (by first | omega | (simp; omega) | simp))) (o1 (ob_flat (flat_eL s_.1)))) ?_
  refine awp_seq ?_
  refine awp_seq ?_
  refine rk tt_ok [(4, .i 0)] [] [] [] [] (o0) ?_
  refine wdB 1 1 .sh s_.2.1 (fun hw3 => ?_)
  have hl4 : List.length s_.2.1 ≤ 1073741824 := wide_len (hw3)
  refine blk (fun (k0 : Nat) (s0 : (List FileD)) => [(4, .i ((k0 : Nat) : Int))]) [4] (fun k0 s0 => [(3, [.o 512 s_.1, .o 147211 s0, .i s_.2.2])]) [3] (fun (y0 : (List FileD)) => []) [1, 4] (fun y0 => [(3, [.o 512 s_.1, .o 147361 y0, .i s_.2.2])]) [1, 3] (fun (k0 : Nat) (s0 : (List FileD)) => (forL specl05Copy_f0 specl05Copy_e0 s_.2.1 0 []) = forL specl05Copy_f0 specl05Copy_e0 (List.drop k0 s_.2.1) k0 s0 ∧ List.length s0 ≤ k0) (fun (y0 : (List FileD)) => (forL specl05Copy_f0 specl05Copy_e0 s_.2.1 0 []) = .brk y0) s_.2.1.length [] (weak_gf [(true, 3, 1, true, 320008, 5)] [] [] [(320008, 147211)] (by kernel_rfl)) ⟨rfl, (by simp)⟩ (fun k0 s0 hk0 hI0 => ?_) (fun k0 s0 hk0 hI0 => ?_) (fun y0 hD0 => ?_)
  ·
    have hA0_0 := hI0.2
    obtain ⟨a0, hx0⟩ := get_some (l := s_.2.1) (i := k0) hk0
    refine awp_seq ?_
    refine awp_seq ?_
    refine rk tt_ok [(16, .b true)] [] [] [] [(3, .val (.i (s_.2.1.length : Int))), (4, .val (.b true))] (o2 (ob_eq (av_len s_.2.1)) (o1 (ob_eq (av_bool (decide_eq_true (p := ((k0 : Nat) : Int) < (s_.2.1.length : Int)) (by omega)))))) ?_
    refine ckT ?_
    refine awp_skip ?_
    refine awp_seq ?_
    refine awp_block ?_
    refine wdB 3 1 (.own true 147211) s0 (fun hw5 => ?_)
    have hl6 : List.length s0 ≤ 1073741824 := wide_len (hw5)
    refine rd' tt_ok tt_mx [] [16] [(3, [.o 512 s_.1, .slc (.own true 1792) 5 ((eL s0) ++ [[.i ((specl04Copy a0).1), .i ((specl04Copy a0).2.1), .b ((specl04Copy a0).2.2.1), .i ((specl04Copy a0).2.2.2.1), .h ((specl04Copy a0).2.2.2.2)]]), .i s_.2.2])] [3] [(5, .row [.i a0.1, .i a0.2.1, .b a0.2.2.1, .i a0.2.2.2.1, .h a0.2.2.2.2]), (7, .val (.a [.i ((specl04Copy a0).1), .i ((specl04Copy a0).2.1), .b ((specl04Copy a0).2.2.1), .i ((specl04Copy a0).2.2.2.1), .o 0 ((specl04Copy a0).2.2.2.2)]))] (o2 (ob_elem (el_of (i := ((k0 : Nat) : Int)) (by omega) rfl hx0)) (o2 (ob_call (specl04Copy_a a0)) (o1 (ob_len (len_of (eL_length s0) (eL_length [(specl04Copy a0)]) (by first | omega | (simp; omega) | simp)))))) ?_
    refine eqn [] [] [(3, [.o 512 s_.1, .o 1792 (s0 ++ [(specl04Copy a0)]), .i s_.2.2])] [3] (by rw [show ((eL s0) ++ [[.i ((specl04Copy a0).1), .i ((specl04Copy a0).2.1), .b ((specl04Copy a0).2.2.1), .i ((specl04Copy a0).2.2.2.1), .h ((specl04Copy a0).2.2.2.2)]]) = (eL (s0 ++ [(specl04Copy a0)])) from app_eL (rfl) (rfl)]; first | done | kernel_rfl) ?_
    refine rk tt_ok [(4, .i ((k0 + 1 : Nat) : Int))] [4] [] [] [(1, .val (.i ((k0 + 1 : Nat) : Int)))] (o1 (ob_eq (av_i (wrap_succ k0 (by omega))))) ?_
    exact Exists.intro (s0 ++ [(specl04Copy a0)]) (And.intro (weak_sf [(1792, 147211)] (by kernel_rfl)) ⟨forL_next hx0 (rfl) hI0.1, by first | omega | (simp; omega) | simp⟩)
  ·
    have hA0_0 := hI0.2
    refine awp_seq ?_
    refine awp_seq ?_
    refine rk tt_ok [(16, .b false)] [] [] [] [(3, .val (.i (s_.2.1.length : Int))), (4, .val (.b false))] (o2 (ob_eq (av_len s_.2.1)) (o1 (ob_eq (av_bool (decide_eq_false (p := ((k0 : Nat) : Int) < (s_.2.1.length : Int)) (by omega)))))) ?_
    refine ckF ?_
    refine awp_exit ?_
    exact Exists.intro s0 (And.intro (weak_sf [(147211, 147361)] (by kernel_rfl)) (forL_end hk0 (rfl) hI0.1))
  ·
    refine awp_seq ?_
    refine rk tt_ok [] [3] [(2, [.o 512 s_.1, .o 147361 y0, .i s_.2.2])] [2, 3] [] (o0) ?_
    refine awp_ret ?_
    exact pret [] (congrArg (fun z => (.a [.o 0 z.1, .o 1 z.2.1, .i z.2.2] : AV)) (show specl05Copy s_ = (s_.1, y0, s_.2.2) from on_b hD0 (rfl)).symm)
def specl01In (x : Int) (least : Int) (most : Int) : Bool := (decide (x ≥ least) && decide (x ≤ most))
theorem specl01In_a (x : Int) (least : Int) (most : Int) : ACalls Tryd.prog 29 [.i x, .i least, .i most] (.b (specl01In x least most)) := by
  refine acalls_of (tt := tt) tt_ok Tryd.func29 (fn := Tryd.f29) rfl (by unfold FnOk; kernel_rfl) (Nat.le_of_ble_eq_true rfl) fun w0 F0 hG => ?_
  refine awp_seq ?_
  refine rk tt_ok [(6, .b false)] [] [] [] [] (o0) ?_
  refine awp_seq ?_
  refine jn [(6, .b (decide (x ≥ least) && decide (x ≤ most)))] [0, 1, 2, 6] [] [] (decide (x ≥ least)) (fun h1 => ?_) (fun h1 => ?_) ?_
  ·
    have h1d := of_decide_eq_true h1
    refine rk tt_ok [(6, .b (decide (x ≤ most)))] [0, 1, 2, 6] [] [] [(2, .val (.b true))] (o1 (ob_eq (av_bool h1))) ?_
    exact ⟨rfl, weak_fit (by rw [h1]; first | done | kernel_rfl)⟩
  ·
    have h1d := of_decide_eq_false h1
    refine rk tt_ok [] [0, 1, 2] [] [] [(2, .val (.b false))] (o1 (ob_eq (av_bool h1))) ?_
    exact ⟨rfl, weak_fit (by rw [h1]; first | done | kernel_rfl)⟩
  refine awp_ret ?_
  exact pret [] (congrArg (fun z => (.b z : AV)) (show specl01In x least most = (decide (x ≥ least) && decide (x ≤ most)) from rfl).symm)
def specl02Text_f0 (s_ : ByteArray) (k0 : Nat) (_ : Unit) : Rd (Bool) (Unit) (Unit) := (bif (decide (strAt s_ ((k0 : Nat) : Int) < (97 : Int)) || decide (strAt s_ ((k0 : Nat) : Int) > (122 : Int))) then (.ret false) else (.next ()))
def specl02Text_e0 (_ : Nat) (_ : Unit) : Unit := ()
def specl02Text (s_ : ByteArray) (most : Int) : Bool := (Out.on (forN (specl02Text_f0 s_) specl02Text_e0 (Int.toNat (ByteArray.size s_ : Int)) 0 ()) (fun _ => (specl01In (ByteArray.size s_ : Int) 1 most)))
theorem specl02Text_a (s_ : ByteArray) (most : Int) : ACalls Tryd.prog 45 [.s s_, .i most] (.b (specl02Text s_ most)) := by
  refine acalls_of (tt := tt) tt_ok Tryd.func45 (fn := Tryd.f45) rfl (by unfold FnOk; kernel_rfl) (Nat.le_of_ble_eq_true rfl) fun w0 F0 hG => ?_
  refine awp_seq ?_
  refine rk tt_ok [(4, .b false)] [] [] [] [] (o0) ?_
  refine awp_seq ?_
  refine awp_seq ?_
  refine rk tt_ok [(5, .i 0)] [] [] [] [] (o0) ?_
  refine stT 0 0 s_ (fun hs1 => ?_)
  refine blk (fun (k0 : Nat) (s0 : Unit) => [(5, .i ((k0 : Nat) : Int))]) [5] (fun k0 s0 => []) [] (fun (y0 : Unit) => []) [5] (fun y0 => []) [] (fun (k0 : Nat) (s0 : Unit) => (forN (specl02Text_f0 s_) specl02Text_e0 (Int.toNat (ByteArray.size s_ : Int)) 0 ()) = forN (specl02Text_f0 s_) specl02Text_e0 ((Int.toNat (ByteArray.size s_ : Int)) - k0) k0 s0) (fun (y0 : Unit) => (forN (specl02Text_f0 s_) specl02Text_e0 (Int.toNat (ByteArray.size s_ : Int)) 0 ()) = .brk y0) (Int.toNat (ByteArray.size s_ : Int)) () (weak_fit (by kernel_rfl)) rfl (fun k0 s0 hk0 hI0 => ?_) (fun k0 s0 hk0 hI0 => ?_) (fun y0 hD0 => ?_)
  ·
    refine awp_seq ?_
    refine awp_seq ?_
    refine rk tt_ok [(9, .b true)] [] [] [] [(3, .val (.b true))] (o1 (ob_eq (av_bool (decide_eq_true (p := ((k0 : Nat) : Int) < (ByteArray.size s_ : Int)) (by omega))))) ?_
    refine ckT ?_
    refine awp_skip ?_
    refine awp_seq ?_
    refine awp_block ?_
    refine awp_seq ?_
    refine jn [(21, .b (decide (strAt s_ ((k0 : Nat) : Int) < (97 : Int)) || decide (strAt s_ ((k0 : Nat) : Int) > (122 : Int))))] [9] [] [] (decide (strAt s_ ((k0 : Nat) : Int) < (97 : Int))) (fun h2 => ?_) (fun h2 => ?_) ?_
    ·
      have h2d := of_decide_eq_true h2
      refine rk tt_ok [(21, .b true)] [9] [] [] [(3, .val (.b true))] (o2 (ob_idx (i := ((k0 : Nat) : Int)) (n := (ByteArray.size s_)) (by omega)) (o1 (ob_eq (av_bool h2)))) ?_
      exact ⟨rfl, weak_fit (by rw [h2]; first | done | kernel_rfl)⟩
    ·
      have h2d := of_decide_eq_false h2
      refine rk tt_ok [(21, .b (decide (strAt s_ ((k0 : Nat) : Int) > (122 : Int))))] [9] [] [] [(3, .val (.b false))] (o2 (ob_idx (i := ((k0 : Nat) : Int)) (n := (ByteArray.size s_)) (by omega)) (o2 (ob_eq (av_bool h2)) (o1 (ob_idx (i := ((k0 : Nat) : Int)) (n := (ByteArray.size s_)) (by omega))))) ?_
      exact ⟨rfl, weak_fit (by rw [h2]; first | done | kernel_rfl)⟩
    refine ck (decide (strAt s_ ((k0 : Nat) : Int) < (97 : Int)) || decide (strAt s_ ((k0 : Nat) : Int) > (122 : Int))) (fun h3 => ?_) (fun h3 => ?_)
    ·
      refine awp_seq ?_
      refine rk tt_ok [] [21] [] [] [] (o0) ?_
      refine awp_ret ?_
      have hr4 : (forN (specl02Text_f0 s_) specl02Text_e0 (Int.toNat (ByteArray.size s_ : Int)) 0 ()) = .ret false := forN_ret hk0 (bif_t h3 (rfl)) hI0
      exact pret [] (congrArg (fun z => (.b z : AV)) (show specl02Text s_ most = false from on_r hr4).symm)
    ·
      have h3l : (decide (strAt s_ ((k0 : Nat) : Int) < (97 : Int))) = false := or_l h3
      have h3ld := of_decide_eq_false h3l
      have h3r : (decide (strAt s_ ((k0 : Nat) : Int) > (122 : Int))) = false := or_r h3
      have h3rd := of_decide_eq_false h3r
      refine awp_skip ?_
      refine rk tt_ok [(5, .i ((k0 + 1 : Nat) : Int))] [5, 21] [] [] [(1, .val (.i ((k0 + 1 : Nat) : Int)))] (o1 (ob_eq (av_i (wrap_succ k0 (by omega))))) ?_
      exact Exists.intro () (And.intro (weak_fit (by kernel_rfl)) (forN_next hk0 (bif_f h3 (rfl)) hI0))
  ·
    refine awp_seq ?_
    refine awp_seq ?_
    refine rk tt_ok [(9, .b false)] [] [] [] [(3, .val (.b false))] (o1 (ob_eq (av_bool (decide_eq_false (p := ((k0 : Nat) : Int) < (ByteArray.size s_ : Int)) (by omega))))) ?_
    refine ckF ?_
    refine awp_exit ?_
    exact Exists.intro () (And.intro (weak_fit (by kernel_rfl)) (forN_end hk0 (rfl) hI0))
  ·
    refine awp_seq ?_
    refine rk tt_ok [(4, .b (specl01In (ByteArray.size s_ : Int) 1 most))] [0, 1, 4] [] [] [(3, .val (.b (specl01In (ByteArray.size s_ : Int) 1 most)))] (o1 (ob_call (specl01In_a (ByteArray.size s_ : Int) 1 most))) ?_
    refine awp_ret ?_
    exact pret [] (congrArg (fun z => (.b z : AV)) (show specl02Text s_ most = (specl01In (ByteArray.size s_ : Int) 1 most) from on_b hD0 (rfl)).symm)
def specIsValidString (s_ : ByteArray) : Bool := (specl02Text s_ 6)
theorem specIsValidString_a (s_ : ByteArray) : ACalls Tryd.prog 46 [.s s_] (.b (specIsValidString s_)) := by
  refine acalls_of (tt := tt) tt_ok Tryd.func46 (fn := Tryd.f46) rfl (by unfold FnOk; kernel_rfl) (Nat.le_of_ble_eq_true rfl) fun w0 F0 hG => ?_
  refine awp_seq ?_
  refine rk tt_ok [(2, .b false)] [] [] [] [] (o0) ?_
  refine awp_seq ?_
  refine rk tt_ok [(2, .b (specl02Text s_ 6))] [0, 2] [] [] [(1, .val (.b (specl02Text s_ 6)))] (o1 (ob_call (specl02Text_a s_ 6))) ?_
  refine awp_ret ?_
  exact pret [] (congrArg (fun z => (.b z : AV)) (show specIsValidString s_ = (specl02Text s_ 6) from rfl).symm)
def specIsValidValue (v : ValueD) : Bool := (bif (v.1 == (0 : Int)) then ((v.1 == 0) && ((v.2.1 == 0) && ((v.2.2.toList == (⟨#[]⟩ : ByteArray).toList) && true))) else (bif (v.1 == (1 : Int)) then ((specl01In v.2.1 0 999) && (v.2.2.toList == (⟨#[]⟩ : ByteArray).toList)) else (bif (v.1 == (2 : Int)) then ((specIsValidString v.2.2) && (v.2.1 == (0 : Int))) else false)))
theorem specIsValidValue_a (v : ValueD) : ACalls Tryd.prog 38 [.a [.i v.1, .i v.2.1, .s v.2.2]] (.b (specIsValidValue v)) := by
  refine acalls_of (tt := tt) tt_ok Tryd.func38 (fn := Tryd.f38) rfl (by unfold FnOk; kernel_rfl) (Nat.le_of_ble_eq_true rfl) fun w0 F0 hG => ?_
  refine awp_seq ?_
  refine rk tt_ok [(1, .p 1 0), (2, .b false)] [0] [(1, [.i v.1, .i v.2.1, .s v.2.2])] [] [] (o0) ?_
  refine awp_seq ?_
  refine awp_seq ?_
  refine rk tt_ok [(4, .i v.1)] [] [] [] [] (o0) ?_
  refine awp_block ?_
  refine awp_seq ?_
  refine rk tt_ok [(5, .b (v.1 == (0 : Int)))] [] [] [] [] (o0) ?_
  refine ck (v.1 == (0 : Int)) (fun h1 => ?_) (fun h1 => ?_)
  ·
    have h1d := eq_of_beq h1
    refine awp_seq ?_
    refine rk tt_ok [(2, .b ((v.1 == 0) && ((v.2.1 == 0) && ((v.2.2.toList == (⟨#[]⟩ : ByteArray).toList) && true))))] [1, 2, 4, 5] [] [1] [] (o0) ?_
    refine awp_ret ?_
    exact pret [] (congrArg (fun z => (.b z : AV)) (show specIsValidValue v = ((v.1 == 0) && ((v.2.1 == 0) && ((v.2.2.toList == (⟨#[]⟩ : ByteArray).toList) && true))) from bif_t h1 (rfl)).symm)
  ·
    have h1d := ne_of_beq h1
    refine awp_seq ?_
    refine rk tt_ok [(10, .b (v.1 == (1 : Int)))] [5] [] [] [] (o0) ?_
    refine ck (v.1 == (1 : Int)) (fun h2 => ?_) (fun h2 => ?_)
    ·
      have h2d := eq_of_beq h2
      refine awp_seq ?_
      refine jn [(2, .b ((specl01In v.2.1 0 999) && (v.2.2.toList == (⟨#[]⟩ : ByteArray).toList)))] [1, 2, 4, 10] [] [1] (specl01In v.2.1 0 999) (fun h3 => ?_) (fun h3 => ?_) ?_
      ·
        refine rk tt_ok [(2, .b (v.2.2.toList == (⟨#[]⟩ : ByteArray).toList))] [1, 2, 4, 10] [] [1] [(2, .val (.b true))] (o1 (ob_call (cb h3 (specl01In_a v.2.1 0 999)))) ?_
        exact ⟨rfl, weak_fit (by rw [h3]; first | done | kernel_rfl)⟩
      ·
        refine rk tt_ok [] [1, 4, 10] [] [1] [(2, .val (.b false))] (o1 (ob_call (cb h3 (specl01In_a v.2.1 0 999)))) ?_
        exact ⟨rfl, weak_fit (by rw [h3]; first | done | kernel_rfl)⟩
      refine awp_ret ?_
      exact pret [] (congrArg (fun z => (.b z : AV)) (show specIsValidValue v = ((specl01In v.2.1 0 999) && (v.2.2.toList == (⟨#[]⟩ : ByteArray).toList)) from bif_f h1 (bif_t h2 (rfl))).symm)
    ·
      have h2d := ne_of_beq h2
      refine awp_seq ?_
      refine rk tt_ok [(20, .b (v.1 == (2 : Int)))] [4, 10] [] [] [] (o0) ?_
      refine ck (v.1 == (2 : Int)) (fun h4 => ?_) (fun h4 => ?_)
      ·
        have h4d := eq_of_beq h4
        refine awp_seq ?_
        refine jn [(2, .b ((specIsValidString v.2.2) && (v.2.1 == (0 : Int))))] [1, 2, 20] [] [1] (specIsValidString v.2.2) (fun h5 => ?_) (fun h5 => ?_) ?_
        ·
          refine rk tt_ok [(2, .b (v.2.1 == (0 : Int)))] [1, 2, 20] [] [1] [(2, .val (.b true))] (o1 (ob_call (cb h5 (specIsValidString_a v.2.2)))) ?_
          exact ⟨rfl, weak_fit (by rw [h5]; first | done | kernel_rfl)⟩
        ·
          refine rk tt_ok [] [1, 20] [] [1] [(2, .val (.b false))] (o1 (ob_call (cb h5 (specIsValidString_a v.2.2)))) ?_
          exact ⟨rfl, weak_fit (by rw [h5]; first | done | kernel_rfl)⟩
        refine awp_ret ?_
        exact pret [] (congrArg (fun z => (.b z : AV)) (show specIsValidValue v = ((specIsValidString v.2.2) && (v.2.1 == (0 : Int))) from bif_f h1 (bif_f h2 (bif_t h4 (rfl)))).symm)
      ·
        have h4d := ne_of_beq h4
        refine awp_skip ?_
        refine awp_seq ?_
        refine rk tt_ok [] [1, 20] [] [1] [] (o0) ?_
        refine awp_ret ?_
        exact pret [] (congrArg (fun z => (.b z : AV)) (show specIsValidValue v = false from bif_f h1 (bif_f h2 (bif_f h4 (rfl)))).symm)
def specFieldKind_f0 (name : ByteArray) (_ : Nat) (a0 : FieldD) (_ : Unit) : Rd (Int) (Unit) (Unit) := (bif (a0.1.toList == name.toList) then (.ret a0.2) else (.next ()))
def specFieldKind_e0 (_ : Nat) (_ : Unit) : Unit := ()
def specFieldKind (s_ : (List FieldD)) (name : ByteArray) : Int := (Out.on (forL (specFieldKind_f0 name) specFieldKind_e0 s_ 0 ()) (fun _ => 0))
theorem specFieldKind_a (s_ : (List FieldD)) (name : ByteArray) : ACalls Tryd.prog 39 [.h s_, .s name] (.i (specFieldKind s_ name)) := by
  refine acalls_of (tt := tt) tt_ok Tryd.func39 (fn := Tryd.f39) rfl (by unfold FnOk; kernel_rfl) (Nat.le_of_ble_eq_true rfl) fun w0 F0 hG => ?_
  refine awp_seq ?_
  refine rk tt_ok [(4, .i 0)] [] [] [] [] (o0) ?_
  refine awp_seq ?_
  refine awp_seq ?_
  refine rk tt_ok [(5, .i 0)] [] [] [] [] (o0) ?_
  refine wdT 0 0 .sh s_ (fun hw1 => ?_)
  have hl2 : List.length s_ ≤ 1073741824 := wide_len (hw1)
  refine blk (fun (k0 : Nat) (s0 : Unit) => [(5, .i ((k0 : Nat) : Int))]) [5] (fun k0 s0 => []) [] (fun (y0 : Unit) => []) [0, 1, 5] (fun y0 => []) [] (fun (k0 : Nat) (s0 : Unit) => (forL (specFieldKind_f0 name) specFieldKind_e0 s_ 0 ()) = forL (specFieldKind_f0 name) specFieldKind_e0 (List.drop k0 s_) k0 s0) (fun (y0 : Unit) => (forL (specFieldKind_f0 name) specFieldKind_e0 s_ 0 ()) = .brk y0) s_.length () (weak_fit (by kernel_rfl)) rfl (fun k0 s0 hk0 hI0 => ?_) (fun k0 s0 hk0 hI0 => ?_) (fun y0 hD0 => ?_)
  ·
    obtain ⟨a0, hx0⟩ := get_some (l := s_) (i := k0) hk0
    refine awp_seq ?_
    refine awp_seq ?_
    refine rk tt_ok [(9, .b true)] [] [] [] [(2, .val (.i (s_.length : Int))), (3, .val (.b true))] (o2 (ob_eq (av_len s_)) (o1 (ob_eq (av_bool (decide_eq_true (p := ((k0 : Nat) : Int) < (s_.length : Int)) (by omega)))))) ?_
    refine ckT ?_
    refine awp_skip ?_
    refine awp_seq ?_
    refine awp_block ?_
    refine awp_seq ?_
    refine rk tt_ok [(18, .b (a0.1.toList == name.toList))] [9] [] [] [(2, .row [.s a0.1, .i a0.2])] (o1 (ob_elem (el_of (i := ((k0 : Nat) : Int)) (by omega) rfl hx0))) ?_
    refine ck (a0.1.toList == name.toList) (fun h3 => ?_) (fun h3 => ?_)
    ·
      refine awp_seq ?_
      refine rk tt_ok [(4, .i a0.2)] [4, 18] [] [] [(2, .row [.s a0.1, .i a0.2])] (o1 (ob_elem (el_of (i := ((k0 : Nat) : Int)) (by omega) rfl hx0))) ?_
      refine awp_ret ?_
      have hr4 : (forL (specFieldKind_f0 name) specFieldKind_e0 s_ 0 ()) = .ret a0.2 := forL_ret hx0 (bif_t h3 (rfl)) hI0
      exact pret [] (congrArg (fun z => (.i z : AV)) (show specFieldKind s_ name = a0.2 from on_r hr4).symm)
    ·
      refine awp_skip ?_
      refine rk tt_ok [(5, .i ((k0 + 1 : Nat) : Int))] [5, 18] [] [] [(1, .val (.i ((k0 + 1 : Nat) : Int)))] (o1 (ob_eq (av_i (wrap_succ k0 (by omega))))) ?_
      exact Exists.intro () (And.intro (weak_fit (by kernel_rfl)) (forL_next hx0 (bif_f h3 (rfl)) hI0))
  ·
    refine awp_seq ?_
    refine awp_seq ?_
    refine rk tt_ok [(9, .b false)] [] [] [] [(2, .val (.i (s_.length : Int))), (3, .val (.b false))] (o2 (ob_eq (av_len s_)) (o1 (ob_eq (av_bool (decide_eq_false (p := ((k0 : Nat) : Int) < (s_.length : Int)) (by omega)))))) ?_
    refine ckF ?_
    refine awp_exit ?_
    exact Exists.intro () (And.intro (weak_fit (by kernel_rfl)) (forL_end hk0 (rfl) hI0))
  ·
    refine awp_seq ?_
    refine rk tt_ok [] [] [] [] [] (o0) ?_
    refine awp_ret ?_
    exact pret [] (congrArg (fun z => (.i z : AV)) (show specFieldKind s_ name = 0 from on_b hD0 (rfl)).symm)
def specMatchesSchema (s_ : (List FieldD)) (name : ByteArray) (v : ValueD) : Bool := ((specIsValidValue v) && ((v.1 != (0 : Int)) && (v.1 == (specFieldKind s_ name))))
theorem specMatchesSchema_a (s_ : (List FieldD)) (name : ByteArray) (v : ValueD) : ACalls Tryd.prog 30 [.h s_, .s name, .a [.i v.1, .i v.2.1, .s v.2.2]] (.b (specMatchesSchema s_ name v)) := by
  refine acalls_of (tt := tt) tt_ok Tryd.func30 (fn := Tryd.f30) rfl (by unfold FnOk; kernel_rfl) (Nat.le_of_ble_eq_true rfl) fun w0 F0 hG => ?_
  refine awp_seq ?_
  refine rk tt_ok [(5, .p 5 0), (6, .b false)] [2] [(5, [.i v.1, .i v.2.1, .s v.2.2])] [] [] (o0) ?_
  refine awp_seq ?_
  refine jn [(6, .b ((specIsValidValue v) && ((v.1 != (0 : Int)) && (v.1 == (specFieldKind s_ name)))))] [0, 1, 5, 6] [] [5] (specIsValidValue v) (fun h1 => ?_) (fun h1 => ?_) ?_
  ·
    refine awp_split (v.1 != (0 : Int)) (fun h2 => ?_) (fun h2 => ?_)
    ·
      have h2d := ne_of_bne h2
      refine rd' tt_ok tt_mx [(6, .b (v.1 == (specFieldKind s_ name)))] [0, 1, 5, 6] [] [5] [(1, .val (.b true)), (5, .val (.b true)), (12, .val (.i (specFieldKind s_ name)))] (o2 (ob_call (cb h1 (specIsValidValue_a v))) (o2 (ob_eq (av_bool h2)) (o1 (ob_call (specFieldKind_a s_ name))))) ?_
      exact ⟨rfl, weak_fit (by rw [h1, h2]; first | done | kernel_rfl)⟩
    ·
      have h2d := eq_of_bne h2
      refine rd' tt_ok tt_mx [] [0, 1, 5] [] [5] [(1, .val (.b true)), (5, .val (.b false))] (o2 (ob_call (cb h1 (specIsValidValue_a v))) (o1 (ob_eq (av_bool h2)))) ?_
      exact ⟨rfl, weak_fit (by rw [h1, h2]; first | done | kernel_rfl)⟩
  ·
    refine rd' tt_ok tt_mx [] [0, 1, 5] [] [5] [(1, .val (.b false))] (o1 (ob_call (cb h1 (specIsValidValue_a v)))) ?_
    exact ⟨rfl, weak_fit (by rw [h1]; first | done | kernel_rfl)⟩
  refine awp_ret ?_
  exact pret [] (congrArg (fun z => (.b z : AV)) (show specMatchesSchema s_ name v = ((specIsValidValue v) && ((v.1 != (0 : Int)) && (v.1 == (specFieldKind s_ name)))) from rfl).symm)
def specIsValidAttrName (s_ : ByteArray) : Bool := (specl02Text s_ 1)
theorem specIsValidAttrName_a (s_ : ByteArray) : ACalls Tryd.prog 37 [.s s_] (.b (specIsValidAttrName s_)) := by
  refine acalls_of (tt := tt) tt_ok Tryd.func37 (fn := Tryd.f37) rfl (by unfold FnOk; kernel_rfl) (Nat.le_of_ble_eq_true rfl) fun w0 F0 hG => ?_
  refine awp_seq ?_
  refine rk tt_ok [(2, .b false)] [] [] [] [] (o0) ?_
  refine awp_seq ?_
  refine rk tt_ok [(2, .b (specl02Text s_ 1))] [0, 2] [] [] [(1, .val (.b (specl02Text s_ 1)))] (o1 (ob_call (specl02Text_a s_ 1))) ?_
  refine awp_ret ?_
  exact pret [] (congrArg (fun z => (.b z : AV)) (show specIsValidAttrName s_ = (specl02Text s_ 1) from rfl).symm)
def specIsValidSchema_f0 (s_ : (List FieldD)) (k0 : Nat) (a0 : FieldD) (_ : Unit) : Rd (Bool) (Unit) (Unit) := (bif ((!(specIsValidAttrName a0.1)) || ((!(specl01In a0.2 1 2)) || (decide (((k0 : Nat) : Int) > (0 : Int)) && (!(Op.bytesLess ((nth s_ (Int.toNat (((k0 : Nat) : Int) - 1))).1).toList a0.1.toList))))) then (.ret false) else (.next ()))
def specIsValidSchema_e0 (_ : Nat) (_ : Unit) : Unit := ()
def specIsValidSchema (s_ : (List FieldD)) : Bool := (Out.on (forL (specIsValidSchema_f0 s_) specIsValidSchema_e0 s_ 0 ()) (fun _ => decide ((s_.length : Int) ≤ (5 : Int))))
theorem specIsValidSchema_a (s_ : (List FieldD)) : ACalls Tryd.prog 28 [.h s_] (.b (specIsValidSchema s_)) := by
  refine acalls_of (tt := tt) tt_ok Tryd.func28 (fn := Tryd.f28) rfl (by unfold FnOk; kernel_rfl) (Nat.le_of_ble_eq_true rfl) fun w0 F0 hG => ?_
  refine awp_seq ?_
  refine rk tt_ok [(2, .b false)] [] [] [] [] (o0) ?_
  refine awp_seq ?_
  refine awp_seq ?_
  refine rk tt_ok [(3, .i 0)] [] [] [] [] (o0) ?_
  refine wdT 0 0 .sh s_ (fun hw1 => ?_)
  have hl2 : List.length s_ ≤ 1073741824 := wide_len (hw1)
  refine blk (fun (k0 : Nat) (s0 : Unit) => [(3, .i ((k0 : Nat) : Int))]) [3] (fun k0 s0 => []) [] (fun (y0 : Unit) => []) [3] (fun y0 => []) [] (fun (k0 : Nat) (s0 : Unit) => (forL (specIsValidSchema_f0 s_) specIsValidSchema_e0 s_ 0 ()) = forL (specIsValidSchema_f0 s_) specIsValidSchema_e0 (List.drop k0 s_) k0 s0) (fun (y0 : Unit) => (forL (specIsValidSchema_f0 s_) specIsValidSchema_e0 s_ 0 ()) = .brk y0) s_.length () (weak_fit (by kernel_rfl)) rfl (fun k0 s0 hk0 hI0 => ?_) (fun k0 s0 hk0 hI0 => ?_) (fun y0 hD0 => ?_)
  ·
    obtain ⟨a0, hx0⟩ := get_some (l := s_) (i := k0) hk0
    refine awp_seq ?_
    refine awp_seq ?_
    refine rk tt_ok [(7, .b true)] [] [] [] [(2, .val (.i (s_.length : Int))), (3, .val (.b true))] (o2 (ob_eq (av_len s_)) (o1 (ob_eq (av_bool (decide_eq_true (p := ((k0 : Nat) : Int) < (s_.length : Int)) (by omega)))))) ?_
    refine ckT ?_
    refine awp_skip ?_
    refine awp_seq ?_
    refine awp_block ?_
    refine awp_seq ?_
    refine jn [(43, .b ((!(specIsValidAttrName a0.1)) || ((!(specl01In a0.2 1 2)) || (decide (((k0 : Nat) : Int) > (0 : Int)) && (!(Op.bytesLess ((nth s_ (Int.toNat (((k0 : Nat) : Int) - 1))).1).toList a0.1.toList))))))] [7] [] [] (!(specIsValidAttrName a0.1)) (fun h3 => ?_) (fun h3 => ?_) ?_
    ·
      have h3n : (specIsValidAttrName a0.1) = false := bnot_t h3
      refine rd' tt_ok tt_mx [(43, .b true)] [7] [] [] [(2, .row [.s a0.1, .i a0.2]), (5, .val (.b false)), (6, .val (.b true))] (o2 (ob_elem (el_of (i := ((k0 : Nat) : Int)) (by omega) rfl hx0)) (o2 (ob_call (cb h3n (specIsValidAttrName_a a0.1))) (o1 (ob_eq (show .b (!false) = .b true from rfl))))) ?_
      exact ⟨rfl, weak_fit (by rw [h3]; first | done | kernel_rfl)⟩
    ·
      have h3n : (specIsValidAttrName a0.1) = true := bnot_f h3
      refine awp_split (!(specl01In a0.2 1 2)) (fun h4 => ?_) (fun h4 => ?_)
      ·
        have h4n : (specl01In a0.2 1 2) = false := bnot_t h4
        refine rd' tt_ok tt_mx [(43, .b true)] [7] [] [] [(2, .row [.s a0.1, .i a0.2]), (5, .val (.b true)), (6, .val (.b false)), (10, .row [.s a0.1, .i a0.2]), (13, .val (.b false)), (14, .val (.b true))] (o2 (ob_elem (el_of (i := ((k0 : Nat) : Int)) (by omega) rfl hx0)) (o2 (ob_call (cb h3n (specIsValidAttrName_a a0.1))) (o2 (ob_eq (show .b (!true) = .b false from rfl)) (o2 (ob_elem (el_of (i := ((k0 : Nat) : Int)) (by omega) rfl hx0)) (o2 (ob_call (cb h4n (specl01In_a a0.2 1 2))) (o1 (ob_eq (show .b (!false) = .b true from rfl)))))))) ?_
        exact ⟨rfl, weak_fit (by rw [h3, h4]; first | done | kernel_rfl)⟩
      ·
        have h4n : (specl01In a0.2 1 2) = true := bnot_f h4
        refine awp_split (decide (((k0 : Nat) : Int) > (0 : Int))) (fun h5 => ?_) (fun h5 => ?_)
        ·
          have h5d := of_decide_eq_true h5
          have hx6 : s_[(Int.toNat (((k0 : Nat) : Int) - 1))]? = some (nth s_ (Int.toNat (((k0 : Nat) : Int) - 1))) := nth_get (by omega)
          refine rd' tt_ok tt_mx [(43, .b (!(Op.bytesLess ((nth s_ (Int.toNat (((k0 : Nat) : Int) - 1))).1).toList a0.1.toList)))] [7] [] [] [(2, .row [.s a0.1, .i a0.2]), (5, .val (.b true)), (6, .val (.b false)), (10, .row [.s a0.1, .i a0.2]), (13, .val (.b true)), (14, .val (.b false)), (18, .val (.b true)), (22, .val (.i (((k0 : Nat) : Int) - 1))), (23, .row [.s ((nth s_ (Int.toNat (((k0 : Nat) : Int) - 1))).1), .i ((nth s_ (Int.toNat (((k0 : Nat) : Int) - 1))).2)]), (28, .row [.s a0.1, .i a0.2])] (o2 (ob_elem (el_of (i := ((k0 : Nat) : Int)) (by omega) rfl hx0)) (o2 (ob_call (cb h3n (specIsValidAttrName_a a0.1))) (o2 (ob_eq (show .b (!true) = .b false from rfl)) (o2 (ob_elem (el_of (i := ((k0 : Nat) : Int)) (by omega) rfl hx0)) (o2 (ob_call (cb h4n (specl01In_a a0.2 1 2))) (o2 (ob_eq (show .b (!true) = .b false from rfl)) (o2 (ob_eq (av_bool h5)) (o2 (ob_eq (av_i (IntWalk.i64_in (((k0 : Nat) : Int) - 1) (by omega)))) (o2 (ob_elem (el_of (i := (((k0 : Nat) : Int) - 1)) (by omega) rfl hx6)) (o1 (ob_elem (el_of (i := ((k0 : Nat) : Int)) (by omega) rfl hx0)))))))))))) ?_
          exact ⟨rfl, weak_fit (by rw [h3, h4, h5]; first | done | kernel_rfl)⟩
        ·
          have h5d := of_decide_eq_false h5
          refine rd' tt_ok tt_mx [(43, .b false)] [7] [] [] [(2, .row [.s a0.1, .i a0.2]), (5, .val (.b true)), (6, .val (.b false)), (10, .row [.s a0.1, .i a0.2]), (13, .val (.b true)), (14, .val (.b false)), (18, .val (.b false))] (o2 (ob_elem (el_of (i := ((k0 : Nat) : Int)) (by omega) rfl hx0)) (o2 (ob_call (cb h3n (specIsValidAttrName_a a0.1))) (o2 (ob_eq (show .b (!true) = .b false from rfl)) (o2 (ob_elem (el_of (i := ((k0 : Nat) : Int)) (by omega) rfl hx0)) (o2 (ob_call (cb h4n (specl01In_a a0.2 1 2))) (o2 (ob_eq (show .b (!true) = .b false from rfl)) (o1 (ob_eq (av_bool h5))))))))) ?_
          exact ⟨rfl, weak_fit (by rw [h3, h4, h5]; first | done | kernel_rfl)⟩
    refine ck ((!(specIsValidAttrName a0.1)) || ((!(specl01In a0.2 1 2)) || (decide (((k0 : Nat) : Int) > (0 : Int)) && (!(Op.bytesLess ((nth s_ (Int.toNat (((k0 : Nat) : Int) - 1))).1).toList a0.1.toList))))) (fun h7 => ?_) (fun h7 => ?_)
    ·
      refine awp_seq ?_
      refine rk tt_ok [] [43] [] [] [] (o0) ?_
      refine awp_ret ?_
      have hr8 : (forL (specIsValidSchema_f0 s_) specIsValidSchema_e0 s_ 0 ()) = .ret false := forL_ret hx0 (bif_t h7 (rfl)) hI0
      exact pret [] (congrArg (fun z => (.b z : AV)) (show specIsValidSchema s_ = false from on_r hr8).symm)
    ·
      have h7l : ((!(specIsValidAttrName a0.1))) = false := or_l h7
      have h7ln : (specIsValidAttrName a0.1) = true := bnot_f h7l
      have h7r : (((!(specl01In a0.2 1 2)) || (decide (((k0 : Nat) : Int) > (0 : Int)) && (!(Op.bytesLess ((nth s_ (Int.toNat (((k0 : Nat) : Int) - 1))).1).toList a0.1.toList))))) = false := or_r h7
      have h7rl : ((!(specl01In a0.2 1 2))) = false := or_l h7r
      have h7rln : (specl01In a0.2 1 2) = true := bnot_f h7rl
      have h7rr : ((decide (((k0 : Nat) : Int) > (0 : Int)) && (!(Op.bytesLess ((nth s_ (Int.toNat (((k0 : Nat) : Int) - 1))).1).toList a0.1.toList)))) = false := or_r h7r
      refine awp_skip ?_
      refine rk tt_ok [(3, .i ((k0 + 1 : Nat) : Int))] [3, 43] [] [] [(1, .val (.i ((k0 + 1 : Nat) : Int)))] (o1 (ob_eq (av_i (wrap_succ k0 (by omega))))) ?_
      exact Exists.intro () (And.intro (weak_fit (by kernel_rfl)) (forL_next hx0 (bif_f h7 (rfl)) hI0))
  ·
    refine awp_seq ?_
    refine awp_seq ?_
    refine rk tt_ok [(7, .b false)] [] [] [] [(2, .val (.i (s_.length : Int))), (3, .val (.b false))] (o2 (ob_eq (av_len s_)) (o1 (ob_eq (av_bool (decide_eq_false (p := ((k0 : Nat) : Int) < (s_.length : Int)) (by omega)))))) ?_
    refine ckF ?_
    refine awp_exit ?_
    exact Exists.intro () (And.intro (weak_fit (by kernel_rfl)) (forL_end hk0 (rfl) hI0))
  ·
    refine awp_seq ?_
    refine rk tt_ok [(2, .b (decide ((s_.length : Int) ≤ (5 : Int))))] [0, 2] [] [] [(1, .val (.i (s_.length : Int)))] (o1 (ob_eq (av_len s_))) ?_
    refine awp_ret ?_
    exact pret [] (congrArg (fun z => (.b z : AV)) (show specIsValidSchema s_ = decide ((s_.length : Int) ≤ (5 : Int)) from on_b hD0 (rfl)).symm)
def specIsValidFile_f0 (s_ : (List FieldD)) (f : FileD) (k0 : Nat) (a0 : AttrD) (_ : Unit) : Rd (Bool) (Unit) (Unit) := (bif ((!(specMatchesSchema s_ a0.1 a0.2)) || (decide (((k0 : Nat) : Int) > (0 : Int)) && (!(Op.bytesLess ((nth f.2.2.2.2 (Int.toNat (((k0 : Nat) : Int) - 1))).1).toList a0.1.toList)))) then (.ret false) else (.next ()))
def specIsValidFile_e0 (_ : Nat) (_ : Unit) : Unit := ()
def specIsValidFile (s_ : (List FieldD)) (f : FileD) : Bool := (Out.on (forL (specIsValidFile_f0 s_ f) specIsValidFile_e0 f.2.2.2.2 0 ()) (fun _ => ((specIsValidSchema s_) && ((specl01In f.1 1 60) && ((specl01In f.2.1 0 2) && (specl01In f.2.2.2.1 0 60))))))
theorem specIsValidFile_a (s_ : (List FieldD)) (f : FileD) : ACalls Tryd.prog 21 [.h s_, .a [.i f.1, .i f.2.1, .b f.2.2.1, .i f.2.2.2.1, .h f.2.2.2.2]] (.b (specIsValidFile s_ f)) := by
  refine acalls_of (tt := tt) tt_ok Tryd.func21 (fn := Tryd.f21) rfl (by unfold FnOk; kernel_rfl) (Nat.le_of_ble_eq_true rfl) fun w0 F0 hG => ?_
  refine awp_seq ?_
  refine rk tt_ok [(3, .p 3 0), (4, .b false)] [1] [(3, [.i f.1, .i f.2.1, .b f.2.2.1, .i f.2.2.2.1, .h f.2.2.2.2])] [] [] (o0) ?_
  refine awp_seq ?_
  refine awp_seq ?_
  refine rk tt_ok [(5, .i 0)] [] [] [] [] (o0) ?_
  refine wdB 3 4 .sh f.2.2.2.2 (fun hw1 => ?_)
  have hl2 : List.length f.2.2.2.2 ≤ 1073741824 := wide_len (hw1)
  refine blk (fun (k0 : Nat) (s0 : Unit) => [(5, .i ((k0 : Nat) : Int))]) [5] (fun k0 s0 => []) [] (fun (y0 : Unit) => []) [5] (fun y0 => []) [] (fun (k0 : Nat) (s0 : Unit) => (forL (specIsValidFile_f0 s_ f) specIsValidFile_e0 f.2.2.2.2 0 ()) = forL (specIsValidFile_f0 s_ f) specIsValidFile_e0 (List.drop k0 f.2.2.2.2) k0 s0) (fun (y0 : Unit) => (forL (specIsValidFile_f0 s_ f) specIsValidFile_e0 f.2.2.2.2 0 ()) = .brk y0) f.2.2.2.2.length () (weak_fit (by kernel_rfl)) rfl (fun k0 s0 hk0 hI0 => ?_) (fun k0 s0 hk0 hI0 => ?_) (fun y0 hD0 => ?_)
  ·
    obtain ⟨a0, hx0⟩ := get_some (l := f.2.2.2.2) (i := k0) hk0
    refine awp_seq ?_
    refine awp_seq ?_
    refine rk tt_ok [(10, .b true)] [] [] [] [(3, .val (.i (f.2.2.2.2.length : Int))), (4, .val (.b true))] (o2 (ob_eq (av_len f.2.2.2.2)) (o1 (ob_eq (av_bool (decide_eq_true (p := ((k0 : Nat) : Int) < (f.2.2.2.2.length : Int)) (by omega)))))) ?_
    refine ckT ?_
    refine awp_skip ?_
    refine awp_seq ?_
    refine awp_block ?_
    refine awp_seq ?_
    refine jn [(47, .b ((!(specMatchesSchema s_ a0.1 a0.2)) || (decide (((k0 : Nat) : Int) > (0 : Int)) && (!(Op.bytesLess ((nth f.2.2.2.2 (Int.toNat (((k0 : Nat) : Int) - 1))).1).toList a0.1.toList)))))] [10] [] [] (!(specMatchesSchema s_ a0.1 a0.2)) (fun h3 => ?_) (fun h3 => ?_) ?_
    ·
      have h3n : (specMatchesSchema s_ a0.1 a0.2) = false := bnot_t h3
      refine rd' tt_ok tt_mx [(47, .b true)] [10] [] [] [(4, .row [.s a0.1, .i a0.2.1, .i a0.2.2.1, .s a0.2.2.2]), (10, .row [.s a0.1, .i a0.2.1, .i a0.2.2.1, .s a0.2.2.2]), (13, .val (.b false)), (14, .val (.b true))] (o2 (ob_elem (el_of (i := ((k0 : Nat) : Int)) (by omega) rfl hx0)) (o2 (ob_elem (el_of (i := ((k0 : Nat) : Int)) (by omega) rfl hx0)) (o2 (ob_call (cb h3n (specMatchesSchema_a s_ a0.1 a0.2))) (o1 (ob_eq (show .b (!false) = .b true from rfl)))))) ?_
      exact ⟨rfl, weak_fit (by rw [h3]; first | done | kernel_rfl)⟩
    ·
      have h3n : (specMatchesSchema s_ a0.1 a0.2) = true := bnot_f h3
      refine awp_split (decide (((k0 : Nat) : Int) > (0 : Int))) (fun h4 => ?_) (fun h4 => ?_)
      ·
        have h4d := of_decide_eq_true h4
        have hx5 : f.2.2.2.2[(Int.toNat (((k0 : Nat) : Int) - 1))]? = some (nth f.2.2.2.2 (Int.toNat (((k0 : Nat) : Int) - 1))) := nth_get (by omega)
        refine rd' tt_ok tt_mx [(47, .b (!(Op.bytesLess ((nth f.2.2.2.2 (Int.toNat (((k0 : Nat) : Int) - 1))).1).toList a0.1.toList)))] [10] [] [] [(4, .row [.s a0.1, .i a0.2.1, .i a0.2.2.1, .s a0.2.2.2]), (10, .row [.s a0.1, .i a0.2.1, .i a0.2.2.1, .s a0.2.2.2]), (13, .val (.b true)), (14, .val (.b false)), (17, .val (.b true)), (22, .val (.i (((k0 : Nat) : Int) - 1))), (23, .row [.s ((nth f.2.2.2.2 (Int.toNat (((k0 : Nat) : Int) - 1))).1), .i ((nth f.2.2.2.2 (Int.toNat (((k0 : Nat) : Int) - 1))).2.1), .i ((nth f.2.2.2.2 (Int.toNat (((k0 : Nat) : Int) - 1))).2.2.1), .s ((nth f.2.2.2.2 (Int.toNat (((k0 : Nat) : Int) - 1))).2.2.2)]), (29, .row [.s a0.1, .i a0.2.1, .i a0.2.2.1, .s a0.2.2.2])] (o2 (ob_elem (el_of (i := ((k0 : Nat) : Int)) (by omega) rfl hx0)) (o2 (ob_elem (el_of (i := ((k0 : Nat) : Int)) (by omega) rfl hx0)) (o2 (ob_call (cb h3n (specMatchesSchema_a s_ a0.1 a0.2))) (o2 (ob_eq (show .b (!true) = .b false from rfl)) (o2 (ob_eq (av_bool h4)) (o2 (ob_eq (av_i (IntWalk.i64_in (((k0 : Nat) : Int) - 1) (by omega)))) (o2 (ob_elem (el_of (i := (((k0 : Nat) : Int) - 1)) (by omega) rfl hx5)) (o1 (ob_elem (el_of (i := ((k0 : Nat) : Int)) (by omega) rfl hx0)))))))))) ?_
        exact ⟨rfl, weak_fit (by rw [h3, h4]; first | done | kernel_rfl)⟩
      ·
        have h4d := of_decide_eq_false h4
        refine rd' tt_ok tt_mx [(47, .b false)] [10] [] [] [(4, .row [.s a0.1, .i a0.2.1, .i a0.2.2.1, .s a0.2.2.2]), (10, .row [.s a0.1, .i a0.2.1, .i a0.2.2.1, .s a0.2.2.2]), (13, .val (.b true)), (14, .val (.b false)), (17, .val (.b false))] (o2 (ob_elem (el_of (i := ((k0 : Nat) : Int)) (by omega) rfl hx0)) (o2 (ob_elem (el_of (i := ((k0 : Nat) : Int)) (by omega) rfl hx0)) (o2 (ob_call (cb h3n (specMatchesSchema_a s_ a0.1 a0.2))) (o2 (ob_eq (show .b (!true) = .b false from rfl)) (o1 (ob_eq (av_bool h4))))))) ?_
        exact ⟨rfl, weak_fit (by rw [h3, h4]; first | done | kernel_rfl)⟩
    refine ck ((!(specMatchesSchema s_ a0.1 a0.2)) || (decide (((k0 : Nat) : Int) > (0 : Int)) && (!(Op.bytesLess ((nth f.2.2.2.2 (Int.toNat (((k0 : Nat) : Int) - 1))).1).toList a0.1.toList)))) (fun h6 => ?_) (fun h6 => ?_)
    ·
      refine awp_seq ?_
      refine rk tt_ok [] [47] [] [] [] (o0) ?_
      refine awp_ret ?_
      have hr7 : (forL (specIsValidFile_f0 s_ f) specIsValidFile_e0 f.2.2.2.2 0 ()) = .ret false := forL_ret hx0 (bif_t h6 (rfl)) hI0
      exact pret [] (congrArg (fun z => (.b z : AV)) (show specIsValidFile s_ f = false from on_r hr7).symm)
    ·
      have h6l : ((!(specMatchesSchema s_ a0.1 a0.2))) = false := or_l h6
      have h6ln : (specMatchesSchema s_ a0.1 a0.2) = true := bnot_f h6l
      have h6r : ((decide (((k0 : Nat) : Int) > (0 : Int)) && (!(Op.bytesLess ((nth f.2.2.2.2 (Int.toNat (((k0 : Nat) : Int) - 1))).1).toList a0.1.toList)))) = false := or_r h6
      refine awp_skip ?_
      refine rk tt_ok [(5, .i ((k0 + 1 : Nat) : Int))] [5, 47] [] [] [(1, .val (.i ((k0 + 1 : Nat) : Int)))] (o1 (ob_eq (av_i (wrap_succ k0 (by omega))))) ?_
      exact Exists.intro () (And.intro (weak_fit (by kernel_rfl)) (forL_next hx0 (bif_f h6 (rfl)) hI0))
  ·
    refine awp_seq ?_
    refine awp_seq ?_
    refine rk tt_ok [(10, .b false)] [] [] [] [(3, .val (.i (f.2.2.2.2.length : Int))), (4, .val (.b false))] (o2 (ob_eq (av_len f.2.2.2.2)) (o1 (ob_eq (av_bool (decide_eq_false (p := ((k0 : Nat) : Int) < (f.2.2.2.2.length : Int)) (by omega)))))) ?_
    refine ckF ?_
    refine awp_exit ?_
    exact Exists.intro () (And.intro (weak_fit (by kernel_rfl)) (forL_end hk0 (rfl) hI0))
  ·
    refine awp_seq ?_
    refine jn [(4, .b ((specIsValidSchema s_) && ((specl01In f.1 1 60) && ((specl01In f.2.1 0 2) && (specl01In f.2.2.2.1 0 60)))))] [0, 3, 4] [] [3] (specIsValidSchema s_) (fun h8 => ?_) (fun h8 => ?_) ?_
    ·
      refine awp_split (specl01In f.1 1 60) (fun h9 => ?_) (fun h9 => ?_)
      ·
        refine awp_split (specl01In f.2.1 0 2) (fun h10 => ?_) (fun h10 => ?_)
        ·
          refine rk tt_ok [(4, .b (specl01In f.2.2.2.1 0 60))] [0, 3, 4] [] [3] [(1, .val (.b true)), (5, .val (.b true)), (10, .val (.b true)), (15, .val (.b (specl01In f.2.2.2.1 0 60)))] (o2 (ob_call (cb h8 (specIsValidSchema_a s_))) (o2 (ob_call (cb h9 (specl01In_a f.1 1 60))) (o2 (ob_call (cb h10 (specl01In_a f.2.1 0 2))) (o1 (ob_call (specl01In_a f.2.2.2.1 0 60)))))) ?_
          exact ⟨rfl, weak_fit (by rw [h8, h9, h10]; first | done | kernel_rfl)⟩
        ·
          refine rk tt_ok [] [0, 3] [] [3] [(1, .val (.b true)), (5, .val (.b true)), (10, .val (.b false))] (o2 (ob_call (cb h8 (specIsValidSchema_a s_))) (o2 (ob_call (cb h9 (specl01In_a f.1 1 60))) (o1 (ob_call (cb h10 (specl01In_a f.2.1 0 2)))))) ?_
          exact ⟨rfl, weak_fit (by rw [h8, h9, h10]; first | done | kernel_rfl)⟩
      ·
        refine rk tt_ok [] [0, 3] [] [3] [(1, .val (.b true)), (5, .val (.b false))] (o2 (ob_call (cb h8 (specIsValidSchema_a s_))) (o1 (ob_call (cb h9 (specl01In_a f.1 1 60))))) ?_
        exact ⟨rfl, weak_fit (by rw [h8, h9]; first | done | kernel_rfl)⟩
    ·
      refine rk tt_ok [] [0, 3] [] [3] [(1, .val (.b false))] (o1 (ob_call (cb h8 (specIsValidSchema_a s_)))) ?_
      exact ⟨rfl, weak_fit (by rw [h8]; first | done | kernel_rfl)⟩
    refine awp_ret ?_
    exact pret [] (congrArg (fun z => (.b z : AV)) (show specIsValidFile s_ f = ((specIsValidSchema s_) && ((specl01In f.1 1 60) && ((specl01In f.2.1 0 2) && (specl01In f.2.2.2.1 0 60)))) from on_b hD0 (rfl)).symm)
def specIsValidStore_f0 (s_ : StoreD) (k0 : Nat) (a0 : FileD) (_ : Unit) : Rd (Bool) (Unit) (Unit) := (bif ((!(specIsValidFile s_.1 a0)) || (decide (a0.1 ≥ s_.2.2) || (decide (((k0 : Nat) : Int) > (0 : Int)) && decide ((nth s_.2.1 (Int.toNat (((k0 : Nat) : Int) - 1))).1 ≥ a0.1)))) then (.ret false) else (.next ()))
def specIsValidStore_e0 (_ : Nat) (_ : Unit) : Unit := ()
def specIsValidStore (s_ : StoreD) : Bool := (Out.on (forL (specIsValidStore_f0 s_) specIsValidStore_e0 s_.2.1 0 ()) (fun _ => ((specIsValidSchema s_.1) && (decide ((s_.2.1.length : Int) ≤ (12 : Int)) && (specl01In s_.2.2 1 61)))))
theorem specIsValidStore_a (s_ : StoreD) : ACalls Tryd.prog 20 [.a [.h s_.1, .h s_.2.1, .i s_.2.2]] (.b (specIsValidStore s_)) := by
  refine acalls_of (tt := tt) tt_ok Tryd.func20 (fn := Tryd.f20) rfl (by unfold FnOk; kernel_rfl) (Nat.le_of_ble_eq_true rfl) fun w0 F0 hG => ?_
  refine awp_seq ?_
  refine rk tt_ok [(1, .p 1 0), (2, .b false)] [0] [(1, [.h s_.1, .h s_.2.1, .i s_.2.2])] [] [] (o0) ?_
  refine awp_seq ?_
  refine awp_seq ?_
  refine rk tt_ok [(3, .i 0)] [] [] [] [] (o0) ?_
  refine wdB 1 1 .sh s_.2.1 (fun hw1 => ?_)
  have hl2 : List.length s_.2.1 ≤ 1073741824 := wide_len (hw1)
  refine blk (fun (k0 : Nat) (s0 : Unit) => [(3, .i ((k0 : Nat) : Int))]) [3] (fun k0 s0 => []) [] (fun (y0 : Unit) => []) [3] (fun y0 => []) [] (fun (k0 : Nat) (s0 : Unit) => (forL (specIsValidStore_f0 s_) specIsValidStore_e0 s_.2.1 0 ()) = forL (specIsValidStore_f0 s_) specIsValidStore_e0 (List.drop k0 s_.2.1) k0 s0) (fun (y0 : Unit) => (forL (specIsValidStore_f0 s_) specIsValidStore_e0 s_.2.1 0 ()) = .brk y0) s_.2.1.length () (weak_fit (by kernel_rfl)) rfl (fun k0 s0 hk0 hI0 => ?_) (fun k0 s0 hk0 hI0 => ?_) (fun y0 hD0 => ?_)
  ·
    obtain ⟨a0, hx0⟩ := get_some (l := s_.2.1) (i := k0) hk0
    refine awp_seq ?_
    refine awp_seq ?_
    refine rk tt_ok [(8, .b true)] [] [] [] [(3, .val (.i (s_.2.1.length : Int))), (4, .val (.b true))] (o2 (ob_eq (av_len s_.2.1)) (o1 (ob_eq (av_bool (decide_eq_true (p := ((k0 : Nat) : Int) < (s_.2.1.length : Int)) (by omega)))))) ?_
    refine ckT ?_
    refine awp_skip ?_
    refine awp_seq ?_
    refine awp_block ?_
    refine awp_seq ?_
    refine jn [(50, .b ((!(specIsValidFile s_.1 a0)) || (decide (a0.1 ≥ s_.2.2) || (decide (((k0 : Nat) : Int) > (0 : Int)) && decide ((nth s_.2.1 (Int.toNat (((k0 : Nat) : Int) - 1))).1 ≥ a0.1)))))] [8] [] [] (!(specIsValidFile s_.1 a0)) (fun h3 => ?_) (fun h3 => ?_) ?_
    ·
      have h3n : (specIsValidFile s_.1 a0) = false := bnot_t h3
      refine rd' tt_ok tt_mx [(50, .b true)] [8] [] [] [(5, .row [.i a0.1, .i a0.2.1, .b a0.2.2.1, .i a0.2.2.2.1, .h a0.2.2.2.2]), (7, .val (.b false)), (8, .val (.b true))] (o2 (ob_elem (el_of (i := ((k0 : Nat) : Int)) (by omega) rfl hx0)) (o2 (ob_call (cb h3n (specIsValidFile_a s_.1 a0))) (o1 (ob_eq (show .b (!false) = .b true from rfl))))) ?_
      exact ⟨rfl, weak_fit (by rw [h3]; first | done | kernel_rfl)⟩
    ·
      have h3n : (specIsValidFile s_.1 a0) = true := bnot_f h3
      refine awp_split (decide (a0.1 ≥ s_.2.2)) (fun h4 => ?_) (fun h4 => ?_)
      ·
        have h4d := of_decide_eq_true h4
        refine rd' tt_ok tt_mx [(50, .b true)] [8] [] [] [(5, .row [.i a0.1, .i a0.2.1, .b a0.2.2.1, .i a0.2.2.2.1, .h a0.2.2.2.2]), (7, .val (.b true)), (8, .val (.b false)), (13, .row [.i a0.1, .i a0.2.1, .b a0.2.2.1, .i a0.2.2.2.1, .h a0.2.2.2.2]), (18, .val (.b true))] (o2 (ob_elem (el_of (i := ((k0 : Nat) : Int)) (by omega) rfl hx0)) (o2 (ob_call (cb h3n (specIsValidFile_a s_.1 a0))) (o2 (ob_eq (show .b (!true) = .b false from rfl)) (o2 (ob_elem (el_of (i := ((k0 : Nat) : Int)) (by omega) rfl hx0)) (o1 (ob_eq (av_bool h4))))))) ?_
        exact ⟨rfl, weak_fit (by rw [h3, h4]; first | done | kernel_rfl)⟩
      ·
        have h4d := of_decide_eq_false h4
        refine awp_split (decide (((k0 : Nat) : Int) > (0 : Int))) (fun h5 => ?_) (fun h5 => ?_)
        ·
          have h5d := of_decide_eq_true h5
          have hx6 : s_.2.1[(Int.toNat (((k0 : Nat) : Int) - 1))]? = some (nth s_.2.1 (Int.toNat (((k0 : Nat) : Int) - 1))) := nth_get (by omega)
          refine rd' tt_ok tt_mx [(50, .b (decide ((nth s_.2.1 (Int.toNat (((k0 : Nat) : Int) - 1))).1 ≥ a0.1)))] [8] [] [] [(5, .row [.i a0.1, .i a0.2.1, .b a0.2.2.1, .i a0.2.2.2.1, .h a0.2.2.2.2]), (7, .val (.b true)), (8, .val (.b false)), (13, .row [.i a0.1, .i a0.2.1, .b a0.2.2.1, .i a0.2.2.2.1, .h a0.2.2.2.2]), (18, .val (.b false)), (22, .val (.b true)), (27, .val (.i (((k0 : Nat) : Int) - 1))), (28, .row [.i ((nth s_.2.1 (Int.toNat (((k0 : Nat) : Int) - 1))).1), .i ((nth s_.2.1 (Int.toNat (((k0 : Nat) : Int) - 1))).2.1), .b ((nth s_.2.1 (Int.toNat (((k0 : Nat) : Int) - 1))).2.2.1), .i ((nth s_.2.1 (Int.toNat (((k0 : Nat) : Int) - 1))).2.2.2.1), .h ((nth s_.2.1 (Int.toNat (((k0 : Nat) : Int) - 1))).2.2.2.2)]), (34, .row [.i a0.1, .i a0.2.1, .b a0.2.2.1, .i a0.2.2.2.1, .h a0.2.2.2.2])] (o2 (ob_elem (el_of (i := ((k0 : Nat) : Int)) (by omega) rfl hx0)) (o2 (ob_call (cb h3n (specIsValidFile_a s_.1 a0))) (o2 (ob_eq (show .b (!true) = .b false from rfl)) (o2 (ob_elem (el_of (i := ((k0 : Nat) : Int)) (by omega) rfl hx0)) (o2 (ob_eq (av_bool h4)) (o2 (ob_eq (av_bool h5)) (o2 (ob_eq (av_i (IntWalk.i64_in (((k0 : Nat) : Int) - 1) (by omega)))) (o2 (ob_elem (el_of (i := (((k0 : Nat) : Int) - 1)) (by omega) rfl hx6)) (o1 (ob_elem (el_of (i := ((k0 : Nat) : Int)) (by omega) rfl hx0))))))))))) ?_
          exact ⟨rfl, weak_fit (by rw [h3, h4, h5]; first | done | kernel_rfl)⟩
        ·
          have h5d := of_decide_eq_false h5
          refine rd' tt_ok tt_mx [(50, .b false)] [8] [] [] [(5, .row [.i a0.1, .i a0.2.1, .b a0.2.2.1, .i a0.2.2.2.1, .h a0.2.2.2.2]), (7, .val (.b true)), (8, .val (.b false)), (13, .row [.i a0.1, .i a0.2.1, .b a0.2.2.1, .i a0.2.2.2.1, .h a0.2.2.2.2]), (18, .val (.b false)), (22, .val (.b false))] (o2 (ob_elem (el_of (i := ((k0 : Nat) : Int)) (by omega) rfl hx0)) (o2 (ob_call (cb h3n (specIsValidFile_a s_.1 a0))) (o2 (ob_eq (show .b (!true) = .b false from rfl)) (o2 (ob_elem (el_of (i := ((k0 : Nat) : Int)) (by omega) rfl hx0)) (o2 (ob_eq (av_bool h4)) (o1 (ob_eq (av_bool h5)))))))) ?_
          exact ⟨rfl, weak_fit (by rw [h3, h4, h5]; first | done | kernel_rfl)⟩
    refine ck ((!(specIsValidFile s_.1 a0)) || (decide (a0.1 ≥ s_.2.2) || (decide (((k0 : Nat) : Int) > (0 : Int)) && decide ((nth s_.2.1 (Int.toNat (((k0 : Nat) : Int) - 1))).1 ≥ a0.1)))) (fun h7 => ?_) (fun h7 => ?_)
    ·
      refine awp_seq ?_
      refine rk tt_ok [] [50] [] [] [] (o0) ?_
      refine awp_ret ?_
      have hr8 : (forL (specIsValidStore_f0 s_) specIsValidStore_e0 s_.2.1 0 ()) = .ret false := forL_ret hx0 (bif_t h7 (rfl)) hI0
      exact pret [] (congrArg (fun z => (.b z : AV)) (show specIsValidStore s_ = false from on_r hr8).symm)
    ·
      have h7l : ((!(specIsValidFile s_.1 a0))) = false := or_l h7
      have h7ln : (specIsValidFile s_.1 a0) = true := bnot_f h7l
      have h7r : ((decide (a0.1 ≥ s_.2.2) || (decide (((k0 : Nat) : Int) > (0 : Int)) && decide ((nth s_.2.1 (Int.toNat (((k0 : Nat) : Int) - 1))).1 ≥ a0.1)))) = false := or_r h7
      have h7rl : (decide (a0.1 ≥ s_.2.2)) = false := or_l h7r
      have h7rld := of_decide_eq_false h7rl
      have h7rr : ((decide (((k0 : Nat) : Int) > (0 : Int)) && decide ((nth s_.2.1 (Int.toNat (((k0 : Nat) : Int) - 1))).1 ≥ a0.1))) = false := or_r h7r
      refine awp_skip ?_
      refine rk tt_ok [(3, .i ((k0 + 1 : Nat) : Int))] [3, 50] [] [] [(1, .val (.i ((k0 + 1 : Nat) : Int)))] (o1 (ob_eq (av_i (wrap_succ k0 (by omega))))) ?_
      exact Exists.intro () (And.intro (weak_fit (by kernel_rfl)) (forL_next hx0 (bif_f h7 (rfl)) hI0))
  ·
    refine awp_seq ?_
    refine awp_seq ?_
    refine rk tt_ok [(8, .b false)] [] [] [] [(3, .val (.i (s_.2.1.length : Int))), (4, .val (.b false))] (o2 (ob_eq (av_len s_.2.1)) (o1 (ob_eq (av_bool (decide_eq_false (p := ((k0 : Nat) : Int) < (s_.2.1.length : Int)) (by omega)))))) ?_
    refine ckF ?_
    refine awp_exit ?_
    exact Exists.intro () (And.intro (weak_fit (by kernel_rfl)) (forL_end hk0 (rfl) hI0))
  ·
    refine awp_seq ?_
    refine jn [(2, .b ((specIsValidSchema s_.1) && (decide ((s_.2.1.length : Int) ≤ (12 : Int)) && (specl01In s_.2.2 1 61))))] [1, 2] [] [1] (specIsValidSchema s_.1) (fun h9 => ?_) (fun h9 => ?_) ?_
    ·
      refine awp_split (decide ((s_.2.1.length : Int) ≤ (12 : Int))) (fun h10 => ?_) (fun h10 => ?_)
      ·
        have h10d := of_decide_eq_true h10
        refine rk tt_ok [(2, .b (specl01In s_.2.2 1 61))] [1, 2] [] [1] [(2, .val (.b true)), (6, .val (.i (s_.2.1.length : Int))), (7, .val (.b true)), (12, .val (.b (specl01In s_.2.2 1 61)))] (o2 (ob_call (cb h9 (specIsValidSchema_a s_.1))) (o2 (ob_eq (av_len s_.2.1)) (o2 (ob_eq (av_bool h10)) (o1 (ob_call (specl01In_a s_.2.2 1 61)))))) ?_
        exact ⟨rfl, weak_fit (by rw [h9, h10]; first | done | kernel_rfl)⟩
      ·
        have h10d := of_decide_eq_false h10
        refine rk tt_ok [] [1] [] [1] [(2, .val (.b true)), (6, .val (.i (s_.2.1.length : Int))), (7, .val (.b false))] (o2 (ob_call (cb h9 (specIsValidSchema_a s_.1))) (o2 (ob_eq (av_len s_.2.1)) (o1 (ob_eq (av_bool h10))))) ?_
        exact ⟨rfl, weak_fit (by rw [h9, h10]; first | done | kernel_rfl)⟩
    ·
      refine rk tt_ok [] [1] [] [1] [(2, .val (.b false))] (o1 (ob_call (cb h9 (specIsValidSchema_a s_.1)))) ?_
      exact ⟨rfl, weak_fit (by rw [h9]; first | done | kernel_rfl)⟩
    refine awp_ret ?_
    exact pret [] (congrArg (fun z => (.b z : AV)) (show specIsValidStore s_ = ((specIsValidSchema s_.1) && (decide ((s_.2.1.length : Int) ≤ (12 : Int)) && (specl01In s_.2.2 1 61))) from on_b hD0 (rfl)).symm)
def specCreateFile (s_ : StoreD) (f : FileD) : StoreD × Int × Bool := (bif ((!(specIsValidStore (specl05Copy s_))) || (decide ((((specl05Copy s_).2.1).length : Int) ≥ (12 : Int)) || (!(specIsValidFile ((specl05Copy s_).1) ((specl05Copy s_).2.2, (specl04Copy f).2.1, (specl04Copy f).2.2.1, (specl04Copy f).2.2.2.1, (specl04Copy f).2.2.2.2))))) then ((specl05Copy s_), 0, false) else (((specl05Copy s_).1, (specl05Copy s_).2.1 ++ [((specl05Copy s_).2.2, (specl04Copy f).2.1, (specl04Copy f).2.2.1, (specl04Copy f).2.2.2.1, (specl04Copy f).2.2.2.2)], IntKind.i64.wrap ((specl05Copy s_).2.2 + 1)), (specl05Copy s_).2.2, true))
theorem specCreateFile_a (s_ : StoreD) (f : FileD) : ACalls Tryd.prog 8 [.a [.h s_.1, .h s_.2.1, .i s_.2.2], .a [.i f.1, .i f.2.1, .b f.2.2.1, .i f.2.2.2.1, .h f.2.2.2.2]] (.tup [(true, [.o 0 ((((specCreateFile s_ f)).1).1), .o 1 ((((specCreateFile s_ f)).1).2.1), .i ((((specCreateFile s_ f)).1).2.2)]), (false, [.i (((specCreateFile s_ f)).2.1)]), (false, [.b (((specCreateFile s_ f)).2.2)])]) := by
  refine acalls_of (tt := tt) tt_ok Tryd.func8 (fn := Tryd.f8) rfl (by unfold FnOk; kernel_rfl) (Nat.le_of_ble_eq_true rfl) fun w0 F0 hG => ?_
  refine awp_seq ?_
  refine rk tt_ok [(2, .p 2 0), (3, .p 3 0), (4, .p 4 0), (5, .i 0), (6, .b false)] [0, 1] [(2, [.h s_.1, .h s_.2.1, .i s_.2.2]), (3, [.i f.1, .i f.2.1, .b f.2.2.1, .i f.2.2.2.1, .h f.2.2.2.2]), (4, [.e 2, .e 5, .i 0])] [] [] (o0) ?_
  refine awp_seq ?_
  refine rk tt_ok [] [] [(2, [.o 512 ((specl05Copy s_).1), .o 513 ((specl05Copy s_).2.1), .i ((specl05Copy s_).2.2)])] [2] [(1, .val (.a [.o 0 ((specl05Copy s_).1), .o 1 ((specl05Copy s_).2.1), .i ((specl05Copy s_).2.2)]))] (o1 (ob_call (specl05Copy_a s_))) ?_
  refine awp_seq ?_
  refine rk tt_ok [] [] [(3, [.i ((specl04Copy f).1), .i ((specl04Copy f).2.1), .b ((specl04Copy f).2.2.1), .i ((specl04Copy f).2.2.2.1), .o 640 ((specl04Copy f).2.2.2.2)])] [3] [(1, .val (.a [.i ((specl04Copy f).1), .i ((specl04Copy f).2.1), .b ((specl04Copy f).2.2.1), .i ((specl04Copy f).2.2.2.1), .o 0 ((specl04Copy f).2.2.2.2)]))] (o1 (ob_call (specl04Copy_a f))) ?_
  refine awp_seq ?_
  refine rk tt_ok [] [] [(3, [.i ((specl05Copy s_).2.2), .i ((specl04Copy f).2.1), .b ((specl04Copy f).2.2.1), .i ((specl04Copy f).2.2.2.1), .o 640 ((specl04Copy f).2.2.2.2)])] [3] [] (o0) ?_
  refine awp_seq ?_
  refine awp_seq ?_
  refine jn [(29, .b ((!(specIsValidStore (specl05Copy s_))) || (decide ((((specl05Copy s_).2.1).length : Int) ≥ (12 : Int)) || (!(specIsValidFile ((specl05Copy s_).1) ((specl05Copy s_).2.2, (specl04Copy f).2.1, (specl04Copy f).2.2.1, (specl04Copy f).2.2.2.1, (specl04Copy f).2.2.2.2))))))] [] [] [] (!(specIsValidStore (specl05Copy s_))) (fun h1 => ?_) (fun h1 => ?_) ?_
  ·
    have h1n : (specIsValidStore (specl05Copy s_)) = false := bnot_t h1
    refine rk tt_ok [(29, .b true)] [] [] [] [(1, .val (.b false)), (2, .val (.b true))] (o2 (ob_call (cb h1n (specIsValidStore_a (specl05Copy s_)))) (o1 (ob_eq (show .b (!false) = .b true from rfl)))) ?_
    exact ⟨rfl, weak_fit (by rw [h1]; first | done | kernel_rfl)⟩
  ·
    have h1n : (specIsValidStore (specl05Copy s_)) = true := bnot_f h1
    refine awp_split (decide ((((specl05Copy s_).2.1).length : Int) ≥ (12 : Int))) (fun h2 => ?_) (fun h2 => ?_)
    ·
      have h2d := of_decide_eq_true h2
      refine rk tt_ok [(29, .b true)] [] [] [] [(1, .val (.b true)), (2, .val (.b false)), (6, .val (.i (((specl05Copy s_).2.1).length : Int))), (7, .val (.b true))] (o2 (ob_call (cb h1n (specIsValidStore_a (specl05Copy s_)))) (o2 (ob_eq (show .b (!true) = .b false from rfl)) (o2 (ob_eq (av_len ((specl05Copy s_).2.1))) (o1 (ob_eq (av_bool h2)))))) ?_
      exact ⟨rfl, weak_fit (by rw [h1, h2]; first | done | kernel_rfl)⟩
    ·
      have h2d := of_decide_eq_false h2
      refine rk tt_ok [(29, .b (!(specIsValidFile ((specl05Copy s_).1) ((specl05Copy s_).2.2, (specl04Copy f).2.1, (specl04Copy f).2.2.1, (specl04Copy f).2.2.2.1, (specl04Copy f).2.2.2.2))))] [] [] [] [(1, .val (.b true)), (2, .val (.b false)), (6, .val (.i (((specl05Copy s_).2.1).length : Int))), (7, .val (.b false)), (13, .val (.b (specIsValidFile ((specl05Copy s_).1) ((specl05Copy s_).2.2, (specl04Copy f).2.1, (specl04Copy f).2.2.1, (specl04Copy f).2.2.2.1, (specl04Copy f).2.2.2.2))))] (o2 (ob_call (cb h1n (specIsValidStore_a (specl05Copy s_)))) (o2 (ob_eq (show .b (!true) = .b false from rfl)) (o2 (ob_eq (av_len ((specl05Copy s_).2.1))) (o2 (ob_eq (av_bool h2)) (o1 (ob_call (specIsValidFile_a ((specl05Copy s_).1) ((specl05Copy s_).2.2, (specl04Copy f).2.1, (specl04Copy f).2.2.1, (specl04Copy f).2.2.2.1, (specl04Copy f).2.2.2.2)))))))) ?_
      exact ⟨rfl, weak_fit (by rw [h1, h2]; first | done | kernel_rfl)⟩
  refine ck ((!(specIsValidStore (specl05Copy s_))) || (decide ((((specl05Copy s_).2.1).length : Int) ≥ (12 : Int)) || (!(specIsValidFile ((specl05Copy s_).1) ((specl05Copy s_).2.2, (specl04Copy f).2.1, (specl04Copy f).2.2.1, (specl04Copy f).2.2.2.1, (specl04Copy f).2.2.2.2))))) (fun h3 => ?_) (fun h3 => ?_)
  ·
    refine awp_seq ?_
    refine rk tt_ok [] [29] [(4, [.o 512 ((specl05Copy s_).1), .o 513 ((specl05Copy s_).2.1), .i ((specl05Copy s_).2.2)])] [4] [] (o0) ?_
    refine awp_ret ?_
    exact pret [] (congrArg (fun z => (.tup [(true, [.o 0 z.1.1, .o 1 z.1.2.1, .i z.1.2.2]), (false, [.i z.2.1]), (false, [.b z.2.2])] : AV)) (show specCreateFile s_ f = ((specl05Copy s_), 0, false) from bif_t h3 (rfl)).symm)
  ·
    have h3l : ((!(specIsValidStore (specl05Copy s_)))) = false := or_l h3
    have h3ln : (specIsValidStore (specl05Copy s_)) = true := bnot_f h3l
    have h3r : ((decide ((((specl05Copy s_).2.1).length : Int) ≥ (12 : Int)) || (!(specIsValidFile ((specl05Copy s_).1) ((specl05Copy s_).2.2, (specl04Copy f).2.1, (specl04Copy f).2.2.1, (specl04Copy f).2.2.2.1, (specl04Copy f).2.2.2.2))))) = false := or_r h3
    have h3rl : (decide ((((specl05Copy s_).2.1).length : Int) ≥ (12 : Int))) = false := or_l h3r
    have h3rld := of_decide_eq_false h3rl
    have h3rr : ((!(specIsValidFile ((specl05Copy s_).1) ((specl05Copy s_).2.2, (specl04Copy f).2.1, (specl04Copy f).2.2.1, (specl04Copy f).2.2.2.1, (specl04Copy f).2.2.2.2)))) = false := or_r h3r
    have h3rrn : (specIsValidFile ((specl05Copy s_).1) ((specl05Copy s_).2.2, (specl04Copy f).2.1, (specl04Copy f).2.2.1, (specl04Copy f).2.2.2.1, (specl04Copy f).2.2.2.2)) = true := bnot_f h3rr
    refine awp_skip ?_
    refine awp_seq ?_
    refine wdB 2 1 (.own true 513) ((specl05Copy s_).2.1) (fun hw4 => ?_)
    have hl5 : List.length ((specl05Copy s_).2.1) ≤ 1073741824 := wide_len (hw4)
    refine rk tt_ok [] [29] [(2, [.o 512 ((specl05Copy s_).1), .slc (.own true 2240) 5 ((eL ((specl05Copy s_).2.1)) ++ [[.i ((specl05Copy s_).2.2), .i ((specl04Copy f).2.1), .b ((specl04Copy f).2.2.1), .i ((specl04Copy f).2.2.2.1), .h ((specl04Copy f).2.2.2.2)]]), .i ((specl05Copy s_).2.2)]), (3, [.i ((specl05Copy s_).2.2), .i ((specl04Copy f).2.1), .b ((specl04Copy f).2.2.1), .i ((specl04Copy f).2.2.2.1), .dead])] [2, 3] [] (o1 (ob_len (len_of (eL_length ((specl05Copy s_).2.1)) (eL_length [((specl05Copy s_).2.2, (specl04Copy f).2.1, (specl04Copy f).2.2.1, (specl04Copy f).2.2.2.1, (specl04Copy f).2.2.2.2)]) (by first | omega | (simp; omega) | simp)))) ?_
    refine eqn [] [] [(2, [.o 512 ((specl05Copy s_).1), .o 2240 ((specl05Copy s_).2.1 ++ [((specl05Copy s_).2.2, (specl04Copy f).2.1, (specl04Copy f).2.2.1, (specl04Copy f).2.2.2.1, (specl04Copy f).2.2.2.2)]), .i ((specl05Copy s_).2.2)])] [2] (by rw [show ((eL ((specl05Copy s_).2.1)) ++ [[.i ((specl05Copy s_).2.2), .i ((specl04Copy f).2.1), .b ((specl04Copy f).2.2.1), .i ((specl04Copy f).2.2.2.1), .h ((specl04Copy f).2.2.2.2)]]) = (eL ((specl05Copy s_).2.1 ++ [((specl05Copy s_).2.2, (specl04Copy f).2.1, (specl04Copy f).2.2.1, (specl04Copy f).2.2.2.1, (specl04Copy f).2.2.2.2)])) from app_eL (rfl) (rfl)]; first | done | kernel_rfl) ?_
    refine awp_seq ?_
    refine rk tt_ok [] [] [(2, [.o 512 ((specl05Copy s_).1), .o 2240 ((specl05Copy s_).2.1 ++ [((specl05Copy s_).2.2, (specl04Copy f).2.1, (specl04Copy f).2.2.1, (specl04Copy f).2.2.2.1, (specl04Copy f).2.2.2.2)]), .i (IntKind.i64.wrap ((specl05Copy s_).2.2 + 1))])] [2] [] (o0) ?_
    refine awp_seq ?_
    refine rd' tt_ok tt_mx [(5, .i ((specl05Copy s_).2.2)), (6, .b true)] [2, 3, 5, 6] [(4, [.o 512 ((specl05Copy s_).1), .o 2240 ((specl05Copy s_).2.1 ++ [((specl05Copy s_).2.2, (specl04Copy f).2.1, (specl04Copy f).2.2.1, (specl04Copy f).2.2.2.1, (specl04Copy f).2.2.2.2)]), .i (IntKind.i64.wrap ((specl05Copy s_).2.2 + 1))])] [2, 3, 4] [] (o0) ?_
    refine awp_ret ?_
    exact pret [] (congrArg (fun z => (.tup [(true, [.o 0 z.1.1, .o 1 z.1.2.1, .i z.1.2.2]), (false, [.i z.2.1]), (false, [.b z.2.2])] : AV)) (show specCreateFile s_ f = (((specl05Copy s_).1, (specl05Copy s_).2.1 ++ [((specl05Copy s_).2.2, (specl04Copy f).2.1, (specl04Copy f).2.2.1, (specl04Copy f).2.2.2.1, (specl04Copy f).2.2.2.2)], IntKind.i64.wrap ((specl05Copy s_).2.2 + 1)), (specl05Copy s_).2.2, true) from bif_f h3 (rfl)).symm)
def lawssameTexts_f0 (b : (List ByteArray)) (k0 : Nat) (a0 : ByteArray) (_ : Unit) : Rd (Bool) (Unit) (Unit) := (bif (!(a0.toList == (nth b k0).toList)) then (.ret false) else (.next ()))
def lawssameTexts_e0 (_ : Nat) (_ : Unit) : Unit := ()
def lawssameTexts (a_ : (List ByteArray)) (b : (List ByteArray)) : Bool := (bif ((a_.length : Int) != (b.length : Int)) then false else (Out.on (forL (lawssameTexts_f0 b) lawssameTexts_e0 a_ 0 ()) (fun _ => true)))
theorem lawssameTexts_a (a_ : (List ByteArray)) (b : (List ByteArray)) : ACalls Tryd.prog 12 [.h a_, .h b] (.b (lawssameTexts a_ b)) := by
  refine acalls_of (tt := tt) tt_ok Tryd.func12 (fn := Tryd.f12) rfl (by unfold FnOk; kernel_rfl) (Nat.le_of_ble_eq_true rfl) fun w0 F0 hG => ?_
  refine awp_seq ?_
  refine rk tt_ok [(4, .b false)] [] [] [] [] (o0) ?_
  refine awp_seq ?_
  refine awp_seq ?_
  refine rk tt_ok [(10, .b ((a_.length : Int) != (b.length : Int)))] [] [] [] [(1, .val (.i (a_.length : Int))), (3, .val (.i (b.length : Int)))] (o2 (ob_eq (av_len a_)) (o1 (ob_eq (av_len b)))) ?_
  refine ck ((a_.length : Int) != (b.length : Int)) (fun h1 => ?_) (fun h1 => ?_)
  ·
    have h1d := ne_of_bne h1
    refine awp_seq ?_
    refine rk tt_ok [] [10] [] [] [] (o0) ?_
    refine awp_ret ?_
    exact pret [] (congrArg (fun z => (.b z : AV)) (show lawssameTexts a_ b = false from bif_t h1 (rfl)).symm)
  ·
    have h1d := eq_of_bne h1
    refine awp_skip ?_
    refine awp_seq ?_
    refine awp_seq ?_
    refine rk tt_ok [(5, .i 0)] [10] [] [] [] (o0) ?_
    refine wdT 0 0 .sh a_ (fun hw2 => ?_)
    have hl3 : List.length a_ ≤ 1073741824 := wide_len (hw2)
    refine blk (fun (k0 : Nat) (s0 : Unit) => [(5, .i ((k0 : Nat) : Int))]) [5] (fun k0 s0 => []) [] (fun (y0 : Unit) => []) [0, 1, 5] (fun y0 => []) [] (fun (k0 : Nat) (s0 : Unit) => (forL (lawssameTexts_f0 b) lawssameTexts_e0 a_ 0 ()) = forL (lawssameTexts_f0 b) lawssameTexts_e0 (List.drop k0 a_) k0 s0) (fun (y0 : Unit) => (forL (lawssameTexts_f0 b) lawssameTexts_e0 a_ 0 ()) = .brk y0) a_.length () (weak_fit (by kernel_rfl)) rfl (fun k0 s0 hk0 hI0 => ?_) (fun k0 s0 hk0 hI0 => ?_) (fun y0 hD0 => ?_)
    ·
      obtain ⟨a0, hx0⟩ := get_some (l := a_) (i := k0) hk0
      refine awp_seq ?_
      refine awp_seq ?_
      refine rk tt_ok [(14, .b true)] [] [] [] [(2, .val (.i (a_.length : Int))), (3, .val (.b true))] (o2 (ob_eq (av_len a_)) (o1 (ob_eq (av_bool (decide_eq_true (p := ((k0 : Nat) : Int) < (a_.length : Int)) (by omega)))))) ?_
      refine ckT ?_
      refine awp_skip ?_
      refine awp_seq ?_
      refine awp_block ?_
      refine awp_seq ?_
      refine wdT 1 0 .sh b (fun hw5 => ?_)
      have hl6 : List.length b ≤ 1073741824 := wide_len (hw5)
      have hx4 : b[k0]? = some (nth b k0) := nth_get (by omega)
      refine rd' tt_ok tt_mx [(25, .b (!(a0.toList == (nth b k0).toList)))] [14] [] [] [(2, .row [.s a0]), (6, .row [.s (nth b k0)])] (o2 (ob_elem (el_of (i := ((k0 : Nat) : Int)) (by omega) rfl hx0)) (o1 (ob_elem (el_of (i := ((k0 : Nat) : Int)) (by omega) rfl hx4)))) ?_
      refine ck (!(a0.toList == (nth b k0).toList)) (fun h7 => ?_) (fun h7 => ?_)
      ·
        have h7n : (a0.toList == (nth b k0).toList) = false := bnot_t h7
        refine awp_seq ?_
        refine rk tt_ok [] [25] [] [] [] (o0) ?_
        refine awp_ret ?_
        have hr8 : (forL (lawssameTexts_f0 b) lawssameTexts_e0 a_ 0 ()) = .ret false := forL_ret hx0 (bif_t h7 (rfl)) hI0
        exact pret [] (congrArg (fun z => (.b z : AV)) (show lawssameTexts a_ b = false from bif_f h1 (on_r hr8)).symm)
      ·
        have h7n : (a0.toList == (nth b k0).toList) = true := bnot_f h7
        refine awp_skip ?_
        refine rk tt_ok [(5, .i ((k0 + 1 : Nat) : Int))] [5, 25] [] [] [(1, .val (.i ((k0 + 1 : Nat) : Int)))] (o1 (ob_eq (av_i (wrap_succ k0 (by omega))))) ?_
        exact Exists.intro () (And.intro (weak_fit (by kernel_rfl)) (forL_next hx0 (bif_f h7 (rfl)) hI0))
    ·
      refine awp_seq ?_
      refine awp_seq ?_
      refine rk tt_ok [(14, .b false)] [] [] [] [(2, .val (.i (a_.length : Int))), (3, .val (.b false))] (o2 (ob_eq (av_len a_)) (o1 (ob_eq (av_bool (decide_eq_false (p := ((k0 : Nat) : Int) < (a_.length : Int)) (by omega)))))) ?_
      refine ckF ?_
      refine awp_exit ?_
      exact Exists.intro () (And.intro (weak_fit (by kernel_rfl)) (forL_end hk0 (rfl) hI0))
    ·
      refine awp_seq ?_
      refine rk tt_ok [(4, .b true)] [4] [] [] [] (o0) ?_
      refine awp_ret ?_
      exact pret [] (congrArg (fun z => (.b z : AV)) (show lawssameTexts a_ b = true from bif_f h1 (on_b hD0 (rfl))).symm)
def lawssameInts_f0 (b : (List Int)) (k0 : Nat) (a0 : Int) (_ : Unit) : Rd (Bool) (Unit) (Unit) := (bif (a0 != (nth b k0)) then (.ret false) else (.next ()))
def lawssameInts_e0 (_ : Nat) (_ : Unit) : Unit := ()
def lawssameInts (a_ : (List Int)) (b : (List Int)) : Bool := (bif ((a_.length : Int) != (b.length : Int)) then false else (Out.on (forL (lawssameInts_f0 b) lawssameInts_e0 a_ 0 ()) (fun _ => true)))
theorem lawssameInts_a (a_ : (List Int)) (b : (List Int)) : ACalls Tryd.prog 13 [.h a_, .h b] (.b (lawssameInts a_ b)) := by
  refine acalls_of (tt := tt) tt_ok Tryd.func13 (fn := Tryd.f13) rfl (by unfold FnOk; kernel_rfl) (Nat.le_of_ble_eq_true rfl) fun w0 F0 hG => ?_
  refine awp_seq ?_
  refine rk tt_ok [(4, .b false)] [] [] [] [] (o0) ?_
  refine awp_seq ?_
  refine awp_seq ?_
  refine rk tt_ok [(10, .b ((a_.length : Int) != (b.length : Int)))] [] [] [] [(1, .val (.i (a_.length : Int))), (3, .val (.i (b.length : Int)))] (o2 (ob_eq (av_len a_)) (o1 (ob_eq (av_len b)))) ?_
  refine ck ((a_.length : Int) != (b.length : Int)) (fun h1 => ?_) (fun h1 => ?_)
  ·
    have h1d := ne_of_bne h1
    refine awp_seq ?_
    refine rk tt_ok [] [10] [] [] [] (o0) ?_
    refine awp_ret ?_
    exact pret [] (congrArg (fun z => (.b z : AV)) (show lawssameInts a_ b = false from bif_t h1 (rfl)).symm)
  ·
    have h1d := eq_of_bne h1
    refine awp_skip ?_
    refine awp_seq ?_
    refine awp_seq ?_
    refine rk tt_ok [(5, .i 0)] [10] [] [] [] (o0) ?_
    refine wdT 0 0 .sh a_ (fun hw2 => ?_)
    have hl3 : List.length a_ ≤ 1073741824 := wide_len (hw2)
    refine blk (fun (k0 : Nat) (s0 : Unit) => [(5, .i ((k0 : Nat) : Int))]) [5] (fun k0 s0 => []) [] (fun (y0 : Unit) => []) [0, 1, 5] (fun y0 => []) [] (fun (k0 : Nat) (s0 : Unit) => (forL (lawssameInts_f0 b) lawssameInts_e0 a_ 0 ()) = forL (lawssameInts_f0 b) lawssameInts_e0 (List.drop k0 a_) k0 s0) (fun (y0 : Unit) => (forL (lawssameInts_f0 b) lawssameInts_e0 a_ 0 ()) = .brk y0) a_.length () (weak_fit (by kernel_rfl)) rfl (fun k0 s0 hk0 hI0 => ?_) (fun k0 s0 hk0 hI0 => ?_) (fun y0 hD0 => ?_)
    ·
      obtain ⟨a0, hx0⟩ := get_some (l := a_) (i := k0) hk0
      refine awp_seq ?_
      refine awp_seq ?_
      refine rk tt_ok [(14, .b true)] [] [] [] [(2, .val (.i (a_.length : Int))), (3, .val (.b true))] (o2 (ob_eq (av_len a_)) (o1 (ob_eq (av_bool (decide_eq_true (p := ((k0 : Nat) : Int) < (a_.length : Int)) (by omega)))))) ?_
      refine ckT ?_
      refine awp_skip ?_
      refine awp_seq ?_
      refine awp_block ?_
      refine awp_seq ?_
      refine wdT 1 0 .sh b (fun hw5 => ?_)
      have hl6 : List.length b ≤ 1073741824 := wide_len (hw5)
      have hx4 : b[k0]? = some (nth b k0) := nth_get (by omega)
      refine rd' tt_ok tt_mx [(25, .b (a0 != (nth b k0)))] [14] [] [] [(2, .row [.i a0]), (6, .row [.i (nth b k0)])] (o2 (ob_elem (el_of (i := ((k0 : Nat) : Int)) (by omega) rfl hx0)) (o1 (ob_elem (el_of (i := ((k0 : Nat) : Int)) (by omega) rfl hx4)))) ?_
      refine ck (a0 != (nth b k0)) (fun h7 => ?_) (fun h7 => ?_)
      ·
        have h7d := ne_of_bne h7
        refine awp_seq ?_
        refine rk tt_ok [] [25] [] [] [] (o0) ?_
        refine awp_ret ?_
        have hr8 : (forL (lawssameInts_f0 b) lawssameInts_e0 a_ 0 ()) = .ret false := forL_ret hx0 (bif_t h7 (rfl)) hI0
        exact pret [] (congrArg (fun z => (.b z : AV)) (show lawssameInts a_ b = false from bif_f h1 (on_r hr8)).symm)
      ·
        have h7d := eq_of_bne h7
        refine awp_skip ?_
        refine rk tt_ok [(5, .i ((k0 + 1 : Nat) : Int))] [5, 25] [] [] [(1, .val (.i ((k0 + 1 : Nat) : Int)))] (o1 (ob_eq (av_i (wrap_succ k0 (by omega))))) ?_
        exact Exists.intro () (And.intro (weak_fit (by kernel_rfl)) (forL_next hx0 (bif_f h7 (rfl)) hI0))
    ·
      refine awp_seq ?_
      refine awp_seq ?_
      refine rk tt_ok [(14, .b false)] [] [] [] [(2, .val (.i (a_.length : Int))), (3, .val (.b false))] (o2 (ob_eq (av_len a_)) (o1 (ob_eq (av_bool (decide_eq_false (p := ((k0 : Nat) : Int) < (a_.length : Int)) (by omega)))))) ?_
      refine ckF ?_
      refine awp_exit ?_
      exact Exists.intro () (And.intro (weak_fit (by kernel_rfl)) (forL_end hk0 (rfl) hI0))
    ·
      refine awp_seq ?_
      refine rk tt_ok [(4, .b true)] [4] [] [] [] (o0) ?_
      refine awp_ret ?_
      exact pret [] (congrArg (fun z => (.b z : AV)) (show lawssameInts a_ b = true from bif_f h1 (on_b hD0 (rfl))).symm)
def lawsFnFirstName_f0 (code : (List UInt8)) (_ : Nat) (s0 : StoreD) : Rd (Bool) (StoreD) (StoreD) := (.next (((specCreateFile s0 (specSetAttr (0, 0, false, 0, []) ⟨#[110]⟩ (specStringValue (nth ([⟨#[105, 110, 107]⟩, ⟨#[115, 101, 97]⟩] : (List ByteArray)) (Int.toNat (Int.tmod (nth (specDrawPlaces code) 0) 2))))))).1))
def lawsFnFirstName_e0 (_ : Nat) (s0 : StoreD) : StoreD := s0
def lawsFnFirstName (code : (List UInt8)) : Bool := (bif (lawsbig code) then true else (Out.on (forN (lawsFnFirstName_f0 code) lawsFnFirstName_e0 (Int.toNat (3 : Int)) 0 (specNewStore specDefaultSchema)) (fun y0 => ((lawssameTexts (implEntryNames y0 [3, 1, 2]) [(nth ([⟨#[105, 110, 107]⟩, ⟨#[115, 101, 97]⟩] : (List ByteArray)) (Int.toNat (Int.tmod (nth (specDrawPlaces code) 0) 2))), ((nth ([⟨#[105, 110, 107]⟩, ⟨#[115, 101, 97]⟩] : (List ByteArray)) (Int.toNat (Int.tmod (nth (specDrawPlaces code) 0) 2))) ++ (⟨#[46, 49]⟩ : ByteArray)), ((nth ([⟨#[105, 110, 107]⟩, ⟨#[115, 101, 97]⟩] : (List ByteArray)) (Int.toNat (Int.tmod (nth (specDrawPlaces code) 0) 2))) ++ (⟨#[46, 50]⟩ : ByteArray))]) && (lawssameInts (implDisambiguatedIDs y0 [3, 1, 2]) [1, 2])))))
def firstF (t : Int) : Nat → StoreD → Rd (Bool) (StoreD) (StoreD) := fun _ s0 => (.next (((specCreateFile s0 (specSetAttr (0, 0, false, 0, []) ⟨#[110]⟩ (specStringValue (nth ([⟨#[105, 110, 107]⟩, ⟨#[115, 101, 97]⟩] : (List ByteArray)) (Int.toNat t)))))).1))
def firstS (t : Int) : StoreD := match forN (firstF t) lawsFnFirstName_e0 (Int.toNat (3 : Int)) 0 (specNewStore specDefaultSchema) with
  | .brk y => y
  | .ret _ => default
theorem firstS_size {t : Int} (h0 : 0 ≤ t) (h1 : t < 2) : GoD.size (firstS t) ≤ 1000 := by
  have ht : t = 0 ∨ t = 1 := by omega
  rcases ht with rfl | rfl
  · exact of_decide_eq_true (by kernel_rfl)
  · exact of_decide_eq_true (by kernel_rfl)
theorem first_size {code : List UInt8} {y : StoreD} (h : forN (lawsFnFirstName_f0 code) lawsFnFirstName_e0 (Int.toNat (3 : Int)) 0 (specNewStore specDefaultSchema) = .brk y) : GoD.size y ≤ 536870912 := by
  have hm := (place_mod code 0 (by decide) (m := 2) (by decide)).2
  have hs := firstS_size hm.1 hm.2
  have h : forN (firstF (Int.tmod (nth (specDrawPlaces code) 0) 2)) lawsFnFirstName_e0 (Int.toNat (3 : Int)) 0 (specNewStore specDefaultSchema) = .brk y := h
  unfold firstS at hs
  rw [h] at hs
  exact Nat.le_trans hs (by decide)
theorem two_names {t : Int} (h0 : 0 ≤ t) (h1 : t < 2) : ByteArray.size (nth ([⟨#[105, 110, 107]⟩, ⟨#[115, 101, 97]⟩] : (List ByteArray)) (Int.toNat t)) = 3 := by
  have ht : t = 0 ∨ t = 1 := by omega
  rcases ht with rfl | rfl <;> rfl
theorem lawsFnFirstName_a (code : (List UInt8)) : ACalls Tryd.prog 3 [.h code] (.b (lawsFnFirstName code)) := by
  refine acalls_of (tt := tt) tt_ok Tryd.func3 (fn := Tryd.f3) rfl (by unfold FnOk; kernel_rfl) (Nat.le_of_ble_eq_true rfl) fun w0 F0 hG => ?_
  have hpl := places_len code
  have hm2 := (place_mod code 0 (by decide) (m := 2) (by decide)).2
  have hbn := two_names hm2.1 hm2.2
  refine awp_seq ?_
  refine rk tt_ok [(2, .b false)] [] [] [] [] (o0) ?_
  refine awp_seq ?_
  refine awp_seq ?_
  refine rk tt_ok [(9, .b (lawsbig code))] [] [] [] [(1, .val (.b (lawsbig code)))] (o1 (ob_call (lawsbig_a code))) ?_
  refine ck (lawsbig code) (fun h1 => ?_) (fun h1 => ?_)
  ·
    refine awp_seq ?_
    refine rk tt_ok [(2, .b true)] [2, 9] [] [] [] (o0) ?_
    refine awp_ret ?_
    exact pret [] (congrArg (fun z => (.b z : AV)) (show lawsFnFirstName code = true from bif_t h1 (rfl)).symm)
  ·
    refine awp_skip ?_
    refine awp_seq ?_
    refine rk tt_ok [(3, .o 704 (specDrawPlaces code))] [0, 9] [] [] [(1, .val (.o 0 (specDrawPlaces code)))] (o1 (ob_call (specDrawPlaces_a code))) ?_
    refine awp_seq ?_
    refine rk tt_ok [(4, .p 4 0)] [] [(4, [.o 832 ((specNewStore specDefaultSchema).1), .o 833 ((specNewStore specDefaultSchema).2.1), .i ((specNewStore specDefaultSchema).2.2)])] [] [(0, .val (.o 0 specDefaultSchema)), (1, .val (.a [.o 0 ((specNewStore specDefaultSchema).1), .o 1 ((specNewStore specDefaultSchema).2.1), .i ((specNewStore specDefaultSchema).2.2)]))] (o2 (ob_call (specDefaultSchema_a)) (o1 (ob_call (specNewStore_a specDefaultSchema)))) ?_
    refine awp_seq ?_
    refine awp_seq ?_
    refine rk tt_ok [(5, .i 0)] [] [] [] [] (o0) ?_
    refine blk (fun (k0 : Nat) (s0 : StoreD) => [(5, .i ((k0 : Nat) : Int))]) [5] (fun k0 s0 => [(4, [.o 147204 s0.1, .o 147205 s0.2.1, .i s0.2.2])]) [4] (fun (y0 : StoreD) => []) [5] (fun y0 => [(4, [.o 147354 y0.1, .o 147355 y0.2.1, .i y0.2.2])]) [4] (fun (k0 : Nat) (s0 : StoreD) => (forN (lawsFnFirstName_f0 code) lawsFnFirstName_e0 (Int.toNat (3 : Int)) 0 (specNewStore specDefaultSchema)) = forN (lawsFnFirstName_f0 code) lawsFnFirstName_e0 ((Int.toNat (3 : Int)) - k0) k0 s0) (fun (y0 : StoreD) => (forN (lawsFnFirstName_f0 code) lawsFnFirstName_e0 (Int.toNat (3 : Int)) 0 (specNewStore specDefaultSchema)) = .brk y0) (Int.toNat (3 : Int)) (specNewStore specDefaultSchema) (weak_sf [(832, 147204), (833, 147205)] (by kernel_rfl)) rfl (fun k0 s0 hk0 hI0 => ?_) (fun k0 s0 hk0 hI0 => ?_) (fun y0 hD0 => ?_)
    ·
      refine awp_seq ?_
      refine awp_seq ?_
      refine rk tt_ok [(15, .b true)] [] [] [] [(1, .val (.b true))] (o1 (ob_eq (av_bool (decide_eq_true (p := ((k0 : Nat) : Int) < (3 : Int)) (by omega))))) ?_
      refine ckT ?_
      refine awp_skip ?_
      refine awp_seq ?_
      refine awp_block ?_
      refine wdT 3 0 (.own true 704) (specDrawPlaces code) (fun hw3 => ?_)
      have hl4 : List.length (specDrawPlaces code) ≤ 1073741824 := wide_len (hw3)
      have hx2 : (specDrawPlaces code)[0]? = some (nth (specDrawPlaces code) 0) := nth_get (by omega)
      have hx2b := places_bd code _ (List.mem_of_getElem? hx2)
      have hx5 : ([⟨#[105, 110, 107]⟩, ⟨#[115, 101, 97]⟩] : (List ByteArray))[(Int.toNat (Int.tmod (nth (specDrawPlaces code) 0) 2))]? = some (nth ([⟨#[105, 110, 107]⟩, ⟨#[115, 101, 97]⟩] : (List ByteArray)) (Int.toNat (Int.tmod (nth (specDrawPlaces code) 0) 2))) := nth_get (by simp only [List.length_cons, List.length_nil]; omega)
      refine rd' tt_ok tt_mx [] [15] [(4, [.o 1920 ((((specCreateFile s0 (specSetAttr (0, 0, false, 0, []) ⟨#[110]⟩ (specStringValue (nth ([⟨#[105, 110, 107]⟩, ⟨#[115, 101, 97]⟩] : (List ByteArray)) (Int.toNat (Int.tmod (nth (specDrawPlaces code) 0) 2))))))).1).1), .o 1921 ((((specCreateFile s0 (specSetAttr (0, 0, false, 0, []) ⟨#[110]⟩ (specStringValue (nth ([⟨#[105, 110, 107]⟩, ⟨#[115, 101, 97]⟩] : (List ByteArray)) (Int.toNat (Int.tmod (nth (specDrawPlaces code) 0) 2))))))).1).2.1), .i ((((specCreateFile s0 (specSetAttr (0, 0, false, 0, []) ⟨#[110]⟩ (specStringValue (nth ([⟨#[105, 110, 107]⟩, ⟨#[115, 101, 97]⟩] : (List ByteArray)) (Int.toNat (Int.tmod (nth (specDrawPlaces code) 0) 2))))))).1).2.2)])] [4] [(4, .rowE [.i (nth (specDrawPlaces code) 0)]), (7, .rowE [.s (nth ([⟨#[105, 110, 107]⟩, ⟨#[115, 101, 97]⟩] : (List ByteArray)) (Int.toNat (Int.tmod (nth (specDrawPlaces code) 0) 2)))]), (9, .val (.a [.i ((specStringValue (nth ([⟨#[105, 110, 107]⟩, ⟨#[115, 101, 97]⟩] : (List ByteArray)) (Int.toNat (Int.tmod (nth (specDrawPlaces code) 0) 2)))).1), .i ((specStringValue (nth ([⟨#[105, 110, 107]⟩, ⟨#[115, 101, 97]⟩] : (List ByteArray)) (Int.toNat (Int.tmod (nth (specDrawPlaces code) 0) 2)))).2.1), .s ((specStringValue (nth ([⟨#[105, 110, 107]⟩, ⟨#[115, 101, 97]⟩] : (List ByteArray)) (Int.toNat (Int.tmod (nth (specDrawPlaces code) 0) 2)))).2.2)])), (10, .val (.a [.i ((specSetAttr (0, 0, false, 0, []) ⟨#[110]⟩ (specStringValue (nth ([⟨#[105, 110, 107]⟩, ⟨#[115, 101, 97]⟩] : (List ByteArray)) (Int.toNat (Int.tmod (nth (specDrawPlaces code) 0) 2))))).1), .i ((specSetAttr (0, 0, false, 0, []) ⟨#[110]⟩ (specStringValue (nth ([⟨#[105, 110, 107]⟩, ⟨#[115, 101, 97]⟩] : (List ByteArray)) (Int.toNat (Int.tmod (nth (specDrawPlaces code) 0) 2))))).2.1), .b ((specSetAttr (0, 0, false, 0, []) ⟨#[110]⟩ (specStringValue (nth ([⟨#[105, 110, 107]⟩, ⟨#[115, 101, 97]⟩] : (List ByteArray)) (Int.toNat (Int.tmod (nth (specDrawPlaces code) 0) 2))))).2.2.1), .i ((specSetAttr (0, 0, false, 0, []) ⟨#[110]⟩ (specStringValue (nth ([⟨#[105, 110, 107]⟩, ⟨#[115, 101, 97]⟩] : (List ByteArray)) (Int.toNat (Int.tmod (nth (specDrawPlaces code) 0) 2))))).2.2.2.1), .o 0 ((specSetAttr (0, 0, false, 0, []) ⟨#[110]⟩ (specStringValue (nth ([⟨#[105, 110, 107]⟩, ⟨#[115, 101, 97]⟩] : (List ByteArray)) (Int.toNat (Int.tmod (nth (specDrawPlaces code) 0) 2))))).2.2.2.2)])), (11, .val (.tup [(true, [.o 0 ((((specCreateFile s0 (specSetAttr (0, 0, false, 0, []) ⟨#[110]⟩ (specStringValue (nth ([⟨#[105, 110, 107]⟩, ⟨#[115, 101, 97]⟩] : (List ByteArray)) (Int.toNat (Int.tmod (nth (specDrawPlaces code) 0) 2))))))).1).1), .o 1 ((((specCreateFile s0 (specSetAttr (0, 0, false, 0, []) ⟨#[110]⟩ (specStringValue (nth ([⟨#[105, 110, 107]⟩, ⟨#[115, 101, 97]⟩] : (List ByteArray)) (Int.toNat (Int.tmod (nth (specDrawPlaces code) 0) 2))))))).1).2.1), .i ((((specCreateFile s0 (specSetAttr (0, 0, false, 0, []) ⟨#[110]⟩ (specStringValue (nth ([⟨#[105, 110, 107]⟩, ⟨#[115, 101, 97]⟩] : (List ByteArray)) (Int.toNat (Int.tmod (nth (specDrawPlaces code) 0) 2))))))).1).2.2)]), (false, [.i (((specCreateFile s0 (specSetAttr (0, 0, false, 0, []) ⟨#[110]⟩ (specStringValue (nth ([⟨#[105, 110, 107]⟩, ⟨#[115, 101, 97]⟩] : (List ByteArray)) (Int.toNat (Int.tmod (nth (specDrawPlaces code) 0) 2))))))).2.1)]), (false, [.b (((specCreateFile s0 (specSetAttr (0, 0, false, 0, []) ⟨#[110]⟩ (specStringValue (nth ([⟨#[105, 110, 107]⟩, ⟨#[115, 101, 97]⟩] : (List ByteArray)) (Int.toNat (Int.tmod (nth (specDrawPlaces code) 0) 2))))))).2.2)])]))] (o2 (ob_elem (el_of (i := 0) (by omega) rfl hx2)) (o2 (ob_nz (n := 2) (by omega)) (o2 (ob_inr (k := .i64) (n := Int.tmod (nth (specDrawPlaces code) 0) 2) (inr_rem0 (by omega))) (o2 (ob_elem (el_of (i := Int.tmod (nth (specDrawPlaces code) 0) 2) (by omega) rfl hx5)) (o2 (ob_call (specStringValue_a (nth ([⟨#[105, 110, 107]⟩, ⟨#[115, 101, 97]⟩] : (List ByteArray)) (Int.toNat (Int.tmod (nth (specDrawPlaces code) 0) 2))))) (o2 (ob_call (specSetAttr_a (0, 0, false, 0, []) ⟨#[110]⟩ (specStringValue (nth ([⟨#[105, 110, 107]⟩, ⟨#[115, 101, 97]⟩] : (List ByteArray)) (Int.toNat (Int.tmod (nth (specDrawPlaces code) 0) 2)))) (by first | omega | (simp; done) | (simp; omega)))) (o1 (ob_call (specCreateFile_a s0 (specSetAttr (0, 0, false, 0, []) ⟨#[110]⟩ (specStringValue (nth ([⟨#[105, 110, 107]⟩, ⟨#[115, 101, 97]⟩] : (List ByteArray)) (Int.toNat (Int.tmod (nth (specDrawPlaces code) 0) 2)))))))))))))) ?_
      refine rk tt_ok [(5, .i ((k0 + 1 : Nat) : Int))] [5] [] [] [(1, .val (.i ((k0 + 1 : Nat) : Int)))] (o1 (ob_eq (av_i (wrap_succ k0 (by omega))))) ?_
      exact Exists.intro (((specCreateFile s0 (specSetAttr (0, 0, false, 0, []) ⟨#[110]⟩ (specStringValue (nth ([⟨#[105, 110, 107]⟩, ⟨#[115, 101, 97]⟩] : (List ByteArray)) (Int.toNat (Int.tmod (nth (specDrawPlaces code) 0) 2))))))).1) (And.intro (weak_sf [(1920, 147204), (1921, 147205)] (by kernel_rfl)) (forN_next hk0 (rfl) hI0))
    ·
      refine awp_seq ?_
      refine awp_seq ?_
      refine rk tt_ok [(15, .b false)] [] [] [] [(1, .val (.b false))] (o1 (ob_eq (av_bool (decide_eq_false (p := ((k0 : Nat) : Int) < (3 : Int)) (by omega))))) ?_
      refine ckF ?_
      refine awp_exit ?_
      exact Exists.intro s0 (And.intro (weak_sf [(147204, 147354), (147205, 147355)] (by kernel_rfl)) (forN_end hk0 (rfl) hI0))
    ·
      refine awp_seq ?_
      refine wdT 3 0 (.own true 704) (specDrawPlaces code) (fun hw7 => ?_)
      have hl8 : List.length (specDrawPlaces code) ≤ 1073741824 := wide_len (hw7)
      have hx6 : (specDrawPlaces code)[0]? = some (nth (specDrawPlaces code) 0) := nth_get (by omega)
      have hx6b := places_bd code _ (List.mem_of_getElem? hx6)
      have hx9 : ([⟨#[105, 110, 107]⟩, ⟨#[115, 101, 97]⟩] : (List ByteArray))[(Int.toNat (Int.tmod (nth (specDrawPlaces code) 0) 2))]? = some (nth ([⟨#[105, 110, 107]⟩, ⟨#[115, 101, 97]⟩] : (List ByteArray)) (Int.toNat (Int.tmod (nth (specDrawPlaces code) 0) 2))) := nth_get (by simp only [List.length_cons, List.length_nil]; omega)
      refine rk tt_ok [(6, .s (nth ([⟨#[105, 110, 107]⟩, ⟨#[115, 101, 97]⟩] : (List ByteArray)) (Int.toNat (Int.tmod (nth (specDrawPlaces code) 0) 2))))] [3] [] [] [(2, .rowE [.i (nth (specDrawPlaces code) 0)]), (5, .rowE [.s (nth ([⟨#[105, 110, 107]⟩, ⟨#[115, 101, 97]⟩] : (List ByteArray)) (Int.toNat (Int.tmod (nth (specDrawPlaces code) 0) 2)))])] (o2 (ob_elem (el_of (i := 0) (by omega) rfl hx6)) (o2 (ob_nz (n := 2) (by omega)) (o2 (ob_inr (k := .i64) (n := Int.tmod (nth (specDrawPlaces code) 0) 2) (inr_rem0 (by omega))) (o1 (ob_elem (el_of (i := Int.tmod (nth (specDrawPlaces code) 0) 2) (by omega) rfl hx9)))))) ?_
      refine awp_seq ?_
      refine rk tt_ok [(7, .o 2752 (implEntryNames y0 [3, 1, 2]))] [] [] [] [(2, .val (.o 0 (implEntryNames y0 [3, 1, 2])))] (o1 (ob_call (implEntryNames_a y0 [3, 1, 2] (by intro x hx; simp at hx; omega) (first_size hD0)))) ?_
      refine awp_seq ?_
      refine jn [(2, .b ((lawssameTexts (implEntryNames y0 [3, 1, 2]) [(nth ([⟨#[105, 110, 107]⟩, ⟨#[115, 101, 97]⟩] : (List ByteArray)) (Int.toNat (Int.tmod (nth (specDrawPlaces code) 0) 2))), ((nth ([⟨#[105, 110, 107]⟩, ⟨#[115, 101, 97]⟩] : (List ByteArray)) (Int.toNat (Int.tmod (nth (specDrawPlaces code) 0) 2))) ++ (⟨#[46, 49]⟩ : ByteArray)), ((nth ([⟨#[105, 110, 107]⟩, ⟨#[115, 101, 97]⟩] : (List ByteArray)) (Int.toNat (Int.tmod (nth (specDrawPlaces code) 0) 2))) ++ (⟨#[46, 50]⟩ : ByteArray))]) && (lawssameInts (implDisambiguatedIDs y0 [3, 1, 2]) [1, 2])))] [2, 4, 6, 7] [] [4] (lawssameTexts (implEntryNames y0 [3, 1, 2]) [(nth ([⟨#[105, 110, 107]⟩, ⟨#[115, 101, 97]⟩] : (List ByteArray)) (Int.toNat (Int.tmod (nth (specDrawPlaces code) 0) 2))), ((nth ([⟨#[105, 110, 107]⟩, ⟨#[115, 101, 97]⟩] : (List ByteArray)) (Int.toNat (Int.tmod (nth (specDrawPlaces code) 0) 2))) ++ (⟨#[46, 49]⟩ : ByteArray)), ((nth ([⟨#[105, 110, 107]⟩, ⟨#[115, 101, 97]⟩] : (List ByteArray)) (Int.toNat (Int.tmod (nth (specDrawPlaces code) 0) 2))) ++ (⟨#[46, 50]⟩ : ByteArray))]) (fun h10 => ?_) (fun h10 => ?_) ?_
      ·
        refine rk tt_ok [(2, .b (lawssameInts (implDisambiguatedIDs y0 [3, 1, 2]) [1, 2]))] [2, 4, 6, 7] [] [4] [(7, .val (.b true)), (11, .val (.o 0 (implDisambiguatedIDs y0 [3, 1, 2]))), (13, .val (.b (lawssameInts (implDisambiguatedIDs y0 [3, 1, 2]) [1, 2])))] (o2 (ob_slen (n := (ByteArray.size (nth ([⟨#[105, 110, 107]⟩, ⟨#[115, 101, 97]⟩] : (List ByteArray)) (Int.toNat (Int.tmod (nth (specDrawPlaces code) 0) 2))) + ByteArray.size (⟨#[46, 49]⟩ : ByteArray))) (by have hq0 : ByteArray.size (⟨#[105, 110, 107]⟩ : ByteArray) = 3 := rfl; have hq1 : ByteArray.size (⟨#[115, 101, 97]⟩ : ByteArray) = 3 := rfl; have hq2 : ByteArray.size (⟨#[46, 49]⟩ : ByteArray) = 2 := rfl; unfold maxLen; first | omega | (simp only [ByteArray.size_append]; omega))) (o2 (ob_slen (n := (ByteArray.size (nth ([⟨#[105, 110, 107]⟩, ⟨#[115, 101, 97]⟩] : (List ByteArray)) (Int.toNat (Int.tmod (nth (specDrawPlaces code) 0) 2))) + ByteArray.size (⟨#[46, 50]⟩ : ByteArray))) (by have hq0 : ByteArray.size (⟨#[105, 110, 107]⟩ : ByteArray) = 3 := rfl; have hq1 : ByteArray.size (⟨#[115, 101, 97]⟩ : ByteArray) = 3 := rfl; have hq2 : ByteArray.size (⟨#[46, 50]⟩ : ByteArray) = 2 := rfl; unfold maxLen; first | omega | (simp only [ByteArray.size_append]; omega))) (o2 (ob_call (cb h10 (lawssameTexts_a (implEntryNames y0 [3, 1, 2]) [(nth ([⟨#[105, 110, 107]⟩, ⟨#[115, 101, 97]⟩] : (List ByteArray)) (Int.toNat (Int.tmod (nth (specDrawPlaces code) 0) 2))), ((nth ([⟨#[105, 110, 107]⟩, ⟨#[115, 101, 97]⟩] : (List ByteArray)) (Int.toNat (Int.tmod (nth (specDrawPlaces code) 0) 2))) ++ (⟨#[46, 49]⟩ : ByteArray)), ((nth ([⟨#[105, 110, 107]⟩, ⟨#[115, 101, 97]⟩] : (List ByteArray)) (Int.toNat (Int.tmod (nth (specDrawPlaces code) 0) 2))) ++ (⟨#[46, 50]⟩ : ByteArray))]))) (o2 (ob_call (implDisambiguatedIDs_a y0 [3, 1, 2] (by intro x hx; simp at hx; omega) (first_size hD0))) (o1 (ob_call (lawssameInts_a (implDisambiguatedIDs y0 [3, 1, 2]) [1, 2]))))))) ?_
        exact ⟨rfl, weak_fit (by rw [h10]; first | done | kernel_rfl)⟩
      ·
        refine rk tt_ok [] [4, 6, 7] [] [4] [(7, .val (.b false))] (o2 (ob_slen (n := (ByteArray.size (nth ([⟨#[105, 110, 107]⟩, ⟨#[115, 101, 97]⟩] : (List ByteArray)) (Int.toNat (Int.tmod (nth (specDrawPlaces code) 0) 2))) + ByteArray.size (⟨#[46, 49]⟩ : ByteArray))) (by have hq0 : ByteArray.size (⟨#[105, 110, 107]⟩ : ByteArray) = 3 := rfl; have hq1 : ByteArray.size (⟨#[115, 101, 97]⟩ : ByteArray) = 3 := rfl; have hq2 : ByteArray.size (⟨#[46, 49]⟩ : ByteArray) = 2 := rfl; unfold maxLen; first | omega | (simp only [ByteArray.size_append]; omega))) (o2 (ob_slen (n := (ByteArray.size (nth ([⟨#[105, 110, 107]⟩, ⟨#[115, 101, 97]⟩] : (List ByteArray)) (Int.toNat (Int.tmod (nth (specDrawPlaces code) 0) 2))) + ByteArray.size (⟨#[46, 50]⟩ : ByteArray))) (by have hq0 : ByteArray.size (⟨#[105, 110, 107]⟩ : ByteArray) = 3 := rfl; have hq1 : ByteArray.size (⟨#[115, 101, 97]⟩ : ByteArray) = 3 := rfl; have hq2 : ByteArray.size (⟨#[46, 50]⟩ : ByteArray) = 2 := rfl; unfold maxLen; first | omega | (simp only [ByteArray.size_append]; omega))) (o1 (ob_call (cb h10 (lawssameTexts_a (implEntryNames y0 [3, 1, 2]) [(nth ([⟨#[105, 110, 107]⟩, ⟨#[115, 101, 97]⟩] : (List ByteArray)) (Int.toNat (Int.tmod (nth (specDrawPlaces code) 0) 2))), ((nth ([⟨#[105, 110, 107]⟩, ⟨#[115, 101, 97]⟩] : (List ByteArray)) (Int.toNat (Int.tmod (nth (specDrawPlaces code) 0) 2))) ++ (⟨#[46, 49]⟩ : ByteArray)), ((nth ([⟨#[105, 110, 107]⟩, ⟨#[115, 101, 97]⟩] : (List ByteArray)) (Int.toNat (Int.tmod (nth (specDrawPlaces code) 0) 2))) ++ (⟨#[46, 50]⟩ : ByteArray))])))))) ?_
        exact ⟨rfl, weak_fit (by rw [h10]; first | done | kernel_rfl)⟩
      refine awp_ret ?_
      exact pret [] (congrArg (fun z => (.b z : AV)) (show lawsFnFirstName code = ((lawssameTexts (implEntryNames y0 [3, 1, 2]) [(nth ([⟨#[105, 110, 107]⟩, ⟨#[115, 101, 97]⟩] : (List ByteArray)) (Int.toNat (Int.tmod (nth (specDrawPlaces code) 0) 2))), ((nth ([⟨#[105, 110, 107]⟩, ⟨#[115, 101, 97]⟩] : (List ByteArray)) (Int.toNat (Int.tmod (nth (specDrawPlaces code) 0) 2))) ++ (⟨#[46, 49]⟩ : ByteArray)), ((nth ([⟨#[105, 110, 107]⟩, ⟨#[115, 101, 97]⟩] : (List ByteArray)) (Int.toNat (Int.tmod (nth (specDrawPlaces code) 0) 2))) ++ (⟨#[46, 50]⟩ : ByteArray))]) && (lawssameInts (implDisambiguatedIDs y0 [3, 1, 2]) [1, 2])) from bif_f h1 (on_b hD0 (rfl))).symm)
end Go.Proofs.YtceekipigpcilaaDoor
