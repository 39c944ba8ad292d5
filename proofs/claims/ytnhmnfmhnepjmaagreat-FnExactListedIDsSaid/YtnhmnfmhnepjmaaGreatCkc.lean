/- What functions compute, and that they do (printed by am2.py): each function as a Lean function, then its contract. -/
import Derived.Test.YtnhmnfmhnepjmaaGreatIsb
import Derived.KernelRfl
set_option linter.unusedVariables false
set_option linter.unusedSimpArgs false
namespace Go.Proofs.YtnhmnfmhnepjmaaGreat
open Go.RowKit
open GoE (enc wide)
def implGetAttr_f0 (name : ByteArray) (_ : Nat) (a0 : AttrD) (_ : Unit) : Rd (ValueD) (Unit) (Unit) := (bif (a0.1.toList == name.toList) then (.ret a0.2) else (.next ()))
def implGetAttr_e0 (_ : Nat) (_ : Unit) : Unit := ()
def implGetAttr (f : FileD) (name : ByteArray) : ValueD := (Out.on (forL (implGetAttr_f0 name) implGetAttr_e0 f.2.2.2.2 0 ()) (fun _ => (0, 0, ⟨#[]⟩)))
theorem implGetAttr_a (f : FileD) (name : ByteArray) : ACalls Tryz.prog 230 [.a [.i f.1, .i f.2.1, .b f.2.2.1, .i f.2.2.2.1, .h f.2.2.2.2], .s name] (.a [.i ((implGetAttr f name).1), .i ((implGetAttr f name).2.1), .s ((implGetAttr f name).2.2)]) := by
 refine acalls_of (tt := tt) tt_ok Tryz.func230 (fn := Tryz.f230) rfl (by unfold FnOk; kernel_rfl) (Nat.le_of_ble_eq_true rfl) fun w0 F0 => ?_
 refine awp_seq ?_
 refine rk tt_ok [(2, .p 2 0), (4, .p 4 0)] [0] [(2, [.i f.1, .i f.2.1, .b f.2.2.1, .i f.2.2.2.1, .h f.2.2.2.2]), (4, [.i 0, .i 0, .s ⟨#[]⟩])] [] [] (o0) ?_
 refine awp_seq ?_
 refine awp_seq ?_
 refine rk tt_ok [(8, .h f.2.2.2.2), (9, .i (f.2.2.2.2.length : Int)), (10, .i 0)] [2] [] [2] [(2, .val (.i (f.2.2.2.2.length : Int)))] (o1 (ob_eq (av_len f.2.2.2.2))) ?_
 refine wdT 8 0 .sh f.2.2.2.2 (fun hw1 => ?_)
 have hl2 : List.length f.2.2.2.2 ≤ 1073741824 := wide_len (hw1)
 refine blk (fun (k0 : Nat) (s0 : Unit) => [(10, .i ((k0 : Nat) : Int))]) [10] (fun k0 s0 => []) [] (fun (y0 : Unit) => []) [1, 8, 9, 10] (fun y0 => []) [] (fun (k0 : Nat) (s0 : Unit) => (forL (implGetAttr_f0 name) implGetAttr_e0 f.2.2.2.2 0 ()) = forL (implGetAttr_f0 name) implGetAttr_e0 (List.drop k0 f.2.2.2.2) k0 s0) (fun (y0 : Unit) => (forL (implGetAttr_f0 name) implGetAttr_e0 f.2.2.2.2 0 ()) = .brk y0) f.2.2.2.2.length () (weak_fit (by kernel_rfl)) rfl (fun k0 s0 hk0 hI0 => ?_) (fun k0 s0 hk0 hI0 => ?_) (fun y0 hD0 => ?_)
 ·
  obtain ⟨a0, hx0⟩ := get_some (l := f.2.2.2.2) (i := k0) hk0
  refine awp_seq ?_
  refine rk tt_ok [(11, .b true)] [] [] [] [(0, .val (.b true))] (o1 (ob_eq (av_bool (decide_eq_true (p := ((k0 : Nat) : Int) < (f.2.2.2.2.length : Int)) (by omega))))) ?_
  refine awp_seq ?_
  refine ckT ?_
  refine awp_skip ?_
  refine awp_seq ?_
  refine awp_block ?_
  refine awp_seq ?_
  refine rk tt_ok [(6, .p 6 0)] [11] [(6, [.s a0.1, .i a0.2.1, .i a0.2.2.1, .s a0.2.2.2])] [] [(0, .row [.s a0.1, .i a0.2.1, .i a0.2.2.1, .s a0.2.2.2])] (o1 (ob_elem (el_of (i := ((k0 : Nat) : Int)) (by omega) rfl hx0))) ?_
  refine awp_seq ?_
  refine rk tt_ok [(17, .b (a0.1.toList == name.toList))] [] [] [] [] (o0) ?_
  refine ck (a0.1.toList == name.toList) (fun h3 => ?_) (fun h3 => ?_)
  ·
   refine awp_seq ?_
   refine rk tt_ok [] [6, 17] [(4, [.i a0.2.1, .i a0.2.2.1, .s a0.2.2.2])] [4, 6] [] (o0) ?_
   refine awp_ret ?_
   have hr4 : (forL (implGetAttr_f0 name) implGetAttr_e0 f.2.2.2.2 0 ()) = .ret a0.2 := forL_ret hx0 (bif_t h3 (rfl)) hI0
   exact pret [] (congrArg (fun z => (.a [.i z.1, .i z.2.1, .s z.2.2] : AV)) (show implGetAttr f name = a0.2 from on_r hr4).symm)
  ·
   refine awp_skip ?_
   refine rk tt_ok [(10, .i ((k0 + 1 : Nat) : Int))] [6, 10, 17] [] [6] [(0, .val (.i ((k0 + 1 : Nat) : Int)))] (o1 (ob_eq (av_i (wrap_succ k0 (by omega))))) ?_
   exact Exists.intro () (And.intro (weak_fit (by kernel_rfl)) (forL_next hx0 (bif_f h3 (rfl)) hI0))
 ·
  refine awp_seq ?_
  refine rk tt_ok [(11, .b false)] [] [] [] [(0, .val (.b false))] (o1 (ob_eq (av_bool (decide_eq_false (p := ((k0 : Nat) : Int) < (f.2.2.2.2.length : Int)) (by omega))))) ?_
  refine awp_seq ?_
  refine ckF ?_
  refine awp_exit ?_
  exact Exists.intro () (And.intro (weak_fit (by kernel_rfl)) (forL_end hk0 (rfl) hI0))
 ·
  refine awp_seq ?_
  refine rk tt_ok [] [] [] [] [] (o0) ?_
  refine awp_ret ?_
  exact pret [] (congrArg (fun z => (.a [.i z.1, .i z.2.1, .s z.2.2] : AV)) (show implGetAttr f name = (0, 0, ⟨#[]⟩) from on_b hD0 (rfl)).symm)
def implIntAttr (f : FileD) (name : ByteArray) : Int × Bool := (bif ((implGetAttr f name).1 != (1 : Int)) then (0, false) else ((implGetAttr f name).2.1, true))
theorem implIntAttr_a (f : FileD) (name : ByteArray) : ACalls Tryz.prog 231 [.a [.i f.1, .i f.2.1, .b f.2.2.1, .i f.2.2.2.1, .h f.2.2.2.2], .s name] (.tup [(false, [.i (((implIntAttr f name)).1)]), (false, [.b (((implIntAttr f name)).2)])]) := by
 refine acalls_of (tt := tt) tt_ok Tryz.func231 (fn := Tryz.f231) rfl (by unfold FnOk; kernel_rfl) (Nat.le_of_ble_eq_true rfl) fun w0 F0 => ?_
 refine awp_seq ?_
 refine rk tt_ok [(2, .p 2 0), (4, .i 0), (5, .b false)] [0] [(2, [.i f.1, .i f.2.1, .b f.2.2.1, .i f.2.2.2.1, .h f.2.2.2.2])] [] [] (o0) ?_
 refine awp_seq ?_
 refine rk tt_ok [(6, .p 6 0)] [1, 2] [(6, [.i ((implGetAttr f name).1), .i ((implGetAttr f name).2.1), .s ((implGetAttr f name).2.2)])] [2] [(2, .val (.a [.i ((implGetAttr f name).1), .i ((implGetAttr f name).2.1), .s ((implGetAttr f name).2.2)]))] (o1 (ob_call (implGetAttr_a f name))) ?_
 refine awp_seq ?_
 refine awp_seq ?_
 refine rk tt_ok [(12, .b ((implGetAttr f name).1 != (1 : Int)))] [] [] [] [] (o0) ?_
 refine ck ((implGetAttr f name).1 != (1 : Int)) (fun h1 => ?_) (fun h1 => ?_)
 ·
  refine awp_seq ?_
  refine rk tt_ok [] [12] [] [] [] (o0) ?_
  refine awp_ret ?_
  exact pret [] (congrArg (fun z => (.tup [(false, [.i z.1]), (false, [.b z.2])] : AV)) (show implIntAttr f name = (0, false) from bif_t h1 (rfl)).symm)
 ·
  refine awp_skip ?_
  refine awp_seq ?_
  refine rk tt_ok [(4, .i ((implGetAttr f name).2.1)), (5, .b true)] [4, 5, 6, 12] [] [6] [] (o0) ?_
  refine awp_ret ?_
  exact pret [] (congrArg (fun z => (.tup [(false, [.i z.1]), (false, [.b z.2])] : AV)) (show implIntAttr f name = ((implGetAttr f name).2.1, true) from bif_f h1 (rfl)).symm)
def implResultIDs_f0 (name : ByteArray) (_ : Nat) (a0 : ResultD) (_ : Unit) : Rd ((List Int)) (Unit) (Unit) := (bif (a0.1.toList == name.toList) then (.ret a0.2) else (.next ()))
def implResultIDs_e0 (_ : Nat) (_ : Unit) : Unit := ()
def implResultIDs (r : (List ResultD)) (name : ByteArray) : (List Int) := (Out.on (forL (implResultIDs_f0 name) implResultIDs_e0 r 0 ()) (fun _ => []))
theorem implResultIDs_a (r : (List ResultD)) (name : ByteArray) : ACalls Tryz.prog 104 [.h r, .s name] (.o 0 (implResultIDs r name)) := by
 refine acalls_of (tt := tt) tt_ok Tryz.func104 (fn := Tryz.f104) rfl (by unfold FnOk; kernel_rfl) (Nat.le_of_ble_eq_true rfl) fun w0 F0 => ?_
 refine awp_seq ?_
 refine rk tt_ok [(4, .e 0)] [] [] [] [] (o0) ?_
 refine awp_seq ?_
 refine awp_seq ?_
 refine rk tt_ok [(7, .h r), (8, .i (r.length : Int)), (9, .i 0)] [0] [] [] [(1, .val (.i (r.length : Int)))] (o1 (ob_eq (av_len r))) ?_
 refine wdT 7 0 .sh r (fun hw1 => ?_)
 have hl2 : List.length r ≤ 1073741824 := wide_len (hw1)
 refine blk (fun (k0 : Nat) (s0 : Unit) => [(9, .i ((k0 : Nat) : Int))]) [9] (fun k0 s0 => []) [] (fun (y0 : Unit) => []) [1, 7, 8, 9] (fun y0 => []) [] (fun (k0 : Nat) (s0 : Unit) => (forL (implResultIDs_f0 name) implResultIDs_e0 r 0 ()) = forL (implResultIDs_f0 name) implResultIDs_e0 (List.drop k0 r) k0 s0) (fun (y0 : Unit) => (forL (implResultIDs_f0 name) implResultIDs_e0 r 0 ()) = .brk y0) r.length () (weak_fit (by kernel_rfl)) rfl (fun k0 s0 hk0 hI0 => ?_) (fun k0 s0 hk0 hI0 => ?_) (fun y0 hD0 => ?_)
 ·
  obtain ⟨a0, hx0⟩ := get_some (l := r) (i := k0) hk0
  refine awp_seq ?_
  refine rk tt_ok [(10, .b true)] [] [] [] [(0, .val (.b true))] (o1 (ob_eq (av_bool (decide_eq_true (p := ((k0 : Nat) : Int) < (r.length : Int)) (by omega))))) ?_
  refine awp_seq ?_
  refine ckT ?_
  refine awp_skip ?_
  refine awp_seq ?_
  refine awp_block ?_
  refine awp_seq ?_
  refine rk tt_ok [(6, .p 6 0)] [10] [(6, [.s a0.1, .h a0.2])] [] [(0, .row [.s a0.1, .h a0.2])] (o1 (ob_elem (el_of (i := ((k0 : Nat) : Int)) (by omega) rfl hx0))) ?_
  refine awp_seq ?_
  refine rk tt_ok [(16, .b (a0.1.toList == name.toList))] [] [] [] [] (o0) ?_
  refine ck (a0.1.toList == name.toList) (fun h3 => ?_) (fun h3 => ?_)
  ·
   refine awp_seq ?_
   refine rk tt_ok [(4, .o 1216 a0.2)] [4, 6, 16] [] [6] [(2, .val (.o 0 a0.2))] (o1 (ob_call (cloneInt_a a0.2))) ?_
   refine awp_ret ?_
   have hr4 : (forL (implResultIDs_f0 name) implResultIDs_e0 r 0 ()) = .ret a0.2 := forL_ret hx0 (bif_t h3 (rfl)) hI0
   exact pret [] (congrArg (fun z => (.o 0 z : AV)) (show implResultIDs r name = a0.2 from on_r hr4).symm)
  ·
   refine awp_skip ?_
   refine rk tt_ok [(9, .i ((k0 + 1 : Nat) : Int))] [6, 9, 16] [] [6] [(0, .val (.i ((k0 + 1 : Nat) : Int)))] (o1 (ob_eq (av_i (wrap_succ k0 (by omega))))) ?_
   exact Exists.intro () (And.intro (weak_fit (by kernel_rfl)) (forL_next hx0 (bif_f h3 (rfl)) hI0))
 ·
  refine awp_seq ?_
  refine rk tt_ok [(10, .b false)] [] [] [] [(0, .val (.b false))] (o1 (ob_eq (av_bool (decide_eq_false (p := ((k0 : Nat) : Int) < (r.length : Int)) (by omega))))) ?_
  refine awp_seq ?_
  refine ckF ?_
  refine awp_exit ?_
  exact Exists.intro () (And.intro (weak_fit (by kernel_rfl)) (forL_end hk0 (rfl) hI0))
 ·
  refine awp_seq ?_
  refine rk tt_ok [] [] [] [] [] (o0) ?_
  refine opn [(false, 4, 0, true, 384000, 1)] ?_
  refine awp_ret ?_
  exact pret [] (congrArg (fun z => (.o 0 z : AV)) (show implResultIDs r name = [] from on_b hD0 (rfl)).symm)
def slicesIndex_int_f0 (v : Int) (k0 : Nat) (a0 : Int) (_ : Unit) : Rd (Int) (Unit) (Unit) := (bif (v == a0) then (.ret ((k0 : Nat) : Int)) else (.next ()))
def slicesIndex_int_e0 (_ : Nat) (_ : Unit) : Unit := ()
def slicesIndex_int (s_ : (List Int)) (v : Int) : Int := (Out.on (forL (slicesIndex_int_f0 v) slicesIndex_int_e0 s_ 0 ()) (fun _ => -1))
theorem slicesIndex_int_a (s_ : (List Int)) (v : Int) : ACalls Tryz.prog 191 [.h s_, .i v] (.i (slicesIndex_int s_ v)) := by
 refine acalls_of (tt := tt) tt_ok Tryz.func191 (fn := Tryz.f191) rfl (by unfold FnOk; kernel_rfl) (Nat.le_of_ble_eq_true rfl) fun w0 F0 => ?_
 refine awp_seq ?_
 refine rk tt_ok [(4, .i 0)] [] [] [] [] (o0) ?_
 refine awp_seq ?_
 refine awp_seq ?_
 refine rk tt_ok [(7, .i (s_.length : Int)), (8, .i 0)] [] [] [] [(1, .val (.i (s_.length : Int)))] (o1 (ob_eq (av_len s_))) ?_
 refine wdT 0 0 .sh s_ (fun hw1 => ?_)
 have hl2 : List.length s_ ≤ 1073741824 := wide_len (hw1)
 refine blk (fun (k0 : Nat) (s0 : Unit) => [(8, .i ((k0 : Nat) : Int))]) [8] (fun k0 s0 => []) [] (fun (y0 : Unit) => []) [0, 1, 7, 8] (fun y0 => []) [] (fun (k0 : Nat) (s0 : Unit) => (forL (slicesIndex_int_f0 v) slicesIndex_int_e0 s_ 0 ()) = forL (slicesIndex_int_f0 v) slicesIndex_int_e0 (List.drop k0 s_) k0 s0) (fun (y0 : Unit) => (forL (slicesIndex_int_f0 v) slicesIndex_int_e0 s_ 0 ()) = .brk y0) s_.length () (weak_fit (by kernel_rfl)) rfl (fun k0 s0 hk0 hI0 => ?_) (fun k0 s0 hk0 hI0 => ?_) (fun y0 hD0 => ?_)
 ·
  obtain ⟨a0, hx0⟩ := get_some (l := s_) (i := k0) hk0
  refine awp_seq ?_
  refine rk tt_ok [(9, .b true)] [] [] [] [(0, .val (.b true))] (o1 (ob_eq (av_bool (decide_eq_true (p := ((k0 : Nat) : Int) < (s_.length : Int)) (by omega))))) ?_
  refine awp_seq ?_
  refine ckT ?_
  refine awp_skip ?_
  refine awp_seq ?_
  refine awp_block ?_
  refine awp_seq ?_
  refine rk tt_ok [(5, .i ((k0 : Nat) : Int))] [9] [] [] [] (o0) ?_
  refine awp_seq ?_
  refine rk tt_ok [(16, .b (v == a0))] [] [] [] [(3, .row [.i a0])] (o1 (ob_elem (el_of (i := ((k0 : Nat) : Int)) (by omega) rfl hx0))) ?_
  refine ck (v == a0) (fun h3 => ?_) (fun h3 => ?_)
  ·
   refine awp_seq ?_
   refine rk tt_ok [(4, .i ((k0 : Nat) : Int))] [4, 5, 16] [] [] [] (o0) ?_
   refine awp_ret ?_
   have hr4 : (forL (slicesIndex_int_f0 v) slicesIndex_int_e0 s_ 0 ()) = .ret ((k0 : Nat) : Int) := forL_ret hx0 (bif_t h3 (rfl)) hI0
   exact pret [] (congrArg (fun z => (.i z : AV)) (show slicesIndex_int s_ v = ((k0 : Nat) : Int) from on_r hr4).symm)
  ·
   have h3d := ne_of_beq h3
   refine awp_skip ?_
   refine rk tt_ok [(8, .i ((k0 + 1 : Nat) : Int))] [5, 8, 16] [] [] [(0, .val (.i ((k0 + 1 : Nat) : Int)))] (o1 (ob_eq (av_i (wrap_succ k0 (by omega))))) ?_
   exact Exists.intro () (And.intro (weak_fit (by kernel_rfl)) (forL_next hx0 (bif_f h3 (rfl)) hI0))
 ·
  refine awp_seq ?_
  refine rk tt_ok [(9, .b false)] [] [] [] [(0, .val (.b false))] (o1 (ob_eq (av_bool (decide_eq_false (p := ((k0 : Nat) : Int) < (s_.length : Int)) (by omega))))) ?_
  refine awp_seq ?_
  refine ckF ?_
  refine awp_exit ?_
  exact Exists.intro () (And.intro (weak_fit (by kernel_rfl)) (forL_end hk0 (rfl) hI0))
 ·
  refine awp_seq ?_
  refine rk tt_ok [(4, .i (-1))] [4] [] [] [] (o0) ?_
  refine awp_ret ?_
  exact pret [] (congrArg (fun z => (.i z : AV)) (show slicesIndex_int s_ v = -1 from on_b hD0 (rfl)).symm)
def slicesContains_int (s_ : (List Int)) (v : Int) : Bool := decide ((slicesIndex_int s_ v) ≥ (0 : Int))
theorem slicesContains_int_a (s_ : (List Int)) (v : Int) : ACalls Tryz.prog 156 [.h s_, .i v] (.b (slicesContains_int s_ v)) := by
 refine acalls_of (tt := tt) tt_ok Tryz.func156 (fn := Tryz.f156) rfl (by unfold FnOk; kernel_rfl) (Nat.le_of_ble_eq_true rfl) fun w0 F0 => ?_
 refine awp_seq ?_
 refine rk tt_ok [(4, .b false)] [] [] [] [] (o0) ?_
 refine awp_seq ?_
 refine rk tt_ok [(4, .b (decide ((slicesIndex_int s_ v) ≥ (0 : Int))))] [0, 1, 4] [] [] [(2, .val (.i (slicesIndex_int s_ v)))] (o1 (ob_call (slicesIndex_int_a s_ v))) ?_
 refine awp_ret ?_
 exact pret [] (congrArg (fun z => (.b z : AV)) (show slicesContains_int s_ v = decide ((slicesIndex_int s_ v) ≥ (0 : Int)) from rfl).symm)
def implContainsID (ids : (List Int)) (id : Int) : Bool := (slicesContains_int ids id)
theorem implContainsID_a (ids : (List Int)) (id : Int) : ACalls Tryz.prog 232 [.h ids, .i id] (.b (implContainsID ids id)) := by
 refine acalls_of (tt := tt) tt_ok Tryz.func232 (fn := Tryz.f232) rfl (by unfold FnOk; kernel_rfl) (Nat.le_of_ble_eq_true rfl) fun w0 F0 => ?_
 refine awp_seq ?_
 refine rk tt_ok [(4, .b false)] [] [] [] [] (o0) ?_
 refine awp_seq ?_
 refine rk tt_ok [(4, .b (slicesContains_int ids id))] [0, 1, 4] [] [] [(2, .val (.b (slicesContains_int ids id)))] (o1 (ob_call (slicesContains_int_a ids id))) ?_
 refine awp_ret ?_
 exact pret [] (congrArg (fun z => (.b z : AV)) (show implContainsID ids id = (slicesContains_int ids id) from rfl).symm)
def implmatchesAt (n_ : Nat) (q : (List NodeD)) (at_ : Int) (f : FileD) (r : (List ResultD)) : Bool := match n_ with
 | 0 => default
 | n_ + 1 => (bif ((nth q (Int.toNat at_)).1 == (2 : Int)) then ((implGetAttr f ((nth q (Int.toNat at_)).2.2.2.1)).1 != (0 : Int)) else (bif ((nth q (Int.toNat at_)).1 == (3 : Int)) then (((implGetAttr f ((nth q (Int.toNat at_)).2.2.2.1)).1 == (nth q (Int.toNat at_)).2.2.2.2.1) && (((implGetAttr f ((nth q (Int.toNat at_)).2.2.2.1)).2.1 == (nth q (Int.toNat at_)).2.2.2.2.2.1) && ((((implGetAttr f ((nth q (Int.toNat at_)).2.2.2.1)).2.2).toList == ((nth q (Int.toNat at_)).2.2.2.2.2.2).toList) && true))) else (bif ((nth q (Int.toNat at_)).1 == (4 : Int)) then (((implIntAttr f ((nth q (Int.toNat at_)).2.2.2.1))).2 && decide (((implIntAttr f ((nth q (Int.toNat at_)).2.2.2.1))).1 < (nth q (Int.toNat at_)).2.2.2.2.2.1)) else (bif ((nth q (Int.toNat at_)).1 == (5 : Int)) then (!(implmatchesAt n_ q ((nth q (Int.toNat at_)).2.1) f r)) else (bif ((nth q (Int.toNat at_)).1 == (6 : Int)) then ((implmatchesAt n_ q ((nth q (Int.toNat at_)).2.1) f r) && (implmatchesAt n_ q ((nth q (Int.toNat at_)).2.2.1) f r)) else (bif ((nth q (Int.toNat at_)).1 == (7 : Int)) then ((implmatchesAt n_ q ((nth q (Int.toNat at_)).2.1) f r) || (implmatchesAt n_ q ((nth q (Int.toNat at_)).2.2.1) f r)) else (bif ((nth q (Int.toNat at_)).1 == (8 : Int)) then (implContainsID (implResultIDs r ((nth q (Int.toNat at_)).2.2.2.1)) f.1) else (bif ((nth q (Int.toNat at_)).1 == (9 : Int)) then ((f.2.2.2.1 != (0 : Int)) && (implContainsID (implResultIDs r ((nth q (Int.toNat at_)).2.2.2.1)) f.2.2.2.1)) else true))))))))
theorem implmatchesAt_a : ∀ (n_ : Nat) (q : (List NodeD)) (at_ : Int) (f : FileD) (r : (List ResultD)) (hv : implIsValidQuery q = true) (ha : 0 ≤ at_) (hb : at_ < (q.length : Int)) (hn : at_ < ((n_ : Nat) : Int)), ACalls Tryz.prog 218 [.h q, .i at_, .a [.i f.1, .i f.2.1, .b f.2.2.1, .i f.2.2.2.1, .h f.2.2.2.2], .h r] (.b (implmatchesAt n_ q at_ f r)) := by
 intro n_
 induction n_ with
 | zero => intro q at_ f r hv ha hb hn; exact (by omega : False).elim
 | succ n_ ih =>
  intro q at_ f r hv ha hb hn
  refine acalls_of (tt := tt) tt_ok Tryz.func218 (fn := Tryz.f218) rfl (by unfold FnOk; kernel_rfl) (Nat.le_of_ble_eq_true rfl) fun w0 F0 => ?_
  refine awp_seq ?_
  refine rk tt_ok [(6, .p 6 0), (8, .b false)] [2] [(6, [.i f.1, .i f.2.1, .b f.2.2.1, .i f.2.2.2.1, .h f.2.2.2.2])] [] [] (o0) ?_
  refine awp_seq ?_
  refine wdT 0 0 .sh q (fun hw2 => ?_)
  have hl3 : List.length q ≤ 1073741824 := wide_len (hw2)
  have hx1 : q[(Int.toNat at_)]? = some (nth q (Int.toNat at_)) := nth_get (by omega)
  refine rk tt_ok [(9, .p 9 0)] [1] [(9, [.i ((nth q (Int.toNat at_)).1), .i ((nth q (Int.toNat at_)).2.1), .i ((nth q (Int.toNat at_)).2.2.1), .s ((nth q (Int.toNat at_)).2.2.2.1), .i ((nth q (Int.toNat at_)).2.2.2.2.1), .i ((nth q (Int.toNat at_)).2.2.2.2.2.1), .s ((nth q (Int.toNat at_)).2.2.2.2.2.2)])] [] [(2, .row [.i ((nth q (Int.toNat at_)).1), .i ((nth q (Int.toNat at_)).2.1), .i ((nth q (Int.toNat at_)).2.2.1), .s ((nth q (Int.toNat at_)).2.2.2.1), .i ((nth q (Int.toNat at_)).2.2.2.2.1), .i ((nth q (Int.toNat at_)).2.2.2.2.2.1), .s ((nth q (Int.toNat at_)).2.2.2.2.2.2)])] (o1 (ob_elem (el_of (i := at_) (by omega) rfl hx1))) ?_
  refine awp_seq ?_
  refine awp_seq ?_
  refine rk tt_ok [(17, .i ((nth q (Int.toNat at_)).1))] [] [] [] [] (o0) ?_
  refine awp_block ?_
  refine awp_seq ?_
  refine rk tt_ok [(18, .b ((nth q (Int.toNat at_)).1 == (2 : Int)))] [] [] [] [] (o0) ?_
  refine ck ((nth q (Int.toNat at_)).1 == (2 : Int)) (fun h4 => ?_) (fun h4 => ?_)
  ·
   refine awp_seq ?_
   refine rk tt_ok [(8, .b ((implGetAttr f ((nth q (Int.toNat at_)).2.2.2.1)).1 != (0 : Int)))] [0, 3, 6, 8, 9, 17, 18] [] [6, 9] [(3, .val (.a [.i ((implGetAttr f ((nth q (Int.toNat at_)).2.2.2.1)).1), .i ((implGetAttr f ((nth q (Int.toNat at_)).2.2.2.1)).2.1), .s ((implGetAttr f ((nth q (Int.toNat at_)).2.2.2.1)).2.2)]))] (o1 (ob_call (implGetAttr_a f ((nth q (Int.toNat at_)).2.2.2.1)))) ?_
   refine awp_ret ?_
   exact pret [] (congrArg (fun z => (.b z : AV)) (show implmatchesAt (n_ + 1) q at_ f r = ((implGetAttr f ((nth q (Int.toNat at_)).2.2.2.1)).1 != (0 : Int)) from bif_t h4 (rfl)).symm)
  ·
   have h4d := ne_of_beq h4
   refine awp_seq ?_
   refine rk tt_ok [(26, .b ((nth q (Int.toNat at_)).1 == (3 : Int)))] [18] [] [] [] (o0) ?_
   refine ck ((nth q (Int.toNat at_)).1 == (3 : Int)) (fun h5 => ?_) (fun h5 => ?_)
   ·
    refine awp_seq ?_
    refine rd' tt_ok tt_mx [(8, .b (((implGetAttr f ((nth q (Int.toNat at_)).2.2.2.1)).1 == (nth q (Int.toNat at_)).2.2.2.2.1) && (((implGetAttr f ((nth q (Int.toNat at_)).2.2.2.1)).2.1 == (nth q (Int.toNat at_)).2.2.2.2.2.1) && ((((implGetAttr f ((nth q (Int.toNat at_)).2.2.2.1)).2.2).toList == ((nth q (Int.toNat at_)).2.2.2.2.2.2).toList) && true))))] [0, 3, 6, 8, 9, 17, 26] [] [6, 9] [(3, .val (.a [.i ((implGetAttr f ((nth q (Int.toNat at_)).2.2.2.1)).1), .i ((implGetAttr f ((nth q (Int.toNat at_)).2.2.2.1)).2.1), .s ((implGetAttr f ((nth q (Int.toNat at_)).2.2.2.1)).2.2)]))] (o1 (ob_call (implGetAttr_a f ((nth q (Int.toNat at_)).2.2.2.1)))) ?_
    refine awp_ret ?_
    exact pret [] (congrArg (fun z => (.b z : AV)) (show implmatchesAt (n_ + 1) q at_ f r = (((implGetAttr f ((nth q (Int.toNat at_)).2.2.2.1)).1 == (nth q (Int.toNat at_)).2.2.2.2.1) && (((implGetAttr f ((nth q (Int.toNat at_)).2.2.2.1)).2.1 == (nth q (Int.toNat at_)).2.2.2.2.2.1) && ((((implGetAttr f ((nth q (Int.toNat at_)).2.2.2.1)).2.2).toList == ((nth q (Int.toNat at_)).2.2.2.2.2.2).toList) && true))) from bif_f h4 (bif_t h5 (rfl))).symm)
   ·
    have h5d := ne_of_beq h5
    refine awp_seq ?_
    refine rk tt_ok [(35, .b ((nth q (Int.toNat at_)).1 == (4 : Int)))] [26] [] [] [] (o0) ?_
    refine ck ((nth q (Int.toNat at_)).1 == (4 : Int)) (fun h6 => ?_) (fun h6 => ?_)
    ·
     refine awp_seq ?_
     refine rk tt_ok [(10, .i (((implIntAttr f ((nth q (Int.toNat at_)).2.2.2.1))).1)), (11, .b (((implIntAttr f ((nth q (Int.toNat at_)).2.2.2.1))).2))] [0, 3, 6, 17, 35] [] [6] [(3, .val (.tup [(false, [.i (((implIntAttr f ((nth q (Int.toNat at_)).2.2.2.1))).1)]), (false, [.b (((implIntAttr f ((nth q (Int.toNat at_)).2.2.2.1))).2)])]))] (o1 (ob_call (implIntAttr_a f ((nth q (Int.toNat at_)).2.2.2.1)))) ?_
     refine awp_seq ?_
     refine jn [(8, .b (((implIntAttr f ((nth q (Int.toNat at_)).2.2.2.1))).2 && decide (((implIntAttr f ((nth q (Int.toNat at_)).2.2.2.1))).1 < (nth q (Int.toNat at_)).2.2.2.2.2.1)))] [8, 9, 10, 11] [] [9] (((implIntAttr f ((nth q (Int.toNat at_)).2.2.2.1))).2) (fun h7 => ?_) (fun h7 => ?_) ?_
     ·
      refine rk tt_ok [(8, .b (decide (((implIntAttr f ((nth q (Int.toNat at_)).2.2.2.1))).1 < (nth q (Int.toNat at_)).2.2.2.2.2.1)))] [8, 9, 10, 11] [] [9] [(0, .val (.b true))] (o1 (ob_eq (av_bool h7))) ?_
      exact ⟨rfl, weak_fit (by rw [h7]; first | done | kernel_rfl)⟩
     ·
      refine rk tt_ok [] [9, 10, 11] [] [9] [(0, .val (.b false))] (o1 (ob_eq (av_bool h7))) ?_
      exact ⟨rfl, weak_fit (by rw [h7]; first | done | kernel_rfl)⟩
     refine awp_ret ?_
     exact pret [] (congrArg (fun z => (.b z : AV)) (show implmatchesAt (n_ + 1) q at_ f r = (((implIntAttr f ((nth q (Int.toNat at_)).2.2.2.1))).2 && decide (((implIntAttr f ((nth q (Int.toNat at_)).2.2.2.1))).1 < (nth q (Int.toNat at_)).2.2.2.2.2.1)) from bif_f h4 (bif_f h5 (bif_t h6 (rfl)))).symm)
    ·
     have h6d := ne_of_beq h6
     refine awp_seq ?_
     refine rk tt_ok [(52, .b ((nth q (Int.toNat at_)).1 == (5 : Int)))] [35] [] [] [] (o0) ?_
     refine ck ((nth q (Int.toNat at_)).1 == (5 : Int)) (fun h8 => ?_) (fun h8 => ?_)
     ·
      have h8d := eq_of_beq h8
      refine awp_seq ?_
      refine rk tt_ok [(8, .b (!(implmatchesAt n_ q ((nth q (Int.toNat at_)).2.1) f r)))] [0, 3, 6, 8, 9, 17, 52] [] [6, 9] [(5, .val (.b (implmatchesAt n_ q ((nth q (Int.toNat at_)).2.1) f r)))] (o1 (ob_call (ih q ((nth q (Int.toNat at_)).2.1) f r hv (by have hz := ql_a hv ha hb h8; omega) (by have hz := ql_a hv ha hb h8; omega) (by have hz := ql_a hv ha hb h8; omega)))) ?_
      refine awp_ret ?_
      exact pret [] (congrArg (fun z => (.b z : AV)) (show implmatchesAt (n_ + 1) q at_ f r = (!(implmatchesAt n_ q ((nth q (Int.toNat at_)).2.1) f r)) from bif_f h4 (bif_f h5 (bif_f h6 (bif_t h8 (rfl))))).symm)
     ·
      have h8d := ne_of_beq h8
      refine awp_seq ?_
      refine rk tt_ok [(61, .b ((nth q (Int.toNat at_)).1 == (6 : Int)))] [52] [] [] [] (o0) ?_
      refine ck ((nth q (Int.toNat at_)).1 == (6 : Int)) (fun h9 => ?_) (fun h9 => ?_)
      ·
       have h9d := eq_of_beq h9
       refine awp_seq ?_
       refine jn [(8, .b ((implmatchesAt n_ q ((nth q (Int.toNat at_)).2.1) f r) && (implmatchesAt n_ q ((nth q (Int.toNat at_)).2.2.1) f r)))] [0, 3, 6, 8, 9, 17, 61] [] [6, 9] (implmatchesAt n_ q ((nth q (Int.toNat at_)).2.1) f r) (fun h10 => ?_) (fun h10 => ?_) ?_
       ·
        refine rk tt_ok [(8, .b (implmatchesAt n_ q ((nth q (Int.toNat at_)).2.2.1) f r))] [0, 3, 6, 8, 9, 17, 61] [] [6, 9] [(5, .val (.b true)), (12, .val (.b (implmatchesAt n_ q ((nth q (Int.toNat at_)).2.2.1) f r)))] (o2 (ob_call (cb h10 (ih q ((nth q (Int.toNat at_)).2.1) f r hv (by have hz := ql_b hv ha hb h9; omega) (by have hz := ql_b hv ha hb h9; omega) (by have hz := ql_b hv ha hb h9; omega)))) (o1 (ob_call (ih q ((nth q (Int.toNat at_)).2.2.1) f r hv (by have hz := qr_b hv ha hb h9; omega) (by have hz := qr_b hv ha hb h9; omega) (by have hz := qr_b hv ha hb h9; omega))))) ?_
        exact ⟨rfl, weak_fit (by rw [h10]; first | done | kernel_rfl)⟩
       ·
        refine rk tt_ok [] [0, 3, 6, 9, 17, 61] [] [6, 9] [(5, .val (.b false))] (o1 (ob_call (cb h10 (ih q ((nth q (Int.toNat at_)).2.1) f r hv (by have hz := ql_b hv ha hb h9; omega) (by have hz := ql_b hv ha hb h9; omega) (by have hz := ql_b hv ha hb h9; omega))))) ?_
        exact ⟨rfl, weak_fit (by rw [h10]; first | done | kernel_rfl)⟩
       refine awp_ret ?_
       exact pret [] (congrArg (fun z => (.b z : AV)) (show implmatchesAt (n_ + 1) q at_ f r = ((implmatchesAt n_ q ((nth q (Int.toNat at_)).2.1) f r) && (implmatchesAt n_ q ((nth q (Int.toNat at_)).2.2.1) f r)) from bif_f h4 (bif_f h5 (bif_f h6 (bif_f h8 (bif_t h9 (rfl)))))).symm)
      ·
       have h9d := ne_of_beq h9
       refine awp_seq ?_
       refine rk tt_ok [(77, .b ((nth q (Int.toNat at_)).1 == (7 : Int)))] [61] [] [] [] (o0) ?_
       refine ck ((nth q (Int.toNat at_)).1 == (7 : Int)) (fun h11 => ?_) (fun h11 => ?_)
       ·
        have h11d := eq_of_beq h11
        refine awp_seq ?_
        refine jn [(8, .b ((implmatchesAt n_ q ((nth q (Int.toNat at_)).2.1) f r) || (implmatchesAt n_ q ((nth q (Int.toNat at_)).2.2.1) f r)))] [0, 3, 6, 8, 9, 17, 77] [] [6, 9] (implmatchesAt n_ q ((nth q (Int.toNat at_)).2.1) f r) (fun h12 => ?_) (fun h12 => ?_) ?_
        ·
         refine rk tt_ok [(8, .b true)] [0, 3, 6, 8, 9, 17, 77] [] [6, 9] [(5, .val (.b true))] (o1 (ob_call (cb h12 (ih q ((nth q (Int.toNat at_)).2.1) f r hv (by have hz := ql_c hv ha hb h11; omega) (by have hz := ql_c hv ha hb h11; omega) (by have hz := ql_c hv ha hb h11; omega))))) ?_
         exact ⟨rfl, weak_fit (by rw [h12]; first | done | kernel_rfl)⟩
        ·
         refine rk tt_ok [(8, .b (implmatchesAt n_ q ((nth q (Int.toNat at_)).2.2.1) f r))] [0, 3, 6, 8, 9, 17, 77] [] [6, 9] [(5, .val (.b false)), (12, .val (.b (implmatchesAt n_ q ((nth q (Int.toNat at_)).2.2.1) f r)))] (o2 (ob_call (cb h12 (ih q ((nth q (Int.toNat at_)).2.1) f r hv (by have hz := ql_c hv ha hb h11; omega) (by have hz := ql_c hv ha hb h11; omega) (by have hz := ql_c hv ha hb h11; omega)))) (o1 (ob_call (ih q ((nth q (Int.toNat at_)).2.2.1) f r hv (by have hz := qr_c hv ha hb h11; omega) (by have hz := qr_c hv ha hb h11; omega) (by have hz := qr_c hv ha hb h11; omega))))) ?_
         exact ⟨rfl, weak_fit (by rw [h12]; first | done | kernel_rfl)⟩
        refine awp_ret ?_
        exact pret [] (congrArg (fun z => (.b z : AV)) (show implmatchesAt (n_ + 1) q at_ f r = ((implmatchesAt n_ q ((nth q (Int.toNat at_)).2.1) f r) || (implmatchesAt n_ q ((nth q (Int.toNat at_)).2.2.1) f r)) from bif_f h4 (bif_f h5 (bif_f h6 (bif_f h8 (bif_f h9 (bif_t h11 (rfl))))))).symm)
       ·
        refine awp_seq ?_
        refine rk tt_ok [(93, .b ((nth q (Int.toNat at_)).1 == (8 : Int)))] [0, 77] [] [] [] (o0) ?_
        refine ck ((nth q (Int.toNat at_)).1 == (8 : Int)) (fun h13 => ?_) (fun h13 => ?_)
        ·
         refine awp_seq ?_
         refine rd' tt_ok tt_mx [(8, .b (implContainsID (implResultIDs r ((nth q (Int.toNat at_)).2.2.2.1)) f.1))] [3, 6, 8, 9, 17, 93] [] [6, 9] [(3, .val (.o 0 (implResultIDs r ((nth q (Int.toNat at_)).2.2.2.1)))), (6, .val (.b (implContainsID (implResultIDs r ((nth q (Int.toNat at_)).2.2.2.1)) f.1)))] (o2 (ob_call (implResultIDs_a r ((nth q (Int.toNat at_)).2.2.2.1))) (o1 (ob_call (implContainsID_a (implResultIDs r ((nth q (Int.toNat at_)).2.2.2.1)) f.1)))) ?_
         refine awp_ret ?_
         exact pret [] (congrArg (fun z => (.b z : AV)) (show implmatchesAt (n_ + 1) q at_ f r = (implContainsID (implResultIDs r ((nth q (Int.toNat at_)).2.2.2.1)) f.1) from bif_f h4 (bif_f h5 (bif_f h6 (bif_f h8 (bif_f h9 (bif_f h11 (bif_t h13 (rfl)))))))).symm)
        ·
         refine awp_seq ?_
         refine rk tt_ok [(102, .b ((nth q (Int.toNat at_)).1 == (9 : Int)))] [17, 93] [] [] [] (o0) ?_
         refine ck ((nth q (Int.toNat at_)).1 == (9 : Int)) (fun h14 => ?_) (fun h14 => ?_)
         ·
          refine awp_seq ?_
          refine jn [(8, .b ((f.2.2.2.1 != (0 : Int)) && (implContainsID (implResultIDs r ((nth q (Int.toNat at_)).2.2.2.1)) f.2.2.2.1)))] [3, 6, 8, 9, 102] [] [6, 9] (f.2.2.2.1 != (0 : Int)) (fun h15 => ?_) (fun h15 => ?_) ?_
          ·
           refine rd' tt_ok tt_mx [(8, .b (implContainsID (implResultIDs r ((nth q (Int.toNat at_)).2.2.2.1)) f.2.2.2.1))] [3, 6, 8, 9, 102] [] [6, 9] [(2, .val (.b true)), (7, .val (.o 0 (implResultIDs r ((nth q (Int.toNat at_)).2.2.2.1)))), (10, .val (.b (implContainsID (implResultIDs r ((nth q (Int.toNat at_)).2.2.2.1)) f.2.2.2.1)))] (o2 (ob_eq (av_bool h15)) (o2 (ob_call (implResultIDs_a r ((nth q (Int.toNat at_)).2.2.2.1))) (o1 (ob_call (implContainsID_a (implResultIDs r ((nth q (Int.toNat at_)).2.2.2.1)) f.2.2.2.1))))) ?_
           exact ⟨rfl, weak_fit (by rw [h15]; first | done | kernel_rfl)⟩
          ·
           refine rd' tt_ok tt_mx [] [3, 6, 9, 102] [] [6, 9] [(2, .val (.b false))] (o1 (ob_eq (av_bool h15))) ?_
           exact ⟨rfl, weak_fit (by rw [h15]; first | done | kernel_rfl)⟩
          refine awp_ret ?_
          exact pret [] (congrArg (fun z => (.b z : AV)) (show implmatchesAt (n_ + 1) q at_ f r = ((f.2.2.2.1 != (0 : Int)) && (implContainsID (implResultIDs r ((nth q (Int.toNat at_)).2.2.2.1)) f.2.2.2.1)) from bif_f h4 (bif_f h5 (bif_f h6 (bif_f h8 (bif_f h9 (bif_f h11 (bif_f h13 (bif_t h14 (rfl))))))))).symm)
         ·
          refine awp_skip ?_
          refine awp_seq ?_
          refine rk tt_ok [(8, .b true)] [3, 6, 8, 9, 102] [] [6, 9] [] (o0) ?_
          refine awp_ret ?_
          exact pret [] (congrArg (fun z => (.b z : AV)) (show implmatchesAt (n_ + 1) q at_ f r = true from bif_f h4 (bif_f h5 (bif_f h6 (bif_f h8 (bif_f h9 (bif_f h11 (bif_f h13 (bif_f h14 (rfl))))))))).symm)
def implMatches (q : (List NodeD)) (f : FileD) (r : (List ResultD)) : Bool := ((implIsValidQuery q) && (implmatchesAt (List.length q) q ((q.length : Int) - 1) f r))
theorem implMatches_a (q : (List NodeD)) (f : FileD) (r : (List ResultD)) : ACalls Tryz.prog 206 [.h q, .a [.i f.1, .i f.2.1, .b f.2.2.1, .i f.2.2.2.1, .h f.2.2.2.2], .h r] (.b (implMatches q f r)) := by
 refine acalls_of (tt := tt) tt_ok Tryz.func206 (fn := Tryz.f206) rfl (by unfold FnOk; kernel_rfl) (Nat.le_of_ble_eq_true rfl) fun w0 F0 => ?_
 refine awp_seq ?_
 refine rk tt_ok [(4, .p 4 0), (6, .b false)] [1] [(4, [.i f.1, .i f.2.1, .b f.2.2.1, .i f.2.2.2.1, .h f.2.2.2.2])] [] [] (o0) ?_
 refine awp_seq ?_
 refine jn [(6, .b ((implIsValidQuery q) && (implmatchesAt (List.length q) q ((q.length : Int) - 1) f r)))] [0, 2, 4, 6] [] [4] (implIsValidQuery q) (fun h1 => ?_) (fun h1 => ?_) ?_
 ·
  refine wdT 0 0 .sh q (fun hw2 => ?_)
  have hl3 : List.length q ≤ 1073741824 := wide_len (hw2)
  refine rk tt_ok [(6, .b (implmatchesAt (List.length q) q ((q.length : Int) - 1) f r))] [0, 2, 4, 6] [] [4] [(1, .val (.b true)), (5, .val (.i (q.length : Int))), (6, .val (.i ((q.length : Int) - 1))), (9, .val (.b (implmatchesAt (List.length q) q ((q.length : Int) - 1) f r)))] (o2 (ob_call (cb h1 (implIsValidQuery_a q))) (o2 (ob_eq (av_len q)) (o2 (ob_eq (av_i (IntWalk.i64_in ((q.length : Int) - 1) (by omega)))) (o1 (ob_call (implmatchesAt_a (List.length q) q ((q.length : Int) - 1) f r h1 (by have := vq_len h1; omega) (by omega) (by omega))))))) ?_
  exact ⟨rfl, weak_fit (by rw [h1]; first | done | kernel_rfl)⟩
 ·
  refine rk tt_ok [] [0, 2, 4] [] [4] [(1, .val (.b false))] (o1 (ob_call (cb h1 (implIsValidQuery_a q)))) ?_
  exact ⟨rfl, weak_fit (by rw [h1]; first | done | kernel_rfl)⟩
 refine awp_ret ?_
 exact pret [] (congrArg (fun z => (.b z : AV)) (show implMatches q f r = ((implIsValidQuery q) && (implmatchesAt (List.length q) q ((q.length : Int) - 1) f r)) from rfl).symm)
def implSelectFiles_f0 (q : (List NodeD)) (r : (List ResultD)) (_ : Nat) (a0 : FileD) (s0 : (List Int)) : Rd ((List Int)) ((List Int)) ((List Int)) := (bif (implMatches q a0 r) then (.next (s0 ++ [a0.1])) else (.next s0))
def implSelectFiles_e0 (_ : Nat) (s0 : (List Int)) : (List Int) := s0
def implSelectFiles (s_ : StoreD) (q : (List NodeD)) (r : (List ResultD)) : (List Int) := (Out.on (forL (implSelectFiles_f0 q r) implSelectFiles_e0 s_.2.1 0 []) (fun y0 => y0))
theorem implSelectFiles_a (s_ : StoreD) (q : (List NodeD)) (r : (List ResultD)) : ACalls Tryz.prog 178 [.a [.h s_.1, .h s_.2.1, .i s_.2.2], .h q, .h r] (.o 0 (implSelectFiles s_ q r)) := by
 refine acalls_of (tt := tt) tt_ok Tryz.func178 (fn := Tryz.f178) rfl (by unfold FnOk; kernel_rfl) (Nat.le_of_ble_eq_true rfl) fun w0 F0 => ?_
 refine awp_seq ?_
 refine rk tt_ok [(3, .p 3 0), (6, .e 0)] [0] [(3, [.h s_.1, .h s_.2.1, .i s_.2.2])] [] [] (o0) ?_
 refine awp_seq ?_
 refine rk tt_ok [(7, .one (.slc (.own true 640) 1 []))] [] [] [] [] (o0) ?_
 refine awp_seq ?_
 refine awp_seq ?_
 refine rk tt_ok [(12, .h s_.2.1), (13, .i (s_.2.1.length : Int)), (14, .i 0)] [3] [] [3] [(2, .val (.i (s_.2.1.length : Int)))] (o1 (ob_eq (av_len s_.2.1))) ?_
 refine wdT 12 0 .sh s_.2.1 (fun hw1 => ?_)
 have hl2 : List.length s_.2.1 ≤ 1073741824 := wide_len (hw1)
 refine blk (fun (k0 : Nat) (s0 : (List Int)) => [(7, .o 147203 s0), (14, .i ((k0 : Nat) : Int))]) [7, 14] (fun k0 s0 => []) [] (fun (y0 : (List Int)) => [(7, .o 147353 y0)]) [1, 2, 7, 12, 13, 14] (fun y0 => []) [] (fun (k0 : Nat) (s0 : (List Int)) => (forL (implSelectFiles_f0 q r) implSelectFiles_e0 s_.2.1 0 []) = forL (implSelectFiles_f0 q r) implSelectFiles_e0 (List.drop k0 s_.2.1) k0 s0 ∧ List.length s0 ≤ k0) (fun (y0 : (List Int)) => (forL (implSelectFiles_f0 q r) implSelectFiles_e0 s_.2.1 0 []) = .brk y0) s_.2.1.length [] (weak_sf [(640, 147203)] (by kernel_rfl)) ⟨rfl, (by simp)⟩ (fun k0 s0 hk0 hI0 => ?_) (fun k0 s0 hk0 hI0 => ?_) (fun y0 hD0 => ?_)
 ·
  have hA0_0 := hI0.2
  obtain ⟨a0, hx0⟩ := get_some (l := s_.2.1) (i := k0) hk0
  refine awp_seq ?_
  refine rk tt_ok [(15, .b true)] [] [] [] [(0, .val (.b true))] (o1 (ob_eq (av_bool (decide_eq_true (p := ((k0 : Nat) : Int) < (s_.2.1.length : Int)) (by omega))))) ?_
  refine awp_seq ?_
  refine ckT ?_
  refine awp_skip ?_
  refine awp_seq ?_
  refine awp_block ?_
  refine awp_seq ?_
  refine rk tt_ok [(9, .p 9 0)] [15] [(9, [.i a0.1, .i a0.2.1, .b a0.2.2.1, .i a0.2.2.2.1, .h a0.2.2.2.2])] [] [(0, .row [.i a0.1, .i a0.2.1, .b a0.2.2.1, .i a0.2.2.2.1, .h a0.2.2.2.2])] (o1 (ob_elem (el_of (i := ((k0 : Nat) : Int)) (by omega) rfl hx0))) ?_
  refine awp_seq ?_
  refine rk tt_ok [(21, .b (implMatches q a0 r))] [] [] [] [(3, .val (.b (implMatches q a0 r)))] (o1 (ob_call (implMatches_a q a0 r))) ?_
  refine ck (implMatches q a0 r) (fun h3 => ?_) (fun h3 => ?_)
  ·
   refine wdT 7 0 (.own true 147203) s0 (fun hw4 => ?_)
   have hl5 : List.length s0 ≤ 1073741824 := wide_len (hw4)
   refine rk tt_ok [(7, .one (.slc (.own true 1664) 1 ((eL s0) ++ [[.i a0.1]])))] [7, 9, 21] [] [9] [] (o1 (ob_len (len_of (eL_length s0) (eL_length [a0.1]) (by first | omega | (simp; omega) | simp)))) ?_
   refine eqn [(7, .o 1664 (s0 ++ [a0.1]))] [7] [] [] (by rw [show ((eL s0) ++ [[.i a0.1]]) = (eL (s0 ++ [a0.1])) from app_eL (rfl) (rfl)]; first | done | kernel_rfl) ?_
   refine rk tt_ok [(14, .i ((k0 + 1 : Nat) : Int))] [14] [] [] [(0, .val (.i ((k0 + 1 : Nat) : Int)))] (o1 (ob_eq (av_i (wrap_succ k0 (by omega))))) ?_
   exact Exists.intro (s0 ++ [a0.1]) (And.intro (weak_sf [(1664, 147203)] (by kernel_rfl)) ⟨forL_next hx0 (bif_t h3 (rfl)) hI0.1, by first | omega | (simp; omega) | simp⟩)
  ·
   refine awp_skip ?_
   refine rk tt_ok [(14, .i ((k0 + 1 : Nat) : Int))] [9, 14, 21] [] [9] [(0, .val (.i ((k0 + 1 : Nat) : Int)))] (o1 (ob_eq (av_i (wrap_succ k0 (by omega))))) ?_
   exact Exists.intro s0 (And.intro (weak_fit (by kernel_rfl)) ⟨forL_next hx0 (bif_f h3 (rfl)) hI0.1, by first | omega | (simp; omega) | simp⟩)
 ·
  have hA0_0 := hI0.2
  refine awp_seq ?_
  refine rk tt_ok [(15, .b false)] [] [] [] [(0, .val (.b false))] (o1 (ob_eq (av_bool (decide_eq_false (p := ((k0 : Nat) : Int) < (s_.2.1.length : Int)) (by omega))))) ?_
  refine awp_seq ?_
  refine ckF ?_
  refine awp_exit ?_
  exact Exists.intro s0 (And.intro (weak_sf [(147203, 147353)] (by kernel_rfl)) (forL_end hk0 (rfl) hI0.1))
 ·
  refine awp_seq ?_
  refine rk tt_ok [(6, .o 147353 y0)] [6, 7] [] [] [] (o0) ?_
  refine awp_ret ?_
  exact pret [] (congrArg (fun z => (.o 0 z : AV)) (show implSelectFiles s_ q r = y0 from on_b hD0 (rfl)).symm)
def specGetAttr_f0 (name : ByteArray) (_ : Nat) (a0 : AttrD) (_ : Unit) : Rd (ValueD) (Unit) (Unit) := (bif (a0.1.toList == name.toList) then (.ret a0.2) else (.next ()))
def specGetAttr_e0 (_ : Nat) (_ : Unit) : Unit := ()
def specGetAttr (f : FileD) (name : ByteArray) : ValueD := (Out.on (forL (specGetAttr_f0 name) specGetAttr_e0 f.2.2.2.2 0 ()) (fun _ => (0, 0, ⟨#[]⟩)))
theorem specGetAttr_a (f : FileD) (name : ByteArray) : ACalls Tryz.prog 222 [.a [.i f.1, .i f.2.1, .b f.2.2.1, .i f.2.2.2.1, .h f.2.2.2.2], .s name] (.a [.i ((specGetAttr f name).1), .i ((specGetAttr f name).2.1), .s ((specGetAttr f name).2.2)]) := by
 refine acalls_of (tt := tt) tt_ok Tryz.func222 (fn := Tryz.f222) rfl (by unfold FnOk; kernel_rfl) (Nat.le_of_ble_eq_true rfl) fun w0 F0 => ?_
 refine awp_seq ?_
 refine rk tt_ok [(2, .p 2 0), (4, .p 4 0)] [0] [(2, [.i f.1, .i f.2.1, .b f.2.2.1, .i f.2.2.2.1, .h f.2.2.2.2]), (4, [.i 0, .i 0, .s ⟨#[]⟩])] [] [] (o0) ?_
 refine awp_seq ?_
 refine awp_seq ?_
 refine rk tt_ok [(5, .i 0)] [] [] [] [] (o0) ?_
 refine wdB 2 4 .sh f.2.2.2.2 (fun hw1 => ?_)
 have hl2 : List.length f.2.2.2.2 ≤ 1073741824 := wide_len (hw1)
 refine blk (fun (k0 : Nat) (s0 : Unit) => [(5, .i ((k0 : Nat) : Int))]) [5] (fun k0 s0 => []) [] (fun (y0 : Unit) => []) [1, 2, 5] (fun y0 => []) [2] (fun (k0 : Nat) (s0 : Unit) => (forL (specGetAttr_f0 name) specGetAttr_e0 f.2.2.2.2 0 ()) = forL (specGetAttr_f0 name) specGetAttr_e0 (List.drop k0 f.2.2.2.2) k0 s0) (fun (y0 : Unit) => (forL (specGetAttr_f0 name) specGetAttr_e0 f.2.2.2.2 0 ()) = .brk y0) f.2.2.2.2.length () (weak_fit (by kernel_rfl)) rfl (fun k0 s0 hk0 hI0 => ?_) (fun k0 s0 hk0 hI0 => ?_) (fun y0 hD0 => ?_)
 ·
  obtain ⟨a0, hx0⟩ := get_some (l := f.2.2.2.2) (i := k0) hk0
  refine awp_seq ?_
  refine awp_seq ?_
  refine rk tt_ok [(10, .b true)] [] [] [] [(3, .val (.i (f.2.2.2.2.length : Int))), (4, .val (.b true))] (o2 (ob_eq (av_len f.2.2.2.2)) (o1 (ob_eq (av_bool (decide_eq_true (p := ((k0 : Nat) : Int) < (f.2.2.2.2.length : Int)) (by omega)))))) ?_
  refine ckT ?_
  refine awp_skip ?_
  refine awp_seq ?_
  refine awp_block ?_
  refine awp_seq ?_
  refine rk tt_ok [(20, .b (a0.1.toList == name.toList))] [10] [] [] [(3, .row [.s a0.1, .i a0.2.1, .i a0.2.2.1, .s a0.2.2.2])] (o1 (ob_elem (el_of (i := ((k0 : Nat) : Int)) (by omega) rfl hx0))) ?_
  refine ck (a0.1.toList == name.toList) (fun h3 => ?_) (fun h3 => ?_)
  ·
   refine awp_seq ?_
   refine rk tt_ok [] [20] [(4, [.i a0.2.1, .i a0.2.2.1, .s a0.2.2.2])] [4] [(3, .row [.s a0.1, .i a0.2.1, .i a0.2.2.1, .s a0.2.2.2])] (o1 (ob_elem (el_of (i := ((k0 : Nat) : Int)) (by omega) rfl hx0))) ?_
   refine awp_ret ?_
   have hr4 : (forL (specGetAttr_f0 name) specGetAttr_e0 f.2.2.2.2 0 ()) = .ret a0.2 := forL_ret hx0 (bif_t h3 (rfl)) hI0
   exact pret [] (congrArg (fun z => (.a [.i z.1, .i z.2.1, .s z.2.2] : AV)) (show specGetAttr f name = a0.2 from on_r hr4).symm)
  ·
   refine awp_skip ?_
   refine rk tt_ok [(5, .i ((k0 + 1 : Nat) : Int))] [5, 20] [] [] [(1, .val (.i ((k0 + 1 : Nat) : Int)))] (o1 (ob_eq (av_i (wrap_succ k0 (by omega))))) ?_
   exact Exists.intro () (And.intro (weak_fit (by kernel_rfl)) (forL_next hx0 (bif_f h3 (rfl)) hI0))
 ·
  refine awp_seq ?_
  refine awp_seq ?_
  refine rk tt_ok [(10, .b false)] [] [] [] [(3, .val (.i (f.2.2.2.2.length : Int))), (4, .val (.b false))] (o2 (ob_eq (av_len f.2.2.2.2)) (o1 (ob_eq (av_bool (decide_eq_false (p := ((k0 : Nat) : Int) < (f.2.2.2.2.length : Int)) (by omega)))))) ?_
  refine ckF ?_
  refine awp_exit ?_
  exact Exists.intro () (And.intro (weak_fit (by kernel_rfl)) (forL_end hk0 (rfl) hI0))
 ·
  refine awp_seq ?_
  refine rk tt_ok [] [] [] [] [] (o0) ?_
  refine awp_ret ?_
  exact pret [] (congrArg (fun z => (.a [.i z.1, .i z.2.1, .s z.2.2] : AV)) (show specGetAttr f name = (0, 0, ⟨#[]⟩) from on_b hD0 (rfl)).symm)
def specResultIDs_f0 (name : ByteArray) (_ : Nat) (a0 : ResultD) (_ : Unit) : Rd ((List Int)) (Unit) (Unit) := (bif (a0.1.toList == name.toList) then (.ret a0.2) else (.next ()))
def specResultIDs_e0 (_ : Nat) (_ : Unit) : Unit := ()
def specResultIDs (a_ : (List ResultD)) (name : ByteArray) : (List Int) := (Out.on (forL (specResultIDs_f0 name) specResultIDs_e0 a_ 0 ()) (fun _ => []))
theorem specResultIDs_a (a_ : (List ResultD)) (name : ByteArray) : ACalls Tryz.prog 103 [.h a_, .s name] (.o 0 (specResultIDs a_ name)) := by
 refine acalls_of (tt := tt) tt_ok Tryz.func103 (fn := Tryz.f103) rfl (by unfold FnOk; kernel_rfl) (Nat.le_of_ble_eq_true rfl) fun w0 F0 => ?_
 refine awp_seq ?_
 refine rk tt_ok [(4, .e 0)] [] [] [] [] (o0) ?_
 refine awp_seq ?_
 refine awp_seq ?_
 refine rk tt_ok [(5, .i 0)] [] [] [] [] (o0) ?_
 refine wdT 0 0 .sh a_ (fun hw1 => ?_)
 have hl2 : List.length a_ ≤ 1073741824 := wide_len (hw1)
 refine blk (fun (k0 : Nat) (s0 : Unit) => [(5, .i ((k0 : Nat) : Int))]) [5] (fun k0 s0 => []) [] (fun (y0 : Unit) => []) [0, 1, 5] (fun y0 => []) [] (fun (k0 : Nat) (s0 : Unit) => (forL (specResultIDs_f0 name) specResultIDs_e0 a_ 0 ()) = forL (specResultIDs_f0 name) specResultIDs_e0 (List.drop k0 a_) k0 s0) (fun (y0 : Unit) => (forL (specResultIDs_f0 name) specResultIDs_e0 a_ 0 ()) = .brk y0) a_.length () (weak_fit (by kernel_rfl)) rfl (fun k0 s0 hk0 hI0 => ?_) (fun k0 s0 hk0 hI0 => ?_) (fun y0 hD0 => ?_)
 ·
  obtain ⟨a0, hx0⟩ := get_some (l := a_) (i := k0) hk0
  refine awp_seq ?_
  refine awp_seq ?_
  refine rk tt_ok [(9, .b true)] [] [] [] [(2, .val (.i (a_.length : Int))), (3, .val (.b true))] (o2 (ob_eq (av_len a_)) (o1 (ob_eq (av_bool (decide_eq_true (p := ((k0 : Nat) : Int) < (a_.length : Int)) (by omega)))))) ?_
  refine ckT ?_
  refine awp_skip ?_
  refine awp_seq ?_
  refine awp_block ?_
  refine awp_seq ?_
  refine rk tt_ok [(18, .b (a0.1.toList == name.toList))] [9] [] [] [(2, .row [.s a0.1, .h a0.2])] (o1 (ob_elem (el_of (i := ((k0 : Nat) : Int)) (by omega) rfl hx0))) ?_
  refine ck (a0.1.toList == name.toList) (fun h3 => ?_) (fun h3 => ?_)
  ·
   refine awp_seq ?_
   have hl4 : List.length a0.2 ≤ 1073741824 := wide_len (wide_snd (wide_get hx0 (hw1)))
   refine rk tt_ok [(4, .o 1600 a0.2)] [4, 18] [] [] [(3, .row [.s a0.1, .h a0.2]), (6, .flat)] (o2 (ob_elem (el_of (i := ((k0 : Nat) : Int)) (by omega) rfl hx0)) (o2 (ob_len (n := (([] : List (List PV)).length + ((eL a0.2) : List (List PV)).length)) (len_of (rfl) (eL_length a0.2) (by first | omega | (simp; omega) | simp))) (o1 (ob_flat (flat_eL a0.2))))) ?_
   refine awp_ret ?_
   have hr5 : (forL (specResultIDs_f0 name) specResultIDs_e0 a_ 0 ()) = .ret a0.2 := forL_ret hx0 (bif_t h3 (rfl)) hI0
   exact pret [] (congrArg (fun z => (.o 0 z : AV)) (show specResultIDs a_ name = a0.2 from on_r hr5).symm)
  ·
   refine awp_skip ?_
   refine rk tt_ok [(5, .i ((k0 + 1 : Nat) : Int))] [5, 18] [] [] [(1, .val (.i ((k0 + 1 : Nat) : Int)))] (o1 (ob_eq (av_i (wrap_succ k0 (by omega))))) ?_
   exact Exists.intro () (And.intro (weak_fit (by kernel_rfl)) (forL_next hx0 (bif_f h3 (rfl)) hI0))
 ·
  refine awp_seq ?_
  refine awp_seq ?_
  refine rk tt_ok [(9, .b false)] [] [] [] [(2, .val (.i (a_.length : Int))), (3, .val (.b false))] (o2 (ob_eq (av_len a_)) (o1 (ob_eq (av_bool (decide_eq_false (p := ((k0 : Nat) : Int) < (a_.length : Int)) (by omega)))))) ?_
  refine ckF ?_
  refine awp_exit ?_
  exact Exists.intro () (And.intro (weak_fit (by kernel_rfl)) (forL_end hk0 (rfl) hI0))
 ·
  refine awp_seq ?_
  refine rk tt_ok [(4, .one (.slc (.own true 1664) 1 []))] [4] [] [] [] (o0) ?_
  refine awp_ret ?_
  exact pret [] (congrArg (fun z => (.o 0 z : AV)) (show specResultIDs a_ name = [] from on_b hD0 (rfl)).symm)
def specContainsID_f0 (id : Int) (_ : Nat) (a0 : Int) (_ : Unit) : Rd (Bool) (Unit) (Unit) := (bif (a0 == id) then (.ret true) else (.next ()))
def specContainsID_e0 (_ : Nat) (_ : Unit) : Unit := ()
def specContainsID (ids : (List Int)) (id : Int) : Bool := (Out.on (forL (specContainsID_f0 id) specContainsID_e0 ids 0 ()) (fun _ => false))
theorem specContainsID_a (ids : (List Int)) (id : Int) : ACalls Tryz.prog 108 [.h ids, .i id] (.b (specContainsID ids id)) := by
 refine acalls_of (tt := tt) tt_ok Tryz.func108 (fn := Tryz.f108) rfl (by unfold FnOk; kernel_rfl) (Nat.le_of_ble_eq_true rfl) fun w0 F0 => ?_
 refine awp_seq ?_
 refine rk tt_ok [(4, .b false)] [] [] [] [] (o0) ?_
 refine awp_seq ?_
 refine awp_seq ?_
 refine rk tt_ok [(5, .i 0)] [] [] [] [] (o0) ?_
 refine wdT 0 0 .sh ids (fun hw1 => ?_)
 have hl2 : List.length ids ≤ 1073741824 := wide_len (hw1)
 refine blk (fun (k0 : Nat) (s0 : Unit) => [(5, .i ((k0 : Nat) : Int))]) [5] (fun k0 s0 => []) [] (fun (y0 : Unit) => []) [0, 1, 5] (fun y0 => []) [] (fun (k0 : Nat) (s0 : Unit) => (forL (specContainsID_f0 id) specContainsID_e0 ids 0 ()) = forL (specContainsID_f0 id) specContainsID_e0 (List.drop k0 ids) k0 s0) (fun (y0 : Unit) => (forL (specContainsID_f0 id) specContainsID_e0 ids 0 ()) = .brk y0) ids.length () (weak_fit (by kernel_rfl)) rfl (fun k0 s0 hk0 hI0 => ?_) (fun k0 s0 hk0 hI0 => ?_) (fun y0 hD0 => ?_)
 ·
  obtain ⟨a0, hx0⟩ := get_some (l := ids) (i := k0) hk0
  refine awp_seq ?_
  refine awp_seq ?_
  refine rk tt_ok [(9, .b true)] [] [] [] [(2, .val (.i (ids.length : Int))), (3, .val (.b true))] (o2 (ob_eq (av_len ids)) (o1 (ob_eq (av_bool (decide_eq_true (p := ((k0 : Nat) : Int) < (ids.length : Int)) (by omega)))))) ?_
  refine ckT ?_
  refine awp_skip ?_
  refine awp_seq ?_
  refine awp_block ?_
  refine awp_seq ?_
  refine rk tt_ok [(17, .b (a0 == id))] [9] [] [] [(2, .row [.i a0])] (o1 (ob_elem (el_of (i := ((k0 : Nat) : Int)) (by omega) rfl hx0))) ?_
  refine ck (a0 == id) (fun h3 => ?_) (fun h3 => ?_)
  ·
   refine awp_seq ?_
   refine rk tt_ok [(4, .b true)] [4, 17] [] [] [] (o0) ?_
   refine awp_ret ?_
   have hr4 : (forL (specContainsID_f0 id) specContainsID_e0 ids 0 ()) = .ret true := forL_ret hx0 (bif_t h3 (rfl)) hI0
   exact pret [] (congrArg (fun z => (.b z : AV)) (show specContainsID ids id = true from on_r hr4).symm)
  ·
   have h3d := ne_of_beq h3
   refine awp_skip ?_
   refine rk tt_ok [(5, .i ((k0 + 1 : Nat) : Int))] [5, 17] [] [] [(1, .val (.i ((k0 + 1 : Nat) : Int)))] (o1 (ob_eq (av_i (wrap_succ k0 (by omega))))) ?_
   exact Exists.intro () (And.intro (weak_fit (by kernel_rfl)) (forL_next hx0 (bif_f h3 (rfl)) hI0))
 ·
  refine awp_seq ?_
  refine awp_seq ?_
  refine rk tt_ok [(9, .b false)] [] [] [] [(2, .val (.i (ids.length : Int))), (3, .val (.b false))] (o2 (ob_eq (av_len ids)) (o1 (ob_eq (av_bool (decide_eq_false (p := ((k0 : Nat) : Int) < (ids.length : Int)) (by omega)))))) ?_
  refine ckF ?_
  refine awp_exit ?_
  exact Exists.intro () (And.intro (weak_fit (by kernel_rfl)) (forL_end hk0 (rfl) hI0))
 ·
  refine awp_seq ?_
  refine rk tt_ok [] [] [] [] [] (o0) ?_
  refine awp_ret ?_
  exact pret [] (congrArg (fun z => (.b z : AV)) (show specContainsID ids id = false from on_b hD0 (rfl)).symm)
def specl14Node (n_ : Nat) (q : (List NodeD)) (at_ : Int) (f : FileD) (a_ : (List ResultD)) : Bool := match n_ with
 | 0 => default
 | n_ + 1 => (bif ((nth q (Int.toNat at_)).1 == (1 : Int)) then true else (bif ((nth q (Int.toNat at_)).1 == (2 : Int)) then ((specGetAttr f ((nth q (Int.toNat at_)).2.2.2.1)).1 != (0 : Int)) else (bif ((nth q (Int.toNat at_)).1 == (3 : Int)) then (((specGetAttr f ((nth q (Int.toNat at_)).2.2.2.1)).1 == (nth q (Int.toNat at_)).2.2.2.2.1) && (((specGetAttr f ((nth q (Int.toNat at_)).2.2.2.1)).2.1 == (nth q (Int.toNat at_)).2.2.2.2.2.1) && ((((specGetAttr f ((nth q (Int.toNat at_)).2.2.2.1)).2.2).toList == ((nth q (Int.toNat at_)).2.2.2.2.2.2).toList) && true))) else (bif ((nth q (Int.toNat at_)).1 == (4 : Int)) then (((specGetAttr f ((nth q (Int.toNat at_)).2.2.2.1)).1 == (1 : Int)) && decide ((specGetAttr f ((nth q (Int.toNat at_)).2.2.2.1)).2.1 < (nth q (Int.toNat at_)).2.2.2.2.2.1)) else (bif ((nth q (Int.toNat at_)).1 == (5 : Int)) then (!(specl14Node n_ q ((nth q (Int.toNat at_)).2.1) f a_)) else (bif ((nth q (Int.toNat at_)).1 == (6 : Int)) then ((specl14Node n_ q ((nth q (Int.toNat at_)).2.1) f a_) && (specl14Node n_ q ((nth q (Int.toNat at_)).2.2.1) f a_)) else (bif ((nth q (Int.toNat at_)).1 == (7 : Int)) then ((specl14Node n_ q ((nth q (Int.toNat at_)).2.1) f a_) || (specl14Node n_ q ((nth q (Int.toNat at_)).2.2.1) f a_)) else (bif ((nth q (Int.toNat at_)).1 == (8 : Int)) then (specContainsID (specResultIDs a_ ((nth q (Int.toNat at_)).2.2.2.1)) f.1) else ((f.2.2.2.1 != (0 : Int)) && (specContainsID (specResultIDs a_ ((nth q (Int.toNat at_)).2.2.2.1)) f.2.2.2.1))))))))))
theorem specl14Node_a : ∀ (n_ : Nat) (q : (List NodeD)) (at_ : Int) (f : FileD) (a_ : (List ResultD)) (hv : implIsValidQuery q = true) (ha : 0 ≤ at_) (hb : at_ < (q.length : Int)) (hn : at_ < ((n_ : Nat) : Int)), ACalls Tryz.prog 213 [.h q, .i at_, .a [.i f.1, .i f.2.1, .b f.2.2.1, .i f.2.2.2.1, .h f.2.2.2.2], .h a_] (.b (specl14Node n_ q at_ f a_)) := by
 intro n_
 induction n_ with
 | zero => intro q at_ f a_ hv ha hb hn; exact (by omega : False).elim
 | succ n_ ih =>
  intro q at_ f a_ hv ha hb hn
  refine acalls_of (tt := tt) tt_ok Tryz.func213 (fn := Tryz.f213) rfl (by unfold FnOk; kernel_rfl) (Nat.le_of_ble_eq_true rfl) fun w0 F0 => ?_
  refine awp_seq ?_
  refine rk tt_ok [(6, .p 6 0), (8, .b false)] [2] [(6, [.i f.1, .i f.2.1, .b f.2.2.1, .i f.2.2.2.1, .h f.2.2.2.2])] [] [] (o0) ?_
  refine awp_seq ?_
  refine wdT 0 0 .sh q (fun hw2 => ?_)
  have hl3 : List.length q ≤ 1073741824 := wide_len (hw2)
  have hx1 : q[(Int.toNat at_)]? = some (nth q (Int.toNat at_)) := nth_get (by omega)
  refine rk tt_ok [(9, .p 9 0)] [1] [(9, [.i ((nth q (Int.toNat at_)).1), .i ((nth q (Int.toNat at_)).2.1), .i ((nth q (Int.toNat at_)).2.2.1), .s ((nth q (Int.toNat at_)).2.2.2.1), .i ((nth q (Int.toNat at_)).2.2.2.2.1), .i ((nth q (Int.toNat at_)).2.2.2.2.2.1), .s ((nth q (Int.toNat at_)).2.2.2.2.2.2)])] [] [(2, .row [.i ((nth q (Int.toNat at_)).1), .i ((nth q (Int.toNat at_)).2.1), .i ((nth q (Int.toNat at_)).2.2.1), .s ((nth q (Int.toNat at_)).2.2.2.1), .i ((nth q (Int.toNat at_)).2.2.2.2.1), .i ((nth q (Int.toNat at_)).2.2.2.2.2.1), .s ((nth q (Int.toNat at_)).2.2.2.2.2.2)])] (o1 (ob_elem (el_of (i := at_) (by omega) rfl hx1))) ?_
  refine awp_seq ?_
  refine rk tt_ok [(10, .p 10 0)] [] [(10, [.i ((specGetAttr f ((nth q (Int.toNat at_)).2.2.2.1)).1), .i ((specGetAttr f ((nth q (Int.toNat at_)).2.2.2.1)).2.1), .s ((specGetAttr f ((nth q (Int.toNat at_)).2.2.2.1)).2.2)])] [] [(3, .val (.a [.i ((specGetAttr f ((nth q (Int.toNat at_)).2.2.2.1)).1), .i ((specGetAttr f ((nth q (Int.toNat at_)).2.2.2.1)).2.1), .s ((specGetAttr f ((nth q (Int.toNat at_)).2.2.2.1)).2.2)]))] (o1 (ob_call (specGetAttr_a f ((nth q (Int.toNat at_)).2.2.2.1)))) ?_
  refine awp_seq ?_
  refine awp_seq ?_
  refine rk tt_ok [(20, .i ((nth q (Int.toNat at_)).1))] [] [] [] [] (o0) ?_
  refine awp_block ?_
  refine awp_seq ?_
  refine rk tt_ok [(21, .b ((nth q (Int.toNat at_)).1 == (1 : Int)))] [] [] [] [] (o0) ?_
  refine ck ((nth q (Int.toNat at_)).1 == (1 : Int)) (fun h4 => ?_) (fun h4 => ?_)
  ·
   refine awp_seq ?_
   refine rk tt_ok [(8, .b true)] [0, 8, 10, 20, 21] [] [10] [] (o0) ?_
   refine awp_ret ?_
   exact pret [] (congrArg (fun z => (.b z : AV)) (show specl14Node (n_ + 1) q at_ f a_ = true from bif_t h4 (rfl)).symm)
  ·
   have h4d := ne_of_beq h4
   refine awp_seq ?_
   refine rk tt_ok [(23, .b ((nth q (Int.toNat at_)).1 == (2 : Int)))] [21] [] [] [] (o0) ?_
   refine ck ((nth q (Int.toNat at_)).1 == (2 : Int)) (fun h5 => ?_) (fun h5 => ?_)
   ·
    refine awp_seq ?_
    refine rk tt_ok [(8, .b ((specGetAttr f ((nth q (Int.toNat at_)).2.2.2.1)).1 != (0 : Int)))] [0, 8, 10, 20, 23] [] [10] [] (o0) ?_
    refine awp_ret ?_
    exact pret [] (congrArg (fun z => (.b z : AV)) (show specl14Node (n_ + 1) q at_ f a_ = ((specGetAttr f ((nth q (Int.toNat at_)).2.2.2.1)).1 != (0 : Int)) from bif_f h4 (bif_t h5 (rfl))).symm)
   ·
    have h5d := ne_of_beq h5
    refine awp_seq ?_
    refine rk tt_ok [(28, .b ((nth q (Int.toNat at_)).1 == (3 : Int)))] [23] [] [] [] (o0) ?_
    refine ck ((nth q (Int.toNat at_)).1 == (3 : Int)) (fun h6 => ?_) (fun h6 => ?_)
    ·
     refine awp_seq ?_
     refine rk tt_ok [(8, .b (((specGetAttr f ((nth q (Int.toNat at_)).2.2.2.1)).1 == (nth q (Int.toNat at_)).2.2.2.2.1) && (((specGetAttr f ((nth q (Int.toNat at_)).2.2.2.1)).2.1 == (nth q (Int.toNat at_)).2.2.2.2.2.1) && ((((specGetAttr f ((nth q (Int.toNat at_)).2.2.2.1)).2.2).toList == ((nth q (Int.toNat at_)).2.2.2.2.2.2).toList) && true))))] [0, 8, 10, 20, 28] [] [10] [] (o0) ?_
     refine awp_ret ?_
     exact pret [] (congrArg (fun z => (.b z : AV)) (show specl14Node (n_ + 1) q at_ f a_ = (((specGetAttr f ((nth q (Int.toNat at_)).2.2.2.1)).1 == (nth q (Int.toNat at_)).2.2.2.2.1) && (((specGetAttr f ((nth q (Int.toNat at_)).2.2.2.1)).2.1 == (nth q (Int.toNat at_)).2.2.2.2.2.1) && ((((specGetAttr f ((nth q (Int.toNat at_)).2.2.2.1)).2.2).toList == ((nth q (Int.toNat at_)).2.2.2.2.2.2).toList) && true))) from bif_f h4 (bif_f h5 (bif_t h6 (rfl)))).symm)
    ·
     have h6d := ne_of_beq h6
     refine awp_seq ?_
     refine rk tt_ok [(34, .b ((nth q (Int.toNat at_)).1 == (4 : Int)))] [28] [] [] [] (o0) ?_
     refine ck ((nth q (Int.toNat at_)).1 == (4 : Int)) (fun h7 => ?_) (fun h7 => ?_)
     ·
      refine awp_seq ?_
      refine jn [(8, .b (((specGetAttr f ((nth q (Int.toNat at_)).2.2.2.1)).1 == (1 : Int)) && decide ((specGetAttr f ((nth q (Int.toNat at_)).2.2.2.1)).2.1 < (nth q (Int.toNat at_)).2.2.2.2.2.1)))] [0, 8, 10, 20, 34] [] [10] ((specGetAttr f ((nth q (Int.toNat at_)).2.2.2.1)).1 == (1 : Int)) (fun h8 => ?_) (fun h8 => ?_) ?_
      ·
       refine rk tt_ok [(8, .b (decide ((specGetAttr f ((nth q (Int.toNat at_)).2.2.2.1)).2.1 < (nth q (Int.toNat at_)).2.2.2.2.2.1)))] [0, 8, 10, 20, 34] [] [10] [(2, .val (.b true))] (o1 (ob_eq (av_bool h8))) ?_
       exact ⟨rfl, weak_fit (by rw [h8]; first | done | kernel_rfl)⟩
      ·
       refine rk tt_ok [] [0, 10, 20, 34] [] [10] [(2, .val (.b false))] (o1 (ob_eq (av_bool h8))) ?_
       exact ⟨rfl, weak_fit (by rw [h8]; first | done | kernel_rfl)⟩
      refine awp_ret ?_
      exact pret [] (congrArg (fun z => (.b z : AV)) (show specl14Node (n_ + 1) q at_ f a_ = (((specGetAttr f ((nth q (Int.toNat at_)).2.2.2.1)).1 == (1 : Int)) && decide ((specGetAttr f ((nth q (Int.toNat at_)).2.2.2.1)).2.1 < (nth q (Int.toNat at_)).2.2.2.2.2.1)) from bif_f h4 (bif_f h5 (bif_f h6 (bif_t h7 (rfl))))).symm)
     ·
      have h7d := ne_of_beq h7
      refine awp_seq ?_
      refine rk tt_ok [(47, .b ((nth q (Int.toNat at_)).1 == (5 : Int)))] [10, 34] [] [10] [] (o0) ?_
      refine ck ((nth q (Int.toNat at_)).1 == (5 : Int)) (fun h9 => ?_) (fun h9 => ?_)
      ·
       have h9d := eq_of_beq h9
       refine awp_seq ?_
       refine rk tt_ok [(8, .b (!(specl14Node n_ q ((nth q (Int.toNat at_)).2.1) f a_)))] [0, 8, 20, 47] [] [] [(5, .val (.b (specl14Node n_ q ((nth q (Int.toNat at_)).2.1) f a_)))] (o1 (ob_call (ih q ((nth q (Int.toNat at_)).2.1) f a_ hv (by have hz := ql_a hv ha hb h9; omega) (by have hz := ql_a hv ha hb h9; omega) (by have hz := ql_a hv ha hb h9; omega)))) ?_
       refine awp_ret ?_
       exact pret [] (congrArg (fun z => (.b z : AV)) (show specl14Node (n_ + 1) q at_ f a_ = (!(specl14Node n_ q ((nth q (Int.toNat at_)).2.1) f a_)) from bif_f h4 (bif_f h5 (bif_f h6 (bif_f h7 (bif_t h9 (rfl)))))).symm)
      ·
       have h9d := ne_of_beq h9
       refine awp_seq ?_
       refine rk tt_ok [(56, .b ((nth q (Int.toNat at_)).1 == (6 : Int)))] [47] [] [] [] (o0) ?_
       refine ck ((nth q (Int.toNat at_)).1 == (6 : Int)) (fun h10 => ?_) (fun h10 => ?_)
       ·
        have h10d := eq_of_beq h10
        refine awp_seq ?_
        refine jn [(8, .b ((specl14Node n_ q ((nth q (Int.toNat at_)).2.1) f a_) && (specl14Node n_ q ((nth q (Int.toNat at_)).2.2.1) f a_)))] [0, 8, 20, 56] [] [] (specl14Node n_ q ((nth q (Int.toNat at_)).2.1) f a_) (fun h11 => ?_) (fun h11 => ?_) ?_
        ·
         refine rk tt_ok [(8, .b (specl14Node n_ q ((nth q (Int.toNat at_)).2.2.1) f a_))] [0, 8, 20, 56] [] [] [(5, .val (.b true)), (12, .val (.b (specl14Node n_ q ((nth q (Int.toNat at_)).2.2.1) f a_)))] (o2 (ob_call (cb h11 (ih q ((nth q (Int.toNat at_)).2.1) f a_ hv (by have hz := ql_b hv ha hb h10; omega) (by have hz := ql_b hv ha hb h10; omega) (by have hz := ql_b hv ha hb h10; omega)))) (o1 (ob_call (ih q ((nth q (Int.toNat at_)).2.2.1) f a_ hv (by have hz := qr_b hv ha hb h10; omega) (by have hz := qr_b hv ha hb h10; omega) (by have hz := qr_b hv ha hb h10; omega))))) ?_
         exact ⟨rfl, weak_fit (by rw [h11]; first | done | kernel_rfl)⟩
        ·
         refine rk tt_ok [] [0, 20, 56] [] [] [(5, .val (.b false))] (o1 (ob_call (cb h11 (ih q ((nth q (Int.toNat at_)).2.1) f a_ hv (by have hz := ql_b hv ha hb h10; omega) (by have hz := ql_b hv ha hb h10; omega) (by have hz := ql_b hv ha hb h10; omega))))) ?_
         exact ⟨rfl, weak_fit (by rw [h11]; first | done | kernel_rfl)⟩
        refine awp_ret ?_
        exact pret [] (congrArg (fun z => (.b z : AV)) (show specl14Node (n_ + 1) q at_ f a_ = ((specl14Node n_ q ((nth q (Int.toNat at_)).2.1) f a_) && (specl14Node n_ q ((nth q (Int.toNat at_)).2.2.1) f a_)) from bif_f h4 (bif_f h5 (bif_f h6 (bif_f h7 (bif_f h9 (bif_t h10 (rfl))))))).symm)
       ·
        have h10d := ne_of_beq h10
        refine awp_seq ?_
        refine rk tt_ok [(72, .b ((nth q (Int.toNat at_)).1 == (7 : Int)))] [56] [] [] [] (o0) ?_
        refine ck ((nth q (Int.toNat at_)).1 == (7 : Int)) (fun h12 => ?_) (fun h12 => ?_)
        ·
         have h12d := eq_of_beq h12
         refine awp_seq ?_
         refine jn [(8, .b ((specl14Node n_ q ((nth q (Int.toNat at_)).2.1) f a_) || (specl14Node n_ q ((nth q (Int.toNat at_)).2.2.1) f a_)))] [0, 8, 20, 72] [] [] (specl14Node n_ q ((nth q (Int.toNat at_)).2.1) f a_) (fun h13 => ?_) (fun h13 => ?_) ?_
         ·
          refine rk tt_ok [(8, .b true)] [0, 8, 20, 72] [] [] [(5, .val (.b true))] (o1 (ob_call (cb h13 (ih q ((nth q (Int.toNat at_)).2.1) f a_ hv (by have hz := ql_c hv ha hb h12; omega) (by have hz := ql_c hv ha hb h12; omega) (by have hz := ql_c hv ha hb h12; omega))))) ?_
          exact ⟨rfl, weak_fit (by rw [h13]; first | done | kernel_rfl)⟩
         ·
          refine rk tt_ok [(8, .b (specl14Node n_ q ((nth q (Int.toNat at_)).2.2.1) f a_))] [0, 8, 20, 72] [] [] [(5, .val (.b false)), (12, .val (.b (specl14Node n_ q ((nth q (Int.toNat at_)).2.2.1) f a_)))] (o2 (ob_call (cb h13 (ih q ((nth q (Int.toNat at_)).2.1) f a_ hv (by have hz := ql_c hv ha hb h12; omega) (by have hz := ql_c hv ha hb h12; omega) (by have hz := ql_c hv ha hb h12; omega)))) (o1 (ob_call (ih q ((nth q (Int.toNat at_)).2.2.1) f a_ hv (by have hz := qr_c hv ha hb h12; omega) (by have hz := qr_c hv ha hb h12; omega) (by have hz := qr_c hv ha hb h12; omega))))) ?_
          exact ⟨rfl, weak_fit (by rw [h13]; first | done | kernel_rfl)⟩
         refine awp_ret ?_
         exact pret [] (congrArg (fun z => (.b z : AV)) (show specl14Node (n_ + 1) q at_ f a_ = ((specl14Node n_ q ((nth q (Int.toNat at_)).2.1) f a_) || (specl14Node n_ q ((nth q (Int.toNat at_)).2.2.1) f a_)) from bif_f h4 (bif_f h5 (bif_f h6 (bif_f h7 (bif_f h9 (bif_f h10 (bif_t h12 (rfl)))))))).symm)
        ·
         refine awp_seq ?_
         refine rk tt_ok [(88, .b ((nth q (Int.toNat at_)).1 == (8 : Int)))] [0, 20, 72] [] [] [] (o0) ?_
         refine ck ((nth q (Int.toNat at_)).1 == (8 : Int)) (fun h14 => ?_) (fun h14 => ?_)
         ·
          refine awp_seq ?_
          refine rd' tt_ok tt_mx [(8, .b (specContainsID (specResultIDs a_ ((nth q (Int.toNat at_)).2.2.2.1)) f.1))] [8, 88] [] [] [(3, .val (.o 0 (specResultIDs a_ ((nth q (Int.toNat at_)).2.2.2.1)))), (6, .val (.b (specContainsID (specResultIDs a_ ((nth q (Int.toNat at_)).2.2.2.1)) f.1)))] (o2 (ob_call (specResultIDs_a a_ ((nth q (Int.toNat at_)).2.2.2.1))) (o1 (ob_call (specContainsID_a (specResultIDs a_ ((nth q (Int.toNat at_)).2.2.2.1)) f.1)))) ?_
          refine awp_ret ?_
          exact pret [] (congrArg (fun z => (.b z : AV)) (show specl14Node (n_ + 1) q at_ f a_ = (specContainsID (specResultIDs a_ ((nth q (Int.toNat at_)).2.2.2.1)) f.1) from bif_f h4 (bif_f h5 (bif_f h6 (bif_f h7 (bif_f h9 (bif_f h10 (bif_f h12 (bif_t h14 (rfl))))))))).symm)
         ·
          refine awp_skip ?_
          refine awp_seq ?_
          refine jn [(8, .b ((f.2.2.2.1 != (0 : Int)) && (specContainsID (specResultIDs a_ ((nth q (Int.toNat at_)).2.2.2.1)) f.2.2.2.1)))] [3, 6, 8, 9, 88] [] [6, 9] (f.2.2.2.1 != (0 : Int)) (fun h15 => ?_) (fun h15 => ?_) ?_
          ·
           refine rd' tt_ok tt_mx [(8, .b (specContainsID (specResultIDs a_ ((nth q (Int.toNat at_)).2.2.2.1)) f.2.2.2.1))] [3, 6, 8, 9, 88] [] [6, 9] [(2, .val (.b true)), (7, .val (.o 0 (specResultIDs a_ ((nth q (Int.toNat at_)).2.2.2.1)))), (10, .val (.b (specContainsID (specResultIDs a_ ((nth q (Int.toNat at_)).2.2.2.1)) f.2.2.2.1)))] (o2 (ob_eq (av_bool h15)) (o2 (ob_call (specResultIDs_a a_ ((nth q (Int.toNat at_)).2.2.2.1))) (o1 (ob_call (specContainsID_a (specResultIDs a_ ((nth q (Int.toNat at_)).2.2.2.1)) f.2.2.2.1))))) ?_
           exact ⟨rfl, weak_fit (by rw [h15]; first | done | kernel_rfl)⟩
          ·
           refine rd' tt_ok tt_mx [] [3, 6, 9, 88] [] [6, 9] [(2, .val (.b false))] (o1 (ob_eq (av_bool h15))) ?_
           exact ⟨rfl, weak_fit (by rw [h15]; first | done | kernel_rfl)⟩
          refine awp_ret ?_
          exact pret [] (congrArg (fun z => (.b z : AV)) (show specl14Node (n_ + 1) q at_ f a_ = ((f.2.2.2.1 != (0 : Int)) && (specContainsID (specResultIDs a_ ((nth q (Int.toNat at_)).2.2.2.1)) f.2.2.2.1)) from bif_f h4 (bif_f h5 (bif_f h6 (bif_f h7 (bif_f h9 (bif_f h10 (bif_f h12 (bif_f h14 (rfl))))))))).symm)
def specMatches (q : (List NodeD)) (f : FileD) (a_ : (List ResultD)) : Bool := ((specIsValidQuery q) && (specl14Node (List.length q) q ((q.length : Int) - 1) f a_))
theorem specMatches_a (q : (List NodeD)) (f : FileD) (a_ : (List ResultD)) : ACalls Tryz.prog 197 [.h q, .a [.i f.1, .i f.2.1, .b f.2.2.1, .i f.2.2.2.1, .h f.2.2.2.2], .h a_] (.b (specMatches q f a_)) := by
 refine acalls_of (tt := tt) tt_ok Tryz.func197 (fn := Tryz.f197) rfl (by unfold FnOk; kernel_rfl) (Nat.le_of_ble_eq_true rfl) fun w0 F0 => ?_
 refine awp_seq ?_
 refine rk tt_ok [(4, .p 4 0), (6, .b false)] [1] [(4, [.i f.1, .i f.2.1, .b f.2.2.1, .i f.2.2.2.1, .h f.2.2.2.2])] [] [] (o0) ?_
 refine awp_seq ?_
 refine jn [(6, .b ((specIsValidQuery q) && (specl14Node (List.length q) q ((q.length : Int) - 1) f a_)))] [0, 2, 4, 6] [] [4] (specIsValidQuery q) (fun h1 => ?_) (fun h1 => ?_) ?_
 ·
  refine wdT 0 0 .sh q (fun hw2 => ?_)
  have hl3 : List.length q ≤ 1073741824 := wide_len (hw2)
  refine rk tt_ok [(6, .b (specl14Node (List.length q) q ((q.length : Int) - 1) f a_))] [0, 2, 4, 6] [] [4] [(1, .val (.b true)), (5, .val (.i (q.length : Int))), (6, .val (.i ((q.length : Int) - 1))), (9, .val (.b (specl14Node (List.length q) q ((q.length : Int) - 1) f a_)))] (o2 (ob_call (cb h1 (specIsValidQuery_a q))) (o2 (ob_eq (av_len q)) (o2 (ob_eq (av_i (IntWalk.i64_in ((q.length : Int) - 1) (by omega)))) (o1 (ob_call (specl14Node_a (List.length q) q ((q.length : Int) - 1) f a_ (vq_spec h1) (by have := vq_len (vq_spec h1); omega) (by omega) (by omega))))))) ?_
  exact ⟨rfl, weak_fit (by rw [h1]; first | done | kernel_rfl)⟩
 ·
  refine rk tt_ok [] [0, 2, 4] [] [4] [(1, .val (.b false))] (o1 (ob_call (cb h1 (specIsValidQuery_a q)))) ?_
  exact ⟨rfl, weak_fit (by rw [h1]; first | done | kernel_rfl)⟩
 refine awp_ret ?_
 exact pret [] (congrArg (fun z => (.b z : AV)) (show specMatches q f a_ = ((specIsValidQuery q) && (specl14Node (List.length q) q ((q.length : Int) - 1) f a_)) from rfl).symm)
def specSelectFiles_f0 (q : (List NodeD)) (a_ : (List ResultD)) (_ : Nat) (a0 : FileD) (s0 : (List Int)) : Rd ((List Int)) ((List Int)) ((List Int)) := (bif (specMatches q a0 a_) then (.next (s0 ++ [a0.1])) else (.next s0))
def specSelectFiles_e0 (_ : Nat) (s0 : (List Int)) : (List Int) := s0
def specSelectFiles (s_ : StoreD) (q : (List NodeD)) (a_ : (List ResultD)) : (List Int) := (Out.on (forL (specSelectFiles_f0 q a_) specSelectFiles_e0 s_.2.1 0 []) (fun y0 => y0))
theorem specSelectFiles_a (s_ : StoreD) (q : (List NodeD)) (a_ : (List ResultD)) : ACalls Tryz.prog 170 [.a [.h s_.1, .h s_.2.1, .i s_.2.2], .h q, .h a_] (.o 0 (specSelectFiles s_ q a_)) := by
 refine acalls_of (tt := tt) tt_ok Tryz.func170 (fn := Tryz.f170) rfl (by unfold FnOk; kernel_rfl) (Nat.le_of_ble_eq_true rfl) fun w0 F0 => ?_
 refine awp_seq ?_
 refine rk tt_ok [(3, .p 3 0), (6, .e 0)] [0] [(3, [.h s_.1, .h s_.2.1, .i s_.2.2])] [] [] (o0) ?_
 refine awp_seq ?_
 refine rk tt_ok [(7, .one (.slc (.own true 576) 1 []))] [] [] [] [] (o0) ?_
 refine awp_seq ?_
 refine awp_seq ?_
 refine rk tt_ok [(8, .i 0)] [] [] [] [] (o0) ?_
 refine wdB 3 1 .sh s_.2.1 (fun hw1 => ?_)
 have hl2 : List.length s_.2.1 ≤ 1073741824 := wide_len (hw1)
 refine blk (fun (k0 : Nat) (s0 : (List Int)) => [(7, .o 147204 s0), (8, .i ((k0 : Nat) : Int))]) [7, 8] (fun k0 s0 => []) [] (fun (y0 : (List Int)) => [(7, .o 147354 y0)]) [1, 2, 3, 7, 8] (fun y0 => []) [3] (fun (k0 : Nat) (s0 : (List Int)) => (forL (specSelectFiles_f0 q a_) specSelectFiles_e0 s_.2.1 0 []) = forL (specSelectFiles_f0 q a_) specSelectFiles_e0 (List.drop k0 s_.2.1) k0 s0 ∧ List.length s0 ≤ k0) (fun (y0 : (List Int)) => (forL (specSelectFiles_f0 q a_) specSelectFiles_e0 s_.2.1 0 []) = .brk y0) s_.2.1.length [] (weak_sf [(576, 147204)] (by kernel_rfl)) ⟨rfl, (by simp)⟩ (fun k0 s0 hk0 hI0 => ?_) (fun k0 s0 hk0 hI0 => ?_) (fun y0 hD0 => ?_)
 ·
  have hA0_0 := hI0.2
  obtain ⟨a0, hx0⟩ := get_some (l := s_.2.1) (i := k0) hk0
  refine awp_seq ?_
  refine awp_seq ?_
  refine rk tt_ok [(14, .b true)] [] [] [] [(3, .val (.i (s_.2.1.length : Int))), (4, .val (.b true))] (o2 (ob_eq (av_len s_.2.1)) (o1 (ob_eq (av_bool (decide_eq_true (p := ((k0 : Nat) : Int) < (s_.2.1.length : Int)) (by omega)))))) ?_
  refine ckT ?_
  refine awp_skip ?_
  refine awp_seq ?_
  refine awp_block ?_
  refine awp_seq ?_
  refine rk tt_ok [(24, .b (specMatches q a0 a_))] [14] [] [] [(4, .row [.i a0.1, .i a0.2.1, .b a0.2.2.1, .i a0.2.2.2.1, .h a0.2.2.2.2]), (7, .val (.b (specMatches q a0 a_)))] (o2 (ob_elem (el_of (i := ((k0 : Nat) : Int)) (by omega) rfl hx0)) (o1 (ob_call (specMatches_a q a0 a_)))) ?_
  refine ck (specMatches q a0 a_) (fun h3 => ?_) (fun h3 => ?_)
  ·
   refine wdT 7 0 (.own true 147204) s0 (fun hw4 => ?_)
   have hl5 : List.length s0 ≤ 1073741824 := wide_len (hw4)
   refine rk tt_ok [(7, .one (.slc (.own true 2112) 1 ((eL s0) ++ [[.i a0.1]])))] [7, 24] [] [] [(4, .row [.i a0.1, .i a0.2.1, .b a0.2.2.1, .i a0.2.2.2.1, .h a0.2.2.2.2])] (o2 (ob_elem (el_of (i := ((k0 : Nat) : Int)) (by omega) rfl hx0)) (o1 (ob_len (len_of (eL_length s0) (eL_length [a0.1]) (by first | omega | (simp; omega) | simp))))) ?_
   refine eqn [(7, .o 2112 (s0 ++ [a0.1]))] [7] [] [] (by rw [show ((eL s0) ++ [[.i a0.1]]) = (eL (s0 ++ [a0.1])) from app_eL (rfl) (rfl)]; first | done | kernel_rfl) ?_
   refine rk tt_ok [(8, .i ((k0 + 1 : Nat) : Int))] [8] [] [] [(1, .val (.i ((k0 + 1 : Nat) : Int)))] (o1 (ob_eq (av_i (wrap_succ k0 (by omega))))) ?_
   exact Exists.intro (s0 ++ [a0.1]) (And.intro (weak_sf [(2112, 147204)] (by kernel_rfl)) ⟨forL_next hx0 (bif_t h3 (rfl)) hI0.1, by first | omega | (simp; omega) | simp⟩)
  ·
   refine awp_skip ?_
   refine rk tt_ok [(8, .i ((k0 + 1 : Nat) : Int))] [8, 24] [] [] [(1, .val (.i ((k0 + 1 : Nat) : Int)))] (o1 (ob_eq (av_i (wrap_succ k0 (by omega))))) ?_
   exact Exists.intro s0 (And.intro (weak_fit (by kernel_rfl)) ⟨forL_next hx0 (bif_f h3 (rfl)) hI0.1, by first | omega | (simp; omega) | simp⟩)
 ·
  have hA0_0 := hI0.2
  refine awp_seq ?_
  refine awp_seq ?_
  refine rk tt_ok [(14, .b false)] [] [] [] [(3, .val (.i (s_.2.1.length : Int))), (4, .val (.b false))] (o2 (ob_eq (av_len s_.2.1)) (o1 (ob_eq (av_bool (decide_eq_false (p := ((k0 : Nat) : Int) < (s_.2.1.length : Int)) (by omega)))))) ?_
  refine ckF ?_
  refine awp_exit ?_
  exact Exists.intro s0 (And.intro (weak_sf [(147204, 147354)] (by kernel_rfl)) (forL_end hk0 (rfl) hI0.1))
 ·
  refine awp_seq ?_
  refine rk tt_ok [(6, .o 147354 y0)] [6, 7] [] [] [] (o0) ?_
  refine awp_ret ?_
  exact pret [] (congrArg (fun z => (.o 0 z : AV)) (show specSelectFiles s_ q a_ = y0 from on_b hD0 (rfl)).symm)
end Go.Proofs.YtnhmnfmhnepjmaaGreat
