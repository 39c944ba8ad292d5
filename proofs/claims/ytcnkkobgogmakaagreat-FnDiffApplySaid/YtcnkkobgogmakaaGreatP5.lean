/- Texts of this proof, put together by a program: Ckc, Slb, Ev, Ex, Ey, Eva, Evb, Tw, Clr, Inr, Ins, Df, Eua, Eub, Gb, Cua, Cub, Cuc, Cud, Vsa, Vs, Drl. -/
import Derived.Test.YtcnkkobgogmakaaGreatP4
import Derived.KernelRfl
import Derived.Laws.Externs
import Derived.Lib.AppendZerosOnto
import Derived.Deep.RegionLaw
set_option linter.unusedVariables false
set_option linter.unusedSimpArgs false
namespace Go.Proofs.YtcnkkobgogmakaaGreat
open Go.RowKit
open GoE (enc wide)
def implGetAttr_f0 (name : ByteArray) (_ : Nat) (a0 : AttrD) (_ : Unit) : Rd (ValueD) (Unit) (Unit) := (bif (a0.1.toList == name.toList) then (.ret a0.2) else (.next ()))
def implGetAttr_e0 (_ : Nat) (_ : Unit) : Unit := ()
def implGetAttr (f : FileD) (name : ByteArray) : ValueD := (Out.on (forL (implGetAttr_f0 name) implGetAttr_e0 f.2.2.2.2 0 ()) (fun _ => (0, 0, ⟨#[]⟩)))
def implIntAttr (f : FileD) (name : ByteArray) : Int × Bool := (bif ((implGetAttr f name).1 != (1 : Int)) then (0, false) else ((implGetAttr f name).2.1, true))
def implResultIDs_f0 (name : ByteArray) (_ : Nat) (a0 : ResultD) (_ : Unit) : Rd ((List Int)) (Unit) (Unit) := (bif (a0.1.toList == name.toList) then (.ret a0.2) else (.next ()))
def implResultIDs_e0 (_ : Nat) (_ : Unit) : Unit := ()
def implResultIDs (r : (List ResultD)) (name : ByteArray) : (List Int) := (Out.on (forL (implResultIDs_f0 name) implResultIDs_e0 r 0 ()) (fun _ => []))
theorem implResultIDs_a (r : (List ResultD)) (name : ByteArray) : ACalls Tryz.prog 57 [.h r, .s name] (.o 0 (implResultIDs r name)) := by
 refine en tt_ok Tryz.func57 fun w0 F0 hG => ?_
 refine sn tt_ok [0, 1, 4] [] (p0) ?_
 refine awp_seq ?_
 refine tn tt_ok [1, 4, 7, 8, 9] [] (pl 1 r p0) ?_
 refine mz [(4, .e 0), (7, .h r), (8, .i (r.length : Int)), (9, .i 0)] [0] [] [] ?_
 refine wT 7 0 .sh r (fun hw1 hl2 => ?_)
 refine blL0 (implResultIDs_f0 name) implResultIDs_e0 r () (fun k0 _ => [(9, .i ((k0 : Nat) : Int))]) [9] (fun _ => []) [1, 7, 8, 9] (weak_fit (by kernel_rfl)) (fun k0 s0 hk0 hI0 => ?_) (fun k0 s0 hk0 hI0 => ?_) (fun y0 hD0 => ?_)
 ·
  obtain ⟨a0, hx0⟩ := get_some (l := r) (i := k0) hk0
  refine sn tt_ok [1, 4, 7, 8, 9, 10] [] (pe 0 (av_bool (decide_eq_true (p := ((k0 : Nat) : Int) < (r.length : Int)) (by omega))) p0) ?_
  refine awp_seq ?_
  refine ckT ?_
  refine awp_skip ?_
  refine awp_seq ?_
  refine awp_block ?_
  refine tn tt_ok [1, 4, 6, 7, 8, 9] [6] (pn 0 hx0 p0) ?_
  refine tu tt_ok [(6, .p 6 0), (16, .b (a0.1.toList == name.toList))] [] [(6, [.s a0.1, .h a0.2])] [] (p0) ?_
  refine ck (a0.1.toList == name.toList) (fun h3 => ?_) (fun h3 => ?_)
  ·
   refine sn tt_ok [1, 4, 7, 8, 9] [] (pc 2 (cloneInt_a a0.2) p0) ?_
   refine awp_ret ?_
   have hr4 : (forL (implResultIDs_f0 name) implResultIDs_e0 r 0 ()) = .ret a0.2 := forL_ret hx0 (bif_t h3 (rfl)) hI0
   exact po0 [] (on_r hr4)
  ·
   refine awp_skip ?_
   refine rn tt_ok [1, 4, 7, 8, 9] [] (pe 0 (av_i (wrap_succ k0 (by omega))) p0) ?_
   exact Exists.intro _ (And.intro (weak_fit (by kernel_rfl)) (forL_next hx0 (bif_f h3 (rfl)) hI0))
 ·
  refine sn tt_ok [1, 4, 7, 8, 9, 10] [] (pe 0 (av_bool (decide_eq_false (p := ((k0 : Nat) : Int) < (r.length : Int)) (by omega))) p0) ?_
  refine awp_seq ?_
  refine ckF ?_
  refine awp_exit ?_
  exact Exists.intro _ (And.intro (weak_fit (by kernel_rfl)) (forL_end hk0 (rfl) hI0))
 ·
  refine sn tt_ok [4] [] (p0) ?_
  refine opn [(false, 4, 0, true, 384000, 1)] ?_
  refine awp_ret ?_
  exact po0 [] (on_b hD0 (rfl))
def slicesIndex_int_f0 (v : Int) (k0 : Nat) (a0 : Int) (_ : Unit) : Rd (Int) (Unit) (Unit) := (bif (v == a0) then (.ret ((k0 : Nat) : Int)) else (.next ()))
def slicesIndex_int_e0 (_ : Nat) (_ : Unit) : Unit := ()
def slicesIndex_int (s_ : (List Int)) (v : Int) : Int := (Out.on (forL (slicesIndex_int_f0 v) slicesIndex_int_e0 s_ 0 ()) (fun _ => -1))
theorem slicesIndex_int_a (s_ : (List Int)) (v : Int) : ACalls Tryz.prog 101 [.h s_, .i v] (.i (slicesIndex_int s_ v)) := by
 refine en tt_ok Tryz.func101 fun w0 F0 hG => ?_
 refine sn tt_ok [0, 1, 4] [] (p0) ?_
 refine awp_seq ?_
 refine tn tt_ok [0, 1, 4, 7, 8] [] (pl 1 s_ p0) ?_
 refine mz [(4, .i 0), (7, .i (s_.length : Int)), (8, .i 0)] [] [] [] ?_
 refine wT 0 0 .sh s_ (fun hw1 hl2 => ?_)
 refine blL0 (slicesIndex_int_f0 v) slicesIndex_int_e0 s_ () (fun k0 _ => [(8, .i ((k0 : Nat) : Int))]) [8] (fun _ => []) [0, 1, 7, 8] (weak_fit (by kernel_rfl)) (fun k0 s0 hk0 hI0 => ?_) (fun k0 s0 hk0 hI0 => ?_) (fun y0 hD0 => ?_)
 ·
  obtain ⟨a0, hx0⟩ := get_some (l := s_) (i := k0) hk0
  refine sn tt_ok [0, 1, 4, 7, 8, 9] [] (pe 0 (av_bool (decide_eq_true (p := ((k0 : Nat) : Int) < (s_.length : Int)) (by omega))) p0) ?_
  refine awp_seq ?_
  refine ckT ?_
  refine awp_skip ?_
  refine awp_seq ?_
  refine awp_block ?_
  refine tn tt_ok [0, 1, 4, 5, 7, 8] [] (p0) ?_
  refine tu tt_ok [(5, .i ((k0 : Nat) : Int)), (16, .b (v == a0))] [] [] [] (pn 3 hx0 p0) ?_
  refine ck (v == a0) (fun h3 => ?_) (fun h3 => ?_)
  ·
   refine sn tt_ok [0, 1, 4, 7, 8] [] (p0) ?_
   refine awp_ret ?_
   have hr4 : (forL (slicesIndex_int_f0 v) slicesIndex_int_e0 s_ 0 ()) = .ret ((k0 : Nat) : Int) := forL_ret hx0 (bif_t h3 (rfl)) hI0
   exact pi [] (on_r hr4)
  ·
   have h3d := ne_of_beq h3
   refine awp_skip ?_
   refine rn tt_ok [0, 1, 4, 7, 8] [] (pe 0 (av_i (wrap_succ k0 (by omega))) p0) ?_
   exact Exists.intro _ (And.intro (weak_fit (by kernel_rfl)) (forL_next hx0 (bif_f h3 (rfl)) hI0))
 ·
  refine sn tt_ok [0, 1, 4, 7, 8, 9] [] (pe 0 (av_bool (decide_eq_false (p := ((k0 : Nat) : Int) < (s_.length : Int)) (by omega))) p0) ?_
  refine awp_seq ?_
  refine ckF ?_
  refine awp_exit ?_
  exact Exists.intro _ (And.intro (weak_fit (by kernel_rfl)) (forL_end hk0 (rfl) hI0))
 ·
  refine sn tt_ok [4] [] (p0) ?_
  refine awp_ret ?_
  exact pi [] (on_b hD0 (rfl))
def slicesContains_int (s_ : (List Int)) (v : Int) : Bool := decide ((slicesIndex_int s_ v) ≥ (0 : Int))
theorem slicesContains_int_a (s_ : (List Int)) (v : Int) : ACalls Tryz.prog 60 [.h s_, .i v] (.b (slicesContains_int s_ v)) := by
 refine en tt_ok Tryz.func60 fun w0 F0 hG => ?_
 refine sn tt_ok [0, 1, 4] [] (p0) ?_
 refine tn tt_ok [4] [] (pc 2 (slicesIndex_int_a s_ v) p0) ?_
 refine awp_ret ?_
 exact pb [] (show slicesContains_int s_ v = decide ((slicesIndex_int s_ v) ≥ (0 : Int)) from rfl)
def implContainsID (ids : (List Int)) (id : Int) : Bool := (slicesContains_int ids id)
def implmatchesAt (n_ : Nat) (q : (List NodeD)) (at_ : Int) (f : FileD) (r : (List ResultD)) : Bool := match n_ with
 | 0 => default
 | n_ + 1 => (bif ((nth q (Int.toNat at_)).1 == (2 : Int)) then ((implGetAttr f ((nth q (Int.toNat at_)).2.2.2.1)).1 != (0 : Int)) else (bif ((nth q (Int.toNat at_)).1 == (3 : Int)) then (((implGetAttr f ((nth q (Int.toNat at_)).2.2.2.1)).1 == (nth q (Int.toNat at_)).2.2.2.2.1) && (((implGetAttr f ((nth q (Int.toNat at_)).2.2.2.1)).2.1 == (nth q (Int.toNat at_)).2.2.2.2.2.1) && ((((implGetAttr f ((nth q (Int.toNat at_)).2.2.2.1)).2.2).toList == ((nth q (Int.toNat at_)).2.2.2.2.2.2).toList) && true))) else (bif ((nth q (Int.toNat at_)).1 == (4 : Int)) then (((implIntAttr f ((nth q (Int.toNat at_)).2.2.2.1))).2 && decide (((implIntAttr f ((nth q (Int.toNat at_)).2.2.2.1))).1 < (nth q (Int.toNat at_)).2.2.2.2.2.1)) else (bif ((nth q (Int.toNat at_)).1 == (5 : Int)) then (!(implmatchesAt n_ q ((nth q (Int.toNat at_)).2.1) f r)) else (bif ((nth q (Int.toNat at_)).1 == (6 : Int)) then ((implmatchesAt n_ q ((nth q (Int.toNat at_)).2.1) f r) && (implmatchesAt n_ q ((nth q (Int.toNat at_)).2.2.1) f r)) else (bif ((nth q (Int.toNat at_)).1 == (7 : Int)) then ((implmatchesAt n_ q ((nth q (Int.toNat at_)).2.1) f r) || (implmatchesAt n_ q ((nth q (Int.toNat at_)).2.2.1) f r)) else (bif ((nth q (Int.toNat at_)).1 == (8 : Int)) then (implContainsID (implResultIDs r ((nth q (Int.toNat at_)).2.2.2.1)) f.1) else (bif ((nth q (Int.toNat at_)).1 == (9 : Int)) then ((f.2.2.2.1 != (0 : Int)) && (implContainsID (implResultIDs r ((nth q (Int.toNat at_)).2.2.2.1)) f.2.2.2.1)) else true))))))))
def implMatches (q : (List NodeD)) (f : FileD) (r : (List ResultD)) : Bool := ((implIsValidQuery q) && (implmatchesAt (List.length q) q ((q.length : Int) - 1) f r))
def implSelectFiles_f0 (q : (List NodeD)) (r : (List ResultD)) (_ : Nat) (a0 : FileD) (s0 : (List Int)) : Rd ((List Int)) ((List Int)) ((List Int)) := (bif (implMatches q a0 r) then (.next (s0 ++ [a0.1])) else (.next s0))
def implSelectFiles_e0 (_ : Nat) (s0 : (List Int)) : (List Int) := s0
def implSelectFiles (s_ : StoreD) (q : (List NodeD)) (r : (List ResultD)) : (List Int) := (Out.on (forL (implSelectFiles_f0 q r) implSelectFiles_e0 s_.2.1 0 []) (fun y0 => y0))
def specGetAttr_f0 (name : ByteArray) (_ : Nat) (a0 : AttrD) (_ : Unit) : Rd (ValueD) (Unit) (Unit) := (bif (a0.1.toList == name.toList) then (.ret a0.2) else (.next ()))
def specGetAttr_e0 (_ : Nat) (_ : Unit) : Unit := ()
def specGetAttr (f : FileD) (name : ByteArray) : ValueD := (Out.on (forL (specGetAttr_f0 name) specGetAttr_e0 f.2.2.2.2 0 ()) (fun _ => (0, 0, ⟨#[]⟩)))
theorem specGetAttr_a (f : FileD) (name : ByteArray) : ACalls Tryz.prog 18 [.a [.i f.1, .i f.2.1, .b f.2.2.1, .i f.2.2.2.1, .h f.2.2.2.2], .s name] (.a [.i ((specGetAttr f name).1), .i ((specGetAttr f name).2.1), .s ((specGetAttr f name).2.2)]) := by
 refine en tt_ok Tryz.func18 fun w0 F0 hG => ?_
 refine sn tt_ok [1, 2, 4] [2, 4] (p0) ?_
 refine awp_seq ?_
 refine tn tt_ok [1, 2, 4, 5] [2, 4] (p0) ?_
 refine mz [(2, .p 2 0), (4, .p 4 0), (5, .i 0)] [0] [(2, [.i f.1, .i f.2.1, .b f.2.2.1, .i f.2.2.2.1, .h f.2.2.2.2]), (4, [.i 0, .i 0, .s ⟨#[]⟩])] [] ?_
 refine wB 2 4 .sh f.2.2.2.2 (fun hw1 hl2 => ?_)
 refine blL0b (specGetAttr_f0 name) specGetAttr_e0 f.2.2.2.2 () (fun k0 _ => [(5, .i ((k0 : Nat) : Int))]) [5] (fun _ _ => []) [] (fun _ => []) [1, 2, 5] (fun _ => []) [2] (weak_fit (by kernel_rfl)) (fun k0 s0 hk0 hI0 => ?_) (fun k0 s0 hk0 hI0 => ?_) (fun y0 hD0 => ?_)
 ·
  obtain ⟨a0, hx0⟩ := get_some (l := f.2.2.2.2) (i := k0) hk0
  refine awp_seq ?_
  refine sn tt_ok [1, 2, 4, 5, 10] [2, 4] (pl 3 f.2.2.2.2 (pe 4 (av_bool (decide_eq_true (p := ((k0 : Nat) : Int) < (f.2.2.2.2.length : Int)) (by omega))) p0)) ?_
  refine ckT ?_
  refine awp_skip ?_
  refine awp_seq ?_
  refine awp_block ?_
  refine tn tt_ok [1, 2, 4, 5, 20] [2, 4] (pn 3 hx0 p0) ?_
  refine ck (a0.1.toList == name.toList) (fun h3 => ?_) (fun h3 => ?_)
  ·
   refine tu tt_ok [] [] [(4, [.i a0.2.1, .i a0.2.2.1, .s a0.2.2.2])] [4] (pn 3 hx0 p0) ?_
   refine awp_ret ?_
   have hr4 : (forL (specGetAttr_f0 name) specGetAttr_e0 f.2.2.2.2 0 ()) = .ret a0.2 := forL_ret hx0 (bif_t h3 (rfl)) hI0
   exact pz [] (show specGetAttr f name = _ from on_r hr4) (fun z => .a [.i z.1, .i z.2.1, .s z.2.2])
  ·
   refine awp_skip ?_
   refine qu tt_ok [(5, .i ((k0 + 1 : Nat) : Int))] [5] [] [] (pe 1 (av_i (wrap_succ k0 (by omega))) p0) ?_
   exact Exists.intro _ (And.intro (weak_fit (by kernel_rfl)) (forL_next hx0 (bif_f h3 (rfl)) hI0))
 ·
  refine awp_seq ?_
  refine sn tt_ok [1, 2, 4, 5, 10] [2, 4] (pl 3 f.2.2.2.2 (pe 4 (av_bool (decide_eq_false (p := ((k0 : Nat) : Int) < (f.2.2.2.2.length : Int)) (by omega))) p0)) ?_
  refine ckF ?_
  refine awp_exit ?_
  exact Exists.intro _ (And.intro (weak_fit (by kernel_rfl)) (forL_end hk0 (rfl) hI0))
 ·
  refine sn tt_ok [4] [4] (p0) ?_
  refine awp_ret ?_
  exact pz [] (show specGetAttr f name = _ from on_b hD0 (rfl)) (fun z => .a [.i z.1, .i z.2.1, .s z.2.2])
def specResultIDs_f0 (name : ByteArray) (_ : Nat) (a0 : ResultD) (_ : Unit) : Rd ((List Int)) (Unit) (Unit) := (bif (a0.1.toList == name.toList) then (.ret a0.2) else (.next ()))
def specResultIDs_e0 (_ : Nat) (_ : Unit) : Unit := ()
def specResultIDs (a_ : (List ResultD)) (name : ByteArray) : (List Int) := (Out.on (forL (specResultIDs_f0 name) specResultIDs_e0 a_ 0 ()) (fun _ => []))
theorem specResultIDs_a (a_ : (List ResultD)) (name : ByteArray) : ACalls Tryz.prog 58 [.h a_, .s name] (.o 0 (specResultIDs a_ name)) := by
 refine en tt_ok Tryz.func58 fun w0 F0 hG => ?_
 refine sn tt_ok [0, 1, 4] [] (p0) ?_
 refine awp_seq ?_
 refine tn tt_ok [0, 1, 4, 5] [] (p0) ?_
 refine mz [(4, .e 0), (5, .i 0)] [] [] [] ?_
 refine wT 0 0 .sh a_ (fun hw1 hl2 => ?_)
 refine blL0 (specResultIDs_f0 name) specResultIDs_e0 a_ () (fun k0 _ => [(5, .i ((k0 : Nat) : Int))]) [5] (fun _ => []) [0, 1, 5] (weak_fit (by kernel_rfl)) (fun k0 s0 hk0 hI0 => ?_) (fun k0 s0 hk0 hI0 => ?_) (fun y0 hD0 => ?_)
 ·
  obtain ⟨a0, hx0⟩ := get_some (l := a_) (i := k0) hk0
  refine awp_seq ?_
  refine sn tt_ok [0, 1, 4, 5, 9] [] (pl 2 a_ (pe 3 (av_bool (decide_eq_true (p := ((k0 : Nat) : Int) < (a_.length : Int)) (by omega))) p0)) ?_
  refine ckT ?_
  refine awp_skip ?_
  refine awp_seq ?_
  refine awp_block ?_
  refine tn tt_ok [0, 1, 4, 5, 18] [] (pn 2 hx0 p0) ?_
  refine ck (a0.1.toList == name.toList) (fun h3 => ?_) (fun h3 => ?_)
  ·
   have hl4 : List.length a0.2 ≤ 1073741824 := wide_len (wide_snd (wide_get hx0 (hw1)))
   refine tu tt_ok [(4, .o 1600 a0.2)] [4] [] [] (pn 3 hx0 (po 6 (.flat) (px (ob_len (n := (([] : List (List PV)).length + ((eL a0.2) : List (List PV)).length)) (len_of (rfl) (eL_length a0.2) (by first | omega | (simp only [List.length_cons, List.length_nil]; omega) | (simp; omega) | simp))) (px (ob_flat (flat_eL a0.2)) p0)))) ?_
   refine awp_ret ?_
   have hr5 : (forL (specResultIDs_f0 name) specResultIDs_e0 a_ 0 ()) = .ret a0.2 := forL_ret hx0 (bif_t h3 (rfl)) hI0
   exact po0 [] (on_r hr5)
  ·
   refine awp_skip ?_
   refine qu tt_ok [(5, .i ((k0 + 1 : Nat) : Int))] [5] [] [] (pe 1 (av_i (wrap_succ k0 (by omega))) p0) ?_
   exact Exists.intro _ (And.intro (weak_fit (by kernel_rfl)) (forL_next hx0 (bif_f h3 (rfl)) hI0))
 ·
  refine awp_seq ?_
  refine sn tt_ok [0, 1, 4, 5, 9] [] (pl 2 a_ (pe 3 (av_bool (decide_eq_false (p := ((k0 : Nat) : Int) < (a_.length : Int)) (by omega))) p0)) ?_
  refine ckF ?_
  refine awp_exit ?_
  exact Exists.intro _ (And.intro (weak_fit (by kernel_rfl)) (forL_end hk0 (rfl) hI0))
 ·
  refine sn tt_ok [4] [] (p0) ?_
  refine awp_ret ?_
  exact po0 [] (on_b hD0 (rfl))
def specContainsID_f0 (id : Int) (_ : Nat) (a0 : Int) (_ : Unit) : Rd (Bool) (Unit) (Unit) := (bif (a0 == id) then (.ret true) else (.next ()))
def specContainsID_e0 (_ : Nat) (_ : Unit) : Unit := ()
def specContainsID (ids : (List Int)) (id : Int) : Bool := (Out.on (forL (specContainsID_f0 id) specContainsID_e0 ids 0 ()) (fun _ => false))
theorem specContainsID_a (ids : (List Int)) (id : Int) : ACalls Tryz.prog 64 [.h ids, .i id] (.b (specContainsID ids id)) := by
 refine en tt_ok Tryz.func64 fun w0 F0 hG => ?_
 refine sn tt_ok [0, 1, 4] [] (p0) ?_
 refine awp_seq ?_
 refine tn tt_ok [0, 1, 4, 5] [] (p0) ?_
 refine mz [(4, .b false), (5, .i 0)] [] [] [] ?_
 refine wT 0 0 .sh ids (fun hw1 hl2 => ?_)
 refine blL0 (specContainsID_f0 id) specContainsID_e0 ids () (fun k0 _ => [(5, .i ((k0 : Nat) : Int))]) [5] (fun _ => []) [0, 1, 5] (weak_fit (by kernel_rfl)) (fun k0 s0 hk0 hI0 => ?_) (fun k0 s0 hk0 hI0 => ?_) (fun y0 hD0 => ?_)
 ·
  obtain ⟨a0, hx0⟩ := get_some (l := ids) (i := k0) hk0
  refine awp_seq ?_
  refine sn tt_ok [0, 1, 4, 5, 9] [] (pl 2 ids (pe 3 (av_bool (decide_eq_true (p := ((k0 : Nat) : Int) < (ids.length : Int)) (by omega))) p0)) ?_
  refine ckT ?_
  refine awp_skip ?_
  refine awp_seq ?_
  refine awp_block ?_
  refine tn tt_ok [0, 1, 4, 5, 17] [] (pn 2 hx0 p0) ?_
  refine ck (a0 == id) (fun h3 => ?_) (fun h3 => ?_)
  ·
   refine tu tt_ok [(4, .b true)] [4] [] [] (p0) ?_
   refine awp_ret ?_
   have hr4 : (forL (specContainsID_f0 id) specContainsID_e0 ids 0 ()) = .ret true := forL_ret hx0 (bif_t h3 (rfl)) hI0
   exact pb [] (on_r hr4)
  ·
   have h3d := ne_of_beq h3
   refine awp_skip ?_
   refine qu tt_ok [(5, .i ((k0 + 1 : Nat) : Int))] [5] [] [] (pe 1 (av_i (wrap_succ k0 (by omega))) p0) ?_
   exact Exists.intro _ (And.intro (weak_fit (by kernel_rfl)) (forL_next hx0 (bif_f h3 (rfl)) hI0))
 ·
  refine awp_seq ?_
  refine sn tt_ok [0, 1, 4, 5, 9] [] (pl 2 ids (pe 3 (av_bool (decide_eq_false (p := ((k0 : Nat) : Int) < (ids.length : Int)) (by omega))) p0)) ?_
  refine ckF ?_
  refine awp_exit ?_
  exact Exists.intro _ (And.intro (weak_fit (by kernel_rfl)) (forL_end hk0 (rfl) hI0))
 ·
  refine sn tt_ok [4] [] (p0) ?_
  refine awp_ret ?_
  exact pb [] (on_b hD0 (rfl))
def specl14Node (n_ : Nat) (q : (List NodeD)) (at_ : Int) (f : FileD) (a_ : (List ResultD)) : Bool := match n_ with
 | 0 => default
 | n_ + 1 => (bif ((nth q (Int.toNat at_)).1 == (1 : Int)) then true else (bif ((nth q (Int.toNat at_)).1 == (2 : Int)) then ((specGetAttr f ((nth q (Int.toNat at_)).2.2.2.1)).1 != (0 : Int)) else (bif ((nth q (Int.toNat at_)).1 == (3 : Int)) then (((specGetAttr f ((nth q (Int.toNat at_)).2.2.2.1)).1 == (nth q (Int.toNat at_)).2.2.2.2.1) && (((specGetAttr f ((nth q (Int.toNat at_)).2.2.2.1)).2.1 == (nth q (Int.toNat at_)).2.2.2.2.2.1) && ((((specGetAttr f ((nth q (Int.toNat at_)).2.2.2.1)).2.2).toList == ((nth q (Int.toNat at_)).2.2.2.2.2.2).toList) && true))) else (bif ((nth q (Int.toNat at_)).1 == (4 : Int)) then (((specGetAttr f ((nth q (Int.toNat at_)).2.2.2.1)).1 == (1 : Int)) && decide ((specGetAttr f ((nth q (Int.toNat at_)).2.2.2.1)).2.1 < (nth q (Int.toNat at_)).2.2.2.2.2.1)) else (bif ((nth q (Int.toNat at_)).1 == (5 : Int)) then (!(specl14Node n_ q ((nth q (Int.toNat at_)).2.1) f a_)) else (bif ((nth q (Int.toNat at_)).1 == (6 : Int)) then ((specl14Node n_ q ((nth q (Int.toNat at_)).2.1) f a_) && (specl14Node n_ q ((nth q (Int.toNat at_)).2.2.1) f a_)) else (bif ((nth q (Int.toNat at_)).1 == (7 : Int)) then ((specl14Node n_ q ((nth q (Int.toNat at_)).2.1) f a_) || (specl14Node n_ q ((nth q (Int.toNat at_)).2.2.1) f a_)) else (bif ((nth q (Int.toNat at_)).1 == (8 : Int)) then (specContainsID (specResultIDs a_ ((nth q (Int.toNat at_)).2.2.2.1)) f.1) else ((f.2.2.2.1 != (0 : Int)) && (specContainsID (specResultIDs a_ ((nth q (Int.toNat at_)).2.2.2.1)) f.2.2.2.1))))))))))
theorem specl14Node_a : ∀ (n_ : Nat) (q : (List NodeD)) (at_ : Int) (f : FileD) (a_ : (List ResultD)) (hv : implIsValidQuery q = true) (ha : 0 ≤ at_) (hb : at_ < (q.length : Int)) (hn : at_ < ((n_ : Nat) : Int)), ACalls Tryz.prog 236 [.h q, .i at_, .a [.i f.1, .i f.2.1, .b f.2.2.1, .i f.2.2.2.1, .h f.2.2.2.2], .h a_] (.b (specl14Node n_ q at_ f a_)) := by
 intro n_
 induction n_ with
 | zero => intro q at_ f a_ hv ha hb hn; exact (by omega : False).elim
 | succ n_ ih =>
  intro q at_ f a_ hv ha hb hn
  refine en tt_ok Tryz.func236 fun w0 F0 hG => ?_
  refine sn tt_ok [0, 1, 3, 6, 8] [6] (p0) ?_
  refine wT 0 0 .sh q (fun hw2 hl3 => ?_)
  have hx1 := ng q (Int.toNat at_)
  refine tn tt_ok [0, 3, 6, 8, 9] [6, 9] (pg 2 at_ hx1 p0) ?_
  refine tu tt_ok [(6, .p 6 0), (8, .b false), (9, .p 9 0), (10, .p 10 0)] [1, 2] [(6, [.i f.1, .i f.2.1, .b f.2.2.1, .i f.2.2.2.1, .h f.2.2.2.2]), (9, [.i ((nth q (Int.toNat at_)).1), .i ((nth q (Int.toNat at_)).2.1), .i ((nth q (Int.toNat at_)).2.2.1), .s ((nth q (Int.toNat at_)).2.2.2.1), .i ((nth q (Int.toNat at_)).2.2.2.2.1), .i ((nth q (Int.toNat at_)).2.2.2.2.2.1), .s ((nth q (Int.toNat at_)).2.2.2.2.2.2)]), (10, [.i ((specGetAttr f ((nth q (Int.toNat at_)).2.2.2.1)).1), .i ((specGetAttr f ((nth q (Int.toNat at_)).2.2.2.1)).2.1), .s ((specGetAttr f ((nth q (Int.toNat at_)).2.2.2.1)).2.2)])] [] (pc 3 (specGetAttr_a f ((nth q (Int.toNat at_)).2.2.2.1)) p0) ?_
  refine awp_seq ?_
  refine sn tt_ok [0, 3, 6, 8, 9, 10, 20] [6, 9, 10] (p0) ?_
  refine awp_block ?_
  refine tn tt_ok [0, 3, 6, 8, 9, 10, 20, 21] [6, 9, 10] (p0) ?_
  refine ck ((nth q (Int.toNat at_)).1 == (1 : Int)) (fun h4 => ?_) (fun h4 => ?_)
  ·
   refine tu tt_ok [(8, .b true)] [0, 8, 10] [] [10] (p0) ?_
   refine awp_ret ?_
   exact pb [] (bif_t h4 (rfl))
  ·
   have h4d := ne_of_beq h4
   refine tu tt_ok [(20, .i ((nth q (Int.toNat at_)).1)), (23, .b ((nth q (Int.toNat at_)).1 == (2 : Int)))] [] [] [] (p0) ?_
   refine ck ((nth q (Int.toNat at_)).1 == (2 : Int)) (fun h5 => ?_) (fun h5 => ?_)
   ·
    refine sn tt_ok [3, 6, 8, 9] [6, 9] (p0) ?_
    refine awp_ret ?_
    exact pb [] (bif_f h4 (bif_t h5 (rfl)))
   ·
    have h5d := ne_of_beq h5
    refine sn tt_ok [0, 3, 6, 8, 9, 10, 20, 28] [6, 9, 10] (p0) ?_
    refine ck ((nth q (Int.toNat at_)).1 == (3 : Int)) (fun h6 => ?_) (fun h6 => ?_)
    ·
     refine tn tt_ok [3, 6, 8, 9] [6, 9] (p0) ?_
     refine awp_ret ?_
     exact pb [] (bif_f h4 (bif_f h5 (bif_t h6 (rfl))))
    ·
     have h6d := ne_of_beq h6
     refine tn tt_ok [0, 3, 6, 8, 9, 10, 20, 34] [6, 9, 10] (p0) ?_
     refine ck ((nth q (Int.toNat at_)).1 == (4 : Int)) (fun h7 => ?_) (fun h7 => ?_)
     ·
      refine awp_seq ?_
      refine mz [(34, .b ((nth q (Int.toNat at_)).1 == (4 : Int)))] [23] [] [] ?_
      refine jn [(8, .b (((specGetAttr f ((nth q (Int.toNat at_)).2.2.2.1)).1 == (1 : Int)) && decide ((specGetAttr f ((nth q (Int.toNat at_)).2.2.2.1)).2.1 < (nth q (Int.toNat at_)).2.2.2.2.2.1)))] [0, 8, 10, 20, 34] [] [10] ((specGetAttr f ((nth q (Int.toNat at_)).2.2.2.1)).1 == (1 : Int)) (fun h8 => ?_) (fun h8 => ?_) ?_
      ·
       refine rn tt_ok [3, 6, 8, 9] [6, 9] (pt 2 h8 p0) ?_
       exact ⟨rfl, weak_fit (by rw [h8]; first | done | kernel_rfl)⟩
      ·
       refine rn tt_ok [3, 6, 8, 9] [6, 9] (pf 2 h8 p0) ?_
       exact ⟨rfl, weak_fit (by rw [h8]; first | done | kernel_rfl)⟩
      refine awp_ret ?_
      exact pb [] (bif_f h4 (bif_f h5 (bif_f h6 (bif_t h7 (rfl)))))
     ·
      have h7d := ne_of_beq h7
      refine tu tt_ok [(47, .b ((nth q (Int.toNat at_)).1 == (5 : Int)))] [10, 23] [] [10] (p0) ?_
      refine ck ((nth q (Int.toNat at_)).1 == (5 : Int)) (fun h9 => ?_) (fun h9 => ?_)
      ·
       have h9d := eq_of_beq h9
       refine sn tt_ok [3, 6, 8, 9] [6, 9] (pc 5 (ih q ((nth q (Int.toNat at_)).2.1) f a_ hv (by have hz := ql_a hv ha hb h9; omega) (by have hz := ql_a hv ha hb h9; omega) (by have hz := ql_a hv ha hb h9; omega)) p0) ?_
       refine awp_ret ?_
       exact pb [] (bif_f h4 (bif_f h5 (bif_f h6 (bif_f h7 (bif_t h9 (rfl))))))
      ·
       have h9d := ne_of_beq h9
       refine sn tt_ok [0, 3, 6, 8, 9, 20, 56] [6, 9] (p0) ?_
       refine ck ((nth q (Int.toNat at_)).1 == (6 : Int)) (fun h10 => ?_) (fun h10 => ?_)
       ·
        have h10d := eq_of_beq h10
        refine awp_seq ?_
        refine mz [(56, .b ((nth q (Int.toNat at_)).1 == (6 : Int)))] [47] [] [] ?_
        refine jn [(8, .b ((specl14Node n_ q ((nth q (Int.toNat at_)).2.1) f a_) && (specl14Node n_ q ((nth q (Int.toNat at_)).2.2.1) f a_)))] [0, 8, 20, 56] [] [] (specl14Node n_ q ((nth q (Int.toNat at_)).2.1) f a_) (fun h11 => ?_) (fun h11 => ?_) ?_
        ·
         refine rn tt_ok [3, 6, 8, 9] [6, 9] (pc 5 (cb h11 (ih q ((nth q (Int.toNat at_)).2.1) f a_ hv (by have hz := ql_b hv ha hb h10; omega) (by have hz := ql_b hv ha hb h10; omega) (by have hz := ql_b hv ha hb h10; omega))) (pc 12 (ih q ((nth q (Int.toNat at_)).2.2.1) f a_ hv (by have hz := qr_b hv ha hb h10; omega) (by have hz := qr_b hv ha hb h10; omega) (by have hz := qr_b hv ha hb h10; omega)) p0)) ?_
         exact ⟨rfl, weak_fit (by rw [h11]; first | done | kernel_rfl)⟩
        ·
         refine rn tt_ok [3, 6, 8, 9] [6, 9] (pc 5 (cb h11 (ih q ((nth q (Int.toNat at_)).2.1) f a_ hv (by have hz := ql_b hv ha hb h10; omega) (by have hz := ql_b hv ha hb h10; omega) (by have hz := ql_b hv ha hb h10; omega))) p0) ?_
         exact ⟨rfl, weak_fit (by rw [h11]; first | done | kernel_rfl)⟩
        refine awp_ret ?_
        exact pb [] (bif_f h4 (bif_f h5 (bif_f h6 (bif_f h7 (bif_f h9 (bif_t h10 (rfl)))))))
       ·
        have h10d := ne_of_beq h10
        refine tn tt_ok [0, 3, 6, 8, 9, 20, 72] [6, 9] (p0) ?_
        refine ck ((nth q (Int.toNat at_)).1 == (7 : Int)) (fun h12 => ?_) (fun h12 => ?_)
        ·
         have h12d := eq_of_beq h12
         refine awp_seq ?_
         refine mz [(72, .b ((nth q (Int.toNat at_)).1 == (7 : Int)))] [47] [] [] ?_
         refine jn [(8, .b ((specl14Node n_ q ((nth q (Int.toNat at_)).2.1) f a_) || (specl14Node n_ q ((nth q (Int.toNat at_)).2.2.1) f a_)))] [0, 8, 20, 72] [] [] (specl14Node n_ q ((nth q (Int.toNat at_)).2.1) f a_) (fun h13 => ?_) (fun h13 => ?_) ?_
         ·
          refine rn tt_ok [3, 6, 8, 9] [6, 9] (pc 5 (cb h13 (ih q ((nth q (Int.toNat at_)).2.1) f a_ hv (by have hz := ql_c hv ha hb h12; omega) (by have hz := ql_c hv ha hb h12; omega) (by have hz := ql_c hv ha hb h12; omega))) p0) ?_
          exact ⟨rfl, weak_fit (by rw [h13]; first | done | kernel_rfl)⟩
         ·
          refine rn tt_ok [3, 6, 8, 9] [6, 9] (pc 5 (cb h13 (ih q ((nth q (Int.toNat at_)).2.1) f a_ hv (by have hz := ql_c hv ha hb h12; omega) (by have hz := ql_c hv ha hb h12; omega) (by have hz := ql_c hv ha hb h12; omega))) (pc 12 (ih q ((nth q (Int.toNat at_)).2.2.1) f a_ hv (by have hz := qr_c hv ha hb h12; omega) (by have hz := qr_c hv ha hb h12; omega) (by have hz := qr_c hv ha hb h12; omega)) p0)) ?_
          exact ⟨rfl, weak_fit (by rw [h13]; first | done | kernel_rfl)⟩
         refine awp_ret ?_
         exact pb [] (bif_f h4 (bif_f h5 (bif_f h6 (bif_f h7 (bif_f h9 (bif_f h10 (bif_t h12 (rfl))))))))
        ·
         refine tu tt_ok [(88, .b ((nth q (Int.toNat at_)).1 == (8 : Int)))] [0, 20, 47] [] [] (p0) ?_
         refine ck ((nth q (Int.toNat at_)).1 == (8 : Int)) (fun h14 => ?_) (fun h14 => ?_)
         ·
          refine sN tt_ok tt_mx [3, 6, 8, 9] [6, 9] (pc 3 (specResultIDs_a a_ ((nth q (Int.toNat at_)).2.2.2.1)) (pc 6 (specContainsID_a (specResultIDs a_ ((nth q (Int.toNat at_)).2.2.2.1)) f.1) p0)) ?_
          refine awp_ret ?_
          exact pb [] (bif_f h4 (bif_f h5 (bif_f h6 (bif_f h7 (bif_f h9 (bif_f h10 (bif_f h12 (bif_t h14 (rfl)))))))))
         ·
          refine awp_skip ?_
          refine awp_seq ?_
          refine jn [(8, .b ((f.2.2.2.1 != (0 : Int)) && (specContainsID (specResultIDs a_ ((nth q (Int.toNat at_)).2.2.2.1)) f.2.2.2.1)))] [3, 6, 8, 9, 88] [] [6, 9] (f.2.2.2.1 != (0 : Int)) (fun h15 => ?_) (fun h15 => ?_) ?_
          ·
           refine rN tt_ok tt_mx [8] [] (pt 2 h15 (pc 7 (specResultIDs_a a_ ((nth q (Int.toNat at_)).2.2.2.1)) (pc 10 (specContainsID_a (specResultIDs a_ ((nth q (Int.toNat at_)).2.2.2.1)) f.2.2.2.1) p0))) ?_
           exact ⟨rfl, weak_fit (by rw [h15]; first | done | kernel_rfl)⟩
          ·
           refine rN tt_ok tt_mx [8] [] (pf 2 h15 p0) ?_
           exact ⟨rfl, weak_fit (by rw [h15]; first | done | kernel_rfl)⟩
          refine awp_ret ?_
          exact pb [] (bif_f h4 (bif_f h5 (bif_f h6 (bif_f h7 (bif_f h9 (bif_f h10 (bif_f h12 (bif_f h14 (rfl)))))))))
def specMatches (q : (List NodeD)) (f : FileD) (a_ : (List ResultD)) : Bool := ((specIsValidQuery q) && (specl14Node (List.length q) q ((q.length : Int) - 1) f a_))
theorem specMatches_a (q : (List NodeD)) (f : FileD) (a_ : (List ResultD)) : ACalls Tryz.prog 180 [.h q, .a [.i f.1, .i f.2.1, .b f.2.2.1, .i f.2.2.2.1, .h f.2.2.2.2], .h a_] (.b (specMatches q f a_)) := by
 refine en tt_ok Tryz.func180 fun w0 F0 hG => ?_
 refine sn tt_ok [0, 2, 4, 6] [4] (p0) ?_
 refine awp_seq ?_
 refine mz [(4, .p 4 0), (6, .b false)] [1] [(4, [.i f.1, .i f.2.1, .b f.2.2.1, .i f.2.2.2.1, .h f.2.2.2.2])] [] ?_
 refine jn [(6, .b ((specIsValidQuery q) && (specl14Node (List.length q) q ((q.length : Int) - 1) f a_)))] [0, 2, 4, 6] [] [4] (specIsValidQuery q) (fun h1 => ?_) (fun h1 => ?_) ?_
 ·
  refine wT 0 0 .sh q (fun hw2 hl3 => ?_)
  refine rn tt_ok [6] [] (pc 1 (cb h1 (specIsValidQuery_a q)) (pl 5 q (pe 6 (av_i (IntWalk.i64_in ((q.length : Int) - 1) (by omega))) (pc 9 (specl14Node_a (List.length q) q ((q.length : Int) - 1) f a_ (vq_spec h1) (by have := vq_len (vq_spec h1); omega) (by omega) (by omega)) p0)))) ?_
  exact ⟨rfl, weak_fit (by rw [h1]; first | done | kernel_rfl)⟩
 ·
  refine rn tt_ok [6] [] (pc 1 (cb h1 (specIsValidQuery_a q)) p0) ?_
  exact ⟨rfl, weak_fit (by rw [h1]; first | done | kernel_rfl)⟩
 refine awp_ret ?_
 exact pb [] (show specMatches q f a_ = ((specIsValidQuery q) && (specl14Node (List.length q) q ((q.length : Int) - 1) f a_)) from rfl)
def specSelectFiles_f0 (q : (List NodeD)) (a_ : (List ResultD)) (_ : Nat) (a0 : FileD) (s0 : (List Int)) : Rd ((List Int)) ((List Int)) ((List Int)) := (bif (specMatches q a0 a_) then (.next (s0 ++ [a0.1])) else (.next s0))
def specSelectFiles_e0 (_ : Nat) (s0 : (List Int)) : (List Int) := s0
def specSelectFiles (s_ : StoreD) (q : (List NodeD)) (a_ : (List ResultD)) : (List Int) := (Out.on (forL (specSelectFiles_f0 q a_) specSelectFiles_e0 s_.2.1 0 []) (fun y0 => y0))
theorem specSelectFiles_a (s_ : StoreD) (q : (List NodeD)) (a_ : (List ResultD)) : ACalls Tryz.prog 135 [.a [.h s_.1, .h s_.2.1, .i s_.2.2], .h q, .h a_] (.o 0 (specSelectFiles s_ q a_)) := by
 refine en tt_ok Tryz.func135 fun w0 F0 hG => ?_
 refine sn tt_ok [1, 2, 3, 6] [3] (p0) ?_
 refine tn tt_ok [1, 2, 3, 6, 7] [3] (p0) ?_
 refine awp_seq ?_
 refine tu tt_ok [(3, .p 3 0), (6, .e 0), (7, .one (.slc (.own true 576) 1 [])), (8, .i 0)] [0] [(3, [.h s_.1, .h s_.2.1, .i s_.2.2])] [] (p0) ?_
 refine wB 3 1 .sh s_.2.1 (fun hw1 hl2 => ?_)
 refine blL1b (specSelectFiles_f0 q a_) specSelectFiles_e0 s_.2.1 [] (fun k0 s0 => [(7, .o 147204 s0), (8, .i ((k0 : Nat) : Int))]) [7, 8] (fun _ _ => []) [] (fun y0 => [(7, .o 147354 y0)]) [1, 2, 3, 7, 8] (fun _ => []) [3] (fun k0 s0 => List.length s0 ≤ k0) (weak_sf [(576, 147204)] (by kernel_rfl)) (by simp) (fun k0 s0 hk0 hI0 => ?_) (fun k0 s0 hk0 hI0 => ?_) (fun y0 hD0 => ?_)
 ·
  have hA0_0 := hI0.2
  obtain ⟨a0, hx0⟩ := get_some (l := s_.2.1) (i := k0) hk0
  refine awp_seq ?_
  refine su tt_ok [(14, .b true)] [] [] [] (pl 3 s_.2.1 (pe 4 (av_bool (decide_eq_true (p := ((k0 : Nat) : Int) < (s_.2.1.length : Int)) (by omega))) p0)) ?_
  refine ckT ?_
  refine awp_skip ?_
  refine awp_seq ?_
  refine awp_block ?_
  refine sn tt_ok [1, 2, 3, 6, 7, 8, 24] [3] (pn 4 hx0 (pc 7 (specMatches_a q a0 a_) p0)) ?_
  refine ck (specMatches q a0 a_) (fun h3 => ?_) (fun h3 => ?_)
  ·
   refine wT 7 0 (.own true 147204) s0 (fun hw4 hl5 => ?_)
   refine qu tt_ok [(7, .one (.slc (.own true 2112) 1 ((eL s0) ++ [[.i a0.1]])))] [7, 14] [] [] (pn 4 hx0 (pa s0 [a0.1] p0)) ?_
   refine eqn [(7, .o 2112 (s0 ++ [a0.1]))] [7] [] [] (by rw [show ((eL s0) ++ [[.i a0.1]]) = (eL (s0 ++ [a0.1])) from app_eL (rfl) (rfl)]; first | done | kernel_rfl) ?_
   refine rn tt_ok [1, 2, 3, 6, 7, 8] [3] (pe 1 (av_i (wrap_succ k0 (by omega))) p0) ?_
   exact Exists.intro (s0 ++ [a0.1]) (And.intro (weak_sf [(2112, 147204)] (by kernel_rfl)) ⟨forL_next hx0 (bif_t h3 (rfl)) hI0.1, by first | omega | (simp; omega) | simp⟩)
  ·
   refine awp_skip ?_
   refine qn tt_ok [1, 2, 3, 6, 7, 8] [3] (pe 1 (av_i (wrap_succ k0 (by omega))) p0) ?_
   exact Exists.intro s0 (And.intro (weak_fit (by kernel_rfl)) ⟨forL_next hx0 (bif_f h3 (rfl)) hI0.1, by first | omega | (simp; omega) | simp⟩)
 ·
  have hA0_0 := hI0.2
  refine awp_seq ?_
  refine su tt_ok [(14, .b false)] [] [] [] (pl 3 s_.2.1 (pe 4 (av_bool (decide_eq_false (p := ((k0 : Nat) : Int) < (s_.2.1.length : Int)) (by omega))) p0)) ?_
  refine ckF ?_
  refine awp_exit ?_
  exact Exists.intro _ (And.intro (weak_sf [(147204, 147354)] (by kernel_rfl)) (forL_end hk0 (rfl) hI0.1))
 ·
  refine sn tt_ok [6] [] (p0) ?_
  refine awp_ret ?_
  exact po0 [] (on_b hD0 (rfl))
end Go.Proofs.YtcnkkobgogmakaaGreat
namespace Go.Proofs.YtcnkkobgogmakaaGreat
open Go.RowKit
theorem cid_eq (l : List Int) (x : Int) : implContainsID l x = specContainsID l x := by
  unfold implContainsID slicesContains_int slicesIndex_int specContainsID
  have key : ∀ (l : List Int) (k : Nat), decide (((forL (slicesIndex_int_f0 x) slicesIndex_int_e0 l k ()).on fun _ => -1) ≥ 0) = ((forL (specContainsID_f0 x) specContainsID_e0 l k ()).on fun _ => false) := by
    intro l
    induction l with
    | nil => intro k; rfl
    | cons a l ih =>
      intro k
      by_cases h : x = a
      · subst h; simp [forL, slicesIndex_int_f0, specContainsID_f0, Out.on]
      · have e1 : (x == a) = false := beq_eq_false_iff_ne.2 h
        have e2 : (a == x) = false := beq_eq_false_iff_ne.2 (Ne.symm h)
        simp only [forL, slicesIndex_int_f0, specContainsID_f0, e1, e2, cond_false]
        exact ih (k + 1)
  exact key l 0
theorem rids_eq (r : List ResultD) (s : ByteArray) : implResultIDs r s = specResultIDs r s := rfl
theorem attr_eq (f : FileD) (s : ByteArray) : implGetAttr f s = specGetAttr f s := rfl
theorem vn_op {n : NodeD} {k : Int} (h : implIsValidNode n k = true) : n.1 = 1 ∨ n.1 = 2 ∨ n.1 = 3 ∨ n.1 = 4 ∨ n.1 = 5 ∨ n.1 = 6 ∨ n.1 = 7 ∨ n.1 = 8 ∨ n.1 = 9 := by
  refine Classical.byContradiction fun hn => ?_
  simp only [not_or] at hn
  obtain ⟨h1, h2, h3, h4, h5, h6, h7, h8, h9⟩ := hn
  unfold implIsValidNode at h
  simp only [beq_eq_false_iff_ne.2 h1, beq_eq_false_iff_ne.2 h2, beq_eq_false_iff_ne.2 h3, beq_eq_false_iff_ne.2 h4, beq_eq_false_iff_ne.2 h5, beq_eq_false_iff_ne.2 h6, beq_eq_false_iff_ne.2 h7, beq_eq_false_iff_ne.2 h8, beq_eq_false_iff_ne.2 h9, cond_false] at h
  cases h
theorem match_eq {q : List NodeD} (hv : implIsValidQuery q = true) (f : FileD) (r : List ResultD) : ∀ (n : Nat) (k : Int), 0 ≤ k → k < (q.length : Int) → implmatchesAt n q k f r = specl14Node n q k f r
  | 0, _, _, _ => rfl
  | n + 1, k, h0, h1 => by
    have hn := vq_node hv (nth_get (l := q) (i := Int.toNat k) (by omega))
    rw [Int.toNat_of_nonneg h0] at hn
    obtain ⟨hl, hr⟩ := vq_kids hv h0 h1
    unfold implmatchesAt specl14Node
    have ih := match_eq hv f r n
    unfold implIntAttr
    simp only [attr_eq, rids_eq, cid_eq]
    generalize nth q (Int.toNat k) = m at hn hl hr ⊢
    rcases vn_op hn with h | h | h | h | h | h | h | h | h
    · simp [h]
    · simp [h]
    · simp [h]
    · rw [h]
      cases hz : ((specGetAttr f m.2.2.2.1).1 == (1 : Int)) with
      | true => simp [bne, hz]
      | false => simp [bne, hz]
    · simp [h, ih _ (hl (by simp [h])).1 (by have := (hl (by simp [h])).2; omega)]
    · simp [h, ih _ (hl (by simp [h])).1 (by have := (hl (by simp [h])).2; omega), ih _ (hr (by simp [h])).1 (by have := (hr (by simp [h])).2; omega)]
    · simp [h, ih _ (hl (by simp [h])).1 (by have := (hl (by simp [h])).2; omega), ih _ (hr (by simp [h])).1 (by have := (hr (by simp [h])).2; omega)]
    · simp [h]
    · simp [h]
theorem matches_eq (q : List NodeD) (f : FileD) (r : List ResultD) : implMatches q f r = specMatches q f r := by
  unfold implMatches specMatches
  rw [← vq_eq]
  cases hv : implIsValidQuery q with
  | false => rfl
  | true => rw [match_eq hv f r _ _ (by have := vq_len hv; omega) (by omega)]
theorem select_eq (s : StoreD) (q : List NodeD) (r : List ResultD) : implSelectFiles s q r = specSelectFiles s q r := by
  unfold implSelectFiles specSelectFiles
  rw [forL_ext (f := implSelectFiles_f0 q r) (g := specSelectFiles_f0 q r) (e := implSelectFiles_e0) (e' := specSelectFiles_e0) (fun i a s => by
    unfold implSelectFiles_f0 specSelectFiles_f0
    rw [matches_eq]) (fun _ _ => rfl)]
end Go.Proofs.YtcnkkobgogmakaaGreat
namespace Go.Proofs.YtcnkkobgogmakaaGreat
section
variable {φ : Type} (fs : List φ) (idOf : φ → Int)
def sel (p : φ → Bool) : List Int := (fs.filter p).map idOf
theorem filter_grow {p q : φ → Bool} : ∀ (l : List φ), (∀ f, f ∈ l → p f = true → q f = true) → (l.filter p).length ≤ (l.filter q).length ∧ ((l.filter q).length ≤ (l.filter p).length → l.filter p = l.filter q)
  | [], _ => ⟨Nat.le_refl _, fun _ => rfl⟩
  | f :: l, h => by
    obtain ⟨h1, h2⟩ := filter_grow l fun g hg => h g (List.mem_cons_of_mem _ hg)
    have h0 := h f (List.mem_cons_self ..)
    cases hp : p f with
    | true =>
      have hq := h0 hp
      simp only [List.filter_cons, hp, hq, if_true, List.length_cons]
      exact ⟨by omega, fun hl => by rw [h2 (by omega)]⟩
    | false =>
      cases hq : q f with
      | true =>
        simp only [List.filter_cons, hp, hq, if_true, List.length_cons, Bool.false_eq_true, if_false]
        exact ⟨by omega, fun hl => absurd hl (by omega)⟩
      | false =>
        simp only [List.filter_cons, hp, hq, Bool.false_eq_true, if_false]
        exact ⟨h1, h2⟩
theorem sel_len (p : φ → Bool) : (sel fs idOf p).length ≤ fs.length := by
  unfold sel; rw [List.length_map]; exact List.length_filter_le _ _
variable {fs idOf}
theorem sel_grow {p q : φ → Bool} (h : ∀ f, f ∈ fs → p f = true → q f = true) (hn : sel fs idOf p ≠ sel fs idOf q) : (sel fs idOf p).length + 1 ≤ (sel fs idOf q).length := by
  obtain ⟨h1, h2⟩ := filter_grow fs h
  unfold sel at hn ⊢
  rw [List.length_map, List.length_map]
  refine Nat.lt_of_le_of_ne h1 fun e => hn ?_
  rw [h2 (by omega)]
theorem sel_sub {p q : φ → Bool} (h : ∀ f, f ∈ fs → p f = true → q f = true) {x : Int} (hx : x ∈ sel fs idOf p) : x ∈ sel fs idOf q := by
  unfold sel at hx ⊢
  obtain ⟨f, hf, rfl⟩ := List.mem_map.1 hx
  obtain ⟨h1, h2⟩ := List.mem_filter.1 hf
  exact List.mem_map.2 ⟨f, List.mem_filter.2 ⟨h1, h f h1 h2⟩, rfl⟩
end
abbrev CD := ByteArray × List Int
def putC (out : List CD) (k : Nat) (ids : List Int) : List CD := out.set k ((nth out k).1, ids)
theorem nth_setC {out : List CD} {k : Nat} (x : CD) (hk : k < out.length) (j : Nat) : nth (out.set k x) j = if j = k then x else nth out j := by
  unfold nth
  simp only [List.getD_eq_getElem?_getD, List.getElem?_set]
  by_cases h : k = j
  · subst h; simp [hk]
  · simp [h, Ne.symm h]
theorem putC_names {out : List CD} {k : Nat} (ids : List Int) (hk : k < out.length) : (putC out k ids).map (·.1) = out.map (·.1) := by
  unfold putC
  rw [List.map_set]
  refine List.ext_getElem (by simp) fun i h1 h2 => ?_
  rw [List.getElem_set]
  split
  · rename_i h; subst h; simp [nth, List.getD, hk]
  · rfl
def room (B : Nat) (act : Nat → Bool) : Nat → List CD → Nat
  | _, [] => 0
  | k, r :: l => (bif act k then B - r.2.length else 0) + room B act (k + 1) l
theorem room_le (B : Nat) (act : Nat → Bool) : ∀ (l : List CD) (k : Nat), room B act k l ≤ l.length * B
  | [], k => by simp [room]
  | r :: l, k => by
    have := room_le B act l (k + 1)
    simp only [room, List.length_cons, Nat.add_mul, Nat.one_mul]
    cases act k with
    | true => simp only [cond_true]; omega
    | false => simp only [cond_false]; omega
theorem room_set (B : Nat) (act : Nat → Bool) (x : CD) : ∀ (l : List CD) (k i : Nat), i < l.length → act (k + i) = true → (nth l i).2.length + 1 ≤ x.2.length → x.2.length ≤ B → room B act k (l.set i x) + 1 ≤ room B act k l
  | [], k, i, hi, _, _, _ => by simp at hi
  | r :: l, k, 0, _, ha, h1, h2 => by
    have e : nth (r :: l) 0 = r := rfl
    rw [e] at h1
    rw [Nat.add_zero] at ha
    simp only [List.set, room, ha, cond_true]
    omega
  | r :: l, k, i + 1, hi, ha, h1, h2 => by
    have := room_set B act x l (k + 1) i (by simpa using hi) (by rwa [show k + 1 + i = k + (i + 1) by omega]) h1 h2
    simp only [List.set, room]
    omega
section
variable {φ : Type} {fs : List φ} {idOf : φ → Int} (m : Nat → List CD → φ → Bool) (act : Nat → Bool)
def LeC (a b : List CD) : Prop := ∀ j, (∀ x, x ∈ (nth a j).2 → x ∈ (nth b j).2) ∧ (act j = false → (nth a j).2 = (nth b j).2)
variable (fs idOf)
def GoodC (out : List CD) : Prop := ∀ k, k < out.length → act k = true → ∃ p : φ → Bool, (nth out k).2 = sel fs idOf p ∧ ∀ f, f ∈ fs → p f = true → m k out f = true
def MonoC (nm : List ByteArray) : Prop := ∀ a b : List CD, a.map (·.1) = nm → b.map (·.1) = nm → LeC act a b → ∀ k, k < nm.length → act k = true → ∀ f, f ∈ fs → m k a f = true → m k b f = true
def stepC (s : List CD × Bool) (k : Nat) : List CD × Bool := bif act k then (if sel fs idOf (m k s.1) = (nth s.1 k).2 then s else (putC s.1 k (sel fs idOf (m k s.1)), true)) else s
def passC (ks : List Nat) (s : List CD × Bool) : List CD × Bool := ks.foldl (stepC fs idOf m act) s
variable {fs idOf m act} {nm : List ByteArray}
structure StateC (fs : List φ) (idOf : φ → Int) (m : Nat → List CD → φ → Bool) (act : Nat → Bool) (nm : List ByteArray) (o out : List CD) : Prop where
  names : out.map (·.1) = nm
  good : GoodC fs idOf m act out
  rest : ∀ j, act j = false → nth out j = nth o j
theorem stepC_ok (hm : MonoC fs m act nm) {o : List CD} {s : List CD × Bool} (h : StateC fs idOf m act nm o s.1) {k : Nat} (hk : k < nm.length) :
    StateC fs idOf m act nm o (stepC fs idOf m act s k).1 ∧ room fs.length act 0 (stepC fs idOf m act s k).1 ≤ room fs.length act 0 s.1 ∧ ((stepC fs idOf m act s k).2 = true → s.2 = true ∨ room fs.length act 0 (stepC fs idOf m act s k).1 + 1 ≤ room fs.length act 0 s.1) := by
  unfold stepC
  cases ha : act k with
  | false => exact ⟨h, Nat.le_refl _, .inl⟩
  | true =>
    simp only [cond_true]
    split
    · exact ⟨h, Nat.le_refl _, .inl⟩
    · rename_i hne
      have hlen : nm.length = s.1.length := by rw [← h.names, List.length_map]
      have hk' : k < s.1.length := by omega
      obtain ⟨p, hp1, hp2⟩ := h.good k hk' ha
      rw [hp1] at hne
      have hgrow := sel_grow (idOf := idOf) hp2 (Ne.symm hne)
      have hnames : (putC s.1 k (sel fs idOf (m k s.1))).map (·.1) = nm := by rw [putC_names _ hk', h.names]
      have hle : LeC act s.1 (putC s.1 k (sel fs idOf (m k s.1))) := fun j => by
        unfold putC
        rw [nth_setC _ hk']
        by_cases hj : j = k
        · subst hj
          rw [if_pos rfl]
          exact ⟨fun x hx => sel_sub hp2 (hp1 ▸ hx), fun hf => absurd ha (by simp [hf])⟩
        · rw [if_neg hj]
          exact ⟨fun _ hx => hx, fun _ => rfl⟩
      have hmono := hm _ _ h.names hnames hle
      have hr : room fs.length act 0 (putC s.1 k (sel fs idOf (m k s.1))) + 1 ≤ room fs.length act 0 s.1 :=
        room_set _ _ _ _ 0 k hk' (by rw [Nat.zero_add]; exact ha) (by rw [hp1]; exact hgrow) (sel_len _ _ _)
      refine ⟨⟨hnames, fun j hj hja => ?_, fun j hj => ?_⟩, Nat.le_of_succ_le hr, fun _ => .inr hr⟩
      · have hj' : j < s.1.length := by unfold putC at hj; rwa [List.length_set] at hj
        by_cases e : j = k
        · subst e
          refine ⟨m j s.1, ?_, fun f hf hmf => hmono j (by omega) hja f hf hmf⟩
          unfold putC; rw [nth_setC _ hk', if_pos rfl]
        · obtain ⟨p', h1, h2⟩ := h.good j hj' hja
          refine ⟨p', ?_, fun f hf hpf => hmono j (by omega) hja f hf (h2 f hf hpf)⟩
          unfold putC; rw [nth_setC _ hk', if_neg e]; exact h1
      · have e : j ≠ k := fun e => absurd ha (by simp [← e, hj])
        unfold putC; rw [nth_setC _ hk', if_neg e]; exact h.rest j hj
theorem passC_ok (hm : MonoC fs m act nm) {o : List CD} : ∀ (ks : List Nat) (s : List CD × Bool), (∀ k, k ∈ ks → k < nm.length) → StateC fs idOf m act nm o s.1 →
    StateC fs idOf m act nm o (passC fs idOf m act ks s).1 ∧ room fs.length act 0 (passC fs idOf m act ks s).1 ≤ room fs.length act 0 s.1 ∧ ((passC fs idOf m act ks s).2 = true → s.2 = true ∨ room fs.length act 0 (passC fs idOf m act ks s).1 + 1 ≤ room fs.length act 0 s.1)
  | [], s, _, h => ⟨h, Nat.le_refl _, .inl⟩
  | k :: ks, s, hks, h => by
    obtain ⟨h1, h2, h3⟩ := stepC_ok hm h (hks k (List.mem_cons_self ..))
    obtain ⟨g1, g2, g3⟩ := passC_ok hm ks _ (fun j hj => hks j (List.mem_cons_of_mem _ hj)) h1
    refine ⟨g1, Nat.le_trans g2 h2, fun hc => ?_⟩
    rcases g3 hc with hc | hc
    · rcases h3 hc with hc | hc
      · exact .inl hc
      · exact .inr (Nat.le_trans (Nat.add_le_add_right g2 1) hc)
    · exact .inr (Nat.le_trans hc h2)
theorem whlC {R S T : Type} {F : S → Rd R S T} {out : S → List CD} {ch : S → Bool} {n : Nat} (hn : n = nm.length)
    (hF : ∀ s, ch s = true → ∃ s', F s = .next s' ∧ (out s', ch s') = passC fs idOf m act (List.range n) (out s, false))
    (hE : ∀ s, ch s = false → ∃ t, F s = .brk t)
    (hm : MonoC fs m act nm) {o : List CD} : ∀ (k : Nat) (s : S), StateC fs idOf m act nm o (out s) → room fs.length act 0 (out s) + (bif ch s then 2 else 1) ≤ k →
    ∃ s', StateC fs idOf m act nm o (out s') ∧ ch s' = false ∧ ∃ t, F s' = .brk t ∧ whl F k s = some (.brk t)
  | 0, s, _, hk => by cases hc : ch s <;> simp [hc] at hk
  | k + 1, s, h, hk => by
    cases hc : ch s with
    | false =>
      obtain ⟨t, ht⟩ := hE s hc
      exact ⟨s, h, hc, t, ht, by simp only [whl, ht]⟩
    | true =>
      rw [hc] at hk
      simp only [cond_true] at hk
      obtain ⟨s', h1, h2⟩ := hF s hc
      obtain ⟨g1, g2, g3⟩ := passC_ok hm (o := o) (List.range n) (out s, false) (fun j hj => by rw [← hn]; exact List.mem_range.1 hj) h
      rw [← h2] at g1 g2 g3
      simp only [whl, h1]
      refine whlC hn hF hE hm k s' g1 ?_
      simp only [Bool.false_eq_true, false_or] at g3
      cases hc' : ch s' with
      | false => simp only [cond_false]; have : room fs.length act 0 (out s') ≤ room fs.length act 0 (out s) := g2; omega
      | true => simp only [cond_true]; have : room fs.length act 0 (out s') + 1 ≤ room fs.length act 0 (out s) := g3 hc'; omega
end
/-! ### a slice that is nil, handed on -/
open Go.RowKit in
def ArgLe (a b : AV) : Prop := ∀ (J : Inj) (w : World) (v : Value), AR J w v a → AR J w v b
theorem ArgLe.rfl (a : AV) : ArgLe a a := fun _ _ _ h => h
theorem ArgLe.nil (n : Nat) : ArgLe (.one (.slc .sh 0 [])) (.one (.slc .sh n [])) := fun J w v h => by
  have h' : VV J.F w v (.slc 0 []) := h
  show VV J.F w v (.slc n [])
  generalize hp : PV.slc 0 ([] : List (List PV)) = p at h'
  cases h' with
  | int | bool | str => cases hp
  | emp oa m hc => exact .emp oa n hc
  | @slc b off cap m cs l hx hcells hr hle hcap =>
    cases hp
    exact .emp _ n hcap.1
/-! ### a flat row of ours, handed back -/
theorem weak_promote {s : St} {t k n : Nat} {l : List (List PV)} (ht : get s.tm t = some (.one (.slc (.own false k) n l))) (hf : RowsLike l) : Weak s ⟨[(t, .one (.slc (.own true k) n l))], []⟩ := fun N w0 F0 J a w h =>
  ⟨J, { h with
    bo := fun k c hc => by simp [get] at hc
    bi := fun k k' c c' hc => by simp [get] at hc
    tm := fun t' v hv => by
      have h1 := h.tm t _ ht
      by_cases e : t' = t
      · subst e
        obtain rfl : AV.one (.slc (.own true k) n l) = v := by simpa [get] using hv
        exact flat_deep h1 hf
      · simp [get, Ne.symm e] at hv }⟩
theorem awp_promote {P : Program} {N : Nat} {w0 : Base} {F0 : Nat → Prop} {Q : Exit → St → Prop} {s : St} {c : Code} (t : Nat) {k n : Nat} {l : List (List PV)} (ht : get s.tm t = some (.one (.slc (.own false k) n l))) (hf : RowsLike l) (h : AWP P N w0 F0 c Q ⟨[(t, .one (.slc (.own true k) n l))], []⟩) : AWP P N w0 F0 c Q s := awp_weak (weak_promote ht hf) h
end Go.Proofs.YtcnkkobgogmakaaGreat
namespace Go.Proofs.YtcnkkobgogmakaaGreat
open Go.RowKit
/-! ### each node but the last is named once -/
def isRef (n : NodeD) (c : Int) : Bool := ((n.2.1 == c) && (n.1 == 6 || n.1 == 7 || n.1 == 5)) || ((n.2.2.1 == c) && (n.1 == 6 || n.1 == 7))
theorem refs_step (c : Int) (k : Nat) (a : NodeD) (s : Int) (h0 : 0 ≤ s) (h1 : s ≤ 1000) : ∃ s', implCountReferences_f0 c k a s = .next s' ∧ s + (bif isRef a c then 1 else 0) ≤ s' ∧ s' ≤ s + 2 := by
  have w1 : IntKind.i64.wrap (s + 1) = s + 1 := IntWalk.i64_in _ (by omega)
  have w2 : IntKind.i64.wrap (s + 1 + 1) = s + 1 + 1 := IntWalk.i64_in _ (by omega)
  unfold implCountReferences_f0 isRef
  rw [w1, w2]
  cases (a.2.1 == c) <;> cases (a.2.2.1 == c) <;> cases (a.1 == 6) <;> cases (a.1 == 7) <;> cases (a.1 == 5) <;> exact ⟨_, rfl, by first | (simp; done) | (simp; omega) | omega, by omega⟩
theorem refs_loop (c : Int) : ∀ (l : List NodeD) (k : Nat) (s : Int), 0 ≤ s → s + 2 * l.length ≤ 1000 → ∃ s', forL (implCountReferences_f0 c) implCountReferences_e0 l k s = .brk s' ∧ s + (l.filter fun n => isRef n c).length ≤ s'
  | [], k, s, _, _ => ⟨s, rfl, by simp⟩
  | a :: l, k, s, h0, h1 => by
    rw [List.length_cons] at h1
    obtain ⟨s1, e1, g1, g2⟩ := refs_step c k a s h0 (by omega)
    have hp : 0 ≤ s1 := by cases hb : isRef a c <;> (rw [hb] at g1; simp at g1; omega)
    obtain ⟨s2, e2, g3⟩ := refs_loop c l (k + 1) s1 hp (by omega)
    refine ⟨s2, by simp only [forL, e1]; exact e2, ?_⟩
    rw [List.filter_cons]
    cases hb : isRef a c with
    | true => rw [hb] at g1; simp only [cond_true] at g1; simp only [if_true, List.length_cons]; omega
    | false => rw [hb] at g1; simp only [cond_false] at g1; simp only [Bool.false_eq_true, if_false]; omega
theorem two_of {α : Type} {p : α → Bool} {l : List α} {i j : Nat} {a b : α} (hij : i < j) (hi : l[i]? = some a) (hj : l[j]? = some b) (ha : p a = true) (hb : p b = true) : 2 ≤ (l.filter p).length := by
  have e : l = l.take j ++ l.drop j := (List.take_append_drop j l).symm
  rw [e, List.filter_append, List.length_append]
  have h1 : 1 ≤ ((l.take j).filter p).length := List.length_pos_of_mem (a := a) (List.mem_filter.2 ⟨List.mem_of_getElem? (i := i) (by rw [List.getElem?_take, if_pos hij]; exact hi), ha⟩)
  have h2 : 1 ≤ ((l.drop j).filter p).length := List.length_pos_of_mem (a := b) (List.mem_filter.2 ⟨List.mem_of_getElem? (i := 0) (by rw [List.getElem?_drop]; exact hj), hb⟩)
  omega
theorem vq_refs {q : List NodeD} (h : implIsValidQuery q = true) {i : Nat} (hi : i + 1 < q.length) : implCountReferences q (i : Int) = 1 := by
  obtain ⟨⟨t, ht⟩, _⟩ := vq_run h
  have := forL_all (fun k a t => by unfold implIsValidQuery_f0; generalize (_ || _ : Bool) = c; cases c <;> simp) ht i (nth q i) (nth_get (by omega))
  unfold implIsValidQuery_f0 at this
  rw [Nat.zero_add] at this
  have hd : decide (((i : Nat) : Int) < ((q.length : Int) - 1)) = true := decide_eq_true (by omega)
  rw [hd, Bool.true_and] at this
  cases hn : (implCountReferences q ((i : Nat) : Int) != (1 : Int)) with
  | false => exact eq_of_bne hn
  | true => rw [hn, Bool.or_true] at this; simp at this
theorem ref_once {q : List NodeD} (h : implIsValidQuery q = true) {c i j : Nat} (hc : c + 1 < q.length) (hij : i < j) (hj : j < q.length) (h1 : isRef (nth q i) (c : Int) = true) (h2 : isRef (nth q j) (c : Int) = true) : False := by
  have hr := vq_refs h hc
  have hl := (vq_len h).2
  obtain ⟨s, e, g⟩ := refs_loop (c : Int) q 0 0 (by omega) (by omega)
  unfold implCountReferences at hr
  rw [e] at hr
  have := two_of (p := fun n => isRef n (c : Int)) hij (nth_get (by omega)) (nth_get hj) h1 h2
  simp only [Out.on] at hr
  omega
theorem ref_lt {q : List NodeD} (h : implIsValidQuery q = true) {c i : Nat} (hi : i < q.length) (hr : isRef (nth q i) (c : Int) = true) : c < i := by
  obtain ⟨h1, h2⟩ := vq_kids h (k := (i : Int)) (by omega) (by omega)
  rw [Int.toNat_natCast] at h1 h2
  unfold isRef at hr
  simp only [Bool.or_eq_true, Bool.and_eq_true, beq_iff_eq] at hr
  rcases hr with ⟨e, hop⟩ | ⟨e, hop⟩
  · have := h1 (by omega); omega
  · have := h2 (by omega); omega
/-! ### below a negation -/
theorem nth_setB {L : List Bool} {i : Nat} (x : Bool) (hi : i < L.length) (j : Nat) : nth (L.set i x) j = if j = i then x else nth L j := by
  unfold nth
  simp only [List.getD_eq_getElem?_getD, List.getElem?_set]
  by_cases h : i = j
  · subst h; simp [hi]
  · simp [h, Ne.symm h]
theorem neg_step {q : List NodeD} (h : implIsValidQuery q = true) {k : Nat} (hk : k < q.length) (s : List Bool) (hs : s.length = q.length) : ∃ s', implNegatedNodes_f0 q k s = .next s' ∧ s'.length = q.length ∧
    (∀ j : Nat, isRef (nth q (q.length - 1 - k)) (j : Int) = false → nth s' j = nth s j) ∧
    (∀ j : Nat, isRef (nth q (q.length - 1 - k)) (j : Int) = true → nth s' j = (nth s (q.length - 1 - k) || ((nth q (q.length - 1 - k)).1 == 5))) := by
  have hdn : Int.toNat (dn ((q.length : Int) - 1) k) = q.length - 1 - k := by rw [dn_eq]; omega
  obtain ⟨hl, hr⟩ := vq_kids h (k := ((q.length - 1 - k : Nat) : Int)) (by omega) (by omega)
  rw [Int.toNat_natCast] at hl hr
  have hlt : q.length - 1 - k < s.length := by omega
  unfold implNegatedNodes_f0
  rw [hdn]
  generalize q.length - 1 - k = i at hl hr hlt ⊢
  generalize nth q i = n at hl hr ⊢
  generalize (nth s i || (n.1 == 5)) = b
  have both : ∀ (e5 : (n.1 == (5 : Int)) = false), (n.1 = 6 ∨ n.1 = 7) → (List.set (List.set s (Int.toNat n.2.1) b) (Int.toNat n.2.2.1) b).length = q.length ∧ (∀ j : Nat, isRef n (j : Int) = false → nth (List.set (List.set s (Int.toNat n.2.1) b) (Int.toNat n.2.2.1) b) j = nth s j) ∧ (∀ j : Nat, isRef n (j : Int) = true → nth (List.set (List.set s (Int.toNat n.2.1) b) (Int.toNat n.2.2.1) b) j = b) := fun e5 h67 => by
    obtain ⟨g1, g2⟩ := hl (.inr h67)
    obtain ⟨g3, g4⟩ := hr h67
    have hop : (n.1 == 6 || n.1 == 7) = true := by rcases h67 with e | e <;> simp [e]
    have hlen : (List.set s (Int.toNat n.2.1) b).length = s.length := List.length_set ..
    refine ⟨by rw [List.length_set, hlen, hs], fun j hj => ?_, fun j hj => ?_⟩
    · simp only [isRef, hop, Bool.true_or, Bool.and_true, Bool.or_eq_false_iff, beq_eq_false_iff_ne, ne_eq] at hj
      rw [nth_set_ne _ (by omega), nth_set_ne _ (by omega)]
    · simp only [isRef, hop, Bool.true_or, Bool.and_true, Bool.or_eq_true, beq_iff_eq] at hj
      rw [nth_setB _ (by omega), nth_setB _ (by omega)]
      split
      · rfl
      · rw [if_pos (by omega)]
  by_cases h5 : n.1 = 5
  · obtain ⟨g1, g2⟩ := hl (.inl h5)
    simp only [h5, beq_self_eq_true, cond_true]
    refine ⟨_, rfl, by rw [List.length_set, hs], fun j hj => ?_, fun j hj => ?_⟩
    · have : n.2.1 ≠ (j : Int) := by simpa [isRef, h5] using hj
      exact nth_set_ne _ (by omega)
    · have : n.2.1 = (j : Int) := by simpa [isRef, h5] using hj
      rw [nth_setB _ (by omega), if_pos (by omega)]
  · have e5 : (n.1 == (5 : Int)) = false := beq_eq_false_iff_ne.2 h5
    rw [e5, cond_false]
    by_cases h6 : n.1 = 6
    · simp only [h6, beq_self_eq_true, cond_true]
      exact ⟨_, rfl, both e5 (.inl h6)⟩
    · by_cases h7 : n.1 = 7
      · simp only [h7, beq_self_eq_true, cond_true]
        exact ⟨_, rfl, both e5 (.inr h7)⟩
      · have e6 : (n.1 == (6 : Int)) = false := beq_eq_false_iff_ne.2 h6
        have e7 : (n.1 == (7 : Int)) = false := beq_eq_false_iff_ne.2 h7
        rw [e6, e7, cond_false, cond_false]
        refine ⟨_, rfl, hs, fun _ _ => rfl, fun j hj => ?_⟩
        simp [isRef, e5, e6, e7] at hj
def NegOk (q : List NodeD) (k : Nat) (s : List Bool) : Prop := s.length = q.length ∧ ∀ i, q.length ≤ i + k → i < q.length → ∀ c : Nat, isRef (nth q i) (c : Int) = true → nth s c = (nth s i || ((nth q i).1 == 5))
theorem neg_next {q : List NodeD} (h : implIsValidQuery q = true) {k : Nat} (hk : k < q.length) {s : List Bool} (hs : NegOk q k s) : ∃ s', implNegatedNodes_f0 q k s = .next s' ∧ NegOk q (k + 1) s' := by
  obtain ⟨s', h1, h2, h3, h4⟩ := neg_step h hk s hs.1
  have hself : nth s' (q.length - 1 - k) = nth s (q.length - 1 - k) := h3 _ (by
    cases hr : isRef (nth q (q.length - 1 - k)) ((q.length - 1 - k : Nat) : Int) with
    | false => rfl
    | true => have := ref_lt h (by omega) hr; omega)
  refine ⟨s', h1, h2, fun i hi1 hi2 c hc => ?_⟩
  by_cases e : i = q.length - 1 - k
  · subst e
    rw [h4 c hc, hself]
  · have hci := ref_lt h hi2 hc
    have n1 : isRef (nth q (q.length - 1 - k)) (c : Int) = false := by
      cases hr : isRef (nth q (q.length - 1 - k)) (c : Int) with
      | false => rfl
      | true => exact (ref_once h (c := c) (i := q.length - 1 - k) (j := i) (by omega) (by omega) hi2 hr hc).elim
    have n2 : isRef (nth q (q.length - 1 - k)) (i : Int) = false := by
      cases hr : isRef (nth q (q.length - 1 - k)) (i : Int) with
      | false => rfl
      | true => have := ref_lt h (by omega) hr; omega
    rw [h3 c n1, h3 i n2]
    exact hs.2 i (by omega) hi2 c hc
theorem neg_loop {q : List NodeD} (h : implIsValidQuery q = true) : ∀ (n k : Nat) (s : List Bool), k + n = q.length → NegOk q k s → ∃ s', forN (implNegatedNodes_f0 q) implNegatedNodes_e0 n k s = .brk s' ∧ NegOk q q.length s'
  | 0, k, s, hk, hs => ⟨s, rfl, by rw [show k = q.length by omega] at hs; exact hs⟩
  | n + 1, k, s, hk, hs => by
    obtain ⟨s1, h1, h2⟩ := neg_next h (by omega) hs
    obtain ⟨s2, h3, h4⟩ := neg_loop h n (k + 1) s1 (by omega) h2
    exact ⟨s2, by simp only [forN, h1]; exact h3, h4⟩
theorem neg_kids {q : List NodeD} (h : implIsValidQuery q = true) : NegOk q q.length (implNegatedNodes q) := by
  unfold implNegatedNodes
  obtain ⟨s, h1, h2⟩ := neg_loop h (List.length q) 0 (List.replicate (Int.toNat (q.length : Int)) false) (by omega) ⟨by simp, fun i h1 h2 => by omega⟩
  rw [h]
  simp only [Bool.not_true, cond_false, h1, Out.on]
  exact h2
theorem neg_name {q : List NodeD} {i : Nat} (hi : i < (implNegatedNodes q).length) (hn : nth (implNegatedNodes q) i = true) (hd : implnamesDir (nth q i) = true) : (nth q i).2.2.2.1 ∈ implNegativeDeps q := by
  have key : ∀ (l : List Bool) (k : Nat) (s : List ByteArray), ∃ t, forL (impldepsBelow_f0 q true) impldepsBelow_e0 l k s = .brk t ∧ (∀ x, x ∈ s → x ∈ t) ∧ ∀ j, l[j]? = some true → implnamesDir (nth q (k + j)) = true → (nth q (k + j)).2.2.2.1 ∈ t := by
    intro l
    induction l with
    | nil => intro k s; exact ⟨s, rfl, fun _ h => h, fun j h => by simp at h⟩
    | cons a l ih =>
      intro k s
      simp only [forL, impldepsBelow_f0]
      cases hc : (implnamesDir (nth q k) && (a == true)) with
      | true =>
        obtain ⟨t, h1, h2, h3⟩ := ih (k + 1) (s ++ [(nth q k).2.2.2.1])
        refine ⟨t, h1, fun x hx => h2 x (List.mem_append_left _ hx), fun j hj hnm => ?_⟩
        cases j with
        | zero => exact h2 _ (List.mem_append_right _ (by simp))
        | succ j =>
          have := h3 j (by simpa using hj) (by rwa [show k + 1 + j = k + (j + 1) by omega])
          rwa [show k + 1 + j = k + (j + 1) by omega] at this
      | false =>
        obtain ⟨t, h1, h2, h3⟩ := ih (k + 1) s
        refine ⟨t, h1, h2, fun j hj hnm => ?_⟩
        cases j with
        | zero =>
          obtain rfl : a = true := by simpa using hj
          rw [Nat.add_zero] at hnm
          rw [hnm] at hc; cases hc
        | succ j =>
          have := h3 j (by simpa using hj) (by rwa [show k + 1 + j = k + (j + 1) by omega])
          rwa [show k + 1 + j = k + (j + 1) by omega] at this
  unfold implNegativeDeps impldepsBelow
  obtain ⟨t, h1, _, h3⟩ := key (implNegatedNodes q) 0 []
  rw [h1]
  simp only [Out.on]
  have := h3 i (by rw [nth_get hi, hn]) (by rwa [Nat.zero_add])
  rw [Nat.zero_add] at this
  exact ((once_spec t).2 _).2 this
/-! ### what a node says -/
theorem cid_iff (l : List Int) (x : Int) : implContainsID l x = true ↔ x ∈ l := by
  unfold implContainsID slicesContains_int slicesIndex_int
  have key : ∀ (l : List Int) (k : Nat), decide (((forL (slicesIndex_int_f0 x) slicesIndex_int_e0 l k ()).on fun _ => -1) ≥ 0) = true ↔ x ∈ l := by
    intro l
    induction l with
    | nil => intro k; simp [forL, Out.on, slicesIndex_int_e0]
    | cons a l ih =>
      intro k
      by_cases h : x = a
      · subst h; simp [forL, slicesIndex_int_f0, Out.on]
      · have e1 : (x == a) = false := beq_eq_false_iff_ne.2 h
        simp only [forL, slicesIndex_int_f0, e1, cond_false]
        rw [ih (k + 1)]
        simp [h]
  exact key l 0
structure Seen (q : List NodeD) (a b : List ResultD) : Prop where
  grow : ∀ nm x, x ∈ implResultIDs a nm → x ∈ implResultIDs b nm
  same : ∀ nm, nm ∈ implNegativeDeps q → implResultIDs a nm = implResultIDs b nm
theorem match_grow {q : List NodeD} (hv : implIsValidQuery q = true) {a b : List ResultD} (hs : Seen q a b) (f : FileD) : ∀ (n : Nat) (k : Nat), k < n → k < q.length →
    (nth (implNegatedNodes q) k = true → implmatchesAt n q (k : Int) f a = implmatchesAt n q (k : Int) f b) ∧ (implmatchesAt n q (k : Int) f a = true → implmatchesAt n q (k : Int) f b = true)
  | 0, _, h, _ => absurd h (by omega)
  | n + 1, k, hkn, hk => by
    obtain ⟨hl, hr⟩ := vq_kids hv (k := (k : Int)) (by omega) (by omega)
    rw [Int.toNat_natCast] at hl hr
    obtain ⟨hlen, hneg⟩ := neg_kids hv
    have hneg := hneg k (by omega) hk
    have hop := vn_op (vq_node hv (nth_get hk))
    have hnm := neg_name (q := q) (i := k) (by omega)
    have ih := match_grow hv hs f n
    unfold implmatchesAt
    rw [Int.toNat_natCast]
    generalize nth q k = m at hl hr hneg hop hnm ⊢
    have kid : ∀ c : Int, 0 ≤ c → c < (k : Int) → isRef m c = true → ((nth (implNegatedNodes q) k || (m.1 == 5)) = true → implmatchesAt n q c f a = implmatchesAt n q c f b) ∧ (implmatchesAt n q c f a = true → implmatchesAt n q c f b = true) := fun c h0 h1 hrf => by
      obtain ⟨j, rfl⟩ : ∃ j : Nat, c = (j : Int) := ⟨Int.toNat c, by omega⟩
      obtain ⟨g1, g2⟩ := ih j (by omega) (by omega)
      exact ⟨fun hn => g1 ((hneg j hrf).trans hn), g2⟩
    rcases hop with h | h | h | h | h | h | h | h | h
    · simp [h]
    · simp [h]
    · simp [h]
    · simp [h]
    · obtain ⟨k1, k2⟩ := hl (.inl h)
      obtain ⟨g1, _⟩ := kid m.2.1 k1 k2 (by simp [isRef, h])
      have := g1 (by simp [h])
      simp [h, this]
    · obtain ⟨k1, k2⟩ := hl (.inr (.inl h))
      obtain ⟨k3, k4⟩ := hr (.inl h)
      obtain ⟨g1, g2⟩ := kid m.2.1 k1 k2 (by simp [isRef, h])
      obtain ⟨g3, g4⟩ := kid m.2.2.1 k3 k4 (by simp [isRef, h])
      refine ⟨fun hn => ?_, fun hm => ?_⟩
      · simp [h, g1 (by simp [hn]), g3 (by simp [hn])]
      · simp [h] at hm ⊢
        exact ⟨g2 hm.1, g4 hm.2⟩
    · obtain ⟨k1, k2⟩ := hl (.inr (.inr h))
      obtain ⟨k3, k4⟩ := hr (.inr h)
      obtain ⟨g1, g2⟩ := kid m.2.1 k1 k2 (by simp [isRef, h])
      obtain ⟨g3, g4⟩ := kid m.2.2.1 k3 k4 (by simp [isRef, h])
      refine ⟨fun hn => ?_, fun hm => ?_⟩
      · simp [h, g1 (by simp [hn]), g3 (by simp [hn])]
      · simp [h] at hm ⊢
        exact hm.imp g2 g4
    · refine ⟨fun hn => ?_, fun hm => ?_⟩
      · simp [h, hs.same _ (hnm hn (by simp [implnamesDir, h]))]
      · simp [h] at hm ⊢
        exact (cid_iff _ _).2 (hs.grow _ _ ((cid_iff _ _).1 hm))
    · refine ⟨fun hn => ?_, fun hm => ?_⟩
      · simp [h, hs.same _ (hnm hn (by simp [implnamesDir, h]))]
      · simp [h] at hm ⊢
        exact ⟨hm.1, (cid_iff _ _).2 (hs.grow _ _ ((cid_iff _ _).1 hm.2))⟩
theorem matches_grow {q : List NodeD} {a b : List ResultD} (hs : Seen q a b) (f : FileD) (h : implMatches q f a = true) : implMatches q f b = true := by
  unfold implMatches at h ⊢
  cases hv : implIsValidQuery q with
  | false => rw [hv] at h; cases h
  | true =>
    rw [hv, Bool.true_and] at h
    rw [Bool.true_and]
    have hl := vq_len hv
    have e : ((q.length : Int) - 1) = ((q.length - 1 : Nat) : Int) := by omega
    rw [e] at h ⊢
    exact (match_grow hv hs f q.length (q.length - 1) (by omega) (by omega)).2 h
theorem select_sel (s : StoreD) (q : List NodeD) (r : List ResultD) : implSelectFiles s q r = sel s.2.1 (fun f => f.1) fun f => implMatches q f r := by
  unfold implSelectFiles
  rw [forL_filter (f := implSelectFiles_f0 q r) (p := fun f => implMatches q f r) (g := fun f => f.1) (fun _ _ _ => rfl)]
  rfl
/-! ### strata that hold -/
theorem strata_ok {d : List DirD} {L : List Int} (h : implStrata d = (L, true)) : implIsValidDirs d = true ∧ L.length = d.length ∧ Sat (edgesD d) d.length L ∧ ∀ j, 0 ≤ nth L j := by
  unfold implStrata at h
  cases hv : implIsValidDirs d with
  | false => rw [hv] at h; simp at h
  | true =>
    rw [hv] at h
    simp only [Bool.not_true, cond_false] at h
    have h5 := vdirs_len hv
    have hw := whl_climb (d := d) (f := implStrata_f1 d) (e := implStrata_e1) (F := implStrata_f0 d) (fun _ _ _ => rfl) (fun _ _ => rfl) (fun _ => rfl) (by omega) (d.length * d.length + 3) (List.replicate d.length 0) true (zeroL_ok _).1 (zeroL_ok _).2
    have hsome : (climb (edgesD d) d.length d.length (d.length * d.length + 3) (true, List.replicate d.length 0)).isSome = true := by
      have := implStrata_w d h5
      rw [Int.toNat_natCast, hw, Option.isSome_map] at this
      exact this
    obtain ⟨r, hr⟩ := Option.isSome_iff_exists.1 hsome
    unfold whlD at h
    rw [Int.toNat_natCast, hw, hr] at h
    have hw' : ∀ i e, e ∈ edgesD d i → e.2 ≤ 1 ∧ e.1 < d.length := fun i e he => ⟨(edgesD_ok d i e he).1, (edgesD_ok d i e he).2.1⟩
    obtain ⟨h1, _⟩ := climb_eq hw' _ 0 true r (fun e => by cases e) hr
    cases r with
    | none => simp [endD, Out.on] at h
    | some M =>
      have e : M = L := by simpa [endD, Out.on] using h
      subst e
      obtain ⟨hrest, hM⟩ := h1 M rfl
      rw [hM]
      exact ⟨rfl, after_len _ _ _, rest_sat (after_len _ _ _) hrest, fun j => after_nonneg _ _ j _⟩
theorem strata_le {d : List DirD} {L : List Int} (h : implStrata d = (L, true)) : ∀ j, nth L j ≤ (d.length : Int) := by
  obtain ⟨hv, hlen, _, _⟩ := strata_ok h
  have h5 := vdirs_len hv
  unfold implStrata at h
  rw [hv] at h
  simp only [Bool.not_true, cond_false] at h
  have hw := whl_climb (d := d) (f := implStrata_f1 d) (e := implStrata_e1) (F := implStrata_f0 d) (fun _ _ _ => rfl) (fun _ _ => rfl) (fun _ => rfl) (by omega) (d.length * d.length + 3) (List.replicate d.length 0) true (zeroL_ok _).1 (zeroL_ok _).2
  have hsome : (climb (edgesD d) d.length d.length (d.length * d.length + 3) (true, List.replicate d.length 0)).isSome = true := by
    have := implStrata_w d h5
    rw [Int.toNat_natCast, hw, Option.isSome_map] at this
    exact this
  obtain ⟨r, hr⟩ := Option.isSome_iff_exists.1 hsome
  unfold whlD at h
  rw [Int.toNat_natCast, hw, hr] at h
  have hw' : ∀ i e, e ∈ edgesD d i → e.2 ≤ 1 ∧ e.1 < d.length := fun i e he => ⟨(edgesD_ok d i e he).1, (edgesD_ok d i e he).2.1⟩
  obtain ⟨h1, _⟩ := climb_eq hw' _ 0 true r (fun e => by cases e) hr
  cases r with
  | none => simp [endD, Out.on] at h
  | some M =>
    have e : M = L := by simpa [endD, Out.on] using h
    subst e
    obtain ⟨hrest, hM⟩ := h1 M rfl
    intro j
    by_cases hj : j < d.length
    · rw [hM]; exact Int.le_of_lt (rest_lt hw' hrest j hj)
    · have : nth M j = 0 := nth_out (by omega)
      omega
theorem edgesOfN_mem {d : List DirD} {w : Int} {nm : ByteArray} : ∀ {l : List ByteArray}, nm ∈ l → 0 ≤ impldirAt d nm → (Int.toNat (impldirAt d nm), w) ∈ edgesOfN d w l
  | x :: l, h, h0 => by
    simp only [edgesOfN]
    rcases List.mem_cons.1 h with rfl | h
    · rw [if_pos h0]; exact List.mem_cons_self ..
    · split
      · exact List.mem_cons_of_mem _ (edgesOfN_mem h h0)
      · exact edgesOfN_mem h h0
theorem strata_neg {d : List DirD} {L : List Int} (h : implStrata d = (L, true)) {i : Nat} (hi : i < d.length) {nm : ByteArray} (hn : nm ∈ implNegativeDeps (nth d i).2) (h0 : 0 ≤ impldirAt d nm) : nth L (Int.toNat (impldirAt d nm)) < nth L i := by
  obtain ⟨_, _, hs, _⟩ := strata_ok h
  have hm : (Int.toNat (impldirAt d nm), (1 : Int)) ∈ edgesD d i := by
    unfold edgesD
    rw [if_pos hi]
    exact List.mem_append_right _ (edgesOfN_mem hn h0)
  have := (need_le.1 (hs i hi)).2 _ hm
  simp only at this
  omega
end Go.Proofs.YtcnkkobgogmakaaGreat
namespace Go.Proofs.YtcnkkobgogmakaaGreat
open Go.RowKit
theorem rids_go (nm : ByteArray) : ∀ (d : List DirD) (o : List ResultD) (k : Nat), o.map (·.1) = d.map (·.1) →
    (forL (slicesIndexFunc_Dir_impldirAt_1_f0 nm) slicesIndexFunc_Dir_impldirAt_1_e0 d k () = .brk () ∧ forL (implResultIDs_f0 nm) implResultIDs_e0 o k () = .brk ()) ∨
    ∃ i : Nat, i < d.length ∧ forL (slicesIndexFunc_Dir_impldirAt_1_f0 nm) slicesIndexFunc_Dir_impldirAt_1_e0 d k () = .ret (((k + i : Nat)) : Int) ∧ forL (implResultIDs_f0 nm) implResultIDs_e0 o k () = .ret (nth o i).2
  | [], [], _, _ => .inl ⟨rfl, rfl⟩
  | [], _ :: _, _, h => by simp at h
  | _ :: _, [], _, h => by simp at h
  | a :: d, b :: o, k, h => by
    simp only [List.map_cons, List.cons.injEq] at h
    obtain ⟨h1, h2⟩ := h
    simp only [forL, slicesIndexFunc_Dir_impldirAt_1_f0, implResultIDs_f0, impldirAt_1, h1]
    cases (a.1.toList == nm.toList) with
    | true => exact .inr ⟨0, by simp, rfl, rfl⟩
    | false =>
      simp only [cond_false]
      rcases rids_go nm d o (k + 1) h2 with h | ⟨i, hi, h3, h4⟩
      · exact .inl h
      · exact .inr ⟨i + 1, by simpa using hi, by rw [h3, show k + 1 + i = k + (i + 1) by omega], h4⟩
theorem rids_at {d : List DirD} {o : List ResultD} (h : o.map (·.1) = d.map (·.1)) (nm : ByteArray) : (impldirAt d nm < 0 ∧ implResultIDs o nm = []) ∨ (0 ≤ impldirAt d nm ∧ Int.toNat (impldirAt d nm) < d.length ∧ implResultIDs o nm = (nth o (Int.toNat (impldirAt d nm))).2) := by
  unfold impldirAt slicesIndexFunc_Dir_impldirAt_1 implResultIDs
  rcases rids_go nm d o 0 h with ⟨h1, h2⟩ | ⟨i, hi, h1, h2⟩
  · rw [h1, h2]
    refine .inl ⟨?_, ?_⟩
    · show (-1 : Int) < 0; omega
    · rfl
  · rw [h1, h2]
    simp only [Out.on, Nat.zero_add, Int.toNat_natCast]
    exact .inr ⟨by omega, hi, trivial⟩
abbrev pickD (d : List DirD) (k : Nat) (o : List ResultD) (f : FileD) : Bool := implMatches (nth d k).2 f o
theorem mono_ok {d : List DirD} {L : List Int} (h : implStrata d = (L, true)) (fs : List FileD) {act : Nat → Bool} {level : Int} (ha : ∀ k, act k = true → nth L k = level) : MonoC fs (pickD d) act (d.map (·.1)) := by
  intro a b hna hnb hle k hk hact f _ hm
  rw [List.length_map] at hk
  refine matches_grow (⟨fun nm x hx => ?_, fun nm hn => ?_⟩ : Seen (nth d k).2 a b) f hm
  · rcases rids_at hna nm with ⟨h1, h2⟩ | ⟨h1, h2, h3⟩
    · rw [h2] at hx; simp at hx
    · rcases rids_at hnb nm with ⟨g1, _⟩ | ⟨_, _, g3⟩
      · omega
      · rw [h3] at hx
        rw [g3]
        exact (hle _).1 x hx
  · rcases rids_at hna nm with ⟨h1, h2⟩ | ⟨h1, h2, h3⟩
    · rcases rids_at hnb nm with ⟨_, g2⟩ | ⟨g1, _, _⟩
      · rw [h2, g2]
      · omega
    · rcases rids_at hnb nm with ⟨g1, _⟩ | ⟨_, _, g3⟩
      · omega
      · rw [h3, g3]
        refine (hle _).2 ?_
        have hlt := strata_neg h hk hn h1
        cases hp : act (Int.toNat (impldirAt d nm)) with
        | false => rfl
        | true => have := ha _ hp; have := ha _ hact; omega
structure EvS (d : List DirD) (L : List Int) (on : Nat → Bool) (fs : List FileD) (k : Int) (o : List ResultD) : Prop where
  names : o.map (·.1) = d.map (·.1)
  none : ∀ j, k ≤ nth L j → on j = true → (nth o j).2 = []
  some_ : ∀ j, j < d.length → on j = true → ∃ p : FileD → Bool, (nth o j).2 = sel fs (fun f => f.1) p
def actD (L : List Int) (on : Nat → Bool) (k : Int) (j : Nat) : Bool := (nth L j == k) && on j
theorem evS_state {d : List DirD} {L : List Int} {on : Nat → Bool} {fs : List FileD} {k : Int} {o : List ResultD} (h : EvS d L on fs k o) : StateC fs (fun f : FileD => f.1) (pickD d) (actD L on k) (d.map (·.1)) o o :=
  ⟨h.names, fun j _ hj => ⟨fun _ => false, by
    unfold actD at hj
    simp only [Bool.and_eq_true, beq_iff_eq] at hj
    rw [h.none j (by omega) hj.2]; simp [sel], fun f _ hf => by cases hf⟩, fun _ _ => rfl⟩
theorem evS_next {d : List DirD} {L : List Int} {on : Nat → Bool} {k : Int} {o o' : List ResultD} {fs : List FileD} (h : EvS d L on fs k o) (h' : StateC fs (fun f : FileD => f.1) (pickD d) (actD L on k) (d.map (·.1)) o o') : EvS d L on fs (k + 1) o' :=
  ⟨h'.names, fun j hj hon => by
    rw [h'.rest j (by unfold actD; rw [Bool.and_eq_false_iff]; exact .inl (beq_eq_false_iff_ne.2 (by omega)))]
    exact h.none j (by omega) hon, fun j hj hon => by
    cases ha : actD L on k j with
    | false => rw [h'.rest j ha]; exact h.some_ j hj hon
    | true =>
      have hlen : o'.length = d.length := by have := congrArg List.length h'.names; simpa using this
      obtain ⟨p, hp, _⟩ := h'.good j (by omega) ha
      exact ⟨p, hp⟩⟩
theorem evS_len {d : List DirD} {L : List Int} {on : Nat → Bool} {fs : List FileD} {k : Int} {o : List ResultD} (h : EvS d L on fs k o) : List.length o = List.length d := by have := congrArg List.length h.names; simpa using this
theorem ints_dec (a b : List Int) : specl07Ints a b = decide (a = b) := by
  by_cases h : a.length = b.length
  · exact ints_eq a b h
  · have hb : ((a.length : Int) != (b.length : Int)) = true := by simpa using fun e : (a.length : Int) = (b.length : Int) => h (by omega)
    unfold specl07Ints
    rw [hb, decide_eq_false (fun e => h (congrArg List.length e))]
    rfl
def StepE (s : StoreD) (d : List DirD) (L : List Int) (on : Nat → Bool) (lv : Int) {R T : Type} (f : Nat → DirD → List ResultD × Bool → Rd R (List ResultD × Bool) T) : Prop :=
  ∀ k a o c, d[k]? = some a → f k a (o, c) = bif actD L on lv k then (bif !(decide (implSelectFiles s a.2 o = (nth o k).2)) then .next (List.set o k ((nth o k).1, implSelectFiles s a.2 o), true) else .next (o, c)) else .next (o, c)
theorem pass_eq {R : Type} {s : StoreD} {d : List DirD} {L : List Int} {on : Nat → Bool} {lv : Int} {f : Nat → DirD → List ResultD × Bool → Rd R (List ResultD × Bool) (List ResultD × Bool)} {e : Nat → List ResultD × Bool → List ResultD × Bool}
    (hf : StepE s d L on lv f) (he : ∀ k s, e k s = s) : ∀ (l : List DirD) (k : Nat) (o : List ResultD) (c : Bool), d.drop k = l → forL f e l k (o, c) = .brk (passC s.2.1 (fun f : FileD => f.1) (pickD d) (actD L on lv) (List.range' k l.length) (o, c))
  | [], k, o, c, _ => by simp [forL, passC, he]
  | a :: l, k, o, c, hl => by
    have hk : d[k]? = some a := by
      have := congrArg (·[0]?) hl
      simpa using this
    have ha : nth d k = a := nth_of hk
    have hrest : d.drop (k + 1) = l := by rw [← List.drop_drop, hl]; rfl
    have hp : passC s.2.1 (fun f : FileD => f.1) (pickD d) (actD L on lv) (List.range' k (a :: l).length) (o, c) = passC s.2.1 (fun f : FileD => f.1) (pickD d) (actD L on lv) (List.range' (k + 1) l.length) (stepC s.2.1 (fun f : FileD => f.1) (pickD d) (actD L on lv) (o, c) k) := by
      rw [List.length_cons, List.range'_succ]; rfl
    have hsel : sel s.2.1 (fun f : FileD => f.1) (pickD d k o) = implSelectFiles s a.2 o := by rw [select_sel, ← ha]
    rw [hp]
    simp only [forL, hf k a o c hk]
    unfold stepC
    cases actD L on lv k with
    | false => simp only [cond_false]; exact pass_eq hf he l (k + 1) o c hrest
    | true =>
      simp only [cond_true, hsel]
      by_cases hq : implSelectFiles s a.2 o = (nth o k).2
      · rw [decide_eq_true hq, if_pos hq]; exact pass_eq hf he l (k + 1) o c hrest
      · rw [decide_eq_false hq, if_neg hq]; exact pass_eq hf he l (k + 1) _ true hrest
theorem ev_run {R' : Type} {s : StoreD} {d : List DirD} {L : List Int} {on : Nat → Bool} {lv : Int} {f : Nat → DirD → List ResultD × Bool → Rd (Rd R' (List ResultD × Int × Bool) (List ResultD × Int)) (List ResultD × Bool) (List ResultD × Bool)} {e : Nat → List ResultD × Bool → List ResultD × Bool} {F : List ResultD × Int × Bool → Rd R' (List ResultD × Int × Bool) (List ResultD × Int)}
    (hf : StepE s d L on lv f) (he : ∀ k s, e k s = s) (hF : ∀ x, F x = bif x.2.2 then (Out.on (forL f e d 0 (x.1, false)) fun y => .next (y.1, IntKind.i64.wrap (x.2.1 + 1), y.2)) else .brk (x.1, x.2.1))
    (hS : implStrata d = (L, true)) {o : List ResultD} (h : EvS d L on s.2.1 lv o) (p : Int) :
    ∃ o' p', whl F (List.length d * List.length s.2.1 + 2) (o, p, true) = some (.brk (o', p')) ∧ EvS d L on s.2.1 (lv + 1) o' := by
  have hlen : o.length = d.length := by have := congrArg List.length h.names; simpa using this
  have hroom := room_le s.2.1.length (actD L on lv) o 0
  rw [hlen] at hroom
  obtain ⟨s', h1, hc, t, h2, h3⟩ := whlC (fs := s.2.1) (idOf := fun f : FileD => f.1) (m := pickD d) (act := actD L on lv) (nm := d.map (·.1)) (F := F) (out := fun x => x.1) (ch := fun x => x.2.2) (n := d.length) (by simp)
    (fun x hx => ⟨_, by rw [hF, hx, cond_true, pass_eq hf he d 0 x.1 false rfl]; rfl, by rw [List.range_eq_range']⟩)
    (fun x hx => ⟨_, by rw [hF, hx, cond_false]⟩) (mono_ok hS s.2.1 fun k hk => by unfold actD at hk; simp only [Bool.and_eq_true, beq_iff_eq] at hk; exact hk.1) (o := o) (List.length d * List.length s.2.1 + 2) (o, p, true) (evS_state h) (by simp only [cond_true]; omega)
  have hc' : s'.2.2 = false := hc
  have hb : F s' = .brk (s'.1, s'.2.1) := by rw [hF, hc']; rfl
  rw [hb] at h2
  cases h2
  exact ⟨s'.1, s'.2.1, h3, evS_next h h1⟩
theorem ev_start {R T : Type} {d : List DirD} {L : List Int} {on : Nat → Bool} {fs : List FileD} {g : DirD → List Int} {f : Nat → DirD → List ResultD → Rd R (List ResultD) T} {e : Nat → List ResultD → T} (hf : ∀ k a s, f k a s = .next (s ++ [(a.1, g a)])) (hg : ∀ j, j < d.length → on j = true → g (nth d j) = []) :
    forL f e d 0 [] = .brk (e d.length (d.map fun a => (a.1, g a))) ∧ EvS d L on fs 0 (d.map fun a => (a.1, g a)) := by
  refine ⟨by rw [forL_map (g := fun a => ((a.1, g a) : ResultD)) hf]; simp, ?_, fun j _ hj => ?_, fun j hj hon => ?_⟩
  · rw [List.map_map]; rfl
  · by_cases hjl : j < d.length
    · have : nth (d.map fun a => ((a.1, g a) : ResultD)) j = ((nth d j).1, g (nth d j)) := by simp [nth, List.getD, hjl]
      rw [this]; exact hg j hjl hj
    · have : nth (d.map fun a => ((a.1, g a) : ResultD)) j = default := by simp [nth, List.getD, hjl]
      rw [this]; rfl
  · have : nth (d.map fun a => ((a.1, g a) : ResultD)) j = ((nth d j).1, g (nth d j)) := by simp [nth, List.getD, hj]
    exact ⟨fun _ => false, by rw [this, hg j hj hon]; simp [sel]⟩
theorem strata_small {d : List DirD} (h : ((implStrata d)).2 = true) : List.length ((implStrata d)).1 = List.length d ∧ List.length d ≤ 5 ∧ ∀ x, x ∈ ((implStrata d)).1 → 0 ≤ x ∧ x ≤ 5 := by
  have hS : implStrata d = ((implStrata d).1, true) := Prod.ext rfl h
  obtain ⟨hv, hlen, hs, h0⟩ := strata_ok hS
  have h5 := vdirs_len hv
  refine ⟨hlen, h5, fun x hx => ?_⟩
  obtain ⟨i, hi, rfl⟩ := mem_nth hx
  refine ⟨h0 i, ?_⟩
  have hb := strata_le hS i
  omega
open GoE (enc wide)
def implDirNames_f0 (_ : Nat) (a0 : DirD) (s0 : (List ByteArray)) : Rd ((List ByteArray)) ((List ByteArray)) ((List ByteArray)) := (.next (s0 ++ [a0.1]))
def implDirNames_e0 (_ : Nat) (s0 : (List ByteArray)) : (List ByteArray) := s0
def implDirNames (d : (List DirD)) : (List ByteArray) := (Out.on (forL implDirNames_f0 implDirNames_e0 d 0 []) (fun y0 => y0))
def slicesIndex_string_f0 (v : ByteArray) (k0 : Nat) (a0 : ByteArray) (_ : Unit) : Rd (Int) (Unit) (Unit) := (bif (v.toList == a0.toList) then (.ret ((k0 : Nat) : Int)) else (.next ()))
def slicesIndex_string_e0 (_ : Nat) (_ : Unit) : Unit := ()
def slicesIndex_string (s_ : (List ByteArray)) (v : ByteArray) : Int := (Out.on (forL (slicesIndex_string_f0 v) slicesIndex_string_e0 s_ 0 ()) (fun _ => -1))
def slicesContains_string (s_ : (List ByteArray)) (v : ByteArray) : Bool := decide ((slicesIndex_string s_ v) ≥ (0 : Int))
def slicesMax_int_f0 (x : (List Int)) (k0 : Nat) (s0 : Int) : Rd (Int) (Int) (Int) := (.next (max s0 (nth x (k0 + 1))))
def slicesMax_int_e0 (_ : Nat) (s0 : Int) : Int := s0
def slicesMax_int (x : (List Int)) : Int := (Out.on (forN (slicesMax_int_f0 x) slicesMax_int_e0 (x.length - 1) 0 (nth x 0)) (fun y0 => y0))
def implMaxStratum (d : (List DirD)) : Int := (bif ((!(((implStrata d)).2)) || (((((implStrata d)).1).length : Int) == (0 : Int))) then -1 else (slicesMax_int (((implStrata d)).1)))
def slicesEqual_int_f0 (s2_ : (List Int)) (k0 : Nat) (a0 : Int) (_ : Unit) : Rd (Bool) (Unit) (Unit) := (bif (a0 != (nth s2_ k0)) then (.ret false) else (.next ()))
def slicesEqual_int_e0 (_ : Nat) (_ : Unit) : Unit := ()
def slicesEqual_int (s1_ : (List Int)) (s2_ : (List Int)) : Bool := (bif ((s1_.length : Int) != (s2_.length : Int)) then false else (Out.on (forL (slicesEqual_int_f0 s2_) slicesEqual_int_e0 s1_ 0 ()) (fun _ => true)))
def implevaluated_f0 (r : (List ResultD)) (names : (List ByteArray)) (_ : Nat) (a0 : DirD) (s0 : (List ResultD)) : Rd ((List ResultD) × Int × Bool) ((List ResultD)) ((List ResultD)) := (bif (!(slicesContains_string names a0.1)) then (.next (s0 ++ [(a0.1, (implResultIDs r a0.1))])) else (.next (s0 ++ [((a0.1, []) : ResultD)])))
def implevaluated_e0 (_ : Nat) (s0 : (List ResultD)) : (List ResultD) := s0
def implevaluated_f3 (s_ : StoreD) (d : (List DirD)) (names : (List ByteArray)) (k1 : Nat) (k3 : Nat) (a3 : DirD) (s3 : (List ResultD) × Bool) : Rd (Rd (Rd ((List ResultD) × Int × Bool) ((List ResultD) × Int) ((List ResultD) × Int)) ((List ResultD) × Int × Bool) ((List ResultD) × Int)) ((List ResultD) × Bool) ((List ResultD) × Bool) := (bif (((nth (((implStrata d)).1) k3) != ((k1 : Nat) : Int)) || (!(slicesContains_string names a3.1))) then (.next (s3.1, s3.2)) else (bif (!(slicesEqual_int (implSelectFiles s_ a3.2 s3.1) ((nth s3.1 k3).2))) then (.next (List.set s3.1 k3 ((nth s3.1 k3).1, (implSelectFiles s_ a3.2 s3.1)), true)) else (.next (s3.1, s3.2))))
def implevaluated_e3 (_ : Nat) (s3 : (List ResultD) × Bool) : (List ResultD) × Bool := (s3.1, s3.2)
def implevaluated_f2 (s_ : StoreD) (d : (List DirD)) (names : (List ByteArray)) (k1 : Nat) (s2 : (List ResultD) × Int × Bool) : Rd (Rd ((List ResultD) × Int × Bool) ((List ResultD) × Int) ((List ResultD) × Int)) ((List ResultD) × Int × Bool) ((List ResultD) × Int) := (bif s2.2.2 then (Out.on (forL (implevaluated_f3 s_ d names k1) implevaluated_e3 d 0 (s2.1, false)) (fun y3 => (.next (y3.1, IntKind.i64.wrap (s2.2.1 + 1), y3.2)))) else (.brk (s2.1, s2.2.1)))
def implevaluated_f1 (s_ : StoreD) (d : (List DirD)) (names : (List ByteArray)) (k1 : Nat) (s1 : (List ResultD) × Int) : Rd ((List ResultD) × Int × Bool) ((List ResultD) × Int) ((List ResultD) × Int) := (Out.on (whlD (implevaluated_f2 s_ d names k1) (List.length d * List.length s_.2.1 + 2) (s1.1, s1.2, true)) (fun y2 => (.next (y2.1, y2.2))))
def implevaluated_e1 (_ : Nat) (s1 : (List ResultD) × Int) : (List ResultD) × Int := (s1.1, s1.2)
def implevaluated (s_ : StoreD) (d : (List DirD)) (r : (List ResultD)) (names : (List ByteArray)) : (List ResultD) × Int × Bool := (bif ((!(((implStrata d)).2)) || (!(implIsValidStore s_))) then ([], 0, false) else (Out.on (forL (implevaluated_f0 r names) implevaluated_e0 d 0 []) (fun y0 => (Out.on (forN (implevaluated_f1 s_ d names) implevaluated_e1 (Int.toNat ((implMaxStratum d) + 1)) 0 (y0, 0)) (fun y1 => (y1.1, y1.2, true))))))
theorem eqI_go (b : List Int) : ∀ (l : List Int) (k : Nat), l.length = (b.drop k).length → Out.on (forL (slicesEqual_int_f0 b) slicesEqual_int_e0 l k ()) (fun _ => true) = decide (l = b.drop k)
  | [], k, h => by
    have : b.drop k = [] := List.eq_nil_of_length_eq_zero (by rw [← h]; rfl)
    rw [this]; rfl
  | a :: l, k, h => by
    have hk : k < b.length := by simp only [List.length_cons, List.length_drop] at h; omega
    have hd : b.drop k = nth b k :: b.drop (k + 1) := by
      rw [List.drop_eq_getElem_cons hk, show nth b k = b[k] by simp [nth, List.getD, hk]]
    rw [hd] at h ⊢
    simp only [forL, slicesEqual_int_f0]
    by_cases e : a = nth b k
    · rw [show (a != nth b k) = false by simp [e], cond_false, eqI_go b l (k + 1) (by simpa using h)]
      simp [e]
    · rw [show (a != nth b k) = true by simp [e], cond_true]
      simp [e, Out.on]
theorem eqI_eq (a b : List Int) (h : a.length = b.length) : slicesEqual_int a b = decide (a = b) := by
 unfold slicesEqual_int
 rw [show ((a.length : Int) != (b.length : Int)) = false by simp [h], cond_false, eqI_go b a 0 (by simpa using h), List.drop_zero]
theorem eqI_dec (a b : List Int) : slicesEqual_int a b = decide (a = b) := by
  by_cases h : a.length = b.length
  · exact eqI_eq a b h
  · have hb : ((a.length : Int) != (b.length : Int)) = true := by simpa using fun e : (a.length : Int) = (b.length : Int) => h (by omega)
    unfold slicesEqual_int
    rw [hb, decide_eq_false (fun e => h (congrArg List.length e))]
    rfl
def onD (d : List DirD) (names : List ByteArray) (j : Nat) : Bool := slicesContains_string names (nth d j).1
theorem evaluated_step (s_ : StoreD) (d : List DirD) (names : List ByteArray) (k1 : Nat) : StepE s_ d (implStrata d).1 (onD d names) (k1 : Int) (implevaluated_f3 s_ d names k1) := by
 intro k a o c hk
 have ha : nth d k = a := nth_of hk
 unfold implevaluated_f3 actD onD
 rw [ha, eqI_dec]
 simp only [bne]
 cases (nth (implStrata d).1 k == (k1 : Int)) <;> cases slicesContains_string names a.1 <;> rfl
section
variable {s_ : StoreD} {d : List DirD} {names : List ByteArray} {k1 : Nat} {o : List ResultD} {p : Int}
theorem evaluated_run (hS : ((implStrata d)).2 = true) (h : EvS d ((implStrata d)).1 (onD d names) s_.2.1 (k1 : Int) o) : ∃ o' p', whl (implevaluated_f2 s_ d names k1) (List.length d * List.length s_.2.1 + 2) (o, p, true) = some (.brk (o', p')) ∧ EvS d ((implStrata d)).1 (onD d names) s_.2.1 ((k1 : Int) + 1) o' :=
 ev_run (f := implevaluated_f3 s_ d names k1) (e := implevaluated_e3) (evaluated_step s_ d names k1) (fun _ _ => rfl) (fun _ => rfl) (Prod.ext rfl hS) h p
def startG (r : List ResultD) (names : List ByteArray) (a : DirD) : List Int := bif (!(slicesContains_string names a.1)) then (implResultIDs r a.1) else []
end
def implEvaluate (s_ : StoreD) (d : (List DirD)) : (List ResultD) × Bool := (((implevaluated s_ d [] (implDirNames d))).1, ((implevaluated s_ d [] (implDirNames d))).2.2)
def specMaxStratum_f0 (_ : Nat) (a0 : Int) (s0 : Int) : Rd (Int) (Int) (Int) := (bif decide (a0 > s0) then (.next a0) else (.next s0))
def specMaxStratum_e0 (_ : Nat) (s0 : Int) : Int := s0
def specMaxStratum (d : (List DirD)) : Int := (Out.on (forL specMaxStratum_f0 specMaxStratum_e0 (((specStrata d)).1) 0 (-1)) (fun y0 => y0))
theorem specMaxStratum_a (d : (List DirD)) : ACalls Tryz.prog 134 [.h d] (.i (specMaxStratum d)) := by
 refine en tt_ok Tryz.func134 fun w0 F0 hG => ?_
 refine sn tt_ok [0, 2] [] (p0) ?_
 refine tn tt_ok [2, 3] [] (pc 1 (specStrata_a d) p0) ?_
 refine tu tt_ok [(2, .i 0), (3, .o 576 (((specStrata d)).1)), (5, .i (-1))] [0] [] [] (p0) ?_
 refine awp_seq ?_
 refine sn tt_ok [2, 3, 5, 6] [] (p0) ?_
 refine mz [(6, .i 0)] [] [] [] ?_
 refine wT 3 0 (.own true 576) (((specStrata d)).1) (fun hw1 hl2 => ?_)
 refine blL0 specMaxStratum_f0 specMaxStratum_e0 (((specStrata d)).1) (-1) (fun k0 s0 => [(5, .i s0), (6, .i ((k0 : Nat) : Int))]) [5, 6] (fun y0 => [(5, .i y0)]) [3, 5, 6] (weak_fit (by kernel_rfl)) (fun k0 s0 hk0 hI0 => ?_) (fun k0 s0 hk0 hI0 => ?_) (fun y0 hD0 => ?_)
 ·
  obtain ⟨a0, hx0⟩ := get_some (l := ((specStrata d)).1) (i := k0) hk0
  refine awp_seq ?_
  refine sn tt_ok [2, 3, 5, 6, 15] [] (pl 2 (((specStrata d)).1) (pe 3 (av_bool (decide_eq_true (p := ((k0 : Nat) : Int) < ((((specStrata d)).1).length : Int)) (by omega))) p0)) ?_
  refine ckT ?_
  refine awp_skip ?_
  refine awp_seq ?_
  refine awp_block ?_
  refine tn tt_ok [2, 3, 5, 6, 23] [] (pN 2 hx0 p0) ?_
  refine ck (decide (a0 > s0)) (fun h3 => ?_) (fun h3 => ?_)
  ·
   have h3d := of_decide_eq_true h3
   refine qu tt_ok [(5, .i a0)] [5] [] [] (pN 2 hx0 p0) ?_
   refine rn tt_ok [2, 3, 5, 6] [] (pe 1 (av_i (wrap_succ k0 (by omega))) p0) ?_
   exact Exists.intro _ (And.intro (weak_fit (by kernel_rfl)) (forL_next hx0 (bif_t h3 (rfl)) hI0))
  ·
   have h3d := of_decide_eq_false h3
   refine awp_skip ?_
   refine qu tt_ok [(6, .i ((k0 + 1 : Nat) : Int))] [6] [] [] (pe 1 (av_i (wrap_succ k0 (by omega))) p0) ?_
   exact Exists.intro _ (And.intro (weak_fit (by kernel_rfl)) (forL_next hx0 (bif_f h3 (rfl)) hI0))
 ·
  refine awp_seq ?_
  refine sn tt_ok [2, 3, 5, 6, 15] [] (pl 2 (((specStrata d)).1) (pe 3 (av_bool (decide_eq_false (p := ((k0 : Nat) : Int) < ((((specStrata d)).1).length : Int)) (by omega))) p0)) ?_
  refine ckF ?_
  refine awp_exit ?_
  exact Exists.intro _ (And.intro (weak_fit (by kernel_rfl)) (forL_end hk0 (rfl) hI0))
 ·
  refine sn tt_ok [2] [] (p0) ?_
  refine awp_ret ?_
  exact pi [] (on_b hD0 (rfl))
def specl15Run_f0 (_ : Nat) (a0 : DirD) (s0 : (List ResultD)) : Rd ((List ResultD) × Int × Bool) ((List ResultD)) ((List ResultD)) := (.next (s0 ++ [((a0.1, []) : ResultD)]))
def specl15Run_e0 (_ : Nat) (s0 : (List ResultD)) : (List ResultD) := s0
def specl15Run_f3 (s_ : StoreD) (d : (List DirD)) (k1 : Nat) (k3 : Nat) (a3 : DirD) (s3 : (List ResultD) × Bool) : Rd (Rd (Rd ((List ResultD) × Int × Bool) ((List ResultD) × Int) ((List ResultD) × Int)) ((List ResultD) × Int × Bool) ((List ResultD) × Int)) ((List ResultD) × Bool) ((List ResultD) × Bool) := (bif ((nth (((specStrata d)).1) k3) != ((k1 : Nat) : Int)) then (.next (s3.1, s3.2)) else (bif (!(specl07Ints (specSelectFiles s_ a3.2 s3.1) ((nth s3.1 k3).2))) then (.next (List.set s3.1 k3 ((nth s3.1 k3).1, (specSelectFiles s_ a3.2 s3.1)), true)) else (.next (s3.1, s3.2))))
def specl15Run_e3 (_ : Nat) (s3 : (List ResultD) × Bool) : (List ResultD) × Bool := (s3.1, s3.2)
def specl15Run_f2 (s_ : StoreD) (d : (List DirD)) (k1 : Nat) (s2 : (List ResultD) × Int × Bool) : Rd (Rd ((List ResultD) × Int × Bool) ((List ResultD) × Int) ((List ResultD) × Int)) ((List ResultD) × Int × Bool) ((List ResultD) × Int) := (bif s2.2.2 then (Out.on (forL (specl15Run_f3 s_ d k1) specl15Run_e3 d 0 (s2.1, false)) (fun y3 => (.next (y3.1, IntKind.i64.wrap (s2.2.1 + 1), y3.2)))) else (.brk (s2.1, s2.2.1)))
def specl15Run_f1 (s_ : StoreD) (d : (List DirD)) (k1 : Nat) (s1 : (List ResultD) × Int) : Rd ((List ResultD) × Int × Bool) ((List ResultD) × Int) ((List ResultD) × Int) := (Out.on (whlD (specl15Run_f2 s_ d k1) (List.length d * List.length s_.2.1 + 2) (s1.1, s1.2, true)) (fun y2 => (.next (y2.1, y2.2))))
def specl15Run_e1 (_ : Nat) (s1 : (List ResultD) × Int) : (List ResultD) × Int := (s1.1, s1.2)
def specl15Run (s_ : StoreD) (d : (List DirD)) : (List ResultD) × Int × Bool := (bif ((!(((specStrata d)).2)) || (!(specIsValidStore s_))) then ([], 0, false) else (Out.on (forL specl15Run_f0 specl15Run_e0 d 0 []) (fun y0 => (Out.on (forN (specl15Run_f1 s_ d) specl15Run_e1 (Int.toNat ((specMaxStratum d) + 1)) 0 (y0, 0)) (fun y1 => (y1.1, y1.2, true))))))
theorem maxS_go {B : Int} : ∀ (x : List Int) (k : Nat) (s : Int), (∀ a, a ∈ x → a ≤ B) → s ≤ B → ∃ t, forL specMaxStratum_f0 specMaxStratum_e0 x k s = .brk t ∧ t ≤ B
 | [], k, s, _, h => ⟨s, rfl, h⟩
 | a :: x, k, s, hx, h => by
  simp only [forL, specMaxStratum_f0]
  cases hc : decide (a > s) with
  | true => exact maxS_go x (k + 1) a (fun b hb => hx b (List.mem_cons_of_mem _ hb)) (hx a (List.mem_cons_self ..))
  | false => exact maxS_go x (k + 1) s (fun b hb => hx b (List.mem_cons_of_mem _ hb)) h
theorem strata_factsS {d : List DirD} (h : ((specStrata d)).2 = true) : List.length ((specStrata d)).1 = List.length d ∧ List.length d ≤ 5 ∧ specMaxStratum d ≤ 5 := by
 have h' := h
 rw [strata_alike] at h'
 obtain ⟨h1, h2, h3⟩ := strata_small h'
 unfold specMaxStratum
 rw [strata_alike]
 obtain ⟨t, e, ht⟩ := maxS_go (B := 5) ((implStrata d)).1 0 (-1) (fun a ha => (h3 a ha).2) (by omega)
 refine ⟨h1, h2, ?_⟩
 rw [e]; exact ht
theorem l15Run_step (s_ : StoreD) (d : List DirD) (k1 : Nat) : StepE s_ d (implStrata d).1 (fun _ => true) (k1 : Int) (specl15Run_f3 s_ d k1) := by
 intro k a o c hk
 unfold specl15Run_f3 actD
 rw [ints_dec, strata_alike, ← select_eq]
 simp only [bne]
 cases (nth (implStrata d).1 k == (k1 : Int)) <;> rfl
section
variable {s_ : StoreD} {d : List DirD} {k1 : Nat} {o : List ResultD} {p : Int}
theorem l15Run_run (hS : ((specStrata d)).2 = true) (h : EvS d ((specStrata d)).1 (fun _ => true) s_.2.1 (k1 : Int) o) : ∃ o' p', whl (specl15Run_f2 s_ d k1) (List.length d * List.length s_.2.1 + 2) (o, p, true) = some (.brk (o', p')) ∧ EvS d ((specStrata d)).1 (fun _ => true) s_.2.1 ((k1 : Int) + 1) o' := by
 rw [strata_alike] at hS h ⊢
 exact ev_run (f := specl15Run_f3 s_ d k1) (e := specl15Run_e3) (l15Run_step s_ d k1) (fun _ _ => rfl) (fun _ => rfl) (Prod.ext rfl hS) h p
theorem l15Run_w (hS : ((specStrata d)).2 = true) (h : EvS d ((specStrata d)).1 (fun _ => true) s_.2.1 (((k1 : Nat)) : Int) o) : (whl (specl15Run_f2 s_ d k1) (List.length d * List.length s_.2.1 + 2) (o, p, true)).isSome = true := by
 obtain ⟨o', p', h1, _⟩ := l15Run_run (p := p) hS h
 rw [h1]; rfl
theorem l15Run_next {y : List ResultD × Int} (hS : ((specStrata d)).2 = true) (h : EvS d ((specStrata d)).1 (fun _ => true) s_.2.1 (((k1 : Nat)) : Int) o) (hy : whlD (specl15Run_f2 s_ d k1) (List.length d * List.length s_.2.1 + 2) (o, p, true) = .brk y) : EvS d ((specStrata d)).1 (fun _ => true) s_.2.1 ((((k1 + 1) : Nat)) : Int) y.1 := by
 obtain ⟨o', p', h1, h2⟩ := l15Run_run (p := p) hS h
 unfold whlD at hy
 rw [h1] at hy
 have e : (o', p') = y := by simpa using hy
 rw [← e, Int.natCast_add]; exact h2
theorem l15Run_start (hy : forL specl15Run_f0 specl15Run_e0 d 0 [] = .brk o) : EvS d ((specStrata d)).1 (fun _ => true) s_.2.1 (((0 : Nat)) : Int) o := by
 obtain ⟨h1, h2⟩ := ev_start (L := ((specStrata d)).1) (on := fun _ => true) (fs := s_.2.1) (g := fun _ => []) (f := specl15Run_f0) (e := specl15Run_e0) (d := d) (fun k a s => rfl) (fun j _ hj => rfl)
 rw [h1] at hy
 have e : (d.map fun a => ((a.1, ([] : List Int)) : ResultD)) = o := Out.brk.inj hy
 rw [← e]; exact h2
end
theorem specl15Run_a (s_ : StoreD) (d : (List DirD)) : ACalls Tryz.prog 84 [.a [.h s_.1, .h s_.2.1, .i s_.2.2], .h d] (.tup [(false, [.o 0 (((specl15Run s_ d)).1)]), (false, [.i (((specl15Run s_ d)).2.1)]), (false, [.b (((specl15Run s_ d)).2.2)])]) := by
 refine en tt_ok Tryz.func84 fun w0 F0 hG => ?_
 refine sn tt_ok [1, 2, 4, 5, 6] [2] (p0) ?_
 refine tn tt_ok [1, 2, 4, 5, 6, 7, 8] [2] (pc 1 (specStrata_a d) p0) ?_
 refine awp_seq ?_
 refine awp_seq ?_
 refine mz [(2, .p 2 0), (4, .e 0), (5, .i 0), (6, .b false), (7, .o 1152 (((specStrata d)).1)), (8, .b (((specStrata d)).2))] [0] [(2, [.h s_.1, .h s_.2.1, .i s_.2.2])] [] ?_
 refine jn [(27, .b ((!(((specStrata d)).2)) || (!(specIsValidStore s_))))] [8] [] [] (!(((specStrata d)).2)) (fun h1 => ?_) (fun h1 => ?_) ?_
 ·
  have h1n : (((specStrata d)).2) = false := bnot_t h1
  refine ru tt_ok [(27, .b true)] [8] [] [] (pf 0 h1n (pe 1 (show .b (!false) = .b true from rfl) p0)) ?_
  exact ⟨rfl, weak_fit (by rw [h1]; first | done | kernel_rfl)⟩
 ·
  have h1n : (((specStrata d)).2) = true := bnot_f h1
  have h1nsf := strata_factsS h1n
  refine rn tt_ok [1, 2, 4, 5, 6, 7, 27] [2] (pt 0 h1n (pe 1 (show .b (!true) = .b false from rfl) (pc 4 (specIsValidStore_a s_) p0))) ?_
  exact ⟨rfl, weak_fit (by rw [h1]; first | done | kernel_rfl)⟩
 refine ck ((!(((specStrata d)).2)) || (!(specIsValidStore s_))) (fun h2 => ?_) (fun h2 => ?_)
 ·
  refine sn tt_ok [1, 2, 4, 5, 6, 7] [2] (p0) ?_
  refine awp_ret ?_
  exact pz [] (show specl15Run s_ d = _ from bif_t h2 (rfl)) (fun z => .tup [(false, [.o 0 z.1]), (false, [.i z.2.1]), (false, [.b z.2.2])])
 ·
  have h2l : ((!(((specStrata d)).2))) = false := or_l h2
  have h2ln : (((specStrata d)).2) = true := bnot_f h2l
  have h2lnsf := strata_factsS h2ln
  have h2r : ((!(specIsValidStore s_))) = false := or_r h2
  have h2rn : (specIsValidStore s_) = true := bnot_f h2r
  refine awp_skip ?_
  refine sn tt_ok [1, 2, 4, 5, 6, 7, 9] [2] (p0) ?_
  refine awp_seq ?_
  refine tn tt_ok [1, 2, 4, 5, 6, 7, 9, 10] [2] (p0) ?_
  refine mz [(9, .one (.slc (.own true 1856) 2 [])), (10, .i 0)] [27] [] [] ?_
  refine wT 1 0 .sh d (fun hw3 hl4 => ?_)
  refine blL1 specl15Run_f0 specl15Run_e0 d [] (fun k0 s0 => [(9, .o 147206 s0), (10, .i ((k0 : Nat) : Int))]) [9, 10] (fun y0 => [(9, .o 147356 y0)]) [9, 10] (fun k0 s0 => List.length s0 ≤ k0) (weak_sf [(1856, 147206)] (by kernel_rfl)) (by simp) (fun k0 s0 hk0 hI0 => ?_) (fun k0 s0 hk0 hI0 => ?_) (fun y0 hD0 => ?_)
  ·
   have hA0_0 := hI0.2
   obtain ⟨a0, hx0⟩ := get_some (l := d) (i := k0) hk0
   refine awp_seq ?_
   refine su tt_ok [(33, .b true)] [] [] [] (pl 2 d (pe 3 (av_bool (decide_eq_true (p := ((k0 : Nat) : Int) < (d.length : Int)) (by omega))) p0)) ?_
   refine ckT ?_
   refine awp_skip ?_
   refine awp_seq ?_
   refine awp_block ?_
   refine wT 9 0 (.own true 147206) s0 (fun hw5 hl6 => ?_)
   refine ru tt_ok [(9, .one (.slc (.own true 2880) 2 ((eL s0) ++ [[.s a0.1, .slc 1 []]])))] [9, 33] [] [] (pn 3 hx0 (pa s0 [((a0.1, []) : ResultD)] p0)) ?_
   refine eqn [(9, .o 2880 (s0 ++ [((a0.1, []) : ResultD)]))] [9] [] [] (by rw [show ((eL s0) ++ [[.s a0.1, .slc 1 []]]) = (eL (s0 ++ [((a0.1, []) : ResultD)])) from app_eL (rfl) (rfl)]; first | done | kernel_rfl) ?_
   refine rn tt_ok [1, 2, 4, 5, 6, 7, 9, 10] [2] (pe 1 (av_i (wrap_succ k0 (by omega))) p0) ?_
   exact Exists.intro (s0 ++ [((a0.1, []) : ResultD)]) (And.intro (weak_sf [(2880, 147206)] (by kernel_rfl)) ⟨forL_next hx0 (rfl) hI0.1, by first | omega | (simp; omega) | simp⟩)
  ·
   have hA0_0 := hI0.2
   refine awp_seq ?_
   refine su tt_ok [(33, .b false)] [] [] [] (pl 2 d (pe 3 (av_bool (decide_eq_false (p := ((k0 : Nat) : Int) < (d.length : Int)) (by omega))) p0)) ?_
   refine ckF ?_
   refine awp_exit ?_
   exact Exists.intro _ (And.intro (weak_sf [(147206, 147356)] (by kernel_rfl)) (forL_end hk0 (rfl) hI0.1))
  ·
   refine su tt_ok [(11, .i 0)] [] [] [] (p0) ?_
   refine awp_seq ?_
   refine su tt_ok [(12, .i 0)] [] [] [] (p0) ?_
   refine blN1b (specl15Run_f1 s_ d) specl15Run_e1 (Int.toNat ((specMaxStratum d) + 1)) (y0, 0) (fun k1 s1 => [(9, .o 147356 s1.1), (11, .i s1.2), (12, .i ((k1 : Nat) : Int))]) [9, 11, 12] (fun _ _ => []) [] (fun y1 => [(9, .o 147356 y1.1), (11, .i y1.2)]) [1, 2, 7, 9, 11, 12] (fun _ => []) [2] (fun k1 s1 => EvS d ((specStrata d)).1 (fun _ => true) s_.2.1 (((k1 : Nat)) : Int) s1.1 ∧ List.length s1.1 = List.length d) (weak_fit (by kernel_rfl)) ⟨(by first | exact l15Run_start hD0 | exact l15Run_start hD0.1 | exact evS_len (fs := s_.2.1) (l15Run_start hD0) | exact evS_len (fs := s_.2.1) (l15Run_start hD0.1)), (by first | exact l15Run_start hD0 | exact l15Run_start hD0.1 | exact evS_len (fs := s_.2.1) (l15Run_start hD0) | exact evS_len (fs := s_.2.1) (l15Run_start hD0.1))⟩ (fun k1 s1 hk1 hI1 => ?_) (fun k1 s1 hk1 hI1 => ?_) (fun y1 hD1 => ?_)
   ·
    have hA1_0 := hI1.2.1
    have hA1_1 := hI1.2.2
    refine awp_seq ?_
    refine su tt_ok [(49, .b true)] [] [] [] (pc 2 (specMaxStratum_a d) (pe 3 (av_bool (decide_eq_true (p := ((k1 : Nat) : Int) ≤ (specMaxStratum d)) (by omega))) p0)) ?_
    refine ckT ?_
    refine awp_skip ?_
    refine awp_seq ?_
    refine awp_block ?_
    refine su tt_ok [(13, .b true)] [49] [] [] (p0) ?_
    refine blw (fun (s2 : (List ResultD) × Int × Bool) => [(9, .o 147356 s2.1), (11, .i s2.2.1), (13, .b s2.2.2)]) [9, 11, 13] (fun s2 => []) [] (fun (y2 : (List ResultD) × Int) => [(9, .o 147356 y2.1), (11, .i y2.2)]) [9, 11, 13] (fun y2 => []) [] (fun (k2 : Nat) (s2 : (List ResultD) × Int × Bool) => whl (specl15Run_f2 s_ d k1) k2 s2 = some (whlD (specl15Run_f2 s_ d k1) (List.length d * List.length s_.2.1 + 2) (s1.1, s1.2, true)) ∧ List.length s2.1 = List.length d) (fun (y2 : (List ResultD) × Int) => (whlD (specl15Run_f2 s_ d k1) (List.length d * List.length s_.2.1 + 2) (s1.1, s1.2, true)) = .brk y2) (List.length d * List.length s_.2.1 + 2) (s1.1, s1.2, true) (weak_fit (by kernel_rfl)) ⟨whl_some (l15Run_w (by assumption) (by assumption)), (by assumption)⟩ (fun _ h => whl_zero h.1) (fun k2 s2 hI2 => ?_) (fun y2 hD2 => ?_)
    ·
     have hA2_0 := hI2.2
     refine awp_seq ?_
     refine su tt_ok [(52, .b s2.2.2)] [] [] [] (p0) ?_
     refine ck s2.2.2 (fun h7 => ?_) (fun h7 => ?_)
     ·
      refine awp_skip ?_
      refine awp_block ?_
      refine su tt_ok [(13, .b false)] [13, 52] [] [] (p0) ?_
      refine sn tt_ok [1, 2, 4, 5, 6, 7, 9, 11, 12, 13] [2] (p0) ?_
      refine tn tt_ok [1, 2, 4, 5, 6, 7, 9, 11, 12, 13, 14] [2] (p0) ?_
      refine mz [(11, .i (IntKind.i64.wrap (s2.2.1 + 1))), (14, .i 0)] [11] [] [] ?_
      refine blL3 (specl15Run_f3 s_ d k1) specl15Run_e3 d (s2.1, false) (fun k3 s3 => [(9, .o 147356 s3.1), (13, .b s3.2), (14, .i ((k3 : Nat) : Int))]) [9, 13, 14] (fun y3 => [(9, .o 147356 y3.1), (13, .b y3.2)]) [9, 13, 14] (fun _ s3 => List.length s3.1 = List.length s2.1) (fun y3 => List.length y3.1 = List.length s2.1) (weak_fit (by kernel_rfl)) (by simp) (fun k3 s3 hk3 hI3 => ?_) (fun k3 s3 hk3 hI3 => ?_) (fun y3 hD3 => ?_)
      ·
       have hA3_0 := hI3.2
       obtain ⟨a3, hx3⟩ := get_some (l := d) (i := k3) hk3
       refine awp_seq ?_
       refine su tt_ok [(58, .b true)] [] [] [] (pl 2 d (pe 3 (av_bool (decide_eq_true (p := ((k3 : Nat) : Int) < (d.length : Int)) (by omega))) p0)) ?_
       refine ckT ?_
       refine awp_skip ?_
       refine awp_seq ?_
       refine awp_block ?_
       refine awp_seq ?_
       refine wT 7 0 (.own true 1152) (((specStrata d)).1) (fun hw9 hl10 => ?_)
       have hx8 := ng (((specStrata d)).1) k3
       refine sn tt_ok [1, 2, 4, 5, 6, 7, 9, 11, 12, 13, 14, 66] [2] (pN 2 hx8 p0) ?_
       refine ck ((nth (((specStrata d)).1) k3) != ((k1 : Nat) : Int)) (fun h11 => ?_) (fun h11 => ?_)
       ·
        have h11d := ne_of_bne h11
        refine awp_exit ?_
        refine qn tt_ok [1, 2, 4, 5, 6, 7, 9, 11, 12, 13, 14] [2] (pe 1 (av_i (wrap_succ k3 (by omega))) p0) ?_
        exact Exists.intro (s3.1, s3.2) (And.intro (weak_fit (by kernel_rfl)) ⟨forL_next hx3 (bif_t h11 (rfl)) hI3.1, (by first | omega | (simp only [List.length_set]; omega))⟩)
       ·
        have h11d := eq_of_bne h11
        refine awp_skip ?_
        refine tN tt_ok tt_mx [1, 2, 4, 5, 6, 7, 9, 11, 12, 13, 14, 15] [2] (pn 3 hx3 (pc 7 (specSelectFiles_a s_ a3.2 s3.1) p0)) ?_
        refine wT 9 0 (.own true 147356) s3.1 (fun hw13 hl14 => ?_)
        have hx12 := ng s3.1 k3
        refine tu tt_ok [(15, .o 4736 (specSelectFiles s_ a3.2 s3.1)), (82, .b (!(specl07Ints (specSelectFiles s_ a3.2 s3.1) ((nth s3.1 k3).2))))] [58] [] [] (pN 3 hx12 (pc 6 (specl07Ints_a (specSelectFiles s_ a3.2 s3.1) ((nth s3.1 k3).2)) p0)) ?_
        refine ck (!(specl07Ints (specSelectFiles s_ a3.2 s3.1) ((nth s3.1 k3).2))) (fun h15 => ?_) (fun h15 => ?_)
        ·
         have h15n : (specl07Ints (specSelectFiles s_ a3.2 s3.1) ((nth s3.1 k3).2)) = false := bnot_t h15
         refine su tt_ok [(9, .one (.slc (.own true 147356) 2 (setRow (eL s3.1) k3 1 [.h (specSelectFiles s_ a3.2 s3.1)])))] [9, 15, 82] [] [] (pN 3 hx12 p0) ?_
         refine eqn [(9, .o 147356 (List.set s3.1 k3 ((nth s3.1 k3).1, (specSelectFiles s_ a3.2 s3.1))))] [9] [] [] (by rw [setRow_eL (y := ((nth s3.1 k3).1, (specSelectFiles s_ a3.2 s3.1))) hx12 rfl]; first | done | kernel_rfl) ?_
         refine ru tt_ok [(13, .b true)] [13] [] [] (p0) ?_
         refine rn tt_ok [1, 2, 4, 5, 6, 7, 9, 11, 12, 13, 14] [2] (pe 1 (av_i (wrap_succ k3 (by omega))) p0) ?_
         exact Exists.intro (List.set s3.1 k3 ((nth s3.1 k3).1, (specSelectFiles s_ a3.2 s3.1)), true) (And.intro (weak_fit (by kernel_rfl)) ⟨forL_next hx3 (bif_f h11 (bif_t h15 (rfl))) hI3.1, (by first | omega | (simp only [List.length_set]; omega))⟩)
        ·
         have h15n : (specl07Ints (specSelectFiles s_ a3.2 s3.1) ((nth s3.1 k3).2)) = true := bnot_f h15
         refine awp_skip ?_
         refine rn tt_ok [1, 2, 4, 5, 6, 7, 9, 11, 12, 13, 14] [2] (pe 1 (av_i (wrap_succ k3 (by omega))) p0) ?_
         exact Exists.intro (s3.1, s3.2) (And.intro (weak_fit (by kernel_rfl)) ⟨forL_next hx3 (bif_f h11 (bif_f h15 (rfl))) hI3.1, (by first | omega | (simp only [List.length_set]; omega))⟩)
      ·
       have hA3_0 := hI3.2
       refine awp_seq ?_
       refine su tt_ok [(58, .b false)] [] [] [] (pl 2 d (pe 3 (av_bool (decide_eq_false (p := ((k3 : Nat) : Int) < (d.length : Int)) (by omega))) p0)) ?_
       refine ckF ?_
       refine awp_exit ?_
       exact Exists.intro (s3.1, s3.2) (And.intro (weak_fit (by kernel_rfl)) ⟨forL_end hk3 (rfl) hI3.1, by first | omega | (simp only [List.length_set]; omega)⟩)
      ·
       have hD3_0 := hD3.2
       exact Exists.intro (y3.1, IntKind.i64.wrap (s2.2.1 + 1), y3.2) (And.intro (weak_fit (by kernel_rfl)) ⟨wn hI2.1 (bif_t h7 (on_b hD3.1 (rfl))), (by first | omega | (simp only [List.length_set]; omega))⟩)
     ·
      refine awp_exit ?_
      exact Exists.intro _ (And.intro (weak_fit (by kernel_rfl)) (wb hI2.1 (bif_f h7 (rfl))))
    ·
     refine rn tt_ok [1, 2, 4, 5, 6, 7, 9, 11, 12] [2] (pe 1 (av_i (wrap_succ k1 (by omega))) p0) ?_
     exact Exists.intro (y2.1, y2.2) (And.intro (weak_fit (by kernel_rfl)) ⟨forN_next hk1 (on_b hD2 (rfl)) hI1.1, (by first | exact l15Run_next (by assumption) (by assumption) (by assumption) | exact evS_len (fs := s_.2.1) (l15Run_next (by assumption) (by assumption) (by assumption))), (by first | exact l15Run_next (by assumption) (by assumption) (by assumption) | exact evS_len (fs := s_.2.1) (l15Run_next (by assumption) (by assumption) (by assumption)))⟩)
   ·
    have hA1_0 := hI1.2.1
    have hA1_1 := hI1.2.2
    refine awp_seq ?_
    refine su tt_ok [(49, .b false)] [] [] [] (pc 2 (specMaxStratum_a d) (pe 3 (av_bool (decide_eq_false (p := ((k1 : Nat) : Int) ≤ (specMaxStratum d)) (by omega))) p0)) ?_
    refine ckF ?_
    refine awp_exit ?_
    exact Exists.intro _ (And.intro (weak_fit (by kernel_rfl)) (forN_end hk1 (rfl) hI1.1))
   ·
    refine sn tt_ok [4, 5, 6] [] (p0) ?_
    refine awp_ret ?_
    exact pz [] (show specl15Run s_ d = _ from bif_f h2 (on_b hD0 (on_b hD1 (rfl)))) (fun z => .tup [(false, [.o 0 z.1]), (false, [.i z.2.1]), (false, [.b z.2.2])])
def specEvaluate (s_ : StoreD) (d : (List DirD)) : (List ResultD) × Bool := (((specl15Run s_ d)).1, ((specl15Run s_ d)).2.2)
theorem specEvaluate_a (s_ : StoreD) (d : (List DirD)) : ACalls Tryz.prog 36 [.a [.h s_.1, .h s_.2.1, .i s_.2.2], .h d] (.tup [(false, [.o 0 (((specEvaluate s_ d)).1)]), (false, [.b (((specEvaluate s_ d)).2)])]) := by
 refine en tt_ok Tryz.func36 fun w0 F0 hG => ?_
 refine sn tt_ok [1, 2, 4, 5] [2] (p0) ?_
 refine tn tt_ok [4, 5, 6, 8] [] (pc 2 (specl15Run_a s_ d) p0) ?_
 refine tu tt_ok [(4, .o 768 (((specl15Run s_ d)).1)), (5, .b (((specl15Run s_ d)).2.2))] [0, 1] [] [] (p0) ?_
 refine awp_ret ?_
 exact pz [] (show specEvaluate s_ d = (((specl15Run s_ d)).1, ((specl15Run s_ d)).2.2) from rfl) (fun z => .tup [(false, [.o 0 z.1]), (false, [.b z.2])])
end Go.Proofs.YtcnkkobgogmakaaGreat
namespace Go.Proofs.YtcnkkobgogmakaaGreat
open Go.RowKit
theorem contains_iff (v : ByteArray) (l : List ByteArray) : slicesContains_string l v = true ↔ v ∈ l := by
  unfold slicesContains_string slicesIndex_string
  have key : ∀ (l : List ByteArray) (k : Nat), (0 : Int) ≤ ((forL (slicesIndex_string_f0 v) slicesIndex_string_e0 l k ()).on fun _ => -1) ↔ v ∈ l := by
    intro l
    induction l with
    | nil => intro k; simp [forL, Out.on]
    | cons a l ih =>
      intro k
      simp only [forL, slicesIndex_string_f0]
      have hab : (v.toList == a.toList) = decide (v = a) := toList_inj
      cases hc : (v.toList == a.toList) with
      | true =>
        obtain rfl : v = a := by rw [hc] at hab; exact of_decide_eq_true hab.symm
        simp [Out.on]
      | false =>
        have h : v ≠ a := by rw [hc] at hab; exact of_decide_eq_false hab.symm
        simp only [cond_false]
        refine (ih (k + 1)).trans ?_
        simp [h]
  exact decide_eq_true_iff.trans (key l 0)
theorem dirNames_eq (d : List DirD) : implDirNames d = d.map (·.1) := by
  unfold implDirNames
  rw [forL_map (f := implDirNames_f0) (g := fun a : DirD => a.1) (fun _ _ _ => rfl)]
  simp [Out.on, implDirNames_e0]
theorem contains_dir {d : List DirD} {i : Nat} {a : DirD} (h : d[i]? = some a) : slicesContains_string (implDirNames d) a.1 = true := by
  rw [contains_iff, dirNames_eq]
  exact List.mem_map.2 ⟨a, List.mem_of_getElem? h, rfl⟩
/-! ### the greatest stratum -/
theorem max_fold (x : List Int) : ∀ (n k : Nat) (s : Int), k + 1 + n = x.length → forN (slicesMax_int_f0 x) slicesMax_int_e0 n k s = .brk ((x.drop (k + 1)).foldl max s)
  | 0, k, s, h => by rw [List.drop_eq_nil_of_le (by omega)]; rfl
  | n + 1, k, s, h => by
    have hg : x[k + 1]? = some (nth x (k + 1)) := nth_get (by omega)
    rw [drop_at hg]
    simp only [forN, slicesMax_int_f0, List.foldl_cons]
    exact max_fold x n (k + 1) _ (by omega)
theorem maxS_fold : ∀ (x : List Int) (k : Nat) (s : Int), forL specMaxStratum_f0 specMaxStratum_e0 x k s = .brk (x.foldl max s)
  | [], k, s => rfl
  | a :: x, k, s => by
    simp only [forL, specMaxStratum_f0, List.foldl_cons]
    by_cases h : a > s
    · rw [decide_eq_true h, cond_true, show max s a = a by omega]; exact maxS_fold x (k + 1) a
    · rw [decide_eq_false h, cond_false, show max s a = s by omega]; exact maxS_fold x (k + 1) s
theorem maxStratum_eq (d : List DirD) : specMaxStratum d = implMaxStratum d := by
  unfold specMaxStratum implMaxStratum
  rw [strata_alike, maxS_fold]
  simp only [Out.on]
  cases hs : (implStrata d).2 with
  | false =>
    have : (implStrata d).1 = [] := by
      unfold implStrata at hs ⊢
      cases hv : implIsValidDirs d with
      | false => rfl
      | true =>
        rw [hv] at hs
        simp only [Bool.not_true, cond_false] at hs ⊢
        have h5 := vdirs_len hv
        have hw := whl_climb (d := d) (f := implStrata_f1 d) (e := implStrata_e1) (F := implStrata_f0 d) (fun _ _ _ => rfl) (fun _ _ => rfl) (fun _ => rfl) (by omega) (d.length * d.length + 3) (List.replicate d.length 0) true (zeroL_ok _).1 (zeroL_ok _).2
        have hsome : (climb (edgesD d) d.length d.length (d.length * d.length + 3) (true, List.replicate d.length 0)).isSome = true := by
          have := implStrata_w d h5
          rw [Int.toNat_natCast, hw, Option.isSome_map] at this
          exact this
        obtain ⟨r, hr⟩ := Option.isSome_iff_exists.1 hsome
        unfold whlD at hs ⊢
        rw [Int.toNat_natCast, hw, hr] at hs ⊢
        cases r with
        | none => rfl
        | some M => simp [endD, Out.on] at hs
    rw [this]; rfl
  | true =>
    obtain ⟨h1, h2, h3⟩ := strata_small hs
    simp only [Bool.not_true, Bool.false_or]
    generalize (implStrata d).1 = x at h3
    cases x with
    | nil => rfl
    | cons a x =>
      have h0 := (h3 a (List.mem_cons_self ..)).1
      have e : ((((a :: x).length : Nat) : Int) == (0 : Int)) = false := by
        rw [beq_eq_false_iff_ne, List.length_cons]; omega
      rw [e, cond_false]
      unfold slicesMax_int
      rw [max_fold _ _ _ _ (by simp; omega)]
      simp only [Out.on, List.foldl_cons, Nat.zero_add, List.drop_succ_cons, List.drop_zero]
      have e2 : nth (a :: x) 0 = a := rfl
      rw [show max (-1) a = a by omega, e2]
/-! ### the evaluation -/
theorem l15_f3 (s : StoreD) (d : List DirD) (k1 k : Nat) (a : DirD) (t : List ResultD × Bool) (h : d[k]? = some a) : specl15Run_f3 s d k1 k a t = implevaluated_f3 s d (implDirNames d) k1 k a t := by
  unfold specl15Run_f3 implevaluated_f3
  rw [contains_dir h, strata_alike, ← select_eq, ints_dec, eqI_dec]
  simp
theorem l15_f2 (s : StoreD) (d : List DirD) (k1 : Nat) : specl15Run_f2 s d k1 = implevaluated_f2 s d (implDirNames d) k1 := by
  funext t
  unfold specl15Run_f2 implevaluated_f2
  rw [forL_congr (f := specl15Run_f3 s d k1) (g := implevaluated_f3 s d (implDirNames d) k1) (e := specl15Run_e3) (e' := implevaluated_e3) (fun _ _ => rfl) d 0 _ (fun i a t h => by rw [Nat.zero_add]; exact l15_f3 s d k1 i a t h)]
theorem l15_eq (s : StoreD) (d : List DirD) : specl15Run s d = implevaluated s d [] (implDirNames d) := by
  unfold specl15Run implevaluated
  rw [strata_alike, store_eq, maxStratum_eq]
  rw [forL_congr (f := specl15Run_f0) (g := implevaluated_f0 [] (implDirNames d)) (e := specl15Run_e0) (e' := implevaluated_e0) (fun _ _ => rfl) d 0 _ (fun i a t h => by unfold specl15Run_f0 implevaluated_f0; rw [contains_dir h]; rfl)]
  congr 1
  congr 1
  funext y
  rw [show specl15Run_f1 s d = implevaluated_f1 s d (implDirNames d) from by funext k t; unfold specl15Run_f1 implevaluated_f1; rw [l15_f2]]
  rfl
theorem evaluate_eq (s : StoreD) (d : List DirD) : specEvaluate s d = implEvaluate s d := by
  unfold specEvaluate implEvaluate
  rw [l15_eq]
theorem evaluated_ok {s : StoreD} {d : List DirD} {names : List ByteArray} {r : List ResultD} (h : (implevaluated s d r names).2.2 = true) : List.length d ≤ 5 ∧ implIsValidStore s = true ∧ (implevaluated s d r names).1.map (·.1) = d.map (·.1) ∧ ∀ j, j < d.length → onD d names j = true → ∃ p : FileD → Bool, (nth (implevaluated s d r names).1 j).2 = sel s.2.1 (fun f => f.1) p := by
  unfold implevaluated at h ⊢
  cases hc : ((!(((implStrata d)).2)) || (!(implIsValidStore s))) with
  | true => rw [hc] at h; simp at h
  | false =>
    have hs : ((implStrata d)).2 = true := bnot_f (or_l hc)
    have hv : implIsValidStore s = true := bnot_f (or_r hc)
    simp only [cond_false]
    obtain ⟨h1, h2⟩ := ev_start (L := ((implStrata d)).1) (on := onD d names) (fs := s.2.1) (g := startG r names) (f := implevaluated_f0 r names) (e := implevaluated_e0) (d := d) (fun k a s => by
      unfold implevaluated_f0 startG
      cases slicesContains_string names a.1 <;> rfl) (fun j _ hj => by unfold onD at hj; unfold startG; rw [hj]; rfl)
    rw [h1]
    have key : ∀ (n k : Nat) (o : List ResultD) (p : Int), EvS d ((implStrata d)).1 (onD d names) s.2.1 (((k : Nat)) : Int) o → ∃ o' p', forN (implevaluated_f1 s d names) implevaluated_e1 n k (o, p) = .brk (o', p') ∧ EvS d ((implStrata d)).1 (onD d names) s.2.1 (((k + n : Nat)) : Int) o' := by
      intro n
      induction n with
      | zero => intro k o p ho; exact ⟨o, p, rfl, ho⟩
      | succ n ih =>
        intro k o p ho
        obtain ⟨o1, p1, g1, g2⟩ := evaluated_run (p := p) hs ho
        obtain ⟨o2, p2, g3, g4⟩ := ih (k + 1) o1 p1 (by rw [Int.natCast_add]; exact g2)
        refine ⟨o2, p2, ?_, by rw [show k + (n + 1) = k + 1 + n by omega]; exact g4⟩
        simp only [forN]
        unfold implevaluated_f1 whlD
        rw [g1]
        exact g3
    obtain ⟨o, p, g1, g2⟩ := key (Int.toNat (implMaxStratum d + 1)) 0 _ 0 h2
    simp only [Out.on, implevaluated_e0]
    rw [g1]
    exact ⟨(strata_small hs).2.1, hv, g2.names, fun j hj hon => g2.some_ j hj hon⟩
theorem evaluate_ok {s : StoreD} {d : List DirD} (h : (implEvaluate s d).2 = true) : List.length d ≤ 5 ∧ implIsValidStore s = true ∧ (implEvaluate s d).1.map (·.1) = d.map (·.1) ∧ ∀ x, x ∈ (implEvaluate s d).1 → ∃ p : FileD → Bool, x.2 = sel s.2.1 (fun f => f.1) p := by
  unfold implEvaluate at h ⊢
  obtain ⟨h1, h2, h3, h4⟩ := evaluated_ok h
  refine ⟨h1, h2, h3, fun x hx => ?_⟩
  obtain ⟨i, hi⟩ := List.getElem?_of_mem hx
  have hlen : (implevaluated s d [] (implDirNames d)).1.length = d.length := by have := congrArg List.length h3; simpa using this
  have hi' : i < (implevaluated s d [] (implDirNames d)).1.length := (List.getElem?_eq_some_iff.1 hi).1
  have hil : i < d.length := by omega
  have := h4 i hil (by unfold onD; exact contains_dir (nth_get hil))
  rw [nth_of hi] at this
  exact this
theorem evaluate_no {s : StoreD} {d : List DirD} (h : (implEvaluate s d).2 = false) : (implEvaluate s d).1 = [] := by
  unfold implEvaluate at h ⊢
  unfold implevaluated at h ⊢
  cases hc : ((!(((implStrata d)).2)) || (!(implIsValidStore s))) with
  | true => rfl
  | false =>
    exfalso
    have hs : ((implStrata d)).2 = true := bnot_f (or_l hc)
    rw [hc] at h
    simp only [cond_false] at h
    obtain ⟨h1, h2⟩ := ev_start (L := ((implStrata d)).1) (on := onD d (implDirNames d)) (fs := s.2.1) (g := startG [] (implDirNames d)) (f := implevaluated_f0 [] (implDirNames d)) (e := implevaluated_e0) (d := d) (fun k a s => by
      unfold implevaluated_f0 startG
      cases slicesContains_string (implDirNames d) a.1 <;> rfl) (fun j _ hj => by unfold onD at hj; unfold startG; rw [hj]; rfl)
    rw [h1] at h
    have key : ∀ (n k : Nat) (o : List ResultD) (p : Int), EvS d ((implStrata d)).1 (onD d (implDirNames d)) s.2.1 (((k : Nat)) : Int) o → ∃ y, forN (implevaluated_f1 s d (implDirNames d)) implevaluated_e1 n k (o, p) = .brk y := by
      intro n
      induction n with
      | zero => intro k o p ho; exact ⟨_, rfl⟩
      | succ n ih =>
        intro k o p ho
        obtain ⟨o1, p1, g1, g2⟩ := evaluated_run (p := p) hs ho
        obtain ⟨y, g3⟩ := ih (k + 1) o1 p1 (by rw [Int.natCast_add]; exact g2)
        refine ⟨y, ?_⟩
        simp only [forN]
        unfold implevaluated_f1 whlD
        rw [g1]
        exact g3
    obtain ⟨y, g1⟩ := key (Int.toNat (implMaxStratum d + 1)) 0 _ 0 h2
    simp only [Out.on, implevaluated_e0] at h
    rw [g1] at h
    cases h
end Go.Proofs.YtcnkkobgogmakaaGreat
namespace Go.Proofs.YtcnkkobgogmakaaGreat
open Go.RowKit
def takenJ (G : Nat → Prop) (L : List Nat) : Inj := ⟨G, fun k => if k = 63 then L else [], fun _ => 0⟩
theorem atake_of {P : Program} {tt : List (Nat × TI)} (htt : ttOk P tt = true) {f : Nat} {fn : Func} {c : Code} (hf : P.funcs[f]? = some fn) (hb : fn.body = some c) (hok : FnOk P f) {n : Nat} {l l' : List (List PV)} {args : List AV}
    (hn : args.length + 1 ≤ fn.ntmps) (hk : ∀ x, x ∈ args → ∀ c, c ∈ x.cells → c.key = none ∧ c.bkeys = []) {t : Nat} (hr : fn.results.toList = [.tmp t])
    (h : ∀ w0 F0, GoodAt P w0 → AWP P fn.ntmps w0 F0 c (fun e s => (e = .ret ∨ e = .normal) ∧ ∃ k, get s.tm t = some (.one (.slc (.own false k) n l'))) (entry (.one (.slc (.own false 63) n l) :: args))) : ATake P f n l args true false l' := by
  refine ⟨hok, fun w F G L v vals hgood hFG hGF hGs hnd hLG hrow hargs => calls_of_wp hf hb ?_⟩
  have hlen := hargs.length
  have hGF := hGF rfl
  have hL0 : (takenJ G L).L 63 = L := by show (if 63 = 63 then L else []) = L; simp
  refine wp_mono (h ⟨w, fun b => b ∈ L, none⟩ G hgood (takenJ G L) _ w ?_) ?_
  · have hLk : ∀ k b, b ∈ (takenJ G L).L k → k = 63 ∧ b ∈ L := fun k b hm => by
      have hm : b ∈ (if k = 63 then L else []) := hm
      split at hm
      · rename_i e; exact ⟨e, hm⟩
      · simp at hm
    refine { below := Base.Keeps.refl _, nodef := rfl, size := ?_, fl := fun b hb => ⟨hGs b hb, .inl hb⟩, f0 := fun b hb => hb, nd := fun k => ?_, lo := fun k b hb => ⟨.inr (hLk k b hb).2, hLG b (hLk k b hb).2⟩, dj := fun k k' b hb hb' => (hLk k b hb).1.trans (hLk k' b hb').1.symm, bo := fun k c hc => by simp [entry, get] at hc, nb := .inl rfl, cb := (fun b hb => by cases hb), bi := fun k k' c c' hc => by simp [entry, get] at hc, tm := fun t v' hv => ?_ }
    · simp; omega
    · show (if k = 63 then L else [] : List Nat).Nodup
      split
      · exact hnd
      · exact List.nodup_nil
    · obtain ⟨_, ht⟩ := get_entry hv
      have hall : All2 (AR (takenJ G L) w) (v :: vals) (.one (.slc (.own false 63) n l) :: args) := by
        refine .cons ?_ ?_
        · show OwnTop G ((takenJ G L).L 63) w v n l
          rw [hL0]
          exact OwnTop.keep hrow (fun b hb => ⟨hFG b hb, rfl⟩) fun _ _ => rfl
        · have key : ∀ {vs : List Value} {ys : List AV}, All2 (AR (argJ G) w) vs ys → (∀ x, x ∈ ys → ∀ c, c ∈ x.cells → c.key = none ∧ c.bkeys = []) → All2 (AR (takenJ G L) w) vs ys := by
            intro vs ys ha
            induction ha with
            | nil => intro _; exact .nil
            | cons h1 _ ih =>
              intro hx
              refine .cons (h1.keep fun c hc => ?_) (ih fun x hm => hx x (List.mem_cons_of_mem _ hm))
              obtain ⟨e1, e2⟩ := hx _ (List.mem_cons_self ..) c hc
              exact ⟨fun b hb => ⟨hb, rfl⟩, (fun k hk => by rw [e1] at hk; cases hk), (fun k hk => by rw [e2] at hk; simp at hk)⟩
          exact key hargs hk
      obtain ⟨u, hu, hr⟩ := hall.get' ht
      have hlt : t < (v :: vals).length := (List.getElem?_eq_some_iff.1 hu).1
      have : ((v :: vals).toArray ++ Array.replicate (fn.ntmps - (v :: vals).toArray.size) undef).getD t undef = u := by
        rw [Array.getD_eq_getD_getElem?, Array.getElem?_append_left (by simpa using hlt)]
        simp at hu ⊢
        rw [hu]; rfl
      rw [this]
      exact hr
  · rintro e a' w' ⟨J', s', hR, he, k, hkk⟩
    have hres : ∃ u, (results fn a'.tmps).run P w' = .ok u w' ∧ AR J' w' u (.one (.slc (.own false k) n l')) := by
      obtain ⟨us, hrun, hall⟩ := resOf_ok (P := P) htt hR (rs := [.tmp t]) (vs := [.one (.slc (.own false k) n l')]) (by simp [resOf, hkk])
      rw [← hr] at hrun
      have hm : (fn.results.mapM (resRun a'.tmps)).run P w' = .ok us.toArray w' := by
        rw [Array.mapM_eq_mapM_toList]
        simp [hrun]
      have hgen : (results fn a'.tmps).run P w' = .ok (if h : us.toArray.size = 1 then us.toArray[0] else .tuple us.toArray) w' := by
        rw [results_eq]
        simp only [Sem.run_bind, hm, Result.andThen_ok, Sem.run_pure]
      cases hall with
      | cons h1 h2 =>
        cases h2
        exact ⟨_, by rw [hgen]; simp, h1⟩
    obtain ⟨u, h1, h2⟩ := hres
    have hT : TRet F L w n false l' (.returned u) w' := by
      refine ⟨u, rfl, fun m hm hmL => ⟨hR.below.os, hR.below.tape, hR.below.output, hR.below.size, fun j hj => hR.below.block j (by show j < w.heap.size; omega) fun hx => by have := hmL j hx; omega⟩, fun b hb hn => hR.below.block b hb hn, J'.L k, hR.nd k, fun b hb => ?_, ?_⟩
      · obtain ⟨h3, h4, _⟩ := hR.lo k b hb
        exact ⟨h4, h3⟩
      · have h2 : OwnTop J'.F (J'.L k) w' u n l' := h2
        refine OwnTop.keep h2 (fun b hb => ⟨?_, rfl⟩) fun _ _ => rfl
        obtain ⟨h3, h4⟩ := hR.fl b hb
        rcases h4 with h4 | h4 | h4
        · exact .inl (hGF b h4)
        · exact .inr ⟨.inl h4, h3, fun hm => (hR.lo k b hm).2.2 hb⟩
        · exact .inr ⟨.inr h4, h3, fun hm => (hR.lo k b hm).2.2 hb⟩
    rcases he with rfl | rfl
    · exact ⟨hR.nodef, u, h1, hT⟩
    · exact ⟨hR.nodef, u, h1, hT⟩
end Go.Proofs.YtcnkkobgogmakaaGreat
namespace Go.Proofs.YtcnkkobgogmakaaGreat
open Go.RowKit
theorem getD_put' {a : Act} {t u : Nat} {v : Value} (ht : t < a.tmps.size) : (a.put (some t) v).tmps.getD u undef = if u = t then v else a.tmps.getD u undef := by
  simp only [Act.put, Array.getD_eq_getD_getElem?, Array.getElem?_setIfInBounds]
  by_cases h : u = t
  · subst h; simp [ht]
  · simp [h, Ne.symm h]
theorem nbeq_false {a b : Nat} : Nat.beq a b = false ↔ ¬ a = b := by
  cases h : Nat.beq a b with
  | true => simp [Nat.eq_of_beq_eq_true h]
  | false => simp; exact Nat.ne_of_beq_eq_false h
theorem put_self {a : Act} {t : Nat} {v : Value} (h : a.tmps.getD t undef = v) (ht : t < a.tmps.size) : a.put (some t) v = a := by
  have e : a.tmps.setIfInBounds t v = a.tmps := by
    apply Array.ext
    · simp
    · intro i h1 h2
      rw [Array.getElem_setIfInBounds]
      split
      · rename_i e; subst e; rw [← h, Array.getD_eq_getD_getElem?, Array.getElem?_eq_getElem ht]; rfl
      · rfl
  show ({ a with tmps := a.tmps.setIfInBounds t v } : Act) = a
  rw [e]
theorem zeros_vc : ∀ {vs : List Value} {cs : List C}, zerosOk vs cs = true → ∃ ps : List PV, ps.length = vs.length ∧ ∀ (X : Nat → Prop) (w : World), VC X w vs ps
  | [], [], _ => ⟨[], rfl, fun _ _ => .nil⟩
  | [], _ :: _, h => by simp [zerosOk] at h
  | _ :: _, [], h => by simp [zerosOk] at h
  | v :: vs, c :: cs, h => by
    simp only [zerosOk, Bool.and_eq_true] at h
    obtain ⟨ps, h1, h2⟩ := zeros_vc h.2
    have hz := h.1
    unfold zeroOk at hz
    split at hz
    · rename_i k _ _ _
      simp only [Bool.and_eq_true, decide_eq_true_eq] at hz
      obtain ⟨⟨rfl, rfl⟩, rfl⟩ := hz
      exact ⟨.int k 0 :: ps, by simp [h1], fun X w => .cons (.int (by cases k <;> simp [InR, IntKind.min, IntKind.max, IntKind.bits, IntKind.signed])) (h2 X w)⟩
    · rename_i b _
      exact ⟨.bool b :: ps, by simp [h1], fun X w => .cons (.bool b) (h2 X w)⟩
    · rename_i s _
      have hs : s.size = 0 := by simp only [Bool.and_eq_true] at hz; exact Nat.eq_of_beq_eq_true hz.1
      exact ⟨.str s :: ps, by simp [h1], fun X w => .cons (.str (by rw [hs]; exact Nat.zero_le _)) (h2 X w)⟩
    · rename_i n
      exact ⟨.slc n [] :: ps, by simp [h1], fun X w => .cons (.emp none n (Nat.zero_le _)) (h2 X w)⟩
    · cases hz
theorem vr_zeros {X : Nat → Prop} {w : World} {n : Nat} {vs : List Value} {ps : List PV} (h : VC X w vs ps) (hn : ps.length = n) : ∀ m, VR X w n (List.replicate m vs).flatten (List.replicate m ps)
  | 0 => .nil n
  | m + 1 => by
    rw [List.replicate_succ, List.replicate_succ, List.flatten_cons]
    exact .cons h hn (vr_zeros h hn m)
theorem zero_cells {z : Array Value} {m : Nat} : (Builtin.zeroCells z m).toList = (List.replicate m z.toList).flatten := by
  have key : ∀ (l : List Value) (m : Nat), (List.range (m * l.length)).map (fun i => l[i % l.length]!) = (List.replicate m l).flatten := by
    intro l m
    induction m with
    | zero => simp
    | succ m ih =>
      rw [Nat.succ_mul, List.range_add, List.map_append, ih, List.replicate_succ', List.flatten_append]
      congr 1
      simp only [List.map_map, List.flatten_cons, List.flatten_nil, List.append_nil]
      apply List.ext_getElem
      · simp
      · intro i h1 h2
        simp only [List.length_map, List.length_range] at h1
        simp [Nat.mul_add_mod_self_right, Nat.mod_eq_of_lt h1, h2]
  rw [← key z.toList m]
  unfold Builtin.zeroCells
  rw [Array.toList_map, Array.toList_range]
  apply List.map_congr_left
  intro i _
  simp only [Array.length_toList, getElem!_def, Array.getElem?_toList]
theorem zero_one {vs : List Value} {cs : List C} (h : zerosOk vs cs = true) : ∀ v, v ∈ vs → v.oneCell' = true := by
  induction vs generalizing cs with
  | nil => intro v hv; simp at hv
  | cons v vs ih =>
    cases cs with
    | nil => simp [zerosOk] at h
    | cons c cs =>
      simp only [zerosOk, Bool.and_eq_true] at h
      intro u hu
      rcases List.mem_cons.1 hu with rfl | hu
      · have hz := h.1
        unfold zeroOk at hz
        split at hz <;> first | rfl | cases hz
      · exact ih h.2 u hu
section
variable {P : Program} {N : Nat} {w0 : Base} {F0 : Nat → Prop} {J : Inj} {a : Act} {w : World} {s : St} {Q : Exit → St → Prop}
theorem Rel.aside (h : Rel N w0 F0 J a w s) {d : Nat} (hd : d < N) (hn : get s.tm d = none) (v : Value) : Rel N w0 F0 J (a.put (some d) v) w s :=
  (h.pure (some d) (fun d' e => by cases e; exact hd) (.one .dead) v (fun _ => trivial)).less (fun t x hx => by
    show get (ins d _ s.tm) t = some x
    rw [get_ins, if_neg (fun e => by subst e; rw [hn] at hx; cases hx)]
    exact hx) (fun _ _ h => h)
theorem clear_run {tt : List (Nat × TI)} (htt : ttOk P tt = true) {sty ety z1 : Nat} {z2 : List C} {z3 : List LK} {ti : TI} (g1 : get tt sty = some ⟨.sli ety, z1, z2, z3⟩) (g2 : get tt ety = some ti)
    {g cap m i n : Nat} {cur : Array Value} {e : TypeId} (hn : ti.size = n) (hg : w.heap[g]? = some (.cells cur e (0, 0))) (hs : cur.size = cap * n) (hi : i < m) (hm : m ≤ cap) (ty : TypeId) :
    ∃ zs : List Value, ∃ ps : List PV, zs.length = n ∧ ps.length = n ∧ (∀ (X : Nat → Prop) (w : World), VC X w zs ps) ∧
      (Builtin.clear_ #[sty] ty #[.slice (some ⟨g, i * n, none⟩) (m - i) (cap - i)]).run P w = .ok (.tuple #[]) (w.setRow g (cur.toList.take (i * n) ++ (List.replicate (m - i) zs).flatten ++ cur.toList.drop (i * n + (m - i) * n)).toArray) := by
  obtain ⟨inf, z, hI, hsz, _, hz, hzs, hzo⟩ := (ttOk_get htt g2).info
  obtain ⟨ps, p1, p2⟩ := zeros_vc hzo
  have hu := (ttOk_get htt g1).sli
  have hzl : z.cells.toList.length = n := by simpa [hn] using hzs
  refine ⟨z.cells.toList, ps, hzl, by rw [p1, hzl], p2, ?_⟩
  obtain ⟨q, hq⟩ : ∃ q, m - i = q + 1 := ⟨m - i - 1, by omega⟩
  have hfl : ((List.replicate (m - i) z.cells.toList).flatten).length = (m - i) * n := by
    rw [List.length_flatten, List.map_replicate, hzl]; simp
  have h3 : i * n + (m - i) * n ≤ cap * n := by rw [← Nat.add_mul]; exact Nat.mul_le_mul_right n (by omega)
  have hst := run_storeCells_at P g (i * n) e ((List.replicate (m - i) z.cells.toList).flatten) 0 cur w hg (by rw [hfl, hs]; simpa using h3) (fun v hv => by
    obtain ⟨l, hl, hv⟩ := List.mem_flatten.1 hv
    rw [List.eq_of_mem_replicate hl] at hv
    exact zero_one hzo v hv)
  simp only [Nat.add_zero, hfl] at hst
  rw [hq] at hst ⊢
  simp [Builtin.clear_, run_underlying hu, zeroValue, typeInfo_run hI, hz, zero_cells, hst]
theorem awp_clear {tt : List (Nat × TI)} (htt : ttOk P tt = true) {id : Nat} {ops : Array Oper} {t0 t5 d1 d2 d3 sty ety z1 : Nat} {z2 : List C} {z3 : List LK} {ti : TI} {y1 y2 y3 y4 : TypeId} {q1 q2 q3 q4 : String} {f1 f2 f3 f4 : Array Edge}
    (hops : ops = #[⟨some d1, .move (.tmp t0), y1, q1, f1, none⟩, ⟨some d2, .move (.tmp t5), y2, q2, f2, none⟩, ⟨some d3, .slice sty (.tmp d1) (some (.tmp d2)) none none, y3, q3, f3, none⟩, ⟨none, .call { callee := .builtin .clear, args := #[.tmp d3], argTypes := #[sty] }, y4, q4, f4, none⟩])
    (hN : (Nat.blt d1 N && Nat.blt d2 N && Nat.blt d3 N && Nat.blt t0 N && !(Nat.beq d1 t0) && !(Nat.beq d1 t5) && !(Nat.beq d2 t0) && !(Nat.beq d2 t5) && !(Nat.beq d3 t0) && !(Nat.beq d3 t5) && !(Nat.beq d1 d2) && !(Nat.beq t0 t5)) = true)
    (g1 : get tt sty = some ⟨.sli ety, z1, z2, z3⟩) (g2 : get tt ety = some ti) {k n : Nat} {l : List (List PV)} (hk : get s.tm t0 = some (.one (.slc (.own false k) n l))) (hn : ti.size = n) {i : Int} (hi : get s.tm t5 = some (.one (.int .i64 i))) (h0 : 0 ≤ i) (hl : i < l.length)
    (hQ : ∀ l', l'.length = l.length → l'.take i.toNat = l.take i.toNat → Q .normal ⟨[(t0, .one (.slc (.own false (64 * t0)) n l')), (t5, .one (.int .i64 i))], []⟩) : AWP P N w0 F0 (.region id ops false) Q s := fun J a w hr => by
  simp only [Bool.and_eq_true, Nat.blt_eq, Bool.not_eq_true', nbeq_false] at hN
  obtain ⟨⟨⟨⟨⟨⟨⟨⟨⟨⟨⟨m1, m2⟩, m3⟩, m0⟩, n1⟩, n2⟩, n3⟩, n4⟩, n5⟩, n6⟩, n7⟩, n8⟩ := hN
  obtain ⟨j, rfl⟩ : ∃ j : Nat, i = (j : Int) := ⟨i.toNat, by omega⟩
  have hj : j < l.length := by omega
  have e0 : CR J w (a.tmps.getD t0 undef) (.slc (.own false k) n l) := hr.tm t0 _ hk
  have e5 : CR J w (a.tmps.getD t5 undef) (.int .i64 (j : Int)) := hr.tm t5 _ hi
  obtain ⟨e5, _⟩ := e5
  rcases (show OwnTop J.F (J.L k) w _ n l from e0) with ⟨e, _⟩ | ⟨g, cap, cur, e, hL, e0, hg, hs, hvr, hlc, hcap⟩
  · rw [e] at hj; simp at hj
  obtain ⟨zs, ps, hzl, hpl, hzv, hrun⟩ := clear_run (P := P) (w := w) htt g1 g2 hn hg hs hj hlc y4
  have hu := (ttOk_get htt g1).sli
  have hsz := sizeOf_run (P := P) (ttOk_get htt g2) w
  rw [hn] at hsz
  have hr5 : Rel N w0 F0 J a w ⟨[(t5, .one (.int .i64 (j : Int)))], []⟩ := hr.less (fun t v hv => by
    simp only [get] at hv
    split at hv
    · rename_i e; subst e; rw [hi]; exact hv
    · cases hv) (fun k c hc => by cases hc)
  have no : ∀ d, ¬ d = t5 → get (⟨[(t5, .one (.int .i64 (j : Int)))], []⟩ : St).tm d = none := fun d hd => by
    show (if t5 = d then _ else _) = none
    rw [if_neg (fun e => hd e.symm)]; rfl
  have s0 := hr.size
  have hr1 := (hr5.aside m1 (no _ n2) (.slice (some ⟨g, 0, none⟩) l.length cap)).aside m2 (no _ n4) (.int .i64 (j : Int))
  have hr3 := hr1.aside m3 (no _ n6) (.slice (some ⟨g, 0 + j * n, none⟩) (l.length - j) (cap - j))
  subst hops
  refine wp_region ?_
  show wpOps P _ (QX N w0 F0 Q) [0, 1, 2, 3] a w
  rw [wpOps_cons]; unfold wpOp
  simp only [List.getElem?_toArray, List.getElem?_cons_zero]
  rw [if_pos (by simp [Region.wanted])]
  refine .inl (wp_of_run (v := .slice (some ⟨g, 0, none⟩) l.length cap) (w' := w) (by simp [execOp, e0, Act.eval]) ?_)
  rw [wpOps_cons]; unfold wpOp
  simp only [List.getElem?_toArray, List.getElem?_cons_succ, List.getElem?_cons_zero]
  rw [if_pos (by simp [Region.wanted])]
  have e5' : (a.put (some d1) (.slice (some ⟨g, 0, none⟩) l.length cap)).tmps.getD t5 undef = .int .i64 (j : Int) := (getD_put' (by omega)).trans ((if_neg (fun e => n2 e.symm)).trans e5)
  refine .inl (wp_of_run (v := .int .i64 (j : Int)) (w' := w) (by simp [execOp, e5', Act.eval]) ?_)
  rw [wpOps_cons]; unfold wpOp
  simp only [List.getElem?_toArray, List.getElem?_cons_succ, List.getElem?_cons_zero]
  rw [if_pos (by simp [Region.wanted])]
  have hs1 : (a.put (some d1) (.slice (some ⟨g, 0, none⟩) l.length cap)).tmps.size = N := by simp [Act.put, s0]
  have ea : ((a.put (some d1) (.slice (some ⟨g, 0, none⟩) l.length cap)).put (some d2) (.int .i64 (j : Int))).eval (.tmp d1) = .slice (some ⟨g, 0, none⟩) l.length cap := (getD_put' (by omega)).trans ((if_neg n7).trans ((getD_put' (by omega)).trans (if_pos rfl)))
  have eb : ((a.put (some d1) (.slice (some ⟨g, 0, none⟩) l.length cap)).put (some d2) (.int .i64 (j : Int))).eval (.tmp d2) = .int .i64 (j : Int) := (getD_put' (by omega)).trans (if_pos rfl)
  have hsb : (Instr.sliceBounds true l.length cap (some (.int .i64 (j : Int))) none none).run P w = .ok (j, l.length, cap) w := by
    have e4 : ∀ c, (Instr.sliceBound (.int .i64 (j : Int)) l.length c).run P w = .ok j w := fun c => by
      have := bound_ok (P := P) (w := w) (k := .i64) (lo := (j : Int)) (code := c) (y := l.length) (by omega) (by omega)
      simpa using this
    unfold Instr.sliceBounds
    simp only [Sem.run_bind, Sem.run_pure, Result.andThen_ok]
    simp [e4]
  refine .inl (wp_of_run (v := .slice (some ⟨g, 0 + j * n, none⟩) (l.length - j) (cap - j)) (w' := w) (by
    have hca : cap ≠ j := by omega
    simp [execOp, ea, eb, Instr.sliceAt, run_underlying hu, Instr.slice, hsb, hsz, hca, Addr.add_lit]) ?_)
  rw [wpOps_cons]; unfold wpOp
  simp only [List.getElem?_toArray, List.getElem?_cons_succ, List.getElem?_cons_zero]
  rw [if_pos (by simp [Region.wanted])]
  generalize ha2 : ((a.put (some d1) (.slice (some ⟨g, 0, none⟩) l.length cap)).put (some d2) (.int .i64 (j : Int))) = a2 at *
  have s2 : a2.tmps.size = N := hr1.size
  have ec : (a2.put (some d3) (.slice (some ⟨g, 0 + j * n, none⟩) (l.length - j) (cap - j))).eval (.tmp d3) = .slice (some ⟨g, j * n, none⟩) (l.length - j) (cap - j) := (getD_put' (by omega)).trans ((if_pos rfl).trans (by simp))
  have ec := ec
  simp only [Nat.zero_add] at ec
  refine .inl (wp_of_run (v := .tuple #[]) (w' := w.setRow g (cur.toList.take (j * n) ++ (List.replicate (l.length - j) zs).flatten ++ cur.toList.drop (j * n + (l.length - j) * n)).toArray) (by
    simp [execOp, resolve, invoke, builtin, ec, hrun]) ?_)
  generalize ha3 : a2.put (some d3) (.slice (some ⟨g, 0 + j * n, none⟩) (l.length - j) (cap - j)) = a3 at *
  show QX N w0 F0 Q .normal a3 _
  have e03 : a3.tmps.getD t0 undef = .slice (some ⟨g, 0, none⟩) l.length cap := by
    rw [← ha3]
    refine (getD_put' (by omega)).trans ((if_neg (fun e => n5 e.symm)).trans ?_)
    rw [← ha2]
    exact (getD_put' (by omega)).trans ((if_neg (fun e => n3 e.symm)).trans ((getD_put' (by omega)).trans ((if_neg (fun e => n1 e.symm)).trans e0)))
  have hgk : g ∈ J.L k := by rw [hL]; exact List.mem_cons_self
  have hgF : ¬ J.F g := (hr.lo k g hgk).2.2
  generalize hw' : w.setRow g (cur.toList.take (j * n) ++ (List.replicate (l.length - j) zs).flatten ++ cur.toList.drop (j * n + (l.length - j) * n)).toArray = w'
  have hgw : w'.heap[g]? = some (.cells (cur.toList.take (j * n) ++ (List.replicate (l.length - j) zs).flatten ++ cur.toList.drop (j * n + (l.length - j) * n)).toArray e (0, 0)) := by rw [← hw']; exact setRow_heap w g cur _ e (0, 0) hg
  have hother : ∀ b, b ≠ g → w'.heap[b]? = w.heap[b]? := fun b hb => by rw [← hw']; exact setRow_other w g b _ hb
  have hsize : w'.heap.size = w.heap.size := by rw [← hw']; simp [World.setRow]
  have hbelow : w0.Keeps w' := by
    refine hr.below.step (by rw [← hw']; rfl) (by rw [← hw']; rfl) (by rw [← hw']; rfl) (by omega) fun b _ hnl => hother b fun e => ?_
    exact hnl (e ▸ (hr.lo k g hgk).1)
  have hfl : ((List.replicate (l.length - j) zs).flatten).length = (l.length - j) * n := by
    rw [List.length_flatten, List.map_replicate, hzl]; simp
  have hsum : j * n + (l.length - j) * n = l.length * n := by rw [← Nat.add_mul]; congr 1; omega
  have hle : l.length * n ≤ cap * n := Nat.mul_le_mul_right n hlc
  have hcl : cur.toList.length = cap * n := by simpa using hs
  have hjn : j * n ≤ cap * n := Nat.mul_le_mul_right n (by omega)
  have htl : (l.take j ++ List.replicate (l.length - j) ps).length = l.length := by simp; omega
  have hown : OwnTop (takeJ J w w' (64 * t0) k [] [g]).F [g] w' (.slice (some ⟨g, 0, none⟩) l.length cap) n (l.take j ++ List.replicate (l.length - j) ps) := by
    refine .inr ⟨g, cap, _, e, rfl, by rw [htl], hgw, ?_, ?_, by rw [htl]; exact hlc, by rw [htl]; exact hcap⟩
    · simp only [List.size_toArray, List.length_append, hfl, List.length_take, List.length_drop, hcl]
      omega
    · rw [htl]
      have : ((cur.toList.take (j * n) ++ (List.replicate (l.length - j) zs).flatten ++ cur.toList.drop (j * n + (l.length - j) * n)).toArray.toList.take (l.length * n)) = cur.toList.take (j * n) ++ (List.replicate (l.length - j) zs).flatten := by
        show ((_ : List Value) ++ _ ++ _).take _ = _
        have hln : (cur.toList.take (j * n) ++ (List.replicate (l.length - j) zs).flatten).length = l.length * n := by
          simp only [List.length_append, hfl, List.length_take, hcl]; omega
        rw [List.take_append_of_le_length (by omega), List.take_of_length_le (by omega)]
      rw [this]
      refine VR.append (vr_zeros (hzv _ _) hpl _) (VR.keep (X := J.F) (w := w) (fun b hb => ⟨.inl hb, hother b fun e => hgF (e ▸ hb)⟩) ?_)
      have h3 := hvr.take j
      rwa [List.take_take, Nat.min_eq_left (by omega)] at h3
  have hR := take_step hr3 (t := t0) (k := k) (n := n) m0 (frz := []) (L' := [g]) (by simp) (w' := w') (u := .slice (some ⟨g, 0, none⟩) l.length cap) (l' := l.take j ++ List.replicate (l.length - j) ps) (d := false) hbelow (by omega) (fun b hb hn => hother b fun e => hn (e ▸ hgk)) (by simp) (fun b hb => by
    obtain rfl := List.mem_singleton.1 hb
    exact ⟨by have := (hr.lo k b hgk).2.1; omega, .inr hgk⟩) (by
      show OwnTop _ ((takeJ J w w' (64 * t0) k [] [g]).L (64 * t0)) _ _ _ _
      rw [show (takeJ J w w' (64 * t0) k [] [g]).L (64 * t0) = [g] from if_pos rfl]
      exact hown)
  rw [put_self e03 (by rw [hr3.size]; exact m0)] at hR
  refine ⟨_, _, hR.less (s' := ⟨[(t0, .one (.slc (.own false (64 * t0)) n (l.take j ++ List.replicate (l.length - j) ps))), (t5, .one (.int .i64 (j : Int)))], []⟩) (fun t v hv => ?_) (fun k c hc => by cases hc), hQ _ htl (by simp [List.take_append, List.take_take]; omega)⟩
  show get (ins t0 _ [(t5, AV.one (.int .i64 (j : Int)))]) t = some v
  rw [get_ins]
  simp only [get] at hv ⊢
  exact hv
end
end Go.Proofs.YtcnkkobgogmakaaGreat
namespace Go.Proofs.YtcnkkobgogmakaaGreat
open Go.RowKit
section
variable {P : Program}
theorem copy_run (w : World) (dT sT ty elem : TypeId) (inf : TypeInfo) (b o dLen dCap : Nat) (a : Addr) (sLen sCap : Nat) (cs : List Value) (hu : P.underlying dT = some (.slice elem)) (hi : P.info? elem = some inf)
    (hn : cs.length = Nat.min sLen dLen * inf.size) (hsrc : ∀ j v, cs[j]? = some v → w.cell? (a.add j) = some v) {cur : Array Value} {e : TypeId} (hg : w.heap[b]? = some (.cells cur e (0, 0))) (hfit : o + cs.length ≤ cur.size) (h1 : ∀ v ∈ cs, v.oneCell' = true) :
    (Builtin.copy_ #[dT, sT] ty #[.slice (some ⟨b, o, none⟩) dLen dCap, .slice (some a) sLen sCap]).run P w = .ok (goInt (Nat.min sLen dLen)) (w.setCells b o cs) := by
  have hl := run_loadCells_list (P := P) w a cs hsrc
  have hc : ∀ j, j < cs.length → (w.cell? ⟨b, o + j, none⟩).isSome = true := fun j hj => by
    have : o + j < cur.size := by omega
    simp [World.cell?, hg, this]
  have hf : ∀ j, j < cs.length → w.frozen? ⟨b, o + j, none⟩ = false := fun j hj => by simp [World.frozen?, hg]
  have hst := run_storeCells_cells (P := P) b o cs 0 w (by simpa using hc) (by simpa using hf) h1
  simp [Builtin.copy_, run_underlying hu, Builtin.lenOf, Builtin.firstCells, sizeOf, typeInfo, hi, ← hn, hl, hst]
theorem overlaps_run (w : World) (tS tR e : TypeId) (ht : P.underlying tS = some (.slice e)) (size : Nat) (hz : ∀ w, (Go.sizeOf e).run P w = .ok size w) (a b : Addr) (la ca lb cb : Nat) (hne : a.block ≠ b.block)
    {arrA : Array Value} {tA : TypeId} {frA : Nat × Nat} (hA : w.heap[a.block]? = some (.cells arrA tA frA)) {arrB : Array Value} {tB : TypeId} (hB : w.heap[b.block]? = some (.cells arrB tB (0, 0))) (hpos : 0 < arrB.size) (hposA : 0 < arrA.size) :
    (Extern.SlicesOverlaps.overlaps #[tS, tS] #[tR] #[.slice (some a) la ca, .slice (some b) lb cb]).run P w = .ok (.bool false) w := by
  have hsa : w.shape? a.block = some (tA, arrA.size) := by simp [World.shape?, hA]
  have hsb : w.shape? b.block = some (tB, arrB.size) := by simp [World.shape?, hB]
  have hfb : ∀ o, w.frozen? ⟨b.block, o, none⟩ = false := fun o => by simp [World.frozen?, hB]
  have hfb' : w.frozen? b = false := by simp [World.frozen?, hB]
  have hnb : (a.block != b.block) = true := by simpa using hne
  have hnb' : (a.block == b.block) = false := by simpa using hne
  obtain ⟨kb, hkb⟩ : ∃ kb, arrB.size = kb + 1 := ⟨arrB.size - 1, by omega⟩
  rw [hkb] at hsb
  obtain ⟨ka, hka⟩ : ∃ ka, arrA.size = ka + 1 := ⟨arrA.size - 1, by omega⟩
  rw [hka] at hsa
  change Sem.run P (α := Value) (do
    let some t := (#[tS, tS] : Array TypeId)[0]? | stuck "slices.overlaps: no parameter types"
    let .slice elem ← underlying t | stuck "slices.overlaps: slice type expected"
    let size ← sizeOf elem
    match (some a : Option Addr), (some b : Option Addr) with
    | some a, some b =>
      if la = 0 ∨ lb = 0 ∨ size = 0 then pure (Value.bool false)
      else if a.block != b.block && (← frozen a) && (← frozen b) then unsupported .addressObserved
      else do
        if a.block != b.block then do
          noView a; noView b
          if ← mayBeOne a b then return Value.bool ((← choose (.extern "sameAddr.stringBytes" 2)) == 1)
        pure (Value.bool (a.block == b.block && a.off < b.off + lb * size && b.off < a.off + la * size))
    | _, _ => pure (Value.bool false)) w = _
  by_cases h0 : la = 0 ∨ lb = 0 ∨ size = 0
  · simp [run_underlying ht, hz, h0]
  · cases hfa : w.frozen? a with
    | true => simp [run_underlying ht, hz, h0, hnb, hnb', frozen, noView, viewAt, mayBeOne, stringish, shape, Sem.run, hsa, hsb, hfa, hfb, hfb']
    | false =>
      cases hfa2 : w.frozen? { block := a.block, off := ka + 1 } with
      | true => simp [run_underlying ht, hz, h0, hnb, hnb', frozen, noView, viewAt, mayBeOne, stringish, shape, Sem.run, hsa, hsb, hfa, hfb, hfb', hfa2]
      | false => simp [run_underlying ht, hz, h0, hnb, hnb', frozen, noView, viewAt, mayBeOne, stringish, shape, Sem.run, hsa, hsb, hfa, hfb, hfb', hfa2]
structure RowAt (w : World) (n : Nat) (oa : Option Addr) (m cap : Nat) (olds : List Value) : Prop where
  len : olds.length = m * n
  row : (oa = oa ∧ m = 0 ∧ cap = 0) ∨ ∃ g cur e, oa = some ⟨g, 0, none⟩ ∧ w.heap[g]? = some (.cells cur e (0, 0)) ∧ cur.size = cap * n ∧ cur.toList.take (m * n) = olds
  le : m ≤ cap
  cap : cap ≤ maxLen
  lim : m < 1073741824
  ones : ∀ u, u ∈ olds → u.oneCell' = true
structure Turned (w w' : World) (n : Nat) (oa : Option Addr) (cap : Nat) (u : Value) (m' : Nat) (news : List Value) : Prop where
  os : w'.os = w.os
  tape : w'.tape = w.tape
  output : w'.output = w.output
  size : w.heap.size ≤ w'.heap.size
  row : ∃ g' cap' cur' e', u = .slice (some ⟨g', 0, none⟩) m' cap' ∧ w'.heap[g']? = some (.cells cur' e' (0, 0)) ∧ cur'.size = cap' * n ∧ cur'.toList.take (m' * n) = news ∧ m' ≤ cap' ∧ cap' ≤ maxLen ∧
    ((oa = some ⟨g', 0, none⟩ ∧ 0 < cap ∧ ∀ b, b ≠ g' → w'.heap[b]? = w.heap[b]?) ∨ (w.heap.size ≤ g' ∧ g' < w'.heap.size ∧ ∀ b, b < w.heap.size → w'.heap[b]? = w.heap[b]?))
def InsTo (w : World) (n i : Nat) (oa : Option Addr) (m cap : Nat) (olds vs : List Value) (e : Ending) (w' : World) : Prop :=
  ∃ u, e = .returned u ∧ Turned w w' n oa cap u (m + 1) (olds.take (i * n) ++ vs ++ olds.drop (i * n))
structure OneAt (w : World) (n : Nat) (oa : Option Addr) (cap : Nat) (vb voff : Nat) (vs : List Value) : Prop where
  len : vs.length = n
  cells : ∀ j u, vs[j]? = some u → w.cell? ⟨vb, voff + j, none⟩ = some u
  ones : ∀ u, u ∈ vs → u.oneCell' = true
  ne : ∀ g, oa = some ⟨g, 0, none⟩ → 0 < cap → vb ≠ g
theorem rowTop {F : Nat → Prop} {L : List Nat} {w : World} {v : Value} {n : Nat} {l : List (List PV)} (h : OwnTop F L w v n l) (hl : l.length < 1073741824) :
    ∃ oa cap olds, v = .slice oa l.length cap ∧ RowAt w n oa l.length cap olds ∧ VR F w n olds l ∧ (0 < cap → ∃ g, oa = some ⟨g, 0, none⟩ ∧ L = [g]) := by
  rcases h with ⟨rfl, oa, rfl⟩ | ⟨g, cap, cur, e, rfl, rfl, hg, hs, hr, h1, h2⟩
  · exact ⟨oa, 0, [], rfl, ⟨by simp, .inl ⟨rfl, rfl, rfl⟩, Nat.le_refl _, Nat.zero_le _, by simp, by simp⟩, .nil n, fun h => by omega⟩
  · exact ⟨some ⟨g, 0, none⟩, cap, _, rfl, ⟨hr.length, .inr ⟨g, cur, e, rfl, hg, hs, rfl⟩, h1, h2.1, hl, hr.ones⟩, hr, fun _ => ⟨g, rfl, rfl⟩⟩
theorem Turned.ret {F G : Nat → Prop} {L : List Nat} {w w' : World} {n : Nat} {oa : Option Addr} {cap : Nat} {u : Value} {m' : Nat} {news : List Value} (h : Turned w w' n oa cap u m' news) (hF : ∀ b, F b → b < w.heap.size ∧ b ∉ L) (hL : 0 < cap → ∃ g, oa = some ⟨g, 0, none⟩ ∧ L = [g]) (hLs : ∀ b, b ∈ L → b < w.heap.size)
    {l' : List (List PV)} (hv : VR F w n news l') (hm : l'.length = m') (hlim : m' ≤ 1073741824) : TRet F L w n false l' (.returned u) w' := by
  obtain ⟨g', cap', cur', e', rfl, hg, hs, ht, h1, h2, h3⟩ := h.row
  have hsame : ∀ b, b < w.heap.size → b ∉ L → w'.heap[b]? = w.heap[b]? := fun b hb hn => by
    rcases h3 with ⟨h3, hc, h4⟩ | ⟨_, _, h4⟩
    · obtain ⟨g, h5, rfl⟩ := hL hc
      rw [h3] at h5
      obtain rfl : g' = g := by simpa using h5
      exact h4 b fun e => hn (by simp [e])
    · exact h4 b hb
  refine ⟨_, rfl, fun m hm hmL => ⟨h.os, h.tape, h.output, h.size, fun b hb => hsame b (by omega) fun hx => by have := hmL b hx; omega⟩, hsame, [g'], by simp, fun b hb => ?_, ?_⟩
  · obtain rfl := List.mem_singleton.1 hb
    refine ⟨block_lt_of_heap hg, ?_⟩
    rcases h3 with ⟨h3, hc, _⟩ | ⟨h3, _, _⟩
    · obtain ⟨g, h5, rfl⟩ := hL hc
      rw [h3] at h5
      obtain rfl : b = g := by simpa using h5
      exact .inr (by simp)
    · exact .inl h3
  · refine .inr ⟨g', cap', cur', e', rfl, by rw [hm], hg, hs, ?_, by rw [hm]; exact h1, h2, by rw [hm]; exact hlim⟩
    rw [hm, ht]
    exact hv.keep fun b hb => ⟨.inl hb, hsame b (hF b hb).1 (hF b hb).2⟩
theorem atake_ins {f n : Nat} (hok : FnOk P f) (h0 : 0 < n)
    (hrun : ∀ w oa m cap olds i vb voff vc vs, RowAt w n oa m cap olds → OneAt w n oa cap vb voff vs → i ≤ m → Calls P f #[.slice oa m cap, .int .i64 (i : Int), .slice (some ⟨vb, voff, none⟩) 1 vc] w (InsTo w n i oa m cap olds vs))
    {l : List (List PV)} {x : List PV} {i : Int} {j : Nat} (hij : i = (j : Int)) (hj : j ≤ l.length) (hl : l.length < 1073741824) : ATake P f n l [.one (.int .i64 i), .one (.slc .sh n [x])] true false (l.take j ++ [x] ++ l.drop j) := by
  subst hij
  refine ⟨hok, fun w F G L v vals _ hFG hGF hGs hnd hLG hrow hargs => ?_⟩
  have hGF := hGF rfl
  cases hargs with
  | cons a1 ha =>
  cases ha with
  | cons a2 ha =>
  cases ha
  obtain ⟨rfl, _⟩ : _ = Value.int .i64 (j : Int) ∧ InR .i64 (j : Int) := a1
  have a2 : VV G w _ (.slc n [x]) := a2
  obtain ⟨oa, cap, olds, rfl, hR, hV, hL⟩ := rowTop hrow hl
  generalize hp : PV.slc n [x] = p at a2
  cases a2 with
  | int | bool | str => cases hp
  | emp => cases hp
  | @slc vb voff vc n' cs l1 hb hc hr h1 h2 =>
    obtain ⟨rfl, rfl⟩ : n = n' ∧ [x] = l1 := by simpa using hp
    have hcl : cs.length = n := by rw [hr.length]; simp
    have hone : OneAt w n oa cap vb voff cs := ⟨hcl, hc, hr.ones, fun g hg hcap e => by
      obtain ⟨g', h5, rfl⟩ := hL hcap
      rw [hg] at h5
      obtain rfl : g = g' := by simpa using h5
      exact (hLG g (by simp)).2 (e ▸ hb)⟩
    refine (hrun w oa l.length cap olds j vb voff vc cs hR hone hj).mono ?_
    rintro e w' ⟨u, rfl, hT⟩
    refine hT.ret (G := G) (fun b hb => ⟨hGs b (hFG b hb), fun hm => (hLG b hm).2 (hFG b hb)⟩) hL (fun b hb => (hLG b hb).1) ?_ ?_ (by omega)
    · exact VR.append (hV.drop j) (VR.append (hr.keep fun b hb => ⟨hGF b hb, rfl⟩) (hV.take j))
    · simp; omega
end
end Go.Proofs.YtcnkkobgogmakaaGreat
namespace Go.Proofs.YtcnkkobgogmakaaGreat
open Go.RowKit
section
variable {P : Program} {t e : TypeId} {ei : TI} {w : World} {oa : Option Addr} {m cap i vb voff vc : Nat} {olds vs : List Value}
theorem goIdx {i m n : Nat} (hi : i < m) : (i + 1) * n = i * n + n ∧ i * n + n ≤ m * n ∧ (m - i) * n = m * n - i * n ∧ (m + 1) * n = m * n + n := by
  have h1 : (i + 1) * n ≤ m * n := Nat.mul_le_mul_right n (by omega)
  have h2 : (i + 1) * n = i * n + n := by rw [Nat.add_mul, Nat.one_mul]
  exact ⟨h2, by omega, Nat.sub_mul .., by rw [Nat.add_mul, Nat.one_mul]⟩
theorem OneAt.block {n : Nat} (h : OneAt w n oa cap vb voff vs) (h0 : 0 < n) : vb < w.heap.size ∧ ∃ arr tA fr, w.heap[vb]? = some (.cells arr tA fr) ∧ 0 < arr.size := by
  have hl : 0 < vs.length := by rw [h.len]; exact h0
  have hc := h.cells 0 vs[0] (List.getElem?_eq_getElem hl)
  unfold World.cell? at hc
  split at hc
  · rename_i arr tA fr hh
    refine ⟨block_lt_of_heap hh, arr, tA, fr, hh, ?_⟩
    have hc : arr[voff + 0]? = some vs[0] := by simpa using hc
    have := (Array.getElem?_eq_some_iff.1 hc).1
    omega
  · cases hc
theorem wpList_copy_rn {w : World} {ops : Array Oper} {rest : List Oper} {o : Oper} {a : Act} {Q : Exit → Act → World → Prop} (hgd : o.guard = none) (d s : Operand) (t t' : TypeId)
    (ho : o.op = .call { callee := .builtin .copy, args := #[d, s], argTypes := #[t, t'] }) (v u : Value) (hd : a.eval d = v) (hs : a.eval s = u) {v' : Value} {w' : World}
    (hr : (Builtin.copy_ #[t, t'] o.type #[v, u]).run P w = .ok v' w') (h : wpList P ops Q rest (a.put o.dst v') w') : wpList P ops Q (o :: rest) a w :=
  wpList_plain hgd fun K hK => by
    unfold Oper.wp execOp
    simp only [ho, resolve, invoke, builtin, Sem.run_bind, Sem.run_pure, Result.andThen_ok, List.map_toArray, List.map_cons, List.map_nil, hd, hs, hr]
    exact hK _ _ h
theorem step_copy_rn {w : World} {ops : Array Oper} {o : Oper} {a : Act} {K : Act → World → Prop} {Q : Exit → Act → World → Prop} {E : Prop}
    (hg : o.guard = none) (d x : Operand) (dT sT : TypeId) (hop : o.op = .call { callee := .builtin .copy, args := #[d, x], argTypes := #[dT, sT] })
    (v u : Value) (hd : a.eval d = v) (hx : a.eval x = u) {v' : Value} {w' : World} (hr : (Builtin.copy_ #[dT, sT] o.type #[v, u]).run P w = .ok v' w') (hK : K (a.put o.dst v') w') :
    if Region.wanted o (yielded ops a.tmps) = true then Oper.wp P o a w K Q else E := by
  rw [if_pos (by simp [Region.wanted, hg])]
  unfold Oper.wp execOp
  simp only [hop, resolve, invoke, builtin, Sem.run_bind, Sem.run_pure, Result.andThen_ok, List.map_toArray, List.map_cons, List.map_nil, hd, hx, hr]
  exact hK
theorem heap_drew_setCells (g : Nat) : ∀ (vs : List Value) (o : Nat) (w : World), (w.drew.setCells g o vs).heap = (w.setCells g o vs).heap
  | [], _, _ => rfl
  | v :: vs, o, w => heap_drew_setCells g vs (o + 1) (w.setCell ⟨g, o, none⟩ v)
theorem src_one (hu : P.underlying t = some (.slice e)) (hO : OneAt w ei.size oa cap vb voff vs) : Src P ei.size t (.slice (some ⟨vb, voff, none⟩) 1 vc) 1 vs w :=
  Src.ofSlice w hu _ _ _ _ (by rw [hO.len]; omega) (fun j u hj => by rw [Addr.add_lit]; exact hO.cells j u hj) hO.ones
theorem road_end (hu : P.underlying t = some (.slice e)) (hei : TiOk P e ei) (hn : 0 < ei.size) (hR : RowAt w ei.size oa m cap olds) (hO : OneAt w ei.size oa cap vb voff vs) :
    ∃ u w', (∀ ty, (Builtin.append_ #[t, t] ty #[.slice oa m cap, .slice (some ⟨vb, voff, none⟩) 1 vc]).run P w = .ok u w') ∧ InsTo w ei.size m oa m cap olds vs (.returned u) w' := by
  have hold : ∀ ad, oa = some ad → ∀ (j : Nat) (u : Value), olds[j]? = some u → w.cell? (ad.add j) = some u := fun ad had j u hj => by
    rcases hR.row with ⟨_, h0, _⟩ | ⟨g, cur, e0, h1, h2, h3, h4⟩
    · have := hR.len
      rw [h0, Nat.zero_mul] at this
      rw [List.length_eq_zero_iff.1 this] at hj
      simp at hj
    · rw [had] at h1
      obtain rfl := Option.some.inj h1
      rw [← h4] at hj
      exact row_reads h2 _ j u hj
  obtain ⟨g', cap', cur', e', w', hr, h1, h2, h3, h4, h5, h6, h7, h8, h9, h10⟩ := append_run (ty := 0) hu hei hn hR.len hold (fun h => by
      rcases hR.row with ⟨_, h0, _⟩ | ⟨g, cur, e0, h1, _⟩
      · exact h0
      · rw [h] at h1; cases h1) (hR.row.imp (fun h => h.2.2) fun h => h) hR.le (src_one (vc := vc) hu hO) (by have := hR.lim; omega) (fun _ => by omega) hR.cap
  refine ⟨_, w', fun ty => hr, _, rfl, ⟨h6, h7, h8, h9, g', cap', cur', e', rfl, h1, h2, ?_, h4, h5, ?_⟩⟩
  · rw [h3, List.take_of_length_le (by rw [hR.len]; omega), List.drop_of_length_le (by rw [hR.len]; omega), List.append_nil]
  · exact h10.imp (fun ⟨cur, e0, h1, h2, h3, h4⟩ => ⟨h1, by omega, h4⟩) fun ⟨h1, h2, h3⟩ => ⟨by omega, h2, h3⟩
variable {g : Nat} {cur : Array Value} {e0 : TypeId}
theorem olds_cell (hg : w.heap[g]? = some (.cells cur e0 (0, 0))) (htk : cur.toList.take (m * ei.size) = olds) {k : Nat} : ∀ (j : Nat) (u : Value), (olds.drop k)[j]? = some u → w.cell? ((⟨g, k, none⟩ : Addr).add j) = some u := fun j u hj => by
  rw [List.getElem?_drop, ← htk] at hj
  have := row_reads hg _ _ u hj
  rw [Addr.add_lit, Nat.zero_add] at this
  rw [Addr.add_lit]
  exact this
theorem heap_os_setCells (g : Nat) : ∀ (vs : List Value) (o : Nat) (w : World), (w.setCells g o vs).os = w.os ∧ (w.setCells g o vs).tape = w.tape ∧ (w.setCells g o vs).output = w.output
  | [], _, _ => ⟨rfl, rfl, rfl⟩
  | v :: vs, o, w => heap_os_setCells g vs (o + 1) (w.setCell ⟨g, o, none⟩ v)
theorem road_room (hu : P.underlying t = some (.slice e)) (hei : TiOk P e ei) (hn : 0 < ei.size) (hg : w.heap[g]? = some (.cells cur e0 (0, 0))) (hcs : cur.size = cap * ei.size) (htk : cur.toList.take (m * ei.size) = olds)
    (hR : RowAt w ei.size (some ⟨g, 0, none⟩) m cap olds) (hO : OneAt w ei.size (some ⟨g, 0, none⟩) cap vb voff vs) (hi : i < m) (hroom : m + 1 ≤ cap) :
    (∀ ty dc sc, (Builtin.copy_ #[t, t] ty #[.slice (some ⟨g, (i + 1) * ei.size, none⟩) (m + 1 - (i + 1)) dc, .slice (some ⟨g, i * ei.size, none⟩) (m + 1 - i) sc]).run P w = .ok (goInt (Nat.min (m + 1 - i) (m + 1 - (i + 1)))) (w.setCells g ((i + 1) * ei.size) (olds.drop (i * ei.size)))) ∧
    (∀ W : World, W.heap = (w.setCells g ((i + 1) * ei.size) (olds.drop (i * ei.size))).heap → ∀ ty dc, (Builtin.copy_ #[t, t] ty #[.slice (some ⟨g, i * ei.size, none⟩) (m + 1 - i) dc, .slice (some ⟨vb, voff, none⟩) 1 vc]).run P W = .ok (goInt (Nat.min 1 (m + 1 - i))) (W.setCells g (i * ei.size) vs)) ∧
    (∀ W : World, W.heap = (w.setCells g ((i + 1) * ei.size) (olds.drop (i * ei.size))).heap → W.os = w.os → W.tape = w.tape → W.output = w.output → InsTo w ei.size i (some ⟨g, 0, none⟩) m cap olds vs (.returned (.slice (some ⟨g, 0, none⟩) (m + 1) cap)) (W.setCells g (i * ei.size) vs)) := by
  obtain ⟨inf, z, hI, hsz, _⟩ := hei.info
  obtain ⟨k1, k2, k3, k4⟩ := goIdx (n := ei.size) hi
  have k5 : m * ei.size + ei.size ≤ cap * ei.size := by rw [← k4]; exact Nat.mul_le_mul_right _ hroom
  have hdl : (olds.drop (i * ei.size)).length = (m - i) * ei.size := by rw [List.length_drop, hR.len, k3]
  have hfit1 : (i + 1) * ei.size + (olds.drop (i * ei.size)).length ≤ cur.size := by rw [hdl]; omega
  have hmin : Nat.min (m + 1 - i) (m + 1 - (i + 1)) = m - i := by simp only [Nat.min_def]; split <;> omega
  have hmin1 : Nat.min 1 (m + 1 - i) = 1 := by simp only [Nat.min_def]; split <;> omega
  have hvb : vb ≠ g := hO.ne g rfl (by omega)
  have hg1 := heap_setCells_of g (olds.drop (i * ei.size)) ((i + 1) * ei.size) w hg
  have hfit2 : i * ei.size + vs.length ≤ (putCells cur ((i + 1) * ei.size) (olds.drop (i * ei.size))).size := by rw [size_putCells, hO.len]; omega
  refine ⟨fun ty dc sc => ?_, fun W hW ty dc => ?_, fun W hW ho ht hu' => ?_⟩
  · exact copy_run w t t ty e inf g _ _ dc ⟨g, i * ei.size, none⟩ _ sc _ hu hI (by rw [hmin, hdl, hsz]) (olds_cell hg htk) hg hfit1 fun v hv => hR.ones v (List.mem_of_mem_drop hv)
  · refine copy_run W t t ty e inf g _ _ dc ⟨vb, voff, none⟩ _ vc _ hu hI (by rw [hmin1, hO.len, hsz, Nat.one_mul]) (fun j v hj => ?_) (hW ▸ hg1) hfit2 hO.ones
    rw [Addr.add_lit, World.cell?_of_block (w := w) (by rw [hW]; exact heap_setCells_ne g hvb _ _ _)]
    exact hO.cells j v hj
  · obtain ⟨p1, p2, p3⟩ := heap_os_setCells g vs (i * ei.size) W
    have hg2 := heap_setCells_of g vs (i * ei.size) W (hW ▸ hg1)
    refine ⟨_, rfl, ⟨p1.trans ho, p2.trans ht, p3.trans hu', ?_, g, cap, _, e0, rfl, hg2, by rw [size_putCells, size_putCells]; exact hcs, ?_, hroom, hR.cap, .inl ⟨rfl, by omega, fun b hb => ?_⟩⟩⟩
    · rw [size_setCells, hW, size_setCells]; exact Nat.le_refl _
    · have hci : cur.toList.take (i * ei.size) = olds.take (i * ei.size) := by
        rw [← htk, List.take_take]; congr 1; omega
      have hA : ((cur.toList.take ((i + 1) * ei.size) ++ olds.drop (i * ei.size)) ++ cur.toList.drop ((i + 1) * ei.size + (olds.drop (i * ei.size)).length)).take (i * ei.size) = olds.take (i * ei.size) := by
        have hl : (cur.toList.take ((i + 1) * ei.size)).length = (i + 1) * ei.size := by rw [List.length_take, Array.length_toList]; omega
        rw [List.append_assoc, List.take_append_of_le_length (by rw [hl]; omega), List.take_take, ← hci]; congr 1; omega
      have hB : ((cur.toList.take ((i + 1) * ei.size) ++ olds.drop (i * ei.size)) ++ cur.toList.drop ((i + 1) * ei.size + (olds.drop (i * ei.size)).length)).drop (i * ei.size + vs.length) = olds.drop (i * ei.size) ++ cur.toList.drop ((i + 1) * ei.size + (olds.drop (i * ei.size)).length) := by
        have hl : (cur.toList.take ((i + 1) * ei.size)).length = i * ei.size + vs.length := by rw [List.length_take, Array.length_toList, hO.len]; omega
        rw [List.append_assoc, ← hl, List.drop_left]
      rw [putCells_list hfit2, putCells_list hfit1, hA, hB]
      have hl3 : (olds.take (i * ei.size) ++ vs ++ olds.drop (i * ei.size)).length = (m + 1) * ei.size := by
        rw [List.length_append, List.length_append, hdl, hO.len, List.length_take, hR.len, k3]; omega
      rw [← List.append_assoc, ← hl3, List.take_left]
    · rw [heap_setCells_ne g hb, hW, heap_setCells_ne g hb]
theorem road_grow {tn : TypeId} (hu : P.underlying t = some (.slice e)) (htn : P.underlying tn = some (.int .i64)) (hei : TiOk P e ei) (hn : 0 < ei.size) (hg : w.heap[g]? = some (.cells cur e0 (0, 0))) (hcs : cur.size = cap * ei.size) (htk : cur.toList.take (m * ei.size) = olds)
    (hR : RowAt w ei.size (some ⟨g, 0, none⟩) m cap olds) (hO : OneAt w ei.size (some ⟨g, 0, none⟩) cap vb voff vs) (hvw : vb < w.heap.size) (hi : i < m) (hroom : cap < m + 1) :
    ∃ G W1, m + 1 ≤ G ∧ G ≤ maxLen ∧ (∀ ty k, k = ((m + 1 - i : Nat) : Int) → (Builtin.append_ #[t, tn] ty #[.slice (some ⟨g, 0, none⟩) i cap, .int .i64 k]).run P w = .ok (.slice (some ⟨w.heap.size, 0, none⟩) (m + 1) G) W1) ∧
    (∀ W : World, W.heap = W1.heap → ∀ ty dc, (Builtin.copy_ #[t, t] ty #[.slice (some ⟨w.heap.size, i * ei.size, none⟩) (m + 1 - i) dc, .slice (some ⟨vb, voff, none⟩) 1 vc]).run P W = .ok (goInt (Nat.min 1 (m + 1 - i))) (W.setCells w.heap.size (i * ei.size) vs)) ∧
    (∀ W : World, W.heap = (W1.setCells w.heap.size (i * ei.size) vs).heap → ∀ ty dc sc, (Builtin.copy_ #[t, t] ty #[.slice (some ⟨w.heap.size, (i + 1) * ei.size, none⟩) (m + 1 - (i + 1)) dc, .slice (some ⟨g, i * ei.size, none⟩) (m - i) sc]).run P W = .ok (goInt (Nat.min (m - i) (m + 1 - (i + 1)))) (W.setCells w.heap.size ((i + 1) * ei.size) (olds.drop (i * ei.size)))) ∧
    (∀ W : World, W.heap = (W1.setCells w.heap.size (i * ei.size) vs).heap → W.os = w.os → W.tape = w.tape → W.output = w.output → InsTo w ei.size i (some ⟨g, 0, none⟩) m cap olds vs (.returned (.slice (some ⟨w.heap.size, 0, none⟩) (m + 1) G)) (W.setCells w.heap.size ((i + 1) * ei.size) (olds.drop (i * ei.size)))) ∧
    W1.os = w.os ∧ W1.tape = w.tape ∧ W1.output = w.output := by
  obtain ⟨inf, z, hI, hsz, hby, hz, hzs, _⟩ := hei.info
  obtain ⟨k1, k2, k3, k4⟩ := goIdx (n := ei.size) hi
  have hlim := hR.lim
  have hle := hR.le
  have hgw : g < w.heap.size := block_lt_of_heap hg
  have hdl : (olds.drop (i * ei.size)).length = (m - i) * ei.size := by rw [List.length_drop, hR.len, k3]
  have htl : (olds.take (i * ei.size)).length = i * ei.size := by rw [List.length_take, hR.len]; omega
  have hmin : Nat.min (m - i) (m + 1 - (i + 1)) = m - i := by simp only [Nat.min_def]; split <;> omega
  have hmin1 : Nat.min 1 (m + 1 - i) = 1 := by simp only [Nat.min_def]; split <;> omega
  have hold : (Builtin.firstCells inf.size i (.slice (some ⟨g, 0, none⟩) i cap)).run P w.drew = .ok (olds.take (i * ei.size)).toArray w.drew := by
    refine run_firstCells_some w.drew inf.size i ⟨g, 0, none⟩ i cap _ (by rw [htl, hsz]) fun j u hj => ?_
    rw [List.getElem?_take] at hj
    split at hj
    · rw [← htk] at hj
      exact row_reads hg _ j u hj
    · cases hj
  have hik : i + (m + 1 - i) = m + 1 := by omega
  have hbytes : ((m + 1) + (m + 1) / 4 + 192) * inf.bytes ≤ 281474976710656 := Nat.le_trans (Nat.mul_le_mul (show _ ≤ 1342177472 by omega) hby) (by decide)
  have hkb : (m + 1 - i) * inf.bytes ≤ 281474976710656 := Nat.le_trans (Nat.mul_le_mul_right _ (by omega)) hbytes
  have hap : ∀ ty, (Builtin.append_ #[t, tn] ty #[.slice (some ⟨g, 0, none⟩) i cap, .int .i64 ((m + 1 - i : Nat) : Int)]).run P w = _ := fun ty =>
    Lib.run_append_grow_zeros w t tn ty e inf z .i64 .i64 hu htn hI hz (some ⟨g, 0, none⟩) i cap (olds.take (i * ei.size)) hold (m + 1 - i) (by omega) (by omega) (by omega) (by omega) hkb (by rw [hik]; exact growslice_fits_wide hroom hbytes)
  rw [hik] at hap
  obtain ⟨G, hG⟩ : ∃ G, G = grownCap w (m + 1) cap e := ⟨_, rfl⟩
  have hGn : m + 1 ≤ G := by rw [hG]; exact grownCap_ge w _ _ _
  have hGm : G ≤ maxLen := by rw [hG]; exact grownCap_le_maxLen w _ _ _ (by unfold maxLen; omega)
  rw [← hG] at hap
  obtain ⟨ROW, hROW⟩ : ∃ ROW : Array Value, ROW = (olds.take (i * ei.size)).toArray ++ Builtin.zeroCells z.cells (m + 1 - i) ++ Builtin.zeroCells z.cells (G - (m + 1)) := ⟨_, rfl⟩
  rw [← hROW] at hap
  have hRs : ROW.size = G * ei.size := by
    rw [hROW]
    simp only [Array.size_append, List.size_toArray, size_zeroCells, hzs, htl, ← Nat.add_mul]
    congr 1
    omega
  have hRt : ROW.toList.take (i * ei.size) = olds.take (i * ei.size) := by
    rw [hROW, Array.toList_append, Array.toList_append, List.append_assoc]
    show (olds.take (i * ei.size) ++ _).take _ = _
    rw [List.take_append_of_le_length (by rw [htl]; omega), List.take_of_length_le (by rw [htl]; omega)]
  have hGe : (m + 1) * ei.size ≤ G * ei.size := Nat.mul_le_mul_right _ hGn
  obtain ⟨W1, hW1⟩ : ∃ W1, W1 = w.drew.alloc (.cells ROW e) := ⟨_, rfl⟩
  rw [← hW1] at hap
  have hn1 : W1.heap[w.heap.size]? = some (.cells ROW e (0, 0)) := by rw [hW1]; exact heap_alloc_new w.drew _
  have ho1 : ∀ b, b < w.heap.size → W1.heap[b]? = w.heap[b]? := fun b hb => by rw [hW1]; exact heap_alloc_old w.drew _ hb
  have hs1 : W1.heap.size = w.heap.size + 1 := by rw [hW1]; simp
  have hfitA : i * ei.size + vs.length ≤ ROW.size := by rw [hO.len, hRs]; omega
  have hg2 := heap_setCells_of w.heap.size vs (i * ei.size) W1 hn1
  have hfitB : (i + 1) * ei.size + (olds.drop (i * ei.size)).length ≤ (putCells ROW (i * ei.size) vs).size := by rw [size_putCells, hdl, hRs]; omega
  refine ⟨G, W1, hGn, hGm, fun ty k hk => by subst hk; exact hap ty, fun W hW ty dc => ?_, fun W hW ty dc sc => ?_, fun W hW ho ht hu' => ?_, by rw [hW1]; rfl, by rw [hW1]; rfl, by rw [hW1]; rfl⟩
  · refine copy_run W t t ty e inf _ _ _ dc ⟨vb, voff, none⟩ _ vc _ hu hI (by rw [hmin1, hO.len, hsz, Nat.one_mul]) (fun j v hj => ?_) (hW ▸ hn1) hfitA hO.ones
    rw [Addr.add_lit, World.cell?_of_block (w := w) (by rw [hW]; exact ho1 _ hvw)]
    exact hO.cells j v hj
  · refine copy_run W t t ty e inf _ _ _ dc ⟨g, i * ei.size, none⟩ _ sc _ hu hI (by rw [hmin, hdl, hsz]) (fun j v hj => ?_) (hW ▸ hg2) hfitB fun v hv => hR.ones v (List.mem_of_mem_drop hv)
    have := olds_cell hg htk j v hj
    rw [Addr.add_lit] at this ⊢
    rw [World.cell?_of_block (w := w) (by rw [hW]; exact (heap_setCells_ne w.heap.size (show g ≠ w.heap.size by omega) _ _ _).trans (ho1 _ hgw))]
    exact this
  · obtain ⟨p1, p2, p3⟩ := heap_os_setCells w.heap.size (olds.drop (i * ei.size)) ((i + 1) * ei.size) W
    have hg3 := heap_setCells_of w.heap.size (olds.drop (i * ei.size)) ((i + 1) * ei.size) W (hW ▸ hg2)
    have hsz3 : (W.setCells w.heap.size ((i + 1) * ei.size) (olds.drop (i * ei.size))).heap.size = w.heap.size + 1 := by rw [size_setCells, hW, size_setCells, hs1]
    refine ⟨_, rfl, ⟨p1.trans ho, p2.trans ht, p3.trans hu', by omega, w.heap.size, G, _, e, rfl, hg3, by rw [size_putCells, size_putCells]; exact hRs, ?_, hGn, hGm, .inr ⟨Nat.le_refl _, by omega, fun b hb => ?_⟩⟩⟩
    · rw [putCells_list hfitB, putCells_list hfitA, hRt]
      have hl : (olds.take (i * ei.size) ++ vs).length = (i + 1) * ei.size := by rw [List.length_append, htl, hO.len]; omega
      rw [show ((olds.take (i * ei.size) ++ vs ++ ROW.toList.drop (i * ei.size + vs.length)).take ((i + 1) * ei.size)) = olds.take (i * ei.size) ++ vs from by rw [← hl, List.take_left]]
      have hl3 : (olds.take (i * ei.size) ++ vs ++ olds.drop (i * ei.size)).length = (m + 1) * ei.size := by
        rw [List.length_append, List.length_append, hdl, hO.len, htl, k3]; omega
      rw [← hl3, List.take_left]
    · rw [heap_setCells_ne _ (show b ≠ w.heap.size by omega), hW, heap_setCells_ne _ (show b ≠ w.heap.size by omega)]
      exact ho1 b hb
def insAt {α : Type} (l : List α) (j : Nat) (y : α) : List α := l.take j ++ [y] ++ l.drop j
theorem atake_insT {α : Type} [GoE α] {f n : Nat} (hok : FnOk P f) (h0 : 0 < n)
    (hrun : ∀ w oa m cap olds i vb voff vc vs, RowAt w n oa m cap olds → OneAt w n oa cap vb voff vs → i ≤ m → Calls P f #[.slice oa m cap, .int .i64 (i : Int), .slice (some ⟨vb, voff, none⟩) 1 vc] w (InsTo w n i oa m cap olds vs))
    (l : List α) (y : α) {i : Int} (hi : 0 ≤ i) (hj : i ≤ l.length) (hl : l.length < 1073741824) : ATake P f n (eL l) [.one (.int .i64 i), .one (.slc .sh n (eL [y]))] true false (eL (insAt l i.toNat y)) := by
  have h := atake_ins hok h0 hrun (l := eL l) (x := GoE.enc y) (i := i) (j := i.toNat) (by omega) (by simp [eL]; omega) (by simpa [eL] using hl)
  rw [show eL (insAt l i.toNat y) = (eL l).take i.toNat ++ [GoE.enc y] ++ (eL l).drop i.toNat by simp [insAt, eL, List.map_take, List.map_drop]]
  exact h
end
end Go.Proofs.YtcnkkobgogmakaaGreat
namespace Go.Proofs.YtcnkkobgogmakaaGreat
open Go.RowKit
theorem atake_flat {P : Program} {f n : Nat} {l l' : List (List PV)} {args : List AV} (h : ATake P f n l args true false l') (hf : RowsLike l') : ATake P f n l args false false l' := by
  refine ⟨h.1, fun w F G L v vals hok hFG _ hGs hnd hLG hrow hargs => ?_⟩
  refine (h.2 w G G L v vals hok (fun _ h => h) (fun _ _ h => h) hGs hnd hLG (OwnTop.keep hrow (fun b hb => ⟨hFG b hb, rfl⟩) fun _ _ => rfl) hargs).mono ?_
  rintro e w' ⟨u, rfl, h1, h2, L', h3, h4, h5⟩
  refine ⟨u, rfl, h1, h2, L', h3, h4, ?_⟩
  rcases h5 with h5 | ⟨g, cap, cur, e, rfl, rfl, hg, hs, hr, h5, h6⟩
  · exact .inl h5
  · exact .inr ⟨g, cap, cur, e, rfl, rfl, hg, hs, OR.vr (VR.orr (w' := w') hr hf) fun b hb => (by simp at hb), h5, h6⟩
theorem rng_lc {n : Nat} {hi : Int} (h0 : 0 ≤ hi) (h1 : hi ≤ (n : Int)) : (0 : Int) ≤ 0 ∧ 0 ≤ hi ∧ hi ≤ (n : Int) := ⟨Int.le_refl _, h0, h1⟩
section
variable {α : Type} {p : α → Bool}
def ixF (p : α → Bool) : List α → Int
  | [] => -1
  | a :: l => bif p a then 0 else bif ixF p l == -1 then -1 else ixF p l + 1
theorem ixF_bd (p : α → Bool) : ∀ l : List α, -1 ≤ ixF p l ∧ ixF p l < l.length
  | [] => by simp [ixF]
  | a :: l => by
    have ih := ixF_bd p l
    simp only [ixF, List.length_cons]
    cases p a with
    | true => simp only [cond_true]; omega
    | false =>
      simp only [cond_false]
      cases h : (ixF p l == -1) with
      | true => simp only [cond_true]; omega
      | false => simp only [cond_false]; omega
theorem idx_go {f : Nat → α → Unit → Rd Int Unit Unit} {e : Nat → Unit → Unit} (hf : ∀ k a s, f k a s = bif p a then .ret ((k : Nat) : Int) else .next ()) : ∀ (l : List α) (k : Nat), forL f e l k () = bif ixF p l == -1 then .brk () else .ret ((k : Int) + ixF p l)
  | [], k => rfl
  | a :: l, k => by
    simp only [forL, hf, ixF]
    cases p a with
    | true => simp only [cond_true]; rw [show ((0 : Int) == -1) = false from rfl, cond_false, Int.add_zero]
    | false =>
      simp only [cond_false]
      rw [idx_go hf l (k + 1)]
      have hb := ixF_bd p l
      cases h : (ixF p l == -1) with
      | true => simp only [cond_true]; rfl
      | false =>
        have hne : ixF p l ≠ -1 := by simpa using h
        simp only [cond_false]
        rw [show (ixF p l + 1 == -1) = false by simp; omega, cond_false]
        congr 1; omega
theorem idx_eq {f : Nat → α → Unit → Rd Int Unit Unit} {e : Nat → Unit → Unit} (hf : ∀ k a s, f k a s = bif p a then .ret ((k : Nat) : Int) else .next ()) (l : List α) : Out.on (forL f e l 0 ()) (fun _ => -1) = ixF p l := by
  rw [idx_go hf]
  cases h : (ixF p l == -1) with
  | true => simp only [cond_true, Out.on]; exact (by simpa using h : ixF p l = -1).symm
  | false => simp only [cond_false, Out.on]; omega
theorem ixF_none {l : List α} (h : ixF p l = -1) : ∀ a, a ∈ l → p a = false := by
  induction l with
  | nil => intro a ha; simp at ha
  | cons b l ih =>
    intro a ha
    have hb := ixF_bd p l
    simp only [ixF] at h
    cases hp : p b with
    | true => rw [hp] at h; simp at h
    | false =>
      rw [hp] at h
      simp only [cond_false] at h
      cases h2 : (ixF p l == -1) with
      | true => rcases List.mem_cons.1 ha with rfl | ha
                · exact hp
                · exact ih (by simpa using h2) a ha
      | false => rw [h2] at h; simp only [cond_false] at h; omega
theorem ixF_some {l : List α} {i : Nat} (h : ixF p l = (i : Int)) : (l.take i).filter (fun a => !p a) = l.take i ∧ ∃ a, l[i]? = some a ∧ p a = true := by
  induction l generalizing i with
  | nil => simp [ixF] at h
  | cons b l ih =>
    have hb := ixF_bd p l
    simp only [ixF] at h
    cases hp : p b with
    | true =>
      rw [hp] at h
      simp only [cond_true] at h
      obtain rfl : i = 0 := by omega
      exact ⟨rfl, b, rfl, hp⟩
    | false =>
      rw [hp] at h
      simp only [cond_false] at h
      cases h2 : (ixF p l == -1) with
      | true => rw [h2] at h; simp only [cond_true] at h; omega
      | false =>
        rw [h2] at h
        simp only [cond_false] at h
        have : ixF p l ≠ -1 := by simpa using h2
        obtain ⟨j, rfl⟩ : ∃ j, i = j + 1 := ⟨i - 1, by omega⟩
        obtain ⟨h3, a, h4, h5⟩ := ih (i := j) (by omega)
        exact ⟨by simp [hp, h3], a, by simpa using h4, h5⟩
theorem whl_more {R S T : Type} {f : S → Rd R S T} : ∀ {n m : Nat} {s : S} {x : Out R T}, whl f n s = some x → n ≤ m → whl f m s = some x
  | 0, _, _, _, h, _ => by simp [whl] at h
  | n + 1, 0, _, _, _, hm => absurd hm (Nat.not_succ_le_zero n)
  | n + 1, m + 1, s, x, h, hm => by
    simp only [whl] at h ⊢
    cases hf : f s with
    | brk t => rw [hf] at h; exact h
    | ret r => rw [hf] at h; exact h
    | next s' => rw [hf] at h; exact whl_more h (by omega)
variable [Inhabited α]
def DelStep {R : Type} (f : List α × Int × Int → Rd R (List α × Int × Int) (List α × Int)) (p : α → Bool) : Prop :=
  ∀ (s : List α) (i j : Nat), i < j → j ≤ 1073741824 → f (s, (i : Int), (j : Int)) = bif decide ((j : Int) < (s.length : Int)) then (bif p (nth s j) then .next (s, (i : Int), ((j + 1 : Nat) : Int)) else .next (s.set i (nth s j), ((i + 1 : Nat) : Int), ((j + 1 : Nat) : Int))) else .brk (s, (i : Int))
theorem del_run {R : Type} {f : List α × Int × Int → Rd R (List α × Int × Int) (List α × Int)} (hf : DelStep f p) (o : List α) (ho : o.length ≤ 1073741824) : ∀ (n : Nat) (s : List α) (i j : Nat), j + n = o.length → i < j → s.length = o.length → s.take i = (o.take j).filter (fun a => !p a) → s.drop j = o.drop j →
    ∃ s' i', whl f (n + 1) (s, (i : Int), (j : Int)) = some (.brk (s', ((i' : Nat) : Int))) ∧ s'.take i' = o.filter (fun a => !p a) ∧ i' < o.length ∧ s'.length = o.length
  | 0, s, i, j, hn, hij, hl, ht, hd => by
    refine ⟨s, i, ?_, ?_, by omega, hl⟩
    · simp only [whl, hf s i j hij (by omega)]
      rw [decide_eq_false (by omega)]
      rfl
    · rw [ht, List.take_of_length_le (by omega)]
  | n + 1, s, i, j, hn, hij, hl, ht, hd => by
    have hj : j < s.length := by omega
    have hjo : j < o.length := by omega
    have hx : nth s j = o[j] := by
      have h1 : s[j]? = o[j]? := by
        have := congrArg (fun l => l[0]?) hd
        simpa [List.getElem?_drop] using this
      rw [List.getElem?_eq_getElem hjo] at h1
      simp [nth, List.getD, h1]
    have htj : o.take (j + 1) = o.take j ++ [o[j]] := by rw [List.take_add_one, List.getElem?_eq_getElem hjo]; rfl
    have hd1 : ∀ s2 : List α, s2.drop (j + 1) = s.drop (j + 1) → s2.drop (j + 1) = o.drop (j + 1) := fun s2 h2 => by
      have := congrArg (List.drop 1) hd
      rw [List.drop_drop, List.drop_drop] at this
      exact h2.trans this
    have hst : f (s, (i : Int), (j : Int)) = _ := hf s i j hij (by omega)
    rw [decide_eq_true (by omega), hx] at hst
    simp only [cond_true] at hst
    cases hp : p o[j] with
    | true =>
      rw [hp] at hst
      simp only [whl, hst, cond_true]
      exact del_run hf o ho n s i (j + 1) (by omega) (by omega) hl (by rw [ht, htj, List.filter_append]; simp [hp]) (hd1 s rfl)
    | false =>
      rw [hp] at hst
      simp only [whl, hst, cond_false]
      refine del_run hf o ho n (s.set i o[j]) (i + 1) (j + 1) (by omega) (by omega) (by simpa using hl) ?_ (hd1 _ (List.drop_set_of_lt (by omega)))
      rw [htj, List.filter_append, ← ht]
      rw [List.take_add_one, List.take_set_of_le (Nat.le_refl i), List.getElem?_set_self (by omega)]
      simp [hp]
theorem del_main {R : Type} {f : List α × Int × Int → Rd R (List α × Int × Int) (List α × Int)} (hf : DelStep f p) {o : List α} (ho : o.length ≤ 1073741824) {ix : Int} (hix : ix = ixF p o) (hne : ix ≠ -1) :
    ∃ s' i', whl f (o.length + 1) (o, ix, ix + 1) = some (.brk (s', ((i' : Nat) : Int))) ∧ s'.take i' = o.filter (fun a => !p a) ∧ i' < o.length ∧ s'.length = o.length := by
  have hb := ixF_bd p o
  obtain ⟨i, hi⟩ : ∃ i : Nat, ix = (i : Int) := ⟨ix.toNat, by omega⟩
  obtain ⟨h1, a, h2, h3⟩ := ixF_some (p := p) (l := o) (i := i) (by omega)
  have hio : i < o.length := by omega
  obtain ⟨s', i', h4, h5⟩ := del_run hf o ho (o.length - (i + 1)) o i (i + 1) (by omega) (by omega) rfl (by
    rw [List.take_add_one, h2, List.filter_append, h1]; simp [h3]) rfl
  refine ⟨s', i', ?_, h5⟩
  subst hi
  exact whl_more h4 (by omega)
theorem del_some {R : Type} {f : List α × Int × Int → Rd R (List α × Int × Int) (List α × Int)} (hf : DelStep f p) {o : List α} (ho : o.length ≤ 1073741824) {ix : Int} (hix : ix = ixF p o) (hne : ix ≠ -1) : (whl f (o.length + 1) (o, ix, ix + 1)).isSome = true := by
  obtain ⟨s', i', h, _⟩ := del_main hf ho hix hne
  rw [h]; rfl
theorem del_eq {f : List α × Int × Int → Rd (List α) (List α × Int × Int) (List α × Int)} (hf : DelStep f p) {o : List α} (ho : o.length ≤ 1073741824) {ix : Int} (hix : ix = ixF p o) :
    (bif (ix == (-1 : Int)) then o else Out.on (whlD f (o.length + 1) (o, ix, ix + 1)) (fun y => List.take (Int.toNat y.2) y.1)) = o.filter (fun a => !p a) := by
  cases h : (ix == (-1 : Int)) with
  | true =>
    have h : ix = -1 := by simpa using h
    simp only [cond_true]
    exact (List.filter_eq_self.2 fun a ha => by simp [ixF_none (hix ▸ h) a ha]).symm
  | false =>
    obtain ⟨s', i', h1, h2, _⟩ := del_main hf ho hix (by simpa using h)
    simp only [cond_false, whlD, h1]
    simpa [Out.on] using h2
end
open GoE (enc wide)
def specl04Copy (f : FileD) : FileD := f
theorem specl04Copy_a (f : FileD) : ACalls Tryz.prog 53 [.a [.i f.1, .i f.2.1, .b f.2.2.1, .i f.2.2.2.1, .h f.2.2.2.2]] (.a [.i ((specl04Copy f).1), .i ((specl04Copy f).2.1), .b ((specl04Copy f).2.2.1), .i ((specl04Copy f).2.2.2.1), .o 0 ((specl04Copy f).2.2.2.2)]) := by
 refine en tt_ok Tryz.func53 fun w0 F0 hG => ?_
 refine sn tt_ok [1, 2] [1, 2] (p0) ?_
 refine wB 1 4 .sh f.2.2.2.2 (fun hw1 hl2 => ?_)
 refine tn tt_ok [1, 2] [1, 2] (po 3 (.flat) (px (ob_len (n := (([] : List (List PV)).length + ((eL f.2.2.2.2) : List (List PV)).length)) (len_of (rfl) (eL_length f.2.2.2.2) (by first | omega | (simp only [List.length_cons, List.length_nil]; omega) | (simp; omega) | simp))) (px (ob_flat (flat_eL f.2.2.2.2)) p0))) ?_
 refine tu tt_ok [(2, .p 2 0)] [0] [(2, [.i f.1, .i f.2.1, .b f.2.2.1, .i f.2.2.2.1, .o 384 f.2.2.2.2])] [] (p0) ?_
 refine awp_ret ?_
 exact pz [] (show specl04Copy f = f from rfl) (fun z => .a [.i z.1, .i z.2.1, .b z.2.2.1, .i z.2.2.2.1, .o 0 z.2.2.2.2])
def specl05Place_f0 (id : Int) (k0 : Nat) (a0 : FileD) (_ : Unit) : Rd (Int) (Unit) (Unit) := (bif (a0.1 == id) then (.ret ((k0 : Nat) : Int)) else (.next ()))
def specl05Place_e0 (_ : Nat) (_ : Unit) : Unit := ()
def specl05Place (s_ : StoreD) (id : Int) : Int := (Out.on (forL (specl05Place_f0 id) specl05Place_e0 s_.2.1 0 ()) (fun _ => -1))
theorem fat_ltS (s_ : StoreD) (id : Int) : -1 ≤ specl05Place s_ id ∧ specl05Place s_ id < (List.length s_.2.1 : Int) := by
 unfold specl05Place
 rw [idx_eq (p := fun a : FileD => a.1 == id) (f := specl05Place_f0 id) (e := specl05Place_e0) (fun _ _ _ => rfl)]
 exact ixF_bd _ _
theorem specl05Place_a (s_ : StoreD) (id : Int) : ACalls Tryz.prog 100 [.a [.h s_.1, .h s_.2.1, .i s_.2.2], .i id] (.i (specl05Place s_ id)) := by
 refine en tt_ok Tryz.func100 fun w0 F0 hG => ?_
 refine sn tt_ok [1, 2, 4] [2] (p0) ?_
 refine awp_seq ?_
 refine tn tt_ok [1, 2, 4, 5] [2] (p0) ?_
 refine mz [(2, .p 2 0), (4, .i 0), (5, .i 0)] [0] [(2, [.h s_.1, .h s_.2.1, .i s_.2.2])] [] ?_
 refine wB 2 1 .sh s_.2.1 (fun hw1 hl2 => ?_)
 refine blL0b (specl05Place_f0 id) specl05Place_e0 s_.2.1 () (fun k0 _ => [(5, .i ((k0 : Nat) : Int))]) [5] (fun _ _ => []) [] (fun _ => []) [1, 2, 5] (fun _ => []) [2] (weak_fit (by kernel_rfl)) (fun k0 s0 hk0 hI0 => ?_) (fun k0 s0 hk0 hI0 => ?_) (fun y0 hD0 => ?_)
 ·
  obtain ⟨a0, hx0⟩ := get_some (l := s_.2.1) (i := k0) hk0
  refine awp_seq ?_
  refine sn tt_ok [1, 2, 4, 5, 10] [2] (pl 3 s_.2.1 (pe 4 (av_bool (decide_eq_true (p := ((k0 : Nat) : Int) < (s_.2.1.length : Int)) (by omega))) p0)) ?_
  refine ckT ?_
  refine awp_skip ?_
  refine awp_seq ?_
  refine awp_block ?_
  refine tn tt_ok [1, 2, 4, 5, 20] [2] (pn 3 hx0 p0) ?_
  refine ck (a0.1 == id) (fun h3 => ?_) (fun h3 => ?_)
  ·
   refine tu tt_ok [(4, .i ((k0 : Nat) : Int))] [4] [] [] (p0) ?_
   refine awp_ret ?_
   have hr4 : (forL (specl05Place_f0 id) specl05Place_e0 s_.2.1 0 ()) = .ret ((k0 : Nat) : Int) := forL_ret hx0 (bif_t h3 (rfl)) hI0
   exact pi [] (on_r hr4)
  ·
   have h3d := ne_of_beq h3
   refine awp_skip ?_
   refine qu tt_ok [(5, .i ((k0 + 1 : Nat) : Int))] [5] [] [] (pe 1 (av_i (wrap_succ k0 (by omega))) p0) ?_
   exact Exists.intro _ (And.intro (weak_fit (by kernel_rfl)) (forL_next hx0 (bif_f h3 (rfl)) hI0))
 ·
  refine awp_seq ?_
  refine sn tt_ok [1, 2, 4, 5, 10] [2] (pl 3 s_.2.1 (pe 4 (av_bool (decide_eq_false (p := ((k0 : Nat) : Int) < (s_.2.1.length : Int)) (by omega))) p0)) ?_
  refine ckF ?_
  refine awp_exit ?_
  exact Exists.intro _ (And.intro (weak_fit (by kernel_rfl)) (forL_end hk0 (rfl) hI0))
 ·
  refine sn tt_ok [4] [] (p0) ?_
  refine awp_ret ?_
  exact pi [] (on_b hD0 (rfl))
end Go.Proofs.YtcnkkobgogmakaaGreat
namespace Go.Proofs.YtcnkkobgogmakaaGreat
open Go.RowKit
theorem store12 {s : StoreD} (h : implIsValidStore s = true) : s.2.1.length ≤ 12 := by
  unfold implIsValidStore at h
  cases hf : forL (implIsValidStore_f0 s) implIsValidStore_e0 s.2.1 0 () with
  | brk t =>
    rw [hf] at h
    simp only [Out.on, Bool.and_eq_true, decide_eq_true_eq] at h
    omega
  | ret r =>
    rw [hf] at h
    obtain rfl : r = true := h
    exfalso
    have key : ∀ (l : List FileD) k, forL (implIsValidStore_f0 s) implIsValidStore_e0 l k () ≠ .ret true := by
      intro l
      induction l with
      | nil => intro k h; simp [forL] at h
      | cons a l ih =>
        intro k h
        simp only [forL] at h
        unfold implIsValidStore_f0 at h
        split at h
        · rename_i hf; exact ih _ h
        · cases h
        · rename_i r hf; cases h; revert hf; generalize (_ || _ : Bool) = c; cases c <;> simp
    exact key _ _ hf
theorem rids_mem (nm : ByteArray) : ∀ (o : List ResultD) (k : Nat), forL (implResultIDs_f0 nm) implResultIDs_e0 o k () = .brk () ∨ ∃ x, x ∈ o ∧ forL (implResultIDs_f0 nm) implResultIDs_e0 o k () = .ret x.2
  | [], _ => .inl rfl
  | b :: o, k => by
    simp only [forL, implResultIDs_f0]
    cases (b.1.toList == nm.toList) with
    | true => exact .inr ⟨b, List.mem_cons_self .., rfl⟩
    | false =>
      simp only [cond_false]
      rcases rids_mem nm o (k + 1) with h | ⟨x, hx, h⟩
      · exact .inl h
      · exact .inr ⟨x, List.mem_cons_of_mem _ hx, h⟩
end Go.Proofs.YtcnkkobgogmakaaGreat
namespace Go.Proofs.YtcnkkobgogmakaaGreat
open Go.RowKit
open GoD (rd own)
theorem inR_u8 (a : UInt8) : InR .u8 (a.toNat : Int) := by
  have h : a.toNat < 256 := a.toNat_lt
  constructor <;> simp [IntKind.min, IntKind.max, IntKind.bits, IntKind.signed] <;> omega
instance instGoEU8 : GoE UInt8 where
  enc a := [.int .u8 (a.toNat : Int)]
  enc_len _ := rfl
  n_pos := Nat.zero_lt_one
  wide _ := True
  wide_size _ := trivial
  vc_wide _ := trivial
  rd_vc {w cs a} h _ := by rw [show cs = _ from h]; exact .cons (.int (inR_u8 a)) .nil
  vc_rd h := by
    cases h with
    | cons h1 h2 => cases h2; cases h1; rfl
  own_oc h _ := by obtain ⟨rfl, h⟩ := h; rw [h]; exact OC.cons (L1 := []) (L2 := []) (.int (inR_u8 _)) .nil
  oc_own h _ := by
    cases h with
    | cons h1 h2 => cases h2; cases h1; exact ⟨rfl, rfl⟩
open GoE (enc wide)
def specl01New_f0 (k0 : Nat) (a0 : UInt8) (s0 : Int) : Rd (Nat × Int) (Int) (Int) := (bif decide (((k0 : Nat) : Int) < (4000 : Int)) then (.next (andI .i64 (IntKind.i64.wrap (IntKind.i64.wrap (IntKind.i64.wrap (s0 * 131) + IntKind.i64.wrap (UInt8.toNat a0 : Int)) + 7)) 1073741823)) else (.brk s0))
def specl01New_e0 (_ : Nat) (s0 : Int) : Int := s0
def specl01New (code : (List UInt8)) : Nat × Int := (Out.on (forL specl01New_f0 specl01New_e0 code 0 (IntKind.i64.wrap (94701 + (code.length : Int)))) (fun y0 => (0, y0)))
set_option maxRecDepth 30000 in
theorem specl01New_a (code : (List UInt8)) : ANew Tryz.prog 49 [.h code] [.h code, .i (((specl01New code).1 : Nat) : Int), .i ((specl01New code).2)] := by
 refine anew_of Tryz.func49 (fn := Tryz.f49) rfl (by unfold FnOk; kernel_rfl) (Nat.le_of_ble_eq_true rfl) rfl fun w0 F0 hG => ?_
 refine sn tt_ok [0] [] (p0) ?_
 refine tn tt_ok [0, 3] [] (pl 1 code p0) ?_
 refine awp_seq ?_
 refine tu tt_ok [(3, .i (IntKind.i64.wrap (94701 + (code.length : Int)))), (4, .i 0)] [] [] [] (p0) ?_
 refine wT 0 0 .sh code (fun hw1 hl2 => ?_)
 refine blL0 specl01New_f0 specl01New_e0 code (IntKind.i64.wrap (94701 + (code.length : Int))) (fun k0 s0 => [(3, .i s0), (4, .i ((k0 : Nat) : Int))]) [3, 4] (fun y0 => [(3, .i y0)]) [3, 4] (weak_fit (by kernel_rfl)) (fun k0 s0 hk0 hI0 => ?_) (fun k0 s0 hk0 hI0 => ?_) (fun y0 hD0 => ?_)
 ·
  obtain ⟨a0, hx0⟩ := get_some (l := code) (i := k0) hk0
  refine awp_seq ?_
  refine sn tt_ok [0, 3, 4, 15] [] (pl 2 code (pe 3 (av_bool (decide_eq_true (p := ((k0 : Nat) : Int) < (code.length : Int)) (by omega))) p0)) ?_
  refine ck (decide (((k0 : Nat) : Int) < (4000 : Int))) (fun h3 => ?_) (fun h3 => ?_)
  ·
   have h3d := of_decide_eq_true h3
   refine awp_skip ?_
   refine awp_seq ?_
   refine awp_block ?_
   refine qn tt_ok [0, 3, 4] [] (pn 4 hx0 p0) ?_
   refine qu tt_ok [(3, .i (andI .i64 (IntKind.i64.wrap (IntKind.i64.wrap (IntKind.i64.wrap (s0 * 131) + IntKind.i64.wrap (UInt8.toNat a0 : Int)) + 7)) 1073741823)), (4, .i ((k0 + 1 : Nat) : Int))] [3, 4] [] [] (pe 1 (av_i (wrap_succ k0 (by omega))) p0) ?_
   exact Exists.intro _ (And.intro (weak_fit (by kernel_rfl)) (forL_next hx0 (bif_t h3 (rfl)) hI0))
  ·
   refine awp_exit ?_
   exact Exists.intro _ (And.intro (weak_fit (by kernel_rfl)) (forL_brk hx0 (bif_f h3 (rfl)) hI0))
 ·
  refine awp_seq ?_
  refine sn tt_ok [0, 3, 4, 15] [] (pl 2 code (pe 3 (av_bool (decide_eq_false (p := ((k0 : Nat) : Int) < (code.length : Int)) (by omega))) p0)) ?_
  refine ckF ?_
  refine awp_exit ?_
  exact Exists.intro _ (And.intro (weak_fit (by kernel_rfl)) (forL_end hk0 (rfl) hI0))
 ·
  refine sn tt_ok [2] [31] (p0) ?_
  refine awp_ret ?_
  exact nret [] 2 31 (congrArg (fun z => ([.h code, .i ((z.1 : Nat) : Int), .i z.2] : List C)) (show specl01New code = (0, y0) from on_b hD0 (rfl)).symm)
def specl01Byte (code : (List UInt8)) (ci : Nat) (ch : Int) : Int × Nat × Int := (bif decide (((ci : Nat) : Int) < (code.length : Int)) then (andI .i64 (IntKind.i64.wrap (andI .i64 (xorI .i64 (shrI .i64 (IntKind.i64.wrap (IntKind.i64.wrap (ch * 6364136223846793005) + 1442695040888963407)) 33) (shrI .i64 (IntKind.i64.wrap (IntKind.i64.wrap (ch * 6364136223846793005) + 1442695040888963407)) 45)) 255 + IntKind.i64.wrap (UInt8.toNat (nth code ci) : Int))) 255, ci + 1, IntKind.i64.wrap (IntKind.i64.wrap (ch * 6364136223846793005) + 1442695040888963407)) else (andI .i64 (xorI .i64 (shrI .i64 (IntKind.i64.wrap (IntKind.i64.wrap (ch * 6364136223846793005) + 1442695040888963407)) 33) (shrI .i64 (IntKind.i64.wrap (IntKind.i64.wrap (ch * 6364136223846793005) + 1442695040888963407)) 45)) 255, ci, IntKind.i64.wrap (IntKind.i64.wrap (ch * 6364136223846793005) + 1442695040888963407)))
theorem specl01Byte_a (code : (List UInt8)) (ci : Nat) (ch : Int) : AGive Tryz.prog 95 [.h code, .i ((ci : Nat) : Int), .i ch] [] (.i (((specl01Byte code ci ch)).1)) [.h code, .i ((((specl01Byte code ci ch)).2.1 : Nat) : Int), .i (((specl01Byte code ci ch)).2.2)] := by
 refine agive_of (tt := tt) tt_ok Tryz.func95 (fn := Tryz.f95) rfl (by unfold FnOk; kernel_rfl) (Nat.le_of_ble_eq_true rfl) (Nat.le_of_ble_eq_true rfl) rfl rfl fun w0 F0 hG => ?_
 refine sn tt_ok [0, 2] [60000] (p0) ?_
 refine tn tt_ok [0, 2] [60000] (p0) ?_
 refine tU tt_ok tt_mx [(2, .i 0), (3, .i (andI .i64 (xorI .i64 (shrI .i64 (IntKind.i64.wrap (IntKind.i64.wrap (ch * 6364136223846793005) + 1442695040888963407)) 33) (shrI .i64 (IntKind.i64.wrap (IntKind.i64.wrap (ch * 6364136223846793005) + 1442695040888963407)) 45)) 255))] [] [(60000, [.h code, .i ((ci : Nat) : Int), .i (IntKind.i64.wrap (IntKind.i64.wrap (ch * 6364136223846793005) + 1442695040888963407))])] [60000] (p0) ?_
 refine awp_seq ?_
 refine sN tt_ok tt_mx [0, 2, 3, 34] [60000] (pl 8 code p0) ?_
 refine ck (decide (((ci : Nat) : Int) < (code.length : Int))) (fun h1 => ?_) (fun h1 => ?_)
 ·
  have h1d := of_decide_eq_true h1
  refine wB 60000 0 .sh code (fun hw3 hl4 => ?_)
  have hx2 := ng code ci
  refine tN tt_ok tt_mx [0, 2, 3] [60000] (pn 9 hx2 p0) ?_
  refine qu tt_ok [(3, .i (andI .i64 (IntKind.i64.wrap (andI .i64 (xorI .i64 (shrI .i64 (IntKind.i64.wrap (IntKind.i64.wrap (ch * 6364136223846793005) + 1442695040888963407)) 33) (shrI .i64 (IntKind.i64.wrap (IntKind.i64.wrap (ch * 6364136223846793005) + 1442695040888963407)) 45)) 255 + IntKind.i64.wrap (UInt8.toNat (nth code ci) : Int))) 255))] [3] [(60000, [.h code, .i ((ci + 1 : Nat) : Int), .i (IntKind.i64.wrap (IntKind.i64.wrap (ch * 6364136223846793005) + 1442695040888963407))])] [60000] (pe 5 (av_i (wrap_succ ci (by omega))) p0) ?_
  refine sn tt_ok [0, 2] [60000] (p0) ?_
  refine awp_ret ?_
  have hE5 : specl01Byte code ci ch = (andI .i64 (IntKind.i64.wrap (andI .i64 (xorI .i64 (shrI .i64 (IntKind.i64.wrap (IntKind.i64.wrap (ch * 6364136223846793005) + 1442695040888963407)) 33) (shrI .i64 (IntKind.i64.wrap (IntKind.i64.wrap (ch * 6364136223846793005) + 1442695040888963407)) 45)) 255 + IntKind.i64.wrap (UInt8.toNat (nth code ci) : Int))) 255, ci + 1, IntKind.i64.wrap (IntKind.i64.wrap (ch * 6364136223846793005) + 1442695040888963407)) := bif_t h1 (rfl)
  exact gret [] (congrArg (fun z => (.i z.1 : AV)) hE5.symm) (congrArg (fun z => ([.h code, .i ((z.2.1 : Nat) : Int), .i z.2.2] : List C)) hE5.symm)
 ·
  refine awp_skip ?_
  refine tn tt_ok [0, 2] [60000] (p0) ?_
  refine awp_ret ?_
  have hE6 : specl01Byte code ci ch = (andI .i64 (xorI .i64 (shrI .i64 (IntKind.i64.wrap (IntKind.i64.wrap (ch * 6364136223846793005) + 1442695040888963407)) 33) (shrI .i64 (IntKind.i64.wrap (IntKind.i64.wrap (ch * 6364136223846793005) + 1442695040888963407)) 45)) 255, ci, IntKind.i64.wrap (IntKind.i64.wrap (ch * 6364136223846793005) + 1442695040888963407)) := bif_f h1 (rfl)
  exact gret [] (congrArg (fun z => (.i z.1 : AV)) hE6.symm) (congrArg (fun z => ([.h code, .i ((z.2.1 : Nat) : Int), .i z.2.2] : List C)) hE6.symm)
end Go.Proofs.YtcnkkobgogmakaaGreat
namespace Go.Proofs.YtcnkkobgogmakaaGreat
open Go.RowKit
theorem and255 (a : Int) : 0 ≤ andI .i64 a 255 ∧ andI .i64 a 255 ≤ 255 := by
  have h : (BitVec.ofInt 64 a &&& BitVec.ofInt 64 255).toNat ≤ 255 := by
    rw [BitVec.toNat_and]
    exact Nat.le_trans Nat.and_le_right (by decide)
  have e : andI .i64 a 255 = IntKind.i64.wrap (BitVec.ofInt 64 a &&& BitVec.ofInt 64 255).toNat := rfl
  rw [e, IntWalk.i64_in _ (by omega)]
  omega
theorem specl01Byte_bd (code : List UInt8) (ci : Nat) (ch : Int) : 0 ≤ (specl01Byte code ci ch).1 ∧ (specl01Byte code ci ch).1 ≤ 255 := by
  unfold specl01Byte
  cases decide (((ci : Nat) : Int) < (code.length : Int)) <;> exact and255 _
open GoE (enc wide)
def specl01Below (code : (List UInt8)) (ci : Nat) (ch : Int) (n : Int) : Int × Nat × Int := (bif decide (n ≤ (0 : Int)) then (0, ci, ch) else (bif decide (n ≤ (256 : Int)) then (lt (α := Int × Nat × Int) (specl01Byte code ci ch) (fun x4 => (Int.tmod x4.1 n, x4.2.1, x4.2.2))) else (lt (α := Int × Nat × Int) (specl01Byte code ci ch) (fun x6 => (lt (α := Int × Nat × Int) (specl01Byte code x6.2.1 x6.2.2) (fun x7 => (lt (α := Int × Nat × Int) (specl01Byte code x7.2.1 x7.2.2) (fun x8 => (lt (α := Int × Nat × Int) (specl01Byte code x8.2.1 x8.2.2) (fun x9 => (Int.tmod ((((x6.1 * 16777216) + (x7.1 * 65536)) + (x8.1 * 256)) + x9.1) n, x9.2.1, x9.2.2)))))))))))
theorem specl01Below_a (code : (List UInt8)) (ci : Nat) (ch : Int) (n : Int) : AGive Tryz.prog 50 [.h code, .i ((ci : Nat) : Int), .i ch] [.i n] (.i (((specl01Below code ci ch n)).1)) [.h code, .i ((((specl01Below code ci ch n)).2.1 : Nat) : Int), .i (((specl01Below code ci ch n)).2.2)] := by
 refine agive_of (tt := tt) tt_ok Tryz.func50 (fn := Tryz.f50) rfl (by unfold FnOk; kernel_rfl) (Nat.le_of_ble_eq_true rfl) (Nat.le_of_ble_eq_true rfl) rfl rfl fun w0 F0 hG => ?_
 refine sn tt_ok [0, 1, 4] [60000] (p0) ?_
 refine awp_seq ?_
 refine tn tt_ok [0, 1, 4, 10] [60000] (p0) ?_
 refine ck (decide (n ≤ (0 : Int))) (fun h1 => ?_) (fun h1 => ?_)
 ·
  refine tu tt_ok [(4, .i 0)] [] [] [] (p0) ?_
  refine awp_ret ?_
  have hE2 : specl01Below code ci ch n = (0, ci, ch) := bif_t h1 (rfl)
  exact gret [] (congrArg (fun z => (.i z.1 : AV)) hE2.symm) (congrArg (fun z => ([.h code, .i ((z.2.1 : Nat) : Int), .i z.2.2] : List C)) hE2.symm)
 ·
  have h1d := of_decide_eq_false h1
  refine awp_skip ?_
  refine awp_seq ?_
  refine tu tt_ok [(4, .i 0), (12, .b (decide (n ≤ (256 : Int))))] [] [] [] (p0) ?_
  refine ck (decide (n ≤ (256 : Int))) (fun h3 => ?_) (fun h3 => ?_)
  ·
   have h3d := of_decide_eq_true h3
   obtain ⟨x4, hx4⟩ : ∃ z : Int × Nat × Int, specl01Byte code ci ch = z := ⟨_, rfl⟩
   have hbx4 := hx4 ▸ specl01Byte_bd code ci ch
   refine sn tt_ok [0, 1, 4] [60000] (po 1 (.give none (.i x4.1) [.h code, .i ((x4.2.1 : Nat) : Int), .i x4.2.2]) (px (ob_give (hx4 ▸ specl01Byte_a code ci ch)) (px (ob_nz (n := n) (by omega)) (px (ob_inr (k := .i64) (n := Int.tmod x4.1 n) (inr_rem0 (by omega))) p0)))) ?_
   refine awp_ret ?_
   have hE5 : specl01Below code ci ch n = (Int.tmod x4.1 n, x4.2.1, x4.2.2) := bif_f h1 (bif_t h3 (lt_b hx4 (rfl)))
   exact gret [] (congrArg (fun z => (.i z.1 : AV)) hE5.symm) (congrArg (fun z => ([.h code, .i ((z.2.1 : Nat) : Int), .i z.2.2] : List C)) hE5.symm)
  ·
   have h3d := of_decide_eq_false h3
   refine awp_skip ?_
   obtain ⟨x6, hx6⟩ : ∃ z : Int × Nat × Int, specl01Byte code ci ch = z := ⟨_, rfl⟩
   have hbx6 := hx6 ▸ specl01Byte_bd code ci ch
   refine sn tt_ok [0, 1, 4, 5] [60000] (po 1 (.give none (.i x6.1) [.h code, .i ((x6.2.1 : Nat) : Int), .i x6.2.2]) (px (ob_give (hx6 ▸ specl01Byte_a code ci ch)) p0)) ?_
   obtain ⟨x7, hx7⟩ : ∃ z : Int × Nat × Int, specl01Byte code x6.2.1 x6.2.2 = z := ⟨_, rfl⟩
   have hbx7 := hx7 ▸ specl01Byte_bd code x6.2.1 x6.2.2
   refine tn tt_ok [0, 1, 4, 5, 6] [60000] (po 1 (.give none (.i x7.1) [.h code, .i ((x7.2.1 : Nat) : Int), .i x7.2.2]) (px (ob_give (hx7 ▸ specl01Byte_a code x6.2.1 x6.2.2)) p0)) ?_
   obtain ⟨x8, hx8⟩ : ∃ z : Int × Nat × Int, specl01Byte code x7.2.1 x7.2.2 = z := ⟨_, rfl⟩
   have hbx8 := hx8 ▸ specl01Byte_bd code x7.2.1 x7.2.2
   refine tu tt_ok [(5, .i x6.1), (6, .i x7.1), (7, .i x8.1)] [12] [(60000, [.h code, .i ((x8.2.1 : Nat) : Int), .i x8.2.2])] [60000] (po 1 (.give none (.i x8.1) [.h code, .i ((x8.2.1 : Nat) : Int), .i x8.2.2]) (px (ob_give (hx8 ▸ specl01Byte_a code x7.2.1 x7.2.2)) p0)) ?_
   obtain ⟨x9, hx9⟩ : ∃ z : Int × Nat × Int, specl01Byte code x8.2.1 x8.2.2 = z := ⟨_, rfl⟩
   have hbx9 := hx9 ▸ specl01Byte_bd code x8.2.1 x8.2.2
   refine sn tt_ok [0, 1, 4, 5, 6, 7, 8] [60000] (po 1 (.give none (.i x9.1) [.h code, .i ((x9.2.1 : Nat) : Int), .i x9.2.2]) (px (ob_give (hx9 ▸ specl01Byte_a code x8.2.1 x8.2.2)) p0)) ?_
   refine tn tt_ok [0, 4] [60000] (pe 1 (av_i (IntWalk.i64_in (x6.1 * 16777216) (by omega))) (pe 3 (av_i (IntWalk.i64_in (x7.1 * 65536) (by omega))) (pe 4 (av_i (IntWalk.i64_in ((x6.1 * 16777216) + (x7.1 * 65536)) (by omega))) (pe 6 (av_i (IntWalk.i64_in (x8.1 * 256) (by omega))) (pe 7 (av_i (IntWalk.i64_in (((x6.1 * 16777216) + (x7.1 * 65536)) + (x8.1 * 256)) (by omega))) (pe 9 (av_i (IntWalk.i64_in ((((x6.1 * 16777216) + (x7.1 * 65536)) + (x8.1 * 256)) + x9.1) (by omega))) (px (ob_nz (n := n) (by omega)) (px (ob_inr (k := .i64) (n := Int.tmod ((((x6.1 * 16777216) + (x7.1 * 65536)) + (x8.1 * 256)) + x9.1) n) (inr_rem0 (by omega))) p0)))))))) ?_
   refine awp_ret ?_
   have hE10 : specl01Below code ci ch n = (Int.tmod ((((x6.1 * 16777216) + (x7.1 * 65536)) + (x8.1 * 256)) + x9.1) n, x9.2.1, x9.2.2) := bif_f h1 (bif_f h3 (lt_b hx6 (lt_b hx7 (lt_b hx8 (lt_b hx9 (rfl))))))
   exact gret [] (congrArg (fun z => (.i z.1 : AV)) hE10.symm) (congrArg (fun z => ([.h code, .i ((z.2.1 : Nat) : Int), .i z.2.2] : List C)) hE10.symm)
end Go.Proofs.YtcnkkobgogmakaaGreat
namespace Go.Proofs.YtcnkkobgogmakaaGreat
open Go.RowKit
theorem specl01Below_bd (code : List UInt8) (ci : Nat) (ch n : Int) : 0 ≤ (specl01Below code ci ch n).1 ∧ (0 < n → (specl01Below code ci ch n).1 < n) ∧ (n ≤ 0 → (specl01Below code ci ch n).1 = 0) := by
  unfold specl01Below lt
  by_cases h0 : n ≤ 0
  · rw [decide_eq_true h0]
    exact ⟨Int.le_refl _, fun h => by omega, fun _ => rfl⟩
  · rw [decide_eq_false h0]
    have hn : 0 < n := by omega
    cases decide (n ≤ (256 : Int)) with
    | true =>
      have := specl01Byte_bd code ci ch
      exact ⟨Int.tmod_nonneg _ this.1, fun _ => Int.tmod_lt_of_pos _ hn, fun h => by omega⟩
    | false =>
      simp only [cond_false]
      generalize hx6 : specl01Byte code ci ch = x6
      generalize hx7 : specl01Byte code x6.2.1 x6.2.2 = x7
      generalize hx8 : specl01Byte code x7.2.1 x7.2.2 = x8
      generalize hx9 : specl01Byte code x8.2.1 x8.2.2 = x9
      have h6 := hx6 ▸ specl01Byte_bd code ci ch
      have h7 := hx7 ▸ specl01Byte_bd code x6.2.1 x6.2.2
      have h8 := hx8 ▸ specl01Byte_bd code x7.2.1 x7.2.2
      have h9 := hx9 ▸ specl01Byte_bd code x8.2.1 x8.2.2
      exact ⟨Int.tmod_nonneg _ (by omega), fun _ => Int.tmod_lt_of_pos _ hn, fun h => by omega⟩
open GoE (enc wide)
def specl05Copy_f0 (_ : Nat) (a0 : FileD) (s0 : (List FileD)) : Rd (StoreD) ((List FileD)) ((List FileD)) := (.next (s0 ++ [(specl04Copy a0)]))
def specl05Copy_e0 (_ : Nat) (s0 : (List FileD)) : (List FileD) := s0
def specl05Copy (s_ : StoreD) : StoreD := (Out.on (forL specl05Copy_f0 specl05Copy_e0 s_.2.1 0 []) (fun y0 => (s_.1, y0, s_.2.2)))
theorem specl05Copy_a (s_ : StoreD) : ACalls Tryz.prog 52 [.a [.h s_.1, .h s_.2.1, .i s_.2.2]] (.a [.o 0 ((specl05Copy s_).1), .o 1 ((specl05Copy s_).2.1), .i ((specl05Copy s_).2.2)]) := by
 refine en tt_ok Tryz.func52 fun w0 F0 hG => ?_
 refine sn tt_ok [1, 2] [1, 2] (p0) ?_
 refine wB 1 0 .sh s_.1 (fun hw1 hl2 => ?_)
 refine tN tt_ok tt_mx [1, 2, 3] [1, 2, 3] (po 3 (.flat) (px (ob_len (n := (([] : List (List PV)).length + ((eL s_.1) : List (List PV)).length)) (len_of (rfl) (eL_length s_.1) (by first | omega | (simp only [List.length_cons, List.length_nil]; omega) | (simp; omega) | simp))) (px (ob_flat (flat_eL s_.1)) p0))) ?_
 refine awp_seq ?_
 refine tu tt_ok [(1, .p 1 0), (2, .p 2 0), (3, .p 3 0), (4, .i 0)] [0] [(1, [.h s_.1, .h s_.2.1, .i s_.2.2]), (2, [.e 2, .e 5, .i 0]), (3, [.o 512 s_.1, .e 5, .i s_.2.2])] [] (p0) ?_
 refine wB 1 1 .sh s_.2.1 (fun hw3 hl4 => ?_)
 refine blL1b specl05Copy_f0 specl05Copy_e0 s_.2.1 [] (fun k0 _ => [(4, .i ((k0 : Nat) : Int))]) [4] (fun _ s0 => [(3, [.o 512 s_.1, .o 147211 s0, .i s_.2.2])]) [3] (fun _ => []) [1, 4] (fun y0 => [(3, [.o 512 s_.1, .o 147361 y0, .i s_.2.2])]) [1, 3] (fun k0 s0 => List.length s0 ≤ k0) (weak_gf [(true, 3, 1, true, 320008, 5)] [] [] [(320008, 147211)] (by kernel_rfl)) (by simp) (fun k0 s0 hk0 hI0 => ?_) (fun k0 s0 hk0 hI0 => ?_) (fun y0 hD0 => ?_)
 ·
  have hA0_0 := hI0.2
  obtain ⟨a0, hx0⟩ := get_some (l := s_.2.1) (i := k0) hk0
  refine awp_seq ?_
  refine su tt_ok [(16, .b true)] [] [] [] (pl 3 s_.2.1 (pe 4 (av_bool (decide_eq_true (p := ((k0 : Nat) : Int) < (s_.2.1.length : Int)) (by omega))) p0)) ?_
  refine ckT ?_
  refine awp_skip ?_
  refine awp_seq ?_
  refine awp_block ?_
  refine wB 3 1 (.own true 147211) s0 (fun hw5 hl6 => ?_)
  refine rU tt_ok tt_mx [] [16] [(3, [.o 512 s_.1, .slc (.own true 1792) 5 ((eL s0) ++ [[.i ((specl04Copy a0).1), .i ((specl04Copy a0).2.1), .b ((specl04Copy a0).2.2.1), .i ((specl04Copy a0).2.2.2.1), .h ((specl04Copy a0).2.2.2.2)]]), .i s_.2.2])] [3] (pn 5 hx0 (pc 7 (specl04Copy_a a0) (pa s0 [(specl04Copy a0)] p0))) ?_
  refine eqn [] [] [(3, [.o 512 s_.1, .o 1792 (s0 ++ [(specl04Copy a0)]), .i s_.2.2])] [3] (by rw [show ((eL s0) ++ [[.i ((specl04Copy a0).1), .i ((specl04Copy a0).2.1), .b ((specl04Copy a0).2.2.1), .i ((specl04Copy a0).2.2.2.1), .h ((specl04Copy a0).2.2.2.2)]]) = (eL (s0 ++ [(specl04Copy a0)])) from app_eL (rfl) (rfl)]; first | done | kernel_rfl) ?_
  refine rn tt_ok [1, 2, 3, 4] [1, 2, 3] (pe 1 (av_i (wrap_succ k0 (by omega))) p0) ?_
  exact Exists.intro (s0 ++ [(specl04Copy a0)]) (And.intro (weak_sf [(1792, 147211)] (by kernel_rfl)) ⟨forL_next hx0 (rfl) hI0.1, by first | omega | (simp; omega) | simp⟩)
 ·
  have hA0_0 := hI0.2
  refine awp_seq ?_
  refine su tt_ok [(16, .b false)] [] [] [] (pl 3 s_.2.1 (pe 4 (av_bool (decide_eq_false (p := ((k0 : Nat) : Int) < (s_.2.1.length : Int)) (by omega))) p0)) ?_
  refine ckF ?_
  refine awp_exit ?_
  exact Exists.intro _ (And.intro (weak_sf [(147211, 147361)] (by kernel_rfl)) (forL_end hk0 (rfl) hI0.1))
 ·
  refine sn tt_ok [2] [2] (p0) ?_
  refine awp_ret ?_
  exact pz [] (show specl05Copy s_ = _ from on_b hD0 (rfl)) (fun z => .a [.o 0 z.1, .o 1 z.2.1, .i z.2.2])
def specCreateFile (s_ : StoreD) (f : FileD) : StoreD × Int × Bool := (bif ((!(specIsValidStore (specl05Copy s_))) || (decide ((((specl05Copy s_).2.1).length : Int) ≥ (12 : Int)) || (!(specIsValidFile ((specl05Copy s_).1) ((specl05Copy s_).2.2, (specl04Copy f).2.1, (specl04Copy f).2.2.1, (specl04Copy f).2.2.2.1, (specl04Copy f).2.2.2.2))))) then ((specl05Copy s_), 0, false) else (((specl05Copy s_).1, (specl05Copy s_).2.1 ++ [((specl05Copy s_).2.2, (specl04Copy f).2.1, (specl04Copy f).2.2.1, (specl04Copy f).2.2.2.1, (specl04Copy f).2.2.2.2)], IntKind.i64.wrap ((specl05Copy s_).2.2 + 1)), (specl05Copy s_).2.2, true))
theorem specCreateFile_a (s_ : StoreD) (f : FileD) : ACalls Tryz.prog 14 [.a [.h s_.1, .h s_.2.1, .i s_.2.2], .a [.i f.1, .i f.2.1, .b f.2.2.1, .i f.2.2.2.1, .h f.2.2.2.2]] (.tup [(true, [.o 0 ((((specCreateFile s_ f)).1).1), .o 1 ((((specCreateFile s_ f)).1).2.1), .i ((((specCreateFile s_ f)).1).2.2)]), (false, [.i (((specCreateFile s_ f)).2.1)]), (false, [.b (((specCreateFile s_ f)).2.2)])]) := by
 refine en tt_ok Tryz.func14 fun w0 F0 hG => ?_
 refine sn tt_ok [2, 3, 4, 5, 6] [2, 3, 4] (p0) ?_
 refine tn tt_ok [2, 3, 4, 5, 6] [2, 3, 4] (pc 1 (specl05Copy_a s_) p0) ?_
 refine tu tt_ok [(2, .p 2 0), (3, .p 3 0), (4, .p 4 0), (5, .i 0), (6, .b false)] [0, 1] [(2, [.o 512 ((specl05Copy s_).1), .o 513 ((specl05Copy s_).2.1), .i ((specl05Copy s_).2.2)]), (3, [.i ((specl04Copy f).1), .i ((specl04Copy f).2.1), .b ((specl04Copy f).2.2.1), .i ((specl04Copy f).2.2.2.1), .o 640 ((specl04Copy f).2.2.2.2)]), (4, [.e 2, .e 5, .i 0])] [] (pc 1 (specl04Copy_a f) p0) ?_
 refine sn tt_ok [2, 3, 4, 5, 6] [2, 3, 4] (p0) ?_
 refine awp_seq ?_
 refine awp_seq ?_
 refine mz [] [] [(3, [.i ((specl05Copy s_).2.2), .i ((specl04Copy f).2.1), .b ((specl04Copy f).2.2.1), .i ((specl04Copy f).2.2.2.1), .o 640 ((specl04Copy f).2.2.2.2)])] [3] ?_
 refine jn [(29, .b ((!(specIsValidStore (specl05Copy s_))) || (decide ((((specl05Copy s_).2.1).length : Int) ≥ (12 : Int)) || (!(specIsValidFile ((specl05Copy s_).1) ((specl05Copy s_).2.2, (specl04Copy f).2.1, (specl04Copy f).2.2.1, (specl04Copy f).2.2.2.1, (specl04Copy f).2.2.2.2))))))] [] [] [] (!(specIsValidStore (specl05Copy s_))) (fun h1 => ?_) (fun h1 => ?_) ?_
 ·
  have h1n : (specIsValidStore (specl05Copy s_)) = false := bnot_t h1
  refine ru tt_ok [(29, .b true)] [] [] [] (pc 1 (cb h1n (specIsValidStore_a (specl05Copy s_))) (pe 2 (show .b (!false) = .b true from rfl) p0)) ?_
  exact ⟨rfl, weak_fit (by rw [h1]; first | done | kernel_rfl)⟩
 ·
  have h1n : (specIsValidStore (specl05Copy s_)) = true := bnot_f h1
  refine awp_split (decide ((((specl05Copy s_).2.1).length : Int) ≥ (12 : Int))) (fun h2 => ?_) (fun h2 => ?_)
  ·
   refine ru tt_ok [(29, .b true)] [] [] [] (pc 1 (cb h1n (specIsValidStore_a (specl05Copy s_))) (pe 2 (show .b (!true) = .b false from rfl) (pl 6 ((specl05Copy s_).2.1) (pt 7 h2 p0)))) ?_
   exact ⟨rfl, weak_fit (by rw [h1, h2]; first | done | kernel_rfl)⟩
  ·
   refine rn tt_ok [2, 3, 4, 5, 6, 29] [2, 3, 4] (pc 1 (cb h1n (specIsValidStore_a (specl05Copy s_))) (pe 2 (show .b (!true) = .b false from rfl) (pl 6 ((specl05Copy s_).2.1) (pf 7 h2 (pc 13 (specIsValidFile_a ((specl05Copy s_).1) ((specl05Copy s_).2.2, (specl04Copy f).2.1, (specl04Copy f).2.2.1, (specl04Copy f).2.2.2.1, (specl04Copy f).2.2.2.2)) p0))))) ?_
   exact ⟨rfl, weak_fit (by rw [h1, h2]; first | done | kernel_rfl)⟩
 refine ck ((!(specIsValidStore (specl05Copy s_))) || (decide ((((specl05Copy s_).2.1).length : Int) ≥ (12 : Int)) || (!(specIsValidFile ((specl05Copy s_).1) ((specl05Copy s_).2.2, (specl04Copy f).2.1, (specl04Copy f).2.2.1, (specl04Copy f).2.2.2.1, (specl04Copy f).2.2.2.2))))) (fun h3 => ?_) (fun h3 => ?_)
 ·
  refine sn tt_ok [2, 3, 4, 5, 6] [2, 3, 4] (p0) ?_
  refine awp_ret ?_
  exact pz [] (show specCreateFile s_ f = _ from bif_t h3 (rfl)) (fun z => .tup [(true, [.o 0 z.1.1, .o 1 z.1.2.1, .i z.1.2.2]), (false, [.i z.2.1]), (false, [.b z.2.2])])
 ·
  have h3r : ((decide ((((specl05Copy s_).2.1).length : Int) ≥ (12 : Int)) || (!(specIsValidFile ((specl05Copy s_).1) ((specl05Copy s_).2.2, (specl04Copy f).2.1, (specl04Copy f).2.2.1, (specl04Copy f).2.2.2.1, (specl04Copy f).2.2.2.2))))) = false := or_r h3
  have h3rl : (decide ((((specl05Copy s_).2.1).length : Int) ≥ (12 : Int))) = false := or_l h3r
  have h3rld := of_decide_eq_false h3rl
  refine awp_skip ?_
  refine wB 2 1 (.own true 513) ((specl05Copy s_).2.1) (fun hw4 hl5 => ?_)
  refine su tt_ok [] [29] [(2, [.o 512 ((specl05Copy s_).1), .slc (.own true 2240) 5 ((eL ((specl05Copy s_).2.1)) ++ [[.i ((specl05Copy s_).2.2), .i ((specl04Copy f).2.1), .b ((specl04Copy f).2.2.1), .i ((specl04Copy f).2.2.2.1), .h ((specl04Copy f).2.2.2.2)]]), .i ((specl05Copy s_).2.2)]), (3, [.i ((specl05Copy s_).2.2), .i ((specl04Copy f).2.1), .b ((specl04Copy f).2.2.1), .i ((specl04Copy f).2.2.2.1), .dead])] [2, 3] (pa ((specl05Copy s_).2.1) [((specl05Copy s_).2.2, (specl04Copy f).2.1, (specl04Copy f).2.2.1, (specl04Copy f).2.2.2.1, (specl04Copy f).2.2.2.2)] p0) ?_
  refine eqn [] [] [(2, [.o 512 ((specl05Copy s_).1), .o 2240 ((specl05Copy s_).2.1 ++ [((specl05Copy s_).2.2, (specl04Copy f).2.1, (specl04Copy f).2.2.1, (specl04Copy f).2.2.2.1, (specl04Copy f).2.2.2.2)]), .i ((specl05Copy s_).2.2)])] [2] (by rw [show ((eL ((specl05Copy s_).2.1)) ++ [[.i ((specl05Copy s_).2.2), .i ((specl04Copy f).2.1), .b ((specl04Copy f).2.2.1), .i ((specl04Copy f).2.2.2.1), .h ((specl04Copy f).2.2.2.2)]]) = (eL ((specl05Copy s_).2.1 ++ [((specl05Copy s_).2.2, (specl04Copy f).2.1, (specl04Copy f).2.2.1, (specl04Copy f).2.2.2.1, (specl04Copy f).2.2.2.2)])) from app_eL (rfl) (rfl)]; first | done | kernel_rfl) ?_
  refine sn tt_ok [2, 3, 4, 5, 6] [2, 3, 4] (p0) ?_
  refine tN tt_ok tt_mx [4, 5, 6] [4] (p0) ?_
  refine awp_ret ?_
  exact pz [] (show specCreateFile s_ f = _ from bif_f h3 (rfl)) (fun z => .tup [(true, [.o 0 z.1.1, .o 1 z.1.2.1, .i z.1.2.2]), (false, [.i z.2.1]), (false, [.b z.2.2])])
def specNewStore (s_ : (List FieldD)) : StoreD := (s_, [], 1)
theorem specNewStore_a (s_ : (List FieldD)) : ACalls Tryz.prog 11 [.h s_] (.a [.o 0 ((specNewStore s_).1), .o 1 ((specNewStore s_).2.1), .i ((specNewStore s_).2.2)]) := by
 refine en tt_ok Tryz.func11 fun w0 F0 hG => ?_
 refine sn tt_ok [0, 2] [2] (p0) ?_
 refine wT 0 0 .sh s_ (fun hw1 hl2 => ?_)
 refine tn tt_ok [2] [2] (po 2 (.flat) (px (ob_len (n := (([] : List (List PV)).length + ((eL s_) : List (List PV)).length)) (len_of (rfl) (eL_length s_) (by first | omega | (simp only [List.length_cons, List.length_nil]; omega) | (simp; omega) | simp))) (px (ob_flat (flat_eL s_)) p0))) ?_
 refine opn [(true, 2, 1, true, 384000, 5)] ?_
 refine awp_ret ?_
 exact pz [] (show specNewStore s_ = (s_, [], 1) from rfl) (fun z => .a [.o 0 z.1, .o 1 z.2.1, .i z.2.2])
def specl03Usual : (List FieldD) := [((⟨#[97]⟩, 1) : FieldD), ((⟨#[98]⟩, 1) : FieldD), ((⟨#[110]⟩, 2) : FieldD), ((⟨#[116]⟩, 2) : FieldD)]
theorem specl03Usual_a : ACalls Tryz.prog 51 [] (.o 0 specl03Usual) := by
 refine en tt_ok Tryz.func51 fun w0 F0 hG => ?_
 refine sn tt_ok [0] [] (p0) ?_
 refine tn tt_ok [0] [] (p0) ?_
 refine awp_ret ?_
 exact po0 [] (show specl03Usual = [((⟨#[97]⟩, 1) : FieldD), ((⟨#[98]⟩, 1) : FieldD), ((⟨#[110]⟩, 2) : FieldD), ((⟨#[116]⟩, 2) : FieldD)] from rfl)
def specDefaultSchema : (List FieldD) := specl03Usual
theorem specDefaultSchema_a : ACalls Tryz.prog 12 [] (.o 0 specDefaultSchema) := by
 refine en tt_ok Tryz.func12 fun w0 F0 hG => ?_
 refine sn tt_ok [0] [] (p0) ?_
 refine tn tt_ok [0] [] (pc 0 (specl03Usual_a) p0) ?_
 refine awp_ret ?_
 exact po0 [] (show specDefaultSchema = specl03Usual from rfl)
def specDeleteFile (s_ : StoreD) (id : Int) : StoreD × Bool := (bif ((!(specIsValidStore (specl05Copy s_))) || decide ((specl05Place (specl05Copy s_) id) < (0 : Int))) then ((specl05Copy s_), false) else (((specl05Copy s_).1, List.take (Int.toNat (specl05Place (specl05Copy s_) id)) ((specl05Copy s_).2.1) ++ (List.drop (Int.toNat ((specl05Place (specl05Copy s_) id) + 1)) ((specl05Copy s_).2.1)), (specl05Copy s_).2.2), true))
theorem specDeleteFile_a (s_ : StoreD) (id : Int) : ACalls Tryz.prog 151 [.a [.h s_.1, .h s_.2.1, .i s_.2.2], .i id] (.tup [(true, [.o 0 ((((specDeleteFile s_ id)).1).1), .q 1 ((((specDeleteFile s_ id)).1).2.1), .i ((((specDeleteFile s_ id)).1).2.2)]), (false, [.b (((specDeleteFile s_ id)).2)])]) := by
 refine en tt_ok Tryz.func151 fun w0 F0 hG => ?_
 refine sn tt_ok [1, 2, 4, 5] [2, 4] (p0) ?_
 refine tn tt_ok [1, 2, 4, 5] [2, 4] (pc 1 (specl05Copy_a s_) p0) ?_
 refine tu tt_ok [(2, .p 2 0), (4, .p 4 0), (5, .b false), (6, .i (specl05Place (specl05Copy s_) id))] [0, 1] [(2, [.o 512 ((specl05Copy s_).1), .o 513 ((specl05Copy s_).2.1), .i ((specl05Copy s_).2.2)]), (4, [.e 2, .e 5, .i 0])] [] (pc 2 (specl05Place_a (specl05Copy s_) id) p0) ?_
 refine awp_seq ?_
 refine awp_seq ?_
 refine jn [(18, .b ((!(specIsValidStore (specl05Copy s_))) || decide ((specl05Place (specl05Copy s_) id) < (0 : Int))))] [] [] [] (!(specIsValidStore (specl05Copy s_))) (fun h1 => ?_) (fun h1 => ?_) ?_
 ·
  have h1n : (specIsValidStore (specl05Copy s_)) = false := bnot_t h1
  refine rn tt_ok [2, 4, 5, 6, 18] [2, 4] (pc 1 (cb h1n (specIsValidStore_a (specl05Copy s_))) (pe 2 (show .b (!false) = .b true from rfl) p0)) ?_
  exact ⟨rfl, weak_fit (by rw [h1]; first | done | kernel_rfl)⟩
 ·
  have h1n : (specIsValidStore (specl05Copy s_)) = true := bnot_f h1
  refine rn tt_ok [2, 4, 5, 6, 18] [2, 4] (pc 1 (cb h1n (specIsValidStore_a (specl05Copy s_))) (pe 2 (show .b (!true) = .b false from rfl) p0)) ?_
  exact ⟨rfl, weak_fit (by rw [h1]; first | done | kernel_rfl)⟩
 refine ck ((!(specIsValidStore (specl05Copy s_))) || decide ((specl05Place (specl05Copy s_) id) < (0 : Int))) (fun h2 => ?_) (fun h2 => ?_)
 ·
  refine sn tt_ok [2, 4, 5, 6] [2, 4] (p0) ?_
  refine awp_demotes [513] rfl ?_
  refine awp_ret ?_
  exact pz [] (show specDeleteFile s_ id = _ from bif_t h2 (rfl)) (fun z => .tup [(true, [.o 0 z.1.1, .q 1 z.1.2.1, .i z.1.2.2]), (false, [.b z.2])])
 ·
  have h2r : (decide ((specl05Place (specl05Copy s_) id) < (0 : Int))) = false := or_r h2
  have h2rp := fat_ltS (specl05Copy s_) id
  have h2rd := of_decide_eq_false h2r
  refine awp_skip ?_
  refine wB 2 1 (.own true 513) ((specl05Copy s_).2.1) (fun hw3 hl4 => ?_)
  have hl5 : List.length (List.take (Int.toNat (specl05Place (specl05Copy s_) id)) ((specl05Copy s_).2.1)) ≤ 1073741824 := wide_len (wide_take (Int.toNat (specl05Place (specl05Copy s_) id)) (hw3))
  have hl6 : List.length (List.drop (Int.toNat ((specl05Place (specl05Copy s_) id) + 1)) ((specl05Copy s_).2.1)) ≤ 1073741824 := wide_len (wide_drop (Int.toNat ((specl05Place (specl05Copy s_) id) + 1)) (hw3))
  refine awp_weak (weak_freeze [513] rfl) ?_
  refine sU tt_ok tt_mx [] [6, 18] [(2, [.o 512 ((specl05Copy s_).1), .slc (.own false 1984) 5 (([] ++ (eL (List.take (Int.toNat (specl05Place (specl05Copy s_) id)) ((specl05Copy s_).2.1)))) ++ (eL (List.drop (Int.toNat ((specl05Place (specl05Copy s_) id) + 1)) ((specl05Copy s_).2.1)))), .i ((specl05Copy s_).2.2)])] [2] (pe 4 (av_take .sh 5 (Int.toNat (specl05Place (specl05Copy s_) id)) (specl05Place (specl05Copy s_) id) ((specl05Copy s_).2.1) rfl) (px (ob_rng (lo := 0) (hi := (specl05Place (specl05Copy s_) id)) (n := (List.length (eL ((specl05Copy s_).2.1)))) (rng_of (by omega) (by omega) (by omega))) (px (ob_len (n := (([] : List (List PV)).length + ((eL (List.take (Int.toNat (specl05Place (specl05Copy s_) id)) ((specl05Copy s_).2.1))) : List (List PV)).length)) (len_of (rfl) (eL_length (List.take (Int.toNat (specl05Place (specl05Copy s_) id)) ((specl05Copy s_).2.1))) (by first | omega | (simp only [List.length_cons, List.length_nil]; omega) | (simp; omega) | simp))) (pe 9 (av_i (IntWalk.i64_in ((specl05Place (specl05Copy s_) id) + 1) (by omega))) (pe 10 (av_drop .sh 5 (Int.toNat ((specl05Place (specl05Copy s_) id) + 1)) ((specl05Place (specl05Copy s_) id) + 1) ((specl05Copy s_).2.1) rfl) (px (ob_rng (lo := ((specl05Place (specl05Copy s_) id) + 1)) (hi := (((eL ((specl05Copy s_).2.1)) : List (List PV)).length : Int)) (n := (List.length (eL ((specl05Copy s_).2.1)))) (rng_all (by omega) (by omega))) (px (ob_len (n := ((([] ++ (eL (List.take (Int.toNat (specl05Place (specl05Copy s_) id)) ((specl05Copy s_).2.1)))) : List (List PV)).length + ((eL (List.drop (Int.toNat ((specl05Place (specl05Copy s_) id) + 1)) ((specl05Copy s_).2.1))) : List (List PV)).length)) (by simp [eL_length]; omega)) p0))))))) ?_
  refine eqn [] [] [(2, [.o 512 ((specl05Copy s_).1), .q 1984 (List.take (Int.toNat (specl05Place (specl05Copy s_) id)) ((specl05Copy s_).2.1) ++ (List.drop (Int.toNat ((specl05Place (specl05Copy s_) id) + 1)) ((specl05Copy s_).2.1))), .i ((specl05Copy s_).2.2)])] [2] (by rw [show (([] ++ (eL (List.take (Int.toNat (specl05Place (specl05Copy s_) id)) ((specl05Copy s_).2.1)))) ++ (eL (List.drop (Int.toNat ((specl05Place (specl05Copy s_) id) + 1)) ((specl05Copy s_).2.1)))) = (eL (List.take (Int.toNat (specl05Place (specl05Copy s_) id)) ((specl05Copy s_).2.1) ++ (List.drop (Int.toNat ((specl05Place (specl05Copy s_) id) + 1)) ((specl05Copy s_).2.1)))) from app_eL (rfl) (rfl)]; first | done | kernel_rfl) ?_
  refine sn tt_ok [4, 5] [4] (p0) ?_
  refine awp_ret ?_
  exact pz [] (show specDeleteFile s_ id = _ from bif_f h2 (rfl)) (fun z => .tup [(true, [.o 0 z.1.1, .q 1 z.1.2.1, .i z.1.2.2]), (false, [.b z.2])])
end Go.Proofs.YtcnkkobgogmakaaGreat
namespace Go.Proofs.YtcnkkobgogmakaaGreat
open Go.RowKit
structure VS (s : StoreD) : Prop where
  sch : specIsValidSchema s.1 = true
  len : s.2.1.length ≤ 12
  nx1 : 1 ≤ s.2.2
  nx2 : s.2.2 ≤ 61
  file : ∀ (i : Nat) (a : FileD), s.2.1[i]? = some a → specIsValidFile s.1 a = true ∧ a.1 < s.2.2
  asc : ∀ (i : Nat) (a b : FileD), s.2.1[i]? = some a → s.2.1[i+1]? = some b → a.1 < b.1
theorem vs_valid {s : StoreD} (h : VS s) : specIsValidStore s = true := by
  unfold specIsValidStore
  rw [forL_of_all (l := s.2.1) (k := 0) (fun i a hi => ?_)]
  · have h1 := h.len
    have h2 := h.nx1
    have h3 := h.nx2
    simp only [Out.on, specl01In, h.sch, Bool.true_and]
    rw [decide_eq_true (show (s.2.1.length : Int) ≤ 12 by omega), decide_eq_true (show s.2.2 ≥ 1 from h2), decide_eq_true (show s.2.2 ≤ 61 from h3)]
    rfl
  · obtain ⟨h1, h2⟩ := h.file i a hi
    unfold specIsValidStore_f0
    rw [h1, decide_eq_false (show ¬ a.1 ≥ s.2.2 by omega)]
    have e2 : (decide (((0 + i : Nat) : Int) > 0) && decide ((nth s.2.1 (Int.toNat (((0 + i : Nat) : Int) - 1))).1 ≥ a.1)) = false := by
      by_cases hp : 0 < i
      · have hlt : i - 1 < s.2.1.length := by have := (List.getElem?_eq_some_iff.1 hi).1; omega
        have h3 := h.asc (i - 1) _ a (nth_get hlt) (by rw [show i - 1 + 1 = i by omega]; exact hi)
        rw [show Int.toNat (((0 + i : Nat) : Int) - 1) = i - 1 by omega, decide_eq_false (show ¬ (nth s.2.1 (i - 1)).1 ≥ a.1 by omega), Bool.and_false]
      · obtain rfl : i = 0 := by omega
        rfl
    rw [e2]
    rfl
theorem vs_of {s : StoreD} (h : specIsValidStore s = true) : VS s := by
  unfold specIsValidStore at h
  cases hl : forL (specIsValidStore_f0 s) specIsValidStore_e0 s.2.1 0 () with
  | brk t =>
    rw [hl] at h
    simp only [Out.on, Bool.and_eq_true, specl01In, decide_eq_true_eq] at h
    obtain ⟨h1, h2, h3, h4⟩ := h
    have key : ∀ (i : Nat) (a : FileD), s.2.1[i]? = some a → specIsValidFile s.1 a = true ∧ a.1 < s.2.2 ∧ (decide (((i : Nat) : Int) > 0) && decide ((nth s.2.1 (Int.toNat (((i : Nat) : Int) - 1))).1 ≥ a.1)) = false := fun i a hi => by
      have h5 := forL_all (fun k a t => by unfold specIsValidStore_f0; generalize (_ || _ : Bool) = c; cases c <;> simp) hl i a hi
      unfold specIsValidStore_f0 at h5
      rw [Nat.zero_add] at h5
      cases hv : specIsValidFile s.1 a with
      | false => rw [hv] at h5; simp at h5
      | true =>
        rw [hv] at h5
        cases hd : decide (a.1 ≥ s.2.2) with
        | true => rw [hd] at h5; simp at h5
        | false =>
          rw [hd] at h5
          refine ⟨rfl, by have := of_decide_eq_false hd; omega, ?_⟩
          generalize (decide (((i : Nat) : Int) > 0) && decide ((nth s.2.1 (Int.toNat (((i : Nat) : Int) - 1))).1 ≥ a.1)) = c at h5
          cases c with
          | true => simp at h5
          | false => rfl
    refine ⟨h1, by omega, h3, h4, fun i a hi => ⟨(key i a hi).1, (key i a hi).2.1⟩, fun i a b ha hb => ?_⟩
    have h5 := (key (i + 1) b hb).2.2
    rw [decide_eq_true (show ((i + 1 : Nat) : Int) > 0 by omega), Bool.true_and, show Int.toNat (((i + 1 : Nat) : Int) - 1) = i by omega, nth_of ha] at h5
    have := of_decide_eq_false h5
    omega
  | ret r =>
    rw [hl] at h
    obtain rfl : r = true := h
    exfalso
    have key : ∀ (l : List FileD) k, forL (specIsValidStore_f0 s) specIsValidStore_e0 l k () ≠ .ret true := by
      intro l
      induction l with
      | nil => intro k h; simp [forL] at h
      | cons a l ih =>
        intro k h
        simp only [forL] at h
        unfold specIsValidStore_f0 at h
        split at h
        · exact ih _ h
        · cases h
        · rename_i r hf; cases h; revert hf; generalize (_ || _ : Bool) = c; cases c <;> simp
    exact key _ _ hl
theorem copyFilesS (l : List FileD) : ∀ (k : Nat) (s : List FileD), forL specl05Copy_f0 specl05Copy_e0 l k s = .brk (s ++ l) := fun k s => by
  rw [forL_map (f := specl05Copy_f0) (e := specl05Copy_e0) (g := id) (fun _ _ _ => rfl), List.map_id]
  rfl
theorem copyS (s : StoreD) : specl05Copy s = s := by
  unfold specl05Copy
  rw [copyFilesS]
  rfl
theorem vs_push {s : StoreD} {f : FileD} (h : VS s) (hl : s.2.1.length < 12) (hn : s.2.2 ≤ 60) (hf : specIsValidFile s.1 (s.2.2, f.2) = true) : VS (s.1, s.2.1 ++ [(s.2.2, f.2)], s.2.2 + 1) := by
  have hcase : ∀ (i : Nat) (a : FileD), (s.2.1 ++ [((s.2.2, f.2) : FileD)])[i]? = some a → s.2.1[i]? = some a ∨ (i = s.2.1.length ∧ a = (s.2.2, f.2)) := fun i a hi => by
    rw [List.getElem?_append] at hi
    split at hi
    · exact .inl hi
    · right
      rename_i hge
      have : i - s.2.1.length = 0 := by
        have := (List.getElem?_eq_some_iff.1 hi).1
        simp at this; omega
      rw [this] at hi
      exact ⟨by omega, (Option.some.inj hi).symm⟩
  refine ⟨h.sch, by simp; omega, by have := h.nx1; show 1 ≤ s.2.2 + 1; omega, by show s.2.2 + 1 ≤ 61; omega, fun i a hi => ?_, fun i a b ha hb => ?_⟩
  · show specIsValidFile s.1 a = true ∧ a.1 < s.2.2 + 1
    rcases hcase i a hi with hi | ⟨_, rfl⟩
    · obtain ⟨h1, h2⟩ := h.file i a hi
      exact ⟨h1, by omega⟩
    · exact ⟨hf, by show s.2.2 < s.2.2 + 1; omega⟩
  · rcases hcase i a ha with ha | ⟨h1, rfl⟩
    · rcases hcase (i + 1) b hb with hb | ⟨_, rfl⟩
      · exact h.asc i a b ha hb
      · exact (h.file i a ha).2
    · rcases hcase (i + 1) b hb with hb | ⟨h2, _⟩
      · have := (List.getElem?_eq_some_iff.1 hb).1; omega
      · omega
theorem createS {s : StoreD} {f : FileD} (h : VS s) (hl : s.2.1.length < 12) (hn : s.2.2 ≤ 60) (hf : specIsValidFile s.1 (s.2.2, f.2) = true) : specCreateFile s f = ((s.1, s.2.1 ++ [(s.2.2, f.2)], s.2.2 + 1), s.2.2, true) := by
  unfold specCreateFile
  rw [copyS, vs_valid h, decide_eq_false (show ¬ (s.2.1.length : Int) ≥ 12 by omega)]
  have hf' : specIsValidFile s.1 (s.2.2, (specl04Copy f).2.1, (specl04Copy f).2.2.1, (specl04Copy f).2.2.2.1, (specl04Copy f).2.2.2.2) = true := hf
  have h1 := h.nx1
  rw [hf', IntWalk.i64_in _ (show _ ∧ _ by omega)]
  rfl
theorem vf_id {s : List FieldD} {f : FileD} (h : specIsValidFile s f = true) : 1 ≤ f.1 ∧ f.1 ≤ 60 := by
  unfold specIsValidFile at h
  cases hl : forL (specIsValidFile_f0 s f) specIsValidFile_e0 f.2.2.2.2 0 () with
  | brk t =>
    rw [hl] at h
    simp only [Out.on, Bool.and_eq_true, specl01In, decide_eq_true_eq] at h
    exact h.2.1
  | ret r =>
    rw [hl] at h
    obtain rfl : r = true := h
    exfalso
    have key : ∀ (l : List AttrD) k, forL (specIsValidFile_f0 s f) specIsValidFile_e0 l k () ≠ .ret true := by
      intro l
      induction l with
      | nil => intro k h; simp [forL] at h
      | cons a l ih =>
        intro k h
        simp only [forL] at h
        unfold specIsValidFile_f0 at h
        split at h
        · exact ih _ h
        · cases h
        · rename_i r hf; cases h; revert hf; generalize (_ || _ : Bool) = c; cases c <;> simp
    exact key _ _ hl
theorem create_vs {s : StoreD} (f : FileD) (h : VS s) : VS (specCreateFile s f).1 ∧ (specCreateFile s f).1.1 = s.1 ∧ (specCreateFile s f).1.2.1.length ≤ s.2.1.length + 1 ∧ s.2.1.length ≤ (specCreateFile s f).1.2.1.length ∧ (specCreateFile s f).1.2.2 ≤ s.2.2 + 1 := by
  by_cases hc : s.2.1.length < 12 ∧ specIsValidFile s.1 (s.2.2, f.2) = true
  · have hn : s.2.2 ≤ 60 := (vf_id hc.2).2
    rw [createS h hc.1 hn hc.2]
    exact ⟨vs_push h hc.1 hn hc.2, rfl, by simp, by simp, Int.le_refl _⟩
  · have e : (specCreateFile s f).1 = s := by
      unfold specCreateFile
      rw [copyS, vs_valid h]
      by_cases h1 : s.2.1.length < 12
      · have h2 : specIsValidFile s.1 (s.2.2, f.2) ≠ true := fun h2 => hc ⟨h1, h2⟩
        have h3 : specIsValidFile s.1 (s.2.2, (specl04Copy f).2.1, (specl04Copy f).2.2.1, (specl04Copy f).2.2.2.1, (specl04Copy f).2.2.2.2) = false := Bool.eq_false_iff.2 h2
        rw [h3]
        simp
      · rw [decide_eq_true (show (s.2.1.length : Int) ≥ 12 by omega)]
        simp
    rw [e]
    exact ⟨h, rfl, by omega, by omega, by omega⟩
theorem delete_vs {s : StoreD} (id : Int) (h : VS s) : VS (specDeleteFile s id).1 ∧ (specDeleteFile s id).1.1 = s.1 ∧ (specDeleteFile s id).1.2.1.length ≤ s.2.1.length ∧ (specDeleteFile s id).1.2.2 = s.2.2 := by
  unfold specDeleteFile
  rw [copyS, vs_valid h]
  by_cases hc : specl05Place s id < 0
  · rw [decide_eq_true hc]
    exact ⟨h, rfl, Nat.le_refl _, rfl⟩
  · rw [decide_eq_false hc]
    simp only [Bool.not_true, Bool.or_false, cond_false]
    have hb := fat_ltS s id
    generalize specl05Place s id = p at hc hb
    obtain ⟨k, rfl⟩ : ∃ k : Nat, p = (k : Int) := ⟨p.toNat, by omega⟩
    have e2 : Int.toNat ((k : Int) + 1) = k + 1 := by omega
    rw [e2, Int.toNat_natCast]
    have hk : k < s.2.1.length := by omega
    have hget : ∀ (i : Nat) (a : FileD), (List.take k s.2.1 ++ List.drop (k + 1) s.2.1)[i]? = some a → s.2.1[if i < k then i else i + 1]? = some a := fun i a hi => by
      rw [List.getElem?_append, List.length_take, Nat.min_eq_left (by omega)] at hi
      split at hi
      · rename_i hlt
        rw [if_pos hlt]
        rwa [List.getElem?_take_of_lt hlt] at hi
      · rename_i hge
        rw [if_neg hge]
        rw [List.getElem?_drop] at hi
        rwa [show k + 1 + (i - k) = i + 1 by omega] at hi
    refine ⟨⟨h.sch, ?_, h.nx1, h.nx2, fun i a hi => h.file _ a (hget i a hi), fun i a b ha hb => ?_⟩, trivial, ?_, trivial⟩
    · have := h.len
      show (List.take k s.2.1 ++ List.drop (k + 1) s.2.1).length ≤ 12
      simp; omega
    · have ha := hget i a ha
      have hb := hget (i + 1) b hb
      by_cases h1 : i + 1 < k
      · rw [if_pos (by omega)] at ha
        rw [if_pos h1] at hb
        exact h.asc i a b ha hb
      · rw [if_neg h1] at hb
        by_cases h2 : i < k
        · rw [if_pos h2] at ha
          have hm : k < s.2.1.length := hk
          have h3 := h.asc i a _ ha (by rw [show i + 1 = k by omega]; exact nth_get hm)
          have h4 := h.asc k _ b (nth_get hm) (by rw [show k + 1 = i + 1 + 1 by omega]; exact hb)
          omega
        · rw [if_neg h2] at ha
          exact h.asc (i + 1) a b ha hb
    · show (List.take k s.2.1 ++ List.drop (k + 1) s.2.1).length ≤ s.2.1.length
      simp; omega
end Go.Proofs.YtcnkkobgogmakaaGreat
namespace Go.Proofs.YtcnkkobgogmakaaGreat
open Go.RowKit
theorem whl_noret {R S T : Type} {f : S → Rd R S T} (hf : ∀ s r, f s ≠ .ret r) : ∀ n s r, whl f n s ≠ some (.ret r)
  | 0, _, _ => by simp [whl]
  | n + 1, s, r => by
    simp only [whl]
    cases h : f s with
    | next s' => exact whl_noret hf n s' r
    | brk t => simp
    | ret r' => exact absurd h (hf s r')
theorem whlD_brk {R S T : Type} [Inhabited T] {f : S → Rd R S T} (hf : ∀ s r, f s ≠ .ret r) (n : Nat) (s : S) : ∃ t, whlD f n s = .brk t := by
  unfold whlD
  cases h : whl f n s with
  | none => exact ⟨default, rfl⟩
  | some o =>
    cases o with
    | brk t => exact ⟨t, rfl⟩
    | ret r => exact absurd h (whl_noret hf n s r)
theorem whl_inv {R S T : Type} {f : S → Rd R S T} (I : S → Prop) (J : T → Prop) (hn : ∀ s s', I s → f s = .next s' → I s') (hb : ∀ s t, I s → f s = .brk t → J t) : ∀ n s t, I s → whl f n s = some (.brk t) → J t
  | 0, _, _, _, h => by simp [whl] at h
  | n + 1, s, t, hi, h => by
    simp only [whl] at h
    cases hs : f s with
    | next s' => rw [hs] at h; exact whl_inv I J hn hb n s' t (hn s s' hi hs) h
    | brk t' =>
      rw [hs] at h
      obtain rfl : t' = t := by simpa using h
      exact hb s t' hi hs
    | ret r => rw [hs] at h; simp at h
theorem whlD_inv {R S T : Type} [Inhabited T] {f : S → Rd R S T} (I : S → Prop) (J : T → Prop) (hn : ∀ s s', I s → f s = .next s' → I s') (hb : ∀ s t, I s → f s = .brk t → J t) {n : Nat} {s : S} {t : T} (hi : I s) (hw : (whl f n s).isSome = true) (h : whlD f n s = .brk t) : J t :=
  whl_inv I J hn hb n s t hi (by rw [whl_some hw, h])
theorem forL_noret {α R S T : Type} {f : Nat → α → S → Rd R S T} {e : Nat → S → T} (hf : ∀ k a s r, f k a s ≠ .ret r) : ∀ (l : List α) (k : Nat) (s : S), ∃ t, forL f e l k s = .brk t
  | [], k, s => ⟨_, rfl⟩
  | a :: l, k, s => by
    simp only [forL]
    cases h : f k a s with
    | next s' => exact forL_noret hf l (k + 1) s'
    | brk t => exact ⟨t, rfl⟩
    | ret r => exact absurd h (hf k a s r)
theorem forN_inv {R S T : Type} {f : Nat → S → Rd R S T} {e : Nat → S → T} (I : Nat → S → Prop) (hn : ∀ k s, I k s → ∃ s', f k s = .next s' ∧ I (k + 1) s') : ∀ (n k : Nat) (s : S), I k s → ∃ s', forN f e n k s = .brk (e (k + n) s') ∧ I (k + n) s'
  | 0, k, s, h => ⟨s, rfl, h⟩
  | n + 1, k, s, h => by
    obtain ⟨s', h1, h2⟩ := hn k s h
    obtain ⟨t, h3, h4⟩ := forN_inv I hn n (k + 1) s' h2
    rw [show k + 1 + n = k + (n + 1) by omega] at h3 h4
    exact ⟨t, by simp only [forN, h1]; exact h3, h4⟩
theorem whl_upI {R S T : Type} {f : S → Rd R S T} (I : S → Prop) (m : S → Int) (N : Int) (h : ∀ s s', I s → f s = .next s' → m s < N ∧ m s' = m s + 1 ∧ I s') : ∀ (n : Nat) (s : S), I s → N ≤ m s + n → (whl f (n + 1) s).isSome = true
  | 0, s, hi, hn => by
    simp only [whl]
    cases hs : f s with
    | next s' => have := (h s s' hi hs).1; omega
    | brk t => rfl
    | ret r => rfl
  | n + 1, s, hi, hn => by
    rw [whl]
    cases hs : f s with
    | next s' =>
      obtain ⟨h1, h2, h3⟩ := h s s' hi hs
      exact whl_upI I m N h n s' h3 (by omega)
    | brk t => rfl
    | ret r => rfl
theorem lt_any {α R : Type} {t : α} {f : α → R} {P : R → Prop} (Q : α → Prop) (h : Q t) (k : ∀ x, Q x → P (f x)) : P (lt t f) := k t h
end Go.Proofs.YtcnkkobgogmakaaGreat
