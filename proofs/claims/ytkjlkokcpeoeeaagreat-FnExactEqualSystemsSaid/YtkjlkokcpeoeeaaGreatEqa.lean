/- What functions compute, and that they do (printed by am2.py): each function as a Lean function, then its contract. -/
import Derived.Test.YtkjlkokcpeoeeaaGreatWd
import Derived.Test.YtkjlkokcpeoeeaaGreatProg
import Derived.Test.YtkjlkokcpeoeeaaGreatTy
import Derived.KernelRfl
namespace Go.Proofs.YtkjlkokcpeoeeaaGreat
open Go.RowKit
open GoE (enc wide)
def tt : List (Nat × TI) := [(3, ⟨.int .i64, 1, [.i 0], []⟩),
  (4, ⟨.bool, 1, [.b false], []⟩),
  (9, ⟨.str, 1, [.s ⟨#[]⟩], []⟩),
  (34, ⟨.sli 3, 1, [.e 0], []⟩),
  (36, ⟨.struct [(0, 5, true), (5, 2, true), (7, 1, false), (8, 1, false), (9, 1, false), (10, 1, false)], 11, [.e 0, .e 0, .i 0, .e 0, .e 0, .s ⟨#[]⟩, .s ⟨#[]⟩, .i 0, .e 0, .e 0, .e 0], []⟩),
  (39, ⟨.sli 178, 1, [.e 0], []⟩),
  (40, ⟨.sli 170, 1, [.e 0], []⟩),
  (42, ⟨.struct [(0, 1, false), (1, 1, false), (2, 1, false)], 3, [.e 0, .e 0, .i 0], []⟩),
  (43, ⟨.sli 117, 1, [.e 0], []⟩),
  (44, ⟨.sli 159, 1, [.e 0], []⟩),
  (46, ⟨.struct [(0, 3, true), (3, 1, false), (4, 1, false)], 5, [.e 0, .e 0, .i 0, .e 0, .e 0], []⟩),
  (47, ⟨.struct [(0, 1, false), (1, 1, false)], 2, [.s ⟨#[]⟩, .s ⟨#[]⟩], [.str, .str]⟩),
  (48, ⟨.sli 133, 1, [.e 0], []⟩),
  (49, ⟨.sli 56, 1, [.e 0], []⟩),
  (51, ⟨.struct [(0, 5, true), (5, 2, true), (7, 1, false), (8, 1, false), (9, 1, false), (10, 1, false)], 11, [.e 0, .e 0, .i 0, .e 0, .e 0, .s ⟨#[]⟩, .s ⟨#[]⟩, .i 0, .e 0, .e 0, .e 0], []⟩),
  (54, ⟨.sli 136, 1, [.e 0], []⟩),
  (56, ⟨.struct [(0, 1, false), (1, 1, false), (2, 1, false), (3, 1, false)], 4, [.i 0, .s ⟨#[]⟩, .e 0, .e 0], []⟩),
  (115, ⟨.sli 197, 1, [.e 0], []⟩),
  (117, ⟨.struct [(0, 1, false), (1, 1, false)], 2, [.s ⟨#[]⟩, .e 0], []⟩),
  (131, ⟨.struct [(0, 3, true), (3, 1, false)], 4, [.e 0, .e 0, .i 0, .e 0], []⟩),
  (133, ⟨.struct [(0, 1, false), (1, 4, true), (5, 1, false)], 6, [.i 0, .e 0, .e 0, .i 0, .e 0, .i 0], []⟩),
  (136, ⟨.struct [(0, 1, false), (1, 1, false), (2, 1, false)], 3, [.i 0, .e 0, .e 0], []⟩),
  (159, ⟨.struct [(0, 1, false), (1, 1, false)], 2, [.s ⟨#[]⟩, .e 0], []⟩),
  (168, ⟨.sli 203, 1, [.e 0], []⟩),
  (170, ⟨.struct [(0, 1, false), (1, 1, false), (2, 1, false), (3, 1, false), (4, 1, false)], 5, [.i 0, .i 0, .b false, .i 0, .e 0], []⟩),
  (178, ⟨.struct [(0, 1, false), (1, 1, false)], 2, [.s ⟨#[]⟩, .i 0], [.str, .int]⟩),
  (197, ⟨.struct [(0, 1, false), (1, 1, false), (2, 1, false), (3, 1, false), (4, 3, true)], 7, [.i 0, .i 0, .i 0, .s ⟨#[]⟩, .i 0, .i 0, .s ⟨#[]⟩], [.int, .int, .int, .str, .int, .int, .str]⟩),
  (203, ⟨.struct [(0, 1, false), (1, 3, true)], 4, [.s ⟨#[]⟩, .i 0, .i 0, .s ⟨#[]⟩], [.str, .int, .int, .str]⟩)]
theorem tt_ok : ttOk Tryz.prog tt = true := by kernel_rfl
theorem tt_mx : Tryz.prog.follows .mixedOrders = true := by kernel_rfl
def slicesEqual_Field_f0 (s2_ : (List FieldD)) (k0 : Nat) (a0 : FieldD) (_ : Unit) : Rd (Bool) (Unit) (Unit) := (bif (!((a0.1.toList == ((nth s2_ k0).1).toList) && ((a0.2 == (nth s2_ k0).2) && true))) then (.ret false) else (.next ()))
def slicesEqual_Field_e0 (_ : Nat) (_ : Unit) : Unit := ()
def slicesEqual_Field (s1_ : (List FieldD)) (s2_ : (List FieldD)) : Bool := (bif ((s1_.length : Int) != (s2_.length : Int)) then false else (Out.on (forL (slicesEqual_Field_f0 s2_) slicesEqual_Field_e0 s1_ 0 ()) (fun _ => true)))
theorem slicesEqual_Field_a (s1_ : (List FieldD)) (s2_ : (List FieldD)) : ACalls Tryz.prog 133 [.h s1_, .h s2_] (.b (slicesEqual_Field s1_ s2_)) := by
  refine acalls_of (tt := tt) tt_ok Tryz.func133 (fn := Tryz.f133) rfl (by unfold FnOk; kernel_rfl) (Nat.le_of_ble_eq_true rfl) fun w0 F0 => ?_
  refine awp_seq ?_
  refine rk tt_ok [(4, .b false)] [] [] [] [] (o0) ?_
  refine awp_seq ?_
  refine awp_seq ?_
  refine rk tt_ok [(10, .b ((s1_.length : Int) != (s2_.length : Int)))] [] [] [] [(1, .val (.i (s1_.length : Int))), (3, .val (.i (s2_.length : Int)))] (o2 (ob_eq (av_len s1_)) (o1 (ob_eq (av_len s2_)))) ?_
  refine ck ((s1_.length : Int) != (s2_.length : Int)) (fun h1 => ?_) (fun h1 => ?_)
  · -- True
    have h1d := ne_of_bne h1
    refine awp_seq ?_
    refine rk tt_ok [] [10] [] [] [] (o0) ?_
    refine awp_ret ?_
    exact pret [] (congrArg (fun z => (.b z : AV)) (show slicesEqual_Field s1_ s2_ = false from bif_t h1 (rfl)).symm)
  · -- False
    have h1d := eq_of_bne h1
    refine awp_skip ?_
    refine awp_seq ?_
    refine awp_seq ?_
    refine rk tt_ok [(12, .i (s1_.length : Int)), (13, .i 0)] [10] [] [] [(1, .val (.i (s1_.length : Int)))] (o1 (ob_eq (av_len s1_))) ?_
    refine wdT 0 0 .sh s1_ (fun hw2 => ?_)
    have hl3 : List.length s1_ ≤ 1073741824 := wide_len (hw2)
    refine blk (fun (k0 : Nat) (s0 : Unit) => [(13, .i ((k0 : Nat) : Int))]) [13] (fun k0 s0 => []) [] (fun (y0 : Unit) => []) [0, 1, 12, 13] (fun y0 => []) [] (fun (k0 : Nat) (s0 : Unit) => (forL (slicesEqual_Field_f0 s2_) slicesEqual_Field_e0 s1_ 0 ()) = forL (slicesEqual_Field_f0 s2_) slicesEqual_Field_e0 (List.drop k0 s1_) k0 s0) (fun (y0 : Unit) => (forL (slicesEqual_Field_f0 s2_) slicesEqual_Field_e0 s1_ 0 ()) = .brk y0) s1_.length () (weak_fit (by kernel_rfl)) rfl (fun k0 s0 hk0 hI0 => ?_) (fun k0 s0 hk0 hI0 => ?_) (fun y0 hD0 => ?_)
    · -- round
      obtain ⟨a0, hx0⟩ := get_some (l := s1_) (i := k0) hk0
      refine awp_seq ?_
      refine rk tt_ok [(14, .b true)] [] [] [] [(0, .val (.b true))] (o1 (ob_eq (av_bool (decide_eq_true (p := ((k0 : Nat) : Int) < (s1_.length : Int)) (by omega))))) ?_
      refine awp_seq ?_
      refine ckT ?_
      refine awp_skip ?_
      refine awp_seq ?_
      refine awp_block ?_
      refine awp_seq ?_
      refine rk tt_ok [(5, .i ((k0 : Nat) : Int))] [14] [] [] [] (o0) ?_
      refine awp_seq ?_
      refine wdT 1 0 .sh s2_ (fun hw5 => ?_)
      have hl6 : List.length s2_ ≤ 1073741824 := wide_len (hw5)
      have hx4 : s2_[k0]? = some (nth s2_ k0) := nth_get (by omega)
      refine rd' tt_ok tt_mx [(24, .b (!((a0.1.toList == ((nth s2_ k0).1).toList) && ((a0.2 == (nth s2_ k0).2) && true))))] [5] [] [] [(2, .row [.s a0.1, .i a0.2]), (6, .row [.s ((nth s2_ k0).1), .i ((nth s2_ k0).2)])] (o2 (ob_elem (el_of (i := ((k0 : Nat) : Int)) (by omega) rfl hx0)) (o1 (ob_elem (el_of (i := ((k0 : Nat) : Int)) (by omega) rfl hx4)))) ?_
      refine ck (!((a0.1.toList == ((nth s2_ k0).1).toList) && ((a0.2 == (nth s2_ k0).2) && true))) (fun h7 => ?_) (fun h7 => ?_)
      · -- True
        have h7n : ((a0.1.toList == ((nth s2_ k0).1).toList) && ((a0.2 == (nth s2_ k0).2) && true)) = false := bnot_t h7
        refine awp_seq ?_
        refine rk tt_ok [] [24] [] [] [] (o0) ?_
        refine awp_ret ?_
        have hr8 : (forL (slicesEqual_Field_f0 s2_) slicesEqual_Field_e0 s1_ 0 ()) = .ret false := forL_ret hx0 (bif_t h7 (rfl)) hI0
        exact pret [] (congrArg (fun z => (.b z : AV)) (show slicesEqual_Field s1_ s2_ = false from bif_f h1 (on_r hr8)).symm)
      · -- False
        have h7n : ((a0.1.toList == ((nth s2_ k0).1).toList) && ((a0.2 == (nth s2_ k0).2) && true)) = true := bnot_f h7
        have h7nl : ((a0.1.toList == ((nth s2_ k0).1).toList)) = true := and_l h7n
        have h7nr : (((a0.2 == (nth s2_ k0).2) && true)) = true := and_r h7n
        have h7nrl : ((a0.2 == (nth s2_ k0).2)) = true := and_l h7nr
        have h7nrld := eq_of_beq h7nrl
        have h7nrr : (true) = true := and_r h7nr
        refine awp_skip ?_
        refine rk tt_ok [(13, .i ((k0 + 1 : Nat) : Int))] [13, 24] [] [] [(0, .val (.i ((k0 + 1 : Nat) : Int)))] (o1 (ob_eq (av_i (wrap_succ k0 (by omega))))) ?_
        exact Exists.intro () (And.intro (weak_fit (by kernel_rfl)) (forL_next hx0 (bif_f h7 (rfl)) hI0))
    · -- exit
      refine awp_seq ?_
      refine rk tt_ok [(14, .b false)] [] [] [] [(0, .val (.b false))] (o1 (ob_eq (av_bool (decide_eq_false (p := ((k0 : Nat) : Int) < (s1_.length : Int)) (by omega))))) ?_
      refine awp_seq ?_
      refine ckF ?_
      refine awp_exit ?_
      exact Exists.intro () (And.intro (weak_fit (by kernel_rfl)) (forL_end hk0 (rfl) hI0))
    · -- behind
      refine awp_seq ?_
      refine rk tt_ok [(4, .b true)] [4] [] [] [] (o0) ?_
      refine awp_ret ?_
      exact pret [] (congrArg (fun z => (.b z : AV)) (show slicesEqual_Field s1_ s2_ = true from bif_f h1 (on_b hD0 (rfl))).symm)
def slicesEqual_Attr_f0 (s2_ : (List AttrD)) (k0 : Nat) (a0 : AttrD) (_ : Unit) : Rd (Bool) (Unit) (Unit) := (bif (!((a0.1.toList == ((nth s2_ k0).1).toList) && ((a0.2.1 == (nth s2_ k0).2.1) && ((a0.2.2.1 == (nth s2_ k0).2.2.1) && ((a0.2.2.2.toList == ((nth s2_ k0).2.2.2).toList) && true))))) then (.ret false) else (.next ()))
def slicesEqual_Attr_e0 (_ : Nat) (_ : Unit) : Unit := ()
def slicesEqual_Attr (s1_ : (List AttrD)) (s2_ : (List AttrD)) : Bool := (bif ((s1_.length : Int) != (s2_.length : Int)) then false else (Out.on (forL (slicesEqual_Attr_f0 s2_) slicesEqual_Attr_e0 s1_ 0 ()) (fun _ => true)))
theorem slicesEqual_Attr_a (s1_ : (List AttrD)) (s2_ : (List AttrD)) : ACalls Tryz.prog 158 [.h s1_, .h s2_] (.b (slicesEqual_Attr s1_ s2_)) := by
  refine acalls_of (tt := tt) tt_ok Tryz.func158 (fn := Tryz.f158) rfl (by unfold FnOk; kernel_rfl) (Nat.le_of_ble_eq_true rfl) fun w0 F0 => ?_
  refine awp_seq ?_
  refine rk tt_ok [(4, .b false)] [] [] [] [] (o0) ?_
  refine awp_seq ?_
  refine awp_seq ?_
  refine rk tt_ok [(10, .b ((s1_.length : Int) != (s2_.length : Int)))] [] [] [] [(1, .val (.i (s1_.length : Int))), (3, .val (.i (s2_.length : Int)))] (o2 (ob_eq (av_len s1_)) (o1 (ob_eq (av_len s2_)))) ?_
  refine ck ((s1_.length : Int) != (s2_.length : Int)) (fun h1 => ?_) (fun h1 => ?_)
  · -- True
    have h1d := ne_of_bne h1
    refine awp_seq ?_
    refine rk tt_ok [] [10] [] [] [] (o0) ?_
    refine awp_ret ?_
    exact pret [] (congrArg (fun z => (.b z : AV)) (show slicesEqual_Attr s1_ s2_ = false from bif_t h1 (rfl)).symm)
  · -- False
    have h1d := eq_of_bne h1
    refine awp_skip ?_
    refine awp_seq ?_
    refine awp_seq ?_
    refine rk tt_ok [(12, .i (s1_.length : Int)), (13, .i 0)] [10] [] [] [(1, .val (.i (s1_.length : Int)))] (o1 (ob_eq (av_len s1_))) ?_
    refine wdT 0 0 .sh s1_ (fun hw2 => ?_)
    have hl3 : List.length s1_ ≤ 1073741824 := wide_len (hw2)
    refine blk (fun (k0 : Nat) (s0 : Unit) => [(13, .i ((k0 : Nat) : Int))]) [13] (fun k0 s0 => []) [] (fun (y0 : Unit) => []) [0, 1, 12, 13] (fun y0 => []) [] (fun (k0 : Nat) (s0 : Unit) => (forL (slicesEqual_Attr_f0 s2_) slicesEqual_Attr_e0 s1_ 0 ()) = forL (slicesEqual_Attr_f0 s2_) slicesEqual_Attr_e0 (List.drop k0 s1_) k0 s0) (fun (y0 : Unit) => (forL (slicesEqual_Attr_f0 s2_) slicesEqual_Attr_e0 s1_ 0 ()) = .brk y0) s1_.length () (weak_fit (by kernel_rfl)) rfl (fun k0 s0 hk0 hI0 => ?_) (fun k0 s0 hk0 hI0 => ?_) (fun y0 hD0 => ?_)
    · -- round
      obtain ⟨a0, hx0⟩ := get_some (l := s1_) (i := k0) hk0
      refine awp_seq ?_
      refine rk tt_ok [(14, .b true)] [] [] [] [(0, .val (.b true))] (o1 (ob_eq (av_bool (decide_eq_true (p := ((k0 : Nat) : Int) < (s1_.length : Int)) (by omega))))) ?_
      refine awp_seq ?_
      refine ckT ?_
      refine awp_skip ?_
      refine awp_seq ?_
      refine awp_block ?_
      refine awp_seq ?_
      refine rk tt_ok [(5, .i ((k0 : Nat) : Int))] [14] [] [] [] (o0) ?_
      refine awp_seq ?_
      refine wdT 1 0 .sh s2_ (fun hw5 => ?_)
      have hl6 : List.length s2_ ≤ 1073741824 := wide_len (hw5)
      have hx4 : s2_[k0]? = some (nth s2_ k0) := nth_get (by omega)
      refine rd' tt_ok tt_mx [(24, .b (!((a0.1.toList == ((nth s2_ k0).1).toList) && ((a0.2.1 == (nth s2_ k0).2.1) && ((a0.2.2.1 == (nth s2_ k0).2.2.1) && ((a0.2.2.2.toList == ((nth s2_ k0).2.2.2).toList) && true))))))] [5] [] [] [(2, .row [.s a0.1, .i a0.2.1, .i a0.2.2.1, .s a0.2.2.2]), (6, .row [.s ((nth s2_ k0).1), .i ((nth s2_ k0).2.1), .i ((nth s2_ k0).2.2.1), .s ((nth s2_ k0).2.2.2)])] (o2 (ob_elem (el_of (i := ((k0 : Nat) : Int)) (by omega) rfl hx0)) (o1 (ob_elem (el_of (i := ((k0 : Nat) : Int)) (by omega) rfl hx4)))) ?_
      refine ck (!((a0.1.toList == ((nth s2_ k0).1).toList) && ((a0.2.1 == (nth s2_ k0).2.1) && ((a0.2.2.1 == (nth s2_ k0).2.2.1) && ((a0.2.2.2.toList == ((nth s2_ k0).2.2.2).toList) && true))))) (fun h7 => ?_) (fun h7 => ?_)
      · -- True
        have h7n : ((a0.1.toList == ((nth s2_ k0).1).toList) && ((a0.2.1 == (nth s2_ k0).2.1) && ((a0.2.2.1 == (nth s2_ k0).2.2.1) && ((a0.2.2.2.toList == ((nth s2_ k0).2.2.2).toList) && true)))) = false := bnot_t h7
        refine awp_seq ?_
        refine rk tt_ok [] [24] [] [] [] (o0) ?_
        refine awp_ret ?_
        have hr8 : (forL (slicesEqual_Attr_f0 s2_) slicesEqual_Attr_e0 s1_ 0 ()) = .ret false := forL_ret hx0 (bif_t h7 (rfl)) hI0
        exact pret [] (congrArg (fun z => (.b z : AV)) (show slicesEqual_Attr s1_ s2_ = false from bif_f h1 (on_r hr8)).symm)
      · -- False
        have h7n : ((a0.1.toList == ((nth s2_ k0).1).toList) && ((a0.2.1 == (nth s2_ k0).2.1) && ((a0.2.2.1 == (nth s2_ k0).2.2.1) && ((a0.2.2.2.toList == ((nth s2_ k0).2.2.2).toList) && true)))) = true := bnot_f h7
        have h7nl : ((a0.1.toList == ((nth s2_ k0).1).toList)) = true := and_l h7n
        have h7nr : (((a0.2.1 == (nth s2_ k0).2.1) && ((a0.2.2.1 == (nth s2_ k0).2.2.1) && ((a0.2.2.2.toList == ((nth s2_ k0).2.2.2).toList) && true)))) = true := and_r h7n
        have h7nrl : ((a0.2.1 == (nth s2_ k0).2.1)) = true := and_l h7nr
        have h7nrld := eq_of_beq h7nrl
        have h7nrr : (((a0.2.2.1 == (nth s2_ k0).2.2.1) && ((a0.2.2.2.toList == ((nth s2_ k0).2.2.2).toList) && true))) = true := and_r h7nr
        have h7nrrl : ((a0.2.2.1 == (nth s2_ k0).2.2.1)) = true := and_l h7nrr
        have h7nrrld := eq_of_beq h7nrrl
        have h7nrrr : (((a0.2.2.2.toList == ((nth s2_ k0).2.2.2).toList) && true)) = true := and_r h7nrr
        have h7nrrrl : ((a0.2.2.2.toList == ((nth s2_ k0).2.2.2).toList)) = true := and_l h7nrrr
        have h7nrrrr : (true) = true := and_r h7nrrr
        refine awp_skip ?_
        refine rk tt_ok [(13, .i ((k0 + 1 : Nat) : Int))] [13, 24] [] [] [(0, .val (.i ((k0 + 1 : Nat) : Int)))] (o1 (ob_eq (av_i (wrap_succ k0 (by omega))))) ?_
        exact Exists.intro () (And.intro (weak_fit (by kernel_rfl)) (forL_next hx0 (bif_f h7 (rfl)) hI0))
    · -- exit
      refine awp_seq ?_
      refine rk tt_ok [(14, .b false)] [] [] [] [(0, .val (.b false))] (o1 (ob_eq (av_bool (decide_eq_false (p := ((k0 : Nat) : Int) < (s1_.length : Int)) (by omega))))) ?_
      refine awp_seq ?_
      refine ckF ?_
      refine awp_exit ?_
      exact Exists.intro () (And.intro (weak_fit (by kernel_rfl)) (forL_end hk0 (rfl) hI0))
    · -- behind
      refine awp_seq ?_
      refine rk tt_ok [(4, .b true)] [4] [] [] [] (o0) ?_
      refine awp_ret ?_
      exact pret [] (congrArg (fun z => (.b z : AV)) (show slicesEqual_Attr s1_ s2_ = true from bif_f h1 (on_b hD0 (rfl))).symm)
def implEqualFiles (a_ : FileD) (b : FileD) : Bool := ((a_.1 == b.1) && ((a_.2.1 == b.2.1) && ((a_.2.2.1 == b.2.2.1) && ((a_.2.2.2.1 == b.2.2.2.1) && (slicesEqual_Attr a_.2.2.2.2 b.2.2.2.2)))))
theorem implEqualFiles_a (a_ : FileD) (b : FileD) : ACalls Tryz.prog 135 [.a [.i a_.1, .i a_.2.1, .b a_.2.2.1, .i a_.2.2.2.1, .h a_.2.2.2.2], .a [.i b.1, .i b.2.1, .b b.2.2.1, .i b.2.2.2.1, .h b.2.2.2.2]] (.b (implEqualFiles a_ b)) := by
  refine acalls_of (tt := tt) tt_ok Tryz.func135 (fn := Tryz.f135) rfl (by unfold FnOk; kernel_rfl) (Nat.le_of_ble_eq_true rfl) fun w0 F0 => ?_
  refine awp_seq ?_
  refine rk tt_ok [(2, .p 2 0), (3, .p 3 0), (4, .b false)] [0, 1] [(2, [.i a_.1, .i a_.2.1, .b a_.2.2.1, .i a_.2.2.2.1, .h a_.2.2.2.2]), (3, [.i b.1, .i b.2.1, .b b.2.2.1, .i b.2.2.2.1, .h b.2.2.2.2])] [] [] (o0) ?_
  refine awp_seq ?_
  refine jn [(4, .b ((a_.1 == b.1) && ((a_.2.1 == b.2.1) && ((a_.2.2.1 == b.2.2.1) && ((a_.2.2.2.1 == b.2.2.2.1) && (slicesEqual_Attr a_.2.2.2.2 b.2.2.2.2))))))] [2, 3, 4] [] [2, 3] (a_.1 == b.1) (fun h1 => ?_) (fun h1 => ?_) ?_
  · -- True
    have h1d := eq_of_beq h1
    refine awp_split (a_.2.1 == b.2.1) (fun h2 => ?_) (fun h2 => ?_)
    · -- True
      have h2d := eq_of_beq h2
      refine awp_split (a_.2.2.1 == b.2.2.1) (fun h3 => ?_) (fun h3 => ?_)
      · -- True
        have h3d := eq_of_beq h3
        refine awp_split (a_.2.2.2.1 == b.2.2.2.1) (fun h4 => ?_) (fun h4 => ?_)
        · -- True
          have h4d := eq_of_beq h4
          refine rk tt_ok [(4, .b (slicesEqual_Attr a_.2.2.2.2 b.2.2.2.2))] [2, 3, 4] [] [2, 3] [(4, .val (.b true)), (10, .val (.b true)), (17, .val (.b true)), (24, .val (.b true)), (31, .val (.b (slicesEqual_Attr a_.2.2.2.2 b.2.2.2.2)))] (o2 (ob_eq (av_bool h1)) (o2 (ob_eq (av_bool h2)) (o2 (ob_eq (av_bool h3)) (o2 (ob_eq (av_bool h4)) (o1 (ob_call (slicesEqual_Attr_a a_.2.2.2.2 b.2.2.2.2))))))) ?_
          exact ⟨rfl, weak_fit (by rw [h1, h2, h3, h4]; first | done | kernel_rfl)⟩
        · -- False
          have h4d := ne_of_beq h4
          refine rk tt_ok [] [2, 3] [] [2, 3] [(4, .val (.b true)), (10, .val (.b true)), (17, .val (.b true)), (24, .val (.b false))] (o2 (ob_eq (av_bool h1)) (o2 (ob_eq (av_bool h2)) (o2 (ob_eq (av_bool h3)) (o1 (ob_eq (av_bool h4)))))) ?_
          exact ⟨rfl, weak_fit (by rw [h1, h2, h3, h4]; first | done | kernel_rfl)⟩
      · -- False
        have h3d := ne_of_beq h3
        refine rk tt_ok [] [2, 3] [] [2, 3] [(4, .val (.b true)), (10, .val (.b true)), (17, .val (.b false))] (o2 (ob_eq (av_bool h1)) (o2 (ob_eq (av_bool h2)) (o1 (ob_eq (av_bool h3))))) ?_
        exact ⟨rfl, weak_fit (by rw [h1, h2, h3]; first | done | kernel_rfl)⟩
    · -- False
      have h2d := ne_of_beq h2
      refine rk tt_ok [] [2, 3] [] [2, 3] [(4, .val (.b true)), (10, .val (.b false))] (o2 (ob_eq (av_bool h1)) (o1 (ob_eq (av_bool h2)))) ?_
      exact ⟨rfl, weak_fit (by rw [h1, h2]; first | done | kernel_rfl)⟩
  · -- False
    have h1d := ne_of_beq h1
    refine rk tt_ok [] [2, 3] [] [2, 3] [(4, .val (.b false))] (o1 (ob_eq (av_bool h1))) ?_
    exact ⟨rfl, weak_fit (by rw [h1]; first | done | kernel_rfl)⟩
  refine awp_ret ?_
  exact pret [] (congrArg (fun z => (.b z : AV)) (show implEqualFiles a_ b = ((a_.1 == b.1) && ((a_.2.1 == b.2.1) && ((a_.2.2.1 == b.2.2.1) && ((a_.2.2.2.1 == b.2.2.2.1) && (slicesEqual_Attr a_.2.2.2.2 b.2.2.2.2))))) from rfl).symm)
def slicesEqualFunc_File_implEqualFiles_f0 (s2_ : (List FileD)) (k0 : Nat) (a0 : FileD) (_ : Unit) : Rd (Bool) (Unit) (Unit) := (bif (!(implEqualFiles a0 (nth s2_ k0))) then (.ret false) else (.next ()))
def slicesEqualFunc_File_implEqualFiles_e0 (_ : Nat) (_ : Unit) : Unit := ()
def slicesEqualFunc_File_implEqualFiles (s1_ : (List FileD)) (s2_ : (List FileD)) : Bool := (bif ((s1_.length : Int) != (s2_.length : Int)) then false else (Out.on (forL (slicesEqualFunc_File_implEqualFiles_f0 s2_) slicesEqualFunc_File_implEqualFiles_e0 s1_ 0 ()) (fun _ => true)))
theorem slicesEqualFunc_File_implEqualFiles_a (s1_ : (List FileD)) (s2_ : (List FileD)) : ACalls Tryz.prog 134 [.h s1_, .h s2_, .one (.fnr 135 [])] (.b (slicesEqualFunc_File_implEqualFiles s1_ s2_)) := by
  refine acalls_of (tt := tt) tt_ok Tryz.func134 (fn := Tryz.f134) rfl (by unfold FnOk; kernel_rfl) (Nat.le_of_ble_eq_true rfl) fun w0 F0 => ?_
  refine awp_seq ?_
  refine rk tt_ok [(6, .b false)] [] [] [] [] (o0) ?_
  refine awp_seq ?_
  refine awp_seq ?_
  refine rk tt_ok [(14, .b ((s1_.length : Int) != (s2_.length : Int)))] [] [] [] [(1, .val (.i (s1_.length : Int))), (3, .val (.i (s2_.length : Int)))] (o2 (ob_eq (av_len s1_)) (o1 (ob_eq (av_len s2_)))) ?_
  refine ck ((s1_.length : Int) != (s2_.length : Int)) (fun h1 => ?_) (fun h1 => ?_)
  · -- True
    have h1d := ne_of_bne h1
    refine awp_seq ?_
    refine rk tt_ok [] [14] [] [] [] (o0) ?_
    refine awp_ret ?_
    exact pret [] (congrArg (fun z => (.b z : AV)) (show slicesEqualFunc_File_implEqualFiles s1_ s2_ = false from bif_t h1 (rfl)).symm)
  · -- False
    have h1d := eq_of_bne h1
    refine awp_skip ?_
    refine awp_seq ?_
    refine awp_seq ?_
    refine rk tt_ok [(15, .h s1_), (16, .i (s1_.length : Int)), (17, .i 0)] [0, 14] [] [] [(1, .val (.i (s1_.length : Int)))] (o1 (ob_eq (av_len s1_))) ?_
    refine wdT 15 0 .sh s1_ (fun hw2 => ?_)
    have hl3 : List.length s1_ ≤ 1073741824 := wide_len (hw2)
    refine blk (fun (k0 : Nat) (s0 : Unit) => [(17, .i ((k0 : Nat) : Int))]) [17] (fun k0 s0 => []) [] (fun (y0 : Unit) => []) [1, 2, 15, 16, 17] (fun y0 => []) [] (fun (k0 : Nat) (s0 : Unit) => (forL (slicesEqualFunc_File_implEqualFiles_f0 s2_) slicesEqualFunc_File_implEqualFiles_e0 s1_ 0 ()) = forL (slicesEqualFunc_File_implEqualFiles_f0 s2_) slicesEqualFunc_File_implEqualFiles_e0 (List.drop k0 s1_) k0 s0) (fun (y0 : Unit) => (forL (slicesEqualFunc_File_implEqualFiles_f0 s2_) slicesEqualFunc_File_implEqualFiles_e0 s1_ 0 ()) = .brk y0) s1_.length () (weak_fit (by kernel_rfl)) rfl (fun k0 s0 hk0 hI0 => ?_) (fun k0 s0 hk0 hI0 => ?_) (fun y0 hD0 => ?_)
    · -- round
      obtain ⟨a0, hx0⟩ := get_some (l := s1_) (i := k0) hk0
      refine awp_seq ?_
      refine rk tt_ok [(18, .b true)] [] [] [] [(0, .val (.b true))] (o1 (ob_eq (av_bool (decide_eq_true (p := ((k0 : Nat) : Int) < (s1_.length : Int)) (by omega))))) ?_
      refine awp_seq ?_
      refine ckT ?_
      refine awp_skip ?_
      refine awp_seq ?_
      refine awp_block ?_
      refine awp_seq ?_
      refine rk tt_ok [(7, .i ((k0 : Nat) : Int)), (8, .p 8 0)] [18] [(8, [.i a0.1, .i a0.2.1, .b a0.2.2.1, .i a0.2.2.2.1, .h a0.2.2.2.2])] [] [(1, .row [.i a0.1, .i a0.2.1, .b a0.2.2.1, .i a0.2.2.2.1, .h a0.2.2.2.2])] (o1 (ob_elem (el_of (i := ((k0 : Nat) : Int)) (by omega) rfl hx0))) ?_
      refine awp_seq ?_
      refine wdT 1 0 .sh s2_ (fun hw5 => ?_)
      have hl6 : List.length s2_ ≤ 1073741824 := wide_len (hw5)
      have hx4 : s2_[k0]? = some (nth s2_ k0) := nth_get (by omega)
      refine rk tt_ok [(9, .p 9 0)] [7] [(9, [.i ((nth s2_ k0).1), .i ((nth s2_ k0).2.1), .b ((nth s2_ k0).2.2.1), .i ((nth s2_ k0).2.2.2.1), .h ((nth s2_ k0).2.2.2.2)])] [] [(2, .row [.i ((nth s2_ k0).1), .i ((nth s2_ k0).2.1), .b ((nth s2_ k0).2.2.1), .i ((nth s2_ k0).2.2.2.1), .h ((nth s2_ k0).2.2.2.2)])] (o1 (ob_elem (el_of (i := ((k0 : Nat) : Int)) (by omega) rfl hx4))) ?_
      refine awp_seq ?_
      refine rk tt_ok [(30, .b (!(implEqualFiles a0 (nth s2_ k0))))] [8, 9] [] [8, 9] [(3, .val (.b (implEqualFiles a0 (nth s2_ k0))))] (o1 (ob_call (implEqualFiles_a a0 (nth s2_ k0)))) ?_
      refine ck (!(implEqualFiles a0 (nth s2_ k0))) (fun h7 => ?_) (fun h7 => ?_)
      · -- True
        have h7n : (implEqualFiles a0 (nth s2_ k0)) = false := bnot_t h7
        refine awp_seq ?_
        refine rk tt_ok [] [30] [] [] [] (o0) ?_
        refine awp_ret ?_
        have hr8 : (forL (slicesEqualFunc_File_implEqualFiles_f0 s2_) slicesEqualFunc_File_implEqualFiles_e0 s1_ 0 ()) = .ret false := forL_ret hx0 (bif_t h7 (rfl)) hI0
        exact pret [] (congrArg (fun z => (.b z : AV)) (show slicesEqualFunc_File_implEqualFiles s1_ s2_ = false from bif_f h1 (on_r hr8)).symm)
      · -- False
        have h7n : (implEqualFiles a0 (nth s2_ k0)) = true := bnot_f h7
        refine awp_skip ?_
        refine rk tt_ok [(17, .i ((k0 + 1 : Nat) : Int))] [17, 30] [] [] [(0, .val (.i ((k0 + 1 : Nat) : Int)))] (o1 (ob_eq (av_i (wrap_succ k0 (by omega))))) ?_
        exact Exists.intro () (And.intro (weak_fit (by kernel_rfl)) (forL_next hx0 (bif_f h7 (rfl)) hI0))
    · -- exit
      refine awp_seq ?_
      refine rk tt_ok [(18, .b false)] [] [] [] [(0, .val (.b false))] (o1 (ob_eq (av_bool (decide_eq_false (p := ((k0 : Nat) : Int) < (s1_.length : Int)) (by omega))))) ?_
      refine awp_seq ?_
      refine ckF ?_
      refine awp_exit ?_
      exact Exists.intro () (And.intro (weak_fit (by kernel_rfl)) (forL_end hk0 (rfl) hI0))
    · -- behind
      refine awp_seq ?_
      refine rk tt_ok [(6, .b true)] [6] [] [] [] (o0) ?_
      refine awp_ret ?_
      exact pret [] (congrArg (fun z => (.b z : AV)) (show slicesEqualFunc_File_implEqualFiles s1_ s2_ = true from bif_f h1 (on_b hD0 (rfl))).symm)
def implEqualStores (a_ : StoreD) (b : StoreD) : Bool := ((slicesEqual_Field a_.1 b.1) && ((slicesEqualFunc_File_implEqualFiles a_.2.1 b.2.1) && (a_.2.2 == b.2.2)))
theorem implEqualStores_a (a_ : StoreD) (b : StoreD) : ACalls Tryz.prog 96 [.a [.h a_.1, .h a_.2.1, .i a_.2.2], .a [.h b.1, .h b.2.1, .i b.2.2]] (.b (implEqualStores a_ b)) := by
  refine acalls_of (tt := tt) tt_ok Tryz.func96 (fn := Tryz.f96) rfl (by unfold FnOk; kernel_rfl) (Nat.le_of_ble_eq_true rfl) fun w0 F0 => ?_
  refine awp_seq ?_
  refine rk tt_ok [(2, .p 2 0), (3, .p 3 0), (4, .b false)] [0, 1] [(2, [.h a_.1, .h a_.2.1, .i a_.2.2]), (3, [.h b.1, .h b.2.1, .i b.2.2])] [] [] (o0) ?_
  refine awp_seq ?_
  refine jn [(4, .b ((slicesEqual_Field a_.1 b.1) && ((slicesEqualFunc_File_implEqualFiles a_.2.1 b.2.1) && (a_.2.2 == b.2.2))))] [2, 3, 4] [] [2, 3] (slicesEqual_Field a_.1 b.1) (fun h1 => ?_) (fun h1 => ?_) ?_
  · -- True
    refine awp_split (slicesEqualFunc_File_implEqualFiles a_.2.1 b.2.1) (fun h2 => ?_) (fun h2 => ?_)
    · -- True
      refine rk tt_ok [(4, .b (a_.2.2 == b.2.2))] [2, 3, 4] [] [2, 3] [(4, .val (.b true)), (10, .val (.b true))] (o2 (ob_call (cb h1 (slicesEqual_Field_a a_.1 b.1))) (o1 (ob_call (cb h2 (slicesEqualFunc_File_implEqualFiles_a a_.2.1 b.2.1))))) ?_
      exact ⟨rfl, weak_fit (by rw [h1, h2]; first | done | kernel_rfl)⟩
    · -- False
      refine rk tt_ok [] [2, 3] [] [2, 3] [(4, .val (.b true)), (10, .val (.b false))] (o2 (ob_call (cb h1 (slicesEqual_Field_a a_.1 b.1))) (o1 (ob_call (cb h2 (slicesEqualFunc_File_implEqualFiles_a a_.2.1 b.2.1))))) ?_
      exact ⟨rfl, weak_fit (by rw [h1, h2]; first | done | kernel_rfl)⟩
  · -- False
    refine rk tt_ok [] [2, 3] [] [2, 3] [(4, .val (.b false))] (o1 (ob_call (cb h1 (slicesEqual_Field_a a_.1 b.1)))) ?_
    exact ⟨rfl, weak_fit (by rw [h1]; first | done | kernel_rfl)⟩
  refine awp_ret ?_
  exact pret [] (congrArg (fun z => (.b z : AV)) (show implEqualStores a_ b = ((slicesEqual_Field a_.1 b.1) && ((slicesEqualFunc_File_implEqualFiles a_.2.1 b.2.1) && (a_.2.2 == b.2.2))) from rfl).symm)
def slicesEqual_Node_f0 (s2_ : (List NodeD)) (k0 : Nat) (a0 : NodeD) (_ : Unit) : Rd (Bool) (Unit) (Unit) := (bif (!((a0.1 == (nth s2_ k0).1) && ((a0.2.1 == (nth s2_ k0).2.1) && ((a0.2.2.1 == (nth s2_ k0).2.2.1) && ((a0.2.2.2.1.toList == ((nth s2_ k0).2.2.2.1).toList) && ((a0.2.2.2.2.1 == (nth s2_ k0).2.2.2.2.1) && ((a0.2.2.2.2.2.1 == (nth s2_ k0).2.2.2.2.2.1) && ((a0.2.2.2.2.2.2.toList == ((nth s2_ k0).2.2.2.2.2.2).toList) && true)))))))) then (.ret false) else (.next ()))
def slicesEqual_Node_e0 (_ : Nat) (_ : Unit) : Unit := ()
def slicesEqual_Node (s1_ : (List NodeD)) (s2_ : (List NodeD)) : Bool := (bif ((s1_.length : Int) != (s2_.length : Int)) then false else (Out.on (forL (slicesEqual_Node_f0 s2_) slicesEqual_Node_e0 s1_ 0 ()) (fun _ => true)))
theorem slicesEqual_Node_a (s1_ : (List NodeD)) (s2_ : (List NodeD)) : ACalls Tryz.prog 159 [.h s1_, .h s2_] (.b (slicesEqual_Node s1_ s2_)) := by
  refine acalls_of (tt := tt) tt_ok Tryz.func159 (fn := Tryz.f159) rfl (by unfold FnOk; kernel_rfl) (Nat.le_of_ble_eq_true rfl) fun w0 F0 => ?_
  refine awp_seq ?_
  refine rk tt_ok [(4, .b false)] [] [] [] [] (o0) ?_
  refine awp_seq ?_
  refine awp_seq ?_
  refine rk tt_ok [(10, .b ((s1_.length : Int) != (s2_.length : Int)))] [] [] [] [(1, .val (.i (s1_.length : Int))), (3, .val (.i (s2_.length : Int)))] (o2 (ob_eq (av_len s1_)) (o1 (ob_eq (av_len s2_)))) ?_
  refine ck ((s1_.length : Int) != (s2_.length : Int)) (fun h1 => ?_) (fun h1 => ?_)
  · -- True
    have h1d := ne_of_bne h1
    refine awp_seq ?_
    refine rk tt_ok [] [10] [] [] [] (o0) ?_
    refine awp_ret ?_
    exact pret [] (congrArg (fun z => (.b z : AV)) (show slicesEqual_Node s1_ s2_ = false from bif_t h1 (rfl)).symm)
  · -- False
    have h1d := eq_of_bne h1
    refine awp_skip ?_
    refine awp_seq ?_
    refine awp_seq ?_
    refine rk tt_ok [(12, .i (s1_.length : Int)), (13, .i 0)] [10] [] [] [(1, .val (.i (s1_.length : Int)))] (o1 (ob_eq (av_len s1_))) ?_
    refine wdT 0 0 .sh s1_ (fun hw2 => ?_)
    have hl3 : List.length s1_ ≤ 1073741824 := wide_len (hw2)
    refine blk (fun (k0 : Nat) (s0 : Unit) => [(13, .i ((k0 : Nat) : Int))]) [13] (fun k0 s0 => []) [] (fun (y0 : Unit) => []) [0, 1, 12, 13] (fun y0 => []) [] (fun (k0 : Nat) (s0 : Unit) => (forL (slicesEqual_Node_f0 s2_) slicesEqual_Node_e0 s1_ 0 ()) = forL (slicesEqual_Node_f0 s2_) slicesEqual_Node_e0 (List.drop k0 s1_) k0 s0) (fun (y0 : Unit) => (forL (slicesEqual_Node_f0 s2_) slicesEqual_Node_e0 s1_ 0 ()) = .brk y0) s1_.length () (weak_fit (by kernel_rfl)) rfl (fun k0 s0 hk0 hI0 => ?_) (fun k0 s0 hk0 hI0 => ?_) (fun y0 hD0 => ?_)
    · -- round
      obtain ⟨a0, hx0⟩ := get_some (l := s1_) (i := k0) hk0
      refine awp_seq ?_
      refine rk tt_ok [(14, .b true)] [] [] [] [(0, .val (.b true))] (o1 (ob_eq (av_bool (decide_eq_true (p := ((k0 : Nat) : Int) < (s1_.length : Int)) (by omega))))) ?_
      refine awp_seq ?_
      refine ckT ?_
      refine awp_skip ?_
      refine awp_seq ?_
      refine awp_block ?_
      refine awp_seq ?_
      refine rk tt_ok [(5, .i ((k0 : Nat) : Int))] [14] [] [] [] (o0) ?_
      refine awp_seq ?_
      refine wdT 1 0 .sh s2_ (fun hw5 => ?_)
      have hl6 : List.length s2_ ≤ 1073741824 := wide_len (hw5)
      have hx4 : s2_[k0]? = some (nth s2_ k0) := nth_get (by omega)
      refine rd' tt_ok tt_mx [(24, .b (!((a0.1 == (nth s2_ k0).1) && ((a0.2.1 == (nth s2_ k0).2.1) && ((a0.2.2.1 == (nth s2_ k0).2.2.1) && ((a0.2.2.2.1.toList == ((nth s2_ k0).2.2.2.1).toList) && ((a0.2.2.2.2.1 == (nth s2_ k0).2.2.2.2.1) && ((a0.2.2.2.2.2.1 == (nth s2_ k0).2.2.2.2.2.1) && ((a0.2.2.2.2.2.2.toList == ((nth s2_ k0).2.2.2.2.2.2).toList) && true)))))))))] [5] [] [] [(2, .row [.i a0.1, .i a0.2.1, .i a0.2.2.1, .s a0.2.2.2.1, .i a0.2.2.2.2.1, .i a0.2.2.2.2.2.1, .s a0.2.2.2.2.2.2]), (6, .row [.i ((nth s2_ k0).1), .i ((nth s2_ k0).2.1), .i ((nth s2_ k0).2.2.1), .s ((nth s2_ k0).2.2.2.1), .i ((nth s2_ k0).2.2.2.2.1), .i ((nth s2_ k0).2.2.2.2.2.1), .s ((nth s2_ k0).2.2.2.2.2.2)])] (o2 (ob_elem (el_of (i := ((k0 : Nat) : Int)) (by omega) rfl hx0)) (o1 (ob_elem (el_of (i := ((k0 : Nat) : Int)) (by omega) rfl hx4)))) ?_
      refine ck (!((a0.1 == (nth s2_ k0).1) && ((a0.2.1 == (nth s2_ k0).2.1) && ((a0.2.2.1 == (nth s2_ k0).2.2.1) && ((a0.2.2.2.1.toList == ((nth s2_ k0).2.2.2.1).toList) && ((a0.2.2.2.2.1 == (nth s2_ k0).2.2.2.2.1) && ((a0.2.2.2.2.2.1 == (nth s2_ k0).2.2.2.2.2.1) && ((a0.2.2.2.2.2.2.toList == ((nth s2_ k0).2.2.2.2.2.2).toList) && true)))))))) (fun h7 => ?_) (fun h7 => ?_)
      · -- True
        have h7n : ((a0.1 == (nth s2_ k0).1) && ((a0.2.1 == (nth s2_ k0).2.1) && ((a0.2.2.1 == (nth s2_ k0).2.2.1) && ((a0.2.2.2.1.toList == ((nth s2_ k0).2.2.2.1).toList) && ((a0.2.2.2.2.1 == (nth s2_ k0).2.2.2.2.1) && ((a0.2.2.2.2.2.1 == (nth s2_ k0).2.2.2.2.2.1) && ((a0.2.2.2.2.2.2.toList == ((nth s2_ k0).2.2.2.2.2.2).toList) && true))))))) = false := bnot_t h7
        refine awp_seq ?_
        refine rk tt_ok [] [24] [] [] [] (o0) ?_
        refine awp_ret ?_
        have hr8 : (forL (slicesEqual_Node_f0 s2_) slicesEqual_Node_e0 s1_ 0 ()) = .ret false := forL_ret hx0 (bif_t h7 (rfl)) hI0
        exact pret [] (congrArg (fun z => (.b z : AV)) (show slicesEqual_Node s1_ s2_ = false from bif_f h1 (on_r hr8)).symm)
      · -- False
        have h7n : ((a0.1 == (nth s2_ k0).1) && ((a0.2.1 == (nth s2_ k0).2.1) && ((a0.2.2.1 == (nth s2_ k0).2.2.1) && ((a0.2.2.2.1.toList == ((nth s2_ k0).2.2.2.1).toList) && ((a0.2.2.2.2.1 == (nth s2_ k0).2.2.2.2.1) && ((a0.2.2.2.2.2.1 == (nth s2_ k0).2.2.2.2.2.1) && ((a0.2.2.2.2.2.2.toList == ((nth s2_ k0).2.2.2.2.2.2).toList) && true))))))) = true := bnot_f h7
        have h7nl : ((a0.1 == (nth s2_ k0).1)) = true := and_l h7n
        have h7nld := eq_of_beq h7nl
        have h7nr : (((a0.2.1 == (nth s2_ k0).2.1) && ((a0.2.2.1 == (nth s2_ k0).2.2.1) && ((a0.2.2.2.1.toList == ((nth s2_ k0).2.2.2.1).toList) && ((a0.2.2.2.2.1 == (nth s2_ k0).2.2.2.2.1) && ((a0.2.2.2.2.2.1 == (nth s2_ k0).2.2.2.2.2.1) && ((a0.2.2.2.2.2.2.toList == ((nth s2_ k0).2.2.2.2.2.2).toList) && true))))))) = true := and_r h7n
        have h7nrl : ((a0.2.1 == (nth s2_ k0).2.1)) = true := and_l h7nr
        have h7nrld := eq_of_beq h7nrl
        have h7nrr : (((a0.2.2.1 == (nth s2_ k0).2.2.1) && ((a0.2.2.2.1.toList == ((nth s2_ k0).2.2.2.1).toList) && ((a0.2.2.2.2.1 == (nth s2_ k0).2.2.2.2.1) && ((a0.2.2.2.2.2.1 == (nth s2_ k0).2.2.2.2.2.1) && ((a0.2.2.2.2.2.2.toList == ((nth s2_ k0).2.2.2.2.2.2).toList) && true)))))) = true := and_r h7nr
        have h7nrrl : ((a0.2.2.1 == (nth s2_ k0).2.2.1)) = true := and_l h7nrr
        have h7nrrld := eq_of_beq h7nrrl
        have h7nrrr : (((a0.2.2.2.1.toList == ((nth s2_ k0).2.2.2.1).toList) && ((a0.2.2.2.2.1 == (nth s2_ k0).2.2.2.2.1) && ((a0.2.2.2.2.2.1 == (nth s2_ k0).2.2.2.2.2.1) && ((a0.2.2.2.2.2.2.toList == ((nth s2_ k0).2.2.2.2.2.2).toList) && true))))) = true := and_r h7nrr
        have h7nrrrl : ((a0.2.2.2.1.toList == ((nth s2_ k0).2.2.2.1).toList)) = true := and_l h7nrrr
        have h7nrrrr : (((a0.2.2.2.2.1 == (nth s2_ k0).2.2.2.2.1) && ((a0.2.2.2.2.2.1 == (nth s2_ k0).2.2.2.2.2.1) && ((a0.2.2.2.2.2.2.toList == ((nth s2_ k0).2.2.2.2.2.2).toList) && true)))) = true := and_r h7nrrr
        have h7nrrrrl : ((a0.2.2.2.2.1 == (nth s2_ k0).2.2.2.2.1)) = true := and_l h7nrrrr
        have h7nrrrrld := eq_of_beq h7nrrrrl
        have h7nrrrrr : (((a0.2.2.2.2.2.1 == (nth s2_ k0).2.2.2.2.2.1) && ((a0.2.2.2.2.2.2.toList == ((nth s2_ k0).2.2.2.2.2.2).toList) && true))) = true := and_r h7nrrrr
        have h7nrrrrrl : ((a0.2.2.2.2.2.1 == (nth s2_ k0).2.2.2.2.2.1)) = true := and_l h7nrrrrr
        have h7nrrrrrld := eq_of_beq h7nrrrrrl
        have h7nrrrrrr : (((a0.2.2.2.2.2.2.toList == ((nth s2_ k0).2.2.2.2.2.2).toList) && true)) = true := and_r h7nrrrrr
        have h7nrrrrrrl : ((a0.2.2.2.2.2.2.toList == ((nth s2_ k0).2.2.2.2.2.2).toList)) = true := and_l h7nrrrrrr
        have h7nrrrrrrr : (true) = true := and_r h7nrrrrrr
        refine awp_skip ?_
        refine rk tt_ok [(13, .i ((k0 + 1 : Nat) : Int))] [13, 24] [] [] [(0, .val (.i ((k0 + 1 : Nat) : Int)))] (o1 (ob_eq (av_i (wrap_succ k0 (by omega))))) ?_
        exact Exists.intro () (And.intro (weak_fit (by kernel_rfl)) (forL_next hx0 (bif_f h7 (rfl)) hI0))
    · -- exit
      refine awp_seq ?_
      refine rk tt_ok [(14, .b false)] [] [] [] [(0, .val (.b false))] (o1 (ob_eq (av_bool (decide_eq_false (p := ((k0 : Nat) : Int) < (s1_.length : Int)) (by omega))))) ?_
      refine awp_seq ?_
      refine ckF ?_
      refine awp_exit ?_
      exact Exists.intro () (And.intro (weak_fit (by kernel_rfl)) (forL_end hk0 (rfl) hI0))
    · -- behind
      refine awp_seq ?_
      refine rk tt_ok [(4, .b true)] [4] [] [] [] (o0) ?_
      refine awp_ret ?_
      exact pret [] (congrArg (fun z => (.b z : AV)) (show slicesEqual_Node s1_ s2_ = true from bif_f h1 (on_b hD0 (rfl))).symm)
def implEqualQueries (a_ : (List NodeD)) (b : (List NodeD)) : Bool := (slicesEqual_Node a_ b)
theorem implEqualQueries_a (a_ : (List NodeD)) (b : (List NodeD)) : ACalls Tryz.prog 138 [.h a_, .h b] (.b (implEqualQueries a_ b)) := by
  refine acalls_of (tt := tt) tt_ok Tryz.func138 (fn := Tryz.f138) rfl (by unfold FnOk; kernel_rfl) (Nat.le_of_ble_eq_true rfl) fun w0 F0 => ?_
  refine awp_seq ?_
  refine rk tt_ok [(4, .b false)] [] [] [] [] (o0) ?_
  refine awp_seq ?_
  refine rk tt_ok [(4, .b (slicesEqual_Node a_ b))] [0, 1, 4] [] [] [(2, .val (.b (slicesEqual_Node a_ b)))] (o1 (ob_call (slicesEqual_Node_a a_ b))) ?_
  refine awp_ret ?_
  exact pret [] (congrArg (fun z => (.b z : AV)) (show implEqualQueries a_ b = (slicesEqual_Node a_ b) from rfl).symm)
def implEqualDirs_1 (x : DirD) (y_ : DirD) : Bool := ((x.1.toList == y_.1.toList) && (implEqualQueries x.2 y_.2))
theorem implEqualDirs_1_a (x : DirD) (y_ : DirD) : ACalls Tryz.prog 137 [.a [.s x.1, .h x.2], .a [.s y_.1, .h y_.2]] (.b (implEqualDirs_1 x y_)) := by
  refine acalls_of (tt := tt) tt_ok Tryz.func137 (fn := Tryz.f137) rfl (by unfold FnOk; kernel_rfl) (Nat.le_of_ble_eq_true rfl) fun w0 F0 => ?_
  refine awp_seq ?_
  refine rk tt_ok [(2, .p 2 0), (3, .p 3 0), (4, .b false)] [0, 1] [(2, [.s x.1, .h x.2]), (3, [.s y_.1, .h y_.2])] [] [] (o0) ?_
  refine awp_seq ?_
  refine jn [(4, .b ((x.1.toList == y_.1.toList) && (implEqualQueries x.2 y_.2)))] [2, 3, 4] [] [2, 3] (x.1.toList == y_.1.toList) (fun h1 => ?_) (fun h1 => ?_) ?_
  · -- True
    refine rk tt_ok [(4, .b (implEqualQueries x.2 y_.2))] [2, 3, 4] [] [2, 3] [(4, .val (.b true)), (10, .val (.b (implEqualQueries x.2 y_.2)))] (o2 (ob_eq (av_bool h1)) (o1 (ob_call (implEqualQueries_a x.2 y_.2)))) ?_
    exact ⟨rfl, weak_fit (by rw [h1]; first | done | kernel_rfl)⟩
  · -- False
    refine rk tt_ok [] [2, 3] [] [2, 3] [(4, .val (.b false))] (o1 (ob_eq (av_bool h1))) ?_
    exact ⟨rfl, weak_fit (by rw [h1]; first | done | kernel_rfl)⟩
  refine awp_ret ?_
  exact pret [] (congrArg (fun z => (.b z : AV)) (show implEqualDirs_1 x y_ = ((x.1.toList == y_.1.toList) && (implEqualQueries x.2 y_.2)) from rfl).symm)
def slicesEqualFunc_Dir_implEqualDirs_1_f0 (s2_ : (List DirD)) (k0 : Nat) (a0 : DirD) (_ : Unit) : Rd (Bool) (Unit) (Unit) := (bif (!(implEqualDirs_1 a0 (nth s2_ k0))) then (.ret false) else (.next ()))
def slicesEqualFunc_Dir_implEqualDirs_1_e0 (_ : Nat) (_ : Unit) : Unit := ()
def slicesEqualFunc_Dir_implEqualDirs_1 (s1_ : (List DirD)) (s2_ : (List DirD)) : Bool := (bif ((s1_.length : Int) != (s2_.length : Int)) then false else (Out.on (forL (slicesEqualFunc_Dir_implEqualDirs_1_f0 s2_) slicesEqualFunc_Dir_implEqualDirs_1_e0 s1_ 0 ()) (fun _ => true)))
theorem slicesEqualFunc_Dir_implEqualDirs_1_a (s1_ : (List DirD)) (s2_ : (List DirD)) : ACalls Tryz.prog 136 [.h s1_, .h s2_, .one (.fnr 137 [])] (.b (slicesEqualFunc_Dir_implEqualDirs_1 s1_ s2_)) := by
  refine acalls_of (tt := tt) tt_ok Tryz.func136 (fn := Tryz.f136) rfl (by unfold FnOk; kernel_rfl) (Nat.le_of_ble_eq_true rfl) fun w0 F0 => ?_
  refine awp_seq ?_
  refine rk tt_ok [(6, .b false)] [] [] [] [] (o0) ?_
  refine awp_seq ?_
  refine awp_seq ?_
  refine rk tt_ok [(14, .b ((s1_.length : Int) != (s2_.length : Int)))] [] [] [] [(1, .val (.i (s1_.length : Int))), (3, .val (.i (s2_.length : Int)))] (o2 (ob_eq (av_len s1_)) (o1 (ob_eq (av_len s2_)))) ?_
  refine ck ((s1_.length : Int) != (s2_.length : Int)) (fun h1 => ?_) (fun h1 => ?_)
  · -- True
    have h1d := ne_of_bne h1
    refine awp_seq ?_
    refine rk tt_ok [] [14] [] [] [] (o0) ?_
    refine awp_ret ?_
    exact pret [] (congrArg (fun z => (.b z : AV)) (show slicesEqualFunc_Dir_implEqualDirs_1 s1_ s2_ = false from bif_t h1 (rfl)).symm)
  · -- False
    have h1d := eq_of_bne h1
    refine awp_skip ?_
    refine awp_seq ?_
    refine awp_seq ?_
    refine rk tt_ok [(15, .h s1_), (16, .i (s1_.length : Int)), (17, .i 0)] [0, 14] [] [] [(1, .val (.i (s1_.length : Int)))] (o1 (ob_eq (av_len s1_))) ?_
    refine wdT 15 0 .sh s1_ (fun hw2 => ?_)
    have hl3 : List.length s1_ ≤ 1073741824 := wide_len (hw2)
    refine blk (fun (k0 : Nat) (s0 : Unit) => [(17, .i ((k0 : Nat) : Int))]) [17] (fun k0 s0 => []) [] (fun (y0 : Unit) => []) [1, 2, 15, 16, 17] (fun y0 => []) [] (fun (k0 : Nat) (s0 : Unit) => (forL (slicesEqualFunc_Dir_implEqualDirs_1_f0 s2_) slicesEqualFunc_Dir_implEqualDirs_1_e0 s1_ 0 ()) = forL (slicesEqualFunc_Dir_implEqualDirs_1_f0 s2_) slicesEqualFunc_Dir_implEqualDirs_1_e0 (List.drop k0 s1_) k0 s0) (fun (y0 : Unit) => (forL (slicesEqualFunc_Dir_implEqualDirs_1_f0 s2_) slicesEqualFunc_Dir_implEqualDirs_1_e0 s1_ 0 ()) = .brk y0) s1_.length () (weak_fit (by kernel_rfl)) rfl (fun k0 s0 hk0 hI0 => ?_) (fun k0 s0 hk0 hI0 => ?_) (fun y0 hD0 => ?_)
    · -- round
      obtain ⟨a0, hx0⟩ := get_some (l := s1_) (i := k0) hk0
      refine awp_seq ?_
      refine rk tt_ok [(18, .b true)] [] [] [] [(0, .val (.b true))] (o1 (ob_eq (av_bool (decide_eq_true (p := ((k0 : Nat) : Int) < (s1_.length : Int)) (by omega))))) ?_
      refine awp_seq ?_
      refine ckT ?_
      refine awp_skip ?_
      refine awp_seq ?_
      refine awp_block ?_
      refine awp_seq ?_
      refine rk tt_ok [(7, .i ((k0 : Nat) : Int)), (8, .p 8 0)] [18] [(8, [.s a0.1, .h a0.2])] [] [(1, .row [.s a0.1, .h a0.2])] (o1 (ob_elem (el_of (i := ((k0 : Nat) : Int)) (by omega) rfl hx0))) ?_
      refine awp_seq ?_
      refine wdT 1 0 .sh s2_ (fun hw5 => ?_)
      have hl6 : List.length s2_ ≤ 1073741824 := wide_len (hw5)
      have hx4 : s2_[k0]? = some (nth s2_ k0) := nth_get (by omega)
      refine rk tt_ok [(9, .p 9 0)] [7] [(9, [.s ((nth s2_ k0).1), .h ((nth s2_ k0).2)])] [] [(2, .row [.s ((nth s2_ k0).1), .h ((nth s2_ k0).2)])] (o1 (ob_elem (el_of (i := ((k0 : Nat) : Int)) (by omega) rfl hx4))) ?_
      refine awp_seq ?_
      refine rk tt_ok [(30, .b (!(implEqualDirs_1 a0 (nth s2_ k0))))] [8, 9] [] [8, 9] [(3, .val (.b (implEqualDirs_1 a0 (nth s2_ k0))))] (o1 (ob_call (implEqualDirs_1_a a0 (nth s2_ k0)))) ?_
      refine ck (!(implEqualDirs_1 a0 (nth s2_ k0))) (fun h7 => ?_) (fun h7 => ?_)
      · -- True
        have h7n : (implEqualDirs_1 a0 (nth s2_ k0)) = false := bnot_t h7
        refine awp_seq ?_
        refine rk tt_ok [] [30] [] [] [] (o0) ?_
        refine awp_ret ?_
        have hr8 : (forL (slicesEqualFunc_Dir_implEqualDirs_1_f0 s2_) slicesEqualFunc_Dir_implEqualDirs_1_e0 s1_ 0 ()) = .ret false := forL_ret hx0 (bif_t h7 (rfl)) hI0
        exact pret [] (congrArg (fun z => (.b z : AV)) (show slicesEqualFunc_Dir_implEqualDirs_1 s1_ s2_ = false from bif_f h1 (on_r hr8)).symm)
      · -- False
        have h7n : (implEqualDirs_1 a0 (nth s2_ k0)) = true := bnot_f h7
        refine awp_skip ?_
        refine rk tt_ok [(17, .i ((k0 + 1 : Nat) : Int))] [17, 30] [] [] [(0, .val (.i ((k0 + 1 : Nat) : Int)))] (o1 (ob_eq (av_i (wrap_succ k0 (by omega))))) ?_
        exact Exists.intro () (And.intro (weak_fit (by kernel_rfl)) (forL_next hx0 (bif_f h7 (rfl)) hI0))
    · -- exit
      refine awp_seq ?_
      refine rk tt_ok [(18, .b false)] [] [] [] [(0, .val (.b false))] (o1 (ob_eq (av_bool (decide_eq_false (p := ((k0 : Nat) : Int) < (s1_.length : Int)) (by omega))))) ?_
      refine awp_seq ?_
      refine ckF ?_
      refine awp_exit ?_
      exact Exists.intro () (And.intro (weak_fit (by kernel_rfl)) (forL_end hk0 (rfl) hI0))
    · -- behind
      refine awp_seq ?_
      refine rk tt_ok [(6, .b true)] [6] [] [] [] (o0) ?_
      refine awp_ret ?_
      exact pret [] (congrArg (fun z => (.b z : AV)) (show slicesEqualFunc_Dir_implEqualDirs_1 s1_ s2_ = true from bif_f h1 (on_b hD0 (rfl))).symm)
def implEqualDirs (a_ : (List DirD)) (b : (List DirD)) : Bool := (slicesEqualFunc_Dir_implEqualDirs_1 a_ b)
theorem implEqualDirs_a (a_ : (List DirD)) (b : (List DirD)) : ACalls Tryz.prog 97 [.h a_, .h b] (.b (implEqualDirs a_ b)) := by
  refine acalls_of (tt := tt) tt_ok Tryz.func97 (fn := Tryz.f97) rfl (by unfold FnOk; kernel_rfl) (Nat.le_of_ble_eq_true rfl) fun w0 F0 => ?_
  refine awp_seq ?_
  refine rk tt_ok [(4, .b false)] [] [] [] [] (o0) ?_
  refine awp_seq ?_
  refine rk tt_ok [(4, .b (slicesEqualFunc_Dir_implEqualDirs_1 a_ b))] [0, 1, 4] [] [] [(2, .val (.b (slicesEqualFunc_Dir_implEqualDirs_1 a_ b)))] (o1 (ob_call (slicesEqualFunc_Dir_implEqualDirs_1_a a_ b))) ?_
  refine awp_ret ?_
  exact pret [] (congrArg (fun z => (.b z : AV)) (show implEqualDirs a_ b = (slicesEqualFunc_Dir_implEqualDirs_1 a_ b) from rfl).symm)
def slicesEqual_int_f0 (s2_ : (List Int)) (k0 : Nat) (a0 : Int) (_ : Unit) : Rd (Bool) (Unit) (Unit) := (bif (a0 != (nth s2_ k0)) then (.ret false) else (.next ()))
def slicesEqual_int_e0 (_ : Nat) (_ : Unit) : Unit := ()
def slicesEqual_int (s1_ : (List Int)) (s2_ : (List Int)) : Bool := (bif ((s1_.length : Int) != (s2_.length : Int)) then false else (Out.on (forL (slicesEqual_int_f0 s2_) slicesEqual_int_e0 s1_ 0 ()) (fun _ => true)))
theorem slicesEqual_int_a (s1_ : (List Int)) (s2_ : (List Int)) : ACalls Tryz.prog 50 [.h s1_, .h s2_] (.b (slicesEqual_int s1_ s2_)) := by
  refine acalls_of (tt := tt) tt_ok Tryz.func50 (fn := Tryz.f50) rfl (by unfold FnOk; kernel_rfl) (Nat.le_of_ble_eq_true rfl) fun w0 F0 => ?_
  refine awp_seq ?_
  refine rk tt_ok [(4, .b false)] [] [] [] [] (o0) ?_
  refine awp_seq ?_
  refine awp_seq ?_
  refine rk tt_ok [(10, .b ((s1_.length : Int) != (s2_.length : Int)))] [] [] [] [(1, .val (.i (s1_.length : Int))), (3, .val (.i (s2_.length : Int)))] (o2 (ob_eq (av_len s1_)) (o1 (ob_eq (av_len s2_)))) ?_
  refine ck ((s1_.length : Int) != (s2_.length : Int)) (fun h1 => ?_) (fun h1 => ?_)
  · -- True
    have h1d := ne_of_bne h1
    refine awp_seq ?_
    refine rk tt_ok [] [10] [] [] [] (o0) ?_
    refine awp_ret ?_
    exact pret [] (congrArg (fun z => (.b z : AV)) (show slicesEqual_int s1_ s2_ = false from bif_t h1 (rfl)).symm)
  · -- False
    have h1d := eq_of_bne h1
    refine awp_skip ?_
    refine awp_seq ?_
    refine awp_seq ?_
    refine rk tt_ok [(12, .i (s1_.length : Int)), (13, .i 0)] [10] [] [] [(1, .val (.i (s1_.length : Int)))] (o1 (ob_eq (av_len s1_))) ?_
    refine wdT 0 0 .sh s1_ (fun hw2 => ?_)
    have hl3 : List.length s1_ ≤ 1073741824 := wide_len (hw2)
    refine blk (fun (k0 : Nat) (s0 : Unit) => [(13, .i ((k0 : Nat) : Int))]) [13] (fun k0 s0 => []) [] (fun (y0 : Unit) => []) [0, 1, 12, 13] (fun y0 => []) [] (fun (k0 : Nat) (s0 : Unit) => (forL (slicesEqual_int_f0 s2_) slicesEqual_int_e0 s1_ 0 ()) = forL (slicesEqual_int_f0 s2_) slicesEqual_int_e0 (List.drop k0 s1_) k0 s0) (fun (y0 : Unit) => (forL (slicesEqual_int_f0 s2_) slicesEqual_int_e0 s1_ 0 ()) = .brk y0) s1_.length () (weak_fit (by kernel_rfl)) rfl (fun k0 s0 hk0 hI0 => ?_) (fun k0 s0 hk0 hI0 => ?_) (fun y0 hD0 => ?_)
    · -- round
      obtain ⟨a0, hx0⟩ := get_some (l := s1_) (i := k0) hk0
      refine awp_seq ?_
      refine rk tt_ok [(14, .b true)] [] [] [] [(0, .val (.b true))] (o1 (ob_eq (av_bool (decide_eq_true (p := ((k0 : Nat) : Int) < (s1_.length : Int)) (by omega))))) ?_
      refine awp_seq ?_
      refine ckT ?_
      refine awp_skip ?_
      refine awp_seq ?_
      refine awp_block ?_
      refine awp_seq ?_
      refine rk tt_ok [(5, .i ((k0 : Nat) : Int))] [14] [] [] [] (o0) ?_
      refine awp_seq ?_
      refine wdT 1 0 .sh s2_ (fun hw5 => ?_)
      have hl6 : List.length s2_ ≤ 1073741824 := wide_len (hw5)
      have hx4 : s2_[k0]? = some (nth s2_ k0) := nth_get (by omega)
      refine rd' tt_ok tt_mx [(24, .b (a0 != (nth s2_ k0)))] [5] [] [] [(2, .row [.i a0]), (6, .row [.i (nth s2_ k0)])] (o2 (ob_elem (el_of (i := ((k0 : Nat) : Int)) (by omega) rfl hx0)) (o1 (ob_elem (el_of (i := ((k0 : Nat) : Int)) (by omega) rfl hx4)))) ?_
      refine ck (a0 != (nth s2_ k0)) (fun h7 => ?_) (fun h7 => ?_)
      · -- True
        have h7d := ne_of_bne h7
        refine awp_seq ?_
        refine rk tt_ok [] [24] [] [] [] (o0) ?_
        refine awp_ret ?_
        have hr8 : (forL (slicesEqual_int_f0 s2_) slicesEqual_int_e0 s1_ 0 ()) = .ret false := forL_ret hx0 (bif_t h7 (rfl)) hI0
        exact pret [] (congrArg (fun z => (.b z : AV)) (show slicesEqual_int s1_ s2_ = false from bif_f h1 (on_r hr8)).symm)
      · -- False
        have h7d := eq_of_bne h7
        refine awp_skip ?_
        refine rk tt_ok [(13, .i ((k0 + 1 : Nat) : Int))] [13, 24] [] [] [(0, .val (.i ((k0 + 1 : Nat) : Int)))] (o1 (ob_eq (av_i (wrap_succ k0 (by omega))))) ?_
        exact Exists.intro () (And.intro (weak_fit (by kernel_rfl)) (forL_next hx0 (bif_f h7 (rfl)) hI0))
    · -- exit
      refine awp_seq ?_
      refine rk tt_ok [(14, .b false)] [] [] [] [(0, .val (.b false))] (o1 (ob_eq (av_bool (decide_eq_false (p := ((k0 : Nat) : Int) < (s1_.length : Int)) (by omega))))) ?_
      refine awp_seq ?_
      refine ckF ?_
      refine awp_exit ?_
      exact Exists.intro () (And.intro (weak_fit (by kernel_rfl)) (forL_end hk0 (rfl) hI0))
    · -- behind
      refine awp_seq ?_
      refine rk tt_ok [(4, .b true)] [4] [] [] [] (o0) ?_
      refine awp_ret ?_
      exact pret [] (congrArg (fun z => (.b z : AV)) (show slicesEqual_int s1_ s2_ = true from bif_f h1 (on_b hD0 (rfl))).symm)
def implEqualResults_1 (x : ResultD) (y_ : ResultD) : Bool := ((x.1.toList == y_.1.toList) && (slicesEqual_int x.2 y_.2))
theorem implEqualResults_1_a (x : ResultD) (y_ : ResultD) : ACalls Tryz.prog 140 [.a [.s x.1, .h x.2], .a [.s y_.1, .h y_.2]] (.b (implEqualResults_1 x y_)) := by
  refine acalls_of (tt := tt) tt_ok Tryz.func140 (fn := Tryz.f140) rfl (by unfold FnOk; kernel_rfl) (Nat.le_of_ble_eq_true rfl) fun w0 F0 => ?_
  refine awp_seq ?_
  refine rk tt_ok [(2, .p 2 0), (3, .p 3 0), (4, .b false)] [0, 1] [(2, [.s x.1, .h x.2]), (3, [.s y_.1, .h y_.2])] [] [] (o0) ?_
  refine awp_seq ?_
  refine jn [(4, .b ((x.1.toList == y_.1.toList) && (slicesEqual_int x.2 y_.2)))] [2, 3, 4] [] [2, 3] (x.1.toList == y_.1.toList) (fun h1 => ?_) (fun h1 => ?_) ?_
  · -- True
    refine rk tt_ok [(4, .b (slicesEqual_int x.2 y_.2))] [2, 3, 4] [] [2, 3] [(4, .val (.b true)), (10, .val (.b (slicesEqual_int x.2 y_.2)))] (o2 (ob_eq (av_bool h1)) (o1 (ob_call (slicesEqual_int_a x.2 y_.2)))) ?_
    exact ⟨rfl, weak_fit (by rw [h1]; first | done | kernel_rfl)⟩
  · -- False
    refine rk tt_ok [] [2, 3] [] [2, 3] [(4, .val (.b false))] (o1 (ob_eq (av_bool h1))) ?_
    exact ⟨rfl, weak_fit (by rw [h1]; first | done | kernel_rfl)⟩
  refine awp_ret ?_
  exact pret [] (congrArg (fun z => (.b z : AV)) (show implEqualResults_1 x y_ = ((x.1.toList == y_.1.toList) && (slicesEqual_int x.2 y_.2)) from rfl).symm)
def slicesEqualFunc_Result_implEqualResults_1_f0 (s2_ : (List ResultD)) (k0 : Nat) (a0 : ResultD) (_ : Unit) : Rd (Bool) (Unit) (Unit) := (bif (!(implEqualResults_1 a0 (nth s2_ k0))) then (.ret false) else (.next ()))
def slicesEqualFunc_Result_implEqualResults_1_e0 (_ : Nat) (_ : Unit) : Unit := ()
def slicesEqualFunc_Result_implEqualResults_1 (s1_ : (List ResultD)) (s2_ : (List ResultD)) : Bool := (bif ((s1_.length : Int) != (s2_.length : Int)) then false else (Out.on (forL (slicesEqualFunc_Result_implEqualResults_1_f0 s2_) slicesEqualFunc_Result_implEqualResults_1_e0 s1_ 0 ()) (fun _ => true)))
theorem slicesEqualFunc_Result_implEqualResults_1_a (s1_ : (List ResultD)) (s2_ : (List ResultD)) : ACalls Tryz.prog 139 [.h s1_, .h s2_, .one (.fnr 140 [])] (.b (slicesEqualFunc_Result_implEqualResults_1 s1_ s2_)) := by
  refine acalls_of (tt := tt) tt_ok Tryz.func139 (fn := Tryz.f139) rfl (by unfold FnOk; kernel_rfl) (Nat.le_of_ble_eq_true rfl) fun w0 F0 => ?_
  refine awp_seq ?_
  refine rk tt_ok [(6, .b false)] [] [] [] [] (o0) ?_
  refine awp_seq ?_
  refine awp_seq ?_
  refine rk tt_ok [(14, .b ((s1_.length : Int) != (s2_.length : Int)))] [] [] [] [(1, .val (.i (s1_.length : Int))), (3, .val (.i (s2_.length : Int)))] (o2 (ob_eq (av_len s1_)) (o1 (ob_eq (av_len s2_)))) ?_
  refine ck ((s1_.length : Int) != (s2_.length : Int)) (fun h1 => ?_) (fun h1 => ?_)
  · -- True
    have h1d := ne_of_bne h1
    refine awp_seq ?_
    refine rk tt_ok [] [14] [] [] [] (o0) ?_
    refine awp_ret ?_
    exact pret [] (congrArg (fun z => (.b z : AV)) (show slicesEqualFunc_Result_implEqualResults_1 s1_ s2_ = false from bif_t h1 (rfl)).symm)
  · -- False
    have h1d := eq_of_bne h1
    refine awp_skip ?_
    refine awp_seq ?_
    refine awp_seq ?_
    refine rk tt_ok [(15, .h s1_), (16, .i (s1_.length : Int)), (17, .i 0)] [0, 14] [] [] [(1, .val (.i (s1_.length : Int)))] (o1 (ob_eq (av_len s1_))) ?_
    refine wdT 15 0 .sh s1_ (fun hw2 => ?_)
    have hl3 : List.length s1_ ≤ 1073741824 := wide_len (hw2)
    refine blk (fun (k0 : Nat) (s0 : Unit) => [(17, .i ((k0 : Nat) : Int))]) [17] (fun k0 s0 => []) [] (fun (y0 : Unit) => []) [1, 2, 15, 16, 17] (fun y0 => []) [] (fun (k0 : Nat) (s0 : Unit) => (forL (slicesEqualFunc_Result_implEqualResults_1_f0 s2_) slicesEqualFunc_Result_implEqualResults_1_e0 s1_ 0 ()) = forL (slicesEqualFunc_Result_implEqualResults_1_f0 s2_) slicesEqualFunc_Result_implEqualResults_1_e0 (List.drop k0 s1_) k0 s0) (fun (y0 : Unit) => (forL (slicesEqualFunc_Result_implEqualResults_1_f0 s2_) slicesEqualFunc_Result_implEqualResults_1_e0 s1_ 0 ()) = .brk y0) s1_.length () (weak_fit (by kernel_rfl)) rfl (fun k0 s0 hk0 hI0 => ?_) (fun k0 s0 hk0 hI0 => ?_) (fun y0 hD0 => ?_)
    · -- round
      obtain ⟨a0, hx0⟩ := get_some (l := s1_) (i := k0) hk0
      refine awp_seq ?_
      refine rk tt_ok [(18, .b true)] [] [] [] [(0, .val (.b true))] (o1 (ob_eq (av_bool (decide_eq_true (p := ((k0 : Nat) : Int) < (s1_.length : Int)) (by omega))))) ?_
      refine awp_seq ?_
      refine ckT ?_
      refine awp_skip ?_
      refine awp_seq ?_
      refine awp_block ?_
      refine awp_seq ?_
      refine rk tt_ok [(7, .i ((k0 : Nat) : Int)), (8, .p 8 0)] [18] [(8, [.s a0.1, .h a0.2])] [] [(1, .row [.s a0.1, .h a0.2])] (o1 (ob_elem (el_of (i := ((k0 : Nat) : Int)) (by omega) rfl hx0))) ?_
      refine awp_seq ?_
      refine wdT 1 0 .sh s2_ (fun hw5 => ?_)
      have hl6 : List.length s2_ ≤ 1073741824 := wide_len (hw5)
      have hx4 : s2_[k0]? = some (nth s2_ k0) := nth_get (by omega)
      refine rk tt_ok [(9, .p 9 0)] [7] [(9, [.s ((nth s2_ k0).1), .h ((nth s2_ k0).2)])] [] [(2, .row [.s ((nth s2_ k0).1), .h ((nth s2_ k0).2)])] (o1 (ob_elem (el_of (i := ((k0 : Nat) : Int)) (by omega) rfl hx4))) ?_
      refine awp_seq ?_
      refine rk tt_ok [(30, .b (!(implEqualResults_1 a0 (nth s2_ k0))))] [8, 9] [] [8, 9] [(3, .val (.b (implEqualResults_1 a0 (nth s2_ k0))))] (o1 (ob_call (implEqualResults_1_a a0 (nth s2_ k0)))) ?_
      refine ck (!(implEqualResults_1 a0 (nth s2_ k0))) (fun h7 => ?_) (fun h7 => ?_)
      · -- True
        have h7n : (implEqualResults_1 a0 (nth s2_ k0)) = false := bnot_t h7
        refine awp_seq ?_
        refine rk tt_ok [] [30] [] [] [] (o0) ?_
        refine awp_ret ?_
        have hr8 : (forL (slicesEqualFunc_Result_implEqualResults_1_f0 s2_) slicesEqualFunc_Result_implEqualResults_1_e0 s1_ 0 ()) = .ret false := forL_ret hx0 (bif_t h7 (rfl)) hI0
        exact pret [] (congrArg (fun z => (.b z : AV)) (show slicesEqualFunc_Result_implEqualResults_1 s1_ s2_ = false from bif_f h1 (on_r hr8)).symm)
      · -- False
        have h7n : (implEqualResults_1 a0 (nth s2_ k0)) = true := bnot_f h7
        refine awp_skip ?_
        refine rk tt_ok [(17, .i ((k0 + 1 : Nat) : Int))] [17, 30] [] [] [(0, .val (.i ((k0 + 1 : Nat) : Int)))] (o1 (ob_eq (av_i (wrap_succ k0 (by omega))))) ?_
        exact Exists.intro () (And.intro (weak_fit (by kernel_rfl)) (forL_next hx0 (bif_f h7 (rfl)) hI0))
    · -- exit
      refine awp_seq ?_
      refine rk tt_ok [(18, .b false)] [] [] [] [(0, .val (.b false))] (o1 (ob_eq (av_bool (decide_eq_false (p := ((k0 : Nat) : Int) < (s1_.length : Int)) (by omega))))) ?_
      refine awp_seq ?_
      refine ckF ?_
      refine awp_exit ?_
      exact Exists.intro () (And.intro (weak_fit (by kernel_rfl)) (forL_end hk0 (rfl) hI0))
    · -- behind
      refine awp_seq ?_
      refine rk tt_ok [(6, .b true)] [6] [] [] [] (o0) ?_
      refine awp_ret ?_
      exact pret [] (congrArg (fun z => (.b z : AV)) (show slicesEqualFunc_Result_implEqualResults_1 s1_ s2_ = true from bif_f h1 (on_b hD0 (rfl))).symm)
def implEqualResults (a_ : (List ResultD)) (b : (List ResultD)) : Bool := (slicesEqualFunc_Result_implEqualResults_1 a_ b)
theorem implEqualResults_a (a_ : (List ResultD)) (b : (List ResultD)) : ACalls Tryz.prog 98 [.h a_, .h b] (.b (implEqualResults a_ b)) := by
  refine acalls_of (tt := tt) tt_ok Tryz.func98 (fn := Tryz.f98) rfl (by unfold FnOk; kernel_rfl) (Nat.le_of_ble_eq_true rfl) fun w0 F0 => ?_
  refine awp_seq ?_
  refine rk tt_ok [(4, .b false)] [] [] [] [] (o0) ?_
  refine awp_seq ?_
  refine rk tt_ok [(4, .b (slicesEqualFunc_Result_implEqualResults_1 a_ b))] [0, 1, 4] [] [] [(2, .val (.b (slicesEqualFunc_Result_implEqualResults_1 a_ b)))] (o1 (ob_call (slicesEqualFunc_Result_implEqualResults_1_a a_ b))) ?_
  refine awp_ret ?_
  exact pret [] (congrArg (fun z => (.b z : AV)) (show implEqualResults a_ b = (slicesEqualFunc_Result_implEqualResults_1 a_ b) from rfl).symm)
def implEqualCatalogs (a_ : CatalogD) (b : CatalogD) : Bool := ((implEqualStores a_.1 b.1) && ((implEqualDirs a_.2.1 b.2.1) && (implEqualResults a_.2.2 b.2.2)))
theorem implEqualCatalogs_a (a_ : CatalogD) (b : CatalogD) : ACalls Tryz.prog 46 [.a [.h a_.1.1, .h a_.1.2.1, .i a_.1.2.2, .h a_.2.1, .h a_.2.2], .a [.h b.1.1, .h b.1.2.1, .i b.1.2.2, .h b.2.1, .h b.2.2]] (.b (implEqualCatalogs a_ b)) := by
  refine acalls_of (tt := tt) tt_ok Tryz.func46 (fn := Tryz.f46) rfl (by unfold FnOk; kernel_rfl) (Nat.le_of_ble_eq_true rfl) fun w0 F0 => ?_
  refine awp_seq ?_
  refine rk tt_ok [(2, .p 2 0), (3, .p 3 0), (4, .b false)] [0, 1] [(2, [.h a_.1.1, .h a_.1.2.1, .i a_.1.2.2, .h a_.2.1, .h a_.2.2]), (3, [.h b.1.1, .h b.1.2.1, .i b.1.2.2, .h b.2.1, .h b.2.2])] [] [] (o0) ?_
  refine awp_seq ?_
  refine jn [(4, .b ((implEqualStores a_.1 b.1) && ((implEqualDirs a_.2.1 b.2.1) && (implEqualResults a_.2.2 b.2.2))))] [2, 3, 4] [] [2, 3] (implEqualStores a_.1 b.1) (fun h1 => ?_) (fun h1 => ?_) ?_
  · -- True
    refine awp_split (implEqualDirs a_.2.1 b.2.1) (fun h2 => ?_) (fun h2 => ?_)
    · -- True
      refine rk tt_ok [(4, .b (implEqualResults a_.2.2 b.2.2))] [2, 3, 4] [] [2, 3] [(4, .val (.b true)), (10, .val (.b true)), (17, .val (.b (implEqualResults a_.2.2 b.2.2)))] (o2 (ob_call (cb h1 (implEqualStores_a a_.1 b.1))) (o2 (ob_call (cb h2 (implEqualDirs_a a_.2.1 b.2.1))) (o1 (ob_call (implEqualResults_a a_.2.2 b.2.2))))) ?_
      exact ⟨rfl, weak_fit (by rw [h1, h2]; first | done | kernel_rfl)⟩
    · -- False
      refine rk tt_ok [] [2, 3] [] [2, 3] [(4, .val (.b true)), (10, .val (.b false))] (o2 (ob_call (cb h1 (implEqualStores_a a_.1 b.1))) (o1 (ob_call (cb h2 (implEqualDirs_a a_.2.1 b.2.1))))) ?_
      exact ⟨rfl, weak_fit (by rw [h1, h2]; first | done | kernel_rfl)⟩
  · -- False
    refine rk tt_ok [] [2, 3] [] [2, 3] [(4, .val (.b false))] (o1 (ob_call (cb h1 (implEqualStores_a a_.1 b.1)))) ?_
    exact ⟨rfl, weak_fit (by rw [h1]; first | done | kernel_rfl)⟩
  refine awp_ret ?_
  exact pret [] (congrArg (fun z => (.b z : AV)) (show implEqualCatalogs a_ b = ((implEqualStores a_.1 b.1) && ((implEqualDirs a_.2.1 b.2.1) && (implEqualResults a_.2.2 b.2.2))) from rfl).symm)
def implEqualSnapshots (a_ : SnapshotD) (b : SnapshotD) : Bool := ((implEqualStores a_.1 b.1) && (implEqualDirs a_.2 b.2))
theorem implEqualSnapshots_a (a_ : SnapshotD) (b : SnapshotD) : ACalls Tryz.prog 101 [.a [.h a_.1.1, .h a_.1.2.1, .i a_.1.2.2, .h a_.2], .a [.h b.1.1, .h b.1.2.1, .i b.1.2.2, .h b.2]] (.b (implEqualSnapshots a_ b)) := by
  refine acalls_of (tt := tt) tt_ok Tryz.func101 (fn := Tryz.f101) rfl (by unfold FnOk; kernel_rfl) (Nat.le_of_ble_eq_true rfl) fun w0 F0 => ?_
  refine awp_seq ?_
  refine rk tt_ok [(2, .p 2 0), (3, .p 3 0), (4, .b false)] [0, 1] [(2, [.h a_.1.1, .h a_.1.2.1, .i a_.1.2.2, .h a_.2]), (3, [.h b.1.1, .h b.1.2.1, .i b.1.2.2, .h b.2])] [] [] (o0) ?_
  refine awp_seq ?_
  refine jn [(4, .b ((implEqualStores a_.1 b.1) && (implEqualDirs a_.2 b.2)))] [2, 3, 4] [] [2, 3] (implEqualStores a_.1 b.1) (fun h1 => ?_) (fun h1 => ?_) ?_
  · -- True
    refine rk tt_ok [(4, .b (implEqualDirs a_.2 b.2))] [2, 3, 4] [] [2, 3] [(4, .val (.b true)), (10, .val (.b (implEqualDirs a_.2 b.2)))] (o2 (ob_call (cb h1 (implEqualStores_a a_.1 b.1))) (o1 (ob_call (implEqualDirs_a a_.2 b.2)))) ?_
    exact ⟨rfl, weak_fit (by rw [h1]; first | done | kernel_rfl)⟩
  · -- False
    refine rk tt_ok [] [2, 3] [] [2, 3] [(4, .val (.b false))] (o1 (ob_call (cb h1 (implEqualStores_a a_.1 b.1)))) ?_
    exact ⟨rfl, weak_fit (by rw [h1]; first | done | kernel_rfl)⟩
  refine awp_ret ?_
  exact pret [] (congrArg (fun z => (.b z : AV)) (show implEqualSnapshots a_ b = ((implEqualStores a_.1 b.1) && (implEqualDirs a_.2 b.2)) from rfl).symm)
def implEqualVersions_1 (x : VersionD) (y_ : VersionD) : Bool := ((x.1 == y_.1) && ((x.2.2 == y_.2.2) && (implEqualSnapshots x.2.1 y_.2.1)))
theorem implEqualVersions_1_a (x : VersionD) (y_ : VersionD) : ACalls Tryz.prog 100 [.a [.i x.1, .h x.2.1.1.1, .h x.2.1.1.2.1, .i x.2.1.1.2.2, .h x.2.1.2, .i x.2.2], .a [.i y_.1, .h y_.2.1.1.1, .h y_.2.1.1.2.1, .i y_.2.1.1.2.2, .h y_.2.1.2, .i y_.2.2]] (.b (implEqualVersions_1 x y_)) := by
  refine acalls_of (tt := tt) tt_ok Tryz.func100 (fn := Tryz.f100) rfl (by unfold FnOk; kernel_rfl) (Nat.le_of_ble_eq_true rfl) fun w0 F0 => ?_
  refine awp_seq ?_
  refine rk tt_ok [(2, .p 2 0), (3, .p 3 0), (4, .b false)] [0, 1] [(2, [.i x.1, .h x.2.1.1.1, .h x.2.1.1.2.1, .i x.2.1.1.2.2, .h x.2.1.2, .i x.2.2]), (3, [.i y_.1, .h y_.2.1.1.1, .h y_.2.1.1.2.1, .i y_.2.1.1.2.2, .h y_.2.1.2, .i y_.2.2])] [] [] (o0) ?_
  refine awp_seq ?_
  refine jn [(4, .b ((x.1 == y_.1) && ((x.2.2 == y_.2.2) && (implEqualSnapshots x.2.1 y_.2.1))))] [2, 3, 4] [] [2, 3] (x.1 == y_.1) (fun h1 => ?_) (fun h1 => ?_) ?_
  · -- True
    have h1d := eq_of_beq h1
    refine awp_split (x.2.2 == y_.2.2) (fun h2 => ?_) (fun h2 => ?_)
    · -- True
      have h2d := eq_of_beq h2
      refine rk tt_ok [(4, .b (implEqualSnapshots x.2.1 y_.2.1))] [2, 3, 4] [] [2, 3] [(4, .val (.b true)), (10, .val (.b true)), (17, .val (.b (implEqualSnapshots x.2.1 y_.2.1)))] (o2 (ob_eq (av_bool h1)) (o2 (ob_eq (av_bool h2)) (o1 (ob_call (implEqualSnapshots_a x.2.1 y_.2.1))))) ?_
      exact ⟨rfl, weak_fit (by rw [h1, h2]; first | done | kernel_rfl)⟩
    · -- False
      have h2d := ne_of_beq h2
      refine rk tt_ok [] [2, 3] [] [2, 3] [(4, .val (.b true)), (10, .val (.b false))] (o2 (ob_eq (av_bool h1)) (o1 (ob_eq (av_bool h2)))) ?_
      exact ⟨rfl, weak_fit (by rw [h1, h2]; first | done | kernel_rfl)⟩
  · -- False
    have h1d := ne_of_beq h1
    refine rk tt_ok [] [2, 3] [] [2, 3] [(4, .val (.b false))] (o1 (ob_eq (av_bool h1))) ?_
    exact ⟨rfl, weak_fit (by rw [h1]; first | done | kernel_rfl)⟩
  refine awp_ret ?_
  exact pret [] (congrArg (fun z => (.b z : AV)) (show implEqualVersions_1 x y_ = ((x.1 == y_.1) && ((x.2.2 == y_.2.2) && (implEqualSnapshots x.2.1 y_.2.1))) from rfl).symm)
def slicesEqualFunc_Version_implEqualVersions_1_f0 (s2_ : (List VersionD)) (k0 : Nat) (a0 : VersionD) (_ : Unit) : Rd (Bool) (Unit) (Unit) := (bif (!(implEqualVersions_1 a0 (nth s2_ k0))) then (.ret false) else (.next ()))
def slicesEqualFunc_Version_implEqualVersions_1_e0 (_ : Nat) (_ : Unit) : Unit := ()
def slicesEqualFunc_Version_implEqualVersions_1 (s1_ : (List VersionD)) (s2_ : (List VersionD)) : Bool := (bif ((s1_.length : Int) != (s2_.length : Int)) then false else (Out.on (forL (slicesEqualFunc_Version_implEqualVersions_1_f0 s2_) slicesEqualFunc_Version_implEqualVersions_1_e0 s1_ 0 ()) (fun _ => true)))
theorem slicesEqualFunc_Version_implEqualVersions_1_a (s1_ : (List VersionD)) (s2_ : (List VersionD)) : ACalls Tryz.prog 99 [.h s1_, .h s2_, .one (.fnr 100 [])] (.b (slicesEqualFunc_Version_implEqualVersions_1 s1_ s2_)) := by
  refine acalls_of (tt := tt) tt_ok Tryz.func99 (fn := Tryz.f99) rfl (by unfold FnOk; kernel_rfl) (Nat.le_of_ble_eq_true rfl) fun w0 F0 => ?_
  refine awp_seq ?_
  refine rk tt_ok [(6, .b false)] [] [] [] [] (o0) ?_
  refine awp_seq ?_
  refine awp_seq ?_
  refine rk tt_ok [(14, .b ((s1_.length : Int) != (s2_.length : Int)))] [] [] [] [(1, .val (.i (s1_.length : Int))), (3, .val (.i (s2_.length : Int)))] (o2 (ob_eq (av_len s1_)) (o1 (ob_eq (av_len s2_)))) ?_
  refine ck ((s1_.length : Int) != (s2_.length : Int)) (fun h1 => ?_) (fun h1 => ?_)
  · -- True
    have h1d := ne_of_bne h1
    refine awp_seq ?_
    refine rk tt_ok [] [14] [] [] [] (o0) ?_
    refine awp_ret ?_
    exact pret [] (congrArg (fun z => (.b z : AV)) (show slicesEqualFunc_Version_implEqualVersions_1 s1_ s2_ = false from bif_t h1 (rfl)).symm)
  · -- False
    have h1d := eq_of_bne h1
    refine awp_skip ?_
    refine awp_seq ?_
    refine awp_seq ?_
    refine rk tt_ok [(15, .h s1_), (16, .i (s1_.length : Int)), (17, .i 0)] [0, 14] [] [] [(1, .val (.i (s1_.length : Int)))] (o1 (ob_eq (av_len s1_))) ?_
    refine wdT 15 0 .sh s1_ (fun hw2 => ?_)
    have hl3 : List.length s1_ ≤ 1073741824 := wide_len (hw2)
    refine blk (fun (k0 : Nat) (s0 : Unit) => [(17, .i ((k0 : Nat) : Int))]) [17] (fun k0 s0 => []) [] (fun (y0 : Unit) => []) [1, 2, 15, 16, 17] (fun y0 => []) [] (fun (k0 : Nat) (s0 : Unit) => (forL (slicesEqualFunc_Version_implEqualVersions_1_f0 s2_) slicesEqualFunc_Version_implEqualVersions_1_e0 s1_ 0 ()) = forL (slicesEqualFunc_Version_implEqualVersions_1_f0 s2_) slicesEqualFunc_Version_implEqualVersions_1_e0 (List.drop k0 s1_) k0 s0) (fun (y0 : Unit) => (forL (slicesEqualFunc_Version_implEqualVersions_1_f0 s2_) slicesEqualFunc_Version_implEqualVersions_1_e0 s1_ 0 ()) = .brk y0) s1_.length () (weak_fit (by kernel_rfl)) rfl (fun k0 s0 hk0 hI0 => ?_) (fun k0 s0 hk0 hI0 => ?_) (fun y0 hD0 => ?_)
    · -- round
      obtain ⟨a0, hx0⟩ := get_some (l := s1_) (i := k0) hk0
      refine awp_seq ?_
      refine rk tt_ok [(18, .b true)] [] [] [] [(0, .val (.b true))] (o1 (ob_eq (av_bool (decide_eq_true (p := ((k0 : Nat) : Int) < (s1_.length : Int)) (by omega))))) ?_
      refine awp_seq ?_
      refine ckT ?_
      refine awp_skip ?_
      refine awp_seq ?_
      refine awp_block ?_
      refine awp_seq ?_
      refine rk tt_ok [(7, .i ((k0 : Nat) : Int)), (8, .p 8 0)] [18] [(8, [.i a0.1, .h a0.2.1.1.1, .h a0.2.1.1.2.1, .i a0.2.1.1.2.2, .h a0.2.1.2, .i a0.2.2])] [] [(1, .row [.i a0.1, .h a0.2.1.1.1, .h a0.2.1.1.2.1, .i a0.2.1.1.2.2, .h a0.2.1.2, .i a0.2.2])] (o1 (ob_elem (el_of (i := ((k0 : Nat) : Int)) (by omega) rfl hx0))) ?_
      refine awp_seq ?_
      refine wdT 1 0 .sh s2_ (fun hw5 => ?_)
      have hl6 : List.length s2_ ≤ 1073741824 := wide_len (hw5)
      have hx4 : s2_[k0]? = some (nth s2_ k0) := nth_get (by omega)
      refine rk tt_ok [(9, .p 9 0)] [7] [(9, [.i ((nth s2_ k0).1), .h ((nth s2_ k0).2.1.1.1), .h ((nth s2_ k0).2.1.1.2.1), .i ((nth s2_ k0).2.1.1.2.2), .h ((nth s2_ k0).2.1.2), .i ((nth s2_ k0).2.2)])] [] [(2, .row [.i ((nth s2_ k0).1), .h ((nth s2_ k0).2.1.1.1), .h ((nth s2_ k0).2.1.1.2.1), .i ((nth s2_ k0).2.1.1.2.2), .h ((nth s2_ k0).2.1.2), .i ((nth s2_ k0).2.2)])] (o1 (ob_elem (el_of (i := ((k0 : Nat) : Int)) (by omega) rfl hx4))) ?_
      refine awp_seq ?_
      refine rk tt_ok [(30, .b (!(implEqualVersions_1 a0 (nth s2_ k0))))] [8, 9] [] [8, 9] [(3, .val (.b (implEqualVersions_1 a0 (nth s2_ k0))))] (o1 (ob_call (implEqualVersions_1_a a0 (nth s2_ k0)))) ?_
      refine ck (!(implEqualVersions_1 a0 (nth s2_ k0))) (fun h7 => ?_) (fun h7 => ?_)
      · -- True
        have h7n : (implEqualVersions_1 a0 (nth s2_ k0)) = false := bnot_t h7
        refine awp_seq ?_
        refine rk tt_ok [] [30] [] [] [] (o0) ?_
        refine awp_ret ?_
        have hr8 : (forL (slicesEqualFunc_Version_implEqualVersions_1_f0 s2_) slicesEqualFunc_Version_implEqualVersions_1_e0 s1_ 0 ()) = .ret false := forL_ret hx0 (bif_t h7 (rfl)) hI0
        exact pret [] (congrArg (fun z => (.b z : AV)) (show slicesEqualFunc_Version_implEqualVersions_1 s1_ s2_ = false from bif_f h1 (on_r hr8)).symm)
      · -- False
        have h7n : (implEqualVersions_1 a0 (nth s2_ k0)) = true := bnot_f h7
        refine awp_skip ?_
        refine rk tt_ok [(17, .i ((k0 + 1 : Nat) : Int))] [17, 30] [] [] [(0, .val (.i ((k0 + 1 : Nat) : Int)))] (o1 (ob_eq (av_i (wrap_succ k0 (by omega))))) ?_
        exact Exists.intro () (And.intro (weak_fit (by kernel_rfl)) (forL_next hx0 (bif_f h7 (rfl)) hI0))
    · -- exit
      refine awp_seq ?_
      refine rk tt_ok [(18, .b false)] [] [] [] [(0, .val (.b false))] (o1 (ob_eq (av_bool (decide_eq_false (p := ((k0 : Nat) : Int) < (s1_.length : Int)) (by omega))))) ?_
      refine awp_seq ?_
      refine ckF ?_
      refine awp_exit ?_
      exact Exists.intro () (And.intro (weak_fit (by kernel_rfl)) (forL_end hk0 (rfl) hI0))
    · -- behind
      refine awp_seq ?_
      refine rk tt_ok [(6, .b true)] [6] [] [] [] (o0) ?_
      refine awp_ret ?_
      exact pret [] (congrArg (fun z => (.b z : AV)) (show slicesEqualFunc_Version_implEqualVersions_1 s1_ s2_ = true from bif_f h1 (on_b hD0 (rfl))).symm)
def implEqualVersions (a_ : (List VersionD)) (b : (List VersionD)) : Bool := (slicesEqualFunc_Version_implEqualVersions_1 a_ b)
theorem implEqualVersions_a (a_ : (List VersionD)) (b : (List VersionD)) : ACalls Tryz.prog 47 [.h a_, .h b] (.b (implEqualVersions a_ b)) := by
  refine acalls_of (tt := tt) tt_ok Tryz.func47 (fn := Tryz.f47) rfl (by unfold FnOk; kernel_rfl) (Nat.le_of_ble_eq_true rfl) fun w0 F0 => ?_
  refine awp_seq ?_
  refine rk tt_ok [(4, .b false)] [] [] [] [] (o0) ?_
  refine awp_seq ?_
  refine rk tt_ok [(4, .b (slicesEqualFunc_Version_implEqualVersions_1 a_ b))] [0, 1, 4] [] [] [(2, .val (.b (slicesEqualFunc_Version_implEqualVersions_1 a_ b)))] (o1 (ob_call (slicesEqualFunc_Version_implEqualVersions_1_a a_ b))) ?_
  refine awp_ret ?_
  exact pret [] (congrArg (fun z => (.b z : AV)) (show implEqualVersions a_ b = (slicesEqualFunc_Version_implEqualVersions_1 a_ b) from rfl).symm)
def implequalWatches_1 (x : EventD) (y_ : EventD) : Bool := ((x.1 == y_.1) && ((slicesEqual_int x.2.1 y_.2.1) && (slicesEqual_int x.2.2 y_.2.2)))
theorem implequalWatches_1_a (x : EventD) (y_ : EventD) : ACalls Tryz.prog 103 [.a [.i x.1, .h x.2.1, .h x.2.2], .a [.i y_.1, .h y_.2.1, .h y_.2.2]] (.b (implequalWatches_1 x y_)) := by
  refine acalls_of (tt := tt) tt_ok Tryz.func103 (fn := Tryz.f103) rfl (by unfold FnOk; kernel_rfl) (Nat.le_of_ble_eq_true rfl) fun w0 F0 => ?_
  refine awp_seq ?_
  refine rk tt_ok [(2, .p 2 0), (3, .p 3 0), (4, .b false)] [0, 1] [(2, [.i x.1, .h x.2.1, .h x.2.2]), (3, [.i y_.1, .h y_.2.1, .h y_.2.2])] [] [] (o0) ?_
  refine awp_seq ?_
  refine jn [(4, .b ((x.1 == y_.1) && ((slicesEqual_int x.2.1 y_.2.1) && (slicesEqual_int x.2.2 y_.2.2))))] [2, 3, 4] [] [2, 3] (x.1 == y_.1) (fun h1 => ?_) (fun h1 => ?_) ?_
  · -- True
    have h1d := eq_of_beq h1
    refine awp_split (slicesEqual_int x.2.1 y_.2.1) (fun h2 => ?_) (fun h2 => ?_)
    · -- True
      refine rk tt_ok [(4, .b (slicesEqual_int x.2.2 y_.2.2))] [2, 3, 4] [] [2, 3] [(4, .val (.b true)), (10, .val (.b true)), (17, .val (.b (slicesEqual_int x.2.2 y_.2.2)))] (o2 (ob_eq (av_bool h1)) (o2 (ob_call (cb h2 (slicesEqual_int_a x.2.1 y_.2.1))) (o1 (ob_call (slicesEqual_int_a x.2.2 y_.2.2))))) ?_
      exact ⟨rfl, weak_fit (by rw [h1, h2]; first | done | kernel_rfl)⟩
    · -- False
      refine rk tt_ok [] [2, 3] [] [2, 3] [(4, .val (.b true)), (10, .val (.b false))] (o2 (ob_eq (av_bool h1)) (o1 (ob_call (cb h2 (slicesEqual_int_a x.2.1 y_.2.1))))) ?_
      exact ⟨rfl, weak_fit (by rw [h1, h2]; first | done | kernel_rfl)⟩
  · -- False
    have h1d := ne_of_beq h1
    refine rk tt_ok [] [2, 3] [] [2, 3] [(4, .val (.b false))] (o1 (ob_eq (av_bool h1))) ?_
    exact ⟨rfl, weak_fit (by rw [h1]; first | done | kernel_rfl)⟩
  refine awp_ret ?_
  exact pret [] (congrArg (fun z => (.b z : AV)) (show implequalWatches_1 x y_ = ((x.1 == y_.1) && ((slicesEqual_int x.2.1 y_.2.1) && (slicesEqual_int x.2.2 y_.2.2))) from rfl).symm)
def slicesEqualFunc_Event_implequalWatches_1_f0 (s2_ : (List EventD)) (k0 : Nat) (a0 : EventD) (_ : Unit) : Rd (Bool) (Unit) (Unit) := (bif (!(implequalWatches_1 a0 (nth s2_ k0))) then (.ret false) else (.next ()))
def slicesEqualFunc_Event_implequalWatches_1_e0 (_ : Nat) (_ : Unit) : Unit := ()
def slicesEqualFunc_Event_implequalWatches_1 (s1_ : (List EventD)) (s2_ : (List EventD)) : Bool := (bif ((s1_.length : Int) != (s2_.length : Int)) then false else (Out.on (forL (slicesEqualFunc_Event_implequalWatches_1_f0 s2_) slicesEqualFunc_Event_implequalWatches_1_e0 s1_ 0 ()) (fun _ => true)))
theorem slicesEqualFunc_Event_implequalWatches_1_a (s1_ : (List EventD)) (s2_ : (List EventD)) : ACalls Tryz.prog 102 [.h s1_, .h s2_, .one (.fnr 103 [])] (.b (slicesEqualFunc_Event_implequalWatches_1 s1_ s2_)) := by
  refine acalls_of (tt := tt) tt_ok Tryz.func102 (fn := Tryz.f102) rfl (by unfold FnOk; kernel_rfl) (Nat.le_of_ble_eq_true rfl) fun w0 F0 => ?_
  refine awp_seq ?_
  refine rk tt_ok [(6, .b false)] [] [] [] [] (o0) ?_
  refine awp_seq ?_
  refine awp_seq ?_
  refine rk tt_ok [(14, .b ((s1_.length : Int) != (s2_.length : Int)))] [] [] [] [(1, .val (.i (s1_.length : Int))), (3, .val (.i (s2_.length : Int)))] (o2 (ob_eq (av_len s1_)) (o1 (ob_eq (av_len s2_)))) ?_
  refine ck ((s1_.length : Int) != (s2_.length : Int)) (fun h1 => ?_) (fun h1 => ?_)
  · -- True
    have h1d := ne_of_bne h1
    refine awp_seq ?_
    refine rk tt_ok [] [14] [] [] [] (o0) ?_
    refine awp_ret ?_
    exact pret [] (congrArg (fun z => (.b z : AV)) (show slicesEqualFunc_Event_implequalWatches_1 s1_ s2_ = false from bif_t h1 (rfl)).symm)
  · -- False
    have h1d := eq_of_bne h1
    refine awp_skip ?_
    refine awp_seq ?_
    refine awp_seq ?_
    refine rk tt_ok [(15, .h s1_), (16, .i (s1_.length : Int)), (17, .i 0)] [0, 14] [] [] [(1, .val (.i (s1_.length : Int)))] (o1 (ob_eq (av_len s1_))) ?_
    refine wdT 15 0 .sh s1_ (fun hw2 => ?_)
    have hl3 : List.length s1_ ≤ 1073741824 := wide_len (hw2)
    refine blk (fun (k0 : Nat) (s0 : Unit) => [(17, .i ((k0 : Nat) : Int))]) [17] (fun k0 s0 => []) [] (fun (y0 : Unit) => []) [1, 2, 15, 16, 17] (fun y0 => []) [] (fun (k0 : Nat) (s0 : Unit) => (forL (slicesEqualFunc_Event_implequalWatches_1_f0 s2_) slicesEqualFunc_Event_implequalWatches_1_e0 s1_ 0 ()) = forL (slicesEqualFunc_Event_implequalWatches_1_f0 s2_) slicesEqualFunc_Event_implequalWatches_1_e0 (List.drop k0 s1_) k0 s0) (fun (y0 : Unit) => (forL (slicesEqualFunc_Event_implequalWatches_1_f0 s2_) slicesEqualFunc_Event_implequalWatches_1_e0 s1_ 0 ()) = .brk y0) s1_.length () (weak_fit (by kernel_rfl)) rfl (fun k0 s0 hk0 hI0 => ?_) (fun k0 s0 hk0 hI0 => ?_) (fun y0 hD0 => ?_)
    · -- round
      obtain ⟨a0, hx0⟩ := get_some (l := s1_) (i := k0) hk0
      refine awp_seq ?_
      refine rk tt_ok [(18, .b true)] [] [] [] [(0, .val (.b true))] (o1 (ob_eq (av_bool (decide_eq_true (p := ((k0 : Nat) : Int) < (s1_.length : Int)) (by omega))))) ?_
      refine awp_seq ?_
      refine ckT ?_
      refine awp_skip ?_
      refine awp_seq ?_
      refine awp_block ?_
      refine awp_seq ?_
      refine rk tt_ok [(7, .i ((k0 : Nat) : Int)), (8, .p 8 0)] [18] [(8, [.i a0.1, .h a0.2.1, .h a0.2.2])] [] [(1, .row [.i a0.1, .h a0.2.1, .h a0.2.2])] (o1 (ob_elem (el_of (i := ((k0 : Nat) : Int)) (by omega) rfl hx0))) ?_
      refine awp_seq ?_
      refine wdT 1 0 .sh s2_ (fun hw5 => ?_)
      have hl6 : List.length s2_ ≤ 1073741824 := wide_len (hw5)
      have hx4 : s2_[k0]? = some (nth s2_ k0) := nth_get (by omega)
      refine rk tt_ok [(9, .p 9 0)] [7] [(9, [.i ((nth s2_ k0).1), .h ((nth s2_ k0).2.1), .h ((nth s2_ k0).2.2)])] [] [(2, .row [.i ((nth s2_ k0).1), .h ((nth s2_ k0).2.1), .h ((nth s2_ k0).2.2)])] (o1 (ob_elem (el_of (i := ((k0 : Nat) : Int)) (by omega) rfl hx4))) ?_
      refine awp_seq ?_
      refine rk tt_ok [(30, .b (!(implequalWatches_1 a0 (nth s2_ k0))))] [8, 9] [] [8, 9] [(3, .val (.b (implequalWatches_1 a0 (nth s2_ k0))))] (o1 (ob_call (implequalWatches_1_a a0 (nth s2_ k0)))) ?_
      refine ck (!(implequalWatches_1 a0 (nth s2_ k0))) (fun h7 => ?_) (fun h7 => ?_)
      · -- True
        have h7n : (implequalWatches_1 a0 (nth s2_ k0)) = false := bnot_t h7
        refine awp_seq ?_
        refine rk tt_ok [] [30] [] [] [] (o0) ?_
        refine awp_ret ?_
        have hr8 : (forL (slicesEqualFunc_Event_implequalWatches_1_f0 s2_) slicesEqualFunc_Event_implequalWatches_1_e0 s1_ 0 ()) = .ret false := forL_ret hx0 (bif_t h7 (rfl)) hI0
        exact pret [] (congrArg (fun z => (.b z : AV)) (show slicesEqualFunc_Event_implequalWatches_1 s1_ s2_ = false from bif_f h1 (on_r hr8)).symm)
      · -- False
        have h7n : (implequalWatches_1 a0 (nth s2_ k0)) = true := bnot_f h7
        refine awp_skip ?_
        refine rk tt_ok [(17, .i ((k0 + 1 : Nat) : Int))] [17, 30] [] [] [(0, .val (.i ((k0 + 1 : Nat) : Int)))] (o1 (ob_eq (av_i (wrap_succ k0 (by omega))))) ?_
        exact Exists.intro () (And.intro (weak_fit (by kernel_rfl)) (forL_next hx0 (bif_f h7 (rfl)) hI0))
    · -- exit
      refine awp_seq ?_
      refine rk tt_ok [(18, .b false)] [] [] [] [(0, .val (.b false))] (o1 (ob_eq (av_bool (decide_eq_false (p := ((k0 : Nat) : Int) < (s1_.length : Int)) (by omega))))) ?_
      refine awp_seq ?_
      refine ckF ?_
      refine awp_exit ?_
      exact Exists.intro () (And.intro (weak_fit (by kernel_rfl)) (forL_end hk0 (rfl) hI0))
    · -- behind
      refine awp_seq ?_
      refine rk tt_ok [(6, .b true)] [6] [] [] [] (o0) ?_
      refine awp_ret ?_
      exact pret [] (congrArg (fun z => (.b z : AV)) (show slicesEqualFunc_Event_implequalWatches_1 s1_ s2_ = true from bif_f h1 (on_b hD0 (rfl))).symm)
def implequalWatches (a_ : WatchD) (b : WatchD) : Bool := ((a_.1 == b.1) && ((a_.2.1.toList == b.2.1.toList) && ((slicesEqual_int a_.2.2.1 b.2.2.1) && (slicesEqualFunc_Event_implequalWatches_1 a_.2.2.2 b.2.2.2))))
theorem implequalWatches_a (a_ : WatchD) (b : WatchD) : ACalls Tryz.prog 49 [.a [.i a_.1, .s a_.2.1, .h a_.2.2.1, .h a_.2.2.2], .a [.i b.1, .s b.2.1, .h b.2.2.1, .h b.2.2.2]] (.b (implequalWatches a_ b)) := by
  refine acalls_of (tt := tt) tt_ok Tryz.func49 (fn := Tryz.f49) rfl (by unfold FnOk; kernel_rfl) (Nat.le_of_ble_eq_true rfl) fun w0 F0 => ?_
  refine awp_seq ?_
  refine rk tt_ok [(2, .p 2 0), (3, .p 3 0), (4, .b false)] [0, 1] [(2, [.i a_.1, .s a_.2.1, .h a_.2.2.1, .h a_.2.2.2]), (3, [.i b.1, .s b.2.1, .h b.2.2.1, .h b.2.2.2])] [] [] (o0) ?_
  refine awp_seq ?_
  refine jn [(4, .b ((a_.1 == b.1) && ((a_.2.1.toList == b.2.1.toList) && ((slicesEqual_int a_.2.2.1 b.2.2.1) && (slicesEqualFunc_Event_implequalWatches_1 a_.2.2.2 b.2.2.2)))))] [2, 3, 4] [] [2, 3] (a_.1 == b.1) (fun h1 => ?_) (fun h1 => ?_) ?_
  · -- True
    have h1d := eq_of_beq h1
    refine awp_split (a_.2.1.toList == b.2.1.toList) (fun h2 => ?_) (fun h2 => ?_)
    · -- True
      refine awp_split (slicesEqual_int a_.2.2.1 b.2.2.1) (fun h3 => ?_) (fun h3 => ?_)
      · -- True
        refine rk tt_ok [(4, .b (slicesEqualFunc_Event_implequalWatches_1 a_.2.2.2 b.2.2.2))] [2, 3, 4] [] [2, 3] [(4, .val (.b true)), (10, .val (.b true)), (17, .val (.b true)), (24, .val (.b (slicesEqualFunc_Event_implequalWatches_1 a_.2.2.2 b.2.2.2)))] (o2 (ob_eq (av_bool h1)) (o2 (ob_eq (av_bool h2)) (o2 (ob_call (cb h3 (slicesEqual_int_a a_.2.2.1 b.2.2.1))) (o1 (ob_call (slicesEqualFunc_Event_implequalWatches_1_a a_.2.2.2 b.2.2.2)))))) ?_
        exact ⟨rfl, weak_fit (by rw [h1, h2, h3]; first | done | kernel_rfl)⟩
      · -- False
        refine rk tt_ok [] [2, 3] [] [2, 3] [(4, .val (.b true)), (10, .val (.b true)), (17, .val (.b false))] (o2 (ob_eq (av_bool h1)) (o2 (ob_eq (av_bool h2)) (o1 (ob_call (cb h3 (slicesEqual_int_a a_.2.2.1 b.2.2.1)))))) ?_
        exact ⟨rfl, weak_fit (by rw [h1, h2, h3]; first | done | kernel_rfl)⟩
    · -- False
      refine rk tt_ok [] [2, 3] [] [2, 3] [(4, .val (.b true)), (10, .val (.b false))] (o2 (ob_eq (av_bool h1)) (o1 (ob_eq (av_bool h2)))) ?_
      exact ⟨rfl, weak_fit (by rw [h1, h2]; first | done | kernel_rfl)⟩
  · -- False
    have h1d := ne_of_beq h1
    refine rk tt_ok [] [2, 3] [] [2, 3] [(4, .val (.b false))] (o1 (ob_eq (av_bool h1))) ?_
    exact ⟨rfl, weak_fit (by rw [h1]; first | done | kernel_rfl)⟩
  refine awp_ret ?_
  exact pret [] (congrArg (fun z => (.b z : AV)) (show implequalWatches a_ b = ((a_.1 == b.1) && ((a_.2.1.toList == b.2.1.toList) && ((slicesEqual_int a_.2.2.1 b.2.2.1) && (slicesEqualFunc_Event_implequalWatches_1 a_.2.2.2 b.2.2.2)))) from rfl).symm)
def slicesEqualFunc_Watch_implequalWatches_f0 (s2_ : (List WatchD)) (k0 : Nat) (a0 : WatchD) (_ : Unit) : Rd (Bool) (Unit) (Unit) := (bif (!(implequalWatches a0 (nth s2_ k0))) then (.ret false) else (.next ()))
def slicesEqualFunc_Watch_implequalWatches_e0 (_ : Nat) (_ : Unit) : Unit := ()
def slicesEqualFunc_Watch_implequalWatches (s1_ : (List WatchD)) (s2_ : (List WatchD)) : Bool := (bif ((s1_.length : Int) != (s2_.length : Int)) then false else (Out.on (forL (slicesEqualFunc_Watch_implequalWatches_f0 s2_) slicesEqualFunc_Watch_implequalWatches_e0 s1_ 0 ()) (fun _ => true)))
theorem slicesEqualFunc_Watch_implequalWatches_a (s1_ : (List WatchD)) (s2_ : (List WatchD)) : ACalls Tryz.prog 48 [.h s1_, .h s2_, .one (.fnr 49 [])] (.b (slicesEqualFunc_Watch_implequalWatches s1_ s2_)) := by
  refine acalls_of (tt := tt) tt_ok Tryz.func48 (fn := Tryz.f48) rfl (by unfold FnOk; kernel_rfl) (Nat.le_of_ble_eq_true rfl) fun w0 F0 => ?_
  refine awp_seq ?_
  refine rk tt_ok [(6, .b false)] [] [] [] [] (o0) ?_
  refine awp_seq ?_
  refine awp_seq ?_
  refine rk tt_ok [(14, .b ((s1_.length : Int) != (s2_.length : Int)))] [] [] [] [(1, .val (.i (s1_.length : Int))), (3, .val (.i (s2_.length : Int)))] (o2 (ob_eq (av_len s1_)) (o1 (ob_eq (av_len s2_)))) ?_
  refine ck ((s1_.length : Int) != (s2_.length : Int)) (fun h1 => ?_) (fun h1 => ?_)
  · -- True
    have h1d := ne_of_bne h1
    refine awp_seq ?_
    refine rk tt_ok [] [14] [] [] [] (o0) ?_
    refine awp_ret ?_
    exact pret [] (congrArg (fun z => (.b z : AV)) (show slicesEqualFunc_Watch_implequalWatches s1_ s2_ = false from bif_t h1 (rfl)).symm)
  · -- False
    have h1d := eq_of_bne h1
    refine awp_skip ?_
    refine awp_seq ?_
    refine awp_seq ?_
    refine rk tt_ok [(15, .h s1_), (16, .i (s1_.length : Int)), (17, .i 0)] [0, 14] [] [] [(1, .val (.i (s1_.length : Int)))] (o1 (ob_eq (av_len s1_))) ?_
    refine wdT 15 0 .sh s1_ (fun hw2 => ?_)
    have hl3 : List.length s1_ ≤ 1073741824 := wide_len (hw2)
    refine blk (fun (k0 : Nat) (s0 : Unit) => [(17, .i ((k0 : Nat) : Int))]) [17] (fun k0 s0 => []) [] (fun (y0 : Unit) => []) [1, 2, 15, 16, 17] (fun y0 => []) [] (fun (k0 : Nat) (s0 : Unit) => (forL (slicesEqualFunc_Watch_implequalWatches_f0 s2_) slicesEqualFunc_Watch_implequalWatches_e0 s1_ 0 ()) = forL (slicesEqualFunc_Watch_implequalWatches_f0 s2_) slicesEqualFunc_Watch_implequalWatches_e0 (List.drop k0 s1_) k0 s0) (fun (y0 : Unit) => (forL (slicesEqualFunc_Watch_implequalWatches_f0 s2_) slicesEqualFunc_Watch_implequalWatches_e0 s1_ 0 ()) = .brk y0) s1_.length () (weak_fit (by kernel_rfl)) rfl (fun k0 s0 hk0 hI0 => ?_) (fun k0 s0 hk0 hI0 => ?_) (fun y0 hD0 => ?_)
    · -- round
      obtain ⟨a0, hx0⟩ := get_some (l := s1_) (i := k0) hk0
      refine awp_seq ?_
      refine rk tt_ok [(18, .b true)] [] [] [] [(0, .val (.b true))] (o1 (ob_eq (av_bool (decide_eq_true (p := ((k0 : Nat) : Int) < (s1_.length : Int)) (by omega))))) ?_
      refine awp_seq ?_
      refine ckT ?_
      refine awp_skip ?_
      refine awp_seq ?_
      refine awp_block ?_
      refine awp_seq ?_
      refine rk tt_ok [(7, .i ((k0 : Nat) : Int)), (8, .p 8 0)] [18] [(8, [.i a0.1, .s a0.2.1, .h a0.2.2.1, .h a0.2.2.2])] [] [(1, .row [.i a0.1, .s a0.2.1, .h a0.2.2.1, .h a0.2.2.2])] (o1 (ob_elem (el_of (i := ((k0 : Nat) : Int)) (by omega) rfl hx0))) ?_
      refine awp_seq ?_
      refine wdT 1 0 .sh s2_ (fun hw5 => ?_)
      have hl6 : List.length s2_ ≤ 1073741824 := wide_len (hw5)
      have hx4 : s2_[k0]? = some (nth s2_ k0) := nth_get (by omega)
      refine rk tt_ok [(9, .p 9 0)] [7] [(9, [.i ((nth s2_ k0).1), .s ((nth s2_ k0).2.1), .h ((nth s2_ k0).2.2.1), .h ((nth s2_ k0).2.2.2)])] [] [(2, .row [.i ((nth s2_ k0).1), .s ((nth s2_ k0).2.1), .h ((nth s2_ k0).2.2.1), .h ((nth s2_ k0).2.2.2)])] (o1 (ob_elem (el_of (i := ((k0 : Nat) : Int)) (by omega) rfl hx4))) ?_
      refine awp_seq ?_
      refine rk tt_ok [(30, .b (!(implequalWatches a0 (nth s2_ k0))))] [8, 9] [] [8, 9] [(3, .val (.b (implequalWatches a0 (nth s2_ k0))))] (o1 (ob_call (implequalWatches_a a0 (nth s2_ k0)))) ?_
      refine ck (!(implequalWatches a0 (nth s2_ k0))) (fun h7 => ?_) (fun h7 => ?_)
      · -- True
        have h7n : (implequalWatches a0 (nth s2_ k0)) = false := bnot_t h7
        refine awp_seq ?_
        refine rk tt_ok [] [30] [] [] [] (o0) ?_
        refine awp_ret ?_
        have hr8 : (forL (slicesEqualFunc_Watch_implequalWatches_f0 s2_) slicesEqualFunc_Watch_implequalWatches_e0 s1_ 0 ()) = .ret false := forL_ret hx0 (bif_t h7 (rfl)) hI0
        exact pret [] (congrArg (fun z => (.b z : AV)) (show slicesEqualFunc_Watch_implequalWatches s1_ s2_ = false from bif_f h1 (on_r hr8)).symm)
      · -- False
        have h7n : (implequalWatches a0 (nth s2_ k0)) = true := bnot_f h7
        refine awp_skip ?_
        refine rk tt_ok [(17, .i ((k0 + 1 : Nat) : Int))] [17, 30] [] [] [(0, .val (.i ((k0 + 1 : Nat) : Int)))] (o1 (ob_eq (av_i (wrap_succ k0 (by omega))))) ?_
        exact Exists.intro () (And.intro (weak_fit (by kernel_rfl)) (forL_next hx0 (bif_f h7 (rfl)) hI0))
    · -- exit
      refine awp_seq ?_
      refine rk tt_ok [(18, .b false)] [] [] [] [(0, .val (.b false))] (o1 (ob_eq (av_bool (decide_eq_false (p := ((k0 : Nat) : Int) < (s1_.length : Int)) (by omega))))) ?_
      refine awp_seq ?_
      refine ckF ?_
      refine awp_exit ?_
      exact Exists.intro () (And.intro (weak_fit (by kernel_rfl)) (forL_end hk0 (rfl) hI0))
    · -- behind
      refine awp_seq ?_
      refine rk tt_ok [(6, .b true)] [6] [] [] [] (o0) ?_
      refine awp_ret ?_
      exact pret [] (congrArg (fun z => (.b z : AV)) (show slicesEqualFunc_Watch_implequalWatches s1_ s2_ = true from bif_f h1 (on_b hD0 (rfl))).symm)
def implEqualSystems (a_ : SystemD) (b : SystemD) : Bool := ((implEqualCatalogs a_.1 b.1) && (((a_.2.1.1.toList == b.2.1.1.toList) && ((a_.2.1.2.toList == b.2.1.2.toList) && true)) && ((a_.2.2.1 == b.2.2.1) && ((implEqualVersions a_.2.2.2.1 b.2.2.2.1) && ((slicesEqualFunc_Watch_implequalWatches a_.2.2.2.2.1 b.2.2.2.2.1) && (slicesEqual_int a_.2.2.2.2.2 b.2.2.2.2.2))))))
theorem implEqualSystems_a (a_ : SystemD) (b : SystemD) : ACalls Tryz.prog 10 [.a [.h a_.1.1.1, .h a_.1.1.2.1, .i a_.1.1.2.2, .h a_.1.2.1, .h a_.1.2.2, .s a_.2.1.1, .s a_.2.1.2, .i a_.2.2.1, .h a_.2.2.2.1, .h a_.2.2.2.2.1, .h a_.2.2.2.2.2], .a [.h b.1.1.1, .h b.1.1.2.1, .i b.1.1.2.2, .h b.1.2.1, .h b.1.2.2, .s b.2.1.1, .s b.2.1.2, .i b.2.2.1, .h b.2.2.2.1, .h b.2.2.2.2.1, .h b.2.2.2.2.2]] (.b (implEqualSystems a_ b)) := by
  refine acalls_of (tt := tt) tt_ok Tryz.func10 (fn := Tryz.f10) rfl (by unfold FnOk; kernel_rfl) (Nat.le_of_ble_eq_true rfl) fun w0 F0 => ?_
  refine awp_seq ?_
  refine rk tt_ok [(2, .p 2 0), (3, .p 3 0), (4, .b false)] [0, 1] [(2, [.h a_.1.1.1, .h a_.1.1.2.1, .i a_.1.1.2.2, .h a_.1.2.1, .h a_.1.2.2, .s a_.2.1.1, .s a_.2.1.2, .i a_.2.2.1, .h a_.2.2.2.1, .h a_.2.2.2.2.1, .h a_.2.2.2.2.2]), (3, [.h b.1.1.1, .h b.1.1.2.1, .i b.1.1.2.2, .h b.1.2.1, .h b.1.2.2, .s b.2.1.1, .s b.2.1.2, .i b.2.2.1, .h b.2.2.2.1, .h b.2.2.2.2.1, .h b.2.2.2.2.2])] [] [] (o0) ?_
  refine awp_seq ?_
  refine jn [(4, .b ((implEqualCatalogs a_.1 b.1) && (((a_.2.1.1.toList == b.2.1.1.toList) && ((a_.2.1.2.toList == b.2.1.2.toList) && true)) && ((a_.2.2.1 == b.2.2.1) && ((implEqualVersions a_.2.2.2.1 b.2.2.2.1) && ((slicesEqualFunc_Watch_implequalWatches a_.2.2.2.2.1 b.2.2.2.2.1) && (slicesEqual_int a_.2.2.2.2.2 b.2.2.2.2.2)))))))] [2, 3, 4] [] [2, 3] (implEqualCatalogs a_.1 b.1) (fun h1 => ?_) (fun h1 => ?_) ?_
  · -- True
    refine awp_split ((a_.2.1.1.toList == b.2.1.1.toList) && ((a_.2.1.2.toList == b.2.1.2.toList) && true)) (fun h2 => ?_) (fun h2 => ?_)
    · -- True
      have h2l : ((a_.2.1.1.toList == b.2.1.1.toList)) = true := and_l h2
      have h2r : (((a_.2.1.2.toList == b.2.1.2.toList) && true)) = true := and_r h2
      have h2rl : ((a_.2.1.2.toList == b.2.1.2.toList)) = true := and_l h2r
      have h2rr : (true) = true := and_r h2r
      refine awp_split (a_.2.2.1 == b.2.2.1) (fun h3 => ?_) (fun h3 => ?_)
      · -- True
        have h3d := eq_of_beq h3
        refine awp_split (implEqualVersions a_.2.2.2.1 b.2.2.2.1) (fun h4 => ?_) (fun h4 => ?_)
        · -- True
          refine awp_split (slicesEqualFunc_Watch_implequalWatches a_.2.2.2.2.1 b.2.2.2.2.1) (fun h5 => ?_) (fun h5 => ?_)
          · -- True
            refine rk tt_ok [(4, .b (slicesEqual_int a_.2.2.2.2.2 b.2.2.2.2.2))] [2, 3, 4] [] [2, 3] [(4, .val (.b true)), (10, .val (.b true)), (17, .val (.b true)), (24, .val (.b true)), (31, .val (.b true)), (38, .val (.b (slicesEqual_int a_.2.2.2.2.2 b.2.2.2.2.2)))] (o2 (ob_call (cb h1 (implEqualCatalogs_a a_.1 b.1))) (o2 (ob_eq (av_bool h2)) (o2 (ob_eq (av_bool h3)) (o2 (ob_call (cb h4 (implEqualVersions_a a_.2.2.2.1 b.2.2.2.1))) (o2 (ob_call (cb h5 (slicesEqualFunc_Watch_implequalWatches_a a_.2.2.2.2.1 b.2.2.2.2.1))) (o1 (ob_call (slicesEqual_int_a a_.2.2.2.2.2 b.2.2.2.2.2)))))))) ?_
            exact ⟨rfl, weak_fit (by rw [h1, h2, h3, h4, h5]; first | done | kernel_rfl)⟩
          · -- False
            refine rk tt_ok [] [2, 3] [] [2, 3] [(4, .val (.b true)), (10, .val (.b true)), (17, .val (.b true)), (24, .val (.b true)), (31, .val (.b false))] (o2 (ob_call (cb h1 (implEqualCatalogs_a a_.1 b.1))) (o2 (ob_eq (av_bool h2)) (o2 (ob_eq (av_bool h3)) (o2 (ob_call (cb h4 (implEqualVersions_a a_.2.2.2.1 b.2.2.2.1))) (o1 (ob_call (cb h5 (slicesEqualFunc_Watch_implequalWatches_a a_.2.2.2.2.1 b.2.2.2.2.1)))))))) ?_
            exact ⟨rfl, weak_fit (by rw [h1, h2, h3, h4, h5]; first | done | kernel_rfl)⟩
        · -- False
          refine rk tt_ok [] [2, 3] [] [2, 3] [(4, .val (.b true)), (10, .val (.b true)), (17, .val (.b true)), (24, .val (.b false))] (o2 (ob_call (cb h1 (implEqualCatalogs_a a_.1 b.1))) (o2 (ob_eq (av_bool h2)) (o2 (ob_eq (av_bool h3)) (o1 (ob_call (cb h4 (implEqualVersions_a a_.2.2.2.1 b.2.2.2.1))))))) ?_
          exact ⟨rfl, weak_fit (by rw [h1, h2, h3, h4]; first | done | kernel_rfl)⟩
      · -- False
        have h3d := ne_of_beq h3
        refine rk tt_ok [] [2, 3] [] [2, 3] [(4, .val (.b true)), (10, .val (.b true)), (17, .val (.b false))] (o2 (ob_call (cb h1 (implEqualCatalogs_a a_.1 b.1))) (o2 (ob_eq (av_bool h2)) (o1 (ob_eq (av_bool h3))))) ?_
        exact ⟨rfl, weak_fit (by rw [h1, h2, h3]; first | done | kernel_rfl)⟩
    · -- False
      refine rk tt_ok [] [2, 3] [] [2, 3] [(4, .val (.b true)), (10, .val (.b false))] (o2 (ob_call (cb h1 (implEqualCatalogs_a a_.1 b.1))) (o1 (ob_eq (av_bool h2)))) ?_
      exact ⟨rfl, weak_fit (by rw [h1, h2]; first | done | kernel_rfl)⟩
  · -- False
    refine rk tt_ok [] [2, 3] [] [2, 3] [(4, .val (.b false))] (o1 (ob_call (cb h1 (implEqualCatalogs_a a_.1 b.1)))) ?_
    exact ⟨rfl, weak_fit (by rw [h1]; first | done | kernel_rfl)⟩
  refine awp_ret ?_
  exact pret [] (congrArg (fun z => (.b z : AV)) (show implEqualSystems a_ b = ((implEqualCatalogs a_.1 b.1) && (((a_.2.1.1.toList == b.2.1.1.toList) && ((a_.2.1.2.toList == b.2.1.2.toList) && true)) && ((a_.2.2.1 == b.2.2.1) && ((implEqualVersions a_.2.2.2.1 b.2.2.2.1) && ((slicesEqualFunc_Watch_implequalWatches a_.2.2.2.2.1 b.2.2.2.2.1) && (slicesEqual_int a_.2.2.2.2.2 b.2.2.2.2.2)))))) from rfl).symm)
def specl05Fields_f0 (b : (List FieldD)) (k0 : Nat) (a0 : FieldD) (_ : Unit) : Rd (Bool) (Unit) (Unit) := (bif (!((a0.1.toList == ((nth b k0).1).toList) && ((a0.2 == (nth b k0).2) && true))) then (.ret false) else (.next ()))
def specl05Fields_e0 (_ : Nat) (_ : Unit) : Unit := ()
def specl05Fields (a_ : (List FieldD)) (b : (List FieldD)) : Bool := (bif ((a_.length : Int) != (b.length : Int)) then false else (Out.on (forL (specl05Fields_f0 b) specl05Fields_e0 a_ 0 ()) (fun _ => true)))
theorem specl05Fields_a (a_ : (List FieldD)) (b : (List FieldD)) : ACalls Tryz.prog 128 [.h a_, .h b] (.b (specl05Fields a_ b)) := by
  refine acalls_of (tt := tt) tt_ok Tryz.func128 (fn := Tryz.f128) rfl (by unfold FnOk; kernel_rfl) (Nat.le_of_ble_eq_true rfl) fun w0 F0 => ?_
  refine awp_seq ?_
  refine rk tt_ok [(4, .b false)] [] [] [] [] (o0) ?_
  refine awp_seq ?_
  refine awp_seq ?_
  refine rk tt_ok [(10, .b ((a_.length : Int) != (b.length : Int)))] [] [] [] [(1, .val (.i (a_.length : Int))), (3, .val (.i (b.length : Int)))] (o2 (ob_eq (av_len a_)) (o1 (ob_eq (av_len b)))) ?_
  refine ck ((a_.length : Int) != (b.length : Int)) (fun h1 => ?_) (fun h1 => ?_)
  · -- True
    have h1d := ne_of_bne h1
    refine awp_seq ?_
    refine rk tt_ok [] [10] [] [] [] (o0) ?_
    refine awp_ret ?_
    exact pret [] (congrArg (fun z => (.b z : AV)) (show specl05Fields a_ b = false from bif_t h1 (rfl)).symm)
  · -- False
    have h1d := eq_of_bne h1
    refine awp_skip ?_
    refine awp_seq ?_
    refine awp_seq ?_
    refine rk tt_ok [(5, .i 0)] [10] [] [] [] (o0) ?_
    refine wdT 0 0 .sh a_ (fun hw2 => ?_)
    have hl3 : List.length a_ ≤ 1073741824 := wide_len (hw2)
    refine blk (fun (k0 : Nat) (s0 : Unit) => [(5, .i ((k0 : Nat) : Int))]) [5] (fun k0 s0 => []) [] (fun (y0 : Unit) => []) [0, 1, 5] (fun y0 => []) [] (fun (k0 : Nat) (s0 : Unit) => (forL (specl05Fields_f0 b) specl05Fields_e0 a_ 0 ()) = forL (specl05Fields_f0 b) specl05Fields_e0 (List.drop k0 a_) k0 s0) (fun (y0 : Unit) => (forL (specl05Fields_f0 b) specl05Fields_e0 a_ 0 ()) = .brk y0) a_.length () (weak_fit (by kernel_rfl)) rfl (fun k0 s0 hk0 hI0 => ?_) (fun k0 s0 hk0 hI0 => ?_) (fun y0 hD0 => ?_)
    · -- round
      obtain ⟨a0, hx0⟩ := get_some (l := a_) (i := k0) hk0
      refine awp_seq ?_
      refine awp_seq ?_
      refine rk tt_ok [(14, .b true)] [] [] [] [(2, .val (.i (a_.length : Int))), (3, .val (.b true))] (o2 (ob_eq (av_len a_)) (o1 (ob_eq (av_bool (decide_eq_true (p := ((k0 : Nat) : Int) < (a_.length : Int)) (by omega)))))) ?_
      refine ckT ?_
      refine awp_skip ?_
      refine awp_seq ?_
      refine awp_block ?_
      refine awp_seq ?_
      refine wdT 1 0 .sh b (fun hw5 => ?_)
      have hl6 : List.length b ≤ 1073741824 := wide_len (hw5)
      have hx4 : b[k0]? = some (nth b k0) := nth_get (by omega)
      refine rd' tt_ok tt_mx [(25, .b (!((a0.1.toList == ((nth b k0).1).toList) && ((a0.2 == (nth b k0).2) && true))))] [14] [] [] [(2, .row [.s a0.1, .i a0.2]), (6, .row [.s ((nth b k0).1), .i ((nth b k0).2)])] (o2 (ob_elem (el_of (i := ((k0 : Nat) : Int)) (by omega) rfl hx0)) (o1 (ob_elem (el_of (i := ((k0 : Nat) : Int)) (by omega) rfl hx4)))) ?_
      refine ck (!((a0.1.toList == ((nth b k0).1).toList) && ((a0.2 == (nth b k0).2) && true))) (fun h7 => ?_) (fun h7 => ?_)
      · -- True
        have h7n : ((a0.1.toList == ((nth b k0).1).toList) && ((a0.2 == (nth b k0).2) && true)) = false := bnot_t h7
        refine awp_seq ?_
        refine rk tt_ok [] [25] [] [] [] (o0) ?_
        refine awp_ret ?_
        have hr8 : (forL (specl05Fields_f0 b) specl05Fields_e0 a_ 0 ()) = .ret false := forL_ret hx0 (bif_t h7 (rfl)) hI0
        exact pret [] (congrArg (fun z => (.b z : AV)) (show specl05Fields a_ b = false from bif_f h1 (on_r hr8)).symm)
      · -- False
        have h7n : ((a0.1.toList == ((nth b k0).1).toList) && ((a0.2 == (nth b k0).2) && true)) = true := bnot_f h7
        have h7nl : ((a0.1.toList == ((nth b k0).1).toList)) = true := and_l h7n
        have h7nr : (((a0.2 == (nth b k0).2) && true)) = true := and_r h7n
        have h7nrl : ((a0.2 == (nth b k0).2)) = true := and_l h7nr
        have h7nrld := eq_of_beq h7nrl
        have h7nrr : (true) = true := and_r h7nr
        refine awp_skip ?_
        refine rk tt_ok [(5, .i ((k0 + 1 : Nat) : Int))] [5, 25] [] [] [(1, .val (.i ((k0 + 1 : Nat) : Int)))] (o1 (ob_eq (av_i (wrap_succ k0 (by omega))))) ?_
        exact Exists.intro () (And.intro (weak_fit (by kernel_rfl)) (forL_next hx0 (bif_f h7 (rfl)) hI0))
    · -- exit
      refine awp_seq ?_
      refine awp_seq ?_
      refine rk tt_ok [(14, .b false)] [] [] [] [(2, .val (.i (a_.length : Int))), (3, .val (.b false))] (o2 (ob_eq (av_len a_)) (o1 (ob_eq (av_bool (decide_eq_false (p := ((k0 : Nat) : Int) < (a_.length : Int)) (by omega)))))) ?_
      refine ckF ?_
      refine awp_exit ?_
      exact Exists.intro () (And.intro (weak_fit (by kernel_rfl)) (forL_end hk0 (rfl) hI0))
    · -- behind
      refine awp_seq ?_
      refine rk tt_ok [(4, .b true)] [4] [] [] [] (o0) ?_
      refine awp_ret ?_
      exact pret [] (congrArg (fun z => (.b z : AV)) (show specl05Fields a_ b = true from bif_f h1 (on_b hD0 (rfl))).symm)
def specEqualFiles_f0 (b : FileD) (k0 : Nat) (a0 : AttrD) (_ : Unit) : Rd (Bool) (Unit) (Unit) := (bif (!((a0.1.toList == ((nth b.2.2.2.2 k0).1).toList) && ((a0.2.1 == (nth b.2.2.2.2 k0).2.1) && ((a0.2.2.1 == (nth b.2.2.2.2 k0).2.2.1) && ((a0.2.2.2.toList == ((nth b.2.2.2.2 k0).2.2.2).toList) && true))))) then (.ret false) else (.next ()))
def specEqualFiles_e0 (_ : Nat) (_ : Unit) : Unit := ()
def specEqualFiles (a_ : FileD) (b : FileD) : Bool := (bif ((a_.1 != b.1) || ((a_.2.1 != b.2.1) || ((!(a_.2.2.1 == b.2.2.1)) || ((a_.2.2.2.1 != b.2.2.2.1) || ((a_.2.2.2.2.length : Int) != (b.2.2.2.2.length : Int)))))) then false else (Out.on (forL (specEqualFiles_f0 b) specEqualFiles_e0 a_.2.2.2.2 0 ()) (fun _ => true)))
theorem specEqualFiles_a (a_ : FileD) (b : FileD) : ACalls Tryz.prog 129 [.a [.i a_.1, .i a_.2.1, .b a_.2.2.1, .i a_.2.2.2.1, .h a_.2.2.2.2], .a [.i b.1, .i b.2.1, .b b.2.2.1, .i b.2.2.2.1, .h b.2.2.2.2]] (.b (specEqualFiles a_ b)) := by
  refine acalls_of (tt := tt) tt_ok Tryz.func129 (fn := Tryz.f129) rfl (by unfold FnOk; kernel_rfl) (Nat.le_of_ble_eq_true rfl) fun w0 F0 => ?_
  refine awp_seq ?_
  refine rk tt_ok [(2, .p 2 0), (3, .p 3 0), (4, .b false)] [0, 1] [(2, [.i a_.1, .i a_.2.1, .b a_.2.2.1, .i a_.2.2.2.1, .h a_.2.2.2.2]), (3, [.i b.1, .i b.2.1, .b b.2.2.1, .i b.2.2.2.1, .h b.2.2.2.2])] [] [] (o0) ?_
  refine awp_seq ?_
  refine awp_seq ?_
  refine jn [(40, .b ((a_.1 != b.1) || ((a_.2.1 != b.2.1) || ((!(a_.2.2.1 == b.2.2.1)) || ((a_.2.2.2.1 != b.2.2.2.1) || ((a_.2.2.2.2.length : Int) != (b.2.2.2.2.length : Int)))))))] [] [] [] (a_.1 != b.1) (fun h1 => ?_) (fun h1 => ?_) ?_
  · -- True
    have h1d := ne_of_bne h1
    refine rk tt_ok [(40, .b true)] [] [] [] [(4, .val (.b true))] (o1 (ob_eq (av_bool h1))) ?_
    exact ⟨rfl, weak_fit (by rw [h1]; first | done | kernel_rfl)⟩
  · -- False
    have h1d := eq_of_bne h1
    refine awp_split (a_.2.1 != b.2.1) (fun h2 => ?_) (fun h2 => ?_)
    · -- True
      have h2d := ne_of_bne h2
      refine rk tt_ok [(40, .b true)] [] [] [] [(4, .val (.b false)), (10, .val (.b true))] (o2 (ob_eq (av_bool h1)) (o1 (ob_eq (av_bool h2)))) ?_
      exact ⟨rfl, weak_fit (by rw [h1, h2]; first | done | kernel_rfl)⟩
    · -- False
      have h2d := eq_of_bne h2
      refine awp_split (!(a_.2.2.1 == b.2.2.1)) (fun h3 => ?_) (fun h3 => ?_)
      · -- True
        have h3n : (a_.2.2.1 == b.2.2.1) = false := bnot_t h3
        have h3nd := ne_of_beq h3n
        refine rk tt_ok [(40, .b true)] [] [] [] [(4, .val (.b false)), (10, .val (.b false)), (17, .val (.b true))] (o2 (ob_eq (av_bool h1)) (o2 (ob_eq (av_bool h2)) (o1 (ob_eq (av_bool h3))))) ?_
        exact ⟨rfl, weak_fit (by rw [h1, h2, h3]; first | done | kernel_rfl)⟩
      · -- False
        have h3n : (a_.2.2.1 == b.2.2.1) = true := bnot_f h3
        have h3nd := eq_of_beq h3n
        refine awp_split (a_.2.2.2.1 != b.2.2.2.1) (fun h4 => ?_) (fun h4 => ?_)
        · -- True
          have h4d := ne_of_bne h4
          refine rk tt_ok [(40, .b true)] [] [] [] [(4, .val (.b false)), (10, .val (.b false)), (17, .val (.b false)), (24, .val (.b true))] (o2 (ob_eq (av_bool h1)) (o2 (ob_eq (av_bool h2)) (o2 (ob_eq (av_bool h3)) (o1 (ob_eq (av_bool h4)))))) ?_
          exact ⟨rfl, weak_fit (by rw [h1, h2, h3, h4]; first | done | kernel_rfl)⟩
        · -- False
          have h4d := eq_of_bne h4
          refine rk tt_ok [(40, .b ((a_.2.2.2.2.length : Int) != (b.2.2.2.2.length : Int)))] [] [] [] [(4, .val (.b false)), (10, .val (.b false)), (17, .val (.b false)), (24, .val (.b false)), (29, .val (.i (a_.2.2.2.2.length : Int))), (32, .val (.i (b.2.2.2.2.length : Int)))] (o2 (ob_eq (av_bool h1)) (o2 (ob_eq (av_bool h2)) (o2 (ob_eq (av_bool h3)) (o2 (ob_eq (av_bool h4)) (o2 (ob_eq (av_len a_.2.2.2.2)) (o1 (ob_eq (av_len b.2.2.2.2)))))))) ?_
          exact ⟨rfl, weak_fit (by rw [h1, h2, h3, h4]; first | done | kernel_rfl)⟩
  refine ck ((a_.1 != b.1) || ((a_.2.1 != b.2.1) || ((!(a_.2.2.1 == b.2.2.1)) || ((a_.2.2.2.1 != b.2.2.2.1) || ((a_.2.2.2.2.length : Int) != (b.2.2.2.2.length : Int)))))) (fun h5 => ?_) (fun h5 => ?_)
  · -- True
    refine awp_seq ?_
    refine rk tt_ok [] [40] [] [] [] (o0) ?_
    refine awp_ret ?_
    exact pret [] (congrArg (fun z => (.b z : AV)) (show specEqualFiles a_ b = false from bif_t h5 (rfl)).symm)
  · -- False
    have h5l : ((a_.1 != b.1)) = false := or_l h5
    have h5ld := eq_of_bne h5l
    have h5r : (((a_.2.1 != b.2.1) || ((!(a_.2.2.1 == b.2.2.1)) || ((a_.2.2.2.1 != b.2.2.2.1) || ((a_.2.2.2.2.length : Int) != (b.2.2.2.2.length : Int)))))) = false := or_r h5
    have h5rl : ((a_.2.1 != b.2.1)) = false := or_l h5r
    have h5rld := eq_of_bne h5rl
    have h5rr : (((!(a_.2.2.1 == b.2.2.1)) || ((a_.2.2.2.1 != b.2.2.2.1) || ((a_.2.2.2.2.length : Int) != (b.2.2.2.2.length : Int))))) = false := or_r h5r
    have h5rrl : ((!(a_.2.2.1 == b.2.2.1))) = false := or_l h5rr
    have h5rrln : (a_.2.2.1 == b.2.2.1) = true := bnot_f h5rrl
    have h5rrlnd := eq_of_beq h5rrln
    have h5rrr : (((a_.2.2.2.1 != b.2.2.2.1) || ((a_.2.2.2.2.length : Int) != (b.2.2.2.2.length : Int)))) = false := or_r h5rr
    have h5rrrl : ((a_.2.2.2.1 != b.2.2.2.1)) = false := or_l h5rrr
    have h5rrrld := eq_of_bne h5rrrl
    have h5rrrr : (((a_.2.2.2.2.length : Int) != (b.2.2.2.2.length : Int))) = false := or_r h5rrr
    have h5rrrrd := eq_of_bne h5rrrr
    refine awp_skip ?_
    refine awp_seq ?_
    refine awp_seq ?_
    refine rk tt_ok [(5, .i 0)] [40] [] [] [] (o0) ?_
    refine wdB 2 4 .sh a_.2.2.2.2 (fun hw6 => ?_)
    have hl7 : List.length a_.2.2.2.2 ≤ 1073741824 := wide_len (hw6)
    refine blk (fun (k0 : Nat) (s0 : Unit) => [(5, .i ((k0 : Nat) : Int))]) [5] (fun k0 s0 => []) [] (fun (y0 : Unit) => []) [2, 3, 5] (fun y0 => []) [2, 3] (fun (k0 : Nat) (s0 : Unit) => (forL (specEqualFiles_f0 b) specEqualFiles_e0 a_.2.2.2.2 0 ()) = forL (specEqualFiles_f0 b) specEqualFiles_e0 (List.drop k0 a_.2.2.2.2) k0 s0) (fun (y0 : Unit) => (forL (specEqualFiles_f0 b) specEqualFiles_e0 a_.2.2.2.2 0 ()) = .brk y0) a_.2.2.2.2.length () (weak_fit (by kernel_rfl)) rfl (fun k0 s0 hk0 hI0 => ?_) (fun k0 s0 hk0 hI0 => ?_) (fun y0 hD0 => ?_)
    · -- round
      obtain ⟨a0, hx0⟩ := get_some (l := a_.2.2.2.2) (i := k0) hk0
      refine awp_seq ?_
      refine awp_seq ?_
      refine rk tt_ok [(45, .b true)] [] [] [] [(3, .val (.i (a_.2.2.2.2.length : Int))), (4, .val (.b true))] (o2 (ob_eq (av_len a_.2.2.2.2)) (o1 (ob_eq (av_bool (decide_eq_true (p := ((k0 : Nat) : Int) < (a_.2.2.2.2.length : Int)) (by omega)))))) ?_
      refine ckT ?_
      refine awp_skip ?_
      refine awp_seq ?_
      refine awp_block ?_
      refine awp_seq ?_
      refine wdB 3 4 .sh b.2.2.2.2 (fun hw9 => ?_)
      have hl10 : List.length b.2.2.2.2 ≤ 1073741824 := wide_len (hw9)
      have hx8 : b.2.2.2.2[k0]? = some (nth b.2.2.2.2 k0) := nth_get (by omega)
      refine rd' tt_ok tt_mx [(58, .b (!((a0.1.toList == ((nth b.2.2.2.2 k0).1).toList) && ((a0.2.1 == (nth b.2.2.2.2 k0).2.1) && ((a0.2.2.1 == (nth b.2.2.2.2 k0).2.2.1) && ((a0.2.2.2.toList == ((nth b.2.2.2.2 k0).2.2.2).toList) && true))))))] [45] [] [] [(3, .row [.s a0.1, .i a0.2.1, .i a0.2.2.1, .s a0.2.2.2]), (8, .row [.s ((nth b.2.2.2.2 k0).1), .i ((nth b.2.2.2.2 k0).2.1), .i ((nth b.2.2.2.2 k0).2.2.1), .s ((nth b.2.2.2.2 k0).2.2.2)])] (o2 (ob_elem (el_of (i := ((k0 : Nat) : Int)) (by omega) rfl hx0)) (o1 (ob_elem (el_of (i := ((k0 : Nat) : Int)) (by omega) rfl hx8)))) ?_
      refine ck (!((a0.1.toList == ((nth b.2.2.2.2 k0).1).toList) && ((a0.2.1 == (nth b.2.2.2.2 k0).2.1) && ((a0.2.2.1 == (nth b.2.2.2.2 k0).2.2.1) && ((a0.2.2.2.toList == ((nth b.2.2.2.2 k0).2.2.2).toList) && true))))) (fun h11 => ?_) (fun h11 => ?_)
      · -- True
        have h11n : ((a0.1.toList == ((nth b.2.2.2.2 k0).1).toList) && ((a0.2.1 == (nth b.2.2.2.2 k0).2.1) && ((a0.2.2.1 == (nth b.2.2.2.2 k0).2.2.1) && ((a0.2.2.2.toList == ((nth b.2.2.2.2 k0).2.2.2).toList) && true)))) = false := bnot_t h11
        refine awp_seq ?_
        refine rk tt_ok [] [58] [] [] [] (o0) ?_
        refine awp_ret ?_
        have hr12 : (forL (specEqualFiles_f0 b) specEqualFiles_e0 a_.2.2.2.2 0 ()) = .ret false := forL_ret hx0 (bif_t h11 (rfl)) hI0
        exact pret [] (congrArg (fun z => (.b z : AV)) (show specEqualFiles a_ b = false from bif_f h5 (on_r hr12)).symm)
      · -- False
        have h11n : ((a0.1.toList == ((nth b.2.2.2.2 k0).1).toList) && ((a0.2.1 == (nth b.2.2.2.2 k0).2.1) && ((a0.2.2.1 == (nth b.2.2.2.2 k0).2.2.1) && ((a0.2.2.2.toList == ((nth b.2.2.2.2 k0).2.2.2).toList) && true)))) = true := bnot_f h11
        have h11nl : ((a0.1.toList == ((nth b.2.2.2.2 k0).1).toList)) = true := and_l h11n
        have h11nr : (((a0.2.1 == (nth b.2.2.2.2 k0).2.1) && ((a0.2.2.1 == (nth b.2.2.2.2 k0).2.2.1) && ((a0.2.2.2.toList == ((nth b.2.2.2.2 k0).2.2.2).toList) && true)))) = true := and_r h11n
        have h11nrl : ((a0.2.1 == (nth b.2.2.2.2 k0).2.1)) = true := and_l h11nr
        have h11nrld := eq_of_beq h11nrl
        have h11nrr : (((a0.2.2.1 == (nth b.2.2.2.2 k0).2.2.1) && ((a0.2.2.2.toList == ((nth b.2.2.2.2 k0).2.2.2).toList) && true))) = true := and_r h11nr
        have h11nrrl : ((a0.2.2.1 == (nth b.2.2.2.2 k0).2.2.1)) = true := and_l h11nrr
        have h11nrrld := eq_of_beq h11nrrl
        have h11nrrr : (((a0.2.2.2.toList == ((nth b.2.2.2.2 k0).2.2.2).toList) && true)) = true := and_r h11nrr
        have h11nrrrl : ((a0.2.2.2.toList == ((nth b.2.2.2.2 k0).2.2.2).toList)) = true := and_l h11nrrr
        have h11nrrrr : (true) = true := and_r h11nrrr
        refine awp_skip ?_
        refine rk tt_ok [(5, .i ((k0 + 1 : Nat) : Int))] [5, 58] [] [] [(1, .val (.i ((k0 + 1 : Nat) : Int)))] (o1 (ob_eq (av_i (wrap_succ k0 (by omega))))) ?_
        exact Exists.intro () (And.intro (weak_fit (by kernel_rfl)) (forL_next hx0 (bif_f h11 (rfl)) hI0))
    · -- exit
      refine awp_seq ?_
      refine awp_seq ?_
      refine rk tt_ok [(45, .b false)] [] [] [] [(3, .val (.i (a_.2.2.2.2.length : Int))), (4, .val (.b false))] (o2 (ob_eq (av_len a_.2.2.2.2)) (o1 (ob_eq (av_bool (decide_eq_false (p := ((k0 : Nat) : Int) < (a_.2.2.2.2.length : Int)) (by omega)))))) ?_
      refine ckF ?_
      refine awp_exit ?_
      exact Exists.intro () (And.intro (weak_fit (by kernel_rfl)) (forL_end hk0 (rfl) hI0))
    · -- behind
      refine awp_seq ?_
      refine rk tt_ok [(4, .b true)] [4] [] [] [] (o0) ?_
      refine awp_ret ?_
      exact pret [] (congrArg (fun z => (.b z : AV)) (show specEqualFiles a_ b = true from bif_f h5 (on_b hD0 (rfl))).symm)
def specEqualStores_f0 (b : StoreD) (k0 : Nat) (a0 : FileD) (_ : Unit) : Rd (Bool) (Unit) (Unit) := (bif (!(specEqualFiles a0 (nth b.2.1 k0))) then (.ret false) else (.next ()))
def specEqualStores_e0 (_ : Nat) (_ : Unit) : Unit := ()
def specEqualStores (a_ : StoreD) (b : StoreD) : Bool := (bif ((!(specl05Fields a_.1 b.1)) || ((a_.2.2 != b.2.2) || ((a_.2.1.length : Int) != (b.2.1.length : Int)))) then false else (Out.on (forL (specEqualStores_f0 b) specEqualStores_e0 a_.2.1 0 ()) (fun _ => true)))
theorem specEqualStores_a (a_ : StoreD) (b : StoreD) : ACalls Tryz.prog 90 [.a [.h a_.1, .h a_.2.1, .i a_.2.2], .a [.h b.1, .h b.2.1, .i b.2.2]] (.b (specEqualStores a_ b)) := by
  refine acalls_of (tt := tt) tt_ok Tryz.func90 (fn := Tryz.f90) rfl (by unfold FnOk; kernel_rfl) (Nat.le_of_ble_eq_true rfl) fun w0 F0 => ?_
  refine awp_seq ?_
  refine rk tt_ok [(2, .p 2 0), (3, .p 3 0), (4, .b false)] [0, 1] [(2, [.h a_.1, .h a_.2.1, .i a_.2.2]), (3, [.h b.1, .h b.2.1, .i b.2.2])] [] [] (o0) ?_
  refine awp_seq ?_
  refine awp_seq ?_
  refine jn [(27, .b ((!(specl05Fields a_.1 b.1)) || ((a_.2.2 != b.2.2) || ((a_.2.1.length : Int) != (b.2.1.length : Int)))))] [] [] [] (!(specl05Fields a_.1 b.1)) (fun h1 => ?_) (fun h1 => ?_) ?_
  · -- True
    have h1n : (specl05Fields a_.1 b.1) = false := bnot_t h1
    refine rk tt_ok [(27, .b true)] [] [] [] [(4, .val (.b false)), (5, .val (.b true))] (o2 (ob_call (cb h1n (specl05Fields_a a_.1 b.1))) (o1 (ob_eq (show .b (!false) = .b true from rfl)))) ?_
    exact ⟨rfl, weak_fit (by rw [h1]; first | done | kernel_rfl)⟩
  · -- False
    have h1n : (specl05Fields a_.1 b.1) = true := bnot_f h1
    refine awp_split (a_.2.2 != b.2.2) (fun h2 => ?_) (fun h2 => ?_)
    · -- True
      have h2d := ne_of_bne h2
      refine rk tt_ok [(27, .b true)] [] [] [] [(4, .val (.b true)), (5, .val (.b false)), (11, .val (.b true))] (o2 (ob_call (cb h1n (specl05Fields_a a_.1 b.1))) (o2 (ob_eq (show .b (!true) = .b false from rfl)) (o1 (ob_eq (av_bool h2))))) ?_
      exact ⟨rfl, weak_fit (by rw [h1, h2]; first | done | kernel_rfl)⟩
    · -- False
      have h2d := eq_of_bne h2
      refine rk tt_ok [(27, .b ((a_.2.1.length : Int) != (b.2.1.length : Int)))] [] [] [] [(4, .val (.b true)), (5, .val (.b false)), (11, .val (.b false)), (16, .val (.i (a_.2.1.length : Int))), (19, .val (.i (b.2.1.length : Int)))] (o2 (ob_call (cb h1n (specl05Fields_a a_.1 b.1))) (o2 (ob_eq (show .b (!true) = .b false from rfl)) (o2 (ob_eq (av_bool h2)) (o2 (ob_eq (av_len a_.2.1)) (o1 (ob_eq (av_len b.2.1))))))) ?_
      exact ⟨rfl, weak_fit (by rw [h1, h2]; first | done | kernel_rfl)⟩
  refine ck ((!(specl05Fields a_.1 b.1)) || ((a_.2.2 != b.2.2) || ((a_.2.1.length : Int) != (b.2.1.length : Int)))) (fun h3 => ?_) (fun h3 => ?_)
  · -- True
    refine awp_seq ?_
    refine rk tt_ok [] [27] [] [] [] (o0) ?_
    refine awp_ret ?_
    exact pret [] (congrArg (fun z => (.b z : AV)) (show specEqualStores a_ b = false from bif_t h3 (rfl)).symm)
  · -- False
    have h3l : ((!(specl05Fields a_.1 b.1))) = false := or_l h3
    have h3ln : (specl05Fields a_.1 b.1) = true := bnot_f h3l
    have h3r : (((a_.2.2 != b.2.2) || ((a_.2.1.length : Int) != (b.2.1.length : Int)))) = false := or_r h3
    have h3rl : ((a_.2.2 != b.2.2)) = false := or_l h3r
    have h3rld := eq_of_bne h3rl
    have h3rr : (((a_.2.1.length : Int) != (b.2.1.length : Int))) = false := or_r h3r
    have h3rrd := eq_of_bne h3rr
    refine awp_skip ?_
    refine awp_seq ?_
    refine awp_seq ?_
    refine rk tt_ok [(5, .i 0)] [27] [] [] [] (o0) ?_
    refine wdB 2 1 .sh a_.2.1 (fun hw4 => ?_)
    have hl5 : List.length a_.2.1 ≤ 1073741824 := wide_len (hw4)
    refine blk (fun (k0 : Nat) (s0 : Unit) => [(5, .i ((k0 : Nat) : Int))]) [5] (fun k0 s0 => []) [] (fun (y0 : Unit) => []) [2, 3, 5] (fun y0 => []) [2, 3] (fun (k0 : Nat) (s0 : Unit) => (forL (specEqualStores_f0 b) specEqualStores_e0 a_.2.1 0 ()) = forL (specEqualStores_f0 b) specEqualStores_e0 (List.drop k0 a_.2.1) k0 s0) (fun (y0 : Unit) => (forL (specEqualStores_f0 b) specEqualStores_e0 a_.2.1 0 ()) = .brk y0) a_.2.1.length () (weak_fit (by kernel_rfl)) rfl (fun k0 s0 hk0 hI0 => ?_) (fun k0 s0 hk0 hI0 => ?_) (fun y0 hD0 => ?_)
    · -- round
      obtain ⟨a0, hx0⟩ := get_some (l := a_.2.1) (i := k0) hk0
      refine awp_seq ?_
      refine awp_seq ?_
      refine rk tt_ok [(32, .b true)] [] [] [] [(3, .val (.i (a_.2.1.length : Int))), (4, .val (.b true))] (o2 (ob_eq (av_len a_.2.1)) (o1 (ob_eq (av_bool (decide_eq_true (p := ((k0 : Nat) : Int) < (a_.2.1.length : Int)) (by omega)))))) ?_
      refine ckT ?_
      refine awp_skip ?_
      refine awp_seq ?_
      refine awp_block ?_
      refine awp_seq ?_
      refine wdB 3 1 .sh b.2.1 (fun hw7 => ?_)
      have hl8 : List.length b.2.1 ≤ 1073741824 := wide_len (hw7)
      have hx6 : b.2.1[k0]? = some (nth b.2.1 k0) := nth_get (by omega)
      refine rd' tt_ok tt_mx [(46, .b (!(specEqualFiles a0 (nth b.2.1 k0))))] [32] [] [] [(3, .row [.i a0.1, .i a0.2.1, .b a0.2.2.1, .i a0.2.2.2.1, .h a0.2.2.2.2]), (8, .row [.i ((nth b.2.1 k0).1), .i ((nth b.2.1 k0).2.1), .b ((nth b.2.1 k0).2.2.1), .i ((nth b.2.1 k0).2.2.2.1), .h ((nth b.2.1 k0).2.2.2.2)]), (10, .val (.b (specEqualFiles a0 (nth b.2.1 k0))))] (o2 (ob_elem (el_of (i := ((k0 : Nat) : Int)) (by omega) rfl hx0)) (o2 (ob_elem (el_of (i := ((k0 : Nat) : Int)) (by omega) rfl hx6)) (o1 (ob_call (specEqualFiles_a a0 (nth b.2.1 k0)))))) ?_
      refine ck (!(specEqualFiles a0 (nth b.2.1 k0))) (fun h9 => ?_) (fun h9 => ?_)
      · -- True
        have h9n : (specEqualFiles a0 (nth b.2.1 k0)) = false := bnot_t h9
        refine awp_seq ?_
        refine rk tt_ok [] [46] [] [] [] (o0) ?_
        refine awp_ret ?_
        have hr10 : (forL (specEqualStores_f0 b) specEqualStores_e0 a_.2.1 0 ()) = .ret false := forL_ret hx0 (bif_t h9 (rfl)) hI0
        exact pret [] (congrArg (fun z => (.b z : AV)) (show specEqualStores a_ b = false from bif_f h3 (on_r hr10)).symm)
      · -- False
        have h9n : (specEqualFiles a0 (nth b.2.1 k0)) = true := bnot_f h9
        refine awp_skip ?_
        refine rk tt_ok [(5, .i ((k0 + 1 : Nat) : Int))] [5, 46] [] [] [(1, .val (.i ((k0 + 1 : Nat) : Int)))] (o1 (ob_eq (av_i (wrap_succ k0 (by omega))))) ?_
        exact Exists.intro () (And.intro (weak_fit (by kernel_rfl)) (forL_next hx0 (bif_f h9 (rfl)) hI0))
    · -- exit
      refine awp_seq ?_
      refine awp_seq ?_
      refine rk tt_ok [(32, .b false)] [] [] [] [(3, .val (.i (a_.2.1.length : Int))), (4, .val (.b false))] (o2 (ob_eq (av_len a_.2.1)) (o1 (ob_eq (av_bool (decide_eq_false (p := ((k0 : Nat) : Int) < (a_.2.1.length : Int)) (by omega)))))) ?_
      refine ckF ?_
      refine awp_exit ?_
      exact Exists.intro () (And.intro (weak_fit (by kernel_rfl)) (forL_end hk0 (rfl) hI0))
    · -- behind
      refine awp_seq ?_
      refine rk tt_ok [(4, .b true)] [4] [] [] [] (o0) ?_
      refine awp_ret ?_
      exact pret [] (congrArg (fun z => (.b z : AV)) (show specEqualStores a_ b = true from bif_f h3 (on_b hD0 (rfl))).symm)
def specEqualQueries_f0 (b : (List NodeD)) (k0 : Nat) (a0 : NodeD) (_ : Unit) : Rd (Bool) (Unit) (Unit) := (bif (!((a0.1 == (nth b k0).1) && ((a0.2.1 == (nth b k0).2.1) && ((a0.2.2.1 == (nth b k0).2.2.1) && ((a0.2.2.2.1.toList == ((nth b k0).2.2.2.1).toList) && ((a0.2.2.2.2.1 == (nth b k0).2.2.2.2.1) && ((a0.2.2.2.2.2.1 == (nth b k0).2.2.2.2.2.1) && ((a0.2.2.2.2.2.2.toList == ((nth b k0).2.2.2.2.2.2).toList) && true)))))))) then (.ret false) else (.next ()))
def specEqualQueries_e0 (_ : Nat) (_ : Unit) : Unit := ()
def specEqualQueries (a_ : (List NodeD)) (b : (List NodeD)) : Bool := (bif ((a_.length : Int) != (b.length : Int)) then false else (Out.on (forL (specEqualQueries_f0 b) specEqualQueries_e0 a_ 0 ()) (fun _ => true)))
theorem specEqualQueries_a (a_ : (List NodeD)) (b : (List NodeD)) : ACalls Tryz.prog 130 [.h a_, .h b] (.b (specEqualQueries a_ b)) := by
  refine acalls_of (tt := tt) tt_ok Tryz.func130 (fn := Tryz.f130) rfl (by unfold FnOk; kernel_rfl) (Nat.le_of_ble_eq_true rfl) fun w0 F0 => ?_
  refine awp_seq ?_
  refine rk tt_ok [(4, .b false)] [] [] [] [] (o0) ?_
  refine awp_seq ?_
  refine awp_seq ?_
  refine rk tt_ok [(10, .b ((a_.length : Int) != (b.length : Int)))] [] [] [] [(1, .val (.i (a_.length : Int))), (3, .val (.i (b.length : Int)))] (o2 (ob_eq (av_len a_)) (o1 (ob_eq (av_len b)))) ?_
  refine ck ((a_.length : Int) != (b.length : Int)) (fun h1 => ?_) (fun h1 => ?_)
  · -- True
    have h1d := ne_of_bne h1
    refine awp_seq ?_
    refine rk tt_ok [] [10] [] [] [] (o0) ?_
    refine awp_ret ?_
    exact pret [] (congrArg (fun z => (.b z : AV)) (show specEqualQueries a_ b = false from bif_t h1 (rfl)).symm)
  · -- False
    have h1d := eq_of_bne h1
    refine awp_skip ?_
    refine awp_seq ?_
    refine awp_seq ?_
    refine rk tt_ok [(5, .i 0)] [10] [] [] [] (o0) ?_
    refine wdT 0 0 .sh a_ (fun hw2 => ?_)
    have hl3 : List.length a_ ≤ 1073741824 := wide_len (hw2)
    refine blk (fun (k0 : Nat) (s0 : Unit) => [(5, .i ((k0 : Nat) : Int))]) [5] (fun k0 s0 => []) [] (fun (y0 : Unit) => []) [0, 1, 5] (fun y0 => []) [] (fun (k0 : Nat) (s0 : Unit) => (forL (specEqualQueries_f0 b) specEqualQueries_e0 a_ 0 ()) = forL (specEqualQueries_f0 b) specEqualQueries_e0 (List.drop k0 a_) k0 s0) (fun (y0 : Unit) => (forL (specEqualQueries_f0 b) specEqualQueries_e0 a_ 0 ()) = .brk y0) a_.length () (weak_fit (by kernel_rfl)) rfl (fun k0 s0 hk0 hI0 => ?_) (fun k0 s0 hk0 hI0 => ?_) (fun y0 hD0 => ?_)
    · -- round
      obtain ⟨a0, hx0⟩ := get_some (l := a_) (i := k0) hk0
      refine awp_seq ?_
      refine awp_seq ?_
      refine rk tt_ok [(14, .b true)] [] [] [] [(2, .val (.i (a_.length : Int))), (3, .val (.b true))] (o2 (ob_eq (av_len a_)) (o1 (ob_eq (av_bool (decide_eq_true (p := ((k0 : Nat) : Int) < (a_.length : Int)) (by omega)))))) ?_
      refine ckT ?_
      refine awp_skip ?_
      refine awp_seq ?_
      refine awp_block ?_
      refine awp_seq ?_
      refine wdT 1 0 .sh b (fun hw5 => ?_)
      have hl6 : List.length b ≤ 1073741824 := wide_len (hw5)
      have hx4 : b[k0]? = some (nth b k0) := nth_get (by omega)
      refine rd' tt_ok tt_mx [(25, .b (!((a0.1 == (nth b k0).1) && ((a0.2.1 == (nth b k0).2.1) && ((a0.2.2.1 == (nth b k0).2.2.1) && ((a0.2.2.2.1.toList == ((nth b k0).2.2.2.1).toList) && ((a0.2.2.2.2.1 == (nth b k0).2.2.2.2.1) && ((a0.2.2.2.2.2.1 == (nth b k0).2.2.2.2.2.1) && ((a0.2.2.2.2.2.2.toList == ((nth b k0).2.2.2.2.2.2).toList) && true)))))))))] [14] [] [] [(2, .row [.i a0.1, .i a0.2.1, .i a0.2.2.1, .s a0.2.2.2.1, .i a0.2.2.2.2.1, .i a0.2.2.2.2.2.1, .s a0.2.2.2.2.2.2]), (6, .row [.i ((nth b k0).1), .i ((nth b k0).2.1), .i ((nth b k0).2.2.1), .s ((nth b k0).2.2.2.1), .i ((nth b k0).2.2.2.2.1), .i ((nth b k0).2.2.2.2.2.1), .s ((nth b k0).2.2.2.2.2.2)])] (o2 (ob_elem (el_of (i := ((k0 : Nat) : Int)) (by omega) rfl hx0)) (o1 (ob_elem (el_of (i := ((k0 : Nat) : Int)) (by omega) rfl hx4)))) ?_
      refine ck (!((a0.1 == (nth b k0).1) && ((a0.2.1 == (nth b k0).2.1) && ((a0.2.2.1 == (nth b k0).2.2.1) && ((a0.2.2.2.1.toList == ((nth b k0).2.2.2.1).toList) && ((a0.2.2.2.2.1 == (nth b k0).2.2.2.2.1) && ((a0.2.2.2.2.2.1 == (nth b k0).2.2.2.2.2.1) && ((a0.2.2.2.2.2.2.toList == ((nth b k0).2.2.2.2.2.2).toList) && true)))))))) (fun h7 => ?_) (fun h7 => ?_)
      · -- True
        have h7n : ((a0.1 == (nth b k0).1) && ((a0.2.1 == (nth b k0).2.1) && ((a0.2.2.1 == (nth b k0).2.2.1) && ((a0.2.2.2.1.toList == ((nth b k0).2.2.2.1).toList) && ((a0.2.2.2.2.1 == (nth b k0).2.2.2.2.1) && ((a0.2.2.2.2.2.1 == (nth b k0).2.2.2.2.2.1) && ((a0.2.2.2.2.2.2.toList == ((nth b k0).2.2.2.2.2.2).toList) && true))))))) = false := bnot_t h7
        refine awp_seq ?_
        refine rk tt_ok [] [25] [] [] [] (o0) ?_
        refine awp_ret ?_
        have hr8 : (forL (specEqualQueries_f0 b) specEqualQueries_e0 a_ 0 ()) = .ret false := forL_ret hx0 (bif_t h7 (rfl)) hI0
        exact pret [] (congrArg (fun z => (.b z : AV)) (show specEqualQueries a_ b = false from bif_f h1 (on_r hr8)).symm)
      · -- False
        have h7n : ((a0.1 == (nth b k0).1) && ((a0.2.1 == (nth b k0).2.1) && ((a0.2.2.1 == (nth b k0).2.2.1) && ((a0.2.2.2.1.toList == ((nth b k0).2.2.2.1).toList) && ((a0.2.2.2.2.1 == (nth b k0).2.2.2.2.1) && ((a0.2.2.2.2.2.1 == (nth b k0).2.2.2.2.2.1) && ((a0.2.2.2.2.2.2.toList == ((nth b k0).2.2.2.2.2.2).toList) && true))))))) = true := bnot_f h7
        have h7nl : ((a0.1 == (nth b k0).1)) = true := and_l h7n
        have h7nld := eq_of_beq h7nl
        have h7nr : (((a0.2.1 == (nth b k0).2.1) && ((a0.2.2.1 == (nth b k0).2.2.1) && ((a0.2.2.2.1.toList == ((nth b k0).2.2.2.1).toList) && ((a0.2.2.2.2.1 == (nth b k0).2.2.2.2.1) && ((a0.2.2.2.2.2.1 == (nth b k0).2.2.2.2.2.1) && ((a0.2.2.2.2.2.2.toList == ((nth b k0).2.2.2.2.2.2).toList) && true))))))) = true := and_r h7n
        have h7nrl : ((a0.2.1 == (nth b k0).2.1)) = true := and_l h7nr
        have h7nrld := eq_of_beq h7nrl
        have h7nrr : (((a0.2.2.1 == (nth b k0).2.2.1) && ((a0.2.2.2.1.toList == ((nth b k0).2.2.2.1).toList) && ((a0.2.2.2.2.1 == (nth b k0).2.2.2.2.1) && ((a0.2.2.2.2.2.1 == (nth b k0).2.2.2.2.2.1) && ((a0.2.2.2.2.2.2.toList == ((nth b k0).2.2.2.2.2.2).toList) && true)))))) = true := and_r h7nr
        have h7nrrl : ((a0.2.2.1 == (nth b k0).2.2.1)) = true := and_l h7nrr
        have h7nrrld := eq_of_beq h7nrrl
        have h7nrrr : (((a0.2.2.2.1.toList == ((nth b k0).2.2.2.1).toList) && ((a0.2.2.2.2.1 == (nth b k0).2.2.2.2.1) && ((a0.2.2.2.2.2.1 == (nth b k0).2.2.2.2.2.1) && ((a0.2.2.2.2.2.2.toList == ((nth b k0).2.2.2.2.2.2).toList) && true))))) = true := and_r h7nrr
        have h7nrrrl : ((a0.2.2.2.1.toList == ((nth b k0).2.2.2.1).toList)) = true := and_l h7nrrr
        have h7nrrrr : (((a0.2.2.2.2.1 == (nth b k0).2.2.2.2.1) && ((a0.2.2.2.2.2.1 == (nth b k0).2.2.2.2.2.1) && ((a0.2.2.2.2.2.2.toList == ((nth b k0).2.2.2.2.2.2).toList) && true)))) = true := and_r h7nrrr
        have h7nrrrrl : ((a0.2.2.2.2.1 == (nth b k0).2.2.2.2.1)) = true := and_l h7nrrrr
        have h7nrrrrld := eq_of_beq h7nrrrrl
        have h7nrrrrr : (((a0.2.2.2.2.2.1 == (nth b k0).2.2.2.2.2.1) && ((a0.2.2.2.2.2.2.toList == ((nth b k0).2.2.2.2.2.2).toList) && true))) = true := and_r h7nrrrr
        have h7nrrrrrl : ((a0.2.2.2.2.2.1 == (nth b k0).2.2.2.2.2.1)) = true := and_l h7nrrrrr
        have h7nrrrrrld := eq_of_beq h7nrrrrrl
        have h7nrrrrrr : (((a0.2.2.2.2.2.2.toList == ((nth b k0).2.2.2.2.2.2).toList) && true)) = true := and_r h7nrrrrr
        have h7nrrrrrrl : ((a0.2.2.2.2.2.2.toList == ((nth b k0).2.2.2.2.2.2).toList)) = true := and_l h7nrrrrrr
        have h7nrrrrrrr : (true) = true := and_r h7nrrrrrr
        refine awp_skip ?_
        refine rk tt_ok [(5, .i ((k0 + 1 : Nat) : Int))] [5, 25] [] [] [(1, .val (.i ((k0 + 1 : Nat) : Int)))] (o1 (ob_eq (av_i (wrap_succ k0 (by omega))))) ?_
        exact Exists.intro () (And.intro (weak_fit (by kernel_rfl)) (forL_next hx0 (bif_f h7 (rfl)) hI0))
    · -- exit
      refine awp_seq ?_
      refine awp_seq ?_
      refine rk tt_ok [(14, .b false)] [] [] [] [(2, .val (.i (a_.length : Int))), (3, .val (.b false))] (o2 (ob_eq (av_len a_)) (o1 (ob_eq (av_bool (decide_eq_false (p := ((k0 : Nat) : Int) < (a_.length : Int)) (by omega)))))) ?_
      refine ckF ?_
      refine awp_exit ?_
      exact Exists.intro () (And.intro (weak_fit (by kernel_rfl)) (forL_end hk0 (rfl) hI0))
    · -- behind
      refine awp_seq ?_
      refine rk tt_ok [(4, .b true)] [4] [] [] [] (o0) ?_
      refine awp_ret ?_
      exact pret [] (congrArg (fun z => (.b z : AV)) (show specEqualQueries a_ b = true from bif_f h1 (on_b hD0 (rfl))).symm)
def specEqualDirs_f0 (b : (List DirD)) (k0 : Nat) (a0 : DirD) (_ : Unit) : Rd (Bool) (Unit) (Unit) := (bif ((!(a0.1.toList == ((nth b k0).1).toList)) || (!(specEqualQueries a0.2 ((nth b k0).2)))) then (.ret false) else (.next ()))
def specEqualDirs_e0 (_ : Nat) (_ : Unit) : Unit := ()
def specEqualDirs (a_ : (List DirD)) (b : (List DirD)) : Bool := (bif ((a_.length : Int) != (b.length : Int)) then false else (Out.on (forL (specEqualDirs_f0 b) specEqualDirs_e0 a_ 0 ()) (fun _ => true)))
theorem specEqualDirs_a (a_ : (List DirD)) (b : (List DirD)) : ACalls Tryz.prog 91 [.h a_, .h b] (.b (specEqualDirs a_ b)) := by
  refine acalls_of (tt := tt) tt_ok Tryz.func91 (fn := Tryz.f91) rfl (by unfold FnOk; kernel_rfl) (Nat.le_of_ble_eq_true rfl) fun w0 F0 => ?_
  refine awp_seq ?_
  refine rk tt_ok [(4, .b false)] [] [] [] [] (o0) ?_
  refine awp_seq ?_
  refine awp_seq ?_
  refine rk tt_ok [(10, .b ((a_.length : Int) != (b.length : Int)))] [] [] [] [(1, .val (.i (a_.length : Int))), (3, .val (.i (b.length : Int)))] (o2 (ob_eq (av_len a_)) (o1 (ob_eq (av_len b)))) ?_
  refine ck ((a_.length : Int) != (b.length : Int)) (fun h1 => ?_) (fun h1 => ?_)
  · -- True
    have h1d := ne_of_bne h1
    refine awp_seq ?_
    refine rk tt_ok [] [10] [] [] [] (o0) ?_
    refine awp_ret ?_
    exact pret [] (congrArg (fun z => (.b z : AV)) (show specEqualDirs a_ b = false from bif_t h1 (rfl)).symm)
  · -- False
    have h1d := eq_of_bne h1
    refine awp_skip ?_
    refine awp_seq ?_
    refine awp_seq ?_
    refine rk tt_ok [(5, .i 0)] [10] [] [] [] (o0) ?_
    refine wdT 0 0 .sh a_ (fun hw2 => ?_)
    have hl3 : List.length a_ ≤ 1073741824 := wide_len (hw2)
    refine blk (fun (k0 : Nat) (s0 : Unit) => [(5, .i ((k0 : Nat) : Int))]) [5] (fun k0 s0 => []) [] (fun (y0 : Unit) => []) [0, 1, 5] (fun y0 => []) [] (fun (k0 : Nat) (s0 : Unit) => (forL (specEqualDirs_f0 b) specEqualDirs_e0 a_ 0 ()) = forL (specEqualDirs_f0 b) specEqualDirs_e0 (List.drop k0 a_) k0 s0) (fun (y0 : Unit) => (forL (specEqualDirs_f0 b) specEqualDirs_e0 a_ 0 ()) = .brk y0) a_.length () (weak_fit (by kernel_rfl)) rfl (fun k0 s0 hk0 hI0 => ?_) (fun k0 s0 hk0 hI0 => ?_) (fun y0 hD0 => ?_)
    · -- round
      obtain ⟨a0, hx0⟩ := get_some (l := a_) (i := k0) hk0
      refine awp_seq ?_
      refine awp_seq ?_
      refine rk tt_ok [(14, .b true)] [] [] [] [(2, .val (.i (a_.length : Int))), (3, .val (.b true))] (o2 (ob_eq (av_len a_)) (o1 (ob_eq (av_bool (decide_eq_true (p := ((k0 : Nat) : Int) < (a_.length : Int)) (by omega)))))) ?_
      refine ckT ?_
      refine awp_skip ?_
      refine awp_seq ?_
      refine awp_block ?_
      refine awp_seq ?_
      refine jn [(41, .b ((!(a0.1.toList == ((nth b k0).1).toList)) || (!(specEqualQueries a0.2 ((nth b k0).2)))))] [14] [] [] (!(a0.1.toList == ((nth b k0).1).toList)) (fun h4 => ?_) (fun h4 => ?_) ?_
      · -- True
        have h4n : (a0.1.toList == ((nth b k0).1).toList) = false := bnot_t h4
        refine wdT 1 0 .sh b (fun hw6 => ?_)
        have hl7 : List.length b ≤ 1073741824 := wide_len (hw6)
        have hx5 : b[k0]? = some (nth b k0) := nth_get (by omega)
        refine rd' tt_ok tt_mx [(41, .b true)] [14] [] [] [(2, .row [.s a0.1, .h a0.2]), (7, .row [.s ((nth b k0).1), .h ((nth b k0).2)]), (10, .val (.b true))] (o2 (ob_elem (el_of (i := ((k0 : Nat) : Int)) (by omega) rfl hx0)) (o2 (ob_elem (el_of (i := ((k0 : Nat) : Int)) (by omega) rfl hx5)) (o1 (ob_eq (av_bool h4))))) ?_
        exact ⟨rfl, weak_fit (by rw [h4]; first | done | kernel_rfl)⟩
      · -- False
        have h4n : (a0.1.toList == ((nth b k0).1).toList) = true := bnot_f h4
        refine wdT 1 0 .sh b (fun hw9 => ?_)
        have hl10 : List.length b ≤ 1073741824 := wide_len (hw9)
        have hx8 : b[k0]? = some (nth b k0) := nth_get (by omega)
        refine rd' tt_ok tt_mx [(41, .b (!(specEqualQueries a0.2 ((nth b k0).2))))] [14] [] [] [(2, .row [.s a0.1, .h a0.2]), (7, .row [.s ((nth b k0).1), .h ((nth b k0).2)]), (10, .val (.b false)), (14, .row [.s a0.1, .h a0.2]), (19, .row [.s ((nth b k0).1), .h ((nth b k0).2)]), (22, .val (.b (specEqualQueries a0.2 ((nth b k0).2))))] (o2 (ob_elem (el_of (i := ((k0 : Nat) : Int)) (by omega) rfl hx0)) (o2 (ob_elem (el_of (i := ((k0 : Nat) : Int)) (by omega) rfl hx8)) (o2 (ob_eq (av_bool h4)) (o2 (ob_elem (el_of (i := ((k0 : Nat) : Int)) (by omega) rfl hx0)) (o2 (ob_elem (el_of (i := ((k0 : Nat) : Int)) (by omega) rfl hx8)) (o1 (ob_call (specEqualQueries_a a0.2 ((nth b k0).2))))))))) ?_
        exact ⟨rfl, weak_fit (by rw [h4]; first | done | kernel_rfl)⟩
      refine ck ((!(a0.1.toList == ((nth b k0).1).toList)) || (!(specEqualQueries a0.2 ((nth b k0).2)))) (fun h11 => ?_) (fun h11 => ?_)
      · -- True
        refine awp_seq ?_
        refine rk tt_ok [] [41] [] [] [] (o0) ?_
        refine awp_ret ?_
        have hr12 : (forL (specEqualDirs_f0 b) specEqualDirs_e0 a_ 0 ()) = .ret false := forL_ret hx0 (bif_t h11 (rfl)) hI0
        exact pret [] (congrArg (fun z => (.b z : AV)) (show specEqualDirs a_ b = false from bif_f h1 (on_r hr12)).symm)
      · -- False
        have h11l : ((!(a0.1.toList == ((nth b k0).1).toList))) = false := or_l h11
        have h11ln : (a0.1.toList == ((nth b k0).1).toList) = true := bnot_f h11l
        have h11r : ((!(specEqualQueries a0.2 ((nth b k0).2)))) = false := or_r h11
        have h11rn : (specEqualQueries a0.2 ((nth b k0).2)) = true := bnot_f h11r
        refine awp_skip ?_
        refine rk tt_ok [(5, .i ((k0 + 1 : Nat) : Int))] [5, 41] [] [] [(1, .val (.i ((k0 + 1 : Nat) : Int)))] (o1 (ob_eq (av_i (wrap_succ k0 (by omega))))) ?_
        exact Exists.intro () (And.intro (weak_fit (by kernel_rfl)) (forL_next hx0 (bif_f h11 (rfl)) hI0))
    · -- exit
      refine awp_seq ?_
      refine awp_seq ?_
      refine rk tt_ok [(14, .b false)] [] [] [] [(2, .val (.i (a_.length : Int))), (3, .val (.b false))] (o2 (ob_eq (av_len a_)) (o1 (ob_eq (av_bool (decide_eq_false (p := ((k0 : Nat) : Int) < (a_.length : Int)) (by omega)))))) ?_
      refine ckF ?_
      refine awp_exit ?_
      exact Exists.intro () (And.intro (weak_fit (by kernel_rfl)) (forL_end hk0 (rfl) hI0))
    · -- behind
      refine awp_seq ?_
      refine rk tt_ok [(4, .b true)] [4] [] [] [] (o0) ?_
      refine awp_ret ?_
      exact pret [] (congrArg (fun z => (.b z : AV)) (show specEqualDirs a_ b = true from bif_f h1 (on_b hD0 (rfl))).symm)
def specl07Ints_f0 (b : (List Int)) (k0 : Nat) (a0 : Int) (_ : Unit) : Rd (Bool) (Unit) (Unit) := (bif (a0 != (nth b k0)) then (.ret false) else (.next ()))
def specl07Ints_e0 (_ : Nat) (_ : Unit) : Unit := ()
def specl07Ints (a_ : (List Int)) (b : (List Int)) : Bool := (bif ((a_.length : Int) != (b.length : Int)) then false else (Out.on (forL (specl07Ints_f0 b) specl07Ints_e0 a_ 0 ()) (fun _ => true)))
theorem specl07Ints_a (a_ : (List Int)) (b : (List Int)) : ACalls Tryz.prog 40 [.h a_, .h b] (.b (specl07Ints a_ b)) := by
  refine acalls_of (tt := tt) tt_ok Tryz.func40 (fn := Tryz.f40) rfl (by unfold FnOk; kernel_rfl) (Nat.le_of_ble_eq_true rfl) fun w0 F0 => ?_
  refine awp_seq ?_
  refine rk tt_ok [(4, .b false)] [] [] [] [] (o0) ?_
  refine awp_seq ?_
  refine awp_seq ?_
  refine rk tt_ok [(10, .b ((a_.length : Int) != (b.length : Int)))] [] [] [] [(1, .val (.i (a_.length : Int))), (3, .val (.i (b.length : Int)))] (o2 (ob_eq (av_len a_)) (o1 (ob_eq (av_len b)))) ?_
  refine ck ((a_.length : Int) != (b.length : Int)) (fun h1 => ?_) (fun h1 => ?_)
  · -- True
    have h1d := ne_of_bne h1
    refine awp_seq ?_
    refine rk tt_ok [] [10] [] [] [] (o0) ?_
    refine awp_ret ?_
    exact pret [] (congrArg (fun z => (.b z : AV)) (show specl07Ints a_ b = false from bif_t h1 (rfl)).symm)
  · -- False
    have h1d := eq_of_bne h1
    refine awp_skip ?_
    refine awp_seq ?_
    refine awp_seq ?_
    refine rk tt_ok [(5, .i 0)] [10] [] [] [] (o0) ?_
    refine wdT 0 0 .sh a_ (fun hw2 => ?_)
    have hl3 : List.length a_ ≤ 1073741824 := wide_len (hw2)
    refine blk (fun (k0 : Nat) (s0 : Unit) => [(5, .i ((k0 : Nat) : Int))]) [5] (fun k0 s0 => []) [] (fun (y0 : Unit) => []) [0, 1, 5] (fun y0 => []) [] (fun (k0 : Nat) (s0 : Unit) => (forL (specl07Ints_f0 b) specl07Ints_e0 a_ 0 ()) = forL (specl07Ints_f0 b) specl07Ints_e0 (List.drop k0 a_) k0 s0) (fun (y0 : Unit) => (forL (specl07Ints_f0 b) specl07Ints_e0 a_ 0 ()) = .brk y0) a_.length () (weak_fit (by kernel_rfl)) rfl (fun k0 s0 hk0 hI0 => ?_) (fun k0 s0 hk0 hI0 => ?_) (fun y0 hD0 => ?_)
    · -- round
      obtain ⟨a0, hx0⟩ := get_some (l := a_) (i := k0) hk0
      refine awp_seq ?_
      refine awp_seq ?_
      refine rk tt_ok [(14, .b true)] [] [] [] [(2, .val (.i (a_.length : Int))), (3, .val (.b true))] (o2 (ob_eq (av_len a_)) (o1 (ob_eq (av_bool (decide_eq_true (p := ((k0 : Nat) : Int) < (a_.length : Int)) (by omega)))))) ?_
      refine ckT ?_
      refine awp_skip ?_
      refine awp_seq ?_
      refine awp_block ?_
      refine awp_seq ?_
      refine wdT 1 0 .sh b (fun hw5 => ?_)
      have hl6 : List.length b ≤ 1073741824 := wide_len (hw5)
      have hx4 : b[k0]? = some (nth b k0) := nth_get (by omega)
      refine rd' tt_ok tt_mx [(25, .b (a0 != (nth b k0)))] [14] [] [] [(2, .row [.i a0]), (6, .row [.i (nth b k0)])] (o2 (ob_elem (el_of (i := ((k0 : Nat) : Int)) (by omega) rfl hx0)) (o1 (ob_elem (el_of (i := ((k0 : Nat) : Int)) (by omega) rfl hx4)))) ?_
      refine ck (a0 != (nth b k0)) (fun h7 => ?_) (fun h7 => ?_)
      · -- True
        have h7d := ne_of_bne h7
        refine awp_seq ?_
        refine rk tt_ok [] [25] [] [] [] (o0) ?_
        refine awp_ret ?_
        have hr8 : (forL (specl07Ints_f0 b) specl07Ints_e0 a_ 0 ()) = .ret false := forL_ret hx0 (bif_t h7 (rfl)) hI0
        exact pret [] (congrArg (fun z => (.b z : AV)) (show specl07Ints a_ b = false from bif_f h1 (on_r hr8)).symm)
      · -- False
        have h7d := eq_of_bne h7
        refine awp_skip ?_
        refine rk tt_ok [(5, .i ((k0 + 1 : Nat) : Int))] [5, 25] [] [] [(1, .val (.i ((k0 + 1 : Nat) : Int)))] (o1 (ob_eq (av_i (wrap_succ k0 (by omega))))) ?_
        exact Exists.intro () (And.intro (weak_fit (by kernel_rfl)) (forL_next hx0 (bif_f h7 (rfl)) hI0))
    · -- exit
      refine awp_seq ?_
      refine awp_seq ?_
      refine rk tt_ok [(14, .b false)] [] [] [] [(2, .val (.i (a_.length : Int))), (3, .val (.b false))] (o2 (ob_eq (av_len a_)) (o1 (ob_eq (av_bool (decide_eq_false (p := ((k0 : Nat) : Int) < (a_.length : Int)) (by omega)))))) ?_
      refine ckF ?_
      refine awp_exit ?_
      exact Exists.intro () (And.intro (weak_fit (by kernel_rfl)) (forL_end hk0 (rfl) hI0))
    · -- behind
      refine awp_seq ?_
      refine rk tt_ok [(4, .b true)] [4] [] [] [] (o0) ?_
      refine awp_ret ?_
      exact pret [] (congrArg (fun z => (.b z : AV)) (show specl07Ints a_ b = true from bif_f h1 (on_b hD0 (rfl))).symm)
def specEqualResults_f0 (b : (List ResultD)) (k0 : Nat) (a0 : ResultD) (_ : Unit) : Rd (Bool) (Unit) (Unit) := (bif ((!(a0.1.toList == ((nth b k0).1).toList)) || (!(specl07Ints a0.2 ((nth b k0).2)))) then (.ret false) else (.next ()))
def specEqualResults_e0 (_ : Nat) (_ : Unit) : Unit := ()
def specEqualResults (a_ : (List ResultD)) (b : (List ResultD)) : Bool := (bif ((a_.length : Int) != (b.length : Int)) then false else (Out.on (forL (specEqualResults_f0 b) specEqualResults_e0 a_ 0 ()) (fun _ => true)))
theorem specEqualResults_a (a_ : (List ResultD)) (b : (List ResultD)) : ACalls Tryz.prog 92 [.h a_, .h b] (.b (specEqualResults a_ b)) := by
  refine acalls_of (tt := tt) tt_ok Tryz.func92 (fn := Tryz.f92) rfl (by unfold FnOk; kernel_rfl) (Nat.le_of_ble_eq_true rfl) fun w0 F0 => ?_
  refine awp_seq ?_
  refine rk tt_ok [(4, .b false)] [] [] [] [] (o0) ?_
  refine awp_seq ?_
  refine awp_seq ?_
  refine rk tt_ok [(10, .b ((a_.length : Int) != (b.length : Int)))] [] [] [] [(1, .val (.i (a_.length : Int))), (3, .val (.i (b.length : Int)))] (o2 (ob_eq (av_len a_)) (o1 (ob_eq (av_len b)))) ?_
  refine ck ((a_.length : Int) != (b.length : Int)) (fun h1 => ?_) (fun h1 => ?_)
  · -- True
    have h1d := ne_of_bne h1
    refine awp_seq ?_
    refine rk tt_ok [] [10] [] [] [] (o0) ?_
    refine awp_ret ?_
    exact pret [] (congrArg (fun z => (.b z : AV)) (show specEqualResults a_ b = false from bif_t h1 (rfl)).symm)
  · -- False
    have h1d := eq_of_bne h1
    refine awp_skip ?_
    refine awp_seq ?_
    refine awp_seq ?_
    refine rk tt_ok [(5, .i 0)] [10] [] [] [] (o0) ?_
    refine wdT 0 0 .sh a_ (fun hw2 => ?_)
    have hl3 : List.length a_ ≤ 1073741824 := wide_len (hw2)
    refine blk (fun (k0 : Nat) (s0 : Unit) => [(5, .i ((k0 : Nat) : Int))]) [5] (fun k0 s0 => []) [] (fun (y0 : Unit) => []) [0, 1, 5] (fun y0 => []) [] (fun (k0 : Nat) (s0 : Unit) => (forL (specEqualResults_f0 b) specEqualResults_e0 a_ 0 ()) = forL (specEqualResults_f0 b) specEqualResults_e0 (List.drop k0 a_) k0 s0) (fun (y0 : Unit) => (forL (specEqualResults_f0 b) specEqualResults_e0 a_ 0 ()) = .brk y0) a_.length () (weak_fit (by kernel_rfl)) rfl (fun k0 s0 hk0 hI0 => ?_) (fun k0 s0 hk0 hI0 => ?_) (fun y0 hD0 => ?_)
    · -- round
      obtain ⟨a0, hx0⟩ := get_some (l := a_) (i := k0) hk0
      refine awp_seq ?_
      refine awp_seq ?_
      refine rk tt_ok [(14, .b true)] [] [] [] [(2, .val (.i (a_.length : Int))), (3, .val (.b true))] (o2 (ob_eq (av_len a_)) (o1 (ob_eq (av_bool (decide_eq_true (p := ((k0 : Nat) : Int) < (a_.length : Int)) (by omega)))))) ?_
      refine ckT ?_
      refine awp_skip ?_
      refine awp_seq ?_
      refine awp_block ?_
      refine awp_seq ?_
      refine jn [(41, .b ((!(a0.1.toList == ((nth b k0).1).toList)) || (!(specl07Ints a0.2 ((nth b k0).2)))))] [14] [] [] (!(a0.1.toList == ((nth b k0).1).toList)) (fun h4 => ?_) (fun h4 => ?_) ?_
      · -- True
        have h4n : (a0.1.toList == ((nth b k0).1).toList) = false := bnot_t h4
        refine wdT 1 0 .sh b (fun hw6 => ?_)
        have hl7 : List.length b ≤ 1073741824 := wide_len (hw6)
        have hx5 : b[k0]? = some (nth b k0) := nth_get (by omega)
        refine rd' tt_ok tt_mx [(41, .b true)] [14] [] [] [(2, .row [.s a0.1, .h a0.2]), (7, .row [.s ((nth b k0).1), .h ((nth b k0).2)]), (10, .val (.b true))] (o2 (ob_elem (el_of (i := ((k0 : Nat) : Int)) (by omega) rfl hx0)) (o2 (ob_elem (el_of (i := ((k0 : Nat) : Int)) (by omega) rfl hx5)) (o1 (ob_eq (av_bool h4))))) ?_
        exact ⟨rfl, weak_fit (by rw [h4]; first | done | kernel_rfl)⟩
      · -- False
        have h4n : (a0.1.toList == ((nth b k0).1).toList) = true := bnot_f h4
        refine wdT 1 0 .sh b (fun hw9 => ?_)
        have hl10 : List.length b ≤ 1073741824 := wide_len (hw9)
        have hx8 : b[k0]? = some (nth b k0) := nth_get (by omega)
        refine rd' tt_ok tt_mx [(41, .b (!(specl07Ints a0.2 ((nth b k0).2))))] [14] [] [] [(2, .row [.s a0.1, .h a0.2]), (7, .row [.s ((nth b k0).1), .h ((nth b k0).2)]), (10, .val (.b false)), (14, .row [.s a0.1, .h a0.2]), (19, .row [.s ((nth b k0).1), .h ((nth b k0).2)]), (22, .val (.b (specl07Ints a0.2 ((nth b k0).2))))] (o2 (ob_elem (el_of (i := ((k0 : Nat) : Int)) (by omega) rfl hx0)) (o2 (ob_elem (el_of (i := ((k0 : Nat) : Int)) (by omega) rfl hx8)) (o2 (ob_eq (av_bool h4)) (o2 (ob_elem (el_of (i := ((k0 : Nat) : Int)) (by omega) rfl hx0)) (o2 (ob_elem (el_of (i := ((k0 : Nat) : Int)) (by omega) rfl hx8)) (o1 (ob_call (specl07Ints_a a0.2 ((nth b k0).2))))))))) ?_
        exact ⟨rfl, weak_fit (by rw [h4]; first | done | kernel_rfl)⟩
      refine ck ((!(a0.1.toList == ((nth b k0).1).toList)) || (!(specl07Ints a0.2 ((nth b k0).2)))) (fun h11 => ?_) (fun h11 => ?_)
      · -- True
        refine awp_seq ?_
        refine rk tt_ok [] [41] [] [] [] (o0) ?_
        refine awp_ret ?_
        have hr12 : (forL (specEqualResults_f0 b) specEqualResults_e0 a_ 0 ()) = .ret false := forL_ret hx0 (bif_t h11 (rfl)) hI0
        exact pret [] (congrArg (fun z => (.b z : AV)) (show specEqualResults a_ b = false from bif_f h1 (on_r hr12)).symm)
      · -- False
        have h11l : ((!(a0.1.toList == ((nth b k0).1).toList))) = false := or_l h11
        have h11ln : (a0.1.toList == ((nth b k0).1).toList) = true := bnot_f h11l
        have h11r : ((!(specl07Ints a0.2 ((nth b k0).2)))) = false := or_r h11
        have h11rn : (specl07Ints a0.2 ((nth b k0).2)) = true := bnot_f h11r
        refine awp_skip ?_
        refine rk tt_ok [(5, .i ((k0 + 1 : Nat) : Int))] [5, 41] [] [] [(1, .val (.i ((k0 + 1 : Nat) : Int)))] (o1 (ob_eq (av_i (wrap_succ k0 (by omega))))) ?_
        exact Exists.intro () (And.intro (weak_fit (by kernel_rfl)) (forL_next hx0 (bif_f h11 (rfl)) hI0))
    · -- exit
      refine awp_seq ?_
      refine awp_seq ?_
      refine rk tt_ok [(14, .b false)] [] [] [] [(2, .val (.i (a_.length : Int))), (3, .val (.b false))] (o2 (ob_eq (av_len a_)) (o1 (ob_eq (av_bool (decide_eq_false (p := ((k0 : Nat) : Int) < (a_.length : Int)) (by omega)))))) ?_
      refine ckF ?_
      refine awp_exit ?_
      exact Exists.intro () (And.intro (weak_fit (by kernel_rfl)) (forL_end hk0 (rfl) hI0))
    · -- behind
      refine awp_seq ?_
      refine rk tt_ok [(4, .b true)] [4] [] [] [] (o0) ?_
      refine awp_ret ?_
      exact pret [] (congrArg (fun z => (.b z : AV)) (show specEqualResults a_ b = true from bif_f h1 (on_b hD0 (rfl))).symm)
def specEqualCatalogs (a_ : CatalogD) (b : CatalogD) : Bool := ((specEqualStores a_.1 b.1) && ((specEqualDirs a_.2.1 b.2.1) && (specEqualResults a_.2.2 b.2.2)))
theorem specEqualCatalogs_a (a_ : CatalogD) (b : CatalogD) : ACalls Tryz.prog 38 [.a [.h a_.1.1, .h a_.1.2.1, .i a_.1.2.2, .h a_.2.1, .h a_.2.2], .a [.h b.1.1, .h b.1.2.1, .i b.1.2.2, .h b.2.1, .h b.2.2]] (.b (specEqualCatalogs a_ b)) := by
  refine acalls_of (tt := tt) tt_ok Tryz.func38 (fn := Tryz.f38) rfl (by unfold FnOk; kernel_rfl) (Nat.le_of_ble_eq_true rfl) fun w0 F0 => ?_
  refine awp_seq ?_
  refine rk tt_ok [(2, .p 2 0), (3, .p 3 0), (4, .b false)] [0, 1] [(2, [.h a_.1.1, .h a_.1.2.1, .i a_.1.2.2, .h a_.2.1, .h a_.2.2]), (3, [.h b.1.1, .h b.1.2.1, .i b.1.2.2, .h b.2.1, .h b.2.2])] [] [] (o0) ?_
  refine awp_seq ?_
  refine jn [(4, .b ((specEqualStores a_.1 b.1) && ((specEqualDirs a_.2.1 b.2.1) && (specEqualResults a_.2.2 b.2.2))))] [2, 3, 4] [] [2, 3] (specEqualStores a_.1 b.1) (fun h1 => ?_) (fun h1 => ?_) ?_
  · -- True
    refine awp_split (specEqualDirs a_.2.1 b.2.1) (fun h2 => ?_) (fun h2 => ?_)
    · -- True
      refine rk tt_ok [(4, .b (specEqualResults a_.2.2 b.2.2))] [2, 3, 4] [] [2, 3] [(4, .val (.b true)), (10, .val (.b true)), (17, .val (.b (specEqualResults a_.2.2 b.2.2)))] (o2 (ob_call (cb h1 (specEqualStores_a a_.1 b.1))) (o2 (ob_call (cb h2 (specEqualDirs_a a_.2.1 b.2.1))) (o1 (ob_call (specEqualResults_a a_.2.2 b.2.2))))) ?_
      exact ⟨rfl, weak_fit (by rw [h1, h2]; first | done | kernel_rfl)⟩
    · -- False
      refine rk tt_ok [] [2, 3] [] [2, 3] [(4, .val (.b true)), (10, .val (.b false))] (o2 (ob_call (cb h1 (specEqualStores_a a_.1 b.1))) (o1 (ob_call (cb h2 (specEqualDirs_a a_.2.1 b.2.1))))) ?_
      exact ⟨rfl, weak_fit (by rw [h1, h2]; first | done | kernel_rfl)⟩
  · -- False
    refine rk tt_ok [] [2, 3] [] [2, 3] [(4, .val (.b false))] (o1 (ob_call (cb h1 (specEqualStores_a a_.1 b.1)))) ?_
    exact ⟨rfl, weak_fit (by rw [h1]; first | done | kernel_rfl)⟩
  refine awp_ret ?_
  exact pret [] (congrArg (fun z => (.b z : AV)) (show specEqualCatalogs a_ b = ((specEqualStores a_.1 b.1) && ((specEqualDirs a_.2.1 b.2.1) && (specEqualResults a_.2.2 b.2.2))) from rfl).symm)
def specEqualSnapshots (a_ : SnapshotD) (b : SnapshotD) : Bool := ((specEqualStores a_.1 b.1) && (specEqualDirs a_.2 b.2))
theorem specEqualSnapshots_a (a_ : SnapshotD) (b : SnapshotD) : ACalls Tryz.prog 93 [.a [.h a_.1.1, .h a_.1.2.1, .i a_.1.2.2, .h a_.2], .a [.h b.1.1, .h b.1.2.1, .i b.1.2.2, .h b.2]] (.b (specEqualSnapshots a_ b)) := by
  refine acalls_of (tt := tt) tt_ok Tryz.func93 (fn := Tryz.f93) rfl (by unfold FnOk; kernel_rfl) (Nat.le_of_ble_eq_true rfl) fun w0 F0 => ?_
  refine awp_seq ?_
  refine rk tt_ok [(2, .p 2 0), (3, .p 3 0), (4, .b false)] [0, 1] [(2, [.h a_.1.1, .h a_.1.2.1, .i a_.1.2.2, .h a_.2]), (3, [.h b.1.1, .h b.1.2.1, .i b.1.2.2, .h b.2])] [] [] (o0) ?_
  refine awp_seq ?_
  refine jn [(4, .b ((specEqualStores a_.1 b.1) && (specEqualDirs a_.2 b.2)))] [2, 3, 4] [] [2, 3] (specEqualStores a_.1 b.1) (fun h1 => ?_) (fun h1 => ?_) ?_
  · -- True
    refine rk tt_ok [(4, .b (specEqualDirs a_.2 b.2))] [2, 3, 4] [] [2, 3] [(4, .val (.b true)), (10, .val (.b (specEqualDirs a_.2 b.2)))] (o2 (ob_call (cb h1 (specEqualStores_a a_.1 b.1))) (o1 (ob_call (specEqualDirs_a a_.2 b.2)))) ?_
    exact ⟨rfl, weak_fit (by rw [h1]; first | done | kernel_rfl)⟩
  · -- False
    refine rk tt_ok [] [2, 3] [] [2, 3] [(4, .val (.b false))] (o1 (ob_call (cb h1 (specEqualStores_a a_.1 b.1)))) ?_
    exact ⟨rfl, weak_fit (by rw [h1]; first | done | kernel_rfl)⟩
  refine awp_ret ?_
  exact pret [] (congrArg (fun z => (.b z : AV)) (show specEqualSnapshots a_ b = ((specEqualStores a_.1 b.1) && (specEqualDirs a_.2 b.2)) from rfl).symm)
def specEqualVersions_f0 (b : (List VersionD)) (k0 : Nat) (a0 : VersionD) (_ : Unit) : Rd (Bool) (Unit) (Unit) := (bif ((a0.1 != (nth b k0).1) || ((a0.2.2 != (nth b k0).2.2) || (!(specEqualSnapshots a0.2.1 (((nth b k0).2.1.1.1, (nth b k0).2.1.1.2.1, (nth b k0).2.1.1.2.2), (nth b k0).2.1.2))))) then (.ret false) else (.next ()))
def specEqualVersions_e0 (_ : Nat) (_ : Unit) : Unit := ()
def specEqualVersions (a_ : (List VersionD)) (b : (List VersionD)) : Bool := (bif ((a_.length : Int) != (b.length : Int)) then false else (Out.on (forL (specEqualVersions_f0 b) specEqualVersions_e0 a_ 0 ()) (fun _ => true)))
theorem specEqualVersions_a (a_ : (List VersionD)) (b : (List VersionD)) : ACalls Tryz.prog 39 [.h a_, .h b] (.b (specEqualVersions a_ b)) := by
  refine acalls_of (tt := tt) tt_ok Tryz.func39 (fn := Tryz.f39) rfl (by unfold FnOk; kernel_rfl) (Nat.le_of_ble_eq_true rfl) fun w0 F0 => ?_
  refine awp_seq ?_
  refine rk tt_ok [(4, .b false)] [] [] [] [] (o0) ?_
  refine awp_seq ?_
  refine awp_seq ?_
  refine rk tt_ok [(10, .b ((a_.length : Int) != (b.length : Int)))] [] [] [] [(1, .val (.i (a_.length : Int))), (3, .val (.i (b.length : Int)))] (o2 (ob_eq (av_len a_)) (o1 (ob_eq (av_len b)))) ?_
  refine ck ((a_.length : Int) != (b.length : Int)) (fun h1 => ?_) (fun h1 => ?_)
  · -- True
    have h1d := ne_of_bne h1
    refine awp_seq ?_
    refine rk tt_ok [] [10] [] [] [] (o0) ?_
    refine awp_ret ?_
    exact pret [] (congrArg (fun z => (.b z : AV)) (show specEqualVersions a_ b = false from bif_t h1 (rfl)).symm)
  · -- False
    have h1d := eq_of_bne h1
    refine awp_skip ?_
    refine awp_seq ?_
    refine awp_seq ?_
    refine rk tt_ok [(5, .i 0)] [10] [] [] [] (o0) ?_
    refine wdT 0 0 .sh a_ (fun hw2 => ?_)
    have hl3 : List.length a_ ≤ 1073741824 := wide_len (hw2)
    refine blk (fun (k0 : Nat) (s0 : Unit) => [(5, .i ((k0 : Nat) : Int))]) [5] (fun k0 s0 => []) [] (fun (y0 : Unit) => []) [0, 1, 5] (fun y0 => []) [] (fun (k0 : Nat) (s0 : Unit) => (forL (specEqualVersions_f0 b) specEqualVersions_e0 a_ 0 ()) = forL (specEqualVersions_f0 b) specEqualVersions_e0 (List.drop k0 a_) k0 s0) (fun (y0 : Unit) => (forL (specEqualVersions_f0 b) specEqualVersions_e0 a_ 0 ()) = .brk y0) a_.length () (weak_fit (by kernel_rfl)) rfl (fun k0 s0 hk0 hI0 => ?_) (fun k0 s0 hk0 hI0 => ?_) (fun y0 hD0 => ?_)
    · -- round
      obtain ⟨a0, hx0⟩ := get_some (l := a_) (i := k0) hk0
      refine awp_seq ?_
      refine awp_seq ?_
      refine rk tt_ok [(14, .b true)] [] [] [] [(2, .val (.i (a_.length : Int))), (3, .val (.b true))] (o2 (ob_eq (av_len a_)) (o1 (ob_eq (av_bool (decide_eq_true (p := ((k0 : Nat) : Int) < (a_.length : Int)) (by omega)))))) ?_
      refine ckT ?_
      refine awp_skip ?_
      refine awp_seq ?_
      refine awp_block ?_
      refine awp_seq ?_
      refine jn [(54, .b ((a0.1 != (nth b k0).1) || ((a0.2.2 != (nth b k0).2.2) || (!(specEqualSnapshots a0.2.1 (((nth b k0).2.1.1.1, (nth b k0).2.1.1.2.1, (nth b k0).2.1.1.2.2), (nth b k0).2.1.2))))))] [14] [] [] (a0.1 != (nth b k0).1) (fun h4 => ?_) (fun h4 => ?_) ?_
      · -- True
        have h4d := ne_of_bne h4
        refine wdT 1 0 .sh b (fun hw6 => ?_)
        have hl7 : List.length b ≤ 1073741824 := wide_len (hw6)
        have hx5 : b[k0]? = some (nth b k0) := nth_get (by omega)
        refine rd' tt_ok tt_mx [(54, .b true)] [14] [] [] [(2, .row [.i a0.1, .h a0.2.1.1.1, .h a0.2.1.1.2.1, .i a0.2.1.1.2.2, .h a0.2.1.2, .i a0.2.2]), (7, .row [.i ((nth b k0).1), .h ((nth b k0).2.1.1.1), .h ((nth b k0).2.1.1.2.1), .i ((nth b k0).2.1.1.2.2), .h ((nth b k0).2.1.2), .i ((nth b k0).2.2)]), (10, .val (.b true))] (o2 (ob_elem (el_of (i := ((k0 : Nat) : Int)) (by omega) rfl hx0)) (o2 (ob_elem (el_of (i := ((k0 : Nat) : Int)) (by omega) rfl hx5)) (o1 (ob_eq (av_bool h4))))) ?_
        exact ⟨rfl, weak_fit (by rw [h4]; first | done | kernel_rfl)⟩
      · -- False
        have h4d := eq_of_bne h4
        refine awp_split (a0.2.2 != (nth b k0).2.2) (fun h8 => ?_) (fun h8 => ?_)
        · -- True
          have h8d := ne_of_bne h8
          refine wdT 1 0 .sh b (fun hw10 => ?_)
          have hl11 : List.length b ≤ 1073741824 := wide_len (hw10)
          have hx9 : b[k0]? = some (nth b k0) := nth_get (by omega)
          refine rd' tt_ok tt_mx [(54, .b true)] [14] [] [] [(2, .row [.i a0.1, .h a0.2.1.1.1, .h a0.2.1.1.2.1, .i a0.2.1.1.2.2, .h a0.2.1.2, .i a0.2.2]), (7, .row [.i ((nth b k0).1), .h ((nth b k0).2.1.1.1), .h ((nth b k0).2.1.1.2.1), .i ((nth b k0).2.1.1.2.2), .h ((nth b k0).2.1.2), .i ((nth b k0).2.2)]), (10, .val (.b false)), (14, .row [.i a0.1, .h a0.2.1.1.1, .h a0.2.1.1.2.1, .i a0.2.1.1.2.2, .h a0.2.1.2, .i a0.2.2]), (19, .row [.i ((nth b k0).1), .h ((nth b k0).2.1.1.1), .h ((nth b k0).2.1.1.2.1), .i ((nth b k0).2.1.1.2.2), .h ((nth b k0).2.1.2), .i ((nth b k0).2.2)]), (22, .val (.b true))] (o2 (ob_elem (el_of (i := ((k0 : Nat) : Int)) (by omega) rfl hx0)) (o2 (ob_elem (el_of (i := ((k0 : Nat) : Int)) (by omega) rfl hx9)) (o2 (ob_eq (av_bool h4)) (o2 (ob_elem (el_of (i := ((k0 : Nat) : Int)) (by omega) rfl hx0)) (o2 (ob_elem (el_of (i := ((k0 : Nat) : Int)) (by omega) rfl hx9)) (o1 (ob_eq (av_bool h8)))))))) ?_
          exact ⟨rfl, weak_fit (by rw [h4, h8]; first | done | kernel_rfl)⟩
        · -- False
          have h8d := eq_of_bne h8
          refine wdT 1 0 .sh b (fun hw13 => ?_)
          have hl14 : List.length b ≤ 1073741824 := wide_len (hw13)
          have hx12 : b[k0]? = some (nth b k0) := nth_get (by omega)
          refine rd' tt_ok tt_mx [(54, .b (!(specEqualSnapshots a0.2.1 (((nth b k0).2.1.1.1, (nth b k0).2.1.1.2.1, (nth b k0).2.1.1.2.2), (nth b k0).2.1.2))))] [14] [] [] [(2, .row [.i a0.1, .h a0.2.1.1.1, .h a0.2.1.1.2.1, .i a0.2.1.1.2.2, .h a0.2.1.2, .i a0.2.2]), (7, .row [.i ((nth b k0).1), .h ((nth b k0).2.1.1.1), .h ((nth b k0).2.1.1.2.1), .i ((nth b k0).2.1.1.2.2), .h ((nth b k0).2.1.2), .i ((nth b k0).2.2)]), (10, .val (.b false)), (14, .row [.i a0.1, .h a0.2.1.1.1, .h a0.2.1.1.2.1, .i a0.2.1.1.2.2, .h a0.2.1.2, .i a0.2.2]), (19, .row [.i ((nth b k0).1), .h ((nth b k0).2.1.1.1), .h ((nth b k0).2.1.1.2.1), .i ((nth b k0).2.1.1.2.2), .h ((nth b k0).2.1.2), .i ((nth b k0).2.2)]), (22, .val (.b false)), (27, .row [.i a0.1, .h a0.2.1.1.1, .h a0.2.1.1.2.1, .i a0.2.1.1.2.2, .h a0.2.1.2, .i a0.2.2]), (32, .row [.i ((nth b k0).1), .h ((nth b k0).2.1.1.1), .h ((nth b k0).2.1.1.2.1), .i ((nth b k0).2.1.1.2.2), .h ((nth b k0).2.1.2), .i ((nth b k0).2.2)]), (35, .val (.b (specEqualSnapshots a0.2.1 (((nth b k0).2.1.1.1, (nth b k0).2.1.1.2.1, (nth b k0).2.1.1.2.2), (nth b k0).2.1.2))))] (o2 (ob_elem (el_of (i := ((k0 : Nat) : Int)) (by omega) rfl hx0)) (o2 (ob_elem (el_of (i := ((k0 : Nat) : Int)) (by omega) rfl hx12)) (o2 (ob_eq (av_bool h4)) (o2 (ob_elem (el_of (i := ((k0 : Nat) : Int)) (by omega) rfl hx0)) (o2 (ob_elem (el_of (i := ((k0 : Nat) : Int)) (by omega) rfl hx12)) (o2 (ob_eq (av_bool h8)) (o2 (ob_elem (el_of (i := ((k0 : Nat) : Int)) (by omega) rfl hx0)) (o2 (ob_elem (el_of (i := ((k0 : Nat) : Int)) (by omega) rfl hx12)) (o1 (ob_call (specEqualSnapshots_a a0.2.1 (((nth b k0).2.1.1.1, (nth b k0).2.1.1.2.1, (nth b k0).2.1.1.2.2), (nth b k0).2.1.2)))))))))))) ?_
          exact ⟨rfl, weak_fit (by rw [h4, h8]; first | done | kernel_rfl)⟩
      refine ck ((a0.1 != (nth b k0).1) || ((a0.2.2 != (nth b k0).2.2) || (!(specEqualSnapshots a0.2.1 (((nth b k0).2.1.1.1, (nth b k0).2.1.1.2.1, (nth b k0).2.1.1.2.2), (nth b k0).2.1.2))))) (fun h15 => ?_) (fun h15 => ?_)
      · -- True
        refine awp_seq ?_
        refine rk tt_ok [] [54] [] [] [] (o0) ?_
        refine awp_ret ?_
        have hr16 : (forL (specEqualVersions_f0 b) specEqualVersions_e0 a_ 0 ()) = .ret false := forL_ret hx0 (bif_t h15 (rfl)) hI0
        exact pret [] (congrArg (fun z => (.b z : AV)) (show specEqualVersions a_ b = false from bif_f h1 (on_r hr16)).symm)
      · -- False
        have h15l : ((a0.1 != (nth b k0).1)) = false := or_l h15
        have h15ld := eq_of_bne h15l
        have h15r : (((a0.2.2 != (nth b k0).2.2) || (!(specEqualSnapshots a0.2.1 (((nth b k0).2.1.1.1, (nth b k0).2.1.1.2.1, (nth b k0).2.1.1.2.2), (nth b k0).2.1.2))))) = false := or_r h15
        have h15rl : ((a0.2.2 != (nth b k0).2.2)) = false := or_l h15r
        have h15rld := eq_of_bne h15rl
        have h15rr : ((!(specEqualSnapshots a0.2.1 (((nth b k0).2.1.1.1, (nth b k0).2.1.1.2.1, (nth b k0).2.1.1.2.2), (nth b k0).2.1.2)))) = false := or_r h15r
        have h15rrn : (specEqualSnapshots a0.2.1 (((nth b k0).2.1.1.1, (nth b k0).2.1.1.2.1, (nth b k0).2.1.1.2.2), (nth b k0).2.1.2)) = true := bnot_f h15rr
        refine awp_skip ?_
        refine rk tt_ok [(5, .i ((k0 + 1 : Nat) : Int))] [5, 54] [] [] [(1, .val (.i ((k0 + 1 : Nat) : Int)))] (o1 (ob_eq (av_i (wrap_succ k0 (by omega))))) ?_
        exact Exists.intro () (And.intro (weak_fit (by kernel_rfl)) (forL_next hx0 (bif_f h15 (rfl)) hI0))
    · -- exit
      refine awp_seq ?_
      refine awp_seq ?_
      refine rk tt_ok [(14, .b false)] [] [] [] [(2, .val (.i (a_.length : Int))), (3, .val (.b false))] (o2 (ob_eq (av_len a_)) (o1 (ob_eq (av_bool (decide_eq_false (p := ((k0 : Nat) : Int) < (a_.length : Int)) (by omega)))))) ?_
      refine ckF ?_
      refine awp_exit ?_
      exact Exists.intro () (And.intro (weak_fit (by kernel_rfl)) (forL_end hk0 (rfl) hI0))
    · -- behind
      refine awp_seq ?_
      refine rk tt_ok [(4, .b true)] [4] [] [] [] (o0) ?_
      refine awp_ret ?_
      exact pret [] (congrArg (fun z => (.b z : AV)) (show specEqualVersions a_ b = true from bif_f h1 (on_b hD0 (rfl))).symm)
def specl29Same_f0 (b : WatchD) (k0 : Nat) (a0 : EventD) (_ : Unit) : Rd (Bool) (Unit) (Unit) := (bif ((a0.1 != (nth b.2.2.2 k0).1) || ((!(specl07Ints a0.2.1 ((nth b.2.2.2 k0).2.1))) || (!(specl07Ints a0.2.2 ((nth b.2.2.2 k0).2.2))))) then (.ret false) else (.next ()))
def specl29Same_e0 (_ : Nat) (_ : Unit) : Unit := ()
def specl29Same (a_ : WatchD) (b : WatchD) : Bool := (bif ((a_.1 != b.1) || ((!(a_.2.1.toList == b.2.1.toList)) || ((!(specl07Ints a_.2.2.1 b.2.2.1)) || ((a_.2.2.2.length : Int) != (b.2.2.2.length : Int))))) then false else (Out.on (forL (specl29Same_f0 b) specl29Same_e0 a_.2.2.2 0 ()) (fun _ => true)))
theorem specl29Same_a (a_ : WatchD) (b : WatchD) : ACalls Tryz.prog 41 [.a [.i a_.1, .s a_.2.1, .h a_.2.2.1, .h a_.2.2.2], .a [.i b.1, .s b.2.1, .h b.2.2.1, .h b.2.2.2]] (.b (specl29Same a_ b)) := by
  refine acalls_of (tt := tt) tt_ok Tryz.func41 (fn := Tryz.f41) rfl (by unfold FnOk; kernel_rfl) (Nat.le_of_ble_eq_true rfl) fun w0 F0 => ?_
  refine awp_seq ?_
  refine rk tt_ok [(2, .p 2 0), (3, .p 3 0), (4, .b false)] [0, 1] [(2, [.i a_.1, .s a_.2.1, .h a_.2.2.1, .h a_.2.2.2]), (3, [.i b.1, .s b.2.1, .h b.2.2.1, .h b.2.2.2])] [] [] (o0) ?_
  refine awp_seq ?_
  refine awp_seq ?_
  refine jn [(34, .b ((a_.1 != b.1) || ((!(a_.2.1.toList == b.2.1.toList)) || ((!(specl07Ints a_.2.2.1 b.2.2.1)) || ((a_.2.2.2.length : Int) != (b.2.2.2.length : Int))))))] [] [] [] (a_.1 != b.1) (fun h1 => ?_) (fun h1 => ?_) ?_
  · -- True
    have h1d := ne_of_bne h1
    refine rk tt_ok [(34, .b true)] [] [] [] [(4, .val (.b true))] (o1 (ob_eq (av_bool h1))) ?_
    exact ⟨rfl, weak_fit (by rw [h1]; first | done | kernel_rfl)⟩
  · -- False
    have h1d := eq_of_bne h1
    refine awp_split (!(a_.2.1.toList == b.2.1.toList)) (fun h2 => ?_) (fun h2 => ?_)
    · -- True
      have h2n : (a_.2.1.toList == b.2.1.toList) = false := bnot_t h2
      refine rk tt_ok [(34, .b true)] [] [] [] [(4, .val (.b false)), (10, .val (.b true))] (o2 (ob_eq (av_bool h1)) (o1 (ob_eq (av_bool h2)))) ?_
      exact ⟨rfl, weak_fit (by rw [h1, h2]; first | done | kernel_rfl)⟩
    · -- False
      have h2n : (a_.2.1.toList == b.2.1.toList) = true := bnot_f h2
      refine awp_split (!(specl07Ints a_.2.2.1 b.2.2.1)) (fun h3 => ?_) (fun h3 => ?_)
      · -- True
        have h3n : (specl07Ints a_.2.2.1 b.2.2.1) = false := bnot_t h3
        refine rk tt_ok [(34, .b true)] [] [] [] [(4, .val (.b false)), (10, .val (.b false)), (17, .val (.b false)), (18, .val (.b true))] (o2 (ob_eq (av_bool h1)) (o2 (ob_eq (av_bool h2)) (o2 (ob_call (cb h3n (specl07Ints_a a_.2.2.1 b.2.2.1))) (o1 (ob_eq (show .b (!false) = .b true from rfl)))))) ?_
        exact ⟨rfl, weak_fit (by rw [h1, h2, h3]; first | done | kernel_rfl)⟩
      · -- False
        have h3n : (specl07Ints a_.2.2.1 b.2.2.1) = true := bnot_f h3
        refine rk tt_ok [(34, .b ((a_.2.2.2.length : Int) != (b.2.2.2.length : Int)))] [] [] [] [(4, .val (.b false)), (10, .val (.b false)), (17, .val (.b true)), (18, .val (.b false)), (23, .val (.i (a_.2.2.2.length : Int))), (26, .val (.i (b.2.2.2.length : Int)))] (o2 (ob_eq (av_bool h1)) (o2 (ob_eq (av_bool h2)) (o2 (ob_call (cb h3n (specl07Ints_a a_.2.2.1 b.2.2.1))) (o2 (ob_eq (show .b (!true) = .b false from rfl)) (o2 (ob_eq (av_len a_.2.2.2)) (o1 (ob_eq (av_len b.2.2.2)))))))) ?_
        exact ⟨rfl, weak_fit (by rw [h1, h2, h3]; first | done | kernel_rfl)⟩
  refine ck ((a_.1 != b.1) || ((!(a_.2.1.toList == b.2.1.toList)) || ((!(specl07Ints a_.2.2.1 b.2.2.1)) || ((a_.2.2.2.length : Int) != (b.2.2.2.length : Int))))) (fun h4 => ?_) (fun h4 => ?_)
  · -- True
    refine awp_seq ?_
    refine rk tt_ok [] [34] [] [] [] (o0) ?_
    refine awp_ret ?_
    exact pret [] (congrArg (fun z => (.b z : AV)) (show specl29Same a_ b = false from bif_t h4 (rfl)).symm)
  · -- False
    have h4l : ((a_.1 != b.1)) = false := or_l h4
    have h4ld := eq_of_bne h4l
    have h4r : (((!(a_.2.1.toList == b.2.1.toList)) || ((!(specl07Ints a_.2.2.1 b.2.2.1)) || ((a_.2.2.2.length : Int) != (b.2.2.2.length : Int))))) = false := or_r h4
    have h4rl : ((!(a_.2.1.toList == b.2.1.toList))) = false := or_l h4r
    have h4rln : (a_.2.1.toList == b.2.1.toList) = true := bnot_f h4rl
    have h4rr : (((!(specl07Ints a_.2.2.1 b.2.2.1)) || ((a_.2.2.2.length : Int) != (b.2.2.2.length : Int)))) = false := or_r h4r
    have h4rrl : ((!(specl07Ints a_.2.2.1 b.2.2.1))) = false := or_l h4rr
    have h4rrln : (specl07Ints a_.2.2.1 b.2.2.1) = true := bnot_f h4rrl
    have h4rrr : (((a_.2.2.2.length : Int) != (b.2.2.2.length : Int))) = false := or_r h4rr
    have h4rrrd := eq_of_bne h4rrr
    refine awp_skip ?_
    refine awp_seq ?_
    refine awp_seq ?_
    refine rk tt_ok [(5, .i 0)] [34] [] [] [] (o0) ?_
    refine wdB 2 3 .sh a_.2.2.2 (fun hw5 => ?_)
    have hl6 : List.length a_.2.2.2 ≤ 1073741824 := wide_len (hw5)
    refine blk (fun (k0 : Nat) (s0 : Unit) => [(5, .i ((k0 : Nat) : Int))]) [5] (fun k0 s0 => []) [] (fun (y0 : Unit) => []) [2, 3, 5] (fun y0 => []) [2, 3] (fun (k0 : Nat) (s0 : Unit) => (forL (specl29Same_f0 b) specl29Same_e0 a_.2.2.2 0 ()) = forL (specl29Same_f0 b) specl29Same_e0 (List.drop k0 a_.2.2.2) k0 s0) (fun (y0 : Unit) => (forL (specl29Same_f0 b) specl29Same_e0 a_.2.2.2 0 ()) = .brk y0) a_.2.2.2.length () (weak_fit (by kernel_rfl)) rfl (fun k0 s0 hk0 hI0 => ?_) (fun k0 s0 hk0 hI0 => ?_) (fun y0 hD0 => ?_)
    · -- round
      obtain ⟨a0, hx0⟩ := get_some (l := a_.2.2.2) (i := k0) hk0
      refine awp_seq ?_
      refine awp_seq ?_
      refine rk tt_ok [(39, .b true)] [] [] [] [(3, .val (.i (a_.2.2.2.length : Int))), (4, .val (.b true))] (o2 (ob_eq (av_len a_.2.2.2)) (o1 (ob_eq (av_bool (decide_eq_true (p := ((k0 : Nat) : Int) < (a_.2.2.2.length : Int)) (by omega)))))) ?_
      refine ckT ?_
      refine awp_skip ?_
      refine awp_seq ?_
      refine awp_block ?_
      refine awp_seq ?_
      refine jn [(86, .b ((a0.1 != (nth b.2.2.2 k0).1) || ((!(specl07Ints a0.2.1 ((nth b.2.2.2 k0).2.1))) || (!(specl07Ints a0.2.2 ((nth b.2.2.2 k0).2.2))))))] [39] [] [] (a0.1 != (nth b.2.2.2 k0).1) (fun h7 => ?_) (fun h7 => ?_) ?_
      · -- True
        have h7d := ne_of_bne h7
        refine wdB 3 3 .sh b.2.2.2 (fun hw9 => ?_)
        have hl10 : List.length b.2.2.2 ≤ 1073741824 := wide_len (hw9)
        have hx8 : b.2.2.2[k0]? = some (nth b.2.2.2 k0) := nth_get (by omega)
        refine rd' tt_ok tt_mx [(86, .b true)] [39] [] [] [(3, .row [.i a0.1, .h a0.2.1, .h a0.2.2]), (9, .row [.i ((nth b.2.2.2 k0).1), .h ((nth b.2.2.2 k0).2.1), .h ((nth b.2.2.2 k0).2.2)]), (12, .val (.b true))] (o2 (ob_elem (el_of (i := ((k0 : Nat) : Int)) (by omega) rfl hx0)) (o2 (ob_elem (el_of (i := ((k0 : Nat) : Int)) (by omega) rfl hx8)) (o1 (ob_eq (av_bool h7))))) ?_
        exact ⟨rfl, weak_fit (by rw [h7]; first | done | kernel_rfl)⟩
      · -- False
        have h7d := eq_of_bne h7
        refine awp_split (!(specl07Ints a0.2.1 ((nth b.2.2.2 k0).2.1))) (fun h11 => ?_) (fun h11 => ?_)
        · -- True
          have h11n : (specl07Ints a0.2.1 ((nth b.2.2.2 k0).2.1)) = false := bnot_t h11
          refine wdB 3 3 .sh b.2.2.2 (fun hw13 => ?_)
          have hl14 : List.length b.2.2.2 ≤ 1073741824 := wide_len (hw13)
          have hx12 : b.2.2.2[k0]? = some (nth b.2.2.2 k0) := nth_get (by omega)
          refine rd' tt_ok tt_mx [(86, .b true)] [39] [] [] [(3, .row [.i a0.1, .h a0.2.1, .h a0.2.2]), (9, .row [.i ((nth b.2.2.2 k0).1), .h ((nth b.2.2.2 k0).2.1), .h ((nth b.2.2.2 k0).2.2)]), (12, .val (.b false)), (17, .row [.i a0.1, .h a0.2.1, .h a0.2.2]), (23, .row [.i ((nth b.2.2.2 k0).1), .h ((nth b.2.2.2 k0).2.1), .h ((nth b.2.2.2 k0).2.2)]), (26, .val (.b false)), (27, .val (.b true))] (o2 (ob_elem (el_of (i := ((k0 : Nat) : Int)) (by omega) rfl hx0)) (o2 (ob_elem (el_of (i := ((k0 : Nat) : Int)) (by omega) rfl hx12)) (o2 (ob_eq (av_bool h7)) (o2 (ob_elem (el_of (i := ((k0 : Nat) : Int)) (by omega) rfl hx0)) (o2 (ob_elem (el_of (i := ((k0 : Nat) : Int)) (by omega) rfl hx12)) (o2 (ob_call (cb h11n (specl07Ints_a a0.2.1 ((nth b.2.2.2 k0).2.1)))) (o1 (ob_eq (show .b (!false) = .b true from rfl))))))))) ?_
          exact ⟨rfl, weak_fit (by rw [h7, h11]; first | done | kernel_rfl)⟩
        · -- False
          have h11n : (specl07Ints a0.2.1 ((nth b.2.2.2 k0).2.1)) = true := bnot_f h11
          refine wdB 3 3 .sh b.2.2.2 (fun hw16 => ?_)
          have hl17 : List.length b.2.2.2 ≤ 1073741824 := wide_len (hw16)
          have hx15 : b.2.2.2[k0]? = some (nth b.2.2.2 k0) := nth_get (by omega)
          refine rd' tt_ok tt_mx [(86, .b (!(specl07Ints a0.2.2 ((nth b.2.2.2 k0).2.2))))] [39] [] [] [(3, .row [.i a0.1, .h a0.2.1, .h a0.2.2]), (9, .row [.i ((nth b.2.2.2 k0).1), .h ((nth b.2.2.2 k0).2.1), .h ((nth b.2.2.2 k0).2.2)]), (12, .val (.b false)), (17, .row [.i a0.1, .h a0.2.1, .h a0.2.2]), (23, .row [.i ((nth b.2.2.2 k0).1), .h ((nth b.2.2.2 k0).2.1), .h ((nth b.2.2.2 k0).2.2)]), (26, .val (.b true)), (27, .val (.b false)), (33, .row [.i a0.1, .h a0.2.1, .h a0.2.2]), (39, .row [.i ((nth b.2.2.2 k0).1), .h ((nth b.2.2.2 k0).2.1), .h ((nth b.2.2.2 k0).2.2)]), (42, .val (.b (specl07Ints a0.2.2 ((nth b.2.2.2 k0).2.2))))] (o2 (ob_elem (el_of (i := ((k0 : Nat) : Int)) (by omega) rfl hx0)) (o2 (ob_elem (el_of (i := ((k0 : Nat) : Int)) (by omega) rfl hx15)) (o2 (ob_eq (av_bool h7)) (o2 (ob_elem (el_of (i := ((k0 : Nat) : Int)) (by omega) rfl hx0)) (o2 (ob_elem (el_of (i := ((k0 : Nat) : Int)) (by omega) rfl hx15)) (o2 (ob_call (cb h11n (specl07Ints_a a0.2.1 ((nth b.2.2.2 k0).2.1)))) (o2 (ob_eq (show .b (!true) = .b false from rfl)) (o2 (ob_elem (el_of (i := ((k0 : Nat) : Int)) (by omega) rfl hx0)) (o2 (ob_elem (el_of (i := ((k0 : Nat) : Int)) (by omega) rfl hx15)) (o1 (ob_call (specl07Ints_a a0.2.2 ((nth b.2.2.2 k0).2.2))))))))))))) ?_
          exact ⟨rfl, weak_fit (by rw [h7, h11]; first | done | kernel_rfl)⟩
      refine ck ((a0.1 != (nth b.2.2.2 k0).1) || ((!(specl07Ints a0.2.1 ((nth b.2.2.2 k0).2.1))) || (!(specl07Ints a0.2.2 ((nth b.2.2.2 k0).2.2))))) (fun h18 => ?_) (fun h18 => ?_)
      · -- True
        refine awp_seq ?_
        refine rk tt_ok [] [86] [] [] [] (o0) ?_
        refine awp_ret ?_
        have hr19 : (forL (specl29Same_f0 b) specl29Same_e0 a_.2.2.2 0 ()) = .ret false := forL_ret hx0 (bif_t h18 (rfl)) hI0
        exact pret [] (congrArg (fun z => (.b z : AV)) (show specl29Same a_ b = false from bif_f h4 (on_r hr19)).symm)
      · -- False
        have h18l : ((a0.1 != (nth b.2.2.2 k0).1)) = false := or_l h18
        have h18ld := eq_of_bne h18l
        have h18r : (((!(specl07Ints a0.2.1 ((nth b.2.2.2 k0).2.1))) || (!(specl07Ints a0.2.2 ((nth b.2.2.2 k0).2.2))))) = false := or_r h18
        have h18rl : ((!(specl07Ints a0.2.1 ((nth b.2.2.2 k0).2.1)))) = false := or_l h18r
        have h18rln : (specl07Ints a0.2.1 ((nth b.2.2.2 k0).2.1)) = true := bnot_f h18rl
        have h18rr : ((!(specl07Ints a0.2.2 ((nth b.2.2.2 k0).2.2)))) = false := or_r h18r
        have h18rrn : (specl07Ints a0.2.2 ((nth b.2.2.2 k0).2.2)) = true := bnot_f h18rr
        refine awp_skip ?_
        refine rk tt_ok [(5, .i ((k0 + 1 : Nat) : Int))] [5, 86] [] [] [(1, .val (.i ((k0 + 1 : Nat) : Int)))] (o1 (ob_eq (av_i (wrap_succ k0 (by omega))))) ?_
        exact Exists.intro () (And.intro (weak_fit (by kernel_rfl)) (forL_next hx0 (bif_f h18 (rfl)) hI0))
    · -- exit
      refine awp_seq ?_
      refine awp_seq ?_
      refine rk tt_ok [(39, .b false)] [] [] [] [(3, .val (.i (a_.2.2.2.length : Int))), (4, .val (.b false))] (o2 (ob_eq (av_len a_.2.2.2)) (o1 (ob_eq (av_bool (decide_eq_false (p := ((k0 : Nat) : Int) < (a_.2.2.2.length : Int)) (by omega)))))) ?_
      refine ckF ?_
      refine awp_exit ?_
      exact Exists.intro () (And.intro (weak_fit (by kernel_rfl)) (forL_end hk0 (rfl) hI0))
    · -- behind
      refine awp_seq ?_
      refine rk tt_ok [(4, .b true)] [4] [] [] [] (o0) ?_
      refine awp_ret ?_
      exact pret [] (congrArg (fun z => (.b z : AV)) (show specl29Same a_ b = true from bif_f h4 (on_b hD0 (rfl))).symm)
def specEqualSystems_f0 (b : SystemD) (k0 : Nat) (a0 : WatchD) (_ : Unit) : Rd (Bool) (Unit) (Unit) := (bif (!(specl29Same a0 (nth b.2.2.2.2.1 k0))) then (.ret false) else (.next ()))
def specEqualSystems_e0 (_ : Nat) (_ : Unit) : Unit := ()
def specEqualSystems (a_ : SystemD) (b : SystemD) : Bool := (bif ((!(specEqualCatalogs a_.1 b.1)) || ((!((a_.2.1.1.toList == b.2.1.1.toList) && ((a_.2.1.2.toList == b.2.1.2.toList) && true))) || ((a_.2.2.1 != b.2.2.1) || ((!(specEqualVersions a_.2.2.2.1 b.2.2.2.1)) || ((!(specl07Ints a_.2.2.2.2.2 b.2.2.2.2.2)) || ((a_.2.2.2.2.1.length : Int) != (b.2.2.2.2.1.length : Int))))))) then false else (Out.on (forL (specEqualSystems_f0 b) specEqualSystems_e0 a_.2.2.2.2.1 0 ()) (fun _ => true)))
theorem specEqualSystems_a (a_ : SystemD) (b : SystemD) : ACalls Tryz.prog 8 [.a [.h a_.1.1.1, .h a_.1.1.2.1, .i a_.1.1.2.2, .h a_.1.2.1, .h a_.1.2.2, .s a_.2.1.1, .s a_.2.1.2, .i a_.2.2.1, .h a_.2.2.2.1, .h a_.2.2.2.2.1, .h a_.2.2.2.2.2], .a [.h b.1.1.1, .h b.1.1.2.1, .i b.1.1.2.2, .h b.1.2.1, .h b.1.2.2, .s b.2.1.1, .s b.2.1.2, .i b.2.2.1, .h b.2.2.2.1, .h b.2.2.2.2.1, .h b.2.2.2.2.2]] (.b (specEqualSystems a_ b)) := by
  refine acalls_of (tt := tt) tt_ok Tryz.func8 (fn := Tryz.f8) rfl (by unfold FnOk; kernel_rfl) (Nat.le_of_ble_eq_true rfl) fun w0 F0 => ?_
  refine awp_seq ?_
  refine rk tt_ok [(2, .p 2 0), (3, .p 3 0), (4, .b false)] [0, 1] [(2, [.h a_.1.1.1, .h a_.1.1.2.1, .i a_.1.1.2.2, .h a_.1.2.1, .h a_.1.2.2, .s a_.2.1.1, .s a_.2.1.2, .i a_.2.2.1, .h a_.2.2.2.1, .h a_.2.2.2.2.1, .h a_.2.2.2.2.2]), (3, [.h b.1.1.1, .h b.1.1.2.1, .i b.1.1.2.2, .h b.1.2.1, .h b.1.2.2, .s b.2.1.1, .s b.2.1.2, .i b.2.2.1, .h b.2.2.2.1, .h b.2.2.2.2.1, .h b.2.2.2.2.2])] [] [] (o0) ?_
  refine awp_seq ?_
  refine awp_seq ?_
  refine jn [(50, .b ((!(specEqualCatalogs a_.1 b.1)) || ((!((a_.2.1.1.toList == b.2.1.1.toList) && ((a_.2.1.2.toList == b.2.1.2.toList) && true))) || ((a_.2.2.1 != b.2.2.1) || ((!(specEqualVersions a_.2.2.2.1 b.2.2.2.1)) || ((!(specl07Ints a_.2.2.2.2.2 b.2.2.2.2.2)) || ((a_.2.2.2.2.1.length : Int) != (b.2.2.2.2.1.length : Int))))))))] [] [] [] (!(specEqualCatalogs a_.1 b.1)) (fun h1 => ?_) (fun h1 => ?_) ?_
  · -- True
    have h1n : (specEqualCatalogs a_.1 b.1) = false := bnot_t h1
    refine rk tt_ok [(50, .b true)] [] [] [] [(4, .val (.b false)), (5, .val (.b true))] (o2 (ob_call (cb h1n (specEqualCatalogs_a a_.1 b.1))) (o1 (ob_eq (show .b (!false) = .b true from rfl)))) ?_
    exact ⟨rfl, weak_fit (by rw [h1]; first | done | kernel_rfl)⟩
  · -- False
    have h1n : (specEqualCatalogs a_.1 b.1) = true := bnot_f h1
    refine awp_split (!((a_.2.1.1.toList == b.2.1.1.toList) && ((a_.2.1.2.toList == b.2.1.2.toList) && true))) (fun h2 => ?_) (fun h2 => ?_)
    · -- True
      have h2n : ((a_.2.1.1.toList == b.2.1.1.toList) && ((a_.2.1.2.toList == b.2.1.2.toList) && true)) = false := bnot_t h2
      refine rk tt_ok [(50, .b true)] [] [] [] [(4, .val (.b true)), (5, .val (.b false)), (11, .val (.b true))] (o2 (ob_call (cb h1n (specEqualCatalogs_a a_.1 b.1))) (o2 (ob_eq (show .b (!true) = .b false from rfl)) (o1 (ob_eq (av_bool h2))))) ?_
      exact ⟨rfl, weak_fit (by rw [h1, h2]; first | done | kernel_rfl)⟩
    · -- False
      have h2n : ((a_.2.1.1.toList == b.2.1.1.toList) && ((a_.2.1.2.toList == b.2.1.2.toList) && true)) = true := bnot_f h2
      have h2nl : ((a_.2.1.1.toList == b.2.1.1.toList)) = true := and_l h2n
      have h2nr : (((a_.2.1.2.toList == b.2.1.2.toList) && true)) = true := and_r h2n
      have h2nrl : ((a_.2.1.2.toList == b.2.1.2.toList)) = true := and_l h2nr
      have h2nrr : (true) = true := and_r h2nr
      refine awp_split (a_.2.2.1 != b.2.2.1) (fun h3 => ?_) (fun h3 => ?_)
      · -- True
        have h3d := ne_of_bne h3
        refine rk tt_ok [(50, .b true)] [] [] [] [(4, .val (.b true)), (5, .val (.b false)), (11, .val (.b false)), (18, .val (.b true))] (o2 (ob_call (cb h1n (specEqualCatalogs_a a_.1 b.1))) (o2 (ob_eq (show .b (!true) = .b false from rfl)) (o2 (ob_eq (av_bool h2)) (o1 (ob_eq (av_bool h3)))))) ?_
        exact ⟨rfl, weak_fit (by rw [h1, h2, h3]; first | done | kernel_rfl)⟩
      · -- False
        have h3d := eq_of_bne h3
        refine awp_split (!(specEqualVersions a_.2.2.2.1 b.2.2.2.1)) (fun h4 => ?_) (fun h4 => ?_)
        · -- True
          have h4n : (specEqualVersions a_.2.2.2.1 b.2.2.2.1) = false := bnot_t h4
          refine rk tt_ok [(50, .b true)] [] [] [] [(4, .val (.b true)), (5, .val (.b false)), (11, .val (.b false)), (18, .val (.b false)), (25, .val (.b false)), (26, .val (.b true))] (o2 (ob_call (cb h1n (specEqualCatalogs_a a_.1 b.1))) (o2 (ob_eq (show .b (!true) = .b false from rfl)) (o2 (ob_eq (av_bool h2)) (o2 (ob_eq (av_bool h3)) (o2 (ob_call (cb h4n (specEqualVersions_a a_.2.2.2.1 b.2.2.2.1))) (o1 (ob_eq (show .b (!false) = .b true from rfl)))))))) ?_
          exact ⟨rfl, weak_fit (by rw [h1, h2, h3, h4]; first | done | kernel_rfl)⟩
        · -- False
          have h4n : (specEqualVersions a_.2.2.2.1 b.2.2.2.1) = true := bnot_f h4
          refine awp_split (!(specl07Ints a_.2.2.2.2.2 b.2.2.2.2.2)) (fun h5 => ?_) (fun h5 => ?_)
          · -- True
            have h5n : (specl07Ints a_.2.2.2.2.2 b.2.2.2.2.2) = false := bnot_t h5
            refine rk tt_ok [(50, .b true)] [] [] [] [(4, .val (.b true)), (5, .val (.b false)), (11, .val (.b false)), (18, .val (.b false)), (25, .val (.b true)), (26, .val (.b false)), (33, .val (.b false)), (34, .val (.b true))] (o2 (ob_call (cb h1n (specEqualCatalogs_a a_.1 b.1))) (o2 (ob_eq (show .b (!true) = .b false from rfl)) (o2 (ob_eq (av_bool h2)) (o2 (ob_eq (av_bool h3)) (o2 (ob_call (cb h4n (specEqualVersions_a a_.2.2.2.1 b.2.2.2.1))) (o2 (ob_eq (show .b (!true) = .b false from rfl)) (o2 (ob_call (cb h5n (specl07Ints_a a_.2.2.2.2.2 b.2.2.2.2.2))) (o1 (ob_eq (show .b (!false) = .b true from rfl)))))))))) ?_
            exact ⟨rfl, weak_fit (by rw [h1, h2, h3, h4, h5]; first | done | kernel_rfl)⟩
          · -- False
            have h5n : (specl07Ints a_.2.2.2.2.2 b.2.2.2.2.2) = true := bnot_f h5
            refine rk tt_ok [(50, .b ((a_.2.2.2.2.1.length : Int) != (b.2.2.2.2.1.length : Int)))] [] [] [] [(4, .val (.b true)), (5, .val (.b false)), (11, .val (.b false)), (18, .val (.b false)), (25, .val (.b true)), (26, .val (.b false)), (33, .val (.b true)), (34, .val (.b false)), (39, .val (.i (a_.2.2.2.2.1.length : Int))), (42, .val (.i (b.2.2.2.2.1.length : Int)))] (o2 (ob_call (cb h1n (specEqualCatalogs_a a_.1 b.1))) (o2 (ob_eq (show .b (!true) = .b false from rfl)) (o2 (ob_eq (av_bool h2)) (o2 (ob_eq (av_bool h3)) (o2 (ob_call (cb h4n (specEqualVersions_a a_.2.2.2.1 b.2.2.2.1))) (o2 (ob_eq (show .b (!true) = .b false from rfl)) (o2 (ob_call (cb h5n (specl07Ints_a a_.2.2.2.2.2 b.2.2.2.2.2))) (o2 (ob_eq (show .b (!true) = .b false from rfl)) (o2 (ob_eq (av_len a_.2.2.2.2.1)) (o1 (ob_eq (av_len b.2.2.2.2.1)))))))))))) ?_
            exact ⟨rfl, weak_fit (by rw [h1, h2, h3, h4, h5]; first | done | kernel_rfl)⟩
  refine ck ((!(specEqualCatalogs a_.1 b.1)) || ((!((a_.2.1.1.toList == b.2.1.1.toList) && ((a_.2.1.2.toList == b.2.1.2.toList) && true))) || ((a_.2.2.1 != b.2.2.1) || ((!(specEqualVersions a_.2.2.2.1 b.2.2.2.1)) || ((!(specl07Ints a_.2.2.2.2.2 b.2.2.2.2.2)) || ((a_.2.2.2.2.1.length : Int) != (b.2.2.2.2.1.length : Int))))))) (fun h6 => ?_) (fun h6 => ?_)
  · -- True
    refine awp_seq ?_
    refine rk tt_ok [] [50] [] [] [] (o0) ?_
    refine awp_ret ?_
    exact pret [] (congrArg (fun z => (.b z : AV)) (show specEqualSystems a_ b = false from bif_t h6 (rfl)).symm)
  · -- False
    have h6l : ((!(specEqualCatalogs a_.1 b.1))) = false := or_l h6
    have h6ln : (specEqualCatalogs a_.1 b.1) = true := bnot_f h6l
    have h6r : (((!((a_.2.1.1.toList == b.2.1.1.toList) && ((a_.2.1.2.toList == b.2.1.2.toList) && true))) || ((a_.2.2.1 != b.2.2.1) || ((!(specEqualVersions a_.2.2.2.1 b.2.2.2.1)) || ((!(specl07Ints a_.2.2.2.2.2 b.2.2.2.2.2)) || ((a_.2.2.2.2.1.length : Int) != (b.2.2.2.2.1.length : Int))))))) = false := or_r h6
    have h6rl : ((!((a_.2.1.1.toList == b.2.1.1.toList) && ((a_.2.1.2.toList == b.2.1.2.toList) && true)))) = false := or_l h6r
    have h6rln : ((a_.2.1.1.toList == b.2.1.1.toList) && ((a_.2.1.2.toList == b.2.1.2.toList) && true)) = true := bnot_f h6rl
    have h6rlnl : ((a_.2.1.1.toList == b.2.1.1.toList)) = true := and_l h6rln
    have h6rlnr : (((a_.2.1.2.toList == b.2.1.2.toList) && true)) = true := and_r h6rln
    have h6rlnrl : ((a_.2.1.2.toList == b.2.1.2.toList)) = true := and_l h6rlnr
    have h6rlnrr : (true) = true := and_r h6rlnr
    have h6rr : (((a_.2.2.1 != b.2.2.1) || ((!(specEqualVersions a_.2.2.2.1 b.2.2.2.1)) || ((!(specl07Ints a_.2.2.2.2.2 b.2.2.2.2.2)) || ((a_.2.2.2.2.1.length : Int) != (b.2.2.2.2.1.length : Int)))))) = false := or_r h6r
    have h6rrl : ((a_.2.2.1 != b.2.2.1)) = false := or_l h6rr
    have h6rrld := eq_of_bne h6rrl
    have h6rrr : (((!(specEqualVersions a_.2.2.2.1 b.2.2.2.1)) || ((!(specl07Ints a_.2.2.2.2.2 b.2.2.2.2.2)) || ((a_.2.2.2.2.1.length : Int) != (b.2.2.2.2.1.length : Int))))) = false := or_r h6rr
    have h6rrrl : ((!(specEqualVersions a_.2.2.2.1 b.2.2.2.1))) = false := or_l h6rrr
    have h6rrrln : (specEqualVersions a_.2.2.2.1 b.2.2.2.1) = true := bnot_f h6rrrl
    have h6rrrr : (((!(specl07Ints a_.2.2.2.2.2 b.2.2.2.2.2)) || ((a_.2.2.2.2.1.length : Int) != (b.2.2.2.2.1.length : Int)))) = false := or_r h6rrr
    have h6rrrrl : ((!(specl07Ints a_.2.2.2.2.2 b.2.2.2.2.2))) = false := or_l h6rrrr
    have h6rrrrln : (specl07Ints a_.2.2.2.2.2 b.2.2.2.2.2) = true := bnot_f h6rrrrl
    have h6rrrrr : (((a_.2.2.2.2.1.length : Int) != (b.2.2.2.2.1.length : Int))) = false := or_r h6rrrr
    have h6rrrrrd := eq_of_bne h6rrrrr
    refine awp_skip ?_
    refine awp_seq ?_
    refine awp_seq ?_
    refine rk tt_ok [(5, .i 0)] [50] [] [] [] (o0) ?_
    refine wdB 2 9 .sh a_.2.2.2.2.1 (fun hw7 => ?_)
    have hl8 : List.length a_.2.2.2.2.1 ≤ 1073741824 := wide_len (hw7)
    refine blk (fun (k0 : Nat) (s0 : Unit) => [(5, .i ((k0 : Nat) : Int))]) [5] (fun k0 s0 => []) [] (fun (y0 : Unit) => []) [2, 3, 5] (fun y0 => []) [2, 3] (fun (k0 : Nat) (s0 : Unit) => (forL (specEqualSystems_f0 b) specEqualSystems_e0 a_.2.2.2.2.1 0 ()) = forL (specEqualSystems_f0 b) specEqualSystems_e0 (List.drop k0 a_.2.2.2.2.1) k0 s0) (fun (y0 : Unit) => (forL (specEqualSystems_f0 b) specEqualSystems_e0 a_.2.2.2.2.1 0 ()) = .brk y0) a_.2.2.2.2.1.length () (weak_fit (by kernel_rfl)) rfl (fun k0 s0 hk0 hI0 => ?_) (fun k0 s0 hk0 hI0 => ?_) (fun y0 hD0 => ?_)
    · -- round
      obtain ⟨a0, hx0⟩ := get_some (l := a_.2.2.2.2.1) (i := k0) hk0
      refine awp_seq ?_
      refine awp_seq ?_
      refine rk tt_ok [(55, .b true)] [] [] [] [(3, .val (.i (a_.2.2.2.2.1.length : Int))), (4, .val (.b true))] (o2 (ob_eq (av_len a_.2.2.2.2.1)) (o1 (ob_eq (av_bool (decide_eq_true (p := ((k0 : Nat) : Int) < (a_.2.2.2.2.1.length : Int)) (by omega)))))) ?_
      refine ckT ?_
      refine awp_skip ?_
      refine awp_seq ?_
      refine awp_block ?_
      refine awp_seq ?_
      refine wdB 3 9 .sh b.2.2.2.2.1 (fun hw10 => ?_)
      have hl11 : List.length b.2.2.2.2.1 ≤ 1073741824 := wide_len (hw10)
      have hx9 : b.2.2.2.2.1[k0]? = some (nth b.2.2.2.2.1 k0) := nth_get (by omega)
      refine rd' tt_ok tt_mx [(69, .b (!(specl29Same a0 (nth b.2.2.2.2.1 k0))))] [55] [] [] [(3, .row [.i a0.1, .s a0.2.1, .h a0.2.2.1, .h a0.2.2.2]), (8, .row [.i ((nth b.2.2.2.2.1 k0).1), .s ((nth b.2.2.2.2.1 k0).2.1), .h ((nth b.2.2.2.2.1 k0).2.2.1), .h ((nth b.2.2.2.2.1 k0).2.2.2)]), (10, .val (.b (specl29Same a0 (nth b.2.2.2.2.1 k0))))] (o2 (ob_elem (el_of (i := ((k0 : Nat) : Int)) (by omega) rfl hx0)) (o2 (ob_elem (el_of (i := ((k0 : Nat) : Int)) (by omega) rfl hx9)) (o1 (ob_call (specl29Same_a a0 (nth b.2.2.2.2.1 k0)))))) ?_
      refine ck (!(specl29Same a0 (nth b.2.2.2.2.1 k0))) (fun h12 => ?_) (fun h12 => ?_)
      · -- True
        have h12n : (specl29Same a0 (nth b.2.2.2.2.1 k0)) = false := bnot_t h12
        refine awp_seq ?_
        refine rk tt_ok [] [69] [] [] [] (o0) ?_
        refine awp_ret ?_
        have hr13 : (forL (specEqualSystems_f0 b) specEqualSystems_e0 a_.2.2.2.2.1 0 ()) = .ret false := forL_ret hx0 (bif_t h12 (rfl)) hI0
        exact pret [] (congrArg (fun z => (.b z : AV)) (show specEqualSystems a_ b = false from bif_f h6 (on_r hr13)).symm)
      · -- False
        have h12n : (specl29Same a0 (nth b.2.2.2.2.1 k0)) = true := bnot_f h12
        refine awp_skip ?_
        refine rk tt_ok [(5, .i ((k0 + 1 : Nat) : Int))] [5, 69] [] [] [(1, .val (.i ((k0 + 1 : Nat) : Int)))] (o1 (ob_eq (av_i (wrap_succ k0 (by omega))))) ?_
        exact Exists.intro () (And.intro (weak_fit (by kernel_rfl)) (forL_next hx0 (bif_f h12 (rfl)) hI0))
    · -- exit
      refine awp_seq ?_
      refine awp_seq ?_
      refine rk tt_ok [(55, .b false)] [] [] [] [(3, .val (.i (a_.2.2.2.2.1.length : Int))), (4, .val (.b false))] (o2 (ob_eq (av_len a_.2.2.2.2.1)) (o1 (ob_eq (av_bool (decide_eq_false (p := ((k0 : Nat) : Int) < (a_.2.2.2.2.1.length : Int)) (by omega)))))) ?_
      refine ckF ?_
      refine awp_exit ?_
      exact Exists.intro () (And.intro (weak_fit (by kernel_rfl)) (forL_end hk0 (rfl) hI0))
    · -- behind
      refine awp_seq ?_
      refine rk tt_ok [(4, .b true)] [4] [] [] [] (o0) ?_
      refine awp_ret ?_
      exact pret [] (congrArg (fun z => (.b z : AV)) (show specEqualSystems a_ b = true from bif_f h6 (on_b hD0 (rfl))).symm)
end Go.Proofs.YtkjlkokcpeoeeaaGreat
