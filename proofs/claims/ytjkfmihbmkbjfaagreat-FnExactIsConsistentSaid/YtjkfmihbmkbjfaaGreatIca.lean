/- What functions compute, and that they do (printed by am2.py): each function as a Lean function, then its contract. -/
import Derived.Test.YtjkfmihbmkbjfaaGreatCkg
import Derived.KernelRfl
set_option linter.unusedVariables false
set_option linter.unusedSimpArgs false
namespace Go.Proofs.YtjkfmihbmkbjfaaGreat
open Go.RowKit
open GoE (enc wide)
def implhasNames_1 (x : DirD) (y_ : ResultD) : Bool := (x.1.toList == y_.1.toList)
theorem implhasNames_1_a (x : DirD) (y_ : ResultD) : ACalls Tryz.prog 127 [.a [.s x.1, .h x.2], .a [.s y_.1, .h y_.2]] (.b (implhasNames_1 x y_)) := by
  refine acalls_of (tt := tt) tt_ok Tryz.func127 (fn := Tryz.f127) rfl (by unfold FnOk; kernel_rfl) (Nat.le_of_ble_eq_true rfl) fun w0 F0 => ?_
  refine awp_seq ?_
  refine rk tt_ok [(2, .p 2 0), (3, .p 3 0), (4, .b false)] [0, 1] [(2, [.s x.1, .h x.2]), (3, [.s y_.1, .h y_.2])] [] [] (o0) ?_
  refine awp_seq ?_
  refine rk tt_ok [(4, .b (x.1.toList == y_.1.toList))] [2, 3, 4] [] [2, 3] [] (o0) ?_
  refine awp_ret ?_
  exact pret [] (congrArg (fun z => (.b z : AV)) (show implhasNames_1 x y_ = (x.1.toList == y_.1.toList) from rfl).symm)
def slicesEqualFunc_Result_implhasNames_1_f0 (s2_ : (List ResultD)) (k0 : Nat) (a0 : DirD) (_ : Unit) : Rd (Bool) (Unit) (Unit) := (bif (!(implhasNames_1 a0 (nth s2_ k0))) then (.ret false) else (.next ()))
def slicesEqualFunc_Result_implhasNames_1_e0 (_ : Nat) (_ : Unit) : Unit := ()
def slicesEqualFunc_Result_implhasNames_1 (s1_ : (List DirD)) (s2_ : (List ResultD)) : Bool := (bif ((s1_.length : Int) != (s2_.length : Int)) then false else (Out.on (forL (slicesEqualFunc_Result_implhasNames_1_f0 s2_) slicesEqualFunc_Result_implhasNames_1_e0 s1_ 0 ()) (fun _ => true)))
theorem slicesEqualFunc_Result_implhasNames_1_a (s1_ : (List DirD)) (s2_ : (List ResultD)) : ACalls Tryz.prog 126 [.h s1_, .h s2_, .one (.fnr 127 [])] (.b (slicesEqualFunc_Result_implhasNames_1 s1_ s2_)) := by
  refine acalls_of (tt := tt) tt_ok Tryz.func126 (fn := Tryz.f126) rfl (by unfold FnOk; kernel_rfl) (Nat.le_of_ble_eq_true rfl) fun w0 F0 => ?_
  refine awp_seq ?_
  refine rk tt_ok [(6, .b false)] [] [] [] [] (o0) ?_
  refine awp_seq ?_
  refine awp_seq ?_
  refine rk tt_ok [(14, .b ((s1_.length : Int) != (s2_.length : Int)))] [] [] [] [(1, .val (.i (s1_.length : Int))), (3, .val (.i (s2_.length : Int)))] (o2 (ob_eq (av_len s1_)) (o1 (ob_eq (av_len s2_)))) ?_
  refine ck ((s1_.length : Int) != (s2_.length : Int)) (fun h1 => ?_) (fun h1 => ?_)
  ·
    have h1d := ne_of_bne h1
    refine awp_seq ?_
    refine rk tt_ok [] [14] [] [] [] (o0) ?_
    refine awp_ret ?_
    exact pret [] (congrArg (fun z => (.b z : AV)) (show slicesEqualFunc_Result_implhasNames_1 s1_ s2_ = false from bif_t h1 (rfl)).symm)
  ·
    have h1d := eq_of_bne h1
    refine awp_skip ?_
    refine awp_seq ?_
    refine awp_seq ?_
    refine rk tt_ok [(15, .h s1_), (16, .i (s1_.length : Int)), (17, .i 0)] [0, 14] [] [] [(1, .val (.i (s1_.length : Int)))] (o1 (ob_eq (av_len s1_))) ?_
    refine wdT 15 0 .sh s1_ (fun hw2 => ?_)
    have hl3 : List.length s1_ ≤ 1073741824 := wide_len (hw2)
    refine blk (fun (k0 : Nat) (s0 : Unit) => [(17, .i ((k0 : Nat) : Int))]) [17] (fun k0 s0 => []) [] (fun (y0 : Unit) => []) [1, 2, 15, 16, 17] (fun y0 => []) [] (fun (k0 : Nat) (s0 : Unit) => (forL (slicesEqualFunc_Result_implhasNames_1_f0 s2_) slicesEqualFunc_Result_implhasNames_1_e0 s1_ 0 ()) = forL (slicesEqualFunc_Result_implhasNames_1_f0 s2_) slicesEqualFunc_Result_implhasNames_1_e0 (List.drop k0 s1_) k0 s0) (fun (y0 : Unit) => (forL (slicesEqualFunc_Result_implhasNames_1_f0 s2_) slicesEqualFunc_Result_implhasNames_1_e0 s1_ 0 ()) = .brk y0) s1_.length () (weak_fit (by kernel_rfl)) rfl (fun k0 s0 hk0 hI0 => ?_) (fun k0 s0 hk0 hI0 => ?_) (fun y0 hD0 => ?_)
    ·
      obtain ⟨a0, hx0⟩ := get_some (l := s1_) (i := k0) hk0
      refine awp_seq ?_
      refine rk tt_ok [(18, .b true)] [] [] [] [(0, .val (.b true))] (o1 (ob_eq (av_bool (decide_eq_true (p := ((k0 : Nat) : Int) < (s1_.length : Int)) (by omega))))) ?_
      refine awp_seq ?_
      refine ckT ?_
      refine awp_skip ?_
      refine awp_seq ?_
      refine awp_block ?_
      refine awp_seq ?_
      refine rk tt_ok [(7, .i ((k0 : Nat) : Int)), (8, .p 8 0)] [18] [(8, [.s a0.1, .h a0.2])] [] [(1, .row [.s a0.1, .h a0.2])] (o1 (ob_elem (el_of (i := ((k0 : Nat) : Int)) (by omega) rfl hx0))) ?_
      refine awp_seq ?_
      refine wdT 1 0 .sh s2_ (fun hw5 => ?_)
      have hl6 : List.length s2_ ≤ 1073741824 := wide_len (hw5)
      have hx4 : s2_[k0]? = some (nth s2_ k0) := nth_get (by omega)
      refine rk tt_ok [(9, .p 9 0)] [7] [(9, [.s ((nth s2_ k0).1), .h ((nth s2_ k0).2)])] [] [(2, .row [.s ((nth s2_ k0).1), .h ((nth s2_ k0).2)])] (o1 (ob_elem (el_of (i := ((k0 : Nat) : Int)) (by omega) rfl hx4))) ?_
      refine awp_seq ?_
      refine rk tt_ok [(30, .b (!(implhasNames_1 a0 (nth s2_ k0))))] [8, 9] [] [8, 9] [(3, .val (.b (implhasNames_1 a0 (nth s2_ k0))))] (o1 (ob_call (implhasNames_1_a a0 (nth s2_ k0)))) ?_
      refine ck (!(implhasNames_1 a0 (nth s2_ k0))) (fun h7 => ?_) (fun h7 => ?_)
      ·
        have h7n : (implhasNames_1 a0 (nth s2_ k0)) = false := bnot_t h7
        refine awp_seq ?_
        refine rk tt_ok [] [30] [] [] [] (o0) ?_
        refine awp_ret ?_
        have hr8 : (forL (slicesEqualFunc_Result_implhasNames_1_f0 s2_) slicesEqualFunc_Result_implhasNames_1_e0 s1_ 0 ()) = .ret false := forL_ret hx0 (bif_t h7 (rfl)) hI0
        exact pret [] (congrArg (fun z => (.b z : AV)) (show slicesEqualFunc_Result_implhasNames_1 s1_ s2_ = false from bif_f h1 (on_r hr8)).symm)
      ·
        have h7n : (implhasNames_1 a0 (nth s2_ k0)) = true := bnot_f h7
        refine awp_skip ?_
        refine rk tt_ok [(17, .i ((k0 + 1 : Nat) : Int))] [17, 30] [] [] [(0, .val (.i ((k0 + 1 : Nat) : Int)))] (o1 (ob_eq (av_i (wrap_succ k0 (by omega))))) ?_
        exact Exists.intro () (And.intro (weak_fit (by kernel_rfl)) (forL_next hx0 (bif_f h7 (rfl)) hI0))
    ·
      refine awp_seq ?_
      refine rk tt_ok [(18, .b false)] [] [] [] [(0, .val (.b false))] (o1 (ob_eq (av_bool (decide_eq_false (p := ((k0 : Nat) : Int) < (s1_.length : Int)) (by omega))))) ?_
      refine awp_seq ?_
      refine ckF ?_
      refine awp_exit ?_
      exact Exists.intro () (And.intro (weak_fit (by kernel_rfl)) (forL_end hk0 (rfl) hI0))
    ·
      refine awp_seq ?_
      refine rk tt_ok [(6, .b true)] [6] [] [] [] (o0) ?_
      refine awp_ret ?_
      exact pret [] (congrArg (fun z => (.b z : AV)) (show slicesEqualFunc_Result_implhasNames_1 s1_ s2_ = true from bif_f h1 (on_b hD0 (rfl))).symm)
def implhasNames (d : (List DirD)) (r : (List ResultD)) : Bool := (slicesEqualFunc_Result_implhasNames_1 d r)
theorem implhasNames_a (d : (List DirD)) (r : (List ResultD)) : ACalls Tryz.prog 80 [.h d, .h r] (.b (implhasNames d r)) := by
  refine acalls_of (tt := tt) tt_ok Tryz.func80 (fn := Tryz.f80) rfl (by unfold FnOk; kernel_rfl) (Nat.le_of_ble_eq_true rfl) fun w0 F0 => ?_
  refine awp_seq ?_
  refine rk tt_ok [(4, .b false)] [] [] [] [] (o0) ?_
  refine awp_seq ?_
  refine rk tt_ok [(4, .b (slicesEqualFunc_Result_implhasNames_1 d r))] [0, 1, 4] [] [] [(2, .val (.b (slicesEqualFunc_Result_implhasNames_1 d r)))] (o1 (ob_call (slicesEqualFunc_Result_implhasNames_1_a d r))) ?_
  refine awp_ret ?_
  exact pret [] (congrArg (fun z => (.b z : AV)) (show implhasNames d r = (slicesEqualFunc_Result_implhasNames_1 d r) from rfl).symm)
def implIsConsistent (c : CatalogD) : Bool := ((implIsValidStore c.1) && ((implIsStratified c.2.1) && ((implhasNames c.2.1 c.2.2) && (((implCheckAll c).length : Int) == (0 : Int)))))
theorem implIsConsistent_a (c : CatalogD) : ACalls Tryz.prog 27 [.a [.h c.1.1, .h c.1.2.1, .i c.1.2.2, .h c.2.1, .h c.2.2]] (.b (implIsConsistent c)) := by
  refine acalls_of (tt := tt) tt_ok Tryz.func27 (fn := Tryz.f27) rfl (by unfold FnOk; kernel_rfl) (Nat.le_of_ble_eq_true rfl) fun w0 F0 => ?_
  refine awp_seq ?_
  refine rk tt_ok [(1, .p 1 0), (2, .b false)] [0] [(1, [.h c.1.1, .h c.1.2.1, .i c.1.2.2, .h c.2.1, .h c.2.2])] [] [] (o0) ?_
  refine awp_seq ?_
  refine jn [(2, .b ((implIsValidStore c.1) && ((implIsStratified c.2.1) && ((implhasNames c.2.1 c.2.2) && (((implCheckAll c).length : Int) == (0 : Int))))))] [1, 2] [] [1] (implIsValidStore c.1) (fun h1 => ?_) (fun h1 => ?_) ?_
  ·
    refine awp_split (implIsStratified c.2.1) (fun h2 => ?_) (fun h2 => ?_)
    ·
      refine awp_split (implhasNames c.2.1 c.2.2) (fun h3 => ?_) (fun h3 => ?_)
      ·
        refine rk tt_ok [(2, .b (((implCheckAll c).length : Int) == (0 : Int)))] [1, 2] [] [1] [(2, .val (.b true)), (6, .val (.b true)), (13, .val (.b true)), (17, .val (.o 0 (implCheckAll c))), (18, .val (.i ((implCheckAll c).length : Int)))] (o2 (ob_call (cb h1 (implIsValidStore_a c.1))) (o2 (ob_call (cb h2 (implIsStratified_a c.2.1))) (o2 (ob_call (cb h3 (implhasNames_a c.2.1 c.2.2))) (o2 (ob_call (implCheckAll_a c)) (o1 (ob_eq (av_len (implCheckAll c)))))))) ?_
        exact ⟨rfl, weak_fit (by rw [h1, h2, h3]; first | done | kernel_rfl)⟩
      ·
        refine rk tt_ok [] [1] [] [1] [(2, .val (.b true)), (6, .val (.b true)), (13, .val (.b false))] (o2 (ob_call (cb h1 (implIsValidStore_a c.1))) (o2 (ob_call (cb h2 (implIsStratified_a c.2.1))) (o1 (ob_call (cb h3 (implhasNames_a c.2.1 c.2.2)))))) ?_
        exact ⟨rfl, weak_fit (by rw [h1, h2, h3]; first | done | kernel_rfl)⟩
    ·
      refine rk tt_ok [] [1] [] [1] [(2, .val (.b true)), (6, .val (.b false))] (o2 (ob_call (cb h1 (implIsValidStore_a c.1))) (o1 (ob_call (cb h2 (implIsStratified_a c.2.1))))) ?_
      exact ⟨rfl, weak_fit (by rw [h1, h2]; first | done | kernel_rfl)⟩
  ·
    refine rk tt_ok [] [1] [] [1] [(2, .val (.b false))] (o1 (ob_call (cb h1 (implIsValidStore_a c.1)))) ?_
    exact ⟨rfl, weak_fit (by rw [h1]; first | done | kernel_rfl)⟩
  refine awp_ret ?_
  exact pret [] (congrArg (fun z => (.b z : AV)) (show implIsConsistent c = ((implIsValidStore c.1) && ((implIsStratified c.2.1) && ((implhasNames c.2.1 c.2.2) && (((implCheckAll c).length : Int) == (0 : Int))))) from rfl).symm)
def specIsConsistent_f0 (l : CatalogD) (k0 : Nat) (a0 : DirD) (_ : Unit) : Rd (Bool) (Unit) (Unit) := (bif (!(((nth l.2.2 k0).1).toList == a0.1.toList)) then (.ret false) else (.next ()))
def specIsConsistent_e0 (_ : Nat) (_ : Unit) : Unit := ()
def specIsConsistent (l : CatalogD) : Bool := (bif ((!(specIsValidStore l.1)) || ((!(specIsStratified l.2.1)) || ((l.2.2.length : Int) != (l.2.1.length : Int)))) then false else (Out.on (forL (specIsConsistent_f0 l) specIsConsistent_e0 l.2.1 0 ()) (fun _ => (((specCheckAll l).length : Int) == (0 : Int)))))
theorem specIsConsistent_a (l : CatalogD) : ACalls Tryz.prog 25 [.a [.h l.1.1, .h l.1.2.1, .i l.1.2.2, .h l.2.1, .h l.2.2]] (.b (specIsConsistent l)) := by
  refine acalls_of (tt := tt) tt_ok Tryz.func25 (fn := Tryz.f25) rfl (by unfold FnOk; kernel_rfl) (Nat.le_of_ble_eq_true rfl) fun w0 F0 => ?_
  refine awp_seq ?_
  refine rk tt_ok [(1, .p 1 0), (2, .b false)] [0] [(1, [.h l.1.1, .h l.1.2.1, .i l.1.2.2, .h l.2.1, .h l.2.2])] [] [] (o0) ?_
  refine awp_seq ?_
  refine awp_seq ?_
  refine jn [(22, .b ((!(specIsValidStore l.1)) || ((!(specIsStratified l.2.1)) || ((l.2.2.length : Int) != (l.2.1.length : Int)))))] [] [] [] (!(specIsValidStore l.1)) (fun h1 => ?_) (fun h1 => ?_) ?_
  ·
    have h1n : (specIsValidStore l.1) = false := bnot_t h1
    refine rk tt_ok [(22, .b true)] [] [] [] [(2, .val (.b false)), (3, .val (.b true))] (o2 (ob_call (cb h1n (specIsValidStore_a l.1))) (o1 (ob_eq (show .b (!false) = .b true from rfl)))) ?_
    exact ⟨rfl, weak_fit (by rw [h1]; first | done | kernel_rfl)⟩
  ·
    have h1n : (specIsValidStore l.1) = true := bnot_f h1
    refine awp_split (!(specIsStratified l.2.1)) (fun h2 => ?_) (fun h2 => ?_)
    ·
      have h2n : (specIsStratified l.2.1) = false := bnot_t h2
      refine rk tt_ok [(22, .b true)] [] [] [] [(2, .val (.b true)), (3, .val (.b false)), (7, .val (.b false)), (8, .val (.b true))] (o2 (ob_call (cb h1n (specIsValidStore_a l.1))) (o2 (ob_eq (show .b (!true) = .b false from rfl)) (o2 (ob_call (cb h2n (specIsStratified_a l.2.1))) (o1 (ob_eq (show .b (!false) = .b true from rfl)))))) ?_
      exact ⟨rfl, weak_fit (by rw [h1, h2]; first | done | kernel_rfl)⟩
    ·
      have h2n : (specIsStratified l.2.1) = true := bnot_f h2
      refine rk tt_ok [(22, .b ((l.2.2.length : Int) != (l.2.1.length : Int)))] [] [] [] [(2, .val (.b true)), (3, .val (.b false)), (7, .val (.b true)), (8, .val (.b false)), (13, .val (.i (l.2.2.length : Int))), (16, .val (.i (l.2.1.length : Int)))] (o2 (ob_call (cb h1n (specIsValidStore_a l.1))) (o2 (ob_eq (show .b (!true) = .b false from rfl)) (o2 (ob_call (cb h2n (specIsStratified_a l.2.1))) (o2 (ob_eq (show .b (!true) = .b false from rfl)) (o2 (ob_eq (av_len l.2.2)) (o1 (ob_eq (av_len l.2.1)))))))) ?_
      exact ⟨rfl, weak_fit (by rw [h1, h2]; first | done | kernel_rfl)⟩
  refine ck ((!(specIsValidStore l.1)) || ((!(specIsStratified l.2.1)) || ((l.2.2.length : Int) != (l.2.1.length : Int)))) (fun h3 => ?_) (fun h3 => ?_)
  ·
    refine awp_seq ?_
    refine rk tt_ok [] [22] [] [] [] (o0) ?_
    refine awp_ret ?_
    exact pret [] (congrArg (fun z => (.b z : AV)) (show specIsConsistent l = false from bif_t h3 (rfl)).symm)
  ·
    have h3l : ((!(specIsValidStore l.1))) = false := or_l h3
    have h3ln : (specIsValidStore l.1) = true := bnot_f h3l
    have h3r : (((!(specIsStratified l.2.1)) || ((l.2.2.length : Int) != (l.2.1.length : Int)))) = false := or_r h3
    have h3rl : ((!(specIsStratified l.2.1))) = false := or_l h3r
    have h3rln : (specIsStratified l.2.1) = true := bnot_f h3rl
    have h3rr : (((l.2.2.length : Int) != (l.2.1.length : Int))) = false := or_r h3r
    have h3rrd := eq_of_bne h3rr
    refine awp_skip ?_
    refine awp_seq ?_
    refine awp_seq ?_
    refine rk tt_ok [(3, .i 0)] [22] [] [] [] (o0) ?_
    refine wdB 1 3 .sh l.2.1 (fun hw4 => ?_)
    have hl5 : List.length l.2.1 ≤ 1073741824 := wide_len (hw4)
    refine blk (fun (k0 : Nat) (s0 : Unit) => [(3, .i ((k0 : Nat) : Int))]) [3] (fun k0 s0 => []) [] (fun (y0 : Unit) => []) [3] (fun y0 => []) [] (fun (k0 : Nat) (s0 : Unit) => (forL (specIsConsistent_f0 l) specIsConsistent_e0 l.2.1 0 ()) = forL (specIsConsistent_f0 l) specIsConsistent_e0 (List.drop k0 l.2.1) k0 s0) (fun (y0 : Unit) => (forL (specIsConsistent_f0 l) specIsConsistent_e0 l.2.1 0 ()) = .brk y0) l.2.1.length () (weak_fit (by kernel_rfl)) rfl (fun k0 s0 hk0 hI0 => ?_) (fun k0 s0 hk0 hI0 => ?_) (fun y0 hD0 => ?_)
    ·
      obtain ⟨a0, hx0⟩ := get_some (l := l.2.1) (i := k0) hk0
      refine awp_seq ?_
      refine awp_seq ?_
      refine rk tt_ok [(27, .b true)] [] [] [] [(3, .val (.i (l.2.1.length : Int))), (4, .val (.b true))] (o2 (ob_eq (av_len l.2.1)) (o1 (ob_eq (av_bool (decide_eq_true (p := ((k0 : Nat) : Int) < (l.2.1.length : Int)) (by omega)))))) ?_
      refine ckT ?_
      refine awp_skip ?_
      refine awp_seq ?_
      refine awp_block ?_
      refine awp_seq ?_
      refine wdB 1 4 .sh l.2.2 (fun hw7 => ?_)
      have hl8 : List.length l.2.2 ≤ 1073741824 := wide_len (hw7)
      have hx6 : l.2.2[k0]? = some (nth l.2.2 k0) := nth_get (by omega)
      refine rd' tt_ok tt_mx [(42, .b (!(((nth l.2.2 k0).1).toList == a0.1.toList)))] [27] [] [] [(3, .row [.s ((nth l.2.2 k0).1), .h ((nth l.2.2 k0).2)]), (9, .row [.s a0.1, .h a0.2])] (o2 (ob_elem (el_of (i := ((k0 : Nat) : Int)) (by omega) rfl hx6)) (o1 (ob_elem (el_of (i := ((k0 : Nat) : Int)) (by omega) rfl hx0)))) ?_
      refine ck (!(((nth l.2.2 k0).1).toList == a0.1.toList)) (fun h9 => ?_) (fun h9 => ?_)
      ·
        have h9n : (((nth l.2.2 k0).1).toList == a0.1.toList) = false := bnot_t h9
        refine awp_seq ?_
        refine rk tt_ok [] [42] [] [] [] (o0) ?_
        refine awp_ret ?_
        have hr10 : (forL (specIsConsistent_f0 l) specIsConsistent_e0 l.2.1 0 ()) = .ret false := forL_ret hx0 (bif_t h9 (rfl)) hI0
        exact pret [] (congrArg (fun z => (.b z : AV)) (show specIsConsistent l = false from bif_f h3 (on_r hr10)).symm)
      ·
        have h9n : (((nth l.2.2 k0).1).toList == a0.1.toList) = true := bnot_f h9
        refine awp_skip ?_
        refine rk tt_ok [(3, .i ((k0 + 1 : Nat) : Int))] [3, 42] [] [] [(1, .val (.i ((k0 + 1 : Nat) : Int)))] (o1 (ob_eq (av_i (wrap_succ k0 (by omega))))) ?_
        exact Exists.intro () (And.intro (weak_fit (by kernel_rfl)) (forL_next hx0 (bif_f h9 (rfl)) hI0))
    ·
      refine awp_seq ?_
      refine awp_seq ?_
      refine rk tt_ok [(27, .b false)] [] [] [] [(3, .val (.i (l.2.1.length : Int))), (4, .val (.b false))] (o2 (ob_eq (av_len l.2.1)) (o1 (ob_eq (av_bool (decide_eq_false (p := ((k0 : Nat) : Int) < (l.2.1.length : Int)) (by omega)))))) ?_
      refine ckF ?_
      refine awp_exit ?_
      exact Exists.intro () (And.intro (weak_fit (by kernel_rfl)) (forL_end hk0 (rfl) hI0))
    ·
      refine awp_seq ?_
      refine rk tt_ok [(2, .b (((specCheckAll l).length : Int) == (0 : Int)))] [1, 2] [] [1] [(1, .val (.o 0 (specCheckAll l))), (2, .val (.i ((specCheckAll l).length : Int)))] (o2 (ob_call (specCheckAll_a l)) (o1 (ob_eq (av_len (specCheckAll l))))) ?_
      refine awp_ret ?_
      exact pret [] (congrArg (fun z => (.b z : AV)) (show specIsConsistent l = (((specCheckAll l).length : Int) == (0 : Int)) from bif_f h3 (on_b hD0 (rfl))).symm)
end Go.Proofs.YtjkfmihbmkbjfaaGreat
