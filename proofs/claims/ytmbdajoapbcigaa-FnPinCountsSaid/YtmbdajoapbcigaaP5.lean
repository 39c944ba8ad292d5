/- Texts of this proof, put together by a program: Iva, Ivb, Tw, Clr, Inr, Ins, Df, Cva, Cvb, Pna, Pnb, Pnc, Cwa, Pnl, Gb, Cua, Cub, Cuc, Cud, Cue, Pla. -/
import Derived.Test.YtmbdajoapbcigaaP4
import Derived.KernelRfl
import Derived.Laws.Externs
import Derived.Lib.AppendZerosOnto
import Derived.Deep.RegionLaw
set_option linter.unusedVariables false
set_option linter.unusedSimpArgs false
namespace Go.Proofs.Ytmbdajoapbcigaa
open Go.RowKit
open GoE (enc wide)
def implFieldKind_f0 (name : ByteArray) (_ : Nat) (a0 : FieldD) (_ : Unit) : Rd (Int) (Unit) (Unit) := (bif (a0.1.toList == name.toList) then (.ret a0.2) else (.next ()))
def implFieldKind_e0 (_ : Nat) (_ : Unit) : Unit := ()
def implFieldKind (s_ : (List FieldD)) (name : ByteArray) : Int := (Out.on (forL (implFieldKind_f0 name) implFieldKind_e0 s_ 0 ()) (fun _ => 0))
theorem implFieldKind_a (s_ : (List FieldD)) (name : ByteArray) : ACalls Try.prog 139 [.h s_, .s name] (.i (implFieldKind s_ name)) := by
  refine acalls_of (tt := tt) tt_ok Try.func139 (fn := Try.f139) rfl (by unfold FnOk; kernel_rfl) (Nat.le_of_ble_eq_true rfl) fun w0 F0 hG => ?_
  refine awp_seq ?_
  refine rk tt_ok [(4, .i 0)] [] [] [] [] (o0) ?_
  refine awp_seq ?_
  refine awp_seq ?_
  refine rk tt_ok [(7, .h s_), (8, .i (s_.length : Int)), (9, .i 0)] [0] [] [] [(1, .val (.i (s_.length : Int)))] (o1 (ob_eq (av_len s_))) ?_
  refine wdT 7 0 .sh s_ (fun hw1 => ?_)
  have hl2 : List.length s_ ≤ 1073741824 := wide_len (hw1)
  refine blk (fun (k0 : Nat) (s0 : Unit) => [(9, .i ((k0 : Nat) : Int))]) [9] (fun k0 s0 => []) [] (fun (y0 : Unit) => []) [1, 7, 8, 9] (fun y0 => []) [] (fun (k0 : Nat) (s0 : Unit) => (forL (implFieldKind_f0 name) implFieldKind_e0 s_ 0 ()) = forL (implFieldKind_f0 name) implFieldKind_e0 (List.drop k0 s_) k0 s0) (fun (y0 : Unit) => (forL (implFieldKind_f0 name) implFieldKind_e0 s_ 0 ()) = .brk y0) s_.length () (weak_fit (by kernel_rfl)) rfl (fun k0 s0 hk0 hI0 => ?_) (fun k0 s0 hk0 hI0 => ?_) (fun y0 hD0 => ?_)
  ·
    obtain ⟨a0, hx0⟩ := get_some (l := s_) (i := k0) hk0
    refine awp_seq ?_
    refine rk tt_ok [(10, .b true)] [] [] [] [(0, .val (.b true))] (o1 (ob_eq (av_bool (decide_eq_true (p := ((k0 : Nat) : Int) < (s_.length : Int)) (by omega))))) ?_
    refine awp_seq ?_
    refine ckT ?_
    refine awp_skip ?_
    refine awp_seq ?_
    refine awp_block ?_
    refine awp_seq ?_
    refine rk tt_ok [(6, .p 6 0)] [10] [(6, [.s a0.1, .i a0.2])] [] [(0, .row [.s a0.1, .i a0.2])] (o1 (ob_elem (el_of (i := ((k0 : Nat) : Int)) (by omega) rfl hx0))) ?_
    refine awp_seq ?_
    refine rk tt_ok [(16, .b (a0.1.toList == name.toList))] [] [] [] [] (o0) ?_
    refine ck (a0.1.toList == name.toList) (fun h3 => ?_) (fun h3 => ?_)
    ·
      refine awp_seq ?_
      refine rk tt_ok [(4, .i a0.2)] [4, 6, 16] [] [6] [] (o0) ?_
      refine awp_ret ?_
      have hr4 : (forL (implFieldKind_f0 name) implFieldKind_e0 s_ 0 ()) = .ret a0.2 := forL_ret hx0 (bif_t h3 (rfl)) hI0
      exact pret [] (congrArg (fun z => (.i z : AV)) (show implFieldKind s_ name = a0.2 from on_r hr4).symm)
    ·
      refine awp_skip ?_
      refine rk tt_ok [(9, .i ((k0 + 1 : Nat) : Int))] [6, 9, 16] [] [6] [(0, .val (.i ((k0 + 1 : Nat) : Int)))] (o1 (ob_eq (av_i (wrap_succ k0 (by omega))))) ?_
      exact Exists.intro () (And.intro (weak_fit (by kernel_rfl)) (forL_next hx0 (bif_f h3 (rfl)) hI0))
  ·
    refine awp_seq ?_
    refine rk tt_ok [(10, .b false)] [] [] [] [(0, .val (.b false))] (o1 (ob_eq (av_bool (decide_eq_false (p := ((k0 : Nat) : Int) < (s_.length : Int)) (by omega))))) ?_
    refine awp_seq ?_
    refine ckF ?_
    refine awp_exit ?_
    exact Exists.intro () (And.intro (weak_fit (by kernel_rfl)) (forL_end hk0 (rfl) hI0))
  ·
    refine awp_seq ?_
    refine rk tt_ok [] [] [] [] [] (o0) ?_
    refine awp_ret ?_
    exact pret [] (congrArg (fun z => (.i z : AV)) (show implFieldKind s_ name = 0 from on_b hD0 (rfl)).symm)
def implMatchesSchema (s_ : (List FieldD)) (name : ByteArray) (v : ValueD) : Bool := ((implIsValidValue v) && ((v.1 != (0 : Int)) && (v.1 == (implFieldKind s_ name))))
theorem implMatchesSchema_a (s_ : (List FieldD)) (name : ByteArray) (v : ValueD) : ACalls Try.prog 129 [.h s_, .s name, .a [.i v.1, .i v.2.1, .s v.2.2]] (.b (implMatchesSchema s_ name v)) := by
  refine acalls_of (tt := tt) tt_ok Try.func129 (fn := Try.f129) rfl (by unfold FnOk; kernel_rfl) (Nat.le_of_ble_eq_true rfl) fun w0 F0 hG => ?_
  refine awp_seq ?_
  refine rk tt_ok [(5, .p 5 0), (6, .b false)] [2] [(5, [.i v.1, .i v.2.1, .s v.2.2])] [] [] (o0) ?_
  refine awp_seq ?_
  refine jn [(6, .b ((implIsValidValue v) && ((v.1 != (0 : Int)) && (v.1 == (implFieldKind s_ name)))))] [0, 1, 5, 6] [] [5] (implIsValidValue v) (fun h1 => ?_) (fun h1 => ?_) ?_
  ·
    refine awp_split (v.1 != (0 : Int)) (fun h2 => ?_) (fun h2 => ?_)
    ·
      have h2d := ne_of_bne h2
      refine rd' tt_ok tt_mx [(6, .b (v.1 == (implFieldKind s_ name)))] [0, 1, 5, 6] [] [5] [(1, .val (.b true)), (5, .val (.b true)), (12, .val (.i (implFieldKind s_ name)))] (o2 (ob_call (cb h1 (implIsValidValue_a v))) (o2 (ob_eq (av_bool h2)) (o1 (ob_call (implFieldKind_a s_ name))))) ?_
      exact ⟨rfl, weak_fit (by rw [h1, h2]; first | done | kernel_rfl)⟩
    ·
      have h2d := eq_of_bne h2
      refine rd' tt_ok tt_mx [] [0, 1, 5] [] [5] [(1, .val (.b true)), (5, .val (.b false))] (o2 (ob_call (cb h1 (implIsValidValue_a v))) (o1 (ob_eq (av_bool h2)))) ?_
      exact ⟨rfl, weak_fit (by rw [h1, h2]; first | done | kernel_rfl)⟩
  ·
    refine rd' tt_ok tt_mx [] [0, 1, 5] [] [5] [(1, .val (.b false))] (o1 (ob_call (cb h1 (implIsValidValue_a v)))) ?_
    exact ⟨rfl, weak_fit (by rw [h1]; first | done | kernel_rfl)⟩
  refine awp_ret ?_
  exact pret [] (congrArg (fun z => (.b z : AV)) (show implMatchesSchema s_ name v = ((implIsValidValue v) && ((v.1 != (0 : Int)) && (v.1 == (implFieldKind s_ name)))) from rfl).symm)
def implisUser (n : Int) : Bool := (implwithin n 0 2)
theorem implisUser_a (n : Int) : ACalls Try.prog 130 [.i n] (.b (implisUser n)) := by
  refine acalls_of (tt := tt) tt_ok Try.func130 (fn := Try.f130) rfl (by unfold FnOk; kernel_rfl) (Nat.le_of_ble_eq_true rfl) fun w0 F0 hG => ?_
  refine awp_seq ?_
  refine rk tt_ok [(2, .b false)] [] [] [] [] (o0) ?_
  refine awp_seq ?_
  refine rk tt_ok [(2, .b (implwithin n 0 2))] [0, 2] [] [] [(1, .val (.b (implwithin n 0 2)))] (o1 (ob_call (implwithin_a n 0 2))) ?_
  refine awp_ret ?_
  exact pret [] (congrArg (fun z => (.b z : AV)) (show implisUser n = (implwithin n 0 2) from rfl).symm)
def implIsValidSchema_f0 (s_ : (List FieldD)) (k0 : Nat) (a0 : FieldD) (_ : Unit) : Rd (Bool) (Unit) (Unit) := (bif ((!(implIsValidAttrName a0.1)) || (bif (a0.2 != (1 : Int)) then ((a0.2 != (2 : Int)) || (decide (((k0 : Nat) : Int) > (0 : Int)) && (!(Op.bytesLess ((nth s_ (Int.toNat (((k0 : Nat) : Int) - 1))).1).toList a0.1.toList)))) else (decide (((k0 : Nat) : Int) > (0 : Int)) && (!(Op.bytesLess ((nth s_ (Int.toNat (((k0 : Nat) : Int) - 1))).1).toList a0.1.toList))))) then (.ret false) else (.next ()))
def implIsValidSchema_e0 (_ : Nat) (_ : Unit) : Unit := ()
def implIsValidSchema (s_ : (List FieldD)) : Bool := (Out.on (forL (implIsValidSchema_f0 s_) implIsValidSchema_e0 s_ 0 ()) (fun _ => decide ((s_.length : Int) ≤ (5 : Int))))
theorem implIsValidSchema_a (s_ : (List FieldD)) : ACalls Try.prog 121 [.h s_] (.b (implIsValidSchema s_)) := by
  refine acalls_of (tt := tt) tt_ok Try.func121 (fn := Try.f121) rfl (by unfold FnOk; kernel_rfl) (Nat.le_of_ble_eq_true rfl) fun w0 F0 hG => ?_
  refine awp_seq ?_
  refine rk tt_ok [(2, .b false)] [] [] [] [] (o0) ?_
  refine awp_seq ?_
  refine awp_seq ?_
  refine rk tt_ok [(5, .h s_), (6, .i (s_.length : Int)), (7, .i 0)] [] [] [] [(1, .val (.i (s_.length : Int)))] (o1 (ob_eq (av_len s_))) ?_
  refine wdT 0 0 .sh s_ (fun hw1 => ?_)
  have hl2 : List.length s_ ≤ 1073741824 := wide_len (hw1)
  refine blk (fun (k0 : Nat) (s0 : Unit) => [(7, .i ((k0 : Nat) : Int))]) [7] (fun k0 s0 => []) [] (fun (y0 : Unit) => []) [5, 6, 7] (fun y0 => []) [] (fun (k0 : Nat) (s0 : Unit) => (forL (implIsValidSchema_f0 s_) implIsValidSchema_e0 s_ 0 ()) = forL (implIsValidSchema_f0 s_) implIsValidSchema_e0 (List.drop k0 s_) k0 s0) (fun (y0 : Unit) => (forL (implIsValidSchema_f0 s_) implIsValidSchema_e0 s_ 0 ()) = .brk y0) s_.length () (weak_fit (by kernel_rfl)) rfl (fun k0 s0 hk0 hI0 => ?_) (fun k0 s0 hk0 hI0 => ?_) (fun y0 hD0 => ?_)
  ·
    obtain ⟨a0, hx0⟩ := get_some (l := s_) (i := k0) hk0
    refine awp_seq ?_
    refine rk tt_ok [(8, .b true)] [] [] [] [(0, .val (.b true))] (o1 (ob_eq (av_bool (decide_eq_true (p := ((k0 : Nat) : Int) < (s_.length : Int)) (by omega))))) ?_
    refine awp_seq ?_
    refine ckT ?_
    refine awp_skip ?_
    refine awp_seq ?_
    refine awp_block ?_
    refine awp_seq ?_
    refine rk tt_ok [(3, .i ((k0 : Nat) : Int)), (4, .p 4 0)] [8] [(4, [.s a0.1, .i a0.2])] [] [(1, .row [.s a0.1, .i a0.2])] (o1 (ob_elem (el_of (i := ((k0 : Nat) : Int)) (by omega) rfl hx0))) ?_
    refine awp_seq ?_
    refine jn [(40, .b ((!(implIsValidAttrName a0.1)) || (bif (a0.2 != (1 : Int)) then ((a0.2 != (2 : Int)) || (decide (((k0 : Nat) : Int) > (0 : Int)) && (!(Op.bytesLess ((nth s_ (Int.toNat (((k0 : Nat) : Int) - 1))).1).toList a0.1.toList)))) else (decide (((k0 : Nat) : Int) > (0 : Int)) && (!(Op.bytesLess ((nth s_ (Int.toNat (((k0 : Nat) : Int) - 1))).1).toList a0.1.toList))))))] [3, 4] [] [4] (!(implIsValidAttrName a0.1)) (fun h3 => ?_) (fun h3 => ?_) ?_
    ·
      have h3n : (implIsValidAttrName a0.1) = false := bnot_t h3
      refine rd' tt_ok tt_mx [(40, .b true)] [3, 4] [] [4] [(2, .val (.b false)), (3, .val (.b true))] (o2 (ob_call (cb h3n (implIsValidAttrName_a a0.1))) (o1 (ob_eq (show .b (!false) = .b true from rfl)))) ?_
      exact ⟨rfl, weak_fit (by rw [h3]; first | done | kernel_rfl)⟩
    ·
      have h3n : (implIsValidAttrName a0.1) = true := bnot_f h3
      refine awp_split (a0.2 != (1 : Int)) (fun h4 => ?_) (fun h4 => ?_)
      ·
        have h4d := ne_of_bne h4
        refine awp_split (a0.2 != (2 : Int)) (fun h5 => ?_) (fun h5 => ?_)
        ·
          have h5d := ne_of_bne h5
          refine rd' tt_ok tt_mx [(40, .b true)] [3, 4] [] [4] [(2, .val (.b true)), (3, .val (.b false)), (7, .val (.b true)), (11, .val (.b true))] (o2 (ob_call (cb h3n (implIsValidAttrName_a a0.1))) (o2 (ob_eq (show .b (!true) = .b false from rfl)) (o2 (ob_eq (av_bool h4)) (o1 (ob_eq (av_bool h5)))))) ?_
          exact ⟨rfl, weak_fit (by rw [h3, h4, h5]; first | done | kernel_rfl)⟩
        ·
          have h5d := eq_of_bne h5
          refine awp_split (decide (((k0 : Nat) : Int) > (0 : Int))) (fun h6 => ?_) (fun h6 => ?_)
          ·
            have h6d := of_decide_eq_true h6
            have hx7 : s_[(Int.toNat (((k0 : Nat) : Int) - 1))]? = some (nth s_ (Int.toNat (((k0 : Nat) : Int) - 1))) := nth_get (by omega)
            refine rd' tt_ok tt_mx [(40, .b (!(Op.bytesLess ((nth s_ (Int.toNat (((k0 : Nat) : Int) - 1))).1).toList a0.1.toList)))] [3, 4] [] [4] [(2, .val (.b true)), (3, .val (.b false)), (7, .val (.b true)), (11, .val (.b false)), (16, .val (.b true)), (20, .val (.i (((k0 : Nat) : Int) - 1))), (21, .row [.s ((nth s_ (Int.toNat (((k0 : Nat) : Int) - 1))).1), .i ((nth s_ (Int.toNat (((k0 : Nat) : Int) - 1))).2)])] (o2 (ob_call (cb h3n (implIsValidAttrName_a a0.1))) (o2 (ob_eq (show .b (!true) = .b false from rfl)) (o2 (ob_eq (av_bool h4)) (o2 (ob_eq (av_bool h5)) (o2 (ob_eq (av_bool h6)) (o2 (ob_eq (av_i (IntWalk.i64_in (((k0 : Nat) : Int) - 1) (by omega)))) (o1 (ob_elem (el_of (i := (((k0 : Nat) : Int) - 1)) (by omega) rfl hx7))))))))) ?_
            exact ⟨rfl, weak_fit (by rw [h3, h4, h5, h6]; first | done | kernel_rfl)⟩
          ·
            have h6d := of_decide_eq_false h6
            refine rd' tt_ok tt_mx [(40, .b false)] [3, 4] [] [4] [(2, .val (.b true)), (3, .val (.b false)), (7, .val (.b true)), (11, .val (.b false)), (16, .val (.b false))] (o2 (ob_call (cb h3n (implIsValidAttrName_a a0.1))) (o2 (ob_eq (show .b (!true) = .b false from rfl)) (o2 (ob_eq (av_bool h4)) (o2 (ob_eq (av_bool h5)) (o1 (ob_eq (av_bool h6))))))) ?_
            exact ⟨rfl, weak_fit (by rw [h3, h4, h5, h6]; first | done | kernel_rfl)⟩
      ·
        have h4d := eq_of_bne h4
        refine awp_split (decide (((k0 : Nat) : Int) > (0 : Int))) (fun h8 => ?_) (fun h8 => ?_)
        ·
          have h8d := of_decide_eq_true h8
          have hx9 : s_[(Int.toNat (((k0 : Nat) : Int) - 1))]? = some (nth s_ (Int.toNat (((k0 : Nat) : Int) - 1))) := nth_get (by omega)
          refine rd' tt_ok tt_mx [(40, .b (!(Op.bytesLess ((nth s_ (Int.toNat (((k0 : Nat) : Int) - 1))).1).toList a0.1.toList)))] [3, 4] [] [4] [(2, .val (.b true)), (3, .val (.b false)), (7, .val (.b false)), (16, .val (.b true)), (20, .val (.i (((k0 : Nat) : Int) - 1))), (21, .row [.s ((nth s_ (Int.toNat (((k0 : Nat) : Int) - 1))).1), .i ((nth s_ (Int.toNat (((k0 : Nat) : Int) - 1))).2)])] (o2 (ob_call (cb h3n (implIsValidAttrName_a a0.1))) (o2 (ob_eq (show .b (!true) = .b false from rfl)) (o2 (ob_eq (av_bool h4)) (o2 (ob_eq (av_bool h8)) (o2 (ob_eq (av_i (IntWalk.i64_in (((k0 : Nat) : Int) - 1) (by omega)))) (o1 (ob_elem (el_of (i := (((k0 : Nat) : Int) - 1)) (by omega) rfl hx9)))))))) ?_
          exact ⟨rfl, weak_fit (by rw [h3, h4, h8]; first | done | kernel_rfl)⟩
        ·
          have h8d := of_decide_eq_false h8
          refine rd' tt_ok tt_mx [(40, .b false)] [3, 4] [] [4] [(2, .val (.b true)), (3, .val (.b false)), (7, .val (.b false)), (16, .val (.b false))] (o2 (ob_call (cb h3n (implIsValidAttrName_a a0.1))) (o2 (ob_eq (show .b (!true) = .b false from rfl)) (o2 (ob_eq (av_bool h4)) (o1 (ob_eq (av_bool h8)))))) ?_
          exact ⟨rfl, weak_fit (by rw [h3, h4, h8]; first | done | kernel_rfl)⟩
    refine ck ((!(implIsValidAttrName a0.1)) || (bif (a0.2 != (1 : Int)) then ((a0.2 != (2 : Int)) || (decide (((k0 : Nat) : Int) > (0 : Int)) && (!(Op.bytesLess ((nth s_ (Int.toNat (((k0 : Nat) : Int) - 1))).1).toList a0.1.toList)))) else (decide (((k0 : Nat) : Int) > (0 : Int)) && (!(Op.bytesLess ((nth s_ (Int.toNat (((k0 : Nat) : Int) - 1))).1).toList a0.1.toList))))) (fun h10 => ?_) (fun h10 => ?_)
    ·
      refine awp_seq ?_
      refine rk tt_ok [] [40] [] [] [] (o0) ?_
      refine awp_ret ?_
      have hr11 : (forL (implIsValidSchema_f0 s_) implIsValidSchema_e0 s_ 0 ()) = .ret false := forL_ret hx0 (bif_t h10 (rfl)) hI0
      exact pret [] (congrArg (fun z => (.b z : AV)) (show implIsValidSchema s_ = false from on_r hr11).symm)
    ·
      have h10l : ((!(implIsValidAttrName a0.1))) = false := or_l h10
      have h10ln : (implIsValidAttrName a0.1) = true := bnot_f h10l
      have h10r : ((bif (a0.2 != (1 : Int)) then ((a0.2 != (2 : Int)) || (decide (((k0 : Nat) : Int) > (0 : Int)) && (!(Op.bytesLess ((nth s_ (Int.toNat (((k0 : Nat) : Int) - 1))).1).toList a0.1.toList)))) else (decide (((k0 : Nat) : Int) > (0 : Int)) && (!(Op.bytesLess ((nth s_ (Int.toNat (((k0 : Nat) : Int) - 1))).1).toList a0.1.toList))))) = false := or_r h10
      refine awp_skip ?_
      refine rk tt_ok [(7, .i ((k0 + 1 : Nat) : Int))] [7, 40] [] [] [(0, .val (.i ((k0 + 1 : Nat) : Int)))] (o1 (ob_eq (av_i (wrap_succ k0 (by omega))))) ?_
      exact Exists.intro () (And.intro (weak_fit (by kernel_rfl)) (forL_next hx0 (bif_f h10 (rfl)) hI0))
  ·
    refine awp_seq ?_
    refine rk tt_ok [(8, .b false)] [] [] [] [(0, .val (.b false))] (o1 (ob_eq (av_bool (decide_eq_false (p := ((k0 : Nat) : Int) < (s_.length : Int)) (by omega))))) ?_
    refine awp_seq ?_
    refine ckF ?_
    refine awp_exit ?_
    exact Exists.intro () (And.intro (weak_fit (by kernel_rfl)) (forL_end hk0 (rfl) hI0))
  ·
    refine awp_seq ?_
    refine rk tt_ok [(2, .b (decide ((s_.length : Int) ≤ (5 : Int))))] [0, 2] [] [] [(1, .val (.i (s_.length : Int)))] (o1 (ob_eq (av_len s_))) ?_
    refine awp_ret ?_
    exact pret [] (congrArg (fun z => (.b z : AV)) (show implIsValidSchema s_ = decide ((s_.length : Int) ≤ (5 : Int)) from on_b hD0 (rfl)).symm)
def implIsValidFile_f0 (s_ : (List FieldD)) (f : FileD) (k0 : Nat) (a0 : AttrD) (_ : Unit) : Rd (Bool) (Unit) (Unit) := (bif (bif decide (((k0 : Nat) : Int) > (0 : Int)) then ((!(Op.bytesLess ((nth f.2.2.2.2 (Int.toNat (((k0 : Nat) : Int) - 1))).1).toList a0.1.toList)) || (!(implMatchesSchema s_ a0.1 a0.2))) else (!(implMatchesSchema s_ a0.1 a0.2))) then (.ret false) else (.next ()))
def implIsValidFile_e0 (_ : Nat) (_ : Unit) : Unit := ()
def implIsValidFile (s_ : (List FieldD)) (f : FileD) : Bool := (Out.on (forL (implIsValidFile_f0 s_ f) implIsValidFile_e0 f.2.2.2.2 0 ()) (fun _ => ((implwithin f.1 1 60) && ((implisUser f.2.1) && ((implwithin f.2.2.2.1 0 60) && (implIsValidSchema s_))))))
theorem implIsValidFile_a (s_ : (List FieldD)) (f : FileD) : ACalls Try.prog 120 [.h s_, .a [.i f.1, .i f.2.1, .b f.2.2.1, .i f.2.2.2.1, .h f.2.2.2.2]] (.b (implIsValidFile s_ f)) := by
  refine acalls_of (tt := tt) tt_ok Try.func120 (fn := Try.f120) rfl (by unfold FnOk; kernel_rfl) (Nat.le_of_ble_eq_true rfl) fun w0 F0 hG => ?_
  refine awp_seq ?_
  refine rk tt_ok [(3, .p 3 0), (4, .b false)] [1] [(3, [.i f.1, .i f.2.1, .b f.2.2.1, .i f.2.2.2.1, .h f.2.2.2.2])] [] [] (o0) ?_
  refine awp_seq ?_
  refine awp_seq ?_
  refine rk tt_ok [(8, .h f.2.2.2.2), (9, .i (f.2.2.2.2.length : Int)), (10, .i 0)] [] [] [] [(2, .val (.i (f.2.2.2.2.length : Int)))] (o1 (ob_eq (av_len f.2.2.2.2))) ?_
  refine wdT 8 0 .sh f.2.2.2.2 (fun hw1 => ?_)
  have hl2 : List.length f.2.2.2.2 ≤ 1073741824 := wide_len (hw1)
  refine blk (fun (k0 : Nat) (s0 : Unit) => [(10, .i ((k0 : Nat) : Int))]) [10] (fun k0 s0 => []) [] (fun (y0 : Unit) => []) [8, 9, 10] (fun y0 => []) [] (fun (k0 : Nat) (s0 : Unit) => (forL (implIsValidFile_f0 s_ f) implIsValidFile_e0 f.2.2.2.2 0 ()) = forL (implIsValidFile_f0 s_ f) implIsValidFile_e0 (List.drop k0 f.2.2.2.2) k0 s0) (fun (y0 : Unit) => (forL (implIsValidFile_f0 s_ f) implIsValidFile_e0 f.2.2.2.2 0 ()) = .brk y0) f.2.2.2.2.length () (weak_fit (by kernel_rfl)) rfl (fun k0 s0 hk0 hI0 => ?_) (fun k0 s0 hk0 hI0 => ?_) (fun y0 hD0 => ?_)
  ·
    obtain ⟨a0, hx0⟩ := get_some (l := f.2.2.2.2) (i := k0) hk0
    refine awp_seq ?_
    refine rk tt_ok [(11, .b true)] [] [] [] [(0, .val (.b true))] (o1 (ob_eq (av_bool (decide_eq_true (p := ((k0 : Nat) : Int) < (f.2.2.2.2.length : Int)) (by omega))))) ?_
    refine awp_seq ?_
    refine ckT ?_
    refine awp_skip ?_
    refine awp_seq ?_
    refine awp_block ?_
    refine awp_seq ?_
    refine rk tt_ok [(5, .i ((k0 : Nat) : Int)), (6, .p 6 0)] [11] [(6, [.s a0.1, .i a0.2.1, .i a0.2.2.1, .s a0.2.2.2])] [] [(1, .row [.s a0.1, .i a0.2.1, .i a0.2.2.1, .s a0.2.2.2])] (o1 (ob_elem (el_of (i := ((k0 : Nat) : Int)) (by omega) rfl hx0))) ?_
    refine awp_seq ?_
    refine jn [(37, .b (bif decide (((k0 : Nat) : Int) > (0 : Int)) then ((!(Op.bytesLess ((nth f.2.2.2.2 (Int.toNat (((k0 : Nat) : Int) - 1))).1).toList a0.1.toList)) || (!(implMatchesSchema s_ a0.1 a0.2))) else (!(implMatchesSchema s_ a0.1 a0.2))))] [5, 6] [] [6] (decide (((k0 : Nat) : Int) > (0 : Int))) (fun h3 => ?_) (fun h3 => ?_) ?_
    ·
      have h3d := of_decide_eq_true h3
      refine awp_split (!(Op.bytesLess ((nth f.2.2.2.2 (Int.toNat (((k0 : Nat) : Int) - 1))).1).toList a0.1.toList)) (fun h4 => ?_) (fun h4 => ?_)
      ·
        have h4n : (Op.bytesLess ((nth f.2.2.2.2 (Int.toNat (((k0 : Nat) : Int) - 1))).1).toList a0.1.toList) = false := bnot_t h4
        have hx5 : f.2.2.2.2[(Int.toNat (((k0 : Nat) : Int) - 1))]? = some (nth f.2.2.2.2 (Int.toNat (((k0 : Nat) : Int) - 1))) := nth_get (by omega)
        refine rd' tt_ok tt_mx [(37, .b true)] [5, 6] [] [6] [(1, .val (.b true)), (6, .val (.i (((k0 : Nat) : Int) - 1))), (7, .row [.s ((nth f.2.2.2.2 (Int.toNat (((k0 : Nat) : Int) - 1))).1), .i ((nth f.2.2.2.2 (Int.toNat (((k0 : Nat) : Int) - 1))).2.1), .i ((nth f.2.2.2.2 (Int.toNat (((k0 : Nat) : Int) - 1))).2.2.1), .s ((nth f.2.2.2.2 (Int.toNat (((k0 : Nat) : Int) - 1))).2.2.2)]), (12, .val (.b true))] (o2 (ob_eq (av_bool h3)) (o2 (ob_eq (av_i (IntWalk.i64_in (((k0 : Nat) : Int) - 1) (by omega)))) (o2 (ob_elem (el_of (i := (((k0 : Nat) : Int) - 1)) (by omega) rfl hx5)) (o1 (ob_eq (av_bool h4)))))) ?_
        exact ⟨rfl, weak_fit (by rw [h3, h4]; first | done | kernel_rfl)⟩
      ·
        have h4n : (Op.bytesLess ((nth f.2.2.2.2 (Int.toNat (((k0 : Nat) : Int) - 1))).1).toList a0.1.toList) = true := bnot_f h4
        have hx6 : f.2.2.2.2[(Int.toNat (((k0 : Nat) : Int) - 1))]? = some (nth f.2.2.2.2 (Int.toNat (((k0 : Nat) : Int) - 1))) := nth_get (by omega)
        refine rd' tt_ok tt_mx [(37, .b (!(implMatchesSchema s_ a0.1 a0.2)))] [5, 6] [] [6] [(1, .val (.b true)), (6, .val (.i (((k0 : Nat) : Int) - 1))), (7, .row [.s ((nth f.2.2.2.2 (Int.toNat (((k0 : Nat) : Int) - 1))).1), .i ((nth f.2.2.2.2 (Int.toNat (((k0 : Nat) : Int) - 1))).2.1), .i ((nth f.2.2.2.2 (Int.toNat (((k0 : Nat) : Int) - 1))).2.2.1), .s ((nth f.2.2.2.2 (Int.toNat (((k0 : Nat) : Int) - 1))).2.2.2)]), (12, .val (.b false)), (20, .val (.b (implMatchesSchema s_ a0.1 a0.2)))] (o2 (ob_eq (av_bool h3)) (o2 (ob_eq (av_i (IntWalk.i64_in (((k0 : Nat) : Int) - 1) (by omega)))) (o2 (ob_elem (el_of (i := (((k0 : Nat) : Int) - 1)) (by omega) rfl hx6)) (o2 (ob_eq (av_bool h4)) (o1 (ob_call (implMatchesSchema_a s_ a0.1 a0.2))))))) ?_
        exact ⟨rfl, weak_fit (by rw [h3, h4]; first | done | kernel_rfl)⟩
    ·
      have h3d := of_decide_eq_false h3
      refine rd' tt_ok tt_mx [(37, .b (!(implMatchesSchema s_ a0.1 a0.2)))] [5, 6] [] [6] [(1, .val (.b false)), (20, .val (.b (implMatchesSchema s_ a0.1 a0.2)))] (o2 (ob_eq (av_bool h3)) (o1 (ob_call (implMatchesSchema_a s_ a0.1 a0.2)))) ?_
      exact ⟨rfl, weak_fit (by rw [h3]; first | done | kernel_rfl)⟩
    refine ck (bif decide (((k0 : Nat) : Int) > (0 : Int)) then ((!(Op.bytesLess ((nth f.2.2.2.2 (Int.toNat (((k0 : Nat) : Int) - 1))).1).toList a0.1.toList)) || (!(implMatchesSchema s_ a0.1 a0.2))) else (!(implMatchesSchema s_ a0.1 a0.2))) (fun h7 => ?_) (fun h7 => ?_)
    ·
      refine awp_seq ?_
      refine rk tt_ok [] [37] [] [] [] (o0) ?_
      refine awp_ret ?_
      have hr8 : (forL (implIsValidFile_f0 s_ f) implIsValidFile_e0 f.2.2.2.2 0 ()) = .ret false := forL_ret hx0 (bif_t h7 (rfl)) hI0
      exact pret [] (congrArg (fun z => (.b z : AV)) (show implIsValidFile s_ f = false from on_r hr8).symm)
    ·
      refine awp_skip ?_
      refine rk tt_ok [(10, .i ((k0 + 1 : Nat) : Int))] [10, 37] [] [] [(0, .val (.i ((k0 + 1 : Nat) : Int)))] (o1 (ob_eq (av_i (wrap_succ k0 (by omega))))) ?_
      exact Exists.intro () (And.intro (weak_fit (by kernel_rfl)) (forL_next hx0 (bif_f h7 (rfl)) hI0))
  ·
    refine awp_seq ?_
    refine rk tt_ok [(11, .b false)] [] [] [] [(0, .val (.b false))] (o1 (ob_eq (av_bool (decide_eq_false (p := ((k0 : Nat) : Int) < (f.2.2.2.2.length : Int)) (by omega))))) ?_
    refine awp_seq ?_
    refine ckF ?_
    refine awp_exit ?_
    exact Exists.intro () (And.intro (weak_fit (by kernel_rfl)) (forL_end hk0 (rfl) hI0))
  ·
    refine awp_seq ?_
    refine jn [(4, .b ((implwithin f.1 1 60) && ((implisUser f.2.1) && ((implwithin f.2.2.2.1 0 60) && (implIsValidSchema s_)))))] [0, 3, 4] [] [3] (implwithin f.1 1 60) (fun h9 => ?_) (fun h9 => ?_) ?_
    ·
      refine awp_split (implisUser f.2.1) (fun h10 => ?_) (fun h10 => ?_)
      ·
        refine awp_split (implwithin f.2.2.2.1 0 60) (fun h11 => ?_) (fun h11 => ?_)
        ·
          refine rk tt_ok [(4, .b (implIsValidSchema s_))] [0, 3, 4] [] [3] [(2, .val (.b true)), (6, .val (.b true)), (11, .val (.b true)), (15, .val (.b (implIsValidSchema s_)))] (o2 (ob_call (cb h9 (implwithin_a f.1 1 60))) (o2 (ob_call (cb h10 (implisUser_a f.2.1))) (o2 (ob_call (cb h11 (implwithin_a f.2.2.2.1 0 60))) (o1 (ob_call (implIsValidSchema_a s_)))))) ?_
          exact ⟨rfl, weak_fit (by rw [h9, h10, h11]; first | done | kernel_rfl)⟩
        ·
          refine rk tt_ok [] [0, 3] [] [3] [(2, .val (.b true)), (6, .val (.b true)), (11, .val (.b false))] (o2 (ob_call (cb h9 (implwithin_a f.1 1 60))) (o2 (ob_call (cb h10 (implisUser_a f.2.1))) (o1 (ob_call (cb h11 (implwithin_a f.2.2.2.1 0 60)))))) ?_
          exact ⟨rfl, weak_fit (by rw [h9, h10, h11]; first | done | kernel_rfl)⟩
      ·
        refine rk tt_ok [] [0, 3] [] [3] [(2, .val (.b true)), (6, .val (.b false))] (o2 (ob_call (cb h9 (implwithin_a f.1 1 60))) (o1 (ob_call (cb h10 (implisUser_a f.2.1))))) ?_
        exact ⟨rfl, weak_fit (by rw [h9, h10]; first | done | kernel_rfl)⟩
    ·
      refine rk tt_ok [] [0, 3] [] [3] [(2, .val (.b false))] (o1 (ob_call (cb h9 (implwithin_a f.1 1 60)))) ?_
      exact ⟨rfl, weak_fit (by rw [h9]; first | done | kernel_rfl)⟩
    refine awp_ret ?_
    exact pret [] (congrArg (fun z => (.b z : AV)) (show implIsValidFile s_ f = ((implwithin f.1 1 60) && ((implisUser f.2.1) && ((implwithin f.2.2.2.1 0 60) && (implIsValidSchema s_)))) from on_b hD0 (rfl)).symm)
def implIsValidStore_f0 (s_ : StoreD) (k0 : Nat) (a0 : FileD) (_ : Unit) : Rd (Bool) (Unit) (Unit) := (bif ((!(implIsValidFile s_.1 a0)) || (decide (a0.1 ≥ s_.2.2) || (decide (((k0 : Nat) : Int) > (0 : Int)) && decide ((nth s_.2.1 (Int.toNat (((k0 : Nat) : Int) - 1))).1 ≥ a0.1)))) then (.ret false) else (.next ()))
def implIsValidStore_e0 (_ : Nat) (_ : Unit) : Unit := ()
def implIsValidStore (s_ : StoreD) : Bool := (Out.on (forL (implIsValidStore_f0 s_) implIsValidStore_e0 s_.2.1 0 ()) (fun _ => ((implIsValidSchema s_.1) && (decide ((s_.2.1.length : Int) ≤ (12 : Int)) && (implwithin s_.2.2 1 61)))))
theorem implIsValidStore_a (s_ : StoreD) : ACalls Try.prog 101 [.a [.h s_.1, .h s_.2.1, .i s_.2.2]] (.b (implIsValidStore s_)) := by
  refine acalls_of (tt := tt) tt_ok Try.func101 (fn := Try.f101) rfl (by unfold FnOk; kernel_rfl) (Nat.le_of_ble_eq_true rfl) fun w0 F0 hG => ?_
  refine awp_seq ?_
  refine rk tt_ok [(1, .p 1 0), (2, .b false)] [0] [(1, [.h s_.1, .h s_.2.1, .i s_.2.2])] [] [] (o0) ?_
  refine awp_seq ?_
  refine awp_seq ?_
  refine rk tt_ok [(6, .h s_.2.1), (7, .i (s_.2.1.length : Int)), (8, .i 0)] [] [] [] [(2, .val (.i (s_.2.1.length : Int)))] (o1 (ob_eq (av_len s_.2.1))) ?_
  refine wdT 6 0 .sh s_.2.1 (fun hw1 => ?_)
  have hl2 : List.length s_.2.1 ≤ 1073741824 := wide_len (hw1)
  refine blk (fun (k0 : Nat) (s0 : Unit) => [(8, .i ((k0 : Nat) : Int))]) [8] (fun k0 s0 => []) [] (fun (y0 : Unit) => []) [6, 7, 8] (fun y0 => []) [] (fun (k0 : Nat) (s0 : Unit) => (forL (implIsValidStore_f0 s_) implIsValidStore_e0 s_.2.1 0 ()) = forL (implIsValidStore_f0 s_) implIsValidStore_e0 (List.drop k0 s_.2.1) k0 s0) (fun (y0 : Unit) => (forL (implIsValidStore_f0 s_) implIsValidStore_e0 s_.2.1 0 ()) = .brk y0) s_.2.1.length () (weak_fit (by kernel_rfl)) rfl (fun k0 s0 hk0 hI0 => ?_) (fun k0 s0 hk0 hI0 => ?_) (fun y0 hD0 => ?_)
  ·
    obtain ⟨a0, hx0⟩ := get_some (l := s_.2.1) (i := k0) hk0
    refine awp_seq ?_
    refine rk tt_ok [(9, .b true)] [] [] [] [(0, .val (.b true))] (o1 (ob_eq (av_bool (decide_eq_true (p := ((k0 : Nat) : Int) < (s_.2.1.length : Int)) (by omega))))) ?_
    refine awp_seq ?_
    refine ckT ?_
    refine awp_skip ?_
    refine awp_seq ?_
    refine awp_block ?_
    refine awp_seq ?_
    refine rk tt_ok [(3, .i ((k0 : Nat) : Int)), (4, .p 4 0)] [9] [(4, [.i a0.1, .i a0.2.1, .b a0.2.2.1, .i a0.2.2.2.1, .h a0.2.2.2.2])] [] [(1, .row [.i a0.1, .i a0.2.1, .b a0.2.2.1, .i a0.2.2.2.1, .h a0.2.2.2.2])] (o1 (ob_elem (el_of (i := ((k0 : Nat) : Int)) (by omega) rfl hx0))) ?_
    refine awp_seq ?_
    refine jn [(40, .b ((!(implIsValidFile s_.1 a0)) || (decide (a0.1 ≥ s_.2.2) || (decide (((k0 : Nat) : Int) > (0 : Int)) && decide ((nth s_.2.1 (Int.toNat (((k0 : Nat) : Int) - 1))).1 ≥ a0.1)))))] [3, 4] [] [4] (!(implIsValidFile s_.1 a0)) (fun h3 => ?_) (fun h3 => ?_) ?_
    ·
      have h3n : (implIsValidFile s_.1 a0) = false := bnot_t h3
      refine rd' tt_ok tt_mx [(40, .b true)] [3, 4] [] [4] [(3, .val (.b false)), (4, .val (.b true))] (o2 (ob_call (cb h3n (implIsValidFile_a s_.1 a0))) (o1 (ob_eq (show .b (!false) = .b true from rfl)))) ?_
      exact ⟨rfl, weak_fit (by rw [h3]; first | done | kernel_rfl)⟩
    ·
      have h3n : (implIsValidFile s_.1 a0) = true := bnot_f h3
      refine awp_split (decide (a0.1 ≥ s_.2.2)) (fun h4 => ?_) (fun h4 => ?_)
      ·
        have h4d := of_decide_eq_true h4
        refine rd' tt_ok tt_mx [(40, .b true)] [3, 4] [] [4] [(3, .val (.b true)), (4, .val (.b false)), (10, .val (.b true))] (o2 (ob_call (cb h3n (implIsValidFile_a s_.1 a0))) (o2 (ob_eq (show .b (!true) = .b false from rfl)) (o1 (ob_eq (av_bool h4))))) ?_
        exact ⟨rfl, weak_fit (by rw [h3, h4]; first | done | kernel_rfl)⟩
      ·
        have h4d := of_decide_eq_false h4
        refine awp_split (decide (((k0 : Nat) : Int) > (0 : Int))) (fun h5 => ?_) (fun h5 => ?_)
        ·
          have h5d := of_decide_eq_true h5
          have hx6 : s_.2.1[(Int.toNat (((k0 : Nat) : Int) - 1))]? = some (nth s_.2.1 (Int.toNat (((k0 : Nat) : Int) - 1))) := nth_get (by omega)
          refine rd' tt_ok tt_mx [(40, .b (decide ((nth s_.2.1 (Int.toNat (((k0 : Nat) : Int) - 1))).1 ≥ a0.1)))] [3, 4] [] [4] [(3, .val (.b true)), (4, .val (.b false)), (10, .val (.b false)), (14, .val (.b true)), (19, .val (.i (((k0 : Nat) : Int) - 1))), (20, .row [.i ((nth s_.2.1 (Int.toNat (((k0 : Nat) : Int) - 1))).1), .i ((nth s_.2.1 (Int.toNat (((k0 : Nat) : Int) - 1))).2.1), .b ((nth s_.2.1 (Int.toNat (((k0 : Nat) : Int) - 1))).2.2.1), .i ((nth s_.2.1 (Int.toNat (((k0 : Nat) : Int) - 1))).2.2.2.1), .h ((nth s_.2.1 (Int.toNat (((k0 : Nat) : Int) - 1))).2.2.2.2)])] (o2 (ob_call (cb h3n (implIsValidFile_a s_.1 a0))) (o2 (ob_eq (show .b (!true) = .b false from rfl)) (o2 (ob_eq (av_bool h4)) (o2 (ob_eq (av_bool h5)) (o2 (ob_eq (av_i (IntWalk.i64_in (((k0 : Nat) : Int) - 1) (by omega)))) (o1 (ob_elem (el_of (i := (((k0 : Nat) : Int) - 1)) (by omega) rfl hx6)))))))) ?_
          exact ⟨rfl, weak_fit (by rw [h3, h4, h5]; first | done | kernel_rfl)⟩
        ·
          have h5d := of_decide_eq_false h5
          refine rd' tt_ok tt_mx [(40, .b false)] [3, 4] [] [4] [(3, .val (.b true)), (4, .val (.b false)), (10, .val (.b false)), (14, .val (.b false))] (o2 (ob_call (cb h3n (implIsValidFile_a s_.1 a0))) (o2 (ob_eq (show .b (!true) = .b false from rfl)) (o2 (ob_eq (av_bool h4)) (o1 (ob_eq (av_bool h5)))))) ?_
          exact ⟨rfl, weak_fit (by rw [h3, h4, h5]; first | done | kernel_rfl)⟩
    refine ck ((!(implIsValidFile s_.1 a0)) || (decide (a0.1 ≥ s_.2.2) || (decide (((k0 : Nat) : Int) > (0 : Int)) && decide ((nth s_.2.1 (Int.toNat (((k0 : Nat) : Int) - 1))).1 ≥ a0.1)))) (fun h7 => ?_) (fun h7 => ?_)
    ·
      refine awp_seq ?_
      refine rk tt_ok [] [40] [] [] [] (o0) ?_
      refine awp_ret ?_
      have hr8 : (forL (implIsValidStore_f0 s_) implIsValidStore_e0 s_.2.1 0 ()) = .ret false := forL_ret hx0 (bif_t h7 (rfl)) hI0
      exact pret [] (congrArg (fun z => (.b z : AV)) (show implIsValidStore s_ = false from on_r hr8).symm)
    ·
      have h7l : ((!(implIsValidFile s_.1 a0))) = false := or_l h7
      have h7ln : (implIsValidFile s_.1 a0) = true := bnot_f h7l
      have h7r : ((decide (a0.1 ≥ s_.2.2) || (decide (((k0 : Nat) : Int) > (0 : Int)) && decide ((nth s_.2.1 (Int.toNat (((k0 : Nat) : Int) - 1))).1 ≥ a0.1)))) = false := or_r h7
      have h7rl : (decide (a0.1 ≥ s_.2.2)) = false := or_l h7r
      have h7rld := of_decide_eq_false h7rl
      have h7rr : ((decide (((k0 : Nat) : Int) > (0 : Int)) && decide ((nth s_.2.1 (Int.toNat (((k0 : Nat) : Int) - 1))).1 ≥ a0.1))) = false := or_r h7r
      refine awp_skip ?_
      refine rk tt_ok [(8, .i ((k0 + 1 : Nat) : Int))] [8, 40] [] [] [(0, .val (.i ((k0 + 1 : Nat) : Int)))] (o1 (ob_eq (av_i (wrap_succ k0 (by omega))))) ?_
      exact Exists.intro () (And.intro (weak_fit (by kernel_rfl)) (forL_next hx0 (bif_f h7 (rfl)) hI0))
  ·
    refine awp_seq ?_
    refine rk tt_ok [(9, .b false)] [] [] [] [(0, .val (.b false))] (o1 (ob_eq (av_bool (decide_eq_false (p := ((k0 : Nat) : Int) < (s_.2.1.length : Int)) (by omega))))) ?_
    refine awp_seq ?_
    refine ckF ?_
    refine awp_exit ?_
    exact Exists.intro () (And.intro (weak_fit (by kernel_rfl)) (forL_end hk0 (rfl) hI0))
  ·
    refine awp_seq ?_
    refine jn [(2, .b ((implIsValidSchema s_.1) && (decide ((s_.2.1.length : Int) ≤ (12 : Int)) && (implwithin s_.2.2 1 61))))] [1, 2] [] [1] (implIsValidSchema s_.1) (fun h9 => ?_) (fun h9 => ?_) ?_
    ·
      refine awp_split (decide ((s_.2.1.length : Int) ≤ (12 : Int))) (fun h10 => ?_) (fun h10 => ?_)
      ·
        have h10d := of_decide_eq_true h10
        refine rk tt_ok [(2, .b (implwithin s_.2.2 1 61))] [1, 2] [] [1] [(2, .val (.b true)), (6, .val (.i (s_.2.1.length : Int))), (7, .val (.b true)), (12, .val (.b (implwithin s_.2.2 1 61)))] (o2 (ob_call (cb h9 (implIsValidSchema_a s_.1))) (o2 (ob_eq (av_len s_.2.1)) (o2 (ob_eq (av_bool h10)) (o1 (ob_call (implwithin_a s_.2.2 1 61)))))) ?_
        exact ⟨rfl, weak_fit (by rw [h9, h10]; first | done | kernel_rfl)⟩
      ·
        have h10d := of_decide_eq_false h10
        refine rk tt_ok [] [1] [] [1] [(2, .val (.b true)), (6, .val (.i (s_.2.1.length : Int))), (7, .val (.b false))] (o2 (ob_call (cb h9 (implIsValidSchema_a s_.1))) (o2 (ob_eq (av_len s_.2.1)) (o1 (ob_eq (av_bool h10))))) ?_
        exact ⟨rfl, weak_fit (by rw [h9, h10]; first | done | kernel_rfl)⟩
    ·
      refine rk tt_ok [] [1] [] [1] [(2, .val (.b false))] (o1 (ob_call (cb h9 (implIsValidSchema_a s_.1)))) ?_
      exact ⟨rfl, weak_fit (by rw [h9]; first | done | kernel_rfl)⟩
    refine awp_ret ?_
    exact pret [] (congrArg (fun z => (.b z : AV)) (show implIsValidStore s_ = ((implIsValidSchema s_.1) && (decide ((s_.2.1.length : Int) ≤ (12 : Int)) && (implwithin s_.2.2 1 61))) from on_b hD0 (rfl)).symm)
def implIsStratified (d : (List DirD)) : Bool := ((implStrata d)).2
theorem implIsStratified_a (d : (List DirD)) : ACalls Try.prog 102 [.h d] (.b (implIsStratified d)) := by
  refine acalls_of (tt := tt) tt_ok Try.func102 (fn := Try.f102) rfl (by unfold FnOk; kernel_rfl) (Nat.le_of_ble_eq_true rfl) fun w0 F0 hG => ?_
  refine awp_seq ?_
  refine rk tt_ok [(2, .b false)] [] [] [] [] (o0) ?_
  refine awp_seq ?_
  refine rk tt_ok [(4, .b (((implStrata d)).2))] [0] [] [] [(1, .val (.tup [(false, [.o 0 (((implStrata d)).1)]), (false, [.b (((implStrata d)).2)])]))] (o1 (ob_call (implStrata_a d))) ?_
  refine awp_seq ?_
  refine rk tt_ok [(2, .b (((implStrata d)).2))] [2, 4] [] [] [] (o0) ?_
  refine awp_ret ?_
  exact pret [] (congrArg (fun z => (.b z : AV)) (show implIsStratified d = ((implStrata d)).2 from rfl).symm)
def implIsValidSnapshot (x : SnapshotD) : Bool := ((implIsValidStore x.1) && (implIsStratified x.2))
theorem implIsValidSnapshot_a (x : SnapshotD) : ACalls Try.prog 75 [.a [.h x.1.1, .h x.1.2.1, .i x.1.2.2, .h x.2]] (.b (implIsValidSnapshot x)) := by
  refine acalls_of (tt := tt) tt_ok Try.func75 (fn := Try.f75) rfl (by unfold FnOk; kernel_rfl) (Nat.le_of_ble_eq_true rfl) fun w0 F0 hG => ?_
  refine awp_seq ?_
  refine rk tt_ok [(1, .p 1 0), (2, .b false)] [0] [(1, [.h x.1.1, .h x.1.2.1, .i x.1.2.2, .h x.2])] [] [] (o0) ?_
  refine awp_seq ?_
  refine jn [(2, .b ((implIsValidStore x.1) && (implIsStratified x.2)))] [1, 2] [] [1] (implIsValidStore x.1) (fun h1 => ?_) (fun h1 => ?_) ?_
  ·
    refine rk tt_ok [(2, .b (implIsStratified x.2))] [1, 2] [] [1] [(2, .val (.b true)), (6, .val (.b (implIsStratified x.2)))] (o2 (ob_call (cb h1 (implIsValidStore_a x.1))) (o1 (ob_call (implIsStratified_a x.2)))) ?_
    exact ⟨rfl, weak_fit (by rw [h1]; first | done | kernel_rfl)⟩
  ·
    refine rk tt_ok [] [1] [] [1] [(2, .val (.b false))] (o1 (ob_call (cb h1 (implIsValidStore_a x.1)))) ?_
    exact ⟨rfl, weak_fit (by rw [h1]; first | done | kernel_rfl)⟩
  refine awp_ret ?_
  exact pret [] (congrArg (fun z => (.b z : AV)) (show implIsValidSnapshot x = ((implIsValidStore x.1) && (implIsStratified x.2)) from rfl).symm)
def implAreValidVersions_f0 (v : (List VersionD)) (k0 : Nat) (a0 : VersionD) (_ : Unit) : Rd (Bool) (Unit) (Unit) := (bif ((!(implwithin a0.1 1 1000000000)) || (bif decide (((k0 : Nat) : Int) > (0 : Int)) then (decide ((nth v (Int.toNat (((k0 : Nat) : Int) - 1))).1 ≥ a0.1) || ((!(implIsValidSnapshot a0.2.1)) || (!(implwithin a0.2.2 0 99)))) else ((!(implIsValidSnapshot a0.2.1)) || (!(implwithin a0.2.2 0 99))))) then (.ret false) else (.next ()))
def implAreValidVersions_e0 (_ : Nat) (_ : Unit) : Unit := ()
def implAreValidVersions (v : (List VersionD)) : Bool := (Out.on (forL (implAreValidVersions_f0 v) implAreValidVersions_e0 v 0 ()) (fun _ => decide ((v.length : Int) ≤ (6 : Int))))
theorem implAreValidVersions_a (v : (List VersionD)) : ACalls Try.prog 43 [.h v] (.b (implAreValidVersions v)) := by
  refine acalls_of (tt := tt) tt_ok Try.func43 (fn := Try.f43) rfl (by unfold FnOk; kernel_rfl) (Nat.le_of_ble_eq_true rfl) fun w0 F0 hG => ?_
  refine awp_seq ?_
  refine rk tt_ok [(2, .b false)] [] [] [] [] (o0) ?_
  refine awp_seq ?_
  refine awp_seq ?_
  refine rk tt_ok [(5, .h v), (6, .i (v.length : Int)), (7, .i 0)] [] [] [] [(1, .val (.i (v.length : Int)))] (o1 (ob_eq (av_len v))) ?_
  refine wdT 0 0 .sh v (fun hw1 => ?_)
  have hl2 : List.length v ≤ 1073741824 := wide_len (hw1)
  refine blk (fun (k0 : Nat) (s0 : Unit) => [(7, .i ((k0 : Nat) : Int))]) [7] (fun k0 s0 => []) [] (fun (y0 : Unit) => []) [5, 6, 7] (fun y0 => []) [] (fun (k0 : Nat) (s0 : Unit) => (forL (implAreValidVersions_f0 v) implAreValidVersions_e0 v 0 ()) = forL (implAreValidVersions_f0 v) implAreValidVersions_e0 (List.drop k0 v) k0 s0) (fun (y0 : Unit) => (forL (implAreValidVersions_f0 v) implAreValidVersions_e0 v 0 ()) = .brk y0) v.length () (weak_fit (by kernel_rfl)) rfl (fun k0 s0 hk0 hI0 => ?_) (fun k0 s0 hk0 hI0 => ?_) (fun y0 hD0 => ?_)
  ·
    obtain ⟨a0, hx0⟩ := get_some (l := v) (i := k0) hk0
    refine awp_seq ?_
    refine rk tt_ok [(8, .b true)] [] [] [] [(0, .val (.b true))] (o1 (ob_eq (av_bool (decide_eq_true (p := ((k0 : Nat) : Int) < (v.length : Int)) (by omega))))) ?_
    refine awp_seq ?_
    refine ckT ?_
    refine awp_skip ?_
    refine awp_seq ?_
    refine awp_block ?_
    refine awp_seq ?_
    refine rk tt_ok [(3, .i ((k0 : Nat) : Int)), (4, .p 4 0)] [8] [(4, [.i a0.1, .h a0.2.1.1.1, .h a0.2.1.1.2.1, .i a0.2.1.1.2.2, .h a0.2.1.2, .i a0.2.2])] [] [(1, .row [.i a0.1, .h a0.2.1.1.1, .h a0.2.1.1.2.1, .i a0.2.1.1.2.2, .h a0.2.1.2, .i a0.2.2])] (o1 (ob_elem (el_of (i := ((k0 : Nat) : Int)) (by omega) rfl hx0))) ?_
    refine awp_seq ?_
    refine jn [(42, .b ((!(implwithin a0.1 1 1000000000)) || (bif decide (((k0 : Nat) : Int) > (0 : Int)) then (decide ((nth v (Int.toNat (((k0 : Nat) : Int) - 1))).1 ≥ a0.1) || ((!(implIsValidSnapshot a0.2.1)) || (!(implwithin a0.2.2 0 99)))) else ((!(implIsValidSnapshot a0.2.1)) || (!(implwithin a0.2.2 0 99))))))] [3, 4] [] [4] (!(implwithin a0.1 1 1000000000)) (fun h3 => ?_) (fun h3 => ?_) ?_
    ·
      have h3n : (implwithin a0.1 1 1000000000) = false := bnot_t h3
      refine rd' tt_ok tt_mx [(42, .b true)] [3, 4] [] [4] [(2, .val (.b false)), (3, .val (.b true))] (o2 (ob_call (cb h3n (implwithin_a a0.1 1 1000000000))) (o1 (ob_eq (show .b (!false) = .b true from rfl)))) ?_
      exact ⟨rfl, weak_fit (by rw [h3]; first | done | kernel_rfl)⟩
    ·
      have h3n : (implwithin a0.1 1 1000000000) = true := bnot_f h3
      refine awp_split (decide (((k0 : Nat) : Int) > (0 : Int))) (fun h4 => ?_) (fun h4 => ?_)
      ·
        have h4d := of_decide_eq_true h4
        refine awp_split (decide ((nth v (Int.toNat (((k0 : Nat) : Int) - 1))).1 ≥ a0.1)) (fun h5 => ?_) (fun h5 => ?_)
        ·
          have h5d := of_decide_eq_true h5
          have hx6 : v[(Int.toNat (((k0 : Nat) : Int) - 1))]? = some (nth v (Int.toNat (((k0 : Nat) : Int) - 1))) := nth_get (by omega)
          refine rd' tt_ok tt_mx [(42, .b true)] [3, 4] [] [4] [(2, .val (.b true)), (3, .val (.b false)), (6, .val (.b true)), (10, .val (.i (((k0 : Nat) : Int) - 1))), (11, .row [.i ((nth v (Int.toNat (((k0 : Nat) : Int) - 1))).1), .h ((nth v (Int.toNat (((k0 : Nat) : Int) - 1))).2.1.1.1), .h ((nth v (Int.toNat (((k0 : Nat) : Int) - 1))).2.1.1.2.1), .i ((nth v (Int.toNat (((k0 : Nat) : Int) - 1))).2.1.1.2.2), .h ((nth v (Int.toNat (((k0 : Nat) : Int) - 1))).2.1.2), .i ((nth v (Int.toNat (((k0 : Nat) : Int) - 1))).2.2)]), (16, .val (.b true))] (o2 (ob_call (cb h3n (implwithin_a a0.1 1 1000000000))) (o2 (ob_eq (show .b (!true) = .b false from rfl)) (o2 (ob_eq (av_bool h4)) (o2 (ob_eq (av_i (IntWalk.i64_in (((k0 : Nat) : Int) - 1) (by omega)))) (o2 (ob_elem (el_of (i := (((k0 : Nat) : Int) - 1)) (by omega) rfl hx6)) (o1 (ob_eq (av_bool h5)))))))) ?_
          exact ⟨rfl, weak_fit (by rw [h3, h4, h5]; first | done | kernel_rfl)⟩
        ·
          have h5d := of_decide_eq_false h5
          refine awp_split (!(implIsValidSnapshot a0.2.1)) (fun h7 => ?_) (fun h7 => ?_)
          ·
            have h7n : (implIsValidSnapshot a0.2.1) = false := bnot_t h7
            have hx8 : v[(Int.toNat (((k0 : Nat) : Int) - 1))]? = some (nth v (Int.toNat (((k0 : Nat) : Int) - 1))) := nth_get (by omega)
            refine rd' tt_ok tt_mx [(42, .b true)] [3, 4] [] [4] [(2, .val (.b true)), (3, .val (.b false)), (6, .val (.b true)), (10, .val (.i (((k0 : Nat) : Int) - 1))), (11, .row [.i ((nth v (Int.toNat (((k0 : Nat) : Int) - 1))).1), .h ((nth v (Int.toNat (((k0 : Nat) : Int) - 1))).2.1.1.1), .h ((nth v (Int.toNat (((k0 : Nat) : Int) - 1))).2.1.1.2.1), .i ((nth v (Int.toNat (((k0 : Nat) : Int) - 1))).2.1.1.2.2), .h ((nth v (Int.toNat (((k0 : Nat) : Int) - 1))).2.1.2), .i ((nth v (Int.toNat (((k0 : Nat) : Int) - 1))).2.2)]), (16, .val (.b false)), (22, .val (.b false)), (23, .val (.b true))] (o2 (ob_call (cb h3n (implwithin_a a0.1 1 1000000000))) (o2 (ob_eq (show .b (!true) = .b false from rfl)) (o2 (ob_eq (av_bool h4)) (o2 (ob_eq (av_i (IntWalk.i64_in (((k0 : Nat) : Int) - 1) (by omega)))) (o2 (ob_elem (el_of (i := (((k0 : Nat) : Int) - 1)) (by omega) rfl hx8)) (o2 (ob_eq (av_bool h5)) (o2 (ob_call (cb h7n (implIsValidSnapshot_a a0.2.1))) (o1 (ob_eq (show .b (!false) = .b true from rfl)))))))))) ?_
            exact ⟨rfl, weak_fit (by rw [h3, h4, h5, h7]; first | done | kernel_rfl)⟩
          ·
            have h7n : (implIsValidSnapshot a0.2.1) = true := bnot_f h7
            have hx9 : v[(Int.toNat (((k0 : Nat) : Int) - 1))]? = some (nth v (Int.toNat (((k0 : Nat) : Int) - 1))) := nth_get (by omega)
            refine rd' tt_ok tt_mx [(42, .b (!(implwithin a0.2.2 0 99)))] [3, 4] [] [4] [(2, .val (.b true)), (3, .val (.b false)), (6, .val (.b true)), (10, .val (.i (((k0 : Nat) : Int) - 1))), (11, .row [.i ((nth v (Int.toNat (((k0 : Nat) : Int) - 1))).1), .h ((nth v (Int.toNat (((k0 : Nat) : Int) - 1))).2.1.1.1), .h ((nth v (Int.toNat (((k0 : Nat) : Int) - 1))).2.1.1.2.1), .i ((nth v (Int.toNat (((k0 : Nat) : Int) - 1))).2.1.1.2.2), .h ((nth v (Int.toNat (((k0 : Nat) : Int) - 1))).2.1.2), .i ((nth v (Int.toNat (((k0 : Nat) : Int) - 1))).2.2)]), (16, .val (.b false)), (22, .val (.b true)), (23, .val (.b false)), (28, .val (.b (implwithin a0.2.2 0 99)))] (o2 (ob_call (cb h3n (implwithin_a a0.1 1 1000000000))) (o2 (ob_eq (show .b (!true) = .b false from rfl)) (o2 (ob_eq (av_bool h4)) (o2 (ob_eq (av_i (IntWalk.i64_in (((k0 : Nat) : Int) - 1) (by omega)))) (o2 (ob_elem (el_of (i := (((k0 : Nat) : Int) - 1)) (by omega) rfl hx9)) (o2 (ob_eq (av_bool h5)) (o2 (ob_call (cb h7n (implIsValidSnapshot_a a0.2.1))) (o2 (ob_eq (show .b (!true) = .b false from rfl)) (o1 (ob_call (implwithin_a a0.2.2 0 99))))))))))) ?_
            exact ⟨rfl, weak_fit (by rw [h3, h4, h5, h7]; first | done | kernel_rfl)⟩
      ·
        have h4d := of_decide_eq_false h4
        refine awp_split (!(implIsValidSnapshot a0.2.1)) (fun h10 => ?_) (fun h10 => ?_)
        ·
          have h10n : (implIsValidSnapshot a0.2.1) = false := bnot_t h10
          refine rd' tt_ok tt_mx [(42, .b true)] [3, 4] [] [4] [(2, .val (.b true)), (3, .val (.b false)), (6, .val (.b false)), (22, .val (.b false)), (23, .val (.b true))] (o2 (ob_call (cb h3n (implwithin_a a0.1 1 1000000000))) (o2 (ob_eq (show .b (!true) = .b false from rfl)) (o2 (ob_eq (av_bool h4)) (o2 (ob_call (cb h10n (implIsValidSnapshot_a a0.2.1))) (o1 (ob_eq (show .b (!false) = .b true from rfl))))))) ?_
          exact ⟨rfl, weak_fit (by rw [h3, h4, h10]; first | done | kernel_rfl)⟩
        ·
          have h10n : (implIsValidSnapshot a0.2.1) = true := bnot_f h10
          refine rd' tt_ok tt_mx [(42, .b (!(implwithin a0.2.2 0 99)))] [3, 4] [] [4] [(2, .val (.b true)), (3, .val (.b false)), (6, .val (.b false)), (22, .val (.b true)), (23, .val (.b false)), (28, .val (.b (implwithin a0.2.2 0 99)))] (o2 (ob_call (cb h3n (implwithin_a a0.1 1 1000000000))) (o2 (ob_eq (show .b (!true) = .b false from rfl)) (o2 (ob_eq (av_bool h4)) (o2 (ob_call (cb h10n (implIsValidSnapshot_a a0.2.1))) (o2 (ob_eq (show .b (!true) = .b false from rfl)) (o1 (ob_call (implwithin_a a0.2.2 0 99)))))))) ?_
          exact ⟨rfl, weak_fit (by rw [h3, h4, h10]; first | done | kernel_rfl)⟩
    refine ck ((!(implwithin a0.1 1 1000000000)) || (bif decide (((k0 : Nat) : Int) > (0 : Int)) then (decide ((nth v (Int.toNat (((k0 : Nat) : Int) - 1))).1 ≥ a0.1) || ((!(implIsValidSnapshot a0.2.1)) || (!(implwithin a0.2.2 0 99)))) else ((!(implIsValidSnapshot a0.2.1)) || (!(implwithin a0.2.2 0 99))))) (fun h11 => ?_) (fun h11 => ?_)
    ·
      refine awp_seq ?_
      refine rk tt_ok [] [42] [] [] [] (o0) ?_
      refine awp_ret ?_
      have hr12 : (forL (implAreValidVersions_f0 v) implAreValidVersions_e0 v 0 ()) = .ret false := forL_ret hx0 (bif_t h11 (rfl)) hI0
      exact pret [] (congrArg (fun z => (.b z : AV)) (show implAreValidVersions v = false from on_r hr12).symm)
    ·
      have h11l : ((!(implwithin a0.1 1 1000000000))) = false := or_l h11
      have h11ln : (implwithin a0.1 1 1000000000) = true := bnot_f h11l
      have h11r : ((bif decide (((k0 : Nat) : Int) > (0 : Int)) then (decide ((nth v (Int.toNat (((k0 : Nat) : Int) - 1))).1 ≥ a0.1) || ((!(implIsValidSnapshot a0.2.1)) || (!(implwithin a0.2.2 0 99)))) else ((!(implIsValidSnapshot a0.2.1)) || (!(implwithin a0.2.2 0 99))))) = false := or_r h11
      refine awp_skip ?_
      refine rk tt_ok [(7, .i ((k0 + 1 : Nat) : Int))] [7, 42] [] [] [(0, .val (.i ((k0 + 1 : Nat) : Int)))] (o1 (ob_eq (av_i (wrap_succ k0 (by omega))))) ?_
      exact Exists.intro () (And.intro (weak_fit (by kernel_rfl)) (forL_next hx0 (bif_f h11 (rfl)) hI0))
  ·
    refine awp_seq ?_
    refine rk tt_ok [(8, .b false)] [] [] [] [(0, .val (.b false))] (o1 (ob_eq (av_bool (decide_eq_false (p := ((k0 : Nat) : Int) < (v.length : Int)) (by omega))))) ?_
    refine awp_seq ?_
    refine ckF ?_
    refine awp_exit ?_
    exact Exists.intro () (And.intro (weak_fit (by kernel_rfl)) (forL_end hk0 (rfl) hI0))
  ·
    refine awp_seq ?_
    refine rk tt_ok [(2, .b (decide ((v.length : Int) ≤ (6 : Int))))] [0, 2] [] [] [(1, .val (.i (v.length : Int)))] (o1 (ob_eq (av_len v))) ?_
    refine awp_ret ?_
    exact pret [] (congrArg (fun z => (.b z : AV)) (show implAreValidVersions v = decide ((v.length : Int) ≤ (6 : Int)) from on_b hD0 (rfl)).symm)
end Go.Proofs.Ytmbdajoapbcigaa
namespace Go.Proofs.Ytmbdajoapbcigaa
open Go.RowKit
end Go.Proofs.Ytmbdajoapbcigaa
namespace Go.Proofs.Ytmbdajoapbcigaa
open Go.RowKit
def takenJ (G : Nat → Prop) (L : List Nat) : Inj := ⟨G, fun k => if k = 63 then L else [], fun _ => 0⟩
theorem atake_of {P : Program} {tt : List (Nat × TI)} (htt : ttOk P tt = true) {f : Nat} {fn : Func} {c : Code} (hf : P.funcs[f]? = some fn) (hb : fn.body = some c) (hok : FnOk P f) {n : Nat} {l l' : List (List PV)} {args : List AV}
    (hn : args.length + 1 ≤ fn.ntmps) (hk : ∀ x, x ∈ args → ∀ c, c ∈ x.cells → c.key = none ∧ c.bkeys = []) {t : Nat} (hr : fn.results.toList = [.tmp t])
    (h : ∀ w0 F0, GoodAt P w0 → AWP P fn.ntmps w0 F0 c (fun e s => (e = .ret ∨ e = .normal) ∧ ∃ k, get s.tm t = some (.one (.slc (.own false k) n l'))) (entry (.one (.slc (.own false 63) n l) :: args))) : ATake P f n l args true false l' := by
  refine ⟨hok, fun w F G L v vals hgood hFG hGF hGs hnd hLG hrow hargs => calls_of_wp hf hb ?_⟩
  have hlen := hargs.length
  have hGF := hGF rfl
  have hL0 : (takenJ G L).L 63 = L := by show (if 63 = 63 then L else []) = L; simp
  refine wp_mono (h ⟨w, fun b => b ∈ L, none⟩ G hgood (takenJ G L) _ w ?_) ?_
  · have hLk : ∀ k b, b ∈ (takenJ G L).L k → k = 63 ∧ b ∈ L := fun k b hm => by
      have hm : b ∈ (if k = 63 then L else []) := hm
      split at hm
      · rename_i e; exact ⟨e, hm⟩
      · simp at hm
    refine { below := Base.Keeps.refl _, nodef := rfl, size := ?_, fl := fun b hb => ⟨hGs b hb, .inl hb⟩, f0 := fun b hb => hb, nd := fun k => ?_, lo := fun k b hb => ⟨.inr (hLk k b hb).2, hLG b (hLk k b hb).2⟩, dj := fun k k' b hb hb' => (hLk k b hb).1.trans (hLk k' b hb').1.symm, bo := fun k c hc => by simp [entry, get] at hc, nb := .inl rfl, cb := (fun b hb => by cases hb), bi := fun k k' c c' hc => by simp [entry, get] at hc, tm := fun t v' hv => ?_ }
    · simp; omega
    · show (if k = 63 then L else [] : List Nat).Nodup
      split
      · exact hnd
      · exact List.nodup_nil
    · obtain ⟨_, ht⟩ := get_entry hv
      have hall : All2 (AR (takenJ G L) w) (v :: vals) (.one (.slc (.own false 63) n l) :: args) := by
        refine .cons ?_ ?_
        · show OwnTop G ((takenJ G L).L 63) w v n l
          rw [hL0]
          exact OwnTop.keep hrow (fun b hb => ⟨hFG b hb, rfl⟩) fun _ _ => rfl
        · have key : ∀ {vs : List Value} {ys : List AV}, All2 (AR (argJ G) w) vs ys → (∀ x, x ∈ ys → ∀ c, c ∈ x.cells → c.key = none ∧ c.bkeys = []) → All2 (AR (takenJ G L) w) vs ys := by
            intro vs ys ha
            induction ha with
            | nil => intro _; exact .nil
            | cons h1 _ ih =>
              intro hx
              refine .cons (h1.keep fun c hc => ?_) (ih fun x hm => hx x (List.mem_cons_of_mem _ hm))
              obtain ⟨e1, e2⟩ := hx _ (List.mem_cons_self ..) c hc
              exact ⟨fun b hb => ⟨hb, rfl⟩, (fun k hk => by rw [e1] at hk; cases hk), (fun k hk => by rw [e2] at hk; simp at hk)⟩
          exact key hargs hk
      obtain ⟨u, hu, hr⟩ := hall.get' ht
      have hlt : t < (v :: vals).length := (List.getElem?_eq_some_iff.1 hu).1
      have : ((v :: vals).toArray ++ Array.replicate (fn.ntmps - (v :: vals).toArray.size) undef).getD t undef = u := by
        rw [Array.getD_eq_getD_getElem?, Array.getElem?_append_left (by simpa using hlt)]
        simp at hu ⊢
        rw [hu]; rfl
      rw [this]
      exact hr
  · rintro e a' w' ⟨J', s', hR, he, k, hkk⟩
    have hres : ∃ u, (results fn a'.tmps).run P w' = .ok u w' ∧ AR J' w' u (.one (.slc (.own false k) n l')) := by
      obtain ⟨us, hrun, hall⟩ := resOf_ok (P := P) htt hR (rs := [.tmp t]) (vs := [.one (.slc (.own false k) n l')]) (by simp [resOf, hkk])
      rw [← hr] at hrun
      have hm : (fn.results.mapM (resRun a'.tmps)).run P w' = .ok us.toArray w' := by
        rw [Array.mapM_eq_mapM_toList]
        simp [hrun]
      have hgen : (results fn a'.tmps).run P w' = .ok (if h : us.toArray.size = 1 then us.toArray[0] else .tuple us.toArray) w' := by
        rw [results_eq]
        simp only [Sem.run_bind, hm, Result.andThen_ok, Sem.run_pure]
      cases hall with
      | cons h1 h2 =>
        cases h2
        exact ⟨_, by rw [hgen]; simp, h1⟩
    obtain ⟨u, h1, h2⟩ := hres
    have hT : TRet F L w n false l' (.returned u) w' := by
      refine ⟨u, rfl, fun m hm hmL => ⟨hR.below.os, hR.below.tape, hR.below.output, hR.below.size, fun j hj => hR.below.block j (by show j < w.heap.size; omega) fun hx => by have := hmL j hx; omega⟩, fun b hb hn => hR.below.block b hb hn, J'.L k, hR.nd k, fun b hb => ?_, ?_⟩
      · obtain ⟨h3, h4, _⟩ := hR.lo k b hb
        exact ⟨h4, h3⟩
      · have h2 : OwnTop J'.F (J'.L k) w' u n l' := h2
        refine OwnTop.keep h2 (fun b hb => ⟨?_, rfl⟩) fun _ _ => rfl
        obtain ⟨h3, h4⟩ := hR.fl b hb
        rcases h4 with h4 | h4 | h4
        · exact .inl (hGF b h4)
        · exact .inr ⟨.inl h4, h3, fun hm => (hR.lo k b hm).2.2 hb⟩
        · exact .inr ⟨.inr h4, h3, fun hm => (hR.lo k b hm).2.2 hb⟩
    rcases he with rfl | rfl
    · exact ⟨hR.nodef, u, h1, hT⟩
    · exact ⟨hR.nodef, u, h1, hT⟩
end Go.Proofs.Ytmbdajoapbcigaa
namespace Go.Proofs.Ytmbdajoapbcigaa
open Go.RowKit
theorem getD_put' {a : Act} {t u : Nat} {v : Value} (ht : t < a.tmps.size) : (a.put (some t) v).tmps.getD u undef = if u = t then v else a.tmps.getD u undef := by
  simp only [Act.put, Array.getD_eq_getD_getElem?, Array.getElem?_setIfInBounds]
  by_cases h : u = t
  · subst h; simp [ht]
  · simp [h, Ne.symm h]
theorem nbeq_false {a b : Nat} : Nat.beq a b = false ↔ ¬ a = b := by
  cases h : Nat.beq a b with
  | true => simp [Nat.eq_of_beq_eq_true h]
  | false => simp; exact Nat.ne_of_beq_eq_false h
theorem put_self {a : Act} {t : Nat} {v : Value} (h : a.tmps.getD t undef = v) (ht : t < a.tmps.size) : a.put (some t) v = a := by
  have e : a.tmps.setIfInBounds t v = a.tmps := by
    apply Array.ext
    · simp
    · intro i h1 h2
      rw [Array.getElem_setIfInBounds]
      split
      · rename_i e; subst e; rw [← h, Array.getD_eq_getD_getElem?, Array.getElem?_eq_getElem ht]; rfl
      · rfl
  show ({ a with tmps := a.tmps.setIfInBounds t v } : Act) = a
  rw [e]
theorem zeros_vc : ∀ {vs : List Value} {cs : List C}, zerosOk vs cs = true → ∃ ps : List PV, ps.length = vs.length ∧ ∀ (X : Nat → Prop) (w : World), VC X w vs ps
  | [], [], _ => ⟨[], rfl, fun _ _ => .nil⟩
  | [], _ :: _, h => by simp [zerosOk] at h
  | _ :: _, [], h => by simp [zerosOk] at h
  | v :: vs, c :: cs, h => by
    simp only [zerosOk, Bool.and_eq_true] at h
    obtain ⟨ps, h1, h2⟩ := zeros_vc h.2
    have hz := h.1
    unfold zeroOk at hz
    split at hz
    · rename_i k _ _ _
      simp only [Bool.and_eq_true, decide_eq_true_eq] at hz
      obtain ⟨⟨rfl, rfl⟩, rfl⟩ := hz
      exact ⟨.int k 0 :: ps, by simp [h1], fun X w => .cons (.int (by cases k <;> simp [InR, IntKind.min, IntKind.max, IntKind.bits, IntKind.signed])) (h2 X w)⟩
    · rename_i b _
      exact ⟨.bool b :: ps, by simp [h1], fun X w => .cons (.bool b) (h2 X w)⟩
    · rename_i s _
      have hs : s.size = 0 := by simp only [Bool.and_eq_true] at hz; exact Nat.eq_of_beq_eq_true hz.1
      exact ⟨.str s :: ps, by simp [h1], fun X w => .cons (.str (by rw [hs]; exact Nat.zero_le _)) (h2 X w)⟩
    · rename_i n
      exact ⟨.slc n [] :: ps, by simp [h1], fun X w => .cons (.emp none n (Nat.zero_le _)) (h2 X w)⟩
    · cases hz
theorem vr_zeros {X : Nat → Prop} {w : World} {n : Nat} {vs : List Value} {ps : List PV} (h : VC X w vs ps) (hn : ps.length = n) : ∀ m, VR X w n (List.replicate m vs).flatten (List.replicate m ps)
  | 0 => .nil n
  | m + 1 => by
    rw [List.replicate_succ, List.replicate_succ, List.flatten_cons]
    exact .cons h hn (vr_zeros h hn m)
theorem zero_cells {z : Array Value} {m : Nat} : (Builtin.zeroCells z m).toList = (List.replicate m z.toList).flatten := by
  have key : ∀ (l : List Value) (m : Nat), (List.range (m * l.length)).map (fun i => l[i % l.length]!) = (List.replicate m l).flatten := by
    intro l m
    induction m with
    | zero => simp
    | succ m ih =>
      rw [Nat.succ_mul, List.range_add, List.map_append, ih, List.replicate_succ', List.flatten_append]
      congr 1
      simp only [List.map_map, List.flatten_cons, List.flatten_nil, List.append_nil]
      apply List.ext_getElem
      · simp
      · intro i h1 h2
        simp only [List.length_map, List.length_range] at h1
        simp [Nat.mul_add_mod_self_right, Nat.mod_eq_of_lt h1, h2]
  rw [← key z.toList m]
  unfold Builtin.zeroCells
  rw [Array.toList_map, Array.toList_range]
  apply List.map_congr_left
  intro i _
  simp only [Array.length_toList, getElem!_def, Array.getElem?_toList]
theorem zero_one {vs : List Value} {cs : List C} (h : zerosOk vs cs = true) : ∀ v, v ∈ vs → v.oneCell' = true := by
  induction vs generalizing cs with
  | nil => intro v hv; simp at hv
  | cons v vs ih =>
    cases cs with
    | nil => simp [zerosOk] at h
    | cons c cs =>
      simp only [zerosOk, Bool.and_eq_true] at h
      intro u hu
      rcases List.mem_cons.1 hu with rfl | hu
      · have hz := h.1
        unfold zeroOk at hz
        split at hz <;> first | rfl | cases hz
      · exact ih h.2 u hu
section
variable {P : Program} {N : Nat} {w0 : Base} {F0 : Nat → Prop} {J : Inj} {a : Act} {w : World} {s : St} {Q : Exit → St → Prop}
theorem Rel.aside (h : Rel N w0 F0 J a w s) {d : Nat} (hd : d < N) (hn : get s.tm d = none) (v : Value) : Rel N w0 F0 J (a.put (some d) v) w s :=
  (h.pure (some d) (fun d' e => by cases e; exact hd) (.one .dead) v (fun _ => trivial)).less (fun t x hx => by
    show get (ins d _ s.tm) t = some x
    rw [get_ins, if_neg (fun e => by subst e; rw [hn] at hx; cases hx)]
    exact hx) (fun _ _ h => h)
theorem clear_run {tt : List (Nat × TI)} (htt : ttOk P tt = true) {sty ety z1 : Nat} {z2 : List C} {z3 : List LK} {ti : TI} (g1 : get tt sty = some ⟨.sli ety, z1, z2, z3⟩) (g2 : get tt ety = some ti)
    {g cap m i n : Nat} {cur : Array Value} {e : TypeId} (hn : ti.size = n) (hg : w.heap[g]? = some (.cells cur e (0, 0))) (hs : cur.size = cap * n) (hi : i < m) (hm : m ≤ cap) (ty : TypeId) :
    ∃ zs : List Value, ∃ ps : List PV, zs.length = n ∧ ps.length = n ∧ (∀ (X : Nat → Prop) (w : World), VC X w zs ps) ∧
      (Builtin.clear_ #[sty] ty #[.slice (some ⟨g, i * n, none⟩) (m - i) (cap - i)]).run P w = .ok (.tuple #[]) (w.setRow g (cur.toList.take (i * n) ++ (List.replicate (m - i) zs).flatten ++ cur.toList.drop (i * n + (m - i) * n)).toArray) := by
  obtain ⟨inf, z, hI, hsz, _, hz, hzs, hzo⟩ := (ttOk_get htt g2).info
  obtain ⟨ps, p1, p2⟩ := zeros_vc hzo
  have hu := (ttOk_get htt g1).sli
  have hzl : z.cells.toList.length = n := by simpa [hn] using hzs
  refine ⟨z.cells.toList, ps, hzl, by rw [p1, hzl], p2, ?_⟩
  obtain ⟨q, hq⟩ : ∃ q, m - i = q + 1 := ⟨m - i - 1, by omega⟩
  have hfl : ((List.replicate (m - i) z.cells.toList).flatten).length = (m - i) * n := by
    rw [List.length_flatten, List.map_replicate, hzl]; simp
  have h3 : i * n + (m - i) * n ≤ cap * n := by rw [← Nat.add_mul]; exact Nat.mul_le_mul_right n (by omega)
  have hst := run_storeCells_at P g (i * n) e ((List.replicate (m - i) z.cells.toList).flatten) 0 cur w hg (by rw [hfl, hs]; simpa using h3) (fun v hv => by
    obtain ⟨l, hl, hv⟩ := List.mem_flatten.1 hv
    rw [List.eq_of_mem_replicate hl] at hv
    exact zero_one hzo v hv)
  simp only [Nat.add_zero, hfl] at hst
  rw [hq] at hst ⊢
  simp [Builtin.clear_, run_underlying hu, zeroValue, typeInfo_run hI, hz, zero_cells, hst]
theorem awp_clear {tt : List (Nat × TI)} (htt : ttOk P tt = true) {id : Nat} {ops : Array Oper} {t0 t5 d1 d2 d3 sty ety z1 : Nat} {z2 : List C} {z3 : List LK} {ti : TI} {y1 y2 y3 y4 : TypeId} {q1 q2 q3 q4 : String} {f1 f2 f3 f4 : Array Edge}
    (hops : ops = #[⟨some d1, .move (.tmp t0), y1, q1, f1, none⟩, ⟨some d2, .move (.tmp t5), y2, q2, f2, none⟩, ⟨some d3, .slice sty (.tmp d1) (some (.tmp d2)) none none, y3, q3, f3, none⟩, ⟨none, .call { callee := .builtin .clear, args := #[.tmp d3], argTypes := #[sty] }, y4, q4, f4, none⟩])
    (hN : (Nat.blt d1 N && Nat.blt d2 N && Nat.blt d3 N && Nat.blt t0 N && !(Nat.beq d1 t0) && !(Nat.beq d1 t5) && !(Nat.beq d2 t0) && !(Nat.beq d2 t5) && !(Nat.beq d3 t0) && !(Nat.beq d3 t5) && !(Nat.beq d1 d2) && !(Nat.beq t0 t5)) = true)
    (g1 : get tt sty = some ⟨.sli ety, z1, z2, z3⟩) (g2 : get tt ety = some ti) {k n : Nat} {l : List (List PV)} (hk : get s.tm t0 = some (.one (.slc (.own false k) n l))) (hn : ti.size = n) {i : Int} (hi : get s.tm t5 = some (.one (.int .i64 i))) (h0 : 0 ≤ i) (hl : i < l.length)
    (hQ : ∀ l', l'.length = l.length → l'.take i.toNat = l.take i.toNat → Q .normal ⟨[(t0, .one (.slc (.own false (64 * t0)) n l')), (t5, .one (.int .i64 i))], []⟩) : AWP P N w0 F0 (.region id ops false) Q s := fun J a w hr => by
  simp only [Bool.and_eq_true, Nat.blt_eq, Bool.not_eq_true', nbeq_false] at hN
  obtain ⟨⟨⟨⟨⟨⟨⟨⟨⟨⟨⟨m1, m2⟩, m3⟩, m0⟩, n1⟩, n2⟩, n3⟩, n4⟩, n5⟩, n6⟩, n7⟩, n8⟩ := hN
  obtain ⟨j, rfl⟩ : ∃ j : Nat, i = (j : Int) := ⟨i.toNat, by omega⟩
  have hj : j < l.length := by omega
  have e0 : CR J w (a.tmps.getD t0 undef) (.slc (.own false k) n l) := hr.tm t0 _ hk
  have e5 : CR J w (a.tmps.getD t5 undef) (.int .i64 (j : Int)) := hr.tm t5 _ hi
  obtain ⟨e5, _⟩ := e5
  rcases (show OwnTop J.F (J.L k) w _ n l from e0) with ⟨e, _⟩ | ⟨g, cap, cur, e, hL, e0, hg, hs, hvr, hlc, hcap⟩
  · rw [e] at hj; simp at hj
  obtain ⟨zs, ps, hzl, hpl, hzv, hrun⟩ := clear_run (P := P) (w := w) htt g1 g2 hn hg hs hj hlc y4
  have hu := (ttOk_get htt g1).sli
  have hsz := sizeOf_run (P := P) (ttOk_get htt g2) w
  rw [hn] at hsz
  have hr5 : Rel N w0 F0 J a w ⟨[(t5, .one (.int .i64 (j : Int)))], []⟩ := hr.less (fun t v hv => by
    simp only [get] at hv
    split at hv
    · rename_i e; subst e; rw [hi]; exact hv
    · cases hv) (fun k c hc => by cases hc)
  have no : ∀ d, ¬ d = t5 → get (⟨[(t5, .one (.int .i64 (j : Int)))], []⟩ : St).tm d = none := fun d hd => by
    show (if t5 = d then _ else _) = none
    rw [if_neg (fun e => hd e.symm)]; rfl
  have s0 := hr.size
  have hr1 := (hr5.aside m1 (no _ n2) (.slice (some ⟨g, 0, none⟩) l.length cap)).aside m2 (no _ n4) (.int .i64 (j : Int))
  have hr3 := hr1.aside m3 (no _ n6) (.slice (some ⟨g, 0 + j * n, none⟩) (l.length - j) (cap - j))
  subst hops
  refine wp_region ?_
  show wpOps P _ (QX N w0 F0 Q) [0, 1, 2, 3] a w
  rw [wpOps_cons]; unfold wpOp
  simp only [List.getElem?_toArray, List.getElem?_cons_zero]
  rw [if_pos (by simp [Region.wanted])]
  refine .inl (wp_of_run (v := .slice (some ⟨g, 0, none⟩) l.length cap) (w' := w) (by simp [execOp, e0, Act.eval]) ?_)
  rw [wpOps_cons]; unfold wpOp
  simp only [List.getElem?_toArray, List.getElem?_cons_succ, List.getElem?_cons_zero]
  rw [if_pos (by simp [Region.wanted])]
  have e5' : (a.put (some d1) (.slice (some ⟨g, 0, none⟩) l.length cap)).tmps.getD t5 undef = .int .i64 (j : Int) := (getD_put' (by omega)).trans ((if_neg (fun e => n2 e.symm)).trans e5)
  refine .inl (wp_of_run (v := .int .i64 (j : Int)) (w' := w) (by simp [execOp, e5', Act.eval]) ?_)
  rw [wpOps_cons]; unfold wpOp
  simp only [List.getElem?_toArray, List.getElem?_cons_succ, List.getElem?_cons_zero]
  rw [if_pos (by simp [Region.wanted])]
  have hs1 : (a.put (some d1) (.slice (some ⟨g, 0, none⟩) l.length cap)).tmps.size = N := by simp [Act.put, s0]
  have ea : ((a.put (some d1) (.slice (some ⟨g, 0, none⟩) l.length cap)).put (some d2) (.int .i64 (j : Int))).eval (.tmp d1) = .slice (some ⟨g, 0, none⟩) l.length cap := (getD_put' (by omega)).trans ((if_neg n7).trans ((getD_put' (by omega)).trans (if_pos rfl)))
  have eb : ((a.put (some d1) (.slice (some ⟨g, 0, none⟩) l.length cap)).put (some d2) (.int .i64 (j : Int))).eval (.tmp d2) = .int .i64 (j : Int) := (getD_put' (by omega)).trans (if_pos rfl)
  have hsb : (Instr.sliceBounds true l.length cap (some (.int .i64 (j : Int))) none none).run P w = .ok (j, l.length, cap) w := by
    have e4 : ∀ c, (Instr.sliceBound (.int .i64 (j : Int)) l.length c).run P w = .ok j w := fun c => by
      have := bound_ok (P := P) (w := w) (k := .i64) (lo := (j : Int)) (code := c) (y := l.length) (by omega) (by omega)
      simpa using this
    unfold Instr.sliceBounds
    simp only [Sem.run_bind, Sem.run_pure, Result.andThen_ok]
    simp [e4]
  refine .inl (wp_of_run (v := .slice (some ⟨g, 0 + j * n, none⟩) (l.length - j) (cap - j)) (w' := w) (by
    have hca : cap ≠ j := by omega
    simp [execOp, ea, eb, Instr.sliceAt, run_underlying hu, Instr.slice, hsb, hsz, hca, Addr.add_lit]) ?_)
  rw [wpOps_cons]; unfold wpOp
  simp only [List.getElem?_toArray, List.getElem?_cons_succ, List.getElem?_cons_zero]
  rw [if_pos (by simp [Region.wanted])]
  generalize ha2 : ((a.put (some d1) (.slice (some ⟨g, 0, none⟩) l.length cap)).put (some d2) (.int .i64 (j : Int))) = a2 at *
  have s2 : a2.tmps.size = N := hr1.size
  have ec : (a2.put (some d3) (.slice (some ⟨g, 0 + j * n, none⟩) (l.length - j) (cap - j))).eval (.tmp d3) = .slice (some ⟨g, j * n, none⟩) (l.length - j) (cap - j) := (getD_put' (by omega)).trans ((if_pos rfl).trans (by simp))
  have ec := ec
  simp only [Nat.zero_add] at ec
  refine .inl (wp_of_run (v := .tuple #[]) (w' := w.setRow g (cur.toList.take (j * n) ++ (List.replicate (l.length - j) zs).flatten ++ cur.toList.drop (j * n + (l.length - j) * n)).toArray) (by
    simp [execOp, resolve, invoke, builtin, ec, hrun]) ?_)
  generalize ha3 : a2.put (some d3) (.slice (some ⟨g, 0 + j * n, none⟩) (l.length - j) (cap - j)) = a3 at *
  show QX N w0 F0 Q .normal a3 _
  have e03 : a3.tmps.getD t0 undef = .slice (some ⟨g, 0, none⟩) l.length cap := by
    rw [← ha3]
    refine (getD_put' (by omega)).trans ((if_neg (fun e => n5 e.symm)).trans ?_)
    rw [← ha2]
    exact (getD_put' (by omega)).trans ((if_neg (fun e => n3 e.symm)).trans ((getD_put' (by omega)).trans ((if_neg (fun e => n1 e.symm)).trans e0)))
  have hgk : g ∈ J.L k := by rw [hL]; exact List.mem_cons_self
  have hgF : ¬ J.F g := (hr.lo k g hgk).2.2
  generalize hw' : w.setRow g (cur.toList.take (j * n) ++ (List.replicate (l.length - j) zs).flatten ++ cur.toList.drop (j * n + (l.length - j) * n)).toArray = w'
  have hgw : w'.heap[g]? = some (.cells (cur.toList.take (j * n) ++ (List.replicate (l.length - j) zs).flatten ++ cur.toList.drop (j * n + (l.length - j) * n)).toArray e (0, 0)) := by rw [← hw']; exact setRow_heap w g cur _ e (0, 0) hg
  have hother : ∀ b, b ≠ g → w'.heap[b]? = w.heap[b]? := fun b hb => by rw [← hw']; exact setRow_other w g b _ hb
  have hsize : w'.heap.size = w.heap.size := by rw [← hw']; simp [World.setRow]
  have hbelow : w0.Keeps w' := by
    refine hr.below.step (by rw [← hw']; rfl) (by rw [← hw']; rfl) (by rw [← hw']; rfl) (by omega) fun b _ hnl => hother b fun e => ?_
    exact hnl (e ▸ (hr.lo k g hgk).1)
  have hfl : ((List.replicate (l.length - j) zs).flatten).length = (l.length - j) * n := by
    rw [List.length_flatten, List.map_replicate, hzl]; simp
  have hsum : j * n + (l.length - j) * n = l.length * n := by rw [← Nat.add_mul]; congr 1; omega
  have hle : l.length * n ≤ cap * n := Nat.mul_le_mul_right n hlc
  have hcl : cur.toList.length = cap * n := by simpa using hs
  have hjn : j * n ≤ cap * n := Nat.mul_le_mul_right n (by omega)
  have htl : (l.take j ++ List.replicate (l.length - j) ps).length = l.length := by simp; omega
  have hown : OwnTop (takeJ J w w' (64 * t0) k [] [g]).F [g] w' (.slice (some ⟨g, 0, none⟩) l.length cap) n (l.take j ++ List.replicate (l.length - j) ps) := by
    refine .inr ⟨g, cap, _, e, rfl, by rw [htl], hgw, ?_, ?_, by rw [htl]; exact hlc, by rw [htl]; exact hcap⟩
    · simp only [List.size_toArray, List.length_append, hfl, List.length_take, List.length_drop, hcl]
      omega
    · rw [htl]
      have : ((cur.toList.take (j * n) ++ (List.replicate (l.length - j) zs).flatten ++ cur.toList.drop (j * n + (l.length - j) * n)).toArray.toList.take (l.length * n)) = cur.toList.take (j * n) ++ (List.replicate (l.length - j) zs).flatten := by
        show ((_ : List Value) ++ _ ++ _).take _ = _
        have hln : (cur.toList.take (j * n) ++ (List.replicate (l.length - j) zs).flatten).length = l.length * n := by
          simp only [List.length_append, hfl, List.length_take, hcl]; omega
        rw [List.take_append_of_le_length (by omega), List.take_of_length_le (by omega)]
      rw [this]
      refine VR.append (vr_zeros (hzv _ _) hpl _) (VR.keep (X := J.F) (w := w) (fun b hb => ⟨.inl hb, hother b fun e => hgF (e ▸ hb)⟩) ?_)
      have h3 := hvr.take j
      rwa [List.take_take, Nat.min_eq_left (by omega)] at h3
  have hR := take_step hr3 (t := t0) (k := k) (n := n) m0 (frz := []) (L' := [g]) (by simp) (w' := w') (u := .slice (some ⟨g, 0, none⟩) l.length cap) (l' := l.take j ++ List.replicate (l.length - j) ps) (d := false) hbelow (by omega) (fun b hb hn => hother b fun e => hn (e ▸ hgk)) (by simp) (fun b hb => by
    obtain rfl := List.mem_singleton.1 hb
    exact ⟨by have := (hr.lo k b hgk).2.1; omega, .inr hgk⟩) (by
      show OwnTop _ ((takeJ J w w' (64 * t0) k [] [g]).L (64 * t0)) _ _ _ _
      rw [show (takeJ J w w' (64 * t0) k [] [g]).L (64 * t0) = [g] from if_pos rfl]
      exact hown)
  rw [put_self e03 (by rw [hr3.size]; exact m0)] at hR
  refine ⟨_, _, hR.less (s' := ⟨[(t0, .one (.slc (.own false (64 * t0)) n (l.take j ++ List.replicate (l.length - j) ps))), (t5, .one (.int .i64 (j : Int)))], []⟩) (fun t v hv => ?_) (fun k c hc => by cases hc), hQ _ htl (by simp [List.take_append, List.take_take]; omega)⟩
  show get (ins t0 _ [(t5, AV.one (.int .i64 (j : Int)))]) t = some v
  rw [get_ins]
  simp only [get] at hv ⊢
  exact hv
end
end Go.Proofs.Ytmbdajoapbcigaa
namespace Go.Proofs.Ytmbdajoapbcigaa
open Go.RowKit
section
variable {P : Program}
theorem copy_run (w : World) (dT sT ty elem : TypeId) (inf : TypeInfo) (b o dLen dCap : Nat) (a : Addr) (sLen sCap : Nat) (cs : List Value) (hu : P.underlying dT = some (.slice elem)) (hi : P.info? elem = some inf)
    (hn : cs.length = Nat.min sLen dLen * inf.size) (hsrc : ∀ j v, cs[j]? = some v → w.cell? (a.add j) = some v) {cur : Array Value} {e : TypeId} (hg : w.heap[b]? = some (.cells cur e (0, 0))) (hfit : o + cs.length ≤ cur.size) (h1 : ∀ v ∈ cs, v.oneCell' = true) :
    (Builtin.copy_ #[dT, sT] ty #[.slice (some ⟨b, o, none⟩) dLen dCap, .slice (some a) sLen sCap]).run P w = .ok (goInt (Nat.min sLen dLen)) (w.setCells b o cs) := by
  have hl := run_loadCells_list (P := P) w a cs hsrc
  have hc : ∀ j, j < cs.length → (w.cell? ⟨b, o + j, none⟩).isSome = true := fun j hj => by
    have : o + j < cur.size := by omega
    simp [World.cell?, hg, this]
  have hf : ∀ j, j < cs.length → w.frozen? ⟨b, o + j, none⟩ = false := fun j hj => by simp [World.frozen?, hg]
  have hst := run_storeCells_cells (P := P) b o cs 0 w (by simpa using hc) (by simpa using hf) h1
  simp [Builtin.copy_, run_underlying hu, Builtin.lenOf, Builtin.firstCells, sizeOf, typeInfo, hi, ← hn, hl, hst]
theorem overlaps_run (w : World) (tS tR e : TypeId) (ht : P.underlying tS = some (.slice e)) (size : Nat) (hz : ∀ w, (Go.sizeOf e).run P w = .ok size w) (a b : Addr) (la ca lb cb : Nat) (hne : a.block ≠ b.block)
    {arrA : Array Value} {tA : TypeId} {frA : Nat × Nat} (hA : w.heap[a.block]? = some (.cells arrA tA frA)) {arrB : Array Value} {tB : TypeId} (hB : w.heap[b.block]? = some (.cells arrB tB (0, 0))) (hpos : 0 < arrB.size) (hposA : 0 < arrA.size) :
    (Extern.SlicesOverlaps.overlaps #[tS, tS] #[tR] #[.slice (some a) la ca, .slice (some b) lb cb]).run P w = .ok (.bool false) w := by
  have hsa : w.shape? a.block = some (tA, arrA.size) := by simp [World.shape?, hA]
  have hsb : w.shape? b.block = some (tB, arrB.size) := by simp [World.shape?, hB]
  have hfb : ∀ o, w.frozen? ⟨b.block, o, none⟩ = false := fun o => by simp [World.frozen?, hB]
  have hfb' : w.frozen? b = false := by simp [World.frozen?, hB]
  have hnb : (a.block != b.block) = true := by simpa using hne
  have hnb' : (a.block == b.block) = false := by simpa using hne
  obtain ⟨kb, hkb⟩ : ∃ kb, arrB.size = kb + 1 := ⟨arrB.size - 1, by omega⟩
  rw [hkb] at hsb
  obtain ⟨ka, hka⟩ : ∃ ka, arrA.size = ka + 1 := ⟨arrA.size - 1, by omega⟩
  rw [hka] at hsa
  change Sem.run P (α := Value) (do
    let some t := (#[tS, tS] : Array TypeId)[0]? | stuck "slices.overlaps: no parameter types"
    let .slice elem ← underlying t | stuck "slices.overlaps: slice type expected"
    let size ← sizeOf elem
    match (some a : Option Addr), (some b : Option Addr) with
    | some a, some b =>
      if la = 0 ∨ lb = 0 ∨ size = 0 then pure (Value.bool false)
      else if a.block != b.block && (← frozen a) && (← frozen b) then unsupported .addressObserved
      else do
        if a.block != b.block then do
          noView a; noView b
          if ← mayBeOne a b then return Value.bool ((← choose (.extern "sameAddr.stringBytes" 2)) == 1)
        pure (Value.bool (a.block == b.block && a.off < b.off + lb * size && b.off < a.off + la * size))
    | _, _ => pure (Value.bool false)) w = _
  by_cases h0 : la = 0 ∨ lb = 0 ∨ size = 0
  · simp [run_underlying ht, hz, h0]
  · cases hfa : w.frozen? a with
    | true => simp [run_underlying ht, hz, h0, hnb, hnb', frozen, noView, viewAt, mayBeOne, stringish, shape, Sem.run, hsa, hsb, hfa, hfb, hfb']
    | false =>
      cases hfa2 : w.frozen? { block := a.block, off := ka + 1 } with
      | true => simp [run_underlying ht, hz, h0, hnb, hnb', frozen, noView, viewAt, mayBeOne, stringish, shape, Sem.run, hsa, hsb, hfa, hfb, hfb', hfa2]
      | false => simp [run_underlying ht, hz, h0, hnb, hnb', frozen, noView, viewAt, mayBeOne, stringish, shape, Sem.run, hsa, hsb, hfa, hfb, hfb', hfa2]
structure RowAt (w : World) (n : Nat) (oa : Option Addr) (m cap : Nat) (olds : List Value) : Prop where
  len : olds.length = m * n
  row : (oa = oa ∧ m = 0 ∧ cap = 0) ∨ ∃ g cur e, oa = some ⟨g, 0, none⟩ ∧ w.heap[g]? = some (.cells cur e (0, 0)) ∧ cur.size = cap * n ∧ cur.toList.take (m * n) = olds
  le : m ≤ cap
  cap : cap ≤ maxLen
  lim : m < 1073741824
  ones : ∀ u, u ∈ olds → u.oneCell' = true
structure Turned (w w' : World) (n : Nat) (oa : Option Addr) (cap : Nat) (u : Value) (m' : Nat) (news : List Value) : Prop where
  os : w'.os = w.os
  tape : w'.tape = w.tape
  output : w'.output = w.output
  size : w.heap.size ≤ w'.heap.size
  row : ∃ g' cap' cur' e', u = .slice (some ⟨g', 0, none⟩) m' cap' ∧ w'.heap[g']? = some (.cells cur' e' (0, 0)) ∧ cur'.size = cap' * n ∧ cur'.toList.take (m' * n) = news ∧ m' ≤ cap' ∧ cap' ≤ maxLen ∧
    ((oa = some ⟨g', 0, none⟩ ∧ 0 < cap ∧ ∀ b, b ≠ g' → w'.heap[b]? = w.heap[b]?) ∨ (w.heap.size ≤ g' ∧ g' < w'.heap.size ∧ ∀ b, b < w.heap.size → w'.heap[b]? = w.heap[b]?))
def InsTo (w : World) (n i : Nat) (oa : Option Addr) (m cap : Nat) (olds vs : List Value) (e : Ending) (w' : World) : Prop :=
  ∃ u, e = .returned u ∧ Turned w w' n oa cap u (m + 1) (olds.take (i * n) ++ vs ++ olds.drop (i * n))
structure OneAt (w : World) (n : Nat) (oa : Option Addr) (cap : Nat) (vb voff : Nat) (vs : List Value) : Prop where
  len : vs.length = n
  cells : ∀ j u, vs[j]? = some u → w.cell? ⟨vb, voff + j, none⟩ = some u
  ones : ∀ u, u ∈ vs → u.oneCell' = true
  ne : ∀ g, oa = some ⟨g, 0, none⟩ → 0 < cap → vb ≠ g
theorem rowTop {F : Nat → Prop} {L : List Nat} {w : World} {v : Value} {n : Nat} {l : List (List PV)} (h : OwnTop F L w v n l) (hl : l.length < 1073741824) :
    ∃ oa cap olds, v = .slice oa l.length cap ∧ RowAt w n oa l.length cap olds ∧ VR F w n olds l ∧ (0 < cap → ∃ g, oa = some ⟨g, 0, none⟩ ∧ L = [g]) := by
  rcases h with ⟨rfl, oa, rfl⟩ | ⟨g, cap, cur, e, rfl, rfl, hg, hs, hr, h1, h2⟩
  · exact ⟨oa, 0, [], rfl, ⟨by simp, .inl ⟨rfl, rfl, rfl⟩, Nat.le_refl _, Nat.zero_le _, by simp, by simp⟩, .nil n, fun h => by omega⟩
  · exact ⟨some ⟨g, 0, none⟩, cap, _, rfl, ⟨hr.length, .inr ⟨g, cur, e, rfl, hg, hs, rfl⟩, h1, h2.1, hl, hr.ones⟩, hr, fun _ => ⟨g, rfl, rfl⟩⟩
theorem Turned.ret {F G : Nat → Prop} {L : List Nat} {w w' : World} {n : Nat} {oa : Option Addr} {cap : Nat} {u : Value} {m' : Nat} {news : List Value} (h : Turned w w' n oa cap u m' news) (hF : ∀ b, F b → b < w.heap.size ∧ b ∉ L) (hL : 0 < cap → ∃ g, oa = some ⟨g, 0, none⟩ ∧ L = [g]) (hLs : ∀ b, b ∈ L → b < w.heap.size)
    {l' : List (List PV)} (hv : VR F w n news l') (hm : l'.length = m') (hlim : m' ≤ 1073741824) : TRet F L w n false l' (.returned u) w' := by
  obtain ⟨g', cap', cur', e', rfl, hg, hs, ht, h1, h2, h3⟩ := h.row
  have hsame : ∀ b, b < w.heap.size → b ∉ L → w'.heap[b]? = w.heap[b]? := fun b hb hn => by
    rcases h3 with ⟨h3, hc, h4⟩ | ⟨_, _, h4⟩
    · obtain ⟨g, h5, rfl⟩ := hL hc
      rw [h3] at h5
      obtain rfl : g' = g := by simpa using h5
      exact h4 b fun e => hn (by simp [e])
    · exact h4 b hb
  refine ⟨_, rfl, fun m hm hmL => ⟨h.os, h.tape, h.output, h.size, fun b hb => hsame b (by omega) fun hx => by have := hmL b hx; omega⟩, hsame, [g'], by simp, fun b hb => ?_, ?_⟩
  · obtain rfl := List.mem_singleton.1 hb
    refine ⟨block_lt_of_heap hg, ?_⟩
    rcases h3 with ⟨h3, hc, _⟩ | ⟨h3, _, _⟩
    · obtain ⟨g, h5, rfl⟩ := hL hc
      rw [h3] at h5
      obtain rfl : b = g := by simpa using h5
      exact .inr (by simp)
    · exact .inl h3
  · refine .inr ⟨g', cap', cur', e', rfl, by rw [hm], hg, hs, ?_, by rw [hm]; exact h1, h2, by rw [hm]; exact hlim⟩
    rw [hm, ht]
    exact hv.keep fun b hb => ⟨.inl hb, hsame b (hF b hb).1 (hF b hb).2⟩
theorem atake_ins {f n : Nat} (hok : FnOk P f) (h0 : 0 < n)
    (hrun : ∀ w oa m cap olds i vb voff vc vs, RowAt w n oa m cap olds → OneAt w n oa cap vb voff vs → i ≤ m → Calls P f #[.slice oa m cap, .int .i64 (i : Int), .slice (some ⟨vb, voff, none⟩) 1 vc] w (InsTo w n i oa m cap olds vs))
    {l : List (List PV)} {x : List PV} {i : Int} {j : Nat} (hij : i = (j : Int)) (hj : j ≤ l.length) (hl : l.length < 1073741824) : ATake P f n l [.one (.int .i64 i), .one (.slc .sh n [x])] true false (l.take j ++ [x] ++ l.drop j) := by
  subst hij
  refine ⟨hok, fun w F G L v vals _ hFG hGF hGs hnd hLG hrow hargs => ?_⟩
  have hGF := hGF rfl
  cases hargs with
  | cons a1 ha =>
  cases ha with
  | cons a2 ha =>
  cases ha
  obtain ⟨rfl, _⟩ : _ = Value.int .i64 (j : Int) ∧ InR .i64 (j : Int) := a1
  have a2 : VV G w _ (.slc n [x]) := a2
  obtain ⟨oa, cap, olds, rfl, hR, hV, hL⟩ := rowTop hrow hl
  generalize hp : PV.slc n [x] = p at a2
  cases a2 with
  | int | bool | str => cases hp
  | emp => cases hp
  | @slc vb voff vc n' cs l1 hb hc hr h1 h2 =>
    obtain ⟨rfl, rfl⟩ : n = n' ∧ [x] = l1 := by simpa using hp
    have hcl : cs.length = n := by rw [hr.length]; simp
    have hone : OneAt w n oa cap vb voff cs := ⟨hcl, hc, hr.ones, fun g hg hcap e => by
      obtain ⟨g', h5, rfl⟩ := hL hcap
      rw [hg] at h5
      obtain rfl : g = g' := by simpa using h5
      exact (hLG g (by simp)).2 (e ▸ hb)⟩
    refine (hrun w oa l.length cap olds j vb voff vc cs hR hone hj).mono ?_
    rintro e w' ⟨u, rfl, hT⟩
    refine hT.ret (G := G) (fun b hb => ⟨hGs b (hFG b hb), fun hm => (hLG b hm).2 (hFG b hb)⟩) hL (fun b hb => (hLG b hb).1) ?_ ?_ (by omega)
    · exact VR.append (hV.drop j) (VR.append (hr.keep fun b hb => ⟨hGF b hb, rfl⟩) (hV.take j))
    · simp; omega
def DelTo (w : World) (n i : Nat) (oa : Option Addr) (m cap : Nat) (olds : List Value) (e : Ending) (w' : World) : Prop :=
  ∃ u, e = .returned u ∧ Turned w w' n oa cap u (m - 1) (olds.take (i * n) ++ olds.drop ((i + 1) * n))
theorem atake_del {f n : Nat} (hok : FnOk P f)
    (hrun : ∀ w oa m cap olds i, RowAt w n oa m cap olds → i < m → Calls P f #[.slice oa m cap, .int .i64 (i : Int), .int .i64 ((i : Int) + 1)] w (DelTo w n i oa m cap olds))
    {l : List (List PV)} {i k : Int} {j : Nat} (hij : i = (j : Int)) (hk : k = (j : Int) + 1) (hj : j < l.length) (hl : l.length < 1073741824) : ATake P f n l [.one (.int .i64 i), .one (.int .i64 k)] true false (l.take j ++ l.drop (j + 1)) := by
  subst hij
  subst hk
  refine ⟨hok, fun w F G L v vals _ hFG hGF hGs hnd hLG hrow hargs => ?_⟩
  cases hargs with
  | cons a1 ha =>
  cases ha with
  | cons a2 ha =>
  cases ha
  obtain ⟨rfl, _⟩ : _ = Value.int .i64 (j : Int) ∧ InR .i64 (j : Int) := a1
  obtain ⟨rfl, _⟩ : _ = Value.int .i64 ((j : Int) + 1) ∧ InR .i64 ((j : Int) + 1) := a2
  obtain ⟨oa, cap, olds, rfl, hR, hV, hL⟩ := rowTop hrow hl
  refine (hrun w oa l.length cap olds j hR hj).mono ?_
  rintro e w' ⟨u, rfl, hT⟩
  refine hT.ret (G := G) (fun b hb => ⟨hGs b (hFG b hb), fun hm => (hLG b hm).2 (hFG b hb)⟩) hL (fun b hb => (hLG b hb).1) ?_ ?_ (by omega)
  · exact VR.append (hV.drop (j + 1)) (hV.take j)
  · simp; omega
end
end Go.Proofs.Ytmbdajoapbcigaa
namespace Go.Proofs.Ytmbdajoapbcigaa
open Go.RowKit
section
variable {P : Program} {t e : TypeId} {ei : TI} {w : World} {oa : Option Addr} {m cap i vb voff vc : Nat} {olds vs : List Value}
theorem goIdx {i m n : Nat} (hi : i < m) : (i + 1) * n = i * n + n ∧ i * n + n ≤ m * n ∧ (m - i) * n = m * n - i * n ∧ (m + 1) * n = m * n + n := by
  have h1 : (i + 1) * n ≤ m * n := Nat.mul_le_mul_right n (by omega)
  have h2 : (i + 1) * n = i * n + n := by rw [Nat.add_mul, Nat.one_mul]
  exact ⟨h2, by omega, Nat.sub_mul .., by rw [Nat.add_mul, Nat.one_mul]⟩
theorem OneAt.block {n : Nat} (h : OneAt w n oa cap vb voff vs) (h0 : 0 < n) : vb < w.heap.size ∧ ∃ arr tA fr, w.heap[vb]? = some (.cells arr tA fr) ∧ 0 < arr.size := by
  have hl : 0 < vs.length := by rw [h.len]; exact h0
  have hc := h.cells 0 vs[0] (List.getElem?_eq_getElem hl)
  unfold World.cell? at hc
  split at hc
  · rename_i arr tA fr hh
    refine ⟨block_lt_of_heap hh, arr, tA, fr, hh, ?_⟩
    have hc : arr[voff + 0]? = some vs[0] := by simpa using hc
    have := (Array.getElem?_eq_some_iff.1 hc).1
    omega
  · cases hc
theorem wpList_copy_rn {w : World} {ops : Array Oper} {rest : List Oper} {o : Oper} {a : Act} {Q : Exit → Act → World → Prop} (hgd : o.guard = none) (d s : Operand) (t t' : TypeId)
    (ho : o.op = .call { callee := .builtin .copy, args := #[d, s], argTypes := #[t, t'] }) (v u : Value) (hd : a.eval d = v) (hs : a.eval s = u) {v' : Value} {w' : World}
    (hr : (Builtin.copy_ #[t, t'] o.type #[v, u]).run P w = .ok v' w') (h : wpList P ops Q rest (a.put o.dst v') w') : wpList P ops Q (o :: rest) a w :=
  wpList_plain hgd fun K hK => by
    unfold Oper.wp execOp
    simp only [ho, resolve, invoke, builtin, Sem.run_bind, Sem.run_pure, Result.andThen_ok, List.map_toArray, List.map_cons, List.map_nil, hd, hs, hr]
    exact hK _ _ h
theorem step_copy_rn {w : World} {ops : Array Oper} {o : Oper} {a : Act} {K : Act → World → Prop} {Q : Exit → Act → World → Prop} {E : Prop}
    (hg : o.guard = none) (d x : Operand) (dT sT : TypeId) (hop : o.op = .call { callee := .builtin .copy, args := #[d, x], argTypes := #[dT, sT] })
    (v u : Value) (hd : a.eval d = v) (hx : a.eval x = u) {v' : Value} {w' : World} (hr : (Builtin.copy_ #[dT, sT] o.type #[v, u]).run P w = .ok v' w') (hK : K (a.put o.dst v') w') :
    if Region.wanted o (yielded ops a.tmps) = true then Oper.wp P o a w K Q else E := by
  rw [if_pos (by simp [Region.wanted, hg])]
  unfold Oper.wp execOp
  simp only [hop, resolve, invoke, builtin, Sem.run_bind, Sem.run_pure, Result.andThen_ok, List.map_toArray, List.map_cons, List.map_nil, hd, hx, hr]
  exact hK
theorem heap_drew_setCells (g : Nat) : ∀ (vs : List Value) (o : Nat) (w : World), (w.drew.setCells g o vs).heap = (w.setCells g o vs).heap
  | [], _, _ => rfl
  | v :: vs, o, w => heap_drew_setCells g vs (o + 1) (w.setCell ⟨g, o, none⟩ v)
theorem src_one (hu : P.underlying t = some (.slice e)) (hO : OneAt w ei.size oa cap vb voff vs) : Src P ei.size t (.slice (some ⟨vb, voff, none⟩) 1 vc) 1 vs w :=
  Src.ofSlice w hu _ _ _ _ (by rw [hO.len]; omega) (fun j u hj => by rw [Addr.add_lit]; exact hO.cells j u hj) hO.ones
theorem road_end (hu : P.underlying t = some (.slice e)) (hei : TiOk P e ei) (hn : 0 < ei.size) (hR : RowAt w ei.size oa m cap olds) (hO : OneAt w ei.size oa cap vb voff vs) :
    ∃ u w', (∀ ty, (Builtin.append_ #[t, t] ty #[.slice oa m cap, .slice (some ⟨vb, voff, none⟩) 1 vc]).run P w = .ok u w') ∧ InsTo w ei.size m oa m cap olds vs (.returned u) w' := by
  have hold : ∀ ad, oa = some ad → ∀ (j : Nat) (u : Value), olds[j]? = some u → w.cell? (ad.add j) = some u := fun ad had j u hj => by
    rcases hR.row with ⟨_, h0, _⟩ | ⟨g, cur, e0, h1, h2, h3, h4⟩
    · have := hR.len
      rw [h0, Nat.zero_mul] at this
      rw [List.length_eq_zero_iff.1 this] at hj
      simp at hj
    · rw [had] at h1
      obtain rfl := Option.some.inj h1
      rw [← h4] at hj
      exact row_reads h2 _ j u hj
  obtain ⟨g', cap', cur', e', w', hr, h1, h2, h3, h4, h5, h6, h7, h8, h9, h10⟩ := append_run (ty := 0) hu hei hn hR.len hold (fun h => by
      rcases hR.row with ⟨_, h0, _⟩ | ⟨g, cur, e0, h1, _⟩
      · exact h0
      · rw [h] at h1; cases h1) (hR.row.imp (fun h => h.2.2) fun h => h) hR.le (src_one (vc := vc) hu hO) (by have := hR.lim; omega) (fun _ => by omega) hR.cap
  refine ⟨_, w', fun ty => hr, _, rfl, ⟨h6, h7, h8, h9, g', cap', cur', e', rfl, h1, h2, ?_, h4, h5, ?_⟩⟩
  · rw [h3, List.take_of_length_le (by rw [hR.len]; omega), List.drop_of_length_le (by rw [hR.len]; omega), List.append_nil]
  · exact h10.imp (fun ⟨cur, e0, h1, h2, h3, h4⟩ => ⟨h1, by omega, h4⟩) fun ⟨h1, h2, h3⟩ => ⟨by omega, h2, h3⟩
variable {g : Nat} {cur : Array Value} {e0 : TypeId}
theorem olds_cell (hg : w.heap[g]? = some (.cells cur e0 (0, 0))) (htk : cur.toList.take (m * ei.size) = olds) {k : Nat} : ∀ (j : Nat) (u : Value), (olds.drop k)[j]? = some u → w.cell? ((⟨g, k, none⟩ : Addr).add j) = some u := fun j u hj => by
  rw [List.getElem?_drop, ← htk] at hj
  have := row_reads hg _ _ u hj
  rw [Addr.add_lit, Nat.zero_add] at this
  rw [Addr.add_lit]
  exact this
theorem heap_os_setCells (g : Nat) : ∀ (vs : List Value) (o : Nat) (w : World), (w.setCells g o vs).os = w.os ∧ (w.setCells g o vs).tape = w.tape ∧ (w.setCells g o vs).output = w.output
  | [], _, _ => ⟨rfl, rfl, rfl⟩
  | v :: vs, o, w => heap_os_setCells g vs (o + 1) (w.setCell ⟨g, o, none⟩ v)
theorem road_room (hu : P.underlying t = some (.slice e)) (hei : TiOk P e ei) (hn : 0 < ei.size) (hg : w.heap[g]? = some (.cells cur e0 (0, 0))) (hcs : cur.size = cap * ei.size) (htk : cur.toList.take (m * ei.size) = olds)
    (hR : RowAt w ei.size (some ⟨g, 0, none⟩) m cap olds) (hO : OneAt w ei.size (some ⟨g, 0, none⟩) cap vb voff vs) (hi : i < m) (hroom : m + 1 ≤ cap) :
    (∀ ty dc sc, (Builtin.copy_ #[t, t] ty #[.slice (some ⟨g, (i + 1) * ei.size, none⟩) (m + 1 - (i + 1)) dc, .slice (some ⟨g, i * ei.size, none⟩) (m + 1 - i) sc]).run P w = .ok (goInt (Nat.min (m + 1 - i) (m + 1 - (i + 1)))) (w.setCells g ((i + 1) * ei.size) (olds.drop (i * ei.size)))) ∧
    (∀ W : World, W.heap = (w.setCells g ((i + 1) * ei.size) (olds.drop (i * ei.size))).heap → ∀ ty dc, (Builtin.copy_ #[t, t] ty #[.slice (some ⟨g, i * ei.size, none⟩) (m + 1 - i) dc, .slice (some ⟨vb, voff, none⟩) 1 vc]).run P W = .ok (goInt (Nat.min 1 (m + 1 - i))) (W.setCells g (i * ei.size) vs)) ∧
    (∀ W : World, W.heap = (w.setCells g ((i + 1) * ei.size) (olds.drop (i * ei.size))).heap → W.os = w.os → W.tape = w.tape → W.output = w.output → InsTo w ei.size i (some ⟨g, 0, none⟩) m cap olds vs (.returned (.slice (some ⟨g, 0, none⟩) (m + 1) cap)) (W.setCells g (i * ei.size) vs)) := by
  obtain ⟨inf, z, hI, hsz, _⟩ := hei.info
  obtain ⟨k1, k2, k3, k4⟩ := goIdx (n := ei.size) hi
  have k5 : m * ei.size + ei.size ≤ cap * ei.size := by rw [← k4]; exact Nat.mul_le_mul_right _ hroom
  have hdl : (olds.drop (i * ei.size)).length = (m - i) * ei.size := by rw [List.length_drop, hR.len, k3]
  have hfit1 : (i + 1) * ei.size + (olds.drop (i * ei.size)).length ≤ cur.size := by rw [hdl]; omega
  have hmin : Nat.min (m + 1 - i) (m + 1 - (i + 1)) = m - i := by simp only [Nat.min_def]; split <;> omega
  have hmin1 : Nat.min 1 (m + 1 - i) = 1 := by simp only [Nat.min_def]; split <;> omega
  have hvb : vb ≠ g := hO.ne g rfl (by omega)
  have hg1 := heap_setCells_of g (olds.drop (i * ei.size)) ((i + 1) * ei.size) w hg
  have hfit2 : i * ei.size + vs.length ≤ (putCells cur ((i + 1) * ei.size) (olds.drop (i * ei.size))).size := by rw [size_putCells, hO.len]; omega
  refine ⟨fun ty dc sc => ?_, fun W hW ty dc => ?_, fun W hW ho ht hu' => ?_⟩
  · exact copy_run w t t ty e inf g _ _ dc ⟨g, i * ei.size, none⟩ _ sc _ hu hI (by rw [hmin, hdl, hsz]) (olds_cell hg htk) hg hfit1 fun v hv => hR.ones v (List.mem_of_mem_drop hv)
  · refine copy_run W t t ty e inf g _ _ dc ⟨vb, voff, none⟩ _ vc _ hu hI (by rw [hmin1, hO.len, hsz, Nat.one_mul]) (fun j v hj => ?_) (hW ▸ hg1) hfit2 hO.ones
    rw [Addr.add_lit, World.cell?_of_block (w := w) (by rw [hW]; exact heap_setCells_ne g hvb _ _ _)]
    exact hO.cells j v hj
  · obtain ⟨p1, p2, p3⟩ := heap_os_setCells g vs (i * ei.size) W
    have hg2 := heap_setCells_of g vs (i * ei.size) W (hW ▸ hg1)
    refine ⟨_, rfl, ⟨p1.trans ho, p2.trans ht, p3.trans hu', ?_, g, cap, _, e0, rfl, hg2, by rw [size_putCells, size_putCells]; exact hcs, ?_, hroom, hR.cap, .inl ⟨rfl, by omega, fun b hb => ?_⟩⟩⟩
    · rw [size_setCells, hW, size_setCells]; exact Nat.le_refl _
    · have hci : cur.toList.take (i * ei.size) = olds.take (i * ei.size) := by
        rw [← htk, List.take_take]; congr 1; omega
      have hA : ((cur.toList.take ((i + 1) * ei.size) ++ olds.drop (i * ei.size)) ++ cur.toList.drop ((i + 1) * ei.size + (olds.drop (i * ei.size)).length)).take (i * ei.size) = olds.take (i * ei.size) := by
        have hl : (cur.toList.take ((i + 1) * ei.size)).length = (i + 1) * ei.size := by rw [List.length_take, Array.length_toList]; omega
        rw [List.append_assoc, List.take_append_of_le_length (by rw [hl]; omega), List.take_take, ← hci]; congr 1; omega
      have hB : ((cur.toList.take ((i + 1) * ei.size) ++ olds.drop (i * ei.size)) ++ cur.toList.drop ((i + 1) * ei.size + (olds.drop (i * ei.size)).length)).drop (i * ei.size + vs.length) = olds.drop (i * ei.size) ++ cur.toList.drop ((i + 1) * ei.size + (olds.drop (i * ei.size)).length) := by
        have hl : (cur.toList.take ((i + 1) * ei.size)).length = i * ei.size + vs.length := by rw [List.length_take, Array.length_toList, hO.len]; omega
        rw [List.append_assoc, ← hl, List.drop_left]
      rw [putCells_list hfit2, putCells_list hfit1, hA, hB]
      have hl3 : (olds.take (i * ei.size) ++ vs ++ olds.drop (i * ei.size)).length = (m + 1) * ei.size := by
        rw [List.length_append, List.length_append, hdl, hO.len, List.length_take, hR.len, k3]; omega
      rw [← List.append_assoc, ← hl3, List.take_left]
    · rw [heap_setCells_ne g hb, hW, heap_setCells_ne g hb]
theorem road_grow {tn : TypeId} (hu : P.underlying t = some (.slice e)) (htn : P.underlying tn = some (.int .i64)) (hei : TiOk P e ei) (hn : 0 < ei.size) (hg : w.heap[g]? = some (.cells cur e0 (0, 0))) (hcs : cur.size = cap * ei.size) (htk : cur.toList.take (m * ei.size) = olds)
    (hR : RowAt w ei.size (some ⟨g, 0, none⟩) m cap olds) (hO : OneAt w ei.size (some ⟨g, 0, none⟩) cap vb voff vs) (hvw : vb < w.heap.size) (hi : i < m) (hroom : cap < m + 1) :
    ∃ G W1, m + 1 ≤ G ∧ G ≤ maxLen ∧ (∀ ty k, k = ((m + 1 - i : Nat) : Int) → (Builtin.append_ #[t, tn] ty #[.slice (some ⟨g, 0, none⟩) i cap, .int .i64 k]).run P w = .ok (.slice (some ⟨w.heap.size, 0, none⟩) (m + 1) G) W1) ∧
    (∀ W : World, W.heap = W1.heap → ∀ ty dc, (Builtin.copy_ #[t, t] ty #[.slice (some ⟨w.heap.size, i * ei.size, none⟩) (m + 1 - i) dc, .slice (some ⟨vb, voff, none⟩) 1 vc]).run P W = .ok (goInt (Nat.min 1 (m + 1 - i))) (W.setCells w.heap.size (i * ei.size) vs)) ∧
    (∀ W : World, W.heap = (W1.setCells w.heap.size (i * ei.size) vs).heap → ∀ ty dc sc, (Builtin.copy_ #[t, t] ty #[.slice (some ⟨w.heap.size, (i + 1) * ei.size, none⟩) (m + 1 - (i + 1)) dc, .slice (some ⟨g, i * ei.size, none⟩) (m - i) sc]).run P W = .ok (goInt (Nat.min (m - i) (m + 1 - (i + 1)))) (W.setCells w.heap.size ((i + 1) * ei.size) (olds.drop (i * ei.size)))) ∧
    (∀ W : World, W.heap = (W1.setCells w.heap.size (i * ei.size) vs).heap → W.os = w.os → W.tape = w.tape → W.output = w.output → InsTo w ei.size i (some ⟨g, 0, none⟩) m cap olds vs (.returned (.slice (some ⟨w.heap.size, 0, none⟩) (m + 1) G)) (W.setCells w.heap.size ((i + 1) * ei.size) (olds.drop (i * ei.size)))) ∧
    W1.os = w.os ∧ W1.tape = w.tape ∧ W1.output = w.output := by
  obtain ⟨inf, z, hI, hsz, hby, hz, hzs, _⟩ := hei.info
  obtain ⟨k1, k2, k3, k4⟩ := goIdx (n := ei.size) hi
  have hlim := hR.lim
  have hle := hR.le
  have hgw : g < w.heap.size := block_lt_of_heap hg
  have hdl : (olds.drop (i * ei.size)).length = (m - i) * ei.size := by rw [List.length_drop, hR.len, k3]
  have htl : (olds.take (i * ei.size)).length = i * ei.size := by rw [List.length_take, hR.len]; omega
  have hmin : Nat.min (m - i) (m + 1 - (i + 1)) = m - i := by simp only [Nat.min_def]; split <;> omega
  have hmin1 : Nat.min 1 (m + 1 - i) = 1 := by simp only [Nat.min_def]; split <;> omega
  have hold : (Builtin.firstCells inf.size i (.slice (some ⟨g, 0, none⟩) i cap)).run P w.drew = .ok (olds.take (i * ei.size)).toArray w.drew := by
    refine run_firstCells_some w.drew inf.size i ⟨g, 0, none⟩ i cap _ (by rw [htl, hsz]) fun j u hj => ?_
    rw [List.getElem?_take] at hj
    split at hj
    · rw [← htk] at hj
      exact row_reads hg _ j u hj
    · cases hj
  have hik : i + (m + 1 - i) = m + 1 := by omega
  have hbytes : ((m + 1) + (m + 1) / 4 + 192) * inf.bytes ≤ 281474976710656 := Nat.le_trans (Nat.mul_le_mul (show _ ≤ 1342177472 by omega) hby) (by decide)
  have hkb : (m + 1 - i) * inf.bytes ≤ 281474976710656 := Nat.le_trans (Nat.mul_le_mul_right _ (by omega)) hbytes
  have hap : ∀ ty, (Builtin.append_ #[t, tn] ty #[.slice (some ⟨g, 0, none⟩) i cap, .int .i64 ((m + 1 - i : Nat) : Int)]).run P w = _ := fun ty =>
    Lib.run_append_grow_zeros w t tn ty e inf z .i64 .i64 hu htn hI hz (some ⟨g, 0, none⟩) i cap (olds.take (i * ei.size)) hold (m + 1 - i) (by omega) (by omega) (by omega) (by omega) hkb (by rw [hik]; exact growslice_fits_wide hroom hbytes)
  rw [hik] at hap
  obtain ⟨G, hG⟩ : ∃ G, G = grownCap w (m + 1) cap e := ⟨_, rfl⟩
  have hGn : m + 1 ≤ G := by rw [hG]; exact grownCap_ge w _ _ _
  have hGm : G ≤ maxLen := by rw [hG]; exact grownCap_le_maxLen w _ _ _ (by unfold maxLen; omega)
  rw [← hG] at hap
  obtain ⟨ROW, hROW⟩ : ∃ ROW : Array Value, ROW = (olds.take (i * ei.size)).toArray ++ Builtin.zeroCells z.cells (m + 1 - i) ++ Builtin.zeroCells z.cells (G - (m + 1)) := ⟨_, rfl⟩
  rw [← hROW] at hap
  have hRs : ROW.size = G * ei.size := by
    rw [hROW]
    simp only [Array.size_append, List.size_toArray, size_zeroCells, hzs, htl, ← Nat.add_mul]
    congr 1
    omega
  have hRt : ROW.toList.take (i * ei.size) = olds.take (i * ei.size) := by
    rw [hROW, Array.toList_append, Array.toList_append, List.append_assoc]
    show (olds.take (i * ei.size) ++ _).take _ = _
    rw [List.take_append_of_le_length (by rw [htl]; omega), List.take_of_length_le (by rw [htl]; omega)]
  have hGe : (m + 1) * ei.size ≤ G * ei.size := Nat.mul_le_mul_right _ hGn
  obtain ⟨W1, hW1⟩ : ∃ W1, W1 = w.drew.alloc (.cells ROW e) := ⟨_, rfl⟩
  rw [← hW1] at hap
  have hn1 : W1.heap[w.heap.size]? = some (.cells ROW e (0, 0)) := by rw [hW1]; exact heap_alloc_new w.drew _
  have ho1 : ∀ b, b < w.heap.size → W1.heap[b]? = w.heap[b]? := fun b hb => by rw [hW1]; exact heap_alloc_old w.drew _ hb
  have hs1 : W1.heap.size = w.heap.size + 1 := by rw [hW1]; simp
  have hfitA : i * ei.size + vs.length ≤ ROW.size := by rw [hO.len, hRs]; omega
  have hg2 := heap_setCells_of w.heap.size vs (i * ei.size) W1 hn1
  have hfitB : (i + 1) * ei.size + (olds.drop (i * ei.size)).length ≤ (putCells ROW (i * ei.size) vs).size := by rw [size_putCells, hdl, hRs]; omega
  refine ⟨G, W1, hGn, hGm, fun ty k hk => by subst hk; exact hap ty, fun W hW ty dc => ?_, fun W hW ty dc sc => ?_, fun W hW ho ht hu' => ?_, by rw [hW1]; rfl, by rw [hW1]; rfl, by rw [hW1]; rfl⟩
  · refine copy_run W t t ty e inf _ _ _ dc ⟨vb, voff, none⟩ _ vc _ hu hI (by rw [hmin1, hO.len, hsz, Nat.one_mul]) (fun j v hj => ?_) (hW ▸ hn1) hfitA hO.ones
    rw [Addr.add_lit, World.cell?_of_block (w := w) (by rw [hW]; exact ho1 _ hvw)]
    exact hO.cells j v hj
  · refine copy_run W t t ty e inf _ _ _ dc ⟨g, i * ei.size, none⟩ _ sc _ hu hI (by rw [hmin, hdl, hsz]) (fun j v hj => ?_) (hW ▸ hg2) hfitB fun v hv => hR.ones v (List.mem_of_mem_drop hv)
    have := olds_cell hg htk j v hj
    rw [Addr.add_lit] at this ⊢
    rw [World.cell?_of_block (w := w) (by rw [hW]; exact (heap_setCells_ne w.heap.size (show g ≠ w.heap.size by omega) _ _ _).trans (ho1 _ hgw))]
    exact this
  · obtain ⟨p1, p2, p3⟩ := heap_os_setCells w.heap.size (olds.drop (i * ei.size)) ((i + 1) * ei.size) W
    have hg3 := heap_setCells_of w.heap.size (olds.drop (i * ei.size)) ((i + 1) * ei.size) W (hW ▸ hg2)
    have hsz3 : (W.setCells w.heap.size ((i + 1) * ei.size) (olds.drop (i * ei.size))).heap.size = w.heap.size + 1 := by rw [size_setCells, hW, size_setCells, hs1]
    refine ⟨_, rfl, ⟨p1.trans ho, p2.trans ht, p3.trans hu', by omega, w.heap.size, G, _, e, rfl, hg3, by rw [size_putCells, size_putCells]; exact hRs, ?_, hGn, hGm, .inr ⟨Nat.le_refl _, by omega, fun b hb => ?_⟩⟩⟩
    · rw [putCells_list hfitB, putCells_list hfitA, hRt]
      have hl : (olds.take (i * ei.size) ++ vs).length = (i + 1) * ei.size := by rw [List.length_append, htl, hO.len]; omega
      rw [show ((olds.take (i * ei.size) ++ vs ++ ROW.toList.drop (i * ei.size + vs.length)).take ((i + 1) * ei.size)) = olds.take (i * ei.size) ++ vs from by rw [← hl, List.take_left]]
      have hl3 : (olds.take (i * ei.size) ++ vs ++ olds.drop (i * ei.size)).length = (m + 1) * ei.size := by
        rw [List.length_append, List.length_append, hdl, hO.len, htl, k3]; omega
      rw [← hl3, List.take_left]
    · rw [heap_setCells_ne _ (show b ≠ w.heap.size by omega), hW, heap_setCells_ne _ (show b ≠ w.heap.size by omega)]
      exact ho1 b hb
theorem road_del {sty z1 : Nat} {z2 : List C} {z3 : List LK} {tt : List (Nat × TI)} (htt : ttOk P tt = true) (g1 : get tt t = some ⟨.sli e, z1, z2, z3⟩) (g2 : get tt e = some ei) (hn : 0 < ei.size) (hg : w.heap[g]? = some (.cells cur e0 (0, 0))) (hcs : cur.size = cap * ei.size) (htk : cur.toList.take (m * ei.size) = olds)
    (hR : RowAt w ei.size (some ⟨g, 0, none⟩) m cap olds) (hi : i < m) :
    ∃ W1, (∀ ty ad, (cap = i + 1 ∨ ad = ⟨g, (i + 1) * ei.size, none⟩) → (Builtin.append_ #[t, t] ty #[.slice (some ⟨g, 0, none⟩) i cap, .slice (some ad) (m - (i + 1)) (cap - (i + 1))]).run P w = .ok (.slice (some ⟨g, 0, none⟩) (m - 1) cap) W1) ∧ W1.os = w.os ∧ W1.tape = w.tape ∧ W1.output = w.output ∧
    ∀ W : World, W.heap = W1.heap → W.os = w.os → W.tape = w.tape → W.output = w.output → ∃ W2 : World, (∀ ty, (Builtin.clear_ #[t] ty #[.slice (some ⟨g, (m - 1) * ei.size, none⟩) (m - (m - 1)) (cap - (m - 1))]).run P W = .ok (.tuple #[]) W2) ∧
      ∀ W3 : World, W3.heap = W2.heap → W3.os = W2.os → W3.tape = W2.tape → W3.output = W2.output → DelTo w ei.size i (some ⟨g, 0, none⟩) m cap olds (.returned (.slice (some ⟨g, 0, none⟩) (m - 1) cap)) W3 := by
  have hei := ttOk_get htt g2
  have hu := (ttOk_get htt g1).sli
  obtain ⟨inf, z, hI, hsz, hby, hz, hzs, _⟩ := hei.info
  obtain ⟨k1, k2, k3, k4⟩ := goIdx (n := ei.size) hi
  have hle := hR.le
  have hlim := hR.lim
  have k6 : m * ei.size ≤ cap * ei.size := Nat.mul_le_mul_right _ hle
  have k7 : (m - 1) * ei.size = m * ei.size - ei.size := by rw [Nat.sub_mul, Nat.one_mul]
  have k8 : (m - (i + 1)) * ei.size = m * ei.size - (i + 1) * ei.size := Nat.sub_mul ..
  have hdl : (olds.drop ((i + 1) * ei.size)).length = (m - (i + 1)) * ei.size := by rw [List.length_drop, hR.len, k8]
  have hfit : i * ei.size + (olds.drop ((i + 1) * ei.size)).length ≤ cur.size := by rw [hdl, hcs]; omega
  have hg1 := heap_setCells_of g (olds.drop ((i + 1) * ei.size)) (i * ei.size) w hg
  have hcs1 : (putCells cur (i * ei.size) (olds.drop ((i + 1) * ei.size))).size = cap * ei.size := by rw [size_putCells]; exact hcs
  obtain ⟨q1, q2, q3⟩ := heap_os_setCells g (olds.drop ((i + 1) * ei.size)) (i * ei.size) w
  have hlist : (putCells cur (i * ei.size) (olds.drop ((i + 1) * ei.size))).toList.take ((m - 1) * ei.size) = olds.take (i * ei.size) ++ olds.drop ((i + 1) * ei.size) := by
    have hci : cur.toList.take (i * ei.size) = olds.take (i * ei.size) := by
      rw [← htk, List.take_take]; congr 1; omega
    have hl : (olds.take (i * ei.size) ++ olds.drop ((i + 1) * ei.size)).length = (m - 1) * ei.size := by
      rw [List.length_append, hdl, List.length_take, hR.len]; omega
    rw [putCells_list hfit, hci, ← hl, List.take_left]
  refine ⟨w.setCells g (i * ei.size) (olds.drop ((i + 1) * ei.size)), fun ty ad had => ?_, q1, q2, q3, fun W hW ho ht hu' => ?_⟩
  · have hs : Src P inf.size t (.slice (some ad) (m - (i + 1)) (cap - (i + 1))) (m - (i + 1)) (olds.drop ((i + 1) * ei.size)) w := by
      refine Src.ofSlice w hu _ _ _ _ (by rw [hdl, hsz]) (fun j u hj => ?_) fun u hu => hR.ones u (List.mem_of_mem_drop hu)
      rcases had with had | rfl
      · have : (olds.drop ((i + 1) * ei.size)).length = 0 := by rw [hdl, show m - (i + 1) = 0 by omega, Nat.zero_mul]
        rw [List.length_eq_zero_iff.1 this] at hj
        simp at hj
      · exact olds_cell hg htk j u hj
    have hr := run_append_room_src (P := P) w t t ty e inf hu hI g 0 i cap _ _ _ hs (by omega) (fun j hj => by
      rw [hsz]
      have : 0 + i * ei.size + j < cur.size := by omega
      simp only [World.cell?, hg, Array.getElem?_eq_getElem this]; rfl) (fun j hj => by simp [World.frozen?, hg])
    rw [hsz, Nat.zero_add, show i + (m - (i + 1)) = m - 1 by omega] at hr
    exact hr
  · obtain ⟨zs, ps, hzl, hpl, hzv, hrun⟩ := clear_run (P := P) (w := W) (m := m) (i := m - 1) htt g1 g2 rfl (hW ▸ hg1) hcs1 (by omega) hle 0
    refine ⟨_, fun ty => hrun, fun W3 h3 o3 t3 u3 => ?_⟩
    have hgw := setRow_heap W g _ ((putCells cur (i * ei.size) (olds.drop ((i + 1) * ei.size))).toList.take ((m - 1) * ei.size) ++ (List.replicate (m - (m - 1)) zs).flatten ++ (putCells cur (i * ei.size) (olds.drop ((i + 1) * ei.size))).toList.drop ((m - 1) * ei.size + (m - (m - 1)) * ei.size)).toArray e0 (0, 0) (hW ▸ hg1)
    rw [← h3] at hgw
    have hfl : ((List.replicate (m - (m - 1)) zs).flatten).length = (m - (m - 1)) * ei.size := by
      rw [List.length_flatten, List.map_replicate, hzl]; simp
    have h5 : (m - (m - 1)) * ei.size = ei.size := by rw [show m - (m - 1) = 1 by omega, Nat.one_mul]
    refine ⟨_, rfl, ⟨o3.trans ho, t3.trans ht, u3.trans hu', ?_, g, cap, _, e0, rfl, hgw, ?_, ?_, by omega, hR.cap, .inl ⟨rfl, by omega, fun b hb => ?_⟩⟩⟩
    · rw [h3]; simp only [World.setRow, Array.size_modify]; rw [hW, size_setCells]; exact Nat.le_refl _
    · simp only [List.size_toArray, List.length_append, hfl, List.length_take, List.length_drop, Array.length_toList, hcs1]
      omega
    · show ((_ : List Value) ++ _ ++ _).take _ = _
      have hl : ((putCells cur (i * ei.size) (olds.drop ((i + 1) * ei.size))).toList.take ((m - 1) * ei.size)).length = (m - 1) * ei.size := by
        rw [List.length_take, Array.length_toList, hcs1]; omega
      rw [List.append_assoc, List.take_append_of_le_length (by rw [hl]; omega), List.take_of_length_le (by rw [hl]; omega), hlist]
    · rw [h3, setRow_other W g b _ hb, hW, heap_setCells_ne g hb]
def insAt {α : Type} (l : List α) (j : Nat) (y : α) : List α := l.take j ++ [y] ++ l.drop j
def delAt {α : Type} (l : List α) (j : Nat) : List α := l.take j ++ l.drop (j + 1)
theorem insAt_len {α : Type} {l : List α} {j : Nat} {y : α} (h : j ≤ l.length) : (insAt l j y).length = l.length + 1 := by simp [insAt]; omega
theorem delAt_len {α : Type} {l : List α} {j : Nat} (h : j < l.length) : (delAt l j).length + 1 = l.length := by simp [delAt]; omega
theorem atake_insT {α : Type} [GoE α] {f n : Nat} (hok : FnOk P f) (h0 : 0 < n)
    (hrun : ∀ w oa m cap olds i vb voff vc vs, RowAt w n oa m cap olds → OneAt w n oa cap vb voff vs → i ≤ m → Calls P f #[.slice oa m cap, .int .i64 (i : Int), .slice (some ⟨vb, voff, none⟩) 1 vc] w (InsTo w n i oa m cap olds vs))
    (l : List α) (y : α) {i : Int} (hi : 0 ≤ i) (hj : i ≤ l.length) (hl : l.length < 1073741824) : ATake P f n (eL l) [.one (.int .i64 i), .one (.slc .sh n (eL [y]))] true false (eL (insAt l i.toNat y)) := by
  have h := atake_ins hok h0 hrun (l := eL l) (x := GoE.enc y) (i := i) (j := i.toNat) (by omega) (by simp [eL]; omega) (by simpa [eL] using hl)
  rw [show eL (insAt l i.toNat y) = (eL l).take i.toNat ++ [GoE.enc y] ++ (eL l).drop i.toNat by simp [insAt, eL, List.map_take, List.map_drop]]
  exact h
theorem atake_delT {α : Type} [GoE α] {f n : Nat} (hok : FnOk P f)
    (hrun : ∀ w oa m cap olds i, RowAt w n oa m cap olds → i < m → Calls P f #[.slice oa m cap, .int .i64 (i : Int), .int .i64 ((i : Int) + 1)] w (DelTo w n i oa m cap olds))
    (l : List α) {i k : Int} (hi : 0 ≤ i) (hk : k = i + 1) (hj : i < l.length) (hl : l.length < 1073741824) : ATake P f n (eL l) [.one (.int .i64 i), .one (.int .i64 k)] true false (eL (delAt l i.toNat)) := by
  have h := atake_del hok hrun (l := eL l) (i := i) (k := k) (j := i.toNat) (by omega) (by omega) (by simp [eL]; omega) (by simpa [eL] using hl)
  rw [show eL (delAt l i.toNat) = (eL l).take i.toNat ++ (eL l).drop (i.toNat + 1) by simp [delAt, eL, List.map_take, List.map_drop]]
  exact h
end
end Go.Proofs.Ytmbdajoapbcigaa
namespace Go.Proofs.Ytmbdajoapbcigaa
open Go.RowKit
theorem atake_flat {P : Program} {f n : Nat} {l l' : List (List PV)} {args : List AV} (h : ATake P f n l args true false l') (hf : RowsLike l') : ATake P f n l args false false l' := by
  refine ⟨h.1, fun w F G L v vals hok hFG _ hGs hnd hLG hrow hargs => ?_⟩
  refine (h.2 w G G L v vals hok (fun _ h => h) (fun _ _ h => h) hGs hnd hLG (OwnTop.keep hrow (fun b hb => ⟨hFG b hb, rfl⟩) fun _ _ => rfl) hargs).mono ?_
  rintro e w' ⟨u, rfl, h1, h2, L', h3, h4, h5⟩
  refine ⟨u, rfl, h1, h2, L', h3, h4, ?_⟩
  rcases h5 with h5 | ⟨g, cap, cur, e, rfl, rfl, hg, hs, hr, h5, h6⟩
  · exact .inl h5
  · exact .inr ⟨g, cap, cur, e, rfl, rfl, hg, hs, OR.vr (VR.orr (w' := w') hr hf) fun b hb => (by simp at hb), h5, h6⟩
theorem rng_lc {n : Nat} {hi : Int} (h0 : 0 ≤ hi) (h1 : hi ≤ (n : Int)) : (0 : Int) ≤ 0 ∧ 0 ≤ hi ∧ hi ≤ (n : Int) := ⟨Int.le_refl _, h0, h1⟩
section
variable {α : Type} {p : α → Bool}
def ixF (p : α → Bool) : List α → Int
  | [] => -1
  | a :: l => bif p a then 0 else bif ixF p l == -1 then -1 else ixF p l + 1
theorem ixF_bd (p : α → Bool) : ∀ l : List α, -1 ≤ ixF p l ∧ ixF p l < l.length
  | [] => by simp [ixF]
  | a :: l => by
    have ih := ixF_bd p l
    simp only [ixF, List.length_cons]
    cases p a with
    | true => simp only [cond_true]; omega
    | false =>
      simp only [cond_false]
      cases h : (ixF p l == -1) with
      | true => simp only [cond_true]; omega
      | false => simp only [cond_false]; omega
theorem idx_go {f : Nat → α → Unit → Rd Int Unit Unit} {e : Nat → Unit → Unit} (hf : ∀ k a s, f k a s = bif p a then .ret ((k : Nat) : Int) else .next ()) : ∀ (l : List α) (k : Nat), forL f e l k () = bif ixF p l == -1 then .brk () else .ret ((k : Int) + ixF p l)
  | [], k => rfl
  | a :: l, k => by
    simp only [forL, hf, ixF]
    cases p a with
    | true => simp only [cond_true]; rw [show ((0 : Int) == -1) = false from rfl, cond_false, Int.add_zero]
    | false =>
      simp only [cond_false]
      rw [idx_go hf l (k + 1)]
      have hb := ixF_bd p l
      cases h : (ixF p l == -1) with
      | true => simp only [cond_true]; rfl
      | false =>
        have hne : ixF p l ≠ -1 := by simpa using h
        simp only [cond_false]
        rw [show (ixF p l + 1 == -1) = false by simp; omega, cond_false]
        congr 1; omega
theorem idx_eq {f : Nat → α → Unit → Rd Int Unit Unit} {e : Nat → Unit → Unit} (hf : ∀ k a s, f k a s = bif p a then .ret ((k : Nat) : Int) else .next ()) (l : List α) : Out.on (forL f e l 0 ()) (fun _ => -1) = ixF p l := by
  rw [idx_go hf]
  cases h : (ixF p l == -1) with
  | true => simp only [cond_true, Out.on]; exact (by simpa using h : ixF p l = -1).symm
  | false => simp only [cond_false, Out.on]; omega
theorem ixF_none {l : List α} (h : ixF p l = -1) : ∀ a, a ∈ l → p a = false := by
  induction l with
  | nil => intro a ha; simp at ha
  | cons b l ih =>
    intro a ha
    have hb := ixF_bd p l
    simp only [ixF] at h
    cases hp : p b with
    | true => rw [hp] at h; simp at h
    | false =>
      rw [hp] at h
      simp only [cond_false] at h
      cases h2 : (ixF p l == -1) with
      | true => rcases List.mem_cons.1 ha with rfl | ha
                · exact hp
                · exact ih (by simpa using h2) a ha
      | false => rw [h2] at h; simp only [cond_false] at h; omega
theorem ixF_some {l : List α} {i : Nat} (h : ixF p l = (i : Int)) : (l.take i).filter (fun a => !p a) = l.take i ∧ ∃ a, l[i]? = some a ∧ p a = true := by
  induction l generalizing i with
  | nil => simp [ixF] at h
  | cons b l ih =>
    have hb := ixF_bd p l
    simp only [ixF] at h
    cases hp : p b with
    | true =>
      rw [hp] at h
      simp only [cond_true] at h
      obtain rfl : i = 0 := by omega
      exact ⟨rfl, b, rfl, hp⟩
    | false =>
      rw [hp] at h
      simp only [cond_false] at h
      cases h2 : (ixF p l == -1) with
      | true => rw [h2] at h; simp only [cond_true] at h; omega
      | false =>
        rw [h2] at h
        simp only [cond_false] at h
        have : ixF p l ≠ -1 := by simpa using h2
        obtain ⟨j, rfl⟩ : ∃ j, i = j + 1 := ⟨i - 1, by omega⟩
        obtain ⟨h3, a, h4, h5⟩ := ih (i := j) (by omega)
        exact ⟨by simp [hp, h3], a, by simpa using h4, h5⟩
theorem whl_more {R S T : Type} {f : S → Rd R S T} : ∀ {n m : Nat} {s : S} {x : Out R T}, whl f n s = some x → n ≤ m → whl f m s = some x
  | 0, _, _, _, h, _ => by simp [whl] at h
  | n + 1, 0, _, _, _, hm => absurd hm (Nat.not_succ_le_zero n)
  | n + 1, m + 1, s, x, h, hm => by
    simp only [whl] at h ⊢
    cases hf : f s with
    | brk t => rw [hf] at h; exact h
    | ret r => rw [hf] at h; exact h
    | next s' => rw [hf] at h; exact whl_more h (by omega)
variable [Inhabited α]
def DelStep {R : Type} (f : List α × Int × Int → Rd R (List α × Int × Int) (List α × Int)) (p : α → Bool) : Prop :=
  ∀ (s : List α) (i j : Nat), i < j → j ≤ 1073741824 → f (s, (i : Int), (j : Int)) = bif decide ((j : Int) < (s.length : Int)) then (bif p (nth s j) then .next (s, (i : Int), ((j + 1 : Nat) : Int)) else .next (s.set i (nth s j), ((i + 1 : Nat) : Int), ((j + 1 : Nat) : Int))) else .brk (s, (i : Int))
theorem del_run {R : Type} {f : List α × Int × Int → Rd R (List α × Int × Int) (List α × Int)} (hf : DelStep f p) (o : List α) (ho : o.length ≤ 1073741824) : ∀ (n : Nat) (s : List α) (i j : Nat), j + n = o.length → i < j → s.length = o.length → s.take i = (o.take j).filter (fun a => !p a) → s.drop j = o.drop j →
    ∃ s' i', whl f (n + 1) (s, (i : Int), (j : Int)) = some (.brk (s', ((i' : Nat) : Int))) ∧ s'.take i' = o.filter (fun a => !p a) ∧ i' < o.length ∧ s'.length = o.length
  | 0, s, i, j, hn, hij, hl, ht, hd => by
    refine ⟨s, i, ?_, ?_, by omega, hl⟩
    · simp only [whl, hf s i j hij (by omega)]
      rw [decide_eq_false (by omega)]
      rfl
    · rw [ht, List.take_of_length_le (by omega)]
  | n + 1, s, i, j, hn, hij, hl, ht, hd => by
    have hj : j < s.length := by omega
    have hjo : j < o.length := by omega
    have hx : nth s j = o[j] := by
      have h1 : s[j]? = o[j]? := by
        have := congrArg (fun l => l[0]?) hd
        simpa [List.getElem?_drop] using this
      rw [List.getElem?_eq_getElem hjo] at h1
      simp [nth, List.getD, h1]
    have htj : o.take (j + 1) = o.take j ++ [o[j]] := by rw [List.take_add_one, List.getElem?_eq_getElem hjo]; rfl
    have hd1 : ∀ s2 : List α, s2.drop (j + 1) = s.drop (j + 1) → s2.drop (j + 1) = o.drop (j + 1) := fun s2 h2 => by
      have := congrArg (List.drop 1) hd
      rw [List.drop_drop, List.drop_drop] at this
      exact h2.trans this
    have hst : f (s, (i : Int), (j : Int)) = _ := hf s i j hij (by omega)
    rw [decide_eq_true (by omega), hx] at hst
    simp only [cond_true] at hst
    cases hp : p o[j] with
    | true =>
      rw [hp] at hst
      simp only [whl, hst, cond_true]
      exact del_run hf o ho n s i (j + 1) (by omega) (by omega) hl (by rw [ht, htj, List.filter_append]; simp [hp]) (hd1 s rfl)
    | false =>
      rw [hp] at hst
      simp only [whl, hst, cond_false]
      refine del_run hf o ho n (s.set i o[j]) (i + 1) (j + 1) (by omega) (by omega) (by simpa using hl) ?_ (hd1 _ (List.drop_set_of_lt (by omega)))
      rw [htj, List.filter_append, ← ht]
      rw [List.take_add_one, List.take_set_of_le (Nat.le_refl i), List.getElem?_set_self (by omega)]
      simp [hp]
theorem del_main {R : Type} {f : List α × Int × Int → Rd R (List α × Int × Int) (List α × Int)} (hf : DelStep f p) {o : List α} (ho : o.length ≤ 1073741824) {ix : Int} (hix : ix = ixF p o) (hne : ix ≠ -1) :
    ∃ s' i', whl f (o.length + 1) (o, ix, ix + 1) = some (.brk (s', ((i' : Nat) : Int))) ∧ s'.take i' = o.filter (fun a => !p a) ∧ i' < o.length ∧ s'.length = o.length := by
  have hb := ixF_bd p o
  obtain ⟨i, hi⟩ : ∃ i : Nat, ix = (i : Int) := ⟨ix.toNat, by omega⟩
  obtain ⟨h1, a, h2, h3⟩ := ixF_some (p := p) (l := o) (i := i) (by omega)
  have hio : i < o.length := by omega
  obtain ⟨s', i', h4, h5⟩ := del_run hf o ho (o.length - (i + 1)) o i (i + 1) (by omega) (by omega) rfl (by
    rw [List.take_add_one, h2, List.filter_append, h1]; simp [h3]) rfl
  refine ⟨s', i', ?_, h5⟩
  subst hi
  exact whl_more h4 (by omega)
theorem del_some {R : Type} {f : List α × Int × Int → Rd R (List α × Int × Int) (List α × Int)} (hf : DelStep f p) {o : List α} (ho : o.length ≤ 1073741824) {ix : Int} (hix : ix = ixF p o) (hne : ix ≠ -1) : (whl f (o.length + 1) (o, ix, ix + 1)).isSome = true := by
  obtain ⟨s', i', h, _⟩ := del_main hf ho hix hne
  rw [h]; rfl
theorem del_eq {f : List α × Int × Int → Rd (List α) (List α × Int × Int) (List α × Int)} (hf : DelStep f p) {o : List α} (ho : o.length ≤ 1073741824) {ix : Int} (hix : ix = ixF p o) :
    (bif (ix == (-1 : Int)) then o else Out.on (whlD f (o.length + 1) (o, ix, ix + 1)) (fun y => List.take (Int.toNat y.2) y.1)) = o.filter (fun a => !p a) := by
  cases h : (ix == (-1 : Int)) with
  | true =>
    have h : ix = -1 := by simpa using h
    simp only [cond_true]
    exact (List.filter_eq_self.2 fun a ha => by simp [ixF_none (hix ▸ h) a ha]).symm
  | false =>
    obtain ⟨s', i', h1, h2, _⟩ := del_main hf ho hix (by simpa using h)
    simp only [cond_false, whlD, h1]
    simpa [Out.on] using h2
end
open GoE (enc wide)
def implcopyFile (f : FileD) : FileD := f
theorem implcopyFile_a (f : FileD) : ACalls Try.prog 118 [.a [.i f.1, .i f.2.1, .b f.2.2.1, .i f.2.2.2.1, .h f.2.2.2.2]] (.a [.i ((implcopyFile f).1), .i ((implcopyFile f).2.1), .b ((implcopyFile f).2.2.1), .i ((implcopyFile f).2.2.2.1), .o 0 ((implcopyFile f).2.2.2.2)]) := by
  refine acalls_of (tt := tt) tt_ok Try.func118 (fn := Try.f118) rfl (by unfold FnOk; kernel_rfl) (Nat.le_of_ble_eq_true rfl) fun w0 F0 hG => ?_
  refine awp_seq ?_
  refine rk tt_ok [(1, .p 1 0), (2, .p 2 0)] [0] [(1, [.i f.1, .i f.2.1, .b f.2.2.1, .i f.2.2.2.1, .h f.2.2.2.2]), (2, [.i 0, .i 0, .b false, .i 0, .e 4])] [] [] (o0) ?_
  refine awp_seq ?_
  refine rk tt_ok [] [] [(1, [.i f.1, .i f.2.1, .b f.2.2.1, .i f.2.2.2.1, .o 320 f.2.2.2.2])] [1] [(2, .val (.o 0 f.2.2.2.2))] (o1 (ob_call (cloneAttr_a f.2.2.2.2))) ?_
  refine awp_seq ?_
  refine rk tt_ok [] [1] [(2, [.i f.1, .i f.2.1, .b f.2.2.1, .i f.2.2.2.1, .o 320 f.2.2.2.2])] [1, 2] [] (o0) ?_
  refine awp_ret ?_
  exact pret [] (congrArg (fun z => (.a [.i z.1, .i z.2.1, .b z.2.2.1, .i z.2.2.2.1, .o 0 z.2.2.2.2] : AV)) (show implcopyFile f = f from rfl).symm)
def implcopyFiles_f0 (_ : Nat) (a0 : FileD) (s0 : (List FileD)) : Rd ((List FileD)) ((List FileD)) ((List FileD)) := (.next (s0 ++ [(implcopyFile a0)]))
def implcopyFiles_e0 (_ : Nat) (s0 : (List FileD)) : (List FileD) := s0
def implcopyFiles (l : (List FileD)) : (List FileD) := (Out.on (forL implcopyFiles_f0 implcopyFiles_e0 l 0 []) (fun y0 => y0))
theorem implcopyFiles_a (l : (List FileD)) : ACalls Try.prog 99 [.h l] (.o 0 (implcopyFiles l)) := by
  refine acalls_of (tt := tt) tt_ok Try.func99 (fn := Try.f99) rfl (by unfold FnOk; kernel_rfl) (Nat.le_of_ble_eq_true rfl) fun w0 F0 hG => ?_
  refine awp_seq ?_
  refine rk tt_ok [(2, .e 0)] [] [] [] [] (o0) ?_
  refine awp_seq ?_
  refine rk tt_ok [(3, .one (.slc (.own true 384) 5 []))] [] [] [] [] (o0) ?_
  refine awp_seq ?_
  refine awp_seq ?_
  refine rk tt_ok [(7, .h l), (8, .i (l.length : Int)), (9, .i 0)] [0] [] [] [(1, .val (.i (l.length : Int)))] (o1 (ob_eq (av_len l))) ?_
  refine wdT 7 0 .sh l (fun hw1 => ?_)
  have hl2 : List.length l ≤ 1073741824 := wide_len (hw1)
  refine blk (fun (k0 : Nat) (s0 : (List FileD)) => [(3, .o 147201 s0), (9, .i ((k0 : Nat) : Int))]) [3, 9] (fun k0 s0 => []) [] (fun (y0 : (List FileD)) => [(3, .o 147351 y0)]) [3, 7, 8, 9] (fun y0 => []) [] (fun (k0 : Nat) (s0 : (List FileD)) => (forL implcopyFiles_f0 implcopyFiles_e0 l 0 []) = forL implcopyFiles_f0 implcopyFiles_e0 (List.drop k0 l) k0 s0 ∧ List.length s0 ≤ k0) (fun (y0 : (List FileD)) => (forL implcopyFiles_f0 implcopyFiles_e0 l 0 []) = .brk y0) l.length [] (weak_sf [(384, 147201)] (by kernel_rfl)) ⟨rfl, (by simp)⟩ (fun k0 s0 hk0 hI0 => ?_) (fun k0 s0 hk0 hI0 => ?_) (fun y0 hD0 => ?_)
  ·
    have hA0_0 := hI0.2
    obtain ⟨a0, hx0⟩ := get_some (l := l) (i := k0) hk0
    refine awp_seq ?_
    refine rk tt_ok [(10, .b true)] [] [] [] [(0, .val (.b true))] (o1 (ob_eq (av_bool (decide_eq_true (p := ((k0 : Nat) : Int) < (l.length : Int)) (by omega))))) ?_
    refine awp_seq ?_
    refine ckT ?_
    refine awp_skip ?_
    refine awp_seq ?_
    refine awp_block ?_
    refine awp_seq ?_
    refine rk tt_ok [(5, .p 5 0)] [10] [(5, [.i a0.1, .i a0.2.1, .b a0.2.2.1, .i a0.2.2.2.1, .h a0.2.2.2.2])] [] [(0, .row [.i a0.1, .i a0.2.1, .b a0.2.2.1, .i a0.2.2.2.1, .h a0.2.2.2.2])] (o1 (ob_elem (el_of (i := ((k0 : Nat) : Int)) (by omega) rfl hx0))) ?_
    refine wdT 3 0 (.own true 147201) s0 (fun hw3 => ?_)
    have hl4 : List.length s0 ≤ 1073741824 := wide_len (hw3)
    refine rk tt_ok [(3, .one (.slc (.own true 1088) 5 ((eL s0) ++ [[.i ((implcopyFile a0).1), .i ((implcopyFile a0).2.1), .b ((implcopyFile a0).2.2.1), .i ((implcopyFile a0).2.2.2.1), .h ((implcopyFile a0).2.2.2.2)]])))] [3, 5] [] [5] [(2, .val (.a [.i ((implcopyFile a0).1), .i ((implcopyFile a0).2.1), .b ((implcopyFile a0).2.2.1), .i ((implcopyFile a0).2.2.2.1), .o 0 ((implcopyFile a0).2.2.2.2)]))] (o2 (ob_call (implcopyFile_a a0)) (o1 (ob_len (len_of (eL_length s0) (eL_length [(implcopyFile a0)]) (by first | omega | (simp only [List.length_cons, List.length_nil]; omega) | (simp; omega) | simp))))) ?_
    refine eqn [(3, .o 1088 (s0 ++ [(implcopyFile a0)]))] [3] [] [] (by rw [show ((eL s0) ++ [[.i ((implcopyFile a0).1), .i ((implcopyFile a0).2.1), .b ((implcopyFile a0).2.2.1), .i ((implcopyFile a0).2.2.2.1), .h ((implcopyFile a0).2.2.2.2)]]) = (eL (s0 ++ [(implcopyFile a0)])) from app_eL (rfl) (rfl)]; first | done | kernel_rfl) ?_
    refine rk tt_ok [(9, .i ((k0 + 1 : Nat) : Int))] [9] [] [] [(0, .val (.i ((k0 + 1 : Nat) : Int)))] (o1 (ob_eq (av_i (wrap_succ k0 (by omega))))) ?_
    exact Exists.intro (s0 ++ [(implcopyFile a0)]) (And.intro (weak_sf [(1088, 147201)] (by kernel_rfl)) ⟨forL_next hx0 (rfl) hI0.1, by first | omega | (simp; omega) | simp⟩)
  ·
    have hA0_0 := hI0.2
    refine awp_seq ?_
    refine rk tt_ok [(10, .b false)] [] [] [] [(0, .val (.b false))] (o1 (ob_eq (av_bool (decide_eq_false (p := ((k0 : Nat) : Int) < (l.length : Int)) (by omega))))) ?_
    refine awp_seq ?_
    refine ckF ?_
    refine awp_exit ?_
    exact Exists.intro s0 (And.intro (weak_sf [(147201, 147351)] (by kernel_rfl)) (forL_end hk0 (rfl) hI0.1))
  ·
    refine awp_seq ?_
    refine rk tt_ok [(2, .o 147351 y0)] [2, 3] [] [] [] (o0) ?_
    refine awp_ret ?_
    exact pret [] (congrArg (fun z => (.o 0 z : AV)) (show implcopyFiles l = y0 from on_b hD0 (rfl)).symm)
def implcopyStore (s_ : StoreD) : StoreD := (s_.1, (implcopyFiles s_.2.1), s_.2.2)
theorem implcopyStore_a (s_ : StoreD) : ACalls Try.prog 72 [.a [.h s_.1, .h s_.2.1, .i s_.2.2]] (.a [.o 0 ((implcopyStore s_).1), .o 1 ((implcopyStore s_).2.1), .i ((implcopyStore s_).2.2)]) := by
  refine acalls_of (tt := tt) tt_ok Try.func72 (fn := Try.f72) rfl (by unfold FnOk; kernel_rfl) (Nat.le_of_ble_eq_true rfl) fun w0 F0 hG => ?_
  refine awp_seq ?_
  refine rk tt_ok [(1, .p 1 0), (2, .p 2 0)] [0] [(1, [.h s_.1, .h s_.2.1, .i s_.2.2]), (2, [.e 2, .e 5, .i 0])] [] [] (o0) ?_
  refine awp_seq ?_
  refine rd' tt_ok tt_mx [] [1] [(2, [.o 320 s_.1, .o 512 (implcopyFiles s_.2.1), .i s_.2.2])] [1, 2] [(2, .val (.o 0 s_.1)), (5, .val (.o 0 (implcopyFiles s_.2.1)))] (o2 (ob_call (cloneField_a s_.1)) (o1 (ob_call (implcopyFiles_a s_.2.1)))) ?_
  refine awp_ret ?_
  exact pret [] (congrArg (fun z => (.a [.o 0 z.1, .o 1 z.2.1, .i z.2.2] : AV)) (show implcopyStore s_ = (s_.1, (implcopyFiles s_.2.1), s_.2.2) from rfl).symm)
def implcopyDir (x : DirD) : DirD := x
theorem implcopyDir_a (x : DirD) : ACalls Try.prog 100 [.a [.s x.1, .h x.2]] (.a [.s ((implcopyDir x).1), .o 0 ((implcopyDir x).2)]) := by
  refine acalls_of (tt := tt) tt_ok Try.func100 (fn := Try.f100) rfl (by unfold FnOk; kernel_rfl) (Nat.le_of_ble_eq_true rfl) fun w0 F0 hG => ?_
  refine awp_seq ?_
  refine rk tt_ok [(1, .p 1 0), (2, .p 2 0)] [0] [(1, [.s x.1, .h x.2]), (2, [.s ⟨#[]⟩, .e 7])] [] [] (o0) ?_
  refine awp_seq ?_
  refine rk tt_ok [] [] [(1, [.s x.1, .o 320 x.2])] [1] [(2, .val (.o 0 x.2))] (o1 (ob_call (cloneNode_a x.2))) ?_
  refine awp_seq ?_
  refine rk tt_ok [] [1] [(2, [.s x.1, .o 320 x.2])] [1, 2] [] (o0) ?_
  refine awp_ret ?_
  exact pret [] (congrArg (fun z => (.a [.s z.1, .o 0 z.2] : AV)) (show implcopyDir x = x from rfl).symm)
def implcopyDirs_f0 (_ : Nat) (a0 : DirD) (s0 : (List DirD)) : Rd ((List DirD)) ((List DirD)) ((List DirD)) := (.next (s0 ++ [(implcopyDir a0)]))
def implcopyDirs_e0 (_ : Nat) (s0 : (List DirD)) : (List DirD) := s0
def implcopyDirs (d : (List DirD)) : (List DirD) := (Out.on (forL implcopyDirs_f0 implcopyDirs_e0 d 0 []) (fun y0 => y0))
theorem implcopyDirs_a (d : (List DirD)) : ACalls Try.prog 73 [.h d] (.o 0 (implcopyDirs d)) := by
  refine acalls_of (tt := tt) tt_ok Try.func73 (fn := Try.f73) rfl (by unfold FnOk; kernel_rfl) (Nat.le_of_ble_eq_true rfl) fun w0 F0 hG => ?_
  refine awp_seq ?_
  refine rk tt_ok [(2, .e 0)] [] [] [] [] (o0) ?_
  refine awp_seq ?_
  refine rk tt_ok [(3, .one (.slc (.own true 384) 2 []))] [] [] [] [] (o0) ?_
  refine awp_seq ?_
  refine awp_seq ?_
  refine rk tt_ok [(7, .h d), (8, .i (d.length : Int)), (9, .i 0)] [0] [] [] [(1, .val (.i (d.length : Int)))] (o1 (ob_eq (av_len d))) ?_
  refine wdT 7 0 .sh d (fun hw1 => ?_)
  have hl2 : List.length d ≤ 1073741824 := wide_len (hw1)
  refine blk (fun (k0 : Nat) (s0 : (List DirD)) => [(3, .o 147201 s0), (9, .i ((k0 : Nat) : Int))]) [3, 9] (fun k0 s0 => []) [] (fun (y0 : (List DirD)) => [(3, .o 147351 y0)]) [3, 7, 8, 9] (fun y0 => []) [] (fun (k0 : Nat) (s0 : (List DirD)) => (forL implcopyDirs_f0 implcopyDirs_e0 d 0 []) = forL implcopyDirs_f0 implcopyDirs_e0 (List.drop k0 d) k0 s0 ∧ List.length s0 ≤ k0) (fun (y0 : (List DirD)) => (forL implcopyDirs_f0 implcopyDirs_e0 d 0 []) = .brk y0) d.length [] (weak_sf [(384, 147201)] (by kernel_rfl)) ⟨rfl, (by simp)⟩ (fun k0 s0 hk0 hI0 => ?_) (fun k0 s0 hk0 hI0 => ?_) (fun y0 hD0 => ?_)
  ·
    have hA0_0 := hI0.2
    obtain ⟨a0, hx0⟩ := get_some (l := d) (i := k0) hk0
    refine awp_seq ?_
    refine rk tt_ok [(10, .b true)] [] [] [] [(0, .val (.b true))] (o1 (ob_eq (av_bool (decide_eq_true (p := ((k0 : Nat) : Int) < (d.length : Int)) (by omega))))) ?_
    refine awp_seq ?_
    refine ckT ?_
    refine awp_skip ?_
    refine awp_seq ?_
    refine awp_block ?_
    refine awp_seq ?_
    refine rk tt_ok [(5, .p 5 0)] [10] [(5, [.s a0.1, .h a0.2])] [] [(0, .row [.s a0.1, .h a0.2])] (o1 (ob_elem (el_of (i := ((k0 : Nat) : Int)) (by omega) rfl hx0))) ?_
    refine wdT 3 0 (.own true 147201) s0 (fun hw3 => ?_)
    have hl4 : List.length s0 ≤ 1073741824 := wide_len (hw3)
    refine rk tt_ok [(3, .one (.slc (.own true 1088) 2 ((eL s0) ++ [[.s ((implcopyDir a0).1), .h ((implcopyDir a0).2)]])))] [3, 5] [] [5] [(2, .val (.a [.s ((implcopyDir a0).1), .o 0 ((implcopyDir a0).2)]))] (o2 (ob_call (implcopyDir_a a0)) (o1 (ob_len (len_of (eL_length s0) (eL_length [(implcopyDir a0)]) (by first | omega | (simp only [List.length_cons, List.length_nil]; omega) | (simp; omega) | simp))))) ?_
    refine eqn [(3, .o 1088 (s0 ++ [(implcopyDir a0)]))] [3] [] [] (by rw [show ((eL s0) ++ [[.s ((implcopyDir a0).1), .h ((implcopyDir a0).2)]]) = (eL (s0 ++ [(implcopyDir a0)])) from app_eL (rfl) (rfl)]; first | done | kernel_rfl) ?_
    refine rk tt_ok [(9, .i ((k0 + 1 : Nat) : Int))] [9] [] [] [(0, .val (.i ((k0 + 1 : Nat) : Int)))] (o1 (ob_eq (av_i (wrap_succ k0 (by omega))))) ?_
    exact Exists.intro (s0 ++ [(implcopyDir a0)]) (And.intro (weak_sf [(1088, 147201)] (by kernel_rfl)) ⟨forL_next hx0 (rfl) hI0.1, by first | omega | (simp; omega) | simp⟩)
  ·
    have hA0_0 := hI0.2
    refine awp_seq ?_
    refine rk tt_ok [(10, .b false)] [] [] [] [(0, .val (.b false))] (o1 (ob_eq (av_bool (decide_eq_false (p := ((k0 : Nat) : Int) < (d.length : Int)) (by omega))))) ?_
    refine awp_seq ?_
    refine ckF ?_
    refine awp_exit ?_
    exact Exists.intro s0 (And.intro (weak_sf [(147201, 147351)] (by kernel_rfl)) (forL_end hk0 (rfl) hI0.1))
  ·
    refine awp_seq ?_
    refine rk tt_ok [(2, .o 147351 y0)] [2, 3] [] [] [] (o0) ?_
    refine awp_ret ?_
    exact pret [] (congrArg (fun z => (.o 0 z : AV)) (show implcopyDirs d = y0 from on_b hD0 (rfl)).symm)
def implcopySnapshot (x : SnapshotD) : SnapshotD := ((implcopyStore x.1), (implcopyDirs x.2))
theorem implcopySnapshot_a (x : SnapshotD) : ACalls Try.prog 42 [.a [.h x.1.1, .h x.1.2.1, .i x.1.2.2, .h x.2]] (.a [.o 0 ((implcopySnapshot x).1.1), .o 1 ((implcopySnapshot x).1.2.1), .i ((implcopySnapshot x).1.2.2), .o 2 ((implcopySnapshot x).2)]) := by
  refine acalls_of (tt := tt) tt_ok Try.func42 (fn := Try.f42) rfl (by unfold FnOk; kernel_rfl) (Nat.le_of_ble_eq_true rfl) fun w0 F0 hG => ?_
  refine awp_seq ?_
  refine rk tt_ok [(1, .p 1 0), (2, .p 2 0)] [0] [(1, [.h x.1.1, .h x.1.2.1, .i x.1.2.2, .h x.2]), (2, [.e 2, .e 5, .i 0, .e 2])] [] [] (o0) ?_
  refine awp_seq ?_
  refine rd' tt_ok tt_mx [] [1] [(2, [.o 320 ((implcopyStore x.1).1), .o 321 ((implcopyStore x.1).2.1), .i ((implcopyStore x.1).2.2), .o 512 (implcopyDirs x.2)])] [1, 2] [(2, .val (.a [.o 0 ((implcopyStore x.1).1), .o 1 ((implcopyStore x.1).2.1), .i ((implcopyStore x.1).2.2)])), (5, .val (.o 0 (implcopyDirs x.2)))] (o2 (ob_call (implcopyStore_a x.1)) (o1 (ob_call (implcopyDirs_a x.2)))) ?_
  refine awp_ret ?_
  exact pret [] (congrArg (fun z => (.a [.o 0 z.1.1, .o 1 z.1.2.1, .i z.1.2.2, .o 2 z.2] : AV)) (show implcopySnapshot x = ((implcopyStore x.1), (implcopyDirs x.2)) from rfl).symm)
def implcopyVersions_f0 (_ : Nat) (a0 : VersionD) (s0 : (List VersionD)) : Rd ((List VersionD)) ((List VersionD)) ((List VersionD)) := (.next (s0 ++ [(a0.1, (implcopySnapshot a0.2.1), a0.2.2)]))
def implcopyVersions_e0 (_ : Nat) (s0 : (List VersionD)) : (List VersionD) := s0
def implcopyVersions (v : (List VersionD)) : (List VersionD) := (Out.on (forL implcopyVersions_f0 implcopyVersions_e0 v 0 []) (fun y0 => y0))
theorem implcopyVersions_a (v : (List VersionD)) : ACalls Try.prog 41 [.h v] (.q 0 (implcopyVersions v)) := by
  refine acalls_of (tt := tt) tt_ok Try.func41 (fn := Try.f41) rfl (by unfold FnOk; kernel_rfl) (Nat.le_of_ble_eq_true rfl) fun w0 F0 hG => ?_
  refine awp_seq ?_
  refine rk tt_ok [(2, .e 0)] [] [] [] [] (o0) ?_
  refine awp_seq ?_
  refine rk tt_ok [(3, .one (.slc (.own true 384) 6 []))] [] [] [] [] (o0) ?_
  refine awp_seq ?_
  refine awp_seq ?_
  refine rk tt_ok [(7, .h v), (8, .i (v.length : Int)), (9, .i 0)] [0] [] [] [(1, .val (.i (v.length : Int)))] (o1 (ob_eq (av_len v))) ?_
  refine wdT 7 0 .sh v (fun hw1 => ?_)
  have hl2 : List.length v ≤ 1073741824 := wide_len (hw1)
  refine blk (fun (k0 : Nat) (s0 : (List VersionD)) => [(3, .o 147201 s0), (9, .i ((k0 : Nat) : Int))]) [3, 9] (fun k0 s0 => []) [] (fun (y0 : (List VersionD)) => [(3, .o 147351 y0)]) [3, 7, 8, 9] (fun y0 => []) [] (fun (k0 : Nat) (s0 : (List VersionD)) => (forL implcopyVersions_f0 implcopyVersions_e0 v 0 []) = forL implcopyVersions_f0 implcopyVersions_e0 (List.drop k0 v) k0 s0 ∧ List.length s0 ≤ k0) (fun (y0 : (List VersionD)) => (forL implcopyVersions_f0 implcopyVersions_e0 v 0 []) = .brk y0) v.length [] (weak_sf [(384, 147201)] (by kernel_rfl)) ⟨rfl, (by simp)⟩ (fun k0 s0 hk0 hI0 => ?_) (fun k0 s0 hk0 hI0 => ?_) (fun y0 hD0 => ?_)
  ·
    have hA0_0 := hI0.2
    obtain ⟨a0, hx0⟩ := get_some (l := v) (i := k0) hk0
    refine awp_seq ?_
    refine rk tt_ok [(10, .b true)] [] [] [] [(0, .val (.b true))] (o1 (ob_eq (av_bool (decide_eq_true (p := ((k0 : Nat) : Int) < (v.length : Int)) (by omega))))) ?_
    refine awp_seq ?_
    refine ckT ?_
    refine awp_skip ?_
    refine awp_seq ?_
    refine awp_block ?_
    refine awp_seq ?_
    refine rk tt_ok [(5, .p 5 0)] [10] [(5, [.i a0.1, .h a0.2.1.1.1, .h a0.2.1.1.2.1, .i a0.2.1.1.2.2, .h a0.2.1.2, .i a0.2.2])] [] [(0, .row [.i a0.1, .h a0.2.1.1.1, .h a0.2.1.1.2.1, .i a0.2.1.1.2.2, .h a0.2.1.2, .i a0.2.2])] (o1 (ob_elem (el_of (i := ((k0 : Nat) : Int)) (by omega) rfl hx0))) ?_
    refine awp_seq ?_
    refine rk tt_ok [] [] [(5, [.i a0.1, .o 960 ((implcopySnapshot a0.2.1).1.1), .o 961 ((implcopySnapshot a0.2.1).1.2.1), .i ((implcopySnapshot a0.2.1).1.2.2), .o 962 ((implcopySnapshot a0.2.1).2), .i a0.2.2])] [5] [(2, .val (.a [.o 0 ((implcopySnapshot a0.2.1).1.1), .o 1 ((implcopySnapshot a0.2.1).1.2.1), .i ((implcopySnapshot a0.2.1).1.2.2), .o 2 ((implcopySnapshot a0.2.1).2)]))] (o1 (ob_call (implcopySnapshot_a a0.2.1))) ?_
    refine wdT 3 0 (.own true 147201) s0 (fun hw3 => ?_)
    have hl4 : List.length s0 ≤ 1073741824 := wide_len (hw3)
    refine rk tt_ok [(3, .one (.slc (.own true 1280) 6 ((eL s0) ++ [[.i a0.1, .h ((implcopySnapshot a0.2.1).1.1), .h ((implcopySnapshot a0.2.1).1.2.1), .i ((implcopySnapshot a0.2.1).1.2.2), .h ((implcopySnapshot a0.2.1).2), .i a0.2.2]])))] [3, 5] [] [5] [] (o1 (ob_len (len_of (eL_length s0) (eL_length [(a0.1, (implcopySnapshot a0.2.1), a0.2.2)]) (by first | omega | (simp only [List.length_cons, List.length_nil]; omega) | (simp; omega) | simp)))) ?_
    refine eqn [(3, .o 1280 (s0 ++ [(a0.1, (implcopySnapshot a0.2.1), a0.2.2)]))] [3] [] [] (by rw [show ((eL s0) ++ [[.i a0.1, .h ((implcopySnapshot a0.2.1).1.1), .h ((implcopySnapshot a0.2.1).1.2.1), .i ((implcopySnapshot a0.2.1).1.2.2), .h ((implcopySnapshot a0.2.1).2), .i a0.2.2]]) = (eL (s0 ++ [(a0.1, (implcopySnapshot a0.2.1), a0.2.2)])) from app_eL (rfl) (rfl)]; first | done | kernel_rfl) ?_
    refine rk tt_ok [(9, .i ((k0 + 1 : Nat) : Int))] [9] [] [] [(0, .val (.i ((k0 + 1 : Nat) : Int)))] (o1 (ob_eq (av_i (wrap_succ k0 (by omega))))) ?_
    exact Exists.intro (s0 ++ [(a0.1, (implcopySnapshot a0.2.1), a0.2.2)]) (And.intro (weak_sf [(1280, 147201)] (by kernel_rfl)) ⟨forL_next hx0 (rfl) hI0.1, by first | omega | (simp; omega) | simp⟩)
  ·
    have hA0_0 := hI0.2
    refine awp_seq ?_
    refine rk tt_ok [(10, .b false)] [] [] [] [(0, .val (.b false))] (o1 (ob_eq (av_bool (decide_eq_false (p := ((k0 : Nat) : Int) < (v.length : Int)) (by omega))))) ?_
    refine awp_seq ?_
    refine ckF ?_
    refine awp_exit ?_
    exact Exists.intro s0 (And.intro (weak_sf [(147201, 147351)] (by kernel_rfl)) (forL_end hk0 (rfl) hI0.1))
  ·
    refine awp_seq ?_
    refine rk tt_ok [(2, .o 147351 y0)] [2, 3] [] [] [] (o0) ?_
    refine awp_demotes [147351] rfl ?_
    refine awp_ret ?_
    exact pret [] (congrArg (fun z => (.q 0 z : AV)) (show implcopyVersions v = y0 from on_b hD0 (rfl)).symm)
end Go.Proofs.Ytmbdajoapbcigaa
namespace Go.Proofs.Ytmbdajoapbcigaa
open Go.RowKit
theorem copyFiles_id (l : List FileD) : implcopyFiles l = l := by
  unfold implcopyFiles
  rw [forL_map (f := implcopyFiles_f0) (g := id) (fun _ _ _ => rfl), List.map_id]
  rfl
theorem copyDirs_id (d : List DirD) : implcopyDirs d = d := by
  unfold implcopyDirs
  rw [forL_map (f := implcopyDirs_f0) (g := id) (fun _ _ _ => rfl), List.map_id]
  rfl
theorem copyStore_id (s : StoreD) : implcopyStore s = s := by
  unfold implcopyStore
  rw [copyFiles_id]
theorem copySnapshot_id (x : SnapshotD) : implcopySnapshot x = x := by
  unfold implcopySnapshot
  rw [copyStore_id, copyDirs_id]
theorem copyVersions_id (v : List VersionD) : implcopyVersions v = v := by
  unfold implcopyVersions
  rw [forL_map (f := implcopyVersions_f0) (g := id) (fun _ a _ => by unfold implcopyVersions_f0; rw [copySnapshot_id]; rfl), List.map_id]
  rfl
theorem copyVersions_len (v : List VersionD) : (implcopyVersions v).length = v.length := by rw [copyVersions_id]
theorem size_app {α : Type} [GoD α] (l m : List α) : GoD.size (l ++ m) = GoD.size l + GoD.size m := by
  simp only [size_list, List.length_append, List.map_append, List.sum_append]
  omega
theorem size_one {α : Type} [GoD α] (a : α) : GoD.size [a] = 1 + GoD.size a := by simp [size_list]
open GoE (enc wide)
def implversionAt_1 (x : VersionD) (q0 : Int) : Bool := (x.1 == q0)
theorem implversionAt_1_a (x : VersionD) (q0 : Int) : ACalls Try.prog 77 [.a [.i x.1, .h x.2.1.1.1, .h x.2.1.1.2.1, .i x.2.1.1.2.2, .h x.2.1.2, .i x.2.2], .one (.rptr .sh [.i q0])] (.b (implversionAt_1 x q0)) := by
  refine acalls_of (tt := tt) tt_ok Try.func77 (fn := Try.f77) rfl (by unfold FnOk; kernel_rfl) (Nat.le_of_ble_eq_true rfl) fun w0 F0 hG => ?_
  refine awp_seq ?_
  refine rk tt_ok [(2, .p 2 0), (3, .b false)] [0] [(2, [.i x.1, .h x.2.1.1.1, .h x.2.1.1.2.1, .i x.2.1.1.2.2, .h x.2.1.2, .i x.2.2])] [] [] (o0) ?_
  refine awp_seq ?_
  refine rk tt_ok [(3, .b (x.1 == q0))] [1, 2, 3] [] [2] [] (o0) ?_
  refine awp_ret ?_
  exact pret [] (congrArg (fun z => (.b z : AV)) (show implversionAt_1 x q0 = (x.1 == q0) from rfl).symm)
def slicesIndexFunc_Version_implversionAt_1_f0 (c0 : Int) (k0 : Nat) (a0 : VersionD) (_ : Unit) : Rd (Int) (Unit) (Unit) := (bif (implversionAt_1 a0 c0) then (.ret ((k0 : Nat) : Int)) else (.next ()))
def slicesIndexFunc_Version_implversionAt_1_e0 (_ : Nat) (_ : Unit) : Unit := ()
def slicesIndexFunc_Version_implversionAt_1 (s_ : (List VersionD)) (c0 : Int) : Int := (Out.on (forL (slicesIndexFunc_Version_implversionAt_1_f0 c0) slicesIndexFunc_Version_implversionAt_1_e0 s_ 0 ()) (fun _ => -1))
theorem slicesIndexFunc_Version_implversionAt_1_ix (s_ : (List VersionD)) (c0 : Int) : slicesIndexFunc_Version_implversionAt_1 s_ c0 = ixF (fun a => implversionAt_1 a c0) s_ := idx_eq (fun _ _ _ => rfl) s_
theorem slicesIndexFunc_Version_implversionAt_1_bd (s_ : (List VersionD)) (c0 : Int) : -1 ≤ slicesIndexFunc_Version_implversionAt_1 s_ c0 ∧ slicesIndexFunc_Version_implversionAt_1 s_ c0 < (List.length s_ : Int) := by rw [slicesIndexFunc_Version_implversionAt_1_ix]; exact ixF_bd _ _
theorem slicesIndexFunc_Version_implversionAt_1_a (s_ : (List VersionD)) (c0 : Int) : ACalls Try.prog 76 [.h s_, .one (.fnr 77 [[.i c0]])] (.i (slicesIndexFunc_Version_implversionAt_1 s_ c0)) := by
  refine acalls_of (tt := tt) tt_ok Try.func76 (fn := Try.f76) rfl (by unfold FnOk; kernel_rfl) (Nat.le_of_ble_eq_true rfl) fun w0 F0 hG => ?_
  refine awp_seq ?_
  refine rk tt_ok [(4, .i 0)] [] [] [] [] (o0) ?_
  refine awp_seq ?_
  refine awp_seq ?_
  refine rk tt_ok [(7, .i (s_.length : Int)), (8, .i 0)] [] [] [] [(1, .val (.i (s_.length : Int)))] (o1 (ob_eq (av_len s_))) ?_
  refine wdT 0 0 .sh s_ (fun hw1 => ?_)
  have hl2 : List.length s_ ≤ 1073741824 := wide_len (hw1)
  refine blk (fun (k0 : Nat) (s0 : Unit) => [(8, .i ((k0 : Nat) : Int))]) [8] (fun k0 s0 => []) [] (fun (y0 : Unit) => []) [0, 1, 7, 8] (fun y0 => []) [] (fun (k0 : Nat) (s0 : Unit) => (forL (slicesIndexFunc_Version_implversionAt_1_f0 c0) slicesIndexFunc_Version_implversionAt_1_e0 s_ 0 ()) = forL (slicesIndexFunc_Version_implversionAt_1_f0 c0) slicesIndexFunc_Version_implversionAt_1_e0 (List.drop k0 s_) k0 s0) (fun (y0 : Unit) => (forL (slicesIndexFunc_Version_implversionAt_1_f0 c0) slicesIndexFunc_Version_implversionAt_1_e0 s_ 0 ()) = .brk y0) s_.length () (weak_fit (by kernel_rfl)) rfl (fun k0 s0 hk0 hI0 => ?_) (fun k0 s0 hk0 hI0 => ?_) (fun y0 hD0 => ?_)
  ·
    obtain ⟨a0, hx0⟩ := get_some (l := s_) (i := k0) hk0
    refine awp_seq ?_
    refine rk tt_ok [(9, .b true)] [] [] [] [(0, .val (.b true))] (o1 (ob_eq (av_bool (decide_eq_true (p := ((k0 : Nat) : Int) < (s_.length : Int)) (by omega))))) ?_
    refine awp_seq ?_
    refine ckT ?_
    refine awp_skip ?_
    refine awp_seq ?_
    refine awp_block ?_
    refine awp_seq ?_
    refine rk tt_ok [(5, .i ((k0 : Nat) : Int))] [9] [] [] [] (o0) ?_
    refine awp_seq ?_
    refine rk tt_ok [(16, .b (implversionAt_1 a0 c0))] [] [] [] [(3, .row [.i a0.1, .h a0.2.1.1.1, .h a0.2.1.1.2.1, .i a0.2.1.1.2.2, .h a0.2.1.2, .i a0.2.2]), (5, .val (.b (implversionAt_1 a0 c0)))] (o2 (ob_elem (el_of (i := ((k0 : Nat) : Int)) (by omega) rfl hx0)) (o1 (ob_call (implversionAt_1_a a0 c0)))) ?_
    refine ck (implversionAt_1 a0 c0) (fun h3 => ?_) (fun h3 => ?_)
    ·
      refine awp_seq ?_
      refine rk tt_ok [(4, .i ((k0 : Nat) : Int))] [4, 5, 16] [] [] [] (o0) ?_
      refine awp_ret ?_
      have hr4 : (forL (slicesIndexFunc_Version_implversionAt_1_f0 c0) slicesIndexFunc_Version_implversionAt_1_e0 s_ 0 ()) = .ret ((k0 : Nat) : Int) := forL_ret hx0 (bif_t h3 (rfl)) hI0
      exact pret [] (congrArg (fun z => (.i z : AV)) (show slicesIndexFunc_Version_implversionAt_1 s_ c0 = ((k0 : Nat) : Int) from on_r hr4).symm)
    ·
      refine awp_skip ?_
      refine rk tt_ok [(8, .i ((k0 + 1 : Nat) : Int))] [5, 8, 16] [] [] [(0, .val (.i ((k0 + 1 : Nat) : Int)))] (o1 (ob_eq (av_i (wrap_succ k0 (by omega))))) ?_
      exact Exists.intro () (And.intro (weak_fit (by kernel_rfl)) (forL_next hx0 (bif_f h3 (rfl)) hI0))
  ·
    refine awp_seq ?_
    refine rk tt_ok [(9, .b false)] [] [] [] [(0, .val (.b false))] (o1 (ob_eq (av_bool (decide_eq_false (p := ((k0 : Nat) : Int) < (s_.length : Int)) (by omega))))) ?_
    refine awp_seq ?_
    refine ckF ?_
    refine awp_exit ?_
    exact Exists.intro () (And.intro (weak_fit (by kernel_rfl)) (forL_end hk0 (rfl) hI0))
  ·
    refine awp_seq ?_
    refine rk tt_ok [(4, .i (-1))] [4] [] [] [] (o0) ?_
    refine awp_ret ?_
    exact pret [] (congrArg (fun z => (.i z : AV)) (show slicesIndexFunc_Version_implversionAt_1 s_ c0 = -1 from on_b hD0 (rfl)).symm)
def implversionAt (v : (List VersionD)) (number : Int) : Int := (slicesIndexFunc_Version_implversionAt_1 v number)
theorem implversionAt_a (v : (List VersionD)) (number : Int) : ACalls Try.prog 45 [.h v, .i number] (.i (implversionAt v number)) := by
  refine acalls_of (tt := tt) tt_ok Try.func45 (fn := Try.f45) rfl (by unfold FnOk; kernel_rfl) (Nat.le_of_ble_eq_true rfl) fun w0 F0 hG => ?_
  refine awp_seq ?_
  refine rk tt_ok [(3, .p 3 0), (4, .i 0)] [1] [(3, [.i number])] [] [] (o0) ?_
  refine awp_seq ?_
  refine rk tt_ok [(4, .i (slicesIndexFunc_Version_implversionAt_1 v number))] [0, 3, 4] [] [3] [(2, .val (.i (slicesIndexFunc_Version_implversionAt_1 v number)))] (o1 (ob_call (slicesIndexFunc_Version_implversionAt_1_a v number))) ?_
  refine awp_ret ?_
  exact pret [] (congrArg (fun z => (.i z : AV)) (show implversionAt v number = (slicesIndexFunc_Version_implversionAt_1 v number) from rfl).symm)
end Go.Proofs.Ytmbdajoapbcigaa
namespace Go.Proofs.Ytmbdajoapbcigaa
open Go.RowKit
theorem vat_go (n : Int) : ∀ (l : List VersionD) (k : Nat), forL (slicesIndexFunc_Version_implversionAt_1_f0 n) slicesIndexFunc_Version_implversionAt_1_e0 l k () = .brk () ∨ ∃ i : Nat, i < l.length ∧ forL (slicesIndexFunc_Version_implversionAt_1_f0 n) slicesIndexFunc_Version_implversionAt_1_e0 l k () = .ret (((k + i : Nat)) : Int)
  | [], _ => .inl rfl
  | a :: l, k => by
    simp only [forL, slicesIndexFunc_Version_implversionAt_1_f0]
    cases (implversionAt_1 a n) with
    | true => exact .inr ⟨0, by simp, rfl⟩
    | false =>
      simp only [cond_false]
      rcases vat_go n l (k + 1) with h | ⟨i, hi, h⟩
      · exact .inl h
      · exact .inr ⟨i + 1, by simpa using hi, by rw [h, show k + 1 + i = k + (i + 1) by omega]⟩
theorem vat_lt (v : List VersionD) (n : Int) : -1 ≤ implversionAt v n ∧ implversionAt v n < (List.length v : Int) := by
  unfold implversionAt slicesIndexFunc_Version_implversionAt_1
  rcases vat_go n v 0 with h | ⟨i, hi, h⟩
  · rw [h]; simp only [Out.on]; omega
  · rw [h]; simp only [Out.on]; omega
theorem pins_ok {v : List VersionD} (h : implAreValidVersions v = true) {i : Nat} (hi : i < v.length) : 0 ≤ (nth v i).2.2 ∧ (nth v i).2.2 ≤ 99 := by
  unfold implAreValidVersions at h
  have hb : ∀ k a t, implAreValidVersions_f0 v k a () ≠ .brk t := fun k a t => by
    unfold implAreValidVersions_f0
    generalize (_ || _ : Bool) = c
    cases c <;> simp
  cases hf : forL (implAreValidVersions_f0 v) implAreValidVersions_e0 v 0 () with
  | brk t =>
    have := forL_all hb hf i (nth v i) (nth_get hi)
    unfold implAreValidVersions_f0 at this
    cases hw : implwithin (nth v i).2.2 0 99 with
    | true => exact within_iff.1 hw
    | false => rw [hw] at this; simp at this
  | ret r =>
    rw [hf] at h
    obtain rfl : r = true := h
    exfalso
    have key : ∀ (l : List VersionD) k, forL (implAreValidVersions_f0 v) implAreValidVersions_e0 l k () ≠ .ret true := by
      intro l
      induction l with
      | nil => intro k h; simp [forL] at h
      | cons a l ih =>
        intro k h
        simp only [forL] at h
        unfold implAreValidVersions_f0 at h
        split at h
        · rename_i hf; exact ih _ h
        · cases h
        · rename_i r hf; cases h; revert hf; generalize (_ || _ : Bool) = c; cases c <;> simp
    exact key _ _ hf
theorem size_set {α : Type} [GoD α] [Inhabited α] {l : List α} {i : Nat} (y : α) (hy : GoD.size y ≤ GoD.size (nth l i)) : GoD.size (l.set i y) ≤ GoD.size l := by
  by_cases hi : i < l.length
  · have h2 : l = l.take i ++ ([nth l i] ++ l.drop (i + 1)) := by
      have := drop_at (nth_get hi)
      rw [List.singleton_append, ← this, List.take_append_drop]
    have h1 : l.set i y = l.take i ++ ([y] ++ l.drop (i + 1)) := by
      rw [List.set_eq_take_append_cons_drop, if_pos hi]; rfl
    rw [h1]
    conv => rhs; rw [h2]
    rw [size_app, size_app, size_app, size_app, size_one, size_one]
    omega
  · rw [List.set_eq_of_length_le (by omega)]
    exact Nat.le_refl _
open GoE (enc wide)
def implAppendVersion (v : (List VersionD)) (number : Int) (x : SnapshotD) : (List VersionD) × Bool := (bif ((!(implAreValidVersions v)) || (!(implAreValidVersions (implcopyVersions v ++ [((number, (implcopySnapshot x), 0) : VersionD)])))) then ((implcopyVersions v), false) else (implcopyVersions v ++ [((number, (implcopySnapshot x), 0) : VersionD)], true))
theorem implAppendVersion_a (v : (List VersionD)) (number : Int) (x : SnapshotD) (hp : (v.length : Int) < 1073741824) : ACalls Try.prog 16 [.h v, .i number, .a [.h x.1.1, .h x.1.2.1, .i x.1.2.2, .h x.2]] (.tup [(false, [.q 0 (((implAppendVersion v number x)).1)]), (false, [.b (((implAppendVersion v number x)).2)])]) := by
  refine acalls_of (tt := tt) tt_ok Try.func16 (fn := Try.f16) rfl (by unfold FnOk; kernel_rfl) (Nat.le_of_ble_eq_true rfl) fun w0 F0 hG => ?_
  have hcl := copyVersions_len v
  refine awp_seq ?_
  refine rk tt_ok [(5, .p 5 0), (6, .e 0), (7, .b false)] [2] [(5, [.h x.1.1, .h x.1.2.1, .i x.1.2.2, .h x.2])] [] [] (o0) ?_
  refine awp_seq ?_
  refine rd' tt_ok tt_mx [(8, .one (.slc (.own false 1024) 6 ((eL (implcopyVersions v)) ++ [[.i number, .h ((implcopySnapshot x).1.1), .h ((implcopySnapshot x).1.2.1), .i ((implcopySnapshot x).1.2.2), .h ((implcopySnapshot x).2), .i 0]])))] [1, 5] [] [5] [(1, .val (.q 0 (implcopyVersions v))), (4, .val (.a [.o 0 ((implcopySnapshot x).1.1), .o 1 ((implcopySnapshot x).1.2.1), .i ((implcopySnapshot x).1.2.2), .o 2 ((implcopySnapshot x).2)]))] (o2 (ob_call (implcopyVersions_a v)) (o2 (ob_call (implcopySnapshot_a x)) (o1 (ob_len (len_of (eL_length (implcopyVersions v)) (eL_length [((number, (implcopySnapshot x), 0) : VersionD)]) (by first | omega | (simp only [List.length_cons, List.length_nil]; omega) | (simp; omega) | simp)))))) ?_
  refine eqn [(8, .q 1024 (implcopyVersions v ++ [((number, (implcopySnapshot x), 0) : VersionD)]))] [8] [] [] (by rw [show ((eL (implcopyVersions v)) ++ [[.i number, .h ((implcopySnapshot x).1.1), .h ((implcopySnapshot x).1.2.1), .i ((implcopySnapshot x).1.2.2), .h ((implcopySnapshot x).2), .i 0]]) = (eL (implcopyVersions v ++ [((number, (implcopySnapshot x), 0) : VersionD)])) from app_eL (rfl) (rfl)]; first | done | kernel_rfl) ?_
  refine awp_seq ?_
  refine awp_seq ?_
  refine jn [(24, .b ((!(implAreValidVersions v)) || (!(implAreValidVersions (implcopyVersions v ++ [((number, (implcopySnapshot x), 0) : VersionD)])))))] [] [] [] (!(implAreValidVersions v)) (fun h1 => ?_) (fun h1 => ?_) ?_
  ·
    have h1n : (implAreValidVersions v) = false := bnot_t h1
    refine rk tt_ok [(24, .b true)] [] [] [] [(1, .val (.b false)), (2, .val (.b true))] (o2 (ob_call (cb h1n (implAreValidVersions_a v))) (o1 (ob_eq (show .b (!false) = .b true from rfl)))) ?_
    exact ⟨rfl, weak_fit (by rw [h1]; first | done | kernel_rfl)⟩
  ·
    have h1n : (implAreValidVersions v) = true := bnot_f h1
    refine rk tt_ok [(24, .b (!(implAreValidVersions (implcopyVersions v ++ [((number, (implcopySnapshot x), 0) : VersionD)]))))] [] [] [] [(1, .val (.b true)), (2, .val (.b false)), (5, .val (.b (implAreValidVersions (implcopyVersions v ++ [((number, (implcopySnapshot x), 0) : VersionD)]))))] (o2 (ob_call (cb h1n (implAreValidVersions_a v))) (o2 (ob_eq (show .b (!true) = .b false from rfl)) (o1 (ob_call (implAreValidVersions_a (implcopyVersions v ++ [((number, (implcopySnapshot x), 0) : VersionD)])))))) ?_
    exact ⟨rfl, weak_fit (by rw [h1]; first | done | kernel_rfl)⟩
  refine ck ((!(implAreValidVersions v)) || (!(implAreValidVersions (implcopyVersions v ++ [((number, (implcopySnapshot x), 0) : VersionD)])))) (fun h2 => ?_) (fun h2 => ?_)
  ·
    refine awp_seq ?_
    refine rk tt_ok [(6, .q 1664 (implcopyVersions v))] [0, 6, 24] [] [] [(1, .val (.q 0 (implcopyVersions v)))] (o1 (ob_call (implcopyVersions_a v))) ?_
    refine awp_ret ?_
    exact pret [] (congrArg (fun z => (.tup [(false, [.q 0 z.1]), (false, [.b z.2])] : AV)) (show implAppendVersion v number x = ((implcopyVersions v), false) from bif_t h2 (rfl)).symm)
  ·
    have h2l : ((!(implAreValidVersions v))) = false := or_l h2
    have h2ln : (implAreValidVersions v) = true := bnot_f h2l
    have h2r : ((!(implAreValidVersions (implcopyVersions v ++ [((number, (implcopySnapshot x), 0) : VersionD)])))) = false := or_r h2
    have h2rn : (implAreValidVersions (implcopyVersions v ++ [((number, (implcopySnapshot x), 0) : VersionD)])) = true := bnot_f h2r
    refine awp_skip ?_
    refine awp_seq ?_
    refine rk tt_ok [(6, .q 1024 (implcopyVersions v ++ [((number, (implcopySnapshot x), 0) : VersionD)])), (7, .b true)] [0, 6, 7, 8, 24] [] [] [] (o0) ?_
    refine awp_ret ?_
    exact pret [] (congrArg (fun z => (.tup [(false, [.q 0 z.1]), (false, [.b z.2])] : AV)) (show implAppendVersion v number x = (implcopyVersions v ++ [((number, (implcopySnapshot x), 0) : VersionD)], true) from bif_f h2 (rfl)).symm)
def implpinned (v : (List VersionD)) (number : Int) (more : Int) : (List VersionD) × Bool := (bif ((!(implAreValidVersions v)) || (decide ((implversionAt v number) < (0 : Int)) || (!(implwithin (IntKind.i64.wrap ((nth v (Int.toNat (implversionAt v number))).2.2 + more)) 0 99)))) then ((implcopyVersions v), false) else (List.set (implcopyVersions v) (Int.toNat (implversionAt v number)) ((nth (implcopyVersions v) (Int.toNat (implversionAt v number))).1, (((nth (implcopyVersions v) (Int.toNat (implversionAt v number))).2.1.1.1, (nth (implcopyVersions v) (Int.toNat (implversionAt v number))).2.1.1.2.1, (nth (implcopyVersions v) (Int.toNat (implversionAt v number))).2.1.1.2.2), (nth (implcopyVersions v) (Int.toNat (implversionAt v number))).2.1.2), IntKind.i64.wrap ((nth (implcopyVersions v) (Int.toNat (implversionAt v number))).2.2 + more)), true))
theorem implpinned_a (v : (List VersionD)) (number : Int) (more : Int) : ACalls Try.prog 44 [.h v, .i number, .i more] (.tup [(false, [.q 0 (((implpinned v number more)).1)]), (false, [.b (((implpinned v number more)).2)])]) := by
  refine acalls_of (tt := tt) tt_ok Try.func44 (fn := Try.f44) rfl (by unfold FnOk; kernel_rfl) (Nat.le_of_ble_eq_true rfl) fun w0 F0 hG => ?_
  have hcl := copyVersions_len v
  refine awp_seq ?_
  refine rk tt_ok [(6, .e 0), (7, .b false)] [] [] [] [] (o0) ?_
  refine awp_seq ?_
  refine rk tt_ok [(8, .q 704 (implcopyVersions v))] [] [] [] [(1, .val (.q 0 (implcopyVersions v)))] (o1 (ob_call (implcopyVersions_a v))) ?_
  refine awp_seq ?_
  refine rk tt_ok [(9, .i (implversionAt v number))] [1] [] [] [(2, .val (.i (implversionAt v number)))] (o1 (ob_call (implversionAt_a v number))) ?_
  refine awp_seq ?_
  refine awp_seq ?_
  refine jn [(32, .b ((!(implAreValidVersions v)) || (decide ((implversionAt v number) < (0 : Int)) || (!(implwithin (IntKind.i64.wrap ((nth v (Int.toNat (implversionAt v number))).2.2 + more)) 0 99)))))] [0] [] [] (!(implAreValidVersions v)) (fun h1 => ?_) (fun h1 => ?_) ?_
  ·
    have h1n : (implAreValidVersions v) = false := bnot_t h1
    refine rk tt_ok [(32, .b true)] [0] [] [] [(1, .val (.b false)), (2, .val (.b true))] (o2 (ob_call (cb h1n (implAreValidVersions_a v))) (o1 (ob_eq (show .b (!false) = .b true from rfl)))) ?_
    exact ⟨rfl, weak_fit (by rw [h1]; first | done | kernel_rfl)⟩
  ·
    have h1n : (implAreValidVersions v) = true := bnot_f h1
    refine awp_split (decide ((implversionAt v number) < (0 : Int))) (fun h2 => ?_) (fun h2 => ?_)
    ·
      have h2d := of_decide_eq_true h2
      refine rk tt_ok [(32, .b true)] [0] [] [] [(1, .val (.b true)), (2, .val (.b false)), (5, .val (.b true))] (o2 (ob_call (cb h1n (implAreValidVersions_a v))) (o2 (ob_eq (show .b (!true) = .b false from rfl)) (o1 (ob_eq (av_bool h2))))) ?_
      exact ⟨rfl, weak_fit (by rw [h1, h2]; first | done | kernel_rfl)⟩
    ·
      have h2p := vat_lt v number
      have h2d := of_decide_eq_false h2
      refine wdT 0 0 .sh v (fun hw4 => ?_)
      have hl5 : List.length v ≤ 1073741824 := wide_len (hw4)
      have hx3 : v[(Int.toNat (implversionAt v number))]? = some (nth v (Int.toNat (implversionAt v number))) := nth_get (by omega)
      refine rk tt_ok [(32, .b (!(implwithin (IntKind.i64.wrap ((nth v (Int.toNat (implversionAt v number))).2.2 + more)) 0 99)))] [0] [] [] [(1, .val (.b true)), (2, .val (.b false)), (5, .val (.b false)), (10, .row [.i ((nth v (Int.toNat (implversionAt v number))).1), .h ((nth v (Int.toNat (implversionAt v number))).2.1.1.1), .h ((nth v (Int.toNat (implversionAt v number))).2.1.1.2.1), .i ((nth v (Int.toNat (implversionAt v number))).2.1.1.2.2), .h ((nth v (Int.toNat (implversionAt v number))).2.1.2), .i ((nth v (Int.toNat (implversionAt v number))).2.2)]), (15, .val (.b (implwithin (IntKind.i64.wrap ((nth v (Int.toNat (implversionAt v number))).2.2 + more)) 0 99)))] (o2 (ob_call (cb h1n (implAreValidVersions_a v))) (o2 (ob_eq (show .b (!true) = .b false from rfl)) (o2 (ob_eq (av_bool h2)) (o2 (ob_elem (el_of (i := (implversionAt v number)) (by omega) rfl hx3)) (o1 (ob_call (implwithin_a (IntKind.i64.wrap ((nth v (Int.toNat (implversionAt v number))).2.2 + more)) 0 99))))))) ?_
      exact ⟨rfl, weak_fit (by rw [h1, h2]; first | done | kernel_rfl)⟩
  refine ck ((!(implAreValidVersions v)) || (decide ((implversionAt v number) < (0 : Int)) || (!(implwithin (IntKind.i64.wrap ((nth v (Int.toNat (implversionAt v number))).2.2 + more)) 0 99)))) (fun h6 => ?_) (fun h6 => ?_)
  ·
    refine awp_seq ?_
    refine rk tt_ok [(6, .q 704 (implcopyVersions v))] [6, 32] [] [] [] (o0) ?_
    refine awp_ret ?_
    exact pret [] (congrArg (fun z => (.tup [(false, [.q 0 z.1]), (false, [.b z.2])] : AV)) (show implpinned v number more = ((implcopyVersions v), false) from bif_t h6 (rfl)).symm)
  ·
    have h6l : ((!(implAreValidVersions v))) = false := or_l h6
    have h6ln : (implAreValidVersions v) = true := bnot_f h6l
    have h6r : ((decide ((implversionAt v number) < (0 : Int)) || (!(implwithin (IntKind.i64.wrap ((nth v (Int.toNat (implversionAt v number))).2.2 + more)) 0 99)))) = false := or_r h6
    have h6rl : (decide ((implversionAt v number) < (0 : Int))) = false := or_l h6r
    have h6rlp := vat_lt v number
    have h6rld := of_decide_eq_false h6rl
    have h6rr : ((!(implwithin (IntKind.i64.wrap ((nth v (Int.toNat (implversionAt v number))).2.2 + more)) 0 99))) = false := or_r h6r
    have h6rrn : (implwithin (IntKind.i64.wrap ((nth v (Int.toNat (implversionAt v number))).2.2 + more)) 0 99) = true := bnot_f h6rr
    refine awp_skip ?_
    refine awp_seq ?_
    refine wdT 8 0 (.own false 704) (implcopyVersions v) (fun hw8 => ?_)
    have hl9 : List.length (implcopyVersions v) ≤ 1073741824 := wide_len (hw8)
    have hx7 : (implcopyVersions v)[(Int.toNat (implversionAt v number))]? = some (nth (implcopyVersions v) (Int.toNat (implversionAt v number))) := nth_get (by omega)
    refine rk tt_ok [(8, .one (.slc (.own false 704) 6 (setRow (eL (implcopyVersions v)) (Int.toNat (implversionAt v number)) 5 [.i (IntKind.i64.wrap ((nth (implcopyVersions v) (Int.toNat (implversionAt v number))).2.2 + more))])))] [2, 8, 9, 32] [] [] [(2, .rowE [.i ((nth (implcopyVersions v) (Int.toNat (implversionAt v number))).1), .h ((nth (implcopyVersions v) (Int.toNat (implversionAt v number))).2.1.1.1), .h ((nth (implcopyVersions v) (Int.toNat (implversionAt v number))).2.1.1.2.1), .i ((nth (implcopyVersions v) (Int.toNat (implversionAt v number))).2.1.1.2.2), .h ((nth (implcopyVersions v) (Int.toNat (implversionAt v number))).2.1.2), .i ((nth (implcopyVersions v) (Int.toNat (implversionAt v number))).2.2)]), (7, .rowE [.i ((nth (implcopyVersions v) (Int.toNat (implversionAt v number))).1), .h ((nth (implcopyVersions v) (Int.toNat (implversionAt v number))).2.1.1.1), .h ((nth (implcopyVersions v) (Int.toNat (implversionAt v number))).2.1.1.2.1), .i ((nth (implcopyVersions v) (Int.toNat (implversionAt v number))).2.1.1.2.2), .h ((nth (implcopyVersions v) (Int.toNat (implversionAt v number))).2.1.2), .i ((nth (implcopyVersions v) (Int.toNat (implversionAt v number))).2.2)])] (o2 (ob_elem (el_of (i := (implversionAt v number)) (by omega) rfl hx7)) (o1 (ob_elem (el_of (i := (implversionAt v number)) (by omega) rfl hx7)))) ?_
    refine eqn [(8, .q 704 (List.set (implcopyVersions v) (Int.toNat (implversionAt v number)) ((nth (implcopyVersions v) (Int.toNat (implversionAt v number))).1, (((nth (implcopyVersions v) (Int.toNat (implversionAt v number))).2.1.1.1, (nth (implcopyVersions v) (Int.toNat (implversionAt v number))).2.1.1.2.1, (nth (implcopyVersions v) (Int.toNat (implversionAt v number))).2.1.1.2.2), (nth (implcopyVersions v) (Int.toNat (implversionAt v number))).2.1.2), IntKind.i64.wrap ((nth (implcopyVersions v) (Int.toNat (implversionAt v number))).2.2 + more))))] [8] [] [] (by rw [setRow_eL (y := ((nth (implcopyVersions v) (Int.toNat (implversionAt v number))).1, (((nth (implcopyVersions v) (Int.toNat (implversionAt v number))).2.1.1.1, (nth (implcopyVersions v) (Int.toNat (implversionAt v number))).2.1.1.2.1, (nth (implcopyVersions v) (Int.toNat (implversionAt v number))).2.1.1.2.2), (nth (implcopyVersions v) (Int.toNat (implversionAt v number))).2.1.2), IntKind.i64.wrap ((nth (implcopyVersions v) (Int.toNat (implversionAt v number))).2.2 + more))) hx7 rfl]; first | done | kernel_rfl) ?_
    refine awp_seq ?_
    refine rk tt_ok [(6, .q 704 (List.set (implcopyVersions v) (Int.toNat (implversionAt v number)) ((nth (implcopyVersions v) (Int.toNat (implversionAt v number))).1, (((nth (implcopyVersions v) (Int.toNat (implversionAt v number))).2.1.1.1, (nth (implcopyVersions v) (Int.toNat (implversionAt v number))).2.1.1.2.1, (nth (implcopyVersions v) (Int.toNat (implversionAt v number))).2.1.1.2.2), (nth (implcopyVersions v) (Int.toNat (implversionAt v number))).2.1.2), IntKind.i64.wrap ((nth (implcopyVersions v) (Int.toNat (implversionAt v number))).2.2 + more)))), (7, .b true)] [6, 7, 8] [] [] [] (o0) ?_
    refine awp_ret ?_
    exact pret [] (congrArg (fun z => (.tup [(false, [.q 0 z.1]), (false, [.b z.2])] : AV)) (show implpinned v number more = (List.set (implcopyVersions v) (Int.toNat (implversionAt v number)) ((nth (implcopyVersions v) (Int.toNat (implversionAt v number))).1, (((nth (implcopyVersions v) (Int.toNat (implversionAt v number))).2.1.1.1, (nth (implcopyVersions v) (Int.toNat (implversionAt v number))).2.1.1.2.1, (nth (implcopyVersions v) (Int.toNat (implversionAt v number))).2.1.1.2.2), (nth (implcopyVersions v) (Int.toNat (implversionAt v number))).2.1.2), IntKind.i64.wrap ((nth (implcopyVersions v) (Int.toNat (implversionAt v number))).2.2 + more)), true) from bif_f h6 (rfl)).symm)
def implPinVersion (v : (List VersionD)) (number : Int) : (List VersionD) × Bool := (((implpinned v number 1)).1, ((implpinned v number 1)).2)
theorem implPinVersion_a (v : (List VersionD)) (number : Int) : ACalls Try.prog 17 [.h v, .i number] (.tup [(false, [.q 0 (((implPinVersion v number)).1)]), (false, [.b (((implPinVersion v number)).2)])]) := by
  refine acalls_of (tt := tt) tt_ok Try.func17 (fn := Try.f17) rfl (by unfold FnOk; kernel_rfl) (Nat.le_of_ble_eq_true rfl) fun w0 F0 hG => ?_
  refine awp_seq ?_
  refine rk tt_ok [(4, .e 0), (5, .b false)] [] [] [] [] (o0) ?_
  refine awp_seq ?_
  refine rk tt_ok [(4, .q 512 (((implpinned v number 1)).1)), (5, .b (((implpinned v number 1)).2))] [0, 1, 4, 5] [] [] [(2, .val (.tup [(false, [.q 0 (((implpinned v number 1)).1)]), (false, [.b (((implpinned v number 1)).2)])]))] (o1 (ob_call (implpinned_a v number 1))) ?_
  refine awp_ret ?_
  exact pret [] (congrArg (fun z => (.tup [(false, [.q 0 z.1]), (false, [.b z.2])] : AV)) (show implPinVersion v number = (((implpinned v number 1)).1, ((implpinned v number 1)).2) from rfl).symm)
def implUnpinVersion (v : (List VersionD)) (number : Int) : (List VersionD) × Bool := (((implpinned v number (-1))).1, ((implpinned v number (-1))).2)
theorem implUnpinVersion_a (v : (List VersionD)) (number : Int) : ACalls Try.prog 18 [.h v, .i number] (.tup [(false, [.q 0 (((implUnpinVersion v number)).1)]), (false, [.b (((implUnpinVersion v number)).2)])]) := by
  refine acalls_of (tt := tt) tt_ok Try.func18 (fn := Try.f18) rfl (by unfold FnOk; kernel_rfl) (Nat.le_of_ble_eq_true rfl) fun w0 F0 hG => ?_
  refine awp_seq ?_
  refine rk tt_ok [(4, .e 0), (5, .b false)] [] [] [] [] (o0) ?_
  refine awp_seq ?_
  refine rk tt_ok [(4, .q 512 (((implpinned v number (-1))).1)), (5, .b (((implpinned v number (-1))).2))] [0, 1, 4, 5] [] [] [(2, .val (.tup [(false, [.q 0 (((implpinned v number (-1))).1)]), (false, [.b (((implpinned v number (-1))).2)])]))] (o1 (ob_call (implpinned_a v number (-1)))) ?_
  refine awp_ret ?_
  exact pret [] (congrArg (fun z => (.tup [(false, [.q 0 z.1]), (false, [.b z.2])] : AV)) (show implUnpinVersion v number = (((implpinned v number (-1))).1, ((implpinned v number (-1))).2) from rfl).symm)
def implFindVersion (v : (List VersionD)) (number : Int) : SnapshotD × Bool := (bif decide ((implversionAt v number) ≥ (0 : Int)) then ((implcopySnapshot (((nth v (Int.toNat (implversionAt v number))).2.1.1.1, (nth v (Int.toNat (implversionAt v number))).2.1.1.2.1, (nth v (Int.toNat (implversionAt v number))).2.1.1.2.2), (nth v (Int.toNat (implversionAt v number))).2.1.2)), true) else ((([], [], 0), []), false))
theorem implFindVersion_a (v : (List VersionD)) (number : Int) : ACalls Try.prog 19 [.h v, .i number] (.tup [(true, [.o 0 ((((implFindVersion v number)).1).1.1), .o 1 ((((implFindVersion v number)).1).1.2.1), .i ((((implFindVersion v number)).1).1.2.2), .o 2 ((((implFindVersion v number)).1).2)]), (false, [.b (((implFindVersion v number)).2)])]) := by
  refine acalls_of (tt := tt) tt_ok Try.func19 (fn := Try.f19) rfl (by unfold FnOk; kernel_rfl) (Nat.le_of_ble_eq_true rfl) fun w0 F0 hG => ?_
  refine awp_seq ?_
  refine rk tt_ok [(4, .p 4 0), (5, .b false)] [] [(4, [.e 2, .e 5, .i 0, .e 2])] [] [] (o0) ?_
  refine awp_seq ?_
  refine awp_seq ?_
  refine rk tt_ok [(6, .i (implversionAt v number))] [1] [] [] [(2, .val (.i (implversionAt v number)))] (o1 (ob_call (implversionAt_a v number))) ?_
  refine awp_seq ?_
  refine rk tt_ok [(11, .b (decide ((implversionAt v number) ≥ (0 : Int))))] [] [] [] [] (o0) ?_
  refine ck (decide ((implversionAt v number) ≥ (0 : Int))) (fun h1 => ?_) (fun h1 => ?_)
  ·
    have h1p := vat_lt v number
    have h1d := of_decide_eq_true h1
    refine awp_seq ?_
    refine wdT 0 0 .sh v (fun hw3 => ?_)
    have hl4 : List.length v ≤ 1073741824 := wide_len (hw3)
    have hx2 : v[(Int.toNat (implversionAt v number))]? = some (nth v (Int.toNat (implversionAt v number))) := nth_get (by omega)
    refine rk tt_ok [(5, .b true)] [0, 5, 6, 11] [(4, [.o 1088 ((implcopySnapshot (((nth v (Int.toNat (implversionAt v number))).2.1.1.1, (nth v (Int.toNat (implversionAt v number))).2.1.1.2.1, (nth v (Int.toNat (implversionAt v number))).2.1.1.2.2), (nth v (Int.toNat (implversionAt v number))).2.1.2)).1.1), .o 1089 ((implcopySnapshot (((nth v (Int.toNat (implversionAt v number))).2.1.1.1, (nth v (Int.toNat (implversionAt v number))).2.1.1.2.1, (nth v (Int.toNat (implversionAt v number))).2.1.1.2.2), (nth v (Int.toNat (implversionAt v number))).2.1.2)).1.2.1), .i ((implcopySnapshot (((nth v (Int.toNat (implversionAt v number))).2.1.1.1, (nth v (Int.toNat (implversionAt v number))).2.1.1.2.1, (nth v (Int.toNat (implversionAt v number))).2.1.1.2.2), (nth v (Int.toNat (implversionAt v number))).2.1.2)).1.2.2), .o 1090 ((implcopySnapshot (((nth v (Int.toNat (implversionAt v number))).2.1.1.1, (nth v (Int.toNat (implversionAt v number))).2.1.1.2.1, (nth v (Int.toNat (implversionAt v number))).2.1.1.2.2), (nth v (Int.toNat (implversionAt v number))).2.1.2)).2)])] [4] [(2, .row [.i ((nth v (Int.toNat (implversionAt v number))).1), .h ((nth v (Int.toNat (implversionAt v number))).2.1.1.1), .h ((nth v (Int.toNat (implversionAt v number))).2.1.1.2.1), .i ((nth v (Int.toNat (implversionAt v number))).2.1.1.2.2), .h ((nth v (Int.toNat (implversionAt v number))).2.1.2), .i ((nth v (Int.toNat (implversionAt v number))).2.2)]), (5, .val (.a [.o 0 ((implcopySnapshot (((nth v (Int.toNat (implversionAt v number))).2.1.1.1, (nth v (Int.toNat (implversionAt v number))).2.1.1.2.1, (nth v (Int.toNat (implversionAt v number))).2.1.1.2.2), (nth v (Int.toNat (implversionAt v number))).2.1.2)).1.1), .o 1 ((implcopySnapshot (((nth v (Int.toNat (implversionAt v number))).2.1.1.1, (nth v (Int.toNat (implversionAt v number))).2.1.1.2.1, (nth v (Int.toNat (implversionAt v number))).2.1.1.2.2), (nth v (Int.toNat (implversionAt v number))).2.1.2)).1.2.1), .i ((implcopySnapshot (((nth v (Int.toNat (implversionAt v number))).2.1.1.1, (nth v (Int.toNat (implversionAt v number))).2.1.1.2.1, (nth v (Int.toNat (implversionAt v number))).2.1.1.2.2), (nth v (Int.toNat (implversionAt v number))).2.1.2)).1.2.2), .o 2 ((implcopySnapshot (((nth v (Int.toNat (implversionAt v number))).2.1.1.1, (nth v (Int.toNat (implversionAt v number))).2.1.1.2.1, (nth v (Int.toNat (implversionAt v number))).2.1.1.2.2), (nth v (Int.toNat (implversionAt v number))).2.1.2)).2)]))] (o2 (ob_elem (el_of (i := (implversionAt v number)) (by omega) rfl hx2)) (o1 (ob_call (implcopySnapshot_a (((nth v (Int.toNat (implversionAt v number))).2.1.1.1, (nth v (Int.toNat (implversionAt v number))).2.1.1.2.1, (nth v (Int.toNat (implversionAt v number))).2.1.1.2.2), (nth v (Int.toNat (implversionAt v number))).2.1.2))))) ?_
    refine awp_ret ?_
    exact pret [] (congrArg (fun z => (.tup [(true, [.o 0 z.1.1.1, .o 1 z.1.1.2.1, .i z.1.1.2.2, .o 2 z.1.2]), (false, [.b z.2])] : AV)) (show implFindVersion v number = ((implcopySnapshot (((nth v (Int.toNat (implversionAt v number))).2.1.1.1, (nth v (Int.toNat (implversionAt v number))).2.1.1.2.1, (nth v (Int.toNat (implversionAt v number))).2.1.1.2.2), (nth v (Int.toNat (implversionAt v number))).2.1.2)), true) from bif_t h1 (rfl)).symm)
  ·
    have h1d := of_decide_eq_false h1
    refine awp_skip ?_
    refine awp_seq ?_
    refine rk tt_ok [] [0, 6, 11] [] [] [] (o0) ?_
    refine opn [(true, 4, 0, true, 384000, 2), (true, 4, 1, true, 384001, 5), (true, 4, 3, true, 384002, 2)] ?_
    refine awp_ret ?_
    exact pret [] (congrArg (fun z => (.tup [(true, [.o 0 z.1.1.1, .o 1 z.1.1.2.1, .i z.1.1.2.2, .o 2 z.1.2]), (false, [.b z.2])] : AV)) (show implFindVersion v number = ((([], [], 0), []), false) from bif_f h1 (rfl)).symm)
open GoE (enc wide)
def implCollectVersions_1 (x : VersionD) : Bool := (x.2.2 == (0 : Int))
theorem implCollectVersions_1_a (x : VersionD) : ACalls Try.prog 47 [.a [.i x.1, .h x.2.1.1.1, .h x.2.1.1.2.1, .i x.2.1.1.2.2, .h x.2.1.2, .i x.2.2]] (.b (implCollectVersions_1 x)) := by
  refine acalls_of (tt := tt) tt_ok Try.func47 (fn := Try.f47) rfl (by unfold FnOk; kernel_rfl) (Nat.le_of_ble_eq_true rfl) fun w0 F0 hG => ?_
  refine awp_seq ?_
  refine rk tt_ok [(1, .p 1 0), (2, .b false)] [0] [(1, [.i x.1, .h x.2.1.1.1, .h x.2.1.1.2.1, .i x.2.1.1.2.2, .h x.2.1.2, .i x.2.2])] [] [] (o0) ?_
  refine awp_seq ?_
  refine rk tt_ok [(2, .b (x.2.2 == (0 : Int)))] [1, 2] [] [1] [] (o0) ?_
  refine awp_ret ?_
  exact pret [] (congrArg (fun z => (.b z : AV)) (show implCollectVersions_1 x = (x.2.2 == (0 : Int)) from rfl).symm)
def slicesIndexFunc_Version_implCollectVersions_1_f0 (k0 : Nat) (a0 : VersionD) (_ : Unit) : Rd (Int) (Unit) (Unit) := (bif (implCollectVersions_1 a0) then (.ret ((k0 : Nat) : Int)) else (.next ()))
def slicesIndexFunc_Version_implCollectVersions_1_e0 (_ : Nat) (_ : Unit) : Unit := ()
def slicesIndexFunc_Version_implCollectVersions_1 (s_ : (List VersionD)) : Int := (Out.on (forL slicesIndexFunc_Version_implCollectVersions_1_f0 slicesIndexFunc_Version_implCollectVersions_1_e0 s_ 0 ()) (fun _ => -1))
theorem slicesIndexFunc_Version_implCollectVersions_1_ix (s_ : (List VersionD)) : slicesIndexFunc_Version_implCollectVersions_1 s_ = ixF (fun a => implCollectVersions_1 a) s_ := idx_eq (fun _ _ _ => rfl) s_
theorem slicesIndexFunc_Version_implCollectVersions_1_bd (s_ : (List VersionD)) : -1 ≤ slicesIndexFunc_Version_implCollectVersions_1 s_ ∧ slicesIndexFunc_Version_implCollectVersions_1 s_ < (List.length s_ : Int) := by rw [slicesIndexFunc_Version_implCollectVersions_1_ix]; exact ixF_bd _ _
theorem slicesIndexFunc_Version_implCollectVersions_1_a (s_ : (List VersionD)) : ACalls Try.prog 76 [.h s_, .one (.fnr 47 [])] (.i (slicesIndexFunc_Version_implCollectVersions_1 s_)) := by
  refine acalls_of (tt := tt) tt_ok Try.func76 (fn := Try.f76) rfl (by unfold FnOk; kernel_rfl) (Nat.le_of_ble_eq_true rfl) fun w0 F0 hG => ?_
  refine awp_seq ?_
  refine rk tt_ok [(4, .i 0)] [] [] [] [] (o0) ?_
  refine awp_seq ?_
  refine awp_seq ?_
  refine rk tt_ok [(7, .i (s_.length : Int)), (8, .i 0)] [] [] [] [(1, .val (.i (s_.length : Int)))] (o1 (ob_eq (av_len s_))) ?_
  refine wdT 0 0 .sh s_ (fun hw1 => ?_)
  have hl2 : List.length s_ ≤ 1073741824 := wide_len (hw1)
  refine blk (fun (k0 : Nat) (s0 : Unit) => [(8, .i ((k0 : Nat) : Int))]) [8] (fun k0 s0 => []) [] (fun (y0 : Unit) => []) [0, 1, 7, 8] (fun y0 => []) [] (fun (k0 : Nat) (s0 : Unit) => (forL slicesIndexFunc_Version_implCollectVersions_1_f0 slicesIndexFunc_Version_implCollectVersions_1_e0 s_ 0 ()) = forL slicesIndexFunc_Version_implCollectVersions_1_f0 slicesIndexFunc_Version_implCollectVersions_1_e0 (List.drop k0 s_) k0 s0) (fun (y0 : Unit) => (forL slicesIndexFunc_Version_implCollectVersions_1_f0 slicesIndexFunc_Version_implCollectVersions_1_e0 s_ 0 ()) = .brk y0) s_.length () (weak_fit (by kernel_rfl)) rfl (fun k0 s0 hk0 hI0 => ?_) (fun k0 s0 hk0 hI0 => ?_) (fun y0 hD0 => ?_)
  ·
    obtain ⟨a0, hx0⟩ := get_some (l := s_) (i := k0) hk0
    refine awp_seq ?_
    refine rk tt_ok [(9, .b true)] [] [] [] [(0, .val (.b true))] (o1 (ob_eq (av_bool (decide_eq_true (p := ((k0 : Nat) : Int) < (s_.length : Int)) (by omega))))) ?_
    refine awp_seq ?_
    refine ckT ?_
    refine awp_skip ?_
    refine awp_seq ?_
    refine awp_block ?_
    refine awp_seq ?_
    refine rk tt_ok [(5, .i ((k0 : Nat) : Int))] [9] [] [] [] (o0) ?_
    refine awp_seq ?_
    refine rk tt_ok [(16, .b (implCollectVersions_1 a0))] [] [] [] [(3, .row [.i a0.1, .h a0.2.1.1.1, .h a0.2.1.1.2.1, .i a0.2.1.1.2.2, .h a0.2.1.2, .i a0.2.2]), (5, .val (.b (implCollectVersions_1 a0)))] (o2 (ob_elem (el_of (i := ((k0 : Nat) : Int)) (by omega) rfl hx0)) (o1 (ob_call (implCollectVersions_1_a a0)))) ?_
    refine ck (implCollectVersions_1 a0) (fun h3 => ?_) (fun h3 => ?_)
    ·
      refine awp_seq ?_
      refine rk tt_ok [(4, .i ((k0 : Nat) : Int))] [4, 5, 16] [] [] [] (o0) ?_
      refine awp_ret ?_
      have hr4 : (forL slicesIndexFunc_Version_implCollectVersions_1_f0 slicesIndexFunc_Version_implCollectVersions_1_e0 s_ 0 ()) = .ret ((k0 : Nat) : Int) := forL_ret hx0 (bif_t h3 (rfl)) hI0
      exact pret [] (congrArg (fun z => (.i z : AV)) (show slicesIndexFunc_Version_implCollectVersions_1 s_ = ((k0 : Nat) : Int) from on_r hr4).symm)
    ·
      refine awp_skip ?_
      refine rk tt_ok [(8, .i ((k0 + 1 : Nat) : Int))] [5, 8, 16] [] [] [(0, .val (.i ((k0 + 1 : Nat) : Int)))] (o1 (ob_eq (av_i (wrap_succ k0 (by omega))))) ?_
      exact Exists.intro () (And.intro (weak_fit (by kernel_rfl)) (forL_next hx0 (bif_f h3 (rfl)) hI0))
  ·
    refine awp_seq ?_
    refine rk tt_ok [(9, .b false)] [] [] [] [(0, .val (.b false))] (o1 (ob_eq (av_bool (decide_eq_false (p := ((k0 : Nat) : Int) < (s_.length : Int)) (by omega))))) ?_
    refine awp_seq ?_
    refine ckF ?_
    refine awp_exit ?_
    exact Exists.intro () (And.intro (weak_fit (by kernel_rfl)) (forL_end hk0 (rfl) hI0))
  ·
    refine awp_seq ?_
    refine rk tt_ok [(4, .i (-1))] [4] [] [] [] (o0) ?_
    refine awp_ret ?_
    exact pret [] (congrArg (fun z => (.i z : AV)) (show slicesIndexFunc_Version_implCollectVersions_1 s_ = -1 from on_b hD0 (rfl)).symm)
def slicesDeleteFunc_Version_implCollectVersions_1_f0 (s0 : (List VersionD) × Int × Int) : Rd ((List VersionD)) ((List VersionD) × Int × Int) ((List VersionD) × Int) := (bif decide (s0.2.2 < (s0.1.length : Int)) then (bif (!(implCollectVersions_1 (nth s0.1 (Int.toNat s0.2.2)))) then (.next (List.set s0.1 (Int.toNat s0.2.1) (nth s0.1 (Int.toNat s0.2.2)), (s0.2.1 + 1), (s0.2.2 + 1))) else (.next (s0.1, s0.2.1, (s0.2.2 + 1)))) else (.brk (s0.1, s0.2.1)))
def slicesDeleteFunc_Version_implCollectVersions_1 (s_ : (List VersionD)) : (List VersionD) := (bif ((slicesIndexFunc_Version_implCollectVersions_1 s_) == (-1 : Int)) then s_ else (Out.on (whlD slicesDeleteFunc_Version_implCollectVersions_1_f0 (List.length s_ + 1) (s_, (slicesIndexFunc_Version_implCollectVersions_1 s_), ((slicesIndexFunc_Version_implCollectVersions_1 s_) + 1))) (fun y0 => List.take (Int.toNat y0.2) y0.1)))
theorem slicesDeleteFunc_Version_implCollectVersions_1_st  : DelStep (slicesDeleteFunc_Version_implCollectVersions_1_f0) (fun a => implCollectVersions_1 a) := by
  intro s i j hij hj
  unfold slicesDeleteFunc_Version_implCollectVersions_1_f0
  by_cases h : (j : Int) < (s.length : Int) <;> cases hp : implCollectVersions_1 (nth s j) <;> simp [h, hp]
theorem slicesDeleteFunc_Version_implCollectVersions_1_w (s_ : (List VersionD)) (hp : List.length s_ ≤ 1073741824) (h : slicesIndexFunc_Version_implCollectVersions_1 s_ ≠ -1) : (whl (slicesDeleteFunc_Version_implCollectVersions_1_f0) (List.length s_ + 1) (s_, slicesIndexFunc_Version_implCollectVersions_1 s_, slicesIndexFunc_Version_implCollectVersions_1 s_ + 1)).isSome = true := del_some (slicesDeleteFunc_Version_implCollectVersions_1_st) hp (slicesIndexFunc_Version_implCollectVersions_1_ix s_) h
theorem slicesDeleteFunc_Version_implCollectVersions_1_eq (s_ : (List VersionD)) (hp : List.length s_ ≤ 1073741824) : slicesDeleteFunc_Version_implCollectVersions_1 s_ = s_.filter (fun a => !(implCollectVersions_1 a)) := by
  unfold slicesDeleteFunc_Version_implCollectVersions_1
  exact del_eq (slicesDeleteFunc_Version_implCollectVersions_1_st) hp (slicesIndexFunc_Version_implCollectVersions_1_ix s_)
theorem slicesDeleteFunc_Version_implCollectVersions_1_le (s_ : (List VersionD)) (hp : List.length s_ ≤ 1073741824) : List.length (slicesDeleteFunc_Version_implCollectVersions_1 s_) ≤ List.length s_ := by rw [slicesDeleteFunc_Version_implCollectVersions_1_eq _ hp]; exact List.length_filter_le _ _
theorem slicesDeleteFunc_Version_implCollectVersions_1_a (s_ : (List VersionD)) : ATake Try.prog 46 6 (eL s_) [.one (.fnr 47 [])] true false (eL (slicesDeleteFunc_Version_implCollectVersions_1 s_)) := by
  refine atake_of (tt := tt) tt_ok Try.func46 (fn := Try.f46) rfl (by unfold FnOk; kernel_rfl) (Nat.le_of_ble_eq_true rfl) (by simp [AV.cells, C.key, C.bkeys]) (t := 4) rfl fun w0 F0 hG => ?_
  refine wdT 0 0 (.own false 63) s_ (fun hw1 => ?_)
  have hl2 : List.length s_ ≤ 1073741824 := wide_len (hw1)
  have hix := slicesIndexFunc_Version_implCollectVersions_1_bd s_
  refine awp_seq ?_
  refine rk tt_ok [(4, .e 0)] [] [] [] [] (o0) ?_
  refine awp_seq ?_
  refine rk tt_ok [(5, .i (slicesIndexFunc_Version_implCollectVersions_1 s_))] [] [] [] [(2, .val (.i (slicesIndexFunc_Version_implCollectVersions_1 s_)))] (o1 (ob_call (slicesIndexFunc_Version_implCollectVersions_1_a s_))) ?_
  refine awp_seq ?_
  refine awp_seq ?_
  refine rk tt_ok [(12, .b ((slicesIndexFunc_Version_implCollectVersions_1 s_) == (-1 : Int)))] [] [] [] [] (o0) ?_
  refine ck ((slicesIndexFunc_Version_implCollectVersions_1 s_) == (-1 : Int)) (fun h3 => ?_) (fun h3 => ?_)
  ·
    have h3d := eq_of_beq h3
    refine awp_seq ?_
    refine rk tt_ok [(4, .q 63 s_)] [4, 12] [] [] [] (o0) ?_
    refine awp_ret ?_
    have hE4 : slicesDeleteFunc_Version_implCollectVersions_1 s_ = s_ := bif_t h3 (rfl)
    exact ⟨.inl rfl, 63, by rw [hE4]; kernel_rfl⟩
  ·
    have h3d := ne_of_beq h3
    refine awp_skip ?_
    refine awp_seq ?_
    refine awp_seq ?_
    refine rk tt_ok [(6, .i ((slicesIndexFunc_Version_implCollectVersions_1 s_) + 1))] [12] [] [] [(1, .val (.i ((slicesIndexFunc_Version_implCollectVersions_1 s_) + 1)))] (o1 (ob_eq (av_i (IntWalk.i64_in ((slicesIndexFunc_Version_implCollectVersions_1 s_) + 1) (by omega))))) ?_
    refine blw (fun (s0 : (List VersionD) × Int × Int) => [(0, .q 63 s0.1), (5, .i s0.2.1), (6, .i s0.2.2)]) [0, 5, 6] (fun s0 => []) [] (fun (y0 : (List VersionD) × Int) => [(0, .q 63 y0.1), (5, .i y0.2)]) [0, 1, 5, 6] (fun y0 => []) [] (fun (k0 : Nat) (s0 : (List VersionD) × Int × Int) => whl slicesDeleteFunc_Version_implCollectVersions_1_f0 k0 s0 = some (whlD slicesDeleteFunc_Version_implCollectVersions_1_f0 (List.length s_ + 1) (s_, (slicesIndexFunc_Version_implCollectVersions_1 s_), ((slicesIndexFunc_Version_implCollectVersions_1 s_) + 1))) ∧ 0 ≤ s0.2.1 ∧ s0.2.1 < s0.2.2 ∧ s0.2.2 ≤ (List.length s0.1 : Int) ∧ List.length s0.1 = List.length s_) (fun (y0 : (List VersionD) × Int) => (whlD slicesDeleteFunc_Version_implCollectVersions_1_f0 (List.length s_ + 1) (s_, (slicesIndexFunc_Version_implCollectVersions_1 s_), ((slicesIndexFunc_Version_implCollectVersions_1 s_) + 1))) = .brk y0 ∧ 0 ≤ y0.2 ∧ y0.2 < (List.length y0.1 : Int) ∧ List.length y0.1 = List.length s_) (List.length s_ + 1) (s_, (slicesIndexFunc_Version_implCollectVersions_1 s_), ((slicesIndexFunc_Version_implCollectVersions_1 s_) + 1)) (weak_fit (by kernel_rfl)) ⟨whl_some (slicesDeleteFunc_Version_implCollectVersions_1_w s_ hl2 h3d), (by first | omega | (dsimp only; omega) | rfl), (by first | omega | (dsimp only; omega) | rfl), (by first | omega | (dsimp only; omega) | rfl), (by first | omega | (dsimp only; omega) | rfl)⟩ (fun _ h => whl_zero h.1) (fun k0 s0 hI0 => ?_) (fun y0 hD0 => ?_)
    ·
      have hA0_0 := hI0.2.1
      have hA0_1 := hI0.2.2.1
      have hA0_2 := hI0.2.2.2.1
      have hA0_3 := hI0.2.2.2.2
      refine awp_seq ?_
      refine awp_seq ?_
      refine rk tt_ok [(19, .b (decide (s0.2.2 < (s0.1.length : Int))))] [] [] [] [(2, .val (.i (s0.1.length : Int)))] (o1 (ob_eq (av_len s0.1))) ?_
      refine ck (decide (s0.2.2 < (s0.1.length : Int))) (fun h5 => ?_) (fun h5 => ?_)
      ·
        have h5d := of_decide_eq_true h5
        refine awp_skip ?_
        refine awp_seq ?_
        refine awp_block ?_
        refine awp_seq ?_
        refine wdT 0 0 (.own false 63) s0.1 (fun hw7 => ?_)
        have hl8 : List.length s0.1 ≤ 1073741824 := wide_len (hw7)
        have hx6 : s0.1[(Int.toNat s0.2.2)]? = some (nth s0.1 (Int.toNat s0.2.2)) := nth_get (by omega)
        refine rk tt_ok [(7, .p 7 0)] [19] [(7, [.i ((nth s0.1 (Int.toNat s0.2.2)).1), .h ((nth s0.1 (Int.toNat s0.2.2)).2.1.1.1), .h ((nth s0.1 (Int.toNat s0.2.2)).2.1.1.2.1), .i ((nth s0.1 (Int.toNat s0.2.2)).2.1.1.2.2), .h ((nth s0.1 (Int.toNat s0.2.2)).2.1.2), .i ((nth s0.1 (Int.toNat s0.2.2)).2.2)])] [] [(2, .rowE [.i ((nth s0.1 (Int.toNat s0.2.2)).1), .h ((nth s0.1 (Int.toNat s0.2.2)).2.1.1.1), .h ((nth s0.1 (Int.toNat s0.2.2)).2.1.1.2.1), .i ((nth s0.1 (Int.toNat s0.2.2)).2.1.1.2.2), .h ((nth s0.1 (Int.toNat s0.2.2)).2.1.2), .i ((nth s0.1 (Int.toNat s0.2.2)).2.2)])] (o1 (ob_elem (el_of (i := s0.2.2) (by omega) rfl hx6))) ?_
        refine awp_seq ?_
        refine rk tt_ok [(29, .b (!(implCollectVersions_1 (nth s0.1 (Int.toNat s0.2.2)))))] [] [] [] [(2, .val (.b (implCollectVersions_1 (nth s0.1 (Int.toNat s0.2.2)))))] (o1 (ob_call (implCollectVersions_1_a (nth s0.1 (Int.toNat s0.2.2))))) ?_
        refine ck (!(implCollectVersions_1 (nth s0.1 (Int.toNat s0.2.2)))) (fun h9 => ?_) (fun h9 => ?_)
        ·
          have h9n : (implCollectVersions_1 (nth s0.1 (Int.toNat s0.2.2))) = false := bnot_t h9
          refine awp_seq ?_
          have hx10 : s0.1[(Int.toNat s0.2.1)]? = some (nth s0.1 (Int.toNat s0.2.1)) := nth_get (by omega)
          refine rk tt_ok [(0, .one (.slc (.own false 63) 6 (setRow (eL s0.1) (Int.toNat s0.2.1) 0 [.i ((nth s0.1 (Int.toNat s0.2.2)).1), .h ((nth s0.1 (Int.toNat s0.2.2)).2.1.1.1), .h ((nth s0.1 (Int.toNat s0.2.2)).2.1.1.2.1), .i ((nth s0.1 (Int.toNat s0.2.2)).2.1.1.2.2), .h ((nth s0.1 (Int.toNat s0.2.2)).2.1.2), .i ((nth s0.1 (Int.toNat s0.2.2)).2.2)])))] [0, 7, 29] [] [7] [(3, .rowE [.i ((nth s0.1 (Int.toNat s0.2.1)).1), .h ((nth s0.1 (Int.toNat s0.2.1)).2.1.1.1), .h ((nth s0.1 (Int.toNat s0.2.1)).2.1.1.2.1), .i ((nth s0.1 (Int.toNat s0.2.1)).2.1.1.2.2), .h ((nth s0.1 (Int.toNat s0.2.1)).2.1.2), .i ((nth s0.1 (Int.toNat s0.2.1)).2.2)])] (o1 (ob_elem (el_of (i := s0.2.1) (by omega) rfl hx10))) ?_
          refine eqn [(0, .q 63 (List.set s0.1 (Int.toNat s0.2.1) (nth s0.1 (Int.toNat s0.2.2))))] [0] [] [] (by rw [setRow_eL (y := (nth s0.1 (Int.toNat s0.2.2))) hx10 rfl]; first | done | kernel_rfl) ?_
          refine rk tt_ok [(5, .i (s0.2.1 + 1))] [5] [] [] [(1, .val (.i (s0.2.1 + 1)))] (o1 (ob_eq (av_i (IntWalk.i64_in (s0.2.1 + 1) (by omega))))) ?_
          refine rk tt_ok [(6, .i (s0.2.2 + 1))] [6] [] [] [(1, .val (.i (s0.2.2 + 1)))] (o1 (ob_eq (av_i (IntWalk.i64_in (s0.2.2 + 1) (by omega))))) ?_
          exact Exists.intro (List.set s0.1 (Int.toNat s0.2.1) (nth s0.1 (Int.toNat s0.2.2)), (s0.2.1 + 1), (s0.2.2 + 1)) (And.intro (weak_fit (by kernel_rfl)) ⟨whl_next (bif_t h5 (bif_t h9 (rfl))) hI0.1, (by first | omega | (dsimp only; omega) | (simp only [List.length_set]; omega)), (by first | omega | (dsimp only; omega) | (simp only [List.length_set]; omega)), (by first | omega | (dsimp only; omega) | (simp only [List.length_set]; omega)), (by first | omega | (dsimp only; omega) | (simp only [List.length_set]; omega))⟩)
        ·
          have h9n : (implCollectVersions_1 (nth s0.1 (Int.toNat s0.2.2))) = true := bnot_f h9
          refine awp_skip ?_
          refine rk tt_ok [(6, .i (s0.2.2 + 1))] [6, 7, 29] [] [7] [(1, .val (.i (s0.2.2 + 1)))] (o1 (ob_eq (av_i (IntWalk.i64_in (s0.2.2 + 1) (by omega))))) ?_
          exact Exists.intro (s0.1, s0.2.1, (s0.2.2 + 1)) (And.intro (weak_fit (by kernel_rfl)) ⟨whl_next (bif_t h5 (bif_f h9 (rfl))) hI0.1, (by first | omega | (dsimp only; omega) | (simp only [List.length_set]; omega)), (by first | omega | (dsimp only; omega) | (simp only [List.length_set]; omega)), (by first | omega | (dsimp only; omega) | (simp only [List.length_set]; omega)), (by first | omega | (dsimp only; omega) | (simp only [List.length_set]; omega))⟩)
      ·
        have h5d := of_decide_eq_false h5
        refine awp_exit ?_
        exact Exists.intro (s0.1, s0.2.1) (And.intro (weak_fit (by kernel_rfl)) ⟨whl_brk (bif_f h5 (rfl)) hI0.1, by first | omega | (simp only [List.length_set]; omega), by first | omega | (simp only [List.length_set]; omega), by first | omega | (simp only [List.length_set]; omega)⟩)
    ·
      have hD0_0 := hD0.2.1
      have hD0_1 := hD0.2.2.1
      have hD0_2 := hD0.2.2.2
      refine awp_seq ?_
      refine awp_clear tt_ok rfl (by kernel_rfl) rfl rfl rfl rfl rfl (by omega) (by rw [eL_length]; omega) (fun lc11 hllc11 htlc11 => ?_)
      refine awp_seq ?_
      refine rk tt_ok [(4, .q 0 (List.take (Int.toNat y0.2) y0.1))] [0, 5] [] [] [(2, .cut (eL (List.take (Int.toNat y0.2) y0.1)))] (o2 (ob_eq (show .one (.slc (.own false 0) 6 ((lc11.take (Int.toNat y0.2)).drop (Int.toNat 0))) = .q 0 (List.take (Int.toNat y0.2) y0.1) from (congrArg (fun z => AV.one (.slc (.own false 0) 6 (z.drop (Int.toNat 0)))) htlc11).trans (av_take (.own false 0) 6 (Int.toNat y0.2) y0.2 y0.1 rfl))) (o1 (ob_rng (lo := 0) (hi := y0.2) (n := (List.length lc11)) (rng_lc (by omega) (by rw [hllc11, eL_length]; omega))))) ?_
      refine awp_ret ?_
      have hE12 : slicesDeleteFunc_Version_implCollectVersions_1 s_ = List.take (Int.toNat y0.2) y0.1 := bif_f h3 (on_b hD0.1 (rfl))
      exact ⟨.inl rfl, 0, by rw [hE12]; kernel_rfl⟩
def implCollectVersions (v : (List VersionD)) : (List VersionD) := (bif ((!(implAreValidVersions v)) || ((v.length : Int) == (0 : Int))) then (implcopyVersions v) else slicesDeleteFunc_Version_implCollectVersions_1 (List.take (Int.toNat (((implcopyVersions v).length : Int) - 1)) (implcopyVersions v)) ++ [(nth (implcopyVersions v) (Int.toNat (((implcopyVersions v).length : Int) - 1)))])
theorem implCollectVersions_a (v : (List VersionD)) : ACalls Try.prog 20 [.h v] (.q 0 (implCollectVersions v)) := by
  refine acalls_of (tt := tt) tt_ok Try.func20 (fn := Try.f20) rfl (by unfold FnOk; kernel_rfl) (Nat.le_of_ble_eq_true rfl) fun w0 F0 hG => ?_
  have hcl := copyVersions_len v
  refine awp_seq ?_
  refine rk tt_ok [(2, .e 0)] [] [] [] [] (o0) ?_
  refine awp_seq ?_
  refine rk tt_ok [(3, .q 384 (implcopyVersions v))] [] [] [] [(1, .val (.q 0 (implcopyVersions v)))] (o1 (ob_call (implcopyVersions_a v))) ?_
  refine awp_seq ?_
  refine awp_seq ?_
  refine jn [(14, .b ((!(implAreValidVersions v)) || ((v.length : Int) == (0 : Int))))] [0] [] [] (!(implAreValidVersions v)) (fun h1 => ?_) (fun h1 => ?_) ?_
  ·
    have h1n : (implAreValidVersions v) = false := bnot_t h1
    refine rk tt_ok [(14, .b true)] [0] [] [] [(1, .val (.b false)), (2, .val (.b true))] (o2 (ob_call (cb h1n (implAreValidVersions_a v))) (o1 (ob_eq (show .b (!false) = .b true from rfl)))) ?_
    exact ⟨rfl, weak_fit (by rw [h1]; first | done | kernel_rfl)⟩
  ·
    have h1n : (implAreValidVersions v) = true := bnot_f h1
    refine rk tt_ok [(14, .b ((v.length : Int) == (0 : Int)))] [0] [] [] [(1, .val (.b true)), (2, .val (.b false)), (5, .val (.i (v.length : Int)))] (o2 (ob_call (cb h1n (implAreValidVersions_a v))) (o2 (ob_eq (show .b (!true) = .b false from rfl)) (o1 (ob_eq (av_len v))))) ?_
    exact ⟨rfl, weak_fit (by rw [h1]; first | done | kernel_rfl)⟩
  refine ck ((!(implAreValidVersions v)) || ((v.length : Int) == (0 : Int))) (fun h2 => ?_) (fun h2 => ?_)
  ·
    refine awp_seq ?_
    refine rk tt_ok [(2, .q 384 (implcopyVersions v))] [2, 14] [] [] [] (o0) ?_
    refine awp_ret ?_
    exact pret [] (congrArg (fun z => (.q 0 z : AV)) (show implCollectVersions v = (implcopyVersions v) from bif_t h2 (rfl)).symm)
  ·
    have h2l : ((!(implAreValidVersions v))) = false := or_l h2
    have h2ln : (implAreValidVersions v) = true := bnot_f h2l
    have h2r : (((v.length : Int) == (0 : Int))) = false := or_r h2
    have h2rd := ne_of_beq h2r
    refine awp_skip ?_
    refine awp_seq ?_
    refine wdT 3 0 (.own false 384) (implcopyVersions v) (fun hw3 => ?_)
    have hl4 : List.length (implcopyVersions v) ≤ 1073741824 := wide_len (hw3)
    have hx5 : (implcopyVersions v)[(Int.toNat (((implcopyVersions v).length : Int) - 1))]? = some (nth (implcopyVersions v) (Int.toNat (((implcopyVersions v).length : Int) - 1))) := nth_get (by omega)
    refine rk tt_ok [(4, .p 4 0)] [14] [(4, [.i ((nth (implcopyVersions v) (Int.toNat (((implcopyVersions v).length : Int) - 1))).1), .h ((nth (implcopyVersions v) (Int.toNat (((implcopyVersions v).length : Int) - 1))).2.1.1.1), .h ((nth (implcopyVersions v) (Int.toNat (((implcopyVersions v).length : Int) - 1))).2.1.1.2.1), .i ((nth (implcopyVersions v) (Int.toNat (((implcopyVersions v).length : Int) - 1))).2.1.1.2.2), .h ((nth (implcopyVersions v) (Int.toNat (((implcopyVersions v).length : Int) - 1))).2.1.2), .i ((nth (implcopyVersions v) (Int.toNat (((implcopyVersions v).length : Int) - 1))).2.2)])] [] [(2, .val (.i ((implcopyVersions v).length : Int))), (3, .val (.i (((implcopyVersions v).length : Int) - 1))), (4, .rowE [.i ((nth (implcopyVersions v) (Int.toNat (((implcopyVersions v).length : Int) - 1))).1), .h ((nth (implcopyVersions v) (Int.toNat (((implcopyVersions v).length : Int) - 1))).2.1.1.1), .h ((nth (implcopyVersions v) (Int.toNat (((implcopyVersions v).length : Int) - 1))).2.1.1.2.1), .i ((nth (implcopyVersions v) (Int.toNat (((implcopyVersions v).length : Int) - 1))).2.1.1.2.2), .h ((nth (implcopyVersions v) (Int.toNat (((implcopyVersions v).length : Int) - 1))).2.1.2), .i ((nth (implcopyVersions v) (Int.toNat (((implcopyVersions v).length : Int) - 1))).2.2)])] (o2 (ob_eq (av_len (implcopyVersions v))) (o2 (ob_eq (av_i (IntWalk.i64_in (((implcopyVersions v).length : Int) - 1) (by omega)))) (o1 (ob_elem (el_of (i := (((implcopyVersions v).length : Int) - 1)) (by omega) rfl hx5))))) ?_
    refine awp_seq ?_
    have hl6 : List.length (List.take (Int.toNat (((implcopyVersions v).length : Int) - 1)) (implcopyVersions v)) ≤ 1073741824 := wide_len (wide_take (Int.toNat (((implcopyVersions v).length : Int) - 1)) (hw3))
    have hq7 := List.length_take_le (Int.toNat (((implcopyVersions v).length : Int) - 1)) (implcopyVersions v)
    have hq8 := slicesDeleteFunc_Version_implCollectVersions_1_le (List.take (Int.toNat (((implcopyVersions v).length : Int) - 1)) (implcopyVersions v)) hl6
    refine rk tt_ok [(3, .q 1728 (slicesDeleteFunc_Version_implCollectVersions_1 (List.take (Int.toNat (((implcopyVersions v).length : Int) - 1)) (implcopyVersions v))))] [3] [] [] [(2, .val (.i ((implcopyVersions v).length : Int))), (3, .val (.i (((implcopyVersions v).length : Int) - 1))), (4, .cut (eL (List.take (Int.toNat (((implcopyVersions v).length : Int) - 1)) (implcopyVersions v)))), (5, .take true false (eL (slicesDeleteFunc_Version_implCollectVersions_1 (List.take (Int.toNat (((implcopyVersions v).length : Int) - 1)) (implcopyVersions v)))))] (o2 (ob_eq (av_len (implcopyVersions v))) (o2 (ob_eq (av_i (IntWalk.i64_in (((implcopyVersions v).length : Int) - 1) (by omega)))) (o2 (ob_eq (av_take (.own false 384) 6 (Int.toNat (((implcopyVersions v).length : Int) - 1)) (((implcopyVersions v).length : Int) - 1) (implcopyVersions v) rfl)) (o2 (ob_rng (lo := 0) (hi := (((implcopyVersions v).length : Int) - 1)) (n := (List.length (eL (implcopyVersions v)))) (rng_of (by omega) (by omega) (by omega))) (o1 (ob_take (slicesDeleteFunc_Version_implCollectVersions_1_a (List.take (Int.toNat (((implcopyVersions v).length : Int) - 1)) (implcopyVersions v))))))))) ?_
    refine awp_seq ?_
    refine wdT 3 0 (.own false 1728) (slicesDeleteFunc_Version_implCollectVersions_1 (List.take (Int.toNat (((implcopyVersions v).length : Int) - 1)) (implcopyVersions v))) (fun hw9 => ?_)
    have hl10 : List.length (slicesDeleteFunc_Version_implCollectVersions_1 (List.take (Int.toNat (((implcopyVersions v).length : Int) - 1)) (implcopyVersions v))) ≤ 1073741824 := wide_len (hw9)
    refine rk tt_ok [(2, .one (.slc (.own false 1984) 6 ((eL (slicesDeleteFunc_Version_implCollectVersions_1 (List.take (Int.toNat (((implcopyVersions v).length : Int) - 1)) (implcopyVersions v)))) ++ [[.i ((nth (implcopyVersions v) (Int.toNat (((implcopyVersions v).length : Int) - 1))).1), .h ((nth (implcopyVersions v) (Int.toNat (((implcopyVersions v).length : Int) - 1))).2.1.1.1), .h ((nth (implcopyVersions v) (Int.toNat (((implcopyVersions v).length : Int) - 1))).2.1.1.2.1), .i ((nth (implcopyVersions v) (Int.toNat (((implcopyVersions v).length : Int) - 1))).2.1.1.2.2), .h ((nth (implcopyVersions v) (Int.toNat (((implcopyVersions v).length : Int) - 1))).2.1.2), .i ((nth (implcopyVersions v) (Int.toNat (((implcopyVersions v).length : Int) - 1))).2.2)]])))] [2, 3, 4] [] [4] [] (o1 (ob_len (len_of (eL_length (slicesDeleteFunc_Version_implCollectVersions_1 (List.take (Int.toNat (((implcopyVersions v).length : Int) - 1)) (implcopyVersions v)))) (eL_length [(nth (implcopyVersions v) (Int.toNat (((implcopyVersions v).length : Int) - 1)))]) (by first | omega | (simp only [List.length_cons, List.length_nil]; omega) | (simp; omega) | simp)))) ?_
    refine eqn [(2, .q 1984 (slicesDeleteFunc_Version_implCollectVersions_1 (List.take (Int.toNat (((implcopyVersions v).length : Int) - 1)) (implcopyVersions v)) ++ [(nth (implcopyVersions v) (Int.toNat (((implcopyVersions v).length : Int) - 1)))]))] [2] [] [] (by rw [show ((eL (slicesDeleteFunc_Version_implCollectVersions_1 (List.take (Int.toNat (((implcopyVersions v).length : Int) - 1)) (implcopyVersions v)))) ++ [[.i ((nth (implcopyVersions v) (Int.toNat (((implcopyVersions v).length : Int) - 1))).1), .h ((nth (implcopyVersions v) (Int.toNat (((implcopyVersions v).length : Int) - 1))).2.1.1.1), .h ((nth (implcopyVersions v) (Int.toNat (((implcopyVersions v).length : Int) - 1))).2.1.1.2.1), .i ((nth (implcopyVersions v) (Int.toNat (((implcopyVersions v).length : Int) - 1))).2.1.1.2.2), .h ((nth (implcopyVersions v) (Int.toNat (((implcopyVersions v).length : Int) - 1))).2.1.2), .i ((nth (implcopyVersions v) (Int.toNat (((implcopyVersions v).length : Int) - 1))).2.2)]]) = (eL (slicesDeleteFunc_Version_implCollectVersions_1 (List.take (Int.toNat (((implcopyVersions v).length : Int) - 1)) (implcopyVersions v)) ++ [(nth (implcopyVersions v) (Int.toNat (((implcopyVersions v).length : Int) - 1)))])) from app_eL (rfl) (rfl)]; first | done | kernel_rfl) ?_
    refine awp_ret ?_
    exact pret [] (congrArg (fun z => (.q 0 z : AV)) (show implCollectVersions v = slicesDeleteFunc_Version_implCollectVersions_1 (List.take (Int.toNat (((implcopyVersions v).length : Int) - 1)) (implcopyVersions v)) ++ [(nth (implcopyVersions v) (Int.toNat (((implcopyVersions v).length : Int) - 1)))] from bif_f h2 (rfl)).symm)
end Go.Proofs.Ytmbdajoapbcigaa
namespace Go.Proofs.Ytmbdajoapbcigaa
open Go.RowKit
theorem app_len (v : List VersionD) (n : Int) (x : SnapshotD) : (implAppendVersion v n x).1.length ≤ v.length + 1 := by
  unfold implAppendVersion
  generalize (!(implAreValidVersions v) || _) = c
  cases c with
  | true => simp only [cond_true]; rw [copyVersions_len]; omega
  | false => simp only [cond_false]; rw [List.length_append, copyVersions_len]; exact Nat.le_refl _
theorem app_lt0 {v : List VersionD} {n : Int} {x : SnapshotD} (h : v.length = 0) : ((implAppendVersion v n x).1.length : Int) < 1073741824 := by
  have := app_len v n x
  omega
end Go.Proofs.Ytmbdajoapbcigaa
namespace Go.Proofs.Ytmbdajoapbcigaa
open Go.RowKit
open GoD (rd own)
theorem inR_u8 (a : UInt8) : InR .u8 (a.toNat : Int) := by
  have h : a.toNat < 256 := a.toNat_lt
  constructor <;> simp [IntKind.min, IntKind.max, IntKind.bits, IntKind.signed] <;> omega
instance instGoEU8 : GoE UInt8 where
  enc a := [.int .u8 (a.toNat : Int)]
  enc_len _ := rfl
  n_pos := Nat.zero_lt_one
  wide _ := True
  wide_size _ := trivial
  vc_wide _ := trivial
  rd_vc {w cs a} h _ := by rw [show cs = _ from h]; exact .cons (.int (inR_u8 a)) .nil
  vc_rd h := by
    cases h with
    | cons h1 h2 => cases h2; cases h1; rfl
  own_oc h _ := by obtain ⟨rfl, h⟩ := h; rw [h]; exact OC.cons (L1 := []) (L2 := []) (.int (inR_u8 _)) .nil
  oc_own h _ := by
    cases h with
    | cons h1 h2 => cases h2; cases h1; exact ⟨rfl, rfl⟩
open GoE (enc wide)
def specl01New_f0 (k0 : Nat) (a0 : UInt8) (s0 : Int) : Rd (Nat × Int) (Int) (Int) := (bif decide (((k0 : Nat) : Int) < (4000 : Int)) then (.next (andI .i64 (IntKind.i64.wrap (IntKind.i64.wrap (IntKind.i64.wrap (s0 * 131) + IntKind.i64.wrap (UInt8.toNat a0 : Int)) + 7)) 1073741823)) else (.brk s0))
def specl01New_e0 (_ : Nat) (s0 : Int) : Int := s0
def specl01New (code : (List UInt8)) : Nat × Int := (Out.on (forL specl01New_f0 specl01New_e0 code 0 (IntKind.i64.wrap (94701 + (code.length : Int)))) (fun y0 => (0, y0)))
set_option maxRecDepth 30000 in
theorem specl01New_a (code : (List UInt8)) : ANew Try.prog 34 [.h code] [.h code, .i (((specl01New code).1 : Nat) : Int), .i ((specl01New code).2)] := by
  refine anew_of Try.func34 (fn := Try.f34) rfl (by unfold FnOk; kernel_rfl) (Nat.le_of_ble_eq_true rfl) rfl fun w0 F0 hG => ?_
  refine awp_seq ?_
  refine rk tt_ok [] [] [] [] [] (o0) ?_
  refine awp_seq ?_
  refine rk tt_ok [(3, .i (IntKind.i64.wrap (94701 + (code.length : Int))))] [] [] [] [(1, .val (.i (code.length : Int)))] (o1 (ob_eq (av_len code))) ?_
  refine awp_seq ?_
  refine awp_seq ?_
  refine rk tt_ok [(4, .i 0)] [] [] [] [] (o0) ?_
  refine wdT 0 0 .sh code (fun hw1 => ?_)
  have hl2 : List.length code ≤ 1073741824 := wide_len (hw1)
  refine blk (fun (k0 : Nat) (s0 : Int) => [(3, .i s0), (4, .i ((k0 : Nat) : Int))]) [3, 4] (fun k0 s0 => []) [] (fun (y0 : Int) => [(3, .i y0)]) [3, 4] (fun y0 => []) [] (fun (k0 : Nat) (s0 : Int) => (forL specl01New_f0 specl01New_e0 code 0 (IntKind.i64.wrap (94701 + (code.length : Int)))) = forL specl01New_f0 specl01New_e0 (List.drop k0 code) k0 s0) (fun (y0 : Int) => (forL specl01New_f0 specl01New_e0 code 0 (IntKind.i64.wrap (94701 + (code.length : Int)))) = .brk y0) code.length (IntKind.i64.wrap (94701 + (code.length : Int))) (weak_fit (by kernel_rfl)) rfl (fun k0 s0 hk0 hI0 => ?_) (fun k0 s0 hk0 hI0 => ?_) (fun y0 hD0 => ?_)
  ·
    obtain ⟨a0, hx0⟩ := get_some (l := code) (i := k0) hk0
    refine awp_seq ?_
    refine awp_seq ?_
    refine rk tt_ok [(15, .b (decide (((k0 : Nat) : Int) < (4000 : Int))))] [] [] [] [(2, .val (.i (code.length : Int))), (3, .val (.b true))] (o2 (ob_eq (av_len code)) (o1 (ob_eq (av_bool (decide_eq_true (p := ((k0 : Nat) : Int) < (code.length : Int)) (by omega)))))) ?_
    refine ck (decide (((k0 : Nat) : Int) < (4000 : Int))) (fun h3 => ?_) (fun h3 => ?_)
    ·
      have h3d := of_decide_eq_true h3
      refine awp_skip ?_
      refine awp_seq ?_
      refine awp_block ?_
      refine rk tt_ok [(3, .i (andI .i64 (IntKind.i64.wrap (IntKind.i64.wrap (IntKind.i64.wrap (s0 * 131) + IntKind.i64.wrap (UInt8.toNat a0 : Int)) + 7)) 1073741823))] [3, 15] [] [] [(4, .row [.int .u8 (UInt8.toNat a0 : Int)])] (o1 (ob_elem (el_of (i := ((k0 : Nat) : Int)) (by omega) rfl hx0))) ?_
      refine rk tt_ok [(4, .i ((k0 + 1 : Nat) : Int))] [4] [] [] [(1, .val (.i ((k0 + 1 : Nat) : Int)))] (o1 (ob_eq (av_i (wrap_succ k0 (by omega))))) ?_
      exact Exists.intro (andI .i64 (IntKind.i64.wrap (IntKind.i64.wrap (IntKind.i64.wrap (s0 * 131) + IntKind.i64.wrap (UInt8.toNat a0 : Int)) + 7)) 1073741823) (And.intro (weak_fit (by kernel_rfl)) (forL_next hx0 (bif_t h3 (rfl)) hI0))
    ·
      have h3d := of_decide_eq_false h3
      refine awp_exit ?_
      exact Exists.intro s0 (And.intro (weak_fit (by kernel_rfl)) (forL_brk hx0 (bif_f h3 (rfl)) hI0))
  ·
    refine awp_seq ?_
    refine awp_seq ?_
    refine rk tt_ok [(15, .b false)] [] [] [] [(2, .val (.i (code.length : Int))), (3, .val (.b false))] (o2 (ob_eq (av_len code)) (o1 (ob_eq (av_bool (decide_eq_false (p := ((k0 : Nat) : Int) < (code.length : Int)) (by omega)))))) ?_
    refine ckF ?_
    refine awp_exit ?_
    exact Exists.intro s0 (And.intro (weak_fit (by kernel_rfl)) (forL_end hk0 (rfl) hI0))
  ·
    refine awp_seq ?_
    refine rk tt_ok [(2, .p 31 0)] [0, 3] [(31, [.h code, .i 0, .i y0])] [] [] (o0) ?_
    refine awp_ret ?_
    exact nret [] 2 31 (congrArg (fun z => ([.h code, .i ((z.1 : Nat) : Int), .i z.2] : List C)) (show specl01New code = (0, y0) from on_b hD0 (rfl)).symm)
def specl01Byte (code : (List UInt8)) (ci : Nat) (ch : Int) : Int × Nat × Int := (bif decide (((ci : Nat) : Int) < (code.length : Int)) then (andI .i64 (IntKind.i64.wrap (andI .i64 (xorI .i64 (shrI .i64 (IntKind.i64.wrap (IntKind.i64.wrap (ch * 6364136223846793005) + 1442695040888963407)) 33) (shrI .i64 (IntKind.i64.wrap (IntKind.i64.wrap (ch * 6364136223846793005) + 1442695040888963407)) 45)) 255 + IntKind.i64.wrap (UInt8.toNat (nth code ci) : Int))) 255, ci + 1, IntKind.i64.wrap (IntKind.i64.wrap (ch * 6364136223846793005) + 1442695040888963407)) else (andI .i64 (xorI .i64 (shrI .i64 (IntKind.i64.wrap (IntKind.i64.wrap (ch * 6364136223846793005) + 1442695040888963407)) 33) (shrI .i64 (IntKind.i64.wrap (IntKind.i64.wrap (ch * 6364136223846793005) + 1442695040888963407)) 45)) 255, ci, IntKind.i64.wrap (IntKind.i64.wrap (ch * 6364136223846793005) + 1442695040888963407)))
theorem specl01Byte_a (code : (List UInt8)) (ci : Nat) (ch : Int) : AGive Try.prog 66 [.h code, .i ((ci : Nat) : Int), .i ch] [] (.i (((specl01Byte code ci ch)).1)) [.h code, .i ((((specl01Byte code ci ch)).2.1 : Nat) : Int), .i (((specl01Byte code ci ch)).2.2)] := by
  refine agive_of (tt := tt) tt_ok Try.func66 (fn := Try.f66) rfl (by unfold FnOk; kernel_rfl) (Nat.le_of_ble_eq_true rfl) (Nat.le_of_ble_eq_true rfl) rfl rfl fun w0 F0 hG => ?_
  refine awp_seq ?_
  refine rk tt_ok [(2, .i 0)] [] [] [] [] (o0) ?_
  refine awp_seq ?_
  refine rk tt_ok [] [] [(60000, [.h code, .i ((ci : Nat) : Int), .i (IntKind.i64.wrap (IntKind.i64.wrap (ch * 6364136223846793005) + 1442695040888963407))])] [60000] [] (o0) ?_
  refine awp_seq ?_
  refine rd' tt_ok tt_mx [(3, .i (andI .i64 (xorI .i64 (shrI .i64 (IntKind.i64.wrap (IntKind.i64.wrap (ch * 6364136223846793005) + 1442695040888963407)) 33) (shrI .i64 (IntKind.i64.wrap (IntKind.i64.wrap (ch * 6364136223846793005) + 1442695040888963407)) 45)) 255))] [] [] [] [] (o0) ?_
  refine awp_seq ?_
  refine awp_seq ?_
  refine rd' tt_ok tt_mx [(34, .b (decide (((ci : Nat) : Int) < (code.length : Int))))] [] [] [] [(8, .val (.i (code.length : Int)))] (o1 (ob_eq (av_len code))) ?_
  refine ck (decide (((ci : Nat) : Int) < (code.length : Int))) (fun h1 => ?_) (fun h1 => ?_)
  ·
    have h1d := of_decide_eq_true h1
    refine awp_seq ?_
    refine wdB 60000 0 .sh code (fun hw3 => ?_)
    have hl4 : List.length code ≤ 1073741824 := wide_len (hw3)
    have hx2 : code[ci]? = some (nth code ci) := nth_get (by omega)
    refine rd' tt_ok tt_mx [(3, .i (andI .i64 (IntKind.i64.wrap (andI .i64 (xorI .i64 (shrI .i64 (IntKind.i64.wrap (IntKind.i64.wrap (ch * 6364136223846793005) + 1442695040888963407)) 33) (shrI .i64 (IntKind.i64.wrap (IntKind.i64.wrap (ch * 6364136223846793005) + 1442695040888963407)) 45)) 255 + IntKind.i64.wrap (UInt8.toNat (nth code ci) : Int))) 255))] [3, 34] [] [] [(9, .row [.int .u8 (UInt8.toNat (nth code ci) : Int)])] (o1 (ob_elem (el_of (i := ((ci : Nat) : Int)) (by omega) rfl hx2))) ?_
    refine rk tt_ok [] [] [(60000, [.h code, .i ((ci + 1 : Nat) : Int), .i (IntKind.i64.wrap (IntKind.i64.wrap (ch * 6364136223846793005) + 1442695040888963407))])] [60000] [(5, .val (.i ((ci + 1 : Nat) : Int)))] (o1 (ob_eq (av_i (wrap_succ ci (by omega))))) ?_
    refine awp_seq ?_
    refine rk tt_ok [(2, .i (andI .i64 (IntKind.i64.wrap (andI .i64 (xorI .i64 (shrI .i64 (IntKind.i64.wrap (IntKind.i64.wrap (ch * 6364136223846793005) + 1442695040888963407)) 33) (shrI .i64 (IntKind.i64.wrap (IntKind.i64.wrap (ch * 6364136223846793005) + 1442695040888963407)) 45)) 255 + IntKind.i64.wrap (UInt8.toNat (nth code ci) : Int))) 255))] [2, 3] [] [] [] (o0) ?_
    refine awp_ret ?_
    have hE5 : specl01Byte code ci ch = (andI .i64 (IntKind.i64.wrap (andI .i64 (xorI .i64 (shrI .i64 (IntKind.i64.wrap (IntKind.i64.wrap (ch * 6364136223846793005) + 1442695040888963407)) 33) (shrI .i64 (IntKind.i64.wrap (IntKind.i64.wrap (ch * 6364136223846793005) + 1442695040888963407)) 45)) 255 + IntKind.i64.wrap (UInt8.toNat (nth code ci) : Int))) 255, ci + 1, IntKind.i64.wrap (IntKind.i64.wrap (ch * 6364136223846793005) + 1442695040888963407)) := bif_t h1 (rfl)
    exact gret [] (congrArg (fun z => (.i z.1 : AV)) hE5.symm) (congrArg (fun z => ([.h code, .i ((z.2.1 : Nat) : Int), .i z.2.2] : List C)) hE5.symm)
  ·
    have h1d := of_decide_eq_false h1
    refine awp_skip ?_
    refine awp_seq ?_
    refine rk tt_ok [(2, .i (andI .i64 (xorI .i64 (shrI .i64 (IntKind.i64.wrap (IntKind.i64.wrap (ch * 6364136223846793005) + 1442695040888963407)) 33) (shrI .i64 (IntKind.i64.wrap (IntKind.i64.wrap (ch * 6364136223846793005) + 1442695040888963407)) 45)) 255))] [2, 3, 34] [] [] [] (o0) ?_
    refine awp_ret ?_
    have hE6 : specl01Byte code ci ch = (andI .i64 (xorI .i64 (shrI .i64 (IntKind.i64.wrap (IntKind.i64.wrap (ch * 6364136223846793005) + 1442695040888963407)) 33) (shrI .i64 (IntKind.i64.wrap (IntKind.i64.wrap (ch * 6364136223846793005) + 1442695040888963407)) 45)) 255, ci, IntKind.i64.wrap (IntKind.i64.wrap (ch * 6364136223846793005) + 1442695040888963407)) := bif_f h1 (rfl)
    exact gret [] (congrArg (fun z => (.i z.1 : AV)) hE6.symm) (congrArg (fun z => ([.h code, .i ((z.2.1 : Nat) : Int), .i z.2.2] : List C)) hE6.symm)
end Go.Proofs.Ytmbdajoapbcigaa
namespace Go.Proofs.Ytmbdajoapbcigaa
open Go.RowKit
theorem and255 (a : Int) : 0 ≤ andI .i64 a 255 ∧ andI .i64 a 255 ≤ 255 := by
  have h : (BitVec.ofInt 64 a &&& BitVec.ofInt 64 255).toNat ≤ 255 := by
    rw [BitVec.toNat_and]
    exact Nat.le_trans Nat.and_le_right (by decide)
  have e : andI .i64 a 255 = IntKind.i64.wrap (BitVec.ofInt 64 a &&& BitVec.ofInt 64 255).toNat := rfl
  rw [e, IntWalk.i64_in _ (by omega)]
  omega
theorem specl01Byte_bd (code : List UInt8) (ci : Nat) (ch : Int) : 0 ≤ (specl01Byte code ci ch).1 ∧ (specl01Byte code ci ch).1 ≤ 255 := by
  unfold specl01Byte
  cases decide (((ci : Nat) : Int) < (code.length : Int)) <;> exact and255 _
open GoE (enc wide)
def specl01Below (code : (List UInt8)) (ci : Nat) (ch : Int) (n : Int) : Int × Nat × Int := (bif decide (n ≤ (0 : Int)) then (0, ci, ch) else (bif decide (n ≤ (256 : Int)) then (lt (α := Int × Nat × Int) (specl01Byte code ci ch) (fun x4 => (Int.tmod x4.1 n, x4.2.1, x4.2.2))) else (lt (α := Int × Nat × Int) (specl01Byte code ci ch) (fun x6 => (lt (α := Int × Nat × Int) (specl01Byte code x6.2.1 x6.2.2) (fun x7 => (lt (α := Int × Nat × Int) (specl01Byte code x7.2.1 x7.2.2) (fun x8 => (lt (α := Int × Nat × Int) (specl01Byte code x8.2.1 x8.2.2) (fun x9 => (Int.tmod ((((x6.1 * 16777216) + (x7.1 * 65536)) + (x8.1 * 256)) + x9.1) n, x9.2.1, x9.2.2)))))))))))
theorem specl01Below_a (code : (List UInt8)) (ci : Nat) (ch : Int) (n : Int) : AGive Try.prog 35 [.h code, .i ((ci : Nat) : Int), .i ch] [.i n] (.i (((specl01Below code ci ch n)).1)) [.h code, .i ((((specl01Below code ci ch n)).2.1 : Nat) : Int), .i (((specl01Below code ci ch n)).2.2)] := by
  refine agive_of (tt := tt) tt_ok Try.func35 (fn := Try.f35) rfl (by unfold FnOk; kernel_rfl) (Nat.le_of_ble_eq_true rfl) (Nat.le_of_ble_eq_true rfl) rfl rfl fun w0 F0 hG => ?_
  refine awp_seq ?_
  refine rk tt_ok [(4, .i 0)] [] [] [] [] (o0) ?_
  refine awp_seq ?_
  refine awp_seq ?_
  refine rk tt_ok [(10, .b (decide (n ≤ (0 : Int))))] [] [] [] [] (o0) ?_
  refine ck (decide (n ≤ (0 : Int))) (fun h1 => ?_) (fun h1 => ?_)
  ·
    have h1d := of_decide_eq_true h1
    refine awp_seq ?_
    refine rk tt_ok [] [10] [] [] [] (o0) ?_
    refine awp_ret ?_
    have hE2 : specl01Below code ci ch n = (0, ci, ch) := bif_t h1 (rfl)
    exact gret [] (congrArg (fun z => (.i z.1 : AV)) hE2.symm) (congrArg (fun z => ([.h code, .i ((z.2.1 : Nat) : Int), .i z.2.2] : List C)) hE2.symm)
  ·
    have h1d := of_decide_eq_false h1
    refine awp_skip ?_
    refine awp_seq ?_
    refine awp_seq ?_
    refine rk tt_ok [(12, .b (decide (n ≤ (256 : Int))))] [10] [] [] [] (o0) ?_
    refine ck (decide (n ≤ (256 : Int))) (fun h3 => ?_) (fun h3 => ?_)
    ·
      have h3d := of_decide_eq_true h3
      refine awp_seq ?_
      obtain ⟨x4, hx4⟩ : ∃ z : Int × Nat × Int, specl01Byte code ci ch = z := ⟨_, rfl⟩
      have hbx4 := hx4 ▸ specl01Byte_bd code ci ch
      refine rk tt_ok [(4, .i (Int.tmod x4.1 n))] [4, 12] [(60000, [.h code, .i ((x4.2.1 : Nat) : Int), .i x4.2.2])] [60000] [(1, .give none (.i x4.1) [.h code, .i ((x4.2.1 : Nat) : Int), .i x4.2.2])] (o2 (ob_give (hx4 ▸ specl01Byte_a code ci ch)) (o2 (ob_nz (n := n) (by omega)) (o1 (ob_inr (k := .i64) (n := Int.tmod x4.1 n) (inr_rem0 (by omega)))))) ?_
      refine awp_ret ?_
      have hE5 : specl01Below code ci ch n = (Int.tmod x4.1 n, x4.2.1, x4.2.2) := bif_f h1 (bif_t h3 (lt_b hx4 (rfl)))
      exact gret [] (congrArg (fun z => (.i z.1 : AV)) hE5.symm) (congrArg (fun z => ([.h code, .i ((z.2.1 : Nat) : Int), .i z.2.2] : List C)) hE5.symm)
    ·
      have h3d := of_decide_eq_false h3
      refine awp_skip ?_
      refine awp_seq ?_
      obtain ⟨x6, hx6⟩ : ∃ z : Int × Nat × Int, specl01Byte code ci ch = z := ⟨_, rfl⟩
      have hbx6 := hx6 ▸ specl01Byte_bd code ci ch
      refine rk tt_ok [(5, .i x6.1)] [12] [(60000, [.h code, .i ((x6.2.1 : Nat) : Int), .i x6.2.2])] [60000] [(1, .give none (.i x6.1) [.h code, .i ((x6.2.1 : Nat) : Int), .i x6.2.2])] (o1 (ob_give (hx6 ▸ specl01Byte_a code ci ch))) ?_
      refine awp_seq ?_
      obtain ⟨x7, hx7⟩ : ∃ z : Int × Nat × Int, specl01Byte code x6.2.1 x6.2.2 = z := ⟨_, rfl⟩
      have hbx7 := hx7 ▸ specl01Byte_bd code x6.2.1 x6.2.2
      refine rk tt_ok [(6, .i x7.1)] [] [(60000, [.h code, .i ((x7.2.1 : Nat) : Int), .i x7.2.2])] [60000] [(1, .give none (.i x7.1) [.h code, .i ((x7.2.1 : Nat) : Int), .i x7.2.2])] (o1 (ob_give (hx7 ▸ specl01Byte_a code x6.2.1 x6.2.2))) ?_
      refine awp_seq ?_
      obtain ⟨x8, hx8⟩ : ∃ z : Int × Nat × Int, specl01Byte code x7.2.1 x7.2.2 = z := ⟨_, rfl⟩
      have hbx8 := hx8 ▸ specl01Byte_bd code x7.2.1 x7.2.2
      refine rk tt_ok [(7, .i x8.1)] [] [(60000, [.h code, .i ((x8.2.1 : Nat) : Int), .i x8.2.2])] [60000] [(1, .give none (.i x8.1) [.h code, .i ((x8.2.1 : Nat) : Int), .i x8.2.2])] (o1 (ob_give (hx8 ▸ specl01Byte_a code x7.2.1 x7.2.2))) ?_
      refine awp_seq ?_
      obtain ⟨x9, hx9⟩ : ∃ z : Int × Nat × Int, specl01Byte code x8.2.1 x8.2.2 = z := ⟨_, rfl⟩
      have hbx9 := hx9 ▸ specl01Byte_bd code x8.2.1 x8.2.2
      refine rk tt_ok [(8, .i x9.1)] [] [(60000, [.h code, .i ((x9.2.1 : Nat) : Int), .i x9.2.2])] [60000] [(1, .give none (.i x9.1) [.h code, .i ((x9.2.1 : Nat) : Int), .i x9.2.2])] (o1 (ob_give (hx9 ▸ specl01Byte_a code x8.2.1 x8.2.2))) ?_
      refine awp_seq ?_
      refine rk tt_ok [(4, .i (Int.tmod ((((x6.1 * 16777216) + (x7.1 * 65536)) + (x8.1 * 256)) + x9.1) n))] [1, 4, 5, 6, 7, 8] [] [] [(1, .val (.i (x6.1 * 16777216))), (3, .val (.i (x7.1 * 65536))), (4, .val (.i ((x6.1 * 16777216) + (x7.1 * 65536)))), (6, .val (.i (x8.1 * 256))), (7, .val (.i (((x6.1 * 16777216) + (x7.1 * 65536)) + (x8.1 * 256)))), (9, .val (.i ((((x6.1 * 16777216) + (x7.1 * 65536)) + (x8.1 * 256)) + x9.1)))] (o2 (ob_eq (av_i (IntWalk.i64_in (x6.1 * 16777216) (by omega)))) (o2 (ob_eq (av_i (IntWalk.i64_in (x7.1 * 65536) (by omega)))) (o2 (ob_eq (av_i (IntWalk.i64_in ((x6.1 * 16777216) + (x7.1 * 65536)) (by omega)))) (o2 (ob_eq (av_i (IntWalk.i64_in (x8.1 * 256) (by omega)))) (o2 (ob_eq (av_i (IntWalk.i64_in (((x6.1 * 16777216) + (x7.1 * 65536)) + (x8.1 * 256)) (by omega)))) (o2 (ob_eq (av_i (IntWalk.i64_in ((((x6.1 * 16777216) + (x7.1 * 65536)) + (x8.1 * 256)) + x9.1) (by omega)))) (o2 (ob_nz (n := n) (by omega)) (o1 (ob_inr (k := .i64) (n := Int.tmod ((((x6.1 * 16777216) + (x7.1 * 65536)) + (x8.1 * 256)) + x9.1) n) (inr_rem0 (by omega))))))))))) ?_
      refine awp_ret ?_
      have hE10 : specl01Below code ci ch n = (Int.tmod ((((x6.1 * 16777216) + (x7.1 * 65536)) + (x8.1 * 256)) + x9.1) n, x9.2.1, x9.2.2) := bif_f h1 (bif_f h3 (lt_b hx6 (lt_b hx7 (lt_b hx8 (lt_b hx9 (rfl))))))
      exact gret [] (congrArg (fun z => (.i z.1 : AV)) hE10.symm) (congrArg (fun z => ([.h code, .i ((z.2.1 : Nat) : Int), .i z.2.2] : List C)) hE10.symm)
end Go.Proofs.Ytmbdajoapbcigaa
namespace Go.Proofs.Ytmbdajoapbcigaa
open Go.RowKit
theorem specl01Below_bd (code : List UInt8) (ci : Nat) (ch n : Int) : 0 ≤ (specl01Below code ci ch n).1 ∧ (0 < n → (specl01Below code ci ch n).1 < n) ∧ (n ≤ 0 → (specl01Below code ci ch n).1 = 0) := by
  unfold specl01Below lt
  by_cases h0 : n ≤ 0
  · rw [decide_eq_true h0]
    exact ⟨Int.le_refl _, fun h => by omega, fun _ => rfl⟩
  · rw [decide_eq_false h0]
    have hn : 0 < n := by omega
    cases decide (n ≤ (256 : Int)) with
    | true =>
      have := specl01Byte_bd code ci ch
      exact ⟨Int.tmod_nonneg _ this.1, fun _ => Int.tmod_lt_of_pos _ hn, fun h => by omega⟩
    | false =>
      simp only [cond_false]
      generalize hx6 : specl01Byte code ci ch = x6
      generalize hx7 : specl01Byte code x6.2.1 x6.2.2 = x7
      generalize hx8 : specl01Byte code x7.2.1 x7.2.2 = x8
      generalize hx9 : specl01Byte code x8.2.1 x8.2.2 = x9
      have h6 := hx6 ▸ specl01Byte_bd code ci ch
      have h7 := hx7 ▸ specl01Byte_bd code x6.2.1 x6.2.2
      have h8 := hx8 ▸ specl01Byte_bd code x7.2.1 x7.2.2
      have h9 := hx9 ▸ specl01Byte_bd code x8.2.1 x8.2.2
      exact ⟨Int.tmod_nonneg _ (by omega), fun _ => Int.tmod_lt_of_pos _ hn, fun h => by omega⟩
open GoE (enc wide)
def specDrawPlaces_f0 (code : (List UInt8)) (_ : Nat) (s0 : (List Int) × Nat × Int) : Rd ((List Int)) ((List Int) × Nat × Int) ((List Int)) := (lt (α := Int × Nat × Int) (specl01Below code s0.2.1 s0.2.2 10000) (fun x2 => (.next (s0.1 ++ [x2.1], x2.2.1, x2.2.2))))
def specDrawPlaces_e0 (_ : Nat) (s0 : (List Int) × Nat × Int) : (List Int) := s0.1
def specDrawPlaces (code : (List UInt8)) : (List Int) := (lt (α := Nat × Int) (specl01New code) (fun x1 => (Out.on (forN (specDrawPlaces_f0 code) specDrawPlaces_e0 (Int.toNat (12 : Int)) 0 ([], x1.1, x1.2)) (fun y0 => y0))))
theorem specDrawPlaces_a (code : (List UInt8)) : ACalls Try.prog 14 [.h code] (.o 0 (specDrawPlaces code)) := by
  refine acalls_of (tt := tt) tt_ok Try.func14 (fn := Try.f14) rfl (by unfold FnOk; kernel_rfl) (Nat.le_of_ble_eq_true rfl) fun w0 F0 hG => ?_
  refine awp_seq ?_
  refine rk tt_ok [(2, .e 0)] [] [] [] [] (o0) ?_
  refine awp_seq ?_
  obtain ⟨x1, hx1⟩ : ∃ z : Nat × Int, specl01New code = z := ⟨_, rfl⟩
  refine rk tt_ok [(3, .p 7 0)] [0] [(7, [.h code, .i ((x1.1 : Nat) : Int), .i x1.2])] [] [(1, .new [.h code, .i ((x1.1 : Nat) : Int), .i x1.2])] (o1 (ob_new (hx1 ▸ specl01New_a code))) ?_
  refine awp_seq ?_
  refine rk tt_ok [(4, .one (.slc (.own true 512) 1 []))] [] [] [] [] (o0) ?_
  refine awp_seq ?_
  refine awp_seq ?_
  refine rk tt_ok [(5, .i 0)] [] [] [] [] (o0) ?_
  refine blk (fun (k0 : Nat) (s0 : (List Int) × Nat × Int) => [(4, .o 147202 s0.1), (5, .i ((k0 : Nat) : Int))]) [4, 5] (fun k0 s0 => [(7, [.h code, .i ((s0.2.1 : Nat) : Int), .i s0.2.2])]) [7] (fun (y0 : (List Int)) => [(4, .o 147352 y0)]) [3, 4, 5] (fun y0 => []) [7] (fun (k0 : Nat) (s0 : (List Int) × Nat × Int) => (forN (specDrawPlaces_f0 code) specDrawPlaces_e0 (Int.toNat (12 : Int)) 0 ([], x1.1, x1.2)) = forN (specDrawPlaces_f0 code) specDrawPlaces_e0 ((Int.toNat (12 : Int)) - k0) k0 s0 ∧ List.length s0.1 ≤ k0) (fun (y0 : (List Int)) => (forN (specDrawPlaces_f0 code) specDrawPlaces_e0 (Int.toNat (12 : Int)) 0 ([], x1.1, x1.2)) = .brk y0) (Int.toNat (12 : Int)) ([], x1.1, x1.2) (weak_sf [(512, 147202)] (by kernel_rfl)) ⟨rfl, (by simp)⟩ (fun k0 s0 hk0 hI0 => ?_) (fun k0 s0 hk0 hI0 => ?_) (fun y0 hD0 => ?_)
  ·
    have hA0_0 := hI0.2
    refine awp_seq ?_
    refine awp_seq ?_
    refine rk tt_ok [(10, .b true)] [] [] [] [(1, .val (.b true))] (o1 (ob_eq (av_bool (decide_eq_true (p := ((k0 : Nat) : Int) < (12 : Int)) (by omega))))) ?_
    refine ckT ?_
    refine awp_skip ?_
    refine awp_seq ?_
    refine awp_block ?_
    obtain ⟨x2, hx2⟩ : ∃ z : Int × Nat × Int, specl01Below code s0.2.1 s0.2.2 10000 = z := ⟨_, rfl⟩
    have hbx2 := hx2 ▸ specl01Below_bd code s0.2.1 s0.2.2 10000
    refine wdT 4 0 (.own true 147202) s0.1 (fun hw3 => ?_)
    have hl4 : List.length s0.1 ≤ 1073741824 := wide_len (hw3)
    refine rk tt_ok [(4, .one (.slc (.own true 1088) 1 ((eL s0.1) ++ [[.i x2.1]])))] [4, 10] [(7, [.h code, .i ((x2.2.1 : Nat) : Int), .i x2.2.2])] [7] [(2, .give none (.i x2.1) [.h code, .i ((x2.2.1 : Nat) : Int), .i x2.2.2])] (o2 (ob_give (hx2 ▸ specl01Below_a code s0.2.1 s0.2.2 10000)) (o1 (ob_len (len_of (eL_length s0.1) (eL_length [x2.1]) (by first | omega | (simp only [List.length_cons, List.length_nil]; omega) | (simp; omega) | simp))))) ?_
    refine eqn [(4, .o 1088 (s0.1 ++ [x2.1]))] [4] [] [] (by rw [show ((eL s0.1) ++ [[.i x2.1]]) = (eL (s0.1 ++ [x2.1])) from app_eL (rfl) (rfl)]; first | done | kernel_rfl) ?_
    refine rk tt_ok [(5, .i ((k0 + 1 : Nat) : Int))] [5] [] [] [(1, .val (.i ((k0 + 1 : Nat) : Int)))] (o1 (ob_eq (av_i (wrap_succ k0 (by omega))))) ?_
    exact Exists.intro (s0.1 ++ [x2.1], x2.2.1, x2.2.2) (And.intro (weak_sf [(1088, 147202)] (by kernel_rfl)) ⟨forN_next hk0 (lt_b hx2 (rfl)) hI0.1, by first | omega | (simp; omega) | simp⟩)
  ·
    have hA0_0 := hI0.2
    refine awp_seq ?_
    refine awp_seq ?_
    refine rk tt_ok [(10, .b false)] [] [] [] [(1, .val (.b false))] (o1 (ob_eq (av_bool (decide_eq_false (p := ((k0 : Nat) : Int) < (12 : Int)) (by omega))))) ?_
    refine ckF ?_
    refine awp_exit ?_
    exact Exists.intro s0.1 (And.intro (weak_sf [(147202, 147352)] (by kernel_rfl)) (forN_end hk0 (rfl) hI0.1))
  ·
    refine awp_seq ?_
    refine rk tt_ok [(2, .o 147352 y0)] [2, 4] [] [] [] (o0) ?_
    refine awp_ret ?_
    exact pret [] (congrArg (fun z => (.o 0 z : AV)) (show specDrawPlaces code = y0 from lt_b hx1 (on_b hD0 (rfl))).symm)
end Go.Proofs.Ytmbdajoapbcigaa
namespace Go.Proofs.Ytmbdajoapbcigaa
open Go.RowKit
theorem places_go (code : List UInt8) : ∀ (n k : Nat) (s : List Int × Nat × Int), s.1.length = k → (∀ x, x ∈ s.1 → 0 ≤ x ∧ x < 10000) → ∃ t, forN (specDrawPlaces_f0 code) specDrawPlaces_e0 n k s = .brk t ∧ t.length = k + n ∧ ∀ x, x ∈ t → 0 ≤ x ∧ x < 10000
  | 0, k, s, h, hb => ⟨s.1, rfl, h, hb⟩
  | n + 1, k, s, h, hb => by
    simp only [forN, specDrawPlaces_f0, lt]
    have hd := specl01Below_bd code s.2.1 s.2.2 10000
    obtain ⟨t, h1, h2, h3⟩ := places_go code n (k + 1) (s.1 ++ [(specl01Below code s.2.1 s.2.2 10000).1], (specl01Below code s.2.1 s.2.2 10000).2.1, (specl01Below code s.2.1 s.2.2 10000).2.2) (by simp [h]) (fun x hx => by
      rcases List.mem_append.1 hx with hx | hx
      · exact hb x hx
      · obtain rfl := List.mem_singleton.1 hx
        exact ⟨hd.1, hd.2.1 (by decide)⟩)
    exact ⟨t, h1, by omega, h3⟩
theorem places_ok (code : List UInt8) : (specDrawPlaces code).length = 12 ∧ ∀ x, x ∈ specDrawPlaces code → 0 ≤ x ∧ x < 10000 := by
  unfold specDrawPlaces lt
  obtain ⟨t, h1, h2, h3⟩ := places_go code (Int.toNat (12 : Int)) 0 ([], (specl01New code).1, (specl01New code).2) rfl (fun x hx => by simp at hx)
  simp only [h1, Out.on]
  exact ⟨by simpa using h2, h3⟩
theorem places_len (code : List UInt8) : (specDrawPlaces code).length = 12 := (places_ok code).1
theorem places_bd (code : List UInt8) : ∀ x, x ∈ specDrawPlaces code → 0 ≤ x ∧ x < 10000 := (places_ok code).2
theorem place_mod (code : List UInt8) (i : Nat) (hi : i < 12) {m : Int} (hm : 0 < m) : (0 ≤ nth (specDrawPlaces code) i ∧ nth (specDrawPlaces code) i < 10000) ∧ 0 ≤ Int.tmod (nth (specDrawPlaces code) i) m ∧ Int.tmod (nth (specDrawPlaces code) i) m < m := by
  have h := places_bd code _ (List.mem_of_getElem? (nth_get (l := specDrawPlaces code) (i := i) (by rw [places_len]; exact hi)))
  exact ⟨h, Int.tmod_nonneg _ h.1, Int.tmod_lt_of_pos _ hm⟩
end Go.Proofs.Ytmbdajoapbcigaa
