/- What functions compute, and that they do (printed by am2.py): each function as a Lean function, then its contract. -/
import Derived.Test.YtiafgmepdgfpbaaCud
import Derived.Test.YtiafgmepdgfpbaaZc
import Derived.Test.YtiafgmepdgfpbaaDf
import Derived.KernelRfl
set_option linter.unusedVariables false
set_option linter.unusedSimpArgs false
namespace Go.Proofs.Ytiafgmepdgfpbaa
open Go.RowKit
open GoE (enc wide)
def specl01In (x : Int) (least : Int) (most : Int) : Bool := (decide (x ≥ least) && decide (x ≤ most))
theorem specl01In_a (x : Int) (least : Int) (most : Int) : ACalls Try.prog 104 [.i x, .i least, .i most] (.b (specl01In x least most)) := by
  refine en tt_ok Try.func104 fun w0 F0 hG => ?_
  refine sn tt_ok [0, 1, 2, 6] [] (p0) ?_
  refine awp_seq ?_
  refine mz [(6, .b false)] [] [] [] ?_
  refine jn [(6, .b (decide (x ≥ least) && decide (x ≤ most)))] [0, 1, 2, 6] [] [] (decide (x ≥ least)) (fun h1 => ?_) (fun h1 => ?_) ?_
  ·
    have h1d := of_decide_eq_true h1
    refine rn tt_ok [6] [] (pt 2 h1 p0) ?_
    exact ⟨rfl, weak_fit (by rw [h1]; first | done | kernel_rfl)⟩
  ·
    have h1d := of_decide_eq_false h1
    refine rn tt_ok [6] [] (pf 2 h1 p0) ?_
    exact ⟨rfl, weak_fit (by rw [h1]; first | done | kernel_rfl)⟩
  refine awp_ret ?_
  exact pb [] (show specl01In x least most = (decide (x ≥ least) && decide (x ≤ most)) from rfl)
def specl02Text_f0 (s_ : ByteArray) (k0 : Nat) (_ : Unit) : Rd (Bool) (Unit) (Unit) := (bif (decide (strAt s_ ((k0 : Nat) : Int) < (97 : Int)) || decide (strAt s_ ((k0 : Nat) : Int) > (122 : Int))) then (.ret false) else (.next ()))
def specl02Text_e0 (_ : Nat) (_ : Unit) : Unit := ()
def specl02Text (s_ : ByteArray) (most : Int) : Bool := (Out.on (forN (specl02Text_f0 s_) specl02Text_e0 (Int.toNat (ByteArray.size s_ : Int)) 0 ()) (fun _ => (specl01In (ByteArray.size s_ : Int) 1 most)))
theorem specl02Text_a (s_ : ByteArray) (most : Int) : ACalls Try.prog 120 [.s s_, .i most] (.b (specl02Text s_ most)) := by
  refine en tt_ok Try.func120 fun w0 F0 hG => ?_
  refine sn tt_ok [0, 1, 4] [] (p0) ?_
  refine awp_seq ?_
  refine tn tt_ok [0, 1, 4, 5] [] (p0) ?_
  refine mz [(4, .b false), (5, .i 0)] [] [] [] ?_
  refine stT 0 0 s_ (fun hs1 => ?_)
  refine blN0 (specl02Text_f0 s_) specl02Text_e0 (Int.toNat (ByteArray.size s_ : Int)) () (fun k0 _ => [(5, .i ((k0 : Nat) : Int))]) [5] (fun _ => []) [5] (weak_fit (by kernel_rfl)) (fun k0 s0 hk0 hI0 => ?_) (fun k0 s0 hk0 hI0 => ?_) (fun y0 hD0 => ?_)
  ·
    refine awp_seq ?_
    refine sn tt_ok [0, 1, 4, 5, 9] [] (pe 3 (av_bool (decide_eq_true (p := ((k0 : Nat) : Int) < (ByteArray.size s_ : Int)) (by omega))) p0) ?_
    refine ckT ?_
    refine awp_skip ?_
    refine awp_seq ?_
    refine awp_block ?_
    refine awp_seq ?_
    refine mz [(9, .b true)] [] [] [] ?_
    refine jn [(21, .b (decide (strAt s_ ((k0 : Nat) : Int) < (97 : Int)) || decide (strAt s_ ((k0 : Nat) : Int) > (122 : Int))))] [9] [] [] (decide (strAt s_ ((k0 : Nat) : Int) < (97 : Int))) (fun h2 => ?_) (fun h2 => ?_) ?_
    ·
      have h2d := of_decide_eq_true h2
      refine rn tt_ok [0, 1, 4, 5, 21] [] (px (ob_idx (i := ((k0 : Nat) : Int)) (n := (ByteArray.size s_)) (by omega)) (pt 3 h2 p0)) ?_
      exact ⟨rfl, weak_fit (by rw [h2]; first | done | kernel_rfl)⟩
    ·
      have h2d := of_decide_eq_false h2
      refine rn tt_ok [0, 1, 4, 5, 21] [] (px (ob_idx (i := ((k0 : Nat) : Int)) (n := (ByteArray.size s_)) (by omega)) (pf 3 h2 (px (ob_idx (i := ((k0 : Nat) : Int)) (n := (ByteArray.size s_)) (by omega)) p0))) ?_
      exact ⟨rfl, weak_fit (by rw [h2]; first | done | kernel_rfl)⟩
    refine ck (decide (strAt s_ ((k0 : Nat) : Int) < (97 : Int)) || decide (strAt s_ ((k0 : Nat) : Int) > (122 : Int))) (fun h3 => ?_) (fun h3 => ?_)
    ·
      refine su tt_ok [] [21] [] [] (p0) ?_
      refine awp_ret ?_
      have hr4 : (forN (specl02Text_f0 s_) specl02Text_e0 (Int.toNat (ByteArray.size s_ : Int)) 0 ()) = .ret false := forN_ret hk0 (bif_t h3 (rfl)) hI0
      exact pb [] (on_r hr4)
    ·
      have h3l : (decide (strAt s_ ((k0 : Nat) : Int) < (97 : Int))) = false := or_l h3
      have h3ld := of_decide_eq_false h3l
      have h3r : (decide (strAt s_ ((k0 : Nat) : Int) > (122 : Int))) = false := or_r h3
      have h3rd := of_decide_eq_false h3r
      refine awp_skip ?_
      refine rn tt_ok [0, 1, 4, 5] [] (pe 1 (av_i (wrap_succ k0 (by omega))) p0) ?_
      exact Exists.intro _ (And.intro (weak_fit (by kernel_rfl)) (forN_next hk0 (bif_f h3 (rfl)) hI0))
  ·
    refine awp_seq ?_
    refine sn tt_ok [0, 1, 4, 5, 9] [] (pe 3 (av_bool (decide_eq_false (p := ((k0 : Nat) : Int) < (ByteArray.size s_ : Int)) (by omega))) p0) ?_
    refine ckF ?_
    refine awp_exit ?_
    exact Exists.intro _ (And.intro (weak_fit (by kernel_rfl)) (forN_end hk0 (rfl) hI0))
  ·
    refine sn tt_ok [4] [] (pc 3 (specl01In_a (ByteArray.size s_ : Int) 1 most) p0) ?_
    refine awp_ret ?_
    exact pb [] (on_b hD0 (rfl))
def specIsValidString (s_ : ByteArray) : Bool := (specl02Text s_ 6)
theorem specIsValidString_a (s_ : ByteArray) : ACalls Try.prog 121 [.s s_] (.b (specIsValidString s_)) := by
  refine en tt_ok Try.func121 fun w0 F0 hG => ?_
  refine sn tt_ok [0, 2] [] (p0) ?_
  refine tn tt_ok [2] [] (pc 1 (specl02Text_a s_ 6) p0) ?_
  refine awp_ret ?_
  exact pb [] (show specIsValidString s_ = (specl02Text s_ 6) from rfl)
def specIsValidValue (v : ValueD) : Bool := (bif (v.1 == (0 : Int)) then ((v.1 == 0) && ((v.2.1 == 0) && ((v.2.2.toList == (⟨#[]⟩ : ByteArray).toList) && true))) else (bif (v.1 == (1 : Int)) then ((specl01In v.2.1 0 999) && (v.2.2.toList == (⟨#[]⟩ : ByteArray).toList)) else (bif (v.1 == (2 : Int)) then ((specIsValidString v.2.2) && (v.2.1 == (0 : Int))) else false)))
theorem specIsValidValue_a (v : ValueD) : ACalls Try.prog 113 [.a [.i v.1, .i v.2.1, .s v.2.2]] (.b (specIsValidValue v)) := by
  refine en tt_ok Try.func113 fun w0 F0 hG => ?_
  refine sn tt_ok [1, 2] [1] (p0) ?_
  refine awp_seq ?_
  refine tn tt_ok [1, 2, 4] [1] (p0) ?_
  refine awp_block ?_
  refine tu tt_ok [(1, .p 1 0), (2, .b false), (4, .i v.1), (5, .b (v.1 == (0 : Int)))] [0] [(1, [.i v.1, .i v.2.1, .s v.2.2])] [] (p0) ?_
  refine ck (v.1 == (0 : Int)) (fun h1 => ?_) (fun h1 => ?_)
  ·
    have h1d := eq_of_beq h1
    refine sn tt_ok [2] [] (p0) ?_
    refine awp_ret ?_
    exact pb [] (bif_t h1 (rfl))
  ·
    have h1d := ne_of_beq h1
    refine sn tt_ok [1, 2, 4, 10] [1] (p0) ?_
    refine ck (v.1 == (1 : Int)) (fun h2 => ?_) (fun h2 => ?_)
    ·
      have h2d := eq_of_beq h2
      refine awp_seq ?_
      refine mz [(10, .b (v.1 == (1 : Int)))] [5] [] [] ?_
      refine jn [(2, .b ((specl01In v.2.1 0 999) && (v.2.2.toList == (⟨#[]⟩ : ByteArray).toList)))] [1, 2, 4, 10] [] [1] (specl01In v.2.1 0 999) (fun h3 => ?_) (fun h3 => ?_) ?_
      ·
        refine rn tt_ok [2] [] (pc 2 (cb h3 (specl01In_a v.2.1 0 999)) p0) ?_
        exact ⟨rfl, weak_fit (by rw [h3]; first | done | kernel_rfl)⟩
      ·
        refine rn tt_ok [2] [] (pc 2 (cb h3 (specl01In_a v.2.1 0 999)) p0) ?_
        exact ⟨rfl, weak_fit (by rw [h3]; first | done | kernel_rfl)⟩
      refine awp_ret ?_
      exact pb [] (bif_f h1 (bif_t h2 (rfl)))
    ·
      have h2d := ne_of_beq h2
      refine tn tt_ok [1, 2, 20] [1] (p0) ?_
      refine ck (v.1 == (2 : Int)) (fun h4 => ?_) (fun h4 => ?_)
      ·
        have h4d := eq_of_beq h4
        refine awp_seq ?_
        refine mz [(20, .b (v.1 == (2 : Int)))] [4, 5] [] [] ?_
        refine jn [(2, .b ((specIsValidString v.2.2) && (v.2.1 == (0 : Int))))] [1, 2, 20] [] [1] (specIsValidString v.2.2) (fun h5 => ?_) (fun h5 => ?_) ?_
        ·
          refine rn tt_ok [2] [] (pc 2 (cb h5 (specIsValidString_a v.2.2)) p0) ?_
          exact ⟨rfl, weak_fit (by rw [h5]; first | done | kernel_rfl)⟩
        ·
          refine rn tt_ok [2] [] (pc 2 (cb h5 (specIsValidString_a v.2.2)) p0) ?_
          exact ⟨rfl, weak_fit (by rw [h5]; first | done | kernel_rfl)⟩
        refine awp_ret ?_
        exact pb [] (bif_f h1 (bif_f h2 (bif_t h4 (rfl))))
      ·
        have h4d := ne_of_beq h4
        refine awp_skip ?_
        refine tu tt_ok [] [1, 4, 5] [] [1] (p0) ?_
        refine awp_ret ?_
        exact pb [] (bif_f h1 (bif_f h2 (bif_f h4 (rfl))))
def specFieldKind_f0 (name : ByteArray) (_ : Nat) (a0 : FieldD) (_ : Unit) : Rd (Int) (Unit) (Unit) := (bif (a0.1.toList == name.toList) then (.ret a0.2) else (.next ()))
def specFieldKind_e0 (_ : Nat) (_ : Unit) : Unit := ()
def specFieldKind (s_ : (List FieldD)) (name : ByteArray) : Int := (Out.on (forL (specFieldKind_f0 name) specFieldKind_e0 s_ 0 ()) (fun _ => 0))
theorem specFieldKind_a (s_ : (List FieldD)) (name : ByteArray) : ACalls Try.prog 114 [.h s_, .s name] (.i (specFieldKind s_ name)) := by
  refine en tt_ok Try.func114 fun w0 F0 hG => ?_
  refine sn tt_ok [0, 1, 4] [] (p0) ?_
  refine awp_seq ?_
  refine tn tt_ok [0, 1, 4, 5] [] (p0) ?_
  refine mz [(4, .i 0), (5, .i 0)] [] [] [] ?_
  refine wT 0 0 .sh s_ (fun hw1 hl2 => ?_)
  refine blL0 (specFieldKind_f0 name) specFieldKind_e0 s_ () (fun k0 _ => [(5, .i ((k0 : Nat) : Int))]) [5] (fun _ => []) [0, 1, 5] (weak_fit (by kernel_rfl)) (fun k0 s0 hk0 hI0 => ?_) (fun k0 s0 hk0 hI0 => ?_) (fun y0 hD0 => ?_)
  ·
    obtain ⟨a0, hx0⟩ := get_some (l := s_) (i := k0) hk0
    refine awp_seq ?_
    refine sn tt_ok [0, 1, 4, 5, 9] [] (pl 2 s_ (pe 3 (av_bool (decide_eq_true (p := ((k0 : Nat) : Int) < (s_.length : Int)) (by omega))) p0)) ?_
    refine ckT ?_
    refine awp_skip ?_
    refine awp_seq ?_
    refine awp_block ?_
    refine tn tt_ok [0, 1, 4, 5, 18] [] (pn 2 hx0 p0) ?_
    refine ck (a0.1.toList == name.toList) (fun h3 => ?_) (fun h3 => ?_)
    ·
      refine tu tt_ok [(4, .i a0.2)] [4] [] [] (pn 2 hx0 p0) ?_
      refine awp_ret ?_
      have hr4 : (forL (specFieldKind_f0 name) specFieldKind_e0 s_ 0 ()) = .ret a0.2 := forL_ret hx0 (bif_t h3 (rfl)) hI0
      exact pi [] (on_r hr4)
    ·
      refine awp_skip ?_
      refine qu tt_ok [(5, .i ((k0 + 1 : Nat) : Int))] [5] [] [] (pe 1 (av_i (wrap_succ k0 (by omega))) p0) ?_
      exact Exists.intro _ (And.intro (weak_fit (by kernel_rfl)) (forL_next hx0 (bif_f h3 (rfl)) hI0))
  ·
    refine awp_seq ?_
    refine sn tt_ok [0, 1, 4, 5, 9] [] (pl 2 s_ (pe 3 (av_bool (decide_eq_false (p := ((k0 : Nat) : Int) < (s_.length : Int)) (by omega))) p0)) ?_
    refine ckF ?_
    refine awp_exit ?_
    exact Exists.intro _ (And.intro (weak_fit (by kernel_rfl)) (forL_end hk0 (rfl) hI0))
  ·
    refine sn tt_ok [4] [] (p0) ?_
    refine awp_ret ?_
    exact pi [] (on_b hD0 (rfl))
def specMatchesSchema (s_ : (List FieldD)) (name : ByteArray) (v : ValueD) : Bool := ((specIsValidValue v) && ((v.1 != (0 : Int)) && (v.1 == (specFieldKind s_ name))))
theorem specMatchesSchema_a (s_ : (List FieldD)) (name : ByteArray) (v : ValueD) : ACalls Try.prog 105 [.h s_, .s name, .a [.i v.1, .i v.2.1, .s v.2.2]] (.b (specMatchesSchema s_ name v)) := by
  refine en tt_ok Try.func105 fun w0 F0 hG => ?_
  refine sn tt_ok [0, 1, 5, 6] [5] (p0) ?_
  refine awp_seq ?_
  refine mz [(5, .p 5 0), (6, .b false)] [2] [(5, [.i v.1, .i v.2.1, .s v.2.2])] [] ?_
  refine jn [(6, .b ((specIsValidValue v) && ((v.1 != (0 : Int)) && (v.1 == (specFieldKind s_ name)))))] [0, 1, 5, 6] [] [5] (specIsValidValue v) (fun h1 => ?_) (fun h1 => ?_) ?_
  ·
    refine awp_split (v.1 != (0 : Int)) (fun h2 => ?_) (fun h2 => ?_)
    ·
      have h2d := ne_of_bne h2
      refine rN tt_ok tt_mx [6] [] (pc 1 (cb h1 (specIsValidValue_a v)) (pt 5 h2 (pc 12 (specFieldKind_a s_ name) p0))) ?_
      exact ⟨rfl, weak_fit (by rw [h1, h2]; first | done | kernel_rfl)⟩
    ·
      have h2d := eq_of_bne h2
      refine rN tt_ok tt_mx [6] [] (pc 1 (cb h1 (specIsValidValue_a v)) (pf 5 h2 p0)) ?_
      exact ⟨rfl, weak_fit (by rw [h1, h2]; first | done | kernel_rfl)⟩
  ·
    refine rN tt_ok tt_mx [6] [] (pc 1 (cb h1 (specIsValidValue_a v)) p0) ?_
    exact ⟨rfl, weak_fit (by rw [h1]; first | done | kernel_rfl)⟩
  refine awp_ret ?_
  exact pb [] (show specMatchesSchema s_ name v = ((specIsValidValue v) && ((v.1 != (0 : Int)) && (v.1 == (specFieldKind s_ name)))) from rfl)
def specIsValidAttrName (s_ : ByteArray) : Bool := (specl02Text s_ 1)
theorem specIsValidAttrName_a (s_ : ByteArray) : ACalls Try.prog 112 [.s s_] (.b (specIsValidAttrName s_)) := by
  refine en tt_ok Try.func112 fun w0 F0 hG => ?_
  refine sn tt_ok [0, 2] [] (p0) ?_
  refine tn tt_ok [2] [] (pc 1 (specl02Text_a s_ 1) p0) ?_
  refine awp_ret ?_
  exact pb [] (show specIsValidAttrName s_ = (specl02Text s_ 1) from rfl)
def specIsValidSchema_f0 (s_ : (List FieldD)) (k0 : Nat) (a0 : FieldD) (_ : Unit) : Rd (Bool) (Unit) (Unit) := (bif ((!(specIsValidAttrName a0.1)) || ((!(specl01In a0.2 1 2)) || (decide (((k0 : Nat) : Int) > (0 : Int)) && (!(Op.bytesLess ((nth s_ (Int.toNat (((k0 : Nat) : Int) - 1))).1).toList a0.1.toList))))) then (.ret false) else (.next ()))
def specIsValidSchema_e0 (_ : Nat) (_ : Unit) : Unit := ()
def specIsValidSchema (s_ : (List FieldD)) : Bool := (Out.on (forL (specIsValidSchema_f0 s_) specIsValidSchema_e0 s_ 0 ()) (fun _ => decide ((s_.length : Int) ≤ (5 : Int))))
theorem specIsValidSchema_a (s_ : (List FieldD)) : ACalls Try.prog 103 [.h s_] (.b (specIsValidSchema s_)) := by
  refine en tt_ok Try.func103 fun w0 F0 hG => ?_
  refine sn tt_ok [0, 2] [] (p0) ?_
  refine awp_seq ?_
  refine tn tt_ok [0, 2, 3] [] (p0) ?_
  refine mz [(2, .b false), (3, .i 0)] [] [] [] ?_
  refine wT 0 0 .sh s_ (fun hw1 hl2 => ?_)
  refine blL0 (specIsValidSchema_f0 s_) specIsValidSchema_e0 s_ () (fun k0 _ => [(3, .i ((k0 : Nat) : Int))]) [3] (fun _ => []) [3] (weak_fit (by kernel_rfl)) (fun k0 s0 hk0 hI0 => ?_) (fun k0 s0 hk0 hI0 => ?_) (fun y0 hD0 => ?_)
  ·
    obtain ⟨a0, hx0⟩ := get_some (l := s_) (i := k0) hk0
    refine awp_seq ?_
    refine sn tt_ok [0, 2, 3, 7] [] (pl 2 s_ (pe 3 (av_bool (decide_eq_true (p := ((k0 : Nat) : Int) < (s_.length : Int)) (by omega))) p0)) ?_
    refine ckT ?_
    refine awp_skip ?_
    refine awp_seq ?_
    refine awp_block ?_
    refine awp_seq ?_
    refine mz [(7, .b true)] [] [] [] ?_
    refine jn [(43, .b ((!(specIsValidAttrName a0.1)) || ((!(specl01In a0.2 1 2)) || (decide (((k0 : Nat) : Int) > (0 : Int)) && (!(Op.bytesLess ((nth s_ (Int.toNat (((k0 : Nat) : Int) - 1))).1).toList a0.1.toList))))))] [7] [] [] (!(specIsValidAttrName a0.1)) (fun h3 => ?_) (fun h3 => ?_) ?_
    ·
      have h3n : (specIsValidAttrName a0.1) = false := bnot_t h3
      refine rN tt_ok tt_mx [0, 2, 3, 43] [] (pn 2 hx0 (pc 5 (cb h3n (specIsValidAttrName_a a0.1)) (pe 6 (show .b (!false) = .b true from rfl) p0))) ?_
      exact ⟨rfl, weak_fit (by rw [h3]; first | done | kernel_rfl)⟩
    ·
      have h3n : (specIsValidAttrName a0.1) = true := bnot_f h3
      refine awp_split (!(specl01In a0.2 1 2)) (fun h4 => ?_) (fun h4 => ?_)
      ·
        have h4n : (specl01In a0.2 1 2) = false := bnot_t h4
        refine rN tt_ok tt_mx [0, 2, 3, 43] [] (pn 2 hx0 (pc 5 (cb h3n (specIsValidAttrName_a a0.1)) (pe 6 (show .b (!true) = .b false from rfl) (pn 10 hx0 (pc 13 (cb h4n (specl01In_a a0.2 1 2)) (pe 14 (show .b (!false) = .b true from rfl) p0)))))) ?_
        exact ⟨rfl, weak_fit (by rw [h3, h4]; first | done | kernel_rfl)⟩
      ·
        have h4n : (specl01In a0.2 1 2) = true := bnot_f h4
        refine awp_split (decide (((k0 : Nat) : Int) > (0 : Int))) (fun h5 => ?_) (fun h5 => ?_)
        ·
          have h5d := of_decide_eq_true h5
          have hx6 := ng s_ (Int.toNat (((k0 : Nat) : Int) - 1))
          refine rN tt_ok tt_mx [0, 2, 3, 43] [] (pn 2 hx0 (pc 5 (cb h3n (specIsValidAttrName_a a0.1)) (pe 6 (show .b (!true) = .b false from rfl) (pn 10 hx0 (pc 13 (cb h4n (specl01In_a a0.2 1 2)) (pe 14 (show .b (!true) = .b false from rfl) (pt 18 h5 (pe 22 (av_i (IntWalk.i64_in (((k0 : Nat) : Int) - 1) (by omega))) (pg 23 (((k0 : Nat) : Int) - 1) hx6 (pn 28 hx0 p0)))))))))) ?_
          exact ⟨rfl, weak_fit (by rw [h3, h4, h5]; first | done | kernel_rfl)⟩
        ·
          have h5d := of_decide_eq_false h5
          refine rN tt_ok tt_mx [0, 2, 3, 43] [] (pn 2 hx0 (pc 5 (cb h3n (specIsValidAttrName_a a0.1)) (pe 6 (show .b (!true) = .b false from rfl) (pn 10 hx0 (pc 13 (cb h4n (specl01In_a a0.2 1 2)) (pe 14 (show .b (!true) = .b false from rfl) (pf 18 h5 p0))))))) ?_
          exact ⟨rfl, weak_fit (by rw [h3, h4, h5]; first | done | kernel_rfl)⟩
    refine ck ((!(specIsValidAttrName a0.1)) || ((!(specl01In a0.2 1 2)) || (decide (((k0 : Nat) : Int) > (0 : Int)) && (!(Op.bytesLess ((nth s_ (Int.toNat (((k0 : Nat) : Int) - 1))).1).toList a0.1.toList))))) (fun h7 => ?_) (fun h7 => ?_)
    ·
      refine sn tt_ok [0, 2, 3] [] (p0) ?_
      refine awp_ret ?_
      have hr8 : (forL (specIsValidSchema_f0 s_) specIsValidSchema_e0 s_ 0 ()) = .ret false := forL_ret hx0 (bif_t h7 (rfl)) hI0
      exact pb [] (on_r hr8)
    ·
      have h7l : ((!(specIsValidAttrName a0.1))) = false := or_l h7
      have h7ln : (specIsValidAttrName a0.1) = true := bnot_f h7l
      have h7r : (((!(specl01In a0.2 1 2)) || (decide (((k0 : Nat) : Int) > (0 : Int)) && (!(Op.bytesLess ((nth s_ (Int.toNat (((k0 : Nat) : Int) - 1))).1).toList a0.1.toList))))) = false := or_r h7
      have h7rl : ((!(specl01In a0.2 1 2))) = false := or_l h7r
      have h7rln : (specl01In a0.2 1 2) = true := bnot_f h7rl
      have h7rr : ((decide (((k0 : Nat) : Int) > (0 : Int)) && (!(Op.bytesLess ((nth s_ (Int.toNat (((k0 : Nat) : Int) - 1))).1).toList a0.1.toList)))) = false := or_r h7r
      refine awp_skip ?_
      refine rn tt_ok [0, 2, 3] [] (pe 1 (av_i (wrap_succ k0 (by omega))) p0) ?_
      exact Exists.intro _ (And.intro (weak_fit (by kernel_rfl)) (forL_next hx0 (bif_f h7 (rfl)) hI0))
  ·
    refine awp_seq ?_
    refine sn tt_ok [0, 2, 3, 7] [] (pl 2 s_ (pe 3 (av_bool (decide_eq_false (p := ((k0 : Nat) : Int) < (s_.length : Int)) (by omega))) p0)) ?_
    refine ckF ?_
    refine awp_exit ?_
    exact Exists.intro _ (And.intro (weak_fit (by kernel_rfl)) (forL_end hk0 (rfl) hI0))
  ·
    refine sn tt_ok [2] [] (pl 1 s_ p0) ?_
    refine awp_ret ?_
    exact pb [] (on_b hD0 (rfl))
def specIsValidFile_f0 (s_ : (List FieldD)) (f : FileD) (k0 : Nat) (a0 : AttrD) (_ : Unit) : Rd (Bool) (Unit) (Unit) := (bif ((!(specMatchesSchema s_ a0.1 a0.2)) || (decide (((k0 : Nat) : Int) > (0 : Int)) && (!(Op.bytesLess ((nth f.2.2.2.2 (Int.toNat (((k0 : Nat) : Int) - 1))).1).toList a0.1.toList)))) then (.ret false) else (.next ()))
def specIsValidFile_e0 (_ : Nat) (_ : Unit) : Unit := ()
def specIsValidFile (s_ : (List FieldD)) (f : FileD) : Bool := (Out.on (forL (specIsValidFile_f0 s_ f) specIsValidFile_e0 f.2.2.2.2 0 ()) (fun _ => ((specIsValidSchema s_) && ((specl01In f.1 1 60) && ((specl01In f.2.1 0 2) && (specl01In f.2.2.2.1 0 60))))))
theorem specIsValidFile_a (s_ : (List FieldD)) (f : FileD) : ACalls Try.prog 78 [.h s_, .a [.i f.1, .i f.2.1, .b f.2.2.1, .i f.2.2.2.1, .h f.2.2.2.2]] (.b (specIsValidFile s_ f)) := by
  refine en tt_ok Try.func78 fun w0 F0 hG => ?_
  refine sn tt_ok [0, 3, 4] [3] (p0) ?_
  refine awp_seq ?_
  refine tn tt_ok [0, 3, 4, 5] [3] (p0) ?_
  refine mz [(3, .p 3 0), (4, .b false), (5, .i 0)] [1] [(3, [.i f.1, .i f.2.1, .b f.2.2.1, .i f.2.2.2.1, .h f.2.2.2.2])] [] ?_
  refine wB 3 4 .sh f.2.2.2.2 (fun hw1 hl2 => ?_)
  refine blL0 (specIsValidFile_f0 s_ f) specIsValidFile_e0 f.2.2.2.2 () (fun k0 _ => [(5, .i ((k0 : Nat) : Int))]) [5] (fun _ => []) [5] (weak_fit (by kernel_rfl)) (fun k0 s0 hk0 hI0 => ?_) (fun k0 s0 hk0 hI0 => ?_) (fun y0 hD0 => ?_)
  ·
    obtain ⟨a0, hx0⟩ := get_some (l := f.2.2.2.2) (i := k0) hk0
    refine awp_seq ?_
    refine sn tt_ok [0, 3, 4, 5, 10] [3] (pl 3 f.2.2.2.2 (pe 4 (av_bool (decide_eq_true (p := ((k0 : Nat) : Int) < (f.2.2.2.2.length : Int)) (by omega))) p0)) ?_
    refine ckT ?_
    refine awp_skip ?_
    refine awp_seq ?_
    refine awp_block ?_
    refine awp_seq ?_
    refine mz [(10, .b true)] [] [] [] ?_
    refine jn [(47, .b ((!(specMatchesSchema s_ a0.1 a0.2)) || (decide (((k0 : Nat) : Int) > (0 : Int)) && (!(Op.bytesLess ((nth f.2.2.2.2 (Int.toNat (((k0 : Nat) : Int) - 1))).1).toList a0.1.toList)))))] [10] [] [] (!(specMatchesSchema s_ a0.1 a0.2)) (fun h3 => ?_) (fun h3 => ?_) ?_
    ·
      have h3n : (specMatchesSchema s_ a0.1 a0.2) = false := bnot_t h3
      refine rN tt_ok tt_mx [0, 3, 4, 5, 47] [3] (pn 4 hx0 (pn 10 hx0 (pc 13 (cb h3n (specMatchesSchema_a s_ a0.1 a0.2)) (pe 14 (show .b (!false) = .b true from rfl) p0)))) ?_
      exact ⟨rfl, weak_fit (by rw [h3]; first | done | kernel_rfl)⟩
    ·
      have h3n : (specMatchesSchema s_ a0.1 a0.2) = true := bnot_f h3
      refine awp_split (decide (((k0 : Nat) : Int) > (0 : Int))) (fun h4 => ?_) (fun h4 => ?_)
      ·
        have h4d := of_decide_eq_true h4
        have hx5 := ng f.2.2.2.2 (Int.toNat (((k0 : Nat) : Int) - 1))
        refine rN tt_ok tt_mx [0, 3, 4, 5, 47] [3] (pn 4 hx0 (pn 10 hx0 (pc 13 (cb h3n (specMatchesSchema_a s_ a0.1 a0.2)) (pe 14 (show .b (!true) = .b false from rfl) (pt 17 h4 (pe 22 (av_i (IntWalk.i64_in (((k0 : Nat) : Int) - 1) (by omega))) (pg 23 (((k0 : Nat) : Int) - 1) hx5 (pn 29 hx0 p0)))))))) ?_
        exact ⟨rfl, weak_fit (by rw [h3, h4]; first | done | kernel_rfl)⟩
      ·
        have h4d := of_decide_eq_false h4
        refine rN tt_ok tt_mx [0, 3, 4, 5, 47] [3] (pn 4 hx0 (pn 10 hx0 (pc 13 (cb h3n (specMatchesSchema_a s_ a0.1 a0.2)) (pe 14 (show .b (!true) = .b false from rfl) (pf 17 h4 p0))))) ?_
        exact ⟨rfl, weak_fit (by rw [h3, h4]; first | done | kernel_rfl)⟩
    refine ck ((!(specMatchesSchema s_ a0.1 a0.2)) || (decide (((k0 : Nat) : Int) > (0 : Int)) && (!(Op.bytesLess ((nth f.2.2.2.2 (Int.toNat (((k0 : Nat) : Int) - 1))).1).toList a0.1.toList)))) (fun h6 => ?_) (fun h6 => ?_)
    ·
      refine su tt_ok [] [47] [] [] (p0) ?_
      refine awp_ret ?_
      have hr7 : (forL (specIsValidFile_f0 s_ f) specIsValidFile_e0 f.2.2.2.2 0 ()) = .ret false := forL_ret hx0 (bif_t h6 (rfl)) hI0
      exact pb [] (on_r hr7)
    ·
      have h6l : ((!(specMatchesSchema s_ a0.1 a0.2))) = false := or_l h6
      have h6ln : (specMatchesSchema s_ a0.1 a0.2) = true := bnot_f h6l
      have h6r : ((decide (((k0 : Nat) : Int) > (0 : Int)) && (!(Op.bytesLess ((nth f.2.2.2.2 (Int.toNat (((k0 : Nat) : Int) - 1))).1).toList a0.1.toList)))) = false := or_r h6
      refine awp_skip ?_
      refine rn tt_ok [0, 3, 4, 5] [3] (pe 1 (av_i (wrap_succ k0 (by omega))) p0) ?_
      exact Exists.intro _ (And.intro (weak_fit (by kernel_rfl)) (forL_next hx0 (bif_f h6 (rfl)) hI0))
  ·
    refine awp_seq ?_
    refine sn tt_ok [0, 3, 4, 5, 10] [3] (pl 3 f.2.2.2.2 (pe 4 (av_bool (decide_eq_false (p := ((k0 : Nat) : Int) < (f.2.2.2.2.length : Int)) (by omega))) p0)) ?_
    refine ckF ?_
    refine awp_exit ?_
    exact Exists.intro _ (And.intro (weak_fit (by kernel_rfl)) (forL_end hk0 (rfl) hI0))
  ·
    refine awp_seq ?_
    refine jn [(4, .b ((specIsValidSchema s_) && ((specl01In f.1 1 60) && ((specl01In f.2.1 0 2) && (specl01In f.2.2.2.1 0 60)))))] [0, 3, 4] [] [3] (specIsValidSchema s_) (fun h8 => ?_) (fun h8 => ?_) ?_
    ·
      refine awp_split (specl01In f.1 1 60) (fun h9 => ?_) (fun h9 => ?_)
      ·
        refine awp_split (specl01In f.2.1 0 2) (fun h10 => ?_) (fun h10 => ?_)
        ·
          refine rn tt_ok [4] [] (pc 1 (cb h8 (specIsValidSchema_a s_)) (pc 5 (cb h9 (specl01In_a f.1 1 60)) (pc 10 (cb h10 (specl01In_a f.2.1 0 2)) (pc 15 (specl01In_a f.2.2.2.1 0 60) p0)))) ?_
          exact ⟨rfl, weak_fit (by rw [h8, h9, h10]; first | done | kernel_rfl)⟩
        ·
          refine rn tt_ok [4] [] (pc 1 (cb h8 (specIsValidSchema_a s_)) (pc 5 (cb h9 (specl01In_a f.1 1 60)) (pc 10 (cb h10 (specl01In_a f.2.1 0 2)) p0))) ?_
          exact ⟨rfl, weak_fit (by rw [h8, h9, h10]; first | done | kernel_rfl)⟩
      ·
        refine rn tt_ok [4] [] (pc 1 (cb h8 (specIsValidSchema_a s_)) (pc 5 (cb h9 (specl01In_a f.1 1 60)) p0)) ?_
        exact ⟨rfl, weak_fit (by rw [h8, h9]; first | done | kernel_rfl)⟩
    ·
      refine rn tt_ok [4] [] (pc 1 (cb h8 (specIsValidSchema_a s_)) p0) ?_
      exact ⟨rfl, weak_fit (by rw [h8]; first | done | kernel_rfl)⟩
    refine awp_ret ?_
    exact pb [] (on_b hD0 (rfl))
def specIsValidStore_f0 (s_ : StoreD) (k0 : Nat) (a0 : FileD) (_ : Unit) : Rd (Bool) (Unit) (Unit) := (bif ((!(specIsValidFile s_.1 a0)) || (decide (a0.1 ≥ s_.2.2) || (decide (((k0 : Nat) : Int) > (0 : Int)) && decide ((nth s_.2.1 (Int.toNat (((k0 : Nat) : Int) - 1))).1 ≥ a0.1)))) then (.ret false) else (.next ()))
def specIsValidStore_e0 (_ : Nat) (_ : Unit) : Unit := ()
def specIsValidStore (s_ : StoreD) : Bool := (Out.on (forL (specIsValidStore_f0 s_) specIsValidStore_e0 s_.2.1 0 ()) (fun _ => ((specIsValidSchema s_.1) && (decide ((s_.2.1.length : Int) ≤ (12 : Int)) && (specl01In s_.2.2 1 61)))))
theorem specIsValidStore_a (s_ : StoreD) : ACalls Try.prog 77 [.a [.h s_.1, .h s_.2.1, .i s_.2.2]] (.b (specIsValidStore s_)) := by
  refine en tt_ok Try.func77 fun w0 F0 hG => ?_
  refine sn tt_ok [1, 2] [1] (p0) ?_
  refine awp_seq ?_
  refine tn tt_ok [1, 2, 3] [1] (p0) ?_
  refine mz [(1, .p 1 0), (2, .b false), (3, .i 0)] [0] [(1, [.h s_.1, .h s_.2.1, .i s_.2.2])] [] ?_
  refine wB 1 1 .sh s_.2.1 (fun hw1 hl2 => ?_)
  refine blL0 (specIsValidStore_f0 s_) specIsValidStore_e0 s_.2.1 () (fun k0 _ => [(3, .i ((k0 : Nat) : Int))]) [3] (fun _ => []) [3] (weak_fit (by kernel_rfl)) (fun k0 s0 hk0 hI0 => ?_) (fun k0 s0 hk0 hI0 => ?_) (fun y0 hD0 => ?_)
  ·
    obtain ⟨a0, hx0⟩ := get_some (l := s_.2.1) (i := k0) hk0
    refine awp_seq ?_
    refine sn tt_ok [1, 2, 3, 8] [1] (pl 3 s_.2.1 (pe 4 (av_bool (decide_eq_true (p := ((k0 : Nat) : Int) < (s_.2.1.length : Int)) (by omega))) p0)) ?_
    refine ckT ?_
    refine awp_skip ?_
    refine awp_seq ?_
    refine awp_block ?_
    refine awp_seq ?_
    refine mz [(8, .b true)] [] [] [] ?_
    refine jn [(50, .b ((!(specIsValidFile s_.1 a0)) || (decide (a0.1 ≥ s_.2.2) || (decide (((k0 : Nat) : Int) > (0 : Int)) && decide ((nth s_.2.1 (Int.toNat (((k0 : Nat) : Int) - 1))).1 ≥ a0.1)))))] [8] [] [] (!(specIsValidFile s_.1 a0)) (fun h3 => ?_) (fun h3 => ?_) ?_
    ·
      have h3n : (specIsValidFile s_.1 a0) = false := bnot_t h3
      refine rN tt_ok tt_mx [1, 2, 3, 50] [1] (pn 5 hx0 (pc 7 (cb h3n (specIsValidFile_a s_.1 a0)) (pe 8 (show .b (!false) = .b true from rfl) p0))) ?_
      exact ⟨rfl, weak_fit (by rw [h3]; first | done | kernel_rfl)⟩
    ·
      have h3n : (specIsValidFile s_.1 a0) = true := bnot_f h3
      refine awp_split (decide (a0.1 ≥ s_.2.2)) (fun h4 => ?_) (fun h4 => ?_)
      ·
        have h4d := of_decide_eq_true h4
        refine rN tt_ok tt_mx [1, 2, 3, 50] [1] (pn 5 hx0 (pc 7 (cb h3n (specIsValidFile_a s_.1 a0)) (pe 8 (show .b (!true) = .b false from rfl) (pn 13 hx0 (pt 18 h4 p0))))) ?_
        exact ⟨rfl, weak_fit (by rw [h3, h4]; first | done | kernel_rfl)⟩
      ·
        have h4d := of_decide_eq_false h4
        refine awp_split (decide (((k0 : Nat) : Int) > (0 : Int))) (fun h5 => ?_) (fun h5 => ?_)
        ·
          have h5d := of_decide_eq_true h5
          have hx6 := ng s_.2.1 (Int.toNat (((k0 : Nat) : Int) - 1))
          refine rN tt_ok tt_mx [1, 2, 3, 50] [1] (pn 5 hx0 (pc 7 (cb h3n (specIsValidFile_a s_.1 a0)) (pe 8 (show .b (!true) = .b false from rfl) (pn 13 hx0 (pf 18 h4 (pt 22 h5 (pe 27 (av_i (IntWalk.i64_in (((k0 : Nat) : Int) - 1) (by omega))) (pg 28 (((k0 : Nat) : Int) - 1) hx6 (pn 34 hx0 p0))))))))) ?_
          exact ⟨rfl, weak_fit (by rw [h3, h4, h5]; first | done | kernel_rfl)⟩
        ·
          have h5d := of_decide_eq_false h5
          refine rN tt_ok tt_mx [1, 2, 3, 50] [1] (pn 5 hx0 (pc 7 (cb h3n (specIsValidFile_a s_.1 a0)) (pe 8 (show .b (!true) = .b false from rfl) (pn 13 hx0 (pf 18 h4 (pf 22 h5 p0)))))) ?_
          exact ⟨rfl, weak_fit (by rw [h3, h4, h5]; first | done | kernel_rfl)⟩
    refine ck ((!(specIsValidFile s_.1 a0)) || (decide (a0.1 ≥ s_.2.2) || (decide (((k0 : Nat) : Int) > (0 : Int)) && decide ((nth s_.2.1 (Int.toNat (((k0 : Nat) : Int) - 1))).1 ≥ a0.1)))) (fun h7 => ?_) (fun h7 => ?_)
    ·
      refine su tt_ok [] [50] [] [] (p0) ?_
      refine awp_ret ?_
      have hr8 : (forL (specIsValidStore_f0 s_) specIsValidStore_e0 s_.2.1 0 ()) = .ret false := forL_ret hx0 (bif_t h7 (rfl)) hI0
      exact pb [] (on_r hr8)
    ·
      have h7l : ((!(specIsValidFile s_.1 a0))) = false := or_l h7
      have h7ln : (specIsValidFile s_.1 a0) = true := bnot_f h7l
      have h7r : ((decide (a0.1 ≥ s_.2.2) || (decide (((k0 : Nat) : Int) > (0 : Int)) && decide ((nth s_.2.1 (Int.toNat (((k0 : Nat) : Int) - 1))).1 ≥ a0.1)))) = false := or_r h7
      have h7rl : (decide (a0.1 ≥ s_.2.2)) = false := or_l h7r
      have h7rld := of_decide_eq_false h7rl
      have h7rr : ((decide (((k0 : Nat) : Int) > (0 : Int)) && decide ((nth s_.2.1 (Int.toNat (((k0 : Nat) : Int) - 1))).1 ≥ a0.1))) = false := or_r h7r
      refine awp_skip ?_
      refine rn tt_ok [1, 2, 3] [1] (pe 1 (av_i (wrap_succ k0 (by omega))) p0) ?_
      exact Exists.intro _ (And.intro (weak_fit (by kernel_rfl)) (forL_next hx0 (bif_f h7 (rfl)) hI0))
  ·
    refine awp_seq ?_
    refine sn tt_ok [1, 2, 3, 8] [1] (pl 3 s_.2.1 (pe 4 (av_bool (decide_eq_false (p := ((k0 : Nat) : Int) < (s_.2.1.length : Int)) (by omega))) p0)) ?_
    refine ckF ?_
    refine awp_exit ?_
    exact Exists.intro _ (And.intro (weak_fit (by kernel_rfl)) (forL_end hk0 (rfl) hI0))
  ·
    refine awp_seq ?_
    refine jn [(2, .b ((specIsValidSchema s_.1) && (decide ((s_.2.1.length : Int) ≤ (12 : Int)) && (specl01In s_.2.2 1 61))))] [1, 2] [] [1] (specIsValidSchema s_.1) (fun h9 => ?_) (fun h9 => ?_) ?_
    ·
      refine awp_split (decide ((s_.2.1.length : Int) ≤ (12 : Int))) (fun h10 => ?_) (fun h10 => ?_)
      ·
        have h10d := of_decide_eq_true h10
        refine rn tt_ok [2] [] (pc 2 (cb h9 (specIsValidSchema_a s_.1)) (pl 6 s_.2.1 (pt 7 h10 (pc 12 (specl01In_a s_.2.2 1 61) p0)))) ?_
        exact ⟨rfl, weak_fit (by rw [h9, h10]; first | done | kernel_rfl)⟩
      ·
        have h10d := of_decide_eq_false h10
        refine rn tt_ok [2] [] (pc 2 (cb h9 (specIsValidSchema_a s_.1)) (pl 6 s_.2.1 (pf 7 h10 p0))) ?_
        exact ⟨rfl, weak_fit (by rw [h9, h10]; first | done | kernel_rfl)⟩
    ·
      refine rn tt_ok [2] [] (pc 2 (cb h9 (specIsValidSchema_a s_.1)) p0) ?_
      exact ⟨rfl, weak_fit (by rw [h9]; first | done | kernel_rfl)⟩
    refine awp_ret ?_
    exact pb [] (on_b hD0 (rfl))
def specl04Copy (f : FileD) : FileD := f
theorem specl04Copy_a (f : FileD) : ACalls Try.prog 75 [.a [.i f.1, .i f.2.1, .b f.2.2.1, .i f.2.2.2.1, .h f.2.2.2.2]] (.a [.i ((specl04Copy f).1), .i ((specl04Copy f).2.1), .b ((specl04Copy f).2.2.1), .i ((specl04Copy f).2.2.2.1), .o 0 ((specl04Copy f).2.2.2.2)]) := by
  refine en tt_ok Try.func75 fun w0 F0 hG => ?_
  refine sn tt_ok [1, 2] [1, 2] (p0) ?_
  refine wB 1 4 .sh f.2.2.2.2 (fun hw1 hl2 => ?_)
  refine tn tt_ok [1, 2] [1, 2] (po 3 (.flat) (px (ob_len (n := (([] : List (List PV)).length + ((eL f.2.2.2.2) : List (List PV)).length)) (len_of (rfl) (eL_length f.2.2.2.2) (by first | omega | (simp only [List.length_cons, List.length_nil]; omega) | (simp; omega) | simp))) (px (ob_flat (flat_eL f.2.2.2.2)) p0))) ?_
  refine tu tt_ok [(2, .p 2 0)] [0] [(2, [.i f.1, .i f.2.1, .b f.2.2.1, .i f.2.2.2.1, .o 384 f.2.2.2.2])] [] (p0) ?_
  refine awp_ret ?_
  exact pz [] (show specl04Copy f = f from rfl) (fun z => .a [.i z.1, .i z.2.1, .b z.2.2.1, .i z.2.2.2.1, .o 0 z.2.2.2.2])
def specl05Copy_f0 (_ : Nat) (a0 : FileD) (s0 : (List FileD)) : Rd (StoreD) ((List FileD)) ((List FileD)) := (.next (s0 ++ [(specl04Copy a0)]))
def specl05Copy_e0 (_ : Nat) (s0 : (List FileD)) : (List FileD) := s0
def specl05Copy (s_ : StoreD) : StoreD := (Out.on (forL specl05Copy_f0 specl05Copy_e0 s_.2.1 0 []) (fun y0 => (s_.1, y0, s_.2.2)))
theorem specl05Copy_a (s_ : StoreD) : ACalls Try.prog 76 [.a [.h s_.1, .h s_.2.1, .i s_.2.2]] (.a [.o 0 ((specl05Copy s_).1), .o 1 ((specl05Copy s_).2.1), .i ((specl05Copy s_).2.2)]) := by
  refine en tt_ok Try.func76 fun w0 F0 hG => ?_
  refine sn tt_ok [1, 2] [1, 2] (p0) ?_
  refine wB 1 0 .sh s_.1 (fun hw1 hl2 => ?_)
  refine tN tt_ok tt_mx [1, 2, 3] [1, 2, 3] (po 3 (.flat) (px (ob_len (n := (([] : List (List PV)).length + ((eL s_.1) : List (List PV)).length)) (len_of (rfl) (eL_length s_.1) (by first | omega | (simp only [List.length_cons, List.length_nil]; omega) | (simp; omega) | simp))) (px (ob_flat (flat_eL s_.1)) p0))) ?_
  refine awp_seq ?_
  refine tu tt_ok [(1, .p 1 0), (2, .p 2 0), (3, .p 3 0), (4, .i 0)] [0] [(1, [.h s_.1, .h s_.2.1, .i s_.2.2]), (2, [.e 2, .e 5, .i 0]), (3, [.o 512 s_.1, .e 5, .i s_.2.2])] [] (p0) ?_
  refine wB 1 1 .sh s_.2.1 (fun hw3 hl4 => ?_)
  refine blL1b specl05Copy_f0 specl05Copy_e0 s_.2.1 [] (fun k0 _ => [(4, .i ((k0 : Nat) : Int))]) [4] (fun _ s0 => [(3, [.o 512 s_.1, .o 147211 s0, .i s_.2.2])]) [3] (fun _ => []) [1, 4] (fun y0 => [(3, [.o 512 s_.1, .o 147361 y0, .i s_.2.2])]) [1, 3] (fun k0 s0 => List.length s0 ≤ k0) (weak_gf [(true, 3, 1, true, 320008, 5)] [] [] [(320008, 147211)] (by kernel_rfl)) (by simp) (fun k0 s0 hk0 hI0 => ?_) (fun k0 s0 hk0 hI0 => ?_) (fun y0 hD0 => ?_)
  ·
    have hA0_0 := hI0.2
    obtain ⟨a0, hx0⟩ := get_some (l := s_.2.1) (i := k0) hk0
    refine awp_seq ?_
    refine su tt_ok [(16, .b true)] [] [] [] (pl 3 s_.2.1 (pe 4 (av_bool (decide_eq_true (p := ((k0 : Nat) : Int) < (s_.2.1.length : Int)) (by omega))) p0)) ?_
    refine ckT ?_
    refine awp_skip ?_
    refine awp_seq ?_
    refine awp_block ?_
    refine wB 3 1 (.own true 147211) s0 (fun hw5 hl6 => ?_)
    refine rU tt_ok tt_mx [] [16] [(3, [.o 512 s_.1, .slc (.own true 1792) 5 ((eL s0) ++ [[.i ((specl04Copy a0).1), .i ((specl04Copy a0).2.1), .b ((specl04Copy a0).2.2.1), .i ((specl04Copy a0).2.2.2.1), .h ((specl04Copy a0).2.2.2.2)]]), .i s_.2.2])] [3] (pn 5 hx0 (pc 7 (specl04Copy_a a0) (pa s0 [(specl04Copy a0)] p0))) ?_
    refine eqn [] [] [(3, [.o 512 s_.1, .o 1792 (s0 ++ [(specl04Copy a0)]), .i s_.2.2])] [3] (by rw [show ((eL s0) ++ [[.i ((specl04Copy a0).1), .i ((specl04Copy a0).2.1), .b ((specl04Copy a0).2.2.1), .i ((specl04Copy a0).2.2.2.1), .h ((specl04Copy a0).2.2.2.2)]]) = (eL (s0 ++ [(specl04Copy a0)])) from app_eL (rfl) (rfl)]; first | done | kernel_rfl) ?_
    refine rn tt_ok [1, 2, 3, 4] [1, 2, 3] (pe 1 (av_i (wrap_succ k0 (by omega))) p0) ?_
    exact Exists.intro (s0 ++ [(specl04Copy a0)]) (And.intro (weak_sf [(1792, 147211)] (by kernel_rfl)) ⟨forL_next hx0 (rfl) hI0.1, by first | omega | (simp; omega) | simp⟩)
  ·
    have hA0_0 := hI0.2
    refine awp_seq ?_
    refine su tt_ok [(16, .b false)] [] [] [] (pl 3 s_.2.1 (pe 4 (av_bool (decide_eq_false (p := ((k0 : Nat) : Int) < (s_.2.1.length : Int)) (by omega))) p0)) ?_
    refine ckF ?_
    refine awp_exit ?_
    exact Exists.intro _ (And.intro (weak_sf [(147211, 147361)] (by kernel_rfl)) (forL_end hk0 (rfl) hI0.1))
  ·
    refine sn tt_ok [2] [2] (p0) ?_
    refine awp_ret ?_
    exact pz [] (show specl05Copy s_ = _ from on_b hD0 (rfl)) (fun z => .a [.o 0 z.1, .o 1 z.2.1, .i z.2.2])
def specCreateFile (s_ : StoreD) (f : FileD) : StoreD × Int × Bool := (bif ((!(specIsValidStore (specl05Copy s_))) || (decide ((((specl05Copy s_).2.1).length : Int) ≥ (12 : Int)) || (!(specIsValidFile ((specl05Copy s_).1) ((specl05Copy s_).2.2, (specl04Copy f).2.1, (specl04Copy f).2.2.1, (specl04Copy f).2.2.2.1, (specl04Copy f).2.2.2.2))))) then ((specl05Copy s_), 0, false) else (((specl05Copy s_).1, (specl05Copy s_).2.1 ++ [((specl05Copy s_).2.2, (specl04Copy f).2.1, (specl04Copy f).2.2.1, (specl04Copy f).2.2.2.1, (specl04Copy f).2.2.2.2)], IntKind.i64.wrap ((specl05Copy s_).2.2 + 1)), (specl05Copy s_).2.2, true))
theorem specCreateFile_a (s_ : StoreD) (f : FileD) : ACalls Try.prog 37 [.a [.h s_.1, .h s_.2.1, .i s_.2.2], .a [.i f.1, .i f.2.1, .b f.2.2.1, .i f.2.2.2.1, .h f.2.2.2.2]] (.tup [(true, [.o 0 ((((specCreateFile s_ f)).1).1), .o 1 ((((specCreateFile s_ f)).1).2.1), .i ((((specCreateFile s_ f)).1).2.2)]), (false, [.i (((specCreateFile s_ f)).2.1)]), (false, [.b (((specCreateFile s_ f)).2.2)])]) := by
  refine en tt_ok Try.func37 fun w0 F0 hG => ?_
  refine sn tt_ok [2, 3, 4, 5, 6] [2, 3, 4] (p0) ?_
  refine tn tt_ok [2, 3, 4, 5, 6] [2, 3, 4] (pc 1 (specl05Copy_a s_) p0) ?_
  refine tu tt_ok [(2, .p 2 0), (3, .p 3 0), (4, .p 4 0), (5, .i 0), (6, .b false)] [0, 1] [(2, [.o 512 ((specl05Copy s_).1), .o 513 ((specl05Copy s_).2.1), .i ((specl05Copy s_).2.2)]), (3, [.i ((specl04Copy f).1), .i ((specl04Copy f).2.1), .b ((specl04Copy f).2.2.1), .i ((specl04Copy f).2.2.2.1), .o 640 ((specl04Copy f).2.2.2.2)]), (4, [.e 2, .e 5, .i 0])] [] (pc 1 (specl04Copy_a f) p0) ?_
  refine sn tt_ok [2, 3, 4, 5, 6] [2, 3, 4] (p0) ?_
  refine awp_seq ?_
  refine awp_seq ?_
  refine mz [] [] [(3, [.i ((specl05Copy s_).2.2), .i ((specl04Copy f).2.1), .b ((specl04Copy f).2.2.1), .i ((specl04Copy f).2.2.2.1), .o 640 ((specl04Copy f).2.2.2.2)])] [3] ?_
  refine jn [(29, .b ((!(specIsValidStore (specl05Copy s_))) || (decide ((((specl05Copy s_).2.1).length : Int) ≥ (12 : Int)) || (!(specIsValidFile ((specl05Copy s_).1) ((specl05Copy s_).2.2, (specl04Copy f).2.1, (specl04Copy f).2.2.1, (specl04Copy f).2.2.2.1, (specl04Copy f).2.2.2.2))))))] [] [] [] (!(specIsValidStore (specl05Copy s_))) (fun h1 => ?_) (fun h1 => ?_) ?_
  ·
    have h1n : (specIsValidStore (specl05Copy s_)) = false := bnot_t h1
    refine ru tt_ok [(29, .b true)] [] [] [] (pc 1 (cb h1n (specIsValidStore_a (specl05Copy s_))) (pe 2 (show .b (!false) = .b true from rfl) p0)) ?_
    exact ⟨rfl, weak_fit (by rw [h1]; first | done | kernel_rfl)⟩
  ·
    have h1n : (specIsValidStore (specl05Copy s_)) = true := bnot_f h1
    refine awp_split (decide ((((specl05Copy s_).2.1).length : Int) ≥ (12 : Int))) (fun h2 => ?_) (fun h2 => ?_)
    ·
      have h2d := of_decide_eq_true h2
      refine ru tt_ok [(29, .b true)] [] [] [] (pc 1 (cb h1n (specIsValidStore_a (specl05Copy s_))) (pe 2 (show .b (!true) = .b false from rfl) (pl 6 ((specl05Copy s_).2.1) (pt 7 h2 p0)))) ?_
      exact ⟨rfl, weak_fit (by rw [h1, h2]; first | done | kernel_rfl)⟩
    ·
      have h2d := of_decide_eq_false h2
      refine rn tt_ok [2, 3, 4, 5, 6, 29] [2, 3, 4] (pc 1 (cb h1n (specIsValidStore_a (specl05Copy s_))) (pe 2 (show .b (!true) = .b false from rfl) (pl 6 ((specl05Copy s_).2.1) (pf 7 h2 (pc 13 (specIsValidFile_a ((specl05Copy s_).1) ((specl05Copy s_).2.2, (specl04Copy f).2.1, (specl04Copy f).2.2.1, (specl04Copy f).2.2.2.1, (specl04Copy f).2.2.2.2)) p0))))) ?_
      exact ⟨rfl, weak_fit (by rw [h1, h2]; first | done | kernel_rfl)⟩
  refine ck ((!(specIsValidStore (specl05Copy s_))) || (decide ((((specl05Copy s_).2.1).length : Int) ≥ (12 : Int)) || (!(specIsValidFile ((specl05Copy s_).1) ((specl05Copy s_).2.2, (specl04Copy f).2.1, (specl04Copy f).2.2.1, (specl04Copy f).2.2.2.1, (specl04Copy f).2.2.2.2))))) (fun h3 => ?_) (fun h3 => ?_)
  ·
    refine sn tt_ok [2, 3, 4, 5, 6] [2, 3, 4] (p0) ?_
    refine awp_ret ?_
    exact pz [] (show specCreateFile s_ f = _ from bif_t h3 (rfl)) (fun z => .tup [(true, [.o 0 z.1.1, .o 1 z.1.2.1, .i z.1.2.2]), (false, [.i z.2.1]), (false, [.b z.2.2])])
  ·
    have h3l : ((!(specIsValidStore (specl05Copy s_)))) = false := or_l h3
    have h3ln : (specIsValidStore (specl05Copy s_)) = true := bnot_f h3l
    have h3r : ((decide ((((specl05Copy s_).2.1).length : Int) ≥ (12 : Int)) || (!(specIsValidFile ((specl05Copy s_).1) ((specl05Copy s_).2.2, (specl04Copy f).2.1, (specl04Copy f).2.2.1, (specl04Copy f).2.2.2.1, (specl04Copy f).2.2.2.2))))) = false := or_r h3
    have h3rl : (decide ((((specl05Copy s_).2.1).length : Int) ≥ (12 : Int))) = false := or_l h3r
    have h3rld := of_decide_eq_false h3rl
    have h3rr : ((!(specIsValidFile ((specl05Copy s_).1) ((specl05Copy s_).2.2, (specl04Copy f).2.1, (specl04Copy f).2.2.1, (specl04Copy f).2.2.2.1, (specl04Copy f).2.2.2.2)))) = false := or_r h3r
    have h3rrn : (specIsValidFile ((specl05Copy s_).1) ((specl05Copy s_).2.2, (specl04Copy f).2.1, (specl04Copy f).2.2.1, (specl04Copy f).2.2.2.1, (specl04Copy f).2.2.2.2)) = true := bnot_f h3rr
    refine awp_skip ?_
    refine wB 2 1 (.own true 513) ((specl05Copy s_).2.1) (fun hw4 hl5 => ?_)
    refine su tt_ok [] [29] [(2, [.o 512 ((specl05Copy s_).1), .slc (.own true 2240) 5 ((eL ((specl05Copy s_).2.1)) ++ [[.i ((specl05Copy s_).2.2), .i ((specl04Copy f).2.1), .b ((specl04Copy f).2.2.1), .i ((specl04Copy f).2.2.2.1), .h ((specl04Copy f).2.2.2.2)]]), .i ((specl05Copy s_).2.2)]), (3, [.i ((specl05Copy s_).2.2), .i ((specl04Copy f).2.1), .b ((specl04Copy f).2.2.1), .i ((specl04Copy f).2.2.2.1), .dead])] [2, 3] (pa ((specl05Copy s_).2.1) [((specl05Copy s_).2.2, (specl04Copy f).2.1, (specl04Copy f).2.2.1, (specl04Copy f).2.2.2.1, (specl04Copy f).2.2.2.2)] p0) ?_
    refine eqn [] [] [(2, [.o 512 ((specl05Copy s_).1), .o 2240 ((specl05Copy s_).2.1 ++ [((specl05Copy s_).2.2, (specl04Copy f).2.1, (specl04Copy f).2.2.1, (specl04Copy f).2.2.2.1, (specl04Copy f).2.2.2.2)]), .i ((specl05Copy s_).2.2)])] [2] (by rw [show ((eL ((specl05Copy s_).2.1)) ++ [[.i ((specl05Copy s_).2.2), .i ((specl04Copy f).2.1), .b ((specl04Copy f).2.2.1), .i ((specl04Copy f).2.2.2.1), .h ((specl04Copy f).2.2.2.2)]]) = (eL ((specl05Copy s_).2.1 ++ [((specl05Copy s_).2.2, (specl04Copy f).2.1, (specl04Copy f).2.2.1, (specl04Copy f).2.2.2.1, (specl04Copy f).2.2.2.2)])) from app_eL (rfl) (rfl)]; first | done | kernel_rfl) ?_
    refine sn tt_ok [2, 3, 4, 5, 6] [2, 3, 4] (p0) ?_
    refine tN tt_ok tt_mx [4, 5, 6] [4] (p0) ?_
    refine awp_ret ?_
    exact pz [] (show specCreateFile s_ f = _ from bif_f h3 (rfl)) (fun z => .tup [(true, [.o 0 z.1.1, .o 1 z.1.2.1, .i z.1.2.2]), (false, [.i z.2.1]), (false, [.b z.2.2])])
def specNewStore (s_ : (List FieldD)) : StoreD := (s_, [], 1)
theorem specNewStore_a (s_ : (List FieldD)) : ACalls Try.prog 38 [.h s_] (.a [.o 0 ((specNewStore s_).1), .o 1 ((specNewStore s_).2.1), .i ((specNewStore s_).2.2)]) := by
  refine en tt_ok Try.func38 fun w0 F0 hG => ?_
  refine sn tt_ok [0, 2] [2] (p0) ?_
  refine wT 0 0 .sh s_ (fun hw1 hl2 => ?_)
  refine tn tt_ok [2] [2] (po 2 (.flat) (px (ob_len (n := (([] : List (List PV)).length + ((eL s_) : List (List PV)).length)) (len_of (rfl) (eL_length s_) (by first | omega | (simp only [List.length_cons, List.length_nil]; omega) | (simp; omega) | simp))) (px (ob_flat (flat_eL s_)) p0))) ?_
  refine opn [(true, 2, 1, true, 384000, 5)] ?_
  refine awp_ret ?_
  exact pz [] (show specNewStore s_ = (s_, [], 1) from rfl) (fun z => .a [.o 0 z.1, .o 1 z.2.1, .i z.2.2])
def specl03Usual : (List FieldD) := [((⟨#[97]⟩, 1) : FieldD), ((⟨#[98]⟩, 1) : FieldD), ((⟨#[110]⟩, 2) : FieldD), ((⟨#[116]⟩, 2) : FieldD)]
theorem specl03Usual_a : ACalls Try.prog 53 [] (.o 0 specl03Usual) := by
  refine en tt_ok Try.func53 fun w0 F0 hG => ?_
  refine sn tt_ok [0] [] (p0) ?_
  refine tn tt_ok [0] [] (p0) ?_
  refine awp_ret ?_
  exact po0 [] (show specl03Usual = [((⟨#[97]⟩, 1) : FieldD), ((⟨#[98]⟩, 1) : FieldD), ((⟨#[110]⟩, 2) : FieldD), ((⟨#[116]⟩, 2) : FieldD)] from rfl)
def specDefaultSchema : (List FieldD) := specl03Usual
theorem specDefaultSchema_a : ACalls Try.prog 39 [] (.o 0 specDefaultSchema) := by
  refine en tt_ok Try.func39 fun w0 F0 hG => ?_
  refine sn tt_ok [0] [] (p0) ?_
  refine tn tt_ok [0] [] (pc 0 (specl03Usual_a) p0) ?_
  refine awp_ret ?_
  exact po0 [] (show specDefaultSchema = specl03Usual from rfl)
def specl05Place_f0 (id : Int) (k0 : Nat) (a0 : FileD) (_ : Unit) : Rd (Int) (Unit) (Unit) := (bif (a0.1 == id) then (.ret ((k0 : Nat) : Int)) else (.next ()))
def specl05Place_e0 (_ : Nat) (_ : Unit) : Unit := ()
def specl05Place (s_ : StoreD) (id : Int) : Int := (Out.on (forL (specl05Place_f0 id) specl05Place_e0 s_.2.1 0 ()) (fun _ => -1))
theorem fat_ltS (s_ : StoreD) (id : Int) : -1 ≤ specl05Place s_ id ∧ specl05Place s_ id < (List.length s_.2.1 : Int) := by
  unfold specl05Place
  rw [idx_eq (p := fun a : FileD => a.1 == id) (f := specl05Place_f0 id) (e := specl05Place_e0) (fun _ _ _ => rfl)]
  exact ixF_bd _ _
theorem specl05Place_a (s_ : StoreD) (id : Int) : ACalls Try.prog 74 [.a [.h s_.1, .h s_.2.1, .i s_.2.2], .i id] (.i (specl05Place s_ id)) := by
  refine en tt_ok Try.func74 fun w0 F0 hG => ?_
  refine sn tt_ok [1, 2, 4] [2] (p0) ?_
  refine awp_seq ?_
  refine tn tt_ok [1, 2, 4, 5] [2] (p0) ?_
  refine mz [(2, .p 2 0), (4, .i 0), (5, .i 0)] [0] [(2, [.h s_.1, .h s_.2.1, .i s_.2.2])] [] ?_
  refine wB 2 1 .sh s_.2.1 (fun hw1 hl2 => ?_)
  refine blL0b (specl05Place_f0 id) specl05Place_e0 s_.2.1 () (fun k0 _ => [(5, .i ((k0 : Nat) : Int))]) [5] (fun _ _ => []) [] (fun _ => []) [1, 2, 5] (fun _ => []) [2] (weak_fit (by kernel_rfl)) (fun k0 s0 hk0 hI0 => ?_) (fun k0 s0 hk0 hI0 => ?_) (fun y0 hD0 => ?_)
  ·
    obtain ⟨a0, hx0⟩ := get_some (l := s_.2.1) (i := k0) hk0
    refine awp_seq ?_
    refine sn tt_ok [1, 2, 4, 5, 10] [2] (pl 3 s_.2.1 (pe 4 (av_bool (decide_eq_true (p := ((k0 : Nat) : Int) < (s_.2.1.length : Int)) (by omega))) p0)) ?_
    refine ckT ?_
    refine awp_skip ?_
    refine awp_seq ?_
    refine awp_block ?_
    refine tn tt_ok [1, 2, 4, 5, 20] [2] (pn 3 hx0 p0) ?_
    refine ck (a0.1 == id) (fun h3 => ?_) (fun h3 => ?_)
    ·
      have h3d := eq_of_beq h3
      refine tu tt_ok [(4, .i ((k0 : Nat) : Int))] [4] [] [] (p0) ?_
      refine awp_ret ?_
      have hr4 : (forL (specl05Place_f0 id) specl05Place_e0 s_.2.1 0 ()) = .ret ((k0 : Nat) : Int) := forL_ret hx0 (bif_t h3 (rfl)) hI0
      exact pi [] (on_r hr4)
    ·
      have h3d := ne_of_beq h3
      refine awp_skip ?_
      refine qu tt_ok [(5, .i ((k0 + 1 : Nat) : Int))] [5] [] [] (pe 1 (av_i (wrap_succ k0 (by omega))) p0) ?_
      exact Exists.intro _ (And.intro (weak_fit (by kernel_rfl)) (forL_next hx0 (bif_f h3 (rfl)) hI0))
  ·
    refine awp_seq ?_
    refine sn tt_ok [1, 2, 4, 5, 10] [2] (pl 3 s_.2.1 (pe 4 (av_bool (decide_eq_false (p := ((k0 : Nat) : Int) < (s_.2.1.length : Int)) (by omega))) p0)) ?_
    refine ckF ?_
    refine awp_exit ?_
    exact Exists.intro _ (And.intro (weak_fit (by kernel_rfl)) (forL_end hk0 (rfl) hI0))
  ·
    refine sn tt_ok [4] [] (p0) ?_
    refine awp_ret ?_
    exact pi [] (on_b hD0 (rfl))
def specDeleteFile (s_ : StoreD) (id : Int) : StoreD × Bool := (bif ((!(specIsValidStore (specl05Copy s_))) || decide ((specl05Place (specl05Copy s_) id) < (0 : Int))) then ((specl05Copy s_), false) else (((specl05Copy s_).1, List.take (Int.toNat (specl05Place (specl05Copy s_) id)) ((specl05Copy s_).2.1) ++ (List.drop (Int.toNat ((specl05Place (specl05Copy s_) id) + 1)) ((specl05Copy s_).2.1)), (specl05Copy s_).2.2), true))
theorem specDeleteFile_a (s_ : StoreD) (id : Int) : ACalls Try.prog 57 [.a [.h s_.1, .h s_.2.1, .i s_.2.2], .i id] (.tup [(true, [.o 0 ((((specDeleteFile s_ id)).1).1), .q 1 ((((specDeleteFile s_ id)).1).2.1), .i ((((specDeleteFile s_ id)).1).2.2)]), (false, [.b (((specDeleteFile s_ id)).2)])]) := by
  refine en tt_ok Try.func57 fun w0 F0 hG => ?_
  refine sn tt_ok [1, 2, 4, 5] [2, 4] (p0) ?_
  refine tn tt_ok [1, 2, 4, 5] [2, 4] (pc 1 (specl05Copy_a s_) p0) ?_
  refine tu tt_ok [(2, .p 2 0), (4, .p 4 0), (5, .b false), (6, .i (specl05Place (specl05Copy s_) id))] [0, 1] [(2, [.o 512 ((specl05Copy s_).1), .o 513 ((specl05Copy s_).2.1), .i ((specl05Copy s_).2.2)]), (4, [.e 2, .e 5, .i 0])] [] (pc 2 (specl05Place_a (specl05Copy s_) id) p0) ?_
  refine awp_seq ?_
  refine awp_seq ?_
  refine jn [(18, .b ((!(specIsValidStore (specl05Copy s_))) || decide ((specl05Place (specl05Copy s_) id) < (0 : Int))))] [] [] [] (!(specIsValidStore (specl05Copy s_))) (fun h1 => ?_) (fun h1 => ?_) ?_
  ·
    have h1n : (specIsValidStore (specl05Copy s_)) = false := bnot_t h1
    refine rn tt_ok [2, 4, 5, 6, 18] [2, 4] (pc 1 (cb h1n (specIsValidStore_a (specl05Copy s_))) (pe 2 (show .b (!false) = .b true from rfl) p0)) ?_
    exact ⟨rfl, weak_fit (by rw [h1]; first | done | kernel_rfl)⟩
  ·
    have h1n : (specIsValidStore (specl05Copy s_)) = true := bnot_f h1
    refine rn tt_ok [2, 4, 5, 6, 18] [2, 4] (pc 1 (cb h1n (specIsValidStore_a (specl05Copy s_))) (pe 2 (show .b (!true) = .b false from rfl) p0)) ?_
    exact ⟨rfl, weak_fit (by rw [h1]; first | done | kernel_rfl)⟩
  refine ck ((!(specIsValidStore (specl05Copy s_))) || decide ((specl05Place (specl05Copy s_) id) < (0 : Int))) (fun h2 => ?_) (fun h2 => ?_)
  ·
    refine sn tt_ok [2, 4, 5, 6] [2, 4] (p0) ?_
    refine awp_demotes [513] rfl ?_
    refine awp_ret ?_
    exact pz [] (show specDeleteFile s_ id = _ from bif_t h2 (rfl)) (fun z => .tup [(true, [.o 0 z.1.1, .q 1 z.1.2.1, .i z.1.2.2]), (false, [.b z.2])])
  ·
    have h2l : ((!(specIsValidStore (specl05Copy s_)))) = false := or_l h2
    have h2ln : (specIsValidStore (specl05Copy s_)) = true := bnot_f h2l
    have h2r : (decide ((specl05Place (specl05Copy s_) id) < (0 : Int))) = false := or_r h2
    have h2rp := fat_ltS (specl05Copy s_) id
    have h2rd := of_decide_eq_false h2r
    refine awp_skip ?_
    refine wB 2 1 (.own true 513) ((specl05Copy s_).2.1) (fun hw3 hl4 => ?_)
    have hl5 : List.length (List.take (Int.toNat (specl05Place (specl05Copy s_) id)) ((specl05Copy s_).2.1)) ≤ 1073741824 := wide_len (wide_take (Int.toNat (specl05Place (specl05Copy s_) id)) (hw3))
    have hl6 : List.length (List.drop (Int.toNat ((specl05Place (specl05Copy s_) id) + 1)) ((specl05Copy s_).2.1)) ≤ 1073741824 := wide_len (wide_drop (Int.toNat ((specl05Place (specl05Copy s_) id) + 1)) (hw3))
    refine awp_weak (weak_freeze [513] rfl) ?_
    refine sU tt_ok tt_mx [] [6, 18] [(2, [.o 512 ((specl05Copy s_).1), .slc (.own false 1984) 5 (([] ++ (eL (List.take (Int.toNat (specl05Place (specl05Copy s_) id)) ((specl05Copy s_).2.1)))) ++ (eL (List.drop (Int.toNat ((specl05Place (specl05Copy s_) id) + 1)) ((specl05Copy s_).2.1)))), .i ((specl05Copy s_).2.2)])] [2] (pe 4 (av_take .sh 5 (Int.toNat (specl05Place (specl05Copy s_) id)) (specl05Place (specl05Copy s_) id) ((specl05Copy s_).2.1) rfl) (px (ob_rng (lo := 0) (hi := (specl05Place (specl05Copy s_) id)) (n := (List.length (eL ((specl05Copy s_).2.1)))) (rng_of (by omega) (by omega) (by omega))) (px (ob_len (n := (([] : List (List PV)).length + ((eL (List.take (Int.toNat (specl05Place (specl05Copy s_) id)) ((specl05Copy s_).2.1))) : List (List PV)).length)) (len_of (rfl) (eL_length (List.take (Int.toNat (specl05Place (specl05Copy s_) id)) ((specl05Copy s_).2.1))) (by first | omega | (simp only [List.length_cons, List.length_nil]; omega) | (simp; omega) | simp))) (pe 9 (av_i (IntWalk.i64_in ((specl05Place (specl05Copy s_) id) + 1) (by omega))) (pe 10 (av_drop .sh 5 (Int.toNat ((specl05Place (specl05Copy s_) id) + 1)) ((specl05Place (specl05Copy s_) id) + 1) ((specl05Copy s_).2.1) rfl) (px (ob_rng (lo := ((specl05Place (specl05Copy s_) id) + 1)) (hi := (((eL ((specl05Copy s_).2.1)) : List (List PV)).length : Int)) (n := (List.length (eL ((specl05Copy s_).2.1)))) (rng_all (by omega) (by omega))) (px (ob_len (n := ((([] ++ (eL (List.take (Int.toNat (specl05Place (specl05Copy s_) id)) ((specl05Copy s_).2.1)))) : List (List PV)).length + ((eL (List.drop (Int.toNat ((specl05Place (specl05Copy s_) id) + 1)) ((specl05Copy s_).2.1))) : List (List PV)).length)) (by simp [eL_length]; omega)) p0))))))) ?_
    refine eqn [] [] [(2, [.o 512 ((specl05Copy s_).1), .q 1984 (List.take (Int.toNat (specl05Place (specl05Copy s_) id)) ((specl05Copy s_).2.1) ++ (List.drop (Int.toNat ((specl05Place (specl05Copy s_) id) + 1)) ((specl05Copy s_).2.1))), .i ((specl05Copy s_).2.2)])] [2] (by rw [show (([] ++ (eL (List.take (Int.toNat (specl05Place (specl05Copy s_) id)) ((specl05Copy s_).2.1)))) ++ (eL (List.drop (Int.toNat ((specl05Place (specl05Copy s_) id) + 1)) ((specl05Copy s_).2.1)))) = (eL (List.take (Int.toNat (specl05Place (specl05Copy s_) id)) ((specl05Copy s_).2.1) ++ (List.drop (Int.toNat ((specl05Place (specl05Copy s_) id) + 1)) ((specl05Copy s_).2.1)))) from app_eL (rfl) (rfl)]; first | done | kernel_rfl) ?_
    refine sn tt_ok [4, 5] [4] (p0) ?_
    refine awp_ret ?_
    exact pz [] (show specDeleteFile s_ id = _ from bif_f h2 (rfl)) (fun z => .tup [(true, [.o 0 z.1.1, .q 1 z.1.2.1, .i z.1.2.2]), (false, [.b z.2])])
def specFindFile (s_ : StoreD) (id : Int) : FileD × Bool := (bif decide ((specl05Place s_ id) < (0 : Int)) then ((0, 0, false, 0, []), false) else ((specl04Copy (nth s_.2.1 (Int.toNat (specl05Place s_ id)))), true))
theorem specFindFile_a (s_ : StoreD) (id : Int) : ACalls Try.prog 36 [.a [.h s_.1, .h s_.2.1, .i s_.2.2], .i id] (.tup [(true, [.i ((((specFindFile s_ id)).1).1), .i ((((specFindFile s_ id)).1).2.1), .b ((((specFindFile s_ id)).1).2.2.1), .i ((((specFindFile s_ id)).1).2.2.2.1), .o 0 ((((specFindFile s_ id)).1).2.2.2.2)]), (false, [.b (((specFindFile s_ id)).2)])]) := by
  refine en tt_ok Try.func36 fun w0 F0 hG => ?_
  refine sn tt_ok [1, 2, 4, 5] [2, 4] (p0) ?_
  refine tn tt_ok [2, 4, 5, 6] [2, 4] (pc 2 (specl05Place_a s_ id) p0) ?_
  refine awp_seq ?_
  refine tu tt_ok [(2, .p 2 0), (4, .p 4 0), (5, .b false), (6, .i (specl05Place s_ id)), (11, .b (decide ((specl05Place s_ id) < (0 : Int))))] [0, 1] [(2, [.h s_.1, .h s_.2.1, .i s_.2.2]), (4, [.i 0, .i 0, .b false, .i 0, .e 4])] [] (p0) ?_
  refine ck (decide ((specl05Place s_ id) < (0 : Int))) (fun h1 => ?_) (fun h1 => ?_)
  ·
    have h1d := of_decide_eq_true h1
    refine su tt_ok [] [11] [] [] (p0) ?_
    refine opn [(true, 4, 4, true, 384000, 4)] ?_
    refine awp_ret ?_
    exact pz [] (show specFindFile s_ id = _ from bif_t h1 (rfl)) (fun z => .tup [(true, [.i z.1.1, .i z.1.2.1, .b z.1.2.2.1, .i z.1.2.2.2.1, .o 0 z.1.2.2.2.2]), (false, [.b z.2])])
  ·
    have h1p := fat_ltS s_ id
    have h1d := of_decide_eq_false h1
    refine awp_skip ?_
    refine wB 2 1 .sh s_.2.1 (fun hw3 hl4 => ?_)
    have hx2 := ng s_.2.1 (Int.toNat (specl05Place s_ id))
    refine sn tt_ok [4, 5] [4] (pg 3 (specl05Place s_ id) hx2 (pc 5 (specl04Copy_a (nth s_.2.1 (Int.toNat (specl05Place s_ id)))) p0)) ?_
    refine awp_ret ?_
    exact pz [] (show specFindFile s_ id = _ from bif_f h1 (rfl)) (fun z => .tup [(true, [.i z.1.1, .i z.1.2.1, .b z.1.2.2.1, .i z.1.2.2.2.1, .o 0 z.1.2.2.2.2]), (false, [.b z.2])])
end Go.Proofs.Ytiafgmepdgfpbaa
