/- What functions compute, and that they do (printed by am2.py): each function as a Lean function, then its contract. -/
import Derived.Test.YtiafgmepdgfpbaaIxe
import Derived.Test.YtiafgmepdgfpbaaIxd
import Derived.Test.YtiafgmepdgfpbaaZc
import Derived.KernelRfl
set_option linter.unusedVariables false
set_option linter.unusedSimpArgs false
namespace Go.Proofs.Ytiafgmepdgfpbaa
open Go.RowKit
open GoE (enc wide)
def implAttrNames_f0 (_ : Nat) (a0 : AttrD) (s0 : (List ByteArray)) : Rd ((List ByteArray)) ((List ByteArray)) ((List ByteArray)) := (.next (s0 ++ [a0.1]))
def implAttrNames_e0 (_ : Nat) (s0 : (List ByteArray)) : (List ByteArray) := s0
def implAttrNames (f : FileD) : (List ByteArray) := (Out.on (forL implAttrNames_f0 implAttrNames_e0 f.2.2.2.2 0 []) (fun y0 => y0))
theorem implAttrNames_a (f : FileD) : ACalls Try.prog 14 [.a [.i f.1, .i f.2.1, .b f.2.2.1, .i f.2.2.2.1, .h f.2.2.2.2]] (.o 0 (implAttrNames f)) := by
  refine en tt_ok Try.func14 fun w0 F0 hG => ?_
  refine sn tt_ok [1, 2] [1] (p0) ?_
  refine tn tt_ok [1, 2, 3] [1] (p0) ?_
  refine awp_seq ?_
  refine tu tt_ok [(2, .e 0), (3, .one (.slc (.own true 384) 1 [])), (8, .h f.2.2.2.2), (9, .i (f.2.2.2.2.length : Int)), (10, .i 0)] [0] [] [] (pl 2 f.2.2.2.2 p0) ?_
  refine wT 8 0 .sh f.2.2.2.2 (fun hw1 hl2 => ?_)
  refine blL1 implAttrNames_f0 implAttrNames_e0 f.2.2.2.2 [] (fun k0 s0 => [(3, .o 147201 s0), (10, .i ((k0 : Nat) : Int))]) [3, 10] (fun y0 => [(3, .o 147351 y0)]) [3, 8, 9, 10] (fun k0 s0 => List.length s0 ≤ k0) (weak_sf [(384, 147201)] (by kernel_rfl)) (by simp) (fun k0 s0 hk0 hI0 => ?_) (fun k0 s0 hk0 hI0 => ?_) (fun y0 hD0 => ?_)
  ·
    have hA0_0 := hI0.2
    obtain ⟨a0, hx0⟩ := get_some (l := f.2.2.2.2) (i := k0) hk0
    refine sn tt_ok [2, 3, 8, 9, 10, 11] [] (pe 0 (av_bool (decide_eq_true (p := ((k0 : Nat) : Int) < (f.2.2.2.2.length : Int)) (by omega))) p0) ?_
    refine awp_seq ?_
    refine ckT ?_
    refine awp_skip ?_
    refine awp_seq ?_
    refine awp_block ?_
    refine tn tt_ok [2, 3, 5, 8, 9, 10] [5] (pn 0 hx0 p0) ?_
    refine wT 3 0 (.own true 147201) s0 (fun hw3 hl4 => ?_)
    refine qu tt_ok [(3, .one (.slc (.own true 1152) 1 ((eL s0) ++ [[.s a0.1]])))] [3] [] [] (pa s0 [a0.1] p0) ?_
    refine eqn [(3, .o 1152 (s0 ++ [a0.1]))] [3] [] [] (by rw [show ((eL s0) ++ [[.s a0.1]]) = (eL (s0 ++ [a0.1])) from app_eL (rfl) (rfl)]; first | done | kernel_rfl) ?_
    refine rn tt_ok [2, 3, 8, 9, 10] [] (pe 0 (av_i (wrap_succ k0 (by omega))) p0) ?_
    exact Exists.intro (s0 ++ [a0.1]) (And.intro (weak_sf [(1152, 147201)] (by kernel_rfl)) ⟨forL_next hx0 (rfl) hI0.1, by first | omega | (simp; omega) | simp⟩)
  ·
    have hA0_0 := hI0.2
    refine sn tt_ok [2, 3, 8, 9, 10, 11] [] (pe 0 (av_bool (decide_eq_false (p := ((k0 : Nat) : Int) < (f.2.2.2.2.length : Int)) (by omega))) p0) ?_
    refine awp_seq ?_
    refine ckF ?_
    refine awp_exit ?_
    exact Exists.intro _ (And.intro (weak_sf [(147201, 147351)] (by kernel_rfl)) (forL_end hk0 (rfl) hI0.1))
  ·
    refine sn tt_ok [2] [] (p0) ?_
    refine awp_ret ?_
    exact po0 [] (on_b hD0 (rfl))
def specContainsID_f0 (id : Int) (_ : Nat) (a0 : Int) (_ : Unit) : Rd (Bool) (Unit) (Unit) := (bif (a0 == id) then (.ret true) else (.next ()))
def specContainsID_e0 (_ : Nat) (_ : Unit) : Unit := ()
def specContainsID (ids : (List Int)) (id : Int) : Bool := (Out.on (forL (specContainsID_f0 id) specContainsID_e0 ids 0 ()) (fun _ => false))
theorem specContainsID_a (ids : (List Int)) (id : Int) : ACalls Try.prog 15 [.h ids, .i id] (.b (specContainsID ids id)) := by
  refine en tt_ok Try.func15 fun w0 F0 hG => ?_
  refine sn tt_ok [0, 1, 4] [] (p0) ?_
  refine awp_seq ?_
  refine tn tt_ok [0, 1, 4, 5] [] (p0) ?_
  refine mz [(4, .b false), (5, .i 0)] [] [] [] ?_
  refine wT 0 0 .sh ids (fun hw1 hl2 => ?_)
  refine blL0 (specContainsID_f0 id) specContainsID_e0 ids () (fun k0 _ => [(5, .i ((k0 : Nat) : Int))]) [5] (fun _ => []) [0, 1, 5] (weak_fit (by kernel_rfl)) (fun k0 s0 hk0 hI0 => ?_) (fun k0 s0 hk0 hI0 => ?_) (fun y0 hD0 => ?_)
  ·
    obtain ⟨a0, hx0⟩ := get_some (l := ids) (i := k0) hk0
    refine awp_seq ?_
    refine sn tt_ok [0, 1, 4, 5, 9] [] (pl 2 ids (pe 3 (av_bool (decide_eq_true (p := ((k0 : Nat) : Int) < (ids.length : Int)) (by omega))) p0)) ?_
    refine ckT ?_
    refine awp_skip ?_
    refine awp_seq ?_
    refine awp_block ?_
    refine tn tt_ok [0, 1, 4, 5, 17] [] (pn 2 hx0 p0) ?_
    refine ck (a0 == id) (fun h3 => ?_) (fun h3 => ?_)
    ·
      have h3d := eq_of_beq h3
      refine tu tt_ok [(4, .b true)] [4] [] [] (p0) ?_
      refine awp_ret ?_
      have hr4 : (forL (specContainsID_f0 id) specContainsID_e0 ids 0 ()) = .ret true := forL_ret hx0 (bif_t h3 (rfl)) hI0
      exact pb [] (on_r hr4)
    ·
      have h3d := ne_of_beq h3
      refine awp_skip ?_
      refine qu tt_ok [(5, .i ((k0 + 1 : Nat) : Int))] [5] [] [] (pe 1 (av_i (wrap_succ k0 (by omega))) p0) ?_
      exact Exists.intro _ (And.intro (weak_fit (by kernel_rfl)) (forL_next hx0 (bif_f h3 (rfl)) hI0))
  ·
    refine awp_seq ?_
    refine sn tt_ok [0, 1, 4, 5, 9] [] (pl 2 ids (pe 3 (av_bool (decide_eq_false (p := ((k0 : Nat) : Int) < (ids.length : Int)) (by omega))) p0)) ?_
    refine ckF ?_
    refine awp_exit ?_
    exact Exists.intro _ (And.intro (weak_fit (by kernel_rfl)) (forL_end hk0 (rfl) hI0))
  ·
    refine sn tt_ok [4] [] (p0) ?_
    refine awp_ret ?_
    exact pb [] (on_b hD0 (rfl))
def specGetAttr_f0 (name : ByteArray) (_ : Nat) (a0 : AttrD) (_ : Unit) : Rd (ValueD) (Unit) (Unit) := (bif (a0.1.toList == name.toList) then (.ret a0.2) else (.next ()))
def specGetAttr_e0 (_ : Nat) (_ : Unit) : Unit := ()
def specGetAttr (f : FileD) (name : ByteArray) : ValueD := (Out.on (forL (specGetAttr_f0 name) specGetAttr_e0 f.2.2.2.2 0 ()) (fun _ => (0, 0, ⟨#[]⟩)))
theorem specGetAttr_a (f : FileD) (name : ByteArray) : ACalls Try.prog 16 [.a [.i f.1, .i f.2.1, .b f.2.2.1, .i f.2.2.2.1, .h f.2.2.2.2], .s name] (.a [.i ((specGetAttr f name).1), .i ((specGetAttr f name).2.1), .s ((specGetAttr f name).2.2)]) := by
  refine en tt_ok Try.func16 fun w0 F0 hG => ?_
  refine sn tt_ok [1, 2, 4] [2, 4] (p0) ?_
  refine awp_seq ?_
  refine tn tt_ok [1, 2, 4, 5] [2, 4] (p0) ?_
  refine mz [(2, .p 2 0), (4, .p 4 0), (5, .i 0)] [0] [(2, [.i f.1, .i f.2.1, .b f.2.2.1, .i f.2.2.2.1, .h f.2.2.2.2]), (4, [.i 0, .i 0, .s ⟨#[]⟩])] [] ?_
  refine wB 2 4 .sh f.2.2.2.2 (fun hw1 hl2 => ?_)
  refine blL0b (specGetAttr_f0 name) specGetAttr_e0 f.2.2.2.2 () (fun k0 _ => [(5, .i ((k0 : Nat) : Int))]) [5] (fun _ _ => []) [] (fun _ => []) [1, 2, 5] (fun _ => []) [2] (weak_fit (by kernel_rfl)) (fun k0 s0 hk0 hI0 => ?_) (fun k0 s0 hk0 hI0 => ?_) (fun y0 hD0 => ?_)
  ·
    obtain ⟨a0, hx0⟩ := get_some (l := f.2.2.2.2) (i := k0) hk0
    refine awp_seq ?_
    refine sn tt_ok [1, 2, 4, 5, 10] [2, 4] (pl 3 f.2.2.2.2 (pe 4 (av_bool (decide_eq_true (p := ((k0 : Nat) : Int) < (f.2.2.2.2.length : Int)) (by omega))) p0)) ?_
    refine ckT ?_
    refine awp_skip ?_
    refine awp_seq ?_
    refine awp_block ?_
    refine tn tt_ok [1, 2, 4, 5, 20] [2, 4] (pn 3 hx0 p0) ?_
    refine ck (a0.1.toList == name.toList) (fun h3 => ?_) (fun h3 => ?_)
    ·
      refine tu tt_ok [] [] [(4, [.i a0.2.1, .i a0.2.2.1, .s a0.2.2.2])] [4] (pn 3 hx0 p0) ?_
      refine awp_ret ?_
      have hr4 : (forL (specGetAttr_f0 name) specGetAttr_e0 f.2.2.2.2 0 ()) = .ret a0.2 := forL_ret hx0 (bif_t h3 (rfl)) hI0
      exact pz [] (show specGetAttr f name = _ from on_r hr4) (fun z => .a [.i z.1, .i z.2.1, .s z.2.2])
    ·
      refine awp_skip ?_
      refine qu tt_ok [(5, .i ((k0 + 1 : Nat) : Int))] [5] [] [] (pe 1 (av_i (wrap_succ k0 (by omega))) p0) ?_
      exact Exists.intro _ (And.intro (weak_fit (by kernel_rfl)) (forL_next hx0 (bif_f h3 (rfl)) hI0))
  ·
    refine awp_seq ?_
    refine sn tt_ok [1, 2, 4, 5, 10] [2, 4] (pl 3 f.2.2.2.2 (pe 4 (av_bool (decide_eq_false (p := ((k0 : Nat) : Int) < (f.2.2.2.2.length : Int)) (by omega))) p0)) ?_
    refine ckF ?_
    refine awp_exit ?_
    exact Exists.intro _ (And.intro (weak_fit (by kernel_rfl)) (forL_end hk0 (rfl) hI0))
  ·
    refine sn tt_ok [4] [4] (p0) ?_
    refine awp_ret ?_
    exact pz [] (show specGetAttr f name = _ from on_b hD0 (rfl)) (fun z => .a [.i z.1, .i z.2.1, .s z.2.2])
def lawsfileOf (s_ : StoreD) (id : Int) : FileD := (((specFindFile s_ id)).1)
theorem lawsfileOf_a (s_ : StoreD) (id : Int) : ACalls Try.prog 17 [.a [.h s_.1, .h s_.2.1, .i s_.2.2], .i id] (.a [.i ((lawsfileOf s_ id).1), .i ((lawsfileOf s_ id).2.1), .b ((lawsfileOf s_ id).2.2.1), .i ((lawsfileOf s_ id).2.2.2.1), .o 0 ((lawsfileOf s_ id).2.2.2.2)]) := by
  refine en tt_ok Try.func17 fun w0 F0 hG => ?_
  refine sn tt_ok [1, 2, 4] [2, 4] (p0) ?_
  refine tn tt_ok [4, 5] [4, 5] (pc 2 (specFindFile_a s_ id) p0) ?_
  refine tu tt_ok [(4, .p 4 0)] [0, 1] [(4, [.i ((((specFindFile s_ id)).1).1), .i ((((specFindFile s_ id)).1).2.1), .b ((((specFindFile s_ id)).1).2.2.1), .i ((((specFindFile s_ id)).1).2.2.2.1), .o 640 ((((specFindFile s_ id)).1).2.2.2.2)])] [] (p0) ?_
  refine awp_ret ?_
  exact pz [] (show lawsfileOf s_ id = (((specFindFile s_ id)).1) from rfl) (fun z => .a [.i z.1, .i z.2.1, .b z.2.2.1, .i z.2.2.2.1, .o 0 z.2.2.2.2])
def lawssameInts_f0 (b : (List Int)) (k0 : Nat) (a0 : Int) (_ : Unit) : Rd (Bool) (Unit) (Unit) := (bif (a0 != (nth b k0)) then (.ret false) else (.next ()))
def lawssameInts_e0 (_ : Nat) (_ : Unit) : Unit := ()
def lawssameInts (a_ : (List Int)) (b : (List Int)) : Bool := (bif ((a_.length : Int) != (b.length : Int)) then false else (Out.on (forL (lawssameInts_f0 b) lawssameInts_e0 a_ 0 ()) (fun _ => true)))
theorem lawssameInts_a (a_ : (List Int)) (b : (List Int)) : ACalls Try.prog 11 [.h a_, .h b] (.b (lawssameInts a_ b)) := by
  refine en tt_ok Try.func11 fun w0 F0 hG => ?_
  refine sn tt_ok [0, 1, 4] [] (p0) ?_
  refine awp_seq ?_
  refine tn tt_ok [0, 1, 4, 10] [] (pl 1 a_ (pl 3 b p0)) ?_
  refine ck ((a_.length : Int) != (b.length : Int)) (fun h1 => ?_) (fun h1 => ?_)
  ·
    have h1d := ne_of_bne h1
    refine tu tt_ok [(4, .b false)] [] [] [] (p0) ?_
    refine awp_ret ?_
    exact pb [] (bif_t h1 (rfl))
  ·
    have h1d := eq_of_bne h1
    refine awp_skip ?_
    refine awp_seq ?_
    refine tu tt_ok [(4, .b false), (5, .i 0)] [] [] [] (p0) ?_
    refine wT 0 0 .sh a_ (fun hw2 hl3 => ?_)
    refine blL0 (lawssameInts_f0 b) lawssameInts_e0 a_ () (fun k0 _ => [(5, .i ((k0 : Nat) : Int))]) [5] (fun _ => []) [0, 1, 5] (weak_fit (by kernel_rfl)) (fun k0 s0 hk0 hI0 => ?_) (fun k0 s0 hk0 hI0 => ?_) (fun y0 hD0 => ?_)
    ·
      obtain ⟨a0, hx0⟩ := get_some (l := a_) (i := k0) hk0
      refine awp_seq ?_
      refine sn tt_ok [0, 1, 4, 5, 14] [] (pl 2 a_ (pe 3 (av_bool (decide_eq_true (p := ((k0 : Nat) : Int) < (a_.length : Int)) (by omega))) p0)) ?_
      refine ckT ?_
      refine awp_skip ?_
      refine awp_seq ?_
      refine awp_block ?_
      refine wT 1 0 .sh b (fun hw5 hl6 => ?_)
      have hx4 := ng b k0
      refine tN tt_ok tt_mx [0, 1, 4, 5, 25] [] (pn 2 hx0 (pn 6 hx4 p0)) ?_
      refine ck (a0 != (nth b k0)) (fun h7 => ?_) (fun h7 => ?_)
      ·
        have h7d := ne_of_bne h7
        refine tu tt_ok [] [] [] [] (p0) ?_
        refine awp_ret ?_
        have hr8 : (forL (lawssameInts_f0 b) lawssameInts_e0 a_ 0 ()) = .ret false := forL_ret hx0 (bif_t h7 (rfl)) hI0
        exact pb [] (bif_f h1 (on_r hr8))
      ·
        have h7d := eq_of_bne h7
        refine awp_skip ?_
        refine qu tt_ok [(5, .i ((k0 + 1 : Nat) : Int))] [5] [] [] (pe 1 (av_i (wrap_succ k0 (by omega))) p0) ?_
        exact Exists.intro _ (And.intro (weak_fit (by kernel_rfl)) (forL_next hx0 (bif_f h7 (rfl)) hI0))
    ·
      refine awp_seq ?_
      refine sn tt_ok [0, 1, 4, 5, 14] [] (pl 2 a_ (pe 3 (av_bool (decide_eq_false (p := ((k0 : Nat) : Int) < (a_.length : Int)) (by omega))) p0)) ?_
      refine ckF ?_
      refine awp_exit ?_
      exact Exists.intro _ (And.intro (weak_fit (by kernel_rfl)) (forL_end hk0 (rfl) hI0))
    ·
      refine sn tt_ok [4] [] (p0) ?_
      refine awp_ret ?_
      exact pb [] (bif_f h1 (on_b hD0 (rfl)))
def lawssamePosting (a_ : PostingD) (b : PostingD) : Bool := ((a_.1.toList == b.1.toList) && (((a_.2.1.1 == b.2.1.1) && ((a_.2.1.2.1 == b.2.1.2.1) && ((a_.2.1.2.2.toList == b.2.1.2.2.toList) && true))) && (lawssameInts a_.2.2 b.2.2)))
theorem lawssamePosting_a (a_ : PostingD) (b : PostingD) : ACalls Try.prog 30 [.a [.s a_.1, .i a_.2.1.1, .i a_.2.1.2.1, .s a_.2.1.2.2, .h a_.2.2], .a [.s b.1, .i b.2.1.1, .i b.2.1.2.1, .s b.2.1.2.2, .h b.2.2]] (.b (lawssamePosting a_ b)) := by
  refine en tt_ok Try.func30 fun w0 F0 hG => ?_
  refine sn tt_ok [2, 3, 4] [2, 3] (p0) ?_
  refine awp_seq ?_
  refine mz [(2, .p 2 0), (3, .p 3 0), (4, .b false)] [0, 1] [(2, [.s a_.1, .i a_.2.1.1, .i a_.2.1.2.1, .s a_.2.1.2.2, .h a_.2.2]), (3, [.s b.1, .i b.2.1.1, .i b.2.1.2.1, .s b.2.1.2.2, .h b.2.2])] [] ?_
  refine jn [(4, .b ((a_.1.toList == b.1.toList) && (((a_.2.1.1 == b.2.1.1) && ((a_.2.1.2.1 == b.2.1.2.1) && ((a_.2.1.2.2.toList == b.2.1.2.2.toList) && true))) && (lawssameInts a_.2.2 b.2.2))))] [2, 3, 4] [] [2, 3] (a_.1.toList == b.1.toList) (fun h1 => ?_) (fun h1 => ?_) ?_
  ·
    refine awp_split ((a_.2.1.1 == b.2.1.1) && ((a_.2.1.2.1 == b.2.1.2.1) && ((a_.2.1.2.2.toList == b.2.1.2.2.toList) && true))) (fun h2 => ?_) (fun h2 => ?_)
    ·
      have h2l : ((a_.2.1.1 == b.2.1.1)) = true := and_l h2
      have h2ld := eq_of_beq h2l
      have h2r : (((a_.2.1.2.1 == b.2.1.2.1) && ((a_.2.1.2.2.toList == b.2.1.2.2.toList) && true))) = true := and_r h2
      have h2rl : ((a_.2.1.2.1 == b.2.1.2.1)) = true := and_l h2r
      have h2rld := eq_of_beq h2rl
      have h2rr : (((a_.2.1.2.2.toList == b.2.1.2.2.toList) && true)) = true := and_r h2r
      have h2rrl : ((a_.2.1.2.2.toList == b.2.1.2.2.toList)) = true := and_l h2rr
      have h2rrr : (true) = true := and_r h2rr
      refine rn tt_ok [4] [] (pt 4 h1 (pt 10 h2 (pc 17 (lawssameInts_a a_.2.2 b.2.2) p0))) ?_
      exact ⟨rfl, weak_fit (by rw [h1, h2]; first | done | kernel_rfl)⟩
    ·
      refine rn tt_ok [4] [] (pt 4 h1 (pf 10 h2 p0)) ?_
      exact ⟨rfl, weak_fit (by rw [h1, h2]; first | done | kernel_rfl)⟩
  ·
    refine rn tt_ok [4] [] (pf 4 h1 p0) ?_
    exact ⟨rfl, weak_fit (by rw [h1]; first | done | kernel_rfl)⟩
  refine awp_ret ?_
  exact pb [] (show lawssamePosting a_ b = ((a_.1.toList == b.1.toList) && (((a_.2.1.1 == b.2.1.1) && ((a_.2.1.2.1 == b.2.1.2.1) && ((a_.2.1.2.2.toList == b.2.1.2.2.toList) && true))) && (lawssameInts a_.2.2 b.2.2))) from rfl)
def lawssamePostings_f0 (b : (List PostingD)) (k0 : Nat) (a0 : PostingD) (_ : Unit) : Rd (Bool) (Unit) (Unit) := (bif (!(lawssamePosting a0 (nth b k0))) then (.ret false) else (.next ()))
def lawssamePostings_e0 (_ : Nat) (_ : Unit) : Unit := ()
def lawssamePostings (a_ : (List PostingD)) (b : (List PostingD)) : Bool := (bif ((a_.length : Int) != (b.length : Int)) then false else (Out.on (forL (lawssamePostings_f0 b) lawssamePostings_e0 a_ 0 ()) (fun _ => true)))
theorem lawssamePostings_a (a_ : (List PostingD)) (b : (List PostingD)) : ACalls Try.prog 8 [.h a_, .h b] (.b (lawssamePostings a_ b)) := by
  refine en tt_ok Try.func8 fun w0 F0 hG => ?_
  refine sn tt_ok [0, 1, 4] [] (p0) ?_
  refine awp_seq ?_
  refine tn tt_ok [0, 1, 4, 10] [] (pl 1 a_ (pl 3 b p0)) ?_
  refine ck ((a_.length : Int) != (b.length : Int)) (fun h1 => ?_) (fun h1 => ?_)
  ·
    have h1d := ne_of_bne h1
    refine tu tt_ok [(4, .b false)] [] [] [] (p0) ?_
    refine awp_ret ?_
    exact pb [] (bif_t h1 (rfl))
  ·
    have h1d := eq_of_bne h1
    refine awp_skip ?_
    refine awp_seq ?_
    refine tu tt_ok [(4, .b false), (5, .i 0)] [] [] [] (p0) ?_
    refine wT 0 0 .sh a_ (fun hw2 hl3 => ?_)
    refine blL0 (lawssamePostings_f0 b) lawssamePostings_e0 a_ () (fun k0 _ => [(5, .i ((k0 : Nat) : Int))]) [5] (fun _ => []) [0, 1, 5] (weak_fit (by kernel_rfl)) (fun k0 s0 hk0 hI0 => ?_) (fun k0 s0 hk0 hI0 => ?_) (fun y0 hD0 => ?_)
    ·
      obtain ⟨a0, hx0⟩ := get_some (l := a_) (i := k0) hk0
      refine awp_seq ?_
      refine sn tt_ok [0, 1, 4, 5, 14] [] (pl 2 a_ (pe 3 (av_bool (decide_eq_true (p := ((k0 : Nat) : Int) < (a_.length : Int)) (by omega))) p0)) ?_
      refine ckT ?_
      refine awp_skip ?_
      refine awp_seq ?_
      refine awp_block ?_
      refine wT 1 0 .sh b (fun hw5 hl6 => ?_)
      have hx4 := ng b k0
      refine tN tt_ok tt_mx [0, 1, 4, 5, 26] [] (pn 2 hx0 (pn 6 hx4 (pc 8 (lawssamePosting_a a0 (nth b k0)) p0))) ?_
      refine ck (!(lawssamePosting a0 (nth b k0))) (fun h7 => ?_) (fun h7 => ?_)
      ·
        have h7n : (lawssamePosting a0 (nth b k0)) = false := bnot_t h7
        refine tu tt_ok [] [] [] [] (p0) ?_
        refine awp_ret ?_
        have hr8 : (forL (lawssamePostings_f0 b) lawssamePostings_e0 a_ 0 ()) = .ret false := forL_ret hx0 (bif_t h7 (rfl)) hI0
        exact pb [] (bif_f h1 (on_r hr8))
      ·
        have h7n : (lawssamePosting a0 (nth b k0)) = true := bnot_f h7
        refine awp_skip ?_
        refine qu tt_ok [(5, .i ((k0 + 1 : Nat) : Int))] [5] [] [] (pe 1 (av_i (wrap_succ k0 (by omega))) p0) ?_
        exact Exists.intro _ (And.intro (weak_fit (by kernel_rfl)) (forL_next hx0 (bif_f h7 (rfl)) hI0))
    ·
      refine awp_seq ?_
      refine sn tt_ok [0, 1, 4, 5, 14] [] (pl 2 a_ (pe 3 (av_bool (decide_eq_false (p := ((k0 : Nat) : Int) < (a_.length : Int)) (by omega))) p0)) ?_
      refine ckF ?_
      refine awp_exit ?_
      exact Exists.intro _ (And.intro (weak_fit (by kernel_rfl)) (forL_end hk0 (rfl) hI0))
    ·
      refine sn tt_ok [4] [] (p0) ?_
      refine awp_ret ?_
      exact pb [] (bif_f h1 (on_b hD0 (rfl)))
def lawssampleStore (n : Int) : StoreD := (((specCreateFile (specNewStore specDefaultSchema) (specSetAttr (0, 0, false, 0, []) ⟨#[97]⟩ (specIntValue n)))).1)
theorem lawssampleStore_a (n : Int) : ACalls Try.prog 18 [.i n] (.a [.o 0 ((lawssampleStore n).1), .o 1 ((lawssampleStore n).2.1), .i ((lawssampleStore n).2.2)]) := by
  refine en tt_ok Try.func18 fun w0 F0 hG => ?_
  refine sn tt_ok [0, 2] [2] (p0) ?_
  refine tn tt_ok [2, 3] [2, 3] (pc 0 (specDefaultSchema_a) (pc 1 (specNewStore_a specDefaultSchema) (pc 4 (specIntValue_a n) (pc 5 (specSetAttr_a (0, 0, false, 0, []) ⟨#[97]⟩ (specIntValue n) (by first | omega | (simp; done) | (simp; omega))) (pc 6 (specCreateFile_a (specNewStore specDefaultSchema) (specSetAttr (0, 0, false, 0, []) ⟨#[97]⟩ (specIntValue n))) p0))))) ?_
  refine tu tt_ok [(2, .p 2 0)] [0] [(2, [.o 832 ((((specCreateFile (specNewStore specDefaultSchema) (specSetAttr (0, 0, false, 0, []) ⟨#[97]⟩ (specIntValue n)))).1).1), .o 833 ((((specCreateFile (specNewStore specDefaultSchema) (specSetAttr (0, 0, false, 0, []) ⟨#[97]⟩ (specIntValue n)))).1).2.1), .i ((((specCreateFile (specNewStore specDefaultSchema) (specSetAttr (0, 0, false, 0, []) ⟨#[97]⟩ (specIntValue n)))).1).2.2)])] [] (p0) ?_
  refine awp_ret ?_
  exact pz [] (show lawssampleStore n = (((specCreateFile (specNewStore specDefaultSchema) (specSetAttr (0, 0, false, 0, []) ⟨#[97]⟩ (specIntValue n)))).1) from rfl) (fun z => .a [.o 0 z.1, .o 1 z.2.1, .i z.2.2])
def specDrawBuildIndex (code : (List UInt8)) : StoreD := (lt (α := Nat × Int) (specl01New code) (fun x1 => (lt (α := StoreD × Nat × Int) (specl05Store code x1.1 x1.2) (fun x2 => x2.1))))
theorem specDrawBuildIndex_a (code : (List UInt8)) : ACalls Try.prog 6 [.h code] (.a [.o 0 ((specDrawBuildIndex code).1), .q 1 ((specDrawBuildIndex code).2.1), .i ((specDrawBuildIndex code).2.2)]) := by
  refine en tt_ok Try.func6 fun w0 F0 hG => ?_
  refine sn tt_ok [0, 2] [2] (p0) ?_
  obtain ⟨x1, hx1⟩ : ∃ z : Nat × Int, specl01New code = z := ⟨_, rfl⟩
  obtain ⟨x2, hx2⟩ : ∃ z : StoreD × Nat × Int, specl05Store code x1.1 x1.2 = z := ⟨_, rfl⟩
  refine tn tt_ok [2] [2] (po 1 (.new [.h code, .i ((x1.1 : Nat) : Int), .i x1.2]) (px (ob_new (hx1 ▸ specl01New_a code)) (po 2 (.give none (.a [.o 0 x2.1.1, .q 1 x2.1.2.1, .i x2.1.2.2]) [.h code, .i ((x2.2.1 : Nat) : Int), .i x2.2.2]) (px (ob_give (hx2 ▸ specl05Store_a code x1.1 x1.2)) p0)))) ?_
  refine awp_ret ?_
  exact pz [] (show specDrawBuildIndex code = _ from lt_b hx1 (lt_b hx2 (rfl))) (fun z => .a [.o 0 z.1, .q 1 z.2.1, .i z.2.2])
def specl03Name (code : (List UInt8)) (ci : Nat) (ch : Int) : ByteArray × Nat × Int := (lt (α := ByteArray × Nat × Int) (specl01Pick code ci ch [⟨#[97]⟩, ⟨#[98]⟩, ⟨#[110]⟩, ⟨#[116]⟩, ⟨#[97]⟩, ⟨#[98]⟩, ⟨#[116]⟩, ⟨#[122]⟩, ⟨#[65]⟩, ⟨#[]⟩]) (fun x1 => (x1.1, x1.2.1, x1.2.2)))
theorem specl03Name_a (code : (List UInt8)) (ci : Nat) (ch : Int) : AGive Try.prog 32 [.h code, .i ((ci : Nat) : Int), .i ch] [] (.s (((specl03Name code ci ch)).1)) [.h code, .i ((((specl03Name code ci ch)).2.1 : Nat) : Int), .i (((specl03Name code ci ch)).2.2)] := by
  refine agive_of (tt := tt) tt_ok Try.func32 (fn := Try.f32) rfl (by unfold FnOk; kernel_rfl) (Nat.le_of_ble_eq_true rfl) (Nat.le_of_ble_eq_true rfl) rfl rfl fun w0 F0 hG => ?_
  refine sn tt_ok [0, 2] [60000] (p0) ?_
  obtain ⟨x1, hx1⟩ : ∃ z : ByteArray × Nat × Int, specl01Pick code ci ch [⟨#[97]⟩, ⟨#[98]⟩, ⟨#[110]⟩, ⟨#[116]⟩, ⟨#[97]⟩, ⟨#[98]⟩, ⟨#[116]⟩, ⟨#[122]⟩, ⟨#[65]⟩, ⟨#[]⟩] = z := ⟨_, rfl⟩
  refine tn tt_ok [0, 2] [60000] (po 2 (.give none (.s x1.1) [.h code, .i ((x1.2.1 : Nat) : Int), .i x1.2.2]) (px (ob_give (hx1 ▸ specl01Pick_a code ci ch [⟨#[97]⟩, ⟨#[98]⟩, ⟨#[110]⟩, ⟨#[116]⟩, ⟨#[97]⟩, ⟨#[98]⟩, ⟨#[116]⟩, ⟨#[122]⟩, ⟨#[65]⟩, ⟨#[]⟩] (Nat.zero_lt_succ _))) p0)) ?_
  refine awp_ret ?_
  have hE2 : specl03Name code ci ch = (x1.1, x1.2.1, x1.2.2) := lt_b hx1 (rfl)
  exact gret [] (congrArg (fun z => (.s z.1 : AV)) hE2.symm) (congrArg (fun z => ([.h code, .i ((z.2.1 : Nat) : Int), .i z.2.2] : List C)) hE2.symm)
def specl02Value (code : (List UInt8)) (ci : Nat) (ch : Int) : ValueD × Nat × Int := (lt (α := Int × Nat × Int) (specl01Below code ci ch 5) (fun x1 => (bif (x1.1 == (0 : Int)) then ((0, 0, ⟨#[]⟩), x1.2.1, x1.2.2) else (lt (α := Bool) (bif (x1.1 == (1 : Int)) then (x1.1 == (1 : Int)) else (x1.1 == (2 : Int))) (fun x4 => (bif x4 then (lt (α := Int × Nat × Int) (specl01Below code x1.2.1 x1.2.2 5) (fun x7 => ((specIntValue x7.1), x7.2.1, x7.2.2))) else (lt (α := ByteArray × Nat × Int) (specl01Pick code x1.2.1 x1.2.2 [⟨#[114, 101, 100]⟩, ⟨#[98, 108, 117, 101]⟩, ⟨#[105, 110, 107]⟩]) (fun x9 => ((specStringValue x9.1), x9.2.1, x9.2.2)))))))))
theorem specl02Value_a (code : (List UInt8)) (ci : Nat) (ch : Int) : AGive Try.prog 33 [.h code, .i ((ci : Nat) : Int), .i ch] [] (.a [.i ((((specl02Value code ci ch)).1).1), .i ((((specl02Value code ci ch)).1).2.1), .s ((((specl02Value code ci ch)).1).2.2)]) [.h code, .i ((((specl02Value code ci ch)).2.1 : Nat) : Int), .i (((specl02Value code ci ch)).2.2)] := by
  refine agive_of (tt := tt) tt_ok Try.func33 (fn := Try.f33) rfl (by unfold FnOk; kernel_rfl) (Nat.le_of_ble_eq_true rfl) (Nat.le_of_ble_eq_true rfl) rfl rfl fun w0 F0 hG => ?_
  refine sn tt_ok [0, 2] [2, 60000] (p0) ?_
  refine awp_seq ?_
  obtain ⟨x1, hx1⟩ : ∃ z : Int × Nat × Int, specl01Below code ci ch 5 = z := ⟨_, rfl⟩
  have hbx1 := hx1 ▸ specl01Below_bd code ci ch 5
  refine tn tt_ok [0, 2, 4] [2, 60000] (po 1 (.give none (.i x1.1) [.h code, .i ((x1.2.1 : Nat) : Int), .i x1.2.2]) (px (ob_give (hx1 ▸ specl01Below_a code ci ch 5)) p0)) ?_
  refine awp_block ?_
  refine tu tt_ok [(2, .p 2 0), (4, .i x1.1), (5, .b (x1.1 == (0 : Int)))] [] [(2, [.i 0, .i 0, .s ⟨#[]⟩]), (60000, [.h code, .i ((x1.2.1 : Nat) : Int), .i x1.2.2])] [60000] (p0) ?_
  refine ck (x1.1 == (0 : Int)) (fun h2 => ?_) (fun h2 => ?_)
  ·
    have h2d := eq_of_beq h2
    refine su tt_ok [] [4, 5] [] [] (p0) ?_
    refine awp_ret ?_
    have hE3 : specl02Value code ci ch = ((0, 0, ⟨#[]⟩), x1.2.1, x1.2.2) := lt_b hx1 (bif_t h2 (rfl))
    exact gret [] (congrArg (fun z => (.a [.i z.1.1, .i z.1.2.1, .s z.1.2.2] : AV)) hE3.symm) (congrArg (fun z => ([.h code, .i ((z.2.1 : Nat) : Int), .i z.2.2] : List C)) hE3.symm)
  ·
    have h2d := ne_of_beq h2
    refine awp_seq ?_
    refine sn tt_ok [0, 2, 4, 8] [2, 60000] (p0) ?_
    refine mz [(8, .b (x1.1 == (1 : Int)))] [5] [] [] ?_
    obtain ⟨x4, hx4⟩ : ∃ z : Bool, (bif (x1.1 == (1 : Int)) then (x1.1 == (1 : Int)) else (x1.1 == (2 : Int))) = z := ⟨_, rfl⟩
    refine jn [(8, .b x4)] [4, 8] [] [] (x1.1 == (1 : Int)) (fun h5 => ?_) (fun h5 => ?_) ?_
    ·
      have h5d := eq_of_beq h5
      refine ckt h5 ?_
      refine awp_skip ?_
      obtain rfl : x4 = (x1.1 == (1 : Int)) := hx4.symm.trans (show (bif (x1.1 == (1 : Int)) then (x1.1 == (1 : Int)) else (x1.1 == (2 : Int))) = (x1.1 == (1 : Int)) from bif_t h5 (rfl))
      exact ⟨rfl, weak_fit (by kernel_rfl)⟩
    ·
      have h5d := ne_of_beq h5
      refine ckf h5 ?_
      refine rn tt_ok [0, 2, 8] [2, 60000] (p0) ?_
      obtain rfl : x4 = (x1.1 == (2 : Int)) := hx4.symm.trans (show (bif (x1.1 == (1 : Int)) then (x1.1 == (1 : Int)) else (x1.1 == (2 : Int))) = (x1.1 == (2 : Int)) from bif_f h5 (rfl))
      exact ⟨rfl, weak_fit (by kernel_rfl)⟩
    refine ck x4 (fun h6 => ?_) (fun h6 => ?_)
    ·
      obtain ⟨x7, hx7⟩ : ∃ z : Int × Nat × Int, specl01Below code x1.2.1 x1.2.2 5 = z := ⟨_, rfl⟩
      have hbx7 := hx7 ▸ specl01Below_bd code x1.2.1 x1.2.2 5
      refine sn tt_ok [0, 2] [2, 60000] (po 1 (.give none (.i x7.1) [.h code, .i ((x7.2.1 : Nat) : Int), .i x7.2.2]) (px (ob_give (hx7 ▸ specl01Below_a code x1.2.1 x1.2.2 5)) (pc 2 (specIntValue_a x7.1) p0))) ?_
      refine awp_ret ?_
      have hE8 : specl02Value code ci ch = ((specIntValue x7.1), x7.2.1, x7.2.2) := lt_b hx1 (bif_f h2 (lt_b hx4 (bif_t h6 (lt_b hx7 (rfl)))))
      exact gret [] (congrArg (fun z => (.a [.i z.1.1, .i z.1.2.1, .s z.1.2.2] : AV)) hE8.symm) (congrArg (fun z => ([.h code, .i ((z.2.1 : Nat) : Int), .i z.2.2] : List C)) hE8.symm)
    ·
      refine awp_skip ?_
      obtain ⟨x9, hx9⟩ : ∃ z : ByteArray × Nat × Int, specl01Pick code x1.2.1 x1.2.2 [⟨#[114, 101, 100]⟩, ⟨#[98, 108, 117, 101]⟩, ⟨#[105, 110, 107]⟩] = z := ⟨_, rfl⟩
      refine sn tt_ok [0, 2] [2, 60000] (po 2 (.give none (.s x9.1) [.h code, .i ((x9.2.1 : Nat) : Int), .i x9.2.2]) (px (ob_give (hx9 ▸ specl01Pick_a code x1.2.1 x1.2.2 [⟨#[114, 101, 100]⟩, ⟨#[98, 108, 117, 101]⟩, ⟨#[105, 110, 107]⟩] (Nat.zero_lt_succ _))) (pc 3 (specStringValue_a x9.1) p0))) ?_
      refine awp_ret ?_
      have hE10 : specl02Value code ci ch = ((specStringValue x9.1), x9.2.1, x9.2.2) := lt_b hx1 (bif_f h2 (lt_b hx4 (bif_f h6 (lt_b hx9 (rfl)))))
      exact gret [] (congrArg (fun z => (.a [.i z.1.1, .i z.1.2.1, .s z.1.2.2] : AV)) hE10.symm) (congrArg (fun z => ([.h code, .i ((z.2.1 : Nat) : Int), .i z.2.2] : List C)) hE10.symm)
def specDrawLookupIndex (code : (List UInt8)) : (List PostingD) × ByteArray × ValueD := (lt (α := Nat × Int) (specl01New code) (fun x1 => (lt (α := StoreD × Nat × Int) (specl05Store code x1.1 x1.2) (fun x2 => (lt (α := ByteArray × Nat × Int) (specl03Name code x2.2.1 x2.2.2) (fun x3 => (lt (α := ValueD × Nat × Int) (specl02Value code x3.2.1 x3.2.2) (fun x4 => ((specBuildIndex x2.1), x3.1, x4.1)))))))))
theorem specDrawLookupIndex_a (code : (List UInt8)) : ACalls Try.prog 10 [.h code] (.tup [(false, [.q 0 (((specDrawLookupIndex code)).1)]), (false, [.s (((specDrawLookupIndex code)).2.1)]), (true, [.i ((((specDrawLookupIndex code)).2.2).1), .i ((((specDrawLookupIndex code)).2.2).2.1), .s ((((specDrawLookupIndex code)).2.2).2.2)])]) := by
  refine en tt_ok Try.func10 fun w0 F0 hG => ?_
  refine sn tt_ok [0, 2, 3, 4] [4] (p0) ?_
  obtain ⟨x1, hx1⟩ : ∃ z : Nat × Int, specl01New code = z := ⟨_, rfl⟩
  refine tn tt_ok [2, 3, 4, 5] [4, 7] (po 1 (.new [.h code, .i ((x1.1 : Nat) : Int), .i x1.2]) (px (ob_new (hx1 ▸ specl01New_a code)) p0)) ?_
  obtain ⟨x2, hx2⟩ : ∃ z : StoreD × Nat × Int, specl05Store code x1.1 x1.2 = z := ⟨_, rfl⟩
  have hatx2 := l05_attrs code x1.1 x1.2
  rw [hx2] at hatx2
  obtain ⟨x3, hx3⟩ : ∃ z : ByteArray × Nat × Int, specl03Name code x2.2.1 x2.2.2 = z := ⟨_, rfl⟩
  obtain ⟨x4, hx4⟩ : ∃ z : ValueD × Nat × Int, specl02Value code x3.2.1 x3.2.2 = z := ⟨_, rfl⟩
  refine tu tt_ok [(2, .q 640 (specBuildIndex x2.1)), (3, .s x3.1), (4, .p 4 0)] [0] [(4, [.i x4.1.1, .i x4.1.2.1, .s x4.1.2.2])] [] (po 1 (.give none (.a [.o 0 x2.1.1, .q 1 x2.1.2.1, .i x2.1.2.2]) [.h code, .i ((x2.2.1 : Nat) : Int), .i x2.2.2]) (px (ob_give (hx2 ▸ specl05Store_a code x1.1 x1.2)) (pc 2 (specBuildIndex_a x2.1 (Nat.le_trans hatx2 (by decide))) (po 4 (.give none (.s x3.1) [.h code, .i ((x3.2.1 : Nat) : Int), .i x3.2.2]) (px (ob_give (hx3 ▸ specl03Name_a code x2.2.1 x2.2.2)) (po 6 (.give none (.a [.i x4.1.1, .i x4.1.2.1, .s x4.1.2.2]) [.h code, .i ((x4.2.1 : Nat) : Int), .i x4.2.2]) (px (ob_give (hx4 ▸ specl02Value_a code x3.2.1 x3.2.2)) p0))))))) ?_
  refine awp_ret ?_
  exact pz [] (show specDrawLookupIndex code = _ from lt_b hx1 (lt_b hx2 (lt_b hx3 (lt_b hx4 (rfl))))) (fun z => .tup [(false, [.q 0 z.1]), (false, [.s z.2.1]), (true, [.i z.2.2.1, .i z.2.2.2.1, .s z.2.2.2.2])])
end Go.Proofs.Ytiafgmepdgfpbaa
