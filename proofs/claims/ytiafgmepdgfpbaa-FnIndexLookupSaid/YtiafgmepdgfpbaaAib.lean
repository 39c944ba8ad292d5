/- What functions compute, and that they do (printed by am2.py): each function as a Lean function, then its contract. -/
import Derived.Test.YtiafgmepdgfpbaaIxb
import Derived.Test.YtiafgmepdgfpbaaZc
import Derived.KernelRfl
set_option linter.unusedVariables false
set_option linter.unusedSimpArgs false
namespace Go.Proofs.Ytiafgmepdgfpbaa
open Go.RowKit
open GoE (enc wide)
def implBuildIndex_f0 (_ : Nat) (a0 : FileD) (s0 : (List PostingD)) : Rd ((List PostingD)) ((List PostingD)) ((List PostingD)) := (.next (implAddToIndex s0 a0))
def implBuildIndex_e0 (_ : Nat) (s0 : (List PostingD)) : (List PostingD) := s0
def implBuildIndex (s_ : StoreD) : (List PostingD) := (Out.on (forL implBuildIndex_f0 implBuildIndex_e0 s_.2.1 0 []) (fun y0 => y0))
theorem implBuildIndex_a (s_ : StoreD) (hp : attrsN s_.2.1 ≤ 1000000000) : ACalls Try.prog 7 [.a [.h s_.1, .h s_.2.1, .i s_.2.2]] (.o 0 (implBuildIndex s_)) := by
  refine en tt_ok Try.func7 fun w0 F0 hG => ?_
  refine sn tt_ok [1, 2] [1] (p0) ?_
  refine tn tt_ok [1, 2, 3] [1] (p0) ?_
  refine awp_seq ?_
  refine tu tt_ok [(2, .e 0), (3, .one (.slc (.own true 384) 5 [])), (8, .h s_.2.1), (9, .i (s_.2.1.length : Int)), (10, .i 0)] [0] [] [] (pl 2 s_.2.1 p0) ?_
  refine wT 8 0 .sh s_.2.1 (fun hw1 hl2 => ?_)
  refine blL1 implBuildIndex_f0 implBuildIndex_e0 s_.2.1 [] (fun k0 s0 => [(3, .o 147201 s0), (10, .i ((k0 : Nat) : Int))]) [3, 10] (fun y0 => [(3, .o 147351 y0)]) [3, 8, 9, 10] (fun k0 s0 => IxB (attrsN (List.take k0 s_.2.1)) s0) (weak_sf [(384, 147201)] (by kernel_rfl)) (by exact ixb_nil _) (fun k0 s0 hk0 hI0 => ?_) (fun k0 s0 hk0 hI0 => ?_) (fun y0 hD0 => ?_)
  ·
    have hA0_0 := hI0.2
    obtain ⟨a0, hx0⟩ := get_some (l := s_.2.1) (i := k0) hk0
    refine sn tt_ok [2, 3, 8, 9, 10, 11] [] (pe 0 (av_bool (decide_eq_true (p := ((k0 : Nat) : Int) < (s_.2.1.length : Int)) (by omega))) p0) ?_
    refine awp_seq ?_
    refine ckT ?_
    refine awp_skip ?_
    refine awp_seq ?_
    refine awp_block ?_
    refine tn tt_ok [2, 3, 5, 8, 9, 10] [5] (pn 0 hx0 p0) ?_
    refine qu tt_ok [(3, .o 1024 (implAddToIndex s0 a0))] [3] [] [] (pc 2 (implAddToIndex_a s0 a0 hA0_0 (by have := attrsN_succ hx0; have := attrsN_le s_.2.1 (k0 + 1); omega)) p0) ?_
    refine rn tt_ok [2, 3, 8, 9, 10] [] (pe 0 (av_i (wrap_succ k0 (by omega))) p0) ?_
    exact Exists.intro (implAddToIndex s0 a0) (And.intro (weak_sf [(1024, 147201)] (by kernel_rfl)) ⟨forL_next hx0 (rfl) hI0.1, (by exact ixb_mono (addIx_b hA0_0) (by have := attrsN_succ hx0; omega))⟩)
  ·
    have hA0_0 := hI0.2
    refine sn tt_ok [2, 3, 8, 9, 10, 11] [] (pe 0 (av_bool (decide_eq_false (p := ((k0 : Nat) : Int) < (s_.2.1.length : Int)) (by omega))) p0) ?_
    refine awp_seq ?_
    refine ckF ?_
    refine awp_exit ?_
    exact Exists.intro _ (And.intro (weak_sf [(147201, 147351)] (by kernel_rfl)) (forL_end hk0 (rfl) hI0.1))
  ·
    refine sn tt_ok [2] [] (p0) ?_
    refine awp_ret ?_
    exact po0 [] (on_b hD0 (rfl))
def slicesEqual_int_f0 (s2_ : (List Int)) (k0 : Nat) (a0 : Int) (_ : Unit) : Rd (Bool) (Unit) (Unit) := (bif (a0 != (nth s2_ k0)) then (.ret false) else (.next ()))
def slicesEqual_int_e0 (_ : Nat) (_ : Unit) : Unit := ()
def slicesEqual_int (s1_ : (List Int)) (s2_ : (List Int)) : Bool := (bif ((s1_.length : Int) != (s2_.length : Int)) then false else (Out.on (forL (slicesEqual_int_f0 s2_) slicesEqual_int_e0 s1_ 0 ()) (fun _ => true)))
theorem slicesEqual_int_a (s1_ : (List Int)) (s2_ : (List Int)) : ACalls Try.prog 90 [.h s1_, .h s2_] (.b (slicesEqual_int s1_ s2_)) := by
  refine en tt_ok Try.func90 fun w0 F0 hG => ?_
  refine sn tt_ok [0, 1, 4] [] (p0) ?_
  refine awp_seq ?_
  refine tn tt_ok [0, 1, 4, 10] [] (pl 1 s1_ (pl 3 s2_ p0)) ?_
  refine ck ((s1_.length : Int) != (s2_.length : Int)) (fun h1 => ?_) (fun h1 => ?_)
  ·
    have h1d := ne_of_bne h1
    refine tu tt_ok [(4, .b false)] [] [] [] (p0) ?_
    refine awp_ret ?_
    exact pb [] (bif_t h1 (rfl))
  ·
    have h1d := eq_of_bne h1
    refine awp_skip ?_
    refine awp_seq ?_
    refine tu tt_ok [(4, .b false), (12, .i (s1_.length : Int)), (13, .i 0)] [] [] [] (pl 1 s1_ p0) ?_
    refine wT 0 0 .sh s1_ (fun hw2 hl3 => ?_)
    refine blL0 (slicesEqual_int_f0 s2_) slicesEqual_int_e0 s1_ () (fun k0 _ => [(13, .i ((k0 : Nat) : Int))]) [13] (fun _ => []) [0, 1, 12, 13] (weak_fit (by kernel_rfl)) (fun k0 s0 hk0 hI0 => ?_) (fun k0 s0 hk0 hI0 => ?_) (fun y0 hD0 => ?_)
    ·
      obtain ⟨a0, hx0⟩ := get_some (l := s1_) (i := k0) hk0
      refine su tt_ok [(14, .b true)] [] [] [] (pe 0 (av_bool (decide_eq_true (p := ((k0 : Nat) : Int) < (s1_.length : Int)) (by omega))) p0) ?_
      refine awp_seq ?_
      refine ckT ?_
      refine awp_skip ?_
      refine awp_seq ?_
      refine awp_block ?_
      refine sn tt_ok [0, 1, 4, 5, 12, 13] [] (p0) ?_
      refine wT 1 0 .sh s2_ (fun hw5 hl6 => ?_)
      have hx4 := ng s2_ k0
      refine tN tt_ok tt_mx [0, 1, 4, 12, 13, 24] [] (pn 2 hx0 (pn 6 hx4 p0)) ?_
      refine ck (a0 != (nth s2_ k0)) (fun h7 => ?_) (fun h7 => ?_)
      ·
        have h7d := ne_of_bne h7
        refine tu tt_ok [] [14] [] [] (p0) ?_
        refine awp_ret ?_
        have hr8 : (forL (slicesEqual_int_f0 s2_) slicesEqual_int_e0 s1_ 0 ()) = .ret false := forL_ret hx0 (bif_t h7 (rfl)) hI0
        exact pb [] (bif_f h1 (on_r hr8))
      ·
        have h7d := eq_of_bne h7
        refine awp_skip ?_
        refine qu tt_ok [(13, .i ((k0 + 1 : Nat) : Int))] [13, 14] [] [] (pe 0 (av_i (wrap_succ k0 (by omega))) p0) ?_
        exact Exists.intro _ (And.intro (weak_fit (by kernel_rfl)) (forL_next hx0 (bif_f h7 (rfl)) hI0))
    ·
      refine sn tt_ok [0, 1, 4, 12, 13, 14] [] (pe 0 (av_bool (decide_eq_false (p := ((k0 : Nat) : Int) < (s1_.length : Int)) (by omega))) p0) ?_
      refine awp_seq ?_
      refine ckF ?_
      refine awp_exit ?_
      exact Exists.intro _ (And.intro (weak_fit (by kernel_rfl)) (forL_end hk0 (rfl) hI0))
    ·
      refine sn tt_ok [4] [] (p0) ?_
      refine awp_ret ?_
      exact pb [] (bif_f h1 (on_b hD0 (rfl)))
def implEqualIndexes_1 (x : PostingD) (y_ : PostingD) : Bool := ((x.1.toList == y_.1.toList) && (((x.2.1.1 == y_.2.1.1) && ((x.2.1.2.1 == y_.2.1.2.1) && ((x.2.1.2.2.toList == y_.2.1.2.2.toList) && true))) && (slicesEqual_int x.2.2 y_.2.2)))
theorem implEqualIndexes_1_a (x : PostingD) (y_ : PostingD) : ACalls Try.prog 89 [.a [.s x.1, .i x.2.1.1, .i x.2.1.2.1, .s x.2.1.2.2, .h x.2.2], .a [.s y_.1, .i y_.2.1.1, .i y_.2.1.2.1, .s y_.2.1.2.2, .h y_.2.2]] (.b (implEqualIndexes_1 x y_)) := by
  refine en tt_ok Try.func89 fun w0 F0 hG => ?_
  refine sn tt_ok [2, 3, 4] [2, 3] (p0) ?_
  refine awp_seq ?_
  refine mz [(2, .p 2 0), (3, .p 3 0), (4, .b false)] [0, 1] [(2, [.s x.1, .i x.2.1.1, .i x.2.1.2.1, .s x.2.1.2.2, .h x.2.2]), (3, [.s y_.1, .i y_.2.1.1, .i y_.2.1.2.1, .s y_.2.1.2.2, .h y_.2.2])] [] ?_
  refine jn [(4, .b ((x.1.toList == y_.1.toList) && (((x.2.1.1 == y_.2.1.1) && ((x.2.1.2.1 == y_.2.1.2.1) && ((x.2.1.2.2.toList == y_.2.1.2.2.toList) && true))) && (slicesEqual_int x.2.2 y_.2.2))))] [2, 3, 4] [] [2, 3] (x.1.toList == y_.1.toList) (fun h1 => ?_) (fun h1 => ?_) ?_
  ·
    refine awp_split ((x.2.1.1 == y_.2.1.1) && ((x.2.1.2.1 == y_.2.1.2.1) && ((x.2.1.2.2.toList == y_.2.1.2.2.toList) && true))) (fun h2 => ?_) (fun h2 => ?_)
    ·
      have h2l : ((x.2.1.1 == y_.2.1.1)) = true := and_l h2
      have h2ld := eq_of_beq h2l
      have h2r : (((x.2.1.2.1 == y_.2.1.2.1) && ((x.2.1.2.2.toList == y_.2.1.2.2.toList) && true))) = true := and_r h2
      have h2rl : ((x.2.1.2.1 == y_.2.1.2.1)) = true := and_l h2r
      have h2rld := eq_of_beq h2rl
      have h2rr : (((x.2.1.2.2.toList == y_.2.1.2.2.toList) && true)) = true := and_r h2r
      have h2rrl : ((x.2.1.2.2.toList == y_.2.1.2.2.toList)) = true := and_l h2rr
      have h2rrr : (true) = true := and_r h2rr
      refine rn tt_ok [4] [] (pt 4 h1 (pt 10 h2 (pc 17 (slicesEqual_int_a x.2.2 y_.2.2) p0))) ?_
      exact ⟨rfl, weak_fit (by rw [h1, h2]; first | done | kernel_rfl)⟩
    ·
      refine rn tt_ok [4] [] (pt 4 h1 (pf 10 h2 p0)) ?_
      exact ⟨rfl, weak_fit (by rw [h1, h2]; first | done | kernel_rfl)⟩
  ·
    refine rn tt_ok [4] [] (pf 4 h1 p0) ?_
    exact ⟨rfl, weak_fit (by rw [h1]; first | done | kernel_rfl)⟩
  refine awp_ret ?_
  exact pb [] (show implEqualIndexes_1 x y_ = ((x.1.toList == y_.1.toList) && (((x.2.1.1 == y_.2.1.1) && ((x.2.1.2.1 == y_.2.1.2.1) && ((x.2.1.2.2.toList == y_.2.1.2.2.toList) && true))) && (slicesEqual_int x.2.2 y_.2.2))) from rfl)
def slicesEqualFunc_Posting_implEqualIndexes_1_f0 (s2_ : (List PostingD)) (k0 : Nat) (a0 : PostingD) (_ : Unit) : Rd (Bool) (Unit) (Unit) := (bif (!(implEqualIndexes_1 a0 (nth s2_ k0))) then (.ret false) else (.next ()))
def slicesEqualFunc_Posting_implEqualIndexes_1_e0 (_ : Nat) (_ : Unit) : Unit := ()
def slicesEqualFunc_Posting_implEqualIndexes_1 (s1_ : (List PostingD)) (s2_ : (List PostingD)) : Bool := (bif ((s1_.length : Int) != (s2_.length : Int)) then false else (Out.on (forL (slicesEqualFunc_Posting_implEqualIndexes_1_f0 s2_) slicesEqualFunc_Posting_implEqualIndexes_1_e0 s1_ 0 ()) (fun _ => true)))
theorem slicesEqualFunc_Posting_implEqualIndexes_1_a (s1_ : (List PostingD)) (s2_ : (List PostingD)) : ACalls Try.prog 88 [.h s1_, .h s2_, .one (.fnr 89 [])] (.b (slicesEqualFunc_Posting_implEqualIndexes_1 s1_ s2_)) := by
  refine en tt_ok Try.func88 fun w0 F0 hG => ?_
  refine sn tt_ok [0, 1, 2, 6] [] (p0) ?_
  refine awp_seq ?_
  refine tn tt_ok [0, 1, 2, 6, 14] [] (pl 1 s1_ (pl 3 s2_ p0)) ?_
  refine ck ((s1_.length : Int) != (s2_.length : Int)) (fun h1 => ?_) (fun h1 => ?_)
  ·
    have h1d := ne_of_bne h1
    refine tu tt_ok [(6, .b false)] [] [] [] (p0) ?_
    refine awp_ret ?_
    exact pb [] (bif_t h1 (rfl))
  ·
    have h1d := eq_of_bne h1
    refine awp_skip ?_
    refine awp_seq ?_
    refine tu tt_ok [(6, .b false), (15, .h s1_), (16, .i (s1_.length : Int)), (17, .i 0)] [0] [] [] (pl 1 s1_ p0) ?_
    refine wT 15 0 .sh s1_ (fun hw2 hl3 => ?_)
    refine blL0 (slicesEqualFunc_Posting_implEqualIndexes_1_f0 s2_) slicesEqualFunc_Posting_implEqualIndexes_1_e0 s1_ () (fun k0 _ => [(17, .i ((k0 : Nat) : Int))]) [17] (fun _ => []) [1, 2, 15, 16, 17] (weak_fit (by kernel_rfl)) (fun k0 s0 hk0 hI0 => ?_) (fun k0 s0 hk0 hI0 => ?_) (fun y0 hD0 => ?_)
    ·
      obtain ⟨a0, hx0⟩ := get_some (l := s1_) (i := k0) hk0
      refine su tt_ok [(18, .b true)] [] [] [] (pe 0 (av_bool (decide_eq_true (p := ((k0 : Nat) : Int) < (s1_.length : Int)) (by omega))) p0) ?_
      refine awp_seq ?_
      refine ckT ?_
      refine awp_skip ?_
      refine awp_seq ?_
      refine awp_block ?_
      refine sn tt_ok [1, 2, 6, 7, 8, 15, 16, 17] [8] (pn 1 hx0 p0) ?_
      refine wT 1 0 .sh s2_ (fun hw5 hl6 => ?_)
      have hx4 := ng s2_ k0
      refine tn tt_ok [1, 2, 6, 8, 9, 15, 16, 17] [8, 9] (pn 2 hx4 p0) ?_
      refine tu tt_ok [(30, .b (!(implEqualIndexes_1 a0 (nth s2_ k0))))] [18] [] [] (pc 3 (implEqualIndexes_1_a a0 (nth s2_ k0)) p0) ?_
      refine ck (!(implEqualIndexes_1 a0 (nth s2_ k0))) (fun h7 => ?_) (fun h7 => ?_)
      ·
        have h7n : (implEqualIndexes_1 a0 (nth s2_ k0)) = false := bnot_t h7
        refine su tt_ok [] [30] [] [] (p0) ?_
        refine awp_ret ?_
        have hr8 : (forL (slicesEqualFunc_Posting_implEqualIndexes_1_f0 s2_) slicesEqualFunc_Posting_implEqualIndexes_1_e0 s1_ 0 ()) = .ret false := forL_ret hx0 (bif_t h7 (rfl)) hI0
        exact pb [] (bif_f h1 (on_r hr8))
      ·
        have h7n : (implEqualIndexes_1 a0 (nth s2_ k0)) = true := bnot_f h7
        refine awp_skip ?_
        refine rn tt_ok [1, 2, 6, 15, 16, 17] [] (pe 0 (av_i (wrap_succ k0 (by omega))) p0) ?_
        exact Exists.intro _ (And.intro (weak_fit (by kernel_rfl)) (forL_next hx0 (bif_f h7 (rfl)) hI0))
    ·
      refine su tt_ok [(18, .b false)] [] [] [] (pe 0 (av_bool (decide_eq_false (p := ((k0 : Nat) : Int) < (s1_.length : Int)) (by omega))) p0) ?_
      refine awp_seq ?_
      refine ckF ?_
      refine awp_exit ?_
      exact Exists.intro _ (And.intro (weak_fit (by kernel_rfl)) (forL_end hk0 (rfl) hI0))
    ·
      refine sn tt_ok [6] [] (p0) ?_
      refine awp_ret ?_
      exact pb [] (bif_f h1 (on_b hD0 (rfl)))
def implEqualIndexes (a_ : (List PostingD)) (b : (List PostingD)) : Bool := (slicesEqualFunc_Posting_implEqualIndexes_1 a_ b)
theorem implEqualIndexes_a (a_ : (List PostingD)) (b : (List PostingD)) : ACalls Try.prog 49 [.h a_, .h b] (.b (implEqualIndexes a_ b)) := by
  refine en tt_ok Try.func49 fun w0 F0 hG => ?_
  refine sn tt_ok [0, 1, 4] [] (p0) ?_
  refine tn tt_ok [4] [] (pc 2 (slicesEqualFunc_Posting_implEqualIndexes_1_a a_ b) p0) ?_
  refine awp_ret ?_
  exact pb [] (show implEqualIndexes a_ b = (slicesEqualFunc_Posting_implEqualIndexes_1 a_ b) from rfl)
def implCheckIndex (s_ : StoreD) (ix : (List PostingD)) : Bool := (implEqualIndexes ix (implBuildIndex s_))
theorem implCheckIndex_a (s_ : StoreD) (ix : (List PostingD)) (hp : attrsN s_.2.1 ≤ 1000000000) : ACalls Try.prog 24 [.a [.h s_.1, .h s_.2.1, .i s_.2.2], .h ix] (.b (implCheckIndex s_ ix)) := by
  refine en tt_ok Try.func24 fun w0 F0 hG => ?_
  refine sn tt_ok [1, 2, 4] [2] (p0) ?_
  refine tn tt_ok [4] [] (pc 2 (implBuildIndex_a s_ hp) (pc 3 (implEqualIndexes_a ix (implBuildIndex s_)) p0)) ?_
  refine awp_ret ?_
  exact pb [] (show implCheckIndex s_ ix = (implEqualIndexes ix (implBuildIndex s_)) from rfl)
def specBuildIndex_f0 (_ : Nat) (a0 : FileD) (s0 : (List PostingD)) : Rd ((List PostingD)) ((List PostingD)) ((List PostingD)) := (.next (specAddToIndex s0 a0))
def specBuildIndex_e0 (_ : Nat) (s0 : (List PostingD)) : (List PostingD) := s0
def specBuildIndex (s_ : StoreD) : (List PostingD) := (Out.on (forL specBuildIndex_f0 specBuildIndex_e0 s_.2.1 0 []) (fun y0 => y0))
theorem specBuildIndex_a (s_ : StoreD) (hp : attrsN s_.2.1 ≤ 1000000000) : ACalls Try.prog 9 [.a [.h s_.1, .h s_.2.1, .i s_.2.2]] (.q 0 (specBuildIndex s_)) := by
  refine en tt_ok Try.func9 fun w0 F0 hG => ?_
  refine sn tt_ok [1, 2] [1] (p0) ?_
  refine tn tt_ok [1, 2, 3] [1] (p0) ?_
  refine awp_seq ?_
  refine tu tt_ok [(1, .p 1 0), (2, .e 0), (3, .one (.slc (.own true 320) 5 [])), (4, .i 0)] [0] [(1, [.h s_.1, .h s_.2.1, .i s_.2.2])] [] (p0) ?_
  refine wB 1 1 .sh s_.2.1 (fun hw1 hl2 => ?_)
  refine blL1b specBuildIndex_f0 specBuildIndex_e0 s_.2.1 [] (fun k0 s0 => [(3, .q 147202 s0), (4, .i ((k0 : Nat) : Int))]) [3, 4] (fun _ _ => []) [] (fun y0 => [(3, .q 147352 y0)]) [1, 3, 4] (fun _ => []) [1] (fun k0 s0 => IxB (attrsN (List.take k0 s_.2.1)) s0) (weak_gf [] [] [320] [(320, 147202)] (by kernel_rfl)) (by exact ixb_nil _) (fun k0 s0 hk0 hI0 => ?_) (fun k0 s0 hk0 hI0 => ?_) (fun y0 hD0 => ?_)
  ·
    have hA0_0 := hI0.2
    obtain ⟨a0, hx0⟩ := get_some (l := s_.2.1) (i := k0) hk0
    refine awp_seq ?_
    refine sn tt_ok [1, 2, 3, 4, 10] [1] (pl 3 s_.2.1 (pe 4 (av_bool (decide_eq_true (p := ((k0 : Nat) : Int) < (s_.2.1.length : Int)) (by omega))) p0)) ?_
    refine ckT ?_
    refine awp_skip ?_
    refine awp_seq ?_
    refine awp_block ?_
    refine qn tt_ok [1, 2, 3, 4] [1] (pn 4 hx0 (pc 6 (specAddToIndex_a s0 a0 hA0_0 (by have := attrsN_succ hx0; have := attrsN_le s_.2.1 (k0 + 1); omega)) p0)) ?_
    refine qu tt_ok [(3, .q 1216 (specAddToIndex s0 a0)), (4, .i ((k0 + 1 : Nat) : Int))] [3, 4] [] [] (pe 1 (av_i (wrap_succ k0 (by omega))) p0) ?_
    exact Exists.intro (specAddToIndex s0 a0) (And.intro (weak_sf [(1216, 147202)] (by kernel_rfl)) ⟨forL_next hx0 (rfl) hI0.1, (by exact ixb_mono (addIxS_b hA0_0) (by have := attrsN_succ hx0; omega))⟩)
  ·
    have hA0_0 := hI0.2
    refine awp_seq ?_
    refine sn tt_ok [1, 2, 3, 4, 10] [1] (pl 3 s_.2.1 (pe 4 (av_bool (decide_eq_false (p := ((k0 : Nat) : Int) < (s_.2.1.length : Int)) (by omega))) p0)) ?_
    refine ckF ?_
    refine awp_exit ?_
    exact Exists.intro _ (And.intro (weak_sf [(147202, 147352)] (by kernel_rfl)) (forL_end hk0 (rfl) hI0.1))
  ·
    refine sn tt_ok [2] [] (p0) ?_
    refine awp_ret ?_
    exact pz [] (show specBuildIndex s_ = _ from on_b hD0 (rfl)) (fun z => .q 0 z)
def specl07Ints_f0 (b : (List Int)) (k0 : Nat) (a0 : Int) (_ : Unit) : Rd (Bool) (Unit) (Unit) := (bif (a0 != (nth b k0)) then (.ret false) else (.next ()))
def specl07Ints_e0 (_ : Nat) (_ : Unit) : Unit := ()
def specl07Ints (a_ : (List Int)) (b : (List Int)) : Bool := (bif ((a_.length : Int) != (b.length : Int)) then false else (Out.on (forL (specl07Ints_f0 b) specl07Ints_e0 a_ 0 ()) (fun _ => true)))
theorem specl07Ints_a (a_ : (List Int)) (b : (List Int)) : ACalls Try.prog 83 [.h a_, .h b] (.b (specl07Ints a_ b)) := by
  refine en tt_ok Try.func83 fun w0 F0 hG => ?_
  refine sn tt_ok [0, 1, 4] [] (p0) ?_
  refine awp_seq ?_
  refine tn tt_ok [0, 1, 4, 10] [] (pl 1 a_ (pl 3 b p0)) ?_
  refine ck ((a_.length : Int) != (b.length : Int)) (fun h1 => ?_) (fun h1 => ?_)
  ·
    have h1d := ne_of_bne h1
    refine tu tt_ok [(4, .b false)] [] [] [] (p0) ?_
    refine awp_ret ?_
    exact pb [] (bif_t h1 (rfl))
  ·
    have h1d := eq_of_bne h1
    refine awp_skip ?_
    refine awp_seq ?_
    refine tu tt_ok [(4, .b false), (5, .i 0)] [] [] [] (p0) ?_
    refine wT 0 0 .sh a_ (fun hw2 hl3 => ?_)
    refine blL0 (specl07Ints_f0 b) specl07Ints_e0 a_ () (fun k0 _ => [(5, .i ((k0 : Nat) : Int))]) [5] (fun _ => []) [0, 1, 5] (weak_fit (by kernel_rfl)) (fun k0 s0 hk0 hI0 => ?_) (fun k0 s0 hk0 hI0 => ?_) (fun y0 hD0 => ?_)
    ·
      obtain ⟨a0, hx0⟩ := get_some (l := a_) (i := k0) hk0
      refine awp_seq ?_
      refine sn tt_ok [0, 1, 4, 5, 14] [] (pl 2 a_ (pe 3 (av_bool (decide_eq_true (p := ((k0 : Nat) : Int) < (a_.length : Int)) (by omega))) p0)) ?_
      refine ckT ?_
      refine awp_skip ?_
      refine awp_seq ?_
      refine awp_block ?_
      refine wT 1 0 .sh b (fun hw5 hl6 => ?_)
      have hx4 := ng b k0
      refine tN tt_ok tt_mx [0, 1, 4, 5, 25] [] (pn 2 hx0 (pn 6 hx4 p0)) ?_
      refine ck (a0 != (nth b k0)) (fun h7 => ?_) (fun h7 => ?_)
      ·
        have h7d := ne_of_bne h7
        refine tu tt_ok [] [] [] [] (p0) ?_
        refine awp_ret ?_
        have hr8 : (forL (specl07Ints_f0 b) specl07Ints_e0 a_ 0 ()) = .ret false := forL_ret hx0 (bif_t h7 (rfl)) hI0
        exact pb [] (bif_f h1 (on_r hr8))
      ·
        have h7d := eq_of_bne h7
        refine awp_skip ?_
        refine qu tt_ok [(5, .i ((k0 + 1 : Nat) : Int))] [5] [] [] (pe 1 (av_i (wrap_succ k0 (by omega))) p0) ?_
        exact Exists.intro _ (And.intro (weak_fit (by kernel_rfl)) (forL_next hx0 (bif_f h7 (rfl)) hI0))
    ·
      refine awp_seq ?_
      refine sn tt_ok [0, 1, 4, 5, 14] [] (pl 2 a_ (pe 3 (av_bool (decide_eq_false (p := ((k0 : Nat) : Int) < (a_.length : Int)) (by omega))) p0)) ?_
      refine ckF ?_
      refine awp_exit ?_
      exact Exists.intro _ (And.intro (weak_fit (by kernel_rfl)) (forL_end hk0 (rfl) hI0))
    ·
      refine sn tt_ok [4] [] (p0) ?_
      refine awp_ret ?_
      exact pb [] (bif_f h1 (on_b hD0 (rfl)))
def specEqualIndexes_f0 (b : (List PostingD)) (k0 : Nat) (a0 : PostingD) (_ : Unit) : Rd (Bool) (Unit) (Unit) := (bif ((!(a0.1.toList == ((nth b k0).1).toList)) || ((!((a0.2.1.1 == (nth b k0).2.1.1) && ((a0.2.1.2.1 == (nth b k0).2.1.2.1) && ((a0.2.1.2.2.toList == ((nth b k0).2.1.2.2).toList) && true)))) || (!(specl07Ints a0.2.2 ((nth b k0).2.2))))) then (.ret false) else (.next ()))
def specEqualIndexes_e0 (_ : Nat) (_ : Unit) : Unit := ()
def specEqualIndexes (a_ : (List PostingD)) (b : (List PostingD)) : Bool := (bif ((a_.length : Int) != (b.length : Int)) then false else (Out.on (forL (specEqualIndexes_f0 b) specEqualIndexes_e0 a_ 0 ()) (fun _ => true)))
theorem specEqualIndexes_a (a_ : (List PostingD)) (b : (List PostingD)) : ACalls Try.prog 45 [.h a_, .h b] (.b (specEqualIndexes a_ b)) := by
  refine en tt_ok Try.func45 fun w0 F0 hG => ?_
  refine sn tt_ok [0, 1, 4] [] (p0) ?_
  refine awp_seq ?_
  refine tn tt_ok [0, 1, 4, 10] [] (pl 1 a_ (pl 3 b p0)) ?_
  refine ck ((a_.length : Int) != (b.length : Int)) (fun h1 => ?_) (fun h1 => ?_)
  ·
    have h1d := ne_of_bne h1
    refine tu tt_ok [(4, .b false)] [] [] [] (p0) ?_
    refine awp_ret ?_
    exact pb [] (bif_t h1 (rfl))
  ·
    have h1d := eq_of_bne h1
    refine awp_skip ?_
    refine awp_seq ?_
    refine tu tt_ok [(4, .b false), (5, .i 0)] [] [] [] (p0) ?_
    refine wT 0 0 .sh a_ (fun hw2 hl3 => ?_)
    refine blL0 (specEqualIndexes_f0 b) specEqualIndexes_e0 a_ () (fun k0 _ => [(5, .i ((k0 : Nat) : Int))]) [5] (fun _ => []) [0, 1, 5] (weak_fit (by kernel_rfl)) (fun k0 s0 hk0 hI0 => ?_) (fun k0 s0 hk0 hI0 => ?_) (fun y0 hD0 => ?_)
    ·
      obtain ⟨a0, hx0⟩ := get_some (l := a_) (i := k0) hk0
      refine awp_seq ?_
      refine sn tt_ok [0, 1, 4, 5, 14] [] (pl 2 a_ (pe 3 (av_bool (decide_eq_true (p := ((k0 : Nat) : Int) < (a_.length : Int)) (by omega))) p0)) ?_
      refine ckT ?_
      refine awp_skip ?_
      refine awp_seq ?_
      refine awp_block ?_
      refine awp_seq ?_
      refine mz [(14, .b true)] [] [] [] ?_
      refine jn [(54, .b ((!(a0.1.toList == ((nth b k0).1).toList)) || ((!((a0.2.1.1 == (nth b k0).2.1.1) && ((a0.2.1.2.1 == (nth b k0).2.1.2.1) && ((a0.2.1.2.2.toList == ((nth b k0).2.1.2.2).toList) && true)))) || (!(specl07Ints a0.2.2 ((nth b k0).2.2))))))] [14] [] [] (!(a0.1.toList == ((nth b k0).1).toList)) (fun h4 => ?_) (fun h4 => ?_) ?_
      ·
        have h4n : (a0.1.toList == ((nth b k0).1).toList) = false := bnot_t h4
        refine wT 1 0 .sh b (fun hw6 hl7 => ?_)
        have hx5 := ng b k0
        refine rN tt_ok tt_mx [0, 1, 4, 5, 54] [] (pn 2 hx0 (pn 7 hx5 (pt 10 h4 p0))) ?_
        exact ⟨rfl, weak_fit (by rw [h4]; first | done | kernel_rfl)⟩
      ·
        have h4n : (a0.1.toList == ((nth b k0).1).toList) = true := bnot_f h4
        refine awp_split (!((a0.2.1.1 == (nth b k0).2.1.1) && ((a0.2.1.2.1 == (nth b k0).2.1.2.1) && ((a0.2.1.2.2.toList == ((nth b k0).2.1.2.2).toList) && true)))) (fun h8 => ?_) (fun h8 => ?_)
        ·
          have h8n : ((a0.2.1.1 == (nth b k0).2.1.1) && ((a0.2.1.2.1 == (nth b k0).2.1.2.1) && ((a0.2.1.2.2.toList == ((nth b k0).2.1.2.2).toList) && true))) = false := bnot_t h8
          refine wT 1 0 .sh b (fun hw10 hl11 => ?_)
          have hx9 := ng b k0
          refine rN tt_ok tt_mx [0, 1, 4, 5, 54] [] (pn 2 hx0 (pn 7 hx9 (pf 10 h4 (pn 14 hx0 (pn 19 hx9 (pt 22 h8 p0)))))) ?_
          exact ⟨rfl, weak_fit (by rw [h4, h8]; first | done | kernel_rfl)⟩
        ·
          have h8n : ((a0.2.1.1 == (nth b k0).2.1.1) && ((a0.2.1.2.1 == (nth b k0).2.1.2.1) && ((a0.2.1.2.2.toList == ((nth b k0).2.1.2.2).toList) && true))) = true := bnot_f h8
          have h8nl : ((a0.2.1.1 == (nth b k0).2.1.1)) = true := and_l h8n
          have h8nld := eq_of_beq h8nl
          have h8nr : (((a0.2.1.2.1 == (nth b k0).2.1.2.1) && ((a0.2.1.2.2.toList == ((nth b k0).2.1.2.2).toList) && true))) = true := and_r h8n
          have h8nrl : ((a0.2.1.2.1 == (nth b k0).2.1.2.1)) = true := and_l h8nr
          have h8nrld := eq_of_beq h8nrl
          have h8nrr : (((a0.2.1.2.2.toList == ((nth b k0).2.1.2.2).toList) && true)) = true := and_r h8nr
          have h8nrrl : ((a0.2.1.2.2.toList == ((nth b k0).2.1.2.2).toList)) = true := and_l h8nrr
          have h8nrrr : (true) = true := and_r h8nrr
          refine wT 1 0 .sh b (fun hw13 hl14 => ?_)
          have hx12 := ng b k0
          refine rN tt_ok tt_mx [0, 1, 4, 5, 54] [] (pn 2 hx0 (pn 7 hx12 (pf 10 h4 (pn 14 hx0 (pn 19 hx12 (pf 22 h8 (pn 27 hx0 (pn 32 hx12 (pc 35 (specl07Ints_a a0.2.2 ((nth b k0).2.2)) p0))))))))) ?_
          exact ⟨rfl, weak_fit (by rw [h4, h8]; first | done | kernel_rfl)⟩
      refine ck ((!(a0.1.toList == ((nth b k0).1).toList)) || ((!((a0.2.1.1 == (nth b k0).2.1.1) && ((a0.2.1.2.1 == (nth b k0).2.1.2.1) && ((a0.2.1.2.2.toList == ((nth b k0).2.1.2.2).toList) && true)))) || (!(specl07Ints a0.2.2 ((nth b k0).2.2))))) (fun h15 => ?_) (fun h15 => ?_)
      ·
        refine su tt_ok [] [54] [] [] (p0) ?_
        refine awp_ret ?_
        have hr16 : (forL (specEqualIndexes_f0 b) specEqualIndexes_e0 a_ 0 ()) = .ret false := forL_ret hx0 (bif_t h15 (rfl)) hI0
        exact pb [] (bif_f h1 (on_r hr16))
      ·
        have h15l : ((!(a0.1.toList == ((nth b k0).1).toList))) = false := or_l h15
        have h15ln : (a0.1.toList == ((nth b k0).1).toList) = true := bnot_f h15l
        have h15r : (((!((a0.2.1.1 == (nth b k0).2.1.1) && ((a0.2.1.2.1 == (nth b k0).2.1.2.1) && ((a0.2.1.2.2.toList == ((nth b k0).2.1.2.2).toList) && true)))) || (!(specl07Ints a0.2.2 ((nth b k0).2.2))))) = false := or_r h15
        have h15rl : ((!((a0.2.1.1 == (nth b k0).2.1.1) && ((a0.2.1.2.1 == (nth b k0).2.1.2.1) && ((a0.2.1.2.2.toList == ((nth b k0).2.1.2.2).toList) && true))))) = false := or_l h15r
        have h15rln : ((a0.2.1.1 == (nth b k0).2.1.1) && ((a0.2.1.2.1 == (nth b k0).2.1.2.1) && ((a0.2.1.2.2.toList == ((nth b k0).2.1.2.2).toList) && true))) = true := bnot_f h15rl
        have h15rlnl : ((a0.2.1.1 == (nth b k0).2.1.1)) = true := and_l h15rln
        have h15rlnld := eq_of_beq h15rlnl
        have h15rlnr : (((a0.2.1.2.1 == (nth b k0).2.1.2.1) && ((a0.2.1.2.2.toList == ((nth b k0).2.1.2.2).toList) && true))) = true := and_r h15rln
        have h15rlnrl : ((a0.2.1.2.1 == (nth b k0).2.1.2.1)) = true := and_l h15rlnr
        have h15rlnrld := eq_of_beq h15rlnrl
        have h15rlnrr : (((a0.2.1.2.2.toList == ((nth b k0).2.1.2.2).toList) && true)) = true := and_r h15rlnr
        have h15rlnrrl : ((a0.2.1.2.2.toList == ((nth b k0).2.1.2.2).toList)) = true := and_l h15rlnrr
        have h15rlnrrr : (true) = true := and_r h15rlnrr
        have h15rr : ((!(specl07Ints a0.2.2 ((nth b k0).2.2)))) = false := or_r h15r
        have h15rrn : (specl07Ints a0.2.2 ((nth b k0).2.2)) = true := bnot_f h15rr
        refine awp_skip ?_
        refine rn tt_ok [0, 1, 4, 5] [] (pe 1 (av_i (wrap_succ k0 (by omega))) p0) ?_
        exact Exists.intro _ (And.intro (weak_fit (by kernel_rfl)) (forL_next hx0 (bif_f h15 (rfl)) hI0))
    ·
      refine awp_seq ?_
      refine sn tt_ok [0, 1, 4, 5, 14] [] (pl 2 a_ (pe 3 (av_bool (decide_eq_false (p := ((k0 : Nat) : Int) < (a_.length : Int)) (by omega))) p0)) ?_
      refine ckF ?_
      refine awp_exit ?_
      exact Exists.intro _ (And.intro (weak_fit (by kernel_rfl)) (forL_end hk0 (rfl) hI0))
    ·
      refine sn tt_ok [4] [] (p0) ?_
      refine awp_ret ?_
      exact pb [] (bif_f h1 (on_b hD0 (rfl)))
def specCheckIndex (s_ : StoreD) (ix : (List PostingD)) : Bool := (specEqualIndexes (specBuildIndex s_) ix)
theorem specCheckIndex_a (s_ : StoreD) (ix : (List PostingD)) (hp : attrsN s_.2.1 ≤ 1000000000) : ACalls Try.prog 21 [.a [.h s_.1, .h s_.2.1, .i s_.2.2], .h ix] (.b (specCheckIndex s_ ix)) := by
  refine en tt_ok Try.func21 fun w0 F0 hG => ?_
  refine sn tt_ok [1, 2, 4] [2] (p0) ?_
  refine tn tt_ok [4] [] (pc 1 (specBuildIndex_a s_ hp) (pc 3 (specEqualIndexes_a (specBuildIndex s_) ix) p0)) ?_
  refine awp_ret ?_
  exact pb [] (show specCheckIndex s_ ix = (specEqualIndexes (specBuildIndex s_) ix) from rfl)
def implLookupIndex (ix : (List PostingD)) (name : ByteArray) (v : ValueD) : (List Int) := (bif decide ((implpostingAt ix name v) ≥ (0 : Int)) then (nth ix (Int.toNat (implpostingAt ix name v))).2.2 else [])
theorem implLookupIndex_a (ix : (List PostingD)) (name : ByteArray) (v : ValueD) : ACalls Try.prog 12 [.h ix, .s name, .a [.i v.1, .i v.2.1, .s v.2.2]] (.o 0 (implLookupIndex ix name v)) := by
  refine en tt_ok Try.func12 fun w0 F0 hG => ?_
  have hbd : -1 ≤ implpostingAt ix name v ∧ implpostingAt ix name v < (List.length ix : Int) := slicesIndexFunc_Posting_implpostingAt_1_bd ix name v
  refine sn tt_ok [0, 1, 5, 6] [5] (p0) ?_
  refine awp_seq ?_
  refine tn tt_ok [0, 6, 7] [] (pc 3 (implpostingAt_a ix name v) p0) ?_
  refine tu tt_ok [(6, .e 0), (7, .i (implpostingAt ix name v)), (13, .b (decide ((implpostingAt ix name v) ≥ (0 : Int))))] [1, 2] [] [] (p0) ?_
  refine ck (decide ((implpostingAt ix name v) ≥ (0 : Int))) (fun h1 => ?_) (fun h1 => ?_)
  ·
    have h1d := of_decide_eq_true h1
    refine wT 0 0 .sh ix (fun hw3 hl4 => ?_)
    have hx2 := ng ix (Int.toNat (implpostingAt ix name v))
    refine sn tt_ok [6] [] (pg 2 (implpostingAt ix name v) hx2 (pc 5 (cloneInt_a ((nth ix (Int.toNat (implpostingAt ix name v))).2.2)) p0)) ?_
    refine awp_ret ?_
    exact po0 [] (bif_t h1 (rfl))
  ·
    have h1d := of_decide_eq_false h1
    refine awp_skip ?_
    refine sn tt_ok [6] [] (p0) ?_
    refine opn [(false, 6, 0, true, 384000, 1)] ?_
    refine awp_ret ?_
    exact po0 [] (bif_f h1 (rfl))
def specLookupIndex_f0 (name : ByteArray) (v : ValueD) (_ : Nat) (a0 : PostingD) (_ : Unit) : Rd ((List Int)) (Unit) (Unit) := (bif ((a0.1.toList == name.toList) && ((a0.2.1.1 == v.1) && ((a0.2.1.2.1 == v.2.1) && ((a0.2.1.2.2.toList == v.2.2.toList) && true)))) then (.ret a0.2.2) else (.next ()))
def specLookupIndex_e0 (_ : Nat) (_ : Unit) : Unit := ()
def specLookupIndex (ix : (List PostingD)) (name : ByteArray) (v : ValueD) : (List Int) := (Out.on (forL (specLookupIndex_f0 name v) specLookupIndex_e0 ix 0 ()) (fun _ => []))
theorem specLookupIndex_a (ix : (List PostingD)) (name : ByteArray) (v : ValueD) : ACalls Try.prog 13 [.h ix, .s name, .a [.i v.1, .i v.2.1, .s v.2.2]] (.o 0 (specLookupIndex ix name v)) := by
  refine en tt_ok Try.func13 fun w0 F0 hG => ?_
  refine sn tt_ok [0, 1, 5, 6] [5] (p0) ?_
  refine awp_seq ?_
  refine tn tt_ok [0, 1, 5, 6, 7] [5] (p0) ?_
  refine mz [(5, .p 5 0), (6, .e 0), (7, .i 0)] [2] [(5, [.i v.1, .i v.2.1, .s v.2.2])] [] ?_
  refine wT 0 0 .sh ix (fun hw1 hl2 => ?_)
  refine blL0b (specLookupIndex_f0 name v) specLookupIndex_e0 ix () (fun k0 _ => [(7, .i ((k0 : Nat) : Int))]) [7] (fun _ _ => []) [] (fun _ => []) [0, 1, 5, 7] (fun _ => []) [5] (weak_fit (by kernel_rfl)) (fun k0 s0 hk0 hI0 => ?_) (fun k0 s0 hk0 hI0 => ?_) (fun y0 hD0 => ?_)
  ·
    obtain ⟨a0, hx0⟩ := get_some (l := ix) (i := k0) hk0
    refine awp_seq ?_
    refine sn tt_ok [0, 1, 5, 6, 7, 11] [5] (pl 2 ix (pe 3 (av_bool (decide_eq_true (p := ((k0 : Nat) : Int) < (ix.length : Int)) (by omega))) p0)) ?_
    refine ckT ?_
    refine awp_skip ?_
    refine awp_seq ?_
    refine awp_block ?_
    refine awp_seq ?_
    refine mz [(11, .b true)] [] [] [] ?_
    refine jn [(29, .b ((a0.1.toList == name.toList) && ((a0.2.1.1 == v.1) && ((a0.2.1.2.1 == v.2.1) && ((a0.2.1.2.2.toList == v.2.2.toList) && true)))))] [11] [] [] (a0.1.toList == name.toList) (fun h3 => ?_) (fun h3 => ?_) ?_
    ·
      refine rN tt_ok tt_mx [0, 1, 5, 6, 7, 29] [5] (pn 2 hx0 (pt 6 h3 (pn 10 hx0 p0))) ?_
      exact ⟨rfl, weak_fit (by rw [h3]; first | done | kernel_rfl)⟩
    ·
      refine rN tt_ok tt_mx [0, 1, 5, 6, 7, 29] [5] (pn 2 hx0 (pf 6 h3 p0)) ?_
      exact ⟨rfl, weak_fit (by rw [h3]; first | done | kernel_rfl)⟩
    refine ck ((a0.1.toList == name.toList) && ((a0.2.1.1 == v.1) && ((a0.2.1.2.1 == v.2.1) && ((a0.2.1.2.2.toList == v.2.2.toList) && true)))) (fun h4 => ?_) (fun h4 => ?_)
    ·
      have h4l : ((a0.1.toList == name.toList)) = true := and_l h4
      have h4r : (((a0.2.1.1 == v.1) && ((a0.2.1.2.1 == v.2.1) && ((a0.2.1.2.2.toList == v.2.2.toList) && true)))) = true := and_r h4
      have h4rl : ((a0.2.1.1 == v.1)) = true := and_l h4r
      have h4rld := eq_of_beq h4rl
      have h4rr : (((a0.2.1.2.1 == v.2.1) && ((a0.2.1.2.2.toList == v.2.2.toList) && true))) = true := and_r h4r
      have h4rrl : ((a0.2.1.2.1 == v.2.1)) = true := and_l h4rr
      have h4rrld := eq_of_beq h4rrl
      have h4rrr : (((a0.2.1.2.2.toList == v.2.2.toList) && true)) = true := and_r h4rr
      have h4rrrl : ((a0.2.1.2.2.toList == v.2.2.toList)) = true := and_l h4rrr
      have h4rrrr : (true) = true := and_r h4rrr
      have hl5 : List.length a0.2.2 ≤ 1073741824 := wide_len (wide_snd (wide_snd (wide_get hx0 (hw1))))
      refine sn tt_ok [0, 1, 5, 6, 7] [5] (pn 3 hx0 (po 6 (.flat) (px (ob_len (n := (([] : List (List PV)).length + ((eL a0.2.2) : List (List PV)).length)) (len_of (rfl) (eL_length a0.2.2) (by first | omega | (simp only [List.length_cons, List.length_nil]; omega) | (simp; omega) | simp))) (px (ob_flat (flat_eL a0.2.2)) p0)))) ?_
      refine awp_ret ?_
      have hr6 : (forL (specLookupIndex_f0 name v) specLookupIndex_e0 ix 0 ()) = .ret a0.2.2 := forL_ret hx0 (bif_t h4 (rfl)) hI0
      exact po0 [] (on_r hr6)
    ·
      refine awp_skip ?_
      refine rn tt_ok [0, 1, 5, 6, 7] [5] (pe 1 (av_i (wrap_succ k0 (by omega))) p0) ?_
      exact Exists.intro _ (And.intro (weak_fit (by kernel_rfl)) (forL_next hx0 (bif_f h4 (rfl)) hI0))
  ·
    refine awp_seq ?_
    refine sn tt_ok [0, 1, 5, 6, 7, 11] [5] (pl 2 ix (pe 3 (av_bool (decide_eq_false (p := ((k0 : Nat) : Int) < (ix.length : Int)) (by omega))) p0)) ?_
    refine ckF ?_
    refine awp_exit ?_
    exact Exists.intro _ (And.intro (weak_fit (by kernel_rfl)) (forL_end hk0 (rfl) hI0))
  ·
    refine sn tt_ok [6] [] (p0) ?_
    refine awp_ret ?_
    exact po0 [] (on_b hD0 (rfl))
end Go.Proofs.Ytiafgmepdgfpbaa
