/- What functions compute, and that they do (printed by am2.py): each function as a Lean function, then its contract. -/
import Derived.Test.YtceekipigpcilaaDoorEib
import Derived.KernelRfl
set_option linter.unusedVariables false
set_option linter.unusedSimpArgs false
namespace Go.Proofs.YtceekipigpcilaaDoor
open Go.RowKit
open GoE (enc wide)
def slicesIndex_string_f0 (v : ByteArray) (k0 : Nat) (a0 : ByteArray) (_ : Unit) : Rd (Int) (Unit) (Unit) := (bif (v.toList == a0.toList) then (.ret ((k0 : Nat) : Int)) else (.next ()))
def slicesIndex_string_e0 (_ : Nat) (_ : Unit) : Unit := ()
def slicesIndex_string (s_ : (List ByteArray)) (v : ByteArray) : Int := (Out.on (forL (slicesIndex_string_f0 v) slicesIndex_string_e0 s_ 0 ()) (fun _ => -1))
theorem slicesIndex_string_a (s_ : (List ByteArray)) (v : ByteArray) : ACalls Tryd.prog 34 [.h s_, .s v] (.i (slicesIndex_string s_ v)) := by
  refine acalls_of (tt := tt) tt_ok Tryd.func34 (fn := Tryd.f34) rfl (by unfold FnOk; kernel_rfl) (Nat.le_of_ble_eq_true rfl) fun w0 F0 hG => ?_
  refine awp_seq ?_
  refine rk tt_ok [(4, .i 0)] [] [] [] [] (o0) ?_
  refine awp_seq ?_
  refine awp_seq ?_
  refine rk tt_ok [(7, .i (s_.length : Int)), (8, .i 0)] [] [] [] [(1, .val (.i (s_.length : Int)))] (o1 (ob_eq (av_len s_))) ?_
  refine wdT 0 0 .sh s_ (fun hw1 => ?_)
  have hl2 : List.length s_ ≤ 1073741824 := wide_len (hw1)
  refine blk (fun (k0 : Nat) (s0 : Unit) => [(8, .i ((k0 : Nat) : Int))]) [8] (fun k0 s0 => []) [] (fun (y0 : Unit) => []) [0, 1, 7, 8] (fun y0 => []) [] (fun (k0 : Nat) (s0 : Unit) => (forL (slicesIndex_string_f0 v) slicesIndex_string_e0 s_ 0 ()) = forL (slicesIndex_string_f0 v) slicesIndex_string_e0 (List.drop k0 s_) k0 s0) (fun (y0 : Unit) => (forL (slicesIndex_string_f0 v) slicesIndex_string_e0 s_ 0 ()) = .brk y0) s_.length () (weak_fit (by kernel_rfl)) rfl (fun k0 s0 hk0 hI0 => ?_) (fun k0 s0 hk0 hI0 => ?_) (fun y0 hD0 => ?_)
  ·
    obtain ⟨a0, hx0⟩ := get_some (l := s_) (i := k0) hk0
    refine awp_seq ?_
    refine rk tt_ok [(9, .b true)] [] [] [] [(0, .val (.b true))] (o1 (ob_eq (av_bool (decide_eq_true (p := ((k0 : Nat) : Int) < (s_.length : Int)) (by omega))))) ?_
    refine awp_seq ?_
    refine ckT ?_
    refine awp_skip ?_
    refine awp_seq ?_
    refine awp_block ?_
    refine awp_seq ?_
    refine rk tt_ok [(5, .i ((k0 : Nat) : Int))] [9] [] [] [] (o0) ?_
    refine awp_seq ?_
    refine rk tt_ok [(16, .b (v.toList == a0.toList))] [] [] [] [(3, .row [.s a0])] (o1 (ob_elem (el_of (i := ((k0 : Nat) : Int)) (by omega) rfl hx0))) ?_
    refine ck (v.toList == a0.toList) (fun h3 => ?_) (fun h3 => ?_)
    ·
      refine awp_seq ?_
      refine rk tt_ok [(4, .i ((k0 : Nat) : Int))] [4, 5, 16] [] [] [] (o0) ?_
      refine awp_ret ?_
      have hr4 : (forL (slicesIndex_string_f0 v) slicesIndex_string_e0 s_ 0 ()) = .ret ((k0 : Nat) : Int) := forL_ret hx0 (bif_t h3 (rfl)) hI0
      exact pret [] (congrArg (fun z => (.i z : AV)) (show slicesIndex_string s_ v = ((k0 : Nat) : Int) from on_r hr4).symm)
    ·
      refine awp_skip ?_
      refine rk tt_ok [(8, .i ((k0 + 1 : Nat) : Int))] [5, 8, 16] [] [] [(0, .val (.i ((k0 + 1 : Nat) : Int)))] (o1 (ob_eq (av_i (wrap_succ k0 (by omega))))) ?_
      exact Exists.intro () (And.intro (weak_fit (by kernel_rfl)) (forL_next hx0 (bif_f h3 (rfl)) hI0))
  ·
    refine awp_seq ?_
    refine rk tt_ok [(9, .b false)] [] [] [] [(0, .val (.b false))] (o1 (ob_eq (av_bool (decide_eq_false (p := ((k0 : Nat) : Int) < (s_.length : Int)) (by omega))))) ?_
    refine awp_seq ?_
    refine ckF ?_
    refine awp_exit ?_
    exact Exists.intro () (And.intro (weak_fit (by kernel_rfl)) (forL_end hk0 (rfl) hI0))
  ·
    refine awp_seq ?_
    refine rk tt_ok [(4, .i (-1))] [4] [] [] [] (o0) ?_
    refine awp_ret ?_
    exact pret [] (congrArg (fun z => (.i z : AV)) (show slicesIndex_string s_ v = -1 from on_b hD0 (rfl)).symm)
def slicesContains_string (s_ : (List ByteArray)) (v : ByteArray) : Bool := decide ((slicesIndex_string s_ v) ≥ (0 : Int))
theorem slicesContains_string_a (s_ : (List ByteArray)) (v : ByteArray) : ACalls Tryd.prog 24 [.h s_, .s v] (.b (slicesContains_string s_ v)) := by
  refine acalls_of (tt := tt) tt_ok Tryd.func24 (fn := Tryd.f24) rfl (by unfold FnOk; kernel_rfl) (Nat.le_of_ble_eq_true rfl) fun w0 F0 hG => ?_
  refine awp_seq ?_
  refine rk tt_ok [(4, .b false)] [] [] [] [] (o0) ?_
  refine awp_seq ?_
  refine rk tt_ok [(4, .b (decide ((slicesIndex_string s_ v) ≥ (0 : Int))))] [0, 1, 4] [] [] [(2, .val (.i (slicesIndex_string s_ v)))] (o1 (ob_call (slicesIndex_string_a s_ v))) ?_
  refine awp_ret ?_
  exact pret [] (congrArg (fun z => (.b z : AV)) (show slicesContains_string s_ v = decide ((slicesIndex_string s_ v) ≥ (0 : Int)) from rfl).symm)
def implEntryNames_f0 (s_ : StoreD) (_ : Nat) (a0 : Int) (s0 : (List ByteArray) × (List ByteArray)) : Rd ((List ByteArray)) ((List ByteArray) × (List ByteArray)) ((List ByteArray)) := (bif (slicesContains_string s0.1 (implBaseName (((implFindFile s_ a0)).1))) then (.next (s0.1 ++ [(implBaseName (((implFindFile s_ a0)).1))], s0.2 ++ [(((implBaseName (((implFindFile s_ a0)).1)) ++ (⟨#[46]⟩ : ByteArray)) ++ (numeral a0))])) else (.next (s0.1 ++ [(implBaseName (((implFindFile s_ a0)).1))], s0.2 ++ [(implBaseName (((implFindFile s_ a0)).1))])))
def implEntryNames_e0 (_ : Nat) (s0 : (List ByteArray) × (List ByteArray)) : (List ByteArray) := s0.2
def implEntryNames (s_ : StoreD) (ids : (List Int)) : (List ByteArray) := (Out.on (forL (implEntryNames_f0 s_) implEntryNames_e0 ids 0 ([], [])) (fun y0 => y0))
theorem implEntryNames_a (s_ : StoreD) (ids : (List Int)) (hi : ∀ x, x ∈ ids → 1 ≤ x ∧ x ≤ 60) (hp : GoD.size s_ ≤ 536870912) : ACalls Tryd.prog 11 [.a [.h s_.1, .h s_.2.1, .i s_.2.2], .h ids] (.o 0 (implEntryNames s_ ids)) := by
  refine acalls_of (tt := tt) tt_ok Tryd.func11 (fn := Tryd.f11) rfl (by unfold FnOk; kernel_rfl) (Nat.le_of_ble_eq_true rfl) fun w0 F0 hG => ?_
  refine awp_seq ?_
  refine rk tt_ok [(2, .p 2 0), (4, .e 0)] [0] [(2, [.h s_.1, .h s_.2.1, .i s_.2.2])] [] [] (o0) ?_
  refine awp_seq ?_
  refine rk tt_ok [(5, .one (.slc (.own true 768) 1 []))] [] [] [] [] (o0) ?_
  refine awp_seq ?_
  refine rk tt_ok [(6, .one (.slc (.own true 832) 1 []))] [] [] [] [] (o0) ?_
  refine awp_seq ?_
  refine awp_seq ?_
  refine rk tt_ok [(14, .h ids), (15, .i (ids.length : Int)), (16, .i 0)] [1] [] [] [(1, .val (.i (ids.length : Int)))] (o1 (ob_eq (av_len ids))) ?_
  refine wdT 14 0 .sh ids (fun hw1 => ?_)
  have hl2 : List.length ids ≤ 1073741824 := wide_len (hw1)
  refine blk (fun (k0 : Nat) (s0 : (List ByteArray) × (List ByteArray)) => [(5, .o 147202 s0.1), (6, .o 147203 s0.2), (16, .i ((k0 : Nat) : Int))]) [5, 6, 16] (fun k0 s0 => []) [] (fun (y0 : (List ByteArray)) => [(6, .o 147353 y0)]) [2, 5, 6, 14, 15, 16] (fun y0 => []) [2] (fun (k0 : Nat) (s0 : (List ByteArray) × (List ByteArray)) => (forL (implEntryNames_f0 s_) implEntryNames_e0 ids 0 ([], [])) = forL (implEntryNames_f0 s_) implEntryNames_e0 (List.drop k0 ids) k0 s0 ∧ List.length s0.1 ≤ k0 ∧ List.length s0.2 ≤ k0) (fun (y0 : (List ByteArray)) => (forL (implEntryNames_f0 s_) implEntryNames_e0 ids 0 ([], [])) = .brk y0) ids.length ([], []) (weak_sf [(768, 147202), (832, 147203)] (by kernel_rfl)) ⟨rfl, (by simp), (by simp)⟩ (fun k0 s0 hk0 hI0 => ?_) (fun k0 s0 hk0 hI0 => ?_) (fun y0 hD0 => ?_)
  ·
    have hA0_0 := hI0.2.1
    have hA0_1 := hI0.2.2
    obtain ⟨a0, hx0⟩ := get_some (l := ids) (i := k0) hk0
    have hi0 := hi _ (List.mem_of_getElem? hx0)
    have hbs := base_size s_ a0
    have hns := numeral_le (n := a0) (by omega)
    refine awp_seq ?_
    refine rk tt_ok [(17, .b true)] [] [] [] [(0, .val (.b true))] (o1 (ob_eq (av_bool (decide_eq_true (p := ((k0 : Nat) : Int) < (ids.length : Int)) (by omega))))) ?_
    refine awp_seq ?_
    refine ckT ?_
    refine awp_skip ?_
    refine awp_seq ?_
    refine awp_block ?_
    refine awp_seq ?_
    refine rk tt_ok [(8, .i a0)] [17] [] [] [(0, .row [.i a0])] (o1 (ob_elem (el_of (i := ((k0 : Nat) : Int)) (by omega) rfl hx0))) ?_
    refine awp_seq ?_
    refine rk tt_ok [(9, .p 9 0)] [] [(9, [.i ((((implFindFile s_ a0)).1).1), .i ((((implFindFile s_ a0)).1).2.1), .b ((((implFindFile s_ a0)).1).2.2.1), .i ((((implFindFile s_ a0)).1).2.2.2.1), .o 1472 ((((implFindFile s_ a0)).1).2.2.2.2)])] [] [(2, .val (.tup [(true, [.i ((((implFindFile s_ a0)).1).1), .i ((((implFindFile s_ a0)).1).2.1), .b ((((implFindFile s_ a0)).1).2.2.1), .i ((((implFindFile s_ a0)).1).2.2.2.1), .o 0 ((((implFindFile s_ a0)).1).2.2.2.2)]), (false, [.b (((implFindFile s_ a0)).2)])]))] (o1 (ob_call (implFindFile_a s_ a0))) ?_
    refine awp_seq ?_
    refine rk tt_ok [(11, .s (implBaseName (((implFindFile s_ a0)).1)))] [9] [] [9] [(1, .val (.s (implBaseName (((implFindFile s_ a0)).1))))] (o1 (ob_call (implBaseName_a (((implFindFile s_ a0)).1)))) ?_
    refine awp_seq ?_
    refine awp_seq ?_
    refine rk tt_ok [(30, .b (slicesContains_string s0.1 (implBaseName (((implFindFile s_ a0)).1))))] [] [] [] [(2, .val (.b (slicesContains_string s0.1 (implBaseName (((implFindFile s_ a0)).1)))))] (o1 (ob_call (slicesContains_string_a s0.1 (implBaseName (((implFindFile s_ a0)).1))))) ?_
    refine ck (slicesContains_string s0.1 (implBaseName (((implFindFile s_ a0)).1))) (fun h3 => ?_) (fun h3 => ?_)
    ·
      refine wdT 6 0 (.own true 147203) s0.2 (fun hw4 => ?_)
      have hl5 : List.length s0.2 ≤ 1073741824 := wide_len (hw4)
      refine rk tt_ok [(6, .one (.slc (.own true 2432) 1 ((eL s0.2) ++ [[.s (((implBaseName (((implFindFile s_ a0)).1)) ++ (⟨#[46]⟩ : ByteArray)) ++ (numeral a0))]])))] [6, 8, 30] [] [] [(4, .val (.s (numeral a0)))] (o2 (ob_slen (n := (ByteArray.size (implBaseName (((implFindFile s_ a0)).1)) + ByteArray.size (⟨#[46]⟩ : ByteArray))) (by have hq0 : ByteArray.size (⟨#[46]⟩ : ByteArray) = 1 := rfl; unfold maxLen; first | omega | (simp only [ByteArray.size_append]; omega))) (o2 (ob_call (implFormatInt_a a0 (by omega))) (o2 (ob_slen (n := (ByteArray.size ((implBaseName (((implFindFile s_ a0)).1)) ++ (⟨#[46]⟩ : ByteArray)) + ByteArray.size (numeral a0))) (by have hq0 : ByteArray.size (⟨#[46]⟩ : ByteArray) = 1 := rfl; unfold maxLen; first | omega | (simp only [ByteArray.size_append]; omega))) (o1 (ob_len (len_of (eL_length s0.2) (eL_length [(((implBaseName (((implFindFile s_ a0)).1)) ++ (⟨#[46]⟩ : ByteArray)) ++ (numeral a0))]) (by first | omega | (simp; omega) | simp))))))) ?_
      refine eqn [(6, .o 2432 (s0.2 ++ [(((implBaseName (((implFindFile s_ a0)).1)) ++ (⟨#[46]⟩ : ByteArray)) ++ (numeral a0))]))] [6] [] [] (by rw [show ((eL s0.2) ++ [[.s (((implBaseName (((implFindFile s_ a0)).1)) ++ (⟨#[46]⟩ : ByteArray)) ++ (numeral a0))]]) = (eL (s0.2 ++ [(((implBaseName (((implFindFile s_ a0)).1)) ++ (⟨#[46]⟩ : ByteArray)) ++ (numeral a0))])) from app_eL (rfl) (rfl)]; first | done | kernel_rfl) ?_
      refine wdT 5 0 (.own true 147202) s0.1 (fun hw6 => ?_)
      have hl7 : List.length s0.1 ≤ 1073741824 := wide_len (hw6)
      refine rk tt_ok [(5, .one (.slc (.own true 2944) 1 ((eL s0.1) ++ [[.s (implBaseName (((implFindFile s_ a0)).1))]])))] [5, 11] [] [] [] (o1 (ob_len (len_of (eL_length s0.1) (eL_length [(implBaseName (((implFindFile s_ a0)).1))]) (by first | omega | (simp; omega) | simp)))) ?_
      refine eqn [(5, .o 2944 (s0.1 ++ [(implBaseName (((implFindFile s_ a0)).1))]))] [5] [] [] (by rw [show ((eL s0.1) ++ [[.s (implBaseName (((implFindFile s_ a0)).1))]]) = (eL (s0.1 ++ [(implBaseName (((implFindFile s_ a0)).1))])) from app_eL (rfl) (rfl)]; first | done | kernel_rfl) ?_
      refine rk tt_ok [(16, .i ((k0 + 1 : Nat) : Int))] [16] [] [] [(0, .val (.i ((k0 + 1 : Nat) : Int)))] (o1 (ob_eq (av_i (wrap_succ k0 (by omega))))) ?_
      exact Exists.intro (s0.1 ++ [(implBaseName (((implFindFile s_ a0)).1))], s0.2 ++ [(((implBaseName (((implFindFile s_ a0)).1)) ++ (⟨#[46]⟩ : ByteArray)) ++ (numeral a0))]) (And.intro (weak_sf [(2944, 147202), (2432, 147203)] (by kernel_rfl)) ⟨forL_next hx0 (bif_t h3 (rfl)) hI0.1, by first | omega | (simp; omega) | simp, by first | omega | (simp; omega) | simp⟩)
    ·
      refine wdT 6 0 (.own true 147203) s0.2 (fun hw8 => ?_)
      have hl9 : List.length s0.2 ≤ 1073741824 := wide_len (hw8)
      refine rk tt_ok [(6, .one (.slc (.own true 2688) 1 ((eL s0.2) ++ [[.s (implBaseName (((implFindFile s_ a0)).1))]])))] [6, 8, 30] [] [] [] (o1 (ob_len (len_of (eL_length s0.2) (eL_length [(implBaseName (((implFindFile s_ a0)).1))]) (by first | omega | (simp; omega) | simp)))) ?_
      refine eqn [(6, .o 2688 (s0.2 ++ [(implBaseName (((implFindFile s_ a0)).1))]))] [6] [] [] (by rw [show ((eL s0.2) ++ [[.s (implBaseName (((implFindFile s_ a0)).1))]]) = (eL (s0.2 ++ [(implBaseName (((implFindFile s_ a0)).1))])) from app_eL (rfl) (rfl)]; first | done | kernel_rfl) ?_
      refine wdT 5 0 (.own true 147202) s0.1 (fun hw10 => ?_)
      have hl11 : List.length s0.1 ≤ 1073741824 := wide_len (hw10)
      refine rk tt_ok [(5, .one (.slc (.own true 2944) 1 ((eL s0.1) ++ [[.s (implBaseName (((implFindFile s_ a0)).1))]])))] [5, 11] [] [] [] (o1 (ob_len (len_of (eL_length s0.1) (eL_length [(implBaseName (((implFindFile s_ a0)).1))]) (by first | omega | (simp; omega) | simp)))) ?_
      refine eqn [(5, .o 2944 (s0.1 ++ [(implBaseName (((implFindFile s_ a0)).1))]))] [5] [] [] (by rw [show ((eL s0.1) ++ [[.s (implBaseName (((implFindFile s_ a0)).1))]]) = (eL (s0.1 ++ [(implBaseName (((implFindFile s_ a0)).1))])) from app_eL (rfl) (rfl)]; first | done | kernel_rfl) ?_
      refine rk tt_ok [(16, .i ((k0 + 1 : Nat) : Int))] [16] [] [] [(0, .val (.i ((k0 + 1 : Nat) : Int)))] (o1 (ob_eq (av_i (wrap_succ k0 (by omega))))) ?_
      exact Exists.intro (s0.1 ++ [(implBaseName (((implFindFile s_ a0)).1))], s0.2 ++ [(implBaseName (((implFindFile s_ a0)).1))]) (And.intro (weak_sf [(2944, 147202), (2688, 147203)] (by kernel_rfl)) ⟨forL_next hx0 (bif_f h3 (rfl)) hI0.1, by first | omega | (simp; omega) | simp, by first | omega | (simp; omega) | simp⟩)
  ·
    have hA0_0 := hI0.2.1
    have hA0_1 := hI0.2.2
    refine awp_seq ?_
    refine rk tt_ok [(17, .b false)] [] [] [] [(0, .val (.b false))] (o1 (ob_eq (av_bool (decide_eq_false (p := ((k0 : Nat) : Int) < (ids.length : Int)) (by omega))))) ?_
    refine awp_seq ?_
    refine ckF ?_
    refine awp_exit ?_
    exact Exists.intro s0.2 (And.intro (weak_sf [(147203, 147353)] (by kernel_rfl)) (forL_end hk0 (rfl) hI0.1))
  ·
    refine awp_seq ?_
    refine rk tt_ok [(4, .o 147353 y0)] [4, 6] [] [] [] (o0) ?_
    refine awp_ret ?_
    exact pret [] (congrArg (fun z => (.o 0 z : AV)) (show implEntryNames s_ ids = y0 from on_b hD0 (rfl)).symm)
end Go.Proofs.YtceekipigpcilaaDoor
