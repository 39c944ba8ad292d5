/- What functions compute, and that they do (printed by am2.py): each function as a Lean function, then its contract. -/
import Derived.Test.YtceekipigpcilaaDoorEic
import Derived.KernelRfl
set_option linter.unusedVariables false
set_option linter.unusedSimpArgs false
namespace Go.Proofs.YtceekipigpcilaaDoor
open Go.RowKit
open GoE (enc wide)
def implDisambiguatedIDs_f0 (ids : (List Int)) (k0 : Nat) (a0 : ByteArray) (s0 : (List Int)) : Rd ((List Int)) ((List Int)) ((List Int)) := (bif (hasByte a0 46) then (.next (s0 ++ [(nth ids k0)])) else (.next s0))
def implDisambiguatedIDs_e0 (_ : Nat) (s0 : (List Int)) : (List Int) := s0
def implDisambiguatedIDs (s_ : StoreD) (ids : (List Int)) : (List Int) := (Out.on (forL (implDisambiguatedIDs_f0 ids) implDisambiguatedIDs_e0 (implEntryNames s_ ids) 0 []) (fun y0 => y0))
theorem implDisambiguatedIDs_a (s_ : StoreD) (ids : (List Int)) (hi : ∀ x, x ∈ ids → 1 ≤ x ∧ x ≤ 60) (hp : GoD.size s_ ≤ 536870912) : ACalls Tryd.prog 14 [.a [.h s_.1, .h s_.2.1, .i s_.2.2], .h ids] (.o 0 (implDisambiguatedIDs s_ ids)) := by
  refine acalls_of (tt := tt) tt_ok Tryd.func14 (fn := Tryd.f14) rfl (by unfold FnOk; kernel_rfl) (Nat.le_of_ble_eq_true rfl) fun w0 F0 hG => ?_
  have hen := entryNames_len s_ hi
  refine awp_seq ?_
  refine rk tt_ok [(2, .p 2 0), (4, .e 0)] [0] [(2, [.h s_.1, .h s_.2.1, .i s_.2.2])] [] [] (o0) ?_
  refine awp_seq ?_
  refine rk tt_ok [(5, .one (.slc (.own true 512) 1 []))] [] [] [] [] (o0) ?_
  refine awp_seq ?_
  refine awp_seq ?_
  refine rk tt_ok [(11, .o 704 (implEntryNames s_ ids)), (12, .i ((implEntryNames s_ ids).length : Int)), (13, .i 0)] [2] [] [2] [(2, .val (.o 0 (implEntryNames s_ ids))), (3, .val (.i ((implEntryNames s_ ids).length : Int)))] (o2 (ob_call (implEntryNames_a s_ ids hi hp)) (o1 (ob_eq (av_len (implEntryNames s_ ids))))) ?_
  refine wdT 11 0 (.own true 704) (implEntryNames s_ ids) (fun hw1 => ?_)
  have hl2 : List.length (implEntryNames s_ ids) ≤ 1073741824 := wide_len (hw1)
  refine blk (fun (k0 : Nat) (s0 : (List Int)) => [(5, .o 147202 s0), (13, .i ((k0 : Nat) : Int))]) [5, 13] (fun k0 s0 => []) [] (fun (y0 : (List Int)) => [(5, .o 147352 y0)]) [1, 5, 11, 12, 13] (fun y0 => []) [] (fun (k0 : Nat) (s0 : (List Int)) => (forL (implDisambiguatedIDs_f0 ids) implDisambiguatedIDs_e0 (implEntryNames s_ ids) 0 []) = forL (implDisambiguatedIDs_f0 ids) implDisambiguatedIDs_e0 (List.drop k0 (implEntryNames s_ ids)) k0 s0 ∧ List.length s0 ≤ k0) (fun (y0 : (List Int)) => (forL (implDisambiguatedIDs_f0 ids) implDisambiguatedIDs_e0 (implEntryNames s_ ids) 0 []) = .brk y0) ((implEntryNames s_ ids).length) [] (weak_sf [(512, 147202)] (by kernel_rfl)) ⟨rfl, (by simp)⟩ (fun k0 s0 hk0 hI0 => ?_) (fun k0 s0 hk0 hI0 => ?_) (fun y0 hD0 => ?_)
  ·
    have hA0_0 := hI0.2
    obtain ⟨a0, hx0⟩ := get_some (l := implEntryNames s_ ids) (i := k0) hk0
    refine awp_seq ?_
    refine rk tt_ok [(14, .b true)] [] [] [] [(0, .val (.b true))] (o1 (ob_eq (av_bool (decide_eq_true (p := ((k0 : Nat) : Int) < ((implEntryNames s_ ids).length : Int)) (by omega))))) ?_
    refine awp_seq ?_
    refine ckT ?_
    refine awp_skip ?_
    refine awp_seq ?_
    refine awp_block ?_
    refine awp_seq ?_
    refine rk tt_ok [(6, .i ((k0 : Nat) : Int)), (7, .s a0)] [14] [] [] [(1, .rowE [.s a0])] (o1 (ob_elem (el_of (i := ((k0 : Nat) : Int)) (by omega) rfl hx0))) ?_
    refine awp_seq ?_
    refine rk tt_ok [(19, .b (hasByte a0 46))] [7] [] [] [(1, .val (.b (hasByte a0 46)))] (o1 (ob_call (hasByte_a a0 46))) ?_
    refine ck (hasByte a0 46) (fun h3 => ?_) (fun h3 => ?_)
    ·
      refine wdT 1 0 .sh ids (fun hw5 => ?_)
      have hl6 : List.length ids ≤ 1073741824 := wide_len (hw5)
      have hx4 : ids[k0]? = some (nth ids k0) := nth_get (by omega)
      refine wdT 5 0 (.own true 147202) s0 (fun hw7 => ?_)
      have hl8 : List.length s0 ≤ 1073741824 := wide_len (hw7)
      refine rk tt_ok [(5, .one (.slc (.own true 1664) 1 ((eL s0) ++ [[.i (nth ids k0)]])))] [5, 6, 19] [] [] [(3, .row [.i (nth ids k0)])] (o2 (ob_elem (el_of (i := ((k0 : Nat) : Int)) (by omega) rfl hx4)) (o1 (ob_len (len_of (eL_length s0) (eL_length [(nth ids k0)]) (by first | omega | (simp; omega) | simp))))) ?_
      refine eqn [(5, .o 1664 (s0 ++ [(nth ids k0)]))] [5] [] [] (by rw [show ((eL s0) ++ [[.i (nth ids k0)]]) = (eL (s0 ++ [(nth ids k0)])) from app_eL (rfl) (rfl)]; first | done | kernel_rfl) ?_
      refine rk tt_ok [(13, .i ((k0 + 1 : Nat) : Int))] [13] [] [] [(0, .val (.i ((k0 + 1 : Nat) : Int)))] (o1 (ob_eq (av_i (wrap_succ k0 (by omega))))) ?_
      exact Exists.intro (s0 ++ [(nth ids k0)]) (And.intro (weak_sf [(1664, 147202)] (by kernel_rfl)) ⟨forL_next hx0 (bif_t h3 (rfl)) hI0.1, by first | omega | (simp; omega) | simp⟩)
    ·
      refine awp_skip ?_
      refine rk tt_ok [(13, .i ((k0 + 1 : Nat) : Int))] [6, 13, 19] [] [] [(0, .val (.i ((k0 + 1 : Nat) : Int)))] (o1 (ob_eq (av_i (wrap_succ k0 (by omega))))) ?_
      exact Exists.intro s0 (And.intro (weak_fit (by kernel_rfl)) ⟨forL_next hx0 (bif_f h3 (rfl)) hI0.1, by first | omega | (simp; omega) | simp⟩)
  ·
    have hA0_0 := hI0.2
    refine awp_seq ?_
    refine rk tt_ok [(14, .b false)] [] [] [] [(0, .val (.b false))] (o1 (ob_eq (av_bool (decide_eq_false (p := ((k0 : Nat) : Int) < ((implEntryNames s_ ids).length : Int)) (by omega))))) ?_
    refine awp_seq ?_
    refine ckF ?_
    refine awp_exit ?_
    exact Exists.intro s0 (And.intro (weak_sf [(147202, 147352)] (by kernel_rfl)) (forL_end hk0 (rfl) hI0.1))
  ·
    refine awp_seq ?_
    refine rk tt_ok [(4, .o 147352 y0)] [4, 5] [] [] [] (o0) ?_
    refine awp_ret ?_
    exact pret [] (congrArg (fun z => (.o 0 z : AV)) (show implDisambiguatedIDs s_ ids = y0 from on_b hD0 (rfl)).symm)
end Go.Proofs.YtceekipigpcilaaDoor
