/- Texts of this proof, put together by a program: Cfc, Cfl, Ma, He, Sz, Eq, To, LCf, MCf. -/
import Derived.Test.YtdakhddpcfimaaaGreatDoorP5
import Derived.KernelRfl
import Derived.Test.YtdakhddpcfimaaaGreatDoorProg
import Derived.Laws.IdiomStrings
import Derived.Outline
set_option linter.unusedVariables false
set_option linter.unusedSimpArgs false
namespace Go.Proofs.YtdakhddpcfimaaaGreatDoor
open Go.RowKit
open GoE (enc wide)
noncomputable def implChangeFieldKind_f0 (name : ByteArray) (kind : Int) (k0 : Nat) (_ : FieldD) (s0 : (List FieldD)) : Rd (StoreD × (List Int) × Bool) ((List FieldD)) ((List FieldD)) := (bif (((nth s0 k0).1).toList == name.toList) then (.next (List.set s0 k0 ((nth s0 k0).1, kind))) else (.next s0))
noncomputable def implChangeFieldKind_e0 (_ : Nat) (s0 : (List FieldD)) : (List FieldD) := s0
noncomputable def implChangeFieldKind_f1 (name : ByteArray) (kind : Int) (k1 : Nat) (_ : FileD) (s1 : (List Int) × (List FileD)) : Rd (StoreD × (List Int) × Bool) ((List Int) × (List FileD)) ((List Int) × (List FileD)) := (bif ((implGetAttr (nth s1.2 k1) name).1 == (0 : Int)) then (.next (s1.1, s1.2)) else (bif (!((implConvertValue (implGetAttr (nth s1.2 k1) name) kind).2)) then (.next (s1.1 ++ [(nth s1.2 k1).1], List.set s1.2 k1 (implSetAttr (nth s1.2 k1) name ((implConvertValue (implGetAttr (nth s1.2 k1) name) kind).1.1, (implConvertValue (implGetAttr (nth s1.2 k1) name) kind).1.2.1, (implConvertValue (implGetAttr (nth s1.2 k1) name) kind).1.2.2)))) else (.next (s1.1, List.set s1.2 k1 (implSetAttr (nth s1.2 k1) name ((implConvertValue (implGetAttr (nth s1.2 k1) name) kind).1.1, (implConvertValue (implGetAttr (nth s1.2 k1) name) kind).1.2.1, (implConvertValue (implGetAttr (nth s1.2 k1) name) kind).1.2.2))))))
noncomputable def implChangeFieldKind_e1 (_ : Nat) (s1 : (List Int) × (List FileD)) : (List Int) × (List FileD) := (s1.1, s1.2)
noncomputable def implChangeFieldKind (s_ : StoreD) (name : ByteArray) (kind : Int) : StoreD × (List Int) × Bool := (bif ((!(implIsValidStore s_)) || ((!(implhasField s_.1 name)) || ((kind != (1 : Int)) && (kind != (2 : Int))))) then ((implcopyStore s_), [], false) else (Out.on (forL (implChangeFieldKind_f0 name kind) implChangeFieldKind_e0 ((implcopyStore s_).1) 0 ((implcopyStore s_).1)) (fun y0 => (Out.on (forL (implChangeFieldKind_f1 name kind) implChangeFieldKind_e1 ((implcopyStore s_).2.1) 0 ([], (implcopyStore s_).2.1)) (fun y1 => ((y0, y1.2, (implcopyStore s_).2.2), y1.1, true))))))
theorem implChangeFieldKind_a (s_ : StoreD) (name : ByteArray) (kind : Int) : ACalls Tryz.prog 7 [.a [.h s_.1, .h s_.2.1, .i s_.2.2], .s name, .i kind] (.tup [(true, [.o 0 ((((implChangeFieldKind s_ name kind)).1).1), .o 1 ((((implChangeFieldKind s_ name kind)).1).2.1), .i ((((implChangeFieldKind s_ name kind)).1).2.2)]), (false, [.o 2 (((implChangeFieldKind s_ name kind)).2.1)]), (false, [.b (((implChangeFieldKind s_ name kind)).2.2)])]) := by
  refine en tt_ok Tryz.func7 fun w0 F0 hG => ?_
  refine sn tt_ok [1, 2, 3, 6, 7, 8] [3, 6] (p0) ?_
  refine tn tt_ok [1, 2, 3, 6, 7, 8, 9] [3, 6, 9] (pc 1 (implcopyStore_a s_) p0) ?_
  refine awp_seq ?_
  refine awp_seq ?_
  refine mz [(3, .p 3 0), (6, .p 6 0), (7, .e 0), (8, .b false), (9, .p 9 0)] [0] [(3, [.h s_.1, .h s_.2.1, .i s_.2.2]), (6, [.e 2, .e 5, .i 0]), (9, [.o 1216 ((implcopyStore s_).1), .o 1217 ((implcopyStore s_).2.1), .i ((implcopyStore s_).2.2)])] [] ?_
  refine jn [(37, .b ((!(implIsValidStore s_)) || ((!(implhasField s_.1 name)) || ((kind != (1 : Int)) && (kind != (2 : Int))))))] [3] [] [3] (!(implIsValidStore s_)) (fun h1 => ?_) (fun h1 => ?_) ?_
  ·
    have h1n : (implIsValidStore s_) = false := bnot_t h1
    refine ru tt_ok [(37, .b true)] [3] [] [3] (pc 1 (cb h1n (implIsValidStore_a s_)) (pe 2 (show .b (!false) = .b true from rfl) p0)) ?_
    exact ⟨rfl, weak_fit (by rw [h1]; first | done | kernel_rfl)⟩
  ·
    have h1n : (implIsValidStore s_) = true := bnot_f h1
    have hva := cf_attrs h1n
    refine awp_split (!(implhasField s_.1 name)) (fun h2 => ?_) (fun h2 => ?_)
    ·
      have h2n : (implhasField s_.1 name) = false := bnot_t h2
      refine ru tt_ok [(37, .b true)] [3] [] [3] (pc 1 (cb h1n (implIsValidStore_a s_)) (pe 2 (show .b (!true) = .b false from rfl) (pc 7 (cb h2n (implhasField_a s_.1 name)) (pe 8 (show .b (!false) = .b true from rfl) p0)))) ?_
      exact ⟨rfl, weak_fit (by rw [h1, h2]; first | done | kernel_rfl)⟩
    ·
      have h2n : (implhasField s_.1 name) = true := bnot_f h2
      refine awp_split (kind != (1 : Int)) (fun h3 => ?_) (fun h3 => ?_)
      ·
        have h3d := ne_of_bne h3
        refine rn tt_ok [1, 2, 6, 7, 8, 9, 37] [6, 9] (pc 1 (cb h1n (implIsValidStore_a s_)) (pe 2 (show .b (!true) = .b false from rfl) (pc 7 (cb h2n (implhasField_a s_.1 name)) (pe 8 (show .b (!true) = .b false from rfl) (pt 12 h3 p0))))) ?_
        exact ⟨rfl, weak_fit (by rw [h1, h2, h3]; first | done | kernel_rfl)⟩
      ·
        have h3d := eq_of_bne h3
        refine ru tt_ok [(37, .b false)] [3] [] [3] (pc 1 (cb h1n (implIsValidStore_a s_)) (pe 2 (show .b (!true) = .b false from rfl) (pc 7 (cb h2n (implhasField_a s_.1 name)) (pe 8 (show .b (!true) = .b false from rfl) (pf 12 h3 p0))))) ?_
        exact ⟨rfl, weak_fit (by rw [h1, h2, h3]; first | done | kernel_rfl)⟩
  refine ck ((!(implIsValidStore s_)) || ((!(implhasField s_.1 name)) || ((kind != (1 : Int)) && (kind != (2 : Int))))) (fun h4 => ?_) (fun h4 => ?_)
  ·
    refine sn tt_ok [1, 2, 6, 7, 8, 9] [6, 9] (p0) ?_
    refine opn [(false, 7, 0, true, 384000, 1)] ?_
    refine awp_ret ?_
    exact pz [] (show implChangeFieldKind s_ name kind = _ from bif_t h4 (rfl)) (fun z => .tup [(true, [.o 0 z.1.1, .o 1 z.1.2.1, .i z.1.2.2]), (false, [.o 2 z.2.1]), (false, [.b z.2.2])])
  ·
    have h4l : ((!(implIsValidStore s_))) = false := or_l h4
    have h4ln : (implIsValidStore s_) = true := bnot_f h4l
    have hva := cf_attrs h4ln
    have h4r : (((!(implhasField s_.1 name)) || ((kind != (1 : Int)) && (kind != (2 : Int))))) = false := or_r h4
    have h4rl : ((!(implhasField s_.1 name))) = false := or_l h4r
    have h4rln : (implhasField s_.1 name) = true := bnot_f h4rl
    have h4rr : (((kind != (1 : Int)) && (kind != (2 : Int)))) = false := or_r h4r
    refine awp_skip ?_
    refine awp_seq ?_
    refine sn tt_ok [1, 2, 6, 7, 8, 9, 40, 41, 42] [6, 9] (pl 2 ((implcopyStore s_).1) p0) ?_
    refine mz [(40, .o 1216 ((implcopyStore s_).1)), (41, .i (((implcopyStore s_).1).length : Int)), (42, .i 0)] [37] [] [] ?_
    refine wT 40 0 (.own true 1216) ((implcopyStore s_).1) (fun hw5 hl6 => ?_)
    refine blL1b (implChangeFieldKind_f0 name kind) implChangeFieldKind_e0 ((implcopyStore s_).1) ((implcopyStore s_).1) (fun k0 s0 => [(40, .o 1216 s0), (42, .i ((k0 : Nat) : Int))]) [40, 42] (fun _ s0 => [(9, [.o 1216 s0, .o 1217 ((implcopyStore s_).2.1), .i ((implcopyStore s_).2.2)])]) [9] (fun _ => []) [40, 41, 42] (fun y0 => [(9, [.o 1216 y0, .o 1217 ((implcopyStore s_).2.1), .i ((implcopyStore s_).2.2)])]) [9] (fun _ s0 => List.length s0 = List.length ((implcopyStore s_).1)) (weak_fit (by kernel_rfl)) (by simp) (fun k0 s0 hk0 hI0 => ?_) (fun k0 s0 hk0 hI0 => ?_) (fun y0 hD0 => ?_)
    ·
      have hA0_0 := hI0.2
      obtain ⟨a0, hx0⟩ := get_some (l := (implcopyStore s_).1) (i := k0) hk0
      refine su tt_ok [(43, .b true)] [] [] [] (pe 0 (av_bool (decide_eq_true (p := ((k0 : Nat) : Int) < (((implcopyStore s_).1).length : Int)) (by omega))) p0) ?_
      refine awp_seq ?_
      refine ckT ?_
      refine awp_skip ?_
      refine awp_seq ?_
      refine awp_block ?_
      refine wT 40 0 (.own true 1216) s0 (fun hw8 hl9 => ?_)
      have hx7 := ng s0 k0
      refine sn tt_ok [1, 2, 6, 7, 8, 9, 10, 11, 40, 41, 42] [6, 9, 11] (pN 1 hx7 p0) ?_
      refine tn tt_ok [1, 2, 6, 7, 8, 9, 10, 40, 41, 42, 50] [6, 9] (p0) ?_
      refine ck (((nth s0 k0).1).toList == name.toList) (fun h10 => ?_) (fun h10 => ?_)
      ·
        refine qu tt_ok [(40, .one (.slc (.own true 1216) 2 (setRow (eL s0) k0 1 [.i kind])))] [40, 43] [(9, [.slc (.own true 1216) 2 (setRow (eL s0) k0 1 [.i kind]), .o 1217 ((implcopyStore s_).2.1), .i ((implcopyStore s_).2.2)])] [9] (pN 4 hx7 p0) ?_
        refine eqn [(40, .o 1216 (List.set s0 k0 ((nth s0 k0).1, kind)))] [40] [(9, [.o 1216 (List.set s0 k0 ((nth s0 k0).1, kind)), .o 1217 ((implcopyStore s_).2.1), .i ((implcopyStore s_).2.2)])] [9] (by rw [setRow_eL (y := ((nth s0 k0).1, kind)) hx7 rfl]; first | done | kernel_rfl) ?_
        refine rn tt_ok [1, 2, 6, 7, 8, 9, 40, 41, 42] [6, 9] (pe 0 (av_i (wrap_succ k0 (by omega))) p0) ?_
        exact Exists.intro (List.set s0 k0 ((nth s0 k0).1, kind)) (And.intro (weak_fit (by kernel_rfl)) ⟨forL_next hx0 (bif_t h10 (rfl)) hI0.1, (by first | omega | (simp only [List.length_set]; omega))⟩)
      ·
        refine awp_skip ?_
        refine qu tt_ok [(42, .i ((k0 + 1 : Nat) : Int))] [42, 43] [] [] (pe 0 (av_i (wrap_succ k0 (by omega))) p0) ?_
        exact Exists.intro s0 (And.intro (weak_fit (by kernel_rfl)) ⟨forL_next hx0 (bif_f h10 (rfl)) hI0.1, (by first | omega | (simp only [List.length_set]; omega))⟩)
    ·
      have hA0_0 := hI0.2
      refine su tt_ok [(43, .b false)] [] [] [] (pe 0 (av_bool (decide_eq_false (p := ((k0 : Nat) : Int) < (((implcopyStore s_).1).length : Int)) (by omega))) p0) ?_
      refine awp_seq ?_
      refine ckF ?_
      refine awp_exit ?_
      exact Exists.intro _ (And.intro (weak_fit (by kernel_rfl)) (forL_end hk0 (rfl) hI0.1))
    ·
      refine sn tt_ok [1, 2, 6, 7, 8, 9, 12] [6, 9] (p0) ?_
      refine awp_seq ?_
      refine tn tt_ok [1, 2, 6, 7, 8, 9, 12, 60, 61, 62] [6, 9] (pl 2 ((implcopyStore s_).2.1) p0) ?_
      refine mz [(12, .one (.slc (.own true 3712) 1 [])), (60, .o 1217 ((implcopyStore s_).2.1)), (61, .i (((implcopyStore s_).2.1).length : Int)), (62, .i 0)] [] [] [] ?_
      refine wT 60 0 (.own true 1217) ((implcopyStore s_).2.1) (fun hw11 hl12 => ?_)
      refine blL1b (implChangeFieldKind_f1 name kind) implChangeFieldKind_e1 ((implcopyStore s_).2.1) ([], (implcopyStore s_).2.1) (fun k1 s1 => [(12, .o 147206 s1.1), (60, .o 1217 s1.2), (62, .i ((k1 : Nat) : Int))]) [12, 60, 62] (fun _ s1 => [(9, [.o 1216 y0, .o 1217 s1.2, .i ((implcopyStore s_).2.2)])]) [9] (fun y1 => [(12, .o 147356 y1.1)]) [1, 2, 12, 60, 61, 62] (fun y1 => [(9, [.o 1216 y0, .o 1217 y1.2, .i ((implcopyStore s_).2.2)])]) [9] (fun k1 s1 => List.length s1.1 ≤ k1 ∧ List.length s1.2 = List.length ((implcopyStore s_).2.1) ∧ ∀ j, k1 ≤ j → s1.2[j]? = (implcopyStore s_).2.1[j]?) (weak_sf [(3712, 147206)] (by kernel_rfl)) ⟨(by simp), (by simp), (by exact fun _ _ => rfl)⟩ (fun k1 s1 hk1 hI1 => ?_) (fun k1 s1 hk1 hI1 => ?_) (fun y1 hD1 => ?_)
      ·
        have hA1_0 := hI1.2.1
        have hA1_1 := hI1.2.2.1
        have hA1_2 := hI1.2.2.2
        obtain ⟨a1, hx1⟩ := get_some (l := (implcopyStore s_).2.1) (i := k1) hk1
        refine su tt_ok [(63, .b true)] [] [] [] (pe 0 (av_bool (decide_eq_true (p := ((k1 : Nat) : Int) < (((implcopyStore s_).2.1).length : Int)) (by omega))) p0) ?_
        refine awp_seq ?_
        refine ckT ?_
        refine awp_skip ?_
        refine awp_seq ?_
        refine awp_block ?_
        refine wT 60 0 (.own true 1217) s1.2 (fun hw14 hl15 => ?_)
        have hx13 := ng s1.2 k1
        refine sn tt_ok [1, 2, 6, 7, 8, 9, 12, 13, 14, 60, 61, 62] [6, 9, 14] (pN 1 hx13 p0) ?_
        refine tn tt_ok [1, 2, 6, 7, 8, 9, 12, 13, 14, 15, 60, 61, 62] [6, 9, 14, 15] (pc 2 (implGetAttr_a (nth s1.2 k1) name) p0) ?_
        refine awp_seq ?_
        refine tu tt_ok [(13, .i ((k1 : Nat) : Int)), (14, .p 14 0), (15, .p 15 0), (72, .b ((implGetAttr (nth s1.2 k1) name).1 == (0 : Int)))] [63] [(14, [.i ((nth s1.2 k1).1), .i ((nth s1.2 k1).2.1), .b ((nth s1.2 k1).2.2.1), .i ((nth s1.2 k1).2.2.2.1), .v 1217 ((nth s1.2 k1).2.2.2.2)]), (15, [.i ((implGetAttr (nth s1.2 k1) name).1), .i ((implGetAttr (nth s1.2 k1) name).2.1), .s ((implGetAttr (nth s1.2 k1) name).2.2)])] [] (p0) ?_
        refine ck ((implGetAttr (nth s1.2 k1) name).1 == (0 : Int)) (fun h16 => ?_) (fun h16 => ?_)
        ·
          have h16d := eq_of_beq h16
          refine awp_exit ?_
          refine rn tt_ok [1, 2, 6, 7, 8, 9, 12, 60, 61, 62] [6, 9] (pe 0 (av_i (wrap_succ k1 (by omega))) p0) ?_
          exact Exists.intro (s1.1, s1.2) (And.intro (weak_fit (by kernel_rfl)) ⟨forL_next hx1 (bif_t h16 (rfl)) hI1.1, by first | omega | (simp; omega) | simp, (by first | omega | (simp only [List.length_set]; omega)), (by first | exact fun j hj => hA1_2 j (by omega) | exact fun j hj => (List.getElem?_set_ne (by omega)).trans (hA1_2 j (by omega)))⟩)
        ·
          have h16d := ne_of_beq h16
          refine awp_skip ?_
          refine sn tt_ok [1, 2, 6, 7, 8, 9, 12, 13, 14, 16, 17, 60, 61, 62] [6, 9, 14, 16] (pc 2 (implConvertValue_a (implGetAttr (nth s1.2 k1) name) kind) p0) ?_
          refine awp_seq ?_
          refine tn tt_ok [1, 2, 6, 7, 8, 9, 12, 13, 14, 16, 60, 61, 62, 80] [6, 9, 14, 16] (p0) ?_
          refine ck (!((implConvertValue (implGetAttr (nth s1.2 k1) name) kind).2)) (fun h17 => ?_) (fun h17 => ?_)
          ·
            have h17n : ((implConvertValue (implGetAttr (nth s1.2 k1) name) kind).2) = false := bnot_t h17
            refine wT 12 0 (.own true 147206) s1.1 (fun hw18 hl19 => ?_)
            refine qu tt_ok [(12, .one (.slc (.own true 5440) 1 ((eL s1.1) ++ [[.i ((nth s1.2 k1).1)]]))), (16, .p 16 0)] [12, 15, 72] [(16, [.i ((implConvertValue (implGetAttr (nth s1.2 k1) name) kind).1.1), .i ((implConvertValue (implGetAttr (nth s1.2 k1) name) kind).1.2.1), .s ((implConvertValue (implGetAttr (nth s1.2 k1) name) kind).1.2.2)])] [15] (pa s1.1 [(nth s1.2 k1).1] p0) ?_
            refine eqn [(12, .o 5440 (s1.1 ++ [(nth s1.2 k1).1]))] [12] [] [] (by rw [show ((eL s1.1) ++ [[.i ((nth s1.2 k1).1)]]) = (eL (s1.1 ++ [(nth s1.2 k1).1])) from app_eL (rfl) (rfl)]; first | done | kernel_rfl) ?_
            refine rU tt_ok tt_mx [(60, .one (.slc (.own true 1217) 5 (setRow (eL s1.2) k1 0 [.i ((implSetAttr (nth s1.2 k1) name ((implConvertValue (implGetAttr (nth s1.2 k1) name) kind).1.1, (implConvertValue (implGetAttr (nth s1.2 k1) name) kind).1.2.1, (implConvertValue (implGetAttr (nth s1.2 k1) name) kind).1.2.2)).1), .i ((implSetAttr (nth s1.2 k1) name ((implConvertValue (implGetAttr (nth s1.2 k1) name) kind).1.1, (implConvertValue (implGetAttr (nth s1.2 k1) name) kind).1.2.1, (implConvertValue (implGetAttr (nth s1.2 k1) name) kind).1.2.2)).2.1), .b ((implSetAttr (nth s1.2 k1) name ((implConvertValue (implGetAttr (nth s1.2 k1) name) kind).1.1, (implConvertValue (implGetAttr (nth s1.2 k1) name) kind).1.2.1, (implConvertValue (implGetAttr (nth s1.2 k1) name) kind).1.2.2)).2.2.1), .i ((implSetAttr (nth s1.2 k1) name ((implConvertValue (implGetAttr (nth s1.2 k1) name) kind).1.1, (implConvertValue (implGetAttr (nth s1.2 k1) name) kind).1.2.1, (implConvertValue (implGetAttr (nth s1.2 k1) name) kind).1.2.2)).2.2.2.1), .h ((implSetAttr (nth s1.2 k1) name ((implConvertValue (implGetAttr (nth s1.2 k1) name) kind).1.1, (implConvertValue (implGetAttr (nth s1.2 k1) name) kind).1.2.1, (implConvertValue (implGetAttr (nth s1.2 k1) name) kind).1.2.2)).2.2.2.2)])))] [13, 14, 16, 60] [(9, [.o 1216 y0, .slc (.own true 1217) 5 (setRow (eL s1.2) k1 0 [.i ((implSetAttr (nth s1.2 k1) name ((implConvertValue (implGetAttr (nth s1.2 k1) name) kind).1.1, (implConvertValue (implGetAttr (nth s1.2 k1) name) kind).1.2.1, (implConvertValue (implGetAttr (nth s1.2 k1) name) kind).1.2.2)).1), .i ((implSetAttr (nth s1.2 k1) name ((implConvertValue (implGetAttr (nth s1.2 k1) name) kind).1.1, (implConvertValue (implGetAttr (nth s1.2 k1) name) kind).1.2.1, (implConvertValue (implGetAttr (nth s1.2 k1) name) kind).1.2.2)).2.1), .b ((implSetAttr (nth s1.2 k1) name ((implConvertValue (implGetAttr (nth s1.2 k1) name) kind).1.1, (implConvertValue (implGetAttr (nth s1.2 k1) name) kind).1.2.1, (implConvertValue (implGetAttr (nth s1.2 k1) name) kind).1.2.2)).2.2.1), .i ((implSetAttr (nth s1.2 k1) name ((implConvertValue (implGetAttr (nth s1.2 k1) name) kind).1.1, (implConvertValue (implGetAttr (nth s1.2 k1) name) kind).1.2.1, (implConvertValue (implGetAttr (nth s1.2 k1) name) kind).1.2.2)).2.2.2.1), .h ((implSetAttr (nth s1.2 k1) name ((implConvertValue (implGetAttr (nth s1.2 k1) name) kind).1.1, (implConvertValue (implGetAttr (nth s1.2 k1) name) kind).1.2.1, (implConvertValue (implGetAttr (nth s1.2 k1) name) kind).1.2.2)).2.2.2.2)]), .i ((implcopyStore s_).2.2)])] [9, 14, 16] (pc 6 (implSetAttr_a (nth s1.2 k1) name ((implConvertValue (implGetAttr (nth s1.2 k1) name) kind).1.1, (implConvertValue (implGetAttr (nth s1.2 k1) name) kind).1.2.1, (implConvertValue (implGetAttr (nth s1.2 k1) name) kind).1.2.2) (cf_room hva hA1_2 hk1)) (pN 7 hx13 p0)) ?_
            refine eqn [(60, .o 1217 (List.set s1.2 k1 (implSetAttr (nth s1.2 k1) name ((implConvertValue (implGetAttr (nth s1.2 k1) name) kind).1.1, (implConvertValue (implGetAttr (nth s1.2 k1) name) kind).1.2.1, (implConvertValue (implGetAttr (nth s1.2 k1) name) kind).1.2.2))))] [60] [(9, [.o 1216 y0, .o 1217 (List.set s1.2 k1 (implSetAttr (nth s1.2 k1) name ((implConvertValue (implGetAttr (nth s1.2 k1) name) kind).1.1, (implConvertValue (implGetAttr (nth s1.2 k1) name) kind).1.2.1, (implConvertValue (implGetAttr (nth s1.2 k1) name) kind).1.2.2))), .i ((implcopyStore s_).2.2)])] [9] (by rw [setRow_eL (y := (implSetAttr (nth s1.2 k1) name ((implConvertValue (implGetAttr (nth s1.2 k1) name) kind).1.1, (implConvertValue (implGetAttr (nth s1.2 k1) name) kind).1.2.1, (implConvertValue (implGetAttr (nth s1.2 k1) name) kind).1.2.2))) hx13 rfl]; first | done | kernel_rfl) ?_
            refine rn tt_ok [1, 2, 6, 7, 8, 9, 12, 60, 61, 62] [6, 9] (pe 0 (av_i (wrap_succ k1 (by omega))) p0) ?_
            exact Exists.intro (s1.1 ++ [(nth s1.2 k1).1], List.set s1.2 k1 (implSetAttr (nth s1.2 k1) name ((implConvertValue (implGetAttr (nth s1.2 k1) name) kind).1.1, (implConvertValue (implGetAttr (nth s1.2 k1) name) kind).1.2.1, (implConvertValue (implGetAttr (nth s1.2 k1) name) kind).1.2.2))) (And.intro (weak_sf [(5440, 147206)] (by kernel_rfl)) ⟨forL_next hx1 (bif_f h16 (bif_t h17 (rfl))) hI1.1, by first | omega | (simp; omega) | simp, (by first | omega | (simp only [List.length_set]; omega)), (by first | exact fun j hj => hA1_2 j (by omega) | exact fun j hj => (List.getElem?_set_ne (by omega)).trans (hA1_2 j (by omega)))⟩)
          ·
            have h17n : ((implConvertValue (implGetAttr (nth s1.2 k1) name) kind).2) = true := bnot_f h17
            refine awp_skip ?_
            refine qU tt_ok tt_mx [(60, .one (.slc (.own true 1217) 5 (setRow (eL s1.2) k1 0 [.i ((implSetAttr (nth s1.2 k1) name ((implConvertValue (implGetAttr (nth s1.2 k1) name) kind).1.1, (implConvertValue (implGetAttr (nth s1.2 k1) name) kind).1.2.1, (implConvertValue (implGetAttr (nth s1.2 k1) name) kind).1.2.2)).1), .i ((implSetAttr (nth s1.2 k1) name ((implConvertValue (implGetAttr (nth s1.2 k1) name) kind).1.1, (implConvertValue (implGetAttr (nth s1.2 k1) name) kind).1.2.1, (implConvertValue (implGetAttr (nth s1.2 k1) name) kind).1.2.2)).2.1), .b ((implSetAttr (nth s1.2 k1) name ((implConvertValue (implGetAttr (nth s1.2 k1) name) kind).1.1, (implConvertValue (implGetAttr (nth s1.2 k1) name) kind).1.2.1, (implConvertValue (implGetAttr (nth s1.2 k1) name) kind).1.2.2)).2.2.1), .i ((implSetAttr (nth s1.2 k1) name ((implConvertValue (implGetAttr (nth s1.2 k1) name) kind).1.1, (implConvertValue (implGetAttr (nth s1.2 k1) name) kind).1.2.1, (implConvertValue (implGetAttr (nth s1.2 k1) name) kind).1.2.2)).2.2.2.1), .h ((implSetAttr (nth s1.2 k1) name ((implConvertValue (implGetAttr (nth s1.2 k1) name) kind).1.1, (implConvertValue (implGetAttr (nth s1.2 k1) name) kind).1.2.1, (implConvertValue (implGetAttr (nth s1.2 k1) name) kind).1.2.2)).2.2.2.2)])))] [13, 14, 15, 60, 72] [(9, [.o 1216 y0, .slc (.own true 1217) 5 (setRow (eL s1.2) k1 0 [.i ((implSetAttr (nth s1.2 k1) name ((implConvertValue (implGetAttr (nth s1.2 k1) name) kind).1.1, (implConvertValue (implGetAttr (nth s1.2 k1) name) kind).1.2.1, (implConvertValue (implGetAttr (nth s1.2 k1) name) kind).1.2.2)).1), .i ((implSetAttr (nth s1.2 k1) name ((implConvertValue (implGetAttr (nth s1.2 k1) name) kind).1.1, (implConvertValue (implGetAttr (nth s1.2 k1) name) kind).1.2.1, (implConvertValue (implGetAttr (nth s1.2 k1) name) kind).1.2.2)).2.1), .b ((implSetAttr (nth s1.2 k1) name ((implConvertValue (implGetAttr (nth s1.2 k1) name) kind).1.1, (implConvertValue (implGetAttr (nth s1.2 k1) name) kind).1.2.1, (implConvertValue (implGetAttr (nth s1.2 k1) name) kind).1.2.2)).2.2.1), .i ((implSetAttr (nth s1.2 k1) name ((implConvertValue (implGetAttr (nth s1.2 k1) name) kind).1.1, (implConvertValue (implGetAttr (nth s1.2 k1) name) kind).1.2.1, (implConvertValue (implGetAttr (nth s1.2 k1) name) kind).1.2.2)).2.2.2.1), .h ((implSetAttr (nth s1.2 k1) name ((implConvertValue (implGetAttr (nth s1.2 k1) name) kind).1.1, (implConvertValue (implGetAttr (nth s1.2 k1) name) kind).1.2.1, (implConvertValue (implGetAttr (nth s1.2 k1) name) kind).1.2.2)).2.2.2.2)]), .i ((implcopyStore s_).2.2)])] [9, 14, 15] (pc 6 (implSetAttr_a (nth s1.2 k1) name ((implConvertValue (implGetAttr (nth s1.2 k1) name) kind).1.1, (implConvertValue (implGetAttr (nth s1.2 k1) name) kind).1.2.1, (implConvertValue (implGetAttr (nth s1.2 k1) name) kind).1.2.2) (cf_room hva hA1_2 hk1)) (pN 7 hx13 p0)) ?_
            refine eqn [(60, .o 1217 (List.set s1.2 k1 (implSetAttr (nth s1.2 k1) name ((implConvertValue (implGetAttr (nth s1.2 k1) name) kind).1.1, (implConvertValue (implGetAttr (nth s1.2 k1) name) kind).1.2.1, (implConvertValue (implGetAttr (nth s1.2 k1) name) kind).1.2.2))))] [60] [(9, [.o 1216 y0, .o 1217 (List.set s1.2 k1 (implSetAttr (nth s1.2 k1) name ((implConvertValue (implGetAttr (nth s1.2 k1) name) kind).1.1, (implConvertValue (implGetAttr (nth s1.2 k1) name) kind).1.2.1, (implConvertValue (implGetAttr (nth s1.2 k1) name) kind).1.2.2))), .i ((implcopyStore s_).2.2)])] [9] (by rw [setRow_eL (y := (implSetAttr (nth s1.2 k1) name ((implConvertValue (implGetAttr (nth s1.2 k1) name) kind).1.1, (implConvertValue (implGetAttr (nth s1.2 k1) name) kind).1.2.1, (implConvertValue (implGetAttr (nth s1.2 k1) name) kind).1.2.2))) hx13 rfl]; first | done | kernel_rfl) ?_
            refine rn tt_ok [1, 2, 6, 7, 8, 9, 12, 60, 61, 62] [6, 9] (pe 0 (av_i (wrap_succ k1 (by omega))) p0) ?_
            exact Exists.intro (s1.1, List.set s1.2 k1 (implSetAttr (nth s1.2 k1) name ((implConvertValue (implGetAttr (nth s1.2 k1) name) kind).1.1, (implConvertValue (implGetAttr (nth s1.2 k1) name) kind).1.2.1, (implConvertValue (implGetAttr (nth s1.2 k1) name) kind).1.2.2))) (And.intro (weak_fit (by kernel_rfl)) ⟨forL_next hx1 (bif_f h16 (bif_f h17 (rfl))) hI1.1, by first | omega | (simp; omega) | simp, (by first | omega | (simp only [List.length_set]; omega)), (by first | exact fun j hj => hA1_2 j (by omega) | exact fun j hj => (List.getElem?_set_ne (by omega)).trans (hA1_2 j (by omega)))⟩)
      ·
        have hA1_0 := hI1.2.1
        have hA1_1 := hI1.2.2.1
        have hA1_2 := hI1.2.2.2
        refine su tt_ok [(63, .b false)] [] [] [] (pe 0 (av_bool (decide_eq_false (p := ((k1 : Nat) : Int) < (((implcopyStore s_).2.1).length : Int)) (by omega))) p0) ?_
        refine awp_seq ?_
        refine ckF ?_
        refine awp_exit ?_
        exact Exists.intro _ (And.intro (weak_sf [(147206, 147356)] (by kernel_rfl)) (forL_end hk1 (rfl) hI1.1))
      ·
        refine sn tt_ok [6, 7, 8] [6] (p0) ?_
        refine awp_ret ?_
        exact pz [] (show implChangeFieldKind s_ name kind = _ from bif_f h4 (on_b hD0 (on_b hD1 (rfl)))) (fun z => .tup [(true, [.o 0 z.1.1, .o 1 z.1.2.1, .i z.1.2.2]), (false, [.o 2 z.2.1]), (false, [.b z.2.2])])
noncomputable def specChangeFieldKind_f0 (name : ByteArray) (kind : Int) (k0 : Nat) (s0 : (List FieldD)) : Rd (StoreD × (List Int) × Bool) ((List FieldD)) ((List FieldD)) := (bif (((nth s0 k0).1).toList == name.toList) then (.next (List.set s0 k0 ((nth s0 k0).1, kind))) else (.next s0))
noncomputable def specChangeFieldKind_e0 (_ : Nat) (s0 : (List FieldD)) : (List FieldD) := s0
noncomputable def specChangeFieldKind_f1 (name : ByteArray) (kind : Int) (k1 : Nat) (s1 : (List Int) × (List FileD)) : Rd (StoreD × (List Int) × Bool) ((List Int) × (List FileD)) ((List Int) × (List FileD)) := (bif ((specGetAttr (nth s1.2 k1) name).1 == (0 : Int)) then (.next (s1.1, s1.2)) else (bif (!((specConvertValue (specGetAttr (nth s1.2 k1) name) kind).2)) then (.next (s1.1 ++ [(nth s1.2 k1).1], List.set s1.2 k1 (specSetAttr (nth s1.2 k1) name ((specConvertValue (specGetAttr (nth s1.2 k1) name) kind).1.1, (specConvertValue (specGetAttr (nth s1.2 k1) name) kind).1.2.1, (specConvertValue (specGetAttr (nth s1.2 k1) name) kind).1.2.2)))) else (.next (s1.1, List.set s1.2 k1 (specSetAttr (nth s1.2 k1) name ((specConvertValue (specGetAttr (nth s1.2 k1) name) kind).1.1, (specConvertValue (specGetAttr (nth s1.2 k1) name) kind).1.2.1, (specConvertValue (specGetAttr (nth s1.2 k1) name) kind).1.2.2))))))
noncomputable def specChangeFieldKind_e1 (_ : Nat) (s1 : (List Int) × (List FileD)) : (List Int) × (List FileD) := (s1.1, s1.2)
noncomputable def specChangeFieldKind (s_ : StoreD) (name : ByteArray) (kind : Int) : StoreD × (List Int) × Bool := (bif ((!(specIsValidStore (specl05Copy s_))) || (((specFieldKind ((specl05Copy s_).1) name) == (0 : Int)) || (!(specl01In kind 1 2)))) then ((specl05Copy s_), [], false) else (Out.on (forN (specChangeFieldKind_f0 name kind) specChangeFieldKind_e0 (List.length ((specl05Copy s_).1)) 0 ((specl05Copy s_).1)) (fun y0 => (Out.on (forN (specChangeFieldKind_f1 name kind) specChangeFieldKind_e1 (List.length ((specl05Copy s_).2.1)) 0 ([], (specl05Copy s_).2.1)) (fun y1 => ((y0, y1.2, (specl05Copy s_).2.2), y1.1, true))))))
theorem specChangeFieldKind_a (s_ : StoreD) (name : ByteArray) (kind : Int) : ACalls Tryz.prog 5 [.a [.h s_.1, .h s_.2.1, .i s_.2.2], .s name, .i kind] (.tup [(true, [.o 0 ((((specChangeFieldKind s_ name kind)).1).1), .o 1 ((((specChangeFieldKind s_ name kind)).1).2.1), .i ((((specChangeFieldKind s_ name kind)).1).2.2)]), (false, [.o 2 (((specChangeFieldKind s_ name kind)).2.1)]), (false, [.b (((specChangeFieldKind s_ name kind)).2.2)])]) := by
  refine en tt_ok Tryz.func5 fun w0 F0 hG => ?_
  refine sn tt_ok [1, 2, 3, 6, 7, 8] [3, 6] (p0) ?_
  refine tn tt_ok [1, 2, 3, 6, 7, 8] [3, 6] (pc 1 (specl05Copy_a s_) p0) ?_
  refine awp_seq ?_
  refine awp_seq ?_
  refine mz [(3, .p 3 0), (6, .p 6 0), (7, .e 0), (8, .b false)] [0] [(3, [.o 1024 ((specl05Copy s_).1), .o 1025 ((specl05Copy s_).2.1), .i ((specl05Copy s_).2.2)]), (6, [.e 2, .e 5, .i 0])] [] ?_
  refine jn [(31, .b ((!(specIsValidStore (specl05Copy s_))) || (((specFieldKind ((specl05Copy s_).1) name) == (0 : Int)) || (!(specl01In kind 1 2)))))] [] [] [] (!(specIsValidStore (specl05Copy s_))) (fun h1 => ?_) (fun h1 => ?_) ?_
  ·
    have h1n : (specIsValidStore (specl05Copy s_)) = false := bnot_t h1
    refine ru tt_ok [(31, .b true)] [] [] [] (pc 1 (cb h1n (specIsValidStore_a (specl05Copy s_))) (pe 2 (show .b (!false) = .b true from rfl) p0)) ?_
    exact ⟨rfl, weak_fit (by rw [h1]; first | done | kernel_rfl)⟩
  ·
    have h1n : (specIsValidStore (specl05Copy s_)) = true := bnot_f h1
    have hva := cf_attrsS h1n
    refine awp_split ((specFieldKind ((specl05Copy s_).1) name) == (0 : Int)) (fun h2 => ?_) (fun h2 => ?_)
    ·
      have h2d := eq_of_beq h2
      refine ru tt_ok [(31, .b true)] [] [] [] (pc 1 (cb h1n (specIsValidStore_a (specl05Copy s_))) (pe 2 (show .b (!true) = .b false from rfl) (pc 7 (specFieldKind_a ((specl05Copy s_).1) name) (pt 8 h2 p0)))) ?_
      exact ⟨rfl, weak_fit (by rw [h1, h2]; first | done | kernel_rfl)⟩
    ·
      have h2d := ne_of_beq h2
      refine rn tt_ok [1, 2, 3, 6, 7, 8, 31] [3, 6] (pc 1 (cb h1n (specIsValidStore_a (specl05Copy s_))) (pe 2 (show .b (!true) = .b false from rfl) (pc 7 (specFieldKind_a ((specl05Copy s_).1) name) (pf 8 h2 (pc 12 (specl01In_a kind 1 2) p0))))) ?_
      exact ⟨rfl, weak_fit (by rw [h1, h2]; first | done | kernel_rfl)⟩
  refine ck ((!(specIsValidStore (specl05Copy s_))) || (((specFieldKind ((specl05Copy s_).1) name) == (0 : Int)) || (!(specl01In kind 1 2)))) (fun h3 => ?_) (fun h3 => ?_)
  ·
    refine sn tt_ok [1, 2, 3, 6, 7, 8] [3, 6] (p0) ?_
    refine awp_ret ?_
    exact pz [] (show specChangeFieldKind s_ name kind = _ from bif_t h3 (rfl)) (fun z => .tup [(true, [.o 0 z.1.1, .o 1 z.1.2.1, .i z.1.2.2]), (false, [.o 2 z.2.1]), (false, [.b z.2.2])])
  ·
    have h3l : ((!(specIsValidStore (specl05Copy s_)))) = false := or_l h3
    have h3ln : (specIsValidStore (specl05Copy s_)) = true := bnot_f h3l
    have hva := cf_attrsS h3ln
    have h3r : ((((specFieldKind ((specl05Copy s_).1) name) == (0 : Int)) || (!(specl01In kind 1 2)))) = false := or_r h3
    have h3rl : (((specFieldKind ((specl05Copy s_).1) name) == (0 : Int))) = false := or_l h3r
    have h3rld := ne_of_beq h3rl
    have h3rr : ((!(specl01In kind 1 2))) = false := or_r h3r
    have h3rrn : (specl01In kind 1 2) = true := bnot_f h3rr
    have h3rrnw := l01In_iff.1 h3rrn
    refine awp_skip ?_
    refine sn tt_ok [1, 2, 3, 6, 7, 8, 9] [3, 6] (p0) ?_
    refine awp_seq ?_
    refine tn tt_ok [1, 2, 3, 6, 7, 8, 9, 10] [3, 6] (p0) ?_
    refine mz [(9, .one (.slc (.own true 2176) 1 [])), (10, .i 0)] [31] [] [] ?_
    refine blN3b (specChangeFieldKind_f0 name kind) specChangeFieldKind_e0 (List.length ((specl05Copy s_).1)) ((specl05Copy s_).1) (fun k0 _ => [(10, .i ((k0 : Nat) : Int))]) [10] (fun _ s0 => [(3, [.o 1024 s0, .o 1025 ((specl05Copy s_).2.1), .i ((specl05Copy s_).2.2)])]) [3] (fun _ => []) [10] (fun y0 => [(3, [.o 1024 y0, .o 1025 ((specl05Copy s_).2.1), .i ((specl05Copy s_).2.2)])]) [3] (fun _ s0 => List.length s0 = List.length ((specl05Copy s_).1)) (fun y0 => List.length y0 = List.length ((specl05Copy s_).1)) (weak_fit (by kernel_rfl)) (by simp) (fun k0 s0 hk0 hI0 => ?_) (fun k0 s0 hk0 hI0 => ?_) (fun y0 hD0 => ?_)
    ·
      have hA0_0 := hI0.2
      refine awp_seq ?_
      refine su tt_ok [(39, .b true)] [] [] [] (pl 3 s0 (pe 4 (av_bool (decide_eq_true (p := ((k0 : Nat) : Int) < (s0.length : Int)) (by omega))) p0)) ?_
      refine ckT ?_
      refine awp_skip ?_
      refine awp_seq ?_
      refine awp_block ?_
      refine wB 3 0 (.own true 1024) s0 (fun hw5 hl6 => ?_)
      have hx4 := ng s0 k0
      refine sn tt_ok [1, 2, 3, 6, 7, 8, 9, 10, 49] [3, 6] (pN 3 hx4 p0) ?_
      refine ck (((nth s0 k0).1).toList == name.toList) (fun h7 => ?_) (fun h7 => ?_)
      ·
        refine qu tt_ok [] [39] [(3, [.slc (.own true 1024) 2 (setRow (eL s0) k0 1 [.i kind]), .o 1025 ((specl05Copy s_).2.1), .i ((specl05Copy s_).2.2)])] [3] (pN 4 hx4 p0) ?_
        refine eqn [] [] [(3, [.o 1024 (List.set s0 k0 ((nth s0 k0).1, kind)), .o 1025 ((specl05Copy s_).2.1), .i ((specl05Copy s_).2.2)])] [3] (by rw [setRow_eL (y := ((nth s0 k0).1, kind)) hx4 rfl]; first | done | kernel_rfl) ?_
        refine rn tt_ok [1, 2, 3, 6, 7, 8, 9, 10] [3, 6] (pe 1 (av_i (wrap_succ k0 (by omega))) p0) ?_
        exact Exists.intro (List.set s0 k0 ((nth s0 k0).1, kind)) (And.intro (weak_fit (by kernel_rfl)) ⟨forN_next hk0 (bif_t h7 (rfl)) hI0.1, (by first | omega | (simp only [List.length_set]; omega))⟩)
      ·
        refine awp_skip ?_
        refine qn tt_ok [1, 2, 3, 6, 7, 8, 9, 10] [3, 6] (pe 1 (av_i (wrap_succ k0 (by omega))) p0) ?_
        exact Exists.intro s0 (And.intro (weak_fit (by kernel_rfl)) ⟨forN_next hk0 (bif_f h7 (rfl)) hI0.1, (by first | omega | (simp only [List.length_set]; omega))⟩)
    ·
      have hA0_0 := hI0.2
      refine awp_seq ?_
      refine su tt_ok [(39, .b false)] [] [] [] (pl 3 s0 (pe 4 (av_bool (decide_eq_false (p := ((k0 : Nat) : Int) < (s0.length : Int)) (by omega))) p0)) ?_
      refine ckF ?_
      refine awp_exit ?_
      exact Exists.intro s0 (And.intro (weak_fit (by kernel_rfl)) ⟨forN_end hk0 (rfl) hI0.1, by first | omega | (simp only [List.length_set]; omega)⟩)
    ·
      have hD0_0 := hD0.2
      refine awp_seq ?_
      refine su tt_ok [(11, .i 0)] [] [] [] (p0) ?_
      refine blN3b (specChangeFieldKind_f1 name kind) specChangeFieldKind_e1 (List.length ((specl05Copy s_).2.1)) ([], (specl05Copy s_).2.1) (fun k1 s1 => [(9, .o 147206 s1.1), (11, .i ((k1 : Nat) : Int))]) [9, 11] (fun _ s1 => [(3, [.o 1024 y0, .o 1025 s1.2, .i ((specl05Copy s_).2.2)])]) [3] (fun y1 => [(9, .o 147356 y1.1)]) [1, 2, 9, 11] (fun y1 => [(3, [.o 1024 y0, .o 1025 y1.2, .i ((specl05Copy s_).2.2)])]) [3] (fun k1 s1 => List.length s1.1 ≤ k1 ∧ List.length s1.2 = List.length ((specl05Copy s_).2.1) ∧ ∀ j, k1 ≤ j → s1.2[j]? = (specl05Copy s_).2.1[j]?) (fun y1 => List.length y1.2 = List.length ((specl05Copy s_).2.1)) (weak_sf [(2176, 147206)] (by kernel_rfl)) ⟨(by simp), (by simp), (by exact fun _ _ => rfl)⟩ (fun k1 s1 hk1 hI1 => ?_) (fun k1 s1 hk1 hI1 => ?_) (fun y1 hD1 => ?_)
      ·
        have hA1_0 := hI1.2.1
        have hA1_1 := hI1.2.2.1
        have hA1_2 := hI1.2.2.2
        refine awp_seq ?_
        refine su tt_ok [(60, .b true)] [] [] [] (pl 3 s1.2 (pe 4 (av_bool (decide_eq_true (p := ((k1 : Nat) : Int) < (s1.2.length : Int)) (by omega))) p0)) ?_
        refine ckT ?_
        refine awp_skip ?_
        refine awp_seq ?_
        refine awp_block ?_
        refine wB 3 1 (.own true 1025) s1.2 (fun hw9 hl10 => ?_)
        have hx8 := ng s1.2 k1
        refine sn tt_ok [1, 2, 3, 6, 7, 8, 9, 11, 12] [3, 6, 12] (pN 3 hx8 (pc 6 (specGetAttr_a (nth s1.2 k1) name) p0)) ?_
        refine awp_seq ?_
        refine tn tt_ok [1, 2, 3, 6, 7, 8, 9, 11, 12, 72] [3, 6, 12] (p0) ?_
        refine ck ((specGetAttr (nth s1.2 k1) name).1 == (0 : Int)) (fun h11 => ?_) (fun h11 => ?_)
        ·
          have h11d := eq_of_beq h11
          refine awp_exit ?_
          refine qu tt_ok [(11, .i ((k1 + 1 : Nat) : Int))] [11, 60] [] [] (pe 1 (av_i (wrap_succ k1 (by omega))) p0) ?_
          exact Exists.intro (s1.1, s1.2) (And.intro (weak_fit (by kernel_rfl)) ⟨forN_next hk1 (bif_t h11 (rfl)) hI1.1, by first | omega | (simp; omega) | simp, (by first | omega | (simp only [List.length_set]; omega)), (by first | exact fun j hj => hA1_2 j (by omega) | exact fun j hj => (List.getElem?_set_ne (by omega)).trans (hA1_2 j (by omega)))⟩)
        ·
          have h11d := ne_of_beq h11
          refine awp_skip ?_
          refine tu tt_ok [(13, .p 13 0), (14, .b ((specConvertValue (specGetAttr (nth s1.2 k1) name) kind).2))] [60] [(13, [.i ((specConvertValue (specGetAttr (nth s1.2 k1) name) kind).1.1), .i ((specConvertValue (specGetAttr (nth s1.2 k1) name) kind).1.2.1), .s ((specConvertValue (specGetAttr (nth s1.2 k1) name) kind).1.2.2)])] [] (pc 2 (specConvertValue_a (specGetAttr (nth s1.2 k1) name) kind) p0) ?_
          refine awp_seq ?_
          refine sn tt_ok [1, 2, 3, 6, 7, 8, 9, 11, 13, 80] [3, 6, 13] (p0) ?_
          refine ck (!((specConvertValue (specGetAttr (nth s1.2 k1) name) kind).2)) (fun h12 => ?_) (fun h12 => ?_)
          ·
            have h12n : ((specConvertValue (specGetAttr (nth s1.2 k1) name) kind).2) = false := bnot_t h12
            refine wT 9 0 (.own true 147206) s1.1 (fun hw13 hl14 => ?_)
            refine qu tt_ok [(9, .one (.slc (.own true 5696) 1 ((eL s1.1) ++ [[.i ((nth s1.2 k1).1)]])))] [9, 14] [] [] (pN 4 hx8 (pa s1.1 [(nth s1.2 k1).1] p0)) ?_
            refine eqn [(9, .o 5696 (s1.1 ++ [(nth s1.2 k1).1]))] [9] [] [] (by rw [show ((eL s1.1) ++ [[.i ((nth s1.2 k1).1)]]) = (eL (s1.1 ++ [(nth s1.2 k1).1])) from app_eL (rfl) (rfl)]; first | done | kernel_rfl) ?_
            refine rU tt_ok tt_mx [] [13] [(3, [.o 1024 y0, .slc (.own true 1025) 5 (setRow (eL s1.2) k1 0 [.i ((specSetAttr (nth s1.2 k1) name ((specConvertValue (specGetAttr (nth s1.2 k1) name) kind).1.1, (specConvertValue (specGetAttr (nth s1.2 k1) name) kind).1.2.1, (specConvertValue (specGetAttr (nth s1.2 k1) name) kind).1.2.2)).1), .i ((specSetAttr (nth s1.2 k1) name ((specConvertValue (specGetAttr (nth s1.2 k1) name) kind).1.1, (specConvertValue (specGetAttr (nth s1.2 k1) name) kind).1.2.1, (specConvertValue (specGetAttr (nth s1.2 k1) name) kind).1.2.2)).2.1), .b ((specSetAttr (nth s1.2 k1) name ((specConvertValue (specGetAttr (nth s1.2 k1) name) kind).1.1, (specConvertValue (specGetAttr (nth s1.2 k1) name) kind).1.2.1, (specConvertValue (specGetAttr (nth s1.2 k1) name) kind).1.2.2)).2.2.1), .i ((specSetAttr (nth s1.2 k1) name ((specConvertValue (specGetAttr (nth s1.2 k1) name) kind).1.1, (specConvertValue (specGetAttr (nth s1.2 k1) name) kind).1.2.1, (specConvertValue (specGetAttr (nth s1.2 k1) name) kind).1.2.2)).2.2.2.1), .h ((specSetAttr (nth s1.2 k1) name ((specConvertValue (specGetAttr (nth s1.2 k1) name) kind).1.1, (specConvertValue (specGetAttr (nth s1.2 k1) name) kind).1.2.1, (specConvertValue (specGetAttr (nth s1.2 k1) name) kind).1.2.2)).2.2.2.2)]), .i ((specl05Copy s_).2.2)])] [3, 13] (pN 6 hx8 (pc 10 (specSetAttr_a (nth s1.2 k1) name ((specConvertValue (specGetAttr (nth s1.2 k1) name) kind).1.1, (specConvertValue (specGetAttr (nth s1.2 k1) name) kind).1.2.1, (specConvertValue (specGetAttr (nth s1.2 k1) name) kind).1.2.2) (cf_room hva hA1_2 hk1)) (pN 11 hx8 p0))) ?_
            refine eqn [] [] [(3, [.o 1024 y0, .o 1025 (List.set s1.2 k1 (specSetAttr (nth s1.2 k1) name ((specConvertValue (specGetAttr (nth s1.2 k1) name) kind).1.1, (specConvertValue (specGetAttr (nth s1.2 k1) name) kind).1.2.1, (specConvertValue (specGetAttr (nth s1.2 k1) name) kind).1.2.2))), .i ((specl05Copy s_).2.2)])] [3] (by rw [setRow_eL (y := (specSetAttr (nth s1.2 k1) name ((specConvertValue (specGetAttr (nth s1.2 k1) name) kind).1.1, (specConvertValue (specGetAttr (nth s1.2 k1) name) kind).1.2.1, (specConvertValue (specGetAttr (nth s1.2 k1) name) kind).1.2.2))) hx8 rfl]; first | done | kernel_rfl) ?_
            refine rn tt_ok [1, 2, 3, 6, 7, 8, 9, 11] [3, 6] (pe 1 (av_i (wrap_succ k1 (by omega))) p0) ?_
            exact Exists.intro (s1.1 ++ [(nth s1.2 k1).1], List.set s1.2 k1 (specSetAttr (nth s1.2 k1) name ((specConvertValue (specGetAttr (nth s1.2 k1) name) kind).1.1, (specConvertValue (specGetAttr (nth s1.2 k1) name) kind).1.2.1, (specConvertValue (specGetAttr (nth s1.2 k1) name) kind).1.2.2))) (And.intro (weak_sf [(5696, 147206)] (by kernel_rfl)) ⟨forN_next hk1 (bif_f h11 (bif_t h12 (rfl))) hI1.1, by first | omega | (simp; omega) | simp, (by first | omega | (simp only [List.length_set]; omega)), (by first | exact fun j hj => hA1_2 j (by omega) | exact fun j hj => (List.getElem?_set_ne (by omega)).trans (hA1_2 j (by omega)))⟩)
          ·
            have h12n : ((specConvertValue (specGetAttr (nth s1.2 k1) name) kind).2) = true := bnot_f h12
            refine awp_skip ?_
            refine qU tt_ok tt_mx [] [13, 14] [(3, [.o 1024 y0, .slc (.own true 1025) 5 (setRow (eL s1.2) k1 0 [.i ((specSetAttr (nth s1.2 k1) name ((specConvertValue (specGetAttr (nth s1.2 k1) name) kind).1.1, (specConvertValue (specGetAttr (nth s1.2 k1) name) kind).1.2.1, (specConvertValue (specGetAttr (nth s1.2 k1) name) kind).1.2.2)).1), .i ((specSetAttr (nth s1.2 k1) name ((specConvertValue (specGetAttr (nth s1.2 k1) name) kind).1.1, (specConvertValue (specGetAttr (nth s1.2 k1) name) kind).1.2.1, (specConvertValue (specGetAttr (nth s1.2 k1) name) kind).1.2.2)).2.1), .b ((specSetAttr (nth s1.2 k1) name ((specConvertValue (specGetAttr (nth s1.2 k1) name) kind).1.1, (specConvertValue (specGetAttr (nth s1.2 k1) name) kind).1.2.1, (specConvertValue (specGetAttr (nth s1.2 k1) name) kind).1.2.2)).2.2.1), .i ((specSetAttr (nth s1.2 k1) name ((specConvertValue (specGetAttr (nth s1.2 k1) name) kind).1.1, (specConvertValue (specGetAttr (nth s1.2 k1) name) kind).1.2.1, (specConvertValue (specGetAttr (nth s1.2 k1) name) kind).1.2.2)).2.2.2.1), .h ((specSetAttr (nth s1.2 k1) name ((specConvertValue (specGetAttr (nth s1.2 k1) name) kind).1.1, (specConvertValue (specGetAttr (nth s1.2 k1) name) kind).1.2.1, (specConvertValue (specGetAttr (nth s1.2 k1) name) kind).1.2.2)).2.2.2.2)]), .i ((specl05Copy s_).2.2)])] [3, 13] (pN 6 hx8 (pc 10 (specSetAttr_a (nth s1.2 k1) name ((specConvertValue (specGetAttr (nth s1.2 k1) name) kind).1.1, (specConvertValue (specGetAttr (nth s1.2 k1) name) kind).1.2.1, (specConvertValue (specGetAttr (nth s1.2 k1) name) kind).1.2.2) (cf_room hva hA1_2 hk1)) (pN 11 hx8 p0))) ?_
            refine eqn [] [] [(3, [.o 1024 y0, .o 1025 (List.set s1.2 k1 (specSetAttr (nth s1.2 k1) name ((specConvertValue (specGetAttr (nth s1.2 k1) name) kind).1.1, (specConvertValue (specGetAttr (nth s1.2 k1) name) kind).1.2.1, (specConvertValue (specGetAttr (nth s1.2 k1) name) kind).1.2.2))), .i ((specl05Copy s_).2.2)])] [3] (by rw [setRow_eL (y := (specSetAttr (nth s1.2 k1) name ((specConvertValue (specGetAttr (nth s1.2 k1) name) kind).1.1, (specConvertValue (specGetAttr (nth s1.2 k1) name) kind).1.2.1, (specConvertValue (specGetAttr (nth s1.2 k1) name) kind).1.2.2))) hx8 rfl]; first | done | kernel_rfl) ?_
            refine rn tt_ok [1, 2, 3, 6, 7, 8, 9, 11] [3, 6] (pe 1 (av_i (wrap_succ k1 (by omega))) p0) ?_
            exact Exists.intro (s1.1, List.set s1.2 k1 (specSetAttr (nth s1.2 k1) name ((specConvertValue (specGetAttr (nth s1.2 k1) name) kind).1.1, (specConvertValue (specGetAttr (nth s1.2 k1) name) kind).1.2.1, (specConvertValue (specGetAttr (nth s1.2 k1) name) kind).1.2.2))) (And.intro (weak_fit (by kernel_rfl)) ⟨forN_next hk1 (bif_f h11 (bif_f h12 (rfl))) hI1.1, by first | omega | (simp; omega) | simp, (by first | omega | (simp only [List.length_set]; omega)), (by first | exact fun j hj => hA1_2 j (by omega) | exact fun j hj => (List.getElem?_set_ne (by omega)).trans (hA1_2 j (by omega)))⟩)
      ·
        have hA1_0 := hI1.2.1
        have hA1_1 := hI1.2.2.1
        have hA1_2 := hI1.2.2.2
        refine awp_seq ?_
        refine su tt_ok [(60, .b false)] [] [] [] (pl 3 s1.2 (pe 4 (av_bool (decide_eq_false (p := ((k1 : Nat) : Int) < (s1.2.length : Int)) (by omega))) p0)) ?_
        refine ckF ?_
        refine awp_exit ?_
        exact Exists.intro (s1.1, s1.2) (And.intro (weak_sf [(147206, 147356)] (by kernel_rfl)) ⟨forN_end hk1 (rfl) hI1.1, by first | omega | (simp only [List.length_set]; omega)⟩)
      ·
        have hD1_0 := hD1.2
        refine sn tt_ok [6, 7, 8] [6] (p0) ?_
        refine awp_ret ?_
        exact pz [] (show specChangeFieldKind s_ name kind = _ from bif_f h3 (on_b hD0.1 (on_b hD1.1 (rfl)))) (fun z => .tup [(true, [.o 0 z.1.1, .o 1 z.1.2.1, .i z.1.2.2]), (false, [.o 2 z.2.1]), (false, [.b z.2.2])])
section
variable {α R S T : Type} {f : Nat → α → S → Rd R S T} {g : Nat → S → Rd R S T} {e e' : Nat → S → T}
theorem forL_lock (I : Nat → S → Prop) (n : Nat) (he : ∀ k s, e k s = e' k s) (hf : ∀ k a s, k < n → I k s → f k a s = g k s) (hn : ∀ k a s, k < n → I k s → ∃ s', f k a s = .next s' ∧ I (k + 1) s') : ∀ (l : List α) (k : Nat) (s : S), k + l.length = n → I k s → forL f e l k s = forN g e' l.length k s ∧ ∃ s', forL f e l k s = .brk (e n s') ∧ I n s'
  | [], k, s, hk, hI => by
    obtain rfl : k = n := hk
    exact ⟨by simp only [forL, forN, List.length_nil, he], s, rfl, hI⟩
  | a :: l, k, s, hk, hI => by
    have hlt : k < n := by simp only [List.length_cons] at hk; omega
    obtain ⟨s', h1, h2⟩ := hn k a s hlt hI
    have h3 := forL_lock I n he hf hn l (k + 1) s' (by simp only [List.length_cons] at hk; omega) h2
    have h4 := (hf k a s hlt hI).symm.trans h1
    simp only [forL, List.length_cons, forN, h1, h4]
    exact h3
end
theorem l05C_id (s : StoreD) : specl05Copy s = s := by
  unfold specl05Copy
  rw [forL_map (f := specl05Copy_f0) (e := specl05Copy_e0) (g := id) (fun _ _ _ => rfl), List.map_id]
  rfl
theorem schema_kind {s : List FieldD} (h : implIsValidSchema s = true) : ∀ f, f ∈ s → f.2 ≠ 0 := by
  intro f hf
  obtain ⟨i, hi⟩ := List.getElem?_of_mem hf
  unfold implIsValidSchema at h
  cases hl : forL (implIsValidSchema_f0 s) implIsValidSchema_e0 s 0 () with
  | brk t =>
    have := forL_all (fun k a t => by unfold implIsValidSchema_f0; generalize (_ || _ : Bool) = c; cases c <;> simp) hl i f hi
    unfold implIsValidSchema_f0 at this
    intro e
    rw [e] at this
    simp at this
  | ret r =>
    rw [hl] at h
    obtain rfl : r = true := h
    exfalso
    have key : ∀ (l : List FieldD) k, forL (implIsValidSchema_f0 s) implIsValidSchema_e0 l k () ≠ .ret true := by
      intro l
      induction l with
      | nil => intro k h; simp [forL] at h
      | cons a l ih =>
        intro k h
        simp only [forL] at h
        unfold implIsValidSchema_f0 at h
        split at h
        · rename_i hf; exact ih _ h
        · cases h
        · rename_i r hf; cases h; revert hf; generalize (_ || _ : Bool) = c; cases c <;> simp
    exact key _ _ hl
theorem has_kind (n : ByteArray) : ∀ (l : List FieldD) (k : Nat), (∀ f, f ∈ l → f.2 ≠ 0) → (Out.on (forL (specFieldKind_f0 n) specFieldKind_e0 l k ()) (fun _ => 0) == 0) = !(decide (ixF (fun a => implhasField_1 a n) l ≥ 0))
  | [], k, _ => rfl
  | a :: l, k, h => by
    have hb := ixF_bd (fun a => implhasField_1 a n) l
    have ih := has_kind n l (k + 1) fun f hf => h f (List.mem_cons_of_mem _ hf)
    have ha := h a (List.mem_cons_self ..)
    by_cases hc : (a.1.toList == n.toList) = true
    · have e1 : specFieldKind_f0 n k a () = .ret a.2 := by unfold specFieldKind_f0; rw [hc]; rfl
      have e2 : ixF (fun a => implhasField_1 a n) (a :: l) = 0 := by unfold ixF; rw [show implhasField_1 a n = true from hc]; rfl
      rw [e2]
      simp only [forL, e1, Out.on]
      rw [beq_false_of_ne ha]; rfl
    · have hc := Bool.eq_false_iff.2 hc
      have e1 : specFieldKind_f0 n k a () = .next () := by unfold specFieldKind_f0; rw [hc]; rfl
      have e2 : ixF (fun a => implhasField_1 a n) (a :: l) = bif ixF (fun a => implhasField_1 a n) l == -1 then -1 else ixF (fun a => implhasField_1 a n) l + 1 := by
        show (bif implhasField_1 a n then (0 : Int) else _) = _
        rw [show implhasField_1 a n = false from hc]; rfl
      rw [e2]
      simp only [forL, e1]
      rw [ih]
      generalize ixF (fun a => implhasField_1 a n) l = z at hb
      cases hx : (z == -1) with
      | true => rw [(by simpa using hx : z = -1)]; rfl
      | false =>
        have hne : z ≠ -1 := by simpa using hx
        rw [cond_false, decide_eq_true (show z ≥ 0 by omega), decide_eq_true (show z + 1 ≥ 0 by omega)]
theorem valid_schema {s : StoreD} (h : implIsValidStore s = true) : implIsValidSchema s.1 = true := by
  unfold implIsValidStore at h
  cases hl : forL (implIsValidStore_f0 s) implIsValidStore_e0 s.2.1 0 () with
  | brk t =>
    rw [hl] at h
    simp only [Out.on, Bool.and_eq_true] at h
    exact h.1
  | ret r =>
    rw [hl] at h
    obtain rfl : r = true := h
    exfalso
    have key : ∀ (l : List FileD) k, forL (implIsValidStore_f0 s) implIsValidStore_e0 l k () ≠ .ret true := by
      intro l
      induction l with
      | nil => intro k h; simp [forL] at h
      | cons a l ih =>
        intro k h
        simp only [forL] at h
        unfold implIsValidStore_f0 at h
        split at h
        · rename_i hf; exact ih _ h
        · cases h
        · rename_i r hf; cases h; revert hf; generalize (_ || _ : Bool) = c; cases c <;> simp
    exact key _ _ hl
theorem kind_cond {s : StoreD} (n : ByteArray) (k : Int) : ((!(specIsValidStore s)) || (((specFieldKind s.1 n) == (0 : Int)) || (!(specl01In k 1 2)))) = ((!(implIsValidStore s)) || ((!(implhasField s.1 n)) || ((k != (1 : Int)) && (k != (2 : Int))))) := by
  rw [store_eq]
  cases hv : implIsValidStore s with
  | false => rfl
  | true =>
    have h1 := has_kind n s.1 0 (schema_kind (valid_schema hv))
    have h2 : implhasField s.1 n = decide (ixF (fun a => implhasField_1 a n) s.1 ≥ 0) := by
      unfold implhasField slicesContainsFunc_Field_implhasField_1
      rw [slicesIndexFunc_Field_implhasField_1_ix]
    have h3 : (!(specl01In k 1 2)) = ((k != 1) && (k != 2)) := by
      unfold specl01In
      rw [Bool.eq_iff_iff]; simp; omega
    rw [h2, h3]
    unfold specFieldKind
    rw [h1]
def cfI (K : Nat) (l : List FileD) (k : Nat) (s : List Int × List FileD) : Prop := s.1.length ≤ k ∧ (∀ j, k ≤ j → s.2[j]? = l[j]?) ∧ s.2.length = l.length ∧ ∀ f, f ∈ s.2 → GoD.size f ≤ K
theorem size_sub {α : Type} [GoD α] {l l' : List α} (h : l'.Sublist l) : GoD.size l' ≤ GoD.size l := by
  induction h with
  | slnil => exact Nat.le_refl _
  | cons a _ ih => exact Nat.le_trans ih (by show _ ≤ _ + 1 + _; simp only [List.map_cons, List.sum_cons]; show _ + _ ≤ _; omega)
  | cons_cons a _ ih =>
    have ih' : _ + _ ≤ _ + _ := ih
    show _ + _ ≤ _ + _
    simp only [List.length_cons, List.map_cons, List.sum_cons]
    omega
theorem size_insAt {α : Type} [GoD α] (l : List α) (j : Nat) (y : α) : GoD.size (insAt l j y) = GoD.size l + 1 + GoD.size y := by
  have h1 : l.length = (l.take j).length + (l.drop j).length := by rw [← List.length_append, List.take_append_drop]
  have h2 : (l.map GoD.size).sum = ((l.take j).map GoD.size).sum + ((l.drop j).map GoD.size).sum := by rw [← List.sum_append, ← List.map_append, List.take_append_drop]
  show _ + _ = (_ + _) + 1 + _
  unfold insAt
  simp only [List.length_append, List.map_append, List.sum_append, List.map_cons, List.map_nil, List.sum_cons, List.sum_nil, List.length_cons, List.length_nil]
  rw [h1, h2]
  simp only [List.length_take, List.length_drop]
  omega
theorem setAttr_size (f : FileD) (n : ByteArray) (v : ValueD) (hp : List.length f.2.2.2.2 ≤ 1073741000) : GoD.size (implSetAttr f n v) ≤ GoD.size f + 1 + n.size + v.2.2.size := by
  rw [setAttr_form f n v hp]
  have h1 := size_sub (List.filter_sublist (p := fun a : AttrD => !(a.1.toList == n.toList)) (l := f.2.2.2.2))
  have e : GoD.size f = 0 + (0 + (0 + (0 + GoD.size f.2.2.2.2))) := rfl
  have ey : GoD.size ((n, v) : AttrD) = n.size + (0 + (0 + v.2.2.size)) := rfl
  generalize List.filter (fun a : AttrD => !(a.1.toList == n.toList)) f.2.2.2.2 = l at h1
  show 0 + (0 + (0 + (0 + GoD.size (bif (v.1 == (0 : Int)) then l else insAt l _ (n, v))))) ≤ _
  cases (v.1 == (0 : Int)) with
  | true => rw [cond_true]; omega
  | false => rw [cond_false, size_insAt]; omega
theorem conv_size (v : ValueD) (k : Int) : (convV v k).1.2.2.size ≤ v.2.2.size + 20 := by
  have hz : zeroV.2.2.size ≤ v.2.2.size + 20 := Nat.zero_le _
  unfold convV
  split
  · exact hz
  · split
    · exact Nat.le_add_right _ _
    · split
      · show (encodeInt v.2.1).size ≤ _
        unfold encodeInt
        split
        · rename_i h
          have := numeral_size h
          rw [shift_size]
          omega
        · exact Nat.zero_le _
      · split
        · exact Nat.zero_le _
        · exact hz
theorem sum_sizeF {α : Type} [GoD α] {K : Nat} : ∀ l : List α, (∀ a, a ∈ l → GoD.size a ≤ K) → GoD.size l ≤ l.length * (K + 1)
  | [], _ => Nat.zero_le _
  | a :: l, h => by
    have h1 : l.length + (l.map GoD.size).sum ≤ l.length * (K + 1) := sum_sizeF l fun b hb => h b (List.mem_cons_of_mem _ hb)
    have h2 := h a (List.mem_cons_self ..)
    show (a :: l).length + ((a :: l).map GoD.size).sum ≤ _
    rw [List.map_cons, List.sum_cons, List.length_cons, Nat.add_mul, Nat.one_mul]
    omega
theorem mem_sizeF {α : Type} [GoD α] : ∀ {l : List α} {a : α}, a ∈ l → GoD.size a ≤ GoD.size l
  | b :: l, a, h => by
    show _ ≤ (b :: l).length + ((b :: l).map GoD.size).sum
    rw [List.map_cons, List.sum_cons]
    rcases List.mem_cons.1 h with rfl | h
    · omega
    · have : GoD.size a ≤ l.length + (l.map GoD.size).sum := mem_sizeF h
      rw [List.length_cons]
      omega
theorem getAttr_size (f : FileD) (n : ByteArray) : (implGetAttr f n).2.2.size ≤ GoD.size f := by
  have key : ∀ (l : List AttrD) (k : Nat), (Out.on (forL (implGetAttr_f0 n) implGetAttr_e0 l k ()) (fun _ => ((0, 0, ⟨#[]⟩) : ValueD))).2.2.size ≤ GoD.size l := by
    intro l
    induction l with
    | nil => intro k; exact Nat.zero_le _
    | cons a l ih =>
      intro k
      simp only [forL, implGetAttr_f0]
      have e : GoD.size (a :: l) = (l.length + 1) + ((a.1.size + (0 + (0 + a.2.2.2.size))) + (l.map GoD.size).sum) := rfl
      cases (a.1.toList == n.toList) with
      | true => show a.2.2.2.size ≤ _; omega
      | false => have h1 : _ ≤ l.length + (l.map GoD.size).sum := ih (k + 1); exact Nat.le_trans h1 (by omega)
  have e : GoD.size f = 0 + (0 + (0 + (0 + GoD.size f.2.2.2.2))) := rfl
  rw [e]
  simp only [Nat.zero_add]
  exact key f.2.2.2.2 0
theorem cf_step {K0 : Nat} {l : List FileD} {n : ByteArray} (ha : ∀ f, f ∈ l → List.length f.2.2.2.2 ≤ 5) (hK : ∀ f, f ∈ l → GoD.size f ≤ K0) (k0 : Int) {k : Nat} {a : FileD} {s : List Int × List FileD} (hk : k < l.length) (hI : cfI (2 * K0 + n.size + 21) l k s) :
    implChangeFieldKind_f1 n k0 k a s = specChangeFieldKind_f1 n k0 k s ∧ ∃ s', implChangeFieldKind_f1 n k0 k a s = .next s' ∧ cfI (2 * K0 + n.size + 21) l (k + 1) s' := by
  obtain ⟨h1, h2, h3, h4⟩ := hI
  have hg := nth_get hk
  have e : nth s.2 k = nth l k := nth_of ((h2 k (Nat.le_refl _)).trans hg)
  have hm := List.mem_of_getElem? hg
  have h5 : List.length (nth s.2 k).2.2.2.2 ≤ 1073741000 := by rw [e]; exact Nat.le_trans (ha _ hm) (by decide)
  have h6 : GoD.size (nth s.2 k) ≤ K0 := by rw [e]; exact hK _ hm
  have h7 := setAttr_size (nth s.2 k) n (implConvertValue (implGetAttr (nth s.2 k) n) k0).1 h5
  have h8 : (implConvertValue (implGetAttr (nth s.2 k) n) k0).1.2.2.size ≤ _ := conv_size (implGetAttr (nth s.2 k) n) k0
  have h9 := getAttr_size (nth s.2 k) n
  have hset : ∀ y, y ∈ List.set s.2 k (implSetAttr (nth s.2 k) n (implConvertValue (implGetAttr (nth s.2 k) n) k0).1) → GoD.size y ≤ 2 * K0 + n.size + 21 := fun y hy => by
    rcases List.mem_or_eq_of_mem_set hy with hy | rfl
    · exact h4 y hy
    · omega
  have hs : ∀ w, specSetAttr (nth s.2 k) n w = implSetAttr (nth s.2 k) n w := fun w => setAttr_eq _ n w h5
  have eg : specGetAttr (nth s.2 k) n = implGetAttr (nth s.2 k) n := rfl
  have ec : ∀ x, specConvertValue x k0 = implConvertValue x k0 := fun _ => rfl
  unfold implChangeFieldKind_f1 specChangeFieldKind_f1
  rw [eg, ec, hs]
  refine ⟨rfl, ?_⟩
  cases ((implGetAttr (nth s.2 k) n).1 == (0 : Int)) with
  | true => exact ⟨_, rfl, Nat.le_succ_of_le h1, fun j hj => h2 j (by omega), h3, h4⟩
  | false =>
    rw [cond_false]
    cases (implConvertValue (implGetAttr (nth s.2 k) n) k0).2 with
    | true => exact ⟨_, rfl, Nat.le_succ_of_le h1, fun j hj => (List.getElem?_set_ne (by omega)).trans (h2 j (by omega)), (List.length_set ..).trans h3, hset⟩
    | false => exact ⟨_, rfl, by simp only [List.length_append, List.length_cons, List.length_nil]; omega, fun j hj => (List.getElem?_set_ne (by omega)).trans (h2 j (by omega)), (List.length_set ..).trans h3, hset⟩
theorem schema_step (n : ByteArray) (k0 : Int) {l : List FieldD} {K : Nat} {k : Nat} {a : FieldD} {s : List FieldD} (hk : k < l.length) (hI : s.length = l.length ∧ ∀ f, f ∈ s → GoD.size f ≤ K) :
    ∃ s', implChangeFieldKind_f0 n k0 k a s = .next s' ∧ s'.length = l.length ∧ ∀ f, f ∈ s' → GoD.size f ≤ K := by
  obtain ⟨h1, h2⟩ := hI
  unfold implChangeFieldKind_f0
  cases (((nth s k).1).toList == n.toList) with
  | false => exact ⟨_, rfl, h1, h2⟩
  | true =>
    refine ⟨_, rfl, (List.length_set ..).trans h1, fun y hy => ?_⟩
    rcases List.mem_or_eq_of_mem_set hy with hy | rfl
    · exact h2 y hy
    · exact h2 (nth s k) (List.mem_of_getElem? (nth_get (by omega)))
theorem change_both (s : StoreD) (n : ByteArray) (k : Int) : specChangeFieldKind s n k = implChangeFieldKind s n k ∧ (implChangeFieldKind s n k = (s, [], false) ∨ (implChangeFieldKind s n k).1.1.length ≤ 5 ∧ (∀ f, f ∈ (implChangeFieldKind s n k).1.1 → GoD.size f ≤ GoD.size s.1) ∧ (implChangeFieldKind s n k).1.2.1.length ≤ 12 ∧ (∀ f, f ∈ (implChangeFieldKind s n k).1.2.1 → GoD.size f ≤ 2 * GoD.size s.2.1 + n.size + 21) ∧ (implChangeFieldKind s n k).2.1.length ≤ 12) := by
  unfold specChangeFieldKind implChangeFieldKind
  rw [l05C_id, copyStore_id, kind_cond]
  cases hc : ((!(implIsValidStore s)) || ((!(implhasField s.1 n)) || ((k != (1 : Int)) && (k != (2 : Int))))) with
  | true => exact ⟨rfl, .inl rfl⟩
  | false =>
    have hv : implIsValidStore s = true := by
      cases hv : implIsValidStore s with
      | true => rfl
      | false => rw [hv] at hc; cases hc
    have h5 := schema5 (valid_schema hv)
    have h12 := store12 hv
    obtain ⟨e1, y0, f1, g1, g2⟩ := forL_lock (f := implChangeFieldKind_f0 n k) (g := specChangeFieldKind_f0 n k) (e := implChangeFieldKind_e0) (e' := specChangeFieldKind_e0) (fun _ t => t.length = s.1.length ∧ ∀ f, f ∈ t → GoD.size f ≤ GoD.size s.1) s.1.length (fun _ _ => rfl) (fun _ _ _ _ _ => rfl)
      (fun j a t hj hI => schema_step n k hj hI) s.1 0 s.1 (Nat.zero_add _) ⟨rfl, fun f hf => mem_sizeF hf⟩
    obtain ⟨e2, y1, f2, g3⟩ := forL_lock (f := implChangeFieldKind_f1 n k) (g := specChangeFieldKind_f1 n k) (e := implChangeFieldKind_e1) (e' := specChangeFieldKind_e1) (cfI (2 * GoD.size s.2.1 + n.size + 21) s.2.1) s.2.1.length (fun _ _ => rfl)
      (fun j a t hj hI => (cf_step (fun f hf => vstore_attrs hv hf) (fun f hf => mem_sizeF hf) k hj hI).1)
      (fun j a t hj hI => (cf_step (fun f hf => vstore_attrs hv hf) (fun f hf => mem_sizeF hf) k hj hI).2) s.2.1 0 ([], s.2.1) (Nat.zero_add _)
      ⟨Nat.le_refl _, fun _ _ => rfl, rfl, fun f hf => Nat.le_trans (mem_sizeF (l := s.2.1) hf) (by omega)⟩
    obtain ⟨g3, -, g4, g5⟩ := g3
    simp only [cond_false]
    rw [← e1, ← e2, f1, f2]
    exact ⟨rfl, .inr ⟨Nat.le_trans (Nat.le_of_eq g1) h5, g2, Nat.le_trans (Nat.le_of_eq g4) h12, g5, Nat.le_trans g3 h12⟩⟩
theorem changeKind_eq (s : StoreD) (n : ByteArray) (k : Int) : specChangeFieldKind s n k = implChangeFieldKind s n k := (change_both s n k).1
theorem cf_size (s : StoreD) (n : ByteArray) (k : Int) (h : GoD.size s ≤ 1048576 ∧ n.size ≤ 1048576) : GoD.size (implChangeFieldKind s n k).1 ≤ 1073741824 := by
  have e0 : GoD.size s = GoD.size s.1 + (GoD.size s.2.1 + 0) := rfl
  rcases (change_both s n k).2 with e | ⟨h1, h2, h3, h4, -⟩
  · rw [e]; exact Nat.le_trans h.1 (by decide)
  · have h5 := Nat.le_trans (sum_sizeF _ h2) (Nat.mul_le_mul_right _ h1)
    have h6 := Nat.le_trans (sum_sizeF _ h4) (Nat.mul_le_mul_right _ h3)
    show GoD.size _ + (GoD.size _ + 0) ≤ _
    omega
theorem cf_sizeI (s : StoreD) (n : ByteArray) (k : Int) : GoD.size (implChangeFieldKind s n k).2.1 ≤ 1073741824 := by
  have : (implChangeFieldKind s n k).2.1.length ≤ 12 := by
    rcases (change_both s n k).2 with e | ⟨-, -, -, -, h⟩
    · rw [e]; exact Nat.zero_le _
    · exact h
  rw [size_plain (fun _ => rfl)]
  omega
end Go.Proofs.YtdakhddpcfimaaaGreatDoor
namespace Go.Proofs.YtdakhddpcfimaaaGreatDoor
open Go.RowKit
open GoD (rd own)
theorem digs_zero (f : Nat) : digs f 0 = [] := by cases f <;> rfl
theorem digs_fuel : ∀ (f f' k : Nat), k ≤ f → k ≤ f' → digs f k = digs f' k
  | 0, f', k, h, _ => by
    obtain rfl : k = 0 := by omega
    rw [digs_zero, digs_zero]
  | f + 1, 0, k, _, h => by
    obtain rfl : k = 0 := by omega
    rw [digs_zero, digs_zero]
  | f + 1, f' + 1, k, h, h' => by
    unfold digs
    by_cases hk : k = 0
    · rw [if_pos hk, if_pos hk]
    · rw [if_neg hk, if_neg hk, digs_fuel f f' (k / 10) (by omega) (by omega)]
theorem digs_pos {k : Nat} (h : 0 < k) : digs k k = digs (k / 10) (k / 10) ++ [UInt8.ofNat (48 + k % 10)] := by
  obtain ⟨f, rfl⟩ : ∃ f, k = f + 1 := ⟨k - 1, by omega⟩
  rw [digs, if_neg (by omega), digs_fuel f ((f + 1) / 10) _ (by omega) (Nat.le_refl _)]
theorem digs_len : ∀ (n k : Nat), k < 10 ^ n → (digs k k).length ≤ n
  | 0, k, h => by
    obtain rfl : k = 0 := by simpa using h
    simp [digs_zero]
  | n + 1, k, h => by
    by_cases hk : k = 0
    · subst hk; simp [digs_zero]
    · rw [digs_pos (by omega)]
      have := digs_len n (k / 10) (by rw [Nat.pow_succ] at h; omega)
      simp
      omega
theorem digs_len20 {k : Nat} (h : k ≤ 4611686018427387904) : (digs k k).length ≤ 20 := digs_len 20 k (by omega)
theorem markB_size {k : Nat} (h : k ≤ 4611686018427387904) : (markB k).size ≤ maxLen := by
  have h1 := digs_len20 h
  unfold markB maxLen
  show (List.toArray _).size ≤ _
  rw [List.size_toArray]
  split
  · simp
  · simp; omega
set_option maxRecDepth 100000 in
theorem markText_c (w : World) (K : Int) (k : Nat) (hK : K = k) (h1 : 1 ≤ k) (hk : k ≤ 4611686018427387904) : Calls Tryz.prog 69 #[.int .i64 K] w (Ret w (.string (markB k))) := by
  subst hK
  have hk0 : ¬ (k : Int) ≤ 0 := by omega
  have HL := Lib.hid (digs_len20 hk)
  go_enter Tryz.func69, Tryz.ntmps69
  go_wp2
  go_loopw [0, 3] (fun q s wr => ∃ (j : Nat) (out : ByteArray), q = .int .i64 j ∧ s = .string out ∧ j ≤ 4611686018427387904 ∧ Hid (digs j j ++ out.data.toList = digs k k) ∧ Below w.heap.size w wr) (fun q _ _ => (intOf q).toNat)
  case atStart => exact ⟨k, _, rfl, rfl, hk, by show _ = _; simp, Below.refl _ _⟩
  case round =>
    obtain ⟨j, out, rfl, rfl, hj, HD, hB⟩ := hrel
    have hos : out.size ≤ 20 := by
      have h := HL.out
      rw [← HD.out] at h
      simp at h
      have : out.size = out.data.size := rfl
      omega
    have hBs := hB.size
    by_cases hz : 0 < j
    · have hcv : ∀ w0 : World, Sem.run Tryz.prog (convert 97 9 (.slice (some ⟨w0.heap.size, 0, none⟩) 1 1)) (w0.alloc (.cells #[.int .u8 (48 + (j : Int) % 10)] 5)) = .ok (.string ⟨#[UInt8.ofNat (48 + j % 10)]⟩) (w0.alloc (.cells #[.int .u8 (48 + (j : Int) % 10)] 5)) := by
        intro w0
        refine run_convert_bytes_back (P := Tryz.prog) _ 97 9 5 _ 1 [UInt8.ofNat (48 + j % 10)] Tryz.underlying97 Tryz.underlying5 Tryz.underlying9 ?_
        intro i hi
        obtain rfl : i = 0 := by simp at hi; omega
        simp [Addr.add]
        omega
      have hos2 : 1 + out.size ≤ 30 := by omega
      go_wp2
      go_roundw
      case rel => exact ⟨j / 10, _, by go_num, rfl, by omega, by
        show _ = _
        rw [← HD.out, digs_pos hz]
        simp, by go_grown⟩
      case measure => simp [intOf]; omega
    · obtain rfl : j = 0 := by omega
      go_wp2
      go_ret
      refine ⟨?_, hB⟩
      have h := HD.out
      rw [digs_zero] at h
      simp only [List.nil_append] at h
      have e : markB k = ⟨#[109]⟩ ++ out := by
        unfold markB
        rw [if_neg (by omega), ← h]
        apply ByteArray.ext
        simp
      rw [e]
      rfl
set_option maxRecDepth 100000 in
set_option maxHeartbeats 1000000 in
theorem markAttrS_c (w : World) (v : Value) (l : List AttrD) (L : List Nat) (K : Int) (k : Nat) (hK : K = k) (h1 : 1 ≤ k) (hk : (markS l k).2 ≤ 4611686018427387904) (ho : own L w [v] l) : Calls Tryz.prog 70 #[v, .int .i64 K] w (MarkR L w [v] (markS l k)) := by
  subst hK
  obtain ⟨oa, cap, rfl⟩ := slice_of_own ho
  have hlm : l.length ≤ 9223372036854775807 := len_of_own ho
  have HO := Lib.hid ho; clear ho
  go_enter Tryz.func70, Tryz.ntmps70
  go_wp2
  go_loopw [1, 5] (fun q i wr => ∃ j : Nat, j ≤ l.length ∧ i = .int .i64 j ∧ q = .int .i64 ((markS (l.take j) k).2 : Nat) ∧ Hid (own L wr [.slice oa l.length cap] ((markS (l.take j) k).1 ++ l.drop j)) ∧ Hid (Chg L w wr)) (fun _ i _ => l.length - (intOf i).toNat)
  case atStart => exact ⟨0, Nat.zero_le _, rfl, rfl, HO.out, Chg.refl _ _⟩
  case round =>
    obtain ⟨j, hj, rfl, rfl, HW, HC⟩ := hrel
    by_cases hjl : j < l.length
    · have hx := List.getElem?_eq_getElem hjl
      have hsp := mark_split l k j _ hx
      have hle := Nat.le_trans (mark_take_le l k j _ hx) hk
      have hdr : l.drop j = l[j] :: l.drop (j + 1) := List.drop_eq_getElem_cons hjl
      have hxl : (markS (l.take j) k).1.length = j := by rw [markS_length, List.length_take]; omega
      have hkk : k ≤ (markS (l.take j) k).2 := markS_le _ _
      have how := HW.out
      rw [hdr] at how
      clear hx hdr HW
      generalize (markS (l.take j) k).2 = kk at *
      generalize (markS (l.take j) k).1 = xs at *
      generalize l[j] = x at *
      obtain ⟨g, cap', cur, e, Li, hv, hg, hroom, hgLi, hgL, hsub, hoe, hshut⟩ := own_open how
      simp only [Value.slice.injEq] at hv
      obtain ⟨rfl, hq0, rfl⟩ := hv
      clear hq0
      rw [hxl] at hroom hoe hshut
      clear hxl
      rw [show GoD.n AttrD = 4 from rfl] at hroom hoe hshut
      generalize hce : (cur.toList.drop (j * 4)).take 4 = ce at *
      obtain ⟨v0, ⟨v1, v2, v3⟩⟩ := x
      obtain ⟨nd3, _, _, _, _, rfl, rfl, ⟨rfl, rfl, h0⟩, ⟨nd2, _, _, _, _, rfl, rfl, ⟨rfl, rfl, h1⟩, ⟨nd1, _, _, _, _, rfl, rfl, ⟨rfl, rfl, h2⟩, ⟨rfl, rfl, h3⟩⟩⟩⟩ := hoe
      have p0 : wr.cell? ⟨g, j * 4, none⟩ = some _ := cells_at hg hce 0 _ rfl
      have p1 : wr.cell? ⟨g, j * 4 + 1, none⟩ = some _ := cells_at hg hce 1 _ rfl
      have p2 : wr.cell? ⟨g, j * 4 + 2, none⟩ = some _ := cells_at hg hce 2 _ rfl
      have p3 : wr.cell? ⟨g, j * 4 + 3, none⟩ = some _ := cells_at hg hce 3 _ rfl
      have fz := free_of_heap hg
      have hglt := block_lt_of_heap hg
      clear hce hg how
      have HSH := Lib.hid hshut; clear hshut
      have HSP := Lib.hid hsp; clear hsp
      have hle : kk + 1 + 1 + 1 + 1 ≤ 4611686018427387904 := hle
      have HSUB := Lib.hid hsub; clear hsub
      have HU0 : Hid (Upd g (j * 4) 4 ([] ++ ([] ++ ([] ++ []))) wr wr) := Upd.refl _ _ _ _ _
      have tok1 : True := trivial
      have tok2 : True := trivial
      go_wp2_with (first | (go_at_call 69; have tk := tok1; clear tok1; refine (markText_c _ _ (kk) (by omega) (by omega) (by omega)).mono ?_; rintro e w1 ⟨rfl, hb⟩; have hz := hb.size; have c1 := fun o => bcell hb g o (by go_size); have f1 := fun o => bfroz hb g o (by go_size); have HU1 : Hid (Upd g (j * 4) 4 ([] ++ ([] ++ ([] ++ []))) wr w1) := Upd.below (by repeat (first | (with_reducible exact HU0.out) | (with_reducible refine Upd.setCell ?_ _ (by omega) _))) hb (by go_size); (repeat (first | rewrite [World.size_alloc] at hz | rewrite [World.size_setCell] at hz | rewrite [World.size_drew] at hz)); have HB1 := Lib.hid hb; clear hb) | (go_at_call 69; have tk := tok2; clear tok2; refine (markText_c _ _ (kk + 1 + 1 + 1) (by omega) (by omega) (by omega)).mono ?_; rintro e w2 ⟨rfl, hb⟩; have hz := hb.size; have c2 := fun o => bcell hb g o (by go_size); have f2 := fun o => bfroz hb g o (by go_size); have HU2 : Hid (Upd g (j * 4) 4 ([] ++ ([] ++ ([] ++ []))) wr w2) := Upd.below (by repeat (first | (with_reducible exact HU1.out) | (with_reducible refine Upd.setCell ?_ _ (by omega) _))) hb (by go_size); (repeat (first | rewrite [World.size_alloc] at hz | rewrite [World.size_setCell] at hz | rewrite [World.size_drew] at hz)); have HB2 := Lib.hid hb; clear hb))
      go_roundw
      case measure => simp [intOf]; omega
      case rel =>
        refine ⟨j + 1, by omega, by go_num, ?_, ?_, ?_⟩
        · show Value.int _ _ = _
          rw [HSP.out]
          show Value.int .i64 _ = .int .i64 ((kk + 1 + 1 + 1 + 1 : Nat) : Int)
          first | go_num | (congr 1 <;> omega)
        · show own _ _ _ _
          rw [HSP.out]
          simp only [List.append_assoc, List.singleton_append]
          refine HSH.out _ [.string (markB (kk)), .int .i64 ((kk + 1 : Nat) : Int), .int .i64 ((kk + 1 + 1 : Nat) : Int), .string (markB (kk + 1 + 1 + 1))] _ (by repeat (first | (with_reducible exact HU2.out) | (with_reducible refine Upd.setCell ?_ _ (by omega) _))) (own_pair (own_s _ (markB_size (by omega))) (own_pair (own_i _ (i64_of (kk + 1) (by omega))) (own_pair (own_i _ (i64_of (kk + 1 + 1) (by omega))) (own_s _ (markB_size (by omega))) (fun x hx hy => (List.nodup_append.1 nd1).2.2 x hx x hy rfl)) (fun x hx hy => (List.nodup_append.1 nd2).2.2 x hx x hy rfl)) (fun x hx hy => (List.nodup_append.1 nd3).2.2 x hx x hy rfl)) ?_
          intro q u hq
          match q, hq with
          | 0, hq => obtain rfl := (Option.some.inj hq); simp [go_sem, *]
          | 1, hq => obtain rfl := (Option.some.inj hq); simp [go_sem, *]
          | 2, hq => obtain rfl := (Option.some.inj hq); simp [go_sem, *]
          | 3, hq => obtain rfl := (Option.some.inj hq); simp [go_sem, *]
          | q + 4, hq => simp at hq
        · exact HC.out.trans (((by repeat (first | (with_reducible exact HU2.out) | (with_reducible refine Upd.setCell ?_ _ (by omega) _))) : Upd g (j * 4) 4 ([] ++ ([] ++ ([] ++ []))) wr _).chg.mono (fun b hb => (List.mem_cons.1 hb).elim (fun e => e ▸ hgL) (HSUB.out b)))
    · obtain rfl : j = l.length := by omega
      have how := HW.out; have hch := HC.out
      rw [List.take_length, List.drop_length, List.append_nil] at how
      rw [List.take_length] at *
      have HW2 := Lib.hid how; have HC2 := Lib.hid hch; clear how hch
      go_wp2
      go_ret
      exact ⟨rfl, HW2.out, HC2.out⟩
set_option maxRecDepth 100000 in
set_option maxHeartbeats 1000000 in
theorem markFileS_c (w : World) (v : Value) (l : List FileD) (L : List Nat) (K : Int) (k : Nat) (hK : K = k) (h1 : 1 ≤ k) (hk : (markS l k).2 ≤ 4611686018427387904) (ho : own L w [v] l) : Calls Tryz.prog 34 #[v, .int .i64 K] w (MarkR L w [v] (markS l k)) := by
  subst hK
  obtain ⟨oa, cap, rfl⟩ := slice_of_own ho
  have hlm : l.length ≤ 9223372036854775807 := len_of_own ho
  have HO := Lib.hid ho; clear ho
  go_enter Tryz.func34, Tryz.ntmps34
  go_wp2
  go_loopw [1, 5] (fun q i wr => ∃ j : Nat, j ≤ l.length ∧ i = .int .i64 j ∧ q = .int .i64 ((markS (l.take j) k).2 : Nat) ∧ Hid (own L wr [.slice oa l.length cap] ((markS (l.take j) k).1 ++ l.drop j)) ∧ Hid (Chg L w wr)) (fun _ i _ => l.length - (intOf i).toNat)
  case atStart => exact ⟨0, Nat.zero_le _, rfl, rfl, HO.out, Chg.refl _ _⟩
  case round =>
    obtain ⟨j, hj, rfl, rfl, HW, HC⟩ := hrel
    by_cases hjl : j < l.length
    · have hx := List.getElem?_eq_getElem hjl
      have hsp := mark_split l k j _ hx
      have hle := Nat.le_trans (mark_take_le l k j _ hx) hk
      have hdr : l.drop j = l[j] :: l.drop (j + 1) := List.drop_eq_getElem_cons hjl
      have hxl : (markS (l.take j) k).1.length = j := by rw [markS_length, List.length_take]; omega
      have hkk : k ≤ (markS (l.take j) k).2 := markS_le _ _
      have how := HW.out
      rw [hdr] at how
      clear hx hdr HW
      generalize (markS (l.take j) k).2 = kk at *
      generalize (markS (l.take j) k).1 = xs at *
      generalize l[j] = x at *
      obtain ⟨g, cap', cur, e, Li, hv, hg, hroom, hgLi, hgL, hsub, hoe, hshut⟩ := own_open how
      simp only [Value.slice.injEq] at hv
      obtain ⟨rfl, hq0, rfl⟩ := hv
      clear hq0
      rw [hxl] at hroom hoe hshut
      clear hxl
      rw [show GoD.n FileD = 5 from rfl] at hroom hoe hshut
      generalize hce : (cur.toList.drop (j * 5)).take 5 = ce at *
      obtain ⟨v0, v1, v2, v3, v4⟩ := x
      obtain ⟨nd4, _, _, _, _, rfl, rfl, ⟨rfl, rfl, h0⟩, ⟨nd3, _, _, _, _, rfl, rfl, ⟨rfl, rfl, h1⟩, ⟨nd2, _, _, _, _, rfl, rfl, ⟨rfl, rfl⟩, ⟨nd1, _, _, _, SL4, rfl, rfl, ⟨rfl, rfl, h3⟩, so4⟩⟩⟩⟩ := hoe
      obtain ⟨sv4, rfl⟩ := len1 (show _ = 1 from GoD.rd_len (GoD.own_rd so4))
      obtain ⟨oa4, cp4, rfl⟩ := slice_of_own so4
      have p0 : wr.cell? ⟨g, j * 5, none⟩ = some _ := cells_at hg hce 0 _ rfl
      have p1 : wr.cell? ⟨g, j * 5 + 1, none⟩ = some _ := cells_at hg hce 1 _ rfl
      have p2 : wr.cell? ⟨g, j * 5 + 2, none⟩ = some _ := cells_at hg hce 2 _ rfl
      have p3 : wr.cell? ⟨g, j * 5 + 3, none⟩ = some _ := cells_at hg hce 3 _ rfl
      have p4 : wr.cell? ⟨g, j * 5 + 4, none⟩ = some _ := cells_at hg hce 4 _ rfl
      have fz := free_of_heap hg
      have hglt := block_lt_of_heap hg
      clear hce hg how
      have HSH := Lib.hid hshut; clear hshut
      have HSP := Lib.hid hsp; clear hsp
      have hle : (markS v4 (kk + 1 + 1 + 1 + 1)).2 ≤ 4611686018427387904 := hle
      have hb2 := mod3_eq (kk + 1 + 1) _ (show ((kk : Int) + 1 + 1 : Int) = ((kk + 1 + 1 : Nat) : Int) by omega)
      have hm4 : kk + 1 + 1 + 1 + 1 ≤ (markS v4 (kk + 1 + 1 + 1 + 1)).2 := markS_le _ _
      have HSO4 := Lib.hid so4; clear so4
      have HSUB := Lib.hid hsub; clear hsub
      have HU0 : Hid (Upd g (j * 5) 5 ([] ++ ([] ++ ([] ++ ([] ++ SL4)))) wr wr) := Upd.refl _ _ _ _ _
      have tok1 : True := trivial
      go_wp2_with (first | (go_at_call 70; have tk := tok1; clear tok1; refine call_mark (markAttrS_c _ _ v4 SL4 _ (kk + 1 + 1 + 1 + 1) (by omega) (by omega) (by omega) (by repeat (first | (with_reducible exact HSO4.out) | (refine own_setCell ?_ (fun hm => hgLi (List.mem_append.2 (.inr (List.mem_append.2 (.inr (List.mem_append.2 (.inr (List.mem_append.2 (.inr hm)))))))))) ))) ?_; intro w1 ho1 hch hz; have c1 := fun o => hch.cell (b := g) (by go_size) (fun hm => hgLi (List.mem_append.2 (.inr (List.mem_append.2 (.inr (List.mem_append.2 (.inr (List.mem_append.2 (.inr hm))))))))) o; have f1 := fun o => hch.frozen (b := g) (by go_size) (fun hm => hgLi (List.mem_append.2 (.inr (List.mem_append.2 (.inr (List.mem_append.2 (.inr (List.mem_append.2 (.inr hm))))))))) o; have HU1 : Hid (Upd g (j * 5) 5 ([] ++ ([] ++ ([] ++ ([] ++ SL4)))) wr w1) := Upd.mark (by repeat (first | (with_reducible exact HU0.out) | (with_reducible refine Upd.setCell ?_ _ (by omega) _))) hch (fun b hm => (List.mem_append.2 (.inr (List.mem_append.2 (.inr (List.mem_append.2 (.inr (List.mem_append.2 (.inr hm))))))))) (fun hm => hgLi (List.mem_append.2 (.inr (List.mem_append.2 (.inr (List.mem_append.2 (.inr (List.mem_append.2 (.inr hm))))))))) (by go_size); (repeat (first | rewrite [World.size_alloc] at hz | rewrite [World.size_setCell] at hz | rewrite [World.size_drew] at hz)); have HB1 := Lib.hid hch; clear hch; have HM1 := Lib.hid ho1; clear ho1))
      go_roundw
      case measure => simp [intOf]; omega
      case rel =>
        refine ⟨j + 1, by omega, by go_num, ?_, ?_, ?_⟩
        · show Value.int _ _ = _
          rw [HSP.out]
          show Value.int .i64 _ = .int .i64 (((markS v4 (kk + 1 + 1 + 1 + 1)).2 : Nat) : Int)
          first | go_num | (congr 1 <;> omega)
        · show own _ _ _ _
          rw [HSP.out]
          simp only [List.append_assoc, List.singleton_append]
          refine HSH.out _ [.int .i64 ((kk : Nat) : Int), .int .i64 ((kk + 1 : Nat) : Int), .bool ((kk + 1 + 1) % 3 == 0), .int .i64 ((kk + 1 + 1 + 1 : Nat) : Int), .slice oa4 v4.length cp4] _ (by repeat (first | (with_reducible exact HU1.out) | (with_reducible refine Upd.setCell ?_ _ (by omega) _))) (own_pair (own_i _ (i64_of (kk) (by omega))) (own_pair (own_i _ (i64_of (kk + 1) (by omega))) (own_pair (own_b _ _) (own_pair (own_i _ (i64_of (kk + 1 + 1 + 1) (by omega))) (show own SL4 _ [.slice oa4 v4.length cp4] (markS v4 (kk + 1 + 1 + 1 + 1)).1 by repeat (first | (with_reducible exact HM1.out) | (refine own_setCell ?_ (fun hm => hgLi (List.mem_append.2 (.inr (List.mem_append.2 (.inr (List.mem_append.2 (.inr (List.mem_append.2 (.inr hm)))))))))) )) (fun x hx hy => (List.nodup_append.1 nd1).2.2 x hx x hy rfl)) (fun x hx hy => (List.nodup_append.1 nd2).2.2 x hx x hy rfl)) (fun x hx hy => (List.nodup_append.1 nd3).2.2 x hx x hy rfl)) (fun x hx hy => (List.nodup_append.1 nd4).2.2 x hx x hy rfl)) ?_
          intro q u hq
          match q, hq with
          | 0, hq => obtain rfl := (Option.some.inj hq); simp [go_sem, *]
          | 1, hq => obtain rfl := (Option.some.inj hq); simp [go_sem, *]
          | 2, hq => obtain rfl := (Option.some.inj hq); simp [go_sem, *]
          | 3, hq => obtain rfl := (Option.some.inj hq); simp [go_sem, *]
          | 4, hq => obtain rfl := (Option.some.inj hq); simp [go_sem, *]
          | q + 5, hq => simp at hq
        · exact HC.out.trans (((by repeat (first | (with_reducible exact HU1.out) | (with_reducible refine Upd.setCell ?_ _ (by omega) _))) : Upd g (j * 5) 5 ([] ++ ([] ++ ([] ++ ([] ++ SL4)))) wr _).chg.mono (fun b hb => (List.mem_cons.1 hb).elim (fun e => e ▸ hgL) (HSUB.out b)))
    · obtain rfl : j = l.length := by omega
      have how := HW.out; have hch := HC.out
      rw [List.take_length, List.drop_length, List.append_nil] at how
      rw [List.take_length] at *
      have HW2 := Lib.hid how; have HC2 := Lib.hid hch; clear how hch
      go_wp2
      go_ret
      exact ⟨rfl, HW2.out, HC2.out⟩
set_option maxRecDepth 100000 in
set_option maxHeartbeats 1000000 in
theorem markFieldS_c (w : World) (v : Value) (l : List FieldD) (L : List Nat) (K : Int) (k : Nat) (hK : K = k) (h1 : 1 ≤ k) (hk : (markS l k).2 ≤ 4611686018427387904) (ho : own L w [v] l) : Calls Tryz.prog 33 #[v, .int .i64 K] w (MarkR L w [v] (markS l k)) := by
  subst hK
  obtain ⟨oa, cap, rfl⟩ := slice_of_own ho
  have hlm : l.length ≤ 9223372036854775807 := len_of_own ho
  have HO := Lib.hid ho; clear ho
  go_enter Tryz.func33, Tryz.ntmps33
  go_wp2
  go_loopw [1, 5] (fun q i wr => ∃ j : Nat, j ≤ l.length ∧ i = .int .i64 j ∧ q = .int .i64 ((markS (l.take j) k).2 : Nat) ∧ Hid (own L wr [.slice oa l.length cap] ((markS (l.take j) k).1 ++ l.drop j)) ∧ Hid (Chg L w wr)) (fun _ i _ => l.length - (intOf i).toNat)
  case atStart => exact ⟨0, Nat.zero_le _, rfl, rfl, HO.out, Chg.refl _ _⟩
  case round =>
    obtain ⟨j, hj, rfl, rfl, HW, HC⟩ := hrel
    by_cases hjl : j < l.length
    · have hx := List.getElem?_eq_getElem hjl
      have hsp := mark_split l k j _ hx
      have hle := Nat.le_trans (mark_take_le l k j _ hx) hk
      have hdr : l.drop j = l[j] :: l.drop (j + 1) := List.drop_eq_getElem_cons hjl
      have hxl : (markS (l.take j) k).1.length = j := by rw [markS_length, List.length_take]; omega
      have hkk : k ≤ (markS (l.take j) k).2 := markS_le _ _
      have how := HW.out
      rw [hdr] at how
      clear hx hdr HW
      generalize (markS (l.take j) k).2 = kk at *
      generalize (markS (l.take j) k).1 = xs at *
      generalize l[j] = x at *
      obtain ⟨g, cap', cur, e, Li, hv, hg, hroom, hgLi, hgL, hsub, hoe, hshut⟩ := own_open how
      simp only [Value.slice.injEq] at hv
      obtain ⟨rfl, hq0, rfl⟩ := hv
      clear hq0
      rw [hxl] at hroom hoe hshut
      clear hxl
      rw [show GoD.n FieldD = 2 from rfl] at hroom hoe hshut
      generalize hce : (cur.toList.drop (j * 2)).take 2 = ce at *
      obtain ⟨v0, v1⟩ := x
      obtain ⟨nd1, _, _, _, _, rfl, rfl, ⟨rfl, rfl, h0⟩, ⟨rfl, rfl, h1⟩⟩ := hoe
      have p0 : wr.cell? ⟨g, j * 2, none⟩ = some _ := cells_at hg hce 0 _ rfl
      have p1 : wr.cell? ⟨g, j * 2 + 1, none⟩ = some _ := cells_at hg hce 1 _ rfl
      have fz := free_of_heap hg
      have hglt := block_lt_of_heap hg
      clear hce hg how
      have HSH := Lib.hid hshut; clear hshut
      have HSP := Lib.hid hsp; clear hsp
      have hle : kk + 1 + 1 ≤ 4611686018427387904 := hle
      have HSUB := Lib.hid hsub; clear hsub
      have HU0 : Hid (Upd g (j * 2) 2 ([] ++ []) wr wr) := Upd.refl _ _ _ _ _
      have tok1 : True := trivial
      go_wp2_with (first | (go_at_call 69; have tk := tok1; clear tok1; refine (markText_c _ _ (kk) (by omega) (by omega) (by omega)).mono ?_; rintro e w1 ⟨rfl, hb⟩; have hz := hb.size; have c1 := fun o => bcell hb g o (by go_size); have f1 := fun o => bfroz hb g o (by go_size); have HU1 : Hid (Upd g (j * 2) 2 ([] ++ []) wr w1) := Upd.below (by repeat (first | (with_reducible exact HU0.out) | (with_reducible refine Upd.setCell ?_ _ (by omega) _))) hb (by go_size); (repeat (first | rewrite [World.size_alloc] at hz | rewrite [World.size_setCell] at hz | rewrite [World.size_drew] at hz)); have HB1 := Lib.hid hb; clear hb))
      go_roundw
      case measure => simp [intOf]; omega
      case rel =>
        refine ⟨j + 1, by omega, by go_num, ?_, ?_, ?_⟩
        · show Value.int _ _ = _
          rw [HSP.out]
          show Value.int .i64 _ = .int .i64 ((kk + 1 + 1 : Nat) : Int)
          first | go_num | (congr 1 <;> omega)
        · show own _ _ _ _
          rw [HSP.out]
          simp only [List.append_assoc, List.singleton_append]
          refine HSH.out _ [.string (markB (kk)), .int .i64 ((kk + 1 : Nat) : Int)] _ (by repeat (first | (with_reducible exact HU1.out) | (with_reducible refine Upd.setCell ?_ _ (by omega) _))) (own_pair (own_s _ (markB_size (by omega))) (own_i _ (i64_of (kk + 1) (by omega))) (fun x hx hy => (List.nodup_append.1 nd1).2.2 x hx x hy rfl)) ?_
          intro q u hq
          match q, hq with
          | 0, hq => obtain rfl := (Option.some.inj hq); simp [go_sem, *]
          | 1, hq => obtain rfl := (Option.some.inj hq); simp [go_sem, *]
          | q + 2, hq => simp at hq
        · exact HC.out.trans (((by repeat (first | (with_reducible exact HU1.out) | (with_reducible refine Upd.setCell ?_ _ (by omega) _))) : Upd g (j * 2) 2 ([] ++ []) wr _).chg.mono (fun b hb => (List.mem_cons.1 hb).elim (fun e => e ▸ hgL) (HSUB.out b)))
    · obtain rfl : j = l.length := by omega
      have how := HW.out; have hch := HC.out
      rw [List.take_length, List.drop_length, List.append_nil] at how
      rw [List.take_length] at *
      have HW2 := Lib.hid how; have HC2 := Lib.hid hch; clear how hch
      go_wp2
      go_ret
      exact ⟨rfl, HW2.out, HC2.out⟩
set_option maxRecDepth 100000 in
set_option maxHeartbeats 1000000 in
theorem markStore_c (w : World) (ca : List Value) (a : StoreD) (L : List Nat) (K : Int) (k : Nat) (hK : K = k) (h1 : 1 ≤ k) (hk : (GoD.markT a k).2 ≤ 4611686018427387904) (ho : own L w ca a) : Calls Tryz.prog 10 #[.agg ca.toArray, .int .i64 K] w (MarkR L w ca (GoD.markT a k)) := by
  subst hK
  obtain ⟨b1, b2, b3⟩ := a
  have hk : (markS b2 ((markS b1 (k)).2)).2 ≤ 4611686018427387904 := hk
  have hlt := GoD.own_lt ho
  obtain ⟨nd0, _, _, SL0, _, rfl, rfl, so0, ⟨nd1, _, _, SL1, _, rfl, rfl, so1, ⟨rfl, rfl, h2⟩⟩⟩ := ho
  obtain ⟨ax0_0, rfl⟩ := len1 (show _ = 1 from GoD.rd_len (GoD.own_rd so0))
  have HSO0 := Lib.hid so0; clear so0
  have hm0 : k ≤ (markS b1 (k)).2 := markS_le _ _
  obtain ⟨ax1_0, rfl⟩ := len1 (show _ = 1 from GoD.rd_len (GoD.own_rd so1))
  have HSO1 := Lib.hid so1; clear so1
  have hm1 : (markS b1 (k)).2 ≤ (markS b2 ((markS b1 (k)).2)).2 := markS_le _ _
  show Calls Tryz.prog 10 #[.agg #[ax0_0, ax1_0, .int .i64 b3], .int .i64 (k : Int)] w (MarkR (SL0 ++ (SL1 ++ [])) w [ax0_0, ax1_0, .int .i64 b3] (GoD.markT ((b1, b2, b3) : StoreD) k))
  have HLT := Lib.hid hlt; clear hlt
  have tok1 : True := trivial
  have tok2 : True := trivial
  go_enter Tryz.func10, Tryz.ntmps10
  go_wp2_with (first | (go_at_call 33; have tk := tok1; clear tok1; refine call_mark (markFieldS_c _ ax0_0 b1 SL0 _ (k) (by omega) (by omega) (show (markS b1 (k)).2 ≤ 4611686018427387904 by omega) (by repeat (first | (with_reducible exact HSO0.out) | (refine own_alloc ?_) ))) ?_; intro w1 ho1 hch hz; have c1 := fun o => hch.cell (b := w.heap.size) (by go_size) (fun hm => by have := HLT.out _ (List.mem_append.2 (.inl hm)); omega) o; (repeat (first | rewrite [World.size_alloc] at hz | rewrite [World.size_setCell] at hz | rewrite [World.size_drew] at hz)); have HB1 := Lib.hid hch; clear hch; have HM1 := Lib.hid ho1; clear ho1) | (go_at_call 34; have tk := tok2; clear tok2; refine call_mark (markFileS_c _ ax1_0 b2 SL1 _ ((markS b1 (k)).2) (by omega) (by omega) (show (markS b2 ((markS b1 (k)).2)).2 ≤ 4611686018427387904 by omega) (by repeat (first | (with_reducible exact HSO1.out) | (refine own_alloc ?_) | (refine own_chg ?_ HB1.out (fun b hb1 hb2 => (List.nodup_append.1 nd0).2.2 _ hb2 _ (List.mem_append.2 (.inl hb1)) rfl))))) ?_; intro w2 ho2 hch hz; have c2 := fun o => hch.cell (b := w.heap.size) (by go_size) (fun hm => by have := HLT.out _ (List.mem_append.2 (.inr (List.mem_append.2 (.inl hm)))); omega) o; (repeat (first | rewrite [World.size_alloc] at hz | rewrite [World.size_setCell] at hz | rewrite [World.size_drew] at hz)); have HB2 := Lib.hid hch; clear hch; have HM2 := Lib.hid ho2; clear ho2))
  go_ret
  refine ⟨rfl, ?_, ?_⟩
  · show own (SL0 ++ (SL1 ++ [])) _ [ax0_0, ax1_0, .int .i64 b3] _
    exact (own_pair (show own SL0 _ [ax0_0] (markS b1 (k)).1 by repeat (first | (with_reducible exact HM1.out) | (refine own_alloc ?_) | (refine own_chg ?_ HB2.out (fun b hb1 hb2 => (List.nodup_append.1 nd0).2.2 _ hb1 _ (List.mem_append.2 (.inl hb2)) rfl)))) (own_pair (show own SL1 _ [ax1_0] (markS b2 ((markS b1 (k)).2)).1 by repeat (first | (with_reducible exact HM2.out) | (refine own_alloc ?_) )) (own_i _ h2) (fun x hx hy => (List.nodup_append.1 nd1).2.2 x hx x hy rfl)) (fun x hx hy => (List.nodup_append.1 nd0).2.2 x hx x hy rfl))
  · show Chg (SL0 ++ (SL1 ++ [])) w _
    exact ((Chg.of_below (show Below w.heap.size w _ by go_grown)).trans (HB1.out.mono (fun b hm => (List.mem_append.2 (.inl hm))))).trans (HB2.out.mono (fun b hm => (List.mem_append.2 (.inr (List.mem_append.2 (.inl hm))))))
set_option maxRecDepth 100000 in
set_option maxHeartbeats 1000000 in
theorem markIntS_c (w : World) (v : Value) (l : List Int) (L : List Nat) (K : Int) (k : Nat) (hK : K = k) (h1 : 1 ≤ k) (hk : (markS l k).2 ≤ 4611686018427387904) (ho : own L w [v] l) : Calls Tryz.prog 11 #[v, .int .i64 K] w (MarkR L w [v] (markS l k)) := by
  subst hK
  obtain ⟨oa, cap, rfl⟩ := slice_of_own ho
  have hlm : l.length ≤ 9223372036854775807 := len_of_own ho
  have HO := Lib.hid ho; clear ho
  go_enter Tryz.func11, Tryz.ntmps11
  go_wp2
  go_loopw [1, 5] (fun q i wr => ∃ j : Nat, j ≤ l.length ∧ i = .int .i64 j ∧ q = .int .i64 ((markS (l.take j) k).2 : Nat) ∧ Hid (own L wr [.slice oa l.length cap] ((markS (l.take j) k).1 ++ l.drop j)) ∧ Hid (Chg L w wr)) (fun _ i _ => l.length - (intOf i).toNat)
  case atStart => exact ⟨0, Nat.zero_le _, rfl, rfl, HO.out, Chg.refl _ _⟩
  case round =>
    obtain ⟨j, hj, rfl, rfl, HW, HC⟩ := hrel
    by_cases hjl : j < l.length
    · have hx := List.getElem?_eq_getElem hjl
      have hsp := mark_split l k j _ hx
      have hle := Nat.le_trans (mark_take_le l k j _ hx) hk
      have hdr : l.drop j = l[j] :: l.drop (j + 1) := List.drop_eq_getElem_cons hjl
      have hxl : (markS (l.take j) k).1.length = j := by rw [markS_length, List.length_take]; omega
      have hkk : k ≤ (markS (l.take j) k).2 := markS_le _ _
      have how := HW.out
      rw [hdr] at how
      clear hx hdr HW
      generalize (markS (l.take j) k).2 = kk at *
      generalize (markS (l.take j) k).1 = xs at *
      generalize l[j] = x at *
      obtain ⟨g, cap', cur, e, Li, hv, hg, hroom, hgLi, hgL, hsub, hoe, hshut⟩ := own_open how
      simp only [Value.slice.injEq] at hv
      obtain ⟨rfl, hq0, rfl⟩ := hv
      clear hq0
      rw [hxl] at hroom hoe hshut
      clear hxl
      rw [show GoD.n Int = 1 from rfl] at hroom hoe hshut
      rw [Nat.mul_one] at hoe hshut
      generalize hce : (cur.toList.drop j).take 1 = ce at *
      obtain ⟨rfl, rfl, hh⟩ := hoe
      have p0 : wr.cell? ⟨g, j, none⟩ = some _ := cells_at hg hce 0 _ rfl
      have fz := free_of_heap hg
      have hglt := block_lt_of_heap hg
      clear hce hg how
      have HSH := Lib.hid hshut; clear hshut
      have HSP := Lib.hid hsp; clear hsp
      have hle : kk + 1 ≤ 4611686018427387904 := hle
      have HU0 : Hid (Upd g j 1 [] wr wr) := Upd.refl _ _ _ _ _
      go_wp2
      go_roundw
      case measure => simp [intOf]; omega
      case rel =>
        refine ⟨j + 1, by omega, by go_num, ?_, ?_, ?_⟩
        · show Value.int _ _ = _
          rw [HSP.out]
          show Value.int .i64 _ = .int .i64 ((kk + 1 : Nat) : Int)
          first | go_num | (congr 1 <;> omega)
        · show own _ _ _ _
          rw [HSP.out]
          simp only [List.append_assoc, List.singleton_append]
          refine HSH.out _ [.int .i64 ((kk : Nat) : Int)] _ (by repeat (first | (with_reducible exact HU0.out) | (with_reducible refine Upd.setCell ?_ _ (by omega) _))) (own_i _ (i64_of (kk) (by omega))) ?_
          intro q u hq
          match q, hq with
          | 0, hq => obtain rfl := (Option.some.inj hq); simp [go_sem, *]
          | q + 1, hq => simp at hq
        · exact HC.out.trans (((by repeat (first | (with_reducible exact HU0.out) | (with_reducible refine Upd.setCell ?_ _ (by omega) _))) : Upd g j 1 [] wr _).chg.mono (fun b hb => (List.mem_cons.1 hb).elim (fun e => e ▸ hgL) (hsub b)))
    · obtain rfl : j = l.length := by omega
      have how := HW.out; have hch := HC.out
      rw [List.take_length, List.drop_length, List.append_nil] at how
      rw [List.take_length] at *
      have HW2 := Lib.hid how; have HC2 := Lib.hid hch; clear how hch
      go_wp2
      go_ret
      exact ⟨rfl, HW2.out, HC2.out⟩
end Go.Proofs.YtdakhddpcfimaaaGreatDoor
namespace Go.Proofs.YtdakhddpcfimaaaGreatDoor
open Go.RowKit
open GoD (rd own)
set_option maxRecDepth 100000 in
set_option maxHeartbeats 1000000 in
theorem heldIntS_c (w : World) (v : Value) (l l' : List Int) (K : Int) (k : Nat) (hK : K = k) (h1 : 1 ≤ k) (hk : (markS l k).2 ≤ 4611686018427387904) (hl' : l' = (markS l k).1) (ha : rd w [v] l') : Calls Tryz.prog 13 #[v, .int .i64 K] w (Ret w (.int .i64 ((markS l k).2 : Nat))) := by
  subst hK hl'
  obtain ⟨oa, cap, e1, hl, hm, hel⟩ := ha
  obtain rfl : v = _ := by simpa using e1
  clear e1
  have HE := Lib.hid hel; clear hel
  rw [markS_length] at hl ⊢
  unfold maxLen at hm
  have hlm : l.length ≤ 9223372036854775807 := by omega
  generalize hfin : (markS l k).2 = fin at *
  have HF := Lib.hid hfin; clear hfin
  go_enter Tryz.func13, Tryz.ntmps13
  go_wp2
  go_loopw [1, 5] (fun q i wr => ∃ j : Nat, j ≤ l.length ∧ i = .int .i64 j ∧ q = .int .i64 ((markS (l.take j) k).2 : Nat) ∧ Below w.heap.size w wr) (fun _ i _ => l.length - (intOf i).toNat)
  case atStart => exact ⟨0, Nat.zero_le _, rfl, rfl, Below.refl _ _⟩
  case round =>
    obtain ⟨j, hj, rfl, rfl, hB⟩ := hrel
    by_cases hjl : j < l.length
    · have hx := List.getElem?_eq_getElem hjl
      have hsp := mark_split l k j _ hx
      have hle := Nat.le_trans (mark_take_le l k j _ hx) (Nat.le_trans (Nat.le_of_eq HF.out) hk)
      have hkk : k ≤ (markS (l.take j) k).2 := markS_le _ _
      obtain ⟨eb, eo, ee, rfl, hcl, hcc, hxr⟩ := HE.out j _ (markS_get l k j _ hx)
      clear hx
      generalize (markS (l.take j) k).2 = kk at *
      generalize (markS (l.take j) k).1 = xs at *
      generalize l[j] = x at *
      have HSP : Hid (_ = (xs ++ [((((kk : Nat) : Int) : Int))], kk + 1)) := hsp
      clear hsp
      have hle : kk + 1 ≤ 4611686018427387904 := hle
      have hxr : rd w ee (((kk : Nat) : Int) : Int) := hxr
      obtain ⟨rfl, _⟩ := hxr
      have q0 : w.cell? ⟨eb, eo + j, none⟩ = some (.int .i64 ((kk : Nat) : Int)) := by have h0 := hcc 0 _ rfl; simp only [GoD.n, Nat.mul_one, Nat.add_zero] at h0; exact h0
      have HQ := Lib.hid (show True from trivial)
      have Q0 := Lib.hid q0; clear q0
      have p0_0 := (hB.cell (World.block_lt_of_cell? w _ Q0.out)).trans Q0.out
      clear hcc hcl
      have hz0 := hB.size
      go_wp2
      first
      | exact ⟨⟨j + 1, by omega, by go_num, by (show Value.int _ _ = _; rw [HSP.out]; try (show Value.int .i64 _ = .int .i64 ((kk + 1 : Nat) : Int); first | go_num | (congr 1 <;> omega))), hB⟩, by simp [intOf]; omega⟩
      | (go_roundw; (case measure => simp [intOf]; omega); (case rel => exact ⟨j + 1, by omega, by go_num, by (show Value.int _ _ = _; rw [HSP.out]; try (show Value.int .i64 _ = .int .i64 ((kk + 1 : Nat) : Int); first | go_num | (congr 1 <;> omega))), hB⟩))
    · obtain rfl : j = l.length := by omega
      have hf := HF.out
      rw [List.take_length] at *
      rw [hf] at *
      have HF2 := Lib.hid hf; clear hf
      go_wp2
      go_ret
      exact ⟨rfl, hB⟩
set_option maxRecDepth 100000 in
set_option maxHeartbeats 1000000 in
theorem heldAttrS_c (w : World) (v : Value) (l l' : List AttrD) (K : Int) (k : Nat) (hK : K = k) (h1 : 1 ≤ k) (hk : (markS l k).2 ≤ 4611686018427387904) (hl' : l' = (markS l k).1) (ha : rd w [v] l') : Calls Tryz.prog 71 #[v, .int .i64 K] w (Ret w (.int .i64 ((markS l k).2 : Nat))) := by
  subst hK hl'
  obtain ⟨oa, cap, e1, hl, hm, hel⟩ := ha
  obtain rfl : v = _ := by simpa using e1
  clear e1
  have HE := Lib.hid hel; clear hel
  rw [markS_length] at hl ⊢
  unfold maxLen at hm
  have hlm : l.length ≤ 9223372036854775807 := by omega
  generalize hfin : (markS l k).2 = fin at *
  have HF := Lib.hid hfin; clear hfin
  go_enter Tryz.func71, Tryz.ntmps71
  go_wp2
  go_loopw [1, 5] (fun q i wr => ∃ j : Nat, j ≤ l.length ∧ i = .int .i64 j ∧ q = .int .i64 ((markS (l.take j) k).2 : Nat) ∧ Below w.heap.size w wr) (fun _ i _ => l.length - (intOf i).toNat)
  case atStart => exact ⟨0, Nat.zero_le _, rfl, rfl, Below.refl _ _⟩
  case round =>
    obtain ⟨j, hj, rfl, rfl, hB⟩ := hrel
    by_cases hjl : j < l.length
    · have hx := List.getElem?_eq_getElem hjl
      have hsp := mark_split l k j _ hx
      have hle := Nat.le_trans (mark_take_le l k j _ hx) (Nat.le_trans (Nat.le_of_eq HF.out) hk)
      have hkk : k ≤ (markS (l.take j) k).2 := markS_le _ _
      obtain ⟨eb, eo, ee, rfl, hcl, hcc, hxr⟩ := HE.out j _ (markS_get l k j _ hx)
      clear hx
      generalize (markS (l.take j) k).2 = kk at *
      generalize (markS (l.take j) k).1 = xs at *
      generalize l[j] = x at *
      obtain ⟨v0, ⟨v1, v2, v3⟩⟩ := x
      have HSP : Hid (_ = (xs ++ [(((markB (kk), (((kk + 1 : Nat) : Int), ((kk + 1 + 1 : Nat) : Int), markB (kk + 1 + 1 + 1))) : AttrD))], kk + 1 + 1 + 1 + 1)) := hsp
      clear hsp
      have hle : kk + 1 + 1 + 1 + 1 ≤ 4611686018427387904 := hle
      have hxr : rd w ee ((markB (kk), (((kk + 1 : Nat) : Int), ((kk + 1 + 1 : Nat) : Int), markB (kk + 1 + 1 + 1))) : AttrD) := hxr
      obtain ⟨_, _, rfl, ⟨rfl, _⟩, ⟨_, _, rfl, ⟨rfl, _⟩, ⟨_, _, rfl, ⟨rfl, _⟩, ⟨rfl, _⟩⟩⟩⟩ := hxr
      have q0 : w.cell? ⟨eb, eo + j * 4, none⟩ = some _ := hcc 0 _ rfl
      have q1 : w.cell? ⟨eb, eo + j * 4 + 1, none⟩ = some _ := hcc 1 _ rfl
      have q2 : w.cell? ⟨eb, eo + j * 4 + 2, none⟩ = some _ := hcc 2 _ rfl
      have q3 : w.cell? ⟨eb, eo + j * 4 + 3, none⟩ = some _ := hcc 3 _ rfl
      have HQ := Lib.hid (show True from trivial)
      have Q0 := Lib.hid q0; clear q0
      have Q1 := Lib.hid q1; clear q1
      have Q2 := Lib.hid q2; clear q2
      have Q3 := Lib.hid q3; clear q3
      have p0_0 := (hB.cell (World.block_lt_of_cell? w _ Q0.out)).trans Q0.out
      have p0_1 := (hB.cell (World.block_lt_of_cell? w _ Q1.out)).trans Q1.out
      have p0_2 := (hB.cell (World.block_lt_of_cell? w _ Q2.out)).trans Q2.out
      have p0_3 := (hB.cell (World.block_lt_of_cell? w _ Q3.out)).trans Q3.out
      have r0_0 := fun d os => cell_regrown p0_0 d os
      have r0_1 := fun d os => cell_regrown p0_1 d os
      have r0_2 := fun d os => cell_regrown p0_2 d os
      have r0_3 := fun d os => cell_regrown p0_3 d os
      clear hcc hcl
      have hz0 := hB.size
      have tok1 : True := trivial
      have tok2 : True := trivial
      go_wp2_with (first | (with_reducible refine wp_region_quiet_below (by kernel_rfl) (by kernel_rfl) ?_; have tk := tok1; clear tok1; (repeat (quiet_step (exact Calls.regrown_of (markText_c _ _ (kk) (by omega) (by omega) (by omega))))); refine wpQuiet_nil ?_; intro _ hw'; obtain ⟨⟨dq, osq⟩, hw''⟩ := hw'; subst hw''; have hbq := below_regrown wr dq osq; generalize Go.Sort.grow (redrawn wr dq) osq = w1 at hbq ⊢; have hB1 := below_via hB hbq; have hz1 := hB1.size; clear hbq; have p1_0 := (hB1.cell (World.block_lt_of_cell? w _ Q0.out)).trans Q0.out; have p1_1 := (hB1.cell (World.block_lt_of_cell? w _ Q1.out)).trans Q1.out; have p1_2 := (hB1.cell (World.block_lt_of_cell? w _ Q2.out)).trans Q2.out; have p1_3 := (hB1.cell (World.block_lt_of_cell? w _ Q3.out)).trans Q3.out; have r1_0 := fun d os => cell_regrown p1_0 d os; have r1_1 := fun d os => cell_regrown p1_1 d os; have r1_2 := fun d os => cell_regrown p1_2 d os; have r1_3 := fun d os => cell_regrown p1_3 d os) | (with_reducible refine wp_region_quiet_below (by kernel_rfl) (by kernel_rfl) ?_; have tk := tok2; clear tok2; (repeat (quiet_step (exact Calls.regrown_of (markText_c _ _ (kk + 1 + 1 + 1) (by omega) (by omega) (by omega))))); refine wpQuiet_nil ?_; intro _ hw'; obtain ⟨⟨dq, osq⟩, hw''⟩ := hw'; subst hw''; have hbq := below_regrown w1 dq osq; generalize Go.Sort.grow (redrawn w1 dq) osq = w2 at hbq ⊢; have hB2 := below_via hB1 hbq; have hz2 := hB2.size; clear hbq; have p2_0 := (hB2.cell (World.block_lt_of_cell? w _ Q0.out)).trans Q0.out; have p2_1 := (hB2.cell (World.block_lt_of_cell? w _ Q1.out)).trans Q1.out; have p2_2 := (hB2.cell (World.block_lt_of_cell? w _ Q2.out)).trans Q2.out; have p2_3 := (hB2.cell (World.block_lt_of_cell? w _ Q3.out)).trans Q3.out; have r2_0 := fun d os => cell_regrown p2_0 d os; have r2_1 := fun d os => cell_regrown p2_1 d os; have r2_2 := fun d os => cell_regrown p2_2 d os; have r2_3 := fun d os => cell_regrown p2_3 d os))
      first
      | exact ⟨⟨j + 1, by omega, by go_num, by (show Value.int _ _ = _; rw [HSP.out]; try (show Value.int .i64 _ = .int .i64 ((kk + 1 + 1 + 1 + 1 : Nat) : Int); first | go_num | (congr 1 <;> omega))), hB2⟩, by simp [intOf]; omega⟩
      | (go_roundw; (case measure => simp [intOf]; omega); (case rel => exact ⟨j + 1, by omega, by go_num, by (show Value.int _ _ = _; rw [HSP.out]; try (show Value.int .i64 _ = .int .i64 ((kk + 1 + 1 + 1 + 1 : Nat) : Int); first | go_num | (congr 1 <;> omega))), hB2⟩))
    · obtain rfl : j = l.length := by omega
      have hf := HF.out
      rw [List.take_length] at *
      rw [hf] at *
      have HF2 := Lib.hid hf; clear hf
      go_wp2
      go_ret
      exact ⟨rfl, hB⟩
set_option maxRecDepth 100000 in
set_option maxHeartbeats 1000000 in
theorem heldFileS_c (w : World) (v : Value) (l l' : List FileD) (K : Int) (k : Nat) (hK : K = k) (h1 : 1 ≤ k) (hk : (markS l k).2 ≤ 4611686018427387904) (hl' : l' = (markS l k).1) (ha : rd w [v] l') : Calls Tryz.prog 36 #[v, .int .i64 K] w (Ret w (.int .i64 ((markS l k).2 : Nat))) := by
  subst hK hl'
  obtain ⟨oa, cap, e1, hl, hm, hel⟩ := ha
  obtain rfl : v = _ := by simpa using e1
  clear e1
  have HE := Lib.hid hel; clear hel
  rw [markS_length] at hl ⊢
  unfold maxLen at hm
  have hlm : l.length ≤ 9223372036854775807 := by omega
  generalize hfin : (markS l k).2 = fin at *
  have HF := Lib.hid hfin; clear hfin
  go_enter Tryz.func36, Tryz.ntmps36
  go_wp2
  go_loopw [1, 5] (fun q i wr => ∃ j : Nat, j ≤ l.length ∧ i = .int .i64 j ∧ q = .int .i64 ((markS (l.take j) k).2 : Nat) ∧ Below w.heap.size w wr) (fun _ i _ => l.length - (intOf i).toNat)
  case atStart => exact ⟨0, Nat.zero_le _, rfl, rfl, Below.refl _ _⟩
  case round =>
    obtain ⟨j, hj, rfl, rfl, hB⟩ := hrel
    by_cases hjl : j < l.length
    · have hx := List.getElem?_eq_getElem hjl
      have hsp := mark_split l k j _ hx
      have hle := Nat.le_trans (mark_take_le l k j _ hx) (Nat.le_trans (Nat.le_of_eq HF.out) hk)
      have hkk : k ≤ (markS (l.take j) k).2 := markS_le _ _
      obtain ⟨eb, eo, ee, rfl, hcl, hcc, hxr⟩ := HE.out j _ (markS_get l k j _ hx)
      clear hx
      generalize (markS (l.take j) k).2 = kk at *
      generalize (markS (l.take j) k).1 = xs at *
      generalize l[j] = x at *
      obtain ⟨v0, v1, v2, v3, v4⟩ := x
      have HSP : Hid (_ = (xs ++ [(((((kk : Nat) : Int), ((kk + 1 : Nat) : Int), ((kk + 1 + 1) % 3 == 0), ((kk + 1 + 1 + 1 : Nat) : Int), (markS v4 (kk + 1 + 1 + 1 + 1)).1) : FileD))], (markS v4 (kk + 1 + 1 + 1 + 1)).2)) := hsp
      clear hsp
      have hle : (markS v4 (kk + 1 + 1 + 1 + 1)).2 ≤ 4611686018427387904 := hle
      have hxr : rd w ee ((((kk : Nat) : Int), ((kk + 1 : Nat) : Int), ((kk + 1 + 1) % 3 == 0), ((kk + 1 + 1 + 1 : Nat) : Int), (markS v4 (kk + 1 + 1 + 1 + 1)).1) : FileD) := hxr
      obtain ⟨_, _, rfl, ⟨rfl, _⟩, ⟨_, _, rfl, ⟨rfl, _⟩, ⟨_, _, rfl, rfl, ⟨_, _, rfl, ⟨rfl, _⟩, rh4⟩⟩⟩⟩ := hxr
      obtain ⟨rv4, rfl⟩ := len1 (show _ = 1 from GoD.rd_len rh4)
      obtain ⟨oa4, cp4, rfl⟩ := slice_of_rd rh4
      simp only [markS_length] at hcc rh4
      have hb2 := mod3_eq (kk + 1 + 1) _ (show ((kk : Int) + 1 + 1 : Int) = ((kk + 1 + 1 : Nat) : Int) by omega)
      have hm4 : kk + 1 + 1 + 1 + 1 ≤ (markS v4 (kk + 1 + 1 + 1 + 1)).2 := markS_le _ _
      have HR4 := Lib.hid rh4; clear rh4
      have q0 : w.cell? ⟨eb, eo + j * 5, none⟩ = some _ := hcc 0 _ rfl
      have q1 : w.cell? ⟨eb, eo + j * 5 + 1, none⟩ = some _ := hcc 1 _ rfl
      have q2 : w.cell? ⟨eb, eo + j * 5 + 2, none⟩ = some _ := hcc 2 _ rfl
      have q3 : w.cell? ⟨eb, eo + j * 5 + 3, none⟩ = some _ := hcc 3 _ rfl
      have q4 : w.cell? ⟨eb, eo + j * 5 + 4, none⟩ = some _ := hcc 4 _ rfl
      have HQ := Lib.hid (show True from trivial)
      have Q0 := Lib.hid q0; clear q0
      have Q1 := Lib.hid q1; clear q1
      have Q2 := Lib.hid q2; clear q2
      have Q3 := Lib.hid q3; clear q3
      have Q4 := Lib.hid q4; clear q4
      have p0_0 := (hB.cell (World.block_lt_of_cell? w _ Q0.out)).trans Q0.out
      have p0_1 := (hB.cell (World.block_lt_of_cell? w _ Q1.out)).trans Q1.out
      have p0_2 := (hB.cell (World.block_lt_of_cell? w _ Q2.out)).trans Q2.out
      have p0_3 := (hB.cell (World.block_lt_of_cell? w _ Q3.out)).trans Q3.out
      have p0_4 := (hB.cell (World.block_lt_of_cell? w _ Q4.out)).trans Q4.out
      clear hcc hcl
      have hz0 := hB.size
      have tok1 : True := trivial
      go_wp2_with (first | (go_at_call 71; have tk := tok1; clear tok1; refine call_ret (w := w) (heldAttrS_c _ _ v4 _ _ (kk + 1 + 1 + 1 + 1) (by omega) (by omega) (by omega) rfl (rd_below HR4.out hB)) hB ?_; intro w1 hB1 hbq hz1 hz2; clear hbq hz2; have p1_0 := (hB1.cell (World.block_lt_of_cell? w _ Q0.out)).trans Q0.out; have p1_1 := (hB1.cell (World.block_lt_of_cell? w _ Q1.out)).trans Q1.out; have p1_2 := (hB1.cell (World.block_lt_of_cell? w _ Q2.out)).trans Q2.out; have p1_3 := (hB1.cell (World.block_lt_of_cell? w _ Q3.out)).trans Q3.out; have p1_4 := (hB1.cell (World.block_lt_of_cell? w _ Q4.out)).trans Q4.out))
      first
      | exact ⟨⟨j + 1, by omega, by go_num, by (show Value.int _ _ = _; rw [HSP.out]; try (show Value.int .i64 _ = .int .i64 (((markS v4 (kk + 1 + 1 + 1 + 1)).2 : Nat) : Int); first | go_num | (congr 1 <;> omega))), hB1⟩, by simp [intOf]; omega⟩
      | (go_roundw; (case measure => simp [intOf]; omega); (case rel => exact ⟨j + 1, by omega, by go_num, by (show Value.int _ _ = _; rw [HSP.out]; try (show Value.int .i64 _ = .int .i64 (((markS v4 (kk + 1 + 1 + 1 + 1)).2 : Nat) : Int); first | go_num | (congr 1 <;> omega))), hB1⟩))
    · obtain rfl : j = l.length := by omega
      have hf := HF.out
      rw [List.take_length] at *
      rw [hf] at *
      have HF2 := Lib.hid hf; clear hf
      go_wp2
      go_ret
      exact ⟨rfl, hB⟩
set_option maxRecDepth 100000 in
set_option maxHeartbeats 1000000 in
theorem heldFieldS_c (w : World) (v : Value) (l l' : List FieldD) (K : Int) (k : Nat) (hK : K = k) (h1 : 1 ≤ k) (hk : (markS l k).2 ≤ 4611686018427387904) (hl' : l' = (markS l k).1) (ha : rd w [v] l') : Calls Tryz.prog 35 #[v, .int .i64 K] w (Ret w (.int .i64 ((markS l k).2 : Nat))) := by
  subst hK hl'
  obtain ⟨oa, cap, e1, hl, hm, hel⟩ := ha
  obtain rfl : v = _ := by simpa using e1
  clear e1
  have HE := Lib.hid hel; clear hel
  rw [markS_length] at hl ⊢
  unfold maxLen at hm
  have hlm : l.length ≤ 9223372036854775807 := by omega
  generalize hfin : (markS l k).2 = fin at *
  have HF := Lib.hid hfin; clear hfin
  go_enter Tryz.func35, Tryz.ntmps35
  go_wp2
  go_loopw [1, 5] (fun q i wr => ∃ j : Nat, j ≤ l.length ∧ i = .int .i64 j ∧ q = .int .i64 ((markS (l.take j) k).2 : Nat) ∧ Below w.heap.size w wr) (fun _ i _ => l.length - (intOf i).toNat)
  case atStart => exact ⟨0, Nat.zero_le _, rfl, rfl, Below.refl _ _⟩
  case round =>
    obtain ⟨j, hj, rfl, rfl, hB⟩ := hrel
    by_cases hjl : j < l.length
    · have hx := List.getElem?_eq_getElem hjl
      have hsp := mark_split l k j _ hx
      have hle := Nat.le_trans (mark_take_le l k j _ hx) (Nat.le_trans (Nat.le_of_eq HF.out) hk)
      have hkk : k ≤ (markS (l.take j) k).2 := markS_le _ _
      obtain ⟨eb, eo, ee, rfl, hcl, hcc, hxr⟩ := HE.out j _ (markS_get l k j _ hx)
      clear hx
      generalize (markS (l.take j) k).2 = kk at *
      generalize (markS (l.take j) k).1 = xs at *
      generalize l[j] = x at *
      obtain ⟨v0, v1⟩ := x
      have HSP : Hid (_ = (xs ++ [(((markB (kk), ((kk + 1 : Nat) : Int)) : FieldD))], kk + 1 + 1)) := hsp
      clear hsp
      have hle : kk + 1 + 1 ≤ 4611686018427387904 := hle
      have hxr : rd w ee ((markB (kk), ((kk + 1 : Nat) : Int)) : FieldD) := hxr
      obtain ⟨_, _, rfl, ⟨rfl, _⟩, ⟨rfl, _⟩⟩ := hxr
      have q0 : w.cell? ⟨eb, eo + j * 2, none⟩ = some _ := hcc 0 _ rfl
      have q1 : w.cell? ⟨eb, eo + j * 2 + 1, none⟩ = some _ := hcc 1 _ rfl
      have HQ := Lib.hid (show True from trivial)
      have Q0 := Lib.hid q0; clear q0
      have Q1 := Lib.hid q1; clear q1
      have p0_0 := (hB.cell (World.block_lt_of_cell? w _ Q0.out)).trans Q0.out
      have p0_1 := (hB.cell (World.block_lt_of_cell? w _ Q1.out)).trans Q1.out
      have r0_0 := fun d os => cell_regrown p0_0 d os
      have r0_1 := fun d os => cell_regrown p0_1 d os
      clear hcc hcl
      have hz0 := hB.size
      have tok1 : True := trivial
      go_wp2_with (first | (with_reducible refine wp_region_quiet_below (by kernel_rfl) (by kernel_rfl) ?_; have tk := tok1; clear tok1; (repeat (quiet_step (exact Calls.regrown_of (markText_c _ _ (kk) (by omega) (by omega) (by omega))))); refine wpQuiet_nil ?_; intro _ hw'; obtain ⟨⟨dq, osq⟩, hw''⟩ := hw'; subst hw''; have hbq := below_regrown wr dq osq; generalize Go.Sort.grow (redrawn wr dq) osq = w1 at hbq ⊢; have hB1 := below_via hB hbq; have hz1 := hB1.size; clear hbq; have p1_0 := (hB1.cell (World.block_lt_of_cell? w _ Q0.out)).trans Q0.out; have p1_1 := (hB1.cell (World.block_lt_of_cell? w _ Q1.out)).trans Q1.out; have r1_0 := fun d os => cell_regrown p1_0 d os; have r1_1 := fun d os => cell_regrown p1_1 d os))
      first
      | exact ⟨⟨j + 1, by omega, by go_num, by (show Value.int _ _ = _; rw [HSP.out]; try (show Value.int .i64 _ = .int .i64 ((kk + 1 + 1 : Nat) : Int); first | go_num | (congr 1 <;> omega))), hB1⟩, by simp [intOf]; omega⟩
      | (go_roundw; (case measure => simp [intOf]; omega); (case rel => exact ⟨j + 1, by omega, by go_num, by (show Value.int _ _ = _; rw [HSP.out]; try (show Value.int .i64 _ = .int .i64 ((kk + 1 + 1 : Nat) : Int); first | go_num | (congr 1 <;> omega))), hB1⟩))
    · obtain rfl : j = l.length := by omega
      have hf := HF.out
      rw [List.take_length] at *
      rw [hf] at *
      have HF2 := Lib.hid hf; clear hf
      go_wp2
      go_ret
      exact ⟨rfl, hB⟩
set_option maxRecDepth 100000 in
set_option maxHeartbeats 1000000 in
theorem heldStore_c (w : World) (ca : List Value) (a a' : StoreD) (K : Int) (k : Nat) (hK : K = k) (h1 : 1 ≤ k) (hk : (GoD.markT a k).2 ≤ 4611686018427387904) (ha' : a' = (GoD.markT a k).1) (ha : rd w ca a') : Calls Tryz.prog 12 #[.agg ca.toArray, .int .i64 K] w (Ret w (.int .i64 ((GoD.markT a k).2 : Nat))) := by
  subst hK ha'
  obtain ⟨b1, b2, b3⟩ := a
  have hk : (markS b2 ((markS b1 (k)).2)).2 ≤ 4611686018427387904 := hk
  have ha : rd w ca ((markS b1 (k)).1, (markS b2 ((markS b1 (k)).2)).1, b3) := ha
  generalize hfin : (GoD.markT ((b1, b2, b3) : StoreD) k).2 = fin
  have hfin : (markS b2 ((markS b1 (k)).2)).2 = fin := hfin
  obtain ⟨_, _, rfl, ar1, _, _, rfl, ar2, ar3⟩ := ha
  obtain ⟨ax1_0, rfl⟩ := len1 (show _ = 1 from GoD.rd_len ar1)
  have HR1 := Lib.hid ar1; clear ar1
  have hm1 : k ≤ (markS b1 (k)).2 := markS_le _ _
  obtain ⟨ax2_0, rfl⟩ := len1 (show _ = 1 from GoD.rd_len ar2)
  have HR2 := Lib.hid ar2; clear ar2
  have hm2 : (markS b1 (k)).2 ≤ (markS b2 ((markS b1 (k)).2)).2 := markS_le _ _
  obtain ⟨rfl, ar3⟩ := ar3
  clear ar3
  dsimp only [List.cons_append, List.nil_append] at *
  have tok1 : True := trivial
  have tok2 : True := trivial
  have HF := Lib.hid hfin; clear hfin
  go_enter Tryz.func12, Tryz.ntmps12
  go_wp2_with (first | (go_at_call 35; have tk := tok1; clear tok1; refine call_ret (w := w) (heldFieldS_c _ ax1_0 b1 _ _ (k) (by omega) (by omega) (show (markS b1 (k)).2 ≤ 4611686018427387904 by omega) rfl (rd_below HR1.out (by go_grown))) (by go_grown) ?_; intro w1 hB hb hz hz2; (repeat (first | rewrite [World.size_alloc] at hz2 | rewrite [World.size_setCell] at hz2 | rewrite [World.size_drew] at hz2)); have c0 := fun o => bcell hb (w.heap.size) o (by go_size); clear hb) | (go_at_call 36; have tk := tok2; clear tok2; refine call_ret (w := w) (heldFileS_c _ ax2_0 b2 _ _ ((markS b1 (k)).2) (by omega) (by omega) (show (markS b2 ((markS b1 (k)).2)).2 ≤ 4611686018427387904 by omega) rfl (rd_below HR2.out (by go_grown))) (by go_grown) ?_; intro w2 hB hb hz hz2; (repeat (first | rewrite [World.size_alloc] at hz2 | rewrite [World.size_setCell] at hz2 | rewrite [World.size_drew] at hz2)); have c0 := fun o => bcell hb (w.heap.size) o (by go_size); clear hb))
  go_ret
  refine ⟨?_, by go_grown⟩
  rw [← HF.out]
  rfl
end Go.Proofs.YtdakhddpcfimaaaGreatDoor
namespace Go.Proofs.YtdakhddpcfimaaaGreatDoor
open Go.RowKit
open GoD (rd own)
set_option maxRecDepth 100000 in
set_option maxHeartbeats 1000000 in
theorem szField_c (w : World) (ca : List Value) (a : FieldD) (left : Int) (ha : rd w ca a) (h0 : 0 ≤ left) (h1 : left ≤ 1048576) : Calls Tryz.prog 37 #[.agg ca.toArray, .int .i64 left] w (RetSz w (GoD.size a) left) := by
  obtain ⟨a1, a2⟩ := a
  obtain ⟨ac1, at1, rfl, ar1, ar2⟩ := ha
  obtain ⟨rfl, ar1⟩ := ar1
  obtain ⟨rfl, ar2⟩ := ar2
  dsimp only [List.cons_append, List.nil_append] at *
  unfold maxLen at ar1
  have ar1 : a1.size ≤ 9223372036854775807 := by omega
  clear ar2
  have hsz : GoD.size (a1, a2) = (a1.size + 0) := rfl
  have HSZ := Lib.hid hsz; clear hsz
  go_enter Tryz.func37, Tryz.ntmps37
  go_wp2
  all_goals
    go_ret
    refine ⟨_, rfl, ?_, by go_grown⟩
    rw [HSZ.out]
    unfold szq
    (try unfold szq at *)
    go_light
    omega
set_option maxRecDepth 100000 in
set_option maxHeartbeats 1000000 in
theorem szFieldS_c (w : World) (v : Value) (l : List FieldD) (left : Int) (ha : rd w [v] l) (h0 : 0 ≤ left) (h1 : left ≤ 1048576) : Calls Tryz.prog 14 #[v, .int .i64 left] w (RetSz w (GoD.size l) left) := by
  obtain ⟨oa, cap, e1, hl, hm, hel⟩ := ha
  obtain rfl : v = _ := by simpa using e1
  clear e1
  have HE := Lib.hid hel; clear hel
  unfold maxLen at hm
  have hlm : l.length ≤ 9223372036854775807 := by omega
  have hsz : GoD.size l = l.length + (l.map GoD.size).sum := rfl
  have HSZ := Lib.hid hsz; clear hsz
  by_cases hneg : left - l.length < 0
  · go_enter Tryz.func14, Tryz.ntmps14
    go_wp2
    go_ret
    refine ⟨_, rfl, ?_, Below.refl _ _⟩
    rw [HSZ.out]
    unfold szq
    omega
  · go_enter Tryz.func14, Tryz.ntmps14
    go_wp2
    go_loopw [1, 5] (fun q i wr => ∃ (k : Nat) (r : Int), k ≤ l.length ∧ i = .int .i64 k ∧ q = .int .i64 r ∧ 0 ≤ r ∧ r ≤ 1048576 ∧ Hid (r = left - l.length - ((l.take k).map GoD.size).sum) ∧ Below w.heap.size w wr) (fun _ i _ => l.length - (intOf i).toNat)
    case atStart => exact ⟨0, _, Nat.zero_le _, rfl, rfl, by omega, by omega, by show _ = _; simp, Below.refl _ _⟩
    case round =>
      obtain ⟨k, r, hk, rfl, rfl, hr0, hr1, HR, hB⟩ := hrel
      by_cases hkl : k < l.length
      · have hx := List.getElem?_eq_getElem hkl
        obtain ⟨eb, eo, ee, rfl, hcl, hcc, hxr⟩ := HE.out k _ hx
        have HT := Lib.hid (sum_take hx)
        have HU := Lib.hid (sum_take_le hx)
        clear hx
        generalize l[k] = x at *
        obtain ⟨x0, x1, rfl⟩ := len2 (show _ = 2 from hcl)
        have p0 : wr.cell? ⟨eb, eo + k * 2, none⟩ = some x0 := (hB.cell (World.block_lt_of_cell? w _ (hcc 0 _ rfl))).trans (hcc 0 _ rfl)
        have p1 : wr.cell? ⟨eb, eo + k * 2 + 1, none⟩ = some x1 := (hB.cell (World.block_lt_of_cell? w _ (hcc 1 _ rfl))).trans (hcc 1 _ rfl)
        have HXR := Lib.hid hxr; clear hxr hcc hcl
        go_wp2_with (go_at_call 37; refine call_sz (w := w) (szField_c _ [x0, x1] x _ (rd_below HXR.out hB) (by omega) (by omega)) (by go_grown) ?_; intro w2 r2 hB2 hb hz hz2 hr2 hs; have HR2 := Lib.hid hr2; clear hr2 hb)
        · go_ret
          refine ⟨_, rfl, ?_, by go_grown⟩
          have u1 := HU.out; have u2 := HR2.out; have u3 := HR.out
          rw [HSZ.out]
          unfold szq at *
          go_light
          omega
        · go_roundw
          case rel => exact ⟨k + 1, _, by omega, by go_num, rfl, by omega, by omega, by
          show _ = _
          have u1 := HT.out; have u2 := HR2.out; have u3 := HR.out
          unfold szq at *
          rw [u1]
          omega, by go_grown⟩
          case measure => simp [intOf]; omega
      · obtain rfl : k = l.length := by omega
        go_wp2
        go_ret
        refine ⟨_, rfl, ?_, hB⟩
        have u3 := HR.out
        rw [List.take_length] at u3
        rw [HSZ.out]
        unfold szq
        omega
set_option maxRecDepth 100000 in
set_option maxHeartbeats 1000000 in
theorem szValue_c (w : World) (ca : List Value) (a : ValueD) (left : Int) (ha : rd w ca a) (h0 : 0 ≤ left) (h1 : left ≤ 1048576) : Calls Tryz.prog 98 #[.agg ca.toArray, .int .i64 left] w (RetSz w (GoD.size a) left) := by
  obtain ⟨a1, a2, a3⟩ := a
  obtain ⟨ac1, at1, rfl, ar1, ac2, at2, rfl, ar2, ar3⟩ := ha
  obtain ⟨rfl, ar1⟩ := ar1
  obtain ⟨rfl, ar2⟩ := ar2
  obtain ⟨rfl, ar3⟩ := ar3
  dsimp only [List.cons_append, List.nil_append] at *
  clear ar1
  clear ar2
  unfold maxLen at ar3
  have ar3 : a3.size ≤ 9223372036854775807 := by omega
  have hsz : GoD.size (a1, a2, a3) = (0 + (0 + a3.size)) := rfl
  have HSZ := Lib.hid hsz; clear hsz
  go_enter Tryz.func98, Tryz.ntmps98
  go_wp2
  all_goals
    go_ret
    refine ⟨_, rfl, ?_, by go_grown⟩
    rw [HSZ.out]
    unfold szq
    (try unfold szq at *)
    go_light
    omega
set_option maxRecDepth 100000 in
set_option maxHeartbeats 1000000 in
theorem szAttr_c (w : World) (ca : List Value) (a : AttrD) (left : Int) (ha : rd w ca a) (h0 : 0 ≤ left) (h1 : left ≤ 1048576) : Calls Tryz.prog 89 #[.agg ca.toArray, .int .i64 left] w (RetSz w (GoD.size a) left) := by
  obtain ⟨a1, a2⟩ := a
  obtain ⟨ac1, at1, rfl, ar1, ar2⟩ := ha
  obtain ⟨rfl, ar1⟩ := ar1
  obtain ⟨ax2_0, ax2_1, ax2_2, rfl⟩ := len3 (show _ = 3 from GoD.rd_len ar2)
  dsimp only [List.cons_append, List.nil_append] at *
  unfold maxLen at ar1
  have ar1 : a1.size ≤ 9223372036854775807 := by omega
  have AR2H := Lib.hid ar2; clear ar2
  have tok1 : True := trivial
  have hsz : GoD.size (a1, a2) = (a1.size + GoD.size a2) := rfl
  have HSZ := Lib.hid hsz; clear hsz
  go_enter Tryz.func89, Tryz.ntmps89
  go_wp2_with (first | (go_at_call 98; have tk := tok1; clear tok1; refine call_sz (w := w) (szValue_c _ [ax2_0, ax2_1, ax2_2] a2 _ (rd_below AR2H.out (by go_grown)) (by omega) (by omega)) (by go_grown) ?_; intro w1 r1 hB hb hz hz2 hr hs; have HR1 := Lib.hid hr; clear hr; (repeat (first | rewrite [World.size_alloc] at hz2 | rewrite [World.size_setCell] at hz2 | rewrite [World.size_drew] at hz2)); have c0 := fun o => bcell hb (w.heap.size) o (by go_size); clear hb))
  all_goals
    go_ret
    refine ⟨_, rfl, ?_, by go_grown⟩
    rw [HSZ.out]
    unfold szq
    (try have u1 := HR1.out)
    (try unfold szq at *)
    go_light
    omega
set_option maxRecDepth 100000 in
set_option maxHeartbeats 1000000 in
theorem szAttrS_c (w : World) (v : Value) (l : List AttrD) (left : Int) (ha : rd w [v] l) (h0 : 0 ≤ left) (h1 : left ≤ 1048576) : Calls Tryz.prog 72 #[v, .int .i64 left] w (RetSz w (GoD.size l) left) := by
  obtain ⟨oa, cap, e1, hl, hm, hel⟩ := ha
  obtain rfl : v = _ := by simpa using e1
  clear e1
  have HE := Lib.hid hel; clear hel
  unfold maxLen at hm
  have hlm : l.length ≤ 9223372036854775807 := by omega
  have hsz : GoD.size l = l.length + (l.map GoD.size).sum := rfl
  have HSZ := Lib.hid hsz; clear hsz
  by_cases hneg : left - l.length < 0
  · go_enter Tryz.func72, Tryz.ntmps72
    go_wp2
    go_ret
    refine ⟨_, rfl, ?_, Below.refl _ _⟩
    rw [HSZ.out]
    unfold szq
    omega
  · go_enter Tryz.func72, Tryz.ntmps72
    go_wp2
    go_loopw [1, 5] (fun q i wr => ∃ (k : Nat) (r : Int), k ≤ l.length ∧ i = .int .i64 k ∧ q = .int .i64 r ∧ 0 ≤ r ∧ r ≤ 1048576 ∧ Hid (r = left - l.length - ((l.take k).map GoD.size).sum) ∧ Below w.heap.size w wr) (fun _ i _ => l.length - (intOf i).toNat)
    case atStart => exact ⟨0, _, Nat.zero_le _, rfl, rfl, by omega, by omega, by show _ = _; simp, Below.refl _ _⟩
    case round =>
      obtain ⟨k, r, hk, rfl, rfl, hr0, hr1, HR, hB⟩ := hrel
      by_cases hkl : k < l.length
      · have hx := List.getElem?_eq_getElem hkl
        obtain ⟨eb, eo, ee, rfl, hcl, hcc, hxr⟩ := HE.out k _ hx
        have HT := Lib.hid (sum_take hx)
        have HU := Lib.hid (sum_take_le hx)
        clear hx
        generalize l[k] = x at *
        obtain ⟨x0, x1, x2, x3, rfl⟩ := len4 (show _ = 4 from hcl)
        have p0 : wr.cell? ⟨eb, eo + k * 4, none⟩ = some x0 := (hB.cell (World.block_lt_of_cell? w _ (hcc 0 _ rfl))).trans (hcc 0 _ rfl)
        have p1 : wr.cell? ⟨eb, eo + k * 4 + 1, none⟩ = some x1 := (hB.cell (World.block_lt_of_cell? w _ (hcc 1 _ rfl))).trans (hcc 1 _ rfl)
        have p2 : wr.cell? ⟨eb, eo + k * 4 + 2, none⟩ = some x2 := (hB.cell (World.block_lt_of_cell? w _ (hcc 2 _ rfl))).trans (hcc 2 _ rfl)
        have p3 : wr.cell? ⟨eb, eo + k * 4 + 3, none⟩ = some x3 := (hB.cell (World.block_lt_of_cell? w _ (hcc 3 _ rfl))).trans (hcc 3 _ rfl)
        have HXR := Lib.hid hxr; clear hxr hcc hcl
        go_wp2_with (go_at_call 89; refine call_sz (w := w) (szAttr_c _ [x0, x1, x2, x3] x _ (rd_below HXR.out hB) (by omega) (by omega)) (by go_grown) ?_; intro w2 r2 hB2 hb hz hz2 hr2 hs; have HR2 := Lib.hid hr2; clear hr2 hb)
        · go_ret
          refine ⟨_, rfl, ?_, by go_grown⟩
          have u1 := HU.out; have u2 := HR2.out; have u3 := HR.out
          rw [HSZ.out]
          unfold szq at *
          go_light
          omega
        · go_roundw
          case rel => exact ⟨k + 1, _, by omega, by go_num, rfl, by omega, by omega, by
          show _ = _
          have u1 := HT.out; have u2 := HR2.out; have u3 := HR.out
          unfold szq at *
          rw [u1]
          omega, by go_grown⟩
          case measure => simp [intOf]; omega
      · obtain rfl : k = l.length := by omega
        go_wp2
        go_ret
        refine ⟨_, rfl, ?_, hB⟩
        have u3 := HR.out
        rw [List.take_length] at u3
        rw [HSZ.out]
        unfold szq
        omega
set_option maxRecDepth 100000 in
set_option maxHeartbeats 1000000 in
theorem szFile_c (w : World) (ca : List Value) (a : FileD) (left : Int) (ha : rd w ca a) (h0 : 0 ≤ left) (h1 : left ≤ 1048576) : Calls Tryz.prog 38 #[.agg ca.toArray, .int .i64 left] w (RetSz w (GoD.size a) left) := by
  obtain ⟨a1, a2, a3, a4, a5⟩ := a
  obtain ⟨ac1, at1, rfl, ar1, ac2, at2, rfl, ar2, ac3, at3, rfl, ar3, ac4, at4, rfl, ar4, ar5⟩ := ha
  obtain ⟨rfl, ar1⟩ := ar1
  obtain ⟨rfl, ar2⟩ := ar2
  obtain rfl := ar3
  obtain ⟨rfl, ar4⟩ := ar4
  obtain ⟨ax5_0, rfl⟩ := len1 (show _ = 1 from GoD.rd_len ar5)
  dsimp only [List.cons_append, List.nil_append] at *
  clear ar1
  clear ar2
  clear ar4
  have AR5H := Lib.hid ar5; clear ar5
  have tok1 : True := trivial
  have hsz : GoD.size (a1, a2, a3, a4, a5) = (0 + (0 + (0 + (0 + GoD.size a5)))) := rfl
  have HSZ := Lib.hid hsz; clear hsz
  go_enter Tryz.func38, Tryz.ntmps38
  go_wp2_with (first | (go_at_call 72; have tk := tok1; clear tok1; refine call_sz (w := w) (szAttrS_c _ ax5_0 a5 _ (rd_below AR5H.out (by go_grown)) (by omega) (by omega)) (by go_grown) ?_; intro w1 r1 hB hb hz hz2 hr hs; have HR1 := Lib.hid hr; clear hr; (repeat (first | rewrite [World.size_alloc] at hz2 | rewrite [World.size_setCell] at hz2 | rewrite [World.size_drew] at hz2)); have c0 := fun o => bcell hb (w.heap.size) o (by go_size); clear hb))
  all_goals
    go_ret
    refine ⟨_, rfl, ?_, by go_grown⟩
    rw [HSZ.out]
    unfold szq
    (try have u1 := HR1.out)
    (try unfold szq at *)
    go_light
    omega
set_option maxRecDepth 100000 in
set_option maxHeartbeats 1000000 in
theorem szFileS_c (w : World) (v : Value) (l : List FileD) (left : Int) (ha : rd w [v] l) (h0 : 0 ≤ left) (h1 : left ≤ 1048576) : Calls Tryz.prog 15 #[v, .int .i64 left] w (RetSz w (GoD.size l) left) := by
  obtain ⟨oa, cap, e1, hl, hm, hel⟩ := ha
  obtain rfl : v = _ := by simpa using e1
  clear e1
  have HE := Lib.hid hel; clear hel
  unfold maxLen at hm
  have hlm : l.length ≤ 9223372036854775807 := by omega
  have hsz : GoD.size l = l.length + (l.map GoD.size).sum := rfl
  have HSZ := Lib.hid hsz; clear hsz
  by_cases hneg : left - l.length < 0
  · go_enter Tryz.func15, Tryz.ntmps15
    go_wp2
    go_ret
    refine ⟨_, rfl, ?_, Below.refl _ _⟩
    rw [HSZ.out]
    unfold szq
    omega
  · go_enter Tryz.func15, Tryz.ntmps15
    go_wp2
    go_loopw [1, 5] (fun q i wr => ∃ (k : Nat) (r : Int), k ≤ l.length ∧ i = .int .i64 k ∧ q = .int .i64 r ∧ 0 ≤ r ∧ r ≤ 1048576 ∧ Hid (r = left - l.length - ((l.take k).map GoD.size).sum) ∧ Below w.heap.size w wr) (fun _ i _ => l.length - (intOf i).toNat)
    case atStart => exact ⟨0, _, Nat.zero_le _, rfl, rfl, by omega, by omega, by show _ = _; simp, Below.refl _ _⟩
    case round =>
      obtain ⟨k, r, hk, rfl, rfl, hr0, hr1, HR, hB⟩ := hrel
      by_cases hkl : k < l.length
      · have hx := List.getElem?_eq_getElem hkl
        obtain ⟨eb, eo, ee, rfl, hcl, hcc, hxr⟩ := HE.out k _ hx
        have HT := Lib.hid (sum_take hx)
        have HU := Lib.hid (sum_take_le hx)
        clear hx
        generalize l[k] = x at *
        obtain ⟨x0, x1, x2, x3, x4, rfl⟩ := len5 (show _ = 5 from hcl)
        have p0 : wr.cell? ⟨eb, eo + k * 5, none⟩ = some x0 := (hB.cell (World.block_lt_of_cell? w _ (hcc 0 _ rfl))).trans (hcc 0 _ rfl)
        have p1 : wr.cell? ⟨eb, eo + k * 5 + 1, none⟩ = some x1 := (hB.cell (World.block_lt_of_cell? w _ (hcc 1 _ rfl))).trans (hcc 1 _ rfl)
        have p2 : wr.cell? ⟨eb, eo + k * 5 + 2, none⟩ = some x2 := (hB.cell (World.block_lt_of_cell? w _ (hcc 2 _ rfl))).trans (hcc 2 _ rfl)
        have p3 : wr.cell? ⟨eb, eo + k * 5 + 3, none⟩ = some x3 := (hB.cell (World.block_lt_of_cell? w _ (hcc 3 _ rfl))).trans (hcc 3 _ rfl)
        have p4 : wr.cell? ⟨eb, eo + k * 5 + 4, none⟩ = some x4 := (hB.cell (World.block_lt_of_cell? w _ (hcc 4 _ rfl))).trans (hcc 4 _ rfl)
        have HXR := Lib.hid hxr; clear hxr hcc hcl
        go_wp2_with (go_at_call 38; refine call_sz (w := w) (szFile_c _ [x0, x1, x2, x3, x4] x _ (rd_below HXR.out hB) (by omega) (by omega)) (by go_grown) ?_; intro w2 r2 hB2 hb hz hz2 hr2 hs; have HR2 := Lib.hid hr2; clear hr2 hb)
        · go_ret
          refine ⟨_, rfl, ?_, by go_grown⟩
          have u1 := HU.out; have u2 := HR2.out; have u3 := HR.out
          rw [HSZ.out]
          unfold szq at *
          go_light
          omega
        · go_roundw
          case rel => exact ⟨k + 1, _, by omega, by go_num, rfl, by omega, by omega, by
          show _ = _
          have u1 := HT.out; have u2 := HR2.out; have u3 := HR.out
          unfold szq at *
          rw [u1]
          omega, by go_grown⟩
          case measure => simp [intOf]; omega
      · obtain rfl : k = l.length := by omega
        go_wp2
        go_ret
        refine ⟨_, rfl, ?_, hB⟩
        have u3 := HR.out
        rw [List.take_length] at u3
        rw [HSZ.out]
        unfold szq
        omega
set_option maxRecDepth 100000 in
set_option maxHeartbeats 1000000 in
theorem szStore_c (w : World) (ca : List Value) (a : StoreD) (left : Int) (ha : rd w ca a) (h0 : 0 ≤ left) (h1 : left ≤ 1048576) : Calls Tryz.prog 4 #[.agg ca.toArray, .int .i64 left] w (RetSz w (GoD.size a) left) := by
  obtain ⟨a1, a2, a3⟩ := a
  obtain ⟨ac1, at1, rfl, ar1, ac2, at2, rfl, ar2, ar3⟩ := ha
  obtain ⟨ax1_0, rfl⟩ := len1 (show _ = 1 from GoD.rd_len ar1)
  obtain ⟨ax2_0, rfl⟩ := len1 (show _ = 1 from GoD.rd_len ar2)
  obtain ⟨rfl, ar3⟩ := ar3
  dsimp only [List.cons_append, List.nil_append] at *
  have AR1H := Lib.hid ar1; clear ar1
  have AR2H := Lib.hid ar2; clear ar2
  clear ar3
  have tok1 : True := trivial
  have tok2 : True := trivial
  have hsz : GoD.size (a1, a2, a3) = (GoD.size a1 + (GoD.size a2 + 0)) := rfl
  have HSZ := Lib.hid hsz; clear hsz
  go_enter Tryz.func4, Tryz.ntmps4
  go_wp2_with (first | (go_at_call 14; have tk := tok1; clear tok1; refine call_sz (w := w) (szFieldS_c _ ax1_0 a1 _ (rd_below AR1H.out (by go_grown)) (by omega) (by omega)) (by go_grown) ?_; intro w1 r1 hB hb hz hz2 hr hs; have HR1 := Lib.hid hr; clear hr; (repeat (first | rewrite [World.size_alloc] at hz2 | rewrite [World.size_setCell] at hz2 | rewrite [World.size_drew] at hz2)); have c0 := fun o => bcell hb (w.heap.size) o (by go_size); clear hb) | (go_at_call 15; have tk := tok2; clear tok2; refine call_sz (w := w) (szFileS_c _ ax2_0 a2 _ (rd_below AR2H.out (by go_grown)) (by omega) (by omega)) (by go_grown) ?_; intro w2 r2 hB hb hz hz2 hr hs; have HR2 := Lib.hid hr; clear hr; (repeat (first | rewrite [World.size_alloc] at hz2 | rewrite [World.size_setCell] at hz2 | rewrite [World.size_drew] at hz2)); have c0 := fun o => bcell hb (w.heap.size) o (by go_size); clear hb))
  all_goals
    go_ret
    refine ⟨_, rfl, ?_, by go_grown⟩
    rw [HSZ.out]
    unfold szq
    (try have u1 := HR1.out)
    (try have u2 := HR2.out)
    (try unfold szq at *)
    go_light
    omega
end Go.Proofs.YtdakhddpcfimaaaGreatDoor
namespace Go.Proofs.YtdakhddpcfimaaaGreatDoor
open Go.RowKit
open GoD (rd own)
set_option maxHeartbeats 1000000 in
theorem eqField_c (w : World) (ca cb : List Value) (a b : FieldD) (ha : rd w ca a) (hb : rd w cb b) : Calls Tryz.prog 67 #[.agg ca.toArray, .agg cb.toArray] w (Ret w (.bool (eqb a b))) := by
  obtain ⟨a1, a2⟩ := a
  obtain ⟨ac1, at1, rfl, ar1, ar2⟩ := ha
  obtain ⟨rfl, ar1⟩ := ar1
  obtain ⟨rfl, ar2⟩ := ar2
  obtain ⟨b1, b2⟩ := b
  obtain ⟨bc1, bt1, rfl, br1, br2⟩ := hb
  obtain ⟨rfl, br1⟩ := br1
  obtain ⟨rfl, br2⟩ := br2
  dsimp only [List.cons_append, List.nil_append] at *
  generalize hr : eqb (a1, a2) (b1, b2) = r
  have Hr := Lib.hid hr; clear hr
  have es := eqb_str
  clear ar1 br1
  clear ar2 br2
  go_enter Tryz.func67, Tryz.ntmps67
  go_wp2
  all_goals
    go_ret
    refine ⟨?_, by go_grown⟩
    rw [← Hr.out]
    go_light
    clear es
    simp_all [eqb_prod, eqb_int, eqb_bool]
set_option maxHeartbeats 1000000 in
theorem eqFieldS_c (w : World) (sa sb : Value) (la lb : List FieldD) (ha : rd w [sa] la) (hb : rd w [sb] lb) : Calls Tryz.prog 31 #[sa, sb] w (Ret w (.bool (eqb la lb))) := by
  obtain ⟨oa, capa, e1, hl1, hm1, hel1⟩ := ha
  obtain ⟨ob, capb, e2, hl2, hm2, hel2⟩ := hb
  obtain rfl : sa = _ := by simpa using e1
  obtain rfl : sb = _ := by simpa using e2
  clear e1 e2
  have HE1 := Lib.hid hel1; clear hel1
  have HE2 := Lib.hid hel2; clear hel2
  unfold maxLen at hm1 hm2
  have hma : la.length ≤ 9223372036854775807 := by omega
  have hmb : lb.length ≤ 9223372036854775807 := by omega
  by_cases hlen : la.length = lb.length
  · have hne : ((la.length : Int) != (lb.length : Int)) = false := by simp [hlen]
    generalize hr : eqb la lb = r
    have Hr := Lib.hid hr; clear hr
    have Hlen := Lib.hid hlen; clear hlen
    have es := eqb_str
    go_enter Tryz.func31, Tryz.ntmps31
    go_wp2
    go_loopw [5] (fun i wr => ∃ k : Nat, k ≤ la.length ∧ i = .int .i64 k ∧ Hid (la.take k = lb.take k) ∧ Below w.heap.size w wr) (fun i _ => la.length - (intOf i).toNat)
    case atStart => exact ⟨0, Nat.zero_le _, rfl, rfl, Below.refl _ _⟩
    case round =>
      obtain ⟨k, hk, rfl, htk, hB⟩ := hrel
      by_cases hlt : k < la.length
      · have hltb : k < lb.length := by have := Hlen.out; omega
        obtain ⟨ba, fa, ea, rfl, hla, hca, hra⟩ := HE1.out k _ (List.getElem?_eq_getElem hlt)
        obtain ⟨bb, fb, eb, rfl, hlb, hcb, hrb⟩ := HE2.out k _ (List.getElem?_eq_getElem hltb)
        have Hno := Lib.hid (eqS_no (List.getElem?_eq_getElem hlt) (List.getElem?_eq_getElem hltb))
        have Hyes := Lib.hid (eqS_step htk.out (List.getElem?_eq_getElem hlt) (List.getElem?_eq_getElem hltb))
        generalize la[k] = xa at *
        generalize lb[k] = xb at *
        obtain ⟨x0, x1, rfl⟩ := len2 (show _ = 2 from hla)
        obtain ⟨y0, y1, rfl⟩ := len2 (show _ = 2 from hlb)
        have qba0 : w.cell? ⟨ba, fa + k * 2, none⟩ = some _ := hca 0 _ rfl
        have pba0 := fun d os => cell_regrown ((hB.cell (World.block_lt_of_cell? w _ qba0)).trans qba0) d os
        clear qba0
        have qba1 : w.cell? ⟨ba, fa + k * 2 + 1, none⟩ = some _ := hca 1 _ rfl
        have pba1 := fun d os => cell_regrown ((hB.cell (World.block_lt_of_cell? w _ qba1)).trans qba1) d os
        clear qba1
        have qbb0 : w.cell? ⟨bb, fb + k * 2, none⟩ = some _ := hcb 0 _ rfl
        have pbb0 := fun d os => cell_regrown ((hB.cell (World.block_lt_of_cell? w _ qbb0)).trans qbb0) d os
        clear qbb0
        have qbb1 : w.cell? ⟨bb, fb + k * 2 + 1, none⟩ = some _ := hcb 1 _ rfl
        have pbb1 := fun d os => cell_regrown ((hB.cell (World.block_lt_of_cell? w _ qbb1)).trans qbb1) d os
        clear qbb1
        have ra := fun d os => rd_below (rd_below hra hB) (below_regrown wr d os)
        have rb := fun d os => rd_below (rd_below hrb hB) (below_regrown wr d os)
        have Ra := Lib.hid ra
        have Rb := Lib.hid rb
        clear ra rb
        clear hca hcb hra hrb hla hlb
        go_wp2
        refine wp_region_quiet_below (by kernel_rfl) (by kernel_rfl) ?_
        repeat (quiet_step (exact Calls.regrown_of (eqField_c _ [x0, x1] [y0, y1] xa xb (Ra.out _ _) (Rb.out _ _))))
        refine wpQuiet_nil ?_
        intro _ hw'
        obtain ⟨⟨dq, osq⟩, hw''⟩ := hw'
        subst hw''
        have hB2 := hB.trans ((below_regrown wr dq osq).mono hB.size)
        go_wp2
        · go_ret
          obtain rfl : r = false := Hr.out.symm.trans (Hno.out (by go_light; clear es; simp_all [eqb_int, eqb_bool]))
          exact ⟨rfl, hB2⟩
        · go_roundw
          case rel => exact ⟨k + 1, by omega, by go_num, Hyes.out (by go_light; clear es; simp_all [eqb_int, eqb_bool]), hB2⟩
          case measure => simp [intOf]; omega
      · obtain rfl : k = la.length := by omega
        have Hy := Lib.hid (eqS_end htk.out (by have := Hlen.out; omega))
        go_wp2
        go_ret
        obtain rfl : r = true := Hr.out.symm.trans Hy.out
        exact ⟨rfl, hB⟩
  · have hne : ((la.length : Int) != (lb.length : Int)) = true := by simp; omega
    generalize hr : eqb la lb = r
    have Hr := Lib.hid hr; clear hr
    have Hn := Lib.hid (eqS_len hlen); clear hlen
    go_enter Tryz.func31, Tryz.ntmps31
    go_wp2
    go_ret
    obtain rfl : r = false := Hr.out.symm.trans Hn.out
    exact ⟨rfl, Below.refl _ _⟩
set_option maxHeartbeats 1000000 in
theorem eqValue_c (w : World) (ca cb : List Value) (a b : ValueD) (ha : rd w ca a) (hb : rd w cb b) : Calls Tryz.prog 104 #[.agg ca.toArray, .agg cb.toArray] w (Ret w (.bool (eqb a b))) := by
  obtain ⟨a1, a2, a3⟩ := a
  obtain ⟨ac1, at1, rfl, ar1, ac2, at2, rfl, ar2, ar3⟩ := ha
  obtain ⟨rfl, ar1⟩ := ar1
  obtain ⟨rfl, ar2⟩ := ar2
  obtain ⟨rfl, ar3⟩ := ar3
  obtain ⟨b1, b2, b3⟩ := b
  obtain ⟨bc1, bt1, rfl, br1, bc2, bt2, rfl, br2, br3⟩ := hb
  obtain ⟨rfl, br1⟩ := br1
  obtain ⟨rfl, br2⟩ := br2
  obtain ⟨rfl, br3⟩ := br3
  dsimp only [List.cons_append, List.nil_append] at *
  generalize hr : eqb (a1, a2, a3) (b1, b2, b3) = r
  have Hr := Lib.hid hr; clear hr
  have es := eqb_str
  clear ar1 br1
  clear ar2 br2
  clear ar3 br3
  go_enter Tryz.func104, Tryz.ntmps104
  go_wp2
  all_goals
    go_ret
    refine ⟨?_, by go_grown⟩
    rw [← Hr.out]
    go_light
    clear es
    simp_all [eqb_prod, eqb_int, eqb_bool]
set_option maxHeartbeats 1000000 in
theorem eqAttr_c (w : World) (ca cb : List Value) (a b : AttrD) (ha : rd w ca a) (hb : rd w cb b) : Calls Tryz.prog 97 #[.agg ca.toArray, .agg cb.toArray] w (Ret w (.bool (eqb a b))) := by
  obtain ⟨a1, a2⟩ := a
  obtain ⟨ac1, at1, rfl, ar1, ar2⟩ := ha
  obtain ⟨rfl, ar1⟩ := ar1
  obtain ⟨ax2_0, ax2_1, ax2_2, rfl⟩ := len3 (show _ = 3 from GoD.rd_len ar2)
  obtain ⟨b1, b2⟩ := b
  obtain ⟨bc1, bt1, rfl, br1, br2⟩ := hb
  obtain ⟨rfl, br1⟩ := br1
  obtain ⟨bx2_0, bx2_1, bx2_2, rfl⟩ := len3 (show _ = 3 from GoD.rd_len br2)
  dsimp only [List.cons_append, List.nil_append] at *
  generalize hr : eqb (a1, a2) (b1, b2) = r
  have Hr := Lib.hid hr; clear hr
  have es := eqb_str
  clear ar1 br1
  have AR2H := Lib.hid ar2; clear ar2
  have BR2H := Lib.hid br2; clear br2
  have tok1 : True := trivial
  go_enter Tryz.func97, Tryz.ntmps97
  go_wp2_with (first | (go_at_call 104; have tk := tok1; clear tok1; (refine call_ret (w := w) (eqValue_c _ [ax2_0, ax2_1, ax2_2] [bx2_0, bx2_1, bx2_2] a2 b2 (rd_below AR2H.out (by go_grown)) (rd_below BR2H.out (by go_grown))) (by go_grown) ?_; intro w' hB hb hz hz2; (repeat (first | rewrite [World.size_alloc] at hz2 | rewrite [World.size_setCell] at hz2 | rewrite [World.size_drew] at hz2)); have c0 := fun o => bcell hb (w.heap.size) o (by go_size); have c1 := fun o => bcell hb (w.heap.size + 1) o (by go_size))))
  all_goals
    go_ret
    refine ⟨?_, by go_grown⟩
    rw [← Hr.out]
    go_light
    clear es
    simp_all [eqb_prod, eqb_int, eqb_bool]
set_option maxHeartbeats 1000000 in
theorem eqAttrS_c (w : World) (sa sb : Value) (la lb : List AttrD) (ha : rd w [sa] la) (hb : rd w [sb] lb) : Calls Tryz.prog 88 #[sa, sb] w (Ret w (.bool (eqb la lb))) := by
  obtain ⟨oa, capa, e1, hl1, hm1, hel1⟩ := ha
  obtain ⟨ob, capb, e2, hl2, hm2, hel2⟩ := hb
  obtain rfl : sa = _ := by simpa using e1
  obtain rfl : sb = _ := by simpa using e2
  clear e1 e2
  have HE1 := Lib.hid hel1; clear hel1
  have HE2 := Lib.hid hel2; clear hel2
  unfold maxLen at hm1 hm2
  have hma : la.length ≤ 9223372036854775807 := by omega
  have hmb : lb.length ≤ 9223372036854775807 := by omega
  by_cases hlen : la.length = lb.length
  · have hne : ((la.length : Int) != (lb.length : Int)) = false := by simp [hlen]
    generalize hr : eqb la lb = r
    have Hr := Lib.hid hr; clear hr
    have Hlen := Lib.hid hlen; clear hlen
    have es := eqb_str
    go_enter Tryz.func88, Tryz.ntmps88
    go_wp2
    go_loopw [5] (fun i wr => ∃ k : Nat, k ≤ la.length ∧ i = .int .i64 k ∧ Hid (la.take k = lb.take k) ∧ Below w.heap.size w wr) (fun i _ => la.length - (intOf i).toNat)
    case atStart => exact ⟨0, Nat.zero_le _, rfl, rfl, Below.refl _ _⟩
    case round =>
      obtain ⟨k, hk, rfl, htk, hB⟩ := hrel
      by_cases hlt : k < la.length
      · have hltb : k < lb.length := by have := Hlen.out; omega
        obtain ⟨ba, fa, ea, rfl, hla, hca, hra⟩ := HE1.out k _ (List.getElem?_eq_getElem hlt)
        obtain ⟨bb, fb, eb, rfl, hlb, hcb, hrb⟩ := HE2.out k _ (List.getElem?_eq_getElem hltb)
        have Hno := Lib.hid (eqS_no (List.getElem?_eq_getElem hlt) (List.getElem?_eq_getElem hltb))
        have Hyes := Lib.hid (eqS_step htk.out (List.getElem?_eq_getElem hlt) (List.getElem?_eq_getElem hltb))
        generalize la[k] = xa at *
        generalize lb[k] = xb at *
        obtain ⟨x0, x1, x2, x3, rfl⟩ := len4 (show _ = 4 from hla)
        obtain ⟨y0, y1, y2, y3, rfl⟩ := len4 (show _ = 4 from hlb)
        have qba0 : w.cell? ⟨ba, fa + k * 4, none⟩ = some _ := hca 0 _ rfl
        have pba0 := fun d os => cell_regrown ((hB.cell (World.block_lt_of_cell? w _ qba0)).trans qba0) d os
        clear qba0
        have qba1 : w.cell? ⟨ba, fa + k * 4 + 1, none⟩ = some _ := hca 1 _ rfl
        have pba1 := fun d os => cell_regrown ((hB.cell (World.block_lt_of_cell? w _ qba1)).trans qba1) d os
        clear qba1
        have qba2 : w.cell? ⟨ba, fa + k * 4 + 2, none⟩ = some _ := hca 2 _ rfl
        have pba2 := fun d os => cell_regrown ((hB.cell (World.block_lt_of_cell? w _ qba2)).trans qba2) d os
        clear qba2
        have qba3 : w.cell? ⟨ba, fa + k * 4 + 3, none⟩ = some _ := hca 3 _ rfl
        have pba3 := fun d os => cell_regrown ((hB.cell (World.block_lt_of_cell? w _ qba3)).trans qba3) d os
        clear qba3
        have qbb0 : w.cell? ⟨bb, fb + k * 4, none⟩ = some _ := hcb 0 _ rfl
        have pbb0 := fun d os => cell_regrown ((hB.cell (World.block_lt_of_cell? w _ qbb0)).trans qbb0) d os
        clear qbb0
        have qbb1 : w.cell? ⟨bb, fb + k * 4 + 1, none⟩ = some _ := hcb 1 _ rfl
        have pbb1 := fun d os => cell_regrown ((hB.cell (World.block_lt_of_cell? w _ qbb1)).trans qbb1) d os
        clear qbb1
        have qbb2 : w.cell? ⟨bb, fb + k * 4 + 2, none⟩ = some _ := hcb 2 _ rfl
        have pbb2 := fun d os => cell_regrown ((hB.cell (World.block_lt_of_cell? w _ qbb2)).trans qbb2) d os
        clear qbb2
        have qbb3 : w.cell? ⟨bb, fb + k * 4 + 3, none⟩ = some _ := hcb 3 _ rfl
        have pbb3 := fun d os => cell_regrown ((hB.cell (World.block_lt_of_cell? w _ qbb3)).trans qbb3) d os
        clear qbb3
        have ra := fun d os => rd_below (rd_below hra hB) (below_regrown wr d os)
        have rb := fun d os => rd_below (rd_below hrb hB) (below_regrown wr d os)
        have Ra := Lib.hid ra
        have Rb := Lib.hid rb
        clear ra rb
        clear hca hcb hra hrb hla hlb
        go_wp2
        refine wp_region_quiet_below (by kernel_rfl) (by kernel_rfl) ?_
        repeat (quiet_step (exact Calls.regrown_of (eqAttr_c _ [x0, x1, x2, x3] [y0, y1, y2, y3] xa xb (Ra.out _ _) (Rb.out _ _))))
        refine wpQuiet_nil ?_
        intro _ hw'
        obtain ⟨⟨dq, osq⟩, hw''⟩ := hw'
        subst hw''
        have hB2 := hB.trans ((below_regrown wr dq osq).mono hB.size)
        go_wp2
        · go_ret
          obtain rfl : r = false := Hr.out.symm.trans (Hno.out (by go_light; clear es; simp_all [eqb_int, eqb_bool]))
          exact ⟨rfl, hB2⟩
        · go_roundw
          case rel => exact ⟨k + 1, by omega, by go_num, Hyes.out (by go_light; clear es; simp_all [eqb_int, eqb_bool]), hB2⟩
          case measure => simp [intOf]; omega
      · obtain rfl : k = la.length := by omega
        have Hy := Lib.hid (eqS_end htk.out (by have := Hlen.out; omega))
        go_wp2
        go_ret
        obtain rfl : r = true := Hr.out.symm.trans Hy.out
        exact ⟨rfl, hB⟩
  · have hne : ((la.length : Int) != (lb.length : Int)) = true := by simp; omega
    generalize hr : eqb la lb = r
    have Hr := Lib.hid hr; clear hr
    have Hn := Lib.hid (eqS_len hlen); clear hlen
    go_enter Tryz.func88, Tryz.ntmps88
    go_wp2
    go_ret
    obtain rfl : r = false := Hr.out.symm.trans Hn.out
    exact ⟨rfl, Below.refl _ _⟩
set_option maxHeartbeats 1000000 in
theorem eqFile_c (w : World) (ca cb : List Value) (a b : FileD) (ha : rd w ca a) (hb : rd w cb b) : Calls Tryz.prog 68 #[.agg ca.toArray, .agg cb.toArray] w (Ret w (.bool (eqb a b))) := by
  obtain ⟨a1, a2, a3, a4, a5⟩ := a
  obtain ⟨ac1, at1, rfl, ar1, ac2, at2, rfl, ar2, ac3, at3, rfl, ar3, ac4, at4, rfl, ar4, ar5⟩ := ha
  obtain ⟨rfl, ar1⟩ := ar1
  obtain ⟨rfl, ar2⟩ := ar2
  obtain rfl := ar3
  obtain ⟨rfl, ar4⟩ := ar4
  obtain ⟨ax5_0, rfl⟩ := len1 (show _ = 1 from GoD.rd_len ar5)
  obtain ⟨b1, b2, b3, b4, b5⟩ := b
  obtain ⟨bc1, bt1, rfl, br1, bc2, bt2, rfl, br2, bc3, bt3, rfl, br3, bc4, bt4, rfl, br4, br5⟩ := hb
  obtain ⟨rfl, br1⟩ := br1
  obtain ⟨rfl, br2⟩ := br2
  obtain rfl := br3
  obtain ⟨rfl, br4⟩ := br4
  obtain ⟨bx5_0, rfl⟩ := len1 (show _ = 1 from GoD.rd_len br5)
  dsimp only [List.cons_append, List.nil_append] at *
  generalize hr : eqb (a1, a2, a3, a4, a5) (b1, b2, b3, b4, b5) = r
  have Hr := Lib.hid hr; clear hr
  have es := eqb_str
  clear ar1 br1
  clear ar2 br2
  clear ar4 br4
  have AR5H := Lib.hid ar5; clear ar5
  have BR5H := Lib.hid br5; clear br5
  have tok1 : True := trivial
  go_enter Tryz.func68, Tryz.ntmps68
  go_wp2_with (first | (go_at_call 88; have tk := tok1; clear tok1; (refine call_ret (w := w) (eqAttrS_c _ ax5_0 bx5_0 a5 b5 (rd_below AR5H.out (by go_grown)) (rd_below BR5H.out (by go_grown))) (by go_grown) ?_; intro w' hB hb hz hz2; (repeat (first | rewrite [World.size_alloc] at hz2 | rewrite [World.size_setCell] at hz2 | rewrite [World.size_drew] at hz2)); have c0 := fun o => bcell hb (w.heap.size) o (by go_size); have c1 := fun o => bcell hb (w.heap.size + 1) o (by go_size))))
  all_goals
    go_ret
    refine ⟨?_, by go_grown⟩
    rw [← Hr.out]
    go_light
    clear es
    simp_all [eqb_prod, eqb_int, eqb_bool]
set_option maxHeartbeats 1000000 in
theorem eqFileS_c (w : World) (sa sb : Value) (la lb : List FileD) (ha : rd w [sa] la) (hb : rd w [sb] lb) : Calls Tryz.prog 32 #[sa, sb] w (Ret w (.bool (eqb la lb))) := by
  obtain ⟨oa, capa, e1, hl1, hm1, hel1⟩ := ha
  obtain ⟨ob, capb, e2, hl2, hm2, hel2⟩ := hb
  obtain rfl : sa = _ := by simpa using e1
  obtain rfl : sb = _ := by simpa using e2
  clear e1 e2
  have HE1 := Lib.hid hel1; clear hel1
  have HE2 := Lib.hid hel2; clear hel2
  unfold maxLen at hm1 hm2
  have hma : la.length ≤ 9223372036854775807 := by omega
  have hmb : lb.length ≤ 9223372036854775807 := by omega
  by_cases hlen : la.length = lb.length
  · have hne : ((la.length : Int) != (lb.length : Int)) = false := by simp [hlen]
    generalize hr : eqb la lb = r
    have Hr := Lib.hid hr; clear hr
    have Hlen := Lib.hid hlen; clear hlen
    have es := eqb_str
    go_enter Tryz.func32, Tryz.ntmps32
    go_wp2
    go_loopw [5] (fun i wr => ∃ k : Nat, k ≤ la.length ∧ i = .int .i64 k ∧ Hid (la.take k = lb.take k) ∧ Below w.heap.size w wr) (fun i _ => la.length - (intOf i).toNat)
    case atStart => exact ⟨0, Nat.zero_le _, rfl, rfl, Below.refl _ _⟩
    case round =>
      obtain ⟨k, hk, rfl, htk, hB⟩ := hrel
      by_cases hlt : k < la.length
      · have hltb : k < lb.length := by have := Hlen.out; omega
        obtain ⟨ba, fa, ea, rfl, hla, hca, hra⟩ := HE1.out k _ (List.getElem?_eq_getElem hlt)
        obtain ⟨bb, fb, eb, rfl, hlb, hcb, hrb⟩ := HE2.out k _ (List.getElem?_eq_getElem hltb)
        have Hno := Lib.hid (eqS_no (List.getElem?_eq_getElem hlt) (List.getElem?_eq_getElem hltb))
        have Hyes := Lib.hid (eqS_step htk.out (List.getElem?_eq_getElem hlt) (List.getElem?_eq_getElem hltb))
        generalize la[k] = xa at *
        generalize lb[k] = xb at *
        obtain ⟨x0, x1, x2, x3, x4, rfl⟩ := len5 (show _ = 5 from hla)
        obtain ⟨y0, y1, y2, y3, y4, rfl⟩ := len5 (show _ = 5 from hlb)
        have qba0 : w.cell? ⟨ba, fa + k * 5, none⟩ = some _ := hca 0 _ rfl
        have pba0 := fun d os => cell_regrown ((hB.cell (World.block_lt_of_cell? w _ qba0)).trans qba0) d os
        clear qba0
        have qba1 : w.cell? ⟨ba, fa + k * 5 + 1, none⟩ = some _ := hca 1 _ rfl
        have pba1 := fun d os => cell_regrown ((hB.cell (World.block_lt_of_cell? w _ qba1)).trans qba1) d os
        clear qba1
        have qba2 : w.cell? ⟨ba, fa + k * 5 + 2, none⟩ = some _ := hca 2 _ rfl
        have pba2 := fun d os => cell_regrown ((hB.cell (World.block_lt_of_cell? w _ qba2)).trans qba2) d os
        clear qba2
        have qba3 : w.cell? ⟨ba, fa + k * 5 + 3, none⟩ = some _ := hca 3 _ rfl
        have pba3 := fun d os => cell_regrown ((hB.cell (World.block_lt_of_cell? w _ qba3)).trans qba3) d os
        clear qba3
        have qba4 : w.cell? ⟨ba, fa + k * 5 + 4, none⟩ = some _ := hca 4 _ rfl
        have pba4 := fun d os => cell_regrown ((hB.cell (World.block_lt_of_cell? w _ qba4)).trans qba4) d os
        clear qba4
        have qbb0 : w.cell? ⟨bb, fb + k * 5, none⟩ = some _ := hcb 0 _ rfl
        have pbb0 := fun d os => cell_regrown ((hB.cell (World.block_lt_of_cell? w _ qbb0)).trans qbb0) d os
        clear qbb0
        have qbb1 : w.cell? ⟨bb, fb + k * 5 + 1, none⟩ = some _ := hcb 1 _ rfl
        have pbb1 := fun d os => cell_regrown ((hB.cell (World.block_lt_of_cell? w _ qbb1)).trans qbb1) d os
        clear qbb1
        have qbb2 : w.cell? ⟨bb, fb + k * 5 + 2, none⟩ = some _ := hcb 2 _ rfl
        have pbb2 := fun d os => cell_regrown ((hB.cell (World.block_lt_of_cell? w _ qbb2)).trans qbb2) d os
        clear qbb2
        have qbb3 : w.cell? ⟨bb, fb + k * 5 + 3, none⟩ = some _ := hcb 3 _ rfl
        have pbb3 := fun d os => cell_regrown ((hB.cell (World.block_lt_of_cell? w _ qbb3)).trans qbb3) d os
        clear qbb3
        have qbb4 : w.cell? ⟨bb, fb + k * 5 + 4, none⟩ = some _ := hcb 4 _ rfl
        have pbb4 := fun d os => cell_regrown ((hB.cell (World.block_lt_of_cell? w _ qbb4)).trans qbb4) d os
        clear qbb4
        have ra := fun d os => rd_below (rd_below hra hB) (below_regrown wr d os)
        have rb := fun d os => rd_below (rd_below hrb hB) (below_regrown wr d os)
        have Ra := Lib.hid ra
        have Rb := Lib.hid rb
        clear ra rb
        clear hca hcb hra hrb hla hlb
        go_wp2
        refine wp_region_quiet_below (by kernel_rfl) (by kernel_rfl) ?_
        repeat (quiet_step (exact Calls.regrown_of (eqFile_c _ [x0, x1, x2, x3, x4] [y0, y1, y2, y3, y4] xa xb (Ra.out _ _) (Rb.out _ _))))
        refine wpQuiet_nil ?_
        intro _ hw'
        obtain ⟨⟨dq, osq⟩, hw''⟩ := hw'
        subst hw''
        have hB2 := hB.trans ((below_regrown wr dq osq).mono hB.size)
        go_wp2
        · go_ret
          obtain rfl : r = false := Hr.out.symm.trans (Hno.out (by go_light; clear es; simp_all [eqb_int, eqb_bool]))
          exact ⟨rfl, hB2⟩
        · go_roundw
          case rel => exact ⟨k + 1, by omega, by go_num, Hyes.out (by go_light; clear es; simp_all [eqb_int, eqb_bool]), hB2⟩
          case measure => simp [intOf]; omega
      · obtain rfl : k = la.length := by omega
        have Hy := Lib.hid (eqS_end htk.out (by have := Hlen.out; omega))
        go_wp2
        go_ret
        obtain rfl : r = true := Hr.out.symm.trans Hy.out
        exact ⟨rfl, hB⟩
  · have hne : ((la.length : Int) != (lb.length : Int)) = true := by simp; omega
    generalize hr : eqb la lb = r
    have Hr := Lib.hid hr; clear hr
    have Hn := Lib.hid (eqS_len hlen); clear hlen
    go_enter Tryz.func32, Tryz.ntmps32
    go_wp2
    go_ret
    obtain rfl : r = false := Hr.out.symm.trans Hn.out
    exact ⟨rfl, Below.refl _ _⟩
set_option maxHeartbeats 1000000 in
theorem eqStore_c (w : World) (ca cb : List Value) (a b : StoreD) (ha : rd w ca a) (hb : rd w cb b) : Calls Tryz.prog 8 #[.agg ca.toArray, .agg cb.toArray] w (Ret w (.bool (eqb a b))) := by
  obtain ⟨a1, a2, a3⟩ := a
  obtain ⟨ac1, at1, rfl, ar1, ac2, at2, rfl, ar2, ar3⟩ := ha
  obtain ⟨ax1_0, rfl⟩ := len1 (show _ = 1 from GoD.rd_len ar1)
  obtain ⟨ax2_0, rfl⟩ := len1 (show _ = 1 from GoD.rd_len ar2)
  obtain ⟨rfl, ar3⟩ := ar3
  obtain ⟨b1, b2, b3⟩ := b
  obtain ⟨bc1, bt1, rfl, br1, bc2, bt2, rfl, br2, br3⟩ := hb
  obtain ⟨bx1_0, rfl⟩ := len1 (show _ = 1 from GoD.rd_len br1)
  obtain ⟨bx2_0, rfl⟩ := len1 (show _ = 1 from GoD.rd_len br2)
  obtain ⟨rfl, br3⟩ := br3
  dsimp only [List.cons_append, List.nil_append] at *
  generalize hr : eqb (a1, a2, a3) (b1, b2, b3) = r
  have Hr := Lib.hid hr; clear hr
  have es := eqb_str
  have AR1H := Lib.hid ar1; clear ar1
  have BR1H := Lib.hid br1; clear br1
  have AR2H := Lib.hid ar2; clear ar2
  have BR2H := Lib.hid br2; clear br2
  clear ar3 br3
  have tok1 : True := trivial
  have tok2 : True := trivial
  go_enter Tryz.func8, Tryz.ntmps8
  go_wp2_with (first | (go_at_call 31; have tk := tok1; clear tok1; (refine call_ret (w := w) (eqFieldS_c _ ax1_0 bx1_0 a1 b1 (rd_below AR1H.out (by go_grown)) (rd_below BR1H.out (by go_grown))) (by go_grown) ?_; intro w' hB hb hz hz2; (repeat (first | rewrite [World.size_alloc] at hz2 | rewrite [World.size_setCell] at hz2 | rewrite [World.size_drew] at hz2)); have c0 := fun o => bcell hb (w.heap.size) o (by go_size); have c1 := fun o => bcell hb (w.heap.size + 1) o (by go_size))) | (go_at_call 32; have tk := tok2; clear tok2; (refine call_ret (w := w) (eqFileS_c _ ax2_0 bx2_0 a2 b2 (rd_below AR2H.out (by go_grown)) (rd_below BR2H.out (by go_grown))) (by go_grown) ?_; intro w' hB hb hz hz2; (repeat (first | rewrite [World.size_alloc] at hz2 | rewrite [World.size_setCell] at hz2 | rewrite [World.size_drew] at hz2)); have c0 := fun o => bcell hb (w.heap.size) o (by go_size); have c1 := fun o => bcell hb (w.heap.size + 1) o (by go_size))))
  all_goals
    go_ret
    refine ⟨?_, by go_grown⟩
    rw [← Hr.out]
    go_light
    clear es
    simp_all [eqb_prod, eqb_int, eqb_bool]
set_option maxHeartbeats 1000000 in
theorem eqIntS_c (w : World) (sa sb : Value) (la lb : List Int) (ha : rd w [sa] la) (hb : rd w [sb] lb) : Calls Tryz.prog 9 #[sa, sb] w (Ret w (.bool (eqb la lb))) := by
  obtain ⟨oa, capa, e1, hl1, hm1, hel1⟩ := ha
  obtain ⟨ob, capb, e2, hl2, hm2, hel2⟩ := hb
  obtain rfl : sa = _ := by simpa using e1
  obtain rfl : sb = _ := by simpa using e2
  clear e1 e2
  have HE1 := Lib.hid hel1; clear hel1
  have HE2 := Lib.hid hel2; clear hel2
  unfold maxLen at hm1 hm2
  have hma : la.length ≤ 9223372036854775807 := by omega
  have hmb : lb.length ≤ 9223372036854775807 := by omega
  by_cases hlen : la.length = lb.length
  · have hne : ((la.length : Int) != (lb.length : Int)) = false := by simp [hlen]
    generalize hr : eqb la lb = r
    have Hr := Lib.hid hr; clear hr
    have Hlen := Lib.hid hlen; clear hlen
    have es := eqb_str
    go_enter Tryz.func9, Tryz.ntmps9
    go_wp2
    go_loopw [5] (fun i wr => ∃ k : Nat, k ≤ la.length ∧ i = .int .i64 k ∧ Hid (la.take k = lb.take k) ∧ Below w.heap.size w wr) (fun i _ => la.length - (intOf i).toNat)
    case atStart => exact ⟨0, Nat.zero_le _, rfl, rfl, Below.refl _ _⟩
    case round =>
      obtain ⟨k, hk, rfl, htk, hB⟩ := hrel
      by_cases hlt : k < la.length
      · have hltb : k < lb.length := by have := Hlen.out; omega
        obtain ⟨ba, fa, ea, rfl, hla, hca, hra⟩ := HE1.out k _ (List.getElem?_eq_getElem hlt)
        obtain ⟨bb, fb, eb, rfl, hlb, hcb, hrb⟩ := HE2.out k _ (List.getElem?_eq_getElem hltb)
        have Hno := Lib.hid (eqS_no (List.getElem?_eq_getElem hlt) (List.getElem?_eq_getElem hltb))
        have Hyes := Lib.hid (eqS_step htk.out (List.getElem?_eq_getElem hlt) (List.getElem?_eq_getElem hltb))
        generalize la[k] = xa at *
        generalize lb[k] = xb at *
        obtain ⟨x0, rfl⟩ := len1 (show _ = 1 from hla)
        obtain ⟨y0, rfl⟩ := len1 (show _ = 1 from hlb)
        have e3 : x0 = .int .i64 xa := by rcases hra with ⟨e, _⟩; simpa using e
        have e4 : y0 = .int .i64 xb := by rcases hrb with ⟨e, _⟩; simpa using e
        subst e3 e4
        have qba0 : w.cell? ⟨ba, fa + k, none⟩ = some _ := (by simpa [GoD.n] using hca 0 _ rfl)
        have pba0 := fun d os => cell_regrown ((hB.cell (World.block_lt_of_cell? w _ qba0)).trans qba0) d os
        clear qba0
        have qbb0 : w.cell? ⟨bb, fb + k, none⟩ = some _ := (by simpa [GoD.n] using hcb 0 _ rfl)
        have pbb0 := fun d os => cell_regrown ((hB.cell (World.block_lt_of_cell? w _ qbb0)).trans qbb0) d os
        clear qbb0
        clear hca hcb hra hrb hla hlb
        go_wp2
        refine wp_region_quiet_below (by kernel_rfl) (by kernel_rfl) ?_
        repeat (quiet_step (fail))
        refine wpQuiet_nil ?_
        intro _ hw'
        obtain ⟨⟨dq, osq⟩, hw''⟩ := hw'
        subst hw''
        have hB2 := hB.trans ((below_regrown wr dq osq).mono hB.size)
        go_wp2
        · go_ret
          obtain rfl : r = false := Hr.out.symm.trans (Hno.out (by go_light; clear es; simp_all [eqb_int, eqb_bool]))
          exact ⟨rfl, hB2⟩
        · go_roundw
          case rel => exact ⟨k + 1, by omega, by go_num, Hyes.out (by go_light; clear es; simp_all [eqb_int, eqb_bool]), hB2⟩
          case measure => simp [intOf]; omega
      · obtain rfl : k = la.length := by omega
        have Hy := Lib.hid (eqS_end htk.out (by have := Hlen.out; omega))
        go_wp2
        go_ret
        obtain rfl : r = true := Hr.out.symm.trans Hy.out
        exact ⟨rfl, hB⟩
  · have hne : ((la.length : Int) != (lb.length : Int)) = true := by simp; omega
    generalize hr : eqb la lb = r
    have Hr := Lib.hid hr; clear hr
    have Hn := Lib.hid (eqS_len hlen); clear hlen
    go_enter Tryz.func9, Tryz.ntmps9
    go_wp2
    go_ret
    obtain rfl : r = false := Hr.out.symm.trans Hn.out
    exact ⟨rfl, Below.refl _ _⟩
end Go.Proofs.YtdakhddpcfimaaaGreatDoor
namespace Go.Proofs.YtdakhddpcfimaaaGreatDoor
open Go.RowKit
open GoD (rd own)
set_option maxHeartbeats 1000000 in
theorem toField_c (w : World) (ca : List Value) (a : FieldD) (ha : rd w ca a) (hsz : GoD.size a ≤ 1048576) : Calls Tryz.prog 47 #[.agg ca.toArray] w (RetA w a) := by
  obtain ⟨a1, a2⟩ := a
  obtain ⟨ac1, at1, rfl, ar1, ar2⟩ := ha
  obtain ⟨rfl, ar1⟩ := ar1
  obtain ⟨rfl, ar2⟩ := ar2
  dsimp only [List.cons_append, List.nil_append] at *
  replace hsz : (GoD.size a1 + GoD.size a2) ≤ 1048576 := hsz
  have AR1H := Lib.hid ar1; clear ar1
  have AR2H := Lib.hid ar2; clear ar2
  go_enter Tryz.func47, Tryz.ntmps47
  go_wp2_with (first | ((with_reducible show bodyPost _ _ _ _ _ _); refine bodyPost_ret (v := .agg #[.string a1, .int .i64 a2]) (by simp [results, Tryz.results47, go_sem]) rfl ⟨[.string a1, .int .i64 a2], ([] ++ []), rfl, by go_grown, ?_, ?_⟩; (exact (own_pair (own_s _ AR1H.out) (own_i _ AR2H.out) (by simp))); simp))
set_option maxRecDepth 100000 in
set_option maxHeartbeats 1000000 in
theorem toFieldS_c (w : World) (v : Value) (l : List FieldD) (ha : rd w [v] l) (hsz : GoD.size l ≤ 1048576) : Calls Tryz.prog 23 #[v] w (RetS w l) := by
  obtain ⟨oa, cap, e1, hl, hm, hel⟩ := ha
  obtain rfl : v = _ := by simpa using e1
  clear e1
  have HE := Lib.hid hel; clear hel
  have hn : l.length ≤ 1048576 := by have := size_list_len l; omega
  have HS := Lib.hid (fun i a (h : l[i]? = some a) => size_list_get h)
  have hlm : l.length ≤ maxLen := by omega
  go_enter Tryz.func23, Tryz.ntmps23
  go_wp2_with (at_make; refine wp_make w (.tmp 6) (.tmp 6) 27 47 2 l.length rfl rfl Tryz.underlying27 (by kernel_rfl) rfl rfl (by omega) (by go_grown) ?_; intro w1 cur hcur hcs hB1 hb1 hlt1)
  go_loopw [4] (fun i wr => ∃ k : Nat, k ≤ l.length ∧ i = .int .i64 k ∧ Below w.heap.size w wr ∧ w.heap.size < wr.heap.size ∧ Hid (Part wr w.heap.size l.length 47 l k)) (fun i _ => l.length - (intOf i).toNat)
  case atStart => exact ⟨0, Nat.zero_le _, rfl, hB1, hlt1, Part.start hcur hcs l⟩
  case round =>
    obtain ⟨k, hk, rfl, hB, hlt, hP⟩ := hrel
    clear hB1 hb1 hlt1 hcur hcs
    by_cases hkl : k < l.length
    · have hx := List.getElem?_eq_getElem hkl
      obtain ⟨eb, eo, ee, rfl, hcl, hcc, hxr⟩ := HE.out k _ hx
      have hxs := HS.out k _ hx
      have HX := Lib.hid hx; clear hx
      generalize l[k] = x at *
      obtain ⟨cur2, hg, hgs⟩ := hP.out.block
      have hgs2 : cur2.size = l.length * 2 := hgs
      have hroom := Nat.mul_le_mul_right 2 (show k + 1 ≤ l.length by omega)
      obtain ⟨x0, x1, rfl⟩ := len2 (show _ = 2 from hcl)
      have p0 : wr.cell? ⟨eb, eo + k * 2, none⟩ = some x0 := (hB.cell (World.block_lt_of_cell? w _ (hcc 0 _ rfl))).trans (hcc 0 _ rfl)
      have p1 : wr.cell? ⟨eb, eo + k * 2 + 1, none⟩ = some x1 := (hB.cell (World.block_lt_of_cell? w _ (hcc 1 _ rfl))).trans (hcc 1 _ rfl)
      have HXR := Lib.hid hxr; clear hxr hcc hcl
      have HG := Lib.hid hg; clear hg
      go_wp2_with (go_at_call 47; refine call_retA (w := w) (toField_c _ [x0, x1] x (rd_below HXR.out hB) (by omega)) (by go_grown) ?_; intro w2 cs L hB2 hb2 hz2 _ ho hL; obtain rfl := cells_Field (GoD.own_rd ho); have hg2 := (hb2.block _ hlt).trans HG.out; obtain ⟨z0, q0⟩ : ∃ y, w2.cell? ⟨w.heap.size, k * 2, none⟩ = some y := ⟨_, cells_of_heap hg2 _ (by omega)⟩; obtain ⟨z1, q1⟩ : ∃ y, w2.cell? ⟨w.heap.size, k * 2 + 1, none⟩ = some y := ⟨_, cells_of_heap hg2 _ (by omega)⟩; have fz := free_of_heap hg2; clear hg2; have HO := Lib.hid ho; clear ho; have HL := Lib.hid hL; clear hL; have HB2 := Lib.hid hb2; clear hb2)
      go_roundw
      case rel => exact ⟨k + 1, by omega, by go_num, by go_grown, by simp only [World.size_setCell]; omega, by
        have h := hP.out.step HB2.out hkl hk HX.out HO.out HL.out
        rw [show GoD.n FieldD = 2 from rfl] at h
        simp only [World.setCells, Nat.add_assoc, Nat.reduceAdd] at h
        exact h⟩
      case measure => simp [intOf]; omega
    · obtain rfl : k = l.length := by omega
      go_wp2
      go_ret
      obtain ⟨L, hL, hLB⟩ := hP.out.done hlm
      exact ⟨_, L, rfl, hB, hL, hLB⟩
set_option maxHeartbeats 1000000 in
theorem toValue_c (w : World) (ca : List Value) (a : ValueD) (ha : rd w ca a) (hsz : GoD.size a ≤ 1048576) : Calls Tryz.prog 99 #[.agg ca.toArray] w (RetA w a) := by
  obtain ⟨a1, a2, a3⟩ := a
  obtain ⟨ac1, at1, rfl, ar1, ac2, at2, rfl, ar2, ar3⟩ := ha
  obtain ⟨rfl, ar1⟩ := ar1
  obtain ⟨rfl, ar2⟩ := ar2
  obtain ⟨rfl, ar3⟩ := ar3
  dsimp only [List.cons_append, List.nil_append] at *
  replace hsz : (GoD.size a1 + (GoD.size a2 + GoD.size a3)) ≤ 1048576 := hsz
  have AR1H := Lib.hid ar1; clear ar1
  have AR2H := Lib.hid ar2; clear ar2
  have AR3H := Lib.hid ar3; clear ar3
  go_enter Tryz.func99, Tryz.ntmps99
  go_wp2_with (first | ((with_reducible show bodyPost _ _ _ _ _ _); refine bodyPost_ret (v := .agg #[.int .i64 a1, .int .i64 a2, .string a3]) (by simp [results, Tryz.results99, go_sem]) rfl ⟨[.int .i64 a1, .int .i64 a2, .string a3], ([] ++ ([] ++ [])), rfl, by go_grown, ?_, ?_⟩; (exact (own_pair (own_i _ AR1H.out) (own_pair (own_i _ AR2H.out) (own_s _ AR3H.out) (by simp)) (by simp))); simp))
set_option maxHeartbeats 1000000 in
theorem toAttr_c (w : World) (ca : List Value) (a : AttrD) (ha : rd w ca a) (hsz : GoD.size a ≤ 1048576) : Calls Tryz.prog 92 #[.agg ca.toArray] w (RetA w a) := by
  obtain ⟨a1, a2⟩ := a
  obtain ⟨ac1, at1, rfl, ar1, ar2⟩ := ha
  obtain ⟨rfl, ar1⟩ := ar1
  obtain ⟨ax2_0, ax2_1, ax2_2, rfl⟩ := len3 (show _ = 3 from GoD.rd_len ar2)
  dsimp only [List.cons_append, List.nil_append] at *
  replace hsz : (GoD.size a1 + GoD.size a2) ≤ 1048576 := hsz
  have AR1H := Lib.hid ar1; clear ar1
  have AR2H := Lib.hid ar2; clear ar2
  have tok1 : True := trivial
  go_enter Tryz.func92, Tryz.ntmps92
  go_wp2_with (first | (go_at_call 99; have tk := tok1; clear tok1; refine call_retA (w := w) (toValue_c _ [ax2_0, ax2_1, ax2_2] a2 (rd_below AR2H.out (by go_grown)) (by omega)) (by go_grown) ?_; intro w1 cs1 L1 hB hb hz _ ho1 hL1; obtain rfl := cells_Value (GoD.own_rd ho1); have hz2 := hb.size; (repeat (first | rewrite [World.size_alloc] at hz2 | rewrite [World.size_setCell] at hz2 | rewrite [World.size_drew] at hz2)); (repeat (first | rewrite [World.size_alloc] at hL1 | rewrite [World.size_setCell] at hL1 | rewrite [World.size_drew] at hL1)); have hlt1 := GoD.own_lt ho1; have c1_0 := fun o => bcell hb (w.heap.size) o (by go_size); have f1_0 := fun o => bfroz hb (w.heap.size) o (by go_size); have c1_1 := fun o => bcell hb (w.heap.size + 1) o (by go_size); have f1_1 := fun o => bfroz hb (w.heap.size + 1) o (by go_size); have c1_2 := fun o => bcell hb (w.heap.size + 1 + 1) o (by go_size); have f1_2 := fun o => bfroz hb (w.heap.size + 1 + 1) o (by go_size); have HO1 := Lib.hid ho1; clear ho1; have HL1 := Lib.hid hL1; clear hL1; have HT1 := Lib.hid hlt1; clear hlt1; have HB1 := Lib.hid hb; clear hb) | ((with_reducible show bodyPost _ _ _ _ _ _); refine bodyPost_ret (v := .agg #[.string a1, .int .i64 a2.1, .int .i64 a2.2.1, .string a2.2.2]) (by simp [results, Tryz.results92, go_sem, c1_1]) rfl ⟨[.string a1, .int .i64 a2.1, .int .i64 a2.2.1, .string a2.2.2], ([] ++ L1), rfl, by go_grown, ?_, ?_⟩; (exact (own_pair (own_s _ AR1H.out) (show own L1 _ [.int .i64 a2.1, .int .i64 a2.2.1, .string a2.2.2] a2 by (repeat (first | (with_reducible exact HO1.out) | ((with_reducible refine own_setCell ?_ ?_); rotate_left; exact (fun hm => by have := HL1.out _ hm; omega)) | (with_reducible refine own_alloc ?_) | (with_reducible refine own_drew ?_)))) (by simp))); intro x hx; (try simp only [List.mem_append, List.not_mem_nil, List.append_nil, List.nil_append, false_or, or_false] at hx); rcases hx with hx <;> first | (have := HL1.out x hx; omega)))
set_option maxRecDepth 100000 in
set_option maxHeartbeats 1000000 in
theorem toAttrS_c (w : World) (v : Value) (l : List AttrD) (ha : rd w [v] l) (hsz : GoD.size l ≤ 1048576) : Calls Tryz.prog 77 #[v] w (RetS w l) := by
  obtain ⟨oa, cap, e1, hl, hm, hel⟩ := ha
  obtain rfl : v = _ := by simpa using e1
  clear e1
  have HE := Lib.hid hel; clear hel
  have hn : l.length ≤ 1048576 := by have := size_list_len l; omega
  have HS := Lib.hid (fun i a (h : l[i]? = some a) => size_list_get h)
  have hlm : l.length ≤ maxLen := by omega
  go_enter Tryz.func77, Tryz.ntmps77
  go_wp2_with (at_make; refine wp_make w (.tmp 6) (.tmp 6) 51 74 4 l.length rfl rfl Tryz.underlying51 (by kernel_rfl) rfl rfl (by omega) (by go_grown) ?_; intro w1 cur hcur hcs hB1 hb1 hlt1)
  go_loopw [4] (fun i wr => ∃ k : Nat, k ≤ l.length ∧ i = .int .i64 k ∧ Below w.heap.size w wr ∧ w.heap.size < wr.heap.size ∧ Hid (Part wr w.heap.size l.length 74 l k)) (fun i _ => l.length - (intOf i).toNat)
  case atStart => exact ⟨0, Nat.zero_le _, rfl, hB1, hlt1, Part.start hcur hcs l⟩
  case round =>
    obtain ⟨k, hk, rfl, hB, hlt, hP⟩ := hrel
    clear hB1 hb1 hlt1 hcur hcs
    by_cases hkl : k < l.length
    · have hx := List.getElem?_eq_getElem hkl
      obtain ⟨eb, eo, ee, rfl, hcl, hcc, hxr⟩ := HE.out k _ hx
      have hxs := HS.out k _ hx
      have HX := Lib.hid hx; clear hx
      generalize l[k] = x at *
      obtain ⟨cur2, hg, hgs⟩ := hP.out.block
      have hgs2 : cur2.size = l.length * 4 := hgs
      have hroom := Nat.mul_le_mul_right 4 (show k + 1 ≤ l.length by omega)
      obtain ⟨x0, x1, x2, x3, rfl⟩ := len4 (show _ = 4 from hcl)
      have p0 : wr.cell? ⟨eb, eo + k * 4, none⟩ = some x0 := (hB.cell (World.block_lt_of_cell? w _ (hcc 0 _ rfl))).trans (hcc 0 _ rfl)
      have p1 : wr.cell? ⟨eb, eo + k * 4 + 1, none⟩ = some x1 := (hB.cell (World.block_lt_of_cell? w _ (hcc 1 _ rfl))).trans (hcc 1 _ rfl)
      have p2 : wr.cell? ⟨eb, eo + k * 4 + 2, none⟩ = some x2 := (hB.cell (World.block_lt_of_cell? w _ (hcc 2 _ rfl))).trans (hcc 2 _ rfl)
      have p3 : wr.cell? ⟨eb, eo + k * 4 + 3, none⟩ = some x3 := (hB.cell (World.block_lt_of_cell? w _ (hcc 3 _ rfl))).trans (hcc 3 _ rfl)
      have HXR := Lib.hid hxr; clear hxr hcc hcl
      have HG := Lib.hid hg; clear hg
      go_wp2_with (go_at_call 92; refine call_retA (w := w) (toAttr_c _ [x0, x1, x2, x3] x (rd_below HXR.out hB) (by omega)) (by go_grown) ?_; intro w2 cs L hB2 hb2 hz2 _ ho hL; obtain rfl := cells_Attr (GoD.own_rd ho); have hg2 := (hb2.block _ hlt).trans HG.out; obtain ⟨z0, q0⟩ : ∃ y, w2.cell? ⟨w.heap.size, k * 4, none⟩ = some y := ⟨_, cells_of_heap hg2 _ (by omega)⟩; obtain ⟨z1, q1⟩ : ∃ y, w2.cell? ⟨w.heap.size, k * 4 + 1, none⟩ = some y := ⟨_, cells_of_heap hg2 _ (by omega)⟩; obtain ⟨z2, q2⟩ : ∃ y, w2.cell? ⟨w.heap.size, k * 4 + 2, none⟩ = some y := ⟨_, cells_of_heap hg2 _ (by omega)⟩; obtain ⟨z3, q3⟩ : ∃ y, w2.cell? ⟨w.heap.size, k * 4 + 3, none⟩ = some y := ⟨_, cells_of_heap hg2 _ (by omega)⟩; have fz := free_of_heap hg2; clear hg2; have HO := Lib.hid ho; clear ho; have HL := Lib.hid hL; clear hL; have HB2 := Lib.hid hb2; clear hb2)
      go_roundw
      case rel => exact ⟨k + 1, by omega, by go_num, by go_grown, by simp only [World.size_setCell]; omega, by
        have h := hP.out.step HB2.out hkl hk HX.out HO.out HL.out
        rw [show GoD.n AttrD = 4 from rfl] at h
        simp only [World.setCells, Nat.add_assoc, Nat.reduceAdd] at h
        exact h⟩
      case measure => simp [intOf]; omega
    · obtain rfl : k = l.length := by omega
      go_wp2
      go_ret
      obtain ⟨L, hL, hLB⟩ := hP.out.done hlm
      exact ⟨_, L, rfl, hB, hL, hLB⟩
set_option maxHeartbeats 1000000 in
theorem toFile_c (w : World) (ca : List Value) (a : FileD) (ha : rd w ca a) (hsz : GoD.size a ≤ 1048576) : Calls Tryz.prog 48 #[.agg ca.toArray] w (RetA w a) := by
  obtain ⟨a1, a2, a3, a4, a5⟩ := a
  obtain ⟨ac1, at1, rfl, ar1, ac2, at2, rfl, ar2, ac3, at3, rfl, ar3, ac4, at4, rfl, ar4, ar5⟩ := ha
  obtain ⟨rfl, ar1⟩ := ar1
  obtain ⟨rfl, ar2⟩ := ar2
  obtain rfl := ar3
  obtain ⟨rfl, ar4⟩ := ar4
  obtain ⟨ax5_0, rfl⟩ := len1 (show _ = 1 from GoD.rd_len ar5)
  dsimp only [List.cons_append, List.nil_append] at *
  replace hsz : (GoD.size a1 + (GoD.size a2 + (GoD.size a3 + (GoD.size a4 + GoD.size a5)))) ≤ 1048576 := hsz
  have AR1H := Lib.hid ar1; clear ar1
  have AR2H := Lib.hid ar2; clear ar2
  have AR4H := Lib.hid ar4; clear ar4
  have AR5H := Lib.hid ar5; clear ar5
  have tok1 : True := trivial
  go_enter Tryz.func48, Tryz.ntmps48
  go_wp2_with (first | (go_at_call 77; have tk := tok1; clear tok1; refine call_retS (w := w) (toAttrS_c _ ax5_0 a5 (rd_below AR5H.out (by go_grown)) (by omega)) (by go_grown) ?_; intro w1 v1 L1 hB hb hz _ ho1 hL1; obtain ⟨oa1, cp1, rfl⟩ := slice_of_own ho1; have hz2 := hb.size; (repeat (first | rewrite [World.size_alloc] at hz2 | rewrite [World.size_setCell] at hz2 | rewrite [World.size_drew] at hz2)); (repeat (first | rewrite [World.size_alloc] at hL1 | rewrite [World.size_setCell] at hL1 | rewrite [World.size_drew] at hL1)); have hlt1 := GoD.own_lt ho1; have c1_0 := fun o => bcell hb (w.heap.size) o (by go_size); have f1_0 := fun o => bfroz hb (w.heap.size) o (by go_size); have c1_1 := fun o => bcell hb (w.heap.size + 1) o (by go_size); have f1_1 := fun o => bfroz hb (w.heap.size + 1) o (by go_size); have c1_2 := fun o => bcell hb (w.heap.size + 1 + 1) o (by go_size); have f1_2 := fun o => bfroz hb (w.heap.size + 1 + 1) o (by go_size); have HO1 := Lib.hid ho1; clear ho1; have HL1 := Lib.hid hL1; clear hL1; have HT1 := Lib.hid hlt1; clear hlt1; have HB1 := Lib.hid hb; clear hb) | ((with_reducible show bodyPost _ _ _ _ _ _); refine bodyPost_ret (v := .agg #[.int .i64 a1, .int .i64 a2, .bool a3, .int .i64 a4, .slice oa1 a5.length cp1]) (by simp [results, Tryz.results48, go_sem, c1_1]) rfl ⟨[.int .i64 a1, .int .i64 a2, .bool a3, .int .i64 a4, .slice oa1 a5.length cp1], ([] ++ ([] ++ ([] ++ ([] ++ L1)))), rfl, by go_grown, ?_, ?_⟩; (exact (own_pair (own_i _ AR1H.out) (own_pair (own_i _ AR2H.out) (own_pair (own_b _ _) (own_pair (own_i _ AR4H.out) (show own L1 _ [.slice oa1 a5.length cp1] a5 by (repeat (first | (with_reducible exact HO1.out) | ((with_reducible refine own_setCell ?_ ?_); rotate_left; exact (fun hm => by have := HL1.out _ hm; omega)) | (with_reducible refine own_alloc ?_) | (with_reducible refine own_drew ?_)))) (by simp)) (by simp)) (by simp)) (by simp))); intro x hx; (try simp only [List.mem_append, List.not_mem_nil, List.append_nil, List.nil_append, false_or, or_false] at hx); rcases hx with hx <;> first | (have := HL1.out x hx; omega)))
set_option maxRecDepth 100000 in
set_option maxHeartbeats 1000000 in
theorem toFileS_c (w : World) (v : Value) (l : List FileD) (ha : rd w [v] l) (hsz : GoD.size l ≤ 1048576) : Calls Tryz.prog 24 #[v] w (RetS w l) := by
  obtain ⟨oa, cap, e1, hl, hm, hel⟩ := ha
  obtain rfl : v = _ := by simpa using e1
  clear e1
  have HE := Lib.hid hel; clear hel
  have hn : l.length ≤ 1048576 := by have := size_list_len l; omega
  have HS := Lib.hid (fun i a (h : l[i]? = some a) => size_list_get h)
  have hlm : l.length ≤ maxLen := by omega
  go_enter Tryz.func24, Tryz.ntmps24
  go_wp2_with (at_make; refine wp_make w (.tmp 6) (.tmp 6) 28 53 5 l.length rfl rfl Tryz.underlying28 (by kernel_rfl) rfl rfl (by omega) (by go_grown) ?_; intro w1 cur hcur hcs hB1 hb1 hlt1)
  go_loopw [4] (fun i wr => ∃ k : Nat, k ≤ l.length ∧ i = .int .i64 k ∧ Below w.heap.size w wr ∧ w.heap.size < wr.heap.size ∧ Hid (Part wr w.heap.size l.length 53 l k)) (fun i _ => l.length - (intOf i).toNat)
  case atStart => exact ⟨0, Nat.zero_le _, rfl, hB1, hlt1, Part.start hcur hcs l⟩
  case round =>
    obtain ⟨k, hk, rfl, hB, hlt, hP⟩ := hrel
    clear hB1 hb1 hlt1 hcur hcs
    by_cases hkl : k < l.length
    · have hx := List.getElem?_eq_getElem hkl
      obtain ⟨eb, eo, ee, rfl, hcl, hcc, hxr⟩ := HE.out k _ hx
      have hxs := HS.out k _ hx
      have HX := Lib.hid hx; clear hx
      generalize l[k] = x at *
      obtain ⟨cur2, hg, hgs⟩ := hP.out.block
      have hgs2 : cur2.size = l.length * 5 := hgs
      have hroom := Nat.mul_le_mul_right 5 (show k + 1 ≤ l.length by omega)
      obtain ⟨x0, x1, x2, x3, x4, rfl⟩ := len5 (show _ = 5 from hcl)
      have p0 : wr.cell? ⟨eb, eo + k * 5, none⟩ = some x0 := (hB.cell (World.block_lt_of_cell? w _ (hcc 0 _ rfl))).trans (hcc 0 _ rfl)
      have p1 : wr.cell? ⟨eb, eo + k * 5 + 1, none⟩ = some x1 := (hB.cell (World.block_lt_of_cell? w _ (hcc 1 _ rfl))).trans (hcc 1 _ rfl)
      have p2 : wr.cell? ⟨eb, eo + k * 5 + 2, none⟩ = some x2 := (hB.cell (World.block_lt_of_cell? w _ (hcc 2 _ rfl))).trans (hcc 2 _ rfl)
      have p3 : wr.cell? ⟨eb, eo + k * 5 + 3, none⟩ = some x3 := (hB.cell (World.block_lt_of_cell? w _ (hcc 3 _ rfl))).trans (hcc 3 _ rfl)
      have p4 : wr.cell? ⟨eb, eo + k * 5 + 4, none⟩ = some x4 := (hB.cell (World.block_lt_of_cell? w _ (hcc 4 _ rfl))).trans (hcc 4 _ rfl)
      have HXR := Lib.hid hxr; clear hxr hcc hcl
      have HG := Lib.hid hg; clear hg
      go_wp2_with (go_at_call 48; refine call_retA (w := w) (toFile_c _ [x0, x1, x2, x3, x4] x (rd_below HXR.out hB) (by omega)) (by go_grown) ?_; intro w2 cs L hB2 hb2 hz2 _ ho hL; obtain ⟨eoa1, ecp1, rfl⟩ := cells_File (GoD.own_rd ho); have hg2 := (hb2.block _ hlt).trans HG.out; obtain ⟨z0, q0⟩ : ∃ y, w2.cell? ⟨w.heap.size, k * 5, none⟩ = some y := ⟨_, cells_of_heap hg2 _ (by omega)⟩; obtain ⟨z1, q1⟩ : ∃ y, w2.cell? ⟨w.heap.size, k * 5 + 1, none⟩ = some y := ⟨_, cells_of_heap hg2 _ (by omega)⟩; obtain ⟨z2, q2⟩ : ∃ y, w2.cell? ⟨w.heap.size, k * 5 + 2, none⟩ = some y := ⟨_, cells_of_heap hg2 _ (by omega)⟩; obtain ⟨z3, q3⟩ : ∃ y, w2.cell? ⟨w.heap.size, k * 5 + 3, none⟩ = some y := ⟨_, cells_of_heap hg2 _ (by omega)⟩; obtain ⟨z4, q4⟩ : ∃ y, w2.cell? ⟨w.heap.size, k * 5 + 4, none⟩ = some y := ⟨_, cells_of_heap hg2 _ (by omega)⟩; have fz := free_of_heap hg2; clear hg2; have HO := Lib.hid ho; clear ho; have HL := Lib.hid hL; clear hL; have HB2 := Lib.hid hb2; clear hb2)
      go_roundw
      case rel => exact ⟨k + 1, by omega, by go_num, by go_grown, by simp only [World.size_setCell]; omega, by
        have h := hP.out.step HB2.out hkl hk HX.out HO.out HL.out
        rw [show GoD.n FileD = 5 from rfl] at h
        simp only [World.setCells, Nat.add_assoc, Nat.reduceAdd] at h
        exact h⟩
      case measure => simp [intOf]; omega
    · obtain rfl : k = l.length := by omega
      go_wp2
      go_ret
      obtain ⟨L, hL, hLB⟩ := hP.out.done hlm
      exact ⟨_, L, rfl, hB, hL, hLB⟩
set_option maxHeartbeats 1000000 in
theorem toStore_c (w : World) (ca : List Value) (a : StoreD) (ha : rd w ca a) (hsz : GoD.size a ≤ 1048576) : Calls Tryz.prog 6 #[.agg ca.toArray] w (RetA w a) := by
  obtain ⟨a1, a2, a3⟩ := a
  obtain ⟨ac1, at1, rfl, ar1, ac2, at2, rfl, ar2, ar3⟩ := ha
  obtain ⟨ax1_0, rfl⟩ := len1 (show _ = 1 from GoD.rd_len ar1)
  obtain ⟨ax2_0, rfl⟩ := len1 (show _ = 1 from GoD.rd_len ar2)
  obtain ⟨rfl, ar3⟩ := ar3
  dsimp only [List.cons_append, List.nil_append] at *
  replace hsz : (GoD.size a1 + (GoD.size a2 + GoD.size a3)) ≤ 1048576 := hsz
  have AR1H := Lib.hid ar1; clear ar1
  have AR2H := Lib.hid ar2; clear ar2
  have AR3H := Lib.hid ar3; clear ar3
  have tok1 : True := trivial
  have tok2 : True := trivial
  go_enter Tryz.func6, Tryz.ntmps6
  go_wp2_with (first | (go_at_call 23; have tk := tok1; clear tok1; refine call_retS (w := w) (toFieldS_c _ ax1_0 a1 (rd_below AR1H.out (by go_grown)) (by omega)) (by go_grown) ?_; intro w1 v1 L1 hB hb hz _ ho1 hL1; obtain ⟨oa1, cp1, rfl⟩ := slice_of_own ho1; have hz2 := hb.size; (repeat (first | rewrite [World.size_alloc] at hz2 | rewrite [World.size_setCell] at hz2 | rewrite [World.size_drew] at hz2)); (repeat (first | rewrite [World.size_alloc] at hL1 | rewrite [World.size_setCell] at hL1 | rewrite [World.size_drew] at hL1)); have hlt1 := GoD.own_lt ho1; have c1_0 := fun o => bcell hb (w.heap.size) o (by go_size); have f1_0 := fun o => bfroz hb (w.heap.size) o (by go_size); have c1_1 := fun o => bcell hb (w.heap.size + 1) o (by go_size); have f1_1 := fun o => bfroz hb (w.heap.size + 1) o (by go_size); have c1_2 := fun o => bcell hb (w.heap.size + 1 + 1) o (by go_size); have f1_2 := fun o => bfroz hb (w.heap.size + 1 + 1) o (by go_size); have HO1 := Lib.hid ho1; clear ho1; have HL1 := Lib.hid hL1; clear hL1; have HT1 := Lib.hid hlt1; clear hlt1; have HB1 := Lib.hid hb; clear hb) | (go_at_call 24; have tk := tok2; clear tok2; refine call_retS (w := w) (toFileS_c _ ax2_0 a2 (rd_below AR2H.out (by go_grown)) (by omega)) (by go_grown) ?_; intro w2 v2 L2 hB hb hz _ ho2 hL2; obtain ⟨oa2, cp2, rfl⟩ := slice_of_own ho2; have hz2 := hb.size; (repeat (first | rewrite [World.size_alloc] at hz2 | rewrite [World.size_setCell] at hz2 | rewrite [World.size_drew] at hz2)); (repeat (first | rewrite [World.size_alloc] at hL2 | rewrite [World.size_setCell] at hL2 | rewrite [World.size_drew] at hL2)); have hlt2 := GoD.own_lt ho2; have c2_0 := fun o => bcell hb (w.heap.size) o (by go_size); have f2_0 := fun o => bfroz hb (w.heap.size) o (by go_size); have c2_1 := fun o => bcell hb (w.heap.size + 1) o (by go_size); have f2_1 := fun o => bfroz hb (w.heap.size + 1) o (by go_size); have c2_2 := fun o => bcell hb (w.heap.size + 1 + 1) o (by go_size); have f2_2 := fun o => bfroz hb (w.heap.size + 1 + 1) o (by go_size); have HO2 := Lib.hid ho2; clear ho2; have HL2 := Lib.hid hL2; clear hL2; have HT2 := Lib.hid hlt2; clear hlt2; have HB2 := Lib.hid hb; clear hb) | ((with_reducible show bodyPost _ _ _ _ _ _); refine bodyPost_ret (v := .agg #[.slice oa1 a1.length cp1, .slice oa2 a2.length cp2, .int .i64 a3]) (by simp [results, Tryz.results6, go_sem, c1_1, c2_1]) rfl ⟨[.slice oa1 a1.length cp1, .slice oa2 a2.length cp2, .int .i64 a3], (L1 ++ (L2 ++ [])), rfl, by go_grown, ?_, ?_⟩; (exact (own_pair (show own L1 _ [.slice oa1 a1.length cp1] a1 by (repeat (first | (with_reducible exact HO1.out) | ((with_reducible refine own_setCell ?_ ?_); rotate_left; exact (fun hm => by have := HL1.out _ hm; omega)) | (with_reducible refine own_alloc ?_) | (with_reducible refine own_drew ?_) | (with_reducible refine own_below ?_ HB2.out)))) (own_pair (show own L2 _ [.slice oa2 a2.length cp2] a2 by (repeat (first | (with_reducible exact HO2.out) | ((with_reducible refine own_setCell ?_ ?_); rotate_left; exact (fun hm => by have := HL2.out _ hm; omega)) | (with_reducible refine own_alloc ?_) | (with_reducible refine own_drew ?_)))) (own_i _ AR3H.out) (by simp)) (fun x hx hy => by (try simp only [List.mem_append, List.not_mem_nil, List.append_nil, List.nil_append, false_or, or_false] at hy); have := HT1.out x hx; rcases hy with hy <;> (first | (have := HL2.out x hy; omega))))); intro x hx; (try simp only [List.mem_append, List.not_mem_nil, List.append_nil, List.nil_append, false_or, or_false] at hx); rcases hx with hx | hx <;> first | (have := HL1.out x hx; omega) | (have := HL2.out x hx; omega)))
open GoE (enc wide)
theorem szStore_a (a : StoreD) (left : Int) (h0 : 0 ≤ left) (h1 : left ≤ 1048576) : ACalls Tryz.prog 4 [argA a, intA left] (intA (szI (GoD.size a) left)) := acalls_szA (by unfold FnOk; kernel_rfl) h0 h1 fun w c hr => szStore_c w c a left hr h0 h1
theorem toStore_a (a : StoreD) (h : GoD.size a ≤ 1048576) : ACalls Tryz.prog 6 [argA a] (resA a) := acalls_toA (by unfold FnOk; kernel_rfl) fun w c hr => toStore_c w c a hr h
theorem eqStore_a {a b : StoreD} (h : a = b) : ACalls Tryz.prog 8 [argA a, argA b] (boolA true) := acalls_eqA (by unfold FnOk; kernel_rfl) h fun w c c2 h1 h2 => eqStore_c w c c2 a b h1 h2
theorem eqIntS_a {a b : (List Int)} (h : a = b) : ACalls Tryz.prog 9 [argS a, argS b] (boolA true) := acalls_eqS (by unfold FnOk; kernel_rfl) h fun w c c2 h1 h2 => eqIntS_c w c c2 a b h1 h2
theorem markStore_m (a : StoreD) (K : Int) (k : Nat) (hK : K = k) (h1 : 1 ≤ k) (hk : k ≤ 1152921504606846976) (hs : GoD.size a ≤ 1073741824) : MarkA Tryz.prog 10 a K (GoD.markT a k) := ⟨(by unfold FnOk; kernel_rfl), fun w L c ho => markStore_c w c a L K k hK h1 (by have := bdT (a := a) (k := k) (by decide) hs; omega) ho⟩
theorem markIntS_m (a : (List Int)) (K : Int) (k : Nat) (hK : K = k) (h1 : 1 ≤ k) (hk : k ≤ 1152921504606846976) (hs : GoD.size a ≤ 1073741824) : MarkS Tryz.prog 11 a K (markS a k) := ⟨(by unfold FnOk; kernel_rfl), fun w L c ho => markIntS_c w c a L K k hK h1 (by have := bdS (l := a) (k := k) (by decide) hs; omega) ho⟩
theorem heldStore_a (a : StoreD) (hs : GoD.size a ≤ 1073741824) : ACalls Tryz.prog 12 [argA (GoD.markT a 1).1, intA 1] (intA ((GoD.markT a 1).2 : Nat)) := acalls_heA (by unfold FnOk; kernel_rfl) (by have := bdT (a := a) (k := 1) (by decide) hs; rw [inR_i64]; unfold I64; omega) fun w c hr => heldStore_c w c a _ 1 1 rfl (by omega) (by have := bdT (a := a) (k := 1) (by decide) hs; omega) rfl hr
theorem heldIntS_a (a : (List Int)) (hs : GoD.size a ≤ 1073741824) : ACalls Tryz.prog 13 [argS (markS a 1).1, intA 1] (intA ((markS a 1).2 : Nat)) := acalls_heS (by unfold FnOk; kernel_rfl) (by have := bdS (l := a) (k := 1) (by decide) hs; rw [inR_i64]; unfold I64; omega) fun w c hr => heldIntS_c w c a _ 1 1 rfl (by omega) (by have := bdS (l := a) (k := 1) (by decide) hs; omega) rfl hr
theorem heldIntS_k (a : (List Int)) (k : Nat) (h1 : 1 ≤ k) (hk : k ≤ 1152921504606846976) (hs : GoD.size a ≤ 1073741824) : ACalls Tryz.prog 13 [argS (markS a k).1, intA (k : Int)] (intA ((markS a k).2 : Nat)) := acalls_heS (by unfold FnOk; kernel_rfl) (by have := bdS (l := a) (k := k) (by decide) hs; rw [inR_i64]; unfold I64; omega) fun w c hr => heldIntS_c w c a _ k k rfl h1 (by have := bdS (l := a) (k := k) (by decide) hs; omega) rfl hr
noncomputable def lawsFnExactChangeFieldKind (aS : StoreD) (aName : ByteArray) (aKind : Int) : Bool := (bif decide ((ByteArray.size aName : Int) > (1048576 : Int)) then true else (bif decide ((szI (GoD.size aS) 1048576) < (0 : Int)) then true else true))
theorem lawsFnExactChangeFieldKind_a (aS : StoreD) (aName : ByteArray) (aKind : Int) : ACalls Tryz.prog 3 [.a [.h aS.1, .h aS.2.1, .i aS.2.2], .s aName, .i aKind] (.b (lawsFnExactChangeFieldKind aS aName aKind)) := by
  refine en tt_ok Tryz.func3 fun w0 F0 hG => ?_
  refine sn tt_ok [1, 2, 3, 6] [3] (p0) ?_
  refine awp_seq ?_
  refine tn tt_ok [1, 2, 3, 6, 23] [3] (p0) ?_
  refine ck (decide ((ByteArray.size aName : Int) > (1048576 : Int))) (fun h1 => ?_) (fun h1 => ?_)
  ·
    have h1d := of_decide_eq_true h1
    refine tu tt_ok [(3, .p 3 0), (6, .b true)] [0] [(3, [.h aS.1, .h aS.2.1, .i aS.2.2])] [] (p0) ?_
    refine awp_ret ?_
    exact pb [] (bif_t h1 (rfl))
  ·
    have h1d := of_decide_eq_false h1
    refine awp_skip ?_
    refine tu tt_ok [(3, .p 3 0), (6, .b false), (7, .i 1048576)] [0] [(3, [.h aS.1, .h aS.2.1, .i aS.2.2])] [] (p0) ?_
    have hz2 := szI_bd (GoD.size aS) 1048576
    refine sn tt_ok [1, 2, 3, 6, 7] [3] (pc 2 (szStore_a aS 1048576 (by omega) (by omega)) p0) ?_
    refine awp_seq ?_
    refine tn tt_ok [1, 2, 3, 6, 28] [3] (p0) ?_
    refine ck (decide ((szI (GoD.size aS) 1048576) < (0 : Int))) (fun h3 => ?_) (fun h3 => ?_)
    ·
      have h3d := of_decide_eq_true h3
      refine tu tt_ok [(6, .b true)] [6, 7] [] [] (p0) ?_
      refine awp_ret ?_
      exact pb [] (bif_f h1 (bif_t h3 (rfl)))
    ·
      have h3d := of_decide_eq_false h3
      refine awp_skip ?_
      have hsz_aS : GoD.size aS ≤ 1048576 := by omega
      refine tu tt_ok [(8, .p 8 0), (9, .o 2178 (((implChangeFieldKind aS aName aKind)).2.1)), (10, .b (((implChangeFieldKind aS aName aKind)).2.2))] [7] [(8, [.o 2176 ((((implChangeFieldKind aS aName aKind)).1).1), .o 2177 ((((implChangeFieldKind aS aName aKind)).1).2.1), .i ((((implChangeFieldKind aS aName aKind)).1).2.2)])] [] (pc 1 (toStore_a aS hsz_aS) (pc 4 ((changeKind_eq aS aName aKind) ▸ (specChangeFieldKind_a aS aName aKind)) p0)) ?_
      refine sn tt_ok [1, 2, 3, 6, 8, 9, 10, 11] [3, 8, 11] (pc 1 (toStore_a aS hsz_aS) p0) ?_
      refine tn tt_ok [1, 2, 3, 6, 8, 9, 10, 11, 12, 13, 14] [3, 8, 11, 12] (pc 3 (implChangeFieldKind_a aS aName aKind) p0) ?_
      refine awp_seq ?_
      refine tu tt_ok [(11, .p 11 0), (12, .p 12 0), (13, .o 2818 (((implChangeFieldKind aS aName aKind)).2.1)), (14, .b (((implChangeFieldKind aS aName aKind)).2.2)), (62, .b false)] [] [(11, [.o 2496 aS.1, .o 2497 aS.2.1, .i aS.2.2]), (12, [.o 2816 ((((implChangeFieldKind aS aName aKind)).1).1), .o 2817 ((((implChangeFieldKind aS aName aKind)).1).2.1), .i ((((implChangeFieldKind aS aName aKind)).1).2.2)])] [] (pc 2 (eqStore_a (a := ((implChangeFieldKind aS aName aKind)).1) (b := ((implChangeFieldKind aS aName aKind)).1) (rfl)) (pe 3 (show .b (!true) = .b false from rfl) (pc 7 (eqIntS_a (a := ((implChangeFieldKind aS aName aKind)).2.1) (b := ((implChangeFieldKind aS aName aKind)).2.1) (rfl)) (pe 8 (show .b (!true) = .b false from rfl) (pe 13 (show .b (!((((implChangeFieldKind aS aName aKind)).2.2) == (((implChangeFieldKind aS aName aKind)).2.2))) = .b false from av_bool (by simp)) p0))))) ?_
      refine ckF ?_
      refine awp_skip ?_
      refine awp_seq ?_
      refine sU tt_ok tt_mx [(67, .b false)] [62] [] [] (pc 2 (toStore_a aS hsz_aS) (pc 3 (eqStore_a (a := aS) (b := aS) (rfl)) (pe 4 (show .b (!true) = .b false from rfl) p0))) ?_
      refine ckF ?_
      refine awp_skip ?_
      refine su tt_ok [(15, .i 1)] [67] [] [] (p0) ?_
      refine awp_seq ?_
      have hm4 := bdT (a := aS) (k := 1) (by decide) (Nat.le_trans hsz_aS (by decide))
      have hm5 := GoD.mkT_le aS 1
      refine awp_markA tt_ok (markStore_m aS 1 1 rfl (by omega) (by omega) ((Nat.le_trans hsz_aS (by decide)))) (by rw [inR_i64]; unfold I64; omega) GoM.mkT [2496, 2497] [1, 2, 3, 6, 8, 9, 10, 12, 13, 14, 15] [3, 8, 12] (s' := ⟨[(1, .s aName), (2, .i aKind), (3, .p 3 0), (6, .b false), (8, .p 8 0), (9, .o 2178 (((implChangeFieldKind aS aName aKind)).2.1)), (10, .b (((implChangeFieldKind aS aName aKind)).2.2)), (12, .p 12 0), (13, .o 2818 (((implChangeFieldKind aS aName aKind)).2.1)), (14, .b (((implChangeFieldKind aS aName aKind)).2.2)), (15, .i (((GoD.markT aS 1).2 : Nat) : Int))], [(3, [.h aS.1, .h aS.2.1, .i aS.2.2]), (8, [.o 2176 ((((implChangeFieldKind aS aName aKind)).1).1), .o 2177 ((((implChangeFieldKind aS aName aKind)).1).2.1), .i ((((implChangeFieldKind aS aName aKind)).1).2.2)]), (12, [.o 2816 ((((implChangeFieldKind aS aName aKind)).1).1), .o 2817 ((((implChangeFieldKind aS aName aKind)).1).2.1), .i ((((implChangeFieldKind aS aName aKind)).1).2.2)])]⟩) rfl rfl rfl rfl rfl rfl rfl rfl rfl rfl rfl rfl (by kernel_rfl) rfl rfl (by kernel_rfl) rfl rfl (by kernel_rfl) (by kernel_rfl) rfl (by kernel_rfl) ?_
      refine awp_seq ?_
      refine su tt_ok [(89, .b false)] [14, 15] [] [] (pe 1 (av_df (p := (((GoD.markT aS 1).2 : Nat) : Int) < (0 : Int)) (by omega)) (pc 5 (eqStore_a (a := ((implChangeFieldKind aS aName aKind)).1) (b := ((implChangeFieldKind aS aName aKind)).1) (rfl)) (pe 6 (show .b (!true) = .b false from rfl) (pc 11 (eqIntS_a (a := ((implChangeFieldKind aS aName aKind)).2.1) (b := ((implChangeFieldKind aS aName aKind)).2.1) (rfl)) (pe 12 (show .b (!true) = .b false from rfl) (pe 17 (show .b (!((((implChangeFieldKind aS aName aKind)).2.2) == (((implChangeFieldKind aS aName aKind)).2.2))) = .b false from av_bool (by simp)) p0)))))) ?_
      refine ckF ?_
      refine awp_skip ?_
      refine su tt_ok [(16, .i 1)] [89] [] [] (p0) ?_
      refine awp_seq ?_
      have hm6 := bdT (a := (((implChangeFieldKind aS aName aKind)).1)) (k := 1) (by decide) (by first | exact cf_size aS aName aKind ⟨by omega, by omega⟩ | exact cf_sizeI aS aName aKind)
      have hm7 := GoD.mkT_le (((implChangeFieldKind aS aName aKind)).1) 1
      refine awp_markA tt_ok (markStore_m (((implChangeFieldKind aS aName aKind)).1) 1 1 rfl (by omega) (by omega) ((by first | exact cf_size aS aName aKind ⟨by omega, by omega⟩ | exact cf_sizeI aS aName aKind))) (by rw [inR_i64]; unfold I64; omega) GoM.mkT [2816, 2817] [1, 2, 3, 6, 8, 9, 10, 12, 13, 16] [3, 8, 12] (s' := ⟨[(1, .s aName), (2, .i aKind), (3, .p 3 0), (6, .b false), (8, .p 8 0), (9, .o 2178 (((implChangeFieldKind aS aName aKind)).2.1)), (10, .b (((implChangeFieldKind aS aName aKind)).2.2)), (12, .p 12 0), (13, .o 2818 (((implChangeFieldKind aS aName aKind)).2.1)), (16, .i (((GoD.markT (((implChangeFieldKind aS aName aKind)).1) 1).2 : Nat) : Int))], [(3, [.h aS.1, .h aS.2.1, .i aS.2.2]), (8, [.o 2176 ((((implChangeFieldKind aS aName aKind)).1).1), .o 2177 ((((implChangeFieldKind aS aName aKind)).1).2.1), .i ((((implChangeFieldKind aS aName aKind)).1).2.2)]), (12, [.h (((GoD.markT (((implChangeFieldKind aS aName aKind)).1) 1).1).1), .h (((GoD.markT (((implChangeFieldKind aS aName aKind)).1) 1).1).2.1), .i (((GoD.markT (((implChangeFieldKind aS aName aKind)).1) 1).1).2.2)])]⟩) rfl rfl rfl rfl rfl rfl rfl rfl rfl rfl rfl rfl (by kernel_rfl) rfl rfl (by kernel_rfl) rfl rfl (by kernel_rfl) (by kernel_rfl) rfl (by kernel_rfl) ?_
      refine awp_seq ?_
      have hm8 := bdS (l := (((implChangeFieldKind aS aName aKind)).2.1)) (k := (GoD.markT (((implChangeFieldKind aS aName aKind)).1) 1).2) (by decide) (by first | exact cf_size aS aName aKind ⟨by omega, by omega⟩ | exact cf_sizeI aS aName aKind)
      have hm9 := markS_le (((implChangeFieldKind aS aName aKind)).2.1) ((GoD.markT (((implChangeFieldKind aS aName aKind)).1) 1).2)
      refine awp_markS (markIntS_m (((implChangeFieldKind aS aName aKind)).2.1) (((GoD.markT (((implChangeFieldKind aS aName aKind)).1) 1).2 : Nat) : Int) ((GoD.markT (((implChangeFieldKind aS aName aKind)).1) 1).2) rfl (by omega) (by omega) ((by first | exact cf_size aS aName aKind ⟨by omega, by omega⟩ | exact cf_sizeI aS aName aKind))) (by rw [inR_i64]; unfold I64; omega) GoM.mkT 2818 [1, 2, 3, 6, 8, 9, 10, 12, 13, 16] [3, 8, 12] (s' := ⟨[(1, .s aName), (2, .i aKind), (3, .p 3 0), (6, .b false), (8, .p 8 0), (9, .o 2178 (((implChangeFieldKind aS aName aKind)).2.1)), (10, .b (((implChangeFieldKind aS aName aKind)).2.2)), (12, .p 12 0), (13, .h ((markS (((implChangeFieldKind aS aName aKind)).2.1) ((GoD.markT (((implChangeFieldKind aS aName aKind)).1) 1).2)).1)), (16, .i (((markS (((implChangeFieldKind aS aName aKind)).2.1) ((GoD.markT (((implChangeFieldKind aS aName aKind)).1) 1).2)).2 : Nat) : Int))], [(3, [.h aS.1, .h aS.2.1, .i aS.2.2]), (8, [.o 2176 ((((implChangeFieldKind aS aName aKind)).1).1), .o 2177 ((((implChangeFieldKind aS aName aKind)).1).2.1), .i ((((implChangeFieldKind aS aName aKind)).1).2.2)]), (12, [.h (((GoD.markT (((implChangeFieldKind aS aName aKind)).1) 1).1).1), .h (((GoD.markT (((implChangeFieldKind aS aName aKind)).1) 1).1).2.1), .i (((GoD.markT (((implChangeFieldKind aS aName aKind)).1) 1).1).2.2)])]⟩) rfl rfl rfl rfl rfl rfl rfl rfl rfl rfl rfl rfl (by kernel_rfl) (by kernel_rfl) rfl rfl (by kernel_rfl) ?_
      refine su tt_ok [(17, .i 1)] [] [] [] (p0) ?_
      refine sn tt_ok [1, 2, 3, 6, 8, 9, 10, 12, 13, 16, 17] [3, 8, 12] (pc 2 (heldStore_a (((implChangeFieldKind aS aName aKind)).1) (by first | exact cf_size aS aName aKind ⟨by omega, by omega⟩ | exact cf_sizeI aS aName aKind)) p0) ?_
      refine awp_seq ?_
      refine tn tt_ok [1, 2, 3, 6, 8, 9, 10, 12, 13, 16, 17, 100] [3, 8, 12] (pe 1 (av_df (p := (((GoD.markT (((implChangeFieldKind aS aName aKind)).1) 1).2 : Nat) : Int) < (0 : Int)) (by omega)) p0) ?_
      refine ckF ?_
      refine awp_skip ?_
      refine tu tt_ok [(17, .i (((markS (((implChangeFieldKind aS aName aKind)).2.1) ((GoD.markT (((implChangeFieldKind aS aName aKind)).1) 1).2)).2 : Nat) : Int))] [17] [] [] (pc 2 (heldIntS_k (((implChangeFieldKind aS aName aKind)).2.1) ((GoD.markT (((implChangeFieldKind aS aName aKind)).1) 1).2) (by omega) (by omega) (by first | exact cf_size aS aName aKind ⟨by omega, by omega⟩ | exact cf_sizeI aS aName aKind)) p0) ?_
      refine awp_seq ?_
      refine su tt_ok [(105, .b false)] [] [] [] (pe 1 (av_df (p := (((markS (((implChangeFieldKind aS aName aKind)).2.1) ((GoD.markT (((implChangeFieldKind aS aName aKind)).1) 1).2)).2 : Nat) : Int) < (0 : Int)) (by omega)) p0) ?_
      refine ckF ?_
      refine awp_skip ?_
      refine awp_seq ?_
      refine su tt_ok [(108, .b false)] [105] [] [] (pe 2 (show .b ((((markS (((implChangeFieldKind aS aName aKind)).2.1) ((GoD.markT (((implChangeFieldKind aS aName aKind)).1) 1).2)).2 : Nat) : Int) != (((markS (((implChangeFieldKind aS aName aKind)).2.1) ((GoD.markT (((implChangeFieldKind aS aName aKind)).1) 1).2)).2 : Nat) : Int)) = .b false from av_bool (by simp)) p0) ?_
      refine ckF ?_
      refine awp_skip ?_
      refine sn tt_ok [6, 8, 9, 10, 12, 13, 16, 17, 18, 19, 20] [8, 12, 18] (pc 1 (toStore_a aS hsz_aS) (pc 4 (implChangeFieldKind_a aS aName aKind) p0)) ?_
      refine awp_seq ?_
      refine tn tt_ok [6, 12, 13, 16, 17, 132] [12] (pc 2 (eqStore_a (a := ((implChangeFieldKind aS aName aKind)).1) (b := ((implChangeFieldKind aS aName aKind)).1) (rfl)) (pe 3 (show .b (!true) = .b false from rfl) (pc 7 (eqIntS_a (a := ((implChangeFieldKind aS aName aKind)).2.1) (b := ((implChangeFieldKind aS aName aKind)).2.1) (rfl)) (pe 8 (show .b (!true) = .b false from rfl) (pe 13 (show .b (!((((implChangeFieldKind aS aName aKind)).2.2) == (((implChangeFieldKind aS aName aKind)).2.2))) = .b false from av_bool (by simp)) p0))))) ?_
      refine ckF ?_
      refine awp_skip ?_
      refine tu tt_ok [(17, .i 1)] [1, 2, 3, 8, 9, 10, 17, 108] [] [3, 8] (p0) ?_
      refine sn tt_ok [6, 13, 16, 17] [] (pc 2 (heldStore_a (((implChangeFieldKind aS aName aKind)).1) (by first | exact cf_size aS aName aKind ⟨by omega, by omega⟩ | exact cf_sizeI aS aName aKind)) p0) ?_
      refine awp_seq ?_
      refine tn tt_ok [6, 13, 16, 17, 137] [] (pe 1 (av_df (p := (((GoD.markT (((implChangeFieldKind aS aName aKind)).1) 1).2 : Nat) : Int) < (0 : Int)) (by omega)) p0) ?_
      refine ckF ?_
      refine awp_skip ?_
      refine tu tt_ok [(17, .i (((markS (((implChangeFieldKind aS aName aKind)).2.1) ((GoD.markT (((implChangeFieldKind aS aName aKind)).1) 1).2)).2 : Nat) : Int))] [12, 13, 17] [] [12] (pc 2 (heldIntS_k (((implChangeFieldKind aS aName aKind)).2.1) ((GoD.markT (((implChangeFieldKind aS aName aKind)).1) 1).2) (by omega) (by omega) (by first | exact cf_size aS aName aKind ⟨by omega, by omega⟩ | exact cf_sizeI aS aName aKind)) p0) ?_
      refine awp_seq ?_
      refine sn tt_ok [6, 16, 17, 142] [] (pe 1 (av_df (p := (((markS (((implChangeFieldKind aS aName aKind)).2.1) ((GoD.markT (((implChangeFieldKind aS aName aKind)).1) 1).2)).2 : Nat) : Int) < (0 : Int)) (by omega)) p0) ?_
      refine ckF ?_
      refine awp_skip ?_
      refine awp_seq ?_
      refine tn tt_ok [6, 145] [] (pe 2 (show .b ((((markS (((implChangeFieldKind aS aName aKind)).2.1) ((GoD.markT (((implChangeFieldKind aS aName aKind)).1) 1).2)).2 : Nat) : Int) != (((markS (((implChangeFieldKind aS aName aKind)).2.1) ((GoD.markT (((implChangeFieldKind aS aName aKind)).1) 1).2)).2 : Nat) : Int)) = .b false from av_bool (by simp)) p0) ?_
      refine ckF ?_
      refine awp_skip ?_
      refine tu tt_ok [(6, .b true)] [6, 16, 17] [] [] (p0) ?_
      refine awp_ret ?_
      exact pb [] (bif_f h1 (bif_f h3 (rfl)))
open GoD (rd own)
set_option maxRecDepth 100000 in
set_option maxHeartbeats 1000000 in
theorem bigChangeFieldKind (w : World) (c0 : List Value) (a0 : StoreD) (h0 : rd w c0 a0) (a1 : ByteArray) (h1 : a1.size ≤ maxLen) (a2 : Int) (h2 : I64 a2) (hbig : ¬ (GoD.size a0 ≤ 1048576 ∧ a1.size ≤ 1048576)) : Calls Tryz.prog 3 #[.agg c0.toArray, .string a1, .int .i64 a2] w (Ret w (.bool true)) := by
  obtain ⟨p0_oa1, p0_cp1, p0_oa2, p0_cp2, rfl⟩ := cells_Store h0
  have HA0 := Lib.hid h0; clear h0
  have HA1 := Lib.hid h1; clear h1
  have hln1 : a1.size ≤ 9223372036854775807 := by have := HA1.out; unfold maxLen at this; omega
  have HA2 := Lib.hid h2; clear h2
  have tok1 : True := trivial
  go_enter Tryz.func3, Tryz.ntmps3
  go_wp2_with (first | (go_at_call 4; have tk := tok1; clear tok1; refine call_sz (w := w) (szStore_c _ [.slice p0_oa1 a0.1.length p0_cp1, .slice p0_oa2 a0.2.1.length p0_cp2, .int .i64 a0.2.2] a0 _ (rd_below HA0.out (by repeat (first | (with_reducible exact Below.refl _ _) | (with_reducible refine Below.alloc ?_ (by go_size) _) | (with_reducible refine Below.drew ?_)))) (by omega) (by omega)) (by repeat (first | (with_reducible exact Below.refl _ _) | (with_reducible refine Below.alloc ?_ (by go_size) _) | (with_reducible refine Below.drew ?_))) ?_; intro w1 r1 hB1 hb hz1 _ hr hs1; have HR1 := Lib.hid hr; clear hr; have hz2 := hb.size; (repeat (first | rewrite [World.size_alloc] at hz2 | rewrite [World.size_setCell] at hz2 | rewrite [World.size_drew] at hz2)); have c1_0 := fun o => bcell hb (w.heap.size) o (by go_size); have l1_0 : w.heap.size < w1.heap.size := (by go_size); have HB1 := Lib.hid hb; clear hb) | (exfalso; have q1 := HR1.out; apply hbig; unfold szq at *; omega))
  all_goals
    go_ret
    refine ⟨rfl, ?_⟩
    first | (with_reducible assumption) | go_grown
theorem lawsFnExactChangeFieldKind_true (a0 : StoreD) (a1 : ByteArray) (a2 : Int) : lawsFnExactChangeFieldKind a0 a1 a2 = true := by
  unfold lawsFnExactChangeFieldKind
  simp
theorem lawChangeFieldKind (w : World) (c0 : List Value) (a0 : StoreD) (h0 : rd w c0 a0) (a1 : ByteArray) (h1 : a1.size ≤ maxLen) (a2 : Int) (h2 : I64 a2) (ht : tabOk w) (he : errOk w) : Calls Tryz.prog 3 #[.agg c0.toArray, .string a1, .int .i64 a2] w (Ret w (.bool true)) := by
  by_cases hbig : GoD.size a0 ≤ 1048576 ∧ a1.size ≤ 1048576
  · haveI : Good Tryz.prog w := ⟨fun _ _ => ht, fun _ _ => he⟩
    have h := (lawsFnExactChangeFieldKind_a a0 a1 a2).run (.cons (arg_agg h0 (GoE.wide_size (show GoD.size a0 ≤ 1073741824 by omega))) (.cons (arg_str h1) (.cons (arg_int h2) .nil)))
    rw [lawsFnExactChangeFieldKind_true] at h
    exact h.mono fun _ _ h => ret_bool h
  · exact bigChangeFieldKind w c0 a0 h0 a1 h1 a2 h2 hbig
end Go.Proofs.YtdakhddpcfimaaaGreatDoor
