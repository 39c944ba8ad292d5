/- Texts of this proof, put together by a program: Una, LUn, Unl, MUn. -/
import Derived.Test.YtncjdkfjhkpkmaaP5
import Derived.KernelRfl
import Derived.Outline
set_option linter.unusedVariables false
set_option linter.unusedSimpArgs false
namespace Go.Proofs.Ytncjdkfjhkpkmaa
open Go.RowKit
open GoE (enc wide)
def implIsListed (s_ : StoreD) (d : (List DirD)) (user : Int) (name : ByteArray) (id : Int) : Bool := (implContainsID (implListDir s_ d user name) id)
theorem implIsListed_a (s_ : StoreD) (d : (List DirD)) (user : Int) (name : ByteArray) (id : Int) : ACalls Try.prog 9 [.a [.h s_.1, .h s_.2.1, .i s_.2.2], .h d, .i user, .s name, .i id] (.b (implIsListed s_ d user name id)) := by
  refine acalls_of (tt := tt) tt_ok Try.func9 (fn := Try.f9) rfl (by unfold FnOk; kernel_rfl) (Nat.le_of_ble_eq_true rfl) fun w0 F0 hG => ?_
  refine awp_seq ?_
  refine rk tt_ok [(5, .p 5 0), (10, .b false)] [0] [(5, [.h s_.1, .h s_.2.1, .i s_.2.2])] [] [] (o0) ?_
  refine awp_seq ?_
  refine rk tt_ok [(10, .b (implContainsID (implListDir s_ d user name) id))] [1, 2, 3, 4, 5, 10] [] [5] [(4, .val (.o 0 (implListDir s_ d user name))), (6, .val (.b (implContainsID (implListDir s_ d user name) id)))] (o2 (ob_call (implListDir_a s_ d user name)) (o1 (ob_call (implContainsID_a (implListDir s_ d user name) id)))) ?_
  refine awp_ret ?_
  exact pret [] (congrArg (fun z => (.b z : AV)) (show implIsListed s_ d user name id = (implContainsID (implListDir s_ d user name) id) from rfl).symm)
def implCountListed (s_ : StoreD) (d : (List DirD)) (user : Int) (name : ByteArray) : Int := ((implListDir s_ d user name).length : Int)
theorem implCountListed_a (s_ : StoreD) (d : (List DirD)) (user : Int) (name : ByteArray) : ACalls Try.prog 10 [.a [.h s_.1, .h s_.2.1, .i s_.2.2], .h d, .i user, .s name] (.i (implCountListed s_ d user name)) := by
  refine acalls_of (tt := tt) tt_ok Try.func10 (fn := Try.f10) rfl (by unfold FnOk; kernel_rfl) (Nat.le_of_ble_eq_true rfl) fun w0 F0 hG => ?_
  refine awp_seq ?_
  refine rk tt_ok [(4, .p 4 0), (8, .i 0)] [0] [(4, [.h s_.1, .h s_.2.1, .i s_.2.2])] [] [] (o0) ?_
  refine awp_seq ?_
  refine rk tt_ok [(8, .i ((implListDir s_ d user name).length : Int))] [1, 2, 3, 4, 8] [] [4] [(4, .val (.o 0 (implListDir s_ d user name))), (5, .val (.i ((implListDir s_ d user name).length : Int)))] (o2 (ob_call (implListDir_a s_ d user name)) (o1 (ob_eq (av_len (implListDir s_ d user name))))) ?_
  refine awp_ret ?_
  exact pret [] (congrArg (fun z => (.i z : AV)) (show implCountListed s_ d user name = ((implListDir s_ d user name).length : Int) from rfl).symm)
def specl04Copy (f : FileD) : FileD := f
theorem specl04Copy_a (f : FileD) : ACalls Try.prog 15 [.a [.i f.1, .i f.2.1, .b f.2.2.1, .i f.2.2.2.1, .h f.2.2.2.2]] (.a [.i ((specl04Copy f).1), .i ((specl04Copy f).2.1), .b ((specl04Copy f).2.2.1), .i ((specl04Copy f).2.2.2.1), .o 0 ((specl04Copy f).2.2.2.2)]) := by
  refine acalls_of (tt := tt) tt_ok Try.func15 (fn := Try.f15) rfl (by unfold FnOk; kernel_rfl) (Nat.le_of_ble_eq_true rfl) fun w0 F0 hG => ?_
  refine awp_seq ?_
  refine rk tt_ok [(1, .p 1 0), (2, .p 2 0)] [0] [(1, [.i f.1, .i f.2.1, .b f.2.2.1, .i f.2.2.2.1, .h f.2.2.2.2]), (2, [.i 0, .i 0, .b false, .i 0, .e 4])] [] [] (o0) ?_
  refine awp_seq ?_
  refine wdB 1 4 .sh f.2.2.2.2 (fun hw1 => ?_)
  have hl2 : List.length f.2.2.2.2 ≤ 1073741824 := wide_len (hw1)
  refine rk tt_ok [] [] [(1, [.i f.1, .i f.2.1, .b f.2.2.1, .i f.2.2.2.1, .o 384 f.2.2.2.2])] [1] [(3, .flat)] (o2 (ob_len (n := (([] : List (List PV)).length + ((eL f.2.2.2.2) : List (List PV)).length)) (len_of (rfl) (eL_length f.2.2.2.2) (by first | omega | (simp; omega) | simp))) (o1 (ob_flat (flat_eL f.2.2.2.2)))) ?_
  refine awp_seq ?_
  refine rk tt_ok [] [1] [(2, [.i f.1, .i f.2.1, .b f.2.2.1, .i f.2.2.2.1, .o 384 f.2.2.2.2])] [1, 2] [] (o0) ?_
  refine awp_ret ?_
  exact pret [] (congrArg (fun z => (.a [.i z.1, .i z.2.1, .b z.2.2.1, .i z.2.2.2.1, .o 0 z.2.2.2.2] : AV)) (show specl04Copy f = f from rfl).symm)
def specl05Copy_f0 (_ : Nat) (a0 : FileD) (s0 : (List FileD)) : Rd (StoreD) ((List FileD)) ((List FileD)) := (.next (s0 ++ [(specl04Copy a0)]))
def specl05Copy_e0 (_ : Nat) (s0 : (List FileD)) : (List FileD) := s0
def specl05Copy (s_ : StoreD) : StoreD := (Out.on (forL specl05Copy_f0 specl05Copy_e0 s_.2.1 0 []) (fun y0 => (s_.1, y0, s_.2.2)))
theorem specl05Copy_a (s_ : StoreD) : ACalls Try.prog 14 [.a [.h s_.1, .h s_.2.1, .i s_.2.2]] (.a [.o 0 ((specl05Copy s_).1), .o 1 ((specl05Copy s_).2.1), .i ((specl05Copy s_).2.2)]) := by
  refine acalls_of (tt := tt) tt_ok Try.func14 (fn := Try.f14) rfl (by unfold FnOk; kernel_rfl) (Nat.le_of_ble_eq_true rfl) fun w0 F0 hG => ?_
  refine awp_seq ?_
  refine rk tt_ok [(1, .p 1 0), (2, .p 2 0)] [0] [(1, [.h s_.1, .h s_.2.1, .i s_.2.2]), (2, [.e 2, .e 5, .i 0])] [] [] (o0) ?_
  refine awp_seq ?_
  refine wdB 1 0 .sh s_.1 (fun hw1 => ?_)
  have hl2 : List.length s_.1 ≤ 1073741824 := wide_len (hw1)
  refine rd' tt_ok tt_mx [(3, .p 3 0)] [] [(3, [.o 512 s_.1, .e 5, .i s_.2.2])] [] [(3, .flat)] (o2 (ob_len (n := (([] : List (List PV)).length + ((eL s_.1) : List (List PV)).length)) (len_of (rfl) (eL_length s_.1) (by first | omega | (simp; omega) | simp))) (o1 (ob_flat (flat_eL s_.1)))) ?_
  refine awp_seq ?_
  refine awp_seq ?_
  refine rk tt_ok [(4, .i 0)] [] [] [] [] (o0) ?_
  refine wdB 1 1 .sh s_.2.1 (fun hw3 => ?_)
  have hl4 : List.length s_.2.1 ≤ 1073741824 := wide_len (hw3)
  refine blk (fun (k0 : Nat) (s0 : (List FileD)) => [(4, .i ((k0 : Nat) : Int))]) [4] (fun k0 s0 => [(3, [.o 512 s_.1, .o 147211 s0, .i s_.2.2])]) [3] (fun (y0 : (List FileD)) => []) [1, 4] (fun y0 => [(3, [.o 512 s_.1, .o 147361 y0, .i s_.2.2])]) [1, 3] (fun (k0 : Nat) (s0 : (List FileD)) => (forL specl05Copy_f0 specl05Copy_e0 s_.2.1 0 []) = forL specl05Copy_f0 specl05Copy_e0 (List.drop k0 s_.2.1) k0 s0 ∧ List.length s0 ≤ k0) (fun (y0 : (List FileD)) => (forL specl05Copy_f0 specl05Copy_e0 s_.2.1 0 []) = .brk y0) s_.2.1.length [] (weak_gf [(true, 3, 1, true, 320008, 5)] [] [] [(320008, 147211)] (by kernel_rfl)) ⟨rfl, (by simp)⟩ (fun k0 s0 hk0 hI0 => ?_) (fun k0 s0 hk0 hI0 => ?_) (fun y0 hD0 => ?_)
  ·
    have hA0_0 := hI0.2
    obtain ⟨a0, hx0⟩ := get_some (l := s_.2.1) (i := k0) hk0
    refine awp_seq ?_
    refine awp_seq ?_
    refine rk tt_ok [(16, .b true)] [] [] [] [(3, .val (.i (s_.2.1.length : Int))), (4, .val (.b true))] (o2 (ob_eq (av_len s_.2.1)) (o1 (ob_eq (av_bool (decide_eq_true (p := ((k0 : Nat) : Int) < (s_.2.1.length : Int)) (by omega)))))) ?_
    refine ckT ?_
    refine awp_skip ?_
    refine awp_seq ?_
    refine awp_block ?_
    refine wdB 3 1 (.own true 147211) s0 (fun hw5 => ?_)
    have hl6 : List.length s0 ≤ 1073741824 := wide_len (hw5)
    refine rd' tt_ok tt_mx [] [16] [(3, [.o 512 s_.1, .slc (.own true 1792) 5 ((eL s0) ++ [[.i ((specl04Copy a0).1), .i ((specl04Copy a0).2.1), .b ((specl04Copy a0).2.2.1), .i ((specl04Copy a0).2.2.2.1), .h ((specl04Copy a0).2.2.2.2)]]), .i s_.2.2])] [3] [(5, .row [.i a0.1, .i a0.2.1, .b a0.2.2.1, .i a0.2.2.2.1, .h a0.2.2.2.2]), (7, .val (.a [.i ((specl04Copy a0).1), .i ((specl04Copy a0).2.1), .b ((specl04Copy a0).2.2.1), .i ((specl04Copy a0).2.2.2.1), .o 0 ((specl04Copy a0).2.2.2.2)]))] (o2 (ob_elem (el_of (i := ((k0 : Nat) : Int)) (by omega) rfl hx0)) (o2 (ob_call (specl04Copy_a a0)) (o1 (ob_len (len_of (eL_length s0) (eL_length [(specl04Copy a0)]) (by first | omega | (simp; omega) | simp)))))) ?_
    refine eqn [] [] [(3, [.o 512 s_.1, .o 1792 (s0 ++ [(specl04Copy a0)]), .i s_.2.2])] [3] (by rw [show ((eL s0) ++ [[.i ((specl04Copy a0).1), .i ((specl04Copy a0).2.1), .b ((specl04Copy a0).2.2.1), .i ((specl04Copy a0).2.2.2.1), .h ((specl04Copy a0).2.2.2.2)]]) = (eL (s0 ++ [(specl04Copy a0)])) from app_eL (rfl) (rfl)]; first | done | kernel_rfl) ?_
    refine rk tt_ok [(4, .i ((k0 + 1 : Nat) : Int))] [4] [] [] [(1, .val (.i ((k0 + 1 : Nat) : Int)))] (o1 (ob_eq (av_i (wrap_succ k0 (by omega))))) ?_
    exact Exists.intro (s0 ++ [(specl04Copy a0)]) (And.intro (weak_sf [(1792, 147211)] (by kernel_rfl)) ⟨forL_next hx0 (rfl) hI0.1, by first | omega | (simp; omega) | simp⟩)
  ·
    have hA0_0 := hI0.2
    refine awp_seq ?_
    refine awp_seq ?_
    refine rk tt_ok [(16, .b false)] [] [] [] [(3, .val (.i (s_.2.1.length : Int))), (4, .val (.b false))] (o2 (ob_eq (av_len s_.2.1)) (o1 (ob_eq (av_bool (decide_eq_false (p := ((k0 : Nat) : Int) < (s_.2.1.length : Int)) (by omega)))))) ?_
    refine ckF ?_
    refine awp_exit ?_
    exact Exists.intro s0 (And.intro (weak_sf [(147211, 147361)] (by kernel_rfl)) (forL_end hk0 (rfl) hI0.1))
  ·
    refine awp_seq ?_
    refine rk tt_ok [] [3] [(2, [.o 512 s_.1, .o 147361 y0, .i s_.2.2])] [2, 3] [] (o0) ?_
    refine awp_ret ?_
    exact pret [] (congrArg (fun z => (.a [.o 0 z.1, .o 1 z.2.1, .i z.2.2] : AV)) (show specl05Copy s_ = (s_.1, y0, s_.2.2) from on_b hD0 (rfl)).symm)
def specCreateFile (s_ : StoreD) (f : FileD) : StoreD × Int × Bool := (bif ((!(specIsValidStore (specl05Copy s_))) || (decide ((((specl05Copy s_).2.1).length : Int) ≥ (12 : Int)) || (!(specIsValidFile ((specl05Copy s_).1) ((specl05Copy s_).2.2, (specl04Copy f).2.1, (specl04Copy f).2.2.1, (specl04Copy f).2.2.2.1, (specl04Copy f).2.2.2.2))))) then ((specl05Copy s_), 0, false) else (((specl05Copy s_).1, (specl05Copy s_).2.1 ++ [((specl05Copy s_).2.2, (specl04Copy f).2.1, (specl04Copy f).2.2.1, (specl04Copy f).2.2.2.1, (specl04Copy f).2.2.2.2)], IntKind.i64.wrap ((specl05Copy s_).2.2 + 1)), (specl05Copy s_).2.2, true))
theorem specCreateFile_a (s_ : StoreD) (f : FileD) : ACalls Try.prog 6 [.a [.h s_.1, .h s_.2.1, .i s_.2.2], .a [.i f.1, .i f.2.1, .b f.2.2.1, .i f.2.2.2.1, .h f.2.2.2.2]] (.tup [(true, [.o 0 ((((specCreateFile s_ f)).1).1), .o 1 ((((specCreateFile s_ f)).1).2.1), .i ((((specCreateFile s_ f)).1).2.2)]), (false, [.i (((specCreateFile s_ f)).2.1)]), (false, [.b (((specCreateFile s_ f)).2.2)])]) := by
  refine acalls_of (tt := tt) tt_ok Try.func6 (fn := Try.f6) rfl (by unfold FnOk; kernel_rfl) (Nat.le_of_ble_eq_true rfl) fun w0 F0 hG => ?_
  refine awp_seq ?_
  refine rk tt_ok [(2, .p 2 0), (3, .p 3 0), (4, .p 4 0), (5, .i 0), (6, .b false)] [0, 1] [(2, [.h s_.1, .h s_.2.1, .i s_.2.2]), (3, [.i f.1, .i f.2.1, .b f.2.2.1, .i f.2.2.2.1, .h f.2.2.2.2]), (4, [.e 2, .e 5, .i 0])] [] [] (o0) ?_
  refine awp_seq ?_
  refine rk tt_ok [] [] [(2, [.o 512 ((specl05Copy s_).1), .o 513 ((specl05Copy s_).2.1), .i ((specl05Copy s_).2.2)])] [2] [(1, .val (.a [.o 0 ((specl05Copy s_).1), .o 1 ((specl05Copy s_).2.1), .i ((specl05Copy s_).2.2)]))] (o1 (ob_call (specl05Copy_a s_))) ?_
  refine awp_seq ?_
  refine rk tt_ok [] [] [(3, [.i ((specl04Copy f).1), .i ((specl04Copy f).2.1), .b ((specl04Copy f).2.2.1), .i ((specl04Copy f).2.2.2.1), .o 640 ((specl04Copy f).2.2.2.2)])] [3] [(1, .val (.a [.i ((specl04Copy f).1), .i ((specl04Copy f).2.1), .b ((specl04Copy f).2.2.1), .i ((specl04Copy f).2.2.2.1), .o 0 ((specl04Copy f).2.2.2.2)]))] (o1 (ob_call (specl04Copy_a f))) ?_
  refine awp_seq ?_
  refine rk tt_ok [] [] [(3, [.i ((specl05Copy s_).2.2), .i ((specl04Copy f).2.1), .b ((specl04Copy f).2.2.1), .i ((specl04Copy f).2.2.2.1), .o 640 ((specl04Copy f).2.2.2.2)])] [3] [] (o0) ?_
  refine awp_seq ?_
  refine awp_seq ?_
  refine jn [(29, .b ((!(specIsValidStore (specl05Copy s_))) || (decide ((((specl05Copy s_).2.1).length : Int) ≥ (12 : Int)) || (!(specIsValidFile ((specl05Copy s_).1) ((specl05Copy s_).2.2, (specl04Copy f).2.1, (specl04Copy f).2.2.1, (specl04Copy f).2.2.2.1, (specl04Copy f).2.2.2.2))))))] [] [] [] (!(specIsValidStore (specl05Copy s_))) (fun h1 => ?_) (fun h1 => ?_) ?_
  ·
    have h1n : (specIsValidStore (specl05Copy s_)) = false := bnot_t h1
    refine rk tt_ok [(29, .b true)] [] [] [] [(1, .val (.b false)), (2, .val (.b true))] (o2 (ob_call (cb h1n (specIsValidStore_a (specl05Copy s_)))) (o1 (ob_eq (show .b (!false) = .b true from rfl)))) ?_
    exact ⟨rfl, weak_fit (by rw [h1]; first | done | kernel_rfl)⟩
  ·
    have h1n : (specIsValidStore (specl05Copy s_)) = true := bnot_f h1
    refine awp_split (decide ((((specl05Copy s_).2.1).length : Int) ≥ (12 : Int))) (fun h2 => ?_) (fun h2 => ?_)
    ·
      have h2d := of_decide_eq_true h2
      refine rk tt_ok [(29, .b true)] [] [] [] [(1, .val (.b true)), (2, .val (.b false)), (6, .val (.i (((specl05Copy s_).2.1).length : Int))), (7, .val (.b true))] (o2 (ob_call (cb h1n (specIsValidStore_a (specl05Copy s_)))) (o2 (ob_eq (show .b (!true) = .b false from rfl)) (o2 (ob_eq (av_len ((specl05Copy s_).2.1))) (o1 (ob_eq (av_bool h2)))))) ?_
      exact ⟨rfl, weak_fit (by rw [h1, h2]; first | done | kernel_rfl)⟩
    ·
      have h2d := of_decide_eq_false h2
      refine rk tt_ok [(29, .b (!(specIsValidFile ((specl05Copy s_).1) ((specl05Copy s_).2.2, (specl04Copy f).2.1, (specl04Copy f).2.2.1, (specl04Copy f).2.2.2.1, (specl04Copy f).2.2.2.2))))] [] [] [] [(1, .val (.b true)), (2, .val (.b false)), (6, .val (.i (((specl05Copy s_).2.1).length : Int))), (7, .val (.b false)), (13, .val (.b (specIsValidFile ((specl05Copy s_).1) ((specl05Copy s_).2.2, (specl04Copy f).2.1, (specl04Copy f).2.2.1, (specl04Copy f).2.2.2.1, (specl04Copy f).2.2.2.2))))] (o2 (ob_call (cb h1n (specIsValidStore_a (specl05Copy s_)))) (o2 (ob_eq (show .b (!true) = .b false from rfl)) (o2 (ob_eq (av_len ((specl05Copy s_).2.1))) (o2 (ob_eq (av_bool h2)) (o1 (ob_call (specIsValidFile_a ((specl05Copy s_).1) ((specl05Copy s_).2.2, (specl04Copy f).2.1, (specl04Copy f).2.2.1, (specl04Copy f).2.2.2.1, (specl04Copy f).2.2.2.2)))))))) ?_
      exact ⟨rfl, weak_fit (by rw [h1, h2]; first | done | kernel_rfl)⟩
  refine ck ((!(specIsValidStore (specl05Copy s_))) || (decide ((((specl05Copy s_).2.1).length : Int) ≥ (12 : Int)) || (!(specIsValidFile ((specl05Copy s_).1) ((specl05Copy s_).2.2, (specl04Copy f).2.1, (specl04Copy f).2.2.1, (specl04Copy f).2.2.2.1, (specl04Copy f).2.2.2.2))))) (fun h3 => ?_) (fun h3 => ?_)
  ·
    refine awp_seq ?_
    refine rk tt_ok [] [29] [(4, [.o 512 ((specl05Copy s_).1), .o 513 ((specl05Copy s_).2.1), .i ((specl05Copy s_).2.2)])] [4] [] (o0) ?_
    refine awp_ret ?_
    exact pret [] (congrArg (fun z => (.tup [(true, [.o 0 z.1.1, .o 1 z.1.2.1, .i z.1.2.2]), (false, [.i z.2.1]), (false, [.b z.2.2])] : AV)) (show specCreateFile s_ f = ((specl05Copy s_), 0, false) from bif_t h3 (rfl)).symm)
  ·
    have h3l : ((!(specIsValidStore (specl05Copy s_)))) = false := or_l h3
    have h3ln : (specIsValidStore (specl05Copy s_)) = true := bnot_f h3l
    have h3r : ((decide ((((specl05Copy s_).2.1).length : Int) ≥ (12 : Int)) || (!(specIsValidFile ((specl05Copy s_).1) ((specl05Copy s_).2.2, (specl04Copy f).2.1, (specl04Copy f).2.2.1, (specl04Copy f).2.2.2.1, (specl04Copy f).2.2.2.2))))) = false := or_r h3
    have h3rl : (decide ((((specl05Copy s_).2.1).length : Int) ≥ (12 : Int))) = false := or_l h3r
    have h3rld := of_decide_eq_false h3rl
    have h3rr : ((!(specIsValidFile ((specl05Copy s_).1) ((specl05Copy s_).2.2, (specl04Copy f).2.1, (specl04Copy f).2.2.1, (specl04Copy f).2.2.2.1, (specl04Copy f).2.2.2.2)))) = false := or_r h3r
    have h3rrn : (specIsValidFile ((specl05Copy s_).1) ((specl05Copy s_).2.2, (specl04Copy f).2.1, (specl04Copy f).2.2.1, (specl04Copy f).2.2.2.1, (specl04Copy f).2.2.2.2)) = true := bnot_f h3rr
    refine awp_skip ?_
    refine awp_seq ?_
    refine wdB 2 1 (.own true 513) ((specl05Copy s_).2.1) (fun hw4 => ?_)
    have hl5 : List.length ((specl05Copy s_).2.1) ≤ 1073741824 := wide_len (hw4)
    refine rk tt_ok [] [29] [(2, [.o 512 ((specl05Copy s_).1), .slc (.own true 2240) 5 ((eL ((specl05Copy s_).2.1)) ++ [[.i ((specl05Copy s_).2.2), .i ((specl04Copy f).2.1), .b ((specl04Copy f).2.2.1), .i ((specl04Copy f).2.2.2.1), .h ((specl04Copy f).2.2.2.2)]]), .i ((specl05Copy s_).2.2)]), (3, [.i ((specl05Copy s_).2.2), .i ((specl04Copy f).2.1), .b ((specl04Copy f).2.2.1), .i ((specl04Copy f).2.2.2.1), .dead])] [2, 3] [] (o1 (ob_len (len_of (eL_length ((specl05Copy s_).2.1)) (eL_length [((specl05Copy s_).2.2, (specl04Copy f).2.1, (specl04Copy f).2.2.1, (specl04Copy f).2.2.2.1, (specl04Copy f).2.2.2.2)]) (by first | omega | (simp; omega) | simp)))) ?_
    refine eqn [] [] [(2, [.o 512 ((specl05Copy s_).1), .o 2240 ((specl05Copy s_).2.1 ++ [((specl05Copy s_).2.2, (specl04Copy f).2.1, (specl04Copy f).2.2.1, (specl04Copy f).2.2.2.1, (specl04Copy f).2.2.2.2)]), .i ((specl05Copy s_).2.2)])] [2] (by rw [show ((eL ((specl05Copy s_).2.1)) ++ [[.i ((specl05Copy s_).2.2), .i ((specl04Copy f).2.1), .b ((specl04Copy f).2.2.1), .i ((specl04Copy f).2.2.2.1), .h ((specl04Copy f).2.2.2.2)]]) = (eL ((specl05Copy s_).2.1 ++ [((specl05Copy s_).2.2, (specl04Copy f).2.1, (specl04Copy f).2.2.1, (specl04Copy f).2.2.2.1, (specl04Copy f).2.2.2.2)])) from app_eL (rfl) (rfl)]; first | done | kernel_rfl) ?_
    refine awp_seq ?_
    refine rk tt_ok [] [] [(2, [.o 512 ((specl05Copy s_).1), .o 2240 ((specl05Copy s_).2.1 ++ [((specl05Copy s_).2.2, (specl04Copy f).2.1, (specl04Copy f).2.2.1, (specl04Copy f).2.2.2.1, (specl04Copy f).2.2.2.2)]), .i (IntKind.i64.wrap ((specl05Copy s_).2.2 + 1))])] [2] [] (o0) ?_
    refine awp_seq ?_
    refine rd' tt_ok tt_mx [(5, .i ((specl05Copy s_).2.2)), (6, .b true)] [2, 3, 5, 6] [(4, [.o 512 ((specl05Copy s_).1), .o 2240 ((specl05Copy s_).2.1 ++ [((specl05Copy s_).2.2, (specl04Copy f).2.1, (specl04Copy f).2.2.1, (specl04Copy f).2.2.2.1, (specl04Copy f).2.2.2.2)]), .i (IntKind.i64.wrap ((specl05Copy s_).2.2 + 1))])] [2, 3, 4] [] (o0) ?_
    refine awp_ret ?_
    exact pret [] (congrArg (fun z => (.tup [(true, [.o 0 z.1.1, .o 1 z.1.2.1, .i z.1.2.2]), (false, [.i z.2.1]), (false, [.b z.2.2])] : AV)) (show specCreateFile s_ f = (((specl05Copy s_).1, (specl05Copy s_).2.1 ++ [((specl05Copy s_).2.2, (specl04Copy f).2.1, (specl04Copy f).2.2.1, (specl04Copy f).2.2.2.1, (specl04Copy f).2.2.2.2)], IntKind.i64.wrap ((specl05Copy s_).2.2 + 1)), (specl05Copy s_).2.2, true) from bif_f h3 (rfl)).symm)
def specNewStore (s_ : (List FieldD)) : StoreD := (s_, [], 1)
theorem specNewStore_a (s_ : (List FieldD)) : ACalls Try.prog 7 [.h s_] (.a [.o 0 ((specNewStore s_).1), .o 1 ((specNewStore s_).2.1), .i ((specNewStore s_).2.2)]) := by
  refine acalls_of (tt := tt) tt_ok Try.func7 (fn := Try.f7) rfl (by unfold FnOk; kernel_rfl) (Nat.le_of_ble_eq_true rfl) fun w0 F0 hG => ?_
  refine awp_seq ?_
  refine rk tt_ok [(2, .p 2 0)] [] [(2, [.e 2, .e 5, .i 0])] [] [] (o0) ?_
  refine awp_seq ?_
  refine wdT 0 0 .sh s_ (fun hw1 => ?_)
  have hl2 : List.length s_ ≤ 1073741824 := wide_len (hw1)
  refine rk tt_ok [] [0] [(2, [.o 320 s_, .e 5, .i 1])] [2] [(2, .flat)] (o2 (ob_len (n := (([] : List (List PV)).length + ((eL s_) : List (List PV)).length)) (len_of (rfl) (eL_length s_) (by first | omega | (simp; omega) | simp))) (o1 (ob_flat (flat_eL s_)))) ?_
  refine opn [(true, 2, 1, true, 384000, 5)] ?_
  refine awp_ret ?_
  exact pret [] (congrArg (fun z => (.a [.o 0 z.1, .o 1 z.2.1, .i z.2.2] : AV)) (show specNewStore s_ = (s_, [], 1) from rfl).symm)
def specl03Usual : (List FieldD) := [((⟨#[97]⟩, 1) : FieldD), ((⟨#[98]⟩, 1) : FieldD), ((⟨#[110]⟩, 2) : FieldD), ((⟨#[116]⟩, 2) : FieldD)]
theorem specl03Usual_a : ACalls Try.prog 18 [] (.o 0 specl03Usual) := by
  refine acalls_of (tt := tt) tt_ok Try.func18 (fn := Try.f18) rfl (by unfold FnOk; kernel_rfl) (Nat.le_of_ble_eq_true rfl) fun w0 F0 hG => ?_
  refine awp_seq ?_
  refine rk tt_ok [(0, .e 0)] [] [] [] [] (o0) ?_
  refine awp_seq ?_
  refine rk tt_ok [(0, .o 320 [((⟨#[97]⟩, 1) : FieldD), ((⟨#[98]⟩, 1) : FieldD), ((⟨#[110]⟩, 2) : FieldD), ((⟨#[116]⟩, 2) : FieldD)])] [0] [] [] [] (o0) ?_
  refine awp_ret ?_
  exact pret [] (congrArg (fun z => (.o 0 z : AV)) (show specl03Usual = [((⟨#[97]⟩, 1) : FieldD), ((⟨#[98]⟩, 1) : FieldD), ((⟨#[110]⟩, 2) : FieldD), ((⟨#[116]⟩, 2) : FieldD)] from rfl).symm)
def specDefaultSchema : (List FieldD) := specl03Usual
theorem specDefaultSchema_a : ACalls Try.prog 8 [] (.o 0 specDefaultSchema) := by
  refine acalls_of (tt := tt) tt_ok Try.func8 (fn := Try.f8) rfl (by unfold FnOk; kernel_rfl) (Nat.le_of_ble_eq_true rfl) fun w0 F0 hG => ?_
  refine awp_seq ?_
  refine rk tt_ok [(0, .e 0)] [] [] [] [] (o0) ?_
  refine awp_seq ?_
  refine rk tt_ok [(0, .o 64 specl03Usual)] [0] [] [] [(0, .val (.o 0 specl03Usual))] (o1 (ob_call (specl03Usual_a))) ?_
  refine awp_ret ?_
  exact pret [] (congrArg (fun z => (.o 0 z : AV)) (show specDefaultSchema = specl03Usual from rfl).symm)
open GoE (enc wide)
def lawsbig (code : (List UInt8)) : Bool := decide ((code.length : Int) > (1048576 : Int))
theorem lawsbig_a (code : (List UInt8)) : ACalls Try.prog 4 [.h code] (.b (lawsbig code)) := by
  refine acalls_of (tt := tt) tt_ok Try.func4 (fn := Try.f4) rfl (by unfold FnOk; kernel_rfl) (Nat.le_of_ble_eq_true rfl) fun w0 F0 hG => ?_
  refine awp_seq ?_
  refine rk tt_ok [(2, .b false)] [] [] [] [] (o0) ?_
  refine awp_seq ?_
  refine rk tt_ok [(2, .b (decide ((code.length : Int) > (1048576 : Int))))] [0, 2] [] [] [(1, .val (.i (code.length : Int)))] (o1 (ob_eq (av_len code))) ?_
  refine awp_ret ?_
  exact pret [] (congrArg (fun z => (.b z : AV)) (show lawsbig code = decide ((code.length : Int) > (1048576 : Int)) from rfl).symm)
def lawsFnUnreadable_f0 (code : (List UInt8)) (k0 : Nat) (_ : Unit) : Rd (Bool) (Unit) (Unit) := (bif ((!((implIsListed (((specCreateFile (specNewStore specDefaultSchema) (0, Int.tmod (nth (specDrawPlaces code) 0) 3, false, 0, []))).1) [((⟨#[100, 97]⟩, [((1, 0, 0, ⟨#[]⟩, (0, 0, ⟨#[]⟩)) : NodeD)]) : DirD)] ((k0 : Nat) : Int) ⟨#[100, 97]⟩ (((specCreateFile (specNewStore specDefaultSchema) (0, Int.tmod (nth (specDrawPlaces code) 0) 3, false, 0, []))).2.1)) == (((k0 : Nat) : Int) == Int.tmod (nth (specDrawPlaces code) 0) 3))) || decide ((implCountListed (((specCreateFile (specNewStore specDefaultSchema) (0, Int.tmod (nth (specDrawPlaces code) 0) 3, false, 0, []))).1) [((⟨#[100, 97]⟩, [((1, 0, 0, ⟨#[]⟩, (0, 0, ⟨#[]⟩)) : NodeD)]) : DirD)] ((k0 : Nat) : Int) ⟨#[100, 97]⟩) > (1 : Int))) then (.ret false) else (.next ()))
def lawsFnUnreadable_e0 (_ : Nat) (_ : Unit) : Unit := ()
def lawsFnUnreadable (code : (List UInt8)) : Bool := (bif (lawsbig code) then true else (Out.on (forN (lawsFnUnreadable_f0 code) lawsFnUnreadable_e0 (Int.toNat (3 : Int)) 0 ()) (fun _ => (((implListDir (((specCreateFile (specNewStore specDefaultSchema) (0, Int.tmod (nth (specDrawPlaces code) 0) 3, false, 0, []))).1) [((⟨#[100, 97]⟩, [((1, 0, 0, ⟨#[]⟩, (0, 0, ⟨#[]⟩)) : NodeD)]) : DirD)] (Int.tmod (nth (specDrawPlaces code) 0) 3) ⟨#[100, 97]⟩).length : Int) == (1 : Int)))))
theorem lawsFnUnreadable_a (code : (List UInt8)) : ACalls Try.prog 3 [.h code] (.b (lawsFnUnreadable code)) := by
  refine acalls_of (tt := tt) tt_ok Try.func3 (fn := Try.f3) rfl (by unfold FnOk; kernel_rfl) (Nat.le_of_ble_eq_true rfl) fun w0 F0 hG => ?_
  have hpl := places_len code
  refine awp_seq ?_
  refine rk tt_ok [(2, .b false)] [] [] [] [] (o0) ?_
  refine awp_seq ?_
  refine awp_seq ?_
  refine rk tt_ok [(11, .b (lawsbig code))] [] [] [] [(1, .val (.b (lawsbig code)))] (o1 (ob_call (lawsbig_a code))) ?_
  refine ck (lawsbig code) (fun h1 => ?_) (fun h1 => ?_)
  ·
    refine awp_seq ?_
    refine rk tt_ok [(2, .b true)] [2, 11] [] [] [] (o0) ?_
    refine awp_ret ?_
    exact pret [] (congrArg (fun z => (.b z : AV)) (show lawsFnUnreadable code = true from bif_t h1 (rfl)).symm)
  ·
    refine awp_skip ?_
    refine awp_seq ?_
    refine rk tt_ok [(3, .o 832 (specDrawPlaces code))] [0, 11] [] [] [(1, .val (.o 0 (specDrawPlaces code)))] (o1 (ob_call (specDrawPlaces_a code))) ?_
    refine awp_seq ?_
    refine wdT 3 0 (.own true 832) (specDrawPlaces code) (fun hw3 => ?_)
    have hl4 : List.length (specDrawPlaces code) ≤ 1073741824 := wide_len (hw3)
    have hx2 : (specDrawPlaces code)[0]? = some (nth (specDrawPlaces code) 0) := nth_get (by omega)
    have hx2b := places_bd code _ (List.mem_of_getElem? hx2)
    refine rk tt_ok [(4, .i (Int.tmod (nth (specDrawPlaces code) 0) 3))] [3] [] [] [(1, .rowE [.i (nth (specDrawPlaces code) 0)])] (o2 (ob_elem (el_of (i := 0) (by omega) rfl hx2)) (o2 (ob_nz (n := 3) (by omega)) (o1 (ob_inr (k := .i64) (n := Int.tmod (nth (specDrawPlaces code) 0) 3) (inr_rem0 (by omega)))))) ?_
    refine awp_seq ?_
    refine rk tt_ok [(5, .p 5 0), (6, .i (((specCreateFile (specNewStore specDefaultSchema) (0, Int.tmod (nth (specDrawPlaces code) 0) 3, false, 0, []))).2.1))] [] [(5, [.o 1472 ((((specCreateFile (specNewStore specDefaultSchema) (0, Int.tmod (nth (specDrawPlaces code) 0) 3, false, 0, []))).1).1), .o 1473 ((((specCreateFile (specNewStore specDefaultSchema) (0, Int.tmod (nth (specDrawPlaces code) 0) 3, false, 0, []))).1).2.1), .i ((((specCreateFile (specNewStore specDefaultSchema) (0, Int.tmod (nth (specDrawPlaces code) 0) 3, false, 0, []))).1).2.2)])] [] [(0, .val (.o 0 specDefaultSchema)), (1, .val (.a [.o 0 ((specNewStore specDefaultSchema).1), .o 1 ((specNewStore specDefaultSchema).2.1), .i ((specNewStore specDefaultSchema).2.2)])), (4, .val (.tup [(true, [.o 0 ((((specCreateFile (specNewStore specDefaultSchema) (0, Int.tmod (nth (specDrawPlaces code) 0) 3, false, 0, []))).1).1), .o 1 ((((specCreateFile (specNewStore specDefaultSchema) (0, Int.tmod (nth (specDrawPlaces code) 0) 3, false, 0, []))).1).2.1), .i ((((specCreateFile (specNewStore specDefaultSchema) (0, Int.tmod (nth (specDrawPlaces code) 0) 3, false, 0, []))).1).2.2)]), (false, [.i (((specCreateFile (specNewStore specDefaultSchema) (0, Int.tmod (nth (specDrawPlaces code) 0) 3, false, 0, []))).2.1)]), (false, [.b (((specCreateFile (specNewStore specDefaultSchema) (0, Int.tmod (nth (specDrawPlaces code) 0) 3, false, 0, []))).2.2)])]))] (o2 (ob_call (specDefaultSchema_a)) (o2 (ob_call (specNewStore_a specDefaultSchema)) (o1 (ob_call (specCreateFile_a (specNewStore specDefaultSchema) (0, Int.tmod (nth (specDrawPlaces code) 0) 3, false, 0, [])))))) ?_
    refine awp_seq ?_
    refine rk tt_ok [(8, .o 1920 [((⟨#[100, 97]⟩, [((1, 0, 0, ⟨#[]⟩, (0, 0, ⟨#[]⟩)) : NodeD)]) : DirD)])] [] [] [] [] (o0) ?_
    refine awp_seq ?_
    refine awp_seq ?_
    refine rk tt_ok [(9, .i 0)] [] [] [] [] (o0) ?_
    refine blk (fun (k0 : Nat) (s0 : Unit) => [(9, .i ((k0 : Nat) : Int))]) [9] (fun k0 s0 => []) [] (fun (y0 : Unit) => []) [6, 9] (fun y0 => []) [] (fun (k0 : Nat) (s0 : Unit) => (forN (lawsFnUnreadable_f0 code) lawsFnUnreadable_e0 (Int.toNat (3 : Int)) 0 ()) = forN (lawsFnUnreadable_f0 code) lawsFnUnreadable_e0 ((Int.toNat (3 : Int)) - k0) k0 s0) (fun (y0 : Unit) => (forN (lawsFnUnreadable_f0 code) lawsFnUnreadable_e0 (Int.toNat (3 : Int)) 0 ()) = .brk y0) (Int.toNat (3 : Int)) () (weak_fit (by kernel_rfl)) rfl (fun k0 s0 hk0 hI0 => ?_) (fun k0 s0 hk0 hI0 => ?_) (fun y0 hD0 => ?_)
    ·
      refine awp_seq ?_
      refine awp_seq ?_
      refine rk tt_ok [(32, .b true)] [] [] [] [(1, .val (.b true))] (o1 (ob_eq (av_bool (decide_eq_true (p := ((k0 : Nat) : Int) < (3 : Int)) (by omega))))) ?_
      refine ckT ?_
      refine awp_skip ?_
      refine awp_seq ?_
      refine awp_block ?_
      refine awp_seq ?_
      refine jn [(50, .b ((!((implIsListed (((specCreateFile (specNewStore specDefaultSchema) (0, Int.tmod (nth (specDrawPlaces code) 0) 3, false, 0, []))).1) [((⟨#[100, 97]⟩, [((1, 0, 0, ⟨#[]⟩, (0, 0, ⟨#[]⟩)) : NodeD)]) : DirD)] ((k0 : Nat) : Int) ⟨#[100, 97]⟩ (((specCreateFile (specNewStore specDefaultSchema) (0, Int.tmod (nth (specDrawPlaces code) 0) 3, false, 0, []))).2.1)) == (((k0 : Nat) : Int) == Int.tmod (nth (specDrawPlaces code) 0) 3))) || decide ((implCountListed (((specCreateFile (specNewStore specDefaultSchema) (0, Int.tmod (nth (specDrawPlaces code) 0) 3, false, 0, []))).1) [((⟨#[100, 97]⟩, [((1, 0, 0, ⟨#[]⟩, (0, 0, ⟨#[]⟩)) : NodeD)]) : DirD)] ((k0 : Nat) : Int) ⟨#[100, 97]⟩) > (1 : Int))))] [32] [] [] (!((implIsListed (((specCreateFile (specNewStore specDefaultSchema) (0, Int.tmod (nth (specDrawPlaces code) 0) 3, false, 0, []))).1) [((⟨#[100, 97]⟩, [((1, 0, 0, ⟨#[]⟩, (0, 0, ⟨#[]⟩)) : NodeD)]) : DirD)] ((k0 : Nat) : Int) ⟨#[100, 97]⟩ (((specCreateFile (specNewStore specDefaultSchema) (0, Int.tmod (nth (specDrawPlaces code) 0) 3, false, 0, []))).2.1)) == (((k0 : Nat) : Int) == Int.tmod (nth (specDrawPlaces code) 0) 3))) (fun h5 => ?_) (fun h5 => ?_) ?_
      ·
        have h5n : ((implIsListed (((specCreateFile (specNewStore specDefaultSchema) (0, Int.tmod (nth (specDrawPlaces code) 0) 3, false, 0, []))).1) [((⟨#[100, 97]⟩, [((1, 0, 0, ⟨#[]⟩, (0, 0, ⟨#[]⟩)) : NodeD)]) : DirD)] ((k0 : Nat) : Int) ⟨#[100, 97]⟩ (((specCreateFile (specNewStore specDefaultSchema) (0, Int.tmod (nth (specDrawPlaces code) 0) 3, false, 0, []))).2.1)) == (((k0 : Nat) : Int) == Int.tmod (nth (specDrawPlaces code) 0) 3)) = false := bnot_t h5
        have h5nd := ne_of_beq h5n
        refine rk tt_ok [(50, .b true)] [32] [] [] [(4, .val (.b (implIsListed (((specCreateFile (specNewStore specDefaultSchema) (0, Int.tmod (nth (specDrawPlaces code) 0) 3, false, 0, []))).1) [((⟨#[100, 97]⟩, [((1, 0, 0, ⟨#[]⟩, (0, 0, ⟨#[]⟩)) : NodeD)]) : DirD)] ((k0 : Nat) : Int) ⟨#[100, 97]⟩ (((specCreateFile (specNewStore specDefaultSchema) (0, Int.tmod (nth (specDrawPlaces code) 0) 3, false, 0, []))).2.1)))), (8, .val (.b true))] (o2 (ob_call (implIsListed_a (((specCreateFile (specNewStore specDefaultSchema) (0, Int.tmod (nth (specDrawPlaces code) 0) 3, false, 0, []))).1) [((⟨#[100, 97]⟩, [((1, 0, 0, ⟨#[]⟩, (0, 0, ⟨#[]⟩)) : NodeD)]) : DirD)] ((k0 : Nat) : Int) ⟨#[100, 97]⟩ (((specCreateFile (specNewStore specDefaultSchema) (0, Int.tmod (nth (specDrawPlaces code) 0) 3, false, 0, []))).2.1))) (o1 (ob_eq (av_bool h5)))) ?_
        exact ⟨rfl, weak_fit (by rw [h5]; first | done | kernel_rfl)⟩
      ·
        have h5n : ((implIsListed (((specCreateFile (specNewStore specDefaultSchema) (0, Int.tmod (nth (specDrawPlaces code) 0) 3, false, 0, []))).1) [((⟨#[100, 97]⟩, [((1, 0, 0, ⟨#[]⟩, (0, 0, ⟨#[]⟩)) : NodeD)]) : DirD)] ((k0 : Nat) : Int) ⟨#[100, 97]⟩ (((specCreateFile (specNewStore specDefaultSchema) (0, Int.tmod (nth (specDrawPlaces code) 0) 3, false, 0, []))).2.1)) == (((k0 : Nat) : Int) == Int.tmod (nth (specDrawPlaces code) 0) 3)) = true := bnot_f h5
        have h5nd := eq_of_beq h5n
        refine rk tt_ok [(50, .b (decide ((implCountListed (((specCreateFile (specNewStore specDefaultSchema) (0, Int.tmod (nth (specDrawPlaces code) 0) 3, false, 0, []))).1) [((⟨#[100, 97]⟩, [((1, 0, 0, ⟨#[]⟩, (0, 0, ⟨#[]⟩)) : NodeD)]) : DirD)] ((k0 : Nat) : Int) ⟨#[100, 97]⟩) > (1 : Int))))] [32] [] [] [(4, .val (.b (implIsListed (((specCreateFile (specNewStore specDefaultSchema) (0, Int.tmod (nth (specDrawPlaces code) 0) 3, false, 0, []))).1) [((⟨#[100, 97]⟩, [((1, 0, 0, ⟨#[]⟩, (0, 0, ⟨#[]⟩)) : NodeD)]) : DirD)] ((k0 : Nat) : Int) ⟨#[100, 97]⟩ (((specCreateFile (specNewStore specDefaultSchema) (0, Int.tmod (nth (specDrawPlaces code) 0) 3, false, 0, []))).2.1)))), (8, .val (.b false)), (13, .val (.i (implCountListed (((specCreateFile (specNewStore specDefaultSchema) (0, Int.tmod (nth (specDrawPlaces code) 0) 3, false, 0, []))).1) [((⟨#[100, 97]⟩, [((1, 0, 0, ⟨#[]⟩, (0, 0, ⟨#[]⟩)) : NodeD)]) : DirD)] ((k0 : Nat) : Int) ⟨#[100, 97]⟩)))] (o2 (ob_call (implIsListed_a (((specCreateFile (specNewStore specDefaultSchema) (0, Int.tmod (nth (specDrawPlaces code) 0) 3, false, 0, []))).1) [((⟨#[100, 97]⟩, [((1, 0, 0, ⟨#[]⟩, (0, 0, ⟨#[]⟩)) : NodeD)]) : DirD)] ((k0 : Nat) : Int) ⟨#[100, 97]⟩ (((specCreateFile (specNewStore specDefaultSchema) (0, Int.tmod (nth (specDrawPlaces code) 0) 3, false, 0, []))).2.1))) (o2 (ob_eq (av_bool h5)) (o1 (ob_call (implCountListed_a (((specCreateFile (specNewStore specDefaultSchema) (0, Int.tmod (nth (specDrawPlaces code) 0) 3, false, 0, []))).1) [((⟨#[100, 97]⟩, [((1, 0, 0, ⟨#[]⟩, (0, 0, ⟨#[]⟩)) : NodeD)]) : DirD)] ((k0 : Nat) : Int) ⟨#[100, 97]⟩))))) ?_
        exact ⟨rfl, weak_fit (by rw [h5]; first | done | kernel_rfl)⟩
      refine ck ((!((implIsListed (((specCreateFile (specNewStore specDefaultSchema) (0, Int.tmod (nth (specDrawPlaces code) 0) 3, false, 0, []))).1) [((⟨#[100, 97]⟩, [((1, 0, 0, ⟨#[]⟩, (0, 0, ⟨#[]⟩)) : NodeD)]) : DirD)] ((k0 : Nat) : Int) ⟨#[100, 97]⟩ (((specCreateFile (specNewStore specDefaultSchema) (0, Int.tmod (nth (specDrawPlaces code) 0) 3, false, 0, []))).2.1)) == (((k0 : Nat) : Int) == Int.tmod (nth (specDrawPlaces code) 0) 3))) || decide ((implCountListed (((specCreateFile (specNewStore specDefaultSchema) (0, Int.tmod (nth (specDrawPlaces code) 0) 3, false, 0, []))).1) [((⟨#[100, 97]⟩, [((1, 0, 0, ⟨#[]⟩, (0, 0, ⟨#[]⟩)) : NodeD)]) : DirD)] ((k0 : Nat) : Int) ⟨#[100, 97]⟩) > (1 : Int))) (fun h6 => ?_) (fun h6 => ?_)
      ·
        refine awp_seq ?_
        refine rk tt_ok [] [50] [] [] [] (o0) ?_
        refine awp_ret ?_
        have hr7 : (forN (lawsFnUnreadable_f0 code) lawsFnUnreadable_e0 (Int.toNat (3 : Int)) 0 ()) = .ret false := forN_ret hk0 (bif_t h6 (rfl)) hI0
        exact pret [] (congrArg (fun z => (.b z : AV)) (show lawsFnUnreadable code = false from bif_f h1 (on_r hr7)).symm)
      ·
        have h6l : ((!((implIsListed (((specCreateFile (specNewStore specDefaultSchema) (0, Int.tmod (nth (specDrawPlaces code) 0) 3, false, 0, []))).1) [((⟨#[100, 97]⟩, [((1, 0, 0, ⟨#[]⟩, (0, 0, ⟨#[]⟩)) : NodeD)]) : DirD)] ((k0 : Nat) : Int) ⟨#[100, 97]⟩ (((specCreateFile (specNewStore specDefaultSchema) (0, Int.tmod (nth (specDrawPlaces code) 0) 3, false, 0, []))).2.1)) == (((k0 : Nat) : Int) == Int.tmod (nth (specDrawPlaces code) 0) 3)))) = false := or_l h6
        have h6ln : ((implIsListed (((specCreateFile (specNewStore specDefaultSchema) (0, Int.tmod (nth (specDrawPlaces code) 0) 3, false, 0, []))).1) [((⟨#[100, 97]⟩, [((1, 0, 0, ⟨#[]⟩, (0, 0, ⟨#[]⟩)) : NodeD)]) : DirD)] ((k0 : Nat) : Int) ⟨#[100, 97]⟩ (((specCreateFile (specNewStore specDefaultSchema) (0, Int.tmod (nth (specDrawPlaces code) 0) 3, false, 0, []))).2.1)) == (((k0 : Nat) : Int) == Int.tmod (nth (specDrawPlaces code) 0) 3)) = true := bnot_f h6l
        have h6lnd := eq_of_beq h6ln
        have h6r : (decide ((implCountListed (((specCreateFile (specNewStore specDefaultSchema) (0, Int.tmod (nth (specDrawPlaces code) 0) 3, false, 0, []))).1) [((⟨#[100, 97]⟩, [((1, 0, 0, ⟨#[]⟩, (0, 0, ⟨#[]⟩)) : NodeD)]) : DirD)] ((k0 : Nat) : Int) ⟨#[100, 97]⟩) > (1 : Int))) = false := or_r h6
        have h6rd := of_decide_eq_false h6r
        refine awp_skip ?_
        refine rk tt_ok [(9, .i ((k0 + 1 : Nat) : Int))] [9, 50] [] [] [(1, .val (.i ((k0 + 1 : Nat) : Int)))] (o1 (ob_eq (av_i (wrap_succ k0 (by omega))))) ?_
        exact Exists.intro () (And.intro (weak_fit (by kernel_rfl)) (forN_next hk0 (bif_f h6 (rfl)) hI0))
    ·
      refine awp_seq ?_
      refine awp_seq ?_
      refine rk tt_ok [(32, .b false)] [] [] [] [(1, .val (.b false))] (o1 (ob_eq (av_bool (decide_eq_false (p := ((k0 : Nat) : Int) < (3 : Int)) (by omega))))) ?_
      refine ckF ?_
      refine awp_exit ?_
      exact Exists.intro () (And.intro (weak_fit (by kernel_rfl)) (forN_end hk0 (rfl) hI0))
    ·
      refine awp_seq ?_
      refine rk tt_ok [(2, .b (((implListDir (((specCreateFile (specNewStore specDefaultSchema) (0, Int.tmod (nth (specDrawPlaces code) 0) 3, false, 0, []))).1) [((⟨#[100, 97]⟩, [((1, 0, 0, ⟨#[]⟩, (0, 0, ⟨#[]⟩)) : NodeD)]) : DirD)] (Int.tmod (nth (specDrawPlaces code) 0) 3) ⟨#[100, 97]⟩).length : Int) == (1 : Int)))] [2, 4, 5, 8] [] [5] [(3, .val (.o 0 (implListDir (((specCreateFile (specNewStore specDefaultSchema) (0, Int.tmod (nth (specDrawPlaces code) 0) 3, false, 0, []))).1) [((⟨#[100, 97]⟩, [((1, 0, 0, ⟨#[]⟩, (0, 0, ⟨#[]⟩)) : NodeD)]) : DirD)] (Int.tmod (nth (specDrawPlaces code) 0) 3) ⟨#[100, 97]⟩))), (4, .val (.i ((implListDir (((specCreateFile (specNewStore specDefaultSchema) (0, Int.tmod (nth (specDrawPlaces code) 0) 3, false, 0, []))).1) [((⟨#[100, 97]⟩, [((1, 0, 0, ⟨#[]⟩, (0, 0, ⟨#[]⟩)) : NodeD)]) : DirD)] (Int.tmod (nth (specDrawPlaces code) 0) 3) ⟨#[100, 97]⟩).length : Int)))] (o2 (ob_call (implListDir_a (((specCreateFile (specNewStore specDefaultSchema) (0, Int.tmod (nth (specDrawPlaces code) 0) 3, false, 0, []))).1) [((⟨#[100, 97]⟩, [((1, 0, 0, ⟨#[]⟩, (0, 0, ⟨#[]⟩)) : NodeD)]) : DirD)] (Int.tmod (nth (specDrawPlaces code) 0) 3) ⟨#[100, 97]⟩)) (o1 (ob_eq (av_len (implListDir (((specCreateFile (specNewStore specDefaultSchema) (0, Int.tmod (nth (specDrawPlaces code) 0) 3, false, 0, []))).1) [((⟨#[100, 97]⟩, [((1, 0, 0, ⟨#[]⟩, (0, 0, ⟨#[]⟩)) : NodeD)]) : DirD)] (Int.tmod (nth (specDrawPlaces code) 0) 3) ⟨#[100, 97]⟩))))) ?_
      refine awp_ret ?_
      exact pret [] (congrArg (fun z => (.b z : AV)) (show lawsFnUnreadable code = (((implListDir (((specCreateFile (specNewStore specDefaultSchema) (0, Int.tmod (nth (specDrawPlaces code) 0) 3, false, 0, []))).1) [((⟨#[100, 97]⟩, [((1, 0, 0, ⟨#[]⟩, (0, 0, ⟨#[]⟩)) : NodeD)]) : DirD)] (Int.tmod (nth (specDrawPlaces code) 0) 3) ⟨#[100, 97]⟩).length : Int) == (1 : Int)) from bif_f h1 (on_b hD0 (rfl))).symm)
end Go.Proofs.Ytncjdkfjhkpkmaa
namespace Go.Proofs.Ytncjdkfjhkpkmaa
open Go.RowKit
def unS (t : Int) : StoreD := (specCreateFile (specNewStore specDefaultSchema) (0, t, false, 0, [])).1
def unI (t : Int) : Int := (specCreateFile (specNewStore specDefaultSchema) (0, t, false, 0, [])).2.1
def unD : List DirD := [(⟨#[100, 97]⟩, [((1, 0, 0, ⟨#[]⟩, (0, 0, ⟨#[]⟩)) : NodeD)])]
def unF (t : Int) (k : Nat) (_ : Unit) : Rd Bool Unit Unit := (bif ((!((implIsListed (unS t) unD ((k : Nat) : Int) ⟨#[100, 97]⟩ (unI t)) == (((k : Nat) : Int) == t))) || decide ((implCountListed (unS t) unD ((k : Nat) : Int) ⟨#[100, 97]⟩) > (1 : Int))) then (.ret false) else (.next ()))
def unAll (t : Int) : Bool := Out.on (forN (unF t) lawsFnUnreadable_e0 (Int.toNat (3 : Int)) 0 ()) (fun _ => (((implListDir (unS t) unD t ⟨#[100, 97]⟩).length : Int) == (1 : Int)))
theorem un0 : unAll 0 = true := by kernel_rfl
theorem un1 : unAll 1 = true := by kernel_rfl
theorem un2 : unAll 2 = true := by kernel_rfl
theorem lawsFnUnreadable_true (code : List UInt8) : lawsFnUnreadable code = true := by
  unfold lawsFnUnreadable
  cases lawsbig code with
  | true => rfl
  | false =>
    obtain ⟨h0, h1⟩ := (place_mod code 0 (by decide) (m := 3) (by decide)).2
    show unAll (Int.tmod (nth (specDrawPlaces code) 0) 3) = true
    generalize Int.tmod (nth (specDrawPlaces code) 0) 3 = t at h0 h1
    have ht : t = 0 ∨ t = 1 ∨ t = 2 := by omega
    rcases ht with rfl | rfl | rfl
    · exact un0
    · exact un1
    · exact un2
end Go.Proofs.Ytncjdkfjhkpkmaa
namespace Go.Proofs.Ytncjdkfjhkpkmaa
open Go.RowKit
open GoD (rd own)
theorem bigUnreadable (w : World) (v : Value) (a : List UInt8) (h : rd w [v] a) (hbig : ¬ a.length ≤ 1048576) : Calls Try.prog 3 #[v] w (Ret w (.bool true)) := by
  obtain ⟨oa, cap, rfl⟩ := slice_of_rd h
  have hln := len_of_rd h
  clear h
  have hbi : 1048576 < (a.length : Int) := by omega
  go_enter Try.func3, Try.ntmps3
  go_wp2_with (first | (go_at_call 4; go_in))
  go_ret
  exact ⟨rfl, by go_grown⟩
theorem lawUnreadable (w : World) (v : Value) (a : List UInt8) (h : rd w [v] a) : Calls Try.prog 3 #[v] w (Ret w (.bool true)) := by
  by_cases hbig : a.length ≤ 1048576
  · haveI : Good Try.prog w := Good.none (by kernel_rfl) w
    have hc := (lawsFnUnreadable_a a).run (.cons (arg_sli h ⟨by omega, fun _ _ => trivial⟩) .nil)
    rw [lawsFnUnreadable_true] at hc
    exact hc.mono fun _ _ h => ret_bool h
  · exact bigUnreadable w v a h hbig
end Go.Proofs.Ytncjdkfjhkpkmaa
