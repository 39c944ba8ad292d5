/- What functions compute, and that they do (printed by am2.py): each function as a Lean function, then its contract. -/
import Derived.Test.YtjkfmihbmkbjfaaGreatIvb
import Derived.KernelRfl
set_option linter.unusedVariables false
set_option linter.unusedSimpArgs false
namespace Go.Proofs.YtjkfmihbmkbjfaaGreat
open Go.RowKit
open GoE (enc wide)
def implcopyFile (f : FileD) : FileD := f
theorem implcopyFile_a (f : FileD) : ACalls Tryz.prog 138 [.a [.i f.1, .i f.2.1, .b f.2.2.1, .i f.2.2.2.1, .h f.2.2.2.2]] (.a [.i ((implcopyFile f).1), .i ((implcopyFile f).2.1), .b ((implcopyFile f).2.2.1), .i ((implcopyFile f).2.2.2.1), .o 0 ((implcopyFile f).2.2.2.2)]) := by
  refine acalls_of (tt := tt) tt_ok Tryz.func138 (fn := Tryz.f138) rfl (by unfold FnOk; kernel_rfl) (Nat.le_of_ble_eq_true rfl) fun w0 F0 => ?_
  refine awp_seq ?_
  refine rk tt_ok [(1, .p 1 0), (2, .p 2 0)] [0] [(1, [.i f.1, .i f.2.1, .b f.2.2.1, .i f.2.2.2.1, .h f.2.2.2.2]), (2, [.i 0, .i 0, .b false, .i 0, .e 0])] [] [] (o0) ?_
  refine awp_seq ?_
  refine rk tt_ok [] [] [(1, [.i f.1, .i f.2.1, .b f.2.2.1, .i f.2.2.2.1, .o 320 f.2.2.2.2])] [1] [(2, .val (.o 0 f.2.2.2.2))] (o1 (ob_call (cloneAttr_a f.2.2.2.2))) ?_
  refine awp_seq ?_
  refine rk tt_ok [] [1] [(2, [.i f.1, .i f.2.1, .b f.2.2.1, .i f.2.2.2.1, .o 320 f.2.2.2.2])] [1, 2] [] (o0) ?_
  refine awp_ret ?_
  exact pret [] (congrArg (fun z => (.a [.i z.1, .i z.2.1, .b z.2.2.1, .i z.2.2.2.1, .o 0 z.2.2.2.2] : AV)) (show implcopyFile f = f from rfl).symm)
def implcopyFiles_f0 (_ : Nat) (a0 : FileD) (s0 : (List FileD)) : Rd ((List FileD)) ((List FileD)) ((List FileD)) := (.next (s0 ++ [(implcopyFile a0)]))
def implcopyFiles_e0 (_ : Nat) (s0 : (List FileD)) : (List FileD) := s0
def implcopyFiles (l : (List FileD)) : (List FileD) := (Out.on (forL implcopyFiles_f0 implcopyFiles_e0 l 0 []) (fun y0 => y0))
theorem implcopyFiles_a (l : (List FileD)) : ACalls Tryz.prog 99 [.h l] (.o 0 (implcopyFiles l)) := by
  refine acalls_of (tt := tt) tt_ok Tryz.func99 (fn := Tryz.f99) rfl (by unfold FnOk; kernel_rfl) (Nat.le_of_ble_eq_true rfl) fun w0 F0 => ?_
  refine awp_seq ?_
  refine rk tt_ok [(2, .e 0)] [] [] [] [] (o0) ?_
  refine awp_seq ?_
  refine rk tt_ok [(3, .one (.slc (.own true 384) 5 []))] [] [] [] [] (o0) ?_
  refine awp_seq ?_
  refine awp_seq ?_
  refine rk tt_ok [(7, .h l), (8, .i (l.length : Int)), (9, .i 0)] [0] [] [] [(1, .val (.i (l.length : Int)))] (o1 (ob_eq (av_len l))) ?_
  refine wdT 7 0 .sh l (fun hw1 => ?_)
  have hl2 : List.length l ≤ 1073741824 := wide_len (hw1)
  refine blk (fun (k0 : Nat) (s0 : (List FileD)) => [(3, .o 147201 s0), (9, .i ((k0 : Nat) : Int))]) [3, 9] (fun k0 s0 => []) [] (fun (y0 : (List FileD)) => [(3, .o 147351 y0)]) [3, 7, 8, 9] (fun y0 => []) [] (fun (k0 : Nat) (s0 : (List FileD)) => (forL implcopyFiles_f0 implcopyFiles_e0 l 0 []) = forL implcopyFiles_f0 implcopyFiles_e0 (List.drop k0 l) k0 s0 ∧ List.length s0 ≤ k0) (fun (y0 : (List FileD)) => (forL implcopyFiles_f0 implcopyFiles_e0 l 0 []) = .brk y0) l.length [] (weak_sf [(384, 147201)] (by kernel_rfl)) ⟨rfl, (by simp)⟩ (fun k0 s0 hk0 hI0 => ?_) (fun k0 s0 hk0 hI0 => ?_) (fun y0 hD0 => ?_)
  ·
    have hA0_0 := hI0.2
    obtain ⟨a0, hx0⟩ := get_some (l := l) (i := k0) hk0
    refine awp_seq ?_
    refine rk tt_ok [(10, .b true)] [] [] [] [(0, .val (.b true))] (o1 (ob_eq (av_bool (decide_eq_true (p := ((k0 : Nat) : Int) < (l.length : Int)) (by omega))))) ?_
    refine awp_seq ?_
    refine ckT ?_
    refine awp_skip ?_
    refine awp_seq ?_
    refine awp_block ?_
    refine awp_seq ?_
    refine rk tt_ok [(5, .p 5 0)] [10] [(5, [.i a0.1, .i a0.2.1, .b a0.2.2.1, .i a0.2.2.2.1, .h a0.2.2.2.2])] [] [(0, .row [.i a0.1, .i a0.2.1, .b a0.2.2.1, .i a0.2.2.2.1, .h a0.2.2.2.2])] (o1 (ob_elem (el_of (i := ((k0 : Nat) : Int)) (by omega) rfl hx0))) ?_
    refine wdT 3 0 (.own true 147201) s0 (fun hw3 => ?_)
    have hl4 : List.length s0 ≤ 1073741824 := wide_len (hw3)
    refine rk tt_ok [(3, .one (.slc (.own true 1088) 5 ((eL s0) ++ [[.i ((implcopyFile a0).1), .i ((implcopyFile a0).2.1), .b ((implcopyFile a0).2.2.1), .i ((implcopyFile a0).2.2.2.1), .h ((implcopyFile a0).2.2.2.2)]])))] [3, 5] [] [5] [(2, .val (.a [.i ((implcopyFile a0).1), .i ((implcopyFile a0).2.1), .b ((implcopyFile a0).2.2.1), .i ((implcopyFile a0).2.2.2.1), .o 0 ((implcopyFile a0).2.2.2.2)]))] (o2 (ob_call (implcopyFile_a a0)) (o1 (ob_len (len_of (eL_length s0) (eL_length [(implcopyFile a0)]) (by first | omega | (simp; omega) | simp))))) ?_
    refine eqn [(3, .o 1088 (s0 ++ [(implcopyFile a0)]))] [3] [] [] (by rw [show ((eL s0) ++ [[.i ((implcopyFile a0).1), .i ((implcopyFile a0).2.1), .b ((implcopyFile a0).2.2.1), .i ((implcopyFile a0).2.2.2.1), .h ((implcopyFile a0).2.2.2.2)]]) = (eL (s0 ++ [(implcopyFile a0)])) from app_eL (rfl) (rfl)]; first | done | kernel_rfl) ?_
    refine rk tt_ok [(9, .i ((k0 + 1 : Nat) : Int))] [9] [] [] [(0, .val (.i ((k0 + 1 : Nat) : Int)))] (o1 (ob_eq (av_i (wrap_succ k0 (by omega))))) ?_
    exact Exists.intro (s0 ++ [(implcopyFile a0)]) (And.intro (weak_sf [(1088, 147201)] (by kernel_rfl)) ⟨forL_next hx0 (rfl) hI0.1, by first | omega | (simp; omega) | simp⟩)
  ·
    have hA0_0 := hI0.2
    refine awp_seq ?_
    refine rk tt_ok [(10, .b false)] [] [] [] [(0, .val (.b false))] (o1 (ob_eq (av_bool (decide_eq_false (p := ((k0 : Nat) : Int) < (l.length : Int)) (by omega))))) ?_
    refine awp_seq ?_
    refine ckF ?_
    refine awp_exit ?_
    exact Exists.intro s0 (And.intro (weak_sf [(147201, 147351)] (by kernel_rfl)) (forL_end hk0 (rfl) hI0.1))
  ·
    refine awp_seq ?_
    refine rk tt_ok [(2, .o 147351 y0)] [2, 3] [] [] [] (o0) ?_
    refine awp_ret ?_
    exact pret [] (congrArg (fun z => (.o 0 z : AV)) (show implcopyFiles l = y0 from on_b hD0 (rfl)).symm)
def implcopyStore (s_ : StoreD) : StoreD := (s_.1, (implcopyFiles s_.2.1), s_.2.2)
theorem implcopyStore_a (s_ : StoreD) : ACalls Tryz.prog 48 [.a [.h s_.1, .h s_.2.1, .i s_.2.2]] (.a [.o 0 ((implcopyStore s_).1), .o 1 ((implcopyStore s_).2.1), .i ((implcopyStore s_).2.2)]) := by
  refine acalls_of (tt := tt) tt_ok Tryz.func48 (fn := Tryz.f48) rfl (by unfold FnOk; kernel_rfl) (Nat.le_of_ble_eq_true rfl) fun w0 F0 => ?_
  refine awp_seq ?_
  refine rk tt_ok [(1, .p 1 0), (2, .p 2 0)] [0] [(1, [.h s_.1, .h s_.2.1, .i s_.2.2]), (2, [.e 0, .e 0, .i 0])] [] [] (o0) ?_
  refine awp_seq ?_
  refine rd' tt_ok tt_mx [] [1] [(2, [.o 320 s_.1, .o 512 (implcopyFiles s_.2.1), .i s_.2.2])] [1, 2] [(2, .val (.o 0 s_.1)), (5, .val (.o 0 (implcopyFiles s_.2.1)))] (o2 (ob_call (cloneField_a s_.1)) (o1 (ob_call (implcopyFiles_a s_.2.1)))) ?_
  refine awp_ret ?_
  exact pret [] (congrArg (fun z => (.a [.o 0 z.1, .o 1 z.2.1, .i z.2.2] : AV)) (show implcopyStore s_ = (s_.1, (implcopyFiles s_.2.1), s_.2.2) from rfl).symm)
def implcopyDir (x : DirD) : DirD := x
theorem implcopyDir_a (x : DirD) : ACalls Tryz.prog 100 [.a [.s x.1, .h x.2]] (.a [.s ((implcopyDir x).1), .o 0 ((implcopyDir x).2)]) := by
  refine acalls_of (tt := tt) tt_ok Tryz.func100 (fn := Tryz.f100) rfl (by unfold FnOk; kernel_rfl) (Nat.le_of_ble_eq_true rfl) fun w0 F0 => ?_
  refine awp_seq ?_
  refine rk tt_ok [(1, .p 1 0), (2, .p 2 0)] [0] [(1, [.s x.1, .h x.2]), (2, [.s ⟨#[]⟩, .e 0])] [] [] (o0) ?_
  refine awp_seq ?_
  refine rk tt_ok [] [] [(1, [.s x.1, .o 320 x.2])] [1] [(2, .val (.o 0 x.2))] (o1 (ob_call (cloneNode_a x.2))) ?_
  refine awp_seq ?_
  refine rk tt_ok [] [1] [(2, [.s x.1, .o 320 x.2])] [1, 2] [] (o0) ?_
  refine awp_ret ?_
  exact pret [] (congrArg (fun z => (.a [.s z.1, .o 0 z.2] : AV)) (show implcopyDir x = x from rfl).symm)
def implcopyDirs_f0 (_ : Nat) (a0 : DirD) (s0 : (List DirD)) : Rd ((List DirD)) ((List DirD)) ((List DirD)) := (.next (s0 ++ [(implcopyDir a0)]))
def implcopyDirs_e0 (_ : Nat) (s0 : (List DirD)) : (List DirD) := s0
def implcopyDirs (d : (List DirD)) : (List DirD) := (Out.on (forL implcopyDirs_f0 implcopyDirs_e0 d 0 []) (fun y0 => y0))
theorem implcopyDirs_a (d : (List DirD)) : ACalls Tryz.prog 49 [.h d] (.o 0 (implcopyDirs d)) := by
  refine acalls_of (tt := tt) tt_ok Tryz.func49 (fn := Tryz.f49) rfl (by unfold FnOk; kernel_rfl) (Nat.le_of_ble_eq_true rfl) fun w0 F0 => ?_
  refine awp_seq ?_
  refine rk tt_ok [(2, .e 0)] [] [] [] [] (o0) ?_
  refine awp_seq ?_
  refine rk tt_ok [(3, .one (.slc (.own true 384) 2 []))] [] [] [] [] (o0) ?_
  refine awp_seq ?_
  refine awp_seq ?_
  refine rk tt_ok [(7, .h d), (8, .i (d.length : Int)), (9, .i 0)] [0] [] [] [(1, .val (.i (d.length : Int)))] (o1 (ob_eq (av_len d))) ?_
  refine wdT 7 0 .sh d (fun hw1 => ?_)
  have hl2 : List.length d ≤ 1073741824 := wide_len (hw1)
  refine blk (fun (k0 : Nat) (s0 : (List DirD)) => [(3, .o 147201 s0), (9, .i ((k0 : Nat) : Int))]) [3, 9] (fun k0 s0 => []) [] (fun (y0 : (List DirD)) => [(3, .o 147351 y0)]) [3, 7, 8, 9] (fun y0 => []) [] (fun (k0 : Nat) (s0 : (List DirD)) => (forL implcopyDirs_f0 implcopyDirs_e0 d 0 []) = forL implcopyDirs_f0 implcopyDirs_e0 (List.drop k0 d) k0 s0 ∧ List.length s0 ≤ k0) (fun (y0 : (List DirD)) => (forL implcopyDirs_f0 implcopyDirs_e0 d 0 []) = .brk y0) d.length [] (weak_sf [(384, 147201)] (by kernel_rfl)) ⟨rfl, (by simp)⟩ (fun k0 s0 hk0 hI0 => ?_) (fun k0 s0 hk0 hI0 => ?_) (fun y0 hD0 => ?_)
  ·
    have hA0_0 := hI0.2
    obtain ⟨a0, hx0⟩ := get_some (l := d) (i := k0) hk0
    refine awp_seq ?_
    refine rk tt_ok [(10, .b true)] [] [] [] [(0, .val (.b true))] (o1 (ob_eq (av_bool (decide_eq_true (p := ((k0 : Nat) : Int) < (d.length : Int)) (by omega))))) ?_
    refine awp_seq ?_
    refine ckT ?_
    refine awp_skip ?_
    refine awp_seq ?_
    refine awp_block ?_
    refine awp_seq ?_
    refine rk tt_ok [(5, .p 5 0)] [10] [(5, [.s a0.1, .h a0.2])] [] [(0, .row [.s a0.1, .h a0.2])] (o1 (ob_elem (el_of (i := ((k0 : Nat) : Int)) (by omega) rfl hx0))) ?_
    refine wdT 3 0 (.own true 147201) s0 (fun hw3 => ?_)
    have hl4 : List.length s0 ≤ 1073741824 := wide_len (hw3)
    refine rk tt_ok [(3, .one (.slc (.own true 1088) 2 ((eL s0) ++ [[.s ((implcopyDir a0).1), .h ((implcopyDir a0).2)]])))] [3, 5] [] [5] [(2, .val (.a [.s ((implcopyDir a0).1), .o 0 ((implcopyDir a0).2)]))] (o2 (ob_call (implcopyDir_a a0)) (o1 (ob_len (len_of (eL_length s0) (eL_length [(implcopyDir a0)]) (by first | omega | (simp; omega) | simp))))) ?_
    refine eqn [(3, .o 1088 (s0 ++ [(implcopyDir a0)]))] [3] [] [] (by rw [show ((eL s0) ++ [[.s ((implcopyDir a0).1), .h ((implcopyDir a0).2)]]) = (eL (s0 ++ [(implcopyDir a0)])) from app_eL (rfl) (rfl)]; first | done | kernel_rfl) ?_
    refine rk tt_ok [(9, .i ((k0 + 1 : Nat) : Int))] [9] [] [] [(0, .val (.i ((k0 + 1 : Nat) : Int)))] (o1 (ob_eq (av_i (wrap_succ k0 (by omega))))) ?_
    exact Exists.intro (s0 ++ [(implcopyDir a0)]) (And.intro (weak_sf [(1088, 147201)] (by kernel_rfl)) ⟨forL_next hx0 (rfl) hI0.1, by first | omega | (simp; omega) | simp⟩)
  ·
    have hA0_0 := hI0.2
    refine awp_seq ?_
    refine rk tt_ok [(10, .b false)] [] [] [] [(0, .val (.b false))] (o1 (ob_eq (av_bool (decide_eq_false (p := ((k0 : Nat) : Int) < (d.length : Int)) (by omega))))) ?_
    refine awp_seq ?_
    refine ckF ?_
    refine awp_exit ?_
    exact Exists.intro s0 (And.intro (weak_sf [(147201, 147351)] (by kernel_rfl)) (forL_end hk0 (rfl) hI0.1))
  ·
    refine awp_seq ?_
    refine rk tt_ok [(2, .o 147351 y0)] [2, 3] [] [] [] (o0) ?_
    refine awp_ret ?_
    exact pret [] (congrArg (fun z => (.o 0 z : AV)) (show implcopyDirs d = y0 from on_b hD0 (rfl)).symm)
def implcopySnapshot (x : SnapshotD) : SnapshotD := ((implcopyStore x.1), (implcopyDirs x.2))
theorem implcopySnapshot_a (x : SnapshotD) : ACalls Tryz.prog 85 [.a [.h x.1.1, .h x.1.2.1, .i x.1.2.2, .h x.2]] (.a [.o 0 ((implcopySnapshot x).1.1), .o 1 ((implcopySnapshot x).1.2.1), .i ((implcopySnapshot x).1.2.2), .o 2 ((implcopySnapshot x).2)]) := by
  refine acalls_of (tt := tt) tt_ok Tryz.func85 (fn := Tryz.f85) rfl (by unfold FnOk; kernel_rfl) (Nat.le_of_ble_eq_true rfl) fun w0 F0 => ?_
  refine awp_seq ?_
  refine rk tt_ok [(1, .p 1 0), (2, .p 2 0)] [0] [(1, [.h x.1.1, .h x.1.2.1, .i x.1.2.2, .h x.2]), (2, [.e 0, .e 0, .i 0, .e 0])] [] [] (o0) ?_
  refine awp_seq ?_
  refine rd' tt_ok tt_mx [] [1] [(2, [.o 320 ((implcopyStore x.1).1), .o 321 ((implcopyStore x.1).2.1), .i ((implcopyStore x.1).2.2), .o 512 (implcopyDirs x.2)])] [1, 2] [(2, .val (.a [.o 0 ((implcopyStore x.1).1), .o 1 ((implcopyStore x.1).2.1), .i ((implcopyStore x.1).2.2)])), (5, .val (.o 0 (implcopyDirs x.2)))] (o2 (ob_call (implcopyStore_a x.1)) (o1 (ob_call (implcopyDirs_a x.2)))) ?_
  refine awp_ret ?_
  exact pret [] (congrArg (fun z => (.a [.o 0 z.1.1, .o 1 z.1.2.1, .i z.1.2.2, .o 2 z.2] : AV)) (show implcopySnapshot x = ((implcopyStore x.1), (implcopyDirs x.2)) from rfl).symm)
def implcopyVersions_f0 (_ : Nat) (a0 : VersionD) (s0 : (List VersionD)) : Rd ((List VersionD)) ((List VersionD)) ((List VersionD)) := (.next (s0 ++ [(a0.1, (implcopySnapshot a0.2.1), a0.2.2)]))
def implcopyVersions_e0 (_ : Nat) (s0 : (List VersionD)) : (List VersionD) := s0
def implcopyVersions (v : (List VersionD)) : (List VersionD) := (Out.on (forL implcopyVersions_f0 implcopyVersions_e0 v 0 []) (fun y0 => y0))
theorem implcopyVersions_a (v : (List VersionD)) : ACalls Tryz.prog 84 [.h v] (.o 0 (implcopyVersions v)) := by
  refine acalls_of (tt := tt) tt_ok Tryz.func84 (fn := Tryz.f84) rfl (by unfold FnOk; kernel_rfl) (Nat.le_of_ble_eq_true rfl) fun w0 F0 => ?_
  refine awp_seq ?_
  refine rk tt_ok [(2, .e 0)] [] [] [] [] (o0) ?_
  refine awp_seq ?_
  refine rk tt_ok [(3, .one (.slc (.own true 384) 6 []))] [] [] [] [] (o0) ?_
  refine awp_seq ?_
  refine awp_seq ?_
  refine rk tt_ok [(7, .h v), (8, .i (v.length : Int)), (9, .i 0)] [0] [] [] [(1, .val (.i (v.length : Int)))] (o1 (ob_eq (av_len v))) ?_
  refine wdT 7 0 .sh v (fun hw1 => ?_)
  have hl2 : List.length v ≤ 1073741824 := wide_len (hw1)
  refine blk (fun (k0 : Nat) (s0 : (List VersionD)) => [(3, .o 147201 s0), (9, .i ((k0 : Nat) : Int))]) [3, 9] (fun k0 s0 => []) [] (fun (y0 : (List VersionD)) => [(3, .o 147351 y0)]) [3, 7, 8, 9] (fun y0 => []) [] (fun (k0 : Nat) (s0 : (List VersionD)) => (forL implcopyVersions_f0 implcopyVersions_e0 v 0 []) = forL implcopyVersions_f0 implcopyVersions_e0 (List.drop k0 v) k0 s0 ∧ List.length s0 ≤ k0) (fun (y0 : (List VersionD)) => (forL implcopyVersions_f0 implcopyVersions_e0 v 0 []) = .brk y0) v.length [] (weak_sf [(384, 147201)] (by kernel_rfl)) ⟨rfl, (by simp)⟩ (fun k0 s0 hk0 hI0 => ?_) (fun k0 s0 hk0 hI0 => ?_) (fun y0 hD0 => ?_)
  ·
    have hA0_0 := hI0.2
    obtain ⟨a0, hx0⟩ := get_some (l := v) (i := k0) hk0
    refine awp_seq ?_
    refine rk tt_ok [(10, .b true)] [] [] [] [(0, .val (.b true))] (o1 (ob_eq (av_bool (decide_eq_true (p := ((k0 : Nat) : Int) < (v.length : Int)) (by omega))))) ?_
    refine awp_seq ?_
    refine ckT ?_
    refine awp_skip ?_
    refine awp_seq ?_
    refine awp_block ?_
    refine awp_seq ?_
    refine rk tt_ok [(5, .p 5 0)] [10] [(5, [.i a0.1, .h a0.2.1.1.1, .h a0.2.1.1.2.1, .i a0.2.1.1.2.2, .h a0.2.1.2, .i a0.2.2])] [] [(0, .row [.i a0.1, .h a0.2.1.1.1, .h a0.2.1.1.2.1, .i a0.2.1.1.2.2, .h a0.2.1.2, .i a0.2.2])] (o1 (ob_elem (el_of (i := ((k0 : Nat) : Int)) (by omega) rfl hx0))) ?_
    refine awp_seq ?_
    refine rk tt_ok [] [] [(5, [.i a0.1, .o 960 ((implcopySnapshot a0.2.1).1.1), .o 961 ((implcopySnapshot a0.2.1).1.2.1), .i ((implcopySnapshot a0.2.1).1.2.2), .o 962 ((implcopySnapshot a0.2.1).2), .i a0.2.2])] [5] [(2, .val (.a [.o 0 ((implcopySnapshot a0.2.1).1.1), .o 1 ((implcopySnapshot a0.2.1).1.2.1), .i ((implcopySnapshot a0.2.1).1.2.2), .o 2 ((implcopySnapshot a0.2.1).2)]))] (o1 (ob_call (implcopySnapshot_a a0.2.1))) ?_
    refine wdT 3 0 (.own true 147201) s0 (fun hw3 => ?_)
    have hl4 : List.length s0 ≤ 1073741824 := wide_len (hw3)
    refine rk tt_ok [(3, .one (.slc (.own true 1280) 6 ((eL s0) ++ [[.i a0.1, .h ((implcopySnapshot a0.2.1).1.1), .h ((implcopySnapshot a0.2.1).1.2.1), .i ((implcopySnapshot a0.2.1).1.2.2), .h ((implcopySnapshot a0.2.1).2), .i a0.2.2]])))] [3, 5] [] [5] [] (o1 (ob_len (len_of (eL_length s0) (eL_length [(a0.1, (implcopySnapshot a0.2.1), a0.2.2)]) (by first | omega | (simp; omega) | simp)))) ?_
    refine eqn [(3, .o 1280 (s0 ++ [(a0.1, (implcopySnapshot a0.2.1), a0.2.2)]))] [3] [] [] (by rw [show ((eL s0) ++ [[.i a0.1, .h ((implcopySnapshot a0.2.1).1.1), .h ((implcopySnapshot a0.2.1).1.2.1), .i ((implcopySnapshot a0.2.1).1.2.2), .h ((implcopySnapshot a0.2.1).2), .i a0.2.2]]) = (eL (s0 ++ [(a0.1, (implcopySnapshot a0.2.1), a0.2.2)])) from app_eL (rfl) (rfl)]; first | done | kernel_rfl) ?_
    refine rk tt_ok [(9, .i ((k0 + 1 : Nat) : Int))] [9] [] [] [(0, .val (.i ((k0 + 1 : Nat) : Int)))] (o1 (ob_eq (av_i (wrap_succ k0 (by omega))))) ?_
    exact Exists.intro (s0 ++ [(a0.1, (implcopySnapshot a0.2.1), a0.2.2)]) (And.intro (weak_sf [(1280, 147201)] (by kernel_rfl)) ⟨forL_next hx0 (rfl) hI0.1, by first | omega | (simp; omega) | simp⟩)
  ·
    have hA0_0 := hI0.2
    refine awp_seq ?_
    refine rk tt_ok [(10, .b false)] [] [] [] [(0, .val (.b false))] (o1 (ob_eq (av_bool (decide_eq_false (p := ((k0 : Nat) : Int) < (v.length : Int)) (by omega))))) ?_
    refine awp_seq ?_
    refine ckF ?_
    refine awp_exit ?_
    exact Exists.intro s0 (And.intro (weak_sf [(147201, 147351)] (by kernel_rfl)) (forL_end hk0 (rfl) hI0.1))
  ·
    refine awp_seq ?_
    refine rk tt_ok [(2, .o 147351 y0)] [2, 3] [] [] [] (o0) ?_
    refine awp_ret ?_
    exact pret [] (congrArg (fun z => (.o 0 z : AV)) (show implcopyVersions v = y0 from on_b hD0 (rfl)).symm)
def specl04Copy (f : FileD) : FileD := f
theorem specl04Copy_a (f : FileD) : ACalls Tryz.prog 136 [.a [.i f.1, .i f.2.1, .b f.2.2.1, .i f.2.2.2.1, .h f.2.2.2.2]] (.a [.i ((specl04Copy f).1), .i ((specl04Copy f).2.1), .b ((specl04Copy f).2.2.1), .i ((specl04Copy f).2.2.2.1), .o 0 ((specl04Copy f).2.2.2.2)]) := by
  refine acalls_of (tt := tt) tt_ok Tryz.func136 (fn := Tryz.f136) rfl (by unfold FnOk; kernel_rfl) (Nat.le_of_ble_eq_true rfl) fun w0 F0 => ?_
  refine awp_seq ?_
  refine rk tt_ok [(1, .p 1 0), (2, .p 2 0)] [0] [(1, [.i f.1, .i f.2.1, .b f.2.2.1, .i f.2.2.2.1, .h f.2.2.2.2]), (2, [.i 0, .i 0, .b false, .i 0, .e 0])] [] [] (o0) ?_
  refine awp_seq ?_
  refine wdB 1 4 .sh f.2.2.2.2 (fun hw1 => ?_)
  have hl2 : List.length f.2.2.2.2 ≤ 1073741824 := wide_len (hw1)
  refine rk tt_ok [] [] [(1, [.i f.1, .i f.2.1, .b f.2.2.1, .i f.2.2.2.1, .o 384 f.2.2.2.2])] [1] [(3, .flat)] (o2 (ob_len (n := (([] : List (List PV)).length + ((eL f.2.2.2.2) : List (List PV)).length)) (len_of (rfl) (eL_length f.2.2.2.2) (by first | omega | (simp; omega) | simp))) (o1 (ob_flat (flat_eL f.2.2.2.2)))) ?_
  refine awp_seq ?_
  refine rk tt_ok [] [1] [(2, [.i f.1, .i f.2.1, .b f.2.2.1, .i f.2.2.2.1, .o 384 f.2.2.2.2])] [1, 2] [] (o0) ?_
  refine awp_ret ?_
  exact pret [] (congrArg (fun z => (.a [.i z.1, .i z.2.1, .b z.2.2.1, .i z.2.2.2.1, .o 0 z.2.2.2.2] : AV)) (show specl04Copy f = f from rfl).symm)
def specl05Copy_f0 (_ : Nat) (a0 : FileD) (s0 : (List FileD)) : Rd (StoreD) ((List FileD)) ((List FileD)) := (.next (s0 ++ [(specl04Copy a0)]))
def specl05Copy_e0 (_ : Nat) (s0 : (List FileD)) : (List FileD) := s0
def specl05Copy (s_ : StoreD) : StoreD := (Out.on (forL specl05Copy_f0 specl05Copy_e0 s_.2.1 0 []) (fun y0 => (s_.1, y0, s_.2.2)))
theorem specl05Copy_a (s_ : StoreD) : ACalls Tryz.prog 95 [.a [.h s_.1, .h s_.2.1, .i s_.2.2]] (.a [.o 0 ((specl05Copy s_).1), .o 1 ((specl05Copy s_).2.1), .i ((specl05Copy s_).2.2)]) := by
  refine acalls_of (tt := tt) tt_ok Tryz.func95 (fn := Tryz.f95) rfl (by unfold FnOk; kernel_rfl) (Nat.le_of_ble_eq_true rfl) fun w0 F0 => ?_
  refine awp_seq ?_
  refine rk tt_ok [(1, .p 1 0), (2, .p 2 0)] [0] [(1, [.h s_.1, .h s_.2.1, .i s_.2.2]), (2, [.e 0, .e 0, .i 0])] [] [] (o0) ?_
  refine awp_seq ?_
  refine wdB 1 0 .sh s_.1 (fun hw1 => ?_)
  have hl2 : List.length s_.1 ≤ 1073741824 := wide_len (hw1)
  refine rd' tt_ok tt_mx [(3, .p 3 0)] [] [(3, [.o 512 s_.1, .e 0, .i s_.2.2])] [] [(3, .flat)] (o2 (ob_len (n := (([] : List (List PV)).length + ((eL s_.1) : List (List PV)).length)) (len_of (rfl) (eL_length s_.1) (by first | omega | (simp; omega) | simp))) (o1 (ob_flat (flat_eL s_.1)))) ?_
  refine awp_seq ?_
  refine awp_seq ?_
  refine rk tt_ok [(4, .i 0)] [] [] [] [] (o0) ?_
  refine wdB 1 1 .sh s_.2.1 (fun hw3 => ?_)
  have hl4 : List.length s_.2.1 ≤ 1073741824 := wide_len (hw3)
  refine blk (fun (k0 : Nat) (s0 : (List FileD)) => [(4, .i ((k0 : Nat) : Int))]) [4] (fun k0 s0 => [(3, [.o 512 s_.1, .o 147211 s0, .i s_.2.2])]) [3] (fun (y0 : (List FileD)) => []) [1, 4] (fun y0 => [(3, [.o 512 s_.1, .o 147361 y0, .i s_.2.2])]) [1, 3] (fun (k0 : Nat) (s0 : (List FileD)) => (forL specl05Copy_f0 specl05Copy_e0 s_.2.1 0 []) = forL specl05Copy_f0 specl05Copy_e0 (List.drop k0 s_.2.1) k0 s0 ∧ List.length s0 ≤ k0) (fun (y0 : (List FileD)) => (forL specl05Copy_f0 specl05Copy_e0 s_.2.1 0 []) = .brk y0) s_.2.1.length [] (weak_gf [(true, 3, 1, true, 320008, 5)] [] [] [(320008, 147211)] (by kernel_rfl)) ⟨rfl, (by simp)⟩ (fun k0 s0 hk0 hI0 => ?_) (fun k0 s0 hk0 hI0 => ?_) (fun y0 hD0 => ?_)
  ·
    have hA0_0 := hI0.2
    obtain ⟨a0, hx0⟩ := get_some (l := s_.2.1) (i := k0) hk0
    refine awp_seq ?_
    refine awp_seq ?_
    refine rk tt_ok [(16, .b true)] [] [] [] [(3, .val (.i (s_.2.1.length : Int))), (4, .val (.b true))] (o2 (ob_eq (av_len s_.2.1)) (o1 (ob_eq (av_bool (decide_eq_true (p := ((k0 : Nat) : Int) < (s_.2.1.length : Int)) (by omega)))))) ?_
    refine ckT ?_
    refine awp_skip ?_
    refine awp_seq ?_
    refine awp_block ?_
    refine wdB 3 1 (.own true 147211) s0 (fun hw5 => ?_)
    have hl6 : List.length s0 ≤ 1073741824 := wide_len (hw5)
    refine rd' tt_ok tt_mx [] [16] [(3, [.o 512 s_.1, .slc (.own true 1792) 5 ((eL s0) ++ [[.i ((specl04Copy a0).1), .i ((specl04Copy a0).2.1), .b ((specl04Copy a0).2.2.1), .i ((specl04Copy a0).2.2.2.1), .h ((specl04Copy a0).2.2.2.2)]]), .i s_.2.2])] [3] [(5, .row [.i a0.1, .i a0.2.1, .b a0.2.2.1, .i a0.2.2.2.1, .h a0.2.2.2.2]), (7, .val (.a [.i ((specl04Copy a0).1), .i ((specl04Copy a0).2.1), .b ((specl04Copy a0).2.2.1), .i ((specl04Copy a0).2.2.2.1), .o 0 ((specl04Copy a0).2.2.2.2)]))] (o2 (ob_elem (el_of (i := ((k0 : Nat) : Int)) (by omega) rfl hx0)) (o2 (ob_call (specl04Copy_a a0)) (o1 (ob_len (len_of (eL_length s0) (eL_length [(specl04Copy a0)]) (by first | omega | (simp; omega) | simp)))))) ?_
    refine eqn [] [] [(3, [.o 512 s_.1, .o 1792 (s0 ++ [(specl04Copy a0)]), .i s_.2.2])] [3] (by rw [show ((eL s0) ++ [[.i ((specl04Copy a0).1), .i ((specl04Copy a0).2.1), .b ((specl04Copy a0).2.2.1), .i ((specl04Copy a0).2.2.2.1), .h ((specl04Copy a0).2.2.2.2)]]) = (eL (s0 ++ [(specl04Copy a0)])) from app_eL (rfl) (rfl)]; first | done | kernel_rfl) ?_
    refine rk tt_ok [(4, .i ((k0 + 1 : Nat) : Int))] [4] [] [] [(1, .val (.i ((k0 + 1 : Nat) : Int)))] (o1 (ob_eq (av_i (wrap_succ k0 (by omega))))) ?_
    exact Exists.intro (s0 ++ [(specl04Copy a0)]) (And.intro (weak_sf [(1792, 147211)] (by kernel_rfl)) ⟨forL_next hx0 (rfl) hI0.1, by first | omega | (simp; omega) | simp⟩)
  ·
    have hA0_0 := hI0.2
    refine awp_seq ?_
    refine awp_seq ?_
    refine rk tt_ok [(16, .b false)] [] [] [] [(3, .val (.i (s_.2.1.length : Int))), (4, .val (.b false))] (o2 (ob_eq (av_len s_.2.1)) (o1 (ob_eq (av_bool (decide_eq_false (p := ((k0 : Nat) : Int) < (s_.2.1.length : Int)) (by omega)))))) ?_
    refine ckF ?_
    refine awp_exit ?_
    exact Exists.intro s0 (And.intro (weak_sf [(147211, 147361)] (by kernel_rfl)) (forL_end hk0 (rfl) hI0.1))
  ·
    refine awp_seq ?_
    refine rk tt_ok [] [3] [(2, [.o 512 s_.1, .o 147361 y0, .i s_.2.2])] [2, 3] [] (o0) ?_
    refine awp_ret ?_
    exact pret [] (congrArg (fun z => (.a [.o 0 z.1, .o 1 z.2.1, .i z.2.2] : AV)) (show specl05Copy s_ = (s_.1, y0, s_.2.2) from on_b hD0 (rfl)).symm)
def specl11Copy_f0 (_ : Nat) (a0 : DirD) (s0 : (List DirD)) : Rd ((List DirD)) ((List DirD)) ((List DirD)) := (.next (s0 ++ [a0]))
def specl11Copy_e0 (_ : Nat) (s0 : (List DirD)) : (List DirD) := s0
def specl11Copy (d : (List DirD)) : (List DirD) := (Out.on (forL specl11Copy_f0 specl11Copy_e0 d 0 []) (fun y0 => y0))
theorem specl11Copy_a (d : (List DirD)) : ACalls Tryz.prog 96 [.h d] (.o 0 (specl11Copy d)) := by
  refine acalls_of (tt := tt) tt_ok Tryz.func96 (fn := Tryz.f96) rfl (by unfold FnOk; kernel_rfl) (Nat.le_of_ble_eq_true rfl) fun w0 F0 => ?_
  refine awp_seq ?_
  refine rk tt_ok [(2, .e 0)] [] [] [] [] (o0) ?_
  refine awp_seq ?_
  refine rk tt_ok [(3, .one (.slc (.own true 320) 2 []))] [] [] [] [] (o0) ?_
  refine awp_seq ?_
  refine awp_seq ?_
  refine rk tt_ok [(4, .i 0)] [] [] [] [] (o0) ?_
  refine wdT 0 0 .sh d (fun hw1 => ?_)
  have hl2 : List.length d ≤ 1073741824 := wide_len (hw1)
  refine blk (fun (k0 : Nat) (s0 : (List DirD)) => [(3, .o 147202 s0), (4, .i ((k0 : Nat) : Int))]) [3, 4] (fun k0 s0 => []) [] (fun (y0 : (List DirD)) => [(3, .o 147352 y0)]) [0, 3, 4] (fun y0 => []) [] (fun (k0 : Nat) (s0 : (List DirD)) => (forL specl11Copy_f0 specl11Copy_e0 d 0 []) = forL specl11Copy_f0 specl11Copy_e0 (List.drop k0 d) k0 s0 ∧ List.length s0 ≤ k0) (fun (y0 : (List DirD)) => (forL specl11Copy_f0 specl11Copy_e0 d 0 []) = .brk y0) d.length [] (weak_sf [(320, 147202)] (by kernel_rfl)) ⟨rfl, (by simp)⟩ (fun k0 s0 hk0 hI0 => ?_) (fun k0 s0 hk0 hI0 => ?_) (fun y0 hD0 => ?_)
  ·
    have hA0_0 := hI0.2
    obtain ⟨a0, hx0⟩ := get_some (l := d) (i := k0) hk0
    refine awp_seq ?_
    refine awp_seq ?_
    refine rk tt_ok [(9, .b true)] [] [] [] [(2, .val (.i (d.length : Int))), (3, .val (.b true))] (o2 (ob_eq (av_len d)) (o1 (ob_eq (av_bool (decide_eq_true (p := ((k0 : Nat) : Int) < (d.length : Int)) (by omega)))))) ?_
    refine ckT ?_
    refine awp_skip ?_
    refine awp_seq ?_
    refine awp_block ?_
    have hl3 : List.length a0.2 ≤ 1073741824 := wide_len (wide_snd (wide_get hx0 (hw1)))
    refine wdT 3 0 (.own true 147202) s0 (fun hw4 => ?_)
    have hl5 : List.length s0 ≤ 1073741824 := wide_len (hw4)
    refine rd' tt_ok tt_mx [(3, .one (.slc (.own true 1728) 2 ((eL s0) ++ [[.s a0.1, .slc 7 ([] ++ (eL a0.2))]])))] [3, 9] [] [] [(3, .row [.s a0.1, .h a0.2]), (9, .row [.s a0.1, .h a0.2]), (12, .flat)] (o2 (ob_elem (el_of (i := ((k0 : Nat) : Int)) (by omega) rfl hx0)) (o2 (ob_elem (el_of (i := ((k0 : Nat) : Int)) (by omega) rfl hx0)) (o2 (ob_len (n := (([] : List (List PV)).length + ((eL a0.2) : List (List PV)).length)) (len_of (rfl) (eL_length a0.2) (by first | omega | (simp; omega) | simp))) (o2 (ob_flat (flat_eL a0.2)) (o1 (ob_len (n := (((eL s0) : List (List PV)).length + ([[.s a0.1, .slc 7 ([] ++ (eL a0.2))]] : List (List PV)).length)) (len_of (eL_length s0) (rfl) (by first | omega | (simp; omega) | simp)))))))) ?_
    refine eqn [(3, .o 1728 (s0 ++ [a0]))] [3] [] [] (by rw [show ((eL s0) ++ [[.s a0.1, .slc 7 ([] ++ (eL a0.2))]]) = (eL (s0 ++ [a0])) from app_eL (rfl) (rfl)]; first | done | kernel_rfl) ?_
    refine rk tt_ok [(4, .i ((k0 + 1 : Nat) : Int))] [4] [] [] [(1, .val (.i ((k0 + 1 : Nat) : Int)))] (o1 (ob_eq (av_i (wrap_succ k0 (by omega))))) ?_
    exact Exists.intro (s0 ++ [a0]) (And.intro (weak_sf [(1728, 147202)] (by kernel_rfl)) ⟨forL_next hx0 (rfl) hI0.1, by first | omega | (simp; omega) | simp⟩)
  ·
    have hA0_0 := hI0.2
    refine awp_seq ?_
    refine awp_seq ?_
    refine rk tt_ok [(9, .b false)] [] [] [] [(2, .val (.i (d.length : Int))), (3, .val (.b false))] (o2 (ob_eq (av_len d)) (o1 (ob_eq (av_bool (decide_eq_false (p := ((k0 : Nat) : Int) < (d.length : Int)) (by omega)))))) ?_
    refine ckF ?_
    refine awp_exit ?_
    exact Exists.intro s0 (And.intro (weak_sf [(147202, 147352)] (by kernel_rfl)) (forL_end hk0 (rfl) hI0.1))
  ·
    refine awp_seq ?_
    refine rk tt_ok [(2, .o 147352 y0)] [2, 3] [] [] [] (o0) ?_
    refine awp_ret ?_
    exact pret [] (congrArg (fun z => (.o 0 z : AV)) (show specl11Copy d = y0 from on_b hD0 (rfl)).symm)
def specl28State (x : SnapshotD) : SnapshotD := ((specl05Copy x.1), (specl11Copy x.2))
theorem specl28State_a (x : SnapshotD) : ACalls Tryz.prog 44 [.a [.h x.1.1, .h x.1.2.1, .i x.1.2.2, .h x.2]] (.a [.o 0 ((specl28State x).1.1), .o 1 ((specl28State x).1.2.1), .i ((specl28State x).1.2.2), .o 2 ((specl28State x).2)]) := by
  refine acalls_of (tt := tt) tt_ok Tryz.func44 (fn := Tryz.f44) rfl (by unfold FnOk; kernel_rfl) (Nat.le_of_ble_eq_true rfl) fun w0 F0 => ?_
  refine awp_seq ?_
  refine rk tt_ok [(1, .p 1 0), (2, .p 2 0)] [0] [(1, [.h x.1.1, .h x.1.2.1, .i x.1.2.2, .h x.2]), (2, [.e 0, .e 0, .i 0, .e 0])] [] [] (o0) ?_
  refine awp_seq ?_
  refine rd' tt_ok tt_mx [] [1] [(2, [.o 320 ((specl05Copy x.1).1), .o 321 ((specl05Copy x.1).2.1), .i ((specl05Copy x.1).2.2), .o 512 (specl11Copy x.2)])] [1, 2] [(2, .val (.a [.o 0 ((specl05Copy x.1).1), .o 1 ((specl05Copy x.1).2.1), .i ((specl05Copy x.1).2.2)])), (5, .val (.o 0 (specl11Copy x.2)))] (o2 (ob_call (specl05Copy_a x.1)) (o1 (ob_call (specl11Copy_a x.2)))) ?_
  refine awp_ret ?_
  exact pret [] (congrArg (fun z => (.a [.o 0 z.1.1, .o 1 z.1.2.1, .i z.1.2.2, .o 2 z.2] : AV)) (show specl28State x = ((specl05Copy x.1), (specl11Copy x.2)) from rfl).symm)
def specl28Copy_f0 (_ : Nat) (a0 : VersionD) (s0 : (List VersionD)) : Rd ((List VersionD)) ((List VersionD)) ((List VersionD)) := (.next (s0 ++ [(a0.1, (specl28State a0.2.1), a0.2.2)]))
def specl28Copy_e0 (_ : Nat) (s0 : (List VersionD)) : (List VersionD) := s0
def specl28Copy (k_ : (List VersionD)) : (List VersionD) := (Out.on (forL specl28Copy_f0 specl28Copy_e0 k_ 0 []) (fun y0 => y0))
theorem specl28Copy_a (k_ : (List VersionD)) : ACalls Tryz.prog 83 [.h k_] (.o 0 (specl28Copy k_)) := by
  refine acalls_of (tt := tt) tt_ok Tryz.func83 (fn := Tryz.f83) rfl (by unfold FnOk; kernel_rfl) (Nat.le_of_ble_eq_true rfl) fun w0 F0 => ?_
  refine awp_seq ?_
  refine rk tt_ok [(2, .e 0)] [] [] [] [] (o0) ?_
  refine awp_seq ?_
  refine rk tt_ok [(3, .one (.slc (.own true 320) 6 []))] [] [] [] [] (o0) ?_
  refine awp_seq ?_
  refine awp_seq ?_
  refine rk tt_ok [(4, .i 0)] [] [] [] [] (o0) ?_
  refine wdT 0 0 .sh k_ (fun hw1 => ?_)
  have hl2 : List.length k_ ≤ 1073741824 := wide_len (hw1)
  refine blk (fun (k0 : Nat) (s0 : (List VersionD)) => [(3, .o 147202 s0), (4, .i ((k0 : Nat) : Int))]) [3, 4] (fun k0 s0 => []) [] (fun (y0 : (List VersionD)) => [(3, .o 147352 y0)]) [0, 3, 4] (fun y0 => []) [] (fun (k0 : Nat) (s0 : (List VersionD)) => (forL specl28Copy_f0 specl28Copy_e0 k_ 0 []) = forL specl28Copy_f0 specl28Copy_e0 (List.drop k0 k_) k0 s0 ∧ List.length s0 ≤ k0) (fun (y0 : (List VersionD)) => (forL specl28Copy_f0 specl28Copy_e0 k_ 0 []) = .brk y0) k_.length [] (weak_sf [(320, 147202)] (by kernel_rfl)) ⟨rfl, (by simp)⟩ (fun k0 s0 hk0 hI0 => ?_) (fun k0 s0 hk0 hI0 => ?_) (fun y0 hD0 => ?_)
  ·
    have hA0_0 := hI0.2
    obtain ⟨a0, hx0⟩ := get_some (l := k_) (i := k0) hk0
    refine awp_seq ?_
    refine awp_seq ?_
    refine rk tt_ok [(9, .b true)] [] [] [] [(2, .val (.i (k_.length : Int))), (3, .val (.b true))] (o2 (ob_eq (av_len k_)) (o1 (ob_eq (av_bool (decide_eq_true (p := ((k0 : Nat) : Int) < (k_.length : Int)) (by omega)))))) ?_
    refine ckT ?_
    refine awp_skip ?_
    refine awp_seq ?_
    refine awp_block ?_
    refine wdT 3 0 (.own true 147202) s0 (fun hw3 => ?_)
    have hl4 : List.length s0 ≤ 1073741824 := wide_len (hw3)
    refine rd' tt_ok tt_mx [(3, .one (.slc (.own true 1984) 6 ((eL s0) ++ [[.i a0.1, .h ((specl28State a0.2.1).1.1), .h ((specl28State a0.2.1).1.2.1), .i ((specl28State a0.2.1).1.2.2), .h ((specl28State a0.2.1).2), .i a0.2.2]])))] [3, 9] [] [] [(3, .row [.i a0.1, .h a0.2.1.1.1, .h a0.2.1.1.2.1, .i a0.2.1.1.2.2, .h a0.2.1.2, .i a0.2.2]), (8, .row [.i a0.1, .h a0.2.1.1.1, .h a0.2.1.1.2.1, .i a0.2.1.1.2.2, .h a0.2.1.2, .i a0.2.2]), (11, .val (.a [.o 0 ((specl28State a0.2.1).1.1), .o 1 ((specl28State a0.2.1).1.2.1), .i ((specl28State a0.2.1).1.2.2), .o 2 ((specl28State a0.2.1).2)])), (14, .row [.i a0.1, .h a0.2.1.1.1, .h a0.2.1.1.2.1, .i a0.2.1.1.2.2, .h a0.2.1.2, .i a0.2.2])] (o2 (ob_elem (el_of (i := ((k0 : Nat) : Int)) (by omega) rfl hx0)) (o2 (ob_elem (el_of (i := ((k0 : Nat) : Int)) (by omega) rfl hx0)) (o2 (ob_call (specl28State_a a0.2.1)) (o2 (ob_elem (el_of (i := ((k0 : Nat) : Int)) (by omega) rfl hx0)) (o1 (ob_len (len_of (eL_length s0) (eL_length [(a0.1, (specl28State a0.2.1), a0.2.2)]) (by first | omega | (simp; omega) | simp)))))))) ?_
    refine eqn [(3, .o 1984 (s0 ++ [(a0.1, (specl28State a0.2.1), a0.2.2)]))] [3] [] [] (by rw [show ((eL s0) ++ [[.i a0.1, .h ((specl28State a0.2.1).1.1), .h ((specl28State a0.2.1).1.2.1), .i ((specl28State a0.2.1).1.2.2), .h ((specl28State a0.2.1).2), .i a0.2.2]]) = (eL (s0 ++ [(a0.1, (specl28State a0.2.1), a0.2.2)])) from app_eL (rfl) (rfl)]; first | done | kernel_rfl) ?_
    refine rk tt_ok [(4, .i ((k0 + 1 : Nat) : Int))] [4] [] [] [(1, .val (.i ((k0 + 1 : Nat) : Int)))] (o1 (ob_eq (av_i (wrap_succ k0 (by omega))))) ?_
    exact Exists.intro (s0 ++ [(a0.1, (specl28State a0.2.1), a0.2.2)]) (And.intro (weak_sf [(1984, 147202)] (by kernel_rfl)) ⟨forL_next hx0 (rfl) hI0.1, by first | omega | (simp; omega) | simp⟩)
  ·
    have hA0_0 := hI0.2
    refine awp_seq ?_
    refine awp_seq ?_
    refine rk tt_ok [(9, .b false)] [] [] [] [(2, .val (.i (k_.length : Int))), (3, .val (.b false))] (o2 (ob_eq (av_len k_)) (o1 (ob_eq (av_bool (decide_eq_false (p := ((k0 : Nat) : Int) < (k_.length : Int)) (by omega)))))) ?_
    refine ckF ?_
    refine awp_exit ?_
    exact Exists.intro s0 (And.intro (weak_sf [(147202, 147352)] (by kernel_rfl)) (forL_end hk0 (rfl) hI0.1))
  ·
    refine awp_seq ?_
    refine rk tt_ok [(2, .o 147352 y0)] [2, 3] [] [] [] (o0) ?_
    refine awp_ret ?_
    exact pret [] (congrArg (fun z => (.o 0 z : AV)) (show specl28Copy k_ = y0 from on_b hD0 (rfl)).symm)
end Go.Proofs.YtjkfmihbmkbjfaaGreat
