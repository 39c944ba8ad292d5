/- What functions compute, and that they do (printed by am2.py): each function as a Lean function, then its contract. -/
import Derived.Test.YtnhmnfmhnepjmaaGreatEvb
import Derived.KernelRfl
set_option linter.unusedVariables false
set_option linter.unusedSimpArgs false
namespace Go.Proofs.YtnhmnfmhnepjmaaGreat
open Go.RowKit
open GoE (enc wide)
def implCanRead (f : FileD) (user : Int) : Bool := ((implisUser user) && ((f.2.1 == user) || f.2.2.1))
theorem implCanRead_a (f : FileD) (user : Int) : ACalls Tryz.prog 137 [.a [.i f.1, .i f.2.1, .b f.2.2.1, .i f.2.2.2.1, .h f.2.2.2.2], .i user] (.b (implCanRead f user)) := by
 refine acalls_of (tt := tt) tt_ok Tryz.func137 (fn := Tryz.f137) rfl (by unfold FnOk; kernel_rfl) (Nat.le_of_ble_eq_true rfl) fun w0 F0 => ?_
 refine awp_seq ?_
 refine rk tt_ok [(2, .p 2 0), (4, .b false)] [0] [(2, [.i f.1, .i f.2.1, .b f.2.2.1, .i f.2.2.2.1, .h f.2.2.2.2])] [] [] (o0) ?_
 refine awp_seq ?_
 refine jn [(4, .b ((implisUser user) && ((f.2.1 == user) || f.2.2.1)))] [1, 2, 4] [] [2] (implisUser user) (fun h1 => ?_) (fun h1 => ?_) ?_
 ·
  refine awp_split (f.2.1 == user) (fun h2 => ?_) (fun h2 => ?_)
  ·
   refine rk tt_ok [(4, .b true)] [1, 2, 4] [] [2] [(1, .val (.b true)), (6, .val (.b true))] (o2 (ob_call (cb h1 (implisUser_a user))) (o1 (ob_eq (av_bool h2)))) ?_
   exact ⟨rfl, weak_fit (by rw [h1, h2]; first | done | kernel_rfl)⟩
  ·
   refine rk tt_ok [(4, .b f.2.2.1)] [1, 2, 4] [] [2] [(1, .val (.b true)), (6, .val (.b false))] (o2 (ob_call (cb h1 (implisUser_a user))) (o1 (ob_eq (av_bool h2)))) ?_
   exact ⟨rfl, weak_fit (by rw [h1, h2]; first | done | kernel_rfl)⟩
 ·
  refine rk tt_ok [] [1, 2] [] [2] [(1, .val (.b false))] (o1 (ob_call (cb h1 (implisUser_a user)))) ?_
  exact ⟨rfl, weak_fit (by rw [h1]; first | done | kernel_rfl)⟩
 refine awp_ret ?_
 exact pret [] (congrArg (fun z => (.b z : AV)) (show implCanRead f user = ((implisUser user) && ((f.2.1 == user) || f.2.2.1)) from rfl).symm)
def implcopyFile (f : FileD) : FileD := f
theorem implcopyFile_a (f : FileD) : ACalls Tryz.prog 138 [.a [.i f.1, .i f.2.1, .b f.2.2.1, .i f.2.2.2.1, .h f.2.2.2.2]] (.a [.i ((implcopyFile f).1), .i ((implcopyFile f).2.1), .b ((implcopyFile f).2.2.1), .i ((implcopyFile f).2.2.2.1), .o 0 ((implcopyFile f).2.2.2.2)]) := by
 refine acalls_of (tt := tt) tt_ok Tryz.func138 (fn := Tryz.f138) rfl (by unfold FnOk; kernel_rfl) (Nat.le_of_ble_eq_true rfl) fun w0 F0 => ?_
 refine awp_seq ?_
 refine rk tt_ok [(1, .p 1 0), (2, .p 2 0)] [0] [(1, [.i f.1, .i f.2.1, .b f.2.2.1, .i f.2.2.2.1, .h f.2.2.2.2]), (2, [.i 0, .i 0, .b false, .i 0, .e 4])] [] [] (o0) ?_
 refine awp_seq ?_
 refine rk tt_ok [] [] [(1, [.i f.1, .i f.2.1, .b f.2.2.1, .i f.2.2.2.1, .o 320 f.2.2.2.2])] [1] [(2, .val (.o 0 f.2.2.2.2))] (o1 (ob_call (cloneAttr_a f.2.2.2.2))) ?_
 refine awp_seq ?_
 refine rk tt_ok [] [1] [(2, [.i f.1, .i f.2.1, .b f.2.2.1, .i f.2.2.2.1, .o 320 f.2.2.2.2])] [1, 2] [] (o0) ?_
 refine awp_ret ?_
 exact pret [] (congrArg (fun z => (.a [.i z.1, .i z.2.1, .b z.2.2.1, .i z.2.2.2.1, .o 0 z.2.2.2.2] : AV)) (show implcopyFile f = f from rfl).symm)
def implfileAt_1 (f : FileD) (q0 : Int) : Bool := (f.1 == q0)
theorem implfileAt_1_a (f : FileD) (q0 : Int) : ACalls Tryz.prog 181 [.a [.i f.1, .i f.2.1, .b f.2.2.1, .i f.2.2.2.1, .h f.2.2.2.2], .one (.rptr .sh [.i q0])] (.b (implfileAt_1 f q0)) := by
 refine acalls_of (tt := tt) tt_ok Tryz.func181 (fn := Tryz.f181) rfl (by unfold FnOk; kernel_rfl) (Nat.le_of_ble_eq_true rfl) fun w0 F0 => ?_
 refine awp_seq ?_
 refine rk tt_ok [(2, .p 2 0), (3, .b false)] [0] [(2, [.i f.1, .i f.2.1, .b f.2.2.1, .i f.2.2.2.1, .h f.2.2.2.2])] [] [] (o0) ?_
 refine awp_seq ?_
 refine rk tt_ok [(3, .b (f.1 == q0))] [1, 2, 3] [] [2] [] (o0) ?_
 refine awp_ret ?_
 exact pret [] (congrArg (fun z => (.b z : AV)) (show implfileAt_1 f q0 = (f.1 == q0) from rfl).symm)
def slicesIndexFunc_File_implfileAt_1_f0 (c0 : Int) (k0 : Nat) (a0 : FileD) (_ : Unit) : Rd (Int) (Unit) (Unit) := (bif (implfileAt_1 a0 c0) then (.ret ((k0 : Nat) : Int)) else (.next ()))
def slicesIndexFunc_File_implfileAt_1_e0 (_ : Nat) (_ : Unit) : Unit := ()
def slicesIndexFunc_File_implfileAt_1 (s_ : (List FileD)) (c0 : Int) : Int := (Out.on (forL (slicesIndexFunc_File_implfileAt_1_f0 c0) slicesIndexFunc_File_implfileAt_1_e0 s_ 0 ()) (fun _ => -1))
theorem slicesIndexFunc_File_implfileAt_1_a (s_ : (List FileD)) (c0 : Int) : ACalls Tryz.prog 180 [.h s_, .one (.fnr 181 [[.i c0]])] (.i (slicesIndexFunc_File_implfileAt_1 s_ c0)) := by
 refine acalls_of (tt := tt) tt_ok Tryz.func180 (fn := Tryz.f180) rfl (by unfold FnOk; kernel_rfl) (Nat.le_of_ble_eq_true rfl) fun w0 F0 => ?_
 refine awp_seq ?_
 refine rk tt_ok [(4, .i 0)] [] [] [] [] (o0) ?_
 refine awp_seq ?_
 refine awp_seq ?_
 refine rk tt_ok [(7, .i (s_.length : Int)), (8, .i 0)] [] [] [] [(1, .val (.i (s_.length : Int)))] (o1 (ob_eq (av_len s_))) ?_
 refine wdT 0 0 .sh s_ (fun hw1 => ?_)
 have hl2 : List.length s_ ≤ 1073741824 := wide_len (hw1)
 refine blk (fun (k0 : Nat) (s0 : Unit) => [(8, .i ((k0 : Nat) : Int))]) [8] (fun k0 s0 => []) [] (fun (y0 : Unit) => []) [0, 1, 7, 8] (fun y0 => []) [] (fun (k0 : Nat) (s0 : Unit) => (forL (slicesIndexFunc_File_implfileAt_1_f0 c0) slicesIndexFunc_File_implfileAt_1_e0 s_ 0 ()) = forL (slicesIndexFunc_File_implfileAt_1_f0 c0) slicesIndexFunc_File_implfileAt_1_e0 (List.drop k0 s_) k0 s0) (fun (y0 : Unit) => (forL (slicesIndexFunc_File_implfileAt_1_f0 c0) slicesIndexFunc_File_implfileAt_1_e0 s_ 0 ()) = .brk y0) s_.length () (weak_fit (by kernel_rfl)) rfl (fun k0 s0 hk0 hI0 => ?_) (fun k0 s0 hk0 hI0 => ?_) (fun y0 hD0 => ?_)
 ·
  obtain ⟨a0, hx0⟩ := get_some (l := s_) (i := k0) hk0
  refine awp_seq ?_
  refine rk tt_ok [(9, .b true)] [] [] [] [(0, .val (.b true))] (o1 (ob_eq (av_bool (decide_eq_true (p := ((k0 : Nat) : Int) < (s_.length : Int)) (by omega))))) ?_
  refine awp_seq ?_
  refine ckT ?_
  refine awp_skip ?_
  refine awp_seq ?_
  refine awp_block ?_
  refine awp_seq ?_
  refine rk tt_ok [(5, .i ((k0 : Nat) : Int))] [9] [] [] [] (o0) ?_
  refine awp_seq ?_
  refine rk tt_ok [(16, .b (implfileAt_1 a0 c0))] [] [] [] [(3, .row [.i a0.1, .i a0.2.1, .b a0.2.2.1, .i a0.2.2.2.1, .h a0.2.2.2.2]), (5, .val (.b (implfileAt_1 a0 c0)))] (o2 (ob_elem (el_of (i := ((k0 : Nat) : Int)) (by omega) rfl hx0)) (o1 (ob_call (implfileAt_1_a a0 c0)))) ?_
  refine ck (implfileAt_1 a0 c0) (fun h3 => ?_) (fun h3 => ?_)
  ·
   refine awp_seq ?_
   refine rk tt_ok [(4, .i ((k0 : Nat) : Int))] [4, 5, 16] [] [] [] (o0) ?_
   refine awp_ret ?_
   have hr4 : (forL (slicesIndexFunc_File_implfileAt_1_f0 c0) slicesIndexFunc_File_implfileAt_1_e0 s_ 0 ()) = .ret ((k0 : Nat) : Int) := forL_ret hx0 (bif_t h3 (rfl)) hI0
   exact pret [] (congrArg (fun z => (.i z : AV)) (show slicesIndexFunc_File_implfileAt_1 s_ c0 = ((k0 : Nat) : Int) from on_r hr4).symm)
  ·
   refine awp_skip ?_
   refine rk tt_ok [(8, .i ((k0 + 1 : Nat) : Int))] [5, 8, 16] [] [] [(0, .val (.i ((k0 + 1 : Nat) : Int)))] (o1 (ob_eq (av_i (wrap_succ k0 (by omega))))) ?_
   exact Exists.intro () (And.intro (weak_fit (by kernel_rfl)) (forL_next hx0 (bif_f h3 (rfl)) hI0))
 ·
  refine awp_seq ?_
  refine rk tt_ok [(9, .b false)] [] [] [] [(0, .val (.b false))] (o1 (ob_eq (av_bool (decide_eq_false (p := ((k0 : Nat) : Int) < (s_.length : Int)) (by omega))))) ?_
  refine awp_seq ?_
  refine ckF ?_
  refine awp_exit ?_
  exact Exists.intro () (And.intro (weak_fit (by kernel_rfl)) (forL_end hk0 (rfl) hI0))
 ·
  refine awp_seq ?_
  refine rk tt_ok [(4, .i (-1))] [4] [] [] [] (o0) ?_
  refine awp_ret ?_
  exact pret [] (congrArg (fun z => (.i z : AV)) (show slicesIndexFunc_File_implfileAt_1 s_ c0 = -1 from on_b hD0 (rfl)).symm)
def implfileAt (s_ : StoreD) (id : Int) : Int := (slicesIndexFunc_File_implfileAt_1 s_.2.1 id)
theorem implfileAt_a (s_ : StoreD) (id : Int) : ACalls Tryz.prog 139 [.a [.h s_.1, .h s_.2.1, .i s_.2.2], .i id] (.i (implfileAt s_ id)) := by
 refine acalls_of (tt := tt) tt_ok Tryz.func139 (fn := Tryz.f139) rfl (by unfold FnOk; kernel_rfl) (Nat.le_of_ble_eq_true rfl) fun w0 F0 => ?_
 refine awp_seq ?_
 refine rk tt_ok [(2, .p 2 0), (3, .p 3 0), (4, .i 0)] [0, 1] [(2, [.h s_.1, .h s_.2.1, .i s_.2.2]), (3, [.i id])] [] [] (o0) ?_
 refine awp_seq ?_
 refine rk tt_ok [(4, .i (slicesIndexFunc_File_implfileAt_1 s_.2.1 id))] [2, 3, 4] [] [2, 3] [(3, .val (.i (slicesIndexFunc_File_implfileAt_1 s_.2.1 id)))] (o1 (ob_call (slicesIndexFunc_File_implfileAt_1_a s_.2.1 id))) ?_
 refine awp_ret ?_
 exact pret [] (congrArg (fun z => (.i z : AV)) (show implfileAt s_ id = (slicesIndexFunc_File_implfileAt_1 s_.2.1 id) from rfl).symm)
def implVisibleStore_f0 (user : Int) (_ : Nat) (a0 : FileD) (s0 : (List FileD)) : Rd (StoreD) ((List FileD)) ((List FileD)) := (bif (implCanRead a0 user) then (.next (s0 ++ [(implcopyFile a0)])) else (.next s0))
def implVisibleStore_e0 (_ : Nat) (s0 : (List FileD)) : (List FileD) := s0
def implVisibleStore_f1 (s_ : StoreD) (k1 : Nat) (_ : FileD) (s1 : (List FileD)) : Rd (StoreD) ((List FileD)) ((List FileD)) := (bif decide ((implfileAt (s_.1, s1, s_.2.2) ((nth s1 k1).2.2.2.1)) < (0 : Int)) then (.next (List.set s1 k1 ((nth s1 k1).1, (nth s1 k1).2.1, (nth s1 k1).2.2.1, 0, (nth s1 k1).2.2.2.2))) else (.next s1))
def implVisibleStore_e1 (_ : Nat) (s1 : (List FileD)) : (List FileD) := s1
def implVisibleStore (s_ : StoreD) (user : Int) : StoreD := (Out.on (forL (implVisibleStore_f0 user) implVisibleStore_e0 s_.2.1 0 []) (fun y0 => (Out.on (forL (implVisibleStore_f1 s_) implVisibleStore_e1 y0 0 y0) (fun y1 => (s_.1, y1, s_.2.2)))))
theorem implVisibleStore_a (s_ : StoreD) (user : Int) : ACalls Tryz.prog 96 [.a [.h s_.1, .h s_.2.1, .i s_.2.2], .i user] (.a [.o 0 ((implVisibleStore s_ user).1), .o 1 ((implVisibleStore s_ user).2.1), .i ((implVisibleStore s_ user).2.2)]) := by
 refine acalls_of (tt := tt) tt_ok Tryz.func96 (fn := Tryz.f96) rfl (by unfold FnOk; kernel_rfl) (Nat.le_of_ble_eq_true rfl) fun w0 F0 => ?_
 refine awp_seq ?_
 refine rk tt_ok [(2, .p 2 0), (4, .p 4 0)] [0] [(2, [.h s_.1, .h s_.2.1, .i s_.2.2]), (4, [.e 2, .e 5, .i 0])] [] [] (o0) ?_
 refine awp_seq ?_
 refine rd' tt_ok tt_mx [(5, .p 5 0)] [] [(5, [.o 768 s_.1, .e 5, .i s_.2.2])] [] [(2, .val (.o 0 s_.1))] (o1 (ob_call (cloneField_a s_.1))) ?_
 refine awp_seq ?_
 refine awp_seq ?_
 refine rk tt_ok [(17, .h s_.2.1), (18, .i (s_.2.1.length : Int)), (19, .i 0)] [2] [] [2] [(2, .val (.i (s_.2.1.length : Int)))] (o1 (ob_eq (av_len s_.2.1))) ?_
 refine wdT 17 0 .sh s_.2.1 (fun hw1 => ?_)
 have hl2 : List.length s_.2.1 ≤ 1073741824 := wide_len (hw1)
 refine blk (fun (k0 : Nat) (s0 : (List FileD)) => [(19, .i ((k0 : Nat) : Int))]) [19] (fun k0 s0 => [(5, [.o 768 s_.1, .o 147210 s0, .i s_.2.2])]) [5] (fun (y0 : (List FileD)) => []) [1, 17, 18, 19] (fun y0 => [(5, [.o 768 s_.1, .o 147360 y0, .i s_.2.2])]) [5] (fun (k0 : Nat) (s0 : (List FileD)) => (forL (implVisibleStore_f0 user) implVisibleStore_e0 s_.2.1 0 []) = forL (implVisibleStore_f0 user) implVisibleStore_e0 (List.drop k0 s_.2.1) k0 s0 ∧ List.length s0 ≤ k0) (fun (y0 : (List FileD)) => (forL (implVisibleStore_f0 user) implVisibleStore_e0 s_.2.1 0 []) = .brk y0) s_.2.1.length [] (weak_gf [(true, 5, 1, true, 320008, 5)] [] [] [(320008, 147210)] (by kernel_rfl)) ⟨rfl, (by simp)⟩ (fun k0 s0 hk0 hI0 => ?_) (fun k0 s0 hk0 hI0 => ?_) (fun y0 hD0 => ?_)
 ·
  have hA0_0 := hI0.2
  obtain ⟨a0, hx0⟩ := get_some (l := s_.2.1) (i := k0) hk0
  refine awp_seq ?_
  refine rk tt_ok [(20, .b true)] [] [] [] [(0, .val (.b true))] (o1 (ob_eq (av_bool (decide_eq_true (p := ((k0 : Nat) : Int) < (s_.2.1.length : Int)) (by omega))))) ?_
  refine awp_seq ?_
  refine ckT ?_
  refine awp_skip ?_
  refine awp_seq ?_
  refine awp_block ?_
  refine awp_seq ?_
  refine rk tt_ok [(7, .p 7 0)] [20] [(7, [.i a0.1, .i a0.2.1, .b a0.2.2.1, .i a0.2.2.2.1, .h a0.2.2.2.2])] [] [(0, .row [.i a0.1, .i a0.2.1, .b a0.2.2.1, .i a0.2.2.2.1, .h a0.2.2.2.2])] (o1 (ob_elem (el_of (i := ((k0 : Nat) : Int)) (by omega) rfl hx0))) ?_
  refine awp_seq ?_
  refine rk tt_ok [(25, .b (implCanRead a0 user))] [] [] [] [(2, .val (.b (implCanRead a0 user)))] (o1 (ob_call (implCanRead_a a0 user))) ?_
  refine ck (implCanRead a0 user) (fun h3 => ?_) (fun h3 => ?_)
  ·
   refine wdB 5 1 (.own true 147210) s0 (fun hw4 => ?_)
   have hl5 : List.length s0 ≤ 1073741824 := wide_len (hw4)
   refine rd' tt_ok tt_mx [] [7, 25] [(5, [.o 768 s_.1, .slc (.own true 1984) 5 ((eL s0) ++ [[.i ((implcopyFile a0).1), .i ((implcopyFile a0).2.1), .b ((implcopyFile a0).2.2.1), .i ((implcopyFile a0).2.2.2.1), .h ((implcopyFile a0).2.2.2.2)]]), .i s_.2.2])] [5, 7] [(3, .val (.a [.i ((implcopyFile a0).1), .i ((implcopyFile a0).2.1), .b ((implcopyFile a0).2.2.1), .i ((implcopyFile a0).2.2.2.1), .o 0 ((implcopyFile a0).2.2.2.2)]))] (o2 (ob_call (implcopyFile_a a0)) (o1 (ob_len (len_of (eL_length s0) (eL_length [(implcopyFile a0)]) (by first | omega | (simp; omega) | simp))))) ?_
   refine eqn [] [] [(5, [.o 768 s_.1, .o 1984 (s0 ++ [(implcopyFile a0)]), .i s_.2.2])] [5] (by rw [show ((eL s0) ++ [[.i ((implcopyFile a0).1), .i ((implcopyFile a0).2.1), .b ((implcopyFile a0).2.2.1), .i ((implcopyFile a0).2.2.2.1), .h ((implcopyFile a0).2.2.2.2)]]) = (eL (s0 ++ [(implcopyFile a0)])) from app_eL (rfl) (rfl)]; first | done | kernel_rfl) ?_
   refine rk tt_ok [(19, .i ((k0 + 1 : Nat) : Int))] [19] [] [] [(0, .val (.i ((k0 + 1 : Nat) : Int)))] (o1 (ob_eq (av_i (wrap_succ k0 (by omega))))) ?_
   exact Exists.intro (s0 ++ [(implcopyFile a0)]) (And.intro (weak_sf [(1984, 147210)] (by kernel_rfl)) ⟨forL_next hx0 (bif_t h3 (rfl)) hI0.1, by first | omega | (simp; omega) | simp⟩)
  ·
   refine awp_skip ?_
   refine rk tt_ok [(19, .i ((k0 + 1 : Nat) : Int))] [7, 19, 25] [] [7] [(0, .val (.i ((k0 + 1 : Nat) : Int)))] (o1 (ob_eq (av_i (wrap_succ k0 (by omega))))) ?_
   exact Exists.intro s0 (And.intro (weak_fit (by kernel_rfl)) ⟨forL_next hx0 (bif_f h3 (rfl)) hI0.1, by first | omega | (simp; omega) | simp⟩)
 ·
  have hA0_0 := hI0.2
  refine awp_seq ?_
  refine rk tt_ok [(20, .b false)] [] [] [] [(0, .val (.b false))] (o1 (ob_eq (av_bool (decide_eq_false (p := ((k0 : Nat) : Int) < (s_.2.1.length : Int)) (by omega))))) ?_
  refine awp_seq ?_
  refine ckF ?_
  refine awp_exit ?_
  exact Exists.intro s0 (And.intro (weak_sf [(147210, 147360)] (by kernel_rfl)) (forL_end hk0 (rfl) hI0.1))
 ·
  refine awp_seq ?_
  refine awp_seq ?_
  refine rk tt_ok [(35, .o 147360 y0), (36, .i (y0.length : Int)), (37, .i 0)] [] [] [] [(2, .val (.i (y0.length : Int)))] (o1 (ob_eq (av_len y0))) ?_
  refine wdT 35 0 (.own true 147360) y0 (fun hw6 => ?_)
  have hl7 : List.length y0 ≤ 1073741824 := wide_len (hw6)
  refine blk (fun (k1 : Nat) (s1 : (List FileD)) => [(35, .o 147360 s1), (37, .i ((k1 : Nat) : Int))]) [35, 37] (fun k1 s1 => [(5, [.o 768 s_.1, .o 147360 s1, .i s_.2.2])]) [5] (fun (y1 : (List FileD)) => []) [35, 36, 37] (fun y1 => [(5, [.o 768 s_.1, .o 147360 y1, .i s_.2.2])]) [5] (fun (k1 : Nat) (s1 : (List FileD)) => (forL (implVisibleStore_f1 s_) implVisibleStore_e1 y0 0 y0) = forL (implVisibleStore_f1 s_) implVisibleStore_e1 (List.drop k1 y0) k1 s1 ∧ List.length s1 = List.length y0) (fun (y1 : (List FileD)) => (forL (implVisibleStore_f1 s_) implVisibleStore_e1 y0 0 y0) = .brk y1) y0.length y0 (weak_fit (by kernel_rfl)) ⟨rfl, (by simp)⟩ (fun k1 s1 hk1 hI1 => ?_) (fun k1 s1 hk1 hI1 => ?_) (fun y1 hD1 => ?_)
  ·
   have hA1_0 := hI1.2
   obtain ⟨a1, hx1⟩ := get_some (l := y0) (i := k1) hk1
   refine awp_seq ?_
   refine rk tt_ok [(38, .b true)] [] [] [] [(0, .val (.b true))] (o1 (ob_eq (av_bool (decide_eq_true (p := ((k1 : Nat) : Int) < (y0.length : Int)) (by omega))))) ?_
   refine awp_seq ?_
   refine ckT ?_
   refine awp_skip ?_
   refine awp_seq ?_
   refine awp_block ?_
   refine awp_seq ?_
   refine wdT 35 0 (.own true 147360) s1 (fun hw9 => ?_)
   have hl10 : List.length s1 ≤ 1073741824 := wide_len (hw9)
   have hx8 : s1[k1]? = some (nth s1 k1) := nth_get (by omega)
   refine rk tt_ok [(8, .i ((k1 : Nat) : Int)), (9, .p 9 0)] [38] [(9, [.i ((nth s1 k1).1), .i ((nth s1 k1).2.1), .b ((nth s1 k1).2.2.1), .i ((nth s1 k1).2.2.2.1), .v 147360 ((nth s1 k1).2.2.2.2)])] [] [(1, .rowE [.i ((nth s1 k1).1), .i ((nth s1 k1).2.1), .b ((nth s1 k1).2.2.1), .i ((nth s1 k1).2.2.2.1), .h ((nth s1 k1).2.2.2.2)])] (o1 (ob_elem (el_of (i := ((k1 : Nat) : Int)) (by omega) rfl hx8))) ?_
   refine awp_seq ?_
   refine rk tt_ok [(46, .b (decide ((implfileAt (s_.1, s1, s_.2.2) ((nth s1 k1).2.2.2.1)) < (0 : Int))))] [9] [] [9] [(3, .val (.i (implfileAt (s_.1, s1, s_.2.2) ((nth s1 k1).2.2.2.1))))] (o1 (ob_call (implfileAt_a (s_.1, s1, s_.2.2) ((nth s1 k1).2.2.2.1)))) ?_
   refine ck (decide ((implfileAt (s_.1, s1, s_.2.2) ((nth s1 k1).2.2.2.1)) < (0 : Int))) (fun h11 => ?_) (fun h11 => ?_)
   ·
    have h11d := of_decide_eq_true h11
    refine rk tt_ok [(35, .one (.slc (.own true 147360) 5 (setRow (eL s1) k1 3 [.i 0])))] [8, 35, 46] [(5, [.o 768 s_.1, .slc (.own true 147360) 5 (setRow (eL s1) k1 3 [.i 0]), .i s_.2.2])] [5] [(3, .rowE [.i ((nth s1 k1).1), .i ((nth s1 k1).2.1), .b ((nth s1 k1).2.2.1), .i ((nth s1 k1).2.2.2.1), .h ((nth s1 k1).2.2.2.2)])] (o1 (ob_elem (el_of (i := ((k1 : Nat) : Int)) (by omega) rfl hx8))) ?_
    refine eqn [(35, .o 147360 (List.set s1 k1 ((nth s1 k1).1, (nth s1 k1).2.1, (nth s1 k1).2.2.1, 0, (nth s1 k1).2.2.2.2)))] [35] [(5, [.o 768 s_.1, .o 147360 (List.set s1 k1 ((nth s1 k1).1, (nth s1 k1).2.1, (nth s1 k1).2.2.1, 0, (nth s1 k1).2.2.2.2)), .i s_.2.2])] [5] (by rw [setRow_eL (y := ((nth s1 k1).1, (nth s1 k1).2.1, (nth s1 k1).2.2.1, 0, (nth s1 k1).2.2.2.2)) hx8 rfl]; first | done | kernel_rfl) ?_
    refine rk tt_ok [(37, .i ((k1 + 1 : Nat) : Int))] [37] [] [] [(0, .val (.i ((k1 + 1 : Nat) : Int)))] (o1 (ob_eq (av_i (wrap_succ k1 (by omega))))) ?_
    exact Exists.intro (List.set s1 k1 ((nth s1 k1).1, (nth s1 k1).2.1, (nth s1 k1).2.2.1, 0, (nth s1 k1).2.2.2.2)) (And.intro (weak_fit (by kernel_rfl)) ⟨forL_next hx1 (bif_t h11 (rfl)) hI1.1, (by first | omega | (simp only [List.length_set]; omega))⟩)
   ·
    have h11d := of_decide_eq_false h11
    refine awp_skip ?_
    refine rk tt_ok [(37, .i ((k1 + 1 : Nat) : Int))] [8, 37, 46] [] [] [(0, .val (.i ((k1 + 1 : Nat) : Int)))] (o1 (ob_eq (av_i (wrap_succ k1 (by omega))))) ?_
    exact Exists.intro s1 (And.intro (weak_fit (by kernel_rfl)) ⟨forL_next hx1 (bif_f h11 (rfl)) hI1.1, (by first | omega | (simp only [List.length_set]; omega))⟩)
  ·
   have hA1_0 := hI1.2
   refine awp_seq ?_
   refine rk tt_ok [(38, .b false)] [] [] [] [(0, .val (.b false))] (o1 (ob_eq (av_bool (decide_eq_false (p := ((k1 : Nat) : Int) < (y0.length : Int)) (by omega))))) ?_
   refine awp_seq ?_
   refine ckF ?_
   refine awp_exit ?_
   exact Exists.intro s1 (And.intro (weak_fit (by kernel_rfl)) (forL_end hk1 (rfl) hI1.1))
  ·
   refine awp_seq ?_
   refine rk tt_ok [] [5] [(4, [.o 768 s_.1, .o 147360 y1, .i s_.2.2])] [4, 5] [] (o0) ?_
   refine awp_ret ?_
   exact pret [] (congrArg (fun z => (.a [.o 0 z.1, .o 1 z.2.1, .i z.2.2] : AV)) (show implVisibleStore s_ user = (s_.1, y1, s_.2.2) from on_b hD0 (on_b hD1 (rfl))).symm)
def implEvaluateForUser (s_ : StoreD) (d : (List DirD)) (user : Int) : (List ResultD) × Bool := (bif ((!(implIsValidStore s_)) || (!(implisUser user))) then ([], false) else (((implEvaluate (implVisibleStore s_ user) d)).1, ((implEvaluate (implVisibleStore s_ user) d)).2))
theorem implEvaluateForUser_a (s_ : StoreD) (d : (List DirD)) (user : Int) : ACalls Tryz.prog 42 [.a [.h s_.1, .h s_.2.1, .i s_.2.2], .h d, .i user] (.tup [(false, [.o 0 (((implEvaluateForUser s_ d user)).1)]), (false, [.b (((implEvaluateForUser s_ d user)).2)])]) := by
 refine acalls_of (tt := tt) tt_ok Tryz.func42 (fn := Tryz.f42) rfl (by unfold FnOk; kernel_rfl) (Nat.le_of_ble_eq_true rfl) fun w0 F0 => ?_
 refine awp_seq ?_
 refine rk tt_ok [(3, .p 3 0), (6, .e 0), (7, .b false)] [0] [(3, [.h s_.1, .h s_.2.1, .i s_.2.2])] [] [] (o0) ?_
 refine awp_seq ?_
 refine awp_seq ?_
 refine jn [(15, .b ((!(implIsValidStore s_)) || (!(implisUser user))))] [] [] [] (!(implIsValidStore s_)) (fun h1 => ?_) (fun h1 => ?_) ?_
 ·
  have h1n : (implIsValidStore s_) = false := bnot_t h1
  refine rk tt_ok [(15, .b true)] [] [] [] [(1, .val (.b false)), (2, .val (.b true))] (o2 (ob_call (cb h1n (implIsValidStore_a s_))) (o1 (ob_eq (show .b (!false) = .b true from rfl)))) ?_
  exact ⟨rfl, weak_fit (by rw [h1]; first | done | kernel_rfl)⟩
 ·
  have h1n : (implIsValidStore s_) = true := bnot_f h1
  refine rk tt_ok [(15, .b (!(implisUser user)))] [] [] [] [(1, .val (.b true)), (2, .val (.b false)), (5, .val (.b (implisUser user)))] (o2 (ob_call (cb h1n (implIsValidStore_a s_))) (o2 (ob_eq (show .b (!true) = .b false from rfl)) (o1 (ob_call (implisUser_a user))))) ?_
  exact ⟨rfl, weak_fit (by rw [h1]; first | done | kernel_rfl)⟩
 refine ck ((!(implIsValidStore s_)) || (!(implisUser user))) (fun h2 => ?_) (fun h2 => ?_)
 ·
  refine awp_seq ?_
  refine rk tt_ok [] [15] [] [] [] (o0) ?_
  refine opn [(false, 6, 0, true, 384000, 2)] ?_
  refine awp_ret ?_
  exact pret [] (congrArg (fun z => (.tup [(false, [.o 0 z.1]), (false, [.b z.2])] : AV)) (show implEvaluateForUser s_ d user = ([], false) from bif_t h2 (rfl)).symm)
 ·
  refine awp_skip ?_
  refine awp_seq ?_
  refine rk tt_ok [(6, .o 1280 (((implEvaluate (implVisibleStore s_ user) d)).1)), (7, .b (((implEvaluate (implVisibleStore s_ user) d)).2))] [1, 2, 3, 6, 7, 15] [] [3] [(2, .val (.a [.o 0 ((implVisibleStore s_ user).1), .o 1 ((implVisibleStore s_ user).2.1), .i ((implVisibleStore s_ user).2.2)])), (4, .val (.tup [(false, [.o 0 (((implEvaluate (implVisibleStore s_ user) d)).1)]), (false, [.b (((implEvaluate (implVisibleStore s_ user) d)).2)])]))] (o2 (ob_call (implVisibleStore_a s_ user)) (o1 (ob_call (implEvaluate_a (implVisibleStore s_ user) d)))) ?_
  refine awp_ret ?_
  exact pret [] (congrArg (fun z => (.tup [(false, [.o 0 z.1]), (false, [.b z.2])] : AV)) (show implEvaluateForUser s_ d user = (((implEvaluate (implVisibleStore s_ user) d)).1, ((implEvaluate (implVisibleStore s_ user) d)).2) from bif_f h2 (rfl)).symm)
def specCanRead (f : FileD) (u : Int) : Bool := ((specl01In u 0 2) && ((f.2.1 == u) || f.2.2.1))
theorem specCanRead_a (f : FileD) (u : Int) : ACalls Tryz.prog 127 [.a [.i f.1, .i f.2.1, .b f.2.2.1, .i f.2.2.2.1, .h f.2.2.2.2], .i u] (.b (specCanRead f u)) := by
 refine acalls_of (tt := tt) tt_ok Tryz.func127 (fn := Tryz.f127) rfl (by unfold FnOk; kernel_rfl) (Nat.le_of_ble_eq_true rfl) fun w0 F0 => ?_
 refine awp_seq ?_
 refine rk tt_ok [(2, .p 2 0), (4, .b false)] [0] [(2, [.i f.1, .i f.2.1, .b f.2.2.1, .i f.2.2.2.1, .h f.2.2.2.2])] [] [] (o0) ?_
 refine awp_seq ?_
 refine jn [(4, .b ((specl01In u 0 2) && ((f.2.1 == u) || f.2.2.1)))] [1, 2, 4] [] [2] (specl01In u 0 2) (fun h1 => ?_) (fun h1 => ?_) ?_
 ·
  have h1w := l01In_iff.1 h1
  refine awp_split (f.2.1 == u) (fun h2 => ?_) (fun h2 => ?_)
  ·
   refine rk tt_ok [(4, .b true)] [1, 2, 4] [] [2] [(1, .val (.b true)), (6, .val (.b true))] (o2 (ob_call (cb h1 (specl01In_a u 0 2))) (o1 (ob_eq (av_bool h2)))) ?_
   exact ⟨rfl, weak_fit (by rw [h1, h2]; first | done | kernel_rfl)⟩
  ·
   refine rk tt_ok [(4, .b f.2.2.1)] [1, 2, 4] [] [2] [(1, .val (.b true)), (6, .val (.b false))] (o2 (ob_call (cb h1 (specl01In_a u 0 2))) (o1 (ob_eq (av_bool h2)))) ?_
   exact ⟨rfl, weak_fit (by rw [h1, h2]; first | done | kernel_rfl)⟩
 ·
  refine rk tt_ok [] [1, 2] [] [2] [(1, .val (.b false))] (o1 (ob_call (cb h1 (specl01In_a u 0 2)))) ?_
  exact ⟨rfl, weak_fit (by rw [h1]; first | done | kernel_rfl)⟩
 refine awp_ret ?_
 exact pret [] (congrArg (fun z => (.b z : AV)) (show specCanRead f u = ((specl01In u 0 2) && ((f.2.1 == u) || f.2.2.1)) from rfl).symm)
def specl04Copy (f : FileD) : FileD := f
theorem specl04Copy_a (f : FileD) : ACalls Tryz.prog 128 [.a [.i f.1, .i f.2.1, .b f.2.2.1, .i f.2.2.2.1, .h f.2.2.2.2]] (.a [.i ((specl04Copy f).1), .i ((specl04Copy f).2.1), .b ((specl04Copy f).2.2.1), .i ((specl04Copy f).2.2.2.1), .o 0 ((specl04Copy f).2.2.2.2)]) := by
 refine acalls_of (tt := tt) tt_ok Tryz.func128 (fn := Tryz.f128) rfl (by unfold FnOk; kernel_rfl) (Nat.le_of_ble_eq_true rfl) fun w0 F0 => ?_
 refine awp_seq ?_
 refine rk tt_ok [(1, .p 1 0), (2, .p 2 0)] [0] [(1, [.i f.1, .i f.2.1, .b f.2.2.1, .i f.2.2.2.1, .h f.2.2.2.2]), (2, [.i 0, .i 0, .b false, .i 0, .e 4])] [] [] (o0) ?_
 refine awp_seq ?_
 refine wdB 1 4 .sh f.2.2.2.2 (fun hw1 => ?_)
 have hl2 : List.length f.2.2.2.2 ≤ 1073741824 := wide_len (hw1)
 refine rk tt_ok [] [] [(1, [.i f.1, .i f.2.1, .b f.2.2.1, .i f.2.2.2.1, .o 384 f.2.2.2.2])] [1] [(3, .flat)] (o2 (ob_len (n := (([] : List (List PV)).length + ((eL f.2.2.2.2) : List (List PV)).length)) (len_of (rfl) (eL_length f.2.2.2.2) (by first | omega | (simp; omega) | simp))) (o1 (ob_flat (flat_eL f.2.2.2.2)))) ?_
 refine awp_seq ?_
 refine rk tt_ok [] [1] [(2, [.i f.1, .i f.2.1, .b f.2.2.1, .i f.2.2.2.1, .o 384 f.2.2.2.2])] [1, 2] [] (o0) ?_
 refine awp_ret ?_
 exact pret [] (congrArg (fun z => (.a [.i z.1, .i z.2.1, .b z.2.2.1, .i z.2.2.2.1, .o 0 z.2.2.2.2] : AV)) (show specl04Copy f = f from rfl).symm)
def specl05Place_f0 (id : Int) (k0 : Nat) (a0 : FileD) (_ : Unit) : Rd (Int) (Unit) (Unit) := (bif (a0.1 == id) then (.ret ((k0 : Nat) : Int)) else (.next ()))
def specl05Place_e0 (_ : Nat) (_ : Unit) : Unit := ()
def specl05Place (s_ : StoreD) (id : Int) : Int := (Out.on (forL (specl05Place_f0 id) specl05Place_e0 s_.2.1 0 ()) (fun _ => -1))
theorem specl05Place_a (s_ : StoreD) (id : Int) : ACalls Tryz.prog 129 [.a [.h s_.1, .h s_.2.1, .i s_.2.2], .i id] (.i (specl05Place s_ id)) := by
 refine acalls_of (tt := tt) tt_ok Tryz.func129 (fn := Tryz.f129) rfl (by unfold FnOk; kernel_rfl) (Nat.le_of_ble_eq_true rfl) fun w0 F0 => ?_
 refine awp_seq ?_
 refine rk tt_ok [(2, .p 2 0), (4, .i 0)] [0] [(2, [.h s_.1, .h s_.2.1, .i s_.2.2])] [] [] (o0) ?_
 refine awp_seq ?_
 refine awp_seq ?_
 refine rk tt_ok [(5, .i 0)] [] [] [] [] (o0) ?_
 refine wdB 2 1 .sh s_.2.1 (fun hw1 => ?_)
 have hl2 : List.length s_.2.1 ≤ 1073741824 := wide_len (hw1)
 refine blk (fun (k0 : Nat) (s0 : Unit) => [(5, .i ((k0 : Nat) : Int))]) [5] (fun k0 s0 => []) [] (fun (y0 : Unit) => []) [1, 2, 5] (fun y0 => []) [2] (fun (k0 : Nat) (s0 : Unit) => (forL (specl05Place_f0 id) specl05Place_e0 s_.2.1 0 ()) = forL (specl05Place_f0 id) specl05Place_e0 (List.drop k0 s_.2.1) k0 s0) (fun (y0 : Unit) => (forL (specl05Place_f0 id) specl05Place_e0 s_.2.1 0 ()) = .brk y0) s_.2.1.length () (weak_fit (by kernel_rfl)) rfl (fun k0 s0 hk0 hI0 => ?_) (fun k0 s0 hk0 hI0 => ?_) (fun y0 hD0 => ?_)
 ·
  obtain ⟨a0, hx0⟩ := get_some (l := s_.2.1) (i := k0) hk0
  refine awp_seq ?_
  refine awp_seq ?_
  refine rk tt_ok [(10, .b true)] [] [] [] [(3, .val (.i (s_.2.1.length : Int))), (4, .val (.b true))] (o2 (ob_eq (av_len s_.2.1)) (o1 (ob_eq (av_bool (decide_eq_true (p := ((k0 : Nat) : Int) < (s_.2.1.length : Int)) (by omega)))))) ?_
  refine ckT ?_
  refine awp_skip ?_
  refine awp_seq ?_
  refine awp_block ?_
  refine awp_seq ?_
  refine rk tt_ok [(20, .b (a0.1 == id))] [10] [] [] [(3, .row [.i a0.1, .i a0.2.1, .b a0.2.2.1, .i a0.2.2.2.1, .h a0.2.2.2.2])] (o1 (ob_elem (el_of (i := ((k0 : Nat) : Int)) (by omega) rfl hx0))) ?_
  refine ck (a0.1 == id) (fun h3 => ?_) (fun h3 => ?_)
  ·
   refine awp_seq ?_
   refine rk tt_ok [(4, .i ((k0 : Nat) : Int))] [4, 20] [] [] [] (o0) ?_
   refine awp_ret ?_
   have hr4 : (forL (specl05Place_f0 id) specl05Place_e0 s_.2.1 0 ()) = .ret ((k0 : Nat) : Int) := forL_ret hx0 (bif_t h3 (rfl)) hI0
   exact pret [] (congrArg (fun z => (.i z : AV)) (show specl05Place s_ id = ((k0 : Nat) : Int) from on_r hr4).symm)
  ·
   have h3d := ne_of_beq h3
   refine awp_skip ?_
   refine rk tt_ok [(5, .i ((k0 + 1 : Nat) : Int))] [5, 20] [] [] [(1, .val (.i ((k0 + 1 : Nat) : Int)))] (o1 (ob_eq (av_i (wrap_succ k0 (by omega))))) ?_
   exact Exists.intro () (And.intro (weak_fit (by kernel_rfl)) (forL_next hx0 (bif_f h3 (rfl)) hI0))
 ·
  refine awp_seq ?_
  refine awp_seq ?_
  refine rk tt_ok [(10, .b false)] [] [] [] [(3, .val (.i (s_.2.1.length : Int))), (4, .val (.b false))] (o2 (ob_eq (av_len s_.2.1)) (o1 (ob_eq (av_bool (decide_eq_false (p := ((k0 : Nat) : Int) < (s_.2.1.length : Int)) (by omega)))))) ?_
  refine ckF ?_
  refine awp_exit ?_
  exact Exists.intro () (And.intro (weak_fit (by kernel_rfl)) (forL_end hk0 (rfl) hI0))
 ·
  refine awp_seq ?_
  refine rk tt_ok [(4, .i (-1))] [4] [] [] [] (o0) ?_
  refine awp_ret ?_
  exact pret [] (congrArg (fun z => (.i z : AV)) (show specl05Place s_ id = -1 from on_b hD0 (rfl)).symm)
def specVisibleStore_f0 (u : Int) (_ : Nat) (a0 : FileD) (s0 : (List FileD)) : Rd (StoreD) ((List FileD)) ((List FileD)) := (bif (specCanRead a0 u) then (.next (s0 ++ [(specl04Copy a0)])) else (.next s0))
def specVisibleStore_e0 (_ : Nat) (s0 : (List FileD)) : (List FileD) := s0
def specVisibleStore_f1 (s_ : StoreD) (k1 : Nat) (s1 : (List FileD)) : Rd (StoreD) ((List FileD)) ((List FileD)) := (bif decide ((specl05Place (s_.1, s1, s_.2.2) ((nth s1 k1).2.2.2.1)) < (0 : Int)) then (.next (List.set s1 k1 ((nth s1 k1).1, (nth s1 k1).2.1, (nth s1 k1).2.2.1, 0, (nth s1 k1).2.2.2.2))) else (.next s1))
def specVisibleStore_e1 (_ : Nat) (s1 : (List FileD)) : (List FileD) := s1
def specVisibleStore (s_ : StoreD) (u : Int) : StoreD := (Out.on (forL (specVisibleStore_f0 u) specVisibleStore_e0 s_.2.1 0 []) (fun y0 => (Out.on (forN (specVisibleStore_f1 s_) specVisibleStore_e1 (List.length y0) 0 y0) (fun y1 => (s_.1, y1, s_.2.2)))))
theorem specVisibleStore_a (s_ : StoreD) (u : Int) : ACalls Tryz.prog 89 [.a [.h s_.1, .h s_.2.1, .i s_.2.2], .i u] (.a [.o 0 ((specVisibleStore s_ u).1), .o 1 ((specVisibleStore s_ u).2.1), .i ((specVisibleStore s_ u).2.2)]) := by
 refine acalls_of (tt := tt) tt_ok Tryz.func89 (fn := Tryz.f89) rfl (by unfold FnOk; kernel_rfl) (Nat.le_of_ble_eq_true rfl) fun w0 F0 => ?_
 refine awp_seq ?_
 refine rk tt_ok [(2, .p 2 0), (4, .p 4 0)] [0] [(2, [.h s_.1, .h s_.2.1, .i s_.2.2]), (4, [.e 2, .e 5, .i 0])] [] [] (o0) ?_
 refine awp_seq ?_
 refine wdB 2 0 .sh s_.1 (fun hw1 => ?_)
 have hl2 : List.length s_.1 ≤ 1073741824 := wide_len (hw1)
 refine rd' tt_ok tt_mx [(5, .p 5 0)] [] [(5, [.o 704 s_.1, .e 5, .i s_.2.2])] [] [(3, .flat)] (o2 (ob_len (n := (([] : List (List PV)).length + ((eL s_.1) : List (List PV)).length)) (len_of (rfl) (eL_length s_.1) (by first | omega | (simp; omega) | simp))) (o1 (ob_flat (flat_eL s_.1)))) ?_
 refine awp_seq ?_
 refine awp_seq ?_
 refine rk tt_ok [(6, .i 0)] [] [] [] [] (o0) ?_
 refine wdB 2 1 .sh s_.2.1 (fun hw3 => ?_)
 have hl4 : List.length s_.2.1 ≤ 1073741824 := wide_len (hw3)
 refine blk (fun (k0 : Nat) (s0 : (List FileD)) => [(6, .i ((k0 : Nat) : Int))]) [6] (fun k0 s0 => [(5, [.o 704 s_.1, .o 147212 s0, .i s_.2.2])]) [5] (fun (y0 : (List FileD)) => []) [1, 2, 6] (fun y0 => [(5, [.o 704 s_.1, .o 147362 y0, .i s_.2.2])]) [2, 5] (fun (k0 : Nat) (s0 : (List FileD)) => (forL (specVisibleStore_f0 u) specVisibleStore_e0 s_.2.1 0 []) = forL (specVisibleStore_f0 u) specVisibleStore_e0 (List.drop k0 s_.2.1) k0 s0 ∧ List.length s0 ≤ k0) (fun (y0 : (List FileD)) => (forL (specVisibleStore_f0 u) specVisibleStore_e0 s_.2.1 0 []) = .brk y0) s_.2.1.length [] (weak_gf [(true, 5, 1, true, 320008, 5)] [] [] [(320008, 147212)] (by kernel_rfl)) ⟨rfl, (by simp)⟩ (fun k0 s0 hk0 hI0 => ?_) (fun k0 s0 hk0 hI0 => ?_) (fun y0 hD0 => ?_)
 ·
  have hA0_0 := hI0.2
  obtain ⟨a0, hx0⟩ := get_some (l := s_.2.1) (i := k0) hk0
  refine awp_seq ?_
  refine awp_seq ?_
  refine rk tt_ok [(19, .b true)] [] [] [] [(3, .val (.i (s_.2.1.length : Int))), (4, .val (.b true))] (o2 (ob_eq (av_len s_.2.1)) (o1 (ob_eq (av_bool (decide_eq_true (p := ((k0 : Nat) : Int) < (s_.2.1.length : Int)) (by omega)))))) ?_
  refine ckT ?_
  refine awp_skip ?_
  refine awp_seq ?_
  refine awp_block ?_
  refine awp_seq ?_
  refine rk tt_ok [(28, .b (specCanRead a0 u))] [19] [] [] [(3, .row [.i a0.1, .i a0.2.1, .b a0.2.2.1, .i a0.2.2.2.1, .h a0.2.2.2.2]), (6, .val (.b (specCanRead a0 u)))] (o2 (ob_elem (el_of (i := ((k0 : Nat) : Int)) (by omega) rfl hx0)) (o1 (ob_call (specCanRead_a a0 u)))) ?_
  refine ck (specCanRead a0 u) (fun h5 => ?_) (fun h5 => ?_)
  ·
   refine wdB 5 1 (.own true 147212) s0 (fun hw6 => ?_)
   have hl7 : List.length s0 ≤ 1073741824 := wide_len (hw6)
   refine rd' tt_ok tt_mx [] [28] [(5, [.o 704 s_.1, .slc (.own true 2432) 5 ((eL s0) ++ [[.i ((specl04Copy a0).1), .i ((specl04Copy a0).2.1), .b ((specl04Copy a0).2.2.1), .i ((specl04Copy a0).2.2.2.1), .h ((specl04Copy a0).2.2.2.2)]]), .i s_.2.2])] [5] [(5, .row [.i a0.1, .i a0.2.1, .b a0.2.2.1, .i a0.2.2.2.1, .h a0.2.2.2.2]), (7, .val (.a [.i ((specl04Copy a0).1), .i ((specl04Copy a0).2.1), .b ((specl04Copy a0).2.2.1), .i ((specl04Copy a0).2.2.2.1), .o 0 ((specl04Copy a0).2.2.2.2)]))] (o2 (ob_elem (el_of (i := ((k0 : Nat) : Int)) (by omega) rfl hx0)) (o2 (ob_call (specl04Copy_a a0)) (o1 (ob_len (len_of (eL_length s0) (eL_length [(specl04Copy a0)]) (by first | omega | (simp; omega) | simp)))))) ?_
   refine eqn [] [] [(5, [.o 704 s_.1, .o 2432 (s0 ++ [(specl04Copy a0)]), .i s_.2.2])] [5] (by rw [show ((eL s0) ++ [[.i ((specl04Copy a0).1), .i ((specl04Copy a0).2.1), .b ((specl04Copy a0).2.2.1), .i ((specl04Copy a0).2.2.2.1), .h ((specl04Copy a0).2.2.2.2)]]) = (eL (s0 ++ [(specl04Copy a0)])) from app_eL (rfl) (rfl)]; first | done | kernel_rfl) ?_
   refine rk tt_ok [(6, .i ((k0 + 1 : Nat) : Int))] [6] [] [] [(1, .val (.i ((k0 + 1 : Nat) : Int)))] (o1 (ob_eq (av_i (wrap_succ k0 (by omega))))) ?_
   exact Exists.intro (s0 ++ [(specl04Copy a0)]) (And.intro (weak_sf [(2432, 147212)] (by kernel_rfl)) ⟨forL_next hx0 (bif_t h5 (rfl)) hI0.1, by first | omega | (simp; omega) | simp⟩)
  ·
   refine awp_skip ?_
   refine rk tt_ok [(6, .i ((k0 + 1 : Nat) : Int))] [6, 28] [] [] [(1, .val (.i ((k0 + 1 : Nat) : Int)))] (o1 (ob_eq (av_i (wrap_succ k0 (by omega))))) ?_
   exact Exists.intro s0 (And.intro (weak_fit (by kernel_rfl)) ⟨forL_next hx0 (bif_f h5 (rfl)) hI0.1, by first | omega | (simp; omega) | simp⟩)
 ·
  have hA0_0 := hI0.2
  refine awp_seq ?_
  refine awp_seq ?_
  refine rk tt_ok [(19, .b false)] [] [] [] [(3, .val (.i (s_.2.1.length : Int))), (4, .val (.b false))] (o2 (ob_eq (av_len s_.2.1)) (o1 (ob_eq (av_bool (decide_eq_false (p := ((k0 : Nat) : Int) < (s_.2.1.length : Int)) (by omega)))))) ?_
  refine ckF ?_
  refine awp_exit ?_
  exact Exists.intro s0 (And.intro (weak_sf [(147212, 147362)] (by kernel_rfl)) (forL_end hk0 (rfl) hI0.1))
 ·
  refine awp_seq ?_
  refine awp_seq ?_
  refine rk tt_ok [(7, .i 0)] [] [] [] [] (o0) ?_
  refine blk (fun (k1 : Nat) (s1 : (List FileD)) => [(7, .i ((k1 : Nat) : Int))]) [7] (fun k1 s1 => [(5, [.o 704 s_.1, .o 147362 s1, .i s_.2.2])]) [5] (fun (y1 : (List FileD)) => []) [7] (fun y1 => [(5, [.o 704 s_.1, .o 147362 y1, .i s_.2.2])]) [5] (fun (k1 : Nat) (s1 : (List FileD)) => (forN (specVisibleStore_f1 s_) specVisibleStore_e1 (List.length y0) 0 y0) = forN (specVisibleStore_f1 s_) specVisibleStore_e1 ((List.length y0) - k1) k1 s1 ∧ List.length s1 = List.length y0) (fun (y1 : (List FileD)) => (forN (specVisibleStore_f1 s_) specVisibleStore_e1 (List.length y0) 0 y0) = .brk y1 ∧ List.length y1 = List.length y0) (List.length y0) y0 (weak_fit (by kernel_rfl)) ⟨rfl, (by simp)⟩ (fun k1 s1 hk1 hI1 => ?_) (fun k1 s1 hk1 hI1 => ?_) (fun y1 hD1 => ?_)
  ·
   have hA1_0 := hI1.2
   refine awp_seq ?_
   refine awp_seq ?_
   refine rk tt_ok [(44, .b true)] [] [] [] [(3, .val (.i (s1.length : Int))), (4, .val (.b true))] (o2 (ob_eq (av_len s1)) (o1 (ob_eq (av_bool (decide_eq_true (p := ((k1 : Nat) : Int) < (s1.length : Int)) (by omega)))))) ?_
   refine ckT ?_
   refine awp_skip ?_
   refine awp_seq ?_
   refine awp_block ?_
   refine awp_seq ?_
   refine wdB 5 1 (.own true 147362) s1 (fun hw9 => ?_)
   have hl10 : List.length s1 ≤ 1073741824 := wide_len (hw9)
   have hx8 : s1[k1]? = some (nth s1 k1) := nth_get (by omega)
   refine rd' tt_ok tt_mx [(55, .b (decide ((specl05Place (s_.1, s1, s_.2.2) ((nth s1 k1).2.2.2.1)) < (0 : Int))))] [44] [] [] [(4, .rowE [.i ((nth s1 k1).1), .i ((nth s1 k1).2.1), .b ((nth s1 k1).2.2.1), .i ((nth s1 k1).2.2.2.1), .h ((nth s1 k1).2.2.2.2)]), (7, .val (.i (specl05Place (s_.1, s1, s_.2.2) ((nth s1 k1).2.2.2.1))))] (o2 (ob_elem (el_of (i := ((k1 : Nat) : Int)) (by omega) rfl hx8)) (o1 (ob_call (specl05Place_a (s_.1, s1, s_.2.2) ((nth s1 k1).2.2.2.1))))) ?_
   refine ck (decide ((specl05Place (s_.1, s1, s_.2.2) ((nth s1 k1).2.2.2.1)) < (0 : Int))) (fun h11 => ?_) (fun h11 => ?_)
   ·
    have h11d := of_decide_eq_true h11
    refine rk tt_ok [] [55] [(5, [.o 704 s_.1, .slc (.own true 147362) 5 (setRow (eL s1) k1 3 [.i 0]), .i s_.2.2])] [5] [(3, .rowE [.i ((nth s1 k1).1), .i ((nth s1 k1).2.1), .b ((nth s1 k1).2.2.1), .i ((nth s1 k1).2.2.2.1), .h ((nth s1 k1).2.2.2.2)])] (o1 (ob_elem (el_of (i := ((k1 : Nat) : Int)) (by omega) rfl hx8))) ?_
    refine eqn [] [] [(5, [.o 704 s_.1, .o 147362 (List.set s1 k1 ((nth s1 k1).1, (nth s1 k1).2.1, (nth s1 k1).2.2.1, 0, (nth s1 k1).2.2.2.2)), .i s_.2.2])] [5] (by rw [setRow_eL (y := ((nth s1 k1).1, (nth s1 k1).2.1, (nth s1 k1).2.2.1, 0, (nth s1 k1).2.2.2.2)) hx8 rfl]; first | done | kernel_rfl) ?_
    refine rk tt_ok [(7, .i ((k1 + 1 : Nat) : Int))] [7] [] [] [(1, .val (.i ((k1 + 1 : Nat) : Int)))] (o1 (ob_eq (av_i (wrap_succ k1 (by omega))))) ?_
    exact Exists.intro (List.set s1 k1 ((nth s1 k1).1, (nth s1 k1).2.1, (nth s1 k1).2.2.1, 0, (nth s1 k1).2.2.2.2)) (And.intro (weak_fit (by kernel_rfl)) ⟨forN_next hk1 (bif_t h11 (rfl)) hI1.1, (by first | omega | (simp only [List.length_set]; omega))⟩)
   ·
    have h11d := of_decide_eq_false h11
    refine awp_skip ?_
    refine rk tt_ok [(7, .i ((k1 + 1 : Nat) : Int))] [7, 55] [] [] [(1, .val (.i ((k1 + 1 : Nat) : Int)))] (o1 (ob_eq (av_i (wrap_succ k1 (by omega))))) ?_
    exact Exists.intro s1 (And.intro (weak_fit (by kernel_rfl)) ⟨forN_next hk1 (bif_f h11 (rfl)) hI1.1, (by first | omega | (simp only [List.length_set]; omega))⟩)
  ·
   have hA1_0 := hI1.2
   refine awp_seq ?_
   refine awp_seq ?_
   refine rk tt_ok [(44, .b false)] [] [] [] [(3, .val (.i (s1.length : Int))), (4, .val (.b false))] (o2 (ob_eq (av_len s1)) (o1 (ob_eq (av_bool (decide_eq_false (p := ((k1 : Nat) : Int) < (s1.length : Int)) (by omega)))))) ?_
   refine ckF ?_
   refine awp_exit ?_
   exact Exists.intro s1 (And.intro (weak_fit (by kernel_rfl)) ⟨forN_end hk1 (rfl) hI1.1, by first | omega | (simp only [List.length_set]; omega)⟩)
  ·
   have hD1_0 := hD1.2
   refine awp_seq ?_
   refine rk tt_ok [] [5] [(4, [.o 704 s_.1, .o 147362 y1, .i s_.2.2])] [4, 5] [] (o0) ?_
   refine awp_ret ?_
   exact pret [] (congrArg (fun z => (.a [.o 0 z.1, .o 1 z.2.1, .i z.2.2] : AV)) (show specVisibleStore s_ u = (s_.1, y1, s_.2.2) from on_b hD0 (on_b hD1.1 (rfl))).symm)
def specEvaluateForUser (s_ : StoreD) (d : (List DirD)) (u : Int) : (List ResultD) × Bool := (bif ((!(specl01In u 0 2)) || (!(specIsValidStore s_))) then ([], false) else (((specEvaluate (specVisibleStore s_ u) d)).1, ((specEvaluate (specVisibleStore s_ u) d)).2))
theorem specEvaluateForUser_a (s_ : StoreD) (d : (List DirD)) (u : Int) : ACalls Tryz.prog 37 [.a [.h s_.1, .h s_.2.1, .i s_.2.2], .h d, .i u] (.tup [(false, [.o 0 (((specEvaluateForUser s_ d u)).1)]), (false, [.b (((specEvaluateForUser s_ d u)).2)])]) := by
 refine acalls_of (tt := tt) tt_ok Tryz.func37 (fn := Tryz.f37) rfl (by unfold FnOk; kernel_rfl) (Nat.le_of_ble_eq_true rfl) fun w0 F0 => ?_
 refine awp_seq ?_
 refine rk tt_ok [(3, .p 3 0), (6, .e 0), (7, .b false)] [0] [(3, [.h s_.1, .h s_.2.1, .i s_.2.2])] [] [] (o0) ?_
 refine awp_seq ?_
 refine awp_seq ?_
 refine jn [(15, .b ((!(specl01In u 0 2)) || (!(specIsValidStore s_))))] [] [] [] (!(specl01In u 0 2)) (fun h1 => ?_) (fun h1 => ?_) ?_
 ·
  have h1n : (specl01In u 0 2) = false := bnot_t h1
  refine rk tt_ok [(15, .b true)] [] [] [] [(1, .val (.b false)), (2, .val (.b true))] (o2 (ob_call (cb h1n (specl01In_a u 0 2))) (o1 (ob_eq (show .b (!false) = .b true from rfl)))) ?_
  exact ⟨rfl, weak_fit (by rw [h1]; first | done | kernel_rfl)⟩
 ·
  have h1n : (specl01In u 0 2) = true := bnot_f h1
  have h1nw := l01In_iff.1 h1n
  refine rk tt_ok [(15, .b (!(specIsValidStore s_)))] [] [] [] [(1, .val (.b true)), (2, .val (.b false)), (5, .val (.b (specIsValidStore s_)))] (o2 (ob_call (cb h1n (specl01In_a u 0 2))) (o2 (ob_eq (show .b (!true) = .b false from rfl)) (o1 (ob_call (specIsValidStore_a s_))))) ?_
  exact ⟨rfl, weak_fit (by rw [h1]; first | done | kernel_rfl)⟩
 refine ck ((!(specl01In u 0 2)) || (!(specIsValidStore s_))) (fun h2 => ?_) (fun h2 => ?_)
 ·
  refine awp_seq ?_
  refine rk tt_ok [(6, .one (.slc (.own true 1024) 2 []))] [6, 15] [] [] [] (o0) ?_
  refine awp_ret ?_
  exact pret [] (congrArg (fun z => (.tup [(false, [.o 0 z.1]), (false, [.b z.2])] : AV)) (show specEvaluateForUser s_ d u = ([], false) from bif_t h2 (rfl)).symm)
 ·
  have h2l : ((!(specl01In u 0 2))) = false := or_l h2
  have h2ln : (specl01In u 0 2) = true := bnot_f h2l
  have h2lnw := l01In_iff.1 h2ln
  refine awp_skip ?_
  refine awp_seq ?_
  refine rk tt_ok [(6, .o 1344 (((specEvaluate (specVisibleStore s_ u) d)).1)), (7, .b (((specEvaluate (specVisibleStore s_ u) d)).2))] [1, 2, 3, 6, 7, 15] [] [3] [(2, .val (.a [.o 0 ((specVisibleStore s_ u).1), .o 1 ((specVisibleStore s_ u).2.1), .i ((specVisibleStore s_ u).2.2)])), (4, .val (.tup [(false, [.o 0 (((specEvaluate (specVisibleStore s_ u) d)).1)]), (false, [.b (((specEvaluate (specVisibleStore s_ u) d)).2)])]))] (o2 (ob_call (specVisibleStore_a s_ u)) (o1 (ob_call (specEvaluate_a (specVisibleStore s_ u) d)))) ?_
  refine awp_ret ?_
  exact pret [] (congrArg (fun z => (.tup [(false, [.o 0 z.1]), (false, [.b z.2])] : AV)) (show specEvaluateForUser s_ d u = (((specEvaluate (specVisibleStore s_ u) d)).1, ((specEvaluate (specVisibleStore s_ u) d)).2) from bif_f h2 (rfl)).symm)
end Go.Proofs.YtnhmnfmhnepjmaaGreat
