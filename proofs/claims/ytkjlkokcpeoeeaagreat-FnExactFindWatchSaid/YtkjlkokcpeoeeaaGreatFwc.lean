/- What functions compute, and that they do (printed by am2.py): each function as a Lean function, then its contract. -/
import Derived.Test.YtkjlkokcpeoeeaaGreatFwb
import Derived.KernelRfl
namespace Go.Proofs.YtkjlkokcpeoeeaaGreat
open Go.RowKit
open GoE (enc wide)
def implcopyEvent (e_ : EventD) : EventD := e_
theorem implcopyEvent_a (e_ : EventD) : ACalls Tryz.prog 106 [.a [.i e_.1, .h e_.2.1, .h e_.2.2]] (.a [.i ((implcopyEvent e_).1), .o 0 ((implcopyEvent e_).2.1), .o 1 ((implcopyEvent e_).2.2)]) := by
  refine acalls_of (tt := tt) tt_ok Tryz.func106 (fn := Tryz.f106) rfl (by unfold FnOk; kernel_rfl) (Nat.le_of_ble_eq_true rfl) fun w0 F0 => ?_
  refine awp_seq ?_
  refine rk tt_ok [(1, .p 1 0), (2, .p 2 0)] [0] [(1, [.i e_.1, .h e_.2.1, .h e_.2.2]), (2, [.i 0, .e 0, .e 0])] [] [] (o0) ?_
  refine awp_seq ?_
  refine rd' tt_ok tt_mx [] [1] [(2, [.i e_.1, .o 448 e_.2.1, .o 640 e_.2.2])] [1, 2] [(4, .val (.o 0 e_.2.1)), (7, .val (.o 0 e_.2.2))] (o2 (ob_call (cloneInt_a e_.2.1)) (o1 (ob_call (cloneInt_a e_.2.2)))) ?_
  refine awp_ret ?_
  exact pret [] (congrArg (fun z => (.a [.i z.1, .o 0 z.2.1, .o 1 z.2.2] : AV)) (show implcopyEvent e_ = e_ from rfl).symm)
def implcopyWatch_f0 (_ : Nat) (a0 : EventD) (s0 : (List EventD)) : Rd (WatchD) ((List EventD)) ((List EventD)) := (.next (s0 ++ [(implcopyEvent a0)]))
def implcopyWatch_e0 (_ : Nat) (s0 : (List EventD)) : (List EventD) := s0
def implcopyWatch (w : WatchD) : WatchD := (Out.on (forL implcopyWatch_f0 implcopyWatch_e0 w.2.2.2 0 []) (fun y0 => (w.1, w.2.1, w.2.2.1, y0)))
theorem implcopyWatch_a (w : WatchD) : ACalls Tryz.prog 58 [.a [.i w.1, .s w.2.1, .h w.2.2.1, .h w.2.2.2]] (.a [.i ((implcopyWatch w).1), .s ((implcopyWatch w).2.1), .o 0 ((implcopyWatch w).2.2.1), .o 1 ((implcopyWatch w).2.2.2)]) := by
  refine acalls_of (tt := tt) tt_ok Tryz.func58 (fn := Tryz.f58) rfl (by unfold FnOk; kernel_rfl) (Nat.le_of_ble_eq_true rfl) fun w0 F0 => ?_
  refine awp_seq ?_
  refine rk tt_ok [(1, .p 1 0), (2, .p 2 0)] [0] [(1, [.i w.1, .s w.2.1, .h w.2.2.1, .h w.2.2.2]), (2, [.i 0, .s ⟨#[]⟩, .e 0, .e 0])] [] [] (o0) ?_
  refine awp_seq ?_
  refine rk tt_ok [(3, .one (.slc (.own true 384) 3 []))] [] [] [] [] (o0) ?_
  refine awp_seq ?_
  refine awp_seq ?_
  refine rk tt_ok [(8, .h w.2.2.2), (9, .i (w.2.2.2.length : Int)), (10, .i 0)] [] [] [] [(2, .val (.i (w.2.2.2.length : Int)))] (o1 (ob_eq (av_len w.2.2.2))) ?_
  refine wdT 8 0 .sh w.2.2.2 (fun hw1 => ?_)
  have hl2 : List.length w.2.2.2 ≤ 1073741824 := wide_len (hw1)
  refine blk (fun (k0 : Nat) (s0 : (List EventD)) => [(3, .o 147202 s0), (10, .i ((k0 : Nat) : Int))]) [3, 10] (fun k0 s0 => []) [] (fun (y0 : (List EventD)) => [(3, .o 147352 y0)]) [3, 8, 9, 10] (fun y0 => []) [] (fun (k0 : Nat) (s0 : (List EventD)) => (forL implcopyWatch_f0 implcopyWatch_e0 w.2.2.2 0 []) = forL implcopyWatch_f0 implcopyWatch_e0 (List.drop k0 w.2.2.2) k0 s0 ∧ List.length s0 ≤ k0) (fun (y0 : (List EventD)) => (forL implcopyWatch_f0 implcopyWatch_e0 w.2.2.2 0 []) = .brk y0) w.2.2.2.length [] (weak_sf [(384, 147202)] (by kernel_rfl)) ⟨rfl, (by simp)⟩ (fun k0 s0 hk0 hI0 => ?_) (fun k0 s0 hk0 hI0 => ?_) (fun y0 hD0 => ?_)
  · -- round
    have hA0_0 := hI0.2
    obtain ⟨a0, hx0⟩ := get_some (l := w.2.2.2) (i := k0) hk0
    refine awp_seq ?_
    refine rk tt_ok [(11, .b true)] [] [] [] [(0, .val (.b true))] (o1 (ob_eq (av_bool (decide_eq_true (p := ((k0 : Nat) : Int) < (w.2.2.2.length : Int)) (by omega))))) ?_
    refine awp_seq ?_
    refine ckT ?_
    refine awp_skip ?_
    refine awp_seq ?_
    refine awp_block ?_
    refine awp_seq ?_
    refine rk tt_ok [(5, .p 5 0)] [11] [(5, [.i a0.1, .h a0.2.1, .h a0.2.2])] [] [(0, .row [.i a0.1, .h a0.2.1, .h a0.2.2])] (o1 (ob_elem (el_of (i := ((k0 : Nat) : Int)) (by omega) rfl hx0))) ?_
    refine wdT 3 0 (.own true 147202) s0 (fun hw3 => ?_)
    have hl4 : List.length s0 ≤ 1073741824 := wide_len (hw3)
    refine rk tt_ok [(3, .one (.slc (.own true 1152) 3 ((eL s0) ++ [[.i ((implcopyEvent a0).1), .h ((implcopyEvent a0).2.1), .h ((implcopyEvent a0).2.2)]])))] [3, 5] [] [5] [(2, .val (.a [.i ((implcopyEvent a0).1), .o 0 ((implcopyEvent a0).2.1), .o 1 ((implcopyEvent a0).2.2)]))] (o2 (ob_call (implcopyEvent_a a0)) (o1 (ob_len (len_of (eL_length s0) (eL_length [(implcopyEvent a0)]) (by first | omega | (simp; omega) | simp))))) ?_
    refine eqn [(3, .o 1152 (s0 ++ [(implcopyEvent a0)]))] [3] [] [] (by rw [show ((eL s0) ++ [[.i ((implcopyEvent a0).1), .h ((implcopyEvent a0).2.1), .h ((implcopyEvent a0).2.2)]]) = (eL (s0 ++ [(implcopyEvent a0)])) from app_eL (rfl) (rfl)]; first | done | kernel_rfl) ?_
    refine rk tt_ok [(10, .i ((k0 + 1 : Nat) : Int))] [10] [] [] [(0, .val (.i ((k0 + 1 : Nat) : Int)))] (o1 (ob_eq (av_i (wrap_succ k0 (by omega))))) ?_
    exact Exists.intro (s0 ++ [(implcopyEvent a0)]) (And.intro (weak_sf [(1152, 147202)] (by kernel_rfl)) ⟨forL_next hx0 (rfl) hI0.1, by first | omega | (simp; omega) | simp⟩)
  · -- exit
    have hA0_0 := hI0.2
    refine awp_seq ?_
    refine rk tt_ok [(11, .b false)] [] [] [] [(0, .val (.b false))] (o1 (ob_eq (av_bool (decide_eq_false (p := ((k0 : Nat) : Int) < (w.2.2.2.length : Int)) (by omega))))) ?_
    refine awp_seq ?_
    refine ckF ?_
    refine awp_exit ?_
    exact Exists.intro s0 (And.intro (weak_sf [(147202, 147352)] (by kernel_rfl)) (forL_end hk0 (rfl) hI0.1))
  · -- behind
    refine awp_seq ?_
    refine rk tt_ok [] [] [(1, [.i w.1, .s w.2.1, .o 1408 w.2.2.1, .h w.2.2.2])] [1] [(2, .val (.o 0 w.2.2.1))] (o1 (ob_call (cloneInt_a w.2.2.1))) ?_
    refine awp_seq ?_
    refine rk tt_ok [] [3] [(1, [.i w.1, .s w.2.1, .o 1408 w.2.2.1, .o 147352 y0])] [1] [] (o0) ?_
    refine awp_seq ?_
    refine rk tt_ok [] [1] [(2, [.i w.1, .s w.2.1, .o 1408 w.2.2.1, .o 147352 y0])] [1, 2] [] (o0) ?_
    refine awp_ret ?_
    exact pret [] (congrArg (fun z => (.a [.i z.1, .s z.2.1, .o 0 z.2.2.1, .o 1 z.2.2.2] : AV)) (show implcopyWatch w = (w.1, w.2.1, w.2.2.1, y0) from on_b hD0 (rfl)).symm)
def implFindWatch (x : SystemD) (i : Int) : WatchD × Bool := (bif (!(implwithin i 0 ((x.2.2.2.2.1.length : Int) - 1))) then ((0, ⟨#[]⟩, [], []), false) else ((implcopyWatch (nth x.2.2.2.2.1 (Int.toNat i))), true))
theorem implFindWatch_a (x : SystemD) (i : Int) : ACalls Tryz.prog 13 [.a [.h x.1.1.1, .h x.1.1.2.1, .i x.1.1.2.2, .h x.1.2.1, .h x.1.2.2, .s x.2.1.1, .s x.2.1.2, .i x.2.2.1, .h x.2.2.2.1, .h x.2.2.2.2.1, .h x.2.2.2.2.2], .i i] (.tup [(true, [.i ((((implFindWatch x i)).1).1), .s ((((implFindWatch x i)).1).2.1), .o 0 ((((implFindWatch x i)).1).2.2.1), .o 1 ((((implFindWatch x i)).1).2.2.2)]), (false, [.b (((implFindWatch x i)).2)])]) := by
  refine acalls_of (tt := tt) tt_ok Tryz.func13 (fn := Tryz.f13) rfl (by unfold FnOk; kernel_rfl) (Nat.le_of_ble_eq_true rfl) fun w0 F0 => ?_
  refine awp_seq ?_
  refine rk tt_ok [(2, .p 2 0), (4, .p 4 0), (5, .b false)] [0] [(2, [.h x.1.1.1, .h x.1.1.2.1, .i x.1.1.2.2, .h x.1.2.1, .h x.1.2.2, .s x.2.1.1, .s x.2.1.2, .i x.2.2.1, .h x.2.2.2.1, .h x.2.2.2.2.1, .h x.2.2.2.2.2]), (4, [.i 0, .s ⟨#[]⟩, .e 0, .e 0])] [] [] (o0) ?_
  refine awp_seq ?_
  refine awp_seq ?_
  refine wdB 2 9 .sh x.2.2.2.2.1 (fun hw1 => ?_)
  have hl2 : List.length x.2.2.2.2.1 ≤ 1073741824 := wide_len (hw1)
  refine rk tt_ok [(12, .b (!(implwithin i 0 ((x.2.2.2.2.1.length : Int) - 1))))] [] [] [] [(3, .val (.i (x.2.2.2.2.1.length : Int))), (4, .val (.i ((x.2.2.2.2.1.length : Int) - 1))), (5, .val (.b (implwithin i 0 ((x.2.2.2.2.1.length : Int) - 1))))] (o2 (ob_eq (av_len x.2.2.2.2.1)) (o2 (ob_eq (av_i (IntWalk.i64_in ((x.2.2.2.2.1.length : Int) - 1) (by omega)))) (o1 (ob_call (implwithin_a i 0 ((x.2.2.2.2.1.length : Int) - 1)))))) ?_
  refine ck (!(implwithin i 0 ((x.2.2.2.2.1.length : Int) - 1))) (fun h3 => ?_) (fun h3 => ?_)
  · -- True
    have h3n : (implwithin i 0 ((x.2.2.2.2.1.length : Int) - 1)) = false := bnot_t h3
    refine awp_seq ?_
    refine rk tt_ok [] [12] [] [] [] (o0) ?_
    refine opn [(true, 4, 2, true, 384000, 1), (true, 4, 3, true, 384001, 3)] ?_
    refine awp_ret ?_
    exact pret [] (congrArg (fun z => (.tup [(true, [.i z.1.1, .s z.1.2.1, .o 0 z.1.2.2.1, .o 1 z.1.2.2.2]), (false, [.b z.2])] : AV)) (show implFindWatch x i = ((0, ⟨#[]⟩, [], []), false) from bif_t h3 (rfl)).symm)
  · -- False
    have h3n : (implwithin i 0 ((x.2.2.2.2.1.length : Int) - 1)) = true := bnot_f h3
    have h3nw := within_iff.1 h3n
    refine awp_skip ?_
    refine awp_seq ?_
    have hx4 : x.2.2.2.2.1[(Int.toNat i)]? = some (nth x.2.2.2.2.1 (Int.toNat i)) := nth_get (by omega)
    refine rk tt_ok [(5, .b true)] [1, 2, 5, 12] [(4, [.i ((implcopyWatch (nth x.2.2.2.2.1 (Int.toNat i))).1), .s ((implcopyWatch (nth x.2.2.2.2.1 (Int.toNat i))).2.1), .o 1216 ((implcopyWatch (nth x.2.2.2.2.1 (Int.toNat i))).2.2.1), .o 1217 ((implcopyWatch (nth x.2.2.2.2.1 (Int.toNat i))).2.2.2)])] [2, 4] [(3, .row [.i ((nth x.2.2.2.2.1 (Int.toNat i)).1), .s ((nth x.2.2.2.2.1 (Int.toNat i)).2.1), .h ((nth x.2.2.2.2.1 (Int.toNat i)).2.2.1), .h ((nth x.2.2.2.2.1 (Int.toNat i)).2.2.2)]), (5, .val (.a [.i ((implcopyWatch (nth x.2.2.2.2.1 (Int.toNat i))).1), .s ((implcopyWatch (nth x.2.2.2.2.1 (Int.toNat i))).2.1), .o 0 ((implcopyWatch (nth x.2.2.2.2.1 (Int.toNat i))).2.2.1), .o 1 ((implcopyWatch (nth x.2.2.2.2.1 (Int.toNat i))).2.2.2)]))] (o2 (ob_elem (el_of (i := i) (by omega) rfl hx4)) (o1 (ob_call (implcopyWatch_a (nth x.2.2.2.2.1 (Int.toNat i)))))) ?_
    refine awp_ret ?_
    exact pret [] (congrArg (fun z => (.tup [(true, [.i z.1.1, .s z.1.2.1, .o 0 z.1.2.2.1, .o 1 z.1.2.2.2]), (false, [.b z.2])] : AV)) (show implFindWatch x i = ((implcopyWatch (nth x.2.2.2.2.1 (Int.toNat i))), true) from bif_f h3 (rfl)).symm)
def specl29Events_f0 (_ : Nat) (a0 : EventD) (s0 : (List EventD)) : Rd ((List EventD)) ((List EventD)) ((List EventD)) := (.next (s0 ++ [a0]))
def specl29Events_e0 (_ : Nat) (s0 : (List EventD)) : (List EventD) := s0
def specl29Events (list : (List EventD)) : (List EventD) := (Out.on (forL specl29Events_f0 specl29Events_e0 list 0 []) (fun y0 => y0))
theorem specl29Events_a (list : (List EventD)) : ACalls Tryz.prog 105 [.h list] (.o 0 (specl29Events list)) := by
  refine acalls_of (tt := tt) tt_ok Tryz.func105 (fn := Tryz.f105) rfl (by unfold FnOk; kernel_rfl) (Nat.le_of_ble_eq_true rfl) fun w0 F0 => ?_
  refine awp_seq ?_
  refine rk tt_ok [(2, .e 0)] [] [] [] [] (o0) ?_
  refine awp_seq ?_
  refine rk tt_ok [(3, .one (.slc (.own true 320) 3 []))] [] [] [] [] (o0) ?_
  refine awp_seq ?_
  refine awp_seq ?_
  refine rk tt_ok [(4, .i 0)] [] [] [] [] (o0) ?_
  refine wdT 0 0 .sh list (fun hw1 => ?_)
  have hl2 : List.length list ≤ 1073741824 := wide_len (hw1)
  refine blk (fun (k0 : Nat) (s0 : (List EventD)) => [(3, .o 147202 s0), (4, .i ((k0 : Nat) : Int))]) [3, 4] (fun k0 s0 => []) [] (fun (y0 : (List EventD)) => [(3, .o 147352 y0)]) [0, 3, 4] (fun y0 => []) [] (fun (k0 : Nat) (s0 : (List EventD)) => (forL specl29Events_f0 specl29Events_e0 list 0 []) = forL specl29Events_f0 specl29Events_e0 (List.drop k0 list) k0 s0 ∧ List.length s0 ≤ k0) (fun (y0 : (List EventD)) => (forL specl29Events_f0 specl29Events_e0 list 0 []) = .brk y0) list.length [] (weak_sf [(320, 147202)] (by kernel_rfl)) ⟨rfl, (by simp)⟩ (fun k0 s0 hk0 hI0 => ?_) (fun k0 s0 hk0 hI0 => ?_) (fun y0 hD0 => ?_)
  · -- round
    have hA0_0 := hI0.2
    obtain ⟨a0, hx0⟩ := get_some (l := list) (i := k0) hk0
    refine awp_seq ?_
    refine awp_seq ?_
    refine rk tt_ok [(9, .b true)] [] [] [] [(2, .val (.i (list.length : Int))), (3, .val (.b true))] (o2 (ob_eq (av_len list)) (o1 (ob_eq (av_bool (decide_eq_true (p := ((k0 : Nat) : Int) < (list.length : Int)) (by omega)))))) ?_
    refine ckT ?_
    refine awp_skip ?_
    refine awp_seq ?_
    refine awp_block ?_
    have hl3 : List.length a0.2.1 ≤ 1073741824 := wide_len (wide_fst (wide_snd (wide_get hx0 (hw1))))
    have hl4 : List.length a0.2.2 ≤ 1073741824 := wide_len (wide_snd (wide_snd (wide_get hx0 (hw1))))
    refine wdT 3 0 (.own true 147202) s0 (fun hw5 => ?_)
    have hl6 : List.length s0 ≤ 1073741824 := wide_len (hw5)
    refine rd' tt_ok tt_mx [(3, .one (.slc (.own true 2176) 3 ((eL s0) ++ [[.i a0.1, .slc 1 ([] ++ (eL a0.2.1)), .slc 1 ([] ++ (eL a0.2.2))]])))] [3, 9] [] [] [(3, .row [.i a0.1, .h a0.2.1, .h a0.2.2]), (9, .row [.i a0.1, .h a0.2.1, .h a0.2.2]), (12, .flat), (16, .row [.i a0.1, .h a0.2.1, .h a0.2.2]), (19, .flat)] (o2 (ob_elem (el_of (i := ((k0 : Nat) : Int)) (by omega) rfl hx0)) (o2 (ob_elem (el_of (i := ((k0 : Nat) : Int)) (by omega) rfl hx0)) (o2 (ob_len (n := (([] : List (List PV)).length + ((eL a0.2.1) : List (List PV)).length)) (len_of (rfl) (eL_length a0.2.1) (by first | omega | (simp; omega) | simp))) (o2 (ob_flat (flat_eL a0.2.1)) (o2 (ob_elem (el_of (i := ((k0 : Nat) : Int)) (by omega) rfl hx0)) (o2 (ob_len (n := (([] : List (List PV)).length + ((eL a0.2.2) : List (List PV)).length)) (len_of (rfl) (eL_length a0.2.2) (by first | omega | (simp; omega) | simp))) (o2 (ob_flat (flat_eL a0.2.2)) (o1 (ob_len (n := (((eL s0) : List (List PV)).length + ([[.i a0.1, .slc 1 ([] ++ (eL a0.2.1)), .slc 1 ([] ++ (eL a0.2.2))]] : List (List PV)).length)) (len_of (eL_length s0) (rfl) (by first | omega | (simp; omega) | simp))))))))))) ?_
    refine eqn [(3, .o 2176 (s0 ++ [a0]))] [3] [] [] (by rw [show ((eL s0) ++ [[.i a0.1, .slc 1 ([] ++ (eL a0.2.1)), .slc 1 ([] ++ (eL a0.2.2))]]) = (eL (s0 ++ [a0])) from app_eL (rfl) (rfl)]; first | done | kernel_rfl) ?_
    refine rk tt_ok [(4, .i ((k0 + 1 : Nat) : Int))] [4] [] [] [(1, .val (.i ((k0 + 1 : Nat) : Int)))] (o1 (ob_eq (av_i (wrap_succ k0 (by omega))))) ?_
    exact Exists.intro (s0 ++ [a0]) (And.intro (weak_sf [(2176, 147202)] (by kernel_rfl)) ⟨forL_next hx0 (rfl) hI0.1, by first | omega | (simp; omega) | simp⟩)
  · -- exit
    have hA0_0 := hI0.2
    refine awp_seq ?_
    refine awp_seq ?_
    refine rk tt_ok [(9, .b false)] [] [] [] [(2, .val (.i (list.length : Int))), (3, .val (.b false))] (o2 (ob_eq (av_len list)) (o1 (ob_eq (av_bool (decide_eq_false (p := ((k0 : Nat) : Int) < (list.length : Int)) (by omega)))))) ?_
    refine ckF ?_
    refine awp_exit ?_
    exact Exists.intro s0 (And.intro (weak_sf [(147202, 147352)] (by kernel_rfl)) (forL_end hk0 (rfl) hI0.1))
  · -- behind
    refine awp_seq ?_
    refine rk tt_ok [(2, .o 147352 y0)] [2, 3] [] [] [] (o0) ?_
    refine awp_ret ?_
    exact pret [] (congrArg (fun z => (.o 0 z : AV)) (show specl29Events list = y0 from on_b hD0 (rfl)).symm)
def specl29Copy (w : WatchD) : WatchD := (w.1, w.2.1, w.2.2.1, (specl29Events w.2.2.2))
theorem specl29Copy_a (w : WatchD) : ACalls Tryz.prog 56 [.a [.i w.1, .s w.2.1, .h w.2.2.1, .h w.2.2.2]] (.a [.i ((specl29Copy w).1), .s ((specl29Copy w).2.1), .o 0 ((specl29Copy w).2.2.1), .o 1 ((specl29Copy w).2.2.2)]) := by
  refine acalls_of (tt := tt) tt_ok Tryz.func56 (fn := Tryz.f56) rfl (by unfold FnOk; kernel_rfl) (Nat.le_of_ble_eq_true rfl) fun w0 F0 => ?_
  refine awp_seq ?_
  refine rk tt_ok [(1, .p 1 0), (2, .p 2 0)] [0] [(1, [.i w.1, .s w.2.1, .h w.2.2.1, .h w.2.2.2]), (2, [.i 0, .s ⟨#[]⟩, .e 0, .e 0])] [] [] (o0) ?_
  refine awp_seq ?_
  refine wdB 1 2 .sh w.2.2.1 (fun hw1 => ?_)
  have hl2 : List.length w.2.2.1 ≤ 1073741824 := wide_len (hw1)
  refine rd' tt_ok tt_mx [] [1] [(2, [.i w.1, .s w.2.1, .o 640 w.2.2.1, .o 832 (specl29Events w.2.2.2)])] [1, 2] [(7, .flat), (10, .val (.o 0 (specl29Events w.2.2.2)))] (o2 (ob_len (n := (([] : List (List PV)).length + ((eL w.2.2.1) : List (List PV)).length)) (len_of (rfl) (eL_length w.2.2.1) (by first | omega | (simp; omega) | simp))) (o2 (ob_flat (flat_eL w.2.2.1)) (o1 (ob_call (specl29Events_a w.2.2.2))))) ?_
  refine awp_ret ?_
  exact pret [] (congrArg (fun z => (.a [.i z.1, .s z.2.1, .o 0 z.2.2.1, .o 1 z.2.2.2] : AV)) (show specl29Copy w = (w.1, w.2.1, w.2.2.1, (specl29Events w.2.2.2)) from rfl).symm)
def specFindWatch (x : SystemD) (i : Int) : WatchD × Bool := (bif (!(specl01In i 0 ((x.2.2.2.2.1.length : Int) - 1))) then ((0, ⟨#[]⟩, [], []), false) else ((specl29Copy (nth x.2.2.2.2.1 (Int.toNat i))), true))
theorem specFindWatch_a (x : SystemD) (i : Int) : ACalls Tryz.prog 12 [.a [.h x.1.1.1, .h x.1.1.2.1, .i x.1.1.2.2, .h x.1.2.1, .h x.1.2.2, .s x.2.1.1, .s x.2.1.2, .i x.2.2.1, .h x.2.2.2.1, .h x.2.2.2.2.1, .h x.2.2.2.2.2], .i i] (.tup [(true, [.i ((((specFindWatch x i)).1).1), .s ((((specFindWatch x i)).1).2.1), .o 0 ((((specFindWatch x i)).1).2.2.1), .o 1 ((((specFindWatch x i)).1).2.2.2)]), (false, [.b (((specFindWatch x i)).2)])]) := by
  refine acalls_of (tt := tt) tt_ok Tryz.func12 (fn := Tryz.f12) rfl (by unfold FnOk; kernel_rfl) (Nat.le_of_ble_eq_true rfl) fun w0 F0 => ?_
  refine awp_seq ?_
  refine rk tt_ok [(2, .p 2 0), (4, .p 4 0), (5, .b false)] [0] [(2, [.h x.1.1.1, .h x.1.1.2.1, .i x.1.1.2.2, .h x.1.2.1, .h x.1.2.2, .s x.2.1.1, .s x.2.1.2, .i x.2.2.1, .h x.2.2.2.1, .h x.2.2.2.2.1, .h x.2.2.2.2.2]), (4, [.i 0, .s ⟨#[]⟩, .e 0, .e 0])] [] [] (o0) ?_
  refine awp_seq ?_
  refine awp_seq ?_
  refine wdB 2 9 .sh x.2.2.2.2.1 (fun hw1 => ?_)
  have hl2 : List.length x.2.2.2.2.1 ≤ 1073741824 := wide_len (hw1)
  refine rk tt_ok [(12, .b (!(specl01In i 0 ((x.2.2.2.2.1.length : Int) - 1))))] [] [] [] [(3, .val (.i (x.2.2.2.2.1.length : Int))), (4, .val (.i ((x.2.2.2.2.1.length : Int) - 1))), (5, .val (.b (specl01In i 0 ((x.2.2.2.2.1.length : Int) - 1))))] (o2 (ob_eq (av_len x.2.2.2.2.1)) (o2 (ob_eq (av_i (IntWalk.i64_in ((x.2.2.2.2.1.length : Int) - 1) (by omega)))) (o1 (ob_call (specl01In_a i 0 ((x.2.2.2.2.1.length : Int) - 1)))))) ?_
  refine ck (!(specl01In i 0 ((x.2.2.2.2.1.length : Int) - 1))) (fun h3 => ?_) (fun h3 => ?_)
  · -- True
    have h3n : (specl01In i 0 ((x.2.2.2.2.1.length : Int) - 1)) = false := bnot_t h3
    refine awp_seq ?_
    refine rk tt_ok [] [12] [] [] [] (o0) ?_
    refine opn [(true, 4, 2, true, 384000, 1), (true, 4, 3, true, 384001, 3)] ?_
    refine awp_ret ?_
    exact pret [] (congrArg (fun z => (.tup [(true, [.i z.1.1, .s z.1.2.1, .o 0 z.1.2.2.1, .o 1 z.1.2.2.2]), (false, [.b z.2])] : AV)) (show specFindWatch x i = ((0, ⟨#[]⟩, [], []), false) from bif_t h3 (rfl)).symm)
  · -- False
    have h3n : (specl01In i 0 ((x.2.2.2.2.1.length : Int) - 1)) = true := bnot_f h3
    have h3nw := l01In_iff.1 h3n
    refine awp_skip ?_
    refine awp_seq ?_
    have hx4 : x.2.2.2.2.1[(Int.toNat i)]? = some (nth x.2.2.2.2.1 (Int.toNat i)) := nth_get (by omega)
    refine rk tt_ok [(5, .b true)] [1, 2, 5, 12] [(4, [.i ((specl29Copy (nth x.2.2.2.2.1 (Int.toNat i))).1), .s ((specl29Copy (nth x.2.2.2.2.1 (Int.toNat i))).2.1), .o 1216 ((specl29Copy (nth x.2.2.2.2.1 (Int.toNat i))).2.2.1), .o 1217 ((specl29Copy (nth x.2.2.2.2.1 (Int.toNat i))).2.2.2)])] [2, 4] [(3, .row [.i ((nth x.2.2.2.2.1 (Int.toNat i)).1), .s ((nth x.2.2.2.2.1 (Int.toNat i)).2.1), .h ((nth x.2.2.2.2.1 (Int.toNat i)).2.2.1), .h ((nth x.2.2.2.2.1 (Int.toNat i)).2.2.2)]), (5, .val (.a [.i ((specl29Copy (nth x.2.2.2.2.1 (Int.toNat i))).1), .s ((specl29Copy (nth x.2.2.2.2.1 (Int.toNat i))).2.1), .o 0 ((specl29Copy (nth x.2.2.2.2.1 (Int.toNat i))).2.2.1), .o 1 ((specl29Copy (nth x.2.2.2.2.1 (Int.toNat i))).2.2.2)]))] (o2 (ob_elem (el_of (i := i) (by omega) rfl hx4)) (o1 (ob_call (specl29Copy_a (nth x.2.2.2.2.1 (Int.toNat i)))))) ?_
    refine awp_ret ?_
    exact pret [] (congrArg (fun z => (.tup [(true, [.i z.1.1, .s z.1.2.1, .o 0 z.1.2.2.1, .o 1 z.1.2.2.2]), (false, [.b z.2])] : AV)) (show specFindWatch x i = ((specl29Copy (nth x.2.2.2.2.1 (Int.toNat i))), true) from bif_f h3 (rfl)).symm)
end Go.Proofs.YtkjlkokcpeoeeaaGreat
