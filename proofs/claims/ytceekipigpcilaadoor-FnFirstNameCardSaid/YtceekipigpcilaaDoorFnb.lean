/- What functions compute, and that they do (printed by am2.py): each function as a Lean function, then its contract. -/
import Derived.Test.YtceekipigpcilaaDoorEip
import Derived.KernelRfl
set_option linter.unusedVariables false
set_option linter.unusedSimpArgs false
namespace Go.Proofs.YtceekipigpcilaaDoor
open Go.RowKit
open GoE (enc wide)
def implcopyFile (f : FileD) : FileD := f
theorem implcopyFile_a (f : FileD) : ACalls Tryd.prog 32 [.a [.i f.1, .i f.2.1, .b f.2.2.1, .i f.2.2.2.1, .h f.2.2.2.2]] (.a [.i ((implcopyFile f).1), .i ((implcopyFile f).2.1), .b ((implcopyFile f).2.2.1), .i ((implcopyFile f).2.2.2.1), .o 0 ((implcopyFile f).2.2.2.2)]) := by
  refine acalls_of (tt := tt) tt_ok Tryd.func32 (fn := Tryd.f32) rfl (by unfold FnOk; kernel_rfl) (Nat.le_of_ble_eq_true rfl) fun w0 F0 hG => ?_
  refine awp_seq ?_
  refine rk tt_ok [(1, .p 1 0), (2, .p 2 0)] [0] [(1, [.i f.1, .i f.2.1, .b f.2.2.1, .i f.2.2.2.1, .h f.2.2.2.2]), (2, [.i 0, .i 0, .b false, .i 0, .e 4])] [] [] (o0) ?_
  refine awp_seq ?_
  refine rk tt_ok [] [] [(1, [.i f.1, .i f.2.1, .b f.2.2.1, .i f.2.2.2.1, .o 320 f.2.2.2.2])] [1] [(2, .val (.o 0 f.2.2.2.2))] (o1 (ob_call (cloneAttr_a f.2.2.2.2))) ?_
  refine awp_seq ?_
  refine rk tt_ok [] [1] [(2, [.i f.1, .i f.2.1, .b f.2.2.1, .i f.2.2.2.1, .o 320 f.2.2.2.2])] [1, 2] [] (o0) ?_
  refine awp_ret ?_
  exact pret [] (congrArg (fun z => (.a [.i z.1, .i z.2.1, .b z.2.2.1, .i z.2.2.2.1, .o 0 z.2.2.2.2] : AV)) (show implcopyFile f = f from rfl).symm)
def implFindFile (s_ : StoreD) (id : Int) : FileD × Bool := (bif decide ((implfileAt s_ id) ≥ (0 : Int)) then ((implcopyFile (nth s_.2.1 (Int.toNat (implfileAt s_ id)))), true) else ((0, 0, false, 0, []), false))
theorem implFindFile_a (s_ : StoreD) (id : Int) : ACalls Tryd.prog 22 [.a [.h s_.1, .h s_.2.1, .i s_.2.2], .i id] (.tup [(true, [.i ((((implFindFile s_ id)).1).1), .i ((((implFindFile s_ id)).1).2.1), .b ((((implFindFile s_ id)).1).2.2.1), .i ((((implFindFile s_ id)).1).2.2.2.1), .o 0 ((((implFindFile s_ id)).1).2.2.2.2)]), (false, [.b (((implFindFile s_ id)).2)])]) := by
  refine acalls_of (tt := tt) tt_ok Tryd.func22 (fn := Tryd.f22) rfl (by unfold FnOk; kernel_rfl) (Nat.le_of_ble_eq_true rfl) fun w0 F0 hG => ?_
  refine awp_seq ?_
  refine rk tt_ok [(2, .p 2 0), (4, .p 4 0), (5, .b false)] [0] [(2, [.h s_.1, .h s_.2.1, .i s_.2.2]), (4, [.i 0, .i 0, .b false, .i 0, .e 4])] [] [] (o0) ?_
  refine awp_seq ?_
  refine awp_seq ?_
  refine rk tt_ok [(6, .i (implfileAt s_ id))] [1] [] [] [(2, .val (.i (implfileAt s_ id)))] (o1 (ob_call (implfileAt_a s_ id))) ?_
  refine awp_seq ?_
  refine rk tt_ok [(11, .b (decide ((implfileAt s_ id) ≥ (0 : Int))))] [] [] [] [] (o0) ?_
  refine ck (decide ((implfileAt s_ id) ≥ (0 : Int))) (fun h1 => ?_) (fun h1 => ?_)
  ·
    have h1p := fat_lt s_ id
    have h1d := of_decide_eq_true h1
    refine awp_seq ?_
    refine wdB 2 1 .sh s_.2.1 (fun hw3 => ?_)
    have hl4 : List.length s_.2.1 ≤ 1073741824 := wide_len (hw3)
    have hx2 : s_.2.1[(Int.toNat (implfileAt s_ id))]? = some (nth s_.2.1 (Int.toNat (implfileAt s_ id))) := nth_get (by omega)
    refine rk tt_ok [(5, .b true)] [2, 5, 6, 11] [(4, [.i ((implcopyFile (nth s_.2.1 (Int.toNat (implfileAt s_ id)))).1), .i ((implcopyFile (nth s_.2.1 (Int.toNat (implfileAt s_ id)))).2.1), .b ((implcopyFile (nth s_.2.1 (Int.toNat (implfileAt s_ id)))).2.2.1), .i ((implcopyFile (nth s_.2.1 (Int.toNat (implfileAt s_ id)))).2.2.2.1), .o 1088 ((implcopyFile (nth s_.2.1 (Int.toNat (implfileAt s_ id)))).2.2.2.2)])] [2, 4] [(3, .row [.i ((nth s_.2.1 (Int.toNat (implfileAt s_ id))).1), .i ((nth s_.2.1 (Int.toNat (implfileAt s_ id))).2.1), .b ((nth s_.2.1 (Int.toNat (implfileAt s_ id))).2.2.1), .i ((nth s_.2.1 (Int.toNat (implfileAt s_ id))).2.2.2.1), .h ((nth s_.2.1 (Int.toNat (implfileAt s_ id))).2.2.2.2)]), (5, .val (.a [.i ((implcopyFile (nth s_.2.1 (Int.toNat (implfileAt s_ id)))).1), .i ((implcopyFile (nth s_.2.1 (Int.toNat (implfileAt s_ id)))).2.1), .b ((implcopyFile (nth s_.2.1 (Int.toNat (implfileAt s_ id)))).2.2.1), .i ((implcopyFile (nth s_.2.1 (Int.toNat (implfileAt s_ id)))).2.2.2.1), .o 0 ((implcopyFile (nth s_.2.1 (Int.toNat (implfileAt s_ id)))).2.2.2.2)]))] (o2 (ob_elem (el_of (i := (implfileAt s_ id)) (by omega) rfl hx2)) (o1 (ob_call (implcopyFile_a (nth s_.2.1 (Int.toNat (implfileAt s_ id))))))) ?_
    refine awp_ret ?_
    exact pret [] (congrArg (fun z => (.tup [(true, [.i z.1.1, .i z.1.2.1, .b z.1.2.2.1, .i z.1.2.2.2.1, .o 0 z.1.2.2.2.2]), (false, [.b z.2])] : AV)) (show implFindFile s_ id = ((implcopyFile (nth s_.2.1 (Int.toNat (implfileAt s_ id)))), true) from bif_t h1 (rfl)).symm)
  ·
    have h1d := of_decide_eq_false h1
    refine awp_skip ?_
    refine awp_seq ?_
    refine rk tt_ok [] [2, 6, 11] [] [2] [] (o0) ?_
    refine opn [(true, 4, 4, true, 384000, 4)] ?_
    refine awp_ret ?_
    exact pret [] (congrArg (fun z => (.tup [(true, [.i z.1.1, .i z.1.2.1, .b z.1.2.2.1, .i z.1.2.2.2.1, .o 0 z.1.2.2.2.2]), (false, [.b z.2])] : AV)) (show implFindFile s_ id = ((0, 0, false, 0, []), false) from bif_f h1 (rfl)).symm)
def implGetAttr_f0 (name : ByteArray) (_ : Nat) (a0 : AttrD) (_ : Unit) : Rd (ValueD) (Unit) (Unit) := (bif (a0.1.toList == name.toList) then (.ret a0.2) else (.next ()))
def implGetAttr_e0 (_ : Nat) (_ : Unit) : Unit := ()
def implGetAttr (f : FileD) (name : ByteArray) : ValueD := (Out.on (forL (implGetAttr_f0 name) implGetAttr_e0 f.2.2.2.2 0 ()) (fun _ => (0, 0, ⟨#[]⟩)))
theorem implGetAttr_a (f : FileD) (name : ByteArray) : ACalls Tryd.prog 33 [.a [.i f.1, .i f.2.1, .b f.2.2.1, .i f.2.2.2.1, .h f.2.2.2.2], .s name] (.a [.i ((implGetAttr f name).1), .i ((implGetAttr f name).2.1), .s ((implGetAttr f name).2.2)]) := by
  refine acalls_of (tt := tt) tt_ok Tryd.func33 (fn := Tryd.f33) rfl (by unfold FnOk; kernel_rfl) (Nat.le_of_ble_eq_true rfl) fun w0 F0 hG => ?_
  refine awp_seq ?_
  refine rk tt_ok [(2, .p 2 0), (4, .p 4 0)] [0] [(2, [.i f.1, .i f.2.1, .b f.2.2.1, .i f.2.2.2.1, .h f.2.2.2.2]), (4, [.i 0, .i 0, .s ⟨#[]⟩])] [] [] (o0) ?_
  refine awp_seq ?_
  refine awp_seq ?_
  refine rk tt_ok [(8, .h f.2.2.2.2), (9, .i (f.2.2.2.2.length : Int)), (10, .i 0)] [2] [] [2] [(2, .val (.i (f.2.2.2.2.length : Int)))] (o1 (ob_eq (av_len f.2.2.2.2))) ?_
  refine wdT 8 0 .sh f.2.2.2.2 (fun hw1 => ?_)
  have hl2 : List.length f.2.2.2.2 ≤ 1073741824 := wide_len (hw1)
  refine blk (fun (k0 : Nat) (s0 : Unit) => [(10, .i ((k0 : Nat) : Int))]) [10] (fun k0 s0 => []) [] (fun (y0 : Unit) => []) [1, 8, 9, 10] (fun y0 => []) [] (fun (k0 : Nat) (s0 : Unit) => (forL (implGetAttr_f0 name) implGetAttr_e0 f.2.2.2.2 0 ()) = forL (implGetAttr_f0 name) implGetAttr_e0 (List.drop k0 f.2.2.2.2) k0 s0) (fun (y0 : Unit) => (forL (implGetAttr_f0 name) implGetAttr_e0 f.2.2.2.2 0 ()) = .brk y0) f.2.2.2.2.length () (weak_fit (by kernel_rfl)) rfl (fun k0 s0 hk0 hI0 => ?_) (fun k0 s0 hk0 hI0 => ?_) (fun y0 hD0 => ?_)
  ·
    obtain ⟨a0, hx0⟩ := get_some (l := f.2.2.2.2) (i := k0) hk0
    refine awp_seq ?_
    refine rk tt_ok [(11, .b true)] [] [] [] [(0, .val (.b true))] (o1 (ob_eq (av_bool (decide_eq_true (p := ((k0 : Nat) : Int) < (f.2.2.2.2.length : Int)) (by omega))))) ?_
    refine awp_seq ?_
    refine ckT ?_
    refine awp_skip ?_
    refine awp_seq ?_
    refine awp_block ?_
    refine awp_seq ?_
    refine rk tt_ok [(6, .p 6 0)] [11] [(6, [.s a0.1, .i a0.2.1, .i a0.2.2.1, .s a0.2.2.2])] [] [(0, .row [.s a0.1, .i a0.2.1, .i a0.2.2.1, .s a0.2.2.2])] (o1 (ob_elem (el_of (i := ((k0 : Nat) : Int)) (by omega) rfl hx0))) ?_
    refine awp_seq ?_
    refine rk tt_ok [(17, .b (a0.1.toList == name.toList))] [] [] [] [] (o0) ?_
    refine ck (a0.1.toList == name.toList) (fun h3 => ?_) (fun h3 => ?_)
    ·
      refine awp_seq ?_
      refine rk tt_ok [] [6, 17] [(4, [.i a0.2.1, .i a0.2.2.1, .s a0.2.2.2])] [4, 6] [] (o0) ?_
      refine awp_ret ?_
      have hr4 : (forL (implGetAttr_f0 name) implGetAttr_e0 f.2.2.2.2 0 ()) = .ret a0.2 := forL_ret hx0 (bif_t h3 (rfl)) hI0
      exact pret [] (congrArg (fun z => (.a [.i z.1, .i z.2.1, .s z.2.2] : AV)) (show implGetAttr f name = a0.2 from on_r hr4).symm)
    ·
      refine awp_skip ?_
      refine rk tt_ok [(10, .i ((k0 + 1 : Nat) : Int))] [6, 10, 17] [] [6] [(0, .val (.i ((k0 + 1 : Nat) : Int)))] (o1 (ob_eq (av_i (wrap_succ k0 (by omega))))) ?_
      exact Exists.intro () (And.intro (weak_fit (by kernel_rfl)) (forL_next hx0 (bif_f h3 (rfl)) hI0))
  ·
    refine awp_seq ?_
    refine rk tt_ok [(11, .b false)] [] [] [] [(0, .val (.b false))] (o1 (ob_eq (av_bool (decide_eq_false (p := ((k0 : Nat) : Int) < (f.2.2.2.2.length : Int)) (by omega))))) ?_
    refine awp_seq ?_
    refine ckF ?_
    refine awp_exit ?_
    exact Exists.intro () (And.intro (weak_fit (by kernel_rfl)) (forL_end hk0 (rfl) hI0))
  ·
    refine awp_seq ?_
    refine rk tt_ok [] [] [] [] [] (o0) ?_
    refine awp_ret ?_
    exact pret [] (congrArg (fun z => (.a [.i z.1, .i z.2.1, .s z.2.2] : AV)) (show implGetAttr f name = (0, 0, ⟨#[]⟩) from on_b hD0 (rfl)).symm)
def implBaseName (f : FileD) : ByteArray := (bif ((implGetAttr f ⟨#[110]⟩).1 == (2 : Int)) then (implGetAttr f ⟨#[110]⟩).2.2 else ⟨#[102, 105, 108, 101]⟩)
theorem implBaseName_a (f : FileD) : ACalls Tryd.prog 23 [.a [.i f.1, .i f.2.1, .b f.2.2.1, .i f.2.2.2.1, .h f.2.2.2.2]] (.s (implBaseName f)) := by
  refine acalls_of (tt := tt) tt_ok Tryd.func23 (fn := Tryd.f23) rfl (by unfold FnOk; kernel_rfl) (Nat.le_of_ble_eq_true rfl) fun w0 F0 hG => ?_
  refine awp_seq ?_
  refine rk tt_ok [(1, .p 1 0), (2, .s ⟨#[]⟩)] [0] [(1, [.i f.1, .i f.2.1, .b f.2.2.1, .i f.2.2.2.1, .h f.2.2.2.2])] [] [] (o0) ?_
  refine awp_seq ?_
  refine awp_seq ?_
  refine rk tt_ok [(3, .p 3 0)] [1] [(3, [.i ((implGetAttr f ⟨#[110]⟩).1), .i ((implGetAttr f ⟨#[110]⟩).2.1), .s ((implGetAttr f ⟨#[110]⟩).2.2)])] [1] [(1, .val (.a [.i ((implGetAttr f ⟨#[110]⟩).1), .i ((implGetAttr f ⟨#[110]⟩).2.1), .s ((implGetAttr f ⟨#[110]⟩).2.2)]))] (o1 (ob_call (implGetAttr_a f ⟨#[110]⟩))) ?_
  refine awp_seq ?_
  refine rk tt_ok [(8, .b ((implGetAttr f ⟨#[110]⟩).1 == (2 : Int)))] [] [] [] [] (o0) ?_
  refine ck ((implGetAttr f ⟨#[110]⟩).1 == (2 : Int)) (fun h1 => ?_) (fun h1 => ?_)
  ·
    have h1d := eq_of_beq h1
    refine awp_seq ?_
    refine rk tt_ok [(2, .s ((implGetAttr f ⟨#[110]⟩).2.2))] [2, 3, 8] [] [3] [] (o0) ?_
    refine awp_ret ?_
    exact pret [] (congrArg (fun z => (.s z : AV)) (show implBaseName f = (implGetAttr f ⟨#[110]⟩).2.2 from bif_t h1 (rfl)).symm)
  ·
    have h1d := ne_of_beq h1
    refine awp_skip ?_
    refine awp_seq ?_
    refine rk tt_ok [(2, .s ⟨#[102, 105, 108, 101]⟩)] [2, 3, 8] [] [3] [] (o0) ?_
    refine awp_ret ?_
    exact pret [] (congrArg (fun z => (.s z : AV)) (show implBaseName f = ⟨#[102, 105, 108, 101]⟩ from bif_f h1 (rfl)).symm)
end Go.Proofs.YtceekipigpcilaaDoor
