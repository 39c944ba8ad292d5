/- What functions compute, and that they do (printed by am2.py): each function as a Lean function, then its contract. -/
import Derived.Test.YtceekipigpcilaaPla
import Derived.Test.YtceekipigpcilaaZc
import Derived.KernelRfl
set_option linter.unusedVariables false
set_option linter.unusedSimpArgs false
namespace Go.Proofs.Ytceekipigpcilaa
open Go.RowKit
open GoE (enc wide)
def lawsbig (code : (List UInt8)) : Bool := decide ((code.length : Int) > (1048576 : Int))
theorem lawsbig_a (code : (List UInt8)) : ACalls Try.prog 5 [.h code] (.b (lawsbig code)) := by
  refine acalls_of (tt := tt) tt_ok Try.func5 (fn := Try.f5) rfl (by unfold FnOk; kernel_rfl) (Nat.le_of_ble_eq_true rfl) fun w0 F0 hG => ?_
  refine awp_seq ?_
  refine rk tt_ok [(2, .b false)] [] [] [] [] (o0) ?_
  refine awp_seq ?_
  refine rk tt_ok [(2, .b (decide ((code.length : Int) > (1048576 : Int))))] [0, 2] [] [] [(1, .val (.i (code.length : Int)))] (o1 (ob_eq (av_len code))) ?_
  refine awp_ret ?_
  exact pret [] (congrArg (fun z => (.b z : AV)) (show lawsbig code = decide ((code.length : Int) > (1048576 : Int)) from rfl).symm)
def specl03Usual : (List FieldD) := [((⟨#[97]⟩, 1) : FieldD), ((⟨#[98]⟩, 1) : FieldD), ((⟨#[110]⟩, 2) : FieldD), ((⟨#[116]⟩, 2) : FieldD)]
theorem specl03Usual_a : ACalls Try.prog 20 [] (.o 0 specl03Usual) := by
  refine acalls_of (tt := tt) tt_ok Try.func20 (fn := Try.f20) rfl (by unfold FnOk; kernel_rfl) (Nat.le_of_ble_eq_true rfl) fun w0 F0 hG => ?_
  refine awp_seq ?_
  refine rk tt_ok [(0, .e 0)] [] [] [] [] (o0) ?_
  refine awp_seq ?_
  refine rk tt_ok [(0, .o 320 [((⟨#[97]⟩, 1) : FieldD), ((⟨#[98]⟩, 1) : FieldD), ((⟨#[110]⟩, 2) : FieldD), ((⟨#[116]⟩, 2) : FieldD)])] [0] [] [] [] (o0) ?_
  refine awp_ret ?_
  exact pret [] (congrArg (fun z => (.o 0 z : AV)) (show specl03Usual = [((⟨#[97]⟩, 1) : FieldD), ((⟨#[98]⟩, 1) : FieldD), ((⟨#[110]⟩, 2) : FieldD), ((⟨#[116]⟩, 2) : FieldD)] from rfl).symm)
def specDefaultSchema : (List FieldD) := specl03Usual
theorem specDefaultSchema_a : ACalls Try.prog 8 [] (.o 0 specDefaultSchema) := by
  refine acalls_of (tt := tt) tt_ok Try.func8 (fn := Try.f8) rfl (by unfold FnOk; kernel_rfl) (Nat.le_of_ble_eq_true rfl) fun w0 F0 hG => ?_
  refine awp_seq ?_
  refine rk tt_ok [(0, .e 0)] [] [] [] [] (o0) ?_
  refine awp_seq ?_
  refine rk tt_ok [(0, .o 64 specl03Usual)] [0] [] [] [(0, .val (.o 0 specl03Usual))] (o1 (ob_call (specl03Usual_a))) ?_
  refine awp_ret ?_
  exact pret [] (congrArg (fun z => (.o 0 z : AV)) (show specDefaultSchema = specl03Usual from rfl).symm)
def implNewStore (s_ : (List FieldD)) : StoreD := (s_, [], 1)
theorem implNewStore_a (s_ : (List FieldD)) : ACalls Try.prog 7 [.h s_] (.a [.o 0 ((implNewStore s_).1), .o 1 ((implNewStore s_).2.1), .i ((implNewStore s_).2.2)]) := by
  refine acalls_of (tt := tt) tt_ok Try.func7 (fn := Try.f7) rfl (by unfold FnOk; kernel_rfl) (Nat.le_of_ble_eq_true rfl) fun w0 F0 hG => ?_
  refine awp_seq ?_
  refine rk tt_ok [(2, .p 2 0)] [] [(2, [.e 2, .e 5, .i 0])] [] [] (o0) ?_
  refine awp_seq ?_
  refine rk tt_ok [] [0] [(2, [.o 256 s_, .e 5, .i 1])] [2] [(1, .val (.o 0 s_))] (o1 (ob_call (cloneField_a s_))) ?_
  refine opn [(true, 2, 1, true, 384000, 5)] ?_
  refine awp_ret ?_
  exact pret [] (congrArg (fun z => (.a [.o 0 z.1, .o 1 z.2.1, .i z.2.2] : AV)) (show implNewStore s_ = (s_, [], 1) from rfl).symm)
def implcopyFile (f : FileD) : FileD := f
theorem implcopyFile_a (f : FileD) : ACalls Try.prog 22 [.a [.i f.1, .i f.2.1, .b f.2.2.1, .i f.2.2.2.1, .h f.2.2.2.2]] (.a [.i ((implcopyFile f).1), .i ((implcopyFile f).2.1), .b ((implcopyFile f).2.2.1), .i ((implcopyFile f).2.2.2.1), .o 0 ((implcopyFile f).2.2.2.2)]) := by
  refine acalls_of (tt := tt) tt_ok Try.func22 (fn := Try.f22) rfl (by unfold FnOk; kernel_rfl) (Nat.le_of_ble_eq_true rfl) fun w0 F0 hG => ?_
  refine awp_seq ?_
  refine rk tt_ok [(1, .p 1 0), (2, .p 2 0)] [0] [(1, [.i f.1, .i f.2.1, .b f.2.2.1, .i f.2.2.2.1, .h f.2.2.2.2]), (2, [.i 0, .i 0, .b false, .i 0, .e 4])] [] [] (o0) ?_
  refine awp_seq ?_
  refine rk tt_ok [] [] [(1, [.i f.1, .i f.2.1, .b f.2.2.1, .i f.2.2.2.1, .o 320 f.2.2.2.2])] [1] [(2, .val (.o 0 f.2.2.2.2))] (o1 (ob_call (cloneAttr_a f.2.2.2.2))) ?_
  refine awp_seq ?_
  refine rk tt_ok [] [1] [(2, [.i f.1, .i f.2.1, .b f.2.2.1, .i f.2.2.2.1, .o 320 f.2.2.2.2])] [1, 2] [] (o0) ?_
  refine awp_ret ?_
  exact pret [] (congrArg (fun z => (.a [.i z.1, .i z.2.1, .b z.2.2.1, .i z.2.2.2.1, .o 0 z.2.2.2.2] : AV)) (show implcopyFile f = f from rfl).symm)
def implcopyFiles_f0 (_ : Nat) (a0 : FileD) (s0 : (List FileD)) : Rd ((List FileD)) ((List FileD)) ((List FileD)) := (.next (s0 ++ [(implcopyFile a0)]))
def implcopyFiles_e0 (_ : Nat) (s0 : (List FileD)) : (List FileD) := s0
def implcopyFiles (l : (List FileD)) : (List FileD) := (Out.on (forL implcopyFiles_f0 implcopyFiles_e0 l 0 []) (fun y0 => y0))
theorem implcopyFiles_a (l : (List FileD)) : ACalls Try.prog 34 [.h l] (.o 0 (implcopyFiles l)) := by
  refine acalls_of (tt := tt) tt_ok Try.func34 (fn := Try.f34) rfl (by unfold FnOk; kernel_rfl) (Nat.le_of_ble_eq_true rfl) fun w0 F0 hG => ?_
  refine awp_seq ?_
  refine rk tt_ok [(2, .e 0)] [] [] [] [] (o0) ?_
  refine awp_seq ?_
  refine rk tt_ok [(3, .one (.slc (.own true 384) 5 []))] [] [] [] [] (o0) ?_
  refine awp_seq ?_
  refine awp_seq ?_
  refine rk tt_ok [(7, .h l), (8, .i (l.length : Int)), (9, .i 0)] [0] [] [] [(1, .val (.i (l.length : Int)))] (o1 (ob_eq (av_len l))) ?_
  refine wdT 7 0 .sh l (fun hw1 => ?_)
  have hl2 : List.length l ≤ 1073741824 := wide_len (hw1)
  refine blk (fun (k0 : Nat) (s0 : (List FileD)) => [(3, .o 147201 s0), (9, .i ((k0 : Nat) : Int))]) [3, 9] (fun k0 s0 => []) [] (fun (y0 : (List FileD)) => [(3, .o 147351 y0)]) [3, 7, 8, 9] (fun y0 => []) [] (fun (k0 : Nat) (s0 : (List FileD)) => (forL implcopyFiles_f0 implcopyFiles_e0 l 0 []) = forL implcopyFiles_f0 implcopyFiles_e0 (List.drop k0 l) k0 s0 ∧ List.length s0 ≤ k0) (fun (y0 : (List FileD)) => (forL implcopyFiles_f0 implcopyFiles_e0 l 0 []) = .brk y0) l.length [] (weak_sf [(384, 147201)] (by kernel_rfl)) ⟨rfl, (by simp)⟩ (fun k0 s0 hk0 hI0 => ?_) (fun k0 s0 hk0 hI0 => ?_) (fun y0 hD0 => ?_)
  ·
    have hA0_0 := hI0.2
    obtain ⟨a0, hx0⟩ := get_some (l := l) (i := k0) hk0
    refine awp_seq ?_
    refine rk tt_ok [(10, .b true)] [] [] [] [(0, .val (.b true))] (o1 (ob_eq (av_bool (decide_eq_true (p := ((k0 : Nat) : Int) < (l.length : Int)) (by omega))))) ?_
    refine awp_seq ?_
    refine ckT ?_
    refine awp_skip ?_
    refine awp_seq ?_
    refine awp_block ?_
    refine awp_seq ?_
    refine rk tt_ok [(5, .p 5 0)] [10] [(5, [.i a0.1, .i a0.2.1, .b a0.2.2.1, .i a0.2.2.2.1, .h a0.2.2.2.2])] [] [(0, .row [.i a0.1, .i a0.2.1, .b a0.2.2.1, .i a0.2.2.2.1, .h a0.2.2.2.2])] (o1 (ob_elem (el_of (i := ((k0 : Nat) : Int)) (by omega) rfl hx0))) ?_
    refine wdT 3 0 (.own true 147201) s0 (fun hw3 => ?_)
    have hl4 : List.length s0 ≤ 1073741824 := wide_len (hw3)
    refine rk tt_ok [(3, .one (.slc (.own true 1088) 5 ((eL s0) ++ [[.i ((implcopyFile a0).1), .i ((implcopyFile a0).2.1), .b ((implcopyFile a0).2.2.1), .i ((implcopyFile a0).2.2.2.1), .h ((implcopyFile a0).2.2.2.2)]])))] [3, 5] [] [5] [(2, .val (.a [.i ((implcopyFile a0).1), .i ((implcopyFile a0).2.1), .b ((implcopyFile a0).2.2.1), .i ((implcopyFile a0).2.2.2.1), .o 0 ((implcopyFile a0).2.2.2.2)]))] (o2 (ob_call (implcopyFile_a a0)) (o1 (ob_len (len_of (eL_length s0) (eL_length [(implcopyFile a0)]) (by first | omega | (simp; omega) | simp))))) ?_
    refine eqn [(3, .o 1088 (s0 ++ [(implcopyFile a0)]))] [3] [] [] (by rw [show ((eL s0) ++ [[.i ((implcopyFile a0).1), .i ((implcopyFile a0).2.1), .b ((implcopyFile a0).2.2.1), .i ((implcopyFile a0).2.2.2.1), .h ((implcopyFile a0).2.2.2.2)]]) = (eL (s0 ++ [(implcopyFile a0)])) from app_eL (rfl) (rfl)]; first | done | kernel_rfl) ?_
    refine rk tt_ok [(9, .i ((k0 + 1 : Nat) : Int))] [9] [] [] [(0, .val (.i ((k0 + 1 : Nat) : Int)))] (o1 (ob_eq (av_i (wrap_succ k0 (by omega))))) ?_
    exact Exists.intro (s0 ++ [(implcopyFile a0)]) (And.intro (weak_sf [(1088, 147201)] (by kernel_rfl)) ⟨forL_next hx0 (rfl) hI0.1, by first | omega | (simp; omega) | simp⟩)
  ·
    have hA0_0 := hI0.2
    refine awp_seq ?_
    refine rk tt_ok [(10, .b false)] [] [] [] [(0, .val (.b false))] (o1 (ob_eq (av_bool (decide_eq_false (p := ((k0 : Nat) : Int) < (l.length : Int)) (by omega))))) ?_
    refine awp_seq ?_
    refine ckF ?_
    refine awp_exit ?_
    exact Exists.intro s0 (And.intro (weak_sf [(147201, 147351)] (by kernel_rfl)) (forL_end hk0 (rfl) hI0.1))
  ·
    refine awp_seq ?_
    refine rk tt_ok [(2, .o 147351 y0)] [2, 3] [] [] [] (o0) ?_
    refine awp_ret ?_
    exact pret [] (congrArg (fun z => (.o 0 z : AV)) (show implcopyFiles l = y0 from on_b hD0 (rfl)).symm)
def implcopyStore (s_ : StoreD) : StoreD := (s_.1, (implcopyFiles s_.2.1), s_.2.2)
theorem implcopyStore_a (s_ : StoreD) : ACalls Try.prog 21 [.a [.h s_.1, .h s_.2.1, .i s_.2.2]] (.a [.o 0 ((implcopyStore s_).1), .o 1 ((implcopyStore s_).2.1), .i ((implcopyStore s_).2.2)]) := by
  refine acalls_of (tt := tt) tt_ok Try.func21 (fn := Try.f21) rfl (by unfold FnOk; kernel_rfl) (Nat.le_of_ble_eq_true rfl) fun w0 F0 hG => ?_
  refine awp_seq ?_
  refine rk tt_ok [(1, .p 1 0), (2, .p 2 0)] [0] [(1, [.h s_.1, .h s_.2.1, .i s_.2.2]), (2, [.e 2, .e 5, .i 0])] [] [] (o0) ?_
  refine awp_seq ?_
  refine rd' tt_ok tt_mx [] [1] [(2, [.o 320 s_.1, .o 512 (implcopyFiles s_.2.1), .i s_.2.2])] [1, 2] [(2, .val (.o 0 s_.1)), (5, .val (.o 0 (implcopyFiles s_.2.1)))] (o2 (ob_call (cloneField_a s_.1)) (o1 (ob_call (implcopyFiles_a s_.2.1)))) ?_
  refine awp_ret ?_
  exact pret [] (congrArg (fun z => (.a [.o 0 z.1, .o 1 z.2.1, .i z.2.2] : AV)) (show implcopyStore s_ = (s_.1, (implcopyFiles s_.2.1), s_.2.2) from rfl).symm)
def implwithin (n : Int) (low : Int) (high_ : Int) : Bool := (decide (low ≤ n) && decide (n ≤ high_))
theorem implwithin_a (n : Int) (low : Int) (high_ : Int) : ACalls Try.prog 25 [.i n, .i low, .i high_] (.b (implwithin n low high_)) := by
  refine acalls_of (tt := tt) tt_ok Try.func25 (fn := Try.f25) rfl (by unfold FnOk; kernel_rfl) (Nat.le_of_ble_eq_true rfl) fun w0 F0 hG => ?_
  refine awp_seq ?_
  refine rk tt_ok [(6, .b false)] [] [] [] [] (o0) ?_
  refine awp_seq ?_
  refine jn [(6, .b (decide (low ≤ n) && decide (n ≤ high_)))] [0, 1, 2, 6] [] [] (decide (low ≤ n)) (fun h1 => ?_) (fun h1 => ?_) ?_
  ·
    have h1d := of_decide_eq_true h1
    refine rk tt_ok [(6, .b (decide (n ≤ high_)))] [0, 1, 2, 6] [] [] [(2, .val (.b true))] (o1 (ob_eq (av_bool h1))) ?_
    exact ⟨rfl, weak_fit (by rw [h1]; first | done | kernel_rfl)⟩
  ·
    have h1d := of_decide_eq_false h1
    refine rk tt_ok [] [0, 1, 2] [] [] [(2, .val (.b false))] (o1 (ob_eq (av_bool h1))) ?_
    exact ⟨rfl, weak_fit (by rw [h1]; first | done | kernel_rfl)⟩
  refine awp_ret ?_
  exact pret [] (congrArg (fun z => (.b z : AV)) (show implwithin n low high_ = (decide (low ≤ n) && decide (n ≤ high_)) from rfl).symm)
def implIsValidString_f0 (s_ : ByteArray) (k0 : Nat) (_ : Unit) : Rd (Bool) (Unit) (Unit) := (bif (decide (strAt s_ ((k0 : Nat) : Int) < (97 : Int)) || decide (strAt s_ ((k0 : Nat) : Int) > (122 : Int))) then (.ret false) else (.next ()))
def implIsValidString_e0 (_ : Nat) (_ : Unit) : Unit := ()
def implIsValidString (s_ : ByteArray) : Bool := (Out.on (forN (implIsValidString_f0 s_) implIsValidString_e0 (Int.toNat (ByteArray.size s_ : Int)) 0 ()) (fun _ => (implwithin (ByteArray.size s_ : Int) 1 6)))
theorem implIsValidString_a (s_ : ByteArray) : ACalls Try.prog 56 [.s s_] (.b (implIsValidString s_)) := by
  refine acalls_of (tt := tt) tt_ok Try.func56 (fn := Try.f56) rfl (by unfold FnOk; kernel_rfl) (Nat.le_of_ble_eq_true rfl) fun w0 F0 hG => ?_
  refine awp_seq ?_
  refine rk tt_ok [(2, .b false)] [] [] [] [] (o0) ?_
  refine awp_seq ?_
  refine awp_seq ?_
  refine rk tt_ok [(5, .i (ByteArray.size s_ : Int)), (6, .i 0)] [] [] [] [] (o0) ?_
  refine stT 0 0 s_ (fun hs1 => ?_)
  refine blk (fun (k0 : Nat) (s0 : Unit) => [(6, .i ((k0 : Nat) : Int))]) [6] (fun k0 s0 => []) [] (fun (y0 : Unit) => []) [5, 6] (fun y0 => []) [] (fun (k0 : Nat) (s0 : Unit) => (forN (implIsValidString_f0 s_) implIsValidString_e0 (Int.toNat (ByteArray.size s_ : Int)) 0 ()) = forN (implIsValidString_f0 s_) implIsValidString_e0 ((Int.toNat (ByteArray.size s_ : Int)) - k0) k0 s0) (fun (y0 : Unit) => (forN (implIsValidString_f0 s_) implIsValidString_e0 (Int.toNat (ByteArray.size s_ : Int)) 0 ()) = .brk y0) (Int.toNat (ByteArray.size s_ : Int)) () (weak_fit (by kernel_rfl)) rfl (fun k0 s0 hk0 hI0 => ?_) (fun k0 s0 hk0 hI0 => ?_) (fun y0 hD0 => ?_)
  ·
    refine awp_seq ?_
    refine rk tt_ok [(7, .b true)] [] [] [] [(0, .val (.b true))] (o1 (ob_eq (av_bool (decide_eq_true (p := ((k0 : Nat) : Int) < (ByteArray.size s_ : Int)) (by omega))))) ?_
    refine awp_seq ?_
    refine ckT ?_
    refine awp_skip ?_
    refine awp_seq ?_
    refine awp_block ?_
    refine awp_seq ?_
    refine rk tt_ok [(3, .i ((k0 : Nat) : Int))] [7] [] [] [] (o0) ?_
    refine awp_seq ?_
    refine jn [(18, .b (decide (strAt s_ ((k0 : Nat) : Int) < (97 : Int)) || decide (strAt s_ ((k0 : Nat) : Int) > (122 : Int))))] [3] [] [] (decide (strAt s_ ((k0 : Nat) : Int) < (97 : Int))) (fun h2 => ?_) (fun h2 => ?_) ?_
    ·
      have h2d := of_decide_eq_true h2
      refine rk tt_ok [(18, .b true)] [3] [] [] [(3, .val (.b true))] (o2 (ob_idx (i := ((k0 : Nat) : Int)) (n := (ByteArray.size s_)) (by omega)) (o1 (ob_eq (av_bool h2)))) ?_
      exact ⟨rfl, weak_fit (by rw [h2]; first | done | kernel_rfl)⟩
    ·
      have h2d := of_decide_eq_false h2
      refine rk tt_ok [(18, .b (decide (strAt s_ ((k0 : Nat) : Int) > (122 : Int))))] [3] [] [] [(3, .val (.b false))] (o2 (ob_idx (i := ((k0 : Nat) : Int)) (n := (ByteArray.size s_)) (by omega)) (o2 (ob_eq (av_bool h2)) (o1 (ob_idx (i := ((k0 : Nat) : Int)) (n := (ByteArray.size s_)) (by omega))))) ?_
      exact ⟨rfl, weak_fit (by rw [h2]; first | done | kernel_rfl)⟩
    refine ck (decide (strAt s_ ((k0 : Nat) : Int) < (97 : Int)) || decide (strAt s_ ((k0 : Nat) : Int) > (122 : Int))) (fun h3 => ?_) (fun h3 => ?_)
    ·
      refine awp_seq ?_
      refine rk tt_ok [] [18] [] [] [] (o0) ?_
      refine awp_ret ?_
      have hr4 : (forN (implIsValidString_f0 s_) implIsValidString_e0 (Int.toNat (ByteArray.size s_ : Int)) 0 ()) = .ret false := forN_ret hk0 (bif_t h3 (rfl)) hI0
      exact pret [] (congrArg (fun z => (.b z : AV)) (show implIsValidString s_ = false from on_r hr4).symm)
    ·
      have h3l : (decide (strAt s_ ((k0 : Nat) : Int) < (97 : Int))) = false := or_l h3
      have h3ld := of_decide_eq_false h3l
      have h3r : (decide (strAt s_ ((k0 : Nat) : Int) > (122 : Int))) = false := or_r h3
      have h3rd := of_decide_eq_false h3r
      refine awp_skip ?_
      refine rk tt_ok [(6, .i ((k0 + 1 : Nat) : Int))] [6, 18] [] [] [(0, .val (.i ((k0 + 1 : Nat) : Int)))] (o1 (ob_eq (av_i (wrap_succ k0 (by omega))))) ?_
      exact Exists.intro () (And.intro (weak_fit (by kernel_rfl)) (forN_next hk0 (bif_f h3 (rfl)) hI0))
  ·
    refine awp_seq ?_
    refine rk tt_ok [(7, .b false)] [] [] [] [(0, .val (.b false))] (o1 (ob_eq (av_bool (decide_eq_false (p := ((k0 : Nat) : Int) < (ByteArray.size s_ : Int)) (by omega))))) ?_
    refine awp_seq ?_
    refine ckF ?_
    refine awp_exit ?_
    exact Exists.intro () (And.intro (weak_fit (by kernel_rfl)) (forN_end hk0 (rfl) hI0))
  ·
    refine awp_seq ?_
    refine rk tt_ok [(2, .b (implwithin (ByteArray.size s_ : Int) 1 6))] [0, 2] [] [] [(2, .val (.b (implwithin (ByteArray.size s_ : Int) 1 6)))] (o1 (ob_call (implwithin_a (ByteArray.size s_ : Int) 1 6))) ?_
    refine awp_ret ?_
    exact pret [] (congrArg (fun z => (.b z : AV)) (show implIsValidString s_ = (implwithin (ByteArray.size s_ : Int) 1 6) from on_b hD0 (rfl)).symm)
def implIsValidValue (v : ValueD) : Bool := (bif (v.1 == (0 : Int)) then ((v.1 == 0) && ((v.2.1 == 0) && ((v.2.2.toList == (⟨#[]⟩ : ByteArray).toList) && true))) else (bif (v.1 == (1 : Int)) then ((implwithin v.2.1 0 999) && (v.2.2.toList == (⟨#[]⟩ : ByteArray).toList)) else (bif (v.1 == (2 : Int)) then ((implIsValidString v.2.2) && (v.2.1 == (0 : Int))) else false)))
theorem implIsValidValue_a (v : ValueD) : ACalls Try.prog 46 [.a [.i v.1, .i v.2.1, .s v.2.2]] (.b (implIsValidValue v)) := by
  refine acalls_of (tt := tt) tt_ok Try.func46 (fn := Try.f46) rfl (by unfold FnOk; kernel_rfl) (Nat.le_of_ble_eq_true rfl) fun w0 F0 hG => ?_
  refine awp_seq ?_
  refine rk tt_ok [(1, .p 1 0), (2, .b false)] [0] [(1, [.i v.1, .i v.2.1, .s v.2.2])] [] [] (o0) ?_
  refine awp_seq ?_
  refine awp_seq ?_
  refine rk tt_ok [(4, .i v.1)] [] [] [] [] (o0) ?_
  refine awp_block ?_
  refine awp_seq ?_
  refine rk tt_ok [(5, .b (v.1 == (0 : Int)))] [] [] [] [] (o0) ?_
  refine ck (v.1 == (0 : Int)) (fun h1 => ?_) (fun h1 => ?_)
  ·
    have h1d := eq_of_beq h1
    refine awp_seq ?_
    refine rk tt_ok [(2, .b ((v.1 == 0) && ((v.2.1 == 0) && ((v.2.2.toList == (⟨#[]⟩ : ByteArray).toList) && true))))] [1, 2, 4, 5] [] [1] [] (o0) ?_
    refine awp_ret ?_
    exact pret [] (congrArg (fun z => (.b z : AV)) (show implIsValidValue v = ((v.1 == 0) && ((v.2.1 == 0) && ((v.2.2.toList == (⟨#[]⟩ : ByteArray).toList) && true))) from bif_t h1 (rfl)).symm)
  ·
    have h1d := ne_of_beq h1
    refine awp_seq ?_
    refine rk tt_ok [(10, .b (v.1 == (1 : Int)))] [5] [] [] [] (o0) ?_
    refine ck (v.1 == (1 : Int)) (fun h2 => ?_) (fun h2 => ?_)
    ·
      have h2d := eq_of_beq h2
      refine awp_seq ?_
      refine jn [(2, .b ((implwithin v.2.1 0 999) && (v.2.2.toList == (⟨#[]⟩ : ByteArray).toList)))] [1, 2, 4, 10] [] [1] (implwithin v.2.1 0 999) (fun h3 => ?_) (fun h3 => ?_) ?_
      ·
        refine rk tt_ok [(2, .b (v.2.2.toList == (⟨#[]⟩ : ByteArray).toList))] [1, 2, 4, 10] [] [1] [(2, .val (.b true))] (o1 (ob_call (cb h3 (implwithin_a v.2.1 0 999)))) ?_
        exact ⟨rfl, weak_fit (by rw [h3]; first | done | kernel_rfl)⟩
      ·
        refine rk tt_ok [] [1, 4, 10] [] [1] [(2, .val (.b false))] (o1 (ob_call (cb h3 (implwithin_a v.2.1 0 999)))) ?_
        exact ⟨rfl, weak_fit (by rw [h3]; first | done | kernel_rfl)⟩
      refine awp_ret ?_
      exact pret [] (congrArg (fun z => (.b z : AV)) (show implIsValidValue v = ((implwithin v.2.1 0 999) && (v.2.2.toList == (⟨#[]⟩ : ByteArray).toList)) from bif_f h1 (bif_t h2 (rfl))).symm)
    ·
      have h2d := ne_of_beq h2
      refine awp_seq ?_
      refine rk tt_ok [(20, .b (v.1 == (2 : Int)))] [4, 10] [] [] [] (o0) ?_
      refine ck (v.1 == (2 : Int)) (fun h4 => ?_) (fun h4 => ?_)
      ·
        have h4d := eq_of_beq h4
        refine awp_seq ?_
        refine jn [(2, .b ((implIsValidString v.2.2) && (v.2.1 == (0 : Int))))] [1, 2, 20] [] [1] (implIsValidString v.2.2) (fun h5 => ?_) (fun h5 => ?_) ?_
        ·
          refine rk tt_ok [(2, .b (v.2.1 == (0 : Int)))] [1, 2, 20] [] [1] [(2, .val (.b true))] (o1 (ob_call (cb h5 (implIsValidString_a v.2.2)))) ?_
          exact ⟨rfl, weak_fit (by rw [h5]; first | done | kernel_rfl)⟩
        ·
          refine rk tt_ok [] [1, 20] [] [1] [(2, .val (.b false))] (o1 (ob_call (cb h5 (implIsValidString_a v.2.2)))) ?_
          exact ⟨rfl, weak_fit (by rw [h5]; first | done | kernel_rfl)⟩
        refine awp_ret ?_
        exact pret [] (congrArg (fun z => (.b z : AV)) (show implIsValidValue v = ((implIsValidString v.2.2) && (v.2.1 == (0 : Int))) from bif_f h1 (bif_f h2 (bif_t h4 (rfl)))).symm)
      ·
        have h4d := ne_of_beq h4
        refine awp_skip ?_
        refine awp_seq ?_
        refine rk tt_ok [] [1, 20] [] [1] [] (o0) ?_
        refine awp_ret ?_
        exact pret [] (congrArg (fun z => (.b z : AV)) (show implIsValidValue v = false from bif_f h1 (bif_f h2 (bif_f h4 (rfl)))).symm)
def implFieldKind_f0 (name : ByteArray) (_ : Nat) (a0 : FieldD) (_ : Unit) : Rd (Int) (Unit) (Unit) := (bif (a0.1.toList == name.toList) then (.ret a0.2) else (.next ()))
def implFieldKind_e0 (_ : Nat) (_ : Unit) : Unit := ()
def implFieldKind (s_ : (List FieldD)) (name : ByteArray) : Int := (Out.on (forL (implFieldKind_f0 name) implFieldKind_e0 s_ 0 ()) (fun _ => 0))
theorem implFieldKind_a (s_ : (List FieldD)) (name : ByteArray) : ACalls Try.prog 47 [.h s_, .s name] (.i (implFieldKind s_ name)) := by
  refine acalls_of (tt := tt) tt_ok Try.func47 (fn := Try.f47) rfl (by unfold FnOk; kernel_rfl) (Nat.le_of_ble_eq_true rfl) fun w0 F0 hG => ?_
  refine awp_seq ?_
  refine rk tt_ok [(4, .i 0)] [] [] [] [] (o0) ?_
  refine awp_seq ?_
  refine awp_seq ?_
  refine rk tt_ok [(7, .h s_), (8, .i (s_.length : Int)), (9, .i 0)] [0] [] [] [(1, .val (.i (s_.length : Int)))] (o1 (ob_eq (av_len s_))) ?_
  refine wdT 7 0 .sh s_ (fun hw1 => ?_)
  have hl2 : List.length s_ ≤ 1073741824 := wide_len (hw1)
  refine blk (fun (k0 : Nat) (s0 : Unit) => [(9, .i ((k0 : Nat) : Int))]) [9] (fun k0 s0 => []) [] (fun (y0 : Unit) => []) [1, 7, 8, 9] (fun y0 => []) [] (fun (k0 : Nat) (s0 : Unit) => (forL (implFieldKind_f0 name) implFieldKind_e0 s_ 0 ()) = forL (implFieldKind_f0 name) implFieldKind_e0 (List.drop k0 s_) k0 s0) (fun (y0 : Unit) => (forL (implFieldKind_f0 name) implFieldKind_e0 s_ 0 ()) = .brk y0) s_.length () (weak_fit (by kernel_rfl)) rfl (fun k0 s0 hk0 hI0 => ?_) (fun k0 s0 hk0 hI0 => ?_) (fun y0 hD0 => ?_)
  ·
    obtain ⟨a0, hx0⟩ := get_some (l := s_) (i := k0) hk0
    refine awp_seq ?_
    refine rk tt_ok [(10, .b true)] [] [] [] [(0, .val (.b true))] (o1 (ob_eq (av_bool (decide_eq_true (p := ((k0 : Nat) : Int) < (s_.length : Int)) (by omega))))) ?_
    refine awp_seq ?_
    refine ckT ?_
    refine awp_skip ?_
    refine awp_seq ?_
    refine awp_block ?_
    refine awp_seq ?_
    refine rk tt_ok [(6, .p 6 0)] [10] [(6, [.s a0.1, .i a0.2])] [] [(0, .row [.s a0.1, .i a0.2])] (o1 (ob_elem (el_of (i := ((k0 : Nat) : Int)) (by omega) rfl hx0))) ?_
    refine awp_seq ?_
    refine rk tt_ok [(16, .b (a0.1.toList == name.toList))] [] [] [] [] (o0) ?_
    refine ck (a0.1.toList == name.toList) (fun h3 => ?_) (fun h3 => ?_)
    ·
      refine awp_seq ?_
      refine rk tt_ok [(4, .i a0.2)] [4, 6, 16] [] [6] [] (o0) ?_
      refine awp_ret ?_
      have hr4 : (forL (implFieldKind_f0 name) implFieldKind_e0 s_ 0 ()) = .ret a0.2 := forL_ret hx0 (bif_t h3 (rfl)) hI0
      exact pret [] (congrArg (fun z => (.i z : AV)) (show implFieldKind s_ name = a0.2 from on_r hr4).symm)
    ·
      refine awp_skip ?_
      refine rk tt_ok [(9, .i ((k0 + 1 : Nat) : Int))] [6, 9, 16] [] [6] [(0, .val (.i ((k0 + 1 : Nat) : Int)))] (o1 (ob_eq (av_i (wrap_succ k0 (by omega))))) ?_
      exact Exists.intro () (And.intro (weak_fit (by kernel_rfl)) (forL_next hx0 (bif_f h3 (rfl)) hI0))
  ·
    refine awp_seq ?_
    refine rk tt_ok [(10, .b false)] [] [] [] [(0, .val (.b false))] (o1 (ob_eq (av_bool (decide_eq_false (p := ((k0 : Nat) : Int) < (s_.length : Int)) (by omega))))) ?_
    refine awp_seq ?_
    refine ckF ?_
    refine awp_exit ?_
    exact Exists.intro () (And.intro (weak_fit (by kernel_rfl)) (forL_end hk0 (rfl) hI0))
  ·
    refine awp_seq ?_
    refine rk tt_ok [] [] [] [] [] (o0) ?_
    refine awp_ret ?_
    exact pret [] (congrArg (fun z => (.i z : AV)) (show implFieldKind s_ name = 0 from on_b hD0 (rfl)).symm)
def implMatchesSchema (s_ : (List FieldD)) (name : ByteArray) (v : ValueD) : Bool := ((implIsValidValue v) && ((v.1 != (0 : Int)) && (v.1 == (implFieldKind s_ name))))
theorem implMatchesSchema_a (s_ : (List FieldD)) (name : ByteArray) (v : ValueD) : ACalls Try.prog 36 [.h s_, .s name, .a [.i v.1, .i v.2.1, .s v.2.2]] (.b (implMatchesSchema s_ name v)) := by
  refine acalls_of (tt := tt) tt_ok Try.func36 (fn := Try.f36) rfl (by unfold FnOk; kernel_rfl) (Nat.le_of_ble_eq_true rfl) fun w0 F0 hG => ?_
  refine awp_seq ?_
  refine rk tt_ok [(5, .p 5 0), (6, .b false)] [2] [(5, [.i v.1, .i v.2.1, .s v.2.2])] [] [] (o0) ?_
  refine awp_seq ?_
  refine jn [(6, .b ((implIsValidValue v) && ((v.1 != (0 : Int)) && (v.1 == (implFieldKind s_ name)))))] [0, 1, 5, 6] [] [5] (implIsValidValue v) (fun h1 => ?_) (fun h1 => ?_) ?_
  ·
    refine awp_split (v.1 != (0 : Int)) (fun h2 => ?_) (fun h2 => ?_)
    ·
      have h2d := ne_of_bne h2
      refine rd' tt_ok tt_mx [(6, .b (v.1 == (implFieldKind s_ name)))] [0, 1, 5, 6] [] [5] [(1, .val (.b true)), (5, .val (.b true)), (12, .val (.i (implFieldKind s_ name)))] (o2 (ob_call (cb h1 (implIsValidValue_a v))) (o2 (ob_eq (av_bool h2)) (o1 (ob_call (implFieldKind_a s_ name))))) ?_
      exact ⟨rfl, weak_fit (by rw [h1, h2]; first | done | kernel_rfl)⟩
    ·
      have h2d := eq_of_bne h2
      refine rd' tt_ok tt_mx [] [0, 1, 5] [] [5] [(1, .val (.b true)), (5, .val (.b false))] (o2 (ob_call (cb h1 (implIsValidValue_a v))) (o1 (ob_eq (av_bool h2)))) ?_
      exact ⟨rfl, weak_fit (by rw [h1, h2]; first | done | kernel_rfl)⟩
  ·
    refine rd' tt_ok tt_mx [] [0, 1, 5] [] [5] [(1, .val (.b false))] (o1 (ob_call (cb h1 (implIsValidValue_a v)))) ?_
    exact ⟨rfl, weak_fit (by rw [h1]; first | done | kernel_rfl)⟩
  refine awp_ret ?_
  exact pret [] (congrArg (fun z => (.b z : AV)) (show implMatchesSchema s_ name v = ((implIsValidValue v) && ((v.1 != (0 : Int)) && (v.1 == (implFieldKind s_ name)))) from rfl).symm)
def implisUser (n : Int) : Bool := (implwithin n 0 2)
theorem implisUser_a (n : Int) : ACalls Try.prog 37 [.i n] (.b (implisUser n)) := by
  refine acalls_of (tt := tt) tt_ok Try.func37 (fn := Try.f37) rfl (by unfold FnOk; kernel_rfl) (Nat.le_of_ble_eq_true rfl) fun w0 F0 hG => ?_
  refine awp_seq ?_
  refine rk tt_ok [(2, .b false)] [] [] [] [] (o0) ?_
  refine awp_seq ?_
  refine rk tt_ok [(2, .b (implwithin n 0 2))] [0, 2] [] [] [(1, .val (.b (implwithin n 0 2)))] (o1 (ob_call (implwithin_a n 0 2))) ?_
  refine awp_ret ?_
  exact pret [] (congrArg (fun z => (.b z : AV)) (show implisUser n = (implwithin n 0 2) from rfl).symm)
def implIsValidAttrName (s_ : ByteArray) : Bool := (((ByteArray.size s_ : Int) == (1 : Int)) && (decide (strAt s_ 0 ≥ (97 : Int)) && decide (strAt s_ 0 ≤ (122 : Int))))
theorem implIsValidAttrName_a (s_ : ByteArray) : ACalls Try.prog 38 [.s s_] (.b (implIsValidAttrName s_)) := by
  refine acalls_of (tt := tt) tt_ok Try.func38 (fn := Try.f38) rfl (by unfold FnOk; kernel_rfl) (Nat.le_of_ble_eq_true rfl) fun w0 F0 hG => ?_
  refine awp_seq ?_
  refine rk tt_ok [(2, .b false)] [] [] [] [] (o0) ?_
  refine awp_seq ?_
  refine jn [(2, .b (((ByteArray.size s_ : Int) == (1 : Int)) && (decide (strAt s_ 0 ≥ (97 : Int)) && decide (strAt s_ 0 ≤ (122 : Int)))))] [0, 2] [] [] ((ByteArray.size s_ : Int) == (1 : Int)) (fun h1 => ?_) (fun h1 => ?_) ?_
  ·
    have h1d := eq_of_beq h1
    refine awp_split (decide (strAt s_ 0 ≥ (97 : Int))) (fun h2 => ?_) (fun h2 => ?_)
    ·
      have h2d := of_decide_eq_true h2
      refine rk tt_ok [(2, .b (decide (strAt s_ 0 ≤ (122 : Int))))] [0, 2] [] [] [(2, .val (.b true)), (6, .val (.b true))] (o2 (ob_eq (av_bool h1)) (o2 (ob_idx (i := 0) (n := (ByteArray.size s_)) (by omega)) (o2 (ob_eq (av_bool h2)) (o1 (ob_idx (i := 0) (n := (ByteArray.size s_)) (by omega)))))) ?_
      exact ⟨rfl, weak_fit (by rw [h1, h2]; first | done | kernel_rfl)⟩
    ·
      have h2d := of_decide_eq_false h2
      refine rk tt_ok [] [0] [] [] [(2, .val (.b true)), (6, .val (.b false))] (o2 (ob_eq (av_bool h1)) (o2 (ob_idx (i := 0) (n := (ByteArray.size s_)) (by omega)) (o1 (ob_eq (av_bool h2))))) ?_
      exact ⟨rfl, weak_fit (by rw [h1, h2]; first | done | kernel_rfl)⟩
  ·
    have h1d := ne_of_beq h1
    refine rk tt_ok [] [0] [] [] [(2, .val (.b false))] (o1 (ob_eq (av_bool h1))) ?_
    exact ⟨rfl, weak_fit (by rw [h1]; first | done | kernel_rfl)⟩
  refine awp_ret ?_
  exact pret [] (congrArg (fun z => (.b z : AV)) (show implIsValidAttrName s_ = (((ByteArray.size s_ : Int) == (1 : Int)) && (decide (strAt s_ 0 ≥ (97 : Int)) && decide (strAt s_ 0 ≤ (122 : Int)))) from rfl).symm)
def implIsValidSchema_f0 (s_ : (List FieldD)) (k0 : Nat) (a0 : FieldD) (_ : Unit) : Rd (Bool) (Unit) (Unit) := (bif ((!(implIsValidAttrName a0.1)) || (bif (a0.2 != (1 : Int)) then ((a0.2 != (2 : Int)) || (decide (((k0 : Nat) : Int) > (0 : Int)) && (!(Op.bytesLess ((nth s_ (Int.toNat (((k0 : Nat) : Int) - 1))).1).toList a0.1.toList)))) else (decide (((k0 : Nat) : Int) > (0 : Int)) && (!(Op.bytesLess ((nth s_ (Int.toNat (((k0 : Nat) : Int) - 1))).1).toList a0.1.toList))))) then (.ret false) else (.next ()))
def implIsValidSchema_e0 (_ : Nat) (_ : Unit) : Unit := ()
def implIsValidSchema (s_ : (List FieldD)) : Bool := (Out.on (forL (implIsValidSchema_f0 s_) implIsValidSchema_e0 s_ 0 ()) (fun _ => decide ((s_.length : Int) ≤ (5 : Int))))
theorem implIsValidSchema_a (s_ : (List FieldD)) : ACalls Try.prog 24 [.h s_] (.b (implIsValidSchema s_)) := by
  refine acalls_of (tt := tt) tt_ok Try.func24 (fn := Try.f24) rfl (by unfold FnOk; kernel_rfl) (Nat.le_of_ble_eq_true rfl) fun w0 F0 hG => ?_
  refine awp_seq ?_
  refine rk tt_ok [(2, .b false)] [] [] [] [] (o0) ?_
  refine awp_seq ?_
  refine awp_seq ?_
  refine rk tt_ok [(5, .h s_), (6, .i (s_.length : Int)), (7, .i 0)] [] [] [] [(1, .val (.i (s_.length : Int)))] (o1 (ob_eq (av_len s_))) ?_
  refine wdT 0 0 .sh s_ (fun hw1 => ?_)
  have hl2 : List.length s_ ≤ 1073741824 := wide_len (hw1)
  refine blk (fun (k0 : Nat) (s0 : Unit) => [(7, .i ((k0 : Nat) : Int))]) [7] (fun k0 s0 => []) [] (fun (y0 : Unit) => []) [5, 6, 7] (fun y0 => []) [] (fun (k0 : Nat) (s0 : Unit) => (forL (implIsValidSchema_f0 s_) implIsValidSchema_e0 s_ 0 ()) = forL (implIsValidSchema_f0 s_) implIsValidSchema_e0 (List.drop k0 s_) k0 s0) (fun (y0 : Unit) => (forL (implIsValidSchema_f0 s_) implIsValidSchema_e0 s_ 0 ()) = .brk y0) s_.length () (weak_fit (by kernel_rfl)) rfl (fun k0 s0 hk0 hI0 => ?_) (fun k0 s0 hk0 hI0 => ?_) (fun y0 hD0 => ?_)
  ·
    obtain ⟨a0, hx0⟩ := get_some (l := s_) (i := k0) hk0
    refine awp_seq ?_
    refine rk tt_ok [(8, .b true)] [] [] [] [(0, .val (.b true))] (o1 (ob_eq (av_bool (decide_eq_true (p := ((k0 : Nat) : Int) < (s_.length : Int)) (by omega))))) ?_
    refine awp_seq ?_
    refine ckT ?_
    refine awp_skip ?_
    refine awp_seq ?_
    refine awp_block ?_
    refine awp_seq ?_
    refine rk tt_ok [(3, .i ((k0 : Nat) : Int)), (4, .p 4 0)] [8] [(4, [.s a0.1, .i a0.2])] [] [(1, .row [.s a0.1, .i a0.2])] (o1 (ob_elem (el_of (i := ((k0 : Nat) : Int)) (by omega) rfl hx0))) ?_
    refine awp_seq ?_
    refine jn [(40, .b ((!(implIsValidAttrName a0.1)) || (bif (a0.2 != (1 : Int)) then ((a0.2 != (2 : Int)) || (decide (((k0 : Nat) : Int) > (0 : Int)) && (!(Op.bytesLess ((nth s_ (Int.toNat (((k0 : Nat) : Int) - 1))).1).toList a0.1.toList)))) else (decide (((k0 : Nat) : Int) > (0 : Int)) && (!(Op.bytesLess ((nth s_ (Int.toNat (((k0 : Nat) : Int) - 1))).1).toList a0.1.toList))))))] [3, 4] [] [4] (!(implIsValidAttrName a0.1)) (fun h3 => ?_) (fun h3 => ?_) ?_
    ·
      have h3n : (implIsValidAttrName a0.1) = false := bnot_t h3
      refine rd' tt_ok tt_mx [(40, .b true)] [3, 4] [] [4] [(2, .val (.b false)), (3, .val (.b true))] (o2 (ob_call (cb h3n (implIsValidAttrName_a a0.1))) (o1 (ob_eq (show .b (!false) = .b true from rfl)))) ?_
      exact ⟨rfl, weak_fit (by rw [h3]; first | done | kernel_rfl)⟩
    ·
      have h3n : (implIsValidAttrName a0.1) = true := bnot_f h3
      refine awp_split (a0.2 != (1 : Int)) (fun h4 => ?_) (fun h4 => ?_)
      ·
        have h4d := ne_of_bne h4
        refine awp_split (a0.2 != (2 : Int)) (fun h5 => ?_) (fun h5 => ?_)
        ·
          have h5d := ne_of_bne h5
          refine rd' tt_ok tt_mx [(40, .b true)] [3, 4] [] [4] [(2, .val (.b true)), (3, .val (.b false)), (7, .val (.b true)), (11, .val (.b true))] (o2 (ob_call (cb h3n (implIsValidAttrName_a a0.1))) (o2 (ob_eq (show .b (!true) = .b false from rfl)) (o2 (ob_eq (av_bool h4)) (o1 (ob_eq (av_bool h5)))))) ?_
          exact ⟨rfl, weak_fit (by rw [h3, h4, h5]; first | done | kernel_rfl)⟩
        ·
          have h5d := eq_of_bne h5
          refine awp_split (decide (((k0 : Nat) : Int) > (0 : Int))) (fun h6 => ?_) (fun h6 => ?_)
          ·
            have h6d := of_decide_eq_true h6
            have hx7 : s_[(Int.toNat (((k0 : Nat) : Int) - 1))]? = some (nth s_ (Int.toNat (((k0 : Nat) : Int) - 1))) := nth_get (by omega)
            refine rd' tt_ok tt_mx [(40, .b (!(Op.bytesLess ((nth s_ (Int.toNat (((k0 : Nat) : Int) - 1))).1).toList a0.1.toList)))] [3, 4] [] [4] [(2, .val (.b true)), (3, .val (.b false)), (7, .val (.b true)), (11, .val (.b false)), (16, .val (.b true)), (20, .val (.i (((k0 : Nat) : Int) - 1))), (21, .row [.s ((nth s_ (Int.toNat (((k0 : Nat) : Int) - 1))).1), .i ((nth s_ (Int.toNat (((k0 : Nat) : Int) - 1))).2)])] (o2 (ob_call (cb h3n (implIsValidAttrName_a a0.1))) (o2 (ob_eq (show .b (!true) = .b false from rfl)) (o2 (ob_eq (av_bool h4)) (o2 (ob_eq (av_bool h5)) (o2 (ob_eq (av_bool h6)) (o2 (ob_eq (av_i (IntWalk.i64_in (((k0 : Nat) : Int) - 1) (by omega)))) (o1 (ob_elem (el_of (i := (((k0 : Nat) : Int) - 1)) (by omega) rfl hx7))))))))) ?_
            exact ⟨rfl, weak_fit (by rw [h3, h4, h5, h6]; first | done | kernel_rfl)⟩
          ·
            have h6d := of_decide_eq_false h6
            refine rd' tt_ok tt_mx [(40, .b false)] [3, 4] [] [4] [(2, .val (.b true)), (3, .val (.b false)), (7, .val (.b true)), (11, .val (.b false)), (16, .val (.b false))] (o2 (ob_call (cb h3n (implIsValidAttrName_a a0.1))) (o2 (ob_eq (show .b (!true) = .b false from rfl)) (o2 (ob_eq (av_bool h4)) (o2 (ob_eq (av_bool h5)) (o1 (ob_eq (av_bool h6))))))) ?_
            exact ⟨rfl, weak_fit (by rw [h3, h4, h5, h6]; first | done | kernel_rfl)⟩
      ·
        have h4d := eq_of_bne h4
        refine awp_split (decide (((k0 : Nat) : Int) > (0 : Int))) (fun h8 => ?_) (fun h8 => ?_)
        ·
          have h8d := of_decide_eq_true h8
          have hx9 : s_[(Int.toNat (((k0 : Nat) : Int) - 1))]? = some (nth s_ (Int.toNat (((k0 : Nat) : Int) - 1))) := nth_get (by omega)
          refine rd' tt_ok tt_mx [(40, .b (!(Op.bytesLess ((nth s_ (Int.toNat (((k0 : Nat) : Int) - 1))).1).toList a0.1.toList)))] [3, 4] [] [4] [(2, .val (.b true)), (3, .val (.b false)), (7, .val (.b false)), (16, .val (.b true)), (20, .val (.i (((k0 : Nat) : Int) - 1))), (21, .row [.s ((nth s_ (Int.toNat (((k0 : Nat) : Int) - 1))).1), .i ((nth s_ (Int.toNat (((k0 : Nat) : Int) - 1))).2)])] (o2 (ob_call (cb h3n (implIsValidAttrName_a a0.1))) (o2 (ob_eq (show .b (!true) = .b false from rfl)) (o2 (ob_eq (av_bool h4)) (o2 (ob_eq (av_bool h8)) (o2 (ob_eq (av_i (IntWalk.i64_in (((k0 : Nat) : Int) - 1) (by omega)))) (o1 (ob_elem (el_of (i := (((k0 : Nat) : Int) - 1)) (by omega) rfl hx9)))))))) ?_
          exact ⟨rfl, weak_fit (by rw [h3, h4, h8]; first | done | kernel_rfl)⟩
        ·
          have h8d := of_decide_eq_false h8
          refine rd' tt_ok tt_mx [(40, .b false)] [3, 4] [] [4] [(2, .val (.b true)), (3, .val (.b false)), (7, .val (.b false)), (16, .val (.b false))] (o2 (ob_call (cb h3n (implIsValidAttrName_a a0.1))) (o2 (ob_eq (show .b (!true) = .b false from rfl)) (o2 (ob_eq (av_bool h4)) (o1 (ob_eq (av_bool h8)))))) ?_
          exact ⟨rfl, weak_fit (by rw [h3, h4, h8]; first | done | kernel_rfl)⟩
    refine ck ((!(implIsValidAttrName a0.1)) || (bif (a0.2 != (1 : Int)) then ((a0.2 != (2 : Int)) || (decide (((k0 : Nat) : Int) > (0 : Int)) && (!(Op.bytesLess ((nth s_ (Int.toNat (((k0 : Nat) : Int) - 1))).1).toList a0.1.toList)))) else (decide (((k0 : Nat) : Int) > (0 : Int)) && (!(Op.bytesLess ((nth s_ (Int.toNat (((k0 : Nat) : Int) - 1))).1).toList a0.1.toList))))) (fun h10 => ?_) (fun h10 => ?_)
    ·
      refine awp_seq ?_
      refine rk tt_ok [] [40] [] [] [] (o0) ?_
      refine awp_ret ?_
      have hr11 : (forL (implIsValidSchema_f0 s_) implIsValidSchema_e0 s_ 0 ()) = .ret false := forL_ret hx0 (bif_t h10 (rfl)) hI0
      exact pret [] (congrArg (fun z => (.b z : AV)) (show implIsValidSchema s_ = false from on_r hr11).symm)
    ·
      have h10l : ((!(implIsValidAttrName a0.1))) = false := or_l h10
      have h10ln : (implIsValidAttrName a0.1) = true := bnot_f h10l
      have h10r : ((bif (a0.2 != (1 : Int)) then ((a0.2 != (2 : Int)) || (decide (((k0 : Nat) : Int) > (0 : Int)) && (!(Op.bytesLess ((nth s_ (Int.toNat (((k0 : Nat) : Int) - 1))).1).toList a0.1.toList)))) else (decide (((k0 : Nat) : Int) > (0 : Int)) && (!(Op.bytesLess ((nth s_ (Int.toNat (((k0 : Nat) : Int) - 1))).1).toList a0.1.toList))))) = false := or_r h10
      refine awp_skip ?_
      refine rk tt_ok [(7, .i ((k0 + 1 : Nat) : Int))] [7, 40] [] [] [(0, .val (.i ((k0 + 1 : Nat) : Int)))] (o1 (ob_eq (av_i (wrap_succ k0 (by omega))))) ?_
      exact Exists.intro () (And.intro (weak_fit (by kernel_rfl)) (forL_next hx0 (bif_f h10 (rfl)) hI0))
  ·
    refine awp_seq ?_
    refine rk tt_ok [(8, .b false)] [] [] [] [(0, .val (.b false))] (o1 (ob_eq (av_bool (decide_eq_false (p := ((k0 : Nat) : Int) < (s_.length : Int)) (by omega))))) ?_
    refine awp_seq ?_
    refine ckF ?_
    refine awp_exit ?_
    exact Exists.intro () (And.intro (weak_fit (by kernel_rfl)) (forL_end hk0 (rfl) hI0))
  ·
    refine awp_seq ?_
    refine rk tt_ok [(2, .b (decide ((s_.length : Int) ≤ (5 : Int))))] [0, 2] [] [] [(1, .val (.i (s_.length : Int)))] (o1 (ob_eq (av_len s_))) ?_
    refine awp_ret ?_
    exact pret [] (congrArg (fun z => (.b z : AV)) (show implIsValidSchema s_ = decide ((s_.length : Int) ≤ (5 : Int)) from on_b hD0 (rfl)).symm)
def implIsValidFile_f0 (s_ : (List FieldD)) (f : FileD) (k0 : Nat) (a0 : AttrD) (_ : Unit) : Rd (Bool) (Unit) (Unit) := (bif (bif decide (((k0 : Nat) : Int) > (0 : Int)) then ((!(Op.bytesLess ((nth f.2.2.2.2 (Int.toNat (((k0 : Nat) : Int) - 1))).1).toList a0.1.toList)) || (!(implMatchesSchema s_ a0.1 a0.2))) else (!(implMatchesSchema s_ a0.1 a0.2))) then (.ret false) else (.next ()))
def implIsValidFile_e0 (_ : Nat) (_ : Unit) : Unit := ()
def implIsValidFile (s_ : (List FieldD)) (f : FileD) : Bool := (Out.on (forL (implIsValidFile_f0 s_ f) implIsValidFile_e0 f.2.2.2.2 0 ()) (fun _ => ((implwithin f.1 1 60) && ((implisUser f.2.1) && ((implwithin f.2.2.2.1 0 60) && (implIsValidSchema s_))))))
theorem implIsValidFile_a (s_ : (List FieldD)) (f : FileD) : ACalls Try.prog 23 [.h s_, .a [.i f.1, .i f.2.1, .b f.2.2.1, .i f.2.2.2.1, .h f.2.2.2.2]] (.b (implIsValidFile s_ f)) := by
  refine acalls_of (tt := tt) tt_ok Try.func23 (fn := Try.f23) rfl (by unfold FnOk; kernel_rfl) (Nat.le_of_ble_eq_true rfl) fun w0 F0 hG => ?_
  refine awp_seq ?_
  refine rk tt_ok [(3, .p 3 0), (4, .b false)] [1] [(3, [.i f.1, .i f.2.1, .b f.2.2.1, .i f.2.2.2.1, .h f.2.2.2.2])] [] [] (o0) ?_
  refine awp_seq ?_
  refine awp_seq ?_
  refine rk tt_ok [(8, .h f.2.2.2.2), (9, .i (f.2.2.2.2.length : Int)), (10, .i 0)] [] [] [] [(2, .val (.i (f.2.2.2.2.length : Int)))] (o1 (ob_eq (av_len f.2.2.2.2))) ?_
  refine wdT 8 0 .sh f.2.2.2.2 (fun hw1 => ?_)
  have hl2 : List.length f.2.2.2.2 ≤ 1073741824 := wide_len (hw1)
  refine blk (fun (k0 : Nat) (s0 : Unit) => [(10, .i ((k0 : Nat) : Int))]) [10] (fun k0 s0 => []) [] (fun (y0 : Unit) => []) [8, 9, 10] (fun y0 => []) [] (fun (k0 : Nat) (s0 : Unit) => (forL (implIsValidFile_f0 s_ f) implIsValidFile_e0 f.2.2.2.2 0 ()) = forL (implIsValidFile_f0 s_ f) implIsValidFile_e0 (List.drop k0 f.2.2.2.2) k0 s0) (fun (y0 : Unit) => (forL (implIsValidFile_f0 s_ f) implIsValidFile_e0 f.2.2.2.2 0 ()) = .brk y0) f.2.2.2.2.length () (weak_fit (by kernel_rfl)) rfl (fun k0 s0 hk0 hI0 => ?_) (fun k0 s0 hk0 hI0 => ?_) (fun y0 hD0 => ?_)
  ·
    obtain ⟨a0, hx0⟩ := get_some (l := f.2.2.2.2) (i := k0) hk0
    refine awp_seq ?_
    refine rk tt_ok [(11, .b true)] [] [] [] [(0, .val (.b true))] (o1 (ob_eq (av_bool (decide_eq_true (p := ((k0 : Nat) : Int) < (f.2.2.2.2.length : Int)) (by omega))))) ?_
    refine awp_seq ?_
    refine ckT ?_
    refine awp_skip ?_
    refine awp_seq ?_
    refine awp_block ?_
    refine awp_seq ?_
    refine rk tt_ok [(5, .i ((k0 : Nat) : Int)), (6, .p 6 0)] [11] [(6, [.s a0.1, .i a0.2.1, .i a0.2.2.1, .s a0.2.2.2])] [] [(1, .row [.s a0.1, .i a0.2.1, .i a0.2.2.1, .s a0.2.2.2])] (o1 (ob_elem (el_of (i := ((k0 : Nat) : Int)) (by omega) rfl hx0))) ?_
    refine awp_seq ?_
    refine jn [(37, .b (bif decide (((k0 : Nat) : Int) > (0 : Int)) then ((!(Op.bytesLess ((nth f.2.2.2.2 (Int.toNat (((k0 : Nat) : Int) - 1))).1).toList a0.1.toList)) || (!(implMatchesSchema s_ a0.1 a0.2))) else (!(implMatchesSchema s_ a0.1 a0.2))))] [5, 6] [] [6] (decide (((k0 : Nat) : Int) > (0 : Int))) (fun h3 => ?_) (fun h3 => ?_) ?_
    ·
      have h3d := of_decide_eq_true h3
      refine awp_split (!(Op.bytesLess ((nth f.2.2.2.2 (Int.toNat (((k0 : Nat) : Int) - 1))).1).toList a0.1.toList)) (fun h4 => ?_) (fun h4 => ?_)
      ·
        have h4n : (Op.bytesLess ((nth f.2.2.2.2 (Int.toNat (((k0 : Nat) : Int) - 1))).1).toList a0.1.toList) = false := bnot_t h4
        have hx5 : f.2.2.2.2[(Int.toNat (((k0 : Nat) : Int) - 1))]? = some (nth f.2.2.2.2 (Int.toNat (((k0 : Nat) : Int) - 1))) := nth_get (by omega)
        refine rd' tt_ok tt_mx [(37, .b true)] [5, 6] [] [6] [(1, .val (.b true)), (6, .val (.i (((k0 : Nat) : Int) - 1))), (7, .row [.s ((nth f.2.2.2.2 (Int.toNat (((k0 : Nat) : Int) - 1))).1), .i ((nth f.2.2.2.2 (Int.toNat (((k0 : Nat) : Int) - 1))).2.1), .i ((nth f.2.2.2.2 (Int.toNat (((k0 : Nat) : Int) - 1))).2.2.1), .s ((nth f.2.2.2.2 (Int.toNat (((k0 : Nat) : Int) - 1))).2.2.2)]), (12, .val (.b true))] (o2 (ob_eq (av_bool h3)) (o2 (ob_eq (av_i (IntWalk.i64_in (((k0 : Nat) : Int) - 1) (by omega)))) (o2 (ob_elem (el_of (i := (((k0 : Nat) : Int) - 1)) (by omega) rfl hx5)) (o1 (ob_eq (av_bool h4)))))) ?_
        exact ⟨rfl, weak_fit (by rw [h3, h4]; first | done | kernel_rfl)⟩
      ·
        have h4n : (Op.bytesLess ((nth f.2.2.2.2 (Int.toNat (((k0 : Nat) : Int) - 1))).1).toList a0.1.toList) = true := bnot_f h4
        have hx6 : f.2.2.2.2[(Int.toNat (((k0 : Nat) : Int) - 1))]? = some (nth f.2.2.2.2 (Int.toNat (((k0 : Nat) : Int) - 1))) := nth_get (by omega)
        refine rd' tt_ok tt_mx [(37, .b (!(implMatchesSchema s_ a0.1 a0.2)))] [5, 6] [] [6] [(1, .val (.b true)), (6, .val (.i (((k0 : Nat) : Int) - 1))), (7, .row [.s ((nth f.2.2.2.2 (Int.toNat (((k0 : Nat) : Int) - 1))).1), .i ((nth f.2.2.2.2 (Int.toNat (((k0 : Nat) : Int) - 1))).2.1), .i ((nth f.2.2.2.2 (Int.toNat (((k0 : Nat) : Int) - 1))).2.2.1), .s ((nth f.2.2.2.2 (Int.toNat (((k0 : Nat) : Int) - 1))).2.2.2)]), (12, .val (.b false)), (20, .val (.b (implMatchesSchema s_ a0.1 a0.2)))] (o2 (ob_eq (av_bool h3)) (o2 (ob_eq (av_i (IntWalk.i64_in (((k0 : Nat) : Int) - 1) (by omega)))) (o2 (ob_elem (el_of (i := (((k0 : Nat) : Int) - 1)) (by omega) rfl hx6)) (o2 (ob_eq (av_bool h4)) (o1 (ob_call (implMatchesSchema_a s_ a0.1 a0.2))))))) ?_
        exact ⟨rfl, weak_fit (by rw [h3, h4]; first | done | kernel_rfl)⟩
    ·
      have h3d := of_decide_eq_false h3
      refine rd' tt_ok tt_mx [(37, .b (!(implMatchesSchema s_ a0.1 a0.2)))] [5, 6] [] [6] [(1, .val (.b false)), (20, .val (.b (implMatchesSchema s_ a0.1 a0.2)))] (o2 (ob_eq (av_bool h3)) (o1 (ob_call (implMatchesSchema_a s_ a0.1 a0.2)))) ?_
      exact ⟨rfl, weak_fit (by rw [h3]; first | done | kernel_rfl)⟩
    refine ck (bif decide (((k0 : Nat) : Int) > (0 : Int)) then ((!(Op.bytesLess ((nth f.2.2.2.2 (Int.toNat (((k0 : Nat) : Int) - 1))).1).toList a0.1.toList)) || (!(implMatchesSchema s_ a0.1 a0.2))) else (!(implMatchesSchema s_ a0.1 a0.2))) (fun h7 => ?_) (fun h7 => ?_)
    ·
      refine awp_seq ?_
      refine rk tt_ok [] [37] [] [] [] (o0) ?_
      refine awp_ret ?_
      have hr8 : (forL (implIsValidFile_f0 s_ f) implIsValidFile_e0 f.2.2.2.2 0 ()) = .ret false := forL_ret hx0 (bif_t h7 (rfl)) hI0
      exact pret [] (congrArg (fun z => (.b z : AV)) (show implIsValidFile s_ f = false from on_r hr8).symm)
    ·
      refine awp_skip ?_
      refine rk tt_ok [(10, .i ((k0 + 1 : Nat) : Int))] [10, 37] [] [] [(0, .val (.i ((k0 + 1 : Nat) : Int)))] (o1 (ob_eq (av_i (wrap_succ k0 (by omega))))) ?_
      exact Exists.intro () (And.intro (weak_fit (by kernel_rfl)) (forL_next hx0 (bif_f h7 (rfl)) hI0))
  ·
    refine awp_seq ?_
    refine rk tt_ok [(11, .b false)] [] [] [] [(0, .val (.b false))] (o1 (ob_eq (av_bool (decide_eq_false (p := ((k0 : Nat) : Int) < (f.2.2.2.2.length : Int)) (by omega))))) ?_
    refine awp_seq ?_
    refine ckF ?_
    refine awp_exit ?_
    exact Exists.intro () (And.intro (weak_fit (by kernel_rfl)) (forL_end hk0 (rfl) hI0))
  ·
    refine awp_seq ?_
    refine jn [(4, .b ((implwithin f.1 1 60) && ((implisUser f.2.1) && ((implwithin f.2.2.2.1 0 60) && (implIsValidSchema s_)))))] [0, 3, 4] [] [3] (implwithin f.1 1 60) (fun h9 => ?_) (fun h9 => ?_) ?_
    ·
      refine awp_split (implisUser f.2.1) (fun h10 => ?_) (fun h10 => ?_)
      ·
        refine awp_split (implwithin f.2.2.2.1 0 60) (fun h11 => ?_) (fun h11 => ?_)
        ·
          refine rk tt_ok [(4, .b (implIsValidSchema s_))] [0, 3, 4] [] [3] [(2, .val (.b true)), (6, .val (.b true)), (11, .val (.b true)), (15, .val (.b (implIsValidSchema s_)))] (o2 (ob_call (cb h9 (implwithin_a f.1 1 60))) (o2 (ob_call (cb h10 (implisUser_a f.2.1))) (o2 (ob_call (cb h11 (implwithin_a f.2.2.2.1 0 60))) (o1 (ob_call (implIsValidSchema_a s_)))))) ?_
          exact ⟨rfl, weak_fit (by rw [h9, h10, h11]; first | done | kernel_rfl)⟩
        ·
          refine rk tt_ok [] [0, 3] [] [3] [(2, .val (.b true)), (6, .val (.b true)), (11, .val (.b false))] (o2 (ob_call (cb h9 (implwithin_a f.1 1 60))) (o2 (ob_call (cb h10 (implisUser_a f.2.1))) (o1 (ob_call (cb h11 (implwithin_a f.2.2.2.1 0 60)))))) ?_
          exact ⟨rfl, weak_fit (by rw [h9, h10, h11]; first | done | kernel_rfl)⟩
      ·
        refine rk tt_ok [] [0, 3] [] [3] [(2, .val (.b true)), (6, .val (.b false))] (o2 (ob_call (cb h9 (implwithin_a f.1 1 60))) (o1 (ob_call (cb h10 (implisUser_a f.2.1))))) ?_
        exact ⟨rfl, weak_fit (by rw [h9, h10]; first | done | kernel_rfl)⟩
    ·
      refine rk tt_ok [] [0, 3] [] [3] [(2, .val (.b false))] (o1 (ob_call (cb h9 (implwithin_a f.1 1 60)))) ?_
      exact ⟨rfl, weak_fit (by rw [h9]; first | done | kernel_rfl)⟩
    refine awp_ret ?_
    exact pret [] (congrArg (fun z => (.b z : AV)) (show implIsValidFile s_ f = ((implwithin f.1 1 60) && ((implisUser f.2.1) && ((implwithin f.2.2.2.1 0 60) && (implIsValidSchema s_)))) from on_b hD0 (rfl)).symm)
def implIsValidStore_f0 (s_ : StoreD) (k0 : Nat) (a0 : FileD) (_ : Unit) : Rd (Bool) (Unit) (Unit) := (bif ((!(implIsValidFile s_.1 a0)) || (decide (a0.1 ≥ s_.2.2) || (decide (((k0 : Nat) : Int) > (0 : Int)) && decide ((nth s_.2.1 (Int.toNat (((k0 : Nat) : Int) - 1))).1 ≥ a0.1)))) then (.ret false) else (.next ()))
def implIsValidStore_e0 (_ : Nat) (_ : Unit) : Unit := ()
def implIsValidStore (s_ : StoreD) : Bool := (Out.on (forL (implIsValidStore_f0 s_) implIsValidStore_e0 s_.2.1 0 ()) (fun _ => ((implIsValidSchema s_.1) && (decide ((s_.2.1.length : Int) ≤ (12 : Int)) && (implwithin s_.2.2 1 61)))))
theorem implIsValidStore_a (s_ : StoreD) : ACalls Try.prog 11 [.a [.h s_.1, .h s_.2.1, .i s_.2.2]] (.b (implIsValidStore s_)) := by
  refine acalls_of (tt := tt) tt_ok Try.func11 (fn := Try.f11) rfl (by unfold FnOk; kernel_rfl) (Nat.le_of_ble_eq_true rfl) fun w0 F0 hG => ?_
  refine awp_seq ?_
  refine rk tt_ok [(1, .p 1 0), (2, .b false)] [0] [(1, [.h s_.1, .h s_.2.1, .i s_.2.2])] [] [] (o0) ?_
  refine awp_seq ?_
  refine awp_seq ?_
  refine rk tt_ok [(6, .h s_.2.1), (7, .i (s_.2.1.length : Int)), (8, .i 0)] [] [] [] [(2, .val (.i (s_.2.1.length : Int)))] (o1 (ob_eq (av_len s_.2.1))) ?_
  refine wdT 6 0 .sh s_.2.1 (fun hw1 => ?_)
  have hl2 : List.length s_.2.1 ≤ 1073741824 := wide_len (hw1)
  refine blk (fun (k0 : Nat) (s0 : Unit) => [(8, .i ((k0 : Nat) : Int))]) [8] (fun k0 s0 => []) [] (fun (y0 : Unit) => []) [6, 7, 8] (fun y0 => []) [] (fun (k0 : Nat) (s0 : Unit) => (forL (implIsValidStore_f0 s_) implIsValidStore_e0 s_.2.1 0 ()) = forL (implIsValidStore_f0 s_) implIsValidStore_e0 (List.drop k0 s_.2.1) k0 s0) (fun (y0 : Unit) => (forL (implIsValidStore_f0 s_) implIsValidStore_e0 s_.2.1 0 ()) = .brk y0) s_.2.1.length () (weak_fit (by kernel_rfl)) rfl (fun k0 s0 hk0 hI0 => ?_) (fun k0 s0 hk0 hI0 => ?_) (fun y0 hD0 => ?_)
  ·
    obtain ⟨a0, hx0⟩ := get_some (l := s_.2.1) (i := k0) hk0
    refine awp_seq ?_
    refine rk tt_ok [(9, .b true)] [] [] [] [(0, .val (.b true))] (o1 (ob_eq (av_bool (decide_eq_true (p := ((k0 : Nat) : Int) < (s_.2.1.length : Int)) (by omega))))) ?_
    refine awp_seq ?_
    refine ckT ?_
    refine awp_skip ?_
    refine awp_seq ?_
    refine awp_block ?_
    refine awp_seq ?_
    refine rk tt_ok [(3, .i ((k0 : Nat) : Int)), (4, .p 4 0)] [9] [(4, [.i a0.1, .i a0.2.1, .b a0.2.2.1, .i a0.2.2.2.1, .h a0.2.2.2.2])] [] [(1, .row [.i a0.1, .i a0.2.1, .b a0.2.2.1, .i a0.2.2.2.1, .h a0.2.2.2.2])] (o1 (ob_elem (el_of (i := ((k0 : Nat) : Int)) (by omega) rfl hx0))) ?_
    refine awp_seq ?_
    refine jn [(40, .b ((!(implIsValidFile s_.1 a0)) || (decide (a0.1 ≥ s_.2.2) || (decide (((k0 : Nat) : Int) > (0 : Int)) && decide ((nth s_.2.1 (Int.toNat (((k0 : Nat) : Int) - 1))).1 ≥ a0.1)))))] [3, 4] [] [4] (!(implIsValidFile s_.1 a0)) (fun h3 => ?_) (fun h3 => ?_) ?_
    ·
      have h3n : (implIsValidFile s_.1 a0) = false := bnot_t h3
      refine rd' tt_ok tt_mx [(40, .b true)] [3, 4] [] [4] [(3, .val (.b false)), (4, .val (.b true))] (o2 (ob_call (cb h3n (implIsValidFile_a s_.1 a0))) (o1 (ob_eq (show .b (!false) = .b true from rfl)))) ?_
      exact ⟨rfl, weak_fit (by rw [h3]; first | done | kernel_rfl)⟩
    ·
      have h3n : (implIsValidFile s_.1 a0) = true := bnot_f h3
      refine awp_split (decide (a0.1 ≥ s_.2.2)) (fun h4 => ?_) (fun h4 => ?_)
      ·
        have h4d := of_decide_eq_true h4
        refine rd' tt_ok tt_mx [(40, .b true)] [3, 4] [] [4] [(3, .val (.b true)), (4, .val (.b false)), (10, .val (.b true))] (o2 (ob_call (cb h3n (implIsValidFile_a s_.1 a0))) (o2 (ob_eq (show .b (!true) = .b false from rfl)) (o1 (ob_eq (av_bool h4))))) ?_
        exact ⟨rfl, weak_fit (by rw [h3, h4]; first | done | kernel_rfl)⟩
      ·
        have h4d := of_decide_eq_false h4
        refine awp_split (decide (((k0 : Nat) : Int) > (0 : Int))) (fun h5 => ?_) (fun h5 => ?_)
        ·
          have h5d := of_decide_eq_true h5
          have hx6 : s_.2.1[(Int.toNat (((k0 : Nat) : Int) - 1))]? = some (nth s_.2.1 (Int.toNat (((k0 : Nat) : Int) - 1))) := nth_get (by omega)
          refine rd' tt_ok tt_mx [(40, .b (decide ((nth s_.2.1 (Int.toNat (((k0 : Nat) : Int) - 1))).1 ≥ a0.1)))] [3, 4] [] [4] [(3, .val (.b true)), (4, .val (.b false)), (10, .val (.b false)), (14, .val (.b true)), (19, .val (.i (((k0 : Nat) : Int) - 1))), (20, .row [.i ((nth s_.2.1 (Int.toNat (((k0 : Nat) : Int) - 1))).1), .i ((nth s_.2.1 (Int.toNat (((k0 : Nat) : Int) - 1))).2.1), .b ((nth s_.2.1 (Int.toNat (((k0 : Nat) : Int) - 1))).2.2.1), .i ((nth s_.2.1 (Int.toNat (((k0 : Nat) : Int) - 1))).2.2.2.1), .h ((nth s_.2.1 (Int.toNat (((k0 : Nat) : Int) - 1))).2.2.2.2)])] (o2 (ob_call (cb h3n (implIsValidFile_a s_.1 a0))) (o2 (ob_eq (show .b (!true) = .b false from rfl)) (o2 (ob_eq (av_bool h4)) (o2 (ob_eq (av_bool h5)) (o2 (ob_eq (av_i (IntWalk.i64_in (((k0 : Nat) : Int) - 1) (by omega)))) (o1 (ob_elem (el_of (i := (((k0 : Nat) : Int) - 1)) (by omega) rfl hx6)))))))) ?_
          exact ⟨rfl, weak_fit (by rw [h3, h4, h5]; first | done | kernel_rfl)⟩
        ·
          have h5d := of_decide_eq_false h5
          refine rd' tt_ok tt_mx [(40, .b false)] [3, 4] [] [4] [(3, .val (.b true)), (4, .val (.b false)), (10, .val (.b false)), (14, .val (.b false))] (o2 (ob_call (cb h3n (implIsValidFile_a s_.1 a0))) (o2 (ob_eq (show .b (!true) = .b false from rfl)) (o2 (ob_eq (av_bool h4)) (o1 (ob_eq (av_bool h5)))))) ?_
          exact ⟨rfl, weak_fit (by rw [h3, h4, h5]; first | done | kernel_rfl)⟩
    refine ck ((!(implIsValidFile s_.1 a0)) || (decide (a0.1 ≥ s_.2.2) || (decide (((k0 : Nat) : Int) > (0 : Int)) && decide ((nth s_.2.1 (Int.toNat (((k0 : Nat) : Int) - 1))).1 ≥ a0.1)))) (fun h7 => ?_) (fun h7 => ?_)
    ·
      refine awp_seq ?_
      refine rk tt_ok [] [40] [] [] [] (o0) ?_
      refine awp_ret ?_
      have hr8 : (forL (implIsValidStore_f0 s_) implIsValidStore_e0 s_.2.1 0 ()) = .ret false := forL_ret hx0 (bif_t h7 (rfl)) hI0
      exact pret [] (congrArg (fun z => (.b z : AV)) (show implIsValidStore s_ = false from on_r hr8).symm)
    ·
      have h7l : ((!(implIsValidFile s_.1 a0))) = false := or_l h7
      have h7ln : (implIsValidFile s_.1 a0) = true := bnot_f h7l
      have h7r : ((decide (a0.1 ≥ s_.2.2) || (decide (((k0 : Nat) : Int) > (0 : Int)) && decide ((nth s_.2.1 (Int.toNat (((k0 : Nat) : Int) - 1))).1 ≥ a0.1)))) = false := or_r h7
      have h7rl : (decide (a0.1 ≥ s_.2.2)) = false := or_l h7r
      have h7rld := of_decide_eq_false h7rl
      have h7rr : ((decide (((k0 : Nat) : Int) > (0 : Int)) && decide ((nth s_.2.1 (Int.toNat (((k0 : Nat) : Int) - 1))).1 ≥ a0.1))) = false := or_r h7r
      refine awp_skip ?_
      refine rk tt_ok [(8, .i ((k0 + 1 : Nat) : Int))] [8, 40] [] [] [(0, .val (.i ((k0 + 1 : Nat) : Int)))] (o1 (ob_eq (av_i (wrap_succ k0 (by omega))))) ?_
      exact Exists.intro () (And.intro (weak_fit (by kernel_rfl)) (forL_next hx0 (bif_f h7 (rfl)) hI0))
  ·
    refine awp_seq ?_
    refine rk tt_ok [(9, .b false)] [] [] [] [(0, .val (.b false))] (o1 (ob_eq (av_bool (decide_eq_false (p := ((k0 : Nat) : Int) < (s_.2.1.length : Int)) (by omega))))) ?_
    refine awp_seq ?_
    refine ckF ?_
    refine awp_exit ?_
    exact Exists.intro () (And.intro (weak_fit (by kernel_rfl)) (forL_end hk0 (rfl) hI0))
  ·
    refine awp_seq ?_
    refine jn [(2, .b ((implIsValidSchema s_.1) && (decide ((s_.2.1.length : Int) ≤ (12 : Int)) && (implwithin s_.2.2 1 61))))] [1, 2] [] [1] (implIsValidSchema s_.1) (fun h9 => ?_) (fun h9 => ?_) ?_
    ·
      refine awp_split (decide ((s_.2.1.length : Int) ≤ (12 : Int))) (fun h10 => ?_) (fun h10 => ?_)
      ·
        have h10d := of_decide_eq_true h10
        refine rk tt_ok [(2, .b (implwithin s_.2.2 1 61))] [1, 2] [] [1] [(2, .val (.b true)), (6, .val (.i (s_.2.1.length : Int))), (7, .val (.b true)), (12, .val (.b (implwithin s_.2.2 1 61)))] (o2 (ob_call (cb h9 (implIsValidSchema_a s_.1))) (o2 (ob_eq (av_len s_.2.1)) (o2 (ob_eq (av_bool h10)) (o1 (ob_call (implwithin_a s_.2.2 1 61)))))) ?_
        exact ⟨rfl, weak_fit (by rw [h9, h10]; first | done | kernel_rfl)⟩
      ·
        have h10d := of_decide_eq_false h10
        refine rk tt_ok [] [1] [] [1] [(2, .val (.b true)), (6, .val (.i (s_.2.1.length : Int))), (7, .val (.b false))] (o2 (ob_call (cb h9 (implIsValidSchema_a s_.1))) (o2 (ob_eq (av_len s_.2.1)) (o1 (ob_eq (av_bool h10))))) ?_
        exact ⟨rfl, weak_fit (by rw [h9, h10]; first | done | kernel_rfl)⟩
    ·
      refine rk tt_ok [] [1] [] [1] [(2, .val (.b false))] (o1 (ob_call (cb h9 (implIsValidSchema_a s_.1)))) ?_
      exact ⟨rfl, weak_fit (by rw [h9]; first | done | kernel_rfl)⟩
    refine awp_ret ?_
    exact pret [] (congrArg (fun z => (.b z : AV)) (show implIsValidStore s_ = ((implIsValidSchema s_.1) && (decide ((s_.2.1.length : Int) ≤ (12 : Int)) && (implwithin s_.2.2 1 61))) from on_b hD0 (rfl)).symm)
def implCreateFile (s_ : StoreD) (f : FileD) : StoreD × Int × Bool := (bif ((!(implIsValidStore s_)) || (decide ((s_.2.1.length : Int) ≥ (12 : Int)) || (!(implIsValidFile s_.1 (s_.2.2, (implcopyFile f).2.1, (implcopyFile f).2.2.1, (implcopyFile f).2.2.2.1, (implcopyFile f).2.2.2.2))))) then ((implcopyStore s_), 0, false) else (((implcopyStore s_).1, (implcopyStore s_).2.1 ++ [(s_.2.2, (implcopyFile f).2.1, (implcopyFile f).2.2.1, (implcopyFile f).2.2.2.1, (implcopyFile f).2.2.2.2)], IntKind.i64.wrap ((implcopyStore s_).2.2 + 1)), s_.2.2, true))
theorem copyFiles_id (l : List FileD) : implcopyFiles l = l := by
  unfold implcopyFiles
  rw [forL_map (f := implcopyFiles_f0) (e := implcopyFiles_e0) (g := id) (fun k a s => rfl) l 0 []]
  simp [Out.on, implcopyFiles_e0]
theorem copyStore_len (s_ : StoreD) : (implcopyStore s_).2.1.length = s_.2.1.length := by unfold implcopyStore; rw [copyFiles_id]
theorem implCreateFile_a (s_ : StoreD) (f : FileD) : ACalls Try.prog 9 [.a [.h s_.1, .h s_.2.1, .i s_.2.2], .a [.i f.1, .i f.2.1, .b f.2.2.1, .i f.2.2.2.1, .h f.2.2.2.2]] (.tup [(true, [.o 0 ((((implCreateFile s_ f)).1).1), .o 1 ((((implCreateFile s_ f)).1).2.1), .i ((((implCreateFile s_ f)).1).2.2)]), (false, [.i (((implCreateFile s_ f)).2.1)]), (false, [.b (((implCreateFile s_ f)).2.2)])]) := by
  refine acalls_of (tt := tt) tt_ok Try.func9 (fn := Try.f9) rfl (by unfold FnOk; kernel_rfl) (Nat.le_of_ble_eq_true rfl) fun w0 F0 hG => ?_
  have hcl := copyStore_len s_
  refine awp_seq ?_
  refine rk tt_ok [(2, .p 2 0), (3, .p 3 0), (4, .p 4 0), (5, .i 0), (6, .b false)] [0, 1] [(2, [.h s_.1, .h s_.2.1, .i s_.2.2]), (3, [.i f.1, .i f.2.1, .b f.2.2.1, .i f.2.2.2.1, .h f.2.2.2.2]), (4, [.e 2, .e 5, .i 0])] [] [] (o0) ?_
  refine awp_seq ?_
  refine rk tt_ok [(7, .p 7 0)] [] [(7, [.o 576 ((implcopyStore s_).1), .o 577 ((implcopyStore s_).2.1), .i ((implcopyStore s_).2.2)])] [] [(1, .val (.a [.o 0 ((implcopyStore s_).1), .o 1 ((implcopyStore s_).2.1), .i ((implcopyStore s_).2.2)]))] (o1 (ob_call (implcopyStore_a s_))) ?_
  refine awp_seq ?_
  refine rk tt_ok [] [] [(3, [.i ((implcopyFile f).1), .i ((implcopyFile f).2.1), .b ((implcopyFile f).2.2.1), .i ((implcopyFile f).2.2.2.1), .o 704 ((implcopyFile f).2.2.2.2)])] [3] [(1, .val (.a [.i ((implcopyFile f).1), .i ((implcopyFile f).2.1), .b ((implcopyFile f).2.2.1), .i ((implcopyFile f).2.2.2.1), .o 0 ((implcopyFile f).2.2.2.2)]))] (o1 (ob_call (implcopyFile_a f))) ?_
  refine awp_seq ?_
  refine rk tt_ok [] [] [(3, [.i s_.2.2, .i ((implcopyFile f).2.1), .b ((implcopyFile f).2.2.1), .i ((implcopyFile f).2.2.2.1), .o 704 ((implcopyFile f).2.2.2.2)])] [3] [] (o0) ?_
  refine awp_seq ?_
  refine awp_seq ?_
  refine jn [(30, .b ((!(implIsValidStore s_)) || (decide ((s_.2.1.length : Int) ≥ (12 : Int)) || (!(implIsValidFile s_.1 (s_.2.2, (implcopyFile f).2.1, (implcopyFile f).2.2.1, (implcopyFile f).2.2.2.1, (implcopyFile f).2.2.2.2))))))] [2] [] [2] (!(implIsValidStore s_)) (fun h1 => ?_) (fun h1 => ?_) ?_
  ·
    have h1n : (implIsValidStore s_) = false := bnot_t h1
    refine rk tt_ok [(30, .b true)] [2] [] [2] [(1, .val (.b false)), (2, .val (.b true))] (o2 (ob_call (cb h1n (implIsValidStore_a s_))) (o1 (ob_eq (show .b (!false) = .b true from rfl)))) ?_
    exact ⟨rfl, weak_fit (by rw [h1]; first | done | kernel_rfl)⟩
  ·
    have h1n : (implIsValidStore s_) = true := bnot_f h1
    refine awp_split (decide ((s_.2.1.length : Int) ≥ (12 : Int))) (fun h2 => ?_) (fun h2 => ?_)
    ·
      have h2d := of_decide_eq_true h2
      refine rk tt_ok [(30, .b true)] [2] [] [2] [(1, .val (.b true)), (2, .val (.b false)), (6, .val (.i (s_.2.1.length : Int))), (7, .val (.b true))] (o2 (ob_call (cb h1n (implIsValidStore_a s_))) (o2 (ob_eq (show .b (!true) = .b false from rfl)) (o2 (ob_eq (av_len s_.2.1)) (o1 (ob_eq (av_bool h2)))))) ?_
      exact ⟨rfl, weak_fit (by rw [h1, h2]; first | done | kernel_rfl)⟩
    ·
      have h2d := of_decide_eq_false h2
      refine rk tt_ok [(30, .b (!(implIsValidFile s_.1 (s_.2.2, (implcopyFile f).2.1, (implcopyFile f).2.2.1, (implcopyFile f).2.2.2.1, (implcopyFile f).2.2.2.2))))] [2] [] [2] [(1, .val (.b true)), (2, .val (.b false)), (6, .val (.i (s_.2.1.length : Int))), (7, .val (.b false)), (13, .val (.b (implIsValidFile s_.1 (s_.2.2, (implcopyFile f).2.1, (implcopyFile f).2.2.1, (implcopyFile f).2.2.2.1, (implcopyFile f).2.2.2.2))))] (o2 (ob_call (cb h1n (implIsValidStore_a s_))) (o2 (ob_eq (show .b (!true) = .b false from rfl)) (o2 (ob_eq (av_len s_.2.1)) (o2 (ob_eq (av_bool h2)) (o1 (ob_call (implIsValidFile_a s_.1 (s_.2.2, (implcopyFile f).2.1, (implcopyFile f).2.2.1, (implcopyFile f).2.2.2.1, (implcopyFile f).2.2.2.2)))))))) ?_
      exact ⟨rfl, weak_fit (by rw [h1, h2]; first | done | kernel_rfl)⟩
  refine ck ((!(implIsValidStore s_)) || (decide ((s_.2.1.length : Int) ≥ (12 : Int)) || (!(implIsValidFile s_.1 (s_.2.2, (implcopyFile f).2.1, (implcopyFile f).2.2.1, (implcopyFile f).2.2.2.1, (implcopyFile f).2.2.2.2))))) (fun h3 => ?_) (fun h3 => ?_)
  ·
    refine awp_seq ?_
    refine rk tt_ok [] [30] [(4, [.o 576 ((implcopyStore s_).1), .o 577 ((implcopyStore s_).2.1), .i ((implcopyStore s_).2.2)])] [4] [] (o0) ?_
    refine awp_ret ?_
    exact pret [] (congrArg (fun z => (.tup [(true, [.o 0 z.1.1, .o 1 z.1.2.1, .i z.1.2.2]), (false, [.i z.2.1]), (false, [.b z.2.2])] : AV)) (show implCreateFile s_ f = ((implcopyStore s_), 0, false) from bif_t h3 (rfl)).symm)
  ·
    have h3l : ((!(implIsValidStore s_))) = false := or_l h3
    have h3ln : (implIsValidStore s_) = true := bnot_f h3l
    have h3r : ((decide ((s_.2.1.length : Int) ≥ (12 : Int)) || (!(implIsValidFile s_.1 (s_.2.2, (implcopyFile f).2.1, (implcopyFile f).2.2.1, (implcopyFile f).2.2.2.1, (implcopyFile f).2.2.2.2))))) = false := or_r h3
    have h3rl : (decide ((s_.2.1.length : Int) ≥ (12 : Int))) = false := or_l h3r
    have h3rld := of_decide_eq_false h3rl
    have h3rr : ((!(implIsValidFile s_.1 (s_.2.2, (implcopyFile f).2.1, (implcopyFile f).2.2.1, (implcopyFile f).2.2.2.1, (implcopyFile f).2.2.2.2)))) = false := or_r h3r
    have h3rrn : (implIsValidFile s_.1 (s_.2.2, (implcopyFile f).2.1, (implcopyFile f).2.2.1, (implcopyFile f).2.2.2.1, (implcopyFile f).2.2.2.2)) = true := bnot_f h3rr
    refine awp_skip ?_
    refine awp_seq ?_
    refine wdB 7 1 (.own true 577) ((implcopyStore s_).2.1) (fun hw4 => ?_)
    have hl5 : List.length ((implcopyStore s_).2.1) ≤ 1073741824 := wide_len (hw4)
    refine rk tt_ok [] [30] [(3, [.i s_.2.2, .i ((implcopyFile f).2.1), .b ((implcopyFile f).2.2.1), .i ((implcopyFile f).2.2.2.1), .dead]), (7, [.o 576 ((implcopyStore s_).1), .slc (.own true 2304) 5 ((eL ((implcopyStore s_).2.1)) ++ [[.i s_.2.2, .i ((implcopyFile f).2.1), .b ((implcopyFile f).2.2.1), .i ((implcopyFile f).2.2.2.1), .h ((implcopyFile f).2.2.2.2)]]), .i ((implcopyStore s_).2.2)])] [3, 7] [] (o1 (ob_len (len_of (eL_length ((implcopyStore s_).2.1)) (eL_length [(s_.2.2, (implcopyFile f).2.1, (implcopyFile f).2.2.1, (implcopyFile f).2.2.2.1, (implcopyFile f).2.2.2.2)]) (by first | omega | (simp; omega) | simp)))) ?_
    refine eqn [] [] [(7, [.o 576 ((implcopyStore s_).1), .o 2304 ((implcopyStore s_).2.1 ++ [(s_.2.2, (implcopyFile f).2.1, (implcopyFile f).2.2.1, (implcopyFile f).2.2.2.1, (implcopyFile f).2.2.2.2)]), .i ((implcopyStore s_).2.2)])] [7] (by rw [show ((eL ((implcopyStore s_).2.1)) ++ [[.i s_.2.2, .i ((implcopyFile f).2.1), .b ((implcopyFile f).2.2.1), .i ((implcopyFile f).2.2.2.1), .h ((implcopyFile f).2.2.2.2)]]) = (eL ((implcopyStore s_).2.1 ++ [(s_.2.2, (implcopyFile f).2.1, (implcopyFile f).2.2.1, (implcopyFile f).2.2.2.1, (implcopyFile f).2.2.2.2)])) from app_eL (rfl) (rfl)]; first | done | kernel_rfl) ?_
    refine awp_seq ?_
    refine rk tt_ok [] [] [(7, [.o 576 ((implcopyStore s_).1), .o 2304 ((implcopyStore s_).2.1 ++ [(s_.2.2, (implcopyFile f).2.1, (implcopyFile f).2.2.1, (implcopyFile f).2.2.2.1, (implcopyFile f).2.2.2.2)]), .i (IntKind.i64.wrap ((implcopyStore s_).2.2 + 1))])] [7] [] (o0) ?_
    refine awp_seq ?_
    refine rd' tt_ok tt_mx [(5, .i s_.2.2), (6, .b true)] [3, 5, 6, 7] [(4, [.o 576 ((implcopyStore s_).1), .o 2304 ((implcopyStore s_).2.1 ++ [(s_.2.2, (implcopyFile f).2.1, (implcopyFile f).2.2.1, (implcopyFile f).2.2.2.1, (implcopyFile f).2.2.2.2)]), .i (IntKind.i64.wrap ((implcopyStore s_).2.2 + 1))])] [3, 4, 7] [] (o0) ?_
    refine awp_ret ?_
    exact pret [] (congrArg (fun z => (.tup [(true, [.o 0 z.1.1, .o 1 z.1.2.1, .i z.1.2.2]), (false, [.i z.2.1]), (false, [.b z.2.2])] : AV)) (show implCreateFile s_ f = (((implcopyStore s_).1, (implcopyStore s_).2.1 ++ [(s_.2.2, (implcopyFile f).2.1, (implcopyFile f).2.2.1, (implcopyFile f).2.2.2.1, (implcopyFile f).2.2.2.2)], IntKind.i64.wrap ((implcopyStore s_).2.2 + 1)), s_.2.2, true) from bif_f h3 (rfl)).symm)
def implFileIDs_f0 (_ : Nat) (a0 : FileD) (s0 : (List Int)) : Rd ((List Int)) ((List Int)) ((List Int)) := (.next (s0 ++ [a0.1]))
def implFileIDs_e0 (_ : Nat) (s0 : (List Int)) : (List Int) := s0
def implFileIDs (s_ : StoreD) : (List Int) := (Out.on (forL implFileIDs_f0 implFileIDs_e0 s_.2.1 0 []) (fun y0 => y0))
theorem implFileIDs_a (s_ : StoreD) : ACalls Try.prog 10 [.a [.h s_.1, .h s_.2.1, .i s_.2.2]] (.o 0 (implFileIDs s_)) := by
  refine acalls_of (tt := tt) tt_ok Try.func10 (fn := Try.f10) rfl (by unfold FnOk; kernel_rfl) (Nat.le_of_ble_eq_true rfl) fun w0 F0 hG => ?_
  refine awp_seq ?_
  refine rk tt_ok [(1, .p 1 0), (2, .e 0)] [0] [(1, [.h s_.1, .h s_.2.1, .i s_.2.2])] [] [] (o0) ?_
  refine awp_seq ?_
  refine rk tt_ok [(3, .one (.slc (.own true 384) 1 []))] [] [] [] [] (o0) ?_
  refine awp_seq ?_
  refine awp_seq ?_
  refine rk tt_ok [(8, .h s_.2.1), (9, .i (s_.2.1.length : Int)), (10, .i 0)] [1] [] [1] [(2, .val (.i (s_.2.1.length : Int)))] (o1 (ob_eq (av_len s_.2.1))) ?_
  refine wdT 8 0 .sh s_.2.1 (fun hw1 => ?_)
  have hl2 : List.length s_.2.1 ≤ 1073741824 := wide_len (hw1)
  refine blk (fun (k0 : Nat) (s0 : (List Int)) => [(3, .o 147201 s0), (10, .i ((k0 : Nat) : Int))]) [3, 10] (fun k0 s0 => []) [] (fun (y0 : (List Int)) => [(3, .o 147351 y0)]) [3, 8, 9, 10] (fun y0 => []) [] (fun (k0 : Nat) (s0 : (List Int)) => (forL implFileIDs_f0 implFileIDs_e0 s_.2.1 0 []) = forL implFileIDs_f0 implFileIDs_e0 (List.drop k0 s_.2.1) k0 s0 ∧ List.length s0 ≤ k0) (fun (y0 : (List Int)) => (forL implFileIDs_f0 implFileIDs_e0 s_.2.1 0 []) = .brk y0) s_.2.1.length [] (weak_sf [(384, 147201)] (by kernel_rfl)) ⟨rfl, (by simp)⟩ (fun k0 s0 hk0 hI0 => ?_) (fun k0 s0 hk0 hI0 => ?_) (fun y0 hD0 => ?_)
  ·
    have hA0_0 := hI0.2
    obtain ⟨a0, hx0⟩ := get_some (l := s_.2.1) (i := k0) hk0
    refine awp_seq ?_
    refine rk tt_ok [(11, .b true)] [] [] [] [(0, .val (.b true))] (o1 (ob_eq (av_bool (decide_eq_true (p := ((k0 : Nat) : Int) < (s_.2.1.length : Int)) (by omega))))) ?_
    refine awp_seq ?_
    refine ckT ?_
    refine awp_skip ?_
    refine awp_seq ?_
    refine awp_block ?_
    refine awp_seq ?_
    refine rk tt_ok [(5, .p 5 0)] [11] [(5, [.i a0.1, .i a0.2.1, .b a0.2.2.1, .i a0.2.2.2.1, .h a0.2.2.2.2])] [] [(0, .row [.i a0.1, .i a0.2.1, .b a0.2.2.1, .i a0.2.2.2.1, .h a0.2.2.2.2])] (o1 (ob_elem (el_of (i := ((k0 : Nat) : Int)) (by omega) rfl hx0))) ?_
    refine wdT 3 0 (.own true 147201) s0 (fun hw3 => ?_)
    have hl4 : List.length s0 ≤ 1073741824 := wide_len (hw3)
    refine rk tt_ok [(3, .one (.slc (.own true 1152) 1 ((eL s0) ++ [[.i a0.1]])))] [3, 5] [] [5] [] (o1 (ob_len (len_of (eL_length s0) (eL_length [a0.1]) (by first | omega | (simp; omega) | simp)))) ?_
    refine eqn [(3, .o 1152 (s0 ++ [a0.1]))] [3] [] [] (by rw [show ((eL s0) ++ [[.i a0.1]]) = (eL (s0 ++ [a0.1])) from app_eL (rfl) (rfl)]; first | done | kernel_rfl) ?_
    refine rk tt_ok [(10, .i ((k0 + 1 : Nat) : Int))] [10] [] [] [(0, .val (.i ((k0 + 1 : Nat) : Int)))] (o1 (ob_eq (av_i (wrap_succ k0 (by omega))))) ?_
    exact Exists.intro (s0 ++ [a0.1]) (And.intro (weak_sf [(1152, 147201)] (by kernel_rfl)) ⟨forL_next hx0 (rfl) hI0.1, by first | omega | (simp; omega) | simp⟩)
  ·
    have hA0_0 := hI0.2
    refine awp_seq ?_
    refine rk tt_ok [(11, .b false)] [] [] [] [(0, .val (.b false))] (o1 (ob_eq (av_bool (decide_eq_false (p := ((k0 : Nat) : Int) < (s_.2.1.length : Int)) (by omega))))) ?_
    refine awp_seq ?_
    refine ckF ?_
    refine awp_exit ?_
    exact Exists.intro s0 (And.intro (weak_sf [(147201, 147351)] (by kernel_rfl)) (forL_end hk0 (rfl) hI0.1))
  ·
    refine awp_seq ?_
    refine rk tt_ok [(2, .o 147351 y0)] [2, 3] [] [] [] (o0) ?_
    refine awp_ret ?_
    exact pret [] (congrArg (fun z => (.o 0 z : AV)) (show implFileIDs s_ = y0 from on_b hD0 (rfl)).symm)
def lawsFnStoreLimits_f0 (code : (List UInt8)) (k0 : Nat) (s0 : Int × StoreD) : Rd (Bool) (Int × StoreD) (Int × StoreD) := (bif ((implCreateFile s0.2 (0, Int.tmod (nth (specDrawPlaces code) (Int.toNat (Int.tmod ((k0 : Nat) : Int) 8))) 3, false, 0, []))).2.2 then (.next (IntKind.i64.wrap (s0.1 + 1), (((implCreateFile s0.2 (0, Int.tmod (nth (specDrawPlaces code) (Int.toNat (Int.tmod ((k0 : Nat) : Int) 8))) 3, false, 0, []))).1))) else (.next (s0.1, s0.2)))
def lawsFnStoreLimits_e0 (_ : Nat) (s0 : Int × StoreD) : Int × StoreD := (s0.1, s0.2)
def lawsFnStoreLimits (code : (List UInt8)) : Bool := (bif (lawsbig code) then true else (Out.on (forN (lawsFnStoreLimits_f0 code) lawsFnStoreLimits_e0 (Int.toNat (14 : Int)) 0 (0, (implNewStore specDefaultSchema))) (fun y0 => ((y0.1 == (12 : Int)) && ((((implFileIDs y0.2).length : Int) == (12 : Int)) && (implIsValidStore y0.2))))))
theorem lawsFnStoreLimits_a (code : (List UInt8)) : ACalls Try.prog 3 [.h code] (.b (lawsFnStoreLimits code)) := by
  refine acalls_of (tt := tt) tt_ok Try.func3 (fn := Try.f3) rfl (by unfold FnOk; kernel_rfl) (Nat.le_of_ble_eq_true rfl) fun w0 F0 hG => ?_
  have hpl := places_len code
  refine awp_seq ?_
  refine rk tt_ok [(2, .b false)] [] [] [] [] (o0) ?_
  refine awp_seq ?_
  refine awp_seq ?_
  refine rk tt_ok [(11, .b (lawsbig code))] [] [] [] [(1, .val (.b (lawsbig code)))] (o1 (ob_call (lawsbig_a code))) ?_
  refine ck (lawsbig code) (fun h1 => ?_) (fun h1 => ?_)
  ·
    refine awp_seq ?_
    refine rk tt_ok [(2, .b true)] [2, 11] [] [] [] (o0) ?_
    refine awp_ret ?_
    exact pret [] (congrArg (fun z => (.b z : AV)) (show lawsFnStoreLimits code = true from bif_t h1 (rfl)).symm)
  ·
    refine awp_skip ?_
    refine awp_seq ?_
    refine rk tt_ok [(3, .o 832 (specDrawPlaces code))] [0, 11] [] [] [(1, .val (.o 0 (specDrawPlaces code)))] (o1 (ob_call (specDrawPlaces_a code))) ?_
    refine awp_seq ?_
    refine rk tt_ok [(4, .p 4 0)] [] [(4, [.o 960 ((implNewStore specDefaultSchema).1), .o 961 ((implNewStore specDefaultSchema).2.1), .i ((implNewStore specDefaultSchema).2.2)])] [] [(0, .val (.o 0 specDefaultSchema)), (1, .val (.a [.o 0 ((implNewStore specDefaultSchema).1), .o 1 ((implNewStore specDefaultSchema).2.1), .i ((implNewStore specDefaultSchema).2.2)]))] (o2 (ob_call (specDefaultSchema_a)) (o1 (ob_call (implNewStore_a specDefaultSchema)))) ?_
    refine awp_seq ?_
    refine rk tt_ok [(5, .i 0)] [] [] [] [] (o0) ?_
    refine awp_seq ?_
    refine awp_seq ?_
    refine rk tt_ok [(6, .i 0)] [] [] [] [] (o0) ?_
    refine blk (fun (k0 : Nat) (s0 : Int × StoreD) => [(5, .i s0.1), (6, .i ((k0 : Nat) : Int))]) [5, 6] (fun k0 s0 => [(4, [.o 147205 s0.2.1, .o 147206 s0.2.2.1, .i s0.2.2.2])]) [4] (fun (y0 : Int × StoreD) => [(5, .i y0.1)]) [3, 5, 6] (fun y0 => [(4, [.o 147355 y0.2.1, .o 147356 y0.2.2.1, .i y0.2.2.2])]) [4] (fun (k0 : Nat) (s0 : Int × StoreD) => (forN (lawsFnStoreLimits_f0 code) lawsFnStoreLimits_e0 (Int.toNat (14 : Int)) 0 (0, (implNewStore specDefaultSchema))) = forN (lawsFnStoreLimits_f0 code) lawsFnStoreLimits_e0 ((Int.toNat (14 : Int)) - k0) k0 s0) (fun (y0 : Int × StoreD) => (forN (lawsFnStoreLimits_f0 code) lawsFnStoreLimits_e0 (Int.toNat (14 : Int)) 0 (0, (implNewStore specDefaultSchema))) = .brk y0) (Int.toNat (14 : Int)) (0, (implNewStore specDefaultSchema)) (weak_sf [(960, 147205), (961, 147206)] (by kernel_rfl)) rfl (fun k0 s0 hk0 hI0 => ?_) (fun k0 s0 hk0 hI0 => ?_) (fun y0 hD0 => ?_)
    ·
      have hm0 : 0 ≤ Int.tmod ((k0 : Nat) : Int) 8 ∧ Int.tmod ((k0 : Nat) : Int) 8 < 8 := ⟨Int.tmod_nonneg _ (by omega), Int.tmod_lt_of_pos _ (by decide)⟩
      refine awp_seq ?_
      refine awp_seq ?_
      refine rk tt_ok [(17, .b true)] [] [] [] [(1, .val (.b true))] (o1 (ob_eq (av_bool (decide_eq_true (p := ((k0 : Nat) : Int) < (14 : Int)) (by omega))))) ?_
      refine ckT ?_
      refine awp_skip ?_
      refine awp_seq ?_
      refine awp_block ?_
      refine awp_seq ?_
      refine wdT 3 0 (.own true 832) (specDrawPlaces code) (fun hw3 => ?_)
      have hl4 : List.length (specDrawPlaces code) ≤ 1073741824 := wide_len (hw3)
      have hx2 : (specDrawPlaces code)[(Int.toNat (Int.tmod ((k0 : Nat) : Int) 8))]? = some (nth (specDrawPlaces code) (Int.toNat (Int.tmod ((k0 : Nat) : Int) 8))) := nth_get (by omega)
      have hx2b := places_bd code _ (List.mem_of_getElem? hx2)
      refine rd' tt_ok tt_mx [(7, .p 7 0), (9, .b (((implCreateFile s0.2 (0, Int.tmod (nth (specDrawPlaces code) (Int.toNat (Int.tmod ((k0 : Nat) : Int) 8))) 3, false, 0, []))).2.2))] [17] [(7, [.o 1856 ((((implCreateFile s0.2 (0, Int.tmod (nth (specDrawPlaces code) (Int.toNat (Int.tmod ((k0 : Nat) : Int) 8))) 3, false, 0, []))).1).1), .o 1857 ((((implCreateFile s0.2 (0, Int.tmod (nth (specDrawPlaces code) (Int.toNat (Int.tmod ((k0 : Nat) : Int) 8))) 3, false, 0, []))).1).2.1), .i ((((implCreateFile s0.2 (0, Int.tmod (nth (specDrawPlaces code) (Int.toNat (Int.tmod ((k0 : Nat) : Int) 8))) 3, false, 0, []))).1).2.2)])] [] [(4, .rowE [.i (nth (specDrawPlaces code) (Int.toNat (Int.tmod ((k0 : Nat) : Int) 8)))]), (8, .val (.tup [(true, [.o 0 ((((implCreateFile s0.2 (0, Int.tmod (nth (specDrawPlaces code) (Int.toNat (Int.tmod ((k0 : Nat) : Int) 8))) 3, false, 0, []))).1).1), .o 1 ((((implCreateFile s0.2 (0, Int.tmod (nth (specDrawPlaces code) (Int.toNat (Int.tmod ((k0 : Nat) : Int) 8))) 3, false, 0, []))).1).2.1), .i ((((implCreateFile s0.2 (0, Int.tmod (nth (specDrawPlaces code) (Int.toNat (Int.tmod ((k0 : Nat) : Int) 8))) 3, false, 0, []))).1).2.2)]), (false, [.i (((implCreateFile s0.2 (0, Int.tmod (nth (specDrawPlaces code) (Int.toNat (Int.tmod ((k0 : Nat) : Int) 8))) 3, false, 0, []))).2.1)]), (false, [.b (((implCreateFile s0.2 (0, Int.tmod (nth (specDrawPlaces code) (Int.toNat (Int.tmod ((k0 : Nat) : Int) 8))) 3, false, 0, []))).2.2)])]))] (o2 (ob_nz (n := 8) (by omega)) (o2 (ob_inr (k := .i64) (n := Int.tmod ((k0 : Nat) : Int) 8) (inr_rem0 (by omega))) (o2 (ob_elem (el_of (i := Int.tmod ((k0 : Nat) : Int) 8) (by omega) rfl hx2)) (o2 (ob_nz (n := 3) (by omega)) (o2 (ob_inr (k := .i64) (n := Int.tmod (nth (specDrawPlaces code) (Int.toNat (Int.tmod ((k0 : Nat) : Int) 8))) 3) (inr_rem0 (by omega))) (o1 (ob_call (implCreateFile_a s0.2 (0, Int.tmod (nth (specDrawPlaces code) (Int.toNat (Int.tmod ((k0 : Nat) : Int) 8))) 3, false, 0, []))))))))) ?_
      refine awp_seq ?_
      refine rk tt_ok [(33, .b (((implCreateFile s0.2 (0, Int.tmod (nth (specDrawPlaces code) (Int.toNat (Int.tmod ((k0 : Nat) : Int) 8))) 3, false, 0, []))).2.2))] [9] [] [] [] (o0) ?_
      refine ck (((implCreateFile s0.2 (0, Int.tmod (nth (specDrawPlaces code) (Int.toNat (Int.tmod ((k0 : Nat) : Int) 8))) 3, false, 0, []))).2.2) (fun h5 => ?_) (fun h5 => ?_)
      ·
        refine awp_seq ?_
        refine rk tt_ok [(5, .i (IntKind.i64.wrap (s0.1 + 1)))] [5, 33] [] [] [] (o0) ?_
        refine rk tt_ok [] [7] [(4, [.o 1856 ((((implCreateFile s0.2 (0, Int.tmod (nth (specDrawPlaces code) (Int.toNat (Int.tmod ((k0 : Nat) : Int) 8))) 3, false, 0, []))).1).1), .o 1857 ((((implCreateFile s0.2 (0, Int.tmod (nth (specDrawPlaces code) (Int.toNat (Int.tmod ((k0 : Nat) : Int) 8))) 3, false, 0, []))).1).2.1), .i ((((implCreateFile s0.2 (0, Int.tmod (nth (specDrawPlaces code) (Int.toNat (Int.tmod ((k0 : Nat) : Int) 8))) 3, false, 0, []))).1).2.2)])] [4, 7] [] (o0) ?_
        refine rk tt_ok [(6, .i ((k0 + 1 : Nat) : Int))] [6] [] [] [(1, .val (.i ((k0 + 1 : Nat) : Int)))] (o1 (ob_eq (av_i (wrap_succ k0 (by omega))))) ?_
        exact Exists.intro (IntKind.i64.wrap (s0.1 + 1), (((implCreateFile s0.2 (0, Int.tmod (nth (specDrawPlaces code) (Int.toNat (Int.tmod ((k0 : Nat) : Int) 8))) 3, false, 0, []))).1)) (And.intro (weak_sf [(1856, 147205), (1857, 147206)] (by kernel_rfl)) (forN_next hk0 (bif_t h5 (rfl)) hI0))
      ·
        refine awp_skip ?_
        refine rk tt_ok [(6, .i ((k0 + 1 : Nat) : Int))] [6, 7, 33] [] [7] [(1, .val (.i ((k0 + 1 : Nat) : Int)))] (o1 (ob_eq (av_i (wrap_succ k0 (by omega))))) ?_
        exact Exists.intro (s0.1, s0.2) (And.intro (weak_fit (by kernel_rfl)) (forN_next hk0 (bif_f h5 (rfl)) hI0))
    ·
      refine awp_seq ?_
      refine awp_seq ?_
      refine rk tt_ok [(17, .b false)] [] [] [] [(1, .val (.b false))] (o1 (ob_eq (av_bool (decide_eq_false (p := ((k0 : Nat) : Int) < (14 : Int)) (by omega))))) ?_
      refine ckF ?_
      refine awp_exit ?_
      exact Exists.intro (s0.1, s0.2) (And.intro (weak_sf [(147205, 147355), (147206, 147356)] (by kernel_rfl)) (forN_end hk0 (rfl) hI0))
    ·
      refine awp_seq ?_
      refine jn [(2, .b ((y0.1 == (12 : Int)) && ((((implFileIDs y0.2).length : Int) == (12 : Int)) && (implIsValidStore y0.2))))] [2, 4, 5] [] [4] (y0.1 == (12 : Int)) (fun h6 => ?_) (fun h6 => ?_) ?_
      ·
        have h6d := eq_of_beq h6
        refine awp_split (((implFileIDs y0.2).length : Int) == (12 : Int)) (fun h7 => ?_) (fun h7 => ?_)
        ·
          have h7d := eq_of_beq h7
          refine rk tt_ok [(2, .b (implIsValidStore y0.2))] [2, 4, 5] [] [4] [(1, .val (.b true)), (4, .val (.o 0 (implFileIDs y0.2))), (5, .val (.i ((implFileIDs y0.2).length : Int))), (6, .val (.b true)), (10, .val (.b (implIsValidStore y0.2)))] (o2 (ob_eq (av_bool h6)) (o2 (ob_call (implFileIDs_a y0.2)) (o2 (ob_eq (av_len (implFileIDs y0.2))) (o2 (ob_eq (av_bool h7)) (o1 (ob_call (implIsValidStore_a y0.2))))))) ?_
          exact ⟨rfl, weak_fit (by rw [h6, h7]; first | done | kernel_rfl)⟩
        ·
          have h7d := ne_of_beq h7
          refine rk tt_ok [] [4, 5] [] [4] [(1, .val (.b true)), (4, .val (.o 0 (implFileIDs y0.2))), (5, .val (.i ((implFileIDs y0.2).length : Int))), (6, .val (.b false))] (o2 (ob_eq (av_bool h6)) (o2 (ob_call (implFileIDs_a y0.2)) (o2 (ob_eq (av_len (implFileIDs y0.2))) (o1 (ob_eq (av_bool h7)))))) ?_
          exact ⟨rfl, weak_fit (by rw [h6, h7]; first | done | kernel_rfl)⟩
      ·
        have h6d := ne_of_beq h6
        refine rk tt_ok [] [4, 5] [] [4] [(1, .val (.b false))] (o1 (ob_eq (av_bool h6))) ?_
        exact ⟨rfl, weak_fit (by rw [h6]; first | done | kernel_rfl)⟩
      refine awp_ret ?_
      exact pret [] (congrArg (fun z => (.b z : AV)) (show lawsFnStoreLimits code = ((y0.1 == (12 : Int)) && ((((implFileIDs y0.2).length : Int) == (12 : Int)) && (implIsValidStore y0.2))) from bif_f h1 (on_b hD0 (rfl))).symm)
end Go.Proofs.Ytceekipigpcilaa
