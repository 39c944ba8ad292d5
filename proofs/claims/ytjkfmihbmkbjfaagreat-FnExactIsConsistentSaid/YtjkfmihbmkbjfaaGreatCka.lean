/- What functions compute, and that they do (printed by am2.py): each function as a Lean function, then its contract. -/
import Derived.Test.YtjkfmihbmkbjfaaGreatZc
import Derived.Test.YtjkfmihbmkbjfaaGreatProg
import Derived.Test.YtjkfmihbmkbjfaaGreatTy
import Derived.Test.YtjkfmihbmkbjfaaGreatKn
import Derived.KernelRfl
set_option linter.unusedVariables false
set_option linter.unusedSimpArgs false
namespace Go.Proofs.YtjkfmihbmkbjfaaGreat
open Go.RowKit
open GoE (enc wide)
def tt : List (Nat × TI) := [(3, ⟨.int .i64, 1, [.i 0], []⟩),
  (4, ⟨.bool, 1, [.b false], []⟩),
  (5, ⟨.int .u8, 1, [.int .u8 0], []⟩),
  (9, ⟨.str, 1, [.s ⟨#[]⟩], []⟩),
  (29, ⟨.struct [(0, 3, true), (3, 1, false), (4, 1, false)], 5, [.e 0, .e 0, .i 0, .e 0, .e 0], []⟩),
  (34, ⟨.sli 3, 1, [.e 0], []⟩),
  (38, ⟨.sli 140, 1, [.e 0], []⟩),
  (39, ⟨.sli 162, 1, [.e 0], []⟩),
  (41, ⟨.struct [(0, 1, false), (1, 1, false), (2, 1, false)], 3, [.e 0, .e 0, .i 0], []⟩),
  (42, ⟨.sli 117, 1, [.e 0], []⟩),
  (44, ⟨.struct [(0, 3, true), (3, 1, false)], 4, [.e 0, .e 0, .i 0, .e 0], []⟩),
  (46, ⟨.sli 114, 1, [.e 0], []⟩),
  (48, ⟨.struct [(0, 3, true), (3, 1, false), (4, 1, false)], 5, [.e 0, .e 0, .i 0, .e 0, .e 0], []⟩),
  (50, ⟨.sli 104, 1, [.e 0], []⟩),
  (104, ⟨.struct [(0, 1, false), (1, 4, true), (5, 1, false)], 6, [.i 0, .e 0, .e 0, .i 0, .e 0, .i 0], []⟩),
  (114, ⟨.struct [(0, 1, false), (1, 1, false)], 2, [.s ⟨#[]⟩, .e 0], []⟩),
  (115, ⟨.sli 187, 1, [.e 0], []⟩),
  (117, ⟨.struct [(0, 1, false), (1, 1, false)], 2, [.s ⟨#[]⟩, .e 0], []⟩),
  (118, ⟨.sli 9, 1, [.e 0], []⟩),
  (140, ⟨.struct [(0, 1, false), (1, 1, false)], 2, [.s ⟨#[]⟩, .i 0], []⟩),
  (160, ⟨.sli 204, 1, [.e 0], []⟩),
  (162, ⟨.struct [(0, 1, false), (1, 1, false), (2, 1, false), (3, 1, false), (4, 1, false)], 5, [.i 0, .i 0, .b false, .i 0, .e 0], []⟩),
  (167, ⟨.struct [(0, 1, false), (1, 1, false)], 2, [.i 0, .e 0], []⟩),
  (185, ⟨.struct [(0, 1, false), (1, 1, false), (2, 1, false)], 3, [.i 0, .i 0, .s ⟨#[]⟩], [.int, .int, .str]⟩),
  (187, ⟨.struct [(0, 1, false), (1, 1, false), (2, 1, false), (3, 1, false), (4, 3, true)], 7, [.i 0, .i 0, .i 0, .s ⟨#[]⟩, .i 0, .i 0, .s ⟨#[]⟩], [.int, .int, .int, .str, .int, .int, .str]⟩),
  (204, ⟨.struct [(0, 1, false), (1, 3, true)], 4, [.s ⟨#[]⟩, .i 0, .i 0, .s ⟨#[]⟩], []⟩),
  (249, ⟨.sli 4, 1, [.e 0], []⟩)]
theorem tt_ok : ttOk Tryz.prog tt = true := by kernel_rfl
theorem tt_mx : Tryz.prog.follows .mixedOrders = true := by kernel_rfl
def implIsValidAttrName (s_ : ByteArray) : Bool := (((ByteArray.size s_ : Int) == (1 : Int)) && (decide (strAt s_ 0 ≥ (97 : Int)) && decide (strAt s_ 0 ≤ (122 : Int))))
theorem implIsValidAttrName_a (s_ : ByteArray) : ACalls Tryz.prog 159 [.s s_] (.b (implIsValidAttrName s_)) := by
  refine acalls_of (tt := tt) tt_ok Tryz.func159 (fn := Tryz.f159) rfl (by unfold FnOk; kernel_rfl) (Nat.le_of_ble_eq_true rfl) fun w0 F0 => ?_
  refine awp_seq ?_
  refine rk tt_ok [(2, .b false)] [] [] [] [] (o0) ?_
  refine awp_seq ?_
  refine jn [(2, .b (((ByteArray.size s_ : Int) == (1 : Int)) && (decide (strAt s_ 0 ≥ (97 : Int)) && decide (strAt s_ 0 ≤ (122 : Int)))))] [0, 2] [] [] ((ByteArray.size s_ : Int) == (1 : Int)) (fun h1 => ?_) (fun h1 => ?_) ?_
  ·
    have h1d := eq_of_beq h1
    refine awp_split (decide (strAt s_ 0 ≥ (97 : Int))) (fun h2 => ?_) (fun h2 => ?_)
    ·
      have h2d := of_decide_eq_true h2
      refine rk tt_ok [(2, .b (decide (strAt s_ 0 ≤ (122 : Int))))] [0, 2] [] [] [(2, .val (.b true)), (6, .val (.b true))] (o2 (ob_eq (av_bool h1)) (o2 (ob_idx (i := 0) (n := (ByteArray.size s_)) (by omega)) (o2 (ob_eq (av_bool h2)) (o1 (ob_idx (i := 0) (n := (ByteArray.size s_)) (by omega)))))) ?_
      exact ⟨rfl, weak_fit (by rw [h1, h2]; first | done | kernel_rfl)⟩
    ·
      have h2d := of_decide_eq_false h2
      refine rk tt_ok [] [0] [] [] [(2, .val (.b true)), (6, .val (.b false))] (o2 (ob_eq (av_bool h1)) (o2 (ob_idx (i := 0) (n := (ByteArray.size s_)) (by omega)) (o1 (ob_eq (av_bool h2))))) ?_
      exact ⟨rfl, weak_fit (by rw [h1, h2]; first | done | kernel_rfl)⟩
  ·
    have h1d := ne_of_beq h1
    refine rk tt_ok [] [0] [] [] [(2, .val (.b false))] (o1 (ob_eq (av_bool h1))) ?_
    exact ⟨rfl, weak_fit (by rw [h1]; first | done | kernel_rfl)⟩
  refine awp_ret ?_
  exact pret [] (congrArg (fun z => (.b z : AV)) (show implIsValidAttrName s_ = (((ByteArray.size s_ : Int) == (1 : Int)) && (decide (strAt s_ 0 ≥ (97 : Int)) && decide (strAt s_ 0 ≤ (122 : Int)))) from rfl).symm)
def implwithin (n : Int) (low : Int) (high_ : Int) : Bool := (decide (low ≤ n) && decide (n ≤ high_))
theorem implwithin_a (n : Int) (low : Int) (high_ : Int) : ACalls Tryz.prog 66 [.i n, .i low, .i high_] (.b (implwithin n low high_)) := by
  refine acalls_of (tt := tt) tt_ok Tryz.func66 (fn := Tryz.f66) rfl (by unfold FnOk; kernel_rfl) (Nat.le_of_ble_eq_true rfl) fun w0 F0 => ?_
  refine awp_seq ?_
  refine rk tt_ok [(6, .b false)] [] [] [] [] (o0) ?_
  refine awp_seq ?_
  refine jn [(6, .b (decide (low ≤ n) && decide (n ≤ high_)))] [0, 1, 2, 6] [] [] (decide (low ≤ n)) (fun h1 => ?_) (fun h1 => ?_) ?_
  ·
    have h1d := of_decide_eq_true h1
    refine rk tt_ok [(6, .b (decide (n ≤ high_)))] [0, 1, 2, 6] [] [] [(2, .val (.b true))] (o1 (ob_eq (av_bool h1))) ?_
    exact ⟨rfl, weak_fit (by rw [h1]; first | done | kernel_rfl)⟩
  ·
    have h1d := of_decide_eq_false h1
    refine rk tt_ok [] [0, 1, 2] [] [] [(2, .val (.b false))] (o1 (ob_eq (av_bool h1))) ?_
    exact ⟨rfl, weak_fit (by rw [h1]; first | done | kernel_rfl)⟩
  refine awp_ret ?_
  exact pret [] (congrArg (fun z => (.b z : AV)) (show implwithin n low high_ = (decide (low ≤ n) && decide (n ≤ high_)) from rfl).symm)
def implIsValidString_f0 (s_ : ByteArray) (k0 : Nat) (_ : Unit) : Rd (Bool) (Unit) (Unit) := (bif (decide (strAt s_ ((k0 : Nat) : Int) < (97 : Int)) || decide (strAt s_ ((k0 : Nat) : Int) > (122 : Int))) then (.ret false) else (.next ()))
def implIsValidString_e0 (_ : Nat) (_ : Unit) : Unit := ()
def implIsValidString (s_ : ByteArray) : Bool := (Out.on (forN (implIsValidString_f0 s_) implIsValidString_e0 (Int.toNat (ByteArray.size s_ : Int)) 0 ()) (fun _ => (implwithin (ByteArray.size s_ : Int) 1 6)))
theorem implIsValidString_a (s_ : ByteArray) : ACalls Tryz.prog 190 [.s s_] (.b (implIsValidString s_)) := by
  refine acalls_of (tt := tt) tt_ok Tryz.func190 (fn := Tryz.f190) rfl (by unfold FnOk; kernel_rfl) (Nat.le_of_ble_eq_true rfl) fun w0 F0 => ?_
  refine awp_seq ?_
  refine rk tt_ok [(2, .b false)] [] [] [] [] (o0) ?_
  refine awp_seq ?_
  refine awp_seq ?_
  refine rk tt_ok [(5, .i (ByteArray.size s_ : Int)), (6, .i 0)] [] [] [] [] (o0) ?_
  refine stT 0 0 s_ (fun hs1 => ?_)
  refine blk (fun (k0 : Nat) (s0 : Unit) => [(6, .i ((k0 : Nat) : Int))]) [6] (fun k0 s0 => []) [] (fun (y0 : Unit) => []) [5, 6] (fun y0 => []) [] (fun (k0 : Nat) (s0 : Unit) => (forN (implIsValidString_f0 s_) implIsValidString_e0 (Int.toNat (ByteArray.size s_ : Int)) 0 ()) = forN (implIsValidString_f0 s_) implIsValidString_e0 ((Int.toNat (ByteArray.size s_ : Int)) - k0) k0 s0) (fun (y0 : Unit) => (forN (implIsValidString_f0 s_) implIsValidString_e0 (Int.toNat (ByteArray.size s_ : Int)) 0 ()) = .brk y0) (Int.toNat (ByteArray.size s_ : Int)) () (weak_fit (by kernel_rfl)) rfl (fun k0 s0 hk0 hI0 => ?_) (fun k0 s0 hk0 hI0 => ?_) (fun y0 hD0 => ?_)
  ·
    refine awp_seq ?_
    refine rk tt_ok [(7, .b true)] [] [] [] [(0, .val (.b true))] (o1 (ob_eq (av_bool (decide_eq_true (p := ((k0 : Nat) : Int) < (ByteArray.size s_ : Int)) (by omega))))) ?_
    refine awp_seq ?_
    refine ckT ?_
    refine awp_skip ?_
    refine awp_seq ?_
    refine awp_block ?_
    refine awp_seq ?_
    refine rk tt_ok [(3, .i ((k0 : Nat) : Int))] [7] [] [] [] (o0) ?_
    refine awp_seq ?_
    refine jn [(18, .b (decide (strAt s_ ((k0 : Nat) : Int) < (97 : Int)) || decide (strAt s_ ((k0 : Nat) : Int) > (122 : Int))))] [3] [] [] (decide (strAt s_ ((k0 : Nat) : Int) < (97 : Int))) (fun h2 => ?_) (fun h2 => ?_) ?_
    ·
      have h2d := of_decide_eq_true h2
      refine rk tt_ok [(18, .b true)] [3] [] [] [(3, .val (.b true))] (o2 (ob_idx (i := ((k0 : Nat) : Int)) (n := (ByteArray.size s_)) (by omega)) (o1 (ob_eq (av_bool h2)))) ?_
      exact ⟨rfl, weak_fit (by rw [h2]; first | done | kernel_rfl)⟩
    ·
      have h2d := of_decide_eq_false h2
      refine rk tt_ok [(18, .b (decide (strAt s_ ((k0 : Nat) : Int) > (122 : Int))))] [3] [] [] [(3, .val (.b false))] (o2 (ob_idx (i := ((k0 : Nat) : Int)) (n := (ByteArray.size s_)) (by omega)) (o2 (ob_eq (av_bool h2)) (o1 (ob_idx (i := ((k0 : Nat) : Int)) (n := (ByteArray.size s_)) (by omega))))) ?_
      exact ⟨rfl, weak_fit (by rw [h2]; first | done | kernel_rfl)⟩
    refine ck (decide (strAt s_ ((k0 : Nat) : Int) < (97 : Int)) || decide (strAt s_ ((k0 : Nat) : Int) > (122 : Int))) (fun h3 => ?_) (fun h3 => ?_)
    ·
      refine awp_seq ?_
      refine rk tt_ok [] [18] [] [] [] (o0) ?_
      refine awp_ret ?_
      have hr4 : (forN (implIsValidString_f0 s_) implIsValidString_e0 (Int.toNat (ByteArray.size s_ : Int)) 0 ()) = .ret false := forN_ret hk0 (bif_t h3 (rfl)) hI0
      exact pret [] (congrArg (fun z => (.b z : AV)) (show implIsValidString s_ = false from on_r hr4).symm)
    ·
      have h3l : (decide (strAt s_ ((k0 : Nat) : Int) < (97 : Int))) = false := or_l h3
      have h3ld := of_decide_eq_false h3l
      have h3r : (decide (strAt s_ ((k0 : Nat) : Int) > (122 : Int))) = false := or_r h3
      have h3rd := of_decide_eq_false h3r
      refine awp_skip ?_
      refine rk tt_ok [(6, .i ((k0 + 1 : Nat) : Int))] [6, 18] [] [] [(0, .val (.i ((k0 + 1 : Nat) : Int)))] (o1 (ob_eq (av_i (wrap_succ k0 (by omega))))) ?_
      exact Exists.intro () (And.intro (weak_fit (by kernel_rfl)) (forN_next hk0 (bif_f h3 (rfl)) hI0))
  ·
    refine awp_seq ?_
    refine rk tt_ok [(7, .b false)] [] [] [] [(0, .val (.b false))] (o1 (ob_eq (av_bool (decide_eq_false (p := ((k0 : Nat) : Int) < (ByteArray.size s_ : Int)) (by omega))))) ?_
    refine awp_seq ?_
    refine ckF ?_
    refine awp_exit ?_
    exact Exists.intro () (And.intro (weak_fit (by kernel_rfl)) (forN_end hk0 (rfl) hI0))
  ·
    refine awp_seq ?_
    refine rk tt_ok [(2, .b (implwithin (ByteArray.size s_ : Int) 1 6))] [0, 2] [] [] [(2, .val (.b (implwithin (ByteArray.size s_ : Int) 1 6)))] (o1 (ob_call (implwithin_a (ByteArray.size s_ : Int) 1 6))) ?_
    refine awp_ret ?_
    exact pret [] (congrArg (fun z => (.b z : AV)) (show implIsValidString s_ = (implwithin (ByteArray.size s_ : Int) 1 6) from on_b hD0 (rfl)).symm)
def implIsValidValue (v : ValueD) : Bool := (bif (v.1 == (0 : Int)) then ((v.1 == 0) && ((v.2.1 == 0) && ((v.2.2.toList == (⟨#[]⟩ : ByteArray).toList) && true))) else (bif (v.1 == (1 : Int)) then ((implwithin v.2.1 0 999) && (v.2.2.toList == (⟨#[]⟩ : ByteArray).toList)) else (bif (v.1 == (2 : Int)) then ((implIsValidString v.2.2) && (v.2.1 == (0 : Int))) else false)))
theorem implIsValidValue_a (v : ValueD) : ACalls Tryz.prog 188 [.a [.i v.1, .i v.2.1, .s v.2.2]] (.b (implIsValidValue v)) := by
  refine acalls_of (tt := tt) tt_ok Tryz.func188 (fn := Tryz.f188) rfl (by unfold FnOk; kernel_rfl) (Nat.le_of_ble_eq_true rfl) fun w0 F0 => ?_
  refine awp_seq ?_
  refine rk tt_ok [(1, .p 1 0), (2, .b false)] [0] [(1, [.i v.1, .i v.2.1, .s v.2.2])] [] [] (o0) ?_
  refine awp_seq ?_
  refine awp_seq ?_
  refine rk tt_ok [(4, .i v.1)] [] [] [] [] (o0) ?_
  refine awp_block ?_
  refine awp_seq ?_
  refine rk tt_ok [(5, .b (v.1 == (0 : Int)))] [] [] [] [] (o0) ?_
  refine ck (v.1 == (0 : Int)) (fun h1 => ?_) (fun h1 => ?_)
  ·
    have h1d := eq_of_beq h1
    refine awp_seq ?_
    refine rk tt_ok [(2, .b ((v.1 == 0) && ((v.2.1 == 0) && ((v.2.2.toList == (⟨#[]⟩ : ByteArray).toList) && true))))] [1, 2, 4, 5] [] [1] [] (o0) ?_
    refine awp_ret ?_
    exact pret [] (congrArg (fun z => (.b z : AV)) (show implIsValidValue v = ((v.1 == 0) && ((v.2.1 == 0) && ((v.2.2.toList == (⟨#[]⟩ : ByteArray).toList) && true))) from bif_t h1 (rfl)).symm)
  ·
    have h1d := ne_of_beq h1
    refine awp_seq ?_
    refine rk tt_ok [(10, .b (v.1 == (1 : Int)))] [5] [] [] [] (o0) ?_
    refine ck (v.1 == (1 : Int)) (fun h2 => ?_) (fun h2 => ?_)
    ·
      have h2d := eq_of_beq h2
      refine awp_seq ?_
      refine jn [(2, .b ((implwithin v.2.1 0 999) && (v.2.2.toList == (⟨#[]⟩ : ByteArray).toList)))] [1, 2, 4, 10] [] [1] (implwithin v.2.1 0 999) (fun h3 => ?_) (fun h3 => ?_) ?_
      ·
        refine rk tt_ok [(2, .b (v.2.2.toList == (⟨#[]⟩ : ByteArray).toList))] [1, 2, 4, 10] [] [1] [(2, .val (.b true))] (o1 (ob_call (cb h3 (implwithin_a v.2.1 0 999)))) ?_
        exact ⟨rfl, weak_fit (by rw [h3]; first | done | kernel_rfl)⟩
      ·
        refine rk tt_ok [] [1, 4, 10] [] [1] [(2, .val (.b false))] (o1 (ob_call (cb h3 (implwithin_a v.2.1 0 999)))) ?_
        exact ⟨rfl, weak_fit (by rw [h3]; first | done | kernel_rfl)⟩
      refine awp_ret ?_
      exact pret [] (congrArg (fun z => (.b z : AV)) (show implIsValidValue v = ((implwithin v.2.1 0 999) && (v.2.2.toList == (⟨#[]⟩ : ByteArray).toList)) from bif_f h1 (bif_t h2 (rfl))).symm)
    ·
      have h2d := ne_of_beq h2
      refine awp_seq ?_
      refine rk tt_ok [(20, .b (v.1 == (2 : Int)))] [4, 10] [] [] [] (o0) ?_
      refine ck (v.1 == (2 : Int)) (fun h4 => ?_) (fun h4 => ?_)
      ·
        have h4d := eq_of_beq h4
        refine awp_seq ?_
        refine jn [(2, .b ((implIsValidString v.2.2) && (v.2.1 == (0 : Int))))] [1, 2, 20] [] [1] (implIsValidString v.2.2) (fun h5 => ?_) (fun h5 => ?_) ?_
        ·
          refine rk tt_ok [(2, .b (v.2.1 == (0 : Int)))] [1, 2, 20] [] [1] [(2, .val (.b true))] (o1 (ob_call (cb h5 (implIsValidString_a v.2.2)))) ?_
          exact ⟨rfl, weak_fit (by rw [h5]; first | done | kernel_rfl)⟩
        ·
          refine rk tt_ok [] [1, 20] [] [1] [(2, .val (.b false))] (o1 (ob_call (cb h5 (implIsValidString_a v.2.2)))) ?_
          exact ⟨rfl, weak_fit (by rw [h5]; first | done | kernel_rfl)⟩
        refine awp_ret ?_
        exact pret [] (congrArg (fun z => (.b z : AV)) (show implIsValidValue v = ((implIsValidString v.2.2) && (v.2.1 == (0 : Int))) from bif_f h1 (bif_f h2 (bif_t h4 (rfl)))).symm)
      ·
        have h4d := ne_of_beq h4
        refine awp_skip ?_
        refine awp_seq ?_
        refine rk tt_ok [] [1, 20] [] [1] [] (o0) ?_
        refine awp_ret ?_
        exact pret [] (congrArg (fun z => (.b z : AV)) (show implIsValidValue v = false from bif_f h1 (bif_f h2 (bif_f h4 (rfl)))).symm)
def implIsValidNode (n : NodeD) (at_ : Int) : Bool := (bif (n.1 == (1 : Int)) then ((n.1 == n.1) && ((n.2.1 == 0) && ((n.2.2.1 == 0) && ((n.2.2.2.1.toList == (⟨#[]⟩ : ByteArray).toList) && ((n.2.2.2.2.1 == 0) && ((n.2.2.2.2.2.1 == 0) && ((n.2.2.2.2.2.2.toList == (⟨#[]⟩ : ByteArray).toList) && true))))))) else (bif (n.1 == (2 : Int)) then (((n.1 == n.1) && ((n.2.1 == 0) && ((n.2.2.1 == 0) && ((n.2.2.2.1.toList == n.2.2.2.1.toList) && ((n.2.2.2.2.1 == 0) && ((n.2.2.2.2.2.1 == 0) && ((n.2.2.2.2.2.2.toList == (⟨#[]⟩ : ByteArray).toList) && true))))))) && (implIsValidAttrName n.2.2.2.1)) else (bif (bif (n.1 == (3 : Int)) then (n.1 == (3 : Int)) else (n.1 == (4 : Int))) then (((n.1 == n.1) && ((n.2.1 == 0) && ((n.2.2.1 == 0) && ((n.2.2.2.1.toList == n.2.2.2.1.toList) && ((n.2.2.2.2.1 == n.2.2.2.2.1) && ((n.2.2.2.2.2.1 == n.2.2.2.2.2.1) && ((n.2.2.2.2.2.2.toList == n.2.2.2.2.2.2.toList) && true))))))) && ((implIsValidAttrName n.2.2.2.1) && ((implIsValidValue n.2.2.2.2) && ((n.2.2.2.2.1 != (0 : Int)) && ((n.1 == (3 : Int)) || (n.2.2.2.2.1 == (1 : Int))))))) else (bif (n.1 == (5 : Int)) then (((n.1 == n.1) && ((n.2.1 == n.2.1) && ((n.2.2.1 == 0) && ((n.2.2.2.1.toList == (⟨#[]⟩ : ByteArray).toList) && ((n.2.2.2.2.1 == 0) && ((n.2.2.2.2.2.1 == 0) && ((n.2.2.2.2.2.2.toList == (⟨#[]⟩ : ByteArray).toList) && true))))))) && (decide (at_ > (0 : Int)) && (implwithin n.2.1 0 (IntKind.i64.wrap (at_ - 1))))) else (bif (bif (n.1 == (6 : Int)) then (n.1 == (6 : Int)) else (n.1 == (7 : Int))) then (((n.1 == n.1) && ((n.2.1 == n.2.1) && ((n.2.2.1 == n.2.2.1) && ((n.2.2.2.1.toList == (⟨#[]⟩ : ByteArray).toList) && ((n.2.2.2.2.1 == 0) && ((n.2.2.2.2.2.1 == 0) && ((n.2.2.2.2.2.2.toList == (⟨#[]⟩ : ByteArray).toList) && true))))))) && (decide (at_ > (0 : Int)) && ((implwithin n.2.1 0 (IntKind.i64.wrap (at_ - 1))) && (implwithin n.2.2.1 0 (IntKind.i64.wrap (at_ - 1)))))) else (bif (n.1 == (8 : Int)) then (((n.1 == n.1) && ((n.2.1 == 0) && ((n.2.2.1 == 0) && ((n.2.2.2.1.toList == n.2.2.2.1.toList) && ((n.2.2.2.2.1 == 0) && ((n.2.2.2.2.2.1 == 0) && ((n.2.2.2.2.2.2.toList == (⟨#[]⟩ : ByteArray).toList) && true))))))) && (implIsValidString n.2.2.2.1)) else (bif (n.1 == (9 : Int)) then (((n.1 == n.1) && ((n.2.1 == 0) && ((n.2.2.1 == 0) && ((n.2.2.2.1.toList == n.2.2.2.1.toList) && ((n.2.2.2.2.1 == 0) && ((n.2.2.2.2.2.1 == 0) && ((n.2.2.2.2.2.2.toList == (⟨#[]⟩ : ByteArray).toList) && true))))))) && (implIsValidString n.2.2.2.1)) else false)))))))
theorem implIsValidNode_a (n : NodeD) (at_ : Int) : ACalls Tryz.prog 206 [.a [.i n.1, .i n.2.1, .i n.2.2.1, .s n.2.2.2.1, .i n.2.2.2.2.1, .i n.2.2.2.2.2.1, .s n.2.2.2.2.2.2], .i at_] (.b (implIsValidNode n at_)) := by
  refine acalls_of (tt := tt) tt_ok Tryz.func206 (fn := Tryz.f206) rfl (by unfold FnOk; kernel_rfl) (Nat.le_of_ble_eq_true rfl) fun w0 F0 => ?_
  refine awp_seq ?_
  refine rk tt_ok [(2, .p 2 0), (4, .b false)] [0] [(2, [.i n.1, .i n.2.1, .i n.2.2.1, .s n.2.2.2.1, .i n.2.2.2.2.1, .i n.2.2.2.2.2.1, .s n.2.2.2.2.2.2])] [] [] (o0) ?_
  refine awp_seq ?_
  refine rk tt_ok [(5, .p 5 0)] [] [(5, [.i n.1, .i 0, .i 0, .s ⟨#[]⟩, .i 0, .i 0, .s ⟨#[]⟩])] [] [] (o0) ?_
  refine awp_seq ?_
  refine awp_seq ?_
  refine rk tt_ok [(10, .i n.1)] [] [] [] [] (o0) ?_
  refine awp_block ?_
  refine awp_seq ?_
  refine rk tt_ok [(11, .b (n.1 == (1 : Int)))] [] [] [] [] (o0) ?_
  refine ck (n.1 == (1 : Int)) (fun h1 => ?_) (fun h1 => ?_)
  ·
    have h1d := eq_of_beq h1
    refine awp_skip ?_
    refine awp_seq ?_
    refine rk tt_ok [(4, .b ((n.1 == n.1) && ((n.2.1 == 0) && ((n.2.2.1 == 0) && ((n.2.2.2.1.toList == (⟨#[]⟩ : ByteArray).toList) && ((n.2.2.2.2.1 == 0) && ((n.2.2.2.2.2.1 == 0) && ((n.2.2.2.2.2.2.toList == (⟨#[]⟩ : ByteArray).toList) && true))))))))] [1, 2, 4, 5, 10, 11] [] [2, 5] [] (o0) ?_
    refine awp_ret ?_
    exact pret [] (congrArg (fun z => (.b z : AV)) (show implIsValidNode n at_ = ((n.1 == n.1) && ((n.2.1 == 0) && ((n.2.2.1 == 0) && ((n.2.2.2.1.toList == (⟨#[]⟩ : ByteArray).toList) && ((n.2.2.2.2.1 == 0) && ((n.2.2.2.2.2.1 == 0) && ((n.2.2.2.2.2.2.toList == (⟨#[]⟩ : ByteArray).toList) && true))))))) from bif_t h1 (rfl)).symm)
  ·
    have h1d := ne_of_beq h1
    refine awp_seq ?_
    refine rk tt_ok [(13, .b (n.1 == (2 : Int)))] [11] [] [] [] (o0) ?_
    refine ck (n.1 == (2 : Int)) (fun h2 => ?_) (fun h2 => ?_)
    ·
      have h2d := eq_of_beq h2
      refine awp_seq ?_
      refine rk tt_ok [] [1, 10, 13] [(5, [.i n.1, .i 0, .i 0, .s n.2.2.2.1, .i 0, .i 0, .s ⟨#[]⟩])] [5] [] (o0) ?_
      refine awp_seq ?_
      refine jn [(4, .b (((n.1 == n.1) && ((n.2.1 == 0) && ((n.2.2.1 == 0) && ((n.2.2.2.1.toList == n.2.2.2.1.toList) && ((n.2.2.2.2.1 == 0) && ((n.2.2.2.2.2.1 == 0) && ((n.2.2.2.2.2.2.toList == (⟨#[]⟩ : ByteArray).toList) && true))))))) && (implIsValidAttrName n.2.2.2.1)))] [4] [] [] ((n.1 == n.1) && ((n.2.1 == 0) && ((n.2.2.1 == 0) && ((n.2.2.2.1.toList == n.2.2.2.1.toList) && ((n.2.2.2.2.1 == 0) && ((n.2.2.2.2.2.1 == 0) && ((n.2.2.2.2.2.2.toList == (⟨#[]⟩ : ByteArray).toList) && true))))))) (fun h3 => ?_) (fun h3 => ?_) ?_
      ·
        have h3l : ((n.1 == n.1)) = true := and_l h3
        have h3ld := eq_of_beq h3l
        have h3r : (((n.2.1 == 0) && ((n.2.2.1 == 0) && ((n.2.2.2.1.toList == n.2.2.2.1.toList) && ((n.2.2.2.2.1 == 0) && ((n.2.2.2.2.2.1 == 0) && ((n.2.2.2.2.2.2.toList == (⟨#[]⟩ : ByteArray).toList) && true))))))) = true := and_r h3
        have h3rl : ((n.2.1 == 0)) = true := and_l h3r
        have h3rld := eq_of_beq h3rl
        have h3rr : (((n.2.2.1 == 0) && ((n.2.2.2.1.toList == n.2.2.2.1.toList) && ((n.2.2.2.2.1 == 0) && ((n.2.2.2.2.2.1 == 0) && ((n.2.2.2.2.2.2.toList == (⟨#[]⟩ : ByteArray).toList) && true)))))) = true := and_r h3r
        have h3rrl : ((n.2.2.1 == 0)) = true := and_l h3rr
        have h3rrld := eq_of_beq h3rrl
        have h3rrr : (((n.2.2.2.1.toList == n.2.2.2.1.toList) && ((n.2.2.2.2.1 == 0) && ((n.2.2.2.2.2.1 == 0) && ((n.2.2.2.2.2.2.toList == (⟨#[]⟩ : ByteArray).toList) && true))))) = true := and_r h3rr
        have h3rrrl : ((n.2.2.2.1.toList == n.2.2.2.1.toList)) = true := and_l h3rrr
        have h3rrrr : (((n.2.2.2.2.1 == 0) && ((n.2.2.2.2.2.1 == 0) && ((n.2.2.2.2.2.2.toList == (⟨#[]⟩ : ByteArray).toList) && true)))) = true := and_r h3rrr
        have h3rrrrl : ((n.2.2.2.2.1 == 0)) = true := and_l h3rrrr
        have h3rrrrld := eq_of_beq h3rrrrl
        have h3rrrrr : (((n.2.2.2.2.2.1 == 0) && ((n.2.2.2.2.2.2.toList == (⟨#[]⟩ : ByteArray).toList) && true))) = true := and_r h3rrrr
        have h3rrrrrl : ((n.2.2.2.2.2.1 == 0)) = true := and_l h3rrrrr
        have h3rrrrrld := eq_of_beq h3rrrrrl
        have h3rrrrrr : (((n.2.2.2.2.2.2.toList == (⟨#[]⟩ : ByteArray).toList) && true)) = true := and_r h3rrrrr
        have h3rrrrrrl : ((n.2.2.2.2.2.2.toList == (⟨#[]⟩ : ByteArray).toList)) = true := and_l h3rrrrrr
        have h3rrrrrrr : (true) = true := and_r h3rrrrrr
        refine rk tt_ok [(4, .b (implIsValidAttrName n.2.2.2.1))] [4] [] [] [(2, .val (.b true)), (6, .val (.b (implIsValidAttrName n.2.2.2.1)))] (o2 (ob_eq (av_bool h3)) (o1 (ob_call (implIsValidAttrName_a n.2.2.2.1)))) ?_
        exact ⟨rfl, weak_fit (by rw [h3]; first | done | kernel_rfl)⟩
      ·
        refine rk tt_ok [] [] [] [] [(2, .val (.b false))] (o1 (ob_eq (av_bool h3))) ?_
        exact ⟨rfl, weak_fit (by rw [h3]; first | done | kernel_rfl)⟩
      refine awp_ret ?_
      exact pret [] (congrArg (fun z => (.b z : AV)) (show implIsValidNode n at_ = (((n.1 == n.1) && ((n.2.1 == 0) && ((n.2.2.1 == 0) && ((n.2.2.2.1.toList == n.2.2.2.1.toList) && ((n.2.2.2.2.1 == 0) && ((n.2.2.2.2.2.1 == 0) && ((n.2.2.2.2.2.2.toList == (⟨#[]⟩ : ByteArray).toList) && true))))))) && (implIsValidAttrName n.2.2.2.1)) from bif_f h1 (bif_t h2 (rfl))).symm)
    ·
      have h2d := ne_of_beq h2
      refine awp_seq ?_
      refine awp_seq ?_
      refine rk tt_ok [(26, .b (n.1 == (3 : Int)))] [13] [] [] [] (o0) ?_
      refine jn [(26, .b (bif (n.1 == (3 : Int)) then (n.1 == (3 : Int)) else (n.1 == (4 : Int))))] [26] [] [] (n.1 == (3 : Int)) (fun h4 => ?_) (fun h4 => ?_) ?_
      ·
        have h4d := eq_of_beq h4
        refine ckt h4 ?_
        refine awp_skip ?_
        exact ⟨rfl, weak_fit (by rw [h4]; first | done | kernel_rfl)⟩
      ·
        have h4d := ne_of_beq h4
        refine ckf h4 ?_
        refine rk tt_ok [(26, .b (n.1 == (4 : Int)))] [26] [] [] [] (o0) ?_
        exact ⟨rfl, weak_fit (by rw [h4]; first | done | kernel_rfl)⟩
      refine ck (bif (n.1 == (3 : Int)) then (n.1 == (3 : Int)) else (n.1 == (4 : Int))) (fun h5 => ?_) (fun h5 => ?_)
      ·
        refine awp_seq ?_
        refine rd' tt_ok tt_mx [] [1, 10, 26] [(5, [.i n.1, .i 0, .i 0, .s n.2.2.2.1, .i n.2.2.2.2.1, .i n.2.2.2.2.2.1, .s n.2.2.2.2.2.2])] [5] [] (o0) ?_
        refine awp_seq ?_
        refine jn [(4, .b (((n.1 == n.1) && ((n.2.1 == 0) && ((n.2.2.1 == 0) && ((n.2.2.2.1.toList == n.2.2.2.1.toList) && ((n.2.2.2.2.1 == n.2.2.2.2.1) && ((n.2.2.2.2.2.1 == n.2.2.2.2.2.1) && ((n.2.2.2.2.2.2.toList == n.2.2.2.2.2.2.toList) && true))))))) && ((implIsValidAttrName n.2.2.2.1) && ((implIsValidValue n.2.2.2.2) && ((n.2.2.2.2.1 != (0 : Int)) && ((n.1 == (3 : Int)) || (n.2.2.2.2.1 == (1 : Int))))))))] [4] [] [] ((n.1 == n.1) && ((n.2.1 == 0) && ((n.2.2.1 == 0) && ((n.2.2.2.1.toList == n.2.2.2.1.toList) && ((n.2.2.2.2.1 == n.2.2.2.2.1) && ((n.2.2.2.2.2.1 == n.2.2.2.2.2.1) && ((n.2.2.2.2.2.2.toList == n.2.2.2.2.2.2.toList) && true))))))) (fun h6 => ?_) (fun h6 => ?_) ?_
        ·
          have h6l : ((n.1 == n.1)) = true := and_l h6
          have h6ld := eq_of_beq h6l
          have h6r : (((n.2.1 == 0) && ((n.2.2.1 == 0) && ((n.2.2.2.1.toList == n.2.2.2.1.toList) && ((n.2.2.2.2.1 == n.2.2.2.2.1) && ((n.2.2.2.2.2.1 == n.2.2.2.2.2.1) && ((n.2.2.2.2.2.2.toList == n.2.2.2.2.2.2.toList) && true))))))) = true := and_r h6
          have h6rl : ((n.2.1 == 0)) = true := and_l h6r
          have h6rld := eq_of_beq h6rl
          have h6rr : (((n.2.2.1 == 0) && ((n.2.2.2.1.toList == n.2.2.2.1.toList) && ((n.2.2.2.2.1 == n.2.2.2.2.1) && ((n.2.2.2.2.2.1 == n.2.2.2.2.2.1) && ((n.2.2.2.2.2.2.toList == n.2.2.2.2.2.2.toList) && true)))))) = true := and_r h6r
          have h6rrl : ((n.2.2.1 == 0)) = true := and_l h6rr
          have h6rrld := eq_of_beq h6rrl
          have h6rrr : (((n.2.2.2.1.toList == n.2.2.2.1.toList) && ((n.2.2.2.2.1 == n.2.2.2.2.1) && ((n.2.2.2.2.2.1 == n.2.2.2.2.2.1) && ((n.2.2.2.2.2.2.toList == n.2.2.2.2.2.2.toList) && true))))) = true := and_r h6rr
          have h6rrrl : ((n.2.2.2.1.toList == n.2.2.2.1.toList)) = true := and_l h6rrr
          have h6rrrr : (((n.2.2.2.2.1 == n.2.2.2.2.1) && ((n.2.2.2.2.2.1 == n.2.2.2.2.2.1) && ((n.2.2.2.2.2.2.toList == n.2.2.2.2.2.2.toList) && true)))) = true := and_r h6rrr
          have h6rrrrl : ((n.2.2.2.2.1 == n.2.2.2.2.1)) = true := and_l h6rrrr
          have h6rrrrld := eq_of_beq h6rrrrl
          have h6rrrrr : (((n.2.2.2.2.2.1 == n.2.2.2.2.2.1) && ((n.2.2.2.2.2.2.toList == n.2.2.2.2.2.2.toList) && true))) = true := and_r h6rrrr
          have h6rrrrrl : ((n.2.2.2.2.2.1 == n.2.2.2.2.2.1)) = true := and_l h6rrrrr
          have h6rrrrrld := eq_of_beq h6rrrrrl
          have h6rrrrrr : (((n.2.2.2.2.2.2.toList == n.2.2.2.2.2.2.toList) && true)) = true := and_r h6rrrrr
          have h6rrrrrrl : ((n.2.2.2.2.2.2.toList == n.2.2.2.2.2.2.toList)) = true := and_l h6rrrrrr
          have h6rrrrrrr : (true) = true := and_r h6rrrrrr
          refine awp_split (implIsValidAttrName n.2.2.2.1) (fun h7 => ?_) (fun h7 => ?_)
          ·
            refine awp_split (implIsValidValue n.2.2.2.2) (fun h8 => ?_) (fun h8 => ?_)
            ·
              refine awp_split (n.2.2.2.2.1 != (0 : Int)) (fun h9 => ?_) (fun h9 => ?_)
              ·
                have h9d := ne_of_bne h9
                refine awp_split (n.1 == (3 : Int)) (fun h10 => ?_) (fun h10 => ?_)
                ·
                  have h10d := eq_of_beq h10
                  refine rk tt_ok [(4, .b true)] [4] [] [] [(2, .val (.b true)), (6, .val (.b true)), (11, .val (.b true)), (17, .val (.b true)), (22, .val (.b true))] (o2 (ob_eq (av_bool h6)) (o2 (ob_call (cb h7 (implIsValidAttrName_a n.2.2.2.1))) (o2 (ob_call (cb h8 (implIsValidValue_a n.2.2.2.2))) (o2 (ob_eq (av_bool h9)) (o1 (ob_eq (av_bool h10))))))) ?_
                  exact ⟨rfl, weak_fit (by rw [h6, h7, h8, h9, h10]; first | done | kernel_rfl)⟩
                ·
                  have h10d := ne_of_beq h10
                  refine rk tt_ok [(4, .b (n.2.2.2.2.1 == (1 : Int)))] [4] [] [] [(2, .val (.b true)), (6, .val (.b true)), (11, .val (.b true)), (17, .val (.b true)), (22, .val (.b false))] (o2 (ob_eq (av_bool h6)) (o2 (ob_call (cb h7 (implIsValidAttrName_a n.2.2.2.1))) (o2 (ob_call (cb h8 (implIsValidValue_a n.2.2.2.2))) (o2 (ob_eq (av_bool h9)) (o1 (ob_eq (av_bool h10))))))) ?_
                  exact ⟨rfl, weak_fit (by rw [h6, h7, h8, h9, h10]; first | done | kernel_rfl)⟩
              ·
                have h9d := eq_of_bne h9
                refine rk tt_ok [] [] [] [] [(2, .val (.b true)), (6, .val (.b true)), (11, .val (.b true)), (17, .val (.b false))] (o2 (ob_eq (av_bool h6)) (o2 (ob_call (cb h7 (implIsValidAttrName_a n.2.2.2.1))) (o2 (ob_call (cb h8 (implIsValidValue_a n.2.2.2.2))) (o1 (ob_eq (av_bool h9)))))) ?_
                exact ⟨rfl, weak_fit (by rw [h6, h7, h8, h9]; first | done | kernel_rfl)⟩
            ·
              refine rk tt_ok [] [] [] [] [(2, .val (.b true)), (6, .val (.b true)), (11, .val (.b false))] (o2 (ob_eq (av_bool h6)) (o2 (ob_call (cb h7 (implIsValidAttrName_a n.2.2.2.1))) (o1 (ob_call (cb h8 (implIsValidValue_a n.2.2.2.2)))))) ?_
              exact ⟨rfl, weak_fit (by rw [h6, h7, h8]; first | done | kernel_rfl)⟩
          ·
            refine rk tt_ok [] [] [] [] [(2, .val (.b true)), (6, .val (.b false))] (o2 (ob_eq (av_bool h6)) (o1 (ob_call (cb h7 (implIsValidAttrName_a n.2.2.2.1))))) ?_
            exact ⟨rfl, weak_fit (by rw [h6, h7]; first | done | kernel_rfl)⟩
        ·
          refine rk tt_ok [] [] [] [] [(2, .val (.b false))] (o1 (ob_eq (av_bool h6))) ?_
          exact ⟨rfl, weak_fit (by rw [h6]; first | done | kernel_rfl)⟩
        refine awp_ret ?_
        exact pret [] (congrArg (fun z => (.b z : AV)) (show implIsValidNode n at_ = (((n.1 == n.1) && ((n.2.1 == 0) && ((n.2.2.1 == 0) && ((n.2.2.2.1.toList == n.2.2.2.1.toList) && ((n.2.2.2.2.1 == n.2.2.2.2.1) && ((n.2.2.2.2.2.1 == n.2.2.2.2.2.1) && ((n.2.2.2.2.2.2.toList == n.2.2.2.2.2.2.toList) && true))))))) && ((implIsValidAttrName n.2.2.2.1) && ((implIsValidValue n.2.2.2.2) && ((n.2.2.2.2.1 != (0 : Int)) && ((n.1 == (3 : Int)) || (n.2.2.2.2.1 == (1 : Int))))))) from bif_f h1 (bif_f h2 (bif_t h5 (rfl)))).symm)
      ·
        refine awp_seq ?_
        refine rk tt_ok [(65, .b (n.1 == (5 : Int)))] [26] [] [] [] (o0) ?_
        refine ck (n.1 == (5 : Int)) (fun h11 => ?_) (fun h11 => ?_)
        ·
          have h11d := eq_of_beq h11
          refine awp_seq ?_
          refine rk tt_ok [] [10, 65] [(5, [.i n.1, .i n.2.1, .i 0, .s ⟨#[]⟩, .i 0, .i 0, .s ⟨#[]⟩])] [5] [] (o0) ?_
          refine awp_seq ?_
          refine jn [(4, .b (((n.1 == n.1) && ((n.2.1 == n.2.1) && ((n.2.2.1 == 0) && ((n.2.2.2.1.toList == (⟨#[]⟩ : ByteArray).toList) && ((n.2.2.2.2.1 == 0) && ((n.2.2.2.2.2.1 == 0) && ((n.2.2.2.2.2.2.toList == (⟨#[]⟩ : ByteArray).toList) && true))))))) && (decide (at_ > (0 : Int)) && (implwithin n.2.1 0 (IntKind.i64.wrap (at_ - 1))))))] [1, 4] [] [] ((n.1 == n.1) && ((n.2.1 == n.2.1) && ((n.2.2.1 == 0) && ((n.2.2.2.1.toList == (⟨#[]⟩ : ByteArray).toList) && ((n.2.2.2.2.1 == 0) && ((n.2.2.2.2.2.1 == 0) && ((n.2.2.2.2.2.2.toList == (⟨#[]⟩ : ByteArray).toList) && true))))))) (fun h12 => ?_) (fun h12 => ?_) ?_
          ·
            have h12l : ((n.1 == n.1)) = true := and_l h12
            have h12ld := eq_of_beq h12l
            have h12r : (((n.2.1 == n.2.1) && ((n.2.2.1 == 0) && ((n.2.2.2.1.toList == (⟨#[]⟩ : ByteArray).toList) && ((n.2.2.2.2.1 == 0) && ((n.2.2.2.2.2.1 == 0) && ((n.2.2.2.2.2.2.toList == (⟨#[]⟩ : ByteArray).toList) && true))))))) = true := and_r h12
            have h12rl : ((n.2.1 == n.2.1)) = true := and_l h12r
            have h12rld := eq_of_beq h12rl
            have h12rr : (((n.2.2.1 == 0) && ((n.2.2.2.1.toList == (⟨#[]⟩ : ByteArray).toList) && ((n.2.2.2.2.1 == 0) && ((n.2.2.2.2.2.1 == 0) && ((n.2.2.2.2.2.2.toList == (⟨#[]⟩ : ByteArray).toList) && true)))))) = true := and_r h12r
            have h12rrl : ((n.2.2.1 == 0)) = true := and_l h12rr
            have h12rrld := eq_of_beq h12rrl
            have h12rrr : (((n.2.2.2.1.toList == (⟨#[]⟩ : ByteArray).toList) && ((n.2.2.2.2.1 == 0) && ((n.2.2.2.2.2.1 == 0) && ((n.2.2.2.2.2.2.toList == (⟨#[]⟩ : ByteArray).toList) && true))))) = true := and_r h12rr
            have h12rrrl : ((n.2.2.2.1.toList == (⟨#[]⟩ : ByteArray).toList)) = true := and_l h12rrr
            have h12rrrr : (((n.2.2.2.2.1 == 0) && ((n.2.2.2.2.2.1 == 0) && ((n.2.2.2.2.2.2.toList == (⟨#[]⟩ : ByteArray).toList) && true)))) = true := and_r h12rrr
            have h12rrrrl : ((n.2.2.2.2.1 == 0)) = true := and_l h12rrrr
            have h12rrrrld := eq_of_beq h12rrrrl
            have h12rrrrr : (((n.2.2.2.2.2.1 == 0) && ((n.2.2.2.2.2.2.toList == (⟨#[]⟩ : ByteArray).toList) && true))) = true := and_r h12rrrr
            have h12rrrrrl : ((n.2.2.2.2.2.1 == 0)) = true := and_l h12rrrrr
            have h12rrrrrld := eq_of_beq h12rrrrrl
            have h12rrrrrr : (((n.2.2.2.2.2.2.toList == (⟨#[]⟩ : ByteArray).toList) && true)) = true := and_r h12rrrrr
            have h12rrrrrrl : ((n.2.2.2.2.2.2.toList == (⟨#[]⟩ : ByteArray).toList)) = true := and_l h12rrrrrr
            have h12rrrrrrr : (true) = true := and_r h12rrrrrr
            refine awp_split (decide (at_ > (0 : Int))) (fun h13 => ?_) (fun h13 => ?_)
            ·
              have h13d := of_decide_eq_true h13
              refine rk tt_ok [(4, .b (implwithin n.2.1 0 (IntKind.i64.wrap (at_ - 1))))] [1, 4] [] [] [(2, .val (.b true)), (5, .val (.b true)), (12, .val (.b (implwithin n.2.1 0 (IntKind.i64.wrap (at_ - 1)))))] (o2 (ob_eq (av_bool h12)) (o2 (ob_eq (av_bool h13)) (o1 (ob_call (implwithin_a n.2.1 0 (IntKind.i64.wrap (at_ - 1))))))) ?_
              exact ⟨rfl, weak_fit (by rw [h12, h13]; first | done | kernel_rfl)⟩
            ·
              have h13d := of_decide_eq_false h13
              refine rk tt_ok [] [1] [] [] [(2, .val (.b true)), (5, .val (.b false))] (o2 (ob_eq (av_bool h12)) (o1 (ob_eq (av_bool h13)))) ?_
              exact ⟨rfl, weak_fit (by rw [h12, h13]; first | done | kernel_rfl)⟩
          ·
            refine rk tt_ok [] [1] [] [] [(2, .val (.b false))] (o1 (ob_eq (av_bool h12))) ?_
            exact ⟨rfl, weak_fit (by rw [h12]; first | done | kernel_rfl)⟩
          refine awp_ret ?_
          exact pret [] (congrArg (fun z => (.b z : AV)) (show implIsValidNode n at_ = (((n.1 == n.1) && ((n.2.1 == n.2.1) && ((n.2.2.1 == 0) && ((n.2.2.2.1.toList == (⟨#[]⟩ : ByteArray).toList) && ((n.2.2.2.2.1 == 0) && ((n.2.2.2.2.2.1 == 0) && ((n.2.2.2.2.2.2.toList == (⟨#[]⟩ : ByteArray).toList) && true))))))) && (decide (at_ > (0 : Int)) && (implwithin n.2.1 0 (IntKind.i64.wrap (at_ - 1))))) from bif_f h1 (bif_f h2 (bif_f h5 (bif_t h11 (rfl))))).symm)
        ·
          have h11d := ne_of_beq h11
          refine awp_seq ?_
          refine awp_seq ?_
          refine rk tt_ok [(84, .b (n.1 == (6 : Int)))] [65] [] [] [] (o0) ?_
          refine jn [(84, .b (bif (n.1 == (6 : Int)) then (n.1 == (6 : Int)) else (n.1 == (7 : Int))))] [84] [] [] (n.1 == (6 : Int)) (fun h14 => ?_) (fun h14 => ?_) ?_
          ·
            have h14d := eq_of_beq h14
            refine ckt h14 ?_
            refine awp_skip ?_
            exact ⟨rfl, weak_fit (by rw [h14]; first | done | kernel_rfl)⟩
          ·
            have h14d := ne_of_beq h14
            refine ckf h14 ?_
            refine rk tt_ok [(84, .b (n.1 == (7 : Int)))] [84] [] [] [] (o0) ?_
            exact ⟨rfl, weak_fit (by rw [h14]; first | done | kernel_rfl)⟩
          refine ck (bif (n.1 == (6 : Int)) then (n.1 == (6 : Int)) else (n.1 == (7 : Int))) (fun h15 => ?_) (fun h15 => ?_)
          ·
            refine awp_seq ?_
            refine rd' tt_ok tt_mx [] [10, 84] [(5, [.i n.1, .i n.2.1, .i n.2.2.1, .s ⟨#[]⟩, .i 0, .i 0, .s ⟨#[]⟩])] [5] [] (o0) ?_
            refine awp_seq ?_
            refine jn [(4, .b (((n.1 == n.1) && ((n.2.1 == n.2.1) && ((n.2.2.1 == n.2.2.1) && ((n.2.2.2.1.toList == (⟨#[]⟩ : ByteArray).toList) && ((n.2.2.2.2.1 == 0) && ((n.2.2.2.2.2.1 == 0) && ((n.2.2.2.2.2.2.toList == (⟨#[]⟩ : ByteArray).toList) && true))))))) && (decide (at_ > (0 : Int)) && ((implwithin n.2.1 0 (IntKind.i64.wrap (at_ - 1))) && (implwithin n.2.2.1 0 (IntKind.i64.wrap (at_ - 1)))))))] [1, 4] [] [] ((n.1 == n.1) && ((n.2.1 == n.2.1) && ((n.2.2.1 == n.2.2.1) && ((n.2.2.2.1.toList == (⟨#[]⟩ : ByteArray).toList) && ((n.2.2.2.2.1 == 0) && ((n.2.2.2.2.2.1 == 0) && ((n.2.2.2.2.2.2.toList == (⟨#[]⟩ : ByteArray).toList) && true))))))) (fun h16 => ?_) (fun h16 => ?_) ?_
            ·
              have h16l : ((n.1 == n.1)) = true := and_l h16
              have h16ld := eq_of_beq h16l
              have h16r : (((n.2.1 == n.2.1) && ((n.2.2.1 == n.2.2.1) && ((n.2.2.2.1.toList == (⟨#[]⟩ : ByteArray).toList) && ((n.2.2.2.2.1 == 0) && ((n.2.2.2.2.2.1 == 0) && ((n.2.2.2.2.2.2.toList == (⟨#[]⟩ : ByteArray).toList) && true))))))) = true := and_r h16
              have h16rl : ((n.2.1 == n.2.1)) = true := and_l h16r
              have h16rld := eq_of_beq h16rl
              have h16rr : (((n.2.2.1 == n.2.2.1) && ((n.2.2.2.1.toList == (⟨#[]⟩ : ByteArray).toList) && ((n.2.2.2.2.1 == 0) && ((n.2.2.2.2.2.1 == 0) && ((n.2.2.2.2.2.2.toList == (⟨#[]⟩ : ByteArray).toList) && true)))))) = true := and_r h16r
              have h16rrl : ((n.2.2.1 == n.2.2.1)) = true := and_l h16rr
              have h16rrld := eq_of_beq h16rrl
              have h16rrr : (((n.2.2.2.1.toList == (⟨#[]⟩ : ByteArray).toList) && ((n.2.2.2.2.1 == 0) && ((n.2.2.2.2.2.1 == 0) && ((n.2.2.2.2.2.2.toList == (⟨#[]⟩ : ByteArray).toList) && true))))) = true := and_r h16rr
              have h16rrrl : ((n.2.2.2.1.toList == (⟨#[]⟩ : ByteArray).toList)) = true := and_l h16rrr
              have h16rrrr : (((n.2.2.2.2.1 == 0) && ((n.2.2.2.2.2.1 == 0) && ((n.2.2.2.2.2.2.toList == (⟨#[]⟩ : ByteArray).toList) && true)))) = true := and_r h16rrr
              have h16rrrrl : ((n.2.2.2.2.1 == 0)) = true := and_l h16rrrr
              have h16rrrrld := eq_of_beq h16rrrrl
              have h16rrrrr : (((n.2.2.2.2.2.1 == 0) && ((n.2.2.2.2.2.2.toList == (⟨#[]⟩ : ByteArray).toList) && true))) = true := and_r h16rrrr
              have h16rrrrrl : ((n.2.2.2.2.2.1 == 0)) = true := and_l h16rrrrr
              have h16rrrrrld := eq_of_beq h16rrrrrl
              have h16rrrrrr : (((n.2.2.2.2.2.2.toList == (⟨#[]⟩ : ByteArray).toList) && true)) = true := and_r h16rrrrr
              have h16rrrrrrl : ((n.2.2.2.2.2.2.toList == (⟨#[]⟩ : ByteArray).toList)) = true := and_l h16rrrrrr
              have h16rrrrrrr : (true) = true := and_r h16rrrrrr
              refine awp_split (decide (at_ > (0 : Int))) (fun h17 => ?_) (fun h17 => ?_)
              ·
                have h17d := of_decide_eq_true h17
                refine awp_split (implwithin n.2.1 0 (IntKind.i64.wrap (at_ - 1))) (fun h18 => ?_) (fun h18 => ?_)
                ·
                  refine rk tt_ok [(4, .b (implwithin n.2.2.1 0 (IntKind.i64.wrap (at_ - 1))))] [1, 4] [] [] [(2, .val (.b true)), (5, .val (.b true)), (12, .val (.b true)), (19, .val (.b (implwithin n.2.2.1 0 (IntKind.i64.wrap (at_ - 1)))))] (o2 (ob_eq (av_bool h16)) (o2 (ob_eq (av_bool h17)) (o2 (ob_call (cb h18 (implwithin_a n.2.1 0 (IntKind.i64.wrap (at_ - 1))))) (o1 (ob_call (implwithin_a n.2.2.1 0 (IntKind.i64.wrap (at_ - 1)))))))) ?_
                  exact ⟨rfl, weak_fit (by rw [h16, h17, h18]; first | done | kernel_rfl)⟩
                ·
                  refine rk tt_ok [] [1] [] [] [(2, .val (.b true)), (5, .val (.b true)), (12, .val (.b false))] (o2 (ob_eq (av_bool h16)) (o2 (ob_eq (av_bool h17)) (o1 (ob_call (cb h18 (implwithin_a n.2.1 0 (IntKind.i64.wrap (at_ - 1)))))))) ?_
                  exact ⟨rfl, weak_fit (by rw [h16, h17, h18]; first | done | kernel_rfl)⟩
              ·
                have h17d := of_decide_eq_false h17
                refine rk tt_ok [] [1] [] [] [(2, .val (.b true)), (5, .val (.b false))] (o2 (ob_eq (av_bool h16)) (o1 (ob_eq (av_bool h17)))) ?_
                exact ⟨rfl, weak_fit (by rw [h16, h17]; first | done | kernel_rfl)⟩
            ·
              refine rk tt_ok [] [1] [] [] [(2, .val (.b false))] (o1 (ob_eq (av_bool h16))) ?_
              exact ⟨rfl, weak_fit (by rw [h16]; first | done | kernel_rfl)⟩
            refine awp_ret ?_
            exact pret [] (congrArg (fun z => (.b z : AV)) (show implIsValidNode n at_ = (((n.1 == n.1) && ((n.2.1 == n.2.1) && ((n.2.2.1 == n.2.2.1) && ((n.2.2.2.1.toList == (⟨#[]⟩ : ByteArray).toList) && ((n.2.2.2.2.1 == 0) && ((n.2.2.2.2.2.1 == 0) && ((n.2.2.2.2.2.2.toList == (⟨#[]⟩ : ByteArray).toList) && true))))))) && (decide (at_ > (0 : Int)) && ((implwithin n.2.1 0 (IntKind.i64.wrap (at_ - 1))) && (implwithin n.2.2.1 0 (IntKind.i64.wrap (at_ - 1)))))) from bif_f h1 (bif_f h2 (bif_f h5 (bif_f h11 (bif_t h15 (rfl)))))).symm)
          ·
            refine awp_seq ?_
            refine awp_seq ?_
            refine rk tt_ok [(114, .b (n.1 == (8 : Int)))] [1, 84] [] [] [] (o0) ?_
            refine ck (n.1 == (8 : Int)) (fun h19 => ?_) (fun h19 => ?_)
            ·
              have h19d := eq_of_beq h19
              refine awp_skip ?_
              refine ckt h19 ?_
              refine awp_seq ?_
              refine rk tt_ok [] [10, 114] [(5, [.i n.1, .i 0, .i 0, .s n.2.2.2.1, .i 0, .i 0, .s ⟨#[]⟩])] [5] [] (o0) ?_
              refine awp_seq ?_
              refine jn [(4, .b (((n.1 == n.1) && ((n.2.1 == 0) && ((n.2.2.1 == 0) && ((n.2.2.2.1.toList == n.2.2.2.1.toList) && ((n.2.2.2.2.1 == 0) && ((n.2.2.2.2.2.1 == 0) && ((n.2.2.2.2.2.2.toList == (⟨#[]⟩ : ByteArray).toList) && true))))))) && (implIsValidString n.2.2.2.1)))] [4] [] [] ((n.1 == n.1) && ((n.2.1 == 0) && ((n.2.2.1 == 0) && ((n.2.2.2.1.toList == n.2.2.2.1.toList) && ((n.2.2.2.2.1 == 0) && ((n.2.2.2.2.2.1 == 0) && ((n.2.2.2.2.2.2.toList == (⟨#[]⟩ : ByteArray).toList) && true))))))) (fun h20 => ?_) (fun h20 => ?_) ?_
              ·
                have h20l : ((n.1 == n.1)) = true := and_l h20
                have h20ld := eq_of_beq h20l
                have h20r : (((n.2.1 == 0) && ((n.2.2.1 == 0) && ((n.2.2.2.1.toList == n.2.2.2.1.toList) && ((n.2.2.2.2.1 == 0) && ((n.2.2.2.2.2.1 == 0) && ((n.2.2.2.2.2.2.toList == (⟨#[]⟩ : ByteArray).toList) && true))))))) = true := and_r h20
                have h20rl : ((n.2.1 == 0)) = true := and_l h20r
                have h20rld := eq_of_beq h20rl
                have h20rr : (((n.2.2.1 == 0) && ((n.2.2.2.1.toList == n.2.2.2.1.toList) && ((n.2.2.2.2.1 == 0) && ((n.2.2.2.2.2.1 == 0) && ((n.2.2.2.2.2.2.toList == (⟨#[]⟩ : ByteArray).toList) && true)))))) = true := and_r h20r
                have h20rrl : ((n.2.2.1 == 0)) = true := and_l h20rr
                have h20rrld := eq_of_beq h20rrl
                have h20rrr : (((n.2.2.2.1.toList == n.2.2.2.1.toList) && ((n.2.2.2.2.1 == 0) && ((n.2.2.2.2.2.1 == 0) && ((n.2.2.2.2.2.2.toList == (⟨#[]⟩ : ByteArray).toList) && true))))) = true := and_r h20rr
                have h20rrrl : ((n.2.2.2.1.toList == n.2.2.2.1.toList)) = true := and_l h20rrr
                have h20rrrr : (((n.2.2.2.2.1 == 0) && ((n.2.2.2.2.2.1 == 0) && ((n.2.2.2.2.2.2.toList == (⟨#[]⟩ : ByteArray).toList) && true)))) = true := and_r h20rrr
                have h20rrrrl : ((n.2.2.2.2.1 == 0)) = true := and_l h20rrrr
                have h20rrrrld := eq_of_beq h20rrrrl
                have h20rrrrr : (((n.2.2.2.2.2.1 == 0) && ((n.2.2.2.2.2.2.toList == (⟨#[]⟩ : ByteArray).toList) && true))) = true := and_r h20rrrr
                have h20rrrrrl : ((n.2.2.2.2.2.1 == 0)) = true := and_l h20rrrrr
                have h20rrrrrld := eq_of_beq h20rrrrrl
                have h20rrrrrr : (((n.2.2.2.2.2.2.toList == (⟨#[]⟩ : ByteArray).toList) && true)) = true := and_r h20rrrrr
                have h20rrrrrrl : ((n.2.2.2.2.2.2.toList == (⟨#[]⟩ : ByteArray).toList)) = true := and_l h20rrrrrr
                have h20rrrrrrr : (true) = true := and_r h20rrrrrr
                refine rk tt_ok [(4, .b (implIsValidString n.2.2.2.1))] [4] [] [] [(2, .val (.b true)), (6, .val (.b (implIsValidString n.2.2.2.1)))] (o2 (ob_eq (av_bool h20)) (o1 (ob_call (implIsValidString_a n.2.2.2.1)))) ?_
                exact ⟨rfl, weak_fit (by rw [h20]; first | done | kernel_rfl)⟩
              ·
                refine rk tt_ok [] [] [] [] [(2, .val (.b false))] (o1 (ob_eq (av_bool h20))) ?_
                exact ⟨rfl, weak_fit (by rw [h20]; first | done | kernel_rfl)⟩
              refine awp_ret ?_
              exact pret [] (congrArg (fun z => (.b z : AV)) (show implIsValidNode n at_ = (((n.1 == n.1) && ((n.2.1 == 0) && ((n.2.2.1 == 0) && ((n.2.2.2.1.toList == n.2.2.2.1.toList) && ((n.2.2.2.2.1 == 0) && ((n.2.2.2.2.2.1 == 0) && ((n.2.2.2.2.2.2.toList == (⟨#[]⟩ : ByteArray).toList) && true))))))) && (implIsValidString n.2.2.2.1)) from bif_f h1 (bif_f h2 (bif_f h5 (bif_f h11 (bif_f h15 (bif_t h19 (rfl))))))).symm)
            ·
              have h19d := ne_of_beq h19
              refine rk tt_ok [(114, .b (n.1 == (9 : Int)))] [10, 114] [] [] [] (o0) ?_
              refine ck (n.1 == (9 : Int)) (fun h21 => ?_) (fun h21 => ?_)
              ·
                have h21d := eq_of_beq h21
                refine awp_seq ?_
                refine rk tt_ok [] [114] [(5, [.i n.1, .i 0, .i 0, .s n.2.2.2.1, .i 0, .i 0, .s ⟨#[]⟩])] [5] [] (o0) ?_
                refine awp_seq ?_
                refine jn [(4, .b (((n.1 == n.1) && ((n.2.1 == 0) && ((n.2.2.1 == 0) && ((n.2.2.2.1.toList == n.2.2.2.1.toList) && ((n.2.2.2.2.1 == 0) && ((n.2.2.2.2.2.1 == 0) && ((n.2.2.2.2.2.2.toList == (⟨#[]⟩ : ByteArray).toList) && true))))))) && (implIsValidString n.2.2.2.1)))] [4] [] [] ((n.1 == n.1) && ((n.2.1 == 0) && ((n.2.2.1 == 0) && ((n.2.2.2.1.toList == n.2.2.2.1.toList) && ((n.2.2.2.2.1 == 0) && ((n.2.2.2.2.2.1 == 0) && ((n.2.2.2.2.2.2.toList == (⟨#[]⟩ : ByteArray).toList) && true))))))) (fun h22 => ?_) (fun h22 => ?_) ?_
                ·
                  have h22l : ((n.1 == n.1)) = true := and_l h22
                  have h22ld := eq_of_beq h22l
                  have h22r : (((n.2.1 == 0) && ((n.2.2.1 == 0) && ((n.2.2.2.1.toList == n.2.2.2.1.toList) && ((n.2.2.2.2.1 == 0) && ((n.2.2.2.2.2.1 == 0) && ((n.2.2.2.2.2.2.toList == (⟨#[]⟩ : ByteArray).toList) && true))))))) = true := and_r h22
                  have h22rl : ((n.2.1 == 0)) = true := and_l h22r
                  have h22rld := eq_of_beq h22rl
                  have h22rr : (((n.2.2.1 == 0) && ((n.2.2.2.1.toList == n.2.2.2.1.toList) && ((n.2.2.2.2.1 == 0) && ((n.2.2.2.2.2.1 == 0) && ((n.2.2.2.2.2.2.toList == (⟨#[]⟩ : ByteArray).toList) && true)))))) = true := and_r h22r
                  have h22rrl : ((n.2.2.1 == 0)) = true := and_l h22rr
                  have h22rrld := eq_of_beq h22rrl
                  have h22rrr : (((n.2.2.2.1.toList == n.2.2.2.1.toList) && ((n.2.2.2.2.1 == 0) && ((n.2.2.2.2.2.1 == 0) && ((n.2.2.2.2.2.2.toList == (⟨#[]⟩ : ByteArray).toList) && true))))) = true := and_r h22rr
                  have h22rrrl : ((n.2.2.2.1.toList == n.2.2.2.1.toList)) = true := and_l h22rrr
                  have h22rrrr : (((n.2.2.2.2.1 == 0) && ((n.2.2.2.2.2.1 == 0) && ((n.2.2.2.2.2.2.toList == (⟨#[]⟩ : ByteArray).toList) && true)))) = true := and_r h22rrr
                  have h22rrrrl : ((n.2.2.2.2.1 == 0)) = true := and_l h22rrrr
                  have h22rrrrld := eq_of_beq h22rrrrl
                  have h22rrrrr : (((n.2.2.2.2.2.1 == 0) && ((n.2.2.2.2.2.2.toList == (⟨#[]⟩ : ByteArray).toList) && true))) = true := and_r h22rrrr
                  have h22rrrrrl : ((n.2.2.2.2.2.1 == 0)) = true := and_l h22rrrrr
                  have h22rrrrrld := eq_of_beq h22rrrrrl
                  have h22rrrrrr : (((n.2.2.2.2.2.2.toList == (⟨#[]⟩ : ByteArray).toList) && true)) = true := and_r h22rrrrr
                  have h22rrrrrrl : ((n.2.2.2.2.2.2.toList == (⟨#[]⟩ : ByteArray).toList)) = true := and_l h22rrrrrr
                  have h22rrrrrrr : (true) = true := and_r h22rrrrrr
                  refine rk tt_ok [(4, .b (implIsValidString n.2.2.2.1))] [4] [] [] [(2, .val (.b true)), (6, .val (.b (implIsValidString n.2.2.2.1)))] (o2 (ob_eq (av_bool h22)) (o1 (ob_call (implIsValidString_a n.2.2.2.1)))) ?_
                  exact ⟨rfl, weak_fit (by rw [h22]; first | done | kernel_rfl)⟩
                ·
                  refine rk tt_ok [] [] [] [] [(2, .val (.b false))] (o1 (ob_eq (av_bool h22))) ?_
                  exact ⟨rfl, weak_fit (by rw [h22]; first | done | kernel_rfl)⟩
                refine awp_ret ?_
                exact pret [] (congrArg (fun z => (.b z : AV)) (show implIsValidNode n at_ = (((n.1 == n.1) && ((n.2.1 == 0) && ((n.2.2.1 == 0) && ((n.2.2.2.1.toList == n.2.2.2.1.toList) && ((n.2.2.2.2.1 == 0) && ((n.2.2.2.2.2.1 == 0) && ((n.2.2.2.2.2.2.toList == (⟨#[]⟩ : ByteArray).toList) && true))))))) && (implIsValidString n.2.2.2.1)) from bif_f h1 (bif_f h2 (bif_f h5 (bif_f h11 (bif_f h15 (bif_f h19 (bif_t h21 (rfl)))))))).symm)
              ·
                have h21d := ne_of_beq h21
                refine awp_seq ?_
                refine rk tt_ok [] [114] [] [] [] (o0) ?_
                refine awp_ret ?_
                exact pret [] (congrArg (fun z => (.b z : AV)) (show implIsValidNode n at_ = false from bif_f h1 (bif_f h2 (bif_f h5 (bif_f h11 (bif_f h15 (bif_f h19 (bif_f h21 (rfl)))))))).symm)
def implCountReferences_f0 (at_ : Int) (_ : Nat) (a0 : NodeD) (s0 : Int) : Rd (Int) (Int) (Int) := (bif ((a0.2.1 == at_) && (((a0.1 == (6 : Int)) || (a0.1 == (7 : Int))) || (a0.1 == (5 : Int)))) then (bif ((a0.2.2.1 == at_) && ((a0.1 == (6 : Int)) || (a0.1 == (7 : Int)))) then (.next (IntKind.i64.wrap (IntKind.i64.wrap (s0 + 1) + 1))) else (.next (IntKind.i64.wrap (s0 + 1)))) else (bif ((a0.2.2.1 == at_) && ((a0.1 == (6 : Int)) || (a0.1 == (7 : Int)))) then (.next (IntKind.i64.wrap (s0 + 1))) else (.next s0)))
def implCountReferences_e0 (_ : Nat) (s0 : Int) : Int := s0
def implCountReferences (q : (List NodeD)) (at_ : Int) : Int := (Out.on (forL (implCountReferences_f0 at_) implCountReferences_e0 q 0 0) (fun y0 => y0))
theorem implCountReferences_a (q : (List NodeD)) (at_ : Int) : ACalls Tryz.prog 207 [.h q, .i at_] (.i (implCountReferences q at_)) := by
  refine acalls_of (tt := tt) tt_ok Tryz.func207 (fn := Tryz.f207) rfl (by unfold FnOk; kernel_rfl) (Nat.le_of_ble_eq_true rfl) fun w0 F0 => ?_
  refine awp_seq ?_
  refine rk tt_ok [(4, .i 0)] [] [] [] [] (o0) ?_
  refine awp_seq ?_
  refine rk tt_ok [(5, .i 0)] [] [] [] [] (o0) ?_
  refine awp_seq ?_
  refine awp_seq ?_
  refine rk tt_ok [(9, .h q), (10, .i (q.length : Int)), (11, .i 0)] [0] [] [] [(1, .val (.i (q.length : Int)))] (o1 (ob_eq (av_len q))) ?_
  refine wdT 9 0 .sh q (fun hw1 => ?_)
  have hl2 : List.length q ≤ 1073741824 := wide_len (hw1)
  refine blk (fun (k0 : Nat) (s0 : Int) => [(5, .i s0), (11, .i ((k0 : Nat) : Int))]) [5, 11] (fun k0 s0 => []) [] (fun (y0 : Int) => [(5, .i y0)]) [1, 5, 9, 10, 11] (fun y0 => []) [] (fun (k0 : Nat) (s0 : Int) => (forL (implCountReferences_f0 at_) implCountReferences_e0 q 0 0) = forL (implCountReferences_f0 at_) implCountReferences_e0 (List.drop k0 q) k0 s0) (fun (y0 : Int) => (forL (implCountReferences_f0 at_) implCountReferences_e0 q 0 0) = .brk y0) q.length 0 (weak_fit (by kernel_rfl)) rfl (fun k0 s0 hk0 hI0 => ?_) (fun k0 s0 hk0 hI0 => ?_) (fun y0 hD0 => ?_)
  ·
    obtain ⟨a0, hx0⟩ := get_some (l := q) (i := k0) hk0
    refine awp_seq ?_
    refine rk tt_ok [(12, .b true)] [] [] [] [(0, .val (.b true))] (o1 (ob_eq (av_bool (decide_eq_true (p := ((k0 : Nat) : Int) < (q.length : Int)) (by omega))))) ?_
    refine awp_seq ?_
    refine ckT ?_
    refine awp_skip ?_
    refine awp_seq ?_
    refine awp_block ?_
    refine awp_seq ?_
    refine rk tt_ok [(7, .p 7 0)] [12] [(7, [.i a0.1, .i a0.2.1, .i a0.2.2.1, .s a0.2.2.2.1, .i a0.2.2.2.2.1, .i a0.2.2.2.2.2.1, .s a0.2.2.2.2.2.2])] [] [(0, .row [.i a0.1, .i a0.2.1, .i a0.2.2.1, .s a0.2.2.2.1, .i a0.2.2.2.2.1, .i a0.2.2.2.2.2.1, .s a0.2.2.2.2.2.2])] (o1 (ob_elem (el_of (i := ((k0 : Nat) : Int)) (by omega) rfl hx0))) ?_
    refine awp_seq ?_
    refine jn [(8, .b ((a0.1 == (6 : Int)) || (a0.1 == (7 : Int))))] [] [] [] (a0.1 == (6 : Int)) (fun h3 => ?_) (fun h3 => ?_) ?_
    ·
      have h3d := eq_of_beq h3
      refine rk tt_ok [(8, .b true)] [] [] [] [(2, .val (.b true))] (o1 (ob_eq (av_bool h3))) ?_
      exact ⟨rfl, weak_fit (by rw [h3]; first | done | kernel_rfl)⟩
    ·
      have h3d := ne_of_beq h3
      refine rk tt_ok [(8, .b (a0.1 == (7 : Int)))] [] [] [] [(2, .val (.b false))] (o1 (ob_eq (av_bool h3))) ?_
      exact ⟨rfl, weak_fit (by rw [h3]; first | done | kernel_rfl)⟩
    refine awp_seq ?_
    refine awp_seq ?_
    refine jn [(34, .b ((a0.2.1 == at_) && (((a0.1 == (6 : Int)) || (a0.1 == (7 : Int))) || (a0.1 == (5 : Int)))))] [] [] [] (a0.2.1 == at_) (fun h4 => ?_) (fun h4 => ?_) ?_
    ·
      have h4d := eq_of_beq h4
      refine awp_split ((a0.1 == (6 : Int)) || (a0.1 == (7 : Int))) (fun h5 => ?_) (fun h5 => ?_)
      ·
        refine rk tt_ok [(34, .b true)] [] [] [] [(3, .val (.b true)), (5, .val (.b true))] (o2 (ob_eq (av_bool h4)) (o1 (ob_eq (av_bool h5)))) ?_
        exact ⟨rfl, weak_fit (by rw [h4, h5]; first | done | kernel_rfl)⟩
      ·
        have h5l : ((a0.1 == (6 : Int))) = false := or_l h5
        have h5ld := ne_of_beq h5l
        have h5r : ((a0.1 == (7 : Int))) = false := or_r h5
        have h5rd := ne_of_beq h5r
        refine rk tt_ok [(34, .b (a0.1 == (5 : Int)))] [] [] [] [(3, .val (.b true)), (5, .val (.b false))] (o2 (ob_eq (av_bool h4)) (o1 (ob_eq (av_bool h5)))) ?_
        exact ⟨rfl, weak_fit (by rw [h4, h5]; first | done | kernel_rfl)⟩
    ·
      have h4d := ne_of_beq h4
      refine rk tt_ok [(34, .b false)] [] [] [] [(3, .val (.b false))] (o1 (ob_eq (av_bool h4))) ?_
      exact ⟨rfl, weak_fit (by rw [h4]; first | done | kernel_rfl)⟩
    refine ck ((a0.2.1 == at_) && (((a0.1 == (6 : Int)) || (a0.1 == (7 : Int))) || (a0.1 == (5 : Int)))) (fun h6 => ?_) (fun h6 => ?_)
    ·
      have h6l : ((a0.2.1 == at_)) = true := and_l h6
      have h6ld := eq_of_beq h6l
      have h6r : ((((a0.1 == (6 : Int)) || (a0.1 == (7 : Int))) || (a0.1 == (5 : Int)))) = true := and_r h6
      refine rk tt_ok [(5, .i (IntKind.i64.wrap (s0 + 1)))] [5, 34] [] [] [] (o0) ?_
      refine awp_seq ?_
      refine jn [(43, .b ((a0.2.2.1 == at_) && ((a0.1 == (6 : Int)) || (a0.1 == (7 : Int)))))] [7, 8] [] [7] (a0.2.2.1 == at_) (fun h7 => ?_) (fun h7 => ?_) ?_
      ·
        have h7d := eq_of_beq h7
        refine rk tt_ok [(43, .b ((a0.1 == (6 : Int)) || (a0.1 == (7 : Int))))] [7, 8] [] [7] [(3, .val (.b true))] (o1 (ob_eq (av_bool h7))) ?_
        exact ⟨rfl, weak_fit (by rw [h7]; first | done | kernel_rfl)⟩
      ·
        have h7d := ne_of_beq h7
        refine rk tt_ok [(43, .b false)] [7, 8] [] [7] [(3, .val (.b false))] (o1 (ob_eq (av_bool h7))) ?_
        exact ⟨rfl, weak_fit (by rw [h7]; first | done | kernel_rfl)⟩
      refine ck ((a0.2.2.1 == at_) && ((a0.1 == (6 : Int)) || (a0.1 == (7 : Int)))) (fun h8 => ?_) (fun h8 => ?_)
      ·
        have h8l : ((a0.2.2.1 == at_)) = true := and_l h8
        have h8ld := eq_of_beq h8l
        have h8r : (((a0.1 == (6 : Int)) || (a0.1 == (7 : Int)))) = true := and_r h8
        refine rk tt_ok [(5, .i (IntKind.i64.wrap (IntKind.i64.wrap (s0 + 1) + 1)))] [5, 43] [] [] [] (o0) ?_
        refine rk tt_ok [(11, .i ((k0 + 1 : Nat) : Int))] [11] [] [] [(0, .val (.i ((k0 + 1 : Nat) : Int)))] (o1 (ob_eq (av_i (wrap_succ k0 (by omega))))) ?_
        exact Exists.intro (IntKind.i64.wrap (IntKind.i64.wrap (s0 + 1) + 1)) (And.intro (weak_fit (by kernel_rfl)) (forL_next hx0 (bif_t h6 (bif_t h8 (rfl))) hI0))
      ·
        refine awp_skip ?_
        refine rk tt_ok [(11, .i ((k0 + 1 : Nat) : Int))] [11, 43] [] [] [(0, .val (.i ((k0 + 1 : Nat) : Int)))] (o1 (ob_eq (av_i (wrap_succ k0 (by omega))))) ?_
        exact Exists.intro (IntKind.i64.wrap (s0 + 1)) (And.intro (weak_fit (by kernel_rfl)) (forL_next hx0 (bif_t h6 (bif_f h8 (rfl))) hI0))
    ·
      refine awp_skip ?_
      refine awp_seq ?_
      refine jn [(43, .b ((a0.2.2.1 == at_) && ((a0.1 == (6 : Int)) || (a0.1 == (7 : Int)))))] [7, 8, 34] [] [7] (a0.2.2.1 == at_) (fun h9 => ?_) (fun h9 => ?_) ?_
      ·
        have h9d := eq_of_beq h9
        refine rk tt_ok [(43, .b ((a0.1 == (6 : Int)) || (a0.1 == (7 : Int))))] [7, 8, 34] [] [7] [(3, .val (.b true))] (o1 (ob_eq (av_bool h9))) ?_
        exact ⟨rfl, weak_fit (by rw [h9]; first | done | kernel_rfl)⟩
      ·
        have h9d := ne_of_beq h9
        refine rk tt_ok [(43, .b false)] [7, 8, 34] [] [7] [(3, .val (.b false))] (o1 (ob_eq (av_bool h9))) ?_
        exact ⟨rfl, weak_fit (by rw [h9]; first | done | kernel_rfl)⟩
      refine ck ((a0.2.2.1 == at_) && ((a0.1 == (6 : Int)) || (a0.1 == (7 : Int)))) (fun h10 => ?_) (fun h10 => ?_)
      ·
        have h10l : ((a0.2.2.1 == at_)) = true := and_l h10
        have h10ld := eq_of_beq h10l
        have h10r : (((a0.1 == (6 : Int)) || (a0.1 == (7 : Int)))) = true := and_r h10
        refine rk tt_ok [(5, .i (IntKind.i64.wrap (s0 + 1)))] [5, 43] [] [] [] (o0) ?_
        refine rk tt_ok [(11, .i ((k0 + 1 : Nat) : Int))] [11] [] [] [(0, .val (.i ((k0 + 1 : Nat) : Int)))] (o1 (ob_eq (av_i (wrap_succ k0 (by omega))))) ?_
        exact Exists.intro (IntKind.i64.wrap (s0 + 1)) (And.intro (weak_fit (by kernel_rfl)) (forL_next hx0 (bif_f h6 (bif_t h10 (rfl))) hI0))
      ·
        refine awp_skip ?_
        refine rk tt_ok [(11, .i ((k0 + 1 : Nat) : Int))] [11, 43] [] [] [(0, .val (.i ((k0 + 1 : Nat) : Int)))] (o1 (ob_eq (av_i (wrap_succ k0 (by omega))))) ?_
        exact Exists.intro s0 (And.intro (weak_fit (by kernel_rfl)) (forL_next hx0 (bif_f h6 (bif_f h10 (rfl))) hI0))
  ·
    refine awp_seq ?_
    refine rk tt_ok [(12, .b false)] [] [] [] [(0, .val (.b false))] (o1 (ob_eq (av_bool (decide_eq_false (p := ((k0 : Nat) : Int) < (q.length : Int)) (by omega))))) ?_
    refine awp_seq ?_
    refine ckF ?_
    refine awp_exit ?_
    exact Exists.intro s0 (And.intro (weak_fit (by kernel_rfl)) (forL_end hk0 (rfl) hI0))
  ·
    refine awp_seq ?_
    refine rk tt_ok [(4, .i y0)] [4, 5] [] [] [] (o0) ?_
    refine awp_ret ?_
    exact pret [] (congrArg (fun z => (.i z : AV)) (show implCountReferences q at_ = y0 from on_b hD0 (rfl)).symm)
def implIsValidQuery_f0 (q : (List NodeD)) (k0 : Nat) (a0 : NodeD) (_ : Unit) : Rd (Bool) (Unit) (Unit) := (bif ((!(implIsValidNode a0 ((k0 : Nat) : Int))) || (decide (((k0 : Nat) : Int) < ((q.length : Int) - 1)) && ((implCountReferences q ((k0 : Nat) : Int)) != (1 : Int)))) then (.ret false) else (.next ()))
def implIsValidQuery_e0 (_ : Nat) (_ : Unit) : Unit := ()
def implIsValidQuery (q : (List NodeD)) : Bool := (Out.on (forL (implIsValidQuery_f0 q) implIsValidQuery_e0 q 0 ()) (fun _ => (implwithin (q.length : Int) 1 9)))
theorem implIsValidQuery_a (q : (List NodeD)) : ACalls Tryz.prog 191 [.h q] (.b (implIsValidQuery q)) := by
  refine acalls_of (tt := tt) tt_ok Tryz.func191 (fn := Tryz.f191) rfl (by unfold FnOk; kernel_rfl) (Nat.le_of_ble_eq_true rfl) fun w0 F0 => ?_
  refine awp_seq ?_
  refine rk tt_ok [(2, .b false)] [] [] [] [] (o0) ?_
  refine awp_seq ?_
  refine awp_seq ?_
  refine rk tt_ok [(5, .h q), (6, .i (q.length : Int)), (7, .i 0)] [] [] [] [(1, .val (.i (q.length : Int)))] (o1 (ob_eq (av_len q))) ?_
  refine wdT 0 0 .sh q (fun hw1 => ?_)
  have hl2 : List.length q ≤ 1073741824 := wide_len (hw1)
  refine blk (fun (k0 : Nat) (s0 : Unit) => [(7, .i ((k0 : Nat) : Int))]) [7] (fun k0 s0 => []) [] (fun (y0 : Unit) => []) [5, 6, 7] (fun y0 => []) [] (fun (k0 : Nat) (s0 : Unit) => (forL (implIsValidQuery_f0 q) implIsValidQuery_e0 q 0 ()) = forL (implIsValidQuery_f0 q) implIsValidQuery_e0 (List.drop k0 q) k0 s0) (fun (y0 : Unit) => (forL (implIsValidQuery_f0 q) implIsValidQuery_e0 q 0 ()) = .brk y0) q.length () (weak_fit (by kernel_rfl)) rfl (fun k0 s0 hk0 hI0 => ?_) (fun k0 s0 hk0 hI0 => ?_) (fun y0 hD0 => ?_)
  ·
    obtain ⟨a0, hx0⟩ := get_some (l := q) (i := k0) hk0
    refine awp_seq ?_
    refine rk tt_ok [(8, .b true)] [] [] [] [(0, .val (.b true))] (o1 (ob_eq (av_bool (decide_eq_true (p := ((k0 : Nat) : Int) < (q.length : Int)) (by omega))))) ?_
    refine awp_seq ?_
    refine ckT ?_
    refine awp_skip ?_
    refine awp_seq ?_
    refine awp_block ?_
    refine awp_seq ?_
    refine rk tt_ok [(3, .i ((k0 : Nat) : Int)), (4, .p 4 0)] [8] [(4, [.i a0.1, .i a0.2.1, .i a0.2.2.1, .s a0.2.2.2.1, .i a0.2.2.2.2.1, .i a0.2.2.2.2.2.1, .s a0.2.2.2.2.2.2])] [] [(1, .row [.i a0.1, .i a0.2.1, .i a0.2.2.1, .s a0.2.2.2.1, .i a0.2.2.2.2.1, .i a0.2.2.2.2.2.1, .s a0.2.2.2.2.2.2])] (o1 (ob_elem (el_of (i := ((k0 : Nat) : Int)) (by omega) rfl hx0))) ?_
    refine awp_seq ?_
    refine jn [(28, .b ((!(implIsValidNode a0 ((k0 : Nat) : Int))) || (decide (((k0 : Nat) : Int) < ((q.length : Int) - 1)) && ((implCountReferences q ((k0 : Nat) : Int)) != (1 : Int)))))] [3, 4] [] [4] (!(implIsValidNode a0 ((k0 : Nat) : Int))) (fun h3 => ?_) (fun h3 => ?_) ?_
    ·
      have h3n : (implIsValidNode a0 ((k0 : Nat) : Int)) = false := bnot_t h3
      refine rk tt_ok [(28, .b true)] [3, 4] [] [4] [(2, .val (.b false)), (3, .val (.b true))] (o2 (ob_call (cb h3n (implIsValidNode_a a0 ((k0 : Nat) : Int)))) (o1 (ob_eq (show .b (!false) = .b true from rfl)))) ?_
      exact ⟨rfl, weak_fit (by rw [h3]; first | done | kernel_rfl)⟩
    ·
      have h3n : (implIsValidNode a0 ((k0 : Nat) : Int)) = true := bnot_f h3
      refine awp_split (decide (((k0 : Nat) : Int) < ((q.length : Int) - 1))) (fun h4 => ?_) (fun h4 => ?_)
      ·
        have h4d := of_decide_eq_true h4
        refine rk tt_ok [(28, .b ((implCountReferences q ((k0 : Nat) : Int)) != (1 : Int)))] [3, 4] [] [4] [(2, .val (.b true)), (3, .val (.b false)), (7, .val (.i (q.length : Int))), (8, .val (.i ((q.length : Int) - 1))), (9, .val (.b true)), (13, .val (.i (implCountReferences q ((k0 : Nat) : Int))))] (o2 (ob_call (cb h3n (implIsValidNode_a a0 ((k0 : Nat) : Int)))) (o2 (ob_eq (show .b (!true) = .b false from rfl)) (o2 (ob_eq (av_len q)) (o2 (ob_eq (av_i (IntWalk.i64_in ((q.length : Int) - 1) (by omega)))) (o2 (ob_eq (av_bool h4)) (o1 (ob_call (implCountReferences_a q ((k0 : Nat) : Int))))))))) ?_
        exact ⟨rfl, weak_fit (by rw [h3, h4]; first | done | kernel_rfl)⟩
      ·
        have h4d := of_decide_eq_false h4
        refine rk tt_ok [(28, .b false)] [3, 4] [] [4] [(2, .val (.b true)), (3, .val (.b false)), (7, .val (.i (q.length : Int))), (8, .val (.i ((q.length : Int) - 1))), (9, .val (.b false))] (o2 (ob_call (cb h3n (implIsValidNode_a a0 ((k0 : Nat) : Int)))) (o2 (ob_eq (show .b (!true) = .b false from rfl)) (o2 (ob_eq (av_len q)) (o2 (ob_eq (av_i (IntWalk.i64_in ((q.length : Int) - 1) (by omega)))) (o1 (ob_eq (av_bool h4))))))) ?_
        exact ⟨rfl, weak_fit (by rw [h3, h4]; first | done | kernel_rfl)⟩
    refine ck ((!(implIsValidNode a0 ((k0 : Nat) : Int))) || (decide (((k0 : Nat) : Int) < ((q.length : Int) - 1)) && ((implCountReferences q ((k0 : Nat) : Int)) != (1 : Int)))) (fun h5 => ?_) (fun h5 => ?_)
    ·
      refine awp_seq ?_
      refine rk tt_ok [] [28] [] [] [] (o0) ?_
      refine awp_ret ?_
      have hr6 : (forL (implIsValidQuery_f0 q) implIsValidQuery_e0 q 0 ()) = .ret false := forL_ret hx0 (bif_t h5 (rfl)) hI0
      exact pret [] (congrArg (fun z => (.b z : AV)) (show implIsValidQuery q = false from on_r hr6).symm)
    ·
      have h5l : ((!(implIsValidNode a0 ((k0 : Nat) : Int)))) = false := or_l h5
      have h5ln : (implIsValidNode a0 ((k0 : Nat) : Int)) = true := bnot_f h5l
      have h5r : ((decide (((k0 : Nat) : Int) < ((q.length : Int) - 1)) && ((implCountReferences q ((k0 : Nat) : Int)) != (1 : Int)))) = false := or_r h5
      refine awp_skip ?_
      refine rk tt_ok [(7, .i ((k0 + 1 : Nat) : Int))] [7, 28] [] [] [(0, .val (.i ((k0 + 1 : Nat) : Int)))] (o1 (ob_eq (av_i (wrap_succ k0 (by omega))))) ?_
      exact Exists.intro () (And.intro (weak_fit (by kernel_rfl)) (forL_next hx0 (bif_f h5 (rfl)) hI0))
  ·
    refine awp_seq ?_
    refine rk tt_ok [(8, .b false)] [] [] [] [(0, .val (.b false))] (o1 (ob_eq (av_bool (decide_eq_false (p := ((k0 : Nat) : Int) < (q.length : Int)) (by omega))))) ?_
    refine awp_seq ?_
    refine ckF ?_
    refine awp_exit ?_
    exact Exists.intro () (And.intro (weak_fit (by kernel_rfl)) (forL_end hk0 (rfl) hI0))
  ·
    refine awp_seq ?_
    refine rk tt_ok [(2, .b (implwithin (q.length : Int) 1 9))] [0, 2] [] [] [(1, .val (.i (q.length : Int))), (2, .val (.b (implwithin (q.length : Int) 1 9)))] (o2 (ob_eq (av_len q)) (o1 (ob_call (implwithin_a (q.length : Int) 1 9)))) ?_
    refine awp_ret ?_
    exact pret [] (congrArg (fun z => (.b z : AV)) (show implIsValidQuery q = (implwithin (q.length : Int) 1 9) from on_b hD0 (rfl)).symm)
def specl01In (x : Int) (least : Int) (most : Int) : Bool := (decide (x ≥ least) && decide (x ≤ most))
theorem specl01In_a (x : Int) (least : Int) (most : Int) : ACalls Tryz.prog 63 [.i x, .i least, .i most] (.b (specl01In x least most)) := by
  refine acalls_of (tt := tt) tt_ok Tryz.func63 (fn := Tryz.f63) rfl (by unfold FnOk; kernel_rfl) (Nat.le_of_ble_eq_true rfl) fun w0 F0 => ?_
  refine awp_seq ?_
  refine rk tt_ok [(6, .b false)] [] [] [] [] (o0) ?_
  refine awp_seq ?_
  refine jn [(6, .b (decide (x ≥ least) && decide (x ≤ most)))] [0, 1, 2, 6] [] [] (decide (x ≥ least)) (fun h1 => ?_) (fun h1 => ?_) ?_
  ·
    have h1d := of_decide_eq_true h1
    refine rk tt_ok [(6, .b (decide (x ≤ most)))] [0, 1, 2, 6] [] [] [(2, .val (.b true))] (o1 (ob_eq (av_bool h1))) ?_
    exact ⟨rfl, weak_fit (by rw [h1]; first | done | kernel_rfl)⟩
  ·
    have h1d := of_decide_eq_false h1
    refine rk tt_ok [] [0, 1, 2] [] [] [(2, .val (.b false))] (o1 (ob_eq (av_bool h1))) ?_
    exact ⟨rfl, weak_fit (by rw [h1]; first | done | kernel_rfl)⟩
  refine awp_ret ?_
  exact pret [] (congrArg (fun z => (.b z : AV)) (show specl01In x least most = (decide (x ≥ least) && decide (x ≤ most)) from rfl).symm)
def specl02Text_f0 (s_ : ByteArray) (k0 : Nat) (_ : Unit) : Rd (Bool) (Unit) (Unit) := (bif (decide (strAt s_ ((k0 : Nat) : Int) < (97 : Int)) || decide (strAt s_ ((k0 : Nat) : Int) > (122 : Int))) then (.ret false) else (.next ()))
def specl02Text_e0 (_ : Nat) (_ : Unit) : Unit := ()
def specl02Text (s_ : ByteArray) (most : Int) : Bool := (Out.on (forN (specl02Text_f0 s_) specl02Text_e0 (Int.toNat (ByteArray.size s_ : Int)) 0 ()) (fun _ => (specl01In (ByteArray.size s_ : Int) 1 most)))
theorem specl02Text_a (s_ : ByteArray) (most : Int) : ACalls Tryz.prog 179 [.s s_, .i most] (.b (specl02Text s_ most)) := by
  refine acalls_of (tt := tt) tt_ok Tryz.func179 (fn := Tryz.f179) rfl (by unfold FnOk; kernel_rfl) (Nat.le_of_ble_eq_true rfl) fun w0 F0 => ?_
  refine awp_seq ?_
  refine rk tt_ok [(4, .b false)] [] [] [] [] (o0) ?_
  refine awp_seq ?_
  refine awp_seq ?_
  refine rk tt_ok [(5, .i 0)] [] [] [] [] (o0) ?_
  refine stT 0 0 s_ (fun hs1 => ?_)
  refine blk (fun (k0 : Nat) (s0 : Unit) => [(5, .i ((k0 : Nat) : Int))]) [5] (fun k0 s0 => []) [] (fun (y0 : Unit) => []) [5] (fun y0 => []) [] (fun (k0 : Nat) (s0 : Unit) => (forN (specl02Text_f0 s_) specl02Text_e0 (Int.toNat (ByteArray.size s_ : Int)) 0 ()) = forN (specl02Text_f0 s_) specl02Text_e0 ((Int.toNat (ByteArray.size s_ : Int)) - k0) k0 s0) (fun (y0 : Unit) => (forN (specl02Text_f0 s_) specl02Text_e0 (Int.toNat (ByteArray.size s_ : Int)) 0 ()) = .brk y0) (Int.toNat (ByteArray.size s_ : Int)) () (weak_fit (by kernel_rfl)) rfl (fun k0 s0 hk0 hI0 => ?_) (fun k0 s0 hk0 hI0 => ?_) (fun y0 hD0 => ?_)
  ·
    refine awp_seq ?_
    refine awp_seq ?_
    refine rk tt_ok [(9, .b true)] [] [] [] [(3, .val (.b true))] (o1 (ob_eq (av_bool (decide_eq_true (p := ((k0 : Nat) : Int) < (ByteArray.size s_ : Int)) (by omega))))) ?_
    refine ckT ?_
    refine awp_skip ?_
    refine awp_seq ?_
    refine awp_block ?_
    refine awp_seq ?_
    refine jn [(21, .b (decide (strAt s_ ((k0 : Nat) : Int) < (97 : Int)) || decide (strAt s_ ((k0 : Nat) : Int) > (122 : Int))))] [9] [] [] (decide (strAt s_ ((k0 : Nat) : Int) < (97 : Int))) (fun h2 => ?_) (fun h2 => ?_) ?_
    ·
      have h2d := of_decide_eq_true h2
      refine rk tt_ok [(21, .b true)] [9] [] [] [(3, .val (.b true))] (o2 (ob_idx (i := ((k0 : Nat) : Int)) (n := (ByteArray.size s_)) (by omega)) (o1 (ob_eq (av_bool h2)))) ?_
      exact ⟨rfl, weak_fit (by rw [h2]; first | done | kernel_rfl)⟩
    ·
      have h2d := of_decide_eq_false h2
      refine rk tt_ok [(21, .b (decide (strAt s_ ((k0 : Nat) : Int) > (122 : Int))))] [9] [] [] [(3, .val (.b false))] (o2 (ob_idx (i := ((k0 : Nat) : Int)) (n := (ByteArray.size s_)) (by omega)) (o2 (ob_eq (av_bool h2)) (o1 (ob_idx (i := ((k0 : Nat) : Int)) (n := (ByteArray.size s_)) (by omega))))) ?_
      exact ⟨rfl, weak_fit (by rw [h2]; first | done | kernel_rfl)⟩
    refine ck (decide (strAt s_ ((k0 : Nat) : Int) < (97 : Int)) || decide (strAt s_ ((k0 : Nat) : Int) > (122 : Int))) (fun h3 => ?_) (fun h3 => ?_)
    ·
      refine awp_seq ?_
      refine rk tt_ok [] [21] [] [] [] (o0) ?_
      refine awp_ret ?_
      have hr4 : (forN (specl02Text_f0 s_) specl02Text_e0 (Int.toNat (ByteArray.size s_ : Int)) 0 ()) = .ret false := forN_ret hk0 (bif_t h3 (rfl)) hI0
      exact pret [] (congrArg (fun z => (.b z : AV)) (show specl02Text s_ most = false from on_r hr4).symm)
    ·
      have h3l : (decide (strAt s_ ((k0 : Nat) : Int) < (97 : Int))) = false := or_l h3
      have h3ld := of_decide_eq_false h3l
      have h3r : (decide (strAt s_ ((k0 : Nat) : Int) > (122 : Int))) = false := or_r h3
      have h3rd := of_decide_eq_false h3r
      refine awp_skip ?_
      refine rk tt_ok [(5, .i ((k0 + 1 : Nat) : Int))] [5, 21] [] [] [(1, .val (.i ((k0 + 1 : Nat) : Int)))] (o1 (ob_eq (av_i (wrap_succ k0 (by omega))))) ?_
      exact Exists.intro () (And.intro (weak_fit (by kernel_rfl)) (forN_next hk0 (bif_f h3 (rfl)) hI0))
  ·
    refine awp_seq ?_
    refine awp_seq ?_
    refine rk tt_ok [(9, .b false)] [] [] [] [(3, .val (.b false))] (o1 (ob_eq (av_bool (decide_eq_false (p := ((k0 : Nat) : Int) < (ByteArray.size s_ : Int)) (by omega))))) ?_
    refine ckF ?_
    refine awp_exit ?_
    exact Exists.intro () (And.intro (weak_fit (by kernel_rfl)) (forN_end hk0 (rfl) hI0))
  ·
    refine awp_seq ?_
    refine rk tt_ok [(4, .b (specl01In (ByteArray.size s_ : Int) 1 most))] [0, 1, 4] [] [] [(3, .val (.b (specl01In (ByteArray.size s_ : Int) 1 most)))] (o1 (ob_call (specl01In_a (ByteArray.size s_ : Int) 1 most))) ?_
    refine awp_ret ?_
    exact pret [] (congrArg (fun z => (.b z : AV)) (show specl02Text s_ most = (specl01In (ByteArray.size s_ : Int) 1 most) from on_b hD0 (rfl)).symm)
def specIsValidAttrName (s_ : ByteArray) : Bool := (specl02Text s_ 1)
theorem specIsValidAttrName_a (s_ : ByteArray) : ACalls Tryz.prog 148 [.s s_] (.b (specIsValidAttrName s_)) := by
  refine acalls_of (tt := tt) tt_ok Tryz.func148 (fn := Tryz.f148) rfl (by unfold FnOk; kernel_rfl) (Nat.le_of_ble_eq_true rfl) fun w0 F0 => ?_
  refine awp_seq ?_
  refine rk tt_ok [(2, .b false)] [] [] [] [] (o0) ?_
  refine awp_seq ?_
  refine rk tt_ok [(2, .b (specl02Text s_ 1))] [0, 2] [] [] [(1, .val (.b (specl02Text s_ 1)))] (o1 (ob_call (specl02Text_a s_ 1))) ?_
  refine awp_ret ?_
  exact pret [] (congrArg (fun z => (.b z : AV)) (show specIsValidAttrName s_ = (specl02Text s_ 1) from rfl).symm)
def specIsValidString (s_ : ByteArray) : Bool := (specl02Text s_ 6)
theorem specIsValidString_a (s_ : ByteArray) : ACalls Tryz.prog 180 [.s s_] (.b (specIsValidString s_)) := by
  refine acalls_of (tt := tt) tt_ok Tryz.func180 (fn := Tryz.f180) rfl (by unfold FnOk; kernel_rfl) (Nat.le_of_ble_eq_true rfl) fun w0 F0 => ?_
  refine awp_seq ?_
  refine rk tt_ok [(2, .b false)] [] [] [] [] (o0) ?_
  refine awp_seq ?_
  refine rk tt_ok [(2, .b (specl02Text s_ 6))] [0, 2] [] [] [(1, .val (.b (specl02Text s_ 6)))] (o1 (ob_call (specl02Text_a s_ 6))) ?_
  refine awp_ret ?_
  exact pret [] (congrArg (fun z => (.b z : AV)) (show specIsValidString s_ = (specl02Text s_ 6) from rfl).symm)
def specIsValidValue (v : ValueD) : Bool := (bif (v.1 == (0 : Int)) then ((v.1 == 0) && ((v.2.1 == 0) && ((v.2.2.toList == (⟨#[]⟩ : ByteArray).toList) && true))) else (bif (v.1 == (1 : Int)) then ((specl01In v.2.1 0 999) && (v.2.2.toList == (⟨#[]⟩ : ByteArray).toList)) else (bif (v.1 == (2 : Int)) then ((specIsValidString v.2.2) && (v.2.1 == (0 : Int))) else false)))
theorem specIsValidValue_a (v : ValueD) : ACalls Tryz.prog 177 [.a [.i v.1, .i v.2.1, .s v.2.2]] (.b (specIsValidValue v)) := by
  refine acalls_of (tt := tt) tt_ok Tryz.func177 (fn := Tryz.f177) rfl (by unfold FnOk; kernel_rfl) (Nat.le_of_ble_eq_true rfl) fun w0 F0 => ?_
  refine awp_seq ?_
  refine rk tt_ok [(1, .p 1 0), (2, .b false)] [0] [(1, [.i v.1, .i v.2.1, .s v.2.2])] [] [] (o0) ?_
  refine awp_seq ?_
  refine awp_seq ?_
  refine rk tt_ok [(4, .i v.1)] [] [] [] [] (o0) ?_
  refine awp_block ?_
  refine awp_seq ?_
  refine rk tt_ok [(5, .b (v.1 == (0 : Int)))] [] [] [] [] (o0) ?_
  refine ck (v.1 == (0 : Int)) (fun h1 => ?_) (fun h1 => ?_)
  ·
    have h1d := eq_of_beq h1
    refine awp_seq ?_
    refine rk tt_ok [(2, .b ((v.1 == 0) && ((v.2.1 == 0) && ((v.2.2.toList == (⟨#[]⟩ : ByteArray).toList) && true))))] [1, 2, 4, 5] [] [1] [] (o0) ?_
    refine awp_ret ?_
    exact pret [] (congrArg (fun z => (.b z : AV)) (show specIsValidValue v = ((v.1 == 0) && ((v.2.1 == 0) && ((v.2.2.toList == (⟨#[]⟩ : ByteArray).toList) && true))) from bif_t h1 (rfl)).symm)
  ·
    have h1d := ne_of_beq h1
    refine awp_seq ?_
    refine rk tt_ok [(10, .b (v.1 == (1 : Int)))] [5] [] [] [] (o0) ?_
    refine ck (v.1 == (1 : Int)) (fun h2 => ?_) (fun h2 => ?_)
    ·
      have h2d := eq_of_beq h2
      refine awp_seq ?_
      refine jn [(2, .b ((specl01In v.2.1 0 999) && (v.2.2.toList == (⟨#[]⟩ : ByteArray).toList)))] [1, 2, 4, 10] [] [1] (specl01In v.2.1 0 999) (fun h3 => ?_) (fun h3 => ?_) ?_
      ·
        refine rk tt_ok [(2, .b (v.2.2.toList == (⟨#[]⟩ : ByteArray).toList))] [1, 2, 4, 10] [] [1] [(2, .val (.b true))] (o1 (ob_call (cb h3 (specl01In_a v.2.1 0 999)))) ?_
        exact ⟨rfl, weak_fit (by rw [h3]; first | done | kernel_rfl)⟩
      ·
        refine rk tt_ok [] [1, 4, 10] [] [1] [(2, .val (.b false))] (o1 (ob_call (cb h3 (specl01In_a v.2.1 0 999)))) ?_
        exact ⟨rfl, weak_fit (by rw [h3]; first | done | kernel_rfl)⟩
      refine awp_ret ?_
      exact pret [] (congrArg (fun z => (.b z : AV)) (show specIsValidValue v = ((specl01In v.2.1 0 999) && (v.2.2.toList == (⟨#[]⟩ : ByteArray).toList)) from bif_f h1 (bif_t h2 (rfl))).symm)
    ·
      have h2d := ne_of_beq h2
      refine awp_seq ?_
      refine rk tt_ok [(20, .b (v.1 == (2 : Int)))] [4, 10] [] [] [] (o0) ?_
      refine ck (v.1 == (2 : Int)) (fun h4 => ?_) (fun h4 => ?_)
      ·
        have h4d := eq_of_beq h4
        refine awp_seq ?_
        refine jn [(2, .b ((specIsValidString v.2.2) && (v.2.1 == (0 : Int))))] [1, 2, 20] [] [1] (specIsValidString v.2.2) (fun h5 => ?_) (fun h5 => ?_) ?_
        ·
          refine rk tt_ok [(2, .b (v.2.1 == (0 : Int)))] [1, 2, 20] [] [1] [(2, .val (.b true))] (o1 (ob_call (cb h5 (specIsValidString_a v.2.2)))) ?_
          exact ⟨rfl, weak_fit (by rw [h5]; first | done | kernel_rfl)⟩
        ·
          refine rk tt_ok [] [1, 20] [] [1] [(2, .val (.b false))] (o1 (ob_call (cb h5 (specIsValidString_a v.2.2)))) ?_
          exact ⟨rfl, weak_fit (by rw [h5]; first | done | kernel_rfl)⟩
        refine awp_ret ?_
        exact pret [] (congrArg (fun z => (.b z : AV)) (show specIsValidValue v = ((specIsValidString v.2.2) && (v.2.1 == (0 : Int))) from bif_f h1 (bif_f h2 (bif_t h4 (rfl)))).symm)
      ·
        have h4d := ne_of_beq h4
        refine awp_skip ?_
        refine awp_seq ?_
        refine rk tt_ok [] [1, 20] [] [1] [] (o0) ?_
        refine awp_ret ?_
        exact pret [] (congrArg (fun z => (.b z : AV)) (show specIsValidValue v = false from bif_f h1 (bif_f h2 (bif_f h4 (rfl)))).symm)
def specIsValidNode (n : NodeD) (at_ : Int) : Bool := (bif (n.1 == (1 : Int)) then ((n.1 == 1) && ((n.2.1 == 0) && ((n.2.2.1 == 0) && ((n.2.2.2.1.toList == (⟨#[]⟩ : ByteArray).toList) && ((n.2.2.2.2.1 == 0) && ((n.2.2.2.2.2.1 == 0) && ((n.2.2.2.2.2.2.toList == (⟨#[]⟩ : ByteArray).toList) && true))))))) else (bif (n.1 == (2 : Int)) then ((specIsValidAttrName n.2.2.2.1) && ((n.1 == n.1) && ((n.2.1 == 0) && ((n.2.2.1 == 0) && ((n.2.2.2.1.toList == n.2.2.2.1.toList) && ((n.2.2.2.2.1 == 0) && ((n.2.2.2.2.2.1 == 0) && ((n.2.2.2.2.2.2.toList == (⟨#[]⟩ : ByteArray).toList) && true)))))))) else (bif (n.1 == (3 : Int)) then ((specIsValidAttrName n.2.2.2.1) && ((specIsValidValue n.2.2.2.2) && ((n.2.2.2.2.1 != (0 : Int)) && ((n.2.1 == (0 : Int)) && (n.2.2.1 == (0 : Int)))))) else (bif (n.1 == (4 : Int)) then ((specIsValidAttrName n.2.2.2.1) && ((specIsValidValue n.2.2.2.2) && ((n.2.2.2.2.1 == (1 : Int)) && ((n.2.1 == (0 : Int)) && (n.2.2.1 == (0 : Int)))))) else (bif (n.1 == (5 : Int)) then (((specl01In n.2.1 0 (IntKind.i64.wrap (at_ - 1))) && decide (at_ > (0 : Int))) && ((n.2.2.1 == (0 : Int)) && ((n.2.2.2.1.toList == (⟨#[]⟩ : ByteArray).toList) && ((n.2.2.2.2.1 == 0) && ((n.2.2.2.2.2.1 == 0) && ((n.2.2.2.2.2.2.toList == (⟨#[]⟩ : ByteArray).toList) && true)))))) else (bif (bif (n.1 == (6 : Int)) then (n.1 == (6 : Int)) else (n.1 == (7 : Int))) then ((((specl01In n.2.1 0 (IntKind.i64.wrap (at_ - 1))) && decide (at_ > (0 : Int))) && (specl01In n.2.2.1 0 (IntKind.i64.wrap (at_ - 1)))) && ((n.2.2.2.1.toList == (⟨#[]⟩ : ByteArray).toList) && ((n.2.2.2.2.1 == 0) && ((n.2.2.2.2.2.1 == 0) && ((n.2.2.2.2.2.2.toList == (⟨#[]⟩ : ByteArray).toList) && true))))) else (bif (n.1 == (8 : Int)) then ((specIsValidString n.2.2.2.1) && ((n.1 == n.1) && ((n.2.1 == 0) && ((n.2.2.1 == 0) && ((n.2.2.2.1.toList == n.2.2.2.1.toList) && ((n.2.2.2.2.1 == 0) && ((n.2.2.2.2.2.1 == 0) && ((n.2.2.2.2.2.2.toList == (⟨#[]⟩ : ByteArray).toList) && true)))))))) else (bif (n.1 == (9 : Int)) then ((specIsValidString n.2.2.2.1) && ((n.1 == n.1) && ((n.2.1 == 0) && ((n.2.2.1 == 0) && ((n.2.2.2.1.toList == n.2.2.2.1.toList) && ((n.2.2.2.2.1 == 0) && ((n.2.2.2.2.2.1 == 0) && ((n.2.2.2.2.2.2.toList == (⟨#[]⟩ : ByteArray).toList) && true)))))))) else false))))))))
theorem specIsValidNode_a (n : NodeD) (at_ : Int) : ACalls Tryz.prog 200 [.a [.i n.1, .i n.2.1, .i n.2.2.1, .s n.2.2.2.1, .i n.2.2.2.2.1, .i n.2.2.2.2.2.1, .s n.2.2.2.2.2.2], .i at_] (.b (specIsValidNode n at_)) := by
  refine acalls_of (tt := tt) tt_ok Tryz.func200 (fn := Tryz.f200) rfl (by unfold FnOk; kernel_rfl) (Nat.le_of_ble_eq_true rfl) fun w0 F0 => ?_
  refine awp_seq ?_
  refine rk tt_ok [(2, .p 2 0), (4, .b false)] [0] [(2, [.i n.1, .i n.2.1, .i n.2.2.1, .s n.2.2.2.1, .i n.2.2.2.2.1, .i n.2.2.2.2.2.1, .s n.2.2.2.2.2.2])] [] [] (o0) ?_
  refine awp_seq ?_
  refine jn [(5, .b ((specl01In n.2.1 0 (IntKind.i64.wrap (at_ - 1))) && decide (at_ > (0 : Int))))] [] [] [] (specl01In n.2.1 0 (IntKind.i64.wrap (at_ - 1))) (fun h1 => ?_) (fun h1 => ?_) ?_
  ·
    refine rk tt_ok [(5, .b (decide (at_ > (0 : Int))))] [] [] [] [(4, .val (.b true))] (o1 (ob_call (cb h1 (specl01In_a n.2.1 0 (IntKind.i64.wrap (at_ - 1)))))) ?_
    exact ⟨rfl, weak_fit (by rw [h1]; first | done | kernel_rfl)⟩
  ·
    refine rk tt_ok [(5, .b false)] [] [] [] [(4, .val (.b false))] (o1 (ob_call (cb h1 (specl01In_a n.2.1 0 (IntKind.i64.wrap (at_ - 1)))))) ?_
    exact ⟨rfl, weak_fit (by rw [h1]; first | done | kernel_rfl)⟩
  refine awp_seq ?_
  refine jn [(6, .b (((specl01In n.2.1 0 (IntKind.i64.wrap (at_ - 1))) && decide (at_ > (0 : Int))) && (specl01In n.2.2.1 0 (IntKind.i64.wrap (at_ - 1)))))] [1] [] [] ((specl01In n.2.1 0 (IntKind.i64.wrap (at_ - 1))) && decide (at_ > (0 : Int))) (fun h2 => ?_) (fun h2 => ?_) ?_
  ·
    have h2l : ((specl01In n.2.1 0 (IntKind.i64.wrap (at_ - 1)))) = true := and_l h2
    have h2r : (decide (at_ > (0 : Int))) = true := and_r h2
    have h2rd := of_decide_eq_true h2r
    refine rk tt_ok [(6, .b (specl01In n.2.2.1 0 (IntKind.i64.wrap (at_ - 1))))] [1] [] [] [(0, .val (.b true)), (6, .val (.b (specl01In n.2.2.1 0 (IntKind.i64.wrap (at_ - 1)))))] (o2 (ob_eq (av_bool h2)) (o1 (ob_call (specl01In_a n.2.2.1 0 (IntKind.i64.wrap (at_ - 1)))))) ?_
    exact ⟨rfl, weak_fit (by rw [h2]; first | done | kernel_rfl)⟩
  ·
    refine rk tt_ok [(6, .b false)] [1] [] [] [(0, .val (.b false))] (o1 (ob_eq (av_bool h2))) ?_
    exact ⟨rfl, weak_fit (by rw [h2]; first | done | kernel_rfl)⟩
  refine awp_seq ?_
  refine awp_seq ?_
  refine rk tt_ok [(25, .i n.1)] [] [] [] [] (o0) ?_
  refine awp_block ?_
  refine awp_seq ?_
  refine rk tt_ok [(26, .b (n.1 == (1 : Int)))] [] [] [] [] (o0) ?_
  refine ck (n.1 == (1 : Int)) (fun h3 => ?_) (fun h3 => ?_)
  ·
    have h3d := eq_of_beq h3
    refine awp_seq ?_
    refine rk tt_ok [(4, .b ((n.1 == 1) && ((n.2.1 == 0) && ((n.2.2.1 == 0) && ((n.2.2.2.1.toList == (⟨#[]⟩ : ByteArray).toList) && ((n.2.2.2.2.1 == 0) && ((n.2.2.2.2.2.1 == 0) && ((n.2.2.2.2.2.2.toList == (⟨#[]⟩ : ByteArray).toList) && true))))))))] [2, 4, 5, 6, 25, 26] [] [2] [] (o0) ?_
    refine awp_ret ?_
    exact pret [] (congrArg (fun z => (.b z : AV)) (show specIsValidNode n at_ = ((n.1 == 1) && ((n.2.1 == 0) && ((n.2.2.1 == 0) && ((n.2.2.2.1.toList == (⟨#[]⟩ : ByteArray).toList) && ((n.2.2.2.2.1 == 0) && ((n.2.2.2.2.2.1 == 0) && ((n.2.2.2.2.2.2.toList == (⟨#[]⟩ : ByteArray).toList) && true))))))) from bif_t h3 (rfl)).symm)
  ·
    have h3d := ne_of_beq h3
    refine awp_seq ?_
    refine rk tt_ok [(31, .b (n.1 == (2 : Int)))] [26] [] [] [] (o0) ?_
    refine ck (n.1 == (2 : Int)) (fun h4 => ?_) (fun h4 => ?_)
    ·
      have h4d := eq_of_beq h4
      refine awp_seq ?_
      refine jn [(4, .b ((specIsValidAttrName n.2.2.2.1) && ((n.1 == n.1) && ((n.2.1 == 0) && ((n.2.2.1 == 0) && ((n.2.2.2.1.toList == n.2.2.2.1.toList) && ((n.2.2.2.2.1 == 0) && ((n.2.2.2.2.2.1 == 0) && ((n.2.2.2.2.2.2.toList == (⟨#[]⟩ : ByteArray).toList) && true)))))))))] [2, 4, 5, 6, 25, 31] [] [2] (specIsValidAttrName n.2.2.2.1) (fun h5 => ?_) (fun h5 => ?_) ?_
      ·
        refine rk tt_ok [(4, .b ((n.1 == n.1) && ((n.2.1 == 0) && ((n.2.2.1 == 0) && ((n.2.2.2.1.toList == n.2.2.2.1.toList) && ((n.2.2.2.2.1 == 0) && ((n.2.2.2.2.2.1 == 0) && ((n.2.2.2.2.2.2.toList == (⟨#[]⟩ : ByteArray).toList) && true))))))))] [2, 4, 5, 6, 25, 31] [] [2] [(2, .val (.b true))] (o1 (ob_call (cb h5 (specIsValidAttrName_a n.2.2.2.1)))) ?_
        exact ⟨rfl, weak_fit (by rw [h5]; first | done | kernel_rfl)⟩
      ·
        refine rk tt_ok [] [2, 5, 6, 25, 31] [] [2] [(2, .val (.b false))] (o1 (ob_call (cb h5 (specIsValidAttrName_a n.2.2.2.1)))) ?_
        exact ⟨rfl, weak_fit (by rw [h5]; first | done | kernel_rfl)⟩
      refine awp_ret ?_
      exact pret [] (congrArg (fun z => (.b z : AV)) (show specIsValidNode n at_ = ((specIsValidAttrName n.2.2.2.1) && ((n.1 == n.1) && ((n.2.1 == 0) && ((n.2.2.1 == 0) && ((n.2.2.2.1.toList == n.2.2.2.1.toList) && ((n.2.2.2.2.1 == 0) && ((n.2.2.2.2.2.1 == 0) && ((n.2.2.2.2.2.2.toList == (⟨#[]⟩ : ByteArray).toList) && true)))))))) from bif_f h3 (bif_t h4 (rfl))).symm)
    ·
      have h4d := ne_of_beq h4
      refine awp_seq ?_
      refine rk tt_ok [(45, .b (n.1 == (3 : Int)))] [31] [] [] [] (o0) ?_
      refine ck (n.1 == (3 : Int)) (fun h6 => ?_) (fun h6 => ?_)
      ·
        have h6d := eq_of_beq h6
        refine awp_seq ?_
        refine jn [(4, .b ((specIsValidAttrName n.2.2.2.1) && ((specIsValidValue n.2.2.2.2) && ((n.2.2.2.2.1 != (0 : Int)) && ((n.2.1 == (0 : Int)) && (n.2.2.1 == (0 : Int)))))))] [2, 4, 5, 6, 25, 45] [] [2] (specIsValidAttrName n.2.2.2.1) (fun h7 => ?_) (fun h7 => ?_) ?_
        ·
          refine awp_split (specIsValidValue n.2.2.2.2) (fun h8 => ?_) (fun h8 => ?_)
          ·
            refine awp_split (n.2.2.2.2.1 != (0 : Int)) (fun h9 => ?_) (fun h9 => ?_)
            ·
              have h9d := ne_of_bne h9
              refine awp_split (n.2.1 == (0 : Int)) (fun h10 => ?_) (fun h10 => ?_)
              ·
                have h10d := eq_of_beq h10
                refine rk tt_ok [(4, .b (n.2.2.1 == (0 : Int)))] [2, 4, 5, 6, 25, 45] [] [2] [(2, .val (.b true)), (6, .val (.b true)), (12, .val (.b true)), (17, .val (.b true))] (o2 (ob_call (cb h7 (specIsValidAttrName_a n.2.2.2.1))) (o2 (ob_call (cb h8 (specIsValidValue_a n.2.2.2.2))) (o2 (ob_eq (av_bool h9)) (o1 (ob_eq (av_bool h10)))))) ?_
                exact ⟨rfl, weak_fit (by rw [h7, h8, h9, h10]; first | done | kernel_rfl)⟩
              ·
                have h10d := ne_of_beq h10
                refine rk tt_ok [] [2, 5, 6, 25, 45] [] [2] [(2, .val (.b true)), (6, .val (.b true)), (12, .val (.b true)), (17, .val (.b false))] (o2 (ob_call (cb h7 (specIsValidAttrName_a n.2.2.2.1))) (o2 (ob_call (cb h8 (specIsValidValue_a n.2.2.2.2))) (o2 (ob_eq (av_bool h9)) (o1 (ob_eq (av_bool h10)))))) ?_
                exact ⟨rfl, weak_fit (by rw [h7, h8, h9, h10]; first | done | kernel_rfl)⟩
            ·
              have h9d := eq_of_bne h9
              refine rk tt_ok [] [2, 5, 6, 25, 45] [] [2] [(2, .val (.b true)), (6, .val (.b true)), (12, .val (.b false))] (o2 (ob_call (cb h7 (specIsValidAttrName_a n.2.2.2.1))) (o2 (ob_call (cb h8 (specIsValidValue_a n.2.2.2.2))) (o1 (ob_eq (av_bool h9))))) ?_
              exact ⟨rfl, weak_fit (by rw [h7, h8, h9]; first | done | kernel_rfl)⟩
          ·
            refine rk tt_ok [] [2, 5, 6, 25, 45] [] [2] [(2, .val (.b true)), (6, .val (.b false))] (o2 (ob_call (cb h7 (specIsValidAttrName_a n.2.2.2.1))) (o1 (ob_call (cb h8 (specIsValidValue_a n.2.2.2.2))))) ?_
            exact ⟨rfl, weak_fit (by rw [h7, h8]; first | done | kernel_rfl)⟩
        ·
          refine rk tt_ok [] [2, 5, 6, 25, 45] [] [2] [(2, .val (.b false))] (o1 (ob_call (cb h7 (specIsValidAttrName_a n.2.2.2.1)))) ?_
          exact ⟨rfl, weak_fit (by rw [h7]; first | done | kernel_rfl)⟩
        refine awp_ret ?_
        exact pret [] (congrArg (fun z => (.b z : AV)) (show specIsValidNode n at_ = ((specIsValidAttrName n.2.2.2.1) && ((specIsValidValue n.2.2.2.2) && ((n.2.2.2.2.1 != (0 : Int)) && ((n.2.1 == (0 : Int)) && (n.2.2.1 == (0 : Int)))))) from bif_f h3 (bif_f h4 (bif_t h6 (rfl)))).symm)
      ·
        have h6d := ne_of_beq h6
        refine awp_seq ?_
        refine rk tt_ok [(71, .b (n.1 == (4 : Int)))] [45] [] [] [] (o0) ?_
        refine ck (n.1 == (4 : Int)) (fun h11 => ?_) (fun h11 => ?_)
        ·
          have h11d := eq_of_beq h11
          refine awp_seq ?_
          refine jn [(4, .b ((specIsValidAttrName n.2.2.2.1) && ((specIsValidValue n.2.2.2.2) && ((n.2.2.2.2.1 == (1 : Int)) && ((n.2.1 == (0 : Int)) && (n.2.2.1 == (0 : Int)))))))] [2, 4, 5, 6, 25, 71] [] [2] (specIsValidAttrName n.2.2.2.1) (fun h12 => ?_) (fun h12 => ?_) ?_
          ·
            refine awp_split (specIsValidValue n.2.2.2.2) (fun h13 => ?_) (fun h13 => ?_)
            ·
              refine awp_split (n.2.2.2.2.1 == (1 : Int)) (fun h14 => ?_) (fun h14 => ?_)
              ·
                have h14d := eq_of_beq h14
                refine awp_split (n.2.1 == (0 : Int)) (fun h15 => ?_) (fun h15 => ?_)
                ·
                  have h15d := eq_of_beq h15
                  refine rk tt_ok [(4, .b (n.2.2.1 == (0 : Int)))] [2, 4, 5, 6, 25, 71] [] [2] [(2, .val (.b true)), (6, .val (.b true)), (12, .val (.b true)), (17, .val (.b true))] (o2 (ob_call (cb h12 (specIsValidAttrName_a n.2.2.2.1))) (o2 (ob_call (cb h13 (specIsValidValue_a n.2.2.2.2))) (o2 (ob_eq (av_bool h14)) (o1 (ob_eq (av_bool h15)))))) ?_
                  exact ⟨rfl, weak_fit (by rw [h12, h13, h14, h15]; first | done | kernel_rfl)⟩
                ·
                  have h15d := ne_of_beq h15
                  refine rk tt_ok [] [2, 5, 6, 25, 71] [] [2] [(2, .val (.b true)), (6, .val (.b true)), (12, .val (.b true)), (17, .val (.b false))] (o2 (ob_call (cb h12 (specIsValidAttrName_a n.2.2.2.1))) (o2 (ob_call (cb h13 (specIsValidValue_a n.2.2.2.2))) (o2 (ob_eq (av_bool h14)) (o1 (ob_eq (av_bool h15)))))) ?_
                  exact ⟨rfl, weak_fit (by rw [h12, h13, h14, h15]; first | done | kernel_rfl)⟩
              ·
                have h14d := ne_of_beq h14
                refine rk tt_ok [] [2, 5, 6, 25, 71] [] [2] [(2, .val (.b true)), (6, .val (.b true)), (12, .val (.b false))] (o2 (ob_call (cb h12 (specIsValidAttrName_a n.2.2.2.1))) (o2 (ob_call (cb h13 (specIsValidValue_a n.2.2.2.2))) (o1 (ob_eq (av_bool h14))))) ?_
                exact ⟨rfl, weak_fit (by rw [h12, h13, h14]; first | done | kernel_rfl)⟩
            ·
              refine rk tt_ok [] [2, 5, 6, 25, 71] [] [2] [(2, .val (.b true)), (6, .val (.b false))] (o2 (ob_call (cb h12 (specIsValidAttrName_a n.2.2.2.1))) (o1 (ob_call (cb h13 (specIsValidValue_a n.2.2.2.2))))) ?_
              exact ⟨rfl, weak_fit (by rw [h12, h13]; first | done | kernel_rfl)⟩
          ·
            refine rk tt_ok [] [2, 5, 6, 25, 71] [] [2] [(2, .val (.b false))] (o1 (ob_call (cb h12 (specIsValidAttrName_a n.2.2.2.1)))) ?_
            exact ⟨rfl, weak_fit (by rw [h12]; first | done | kernel_rfl)⟩
          refine awp_ret ?_
          exact pret [] (congrArg (fun z => (.b z : AV)) (show specIsValidNode n at_ = ((specIsValidAttrName n.2.2.2.1) && ((specIsValidValue n.2.2.2.2) && ((n.2.2.2.2.1 == (1 : Int)) && ((n.2.1 == (0 : Int)) && (n.2.2.1 == (0 : Int)))))) from bif_f h3 (bif_f h4 (bif_f h6 (bif_t h11 (rfl))))).symm)
        ·
          have h11d := ne_of_beq h11
          refine awp_seq ?_
          refine rk tt_ok [(97, .b (n.1 == (5 : Int)))] [71] [] [] [] (o0) ?_
          refine ck (n.1 == (5 : Int)) (fun h16 => ?_) (fun h16 => ?_)
          ·
            have h16d := eq_of_beq h16
            refine awp_seq ?_
            refine jn [(4, .b (((specl01In n.2.1 0 (IntKind.i64.wrap (at_ - 1))) && decide (at_ > (0 : Int))) && ((n.2.2.1 == (0 : Int)) && ((n.2.2.2.1.toList == (⟨#[]⟩ : ByteArray).toList) && ((n.2.2.2.2.1 == 0) && ((n.2.2.2.2.2.1 == 0) && ((n.2.2.2.2.2.2.toList == (⟨#[]⟩ : ByteArray).toList) && true)))))))] [2, 4, 5, 6, 25, 97] [] [2] ((specl01In n.2.1 0 (IntKind.i64.wrap (at_ - 1))) && decide (at_ > (0 : Int))) (fun h17 => ?_) (fun h17 => ?_) ?_
            ·
              have h17l : ((specl01In n.2.1 0 (IntKind.i64.wrap (at_ - 1)))) = true := and_l h17
              have h17r : (decide (at_ > (0 : Int))) = true := and_r h17
              have h17rd := of_decide_eq_true h17r
              refine awp_split (n.2.2.1 == (0 : Int)) (fun h18 => ?_) (fun h18 => ?_)
              ·
                have h18d := eq_of_beq h18
                refine awp_split (n.2.2.2.1.toList == (⟨#[]⟩ : ByteArray).toList) (fun h19 => ?_) (fun h19 => ?_)
                ·
                  refine rk tt_ok [(4, .b ((n.2.2.2.2.1 == 0) && ((n.2.2.2.2.2.1 == 0) && ((n.2.2.2.2.2.2.toList == (⟨#[]⟩ : ByteArray).toList) && true))))] [2, 4, 5, 6, 25, 97] [] [2] [(0, .val (.b true)), (4, .val (.b true)), (9, .val (.b true))] (o2 (ob_eq (av_bool h17)) (o2 (ob_eq (av_bool h18)) (o1 (ob_eq (av_bool h19))))) ?_
                  exact ⟨rfl, weak_fit (by rw [h17, h18, h19]; first | done | kernel_rfl)⟩
                ·
                  refine rk tt_ok [] [2, 5, 6, 25, 97] [] [2] [(0, .val (.b true)), (4, .val (.b true)), (9, .val (.b false))] (o2 (ob_eq (av_bool h17)) (o2 (ob_eq (av_bool h18)) (o1 (ob_eq (av_bool h19))))) ?_
                  exact ⟨rfl, weak_fit (by rw [h17, h18, h19]; first | done | kernel_rfl)⟩
              ·
                have h18d := ne_of_beq h18
                refine rk tt_ok [] [2, 5, 6, 25, 97] [] [2] [(0, .val (.b true)), (4, .val (.b false))] (o2 (ob_eq (av_bool h17)) (o1 (ob_eq (av_bool h18)))) ?_
                exact ⟨rfl, weak_fit (by rw [h17, h18]; first | done | kernel_rfl)⟩
            ·
              refine rk tt_ok [] [2, 5, 6, 25, 97] [] [2] [(0, .val (.b false))] (o1 (ob_eq (av_bool h17))) ?_
              exact ⟨rfl, weak_fit (by rw [h17]; first | done | kernel_rfl)⟩
            refine awp_ret ?_
            exact pret [] (congrArg (fun z => (.b z : AV)) (show specIsValidNode n at_ = (((specl01In n.2.1 0 (IntKind.i64.wrap (at_ - 1))) && decide (at_ > (0 : Int))) && ((n.2.2.1 == (0 : Int)) && ((n.2.2.2.1.toList == (⟨#[]⟩ : ByteArray).toList) && ((n.2.2.2.2.1 == 0) && ((n.2.2.2.2.2.1 == 0) && ((n.2.2.2.2.2.2.toList == (⟨#[]⟩ : ByteArray).toList) && true)))))) from bif_f h3 (bif_f h4 (bif_f h6 (bif_f h11 (bif_t h16 (rfl)))))).symm)
          ·
            have h16d := ne_of_beq h16
            refine awp_seq ?_
            refine awp_seq ?_
            refine rk tt_ok [(116, .b (n.1 == (6 : Int)))] [5, 97] [] [] [] (o0) ?_
            refine jn [(116, .b (bif (n.1 == (6 : Int)) then (n.1 == (6 : Int)) else (n.1 == (7 : Int))))] [116] [] [] (n.1 == (6 : Int)) (fun h20 => ?_) (fun h20 => ?_) ?_
            ·
              have h20d := eq_of_beq h20
              refine ckt h20 ?_
              refine awp_skip ?_
              exact ⟨rfl, weak_fit (by rw [h20]; first | done | kernel_rfl)⟩
            ·
              have h20d := ne_of_beq h20
              refine ckf h20 ?_
              refine rk tt_ok [(116, .b (n.1 == (7 : Int)))] [116] [] [] [] (o0) ?_
              exact ⟨rfl, weak_fit (by rw [h20]; first | done | kernel_rfl)⟩
            refine ck (bif (n.1 == (6 : Int)) then (n.1 == (6 : Int)) else (n.1 == (7 : Int))) (fun h21 => ?_) (fun h21 => ?_)
            ·
              refine awp_seq ?_
              refine jn [(4, .b ((((specl01In n.2.1 0 (IntKind.i64.wrap (at_ - 1))) && decide (at_ > (0 : Int))) && (specl01In n.2.2.1 0 (IntKind.i64.wrap (at_ - 1)))) && ((n.2.2.2.1.toList == (⟨#[]⟩ : ByteArray).toList) && ((n.2.2.2.2.1 == 0) && ((n.2.2.2.2.2.1 == 0) && ((n.2.2.2.2.2.2.toList == (⟨#[]⟩ : ByteArray).toList) && true))))))] [2, 4, 6, 25, 116] [] [2] (((specl01In n.2.1 0 (IntKind.i64.wrap (at_ - 1))) && decide (at_ > (0 : Int))) && (specl01In n.2.2.1 0 (IntKind.i64.wrap (at_ - 1)))) (fun h22 => ?_) (fun h22 => ?_) ?_
              ·
                have h22l : (((specl01In n.2.1 0 (IntKind.i64.wrap (at_ - 1))) && decide (at_ > (0 : Int)))) = true := and_l h22
                have h22ll : ((specl01In n.2.1 0 (IntKind.i64.wrap (at_ - 1)))) = true := and_l h22l
                have h22lr : (decide (at_ > (0 : Int))) = true := and_r h22l
                have h22lrd := of_decide_eq_true h22lr
                have h22r : ((specl01In n.2.2.1 0 (IntKind.i64.wrap (at_ - 1)))) = true := and_r h22
                refine awp_split (n.2.2.2.1.toList == (⟨#[]⟩ : ByteArray).toList) (fun h23 => ?_) (fun h23 => ?_)
                ·
                  refine rk tt_ok [(4, .b ((n.2.2.2.2.1 == 0) && ((n.2.2.2.2.2.1 == 0) && ((n.2.2.2.2.2.2.toList == (⟨#[]⟩ : ByteArray).toList) && true))))] [2, 4, 6, 25, 116] [] [2] [(0, .val (.b true)), (4, .val (.b true))] (o2 (ob_eq (av_bool h22)) (o1 (ob_eq (av_bool h23)))) ?_
                  exact ⟨rfl, weak_fit (by rw [h22, h23]; first | done | kernel_rfl)⟩
                ·
                  refine rk tt_ok [] [2, 6, 25, 116] [] [2] [(0, .val (.b true)), (4, .val (.b false))] (o2 (ob_eq (av_bool h22)) (o1 (ob_eq (av_bool h23)))) ?_
                  exact ⟨rfl, weak_fit (by rw [h22, h23]; first | done | kernel_rfl)⟩
              ·
                refine rk tt_ok [] [2, 6, 25, 116] [] [2] [(0, .val (.b false))] (o1 (ob_eq (av_bool h22))) ?_
                exact ⟨rfl, weak_fit (by rw [h22]; first | done | kernel_rfl)⟩
              refine awp_ret ?_
              exact pret [] (congrArg (fun z => (.b z : AV)) (show specIsValidNode n at_ = ((((specl01In n.2.1 0 (IntKind.i64.wrap (at_ - 1))) && decide (at_ > (0 : Int))) && (specl01In n.2.2.1 0 (IntKind.i64.wrap (at_ - 1)))) && ((n.2.2.2.1.toList == (⟨#[]⟩ : ByteArray).toList) && ((n.2.2.2.2.1 == 0) && ((n.2.2.2.2.2.1 == 0) && ((n.2.2.2.2.2.2.toList == (⟨#[]⟩ : ByteArray).toList) && true))))) from bif_f h3 (bif_f h4 (bif_f h6 (bif_f h11 (bif_f h16 (bif_t h21 (rfl))))))).symm)
            ·
              refine awp_seq ?_
              refine awp_seq ?_
              refine rk tt_ok [(131, .b (n.1 == (8 : Int)))] [6, 116] [] [] [] (o0) ?_
              refine ck (n.1 == (8 : Int)) (fun h24 => ?_) (fun h24 => ?_)
              ·
                have h24d := eq_of_beq h24
                refine awp_skip ?_
                refine ckt h24 ?_
                refine awp_seq ?_
                refine jn [(4, .b ((specIsValidString n.2.2.2.1) && ((n.1 == n.1) && ((n.2.1 == 0) && ((n.2.2.1 == 0) && ((n.2.2.2.1.toList == n.2.2.2.1.toList) && ((n.2.2.2.2.1 == 0) && ((n.2.2.2.2.2.1 == 0) && ((n.2.2.2.2.2.2.toList == (⟨#[]⟩ : ByteArray).toList) && true)))))))))] [2, 4, 25, 131] [] [2] (specIsValidString n.2.2.2.1) (fun h25 => ?_) (fun h25 => ?_) ?_
                ·
                  refine rk tt_ok [(4, .b ((n.1 == n.1) && ((n.2.1 == 0) && ((n.2.2.1 == 0) && ((n.2.2.2.1.toList == n.2.2.2.1.toList) && ((n.2.2.2.2.1 == 0) && ((n.2.2.2.2.2.1 == 0) && ((n.2.2.2.2.2.2.toList == (⟨#[]⟩ : ByteArray).toList) && true))))))))] [2, 4, 25, 131] [] [2] [(2, .val (.b true))] (o1 (ob_call (cb h25 (specIsValidString_a n.2.2.2.1)))) ?_
                  exact ⟨rfl, weak_fit (by rw [h25]; first | done | kernel_rfl)⟩
                ·
                  refine rk tt_ok [] [2, 25, 131] [] [2] [(2, .val (.b false))] (o1 (ob_call (cb h25 (specIsValidString_a n.2.2.2.1)))) ?_
                  exact ⟨rfl, weak_fit (by rw [h25]; first | done | kernel_rfl)⟩
                refine awp_ret ?_
                exact pret [] (congrArg (fun z => (.b z : AV)) (show specIsValidNode n at_ = ((specIsValidString n.2.2.2.1) && ((n.1 == n.1) && ((n.2.1 == 0) && ((n.2.2.1 == 0) && ((n.2.2.2.1.toList == n.2.2.2.1.toList) && ((n.2.2.2.2.1 == 0) && ((n.2.2.2.2.2.1 == 0) && ((n.2.2.2.2.2.2.toList == (⟨#[]⟩ : ByteArray).toList) && true)))))))) from bif_f h3 (bif_f h4 (bif_f h6 (bif_f h11 (bif_f h16 (bif_f h21 (bif_t h24 (rfl)))))))).symm)
              ·
                have h24d := ne_of_beq h24
                refine rk tt_ok [(131, .b (n.1 == (9 : Int)))] [25, 131] [] [] [] (o0) ?_
                refine ck (n.1 == (9 : Int)) (fun h26 => ?_) (fun h26 => ?_)
                ·
                  have h26d := eq_of_beq h26
                  refine awp_seq ?_
                  refine jn [(4, .b ((specIsValidString n.2.2.2.1) && ((n.1 == n.1) && ((n.2.1 == 0) && ((n.2.2.1 == 0) && ((n.2.2.2.1.toList == n.2.2.2.1.toList) && ((n.2.2.2.2.1 == 0) && ((n.2.2.2.2.2.1 == 0) && ((n.2.2.2.2.2.2.toList == (⟨#[]⟩ : ByteArray).toList) && true)))))))))] [2, 4, 131] [] [2] (specIsValidString n.2.2.2.1) (fun h27 => ?_) (fun h27 => ?_) ?_
                  ·
                    refine rk tt_ok [(4, .b ((n.1 == n.1) && ((n.2.1 == 0) && ((n.2.2.1 == 0) && ((n.2.2.2.1.toList == n.2.2.2.1.toList) && ((n.2.2.2.2.1 == 0) && ((n.2.2.2.2.2.1 == 0) && ((n.2.2.2.2.2.2.toList == (⟨#[]⟩ : ByteArray).toList) && true))))))))] [2, 4, 131] [] [2] [(2, .val (.b true))] (o1 (ob_call (cb h27 (specIsValidString_a n.2.2.2.1)))) ?_
                    exact ⟨rfl, weak_fit (by rw [h27]; first | done | kernel_rfl)⟩
                  ·
                    refine rk tt_ok [] [2, 131] [] [2] [(2, .val (.b false))] (o1 (ob_call (cb h27 (specIsValidString_a n.2.2.2.1)))) ?_
                    exact ⟨rfl, weak_fit (by rw [h27]; first | done | kernel_rfl)⟩
                  refine awp_ret ?_
                  exact pret [] (congrArg (fun z => (.b z : AV)) (show specIsValidNode n at_ = ((specIsValidString n.2.2.2.1) && ((n.1 == n.1) && ((n.2.1 == 0) && ((n.2.2.1 == 0) && ((n.2.2.2.1.toList == n.2.2.2.1.toList) && ((n.2.2.2.2.1 == 0) && ((n.2.2.2.2.2.1 == 0) && ((n.2.2.2.2.2.2.toList == (⟨#[]⟩ : ByteArray).toList) && true)))))))) from bif_f h3 (bif_f h4 (bif_f h6 (bif_f h11 (bif_f h16 (bif_f h21 (bif_f h24 (bif_t h26 (rfl))))))))).symm)
                ·
                  have h26d := ne_of_beq h26
                  refine awp_skip ?_
                  refine awp_seq ?_
                  refine rk tt_ok [] [2, 131] [] [2] [] (o0) ?_
                  refine awp_ret ?_
                  exact pret [] (congrArg (fun z => (.b z : AV)) (show specIsValidNode n at_ = false from bif_f h3 (bif_f h4 (bif_f h6 (bif_f h11 (bif_f h16 (bif_f h21 (bif_f h24 (bif_f h26 (rfl))))))))).symm)
def specCountReferences_f0 (at_ : Int) (_ : Nat) (a0 : NodeD) (s0 : Int) : Rd (Int) (Int) (Int) := (bif (bif ((a0.1 == (6 : Int)) || (a0.1 == (7 : Int))) then (a0.2.1 == at_) else ((a0.1 == (5 : Int)) && (a0.2.1 == at_))) then (bif (((a0.1 == (6 : Int)) || (a0.1 == (7 : Int))) && (a0.2.2.1 == at_)) then (.next (IntKind.i64.wrap (IntKind.i64.wrap (s0 + 1) + 1))) else (.next (IntKind.i64.wrap (s0 + 1)))) else (bif (((a0.1 == (6 : Int)) || (a0.1 == (7 : Int))) && (a0.2.2.1 == at_)) then (.next (IntKind.i64.wrap (s0 + 1))) else (.next s0)))
def specCountReferences_e0 (_ : Nat) (s0 : Int) : Int := s0
def specCountReferences (q : (List NodeD)) (at_ : Int) : Int := (Out.on (forL (specCountReferences_f0 at_) specCountReferences_e0 q 0 0) (fun y0 => y0))
theorem specCountReferences_a (q : (List NodeD)) (at_ : Int) : ACalls Tryz.prog 201 [.h q, .i at_] (.i (specCountReferences q at_)) := by
  refine acalls_of (tt := tt) tt_ok Tryz.func201 (fn := Tryz.f201) rfl (by unfold FnOk; kernel_rfl) (Nat.le_of_ble_eq_true rfl) fun w0 F0 => ?_
  refine awp_seq ?_
  refine rk tt_ok [(4, .i 0)] [] [] [] [] (o0) ?_
  refine awp_seq ?_
  refine rk tt_ok [(5, .i 0)] [] [] [] [] (o0) ?_
  refine awp_seq ?_
  refine awp_seq ?_
  refine rk tt_ok [(6, .i 0)] [] [] [] [] (o0) ?_
  refine wdT 0 0 .sh q (fun hw1 => ?_)
  have hl2 : List.length q ≤ 1073741824 := wide_len (hw1)
  refine blk (fun (k0 : Nat) (s0 : Int) => [(5, .i s0), (6, .i ((k0 : Nat) : Int))]) [5, 6] (fun k0 s0 => []) [] (fun (y0 : Int) => [(5, .i y0)]) [0, 1, 5, 6] (fun y0 => []) [] (fun (k0 : Nat) (s0 : Int) => (forL (specCountReferences_f0 at_) specCountReferences_e0 q 0 0) = forL (specCountReferences_f0 at_) specCountReferences_e0 (List.drop k0 q) k0 s0) (fun (y0 : Int) => (forL (specCountReferences_f0 at_) specCountReferences_e0 q 0 0) = .brk y0) q.length 0 (weak_fit (by kernel_rfl)) rfl (fun k0 s0 hk0 hI0 => ?_) (fun k0 s0 hk0 hI0 => ?_) (fun y0 hD0 => ?_)
  ·
    obtain ⟨a0, hx0⟩ := get_some (l := q) (i := k0) hk0
    refine awp_seq ?_
    refine awp_seq ?_
    refine rk tt_ok [(11, .b true)] [] [] [] [(2, .val (.i (q.length : Int))), (3, .val (.b true))] (o2 (ob_eq (av_len q)) (o1 (ob_eq (av_bool (decide_eq_true (p := ((k0 : Nat) : Int) < (q.length : Int)) (by omega)))))) ?_
    refine ckT ?_
    refine awp_skip ?_
    refine awp_seq ?_
    refine awp_block ?_
    refine awp_seq ?_
    refine jn [(7, .b ((a0.1 == (6 : Int)) || (a0.1 == (7 : Int))))] [11] [] [] (a0.1 == (6 : Int)) (fun h3 => ?_) (fun h3 => ?_) ?_
    ·
      have h3d := eq_of_beq h3
      refine rk tt_ok [(7, .b true)] [11] [] [] [(2, .row [.i a0.1, .i a0.2.1, .i a0.2.2.1, .s a0.2.2.2.1, .i a0.2.2.2.2.1, .i a0.2.2.2.2.2.1, .s a0.2.2.2.2.2.2]), (5, .val (.b true))] (o2 (ob_elem (el_of (i := ((k0 : Nat) : Int)) (by omega) rfl hx0)) (o1 (ob_eq (av_bool h3)))) ?_
      exact ⟨rfl, weak_fit (by rw [h3]; first | done | kernel_rfl)⟩
    ·
      have h3d := ne_of_beq h3
      refine rk tt_ok [(7, .b (a0.1 == (7 : Int)))] [11] [] [] [(2, .row [.i a0.1, .i a0.2.1, .i a0.2.2.1, .s a0.2.2.2.1, .i a0.2.2.2.2.1, .i a0.2.2.2.2.2.1, .s a0.2.2.2.2.2.2]), (5, .val (.b false)), (9, .row [.i a0.1, .i a0.2.1, .i a0.2.2.1, .s a0.2.2.2.1, .i a0.2.2.2.2.1, .i a0.2.2.2.2.2.1, .s a0.2.2.2.2.2.2])] (o2 (ob_elem (el_of (i := ((k0 : Nat) : Int)) (by omega) rfl hx0)) (o2 (ob_eq (av_bool h3)) (o1 (ob_elem (el_of (i := ((k0 : Nat) : Int)) (by omega) rfl hx0))))) ?_
      exact ⟨rfl, weak_fit (by rw [h3]; first | done | kernel_rfl)⟩
    refine awp_seq ?_
    refine awp_seq ?_
    refine jn [(45, .b (bif ((a0.1 == (6 : Int)) || (a0.1 == (7 : Int))) then (a0.2.1 == at_) else ((a0.1 == (5 : Int)) && (a0.2.1 == at_))))] [] [] [] ((a0.1 == (6 : Int)) || (a0.1 == (7 : Int))) (fun h4 => ?_) (fun h4 => ?_) ?_
    ·
      refine rk tt_ok [(45, .b (a0.2.1 == at_))] [] [] [] [(0, .val (.b true)), (12, .row [.i a0.1, .i a0.2.1, .i a0.2.2.1, .s a0.2.2.2.1, .i a0.2.2.2.2.1, .i a0.2.2.2.2.2.1, .s a0.2.2.2.2.2.2])] (o2 (ob_eq (av_bool h4)) (o1 (ob_elem (el_of (i := ((k0 : Nat) : Int)) (by omega) rfl hx0)))) ?_
      exact ⟨rfl, weak_fit (by rw [h4]; first | done | kernel_rfl)⟩
    ·
      have h4l : ((a0.1 == (6 : Int))) = false := or_l h4
      have h4ld := ne_of_beq h4l
      have h4r : ((a0.1 == (7 : Int))) = false := or_r h4
      have h4rd := ne_of_beq h4r
      refine awp_split (a0.1 == (5 : Int)) (fun h5 => ?_) (fun h5 => ?_)
      ·
        have h5d := eq_of_beq h5
        refine rk tt_ok [(45, .b (a0.2.1 == at_))] [] [] [] [(0, .val (.b false)), (4, .row [.i a0.1, .i a0.2.1, .i a0.2.2.1, .s a0.2.2.2.1, .i a0.2.2.2.2.1, .i a0.2.2.2.2.2.1, .s a0.2.2.2.2.2.2]), (7, .val (.b true)), (12, .row [.i a0.1, .i a0.2.1, .i a0.2.2.1, .s a0.2.2.2.1, .i a0.2.2.2.2.1, .i a0.2.2.2.2.2.1, .s a0.2.2.2.2.2.2])] (o2 (ob_eq (av_bool h4)) (o2 (ob_elem (el_of (i := ((k0 : Nat) : Int)) (by omega) rfl hx0)) (o2 (ob_eq (av_bool h5)) (o1 (ob_elem (el_of (i := ((k0 : Nat) : Int)) (by omega) rfl hx0)))))) ?_
        exact ⟨rfl, weak_fit (by rw [h4, h5]; first | done | kernel_rfl)⟩
      ·
        have h5d := ne_of_beq h5
        refine rk tt_ok [(45, .b false)] [] [] [] [(0, .val (.b false)), (4, .row [.i a0.1, .i a0.2.1, .i a0.2.2.1, .s a0.2.2.2.1, .i a0.2.2.2.2.1, .i a0.2.2.2.2.2.1, .s a0.2.2.2.2.2.2]), (7, .val (.b false))] (o2 (ob_eq (av_bool h4)) (o2 (ob_elem (el_of (i := ((k0 : Nat) : Int)) (by omega) rfl hx0)) (o1 (ob_eq (av_bool h5))))) ?_
        exact ⟨rfl, weak_fit (by rw [h4, h5]; first | done | kernel_rfl)⟩
    refine ck (bif ((a0.1 == (6 : Int)) || (a0.1 == (7 : Int))) then (a0.2.1 == at_) else ((a0.1 == (5 : Int)) && (a0.2.1 == at_))) (fun h6 => ?_) (fun h6 => ?_)
    ·
      refine rk tt_ok [(5, .i (IntKind.i64.wrap (s0 + 1)))] [5, 45] [] [] [] (o0) ?_
      refine awp_seq ?_
      refine jn [(57, .b (((a0.1 == (6 : Int)) || (a0.1 == (7 : Int))) && (a0.2.2.1 == at_)))] [7] [] [] ((a0.1 == (6 : Int)) || (a0.1 == (7 : Int))) (fun h7 => ?_) (fun h7 => ?_) ?_
      ·
        refine rk tt_ok [(57, .b (a0.2.2.1 == at_))] [7] [] [] [(0, .val (.b true)), (4, .row [.i a0.1, .i a0.2.1, .i a0.2.2.1, .s a0.2.2.2.1, .i a0.2.2.2.2.1, .i a0.2.2.2.2.2.1, .s a0.2.2.2.2.2.2])] (o2 (ob_eq (av_bool h7)) (o1 (ob_elem (el_of (i := ((k0 : Nat) : Int)) (by omega) rfl hx0)))) ?_
        exact ⟨rfl, weak_fit (by rw [h7]; first | done | kernel_rfl)⟩
      ·
        have h7l : ((a0.1 == (6 : Int))) = false := or_l h7
        have h7ld := ne_of_beq h7l
        have h7r : ((a0.1 == (7 : Int))) = false := or_r h7
        have h7rd := ne_of_beq h7r
        refine rk tt_ok [(57, .b false)] [7] [] [] [(0, .val (.b false))] (o1 (ob_eq (av_bool h7))) ?_
        exact ⟨rfl, weak_fit (by rw [h7]; first | done | kernel_rfl)⟩
      refine ck (((a0.1 == (6 : Int)) || (a0.1 == (7 : Int))) && (a0.2.2.1 == at_)) (fun h8 => ?_) (fun h8 => ?_)
      ·
        have h8l : (((a0.1 == (6 : Int)) || (a0.1 == (7 : Int)))) = true := and_l h8
        have h8r : ((a0.2.2.1 == at_)) = true := and_r h8
        have h8rd := eq_of_beq h8r
        refine rk tt_ok [(5, .i (IntKind.i64.wrap (IntKind.i64.wrap (s0 + 1) + 1)))] [5, 57] [] [] [] (o0) ?_
        refine rk tt_ok [(6, .i ((k0 + 1 : Nat) : Int))] [6] [] [] [(1, .val (.i ((k0 + 1 : Nat) : Int)))] (o1 (ob_eq (av_i (wrap_succ k0 (by omega))))) ?_
        exact Exists.intro (IntKind.i64.wrap (IntKind.i64.wrap (s0 + 1) + 1)) (And.intro (weak_fit (by kernel_rfl)) (forL_next hx0 (bif_t h6 (bif_t h8 (rfl))) hI0))
      ·
        refine awp_skip ?_
        refine rk tt_ok [(6, .i ((k0 + 1 : Nat) : Int))] [6, 57] [] [] [(1, .val (.i ((k0 + 1 : Nat) : Int)))] (o1 (ob_eq (av_i (wrap_succ k0 (by omega))))) ?_
        exact Exists.intro (IntKind.i64.wrap (s0 + 1)) (And.intro (weak_fit (by kernel_rfl)) (forL_next hx0 (bif_t h6 (bif_f h8 (rfl))) hI0))
    ·
      refine awp_skip ?_
      refine awp_seq ?_
      refine jn [(57, .b (((a0.1 == (6 : Int)) || (a0.1 == (7 : Int))) && (a0.2.2.1 == at_)))] [7, 45] [] [] ((a0.1 == (6 : Int)) || (a0.1 == (7 : Int))) (fun h9 => ?_) (fun h9 => ?_) ?_
      ·
        refine rk tt_ok [(57, .b (a0.2.2.1 == at_))] [7, 45] [] [] [(0, .val (.b true)), (4, .row [.i a0.1, .i a0.2.1, .i a0.2.2.1, .s a0.2.2.2.1, .i a0.2.2.2.2.1, .i a0.2.2.2.2.2.1, .s a0.2.2.2.2.2.2])] (o2 (ob_eq (av_bool h9)) (o1 (ob_elem (el_of (i := ((k0 : Nat) : Int)) (by omega) rfl hx0)))) ?_
        exact ⟨rfl, weak_fit (by rw [h9]; first | done | kernel_rfl)⟩
      ·
        have h9l : ((a0.1 == (6 : Int))) = false := or_l h9
        have h9ld := ne_of_beq h9l
        have h9r : ((a0.1 == (7 : Int))) = false := or_r h9
        have h9rd := ne_of_beq h9r
        refine rk tt_ok [(57, .b false)] [7, 45] [] [] [(0, .val (.b false))] (o1 (ob_eq (av_bool h9))) ?_
        exact ⟨rfl, weak_fit (by rw [h9]; first | done | kernel_rfl)⟩
      refine ck (((a0.1 == (6 : Int)) || (a0.1 == (7 : Int))) && (a0.2.2.1 == at_)) (fun h10 => ?_) (fun h10 => ?_)
      ·
        have h10l : (((a0.1 == (6 : Int)) || (a0.1 == (7 : Int)))) = true := and_l h10
        have h10r : ((a0.2.2.1 == at_)) = true := and_r h10
        have h10rd := eq_of_beq h10r
        refine rk tt_ok [(5, .i (IntKind.i64.wrap (s0 + 1)))] [5, 57] [] [] [] (o0) ?_
        refine rk tt_ok [(6, .i ((k0 + 1 : Nat) : Int))] [6] [] [] [(1, .val (.i ((k0 + 1 : Nat) : Int)))] (o1 (ob_eq (av_i (wrap_succ k0 (by omega))))) ?_
        exact Exists.intro (IntKind.i64.wrap (s0 + 1)) (And.intro (weak_fit (by kernel_rfl)) (forL_next hx0 (bif_f h6 (bif_t h10 (rfl))) hI0))
      ·
        refine awp_skip ?_
        refine rk tt_ok [(6, .i ((k0 + 1 : Nat) : Int))] [6, 57] [] [] [(1, .val (.i ((k0 + 1 : Nat) : Int)))] (o1 (ob_eq (av_i (wrap_succ k0 (by omega))))) ?_
        exact Exists.intro s0 (And.intro (weak_fit (by kernel_rfl)) (forL_next hx0 (bif_f h6 (bif_f h10 (rfl))) hI0))
  ·
    refine awp_seq ?_
    refine awp_seq ?_
    refine rk tt_ok [(11, .b false)] [] [] [] [(2, .val (.i (q.length : Int))), (3, .val (.b false))] (o2 (ob_eq (av_len q)) (o1 (ob_eq (av_bool (decide_eq_false (p := ((k0 : Nat) : Int) < (q.length : Int)) (by omega)))))) ?_
    refine ckF ?_
    refine awp_exit ?_
    exact Exists.intro s0 (And.intro (weak_fit (by kernel_rfl)) (forL_end hk0 (rfl) hI0))
  ·
    refine awp_seq ?_
    refine rk tt_ok [(4, .i y0)] [4, 5] [] [] [] (o0) ?_
    refine awp_ret ?_
    exact pret [] (congrArg (fun z => (.i z : AV)) (show specCountReferences q at_ = y0 from on_b hD0 (rfl)).symm)
def specIsValidQuery_f0 (q : (List NodeD)) (k0 : Nat) (a0 : NodeD) (_ : Unit) : Rd (Bool) (Unit) (Unit) := (bif ((!(specIsValidNode a0 ((k0 : Nat) : Int))) || (decide (((k0 : Nat) : Int) < ((q.length : Int) - 1)) && ((specCountReferences q ((k0 : Nat) : Int)) != (1 : Int)))) then (.ret false) else (.next ()))
def specIsValidQuery_e0 (_ : Nat) (_ : Unit) : Unit := ()
def specIsValidQuery (q : (List NodeD)) : Bool := (Out.on (forL (specIsValidQuery_f0 q) specIsValidQuery_e0 q 0 ()) (fun _ => (specl01In (q.length : Int) 1 9)))
theorem specIsValidQuery_a (q : (List NodeD)) : ACalls Tryz.prog 181 [.h q] (.b (specIsValidQuery q)) := by
  refine acalls_of (tt := tt) tt_ok Tryz.func181 (fn := Tryz.f181) rfl (by unfold FnOk; kernel_rfl) (Nat.le_of_ble_eq_true rfl) fun w0 F0 => ?_
  refine awp_seq ?_
  refine rk tt_ok [(2, .b false)] [] [] [] [] (o0) ?_
  refine awp_seq ?_
  refine awp_seq ?_
  refine rk tt_ok [(3, .i 0)] [] [] [] [] (o0) ?_
  refine wdT 0 0 .sh q (fun hw1 => ?_)
  have hl2 : List.length q ≤ 1073741824 := wide_len (hw1)
  refine blk (fun (k0 : Nat) (s0 : Unit) => [(3, .i ((k0 : Nat) : Int))]) [3] (fun k0 s0 => []) [] (fun (y0 : Unit) => []) [3] (fun y0 => []) [] (fun (k0 : Nat) (s0 : Unit) => (forL (specIsValidQuery_f0 q) specIsValidQuery_e0 q 0 ()) = forL (specIsValidQuery_f0 q) specIsValidQuery_e0 (List.drop k0 q) k0 s0) (fun (y0 : Unit) => (forL (specIsValidQuery_f0 q) specIsValidQuery_e0 q 0 ()) = .brk y0) q.length () (weak_fit (by kernel_rfl)) rfl (fun k0 s0 hk0 hI0 => ?_) (fun k0 s0 hk0 hI0 => ?_) (fun y0 hD0 => ?_)
  ·
    obtain ⟨a0, hx0⟩ := get_some (l := q) (i := k0) hk0
    refine awp_seq ?_
    refine awp_seq ?_
    refine rk tt_ok [(7, .b true)] [] [] [] [(2, .val (.i (q.length : Int))), (3, .val (.b true))] (o2 (ob_eq (av_len q)) (o1 (ob_eq (av_bool (decide_eq_true (p := ((k0 : Nat) : Int) < (q.length : Int)) (by omega)))))) ?_
    refine ckT ?_
    refine awp_skip ?_
    refine awp_seq ?_
    refine awp_block ?_
    refine awp_seq ?_
    refine jn [(29, .b ((!(specIsValidNode a0 ((k0 : Nat) : Int))) || (decide (((k0 : Nat) : Int) < ((q.length : Int) - 1)) && ((specCountReferences q ((k0 : Nat) : Int)) != (1 : Int)))))] [7] [] [] (!(specIsValidNode a0 ((k0 : Nat) : Int))) (fun h3 => ?_) (fun h3 => ?_) ?_
    ·
      have h3n : (specIsValidNode a0 ((k0 : Nat) : Int)) = false := bnot_t h3
      refine rk tt_ok [(29, .b true)] [7] [] [] [(2, .row [.i a0.1, .i a0.2.1, .i a0.2.2.1, .s a0.2.2.2.1, .i a0.2.2.2.2.1, .i a0.2.2.2.2.2.1, .s a0.2.2.2.2.2.2]), (5, .val (.b false)), (6, .val (.b true))] (o2 (ob_elem (el_of (i := ((k0 : Nat) : Int)) (by omega) rfl hx0)) (o2 (ob_call (cb h3n (specIsValidNode_a a0 ((k0 : Nat) : Int)))) (o1 (ob_eq (show .b (!false) = .b true from rfl))))) ?_
      exact ⟨rfl, weak_fit (by rw [h3]; first | done | kernel_rfl)⟩
    ·
      have h3n : (specIsValidNode a0 ((k0 : Nat) : Int)) = true := bnot_f h3
      refine awp_split (decide (((k0 : Nat) : Int) < ((q.length : Int) - 1))) (fun h4 => ?_) (fun h4 => ?_)
      ·
        have h4d := of_decide_eq_true h4
        refine rk tt_ok [(29, .b ((specCountReferences q ((k0 : Nat) : Int)) != (1 : Int)))] [7] [] [] [(2, .row [.i a0.1, .i a0.2.1, .i a0.2.2.1, .s a0.2.2.2.1, .i a0.2.2.2.2.1, .i a0.2.2.2.2.2.1, .s a0.2.2.2.2.2.2]), (5, .val (.b true)), (6, .val (.b false)), (10, .val (.i (q.length : Int))), (11, .val (.i ((q.length : Int) - 1))), (12, .val (.b true)), (16, .val (.i (specCountReferences q ((k0 : Nat) : Int))))] (o2 (ob_elem (el_of (i := ((k0 : Nat) : Int)) (by omega) rfl hx0)) (o2 (ob_call (cb h3n (specIsValidNode_a a0 ((k0 : Nat) : Int)))) (o2 (ob_eq (show .b (!true) = .b false from rfl)) (o2 (ob_eq (av_len q)) (o2 (ob_eq (av_i (IntWalk.i64_in ((q.length : Int) - 1) (by omega)))) (o2 (ob_eq (av_bool h4)) (o1 (ob_call (specCountReferences_a q ((k0 : Nat) : Int)))))))))) ?_
        exact ⟨rfl, weak_fit (by rw [h3, h4]; first | done | kernel_rfl)⟩
      ·
        have h4d := of_decide_eq_false h4
        refine rk tt_ok [(29, .b false)] [7] [] [] [(2, .row [.i a0.1, .i a0.2.1, .i a0.2.2.1, .s a0.2.2.2.1, .i a0.2.2.2.2.1, .i a0.2.2.2.2.2.1, .s a0.2.2.2.2.2.2]), (5, .val (.b true)), (6, .val (.b false)), (10, .val (.i (q.length : Int))), (11, .val (.i ((q.length : Int) - 1))), (12, .val (.b false))] (o2 (ob_elem (el_of (i := ((k0 : Nat) : Int)) (by omega) rfl hx0)) (o2 (ob_call (cb h3n (specIsValidNode_a a0 ((k0 : Nat) : Int)))) (o2 (ob_eq (show .b (!true) = .b false from rfl)) (o2 (ob_eq (av_len q)) (o2 (ob_eq (av_i (IntWalk.i64_in ((q.length : Int) - 1) (by omega)))) (o1 (ob_eq (av_bool h4)))))))) ?_
        exact ⟨rfl, weak_fit (by rw [h3, h4]; first | done | kernel_rfl)⟩
    refine ck ((!(specIsValidNode a0 ((k0 : Nat) : Int))) || (decide (((k0 : Nat) : Int) < ((q.length : Int) - 1)) && ((specCountReferences q ((k0 : Nat) : Int)) != (1 : Int)))) (fun h5 => ?_) (fun h5 => ?_)
    ·
      refine awp_seq ?_
      refine rk tt_ok [] [29] [] [] [] (o0) ?_
      refine awp_ret ?_
      have hr6 : (forL (specIsValidQuery_f0 q) specIsValidQuery_e0 q 0 ()) = .ret false := forL_ret hx0 (bif_t h5 (rfl)) hI0
      exact pret [] (congrArg (fun z => (.b z : AV)) (show specIsValidQuery q = false from on_r hr6).symm)
    ·
      have h5l : ((!(specIsValidNode a0 ((k0 : Nat) : Int)))) = false := or_l h5
      have h5ln : (specIsValidNode a0 ((k0 : Nat) : Int)) = true := bnot_f h5l
      have h5r : ((decide (((k0 : Nat) : Int) < ((q.length : Int) - 1)) && ((specCountReferences q ((k0 : Nat) : Int)) != (1 : Int)))) = false := or_r h5
      refine awp_skip ?_
      refine rk tt_ok [(3, .i ((k0 + 1 : Nat) : Int))] [3, 29] [] [] [(1, .val (.i ((k0 + 1 : Nat) : Int)))] (o1 (ob_eq (av_i (wrap_succ k0 (by omega))))) ?_
      exact Exists.intro () (And.intro (weak_fit (by kernel_rfl)) (forL_next hx0 (bif_f h5 (rfl)) hI0))
  ·
    refine awp_seq ?_
    refine awp_seq ?_
    refine rk tt_ok [(7, .b false)] [] [] [] [(2, .val (.i (q.length : Int))), (3, .val (.b false))] (o2 (ob_eq (av_len q)) (o1 (ob_eq (av_bool (decide_eq_false (p := ((k0 : Nat) : Int) < (q.length : Int)) (by omega)))))) ?_
    refine ckF ?_
    refine awp_exit ?_
    exact Exists.intro () (And.intro (weak_fit (by kernel_rfl)) (forL_end hk0 (rfl) hI0))
  ·
    refine awp_seq ?_
    refine rk tt_ok [(2, .b (specl01In (q.length : Int) 1 9))] [0, 2] [] [] [(1, .val (.i (q.length : Int))), (2, .val (.b (specl01In (q.length : Int) 1 9)))] (o2 (ob_eq (av_len q)) (o1 (ob_call (specl01In_a (q.length : Int) 1 9)))) ?_
    refine awp_ret ?_
    exact pret [] (congrArg (fun z => (.b z : AV)) (show specIsValidQuery q = (specl01In (q.length : Int) 1 9) from on_b hD0 (rfl)).symm)
end Go.Proofs.YtjkfmihbmkbjfaaGreat
