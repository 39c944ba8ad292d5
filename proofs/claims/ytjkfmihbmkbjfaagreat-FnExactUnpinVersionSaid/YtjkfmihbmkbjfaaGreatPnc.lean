/- What functions compute, and that they do (printed by am2.py): each function as a Lean function, then its contract. -/
import Derived.Test.YtjkfmihbmkbjfaaGreatPnb
import Derived.KernelRfl
set_option linter.unusedVariables false
set_option linter.unusedSimpArgs false
namespace Go.Proofs.YtjkfmihbmkbjfaaGreat
open Go.RowKit
open GoE (enc wide)
def implpinned (v : (List VersionD)) (number : Int) (more : Int) : (List VersionD) × Bool := (bif ((!(implAreValidVersions v)) || (decide ((implversionAt v number) < (0 : Int)) || (!(implwithin (IntKind.i64.wrap ((nth v (Int.toNat (implversionAt v number))).2.2 + more)) 0 99)))) then ((implcopyVersions v), false) else (List.set (implcopyVersions v) (Int.toNat (implversionAt v number)) ((nth (implcopyVersions v) (Int.toNat (implversionAt v number))).1, (((nth (implcopyVersions v) (Int.toNat (implversionAt v number))).2.1.1.1, (nth (implcopyVersions v) (Int.toNat (implversionAt v number))).2.1.1.2.1, (nth (implcopyVersions v) (Int.toNat (implversionAt v number))).2.1.1.2.2), (nth (implcopyVersions v) (Int.toNat (implversionAt v number))).2.1.2), IntKind.i64.wrap ((nth (implcopyVersions v) (Int.toNat (implversionAt v number))).2.2 + more)), true))
theorem implpinned_a (v : (List VersionD)) (number : Int) (more : Int) : ACalls Tryz.prog 91 [.h v, .i number, .i more] (.tup [(false, [.o 0 (((implpinned v number more)).1)]), (false, [.b (((implpinned v number more)).2)])]) := by
  refine acalls_of (tt := tt) tt_ok Tryz.func91 (fn := Tryz.f91) rfl (by unfold FnOk; kernel_rfl) (Nat.le_of_ble_eq_true rfl) fun w0 F0 => ?_
  have hcl := copyVersions_len v
  refine awp_seq ?_
  refine rk tt_ok [(6, .e 0), (7, .b false)] [] [] [] [] (o0) ?_
  refine awp_seq ?_
  refine rk tt_ok [(8, .o 704 (implcopyVersions v))] [] [] [] [(1, .val (.o 0 (implcopyVersions v)))] (o1 (ob_call (implcopyVersions_a v))) ?_
  refine awp_seq ?_
  refine rk tt_ok [(9, .i (implversionAt v number))] [1] [] [] [(2, .val (.i (implversionAt v number)))] (o1 (ob_call (implversionAt_a v number))) ?_
  refine awp_seq ?_
  refine awp_seq ?_
  refine jn [(32, .b ((!(implAreValidVersions v)) || (decide ((implversionAt v number) < (0 : Int)) || (!(implwithin (IntKind.i64.wrap ((nth v (Int.toNat (implversionAt v number))).2.2 + more)) 0 99)))))] [0] [] [] (!(implAreValidVersions v)) (fun h1 => ?_) (fun h1 => ?_) ?_
  ·
    have h1n : (implAreValidVersions v) = false := bnot_t h1
    refine rk tt_ok [(32, .b true)] [0] [] [] [(1, .val (.b false)), (2, .val (.b true))] (o2 (ob_call (cb h1n (implAreValidVersions_a v))) (o1 (ob_eq (show .b (!false) = .b true from rfl)))) ?_
    exact ⟨rfl, weak_fit (by rw [h1]; first | done | kernel_rfl)⟩
  ·
    have h1n : (implAreValidVersions v) = true := bnot_f h1
    refine awp_split (decide ((implversionAt v number) < (0 : Int))) (fun h2 => ?_) (fun h2 => ?_)
    ·
      have h2d := of_decide_eq_true h2
      refine rk tt_ok [(32, .b true)] [0] [] [] [(1, .val (.b true)), (2, .val (.b false)), (5, .val (.b true))] (o2 (ob_call (cb h1n (implAreValidVersions_a v))) (o2 (ob_eq (show .b (!true) = .b false from rfl)) (o1 (ob_eq (av_bool h2))))) ?_
      exact ⟨rfl, weak_fit (by rw [h1, h2]; first | done | kernel_rfl)⟩
    ·
      have h2p := vat_lt v number
      have h2d := of_decide_eq_false h2
      refine wdT 0 0 .sh v (fun hw4 => ?_)
      have hl5 : List.length v ≤ 1073741824 := wide_len (hw4)
      have hx3 : v[(Int.toNat (implversionAt v number))]? = some (nth v (Int.toNat (implversionAt v number))) := nth_get (by omega)
      refine rk tt_ok [(32, .b (!(implwithin (IntKind.i64.wrap ((nth v (Int.toNat (implversionAt v number))).2.2 + more)) 0 99)))] [0] [] [] [(1, .val (.b true)), (2, .val (.b false)), (5, .val (.b false)), (10, .row [.i ((nth v (Int.toNat (implversionAt v number))).1), .h ((nth v (Int.toNat (implversionAt v number))).2.1.1.1), .h ((nth v (Int.toNat (implversionAt v number))).2.1.1.2.1), .i ((nth v (Int.toNat (implversionAt v number))).2.1.1.2.2), .h ((nth v (Int.toNat (implversionAt v number))).2.1.2), .i ((nth v (Int.toNat (implversionAt v number))).2.2)]), (15, .val (.b (implwithin (IntKind.i64.wrap ((nth v (Int.toNat (implversionAt v number))).2.2 + more)) 0 99)))] (o2 (ob_call (cb h1n (implAreValidVersions_a v))) (o2 (ob_eq (show .b (!true) = .b false from rfl)) (o2 (ob_eq (av_bool h2)) (o2 (ob_elem (el_of (i := (implversionAt v number)) (by omega) rfl hx3)) (o1 (ob_call (implwithin_a (IntKind.i64.wrap ((nth v (Int.toNat (implversionAt v number))).2.2 + more)) 0 99))))))) ?_
      exact ⟨rfl, weak_fit (by rw [h1, h2]; first | done | kernel_rfl)⟩
  refine ck ((!(implAreValidVersions v)) || (decide ((implversionAt v number) < (0 : Int)) || (!(implwithin (IntKind.i64.wrap ((nth v (Int.toNat (implversionAt v number))).2.2 + more)) 0 99)))) (fun h6 => ?_) (fun h6 => ?_)
  ·
    refine awp_seq ?_
    refine rk tt_ok [(6, .o 704 (implcopyVersions v))] [6, 32] [] [] [] (o0) ?_
    refine awp_ret ?_
    exact pret [] (congrArg (fun z => (.tup [(false, [.o 0 z.1]), (false, [.b z.2])] : AV)) (show implpinned v number more = ((implcopyVersions v), false) from bif_t h6 (rfl)).symm)
  ·
    have h6l : ((!(implAreValidVersions v))) = false := or_l h6
    have h6ln : (implAreValidVersions v) = true := bnot_f h6l
    have h6r : ((decide ((implversionAt v number) < (0 : Int)) || (!(implwithin (IntKind.i64.wrap ((nth v (Int.toNat (implversionAt v number))).2.2 + more)) 0 99)))) = false := or_r h6
    have h6rl : (decide ((implversionAt v number) < (0 : Int))) = false := or_l h6r
    have h6rlp := vat_lt v number
    have h6rld := of_decide_eq_false h6rl
    have h6rr : ((!(implwithin (IntKind.i64.wrap ((nth v (Int.toNat (implversionAt v number))).2.2 + more)) 0 99))) = false := or_r h6r
    have h6rrn : (implwithin (IntKind.i64.wrap ((nth v (Int.toNat (implversionAt v number))).2.2 + more)) 0 99) = true := bnot_f h6rr
    refine awp_skip ?_
    refine awp_seq ?_
    refine wdT 8 0 (.own true 704) (implcopyVersions v) (fun hw8 => ?_)
    have hl9 : List.length (implcopyVersions v) ≤ 1073741824 := wide_len (hw8)
    have hx7 : (implcopyVersions v)[(Int.toNat (implversionAt v number))]? = some (nth (implcopyVersions v) (Int.toNat (implversionAt v number))) := nth_get (by omega)
    refine rk tt_ok [(8, .one (.slc (.own true 704) 6 (setRow (eL (implcopyVersions v)) (Int.toNat (implversionAt v number)) 5 [.i (IntKind.i64.wrap ((nth (implcopyVersions v) (Int.toNat (implversionAt v number))).2.2 + more))])))] [2, 8, 9, 32] [] [] [(2, .rowE [.i ((nth (implcopyVersions v) (Int.toNat (implversionAt v number))).1), .h ((nth (implcopyVersions v) (Int.toNat (implversionAt v number))).2.1.1.1), .h ((nth (implcopyVersions v) (Int.toNat (implversionAt v number))).2.1.1.2.1), .i ((nth (implcopyVersions v) (Int.toNat (implversionAt v number))).2.1.1.2.2), .h ((nth (implcopyVersions v) (Int.toNat (implversionAt v number))).2.1.2), .i ((nth (implcopyVersions v) (Int.toNat (implversionAt v number))).2.2)]), (7, .rowE [.i ((nth (implcopyVersions v) (Int.toNat (implversionAt v number))).1), .h ((nth (implcopyVersions v) (Int.toNat (implversionAt v number))).2.1.1.1), .h ((nth (implcopyVersions v) (Int.toNat (implversionAt v number))).2.1.1.2.1), .i ((nth (implcopyVersions v) (Int.toNat (implversionAt v number))).2.1.1.2.2), .h ((nth (implcopyVersions v) (Int.toNat (implversionAt v number))).2.1.2), .i ((nth (implcopyVersions v) (Int.toNat (implversionAt v number))).2.2)])] (o2 (ob_elem (el_of (i := (implversionAt v number)) (by omega) rfl hx7)) (o1 (ob_elem (el_of (i := (implversionAt v number)) (by omega) rfl hx7)))) ?_
    refine eqn [(8, .o 704 (List.set (implcopyVersions v) (Int.toNat (implversionAt v number)) ((nth (implcopyVersions v) (Int.toNat (implversionAt v number))).1, (((nth (implcopyVersions v) (Int.toNat (implversionAt v number))).2.1.1.1, (nth (implcopyVersions v) (Int.toNat (implversionAt v number))).2.1.1.2.1, (nth (implcopyVersions v) (Int.toNat (implversionAt v number))).2.1.1.2.2), (nth (implcopyVersions v) (Int.toNat (implversionAt v number))).2.1.2), IntKind.i64.wrap ((nth (implcopyVersions v) (Int.toNat (implversionAt v number))).2.2 + more))))] [8] [] [] (by rw [setRow_eL (y := ((nth (implcopyVersions v) (Int.toNat (implversionAt v number))).1, (((nth (implcopyVersions v) (Int.toNat (implversionAt v number))).2.1.1.1, (nth (implcopyVersions v) (Int.toNat (implversionAt v number))).2.1.1.2.1, (nth (implcopyVersions v) (Int.toNat (implversionAt v number))).2.1.1.2.2), (nth (implcopyVersions v) (Int.toNat (implversionAt v number))).2.1.2), IntKind.i64.wrap ((nth (implcopyVersions v) (Int.toNat (implversionAt v number))).2.2 + more))) hx7 rfl]; first | done | kernel_rfl) ?_
    refine awp_seq ?_
    refine rk tt_ok [(6, .o 704 (List.set (implcopyVersions v) (Int.toNat (implversionAt v number)) ((nth (implcopyVersions v) (Int.toNat (implversionAt v number))).1, (((nth (implcopyVersions v) (Int.toNat (implversionAt v number))).2.1.1.1, (nth (implcopyVersions v) (Int.toNat (implversionAt v number))).2.1.1.2.1, (nth (implcopyVersions v) (Int.toNat (implversionAt v number))).2.1.1.2.2), (nth (implcopyVersions v) (Int.toNat (implversionAt v number))).2.1.2), IntKind.i64.wrap ((nth (implcopyVersions v) (Int.toNat (implversionAt v number))).2.2 + more)))), (7, .b true)] [6, 7, 8] [] [] [] (o0) ?_
    refine awp_ret ?_
    exact pret [] (congrArg (fun z => (.tup [(false, [.o 0 z.1]), (false, [.b z.2])] : AV)) (show implpinned v number more = (List.set (implcopyVersions v) (Int.toNat (implversionAt v number)) ((nth (implcopyVersions v) (Int.toNat (implversionAt v number))).1, (((nth (implcopyVersions v) (Int.toNat (implversionAt v number))).2.1.1.1, (nth (implcopyVersions v) (Int.toNat (implversionAt v number))).2.1.1.2.1, (nth (implcopyVersions v) (Int.toNat (implversionAt v number))).2.1.1.2.2), (nth (implcopyVersions v) (Int.toNat (implversionAt v number))).2.1.2), IntKind.i64.wrap ((nth (implcopyVersions v) (Int.toNat (implversionAt v number))).2.2 + more)), true) from bif_f h6 (rfl)).symm)
def implPinVersion (v : (List VersionD)) (number : Int) : (List VersionD) × Bool := (((implpinned v number 1)).1, ((implpinned v number 1)).2)
theorem implPinVersion_a (v : (List VersionD)) (number : Int) : ACalls Tryz.prog 36 [.h v, .i number] (.tup [(false, [.o 0 (((implPinVersion v number)).1)]), (false, [.b (((implPinVersion v number)).2)])]) := by
  refine acalls_of (tt := tt) tt_ok Tryz.func36 (fn := Tryz.f36) rfl (by unfold FnOk; kernel_rfl) (Nat.le_of_ble_eq_true rfl) fun w0 F0 => ?_
  refine awp_seq ?_
  refine rk tt_ok [(4, .e 0), (5, .b false)] [] [] [] [] (o0) ?_
  refine awp_seq ?_
  refine rk tt_ok [(4, .o 512 (((implpinned v number 1)).1)), (5, .b (((implpinned v number 1)).2))] [0, 1, 4, 5] [] [] [(2, .val (.tup [(false, [.o 0 (((implpinned v number 1)).1)]), (false, [.b (((implpinned v number 1)).2)])]))] (o1 (ob_call (implpinned_a v number 1))) ?_
  refine awp_ret ?_
  exact pret [] (congrArg (fun z => (.tup [(false, [.o 0 z.1]), (false, [.b z.2])] : AV)) (show implPinVersion v number = (((implpinned v number 1)).1, ((implpinned v number 1)).2) from rfl).symm)
def implUnpinVersion (v : (List VersionD)) (number : Int) : (List VersionD) × Bool := (((implpinned v number (-1))).1, ((implpinned v number (-1))).2)
theorem implUnpinVersion_a (v : (List VersionD)) (number : Int) : ACalls Tryz.prog 38 [.h v, .i number] (.tup [(false, [.o 0 (((implUnpinVersion v number)).1)]), (false, [.b (((implUnpinVersion v number)).2)])]) := by
  refine acalls_of (tt := tt) tt_ok Tryz.func38 (fn := Tryz.f38) rfl (by unfold FnOk; kernel_rfl) (Nat.le_of_ble_eq_true rfl) fun w0 F0 => ?_
  refine awp_seq ?_
  refine rk tt_ok [(4, .e 0), (5, .b false)] [] [] [] [] (o0) ?_
  refine awp_seq ?_
  refine rk tt_ok [(4, .o 512 (((implpinned v number (-1))).1)), (5, .b (((implpinned v number (-1))).2))] [0, 1, 4, 5] [] [] [(2, .val (.tup [(false, [.o 0 (((implpinned v number (-1))).1)]), (false, [.b (((implpinned v number (-1))).2)])]))] (o1 (ob_call (implpinned_a v number (-1)))) ?_
  refine awp_ret ?_
  exact pret [] (congrArg (fun z => (.tup [(false, [.o 0 z.1]), (false, [.b z.2])] : AV)) (show implUnpinVersion v number = (((implpinned v number (-1))).1, ((implpinned v number (-1))).2) from rfl).symm)
def specPinVersion (k_ : (List VersionD)) (version : Int) : (List VersionD) × Bool := (bif ((!(specAreValidVersions k_)) || (decide ((specl28Place k_ version) < (0 : Int)) || decide ((nth k_ (Int.toNat (specl28Place k_ version))).2.2 ≥ (99 : Int)))) then ((specl28Copy k_), false) else (List.set (specl28Copy k_) (Int.toNat (specl28Place k_ version)) ((nth (specl28Copy k_) (Int.toNat (specl28Place k_ version))).1, (((nth (specl28Copy k_) (Int.toNat (specl28Place k_ version))).2.1.1.1, (nth (specl28Copy k_) (Int.toNat (specl28Place k_ version))).2.1.1.2.1, (nth (specl28Copy k_) (Int.toNat (specl28Place k_ version))).2.1.1.2.2), (nth (specl28Copy k_) (Int.toNat (specl28Place k_ version))).2.1.2), IntKind.i64.wrap ((nth (specl28Copy k_) (Int.toNat (specl28Place k_ version))).2.2 + 1)), true))
theorem specPinVersion_a (k_ : (List VersionD)) (version : Int) : ACalls Tryz.prog 35 [.h k_, .i version] (.tup [(false, [.o 0 (((specPinVersion k_ version)).1)]), (false, [.b (((specPinVersion k_ version)).2)])]) := by
  refine acalls_of (tt := tt) tt_ok Tryz.func35 (fn := Tryz.f35) rfl (by unfold FnOk; kernel_rfl) (Nat.le_of_ble_eq_true rfl) fun w0 F0 => ?_
  have hcl := l28Copy_len k_
  refine awp_seq ?_
  refine rk tt_ok [(4, .e 0), (5, .b false)] [] [] [] [] (o0) ?_
  refine awp_seq ?_
  refine rk tt_ok [(6, .o 576 (specl28Copy k_))] [] [] [] [(1, .val (.o 0 (specl28Copy k_)))] (o1 (ob_call (specl28Copy_a k_))) ?_
  refine awp_seq ?_
  refine rk tt_ok [(7, .i (specl28Place k_ version))] [1] [] [] [(2, .val (.i (specl28Place k_ version)))] (o1 (ob_call (specl28Place_a k_ version))) ?_
  refine awp_seq ?_
  refine awp_seq ?_
  refine jn [(27, .b ((!(specAreValidVersions k_)) || (decide ((specl28Place k_ version) < (0 : Int)) || decide ((nth k_ (Int.toNat (specl28Place k_ version))).2.2 ≥ (99 : Int)))))] [0] [] [] (!(specAreValidVersions k_)) (fun h1 => ?_) (fun h1 => ?_) ?_
  ·
    have h1n : (specAreValidVersions k_) = false := bnot_t h1
    refine rk tt_ok [(27, .b true)] [0] [] [] [(1, .val (.b false)), (2, .val (.b true))] (o2 (ob_call (cb h1n (specAreValidVersions_a k_))) (o1 (ob_eq (show .b (!false) = .b true from rfl)))) ?_
    exact ⟨rfl, weak_fit (by rw [h1]; first | done | kernel_rfl)⟩
  ·
    have h1n : (specAreValidVersions k_) = true := bnot_f h1
    refine awp_split (decide ((specl28Place k_ version) < (0 : Int))) (fun h2 => ?_) (fun h2 => ?_)
    ·
      have h2d := of_decide_eq_true h2
      refine rk tt_ok [(27, .b true)] [0] [] [] [(1, .val (.b true)), (2, .val (.b false)), (5, .val (.b true))] (o2 (ob_call (cb h1n (specAreValidVersions_a k_))) (o2 (ob_eq (show .b (!true) = .b false from rfl)) (o1 (ob_eq (av_bool h2))))) ?_
      exact ⟨rfl, weak_fit (by rw [h1, h2]; first | done | kernel_rfl)⟩
    ·
      have h2p := vat_ltS k_ version
      have h2d := of_decide_eq_false h2
      refine wdT 0 0 .sh k_ (fun hw4 => ?_)
      have hl5 : List.length k_ ≤ 1073741824 := wide_len (hw4)
      have hx3 : k_[(Int.toNat (specl28Place k_ version))]? = some (nth k_ (Int.toNat (specl28Place k_ version))) := nth_get (by omega)
      refine rk tt_ok [(27, .b (decide ((nth k_ (Int.toNat (specl28Place k_ version))).2.2 ≥ (99 : Int))))] [0] [] [] [(1, .val (.b true)), (2, .val (.b false)), (5, .val (.b false)), (10, .row [.i ((nth k_ (Int.toNat (specl28Place k_ version))).1), .h ((nth k_ (Int.toNat (specl28Place k_ version))).2.1.1.1), .h ((nth k_ (Int.toNat (specl28Place k_ version))).2.1.1.2.1), .i ((nth k_ (Int.toNat (specl28Place k_ version))).2.1.1.2.2), .h ((nth k_ (Int.toNat (specl28Place k_ version))).2.1.2), .i ((nth k_ (Int.toNat (specl28Place k_ version))).2.2)])] (o2 (ob_call (cb h1n (specAreValidVersions_a k_))) (o2 (ob_eq (show .b (!true) = .b false from rfl)) (o2 (ob_eq (av_bool h2)) (o1 (ob_elem (el_of (i := (specl28Place k_ version)) (by omega) rfl hx3)))))) ?_
      exact ⟨rfl, weak_fit (by rw [h1, h2]; first | done | kernel_rfl)⟩
  refine ck ((!(specAreValidVersions k_)) || (decide ((specl28Place k_ version) < (0 : Int)) || decide ((nth k_ (Int.toNat (specl28Place k_ version))).2.2 ≥ (99 : Int)))) (fun h6 => ?_) (fun h6 => ?_)
  ·
    refine awp_seq ?_
    refine rk tt_ok [(4, .o 576 (specl28Copy k_))] [4, 27] [] [] [] (o0) ?_
    refine awp_ret ?_
    exact pret [] (congrArg (fun z => (.tup [(false, [.o 0 z.1]), (false, [.b z.2])] : AV)) (show specPinVersion k_ version = ((specl28Copy k_), false) from bif_t h6 (rfl)).symm)
  ·
    have h6l : ((!(specAreValidVersions k_))) = false := or_l h6
    have h6ln : (specAreValidVersions k_) = true := bnot_f h6l
    have h6r : ((decide ((specl28Place k_ version) < (0 : Int)) || decide ((nth k_ (Int.toNat (specl28Place k_ version))).2.2 ≥ (99 : Int)))) = false := or_r h6
    have h6rl : (decide ((specl28Place k_ version) < (0 : Int))) = false := or_l h6r
    have h6rlp := vat_ltS k_ version
    have h6rld := of_decide_eq_false h6rl
    have h6rr : (decide ((nth k_ (Int.toNat (specl28Place k_ version))).2.2 ≥ (99 : Int))) = false := or_r h6r
    have h6rrd := of_decide_eq_false h6rr
    refine awp_skip ?_
    refine awp_seq ?_
    refine wdT 6 0 (.own true 576) (specl28Copy k_) (fun hw8 => ?_)
    have hl9 : List.length (specl28Copy k_) ≤ 1073741824 := wide_len (hw8)
    have hx7 : (specl28Copy k_)[(Int.toNat (specl28Place k_ version))]? = some (nth (specl28Copy k_) (Int.toNat (specl28Place k_ version))) := nth_get (by omega)
    refine rk tt_ok [(6, .one (.slc (.own true 576) 6 (setRow (eL (specl28Copy k_)) (Int.toNat (specl28Place k_ version)) 5 [.i (IntKind.i64.wrap ((nth (specl28Copy k_) (Int.toNat (specl28Place k_ version))).2.2 + 1))])))] [6, 7, 27] [] [] [(4, .rowE [.i ((nth (specl28Copy k_) (Int.toNat (specl28Place k_ version))).1), .h ((nth (specl28Copy k_) (Int.toNat (specl28Place k_ version))).2.1.1.1), .h ((nth (specl28Copy k_) (Int.toNat (specl28Place k_ version))).2.1.1.2.1), .i ((nth (specl28Copy k_) (Int.toNat (specl28Place k_ version))).2.1.1.2.2), .h ((nth (specl28Copy k_) (Int.toNat (specl28Place k_ version))).2.1.2), .i ((nth (specl28Copy k_) (Int.toNat (specl28Place k_ version))).2.2)]), (8, .rowE [.i ((nth (specl28Copy k_) (Int.toNat (specl28Place k_ version))).1), .h ((nth (specl28Copy k_) (Int.toNat (specl28Place k_ version))).2.1.1.1), .h ((nth (specl28Copy k_) (Int.toNat (specl28Place k_ version))).2.1.1.2.1), .i ((nth (specl28Copy k_) (Int.toNat (specl28Place k_ version))).2.1.1.2.2), .h ((nth (specl28Copy k_) (Int.toNat (specl28Place k_ version))).2.1.2), .i ((nth (specl28Copy k_) (Int.toNat (specl28Place k_ version))).2.2)])] (o2 (ob_elem (el_of (i := (specl28Place k_ version)) (by omega) rfl hx7)) (o1 (ob_elem (el_of (i := (specl28Place k_ version)) (by omega) rfl hx7)))) ?_
    refine eqn [(6, .o 576 (List.set (specl28Copy k_) (Int.toNat (specl28Place k_ version)) ((nth (specl28Copy k_) (Int.toNat (specl28Place k_ version))).1, (((nth (specl28Copy k_) (Int.toNat (specl28Place k_ version))).2.1.1.1, (nth (specl28Copy k_) (Int.toNat (specl28Place k_ version))).2.1.1.2.1, (nth (specl28Copy k_) (Int.toNat (specl28Place k_ version))).2.1.1.2.2), (nth (specl28Copy k_) (Int.toNat (specl28Place k_ version))).2.1.2), IntKind.i64.wrap ((nth (specl28Copy k_) (Int.toNat (specl28Place k_ version))).2.2 + 1))))] [6] [] [] (by rw [setRow_eL (y := ((nth (specl28Copy k_) (Int.toNat (specl28Place k_ version))).1, (((nth (specl28Copy k_) (Int.toNat (specl28Place k_ version))).2.1.1.1, (nth (specl28Copy k_) (Int.toNat (specl28Place k_ version))).2.1.1.2.1, (nth (specl28Copy k_) (Int.toNat (specl28Place k_ version))).2.1.1.2.2), (nth (specl28Copy k_) (Int.toNat (specl28Place k_ version))).2.1.2), IntKind.i64.wrap ((nth (specl28Copy k_) (Int.toNat (specl28Place k_ version))).2.2 + 1))) hx7 rfl]; first | done | kernel_rfl) ?_
    refine awp_seq ?_
    refine rk tt_ok [(4, .o 576 (List.set (specl28Copy k_) (Int.toNat (specl28Place k_ version)) ((nth (specl28Copy k_) (Int.toNat (specl28Place k_ version))).1, (((nth (specl28Copy k_) (Int.toNat (specl28Place k_ version))).2.1.1.1, (nth (specl28Copy k_) (Int.toNat (specl28Place k_ version))).2.1.1.2.1, (nth (specl28Copy k_) (Int.toNat (specl28Place k_ version))).2.1.1.2.2), (nth (specl28Copy k_) (Int.toNat (specl28Place k_ version))).2.1.2), IntKind.i64.wrap ((nth (specl28Copy k_) (Int.toNat (specl28Place k_ version))).2.2 + 1)))), (5, .b true)] [4, 5, 6] [] [] [] (o0) ?_
    refine awp_ret ?_
    exact pret [] (congrArg (fun z => (.tup [(false, [.o 0 z.1]), (false, [.b z.2])] : AV)) (show specPinVersion k_ version = (List.set (specl28Copy k_) (Int.toNat (specl28Place k_ version)) ((nth (specl28Copy k_) (Int.toNat (specl28Place k_ version))).1, (((nth (specl28Copy k_) (Int.toNat (specl28Place k_ version))).2.1.1.1, (nth (specl28Copy k_) (Int.toNat (specl28Place k_ version))).2.1.1.2.1, (nth (specl28Copy k_) (Int.toNat (specl28Place k_ version))).2.1.1.2.2), (nth (specl28Copy k_) (Int.toNat (specl28Place k_ version))).2.1.2), IntKind.i64.wrap ((nth (specl28Copy k_) (Int.toNat (specl28Place k_ version))).2.2 + 1)), true) from bif_f h6 (rfl)).symm)
def specUnpinVersion (k_ : (List VersionD)) (version : Int) : (List VersionD) × Bool := (bif ((!(specAreValidVersions k_)) || (decide ((specl28Place k_ version) < (0 : Int)) || decide ((nth k_ (Int.toNat (specl28Place k_ version))).2.2 ≤ (0 : Int)))) then ((specl28Copy k_), false) else (List.set (specl28Copy k_) (Int.toNat (specl28Place k_ version)) ((nth (specl28Copy k_) (Int.toNat (specl28Place k_ version))).1, (((nth (specl28Copy k_) (Int.toNat (specl28Place k_ version))).2.1.1.1, (nth (specl28Copy k_) (Int.toNat (specl28Place k_ version))).2.1.1.2.1, (nth (specl28Copy k_) (Int.toNat (specl28Place k_ version))).2.1.1.2.2), (nth (specl28Copy k_) (Int.toNat (specl28Place k_ version))).2.1.2), IntKind.i64.wrap ((nth (specl28Copy k_) (Int.toNat (specl28Place k_ version))).2.2 - 1)), true))
theorem specUnpinVersion_a (k_ : (List VersionD)) (version : Int) : ACalls Tryz.prog 37 [.h k_, .i version] (.tup [(false, [.o 0 (((specUnpinVersion k_ version)).1)]), (false, [.b (((specUnpinVersion k_ version)).2)])]) := by
  refine acalls_of (tt := tt) tt_ok Tryz.func37 (fn := Tryz.f37) rfl (by unfold FnOk; kernel_rfl) (Nat.le_of_ble_eq_true rfl) fun w0 F0 => ?_
  have hcl := l28Copy_len k_
  refine awp_seq ?_
  refine rk tt_ok [(4, .e 0), (5, .b false)] [] [] [] [] (o0) ?_
  refine awp_seq ?_
  refine rk tt_ok [(6, .o 576 (specl28Copy k_))] [] [] [] [(1, .val (.o 0 (specl28Copy k_)))] (o1 (ob_call (specl28Copy_a k_))) ?_
  refine awp_seq ?_
  refine rk tt_ok [(7, .i (specl28Place k_ version))] [1] [] [] [(2, .val (.i (specl28Place k_ version)))] (o1 (ob_call (specl28Place_a k_ version))) ?_
  refine awp_seq ?_
  refine awp_seq ?_
  refine jn [(27, .b ((!(specAreValidVersions k_)) || (decide ((specl28Place k_ version) < (0 : Int)) || decide ((nth k_ (Int.toNat (specl28Place k_ version))).2.2 ≤ (0 : Int)))))] [0] [] [] (!(specAreValidVersions k_)) (fun h1 => ?_) (fun h1 => ?_) ?_
  ·
    have h1n : (specAreValidVersions k_) = false := bnot_t h1
    refine rk tt_ok [(27, .b true)] [0] [] [] [(1, .val (.b false)), (2, .val (.b true))] (o2 (ob_call (cb h1n (specAreValidVersions_a k_))) (o1 (ob_eq (show .b (!false) = .b true from rfl)))) ?_
    exact ⟨rfl, weak_fit (by rw [h1]; first | done | kernel_rfl)⟩
  ·
    have h1n : (specAreValidVersions k_) = true := bnot_f h1
    refine awp_split (decide ((specl28Place k_ version) < (0 : Int))) (fun h2 => ?_) (fun h2 => ?_)
    ·
      have h2d := of_decide_eq_true h2
      refine rk tt_ok [(27, .b true)] [0] [] [] [(1, .val (.b true)), (2, .val (.b false)), (5, .val (.b true))] (o2 (ob_call (cb h1n (specAreValidVersions_a k_))) (o2 (ob_eq (show .b (!true) = .b false from rfl)) (o1 (ob_eq (av_bool h2))))) ?_
      exact ⟨rfl, weak_fit (by rw [h1, h2]; first | done | kernel_rfl)⟩
    ·
      have h2p := vat_ltS k_ version
      have h2d := of_decide_eq_false h2
      refine wdT 0 0 .sh k_ (fun hw4 => ?_)
      have hl5 : List.length k_ ≤ 1073741824 := wide_len (hw4)
      have hx3 : k_[(Int.toNat (specl28Place k_ version))]? = some (nth k_ (Int.toNat (specl28Place k_ version))) := nth_get (by omega)
      refine rk tt_ok [(27, .b (decide ((nth k_ (Int.toNat (specl28Place k_ version))).2.2 ≤ (0 : Int))))] [0] [] [] [(1, .val (.b true)), (2, .val (.b false)), (5, .val (.b false)), (10, .row [.i ((nth k_ (Int.toNat (specl28Place k_ version))).1), .h ((nth k_ (Int.toNat (specl28Place k_ version))).2.1.1.1), .h ((nth k_ (Int.toNat (specl28Place k_ version))).2.1.1.2.1), .i ((nth k_ (Int.toNat (specl28Place k_ version))).2.1.1.2.2), .h ((nth k_ (Int.toNat (specl28Place k_ version))).2.1.2), .i ((nth k_ (Int.toNat (specl28Place k_ version))).2.2)])] (o2 (ob_call (cb h1n (specAreValidVersions_a k_))) (o2 (ob_eq (show .b (!true) = .b false from rfl)) (o2 (ob_eq (av_bool h2)) (o1 (ob_elem (el_of (i := (specl28Place k_ version)) (by omega) rfl hx3)))))) ?_
      exact ⟨rfl, weak_fit (by rw [h1, h2]; first | done | kernel_rfl)⟩
  refine ck ((!(specAreValidVersions k_)) || (decide ((specl28Place k_ version) < (0 : Int)) || decide ((nth k_ (Int.toNat (specl28Place k_ version))).2.2 ≤ (0 : Int)))) (fun h6 => ?_) (fun h6 => ?_)
  ·
    refine awp_seq ?_
    refine rk tt_ok [(4, .o 576 (specl28Copy k_))] [4, 27] [] [] [] (o0) ?_
    refine awp_ret ?_
    exact pret [] (congrArg (fun z => (.tup [(false, [.o 0 z.1]), (false, [.b z.2])] : AV)) (show specUnpinVersion k_ version = ((specl28Copy k_), false) from bif_t h6 (rfl)).symm)
  ·
    have h6l : ((!(specAreValidVersions k_))) = false := or_l h6
    have h6ln : (specAreValidVersions k_) = true := bnot_f h6l
    have h6r : ((decide ((specl28Place k_ version) < (0 : Int)) || decide ((nth k_ (Int.toNat (specl28Place k_ version))).2.2 ≤ (0 : Int)))) = false := or_r h6
    have h6rl : (decide ((specl28Place k_ version) < (0 : Int))) = false := or_l h6r
    have h6rlp := vat_ltS k_ version
    have h6rld := of_decide_eq_false h6rl
    have h6rr : (decide ((nth k_ (Int.toNat (specl28Place k_ version))).2.2 ≤ (0 : Int))) = false := or_r h6r
    have h6rrd := of_decide_eq_false h6rr
    refine awp_skip ?_
    refine awp_seq ?_
    refine wdT 6 0 (.own true 576) (specl28Copy k_) (fun hw8 => ?_)
    have hl9 : List.length (specl28Copy k_) ≤ 1073741824 := wide_len (hw8)
    have hx7 : (specl28Copy k_)[(Int.toNat (specl28Place k_ version))]? = some (nth (specl28Copy k_) (Int.toNat (specl28Place k_ version))) := nth_get (by omega)
    refine rk tt_ok [(6, .one (.slc (.own true 576) 6 (setRow (eL (specl28Copy k_)) (Int.toNat (specl28Place k_ version)) 5 [.i (IntKind.i64.wrap ((nth (specl28Copy k_) (Int.toNat (specl28Place k_ version))).2.2 - 1))])))] [6, 7, 27] [] [] [(4, .rowE [.i ((nth (specl28Copy k_) (Int.toNat (specl28Place k_ version))).1), .h ((nth (specl28Copy k_) (Int.toNat (specl28Place k_ version))).2.1.1.1), .h ((nth (specl28Copy k_) (Int.toNat (specl28Place k_ version))).2.1.1.2.1), .i ((nth (specl28Copy k_) (Int.toNat (specl28Place k_ version))).2.1.1.2.2), .h ((nth (specl28Copy k_) (Int.toNat (specl28Place k_ version))).2.1.2), .i ((nth (specl28Copy k_) (Int.toNat (specl28Place k_ version))).2.2)]), (8, .rowE [.i ((nth (specl28Copy k_) (Int.toNat (specl28Place k_ version))).1), .h ((nth (specl28Copy k_) (Int.toNat (specl28Place k_ version))).2.1.1.1), .h ((nth (specl28Copy k_) (Int.toNat (specl28Place k_ version))).2.1.1.2.1), .i ((nth (specl28Copy k_) (Int.toNat (specl28Place k_ version))).2.1.1.2.2), .h ((nth (specl28Copy k_) (Int.toNat (specl28Place k_ version))).2.1.2), .i ((nth (specl28Copy k_) (Int.toNat (specl28Place k_ version))).2.2)])] (o2 (ob_elem (el_of (i := (specl28Place k_ version)) (by omega) rfl hx7)) (o1 (ob_elem (el_of (i := (specl28Place k_ version)) (by omega) rfl hx7)))) ?_
    refine eqn [(6, .o 576 (List.set (specl28Copy k_) (Int.toNat (specl28Place k_ version)) ((nth (specl28Copy k_) (Int.toNat (specl28Place k_ version))).1, (((nth (specl28Copy k_) (Int.toNat (specl28Place k_ version))).2.1.1.1, (nth (specl28Copy k_) (Int.toNat (specl28Place k_ version))).2.1.1.2.1, (nth (specl28Copy k_) (Int.toNat (specl28Place k_ version))).2.1.1.2.2), (nth (specl28Copy k_) (Int.toNat (specl28Place k_ version))).2.1.2), IntKind.i64.wrap ((nth (specl28Copy k_) (Int.toNat (specl28Place k_ version))).2.2 - 1))))] [6] [] [] (by rw [setRow_eL (y := ((nth (specl28Copy k_) (Int.toNat (specl28Place k_ version))).1, (((nth (specl28Copy k_) (Int.toNat (specl28Place k_ version))).2.1.1.1, (nth (specl28Copy k_) (Int.toNat (specl28Place k_ version))).2.1.1.2.1, (nth (specl28Copy k_) (Int.toNat (specl28Place k_ version))).2.1.1.2.2), (nth (specl28Copy k_) (Int.toNat (specl28Place k_ version))).2.1.2), IntKind.i64.wrap ((nth (specl28Copy k_) (Int.toNat (specl28Place k_ version))).2.2 - 1))) hx7 rfl]; first | done | kernel_rfl) ?_
    refine awp_seq ?_
    refine rk tt_ok [(4, .o 576 (List.set (specl28Copy k_) (Int.toNat (specl28Place k_ version)) ((nth (specl28Copy k_) (Int.toNat (specl28Place k_ version))).1, (((nth (specl28Copy k_) (Int.toNat (specl28Place k_ version))).2.1.1.1, (nth (specl28Copy k_) (Int.toNat (specl28Place k_ version))).2.1.1.2.1, (nth (specl28Copy k_) (Int.toNat (specl28Place k_ version))).2.1.1.2.2), (nth (specl28Copy k_) (Int.toNat (specl28Place k_ version))).2.1.2), IntKind.i64.wrap ((nth (specl28Copy k_) (Int.toNat (specl28Place k_ version))).2.2 - 1)))), (5, .b true)] [4, 5, 6] [] [] [] (o0) ?_
    refine awp_ret ?_
    exact pret [] (congrArg (fun z => (.tup [(false, [.o 0 z.1]), (false, [.b z.2])] : AV)) (show specUnpinVersion k_ version = (List.set (specl28Copy k_) (Int.toNat (specl28Place k_ version)) ((nth (specl28Copy k_) (Int.toNat (specl28Place k_ version))).1, (((nth (specl28Copy k_) (Int.toNat (specl28Place k_ version))).2.1.1.1, (nth (specl28Copy k_) (Int.toNat (specl28Place k_ version))).2.1.1.2.1, (nth (specl28Copy k_) (Int.toNat (specl28Place k_ version))).2.1.1.2.2), (nth (specl28Copy k_) (Int.toNat (specl28Place k_ version))).2.1.2), IntKind.i64.wrap ((nth (specl28Copy k_) (Int.toNat (specl28Place k_ version))).2.2 - 1)), true) from bif_f h6 (rfl)).symm)
end Go.Proofs.YtjkfmihbmkbjfaaGreat
