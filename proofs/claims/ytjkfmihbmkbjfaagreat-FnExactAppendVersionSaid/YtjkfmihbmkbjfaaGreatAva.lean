/- What functions compute, and that they do (printed by am2.py): each function as a Lean function, then its contract. -/
import Derived.Test.YtjkfmihbmkbjfaaGreatCvb
import Derived.KernelRfl
namespace Go.Proofs.YtjkfmihbmkbjfaaGreat
open Go.RowKit
open GoE (enc wide)
def implAppendVersion (v : (List VersionD)) (number : Int) (x : SnapshotD) : (List VersionD) × Bool := (bif ((!(implAreValidVersions v)) || (!(implAreValidVersions (implcopyVersions v ++ [((number, (implcopySnapshot x), 0) : VersionD)])))) then ((implcopyVersions v), false) else (implcopyVersions v ++ [((number, (implcopySnapshot x), 0) : VersionD)], true))
theorem implAppendVersion_a (v : (List VersionD)) (number : Int) (x : SnapshotD) (hp : (v.length : Int) < 1073741824) : ACalls Tryz.prog 32 [.h v, .i number, .a [.h x.1.1, .h x.1.2.1, .i x.1.2.2, .h x.2]] (.tup [(false, [.o 0 (((implAppendVersion v number x)).1)]), (false, [.b (((implAppendVersion v number x)).2)])]) := by
  refine acalls_of (tt := tt) tt_ok Tryz.func32 (fn := Tryz.f32) rfl (by unfold FnOk; kernel_rfl) (Nat.le_of_ble_eq_true rfl) fun w0 F0 => ?_
  have hcl := copyVersions_len v
  refine awp_seq ?_
  refine rk tt_ok [(5, .p 5 0), (6, .e 0), (7, .b false)] [2] [(5, [.h x.1.1, .h x.1.2.1, .i x.1.2.2, .h x.2])] [] [] (o0) ?_
  refine awp_seq ?_
  refine rd' tt_ok tt_mx [(8, .one (.slc (.own true 1024) 6 ((eL (implcopyVersions v)) ++ [[.i number, .h ((implcopySnapshot x).1.1), .h ((implcopySnapshot x).1.2.1), .i ((implcopySnapshot x).1.2.2), .h ((implcopySnapshot x).2), .i 0]])))] [1, 5] [] [5] [(1, .val (.o 0 (implcopyVersions v))), (4, .val (.a [.o 0 ((implcopySnapshot x).1.1), .o 1 ((implcopySnapshot x).1.2.1), .i ((implcopySnapshot x).1.2.2), .o 2 ((implcopySnapshot x).2)]))] (o2 (ob_call (implcopyVersions_a v)) (o2 (ob_call (implcopySnapshot_a x)) (o1 (ob_len (len_of (eL_length (implcopyVersions v)) (eL_length [((number, (implcopySnapshot x), 0) : VersionD)]) (by first | omega | (simp; omega) | simp)))))) ?_
  refine eqn [(8, .o 1024 (implcopyVersions v ++ [((number, (implcopySnapshot x), 0) : VersionD)]))] [8] [] [] (by rw [show ((eL (implcopyVersions v)) ++ [[.i number, .h ((implcopySnapshot x).1.1), .h ((implcopySnapshot x).1.2.1), .i ((implcopySnapshot x).1.2.2), .h ((implcopySnapshot x).2), .i 0]]) = (eL (implcopyVersions v ++ [((number, (implcopySnapshot x), 0) : VersionD)])) from app_eL (rfl) (rfl)]; first | done | kernel_rfl) ?_
  refine awp_seq ?_
  refine awp_seq ?_
  refine jn [(24, .b ((!(implAreValidVersions v)) || (!(implAreValidVersions (implcopyVersions v ++ [((number, (implcopySnapshot x), 0) : VersionD)])))))] [] [] [] (!(implAreValidVersions v)) (fun h1 => ?_) (fun h1 => ?_) ?_
  ·
    have h1n : (implAreValidVersions v) = false := bnot_t h1
    refine rk tt_ok [(24, .b true)] [] [] [] [(1, .val (.b false)), (2, .val (.b true))] (o2 (ob_call (cb h1n (implAreValidVersions_a v))) (o1 (ob_eq (show .b (!false) = .b true from rfl)))) ?_
    exact ⟨rfl, weak_fit (by rw [h1]; first | done | kernel_rfl)⟩
  ·
    have h1n : (implAreValidVersions v) = true := bnot_f h1
    refine rk tt_ok [(24, .b (!(implAreValidVersions (implcopyVersions v ++ [((number, (implcopySnapshot x), 0) : VersionD)]))))] [] [] [] [(1, .val (.b true)), (2, .val (.b false)), (5, .val (.b (implAreValidVersions (implcopyVersions v ++ [((number, (implcopySnapshot x), 0) : VersionD)]))))] (o2 (ob_call (cb h1n (implAreValidVersions_a v))) (o2 (ob_eq (show .b (!true) = .b false from rfl)) (o1 (ob_call (implAreValidVersions_a (implcopyVersions v ++ [((number, (implcopySnapshot x), 0) : VersionD)])))))) ?_
    exact ⟨rfl, weak_fit (by rw [h1]; first | done | kernel_rfl)⟩
  refine ck ((!(implAreValidVersions v)) || (!(implAreValidVersions (implcopyVersions v ++ [((number, (implcopySnapshot x), 0) : VersionD)])))) (fun h2 => ?_) (fun h2 => ?_)
  ·
    refine awp_seq ?_
    refine rk tt_ok [(6, .o 1664 (implcopyVersions v))] [0, 6, 24] [] [] [(1, .val (.o 0 (implcopyVersions v)))] (o1 (ob_call (implcopyVersions_a v))) ?_
    refine awp_ret ?_
    exact pret [] (congrArg (fun z => (.tup [(false, [.o 0 z.1]), (false, [.b z.2])] : AV)) (show implAppendVersion v number x = ((implcopyVersions v), false) from bif_t h2 (rfl)).symm)
  ·
    have h2l : ((!(implAreValidVersions v))) = false := or_l h2
    have h2ln : (implAreValidVersions v) = true := bnot_f h2l
    have h2r : ((!(implAreValidVersions (implcopyVersions v ++ [((number, (implcopySnapshot x), 0) : VersionD)])))) = false := or_r h2
    have h2rn : (implAreValidVersions (implcopyVersions v ++ [((number, (implcopySnapshot x), 0) : VersionD)])) = true := bnot_f h2r
    refine awp_skip ?_
    refine awp_seq ?_
    refine rk tt_ok [(6, .o 1024 (implcopyVersions v ++ [((number, (implcopySnapshot x), 0) : VersionD)])), (7, .b true)] [0, 6, 7, 8, 24] [] [] [] (o0) ?_
    refine awp_ret ?_
    exact pret [] (congrArg (fun z => (.tup [(false, [.o 0 z.1]), (false, [.b z.2])] : AV)) (show implAppendVersion v number x = (implcopyVersions v ++ [((number, (implcopySnapshot x), 0) : VersionD)], true) from bif_f h2 (rfl)).symm)
def specAppendVersion (k_ : (List VersionD)) (version : Int) (x : SnapshotD) : (List VersionD) × Bool := (bif ((!(specAreValidVersions k_)) || (!(specAreValidVersions (specl28Copy k_ ++ [((version, (specl28State x), 0) : VersionD)])))) then ((specl28Copy k_), false) else (specl28Copy k_ ++ [((version, (specl28State x), 0) : VersionD)], true))
theorem specAppendVersion_a (k_ : (List VersionD)) (version : Int) (x : SnapshotD) (hp : (k_.length : Int) < 1073741824) : ACalls Tryz.prog 30 [.h k_, .i version, .a [.h x.1.1, .h x.1.2.1, .i x.1.2.2, .h x.2]] (.tup [(false, [.o 0 (((specAppendVersion k_ version x)).1)]), (false, [.b (((specAppendVersion k_ version x)).2)])]) := by
  refine acalls_of (tt := tt) tt_ok Tryz.func30 (fn := Tryz.f30) rfl (by unfold FnOk; kernel_rfl) (Nat.le_of_ble_eq_true rfl) fun w0 F0 => ?_
  have hcl := l28Copy_len k_
  refine awp_seq ?_
  refine rk tt_ok [(5, .p 5 0), (6, .e 0), (7, .b false)] [2] [(5, [.h x.1.1, .h x.1.2.1, .i x.1.2.2, .h x.2])] [] [] (o0) ?_
  refine awp_seq ?_
  refine rd' tt_ok tt_mx [(8, .one (.slc (.own true 1024) 6 ((eL (specl28Copy k_)) ++ [[.i version, .h ((specl28State x).1.1), .h ((specl28State x).1.2.1), .i ((specl28State x).1.2.2), .h ((specl28State x).2), .i 0]])))] [1, 5] [] [5] [(1, .val (.o 0 (specl28Copy k_))), (4, .val (.a [.o 0 ((specl28State x).1.1), .o 1 ((specl28State x).1.2.1), .i ((specl28State x).1.2.2), .o 2 ((specl28State x).2)]))] (o2 (ob_call (specl28Copy_a k_)) (o2 (ob_call (specl28State_a x)) (o1 (ob_len (len_of (eL_length (specl28Copy k_)) (eL_length [((version, (specl28State x), 0) : VersionD)]) (by first | omega | (simp; omega) | simp)))))) ?_
  refine eqn [(8, .o 1024 (specl28Copy k_ ++ [((version, (specl28State x), 0) : VersionD)]))] [8] [] [] (by rw [show ((eL (specl28Copy k_)) ++ [[.i version, .h ((specl28State x).1.1), .h ((specl28State x).1.2.1), .i ((specl28State x).1.2.2), .h ((specl28State x).2), .i 0]]) = (eL (specl28Copy k_ ++ [((version, (specl28State x), 0) : VersionD)])) from app_eL (rfl) (rfl)]; first | done | kernel_rfl) ?_
  refine awp_seq ?_
  refine awp_seq ?_
  refine jn [(24, .b ((!(specAreValidVersions k_)) || (!(specAreValidVersions (specl28Copy k_ ++ [((version, (specl28State x), 0) : VersionD)])))))] [] [] [] (!(specAreValidVersions k_)) (fun h1 => ?_) (fun h1 => ?_) ?_
  ·
    have h1n : (specAreValidVersions k_) = false := bnot_t h1
    refine rk tt_ok [(24, .b true)] [] [] [] [(1, .val (.b false)), (2, .val (.b true))] (o2 (ob_call (cb h1n (specAreValidVersions_a k_))) (o1 (ob_eq (show .b (!false) = .b true from rfl)))) ?_
    exact ⟨rfl, weak_fit (by rw [h1]; first | done | kernel_rfl)⟩
  ·
    have h1n : (specAreValidVersions k_) = true := bnot_f h1
    refine rk tt_ok [(24, .b (!(specAreValidVersions (specl28Copy k_ ++ [((version, (specl28State x), 0) : VersionD)]))))] [] [] [] [(1, .val (.b true)), (2, .val (.b false)), (5, .val (.b (specAreValidVersions (specl28Copy k_ ++ [((version, (specl28State x), 0) : VersionD)]))))] (o2 (ob_call (cb h1n (specAreValidVersions_a k_))) (o2 (ob_eq (show .b (!true) = .b false from rfl)) (o1 (ob_call (specAreValidVersions_a (specl28Copy k_ ++ [((version, (specl28State x), 0) : VersionD)])))))) ?_
    exact ⟨rfl, weak_fit (by rw [h1]; first | done | kernel_rfl)⟩
  refine ck ((!(specAreValidVersions k_)) || (!(specAreValidVersions (specl28Copy k_ ++ [((version, (specl28State x), 0) : VersionD)])))) (fun h2 => ?_) (fun h2 => ?_)
  ·
    refine awp_seq ?_
    refine rk tt_ok [(6, .o 1664 (specl28Copy k_))] [0, 6, 24] [] [] [(1, .val (.o 0 (specl28Copy k_)))] (o1 (ob_call (specl28Copy_a k_))) ?_
    refine awp_ret ?_
    exact pret [] (congrArg (fun z => (.tup [(false, [.o 0 z.1]), (false, [.b z.2])] : AV)) (show specAppendVersion k_ version x = ((specl28Copy k_), false) from bif_t h2 (rfl)).symm)
  ·
    have h2l : ((!(specAreValidVersions k_))) = false := or_l h2
    have h2ln : (specAreValidVersions k_) = true := bnot_f h2l
    have h2r : ((!(specAreValidVersions (specl28Copy k_ ++ [((version, (specl28State x), 0) : VersionD)])))) = false := or_r h2
    have h2rn : (specAreValidVersions (specl28Copy k_ ++ [((version, (specl28State x), 0) : VersionD)])) = true := bnot_f h2r
    refine awp_skip ?_
    refine awp_seq ?_
    refine rk tt_ok [(6, .o 1024 (specl28Copy k_ ++ [((version, (specl28State x), 0) : VersionD)])), (7, .b true)] [0, 6, 7, 8, 24] [] [] [] (o0) ?_
    refine awp_ret ?_
    exact pret [] (congrArg (fun z => (.tup [(false, [.o 0 z.1]), (false, [.b z.2])] : AV)) (show specAppendVersion k_ version x = (specl28Copy k_ ++ [((version, (specl28State x), 0) : VersionD)], true) from bif_f h2 (rfl)).symm)
end Go.Proofs.YtjkfmihbmkbjfaaGreat
