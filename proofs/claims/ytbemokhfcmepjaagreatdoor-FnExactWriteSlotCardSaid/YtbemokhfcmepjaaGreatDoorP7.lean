/- Texts of this proof, put together by a program: Fam, LYws, MYws. -/
import Derived.Test.YtbemokhfcmepjaaGreatDoorP6
import Derived.KernelRfl
import Derived.Outline
set_option linter.unusedVariables false
set_option linter.unusedSimpArgs false
namespace Go.Proofs.YtbemokhfcmepjaaGreatDoor
open Go.RowKit
open GoE (enc)
section
variable {α : Type} [GoE α] {P : Program} {tt : List (Nat × TI)} {f g t6 : Nat} {fn : Func} {i0 i1 i2 i3 i4 i5 i6 i7 i8 B B1 : Nat} {O0 O1 O2 O3 O4 O5 O6 O7 O8 : Array Oper}
theorem eqS (htt : H6 P tt = true) (hm : P.follows .mixedOrders = true) (hf : P.funcs[f]? = some fn) (b8 : Bool) (o : α → Ob) (ho : ∀ (w0 : Base) [GoodAt P w0] (a : α), (o a).holds (X8 P w0) (Z1 P w0)) (l : List α)
    (hb : fn.body = some (.seq (.region i0 O0 false) (.seq (.seq (.region i1 O1 false) (.cond (.tmp 10) (.seq (.region i2 O2 false) .ret) .skip)) (.seq (.seq (.region i3 O3 false) (.block B (.loop (.seq (.seq (.region i4 O4 false) (.cond (.tmp 14) .skip (.exit B))) (.seq (.block B1 (.seq (.region i6 O6 true) (.cond (.tmp t6) (.seq (.region i7 O7 false) .ret) .skip))) (.region i5 O5 false)))))) (.seq (.region i8 O8 false) .ret)))) := by exact rfl)
    (hok : Br P f := by unfold Br; kernel_rfl) (hn : 2 ≤ fn.ntmps := by exact Nat.le_of_ble_eq_true rfl)
    (h0 : Jj tt fn.ntmps [] O0.toList [0, 1, 4] [] (P9 [.h l, .h l]) = some (⟨[(0, .h l), (1, .h l), (4, .b false)], []⟩, []) := by kernel_rfl)
    (h1 : Jj tt fn.ntmps [(1, .val (.i (l.length : Int))), (3, .val (.i (l.length : Int))), (4, .val (.b false))] O1.toList [0, 1, 4, 10] [] ⟨[(0, .h l), (1, .h l), (4, .b false)], []⟩ = some (⟨[(0, .h l), (1, .h l), (4, .b false), (10, .b false)], []⟩, [.eq (.i ((eL l).length : Int)) (.i (l.length : Int)), .eq (.i ((eL l).length : Int)) (.i (l.length : Int)), .eq (.b ((l.length : Int) != (l.length : Int))) (.b false)]) := by kernel_rfl)
    (h3 : Jj tt fn.ntmps [] O3.toList [5, 0, 1, 4] [] ⟨[(0, .h l), (1, .h l), (4, .b false), (10, .b false)], []⟩ = some (⟨[(5, .i 0), (0, .h l), (1, .h l), (4, .b false)], []⟩, []) := by kernel_rfl)
    (h4 : ∀ (k : Nat) (b : Bool), Jj tt fn.ntmps [(2, .val (.i (l.length : Int))), (3, .val (.b b))] O4.toList [5, 0, 1, 4, 14] [] ⟨[(5, .i (k : Int)), (0, .h l), (1, .h l), (4, .b false)], []⟩ = some (⟨[(5, .i (k : Int)), (0, .h l), (1, .h l), (4, .b false), (14, .b b)], []⟩, [.eq (.i ((eL l).length : Int)) (.i (l.length : Int)), .eq (.b (decide ((k : Int) < (l.length : Int)))) (.b b)]) := by intro k b; kernel_rfl)
    (h6 : ∀ (k : Nat) (a : α), Ha tt fn.ntmps [(2, .row (enc a)), (6, .row (enc a)), (8, .val (.b b8))] O6.toList [5, 0, 1, 4, t6] [] ⟨[(5, .i (k : Int)), (0, .h l), (1, .h l), (4, .b false), (14, .b true)], []⟩ = some (⟨[(5, .i (k : Int)), (0, .h l), (1, .h l), (4, .b false), (t6, .b false)], []⟩, [.elem (eL l) (k : Int) (enc a), .elem (eL l) (k : Int) (enc a), o a]) := by intro k a; kernel_rfl)
    (h7 : ∀ k : Nat, get [(5, AV.i (k : Int)), (0, .h l), (1, .h l), (4, .b false), (t6, .b false)] t6 = some (.b false) := by intro k; kernel_rfl)
    (h5 : ∀ k : Nat, Jj tt fn.ntmps [(1, .val (.i ((k + 1 : Nat) : Int)))] O5.toList [5, 0, 1, 4] [] ⟨[(5, .i (k : Int)), (0, .h l), (1, .h l), (4, .b false), (t6, .b false)], []⟩ = some (⟨[(5, .i ((k + 1 : Nat) : Int)), (0, .h l), (1, .h l), (4, .b false)], []⟩, [.eq (.i (IntKind.i64.wrap ((k : Int) + 1))) (.i ((k + 1 : Nat) : Int))]) := by intro k; kernel_rfl)
    (h8 : Jj tt fn.ntmps [] O8.toList [4] [] ⟨[(4, .b false)], []⟩ = some (⟨[(4, .b true)], []⟩, []) := by kernel_rfl)
    (hr : Cv tt fn.results.toList ⟨[(4, .b true)], []⟩ = some (.b true) := by kernel_rfl) : ACalls P f [.h l, .h l] (.b true) := by
  refine Gq htt hf hb hok hn fun w0 F0 hG => ?_
  refine Qc (Y1 htt [] _ _ h0 p0 ?_)
  refine Qc (Qc (Y1 htt _ _ _ h1 (pl 1 l (pl 3 l (pf 4 (by simp) p0))) ?_))
  refine ckF (Qf ?_)
  refine Qc (Qc (Y1 htt [] _ _ h3 p0 ?_))
  refine wT 0 0 .sh l (fun hw hl => ?_) rfl
  refine Rb (R := Bool) (τ := Unit) (fun _ _ (_ : Unit) => .next ()) (fun _ _ => ()) l () (fun k _ => [(5, .i (k : Int))]) [5] (fun _ => []) [0, 1, 5] (Qd rfl) (fun k s hk hI => ?_) (fun k s hk hI => ?_) (fun y _ => ?_)
  · obtain ⟨a, hx⟩ := Yp (l := l) (i := k) hk
    refine Qc (Qc (Y1 htt _ _ _ (h4 k true) (pl 2 l (pt 3 (decide_eq_true (p := (k : Int) < (l.length : Int)) (by omega)) p0)) ?_))
    refine ckT (Qf ?_)
    refine Qc (Qz (Qc (M6 htt hm _ _ _ (h6 k a) (pn 2 hx (pn 6 hx (po 8 (.val (.b b8)) (px (ho w0 a) p0)))) ?_)))
    refine Gx (h7 k) (Qf ?_)
    refine Y1 htt _ _ _ (h5 k) (pe 1 (Jq (Q4 k (by omega))) p0) ?_
    exact ⟨(), Qd rfl, Xp hx rfl hI⟩
  · refine Qc (Qc (Y1 htt _ _ _ (h4 k false) (pl 2 l (pf 3 (decide_eq_false (p := (k : Int) < (l.length : Int)) (by omega)) p0)) ?_))
    refine ckF (Xu ?_)
    show (bif Nat.beq B B then _ else _ : Prop)
    rw [Nat.beq_refl]
    exact ⟨(), Qd rfl, Yq hk rfl hI⟩
  refine Qc (Y1 htt [] _ _ h8 p0 (Qe ?_))
  exact Ax [] hr rfl
def eqZ (a : α) : St := ⟨[(2, .p 2 0), (3, .p 3 0), (4, .b false)], [(2, (enc a).map shC), (3, (enc a).map shC)]⟩
variable {N : Nat} {w0 : Base} {F0 : Nat → Prop} {c y : Code} {rs : List ResultVar} {t : Nat}
theorem eqA (htt : H6 P tt = true) (hf : P.funcs[f]? = some fn) (a : α) (k : ∀ (w0 : Base) (F0 : Nat → Prop) (_ : GoodAt P w0), AWP P fn.ntmps w0 F0 c (BA tt fn.results.toList (.b true)) (eqZ a))
    (hb : fn.body = some (.seq (.region i0 O0 false) c) := by exact rfl) (hok : Br P f := by unfold Br; kernel_rfl) (hn : 2 ≤ fn.ntmps := by exact Nat.le_of_ble_eq_true rfl)
    (h0 : Jj tt fn.ntmps [] O0.toList [2, 3, 4] [2, 3] (P9 [Hp a, Hp a]) = some (eqZ a, []) := by kernel_rfl) : ACalls P f [Hp a, Hp a] (.b true) :=
  Gq htt hf hb hok hn fun w0 F0 hG => Qc (Y1 htt [] _ _ h0 p0 (k w0 F0 hG))
def eqY (a : α) (t : Nat) (b : Bool) : St := ⟨[(2, .p 2 0), (3, .p 3 0), (4, .b false), (t, .b b)], [(2, (enc a).map shC), (3, (enc a).map shC)]⟩
theorem eqF (htt : H6 P tt = true) {a : α} {b : Bool} {Q : Exit → St → Prop} (k : AWP P N w0 F0 y Q (eqZ a)) (hc : b = false := by simp)
    (h : Jj tt N [(O1.size - 1, .val (.b false))] O1.toList [2, 3, 4, t] [2, 3] (eqZ a) = some (eqY a t false, [.eq (.b b) (.b false)]) := by kernel_rfl) (hg : get (eqY a t false).tm t = some (.b false) := by kernel_rfl) (hk : (eqY a t false).keep [2, 3, 4] [2, 3] = eqZ a := by kernel_rfl) : AWP P N w0 F0 (.seq (.seq (.region i1 O1 false) (.cond (.tmp t) (.seq (.region i2 O2 false) .ret) .skip)) y) Q (eqZ a) :=
  Qc (Qc (Y1 htt _ _ _ h (pf (O1.size - 1) hc p0) (Gx hg (Qf (H8 (Oh _ _ hk) k)))))
theorem eqG (htt : H6 P tt = true) {a : α} {v : AV} {Q : Exit → St → Prop} [GoodAt P w0] (hv : ACalls P g [v, v] (.b true)) (k : AWP P N w0 F0 y Q (eqZ a))
    (h : Jj tt N [(O1.size - 2, .val (.b true))] O1.toList [2, 3, 4, t] [2, 3] (eqZ a) = some (eqY a t false, [.call g [v, v] (.b true)]) := by kernel_rfl) (hg : get (eqY a t false).tm t = some (.b false) := by kernel_rfl) (hk : (eqY a t false).keep [2, 3, 4] [2, 3] = eqZ a := by kernel_rfl) : AWP P N w0 F0 (.seq (.seq (.region i1 O1 false) (.cond (.tmp t) (.seq (.region i2 O2 false) .ret) .skip)) y) Q (eqZ a) :=
  Qc (Qc (Y1 htt _ _ _ h (pc (O1.size - 2) hv p0) (Gx hg (Qf (H8 (Oh _ _ hk) k)))))
theorem eqE (htt : H6 P tt = true) {a : α} (h : Jj tt N [] O1.toList [4] [] (eqZ a) = some (⟨[(4, .b true)], []⟩, []) := by kernel_rfl) (hr : Cv tt rs ⟨[(4, .b true)], []⟩ = some (.b true) := by kernel_rfl) : AWP P N w0 F0 (.seq (.region i1 O1 false) .ret) (BA tt rs (.b true)) (eqZ a) :=
  Qc (Y1 htt [] _ _ h p0 (Qe (Ax [] hr rfl)))
theorem eqI (htt : H6 P tt = true) {a : α} (x : Int) {Q : Exit → St → Prop} (k : AWP P N w0 F0 y Q (eqZ a))
    (h : Jj tt N [(O1.size - 1, .val (.b false))] O1.toList [2, 3, 4, t] [2, 3] (eqZ a) = some (eqY a t false, [.eq (.b (x != x)) (.b false)]) := by kernel_rfl) (hg : get (eqY a t false).tm t = some (.b false) := by kernel_rfl) (hk : (eqY a t false).keep [2, 3, 4] [2, 3] = eqZ a := by kernel_rfl) : AWP P N w0 F0 (.seq (.seq (.region i1 O1 false) (.cond (.tmp t) (.seq (.region i2 O2 false) .ret) .skip)) y) Q (eqZ a) := eqF htt k (by simp) h hg hk
theorem eqB (htt : H6 P tt = true) {a : α} (x : Bool) {Q : Exit → St → Prop} (k : AWP P N w0 F0 y Q (eqZ a))
    (h : Jj tt N [(O1.size - 1, .val (.b false))] O1.toList [2, 3, 4, t] [2, 3] (eqZ a) = some (eqY a t false, [.eq (.b (!(x == x))) (.b false)]) := by kernel_rfl) (hg : get (eqY a t false).tm t = some (.b false) := by kernel_rfl) (hk : (eqY a t false).keep [2, 3, 4] [2, 3] = eqZ a := by kernel_rfl) : AWP P N w0 F0 (.seq (.seq (.region i1 O1 false) (.cond (.tmp t) (.seq (.region i2 O2 false) .ret) .skip)) y) Q (eqZ a) := eqF htt k (by simp) h hg hk
theorem eqT (htt : H6 P tt = true) {a : α} (x : ByteArray) {Q : Exit → St → Prop} (k : AWP P N w0 F0 y Q (eqZ a))
    (h : Jj tt N [(O1.size - 1, .val (.b false))] O1.toList [2, 3, 4, t] [2, 3] (eqZ a) = some (eqY a t false, [.eq (.b (!(x.toList == x.toList))) (.b false)]) := by kernel_rfl) (hg : get (eqY a t false).tm t = some (.b false) := by kernel_rfl) (hk : (eqY a t false).keep [2, 3, 4] [2, 3] = eqZ a := by kernel_rfl) : AWP P N w0 F0 (.seq (.seq (.region i1 O1 false) (.cond (.tmp t) (.seq (.region i2 O2 false) .ret) .skip)) y) Q (eqZ a) := eqF htt k (by simp) h hg hk
/-! ### sizes -/
/-! ### copies -/
def toM {β : Type} (l : List β) (d : β) (k : Nat) : List β := l.take k ++ List.replicate (l.length - k) d
theorem OG {β : Type} (l : List β) (d : β) {k : Nat} (h : k < l.length) : (toM l d k)[k]? = some d := by
  unfold toM
  rw [List.getElem?_append_right (by simp; omega), List.getElem?_replicate]
  simp
  omega
theorem SM {β : Type} {l : List β} (d : β) {k : Nat} {a : β} (h : l[k]? = some a) : (toM l d k).set k a = toM l d (k + 1) := by
  have hk : k < l.length := (List.getElem?_eq_some_iff.1 h).1
  obtain ⟨m, hm⟩ : ∃ m, l.length - k = m + 1 := ⟨l.length - k - 1, by omega⟩
  unfold toM
  rw [hm, show l.length - (k + 1) = m by omega, List.replicate_succ, List.set_append_right _ _ (by simp; omega), List.take_add_one, h]
  simp [Nat.min_eq_left (Nat.le_of_lt hk)]
theorem toS (d : α) (htt : H6 P tt = true) (hf : P.funcs[f]? = some fn) (j : Nat) (mid : α → List (Nat × Orc)) (mo : α → List Ob) (hg : ∀ (w0 : Base) [GoodAt P w0] (a : α) (orcs : List (Nat × Orc)) (obs : List Ob), PL (X8 P w0) (Z1 P w0) orcs obs → PL (X8 P w0) (Z1 P w0) (mid a ++ orcs) (mo a ++ obs)) (l : List α)
    (hb : fn.body = some (.seq (.region i0 O0 false) (.seq (.region i1 O1 false) (.seq (.seq (.region i2 O2 false) (.block B (.loop (.seq (.seq (.region i3 O3 false) (.cond (.tmp 11) .skip (.exit B))) (.seq (.block B1 (.region i5 O5 false)) (.region i4 O4 false)))))) (.seq (.region i6 O6 false) .ret)))) := by exact rfl)
    (hok : Br P f := by unfold Br; kernel_rfl) (hn : 1 ≤ fn.ntmps := by exact Nat.le_of_ble_eq_true rfl)
    (h0 : Jj tt fn.ntmps [] O0.toList [0] [] (P9 [.h l]) = some (⟨[(0, .h l)], []⟩, []) := by kernel_rfl)
    (h1 : Jj tt fn.ntmps [(1, .val (.i (l.length : Int)))] O1.toList [3, 0] [] ⟨[(0, .h l)], []⟩ = some (⟨[(3, .one (.slc (.own true 448) (GoD.n α) (List.replicate l.length (enc d)))), (0, .h l)], []⟩, [.eq (.i ((eL l).length : Int)) (.i (l.length : Int)), .rng 0 (l.length : Int) 1073741824]) := by kernel_rfl)
    (h2 : ∀ m : List α, Jj tt fn.ntmps [] O2.toList [4, 3, 0] [] ⟨[(3, .one (.slc (.own true 448) (GoD.n α) (eL m))), (0, .h l)], []⟩ = some (⟨[(4, .i 0), (3, .one (.slc (.own true 448) (GoD.n α) (eL m))), (0, .h l)], []⟩, []) := by intro m; kernel_rfl)
    (h3 : ∀ (k : Nat) (m : List α) (b : Bool), Jj tt fn.ntmps [(2, .val (.i (l.length : Int))), (3, .val (.b b))] O3.toList [4, 3, 0, 11] [] ⟨[(4, .i (k : Int)), (3, .one (.slc (.own true 448) (GoD.n α) (eL m))), (0, .h l)], []⟩ = some (⟨[(4, .i (k : Int)), (3, .one (.slc (.own true 448) (GoD.n α) (eL m))), (0, .h l), (11, .b b)], []⟩, [.eq (.i ((eL l).length : Int)) (.i (l.length : Int)), .eq (.b (decide ((k : Int) < (l.length : Int)))) (.b b)]) := by intro k m b; kernel_rfl)
    (h5 : ∀ (k : Nat) (m : List α) (a x : α), Jj tt fn.ntmps ((4, .row (enc a)) :: (mid a ++ [(j, .rowE (enc x))])) O5.toList [4, 3, 0] [] ⟨[(4, .i (k : Int)), (3, .one (.slc (.own true 448) (GoD.n α) (eL m))), (0, .h l), (11, .b true)], []⟩ = some (⟨[(4, .i (k : Int)), (3, .one (.slc (.own true 448) (GoD.n α) (setRow (eL m) k 0 (enc a)))), (0, .h l)], []⟩, (.elem (eL l) (k : Int) (enc a) :: (mo a ++ [.elem (eL m) (k : Int) (enc x)]))) := by intro k m a x; kernel_rfl)
    (h4 : ∀ (k : Nat) (m : List α), Jj tt fn.ntmps [(1, .val (.i ((k + 1 : Nat) : Int)))] O4.toList [4, 3, 0] [] ⟨[(4, .i (k : Int)), (3, .one (.slc (.own true 448) (GoD.n α) (eL m))), (0, .h l)], []⟩ = some (⟨[(4, .i ((k + 1 : Nat) : Int)), (3, .one (.slc (.own true 448) (GoD.n α) (eL m))), (0, .h l)], []⟩, [.eq (.i (IntKind.i64.wrap ((k : Int) + 1))) (.i ((k + 1 : Nat) : Int))]) := by intro k m; kernel_rfl)
    (h6 : ∀ m : List α, Jj tt fn.ntmps [] O6.toList [2] [] ⟨[(3, .one (.slc (.own true 448) (GoD.n α) (eL m)))], []⟩ = some (⟨[(2, .one (.slc (.own true 448) (GoD.n α) (eL m)))], []⟩, []) := by intro m; kernel_rfl)
    (hr : ∀ m : List α, Cv tt fn.results.toList ⟨[(2, .one (.slc (.own true 448) (GoD.n α) (eL m)))], []⟩ = some (IN m) := by intro m; kernel_rfl)
    (hlen : ∀ a b : α, (enc a).length = (enc b).length := by intro a b; rfl) : ACalls P f [.h l] (IN l) := by
  refine Gq htt hf hb hok hn fun w0 F0 hG => ?_
  refine Qc (Y1 htt [] _ _ h0 p0 ?_)
  refine wT 0 0 .sh l (fun hw hl => ?_) rfl
  refine Qc (Y1 htt _ _ _ h1 (pl 1 l (px (show (0 : Int) ≤ 0 ∧ (0 : Int) ≤ (l.length : Int) ∧ (l.length : Int) ≤ ((1073741824 : Nat) : Int) by omega) p0)) ?_)
  have e0 : List.replicate l.length (enc d) = eL (toM l d 0) := by simp [toM, eL]
  rw [e0]
  refine Qc (Qc (Y1 htt [] _ _ (h2 _) p0 ?_))
  refine Ks (σ := Unit) (τ := Unit) (fun k _ => ⟨[(4, .i (k : Int)), (3, .one (.slc (.own true 448) (GoD.n α) (eL (toM l d k)))), (0, .h l)], []⟩) (fun _ => ⟨[(3, .one (.slc (.own true 448) (GoD.n α) (eL l)))], []⟩) (fun _ _ => True) (fun _ => True) l.length () (DF rfl) trivial (fun k _ hk _ => ?_) (fun k _ hk _ => ?_) (fun _ _ => ?_)
  · obtain ⟨a, hx⟩ := Yp (l := l) (i := k) hk
    refine Qc (Qc (Y1 htt _ _ _ (h3 k _ true) (pl 2 l (pt 3 (decide_eq_true (p := (k : Int) < (l.length : Int)) (by omega)) p0)) ?_))
    refine ckT (Qf ?_)
    refine Qc (Qz (Y1 htt _ _ _ (h5 k _ a d) (pn 4 hx (hg w0 a _ _ (pN j (OG l d hk) p0))) ?_))
    rw [Jr (y := a) (OG l d hk) (by rw [Nat.zero_add, List.take_zero, List.nil_append, List.drop_eq_nil_of_le (Nat.le_of_eq (hlen d a)), List.append_nil]), SM d hx]
    exact Y1 htt _ _ _ (h4 k _) (pe 1 (Jq (Q4 k (by omega))) p0) ⟨(), DF rfl, trivial⟩
  · subst hk
    refine Qc (Qc (Y1 htt _ _ _ (h3 _ _ false) (pl 2 l (pf 3 (decide_eq_false (p := (l.length : Int) < (l.length : Int)) (by omega)) p0)) ?_))
    refine ckF (Xu ?_)
    show (bif Nat.beq B B then _ else _ : Prop)
    rw [Nat.beq_refl]
    refine ⟨(), ?_, trivial⟩
    rw [show toM l d l.length = l by simp [toM]]
    exact Qd rfl
  exact Qc (Y1 htt [] _ _ (h6 _) p0 (Qe (Ax [] (hr _) rfl)))
end
open GoE (enc wide)
theorem MI (a : U4) (left : Int) (h0 : 0 ≤ left) (h1 : left ≤ 1048576) : ACalls Tryz.prog 4 [Hp a, PN left] (PN (szI (GoD.size a) left)) := S3 (by unfold Br; kernel_rfl) h0 h1 fun w c hr => HC w c a left hr h0 h1
theorem ZY (a : Qp) (left : Int) (h0 : 0 ≤ left) (h1 : left ≤ 1048576) : ACalls Tryz.prog 5 [Hp a, PN left] (PN (szI (GoD.size a) left)) := S3 (by unfold Br; kernel_rfl) h0 h1 fun w c hr => Mm w c a left hr h0 h1
def L6 (a_ : U4) : U4 := a_
theorem ZZ (a_ : U4) : ACalls Tryz.prog 7 [.a [.s a_.1, .s a_.2]] (.a [.s ((L6 a_).1), .s ((L6 a_).2)]) := by
 refine en Qa Tryz.func7 fun w0 F0 hG => ?_
 refine sn Qa [1, 2] [1, 2] (p0) ?_
 refine tn Qa [1, 2, 3] [1, 2, 3] (p0) ?_
 refine tu Qa [(1, .p 1 0), (2, .p 2 0), (3, .p 3 0)] [0] [(1, [.s a_.1, .s a_.2]), (2, [.s ⟨#[]⟩, .s ⟨#[]⟩]), (3, [.s a_.1, .s ⟨#[]⟩])] [] (p0) ?_
 refine sn Qa [2, 3] [2, 3] (p0) ?_
 refine tn Qa [2] [2] (p0) ?_
 refine Qe ?_
 exact pz [] (show L6 a_ = a_ from rfl) (fun z => .a [.s z.1, .s z.2])
theorem MJ (a : U4) : ACalls Tryz.prog 7 [Hp a] (Ra a) := ZZ a
theorem HD (a : U4) (h : GoD.size a ≤ 1048576) : ACalls Tryz.prog 7 [Hp a] (Ra a) := MJ a
def Gb (a_ : X9) : X9 := a_
theorem QR (a_ : X9) : ACalls Tryz.prog 52 [.a [.s a_.1, .i a_.2]] (.a [.s ((Gb a_).1), .i ((Gb a_).2)]) := by
 refine en Qa Tryz.func52 fun w0 F0 hG => ?_
 refine sn Qa [1, 2] [1, 2] (p0) ?_
 refine tn Qa [1, 2, 3] [1, 2, 3] (p0) ?_
 refine tu Qa [(1, .p 1 0), (2, .p 2 0), (3, .p 3 0)] [0] [(1, [.s a_.1, .i a_.2]), (2, [.s ⟨#[]⟩, .i 0]), (3, [.s a_.1, .i 0])] [] (p0) ?_
 refine sn Qa [2, 3] [2, 3] (p0) ?_
 refine tn Qa [2] [2] (p0) ?_
 refine Qe ?_
 exact pz [] (show Gb a_ = a_ from rfl) (fun z => .a [.s z.1, .i z.2])
theorem FV (a : X9) : ACalls Tryz.prog 52 [Hp a] (Ra a) := QR a
theorem AX (l : (List X9)) : ACalls Tryz.prog 32 [.h l] (IN l) := toS default Qa Tryz.func32 7 (fun a => [(6, .val (Ra a))]) (fun a => [.call 52 [Hp a] (Ra a)]) (fun _ _ a _ _ => pc 6 (FV a)) l
def Db (a_ : Z7) : Z7 := a_
theorem QS (a_ : Z7) : ACalls Tryz.prog 106 [.a [.i a_.1, .i a_.2.1, .s a_.2.2]] (.a [.i ((Db a_).1), .i ((Db a_).2.1), .s ((Db a_).2.2)]) := by
 refine en Qa Tryz.func106 fun w0 F0 hG => ?_
 refine sn Qa [1, 2] [1, 2] (p0) ?_
 refine tn Qa [1, 2, 3] [1, 2, 3] (p0) ?_
 refine tu Qa [(1, .p 1 0), (2, .p 2 0), (3, .p 3 0)] [0] [(1, [.i a_.1, .i a_.2.1, .s a_.2.2]), (2, [.i 0, .i 0, .s ⟨#[]⟩]), (3, [.i a_.1, .i 0, .s ⟨#[]⟩])] [] (p0) ?_
 refine sn Qa [1, 2, 3] [1, 2, 3] (p0) ?_
 refine tn Qa [2, 3] [2, 3] (p0) ?_
 refine tu Qa [] [1, 3] [(2, [.i a_.1, .i a_.2.1, .s a_.2.2])] [1, 2, 3] (p0) ?_
 refine Qe ?_
 exact pz [] (show Db a_ = a_ from rfl) (fun z => .a [.i z.1, .i z.2.1, .s z.2.2])
theorem JA (a : Z7) : ACalls Tryz.prog 106 [Hp a] (Ra a) := QS a
def Co (a_ : Vc) : Vc := a_
theorem JB (a_ : Vc) : ACalls Tryz.prog 105 [.a [.s a_.1, .i a_.2.1, .i a_.2.2.1, .s a_.2.2.2]] (.a [.s ((Co a_).1), .i ((Co a_).2.1), .i ((Co a_).2.2.1), .s ((Co a_).2.2.2)]) := by
 refine en Qa Tryz.func105 fun w0 F0 hG => ?_
 refine sn Qa [1, 2] [1, 2] (p0) ?_
 refine tn Qa [1, 2, 3] [1, 2, 3] (p0) ?_
 refine tu Qa [(1, .p 1 0), (2, .p 2 0), (3, .p 3 0)] [0] [(1, [.s a_.1, .i a_.2.1, .i a_.2.2.1, .s a_.2.2.2]), (2, [.s ⟨#[]⟩, .i 0, .i 0, .s ⟨#[]⟩]), (3, [.s a_.1, .i 0, .i 0, .s ⟨#[]⟩])] [] (p0) ?_
 refine sn Qa [2, 3] [2, 3] (pc 2 (JA a_.2) p0) ?_
 refine tn Qa [2] [2] (p0) ?_
 refine Qe ?_
 exact pz [] (show Co a_ = a_ from rfl) (fun z => .a [.s z.1, .i z.2.1, .i z.2.2.1, .s z.2.2.2])
theorem MK (a : Vc) : ACalls Tryz.prog 105 [Hp a] (Ra a) := JB a
theorem FW (l : (List Vc)) : ACalls Tryz.prog 75 [.h l] (IN l) := toS default Qa Tryz.func75 7 (fun a => [(6, .val (Ra a))]) (fun a => [.call 105 [Hp a] (Ra a)]) (fun _ _ a _ _ => pc 6 (MK a)) l
def A7 (a_ : Jk) : Jk := a_
theorem JC (a_ : Jk) : ACalls Tryz.prog 53 [.a [.i a_.1, .i a_.2.1, .b a_.2.2.1, .i a_.2.2.2.1, .h a_.2.2.2.2]] (.a [.i ((A7 a_).1), .i ((A7 a_).2.1), .b ((A7 a_).2.2.1), .i ((A7 a_).2.2.2.1), .o 0 ((A7 a_).2.2.2.2)]) := by
 refine en Qa Tryz.func53 fun w0 F0 hG => ?_
 refine sn Qa [1, 2] [1, 2] (p0) ?_
 refine tn Qa [1, 2, 3] [1, 2, 3] (p0) ?_
 refine tu Qa [(1, .p 1 0), (2, .p 2 0), (3, .p 3 0)] [0] [(1, [.i a_.1, .i a_.2.1, .b a_.2.2.1, .i a_.2.2.2.1, .h a_.2.2.2.2]), (2, [.i 0, .i 0, .b false, .i 0, .e 4]), (3, [.i a_.1, .i 0, .b false, .i 0, .e 4])] [] (p0) ?_
 refine sn Qa [1, 2, 3] [1, 2, 3] (p0) ?_
 refine tn Qa [1, 2, 3] [1, 2, 3] (p0) ?_
 refine tu Qa [] [] [(3, [.i a_.1, .i a_.2.1, .b a_.2.2.1, .i a_.2.2.2.1, .e 4])] [3] (p0) ?_
 refine sn Qa [2, 3] [2, 3] (pc 2 (FW a_.2.2.2.2) p0) ?_
 refine tn Qa [2] [2] (p0) ?_
 refine Qe ?_
 exact pz [] (show A7 a_ = a_ from rfl) (fun z => .a [.i z.1, .i z.2.1, .b z.2.2.1, .i z.2.2.2.1, .o 0 z.2.2.2.2])
theorem MM (a : Jk) : ACalls Tryz.prog 53 [Hp a] (Ra a) := JC a
theorem FX (l : (List Jk)) : ACalls Tryz.prog 33 [.h l] (IN l) := toS default Qa Tryz.func33 7 (fun a => [(6, .val (Ra a))]) (fun a => [.call 53 [Hp a] (Ra a)]) (fun _ _ a _ _ => pc 6 (MM a)) l
def Dc (a_ : Ao) : Ao := a_
theorem QT (a_ : Ao) : ACalls Tryz.prog 17 [.a [.h a_.1, .h a_.2.1, .i a_.2.2]] (.a [.o 0 ((Dc a_).1), .o 1 ((Dc a_).2.1), .i ((Dc a_).2.2)]) := by
 refine en Qa Tryz.func17 fun w0 F0 hG => ?_
 refine sn Qa [1, 2] [1, 2] (p0) ?_
 refine tn Qa [1, 2, 3] [1, 2, 3] (p0) ?_
 refine tu Qa [(1, .p 1 0), (2, .p 2 0), (3, .p 3 0)] [0] [(1, [.h a_.1, .h a_.2.1, .i a_.2.2]), (2, [.e 2, .e 5, .i 0]), (3, [.o 384 a_.1, .e 5, .i 0])] [] (pc 2 (AX a_.1) p0) ?_
 refine sn Qa [1, 2, 3] [1, 2, 3] (pc 2 (FX a_.2.1) p0) ?_
 refine tn Qa [2, 3] [2, 3] (p0) ?_
 refine tu Qa [] [1, 3] [(2, [.o 384 a_.1, .o 640 a_.2.1, .i a_.2.2])] [1, 2, 3] (p0) ?_
 refine Qe ?_
 exact pz [] (show Dc a_ = a_ from rfl) (fun z => .a [.o 0 z.1, .o 1 z.2.1, .i z.2.2])
theorem FY (a : Ao) : ACalls Tryz.prog 17 [Hp a] (Ra a) := QT a
def U3 (a_ : Qw) : Qw := a_
theorem JD (a_ : Qw) : ACalls Tryz.prog 76 [.a [.i a_.1, .i a_.2.1, .i a_.2.2.1, .s a_.2.2.2.1, .i a_.2.2.2.2.1, .i a_.2.2.2.2.2.1, .s a_.2.2.2.2.2.2]] (.a [.i ((U3 a_).1), .i ((U3 a_).2.1), .i ((U3 a_).2.2.1), .s ((U3 a_).2.2.2.1), .i ((U3 a_).2.2.2.2.1), .i ((U3 a_).2.2.2.2.2.1), .s ((U3 a_).2.2.2.2.2.2)]) := by
 refine en Qa Tryz.func76 fun w0 F0 hG => ?_
 refine sn Qa [1, 2] [1, 2] (p0) ?_
 refine tn Qa [1, 2, 3] [1, 2, 3] (p0) ?_
 refine tu Qa [(1, .p 1 0), (2, .p 2 0), (3, .p 3 0)] [0] [(1, [.i a_.1, .i a_.2.1, .i a_.2.2.1, .s a_.2.2.2.1, .i a_.2.2.2.2.1, .i a_.2.2.2.2.2.1, .s a_.2.2.2.2.2.2]), (2, [.i 0, .i 0, .i 0, .s ⟨#[]⟩, .i 0, .i 0, .s ⟨#[]⟩]), (3, [.i a_.1, .i 0, .i 0, .s ⟨#[]⟩, .i 0, .i 0, .s ⟨#[]⟩])] [] (p0) ?_
 refine sn Qa [1, 2, 3] [1, 2, 3] (p0) ?_
 refine tn Qa [1, 2, 3] [1, 2, 3] (p0) ?_
 refine tu Qa [] [] [(3, [.i a_.1, .i a_.2.1, .i a_.2.2.1, .s a_.2.2.2.1, .i 0, .i 0, .s ⟨#[]⟩])] [3] (p0) ?_
 refine sn Qa [2, 3] [2, 3] (pc 2 (JA a_.2.2.2.2) p0) ?_
 refine tn Qa [2] [2] (p0) ?_
 refine Qe ?_
 exact pz [] (show U3 a_ = a_ from rfl) (fun z => .a [.i z.1, .i z.2.1, .i z.2.2.1, .s z.2.2.2.1, .i z.2.2.2.2.1, .i z.2.2.2.2.2.1, .s z.2.2.2.2.2.2])
theorem MN (a : Qw) : ACalls Tryz.prog 76 [Hp a] (Ra a) := JD a
theorem FZ (l : (List Qw)) : ACalls Tryz.prog 54 [.h l] (IN l) := toS default Qa Tryz.func54 7 (fun a => [(6, .val (Ra a))]) (fun a => [.call 76 [Hp a] (Ra a)]) (fun _ _ a _ _ => pc 6 (MN a)) l
def P5 (a_ : Z9) : Z9 := a_
theorem VU (a_ : Z9) : ACalls Tryz.prog 34 [.a [.s a_.1, .h a_.2]] (.a [.s ((P5 a_).1), .o 0 ((P5 a_).2)]) := by
 refine en Qa Tryz.func34 fun w0 F0 hG => ?_
 refine sn Qa [1, 2] [1, 2] (p0) ?_
 refine tn Qa [1, 2, 3] [1, 2, 3] (p0) ?_
 refine tu Qa [(1, .p 1 0), (2, .p 2 0), (3, .p 3 0)] [0] [(1, [.s a_.1, .h a_.2]), (2, [.s ⟨#[]⟩, .e 7]), (3, [.s a_.1, .e 7])] [] (p0) ?_
 refine sn Qa [2, 3] [2, 3] (pc 2 (FZ a_.2) p0) ?_
 refine tn Qa [2] [2] (p0) ?_
 refine Qe ?_
 exact pz [] (show P5 a_ = a_ from rfl) (fun z => .a [.s z.1, .o 0 z.2])
theorem SN (a : Z9) : ACalls Tryz.prog 34 [Hp a] (Ra a) := VU a
theorem MO (l : (List Z9)) : ACalls Tryz.prog 18 [.h l] (IN l) := toS default Qa Tryz.func18 7 (fun a => [(6, .val (Ra a))]) (fun a => [.call 34 [Hp a] (Ra a)]) (fun _ _ a _ _ => pc 6 (SN a)) l
def Um (a_ : Qp) : Qp := a_
theorem Mw (a_ : Qp) : ACalls Tryz.prog 8 [.a [.h a_.1.1, .h a_.1.2.1, .i a_.1.2.2, .h a_.2]] (.a [.o 0 ((Um a_).1.1), .o 1 ((Um a_).1.2.1), .i ((Um a_).1.2.2), .o 2 ((Um a_).2)]) := by
 refine en Qa Tryz.func8 fun w0 F0 hG => ?_
 refine sn Qa [1, 2] [1, 2] (p0) ?_
 refine tn Qa [1, 2, 3] [1, 2, 3] (p0) ?_
 refine tu Qa [(1, .p 1 0), (2, .p 2 0), (3, .p 3 0)] [0] [(1, [.h a_.1.1, .h a_.1.2.1, .i a_.1.2.2, .h a_.2]), (2, [.e 2, .e 5, .i 0, .e 2]), (3, [.o 384 a_.1.1, .o 385 a_.1.2.1, .i a_.1.2.2, .e 2])] [] (pc 2 (FY a_.1) p0) ?_
 refine sn Qa [2, 3] [2, 3] (pc 2 (MO a_.2) p0) ?_
 refine tn Qa [2] [2] (p0) ?_
 refine Qe ?_
 exact pz [] (show Um a_ = a_ from rfl) (fun z => .a [.o 0 z.1.1, .o 1 z.1.2.1, .i z.1.2.2, .o 2 z.2])
theorem JE (a : Qp) : ACalls Tryz.prog 8 [Hp a] (Ra a) := Mw a
theorem Ej (a : Qp) (h : GoD.size a ≤ 1048576) : ACalls Tryz.prog 8 [Hp a] (Ra a) := JE a
theorem MP (a : U4) : ACalls Tryz.prog 10 [Hp a, Hp a] (.b true) := eqA Qa Tryz.func10 a fun _ _ _ => eqT Qa a.1 <| eqT Qa a.2 <| eqE Qa
theorem MQ {a b : U4} (h : a = b) : ACalls Tryz.prog 10 [Hp a, Hp b] (PO true) := h ▸ MP a
theorem GA (a : X9) : ACalls Tryz.prog 61 [Hp a, Hp a] (.b true) := eqA Qa Tryz.func61 a fun _ _ _ => eqT Qa a.1 <| eqI Qa a.2 <| eqE Qa
theorem AY (l : (List X9)) : ACalls Tryz.prog 37 [.h l, .h l] (.b true) := eqS Qa Yz Tryz.func37 true (fun a => .call 61 [Hp a, Hp a] (.b true)) (fun _ _ a => I8 (GA a)) l
theorem JF (a : Z7) : ACalls Tryz.prog 121 [Hp a, Hp a] (.b true) := eqA Qa Tryz.func121 a fun _ _ _ => eqI Qa a.1 <| eqI Qa a.2.1 <| eqT Qa a.2.2 <| eqE Qa
theorem MR (a : Vc) : ACalls Tryz.prog 120 [Hp a, Hp a] (.b true) := eqA Qa Tryz.func120 a fun _ _ _ => eqT Qa a.1 <| eqG Qa (JF a.2) <| eqE Qa
theorem GB (l : (List Vc)) : ACalls Tryz.prog 86 [.h l, .h l] (.b true) := eqS Qa Yz Tryz.func86 true (fun a => .call 120 [Hp a, Hp a] (.b true)) (fun _ _ a => I8 (MR a)) l
theorem MS (a : Jk) : ACalls Tryz.prog 62 [Hp a, Hp a] (.b true) := eqA Qa Tryz.func62 a fun _ _ _ => eqI Qa a.1 <| eqI Qa a.2.1 <| eqB Qa a.2.2.1 <| eqI Qa a.2.2.2.1 <| eqG Qa (GB a.2.2.2.2) <| eqE Qa
theorem GC (l : (List Jk)) : ACalls Tryz.prog 38 [.h l, .h l] (.b true) := eqS Qa Yz Tryz.func38 true (fun a => .call 62 [Hp a, Hp a] (.b true)) (fun _ _ a => I8 (MS a)) l
theorem GD (a : Ao) : ACalls Tryz.prog 21 [Hp a, Hp a] (.b true) := eqA Qa Tryz.func21 a fun _ _ _ => eqG Qa (AY a.1) <| eqG Qa (GC a.2.1) <| eqI Qa a.2.2 <| eqE Qa
theorem MT (a : Qw) : ACalls Tryz.prog 87 [Hp a, Hp a] (.b true) := eqA Qa Tryz.func87 a fun _ _ _ => eqI Qa a.1 <| eqI Qa a.2.1 <| eqI Qa a.2.2.1 <| eqT Qa a.2.2.2.1 <| eqG Qa (JF a.2.2.2.2) <| eqE Qa
theorem GE (l : (List Qw)) : ACalls Tryz.prog 63 [.h l, .h l] (.b true) := eqS Qa Yz Tryz.func63 true (fun a => .call 87 [Hp a, Hp a] (.b true)) (fun _ _ a => I8 (MT a)) l
theorem SO (a : Z9) : ACalls Tryz.prog 39 [Hp a, Hp a] (.b true) := eqA Qa Tryz.func39 a fun _ _ _ => eqT Qa a.1 <| eqG Qa (GE a.2) <| eqE Qa
theorem MU (l : (List Z9)) : ACalls Tryz.prog 22 [.h l, .h l] (.b true) := eqS Qa Yz Tryz.func22 true (fun a => .call 39 [Hp a, Hp a] (.b true)) (fun _ _ a => I8 (SO a)) l
theorem JG (a : Qp) : ACalls Tryz.prog 11 [Hp a, Hp a] (.b true) := eqA Qa Tryz.func11 a fun _ _ _ => eqG Qa (GD a.1) <| eqG Qa (MU a.2) <| eqE Qa
theorem JH {a b : Qp} (h : a = b) : ACalls Tryz.prog 11 [Hp a, Hp b] (PO true) := h ▸ JG a
def Ug (aD : U4) (aX : Qp) (aKeep : Int) : Bool := (bif decide ((szI (GoD.size aD) 1048576) < (0 : Int)) then true else (bif decide ((szI (GoD.size aX) (szI (GoD.size aD) 1048576)) < (0 : Int)) then true else true))
theorem Dn (aD : U4) (aX : Qp) (aKeep : Int) : ACalls Tryz.prog 3 [.a [.s aD.1, .s aD.2], .a [.h aX.1.1, .h aX.1.2.1, .i aX.1.2.2, .h aX.2], .i aKeep] (.b (Ug aD aX aKeep)) := by
 refine en Qa Tryz.func3 fun w0 F0 hG => ?_
 refine sn Qa [2, 3, 4, 6] [3, 4] (p0) ?_
 refine tn Qa [2, 3, 4, 6, 7] [3, 4] (p0) ?_
 have hz1 := OF (GoD.size aD) 1048576
 refine tu Qa [(3, .p 3 0), (4, .p 4 0), (6, .b false), (7, .i (szI (GoD.size aD) 1048576))] [0, 1] [(3, [.s aD.1, .s aD.2]), (4, [.h aX.1.1, .h aX.1.2.1, .i aX.1.2.2, .h aX.2])] [] (pc 2 (MI aD 1048576 (by omega) (by omega)) p0) ?_
 refine Qc ?_
 refine sn Qa [2, 3, 4, 6, 7, 17] [3, 4] (p0) ?_
 refine ck (decide ((szI (GoD.size aD) 1048576) < (0 : Int))) (fun h2 => ?_) (fun h2 => ?_)
 ·
  refine tn Qa [2, 3, 4, 6, 7] [3, 4] (p0) ?_
  refine Qe ?_
  exact pb [] (Xh h2 (rfl))
 have h2d := of_decide_eq_false h2
 refine Qf ?_
 have hz3 := OF (GoD.size aX) (szI (GoD.size aD) 1048576)
 refine tn Qa [2, 3, 4, 6, 7] [3, 4] (pc 2 (ZY aX (szI (GoD.size aD) 1048576) (by omega) (by omega)) p0) ?_
 refine Qc ?_
 refine tu Qa [(22, .b (decide ((szI (GoD.size aX) (szI (GoD.size aD) 1048576)) < (0 : Int))))] [7] [] [] (p0) ?_
 refine ck (decide ((szI (GoD.size aX) (szI (GoD.size aD) 1048576)) < (0 : Int))) (fun h4 => ?_) (fun h4 => ?_)
 ·
  refine sn Qa [2, 3, 4, 6] [3, 4] (p0) ?_
  refine Qe ?_
  exact pb [] (Qj h2 (Xh h4 (rfl)))
 have h4d := of_decide_eq_false h4
 refine Qf ?_
 have hsz_aD : GoD.size aD ≤ 1048576 := by omega
 have hsz_aX : GoD.size aX ≤ 1048576 := by omega
 refine sN Qa Yz [2, 3, 4, 6, 8, 9] [3, 4, 8] (pc 1 (HD aD hsz_aD) (pc 3 (Ej aX hsz_aX) (pc 5 ((ZW aD aX aKeep) ▸ (P0 aD aX aKeep (Nat.le_trans (NJ hsz_aD) (by decide)) (Nat.le_trans (NK hsz_aD) (by decide)))) p0))) ?_
 refine tn Qa [2, 3, 4, 6, 8, 9, 10] [3, 4, 8, 10] (pc 1 (Ej aX hsz_aX) p0) ?_
 refine tU Qa Yz [(8, .p 8 0), (9, .b (((Yy aD aX aKeep)).2)), (10, .p 10 0), (11, .p 11 0), (12, .b (((Yy aD aX aKeep)).2))] [2, 3, 22] [(8, [.s ((((Yy aD aX aKeep)).1).1), .s ((((Yy aD aX aKeep)).1).2)]), (10, [.o 2112 aX.1.1, .o 2113 aX.1.2.1, .i aX.1.2.2, .o 2114 aX.2]), (11, [.s ((((Yy aD aX aKeep)).1).1), .s ((((Yy aD aX aKeep)).1).2)])] [3] (pc 1 (HD aD hsz_aD) (pc 4 (Pz aD aX aKeep (Nat.le_trans (NJ hsz_aD) (by decide)) (Nat.le_trans (NK hsz_aD) (by decide))) p0)) ?_
 refine Qc ?_
 refine sn Qa [4, 6, 10, 50] [4, 10] (pc 2 (MQ (a := ((Yy aD aX aKeep)).1) (b := ((Yy aD aX aKeep)).1) (rfl)) (pe 3 (show .b (!true) = .b false from rfl) (pe 7 (show .b (!((((Yy aD aX aKeep)).2) == (((Yy aD aX aKeep)).2))) = .b false from Q1 (by simp)) p0))) ?_
 refine ckF ?_
 refine Qf ?_
 refine Qc ?_
 refine tN Qa Yz [6, 55] [] (pc 2 (Ej aX hsz_aX) (pc 3 (JH (a := aX) (b := aX) (rfl)) (pe 4 (show .b (!true) = .b false from rfl) p0))) ?_
 refine ckF ?_
 refine Qf ?_
 refine tu Qa [(6, .b true)] [4, 6, 8, 9, 10, 11, 12] [] [4, 8, 10, 11] (p0) ?_
 refine Qe ?_
 exact pb [] (Qj h2 (Qj h4 (rfl)))
open GoD (rd own)
set_option maxRecDepth 100000 in
set_option maxHeartbeats 1000000 in
theorem JI (w : World) (c0 : List Value) (a0 : U4) (h0 : rd w c0 a0) (c1 : List Value) (a1 : Qp) (h1 : rd w c1 a1) (a2 : Int) (h2 : I64 a2) (hbig : ¬ (GoD.size a0 + GoD.size a1 ≤ 1048576)) : Calls Tryz.prog 3 #[.agg c0.toArray, .agg c1.toArray, .int .i64 a2] w (Ret w (.bool true)) := by
  obtain rfl := AI h0
  have HA0 := Lib.hid h0; clear h0
  obtain ⟨p1_oa1, p1_cp1, p1_oa2, p1_cp2, p1_oa3, p1_cp3, rfl⟩ := Rc h1
  have HA1 := Lib.hid h1; clear h1
  have HA2 := Lib.hid h2; clear h2
  have tok1 : True := trivial
  have tok2 : True := trivial
  go_enter Tryz.func3, Tryz.ntmps3
  go_wp2_with (first | (go_at_call 4; have tk := tok1; clear tok1; refine Uq (w := w) (HC _ [.string a0.1, .string a0.2] a0 _ (Kw HA0.out (by repeat (first | (with_reducible exact Below.refl _ _) | (with_reducible refine Below.alloc ?_ (by go_size) _) | (with_reducible refine Below.drew ?_)))) (by omega) (by omega)) (by repeat (first | (with_reducible exact Below.refl _ _) | (with_reducible refine Below.alloc ?_ (by go_size) _) | (with_reducible refine Below.drew ?_))) ?_; intro w1 r1 hB1 hb hz1 _ hr hs1; have HR1 := Lib.hid hr; clear hr; have hz2 := hb.size; (repeat (first | rewrite [World.size_alloc] at hz2 | rewrite [World.size_setCell] at hz2 | rewrite [World.size_drew] at hz2)); have c1_0 := fun o => Mn hb (w.heap.size) o (by go_size); have c1_1 := fun o => Mn hb (w.heap.size + 1) o (by go_size); have l1_0 : w.heap.size < w1.heap.size := (by go_size); have l1_1 : w.heap.size + 1 < w1.heap.size := (by go_size); have HB1 := Lib.hid hb; clear hb) | (go_at_call 5; have tk := tok2; clear tok2; refine Uq (w := w) (Mm _ [.slice p1_oa1 a1.1.1.length p1_cp1, .slice p1_oa2 a1.1.2.1.length p1_cp2, .int .i64 a1.1.2.2, .slice p1_oa3 a1.2.length p1_cp3] a1 _ (Kw HA1.out (by repeat (first | (with_reducible exact Below.refl _ _) | (with_reducible refine Sf ?_ HB1.out (by go_size)) | (with_reducible refine Below.alloc ?_ (by go_size) _) | (with_reducible refine Below.drew ?_)))) (by omega) (by omega)) (by repeat (first | (with_reducible exact Below.refl _ _) | (with_reducible refine Sf ?_ HB1.out (by go_size)) | (with_reducible refine Below.alloc ?_ (by go_size) _) | (with_reducible refine Below.drew ?_))) ?_; intro w2 r2 hB2 hb hz2 _ hr hs2; have HR2 := Lib.hid hr; clear hr; have hz2 := hb.size; (repeat (first | rewrite [World.size_alloc] at hz2 | rewrite [World.size_setCell] at hz2 | rewrite [World.size_drew] at hz2)); have c2_0 := fun o => Mn hb (w.heap.size) o (by go_size); have c2_1 := fun o => Mn hb (w.heap.size + 1) o (by go_size); have l2_0 : w.heap.size < w2.heap.size := (by go_size); have l2_1 : w.heap.size + 1 < w2.heap.size := (by go_size); have HB2 := Lib.hid hb; clear hb) | (exfalso; have q1 := HR1.out; have q2 := HR2.out; apply hbig; unfold szq at *; omega))
  all_goals
    go_ret
    refine ⟨rfl, ?_⟩
    first | (with_reducible assumption) | go_grown
theorem B8 (a0 : U4) (a1 : Qp) (a2 : Int) : Ug a0 a1 a2 = true := by
  unfold Ug
  simp
theorem JJ (w : World) (c0 : List Value) (a0 : U4) (h0 : rd w c0 a0) (c1 : List Value) (a1 : Qp) (h1 : rd w c1 a1) (a2 : Int) (h2 : I64 a2) (hG : Good Tryz.prog w) : Calls Tryz.prog 3 #[.agg c0.toArray, .agg c1.toArray, .int .i64 a2] w (Ret w (.bool true)) := by
  by_cases hbig : GoD.size a0 + GoD.size a1 ≤ 1048576
  · haveI : Good Tryz.prog w := hG
    have h := (Dn a0 a1 a2).run (.cons (CO h0 (GoE.wide_size (show GoD.size a0 ≤ 1073741824 by omega))) (.cons (CO h1 (GoE.wide_size (show GoD.size a1 ≤ 1073741824 by omega))) (.cons (PP h2) .nil)))
    rw [B8] at h
    exact h.mono fun _ _ h => IP h
  exact JI w c0 a0 h0 c1 a1 h1 a2 h2 hbig
end Go.Proofs.YtbemokhfcmepjaaGreatDoor
