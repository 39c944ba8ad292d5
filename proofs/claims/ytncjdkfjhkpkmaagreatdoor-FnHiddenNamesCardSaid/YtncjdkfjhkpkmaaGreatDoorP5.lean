/- Texts of this proof, put together by a program: Sth, Std, Ste, Isa, Isb, Ckc, Slb, Ev, Ex, Ey, Eva, Evb, Eua, Eub, Enp, In. -/
import Derived.Test.YtncjdkfjhkpkmaaGreatDoorP4
import Derived.KernelRfl
import Derived.Test.YtncjdkfjhkpkmaaGreatDoorProg
import Derived.Outline
set_option linter.unusedVariables false
set_option linter.unusedSimpArgs false
namespace Go.Proofs.YtncjdkfjhkpkmaaGreatDoor
open Go.RowKit
def edgesOfN (d : List DirD) (w : Int) : List ByteArray → Edges
  | [] => []
  | s :: r => if 0 ≤ impldirAt d s then (Int.toNat (impldirAt d s), w) :: edgesOfN d w r else edgesOfN d w r
theorem edgesOfN_ok (d : List DirD) (w : Int) : ∀ (l : List ByteArray) (e : Nat × Int), e ∈ edgesOfN d w l → e.2 = w ∧ e.1 < d.length
  | [], e, h => by simp [edgesOfN] at h
  | s :: r, e, h => by
    simp only [edgesOfN] at h
    split at h
    · rename_i h0
      rcases List.mem_cons.1 h with rfl | h
      · have := (place_lt d s).2
        exact ⟨rfl, by show Int.toNat _ < _; omega⟩
      · exact edgesOfN_ok d w r e h
    · exact edgesOfN_ok d w r e h
def edgesD (d : List DirD) (i : Nat) : Edges := if i < d.length then edgesOfN d 0 (implPositiveDeps (nth d i).2) ++ edgesOfN d 1 (implNegativeDeps (nth d i).2) else []
theorem edgesD_ok (d : List DirD) (i : Nat) (e : Nat × Int) (h : e ∈ edgesD d i) : e.2 ≤ 1 ∧ e.1 < d.length ∧ i < d.length := by
  unfold edgesD at h
  split at h
  · rename_i hi
    rcases List.mem_append.1 h with h | h <;> (have := edgesOfN_ok d _ _ e h; omega)
  · simp at h
theorem need_app (E1 E2 : Edges) (L : List Int) : need (E1 ++ E2) L = max (need E1 L) (need E2 L) := by
  have h1 : need (E1 ++ E2) L ≤ max (need E1 L) (need E2 L) := need_le.2 ⟨by have := need_nonneg E1 L; omega, fun e he => by
    rcases List.mem_append.1 he with he | he
    · have := (need_le.1 (Int.le_refl (need E1 L))).2 e he; omega
    · have := (need_le.1 (Int.le_refl (need E2 L))).2 e he; omega⟩
  have h2 := need_le.1 (Int.le_refl (need (E1 ++ E2) L))
  have h3 : need E1 L ≤ need (E1 ++ E2) L := need_le.2 ⟨h2.1, fun e he => h2.2 e (List.mem_append_left _ he)⟩
  have h4 : need E2 L ≤ need (E1 ++ E2) L := need_le.2 ⟨h2.1, fun e he => h2.2 e (List.mem_append_right _ he)⟩
  omega
theorem above_loop (d : List DirD) (L : List Int) (w : Int) (hw : 0 ≤ w ∧ w ≤ 1) (hL : ∀ j, 0 ≤ nth L j ∧ nth L j ≤ 1000000) : ∀ (l : List ByteArray) (k : Nat) (m : Int), forL (implstrataAbove_f0 d L w) implstrataAbove_e0 l k m = .brk ((edgesOfN d w l).foldl (fun m e => max m (nth L e.1 + e.2)) m)
  | [], k, m => rfl
  | s :: r, k, m => by
    simp only [forL, implstrataAbove_f0, edgesOfN]
    have hwr : ∀ j, IntKind.i64.wrap (nth L j + w) = nth L j + w := fun j => IntWalk.i64_in _ (by have := hL j; omega)
    by_cases h : 0 ≤ impldirAt d s
    · have h' : decide (impldirAt d s ≥ (0 : Int)) = true := decide_eq_true h
      rw [h', cond_true, if_pos h, hwr]
      exact above_loop d L w hw hL r (k + 1) _
    · have h' : decide (impldirAt d s ≥ (0 : Int)) = false := decide_eq_false h
      rw [h', cond_false, if_neg h]
      exact above_loop d L w hw hL r (k + 1) _
theorem above_eq {d : List DirD} {L : List Int} {w : Int} (hw : 0 ≤ w ∧ w ≤ 1) (hL : ∀ j, 0 ≤ nth L j ∧ nth L j ≤ 1000000) (l : List ByteArray) : implstrataAbove d L l w = need (edgesOfN d w l) L := by
  unfold implstrataAbove
  rw [above_loop d L w hw hL]
  rfl
theorem least_eq {d : List DirD} {L : List Int} (hL : ∀ j, 0 ≤ nth L j ∧ nth L j ≤ 1000000) {i : Nat} (hi : i < d.length) : max (implstrataAbove d L (implPositiveDeps (nth d i).2) 0) (implstrataAbove d L (implNegativeDeps (nth d i).2) 1) = need (edgesD d i) L := by
  rw [above_eq (by omega) hL, above_eq (by omega) hL]
  unfold edgesD
  rw [if_pos hi, need_app]
abbrev leastD (d : List DirD) (a : DirD) (L : List Int) : Int := max (implstrataAbove d L (implPositiveDeps a.2) 0) (implstrataAbove d L (implNegativeDeps a.2) 1)
abbrev StepD := Nat → DirD → List Int × Bool → Rd (Rd (List Int × Bool) (List Int × Bool) (List Int)) (List Int × Bool) (List Int × Bool)
def StepOk (d : List DirD) (f : StepD) : Prop := ∀ k a s, f k a s = bif decide (leastD d a s.1 > (d.length : Int)) then .ret (.ret ([], false)) else (bif decide (leastD d a s.1 > nth s.1 k) then .next (List.set s.1 k (leastD d a s.1), true) else .next (s.1, s.2))
theorem climb_round {d : List DirD} {f : StepD} {e : Nat → List Int × Bool → List Int × Bool} (hf : StepOk d f) (he : ∀ k s, e k s = s) (hd : d.length ≤ 1000000) :
    ∀ (l : List DirD) (k : Nat) (L : List Int) (c : Bool), d.drop k = l → L.length = d.length → (∀ j, 0 ≤ nth L j ∧ nth L j ≤ (d.length : Int)) →
      forL f e l k (L, c) = (match crounds (edgesD d) d.length (List.range' k l.length) (c, L) with
        | none => .ret (.ret ([], false))
        | some s => .brk (s.2, s.1))
  | [], k, L, c, _, _, _ => by simp [forL, crounds, he]
  | a :: l, k, L, c, hl, hlen, hL => by
    have hk : d[k]? = some a := by
      have := congrArg (·[0]?) hl
      simpa using this
    have hkl : k < d.length := (List.getElem?_eq_some_iff.1 hk).1
    have ha : nth d k = a := nth_of hk
    have hrest : d.drop (k + 1) = l := by rw [← List.drop_drop, hl]; rfl
    have hb : ∀ j, 0 ≤ nth L j ∧ nth L j ≤ 1000000 := fun j => by have := hL j; omega
    have hM : leastD d a L = need (edgesD d k) L := by rw [← ha]; exact least_eq hb hkl
    simp only [forL, hf k a (L, c), List.length_cons, List.range'_succ, crounds, hM]
    by_cases h1 : (d.length : Int) < need (edgesD d k) L
    · rw [decide_eq_true (show need (edgesD d k) L > (d.length : Int) from h1), cond_true, if_pos h1]
    · rw [decide_eq_false (show ¬ need (edgesD d k) L > (d.length : Int) from h1), cond_false, if_neg h1]
      by_cases h2 : nth L k < need (edgesD d k) L
      · rw [decide_eq_true (show need (edgesD d k) L > nth L k from h2), cond_true, if_pos h2]
        refine climb_round hf he hd l (k + 1) _ true hrest (by rw [List.length_set]; exact hlen) fun j => ?_
        have h0 := need_nonneg (edgesD d k) L
        rw [nth_set _ _ (by omega)]
        split
        · omega
        · exact hL j
      · rw [decide_eq_false (show ¬ need (edgesD d k) L > nth L k from h2), cond_false, if_neg h2]
        exact climb_round hf he hd l (k + 1) L c hrest hlen hL
def endD : Option (List Int) → Out (List Int × Bool) (List Int)
  | none => .ret ([], false)
  | some L => .brk L
def LoopOk (d : List DirD) (f : StepD) (e : Nat → List Int × Bool → List Int × Bool) (F : List Int × Bool → Rd (List Int × Bool) (List Int × Bool) (List Int)) : Prop := ∀ s, F s = bif s.2 then (Out.on (forL f e d 0 (s.1, false)) fun y1 => .next (y1.1, y1.2)) else .brk s.1
theorem whl_climb {d : List DirD} {f : StepD} {e : Nat → List Int × Bool → List Int × Bool} {F : List Int × Bool → Rd (List Int × Bool) (List Int × Bool) (List Int)} (hf : StepOk d f) (he : ∀ k s, e k s = s) (hF : LoopOk d f e F) (hd : d.length ≤ 1000000) :
    ∀ (n : Nat) (L : List Int) (c : Bool), L.length = d.length → (∀ j, 0 ≤ nth L j ∧ nth L j ≤ (d.length : Int)) → whl F n (L, c) = (climb (edgesD d) d.length d.length n (c, L)).map endD
  | 0, L, c, _, _ => rfl
  | n + 1, L, false, _, _ => by
    simp only [whl, hF (L, false), cond_false, climb]
    rfl
  | n + 1, L, true, hlen, hL => by
    have hr := climb_round hf he hd d 0 L false rfl hlen hL
    have e1 : List.range' 0 d.length = List.range d.length := (List.range_eq_range' ..).symm
    rw [e1] at hr
    simp only [whl, hF (L, true), cond_true, hr, climb]
    cases hc : crounds (edgesD d) d.length (List.range d.length) (false, L) with
    | none => rfl
    | some s =>
      obtain ⟨h1, _, _, h4⟩ := crounds_some (List.range d.length) false L s (fun i hi => by rw [hlen]; exact range_lt hi) hc
      have := whl_climb hf he hF hd n s.2 s.1 (by rw [h1, rounds_len, hlen]) fun j => ⟨by rw [h1]; exact Int.le_trans (hL j).1 (rounds_ge (edgesD d) j _ L), h4 (fun j => (hL j).2) j⟩
      exact this
theorem zeroL_ok (n : Nat) : (List.replicate n (0 : Int)).length = n ∧ ∀ j, 0 ≤ nth (List.replicate n (0 : Int)) j ∧ nth (List.replicate n (0 : Int)) j ≤ (n : Int) :=
  ⟨by simp, fun j => by rw [nth_zero]; omega⟩
theorem strata_some {d : List DirD} {f : StepD} {e : Nat → List Int × Bool → List Int × Bool} {F : List Int × Bool → Rd (List Int × Bool) (List Int × Bool) (List Int)} (hf : StepOk d f) (he : ∀ k s, e k s = s) (hF : LoopOk d f e F) (hd : d.length ≤ 1000000) :
    (whl F (List.length d * List.length d + 3) (List.replicate (Int.toNat (d.length : Int)) (0 : Int), true)).isSome = true := by
  rw [Int.toNat_natCast, whl_climb hf he hF hd _ _ _ (zeroL_ok _).1 (zeroL_ok _).2, Option.isSome_map]
  refine climb_some _ _ _ (zeroL_ok _).1 (fun j => ((zeroL_ok _).2 j).2) ?_
  have : ((List.length d * List.length d + 3 : Nat) : Int) = (d.length : Int) * (d.length : Int) + 3 := by rw [Int.natCast_add, Int.natCast_mul]; rfl
  have h0 : (List.replicate d.length (0 : Int)).sum = 0 := by simp
  rw [this, h0]
  omega
open GoE (enc wide)
def implStrata_f1 (d : (List DirD)) (k1 : Nat) (a1 : DirD) (s1 : (List Int) × Bool) : Rd (Rd ((List Int) × Bool) ((List Int) × Bool) ((List Int))) ((List Int) × Bool) ((List Int) × Bool) := (bif decide ((max (implstrataAbove d s1.1 (implPositiveDeps a1.2) 0) (implstrataAbove d s1.1 (implNegativeDeps a1.2) 1)) > (d.length : Int)) then (.ret (.ret ([], false))) else (bif decide ((max (implstrataAbove d s1.1 (implPositiveDeps a1.2) 0) (implstrataAbove d s1.1 (implNegativeDeps a1.2) 1)) > (nth s1.1 k1)) then (.next (List.set s1.1 k1 (max (implstrataAbove d s1.1 (implPositiveDeps a1.2) 0) (implstrataAbove d s1.1 (implNegativeDeps a1.2) 1)), true)) else (.next (s1.1, s1.2))))
def implStrata_e1 (_ : Nat) (s1 : (List Int) × Bool) : (List Int) × Bool := (s1.1, s1.2)
def implStrata_f0 (d : (List DirD)) (s0 : (List Int) × Bool) : Rd ((List Int) × Bool) ((List Int) × Bool) ((List Int)) := (bif s0.2 then (Out.on (forL (implStrata_f1 d) implStrata_e1 d 0 (s0.1, false)) (fun y1 => (.next (y1.1, y1.2)))) else (.brk s0.1))
def implStrata (d : (List DirD)) : (List Int) × Bool := (bif (!(implIsValidDirs d)) then ([], false) else (Out.on (whlD (implStrata_f0 d) (List.length d * List.length d + 3) ((List.replicate (Int.toNat (d.length : Int)) (0 : Int)), true)) (fun y0 => (y0, true))))
theorem implStrata_w (d : List DirD) (hd : d.length ≤ 5) : (whl (implStrata_f0 d) (List.length d * List.length d + 3) (List.replicate (Int.toNat (d.length : Int)) (0 : Int), true)).isSome = true := strata_some (f := implStrata_f1 d) (e := implStrata_e1) (fun _ _ _ => rfl) (fun _ _ => rfl) (fun _ => rfl) (by omega)
theorem implStrata_a (d : (List DirD)) : ACalls Tryz.prog 54 [.h d] (.tup [(false, [.o 0 (((implStrata d)).1)]), (false, [.b (((implStrata d)).2)])]) := by
  refine acalls_of (tt := tt) tt_ok Tryz.func54 (fn := Tryz.f54) rfl (by unfold FnOk; kernel_rfl) (Nat.le_of_ble_eq_true rfl) fun w0 F0 hG => ?_
  refine awp_seq ?_
  refine rk tt_ok [(2, .e 0), (3, .b false)] [] [] [] [] (o0) ?_
  refine awp_seq ?_
  refine awp_seq ?_
  refine rk tt_ok [(11, .b (!(implIsValidDirs d)))] [] [] [] [(1, .val (.b (implIsValidDirs d)))] (o1 (ob_call (implIsValidDirs_a d))) ?_
  refine ck (!(implIsValidDirs d)) (fun h1 => ?_) (fun h1 => ?_)
  ·
    have h1n : (implIsValidDirs d) = false := bnot_t h1
    refine awp_seq ?_
    refine rk tt_ok [] [11] [] [] [] (o0) ?_
    refine opn [(false, 2, 0, true, 384000, 1)] ?_
    refine awp_ret ?_
    exact pret [] (congrArg (fun z => (.tup [(false, [.o 0 z.1]), (false, [.b z.2])] : AV)) (show implStrata d = ([], false) from bif_t h1 (rfl)).symm)
  ·
    have h1n : (implIsValidDirs d) = true := bnot_f h1
    refine awp_skip ?_
    refine awp_seq ?_
    refine wdT 0 0 .sh d (fun hw2 => ?_)
    have hl3 : List.length d ≤ 1073741824 := wide_len (hw2)
    refine rk tt_ok [(4, .one (.slc (.own true 896) 1 (List.replicate (Int.toNat (d.length : Int)) [.i 0])))] [11] [] [] [(1, .val (.i (d.length : Int)))] (o2 (ob_eq (av_len d)) (o1 (ob_rng (lo := 0) (hi := (d.length : Int)) (n := 1073741824) (⟨by omega, by omega, by omega⟩)))) ?_
    refine eqn [(4, .o 896 (List.replicate (Int.toNat (d.length : Int)) (0 : Int)))] [4] [] [] (by rw [show (List.replicate (Int.toNat (d.length : Int)) [.i 0]) = (eL (List.replicate (Int.toNat (d.length : Int)) (0 : Int))) from mk_eL _ (0 : Int)]; first | done | kernel_rfl) ?_
    refine awp_seq ?_
    refine awp_seq ?_
    refine rk tt_ok [(5, .b true)] [] [] [] [] (o0) ?_
    refine blw (fun (s0 : (List Int) × Bool) => [(4, .o 896 s0.1), (5, .b s0.2)]) [4, 5] (fun s0 => []) [] (fun (y0 : (List Int)) => [(4, .o 896 y0)]) [0, 4, 5] (fun y0 => []) [] (fun (k0 : Nat) (s0 : (List Int) × Bool) => whl (implStrata_f0 d) k0 s0 = some (whlD (implStrata_f0 d) (List.length d * List.length d + 3) ((List.replicate (Int.toNat (d.length : Int)) (0 : Int)), true)) ∧ List.length s0.1 = List.length d) (fun (y0 : (List Int)) => (whlD (implStrata_f0 d) (List.length d * List.length d + 3) ((List.replicate (Int.toNat (d.length : Int)) (0 : Int)), true)) = .brk y0) (List.length d * List.length d + 3) ((List.replicate (Int.toNat (d.length : Int)) (0 : Int)), true) (weak_fit (by kernel_rfl)) ⟨whl_some (implStrata_w d (vdirs_len (h1n))), (by simp)⟩ (fun _ h => whl_zero h.1) (fun k0 s0 hI0 => ?_) (fun y0 hD0 => ?_)
    ·
      have hA0_0 := hI0.2
      refine awp_seq ?_
      refine awp_seq ?_
      refine rk tt_ok [(15, .b s0.2)] [] [] [] [] (o0) ?_
      refine ck s0.2 (fun h4 => ?_) (fun h4 => ?_)
      ·
        refine awp_skip ?_
        refine awp_block ?_
        refine awp_seq ?_
        refine rk tt_ok [(5, .b false)] [5, 15] [] [] [] (o0) ?_
        refine awp_seq ?_
        refine rk tt_ok [(16, .h d), (17, .i (d.length : Int)), (18, .i 0)] [] [] [] [(1, .val (.i (d.length : Int)))] (o1 (ob_eq (av_len d))) ?_
        refine blk (fun (k1 : Nat) (s1 : (List Int) × Bool) => [(4, .o 896 s1.1), (5, .b s1.2), (18, .i ((k1 : Nat) : Int))]) [4, 5, 18] (fun k1 s1 => []) [] (fun (y1 : (List Int) × Bool) => [(4, .o 896 y1.1), (5, .b y1.2)]) [4, 5, 16, 17, 18] (fun y1 => []) [] (fun (k1 : Nat) (s1 : (List Int) × Bool) => (forL (implStrata_f1 d) implStrata_e1 d 0 (s0.1, false)) = forL (implStrata_f1 d) implStrata_e1 (List.drop k1 d) k1 s1 ∧ List.length s1.1 = List.length s0.1) (fun (y1 : (List Int) × Bool) => (forL (implStrata_f1 d) implStrata_e1 d 0 (s0.1, false)) = .brk y1 ∧ List.length y1.1 = List.length s0.1) d.length (s0.1, false) (weak_fit (by kernel_rfl)) ⟨rfl, (by simp)⟩ (fun k1 s1 hk1 hI1 => ?_) (fun k1 s1 hk1 hI1 => ?_) (fun y1 hD1 => ?_)
        ·
          have hA1_0 := hI1.2
          obtain ⟨a1, hx1⟩ := get_some (l := d) (i := k1) hk1
          refine awp_seq ?_
          refine rk tt_ok [(19, .b true)] [] [] [] [(0, .val (.b true))] (o1 (ob_eq (av_bool (decide_eq_true (p := ((k1 : Nat) : Int) < (d.length : Int)) (by omega))))) ?_
          refine awp_seq ?_
          refine ckT ?_
          refine awp_skip ?_
          refine awp_seq ?_
          refine awp_block ?_
          refine awp_seq ?_
          refine rk tt_ok [(6, .i ((k1 : Nat) : Int)), (7, .p 7 0)] [19] [(7, [.s a1.1, .h a1.2])] [] [(1, .row [.s a1.1, .h a1.2])] (o1 (ob_elem (el_of (i := ((k1 : Nat) : Int)) (by omega) rfl hx1))) ?_
          refine awp_seq ?_
          refine rd' tt_ok tt_mx [(8, .i (max (implstrataAbove d s1.1 (implPositiveDeps a1.2) 0) (implstrataAbove d s1.1 (implNegativeDeps a1.2) 1)))] [7] [] [7] [(4, .val (.h (implPositiveDeps a1.2))), (5, .val (.i (implstrataAbove d s1.1 (implPositiveDeps a1.2) 0))), (10, .val (.h (implNegativeDeps a1.2))), (11, .val (.i (implstrataAbove d s1.1 (implNegativeDeps a1.2) 1)))] (o2 (ob_call (implPositiveDeps_a a1.2)) (o2 (ob_call (implstrataAbove_a d s1.1 (implPositiveDeps a1.2) 0 (by omega))) (o2 (ob_call (implNegativeDeps_a a1.2)) (o1 (ob_call (implstrataAbove_a d s1.1 (implNegativeDeps a1.2) 1 (by omega))))))) ?_
          refine awp_seq ?_
          refine awp_seq ?_
          refine rk tt_ok [(39, .b (decide ((max (implstrataAbove d s1.1 (implPositiveDeps a1.2) 0) (implstrataAbove d s1.1 (implNegativeDeps a1.2) 1)) > (d.length : Int))))] [] [] [] [(2, .val (.i (d.length : Int)))] (o1 (ob_eq (av_len d))) ?_
          refine ck (decide ((max (implstrataAbove d s1.1 (implPositiveDeps a1.2) 0) (implstrataAbove d s1.1 (implNegativeDeps a1.2) 1)) > (d.length : Int))) (fun h5 => ?_) (fun h5 => ?_)
          ·
            have h5d := of_decide_eq_true h5
            refine awp_seq ?_
            refine rk tt_ok [] [39] [] [] [] (o0) ?_
            refine opn [(false, 2, 0, true, 384000, 1)] ?_
            refine awp_ret ?_
            have hr6 : (forL (implStrata_f1 d) implStrata_e1 d 0 (s0.1, false)) = .ret (.ret ([], false)) := forL_ret hx1 (bif_t h5 (rfl)) hI1.1
            have hr7 : (whlD (implStrata_f0 d) (List.length d * List.length d + 3) ((List.replicate (Int.toNat (d.length : Int)) (0 : Int)), true)) = .ret ([], false) := whl_ret (bif_t h4 (on_r hr6)) hI0.1
            exact pret [] (congrArg (fun z => (.tup [(false, [.o 0 z.1]), (false, [.b z.2])] : AV)) (show implStrata d = ([], false) from bif_f h1 (on_r hr7)).symm)
          ·
            have h5d := of_decide_eq_false h5
            refine awp_skip ?_
            refine awp_seq ?_
            refine wdT 4 0 (.own true 896) s1.1 (fun hw9 => ?_)
            have hl10 : List.length s1.1 ≤ 1073741824 := wide_len (hw9)
            have hx8 : s1.1[k1]? = some (nth s1.1 k1) := nth_get (by omega)
            refine rk tt_ok [(45, .b (decide ((max (implstrataAbove d s1.1 (implPositiveDeps a1.2) 0) (implstrataAbove d s1.1 (implNegativeDeps a1.2) 1)) > (nth s1.1 k1))))] [39] [] [] [(3, .rowE [.i (nth s1.1 k1)])] (o1 (ob_elem (el_of (i := ((k1 : Nat) : Int)) (by omega) rfl hx8))) ?_
            refine ck (decide ((max (implstrataAbove d s1.1 (implPositiveDeps a1.2) 0) (implstrataAbove d s1.1 (implNegativeDeps a1.2) 1)) > (nth s1.1 k1))) (fun h11 => ?_) (fun h11 => ?_)
            ·
              have h11d := of_decide_eq_true h11
              refine awp_seq ?_
              refine rk tt_ok [(4, .one (.slc (.own true 896) 1 (setRow (eL s1.1) k1 0 [.i (max (implstrataAbove d s1.1 (implPositiveDeps a1.2) 0) (implstrataAbove d s1.1 (implNegativeDeps a1.2) 1))])))] [4, 6, 8, 45] [] [] [(3, .rowE [.i (nth s1.1 k1)])] (o1 (ob_elem (el_of (i := ((k1 : Nat) : Int)) (by omega) rfl hx8))) ?_
              refine eqn [(4, .o 896 (List.set s1.1 k1 (max (implstrataAbove d s1.1 (implPositiveDeps a1.2) 0) (implstrataAbove d s1.1 (implNegativeDeps a1.2) 1))))] [4] [] [] (by rw [setRow_eL (y := (max (implstrataAbove d s1.1 (implPositiveDeps a1.2) 0) (implstrataAbove d s1.1 (implNegativeDeps a1.2) 1))) hx8 rfl]; first | done | kernel_rfl) ?_
              refine rk tt_ok [(5, .b true)] [5] [] [] [] (o0) ?_
              refine rk tt_ok [(18, .i ((k1 + 1 : Nat) : Int))] [18] [] [] [(0, .val (.i ((k1 + 1 : Nat) : Int)))] (o1 (ob_eq (av_i (wrap_succ k1 (by omega))))) ?_
              exact Exists.intro (List.set s1.1 k1 (max (implstrataAbove d s1.1 (implPositiveDeps a1.2) 0) (implstrataAbove d s1.1 (implNegativeDeps a1.2) 1)), true) (And.intro (weak_fit (by kernel_rfl)) ⟨forL_next hx1 (bif_f h5 (bif_t h11 (rfl))) hI1.1, (by first | omega | (simp only [List.length_set]; omega))⟩)
            ·
              have h11d := of_decide_eq_false h11
              refine awp_skip ?_
              refine rk tt_ok [(18, .i ((k1 + 1 : Nat) : Int))] [6, 8, 18, 45] [] [] [(0, .val (.i ((k1 + 1 : Nat) : Int)))] (o1 (ob_eq (av_i (wrap_succ k1 (by omega))))) ?_
              exact Exists.intro (s1.1, s1.2) (And.intro (weak_fit (by kernel_rfl)) ⟨forL_next hx1 (bif_f h5 (bif_f h11 (rfl))) hI1.1, (by first | omega | (simp only [List.length_set]; omega))⟩)
        ·
          have hA1_0 := hI1.2
          refine awp_seq ?_
          refine rk tt_ok [(19, .b false)] [] [] [] [(0, .val (.b false))] (o1 (ob_eq (av_bool (decide_eq_false (p := ((k1 : Nat) : Int) < (d.length : Int)) (by omega))))) ?_
          refine awp_seq ?_
          refine ckF ?_
          refine awp_exit ?_
          exact Exists.intro (s1.1, s1.2) (And.intro (weak_fit (by kernel_rfl)) ⟨forL_end hk1 (rfl) hI1.1, by first | omega | (simp only [List.length_set]; omega)⟩)
        ·
          have hD1_0 := hD1.2
          exact Exists.intro (y1.1, y1.2) (And.intro (weak_fit (by kernel_rfl)) ⟨whl_next (bif_t h4 (on_b hD1.1 (rfl))) hI0.1, (by first | omega | (simp only [List.length_set]; omega))⟩)
      ·
        refine awp_exit ?_
        exact Exists.intro s0.1 (And.intro (weak_fit (by kernel_rfl)) (whl_brk (bif_f h4 (rfl)) hI0.1))
    ·
      refine awp_seq ?_
      refine rk tt_ok [(2, .o 896 y0), (3, .b true)] [2, 3, 4] [] [] [] (o0) ?_
      refine awp_ret ?_
      exact pret [] (congrArg (fun z => (.tup [(false, [.o 0 z.1]), (false, [.b z.2])] : AV)) (show implStrata d = (y0, true) from bif_f h1 (on_b hD0 (rfl))).symm)
end Go.Proofs.YtncjdkfjhkpkmaaGreatDoor
namespace Go.Proofs.YtncjdkfjhkpkmaaGreatDoor
open Go.RowKit
def Low (b : Int) (L : List Int) : Prop := ∀ j, 0 ≤ nth L j ∧ nth L j ≤ b
theorem bump_low {b w : Int} {i : Nat} {L : List Int} {p : Nat} (hi : i < L.length) (hw : 0 ≤ w ∧ w ≤ 1) (h : Low b L) : Low (b + w) (bump i L (p, w)) := fun j => by
  rw [bump_nth _ hi]
  have h1 := h j
  have h2 := h p
  have h3 := h i
  split
  · show 0 ≤ max (nth L i) (nth L p + w) ∧ max (nth L i) (nth L p + w) ≤ b + w; omega
  · omega
theorem deps_grow (q : List NodeD) (b : Bool) : ∀ (l : List Bool) (k : Nat) (s : List ByteArray), ∃ t, forL (impldepsBelow_f0 q b) impldepsBelow_e0 l k s = .brk t ∧ t.length ≤ s.length + l.length
  | [], k, s => ⟨s, rfl, by simp⟩
  | a :: l, k, s => by
    simp only [forL, impldepsBelow_f0]
    cases (implnamesDir (nth q k) && (a == b)) with
    | true =>
      obtain ⟨t, h1, h2⟩ := deps_grow q b l (k + 1) (s ++ [(nth q k).2.2.2.1])
      exact ⟨t, h1, by simp at h2 ⊢; omega⟩
    | false =>
      obtain ⟨t, h1, h2⟩ := deps_grow q b l (k + 1) s
      exact ⟨t, h1, by simp at h2 ⊢; omega⟩
theorem negated9 (q : List NodeD) : List.length (implNegatedNodes q) ≤ 9 := by
  cases hv : implIsValidQuery q with
  | true => have := negated_len q; have := (vq_len hv).2; omega
  | false => unfold implNegatedNodes; rw [hv]; simp
theorem deps9 (q : List NodeD) (b : Bool) : List.length (impldepsBelow q b) ≤ 9 := by
  unfold impldepsBelow
  obtain ⟨t, h1, h2⟩ := deps_grow q b (implNegatedNodes q) 0 []
  rw [h1]
  have h3 := negated9 q
  have h4 := compS_len (sortS t)
  rw [sortS_len] at h4
  show (compS (sortS t)).length ≤ 9
  simp at h2
  omega
theorem bumps_app (i : Nat) (E1 E2 : Edges) (L : List Int) : bumps i (E1 ++ E2) L = bumps i E2 (bumps i E1 L) := List.foldl_append
open GoE (enc wide)
def implFieldKind_f0 (name : ByteArray) (_ : Nat) (a0 : FieldD) (_ : Unit) : Rd (Int) (Unit) (Unit) := (bif (a0.1.toList == name.toList) then (.ret a0.2) else (.next ()))
def implFieldKind_e0 (_ : Nat) (_ : Unit) : Unit := ()
def implFieldKind (s_ : (List FieldD)) (name : ByteArray) : Int := (Out.on (forL (implFieldKind_f0 name) implFieldKind_e0 s_ 0 ()) (fun _ => 0))
theorem implFieldKind_a (s_ : (List FieldD)) (name : ByteArray) : ACalls Tryz.prog 66 [.h s_, .s name] (.i (implFieldKind s_ name)) := by
  refine acalls_of (tt := tt) tt_ok Tryz.func66 (fn := Tryz.f66) rfl (by unfold FnOk; kernel_rfl) (Nat.le_of_ble_eq_true rfl) fun w0 F0 hG => ?_
  refine awp_seq ?_
  refine rk tt_ok [(4, .i 0)] [] [] [] [] (o0) ?_
  refine awp_seq ?_
  refine awp_seq ?_
  refine rk tt_ok [(7, .h s_), (8, .i (s_.length : Int)), (9, .i 0)] [0] [] [] [(1, .val (.i (s_.length : Int)))] (o1 (ob_eq (av_len s_))) ?_
  refine wdT 7 0 .sh s_ (fun hw1 => ?_)
  have hl2 : List.length s_ ≤ 1073741824 := wide_len (hw1)
  refine blk (fun (k0 : Nat) (s0 : Unit) => [(9, .i ((k0 : Nat) : Int))]) [9] (fun k0 s0 => []) [] (fun (y0 : Unit) => []) [1, 7, 8, 9] (fun y0 => []) [] (fun (k0 : Nat) (s0 : Unit) => (forL (implFieldKind_f0 name) implFieldKind_e0 s_ 0 ()) = forL (implFieldKind_f0 name) implFieldKind_e0 (List.drop k0 s_) k0 s0) (fun (y0 : Unit) => (forL (implFieldKind_f0 name) implFieldKind_e0 s_ 0 ()) = .brk y0) s_.length () (weak_fit (by kernel_rfl)) rfl (fun k0 s0 hk0 hI0 => ?_) (fun k0 s0 hk0 hI0 => ?_) (fun y0 hD0 => ?_)
  ·
    obtain ⟨a0, hx0⟩ := get_some (l := s_) (i := k0) hk0
    refine awp_seq ?_
    refine rk tt_ok [(10, .b true)] [] [] [] [(0, .val (.b true))] (o1 (ob_eq (av_bool (decide_eq_true (p := ((k0 : Nat) : Int) < (s_.length : Int)) (by omega))))) ?_
    refine awp_seq ?_
    refine ckT ?_
    refine awp_skip ?_
    refine awp_seq ?_
    refine awp_block ?_
    refine awp_seq ?_
    refine rk tt_ok [(6, .p 6 0)] [10] [(6, [.s a0.1, .i a0.2])] [] [(0, .row [.s a0.1, .i a0.2])] (o1 (ob_elem (el_of (i := ((k0 : Nat) : Int)) (by omega) rfl hx0))) ?_
    refine awp_seq ?_
    refine rk tt_ok [(16, .b (a0.1.toList == name.toList))] [] [] [] [] (o0) ?_
    refine ck (a0.1.toList == name.toList) (fun h3 => ?_) (fun h3 => ?_)
    ·
      refine awp_seq ?_
      refine rk tt_ok [(4, .i a0.2)] [4, 6, 16] [] [6] [] (o0) ?_
      refine awp_ret ?_
      have hr4 : (forL (implFieldKind_f0 name) implFieldKind_e0 s_ 0 ()) = .ret a0.2 := forL_ret hx0 (bif_t h3 (rfl)) hI0
      exact pret [] (congrArg (fun z => (.i z : AV)) (show implFieldKind s_ name = a0.2 from on_r hr4).symm)
    ·
      refine awp_skip ?_
      refine rk tt_ok [(9, .i ((k0 + 1 : Nat) : Int))] [6, 9, 16] [] [6] [(0, .val (.i ((k0 + 1 : Nat) : Int)))] (o1 (ob_eq (av_i (wrap_succ k0 (by omega))))) ?_
      exact Exists.intro () (And.intro (weak_fit (by kernel_rfl)) (forL_next hx0 (bif_f h3 (rfl)) hI0))
  ·
    refine awp_seq ?_
    refine rk tt_ok [(10, .b false)] [] [] [] [(0, .val (.b false))] (o1 (ob_eq (av_bool (decide_eq_false (p := ((k0 : Nat) : Int) < (s_.length : Int)) (by omega))))) ?_
    refine awp_seq ?_
    refine ckF ?_
    refine awp_exit ?_
    exact Exists.intro () (And.intro (weak_fit (by kernel_rfl)) (forL_end hk0 (rfl) hI0))
  ·
    refine awp_seq ?_
    refine rk tt_ok [] [] [] [] [] (o0) ?_
    refine awp_ret ?_
    exact pret [] (congrArg (fun z => (.i z : AV)) (show implFieldKind s_ name = 0 from on_b hD0 (rfl)).symm)
def implMatchesSchema (s_ : (List FieldD)) (name : ByteArray) (v : ValueD) : Bool := ((implIsValidValue v) && ((v.1 != (0 : Int)) && (v.1 == (implFieldKind s_ name))))
theorem implMatchesSchema_a (s_ : (List FieldD)) (name : ByteArray) (v : ValueD) : ACalls Tryz.prog 52 [.h s_, .s name, .a [.i v.1, .i v.2.1, .s v.2.2]] (.b (implMatchesSchema s_ name v)) := by
  refine acalls_of (tt := tt) tt_ok Tryz.func52 (fn := Tryz.f52) rfl (by unfold FnOk; kernel_rfl) (Nat.le_of_ble_eq_true rfl) fun w0 F0 hG => ?_
  refine awp_seq ?_
  refine rk tt_ok [(5, .p 5 0), (6, .b false)] [2] [(5, [.i v.1, .i v.2.1, .s v.2.2])] [] [] (o0) ?_
  refine awp_seq ?_
  refine jn [(6, .b ((implIsValidValue v) && ((v.1 != (0 : Int)) && (v.1 == (implFieldKind s_ name)))))] [0, 1, 5, 6] [] [5] (implIsValidValue v) (fun h1 => ?_) (fun h1 => ?_) ?_
  ·
    refine awp_split (v.1 != (0 : Int)) (fun h2 => ?_) (fun h2 => ?_)
    ·
      have h2d := ne_of_bne h2
      refine rd' tt_ok tt_mx [(6, .b (v.1 == (implFieldKind s_ name)))] [0, 1, 5, 6] [] [5] [(1, .val (.b true)), (5, .val (.b true)), (12, .val (.i (implFieldKind s_ name)))] (o2 (ob_call (cb h1 (implIsValidValue_a v))) (o2 (ob_eq (av_bool h2)) (o1 (ob_call (implFieldKind_a s_ name))))) ?_
      exact ⟨rfl, weak_fit (by rw [h1, h2]; first | done | kernel_rfl)⟩
    ·
      have h2d := eq_of_bne h2
      refine rd' tt_ok tt_mx [] [0, 1, 5] [] [5] [(1, .val (.b true)), (5, .val (.b false))] (o2 (ob_call (cb h1 (implIsValidValue_a v))) (o1 (ob_eq (av_bool h2)))) ?_
      exact ⟨rfl, weak_fit (by rw [h1, h2]; first | done | kernel_rfl)⟩
  ·
    refine rd' tt_ok tt_mx [] [0, 1, 5] [] [5] [(1, .val (.b false))] (o1 (ob_call (cb h1 (implIsValidValue_a v)))) ?_
    exact ⟨rfl, weak_fit (by rw [h1]; first | done | kernel_rfl)⟩
  refine awp_ret ?_
  exact pret [] (congrArg (fun z => (.b z : AV)) (show implMatchesSchema s_ name v = ((implIsValidValue v) && ((v.1 != (0 : Int)) && (v.1 == (implFieldKind s_ name)))) from rfl).symm)
def implisUser (n : Int) : Bool := (implwithin n 0 2)
theorem implisUser_a (n : Int) : ACalls Tryz.prog 29 [.i n] (.b (implisUser n)) := by
  refine acalls_of (tt := tt) tt_ok Tryz.func29 (fn := Tryz.f29) rfl (by unfold FnOk; kernel_rfl) (Nat.le_of_ble_eq_true rfl) fun w0 F0 hG => ?_
  refine awp_seq ?_
  refine rk tt_ok [(2, .b false)] [] [] [] [] (o0) ?_
  refine awp_seq ?_
  refine rk tt_ok [(2, .b (implwithin n 0 2))] [0, 2] [] [] [(1, .val (.b (implwithin n 0 2)))] (o1 (ob_call (implwithin_a n 0 2))) ?_
  refine awp_ret ?_
  exact pret [] (congrArg (fun z => (.b z : AV)) (show implisUser n = (implwithin n 0 2) from rfl).symm)
def implIsValidSchema_f0 (s_ : (List FieldD)) (k0 : Nat) (a0 : FieldD) (_ : Unit) : Rd (Bool) (Unit) (Unit) := (bif ((!(implIsValidAttrName a0.1)) || (bif (a0.2 != (1 : Int)) then ((a0.2 != (2 : Int)) || (decide (((k0 : Nat) : Int) > (0 : Int)) && (!(Op.bytesLess ((nth s_ (Int.toNat (((k0 : Nat) : Int) - 1))).1).toList a0.1.toList)))) else (decide (((k0 : Nat) : Int) > (0 : Int)) && (!(Op.bytesLess ((nth s_ (Int.toNat (((k0 : Nat) : Int) - 1))).1).toList a0.1.toList))))) then (.ret false) else (.next ()))
def implIsValidSchema_e0 (_ : Nat) (_ : Unit) : Unit := ()
def implIsValidSchema (s_ : (List FieldD)) : Bool := (Out.on (forL (implIsValidSchema_f0 s_) implIsValidSchema_e0 s_ 0 ()) (fun _ => decide ((s_.length : Int) ≤ (5 : Int))))
theorem implIsValidSchema_a (s_ : (List FieldD)) : ACalls Tryz.prog 38 [.h s_] (.b (implIsValidSchema s_)) := by
  refine acalls_of (tt := tt) tt_ok Tryz.func38 (fn := Tryz.f38) rfl (by unfold FnOk; kernel_rfl) (Nat.le_of_ble_eq_true rfl) fun w0 F0 hG => ?_
  refine awp_seq ?_
  refine rk tt_ok [(2, .b false)] [] [] [] [] (o0) ?_
  refine awp_seq ?_
  refine awp_seq ?_
  refine rk tt_ok [(5, .h s_), (6, .i (s_.length : Int)), (7, .i 0)] [] [] [] [(1, .val (.i (s_.length : Int)))] (o1 (ob_eq (av_len s_))) ?_
  refine wdT 0 0 .sh s_ (fun hw1 => ?_)
  have hl2 : List.length s_ ≤ 1073741824 := wide_len (hw1)
  refine blk (fun (k0 : Nat) (s0 : Unit) => [(7, .i ((k0 : Nat) : Int))]) [7] (fun k0 s0 => []) [] (fun (y0 : Unit) => []) [5, 6, 7] (fun y0 => []) [] (fun (k0 : Nat) (s0 : Unit) => (forL (implIsValidSchema_f0 s_) implIsValidSchema_e0 s_ 0 ()) = forL (implIsValidSchema_f0 s_) implIsValidSchema_e0 (List.drop k0 s_) k0 s0) (fun (y0 : Unit) => (forL (implIsValidSchema_f0 s_) implIsValidSchema_e0 s_ 0 ()) = .brk y0) s_.length () (weak_fit (by kernel_rfl)) rfl (fun k0 s0 hk0 hI0 => ?_) (fun k0 s0 hk0 hI0 => ?_) (fun y0 hD0 => ?_)
  ·
    obtain ⟨a0, hx0⟩ := get_some (l := s_) (i := k0) hk0
    refine awp_seq ?_
    refine rk tt_ok [(8, .b true)] [] [] [] [(0, .val (.b true))] (o1 (ob_eq (av_bool (decide_eq_true (p := ((k0 : Nat) : Int) < (s_.length : Int)) (by omega))))) ?_
    refine awp_seq ?_
    refine ckT ?_
    refine awp_skip ?_
    refine awp_seq ?_
    refine awp_block ?_
    refine awp_seq ?_
    refine rk tt_ok [(3, .i ((k0 : Nat) : Int)), (4, .p 4 0)] [8] [(4, [.s a0.1, .i a0.2])] [] [(1, .row [.s a0.1, .i a0.2])] (o1 (ob_elem (el_of (i := ((k0 : Nat) : Int)) (by omega) rfl hx0))) ?_
    refine awp_seq ?_
    refine jn [(40, .b ((!(implIsValidAttrName a0.1)) || (bif (a0.2 != (1 : Int)) then ((a0.2 != (2 : Int)) || (decide (((k0 : Nat) : Int) > (0 : Int)) && (!(Op.bytesLess ((nth s_ (Int.toNat (((k0 : Nat) : Int) - 1))).1).toList a0.1.toList)))) else (decide (((k0 : Nat) : Int) > (0 : Int)) && (!(Op.bytesLess ((nth s_ (Int.toNat (((k0 : Nat) : Int) - 1))).1).toList a0.1.toList))))))] [3, 4] [] [4] (!(implIsValidAttrName a0.1)) (fun h3 => ?_) (fun h3 => ?_) ?_
    ·
      have h3n : (implIsValidAttrName a0.1) = false := bnot_t h3
      refine rd' tt_ok tt_mx [(40, .b true)] [3, 4] [] [4] [(2, .val (.b false)), (3, .val (.b true))] (o2 (ob_call (cb h3n (implIsValidAttrName_a a0.1))) (o1 (ob_eq (show .b (!false) = .b true from rfl)))) ?_
      exact ⟨rfl, weak_fit (by rw [h3]; first | done | kernel_rfl)⟩
    ·
      have h3n : (implIsValidAttrName a0.1) = true := bnot_f h3
      refine awp_split (a0.2 != (1 : Int)) (fun h4 => ?_) (fun h4 => ?_)
      ·
        have h4d := ne_of_bne h4
        refine awp_split (a0.2 != (2 : Int)) (fun h5 => ?_) (fun h5 => ?_)
        ·
          have h5d := ne_of_bne h5
          refine rd' tt_ok tt_mx [(40, .b true)] [3, 4] [] [4] [(2, .val (.b true)), (3, .val (.b false)), (7, .val (.b true)), (11, .val (.b true))] (o2 (ob_call (cb h3n (implIsValidAttrName_a a0.1))) (o2 (ob_eq (show .b (!true) = .b false from rfl)) (o2 (ob_eq (av_bool h4)) (o1 (ob_eq (av_bool h5)))))) ?_
          exact ⟨rfl, weak_fit (by rw [h3, h4, h5]; first | done | kernel_rfl)⟩
        ·
          have h5d := eq_of_bne h5
          refine awp_split (decide (((k0 : Nat) : Int) > (0 : Int))) (fun h6 => ?_) (fun h6 => ?_)
          ·
            have h6d := of_decide_eq_true h6
            have hx7 : s_[(Int.toNat (((k0 : Nat) : Int) - 1))]? = some (nth s_ (Int.toNat (((k0 : Nat) : Int) - 1))) := nth_get (by omega)
            refine rd' tt_ok tt_mx [(40, .b (!(Op.bytesLess ((nth s_ (Int.toNat (((k0 : Nat) : Int) - 1))).1).toList a0.1.toList)))] [3, 4] [] [4] [(2, .val (.b true)), (3, .val (.b false)), (7, .val (.b true)), (11, .val (.b false)), (16, .val (.b true)), (20, .val (.i (((k0 : Nat) : Int) - 1))), (21, .row [.s ((nth s_ (Int.toNat (((k0 : Nat) : Int) - 1))).1), .i ((nth s_ (Int.toNat (((k0 : Nat) : Int) - 1))).2)])] (o2 (ob_call (cb h3n (implIsValidAttrName_a a0.1))) (o2 (ob_eq (show .b (!true) = .b false from rfl)) (o2 (ob_eq (av_bool h4)) (o2 (ob_eq (av_bool h5)) (o2 (ob_eq (av_bool h6)) (o2 (ob_eq (av_i (IntWalk.i64_in (((k0 : Nat) : Int) - 1) (by omega)))) (o1 (ob_elem (el_of (i := (((k0 : Nat) : Int) - 1)) (by omega) rfl hx7))))))))) ?_
            exact ⟨rfl, weak_fit (by rw [h3, h4, h5, h6]; first | done | kernel_rfl)⟩
          ·
            have h6d := of_decide_eq_false h6
            refine rd' tt_ok tt_mx [(40, .b false)] [3, 4] [] [4] [(2, .val (.b true)), (3, .val (.b false)), (7, .val (.b true)), (11, .val (.b false)), (16, .val (.b false))] (o2 (ob_call (cb h3n (implIsValidAttrName_a a0.1))) (o2 (ob_eq (show .b (!true) = .b false from rfl)) (o2 (ob_eq (av_bool h4)) (o2 (ob_eq (av_bool h5)) (o1 (ob_eq (av_bool h6))))))) ?_
            exact ⟨rfl, weak_fit (by rw [h3, h4, h5, h6]; first | done | kernel_rfl)⟩
      ·
        have h4d := eq_of_bne h4
        refine awp_split (decide (((k0 : Nat) : Int) > (0 : Int))) (fun h8 => ?_) (fun h8 => ?_)
        ·
          have h8d := of_decide_eq_true h8
          have hx9 : s_[(Int.toNat (((k0 : Nat) : Int) - 1))]? = some (nth s_ (Int.toNat (((k0 : Nat) : Int) - 1))) := nth_get (by omega)
          refine rd' tt_ok tt_mx [(40, .b (!(Op.bytesLess ((nth s_ (Int.toNat (((k0 : Nat) : Int) - 1))).1).toList a0.1.toList)))] [3, 4] [] [4] [(2, .val (.b true)), (3, .val (.b false)), (7, .val (.b false)), (16, .val (.b true)), (20, .val (.i (((k0 : Nat) : Int) - 1))), (21, .row [.s ((nth s_ (Int.toNat (((k0 : Nat) : Int) - 1))).1), .i ((nth s_ (Int.toNat (((k0 : Nat) : Int) - 1))).2)])] (o2 (ob_call (cb h3n (implIsValidAttrName_a a0.1))) (o2 (ob_eq (show .b (!true) = .b false from rfl)) (o2 (ob_eq (av_bool h4)) (o2 (ob_eq (av_bool h8)) (o2 (ob_eq (av_i (IntWalk.i64_in (((k0 : Nat) : Int) - 1) (by omega)))) (o1 (ob_elem (el_of (i := (((k0 : Nat) : Int) - 1)) (by omega) rfl hx9)))))))) ?_
          exact ⟨rfl, weak_fit (by rw [h3, h4, h8]; first | done | kernel_rfl)⟩
        ·
          have h8d := of_decide_eq_false h8
          refine rd' tt_ok tt_mx [(40, .b false)] [3, 4] [] [4] [(2, .val (.b true)), (3, .val (.b false)), (7, .val (.b false)), (16, .val (.b false))] (o2 (ob_call (cb h3n (implIsValidAttrName_a a0.1))) (o2 (ob_eq (show .b (!true) = .b false from rfl)) (o2 (ob_eq (av_bool h4)) (o1 (ob_eq (av_bool h8)))))) ?_
          exact ⟨rfl, weak_fit (by rw [h3, h4, h8]; first | done | kernel_rfl)⟩
    refine ck ((!(implIsValidAttrName a0.1)) || (bif (a0.2 != (1 : Int)) then ((a0.2 != (2 : Int)) || (decide (((k0 : Nat) : Int) > (0 : Int)) && (!(Op.bytesLess ((nth s_ (Int.toNat (((k0 : Nat) : Int) - 1))).1).toList a0.1.toList)))) else (decide (((k0 : Nat) : Int) > (0 : Int)) && (!(Op.bytesLess ((nth s_ (Int.toNat (((k0 : Nat) : Int) - 1))).1).toList a0.1.toList))))) (fun h10 => ?_) (fun h10 => ?_)
    ·
      refine awp_seq ?_
      refine rk tt_ok [] [40] [] [] [] (o0) ?_
      refine awp_ret ?_
      have hr11 : (forL (implIsValidSchema_f0 s_) implIsValidSchema_e0 s_ 0 ()) = .ret false := forL_ret hx0 (bif_t h10 (rfl)) hI0
      exact pret [] (congrArg (fun z => (.b z : AV)) (show implIsValidSchema s_ = false from on_r hr11).symm)
    ·
      have h10l : ((!(implIsValidAttrName a0.1))) = false := or_l h10
      have h10ln : (implIsValidAttrName a0.1) = true := bnot_f h10l
      have h10r : ((bif (a0.2 != (1 : Int)) then ((a0.2 != (2 : Int)) || (decide (((k0 : Nat) : Int) > (0 : Int)) && (!(Op.bytesLess ((nth s_ (Int.toNat (((k0 : Nat) : Int) - 1))).1).toList a0.1.toList)))) else (decide (((k0 : Nat) : Int) > (0 : Int)) && (!(Op.bytesLess ((nth s_ (Int.toNat (((k0 : Nat) : Int) - 1))).1).toList a0.1.toList))))) = false := or_r h10
      refine awp_skip ?_
      refine rk tt_ok [(7, .i ((k0 + 1 : Nat) : Int))] [7, 40] [] [] [(0, .val (.i ((k0 + 1 : Nat) : Int)))] (o1 (ob_eq (av_i (wrap_succ k0 (by omega))))) ?_
      exact Exists.intro () (And.intro (weak_fit (by kernel_rfl)) (forL_next hx0 (bif_f h10 (rfl)) hI0))
  ·
    refine awp_seq ?_
    refine rk tt_ok [(8, .b false)] [] [] [] [(0, .val (.b false))] (o1 (ob_eq (av_bool (decide_eq_false (p := ((k0 : Nat) : Int) < (s_.length : Int)) (by omega))))) ?_
    refine awp_seq ?_
    refine ckF ?_
    refine awp_exit ?_
    exact Exists.intro () (And.intro (weak_fit (by kernel_rfl)) (forL_end hk0 (rfl) hI0))
  ·
    refine awp_seq ?_
    refine rk tt_ok [(2, .b (decide ((s_.length : Int) ≤ (5 : Int))))] [0, 2] [] [] [(1, .val (.i (s_.length : Int)))] (o1 (ob_eq (av_len s_))) ?_
    refine awp_ret ?_
    exact pret [] (congrArg (fun z => (.b z : AV)) (show implIsValidSchema s_ = decide ((s_.length : Int) ≤ (5 : Int)) from on_b hD0 (rfl)).symm)
def implIsValidFile_f0 (s_ : (List FieldD)) (f : FileD) (k0 : Nat) (a0 : AttrD) (_ : Unit) : Rd (Bool) (Unit) (Unit) := (bif (bif decide (((k0 : Nat) : Int) > (0 : Int)) then ((!(Op.bytesLess ((nth f.2.2.2.2 (Int.toNat (((k0 : Nat) : Int) - 1))).1).toList a0.1.toList)) || (!(implMatchesSchema s_ a0.1 a0.2))) else (!(implMatchesSchema s_ a0.1 a0.2))) then (.ret false) else (.next ()))
def implIsValidFile_e0 (_ : Nat) (_ : Unit) : Unit := ()
def implIsValidFile (s_ : (List FieldD)) (f : FileD) : Bool := (Out.on (forL (implIsValidFile_f0 s_ f) implIsValidFile_e0 f.2.2.2.2 0 ()) (fun _ => ((implwithin f.1 1 60) && ((implisUser f.2.1) && ((implwithin f.2.2.2.1 0 60) && (implIsValidSchema s_))))))
theorem implIsValidFile_a (s_ : (List FieldD)) (f : FileD) : ACalls Tryz.prog 37 [.h s_, .a [.i f.1, .i f.2.1, .b f.2.2.1, .i f.2.2.2.1, .h f.2.2.2.2]] (.b (implIsValidFile s_ f)) := by
  refine acalls_of (tt := tt) tt_ok Tryz.func37 (fn := Tryz.f37) rfl (by unfold FnOk; kernel_rfl) (Nat.le_of_ble_eq_true rfl) fun w0 F0 hG => ?_
  refine awp_seq ?_
  refine rk tt_ok [(3, .p 3 0), (4, .b false)] [1] [(3, [.i f.1, .i f.2.1, .b f.2.2.1, .i f.2.2.2.1, .h f.2.2.2.2])] [] [] (o0) ?_
  refine awp_seq ?_
  refine awp_seq ?_
  refine rk tt_ok [(8, .h f.2.2.2.2), (9, .i (f.2.2.2.2.length : Int)), (10, .i 0)] [] [] [] [(2, .val (.i (f.2.2.2.2.length : Int)))] (o1 (ob_eq (av_len f.2.2.2.2))) ?_
  refine wdT 8 0 .sh f.2.2.2.2 (fun hw1 => ?_)
  have hl2 : List.length f.2.2.2.2 ≤ 1073741824 := wide_len (hw1)
  refine blk (fun (k0 : Nat) (s0 : Unit) => [(10, .i ((k0 : Nat) : Int))]) [10] (fun k0 s0 => []) [] (fun (y0 : Unit) => []) [8, 9, 10] (fun y0 => []) [] (fun (k0 : Nat) (s0 : Unit) => (forL (implIsValidFile_f0 s_ f) implIsValidFile_e0 f.2.2.2.2 0 ()) = forL (implIsValidFile_f0 s_ f) implIsValidFile_e0 (List.drop k0 f.2.2.2.2) k0 s0) (fun (y0 : Unit) => (forL (implIsValidFile_f0 s_ f) implIsValidFile_e0 f.2.2.2.2 0 ()) = .brk y0) f.2.2.2.2.length () (weak_fit (by kernel_rfl)) rfl (fun k0 s0 hk0 hI0 => ?_) (fun k0 s0 hk0 hI0 => ?_) (fun y0 hD0 => ?_)
  ·
    obtain ⟨a0, hx0⟩ := get_some (l := f.2.2.2.2) (i := k0) hk0
    refine awp_seq ?_
    refine rk tt_ok [(11, .b true)] [] [] [] [(0, .val (.b true))] (o1 (ob_eq (av_bool (decide_eq_true (p := ((k0 : Nat) : Int) < (f.2.2.2.2.length : Int)) (by omega))))) ?_
    refine awp_seq ?_
    refine ckT ?_
    refine awp_skip ?_
    refine awp_seq ?_
    refine awp_block ?_
    refine awp_seq ?_
    refine rk tt_ok [(5, .i ((k0 : Nat) : Int)), (6, .p 6 0)] [11] [(6, [.s a0.1, .i a0.2.1, .i a0.2.2.1, .s a0.2.2.2])] [] [(1, .row [.s a0.1, .i a0.2.1, .i a0.2.2.1, .s a0.2.2.2])] (o1 (ob_elem (el_of (i := ((k0 : Nat) : Int)) (by omega) rfl hx0))) ?_
    refine awp_seq ?_
    refine jn [(37, .b (bif decide (((k0 : Nat) : Int) > (0 : Int)) then ((!(Op.bytesLess ((nth f.2.2.2.2 (Int.toNat (((k0 : Nat) : Int) - 1))).1).toList a0.1.toList)) || (!(implMatchesSchema s_ a0.1 a0.2))) else (!(implMatchesSchema s_ a0.1 a0.2))))] [5, 6] [] [6] (decide (((k0 : Nat) : Int) > (0 : Int))) (fun h3 => ?_) (fun h3 => ?_) ?_
    ·
      have h3d := of_decide_eq_true h3
      refine awp_split (!(Op.bytesLess ((nth f.2.2.2.2 (Int.toNat (((k0 : Nat) : Int) - 1))).1).toList a0.1.toList)) (fun h4 => ?_) (fun h4 => ?_)
      ·
        have h4n : (Op.bytesLess ((nth f.2.2.2.2 (Int.toNat (((k0 : Nat) : Int) - 1))).1).toList a0.1.toList) = false := bnot_t h4
        have hx5 : f.2.2.2.2[(Int.toNat (((k0 : Nat) : Int) - 1))]? = some (nth f.2.2.2.2 (Int.toNat (((k0 : Nat) : Int) - 1))) := nth_get (by omega)
        refine rd' tt_ok tt_mx [(37, .b true)] [5, 6] [] [6] [(1, .val (.b true)), (6, .val (.i (((k0 : Nat) : Int) - 1))), (7, .row [.s ((nth f.2.2.2.2 (Int.toNat (((k0 : Nat) : Int) - 1))).1), .i ((nth f.2.2.2.2 (Int.toNat (((k0 : Nat) : Int) - 1))).2.1), .i ((nth f.2.2.2.2 (Int.toNat (((k0 : Nat) : Int) - 1))).2.2.1), .s ((nth f.2.2.2.2 (Int.toNat (((k0 : Nat) : Int) - 1))).2.2.2)]), (12, .val (.b true))] (o2 (ob_eq (av_bool h3)) (o2 (ob_eq (av_i (IntWalk.i64_in (((k0 : Nat) : Int) - 1) (by omega)))) (o2 (ob_elem (el_of (i := (((k0 : Nat) : Int) - 1)) (by omega) rfl hx5)) (o1 (ob_eq (av_bool h4)))))) ?_
        exact ⟨rfl, weak_fit (by rw [h3, h4]; first | done | kernel_rfl)⟩
      ·
        have h4n : (Op.bytesLess ((nth f.2.2.2.2 (Int.toNat (((k0 : Nat) : Int) - 1))).1).toList a0.1.toList) = true := bnot_f h4
        have hx6 : f.2.2.2.2[(Int.toNat (((k0 : Nat) : Int) - 1))]? = some (nth f.2.2.2.2 (Int.toNat (((k0 : Nat) : Int) - 1))) := nth_get (by omega)
        refine rd' tt_ok tt_mx [(37, .b (!(implMatchesSchema s_ a0.1 a0.2)))] [5, 6] [] [6] [(1, .val (.b true)), (6, .val (.i (((k0 : Nat) : Int) - 1))), (7, .row [.s ((nth f.2.2.2.2 (Int.toNat (((k0 : Nat) : Int) - 1))).1), .i ((nth f.2.2.2.2 (Int.toNat (((k0 : Nat) : Int) - 1))).2.1), .i ((nth f.2.2.2.2 (Int.toNat (((k0 : Nat) : Int) - 1))).2.2.1), .s ((nth f.2.2.2.2 (Int.toNat (((k0 : Nat) : Int) - 1))).2.2.2)]), (12, .val (.b false)), (20, .val (.b (implMatchesSchema s_ a0.1 a0.2)))] (o2 (ob_eq (av_bool h3)) (o2 (ob_eq (av_i (IntWalk.i64_in (((k0 : Nat) : Int) - 1) (by omega)))) (o2 (ob_elem (el_of (i := (((k0 : Nat) : Int) - 1)) (by omega) rfl hx6)) (o2 (ob_eq (av_bool h4)) (o1 (ob_call (implMatchesSchema_a s_ a0.1 a0.2))))))) ?_
        exact ⟨rfl, weak_fit (by rw [h3, h4]; first | done | kernel_rfl)⟩
    ·
      have h3d := of_decide_eq_false h3
      refine rd' tt_ok tt_mx [(37, .b (!(implMatchesSchema s_ a0.1 a0.2)))] [5, 6] [] [6] [(1, .val (.b false)), (20, .val (.b (implMatchesSchema s_ a0.1 a0.2)))] (o2 (ob_eq (av_bool h3)) (o1 (ob_call (implMatchesSchema_a s_ a0.1 a0.2)))) ?_
      exact ⟨rfl, weak_fit (by rw [h3]; first | done | kernel_rfl)⟩
    refine ck (bif decide (((k0 : Nat) : Int) > (0 : Int)) then ((!(Op.bytesLess ((nth f.2.2.2.2 (Int.toNat (((k0 : Nat) : Int) - 1))).1).toList a0.1.toList)) || (!(implMatchesSchema s_ a0.1 a0.2))) else (!(implMatchesSchema s_ a0.1 a0.2))) (fun h7 => ?_) (fun h7 => ?_)
    ·
      refine awp_seq ?_
      refine rk tt_ok [] [37] [] [] [] (o0) ?_
      refine awp_ret ?_
      have hr8 : (forL (implIsValidFile_f0 s_ f) implIsValidFile_e0 f.2.2.2.2 0 ()) = .ret false := forL_ret hx0 (bif_t h7 (rfl)) hI0
      exact pret [] (congrArg (fun z => (.b z : AV)) (show implIsValidFile s_ f = false from on_r hr8).symm)
    ·
      refine awp_skip ?_
      refine rk tt_ok [(10, .i ((k0 + 1 : Nat) : Int))] [10, 37] [] [] [(0, .val (.i ((k0 + 1 : Nat) : Int)))] (o1 (ob_eq (av_i (wrap_succ k0 (by omega))))) ?_
      exact Exists.intro () (And.intro (weak_fit (by kernel_rfl)) (forL_next hx0 (bif_f h7 (rfl)) hI0))
  ·
    refine awp_seq ?_
    refine rk tt_ok [(11, .b false)] [] [] [] [(0, .val (.b false))] (o1 (ob_eq (av_bool (decide_eq_false (p := ((k0 : Nat) : Int) < (f.2.2.2.2.length : Int)) (by omega))))) ?_
    refine awp_seq ?_
    refine ckF ?_
    refine awp_exit ?_
    exact Exists.intro () (And.intro (weak_fit (by kernel_rfl)) (forL_end hk0 (rfl) hI0))
  ·
    refine awp_seq ?_
    refine jn [(4, .b ((implwithin f.1 1 60) && ((implisUser f.2.1) && ((implwithin f.2.2.2.1 0 60) && (implIsValidSchema s_)))))] [0, 3, 4] [] [3] (implwithin f.1 1 60) (fun h9 => ?_) (fun h9 => ?_) ?_
    ·
      have h9w := within_iff.1 h9
      refine awp_split (implisUser f.2.1) (fun h10 => ?_) (fun h10 => ?_)
      ·
        refine awp_split (implwithin f.2.2.2.1 0 60) (fun h11 => ?_) (fun h11 => ?_)
        ·
          have h11w := within_iff.1 h11
          refine rk tt_ok [(4, .b (implIsValidSchema s_))] [0, 3, 4] [] [3] [(2, .val (.b true)), (6, .val (.b true)), (11, .val (.b true)), (15, .val (.b (implIsValidSchema s_)))] (o2 (ob_call (cb h9 (implwithin_a f.1 1 60))) (o2 (ob_call (cb h10 (implisUser_a f.2.1))) (o2 (ob_call (cb h11 (implwithin_a f.2.2.2.1 0 60))) (o1 (ob_call (implIsValidSchema_a s_)))))) ?_
          exact ⟨rfl, weak_fit (by rw [h9, h10, h11]; first | done | kernel_rfl)⟩
        ·
          refine rk tt_ok [] [0, 3] [] [3] [(2, .val (.b true)), (6, .val (.b true)), (11, .val (.b false))] (o2 (ob_call (cb h9 (implwithin_a f.1 1 60))) (o2 (ob_call (cb h10 (implisUser_a f.2.1))) (o1 (ob_call (cb h11 (implwithin_a f.2.2.2.1 0 60)))))) ?_
          exact ⟨rfl, weak_fit (by rw [h9, h10, h11]; first | done | kernel_rfl)⟩
      ·
        refine rk tt_ok [] [0, 3] [] [3] [(2, .val (.b true)), (6, .val (.b false))] (o2 (ob_call (cb h9 (implwithin_a f.1 1 60))) (o1 (ob_call (cb h10 (implisUser_a f.2.1))))) ?_
        exact ⟨rfl, weak_fit (by rw [h9, h10]; first | done | kernel_rfl)⟩
    ·
      refine rk tt_ok [] [0, 3] [] [3] [(2, .val (.b false))] (o1 (ob_call (cb h9 (implwithin_a f.1 1 60)))) ?_
      exact ⟨rfl, weak_fit (by rw [h9]; first | done | kernel_rfl)⟩
    refine awp_ret ?_
    exact pret [] (congrArg (fun z => (.b z : AV)) (show implIsValidFile s_ f = ((implwithin f.1 1 60) && ((implisUser f.2.1) && ((implwithin f.2.2.2.1 0 60) && (implIsValidSchema s_)))) from on_b hD0 (rfl)).symm)
def implIsValidStore_f0 (s_ : StoreD) (k0 : Nat) (a0 : FileD) (_ : Unit) : Rd (Bool) (Unit) (Unit) := (bif ((!(implIsValidFile s_.1 a0)) || (decide (a0.1 ≥ s_.2.2) || (decide (((k0 : Nat) : Int) > (0 : Int)) && decide ((nth s_.2.1 (Int.toNat (((k0 : Nat) : Int) - 1))).1 ≥ a0.1)))) then (.ret false) else (.next ()))
def implIsValidStore_e0 (_ : Nat) (_ : Unit) : Unit := ()
def implIsValidStore (s_ : StoreD) : Bool := (Out.on (forL (implIsValidStore_f0 s_) implIsValidStore_e0 s_.2.1 0 ()) (fun _ => ((implIsValidSchema s_.1) && (decide ((s_.2.1.length : Int) ≤ (12 : Int)) && (implwithin s_.2.2 1 61)))))
theorem implIsValidStore_a (s_ : StoreD) : ACalls Tryz.prog 28 [.a [.h s_.1, .h s_.2.1, .i s_.2.2]] (.b (implIsValidStore s_)) := by
  refine acalls_of (tt := tt) tt_ok Tryz.func28 (fn := Tryz.f28) rfl (by unfold FnOk; kernel_rfl) (Nat.le_of_ble_eq_true rfl) fun w0 F0 hG => ?_
  refine awp_seq ?_
  refine rk tt_ok [(1, .p 1 0), (2, .b false)] [0] [(1, [.h s_.1, .h s_.2.1, .i s_.2.2])] [] [] (o0) ?_
  refine awp_seq ?_
  refine awp_seq ?_
  refine rk tt_ok [(6, .h s_.2.1), (7, .i (s_.2.1.length : Int)), (8, .i 0)] [] [] [] [(2, .val (.i (s_.2.1.length : Int)))] (o1 (ob_eq (av_len s_.2.1))) ?_
  refine wdT 6 0 .sh s_.2.1 (fun hw1 => ?_)
  have hl2 : List.length s_.2.1 ≤ 1073741824 := wide_len (hw1)
  refine blk (fun (k0 : Nat) (s0 : Unit) => [(8, .i ((k0 : Nat) : Int))]) [8] (fun k0 s0 => []) [] (fun (y0 : Unit) => []) [6, 7, 8] (fun y0 => []) [] (fun (k0 : Nat) (s0 : Unit) => (forL (implIsValidStore_f0 s_) implIsValidStore_e0 s_.2.1 0 ()) = forL (implIsValidStore_f0 s_) implIsValidStore_e0 (List.drop k0 s_.2.1) k0 s0) (fun (y0 : Unit) => (forL (implIsValidStore_f0 s_) implIsValidStore_e0 s_.2.1 0 ()) = .brk y0) s_.2.1.length () (weak_fit (by kernel_rfl)) rfl (fun k0 s0 hk0 hI0 => ?_) (fun k0 s0 hk0 hI0 => ?_) (fun y0 hD0 => ?_)
  ·
    obtain ⟨a0, hx0⟩ := get_some (l := s_.2.1) (i := k0) hk0
    refine awp_seq ?_
    refine rk tt_ok [(9, .b true)] [] [] [] [(0, .val (.b true))] (o1 (ob_eq (av_bool (decide_eq_true (p := ((k0 : Nat) : Int) < (s_.2.1.length : Int)) (by omega))))) ?_
    refine awp_seq ?_
    refine ckT ?_
    refine awp_skip ?_
    refine awp_seq ?_
    refine awp_block ?_
    refine awp_seq ?_
    refine rk tt_ok [(3, .i ((k0 : Nat) : Int)), (4, .p 4 0)] [9] [(4, [.i a0.1, .i a0.2.1, .b a0.2.2.1, .i a0.2.2.2.1, .h a0.2.2.2.2])] [] [(1, .row [.i a0.1, .i a0.2.1, .b a0.2.2.1, .i a0.2.2.2.1, .h a0.2.2.2.2])] (o1 (ob_elem (el_of (i := ((k0 : Nat) : Int)) (by omega) rfl hx0))) ?_
    refine awp_seq ?_
    refine jn [(40, .b ((!(implIsValidFile s_.1 a0)) || (decide (a0.1 ≥ s_.2.2) || (decide (((k0 : Nat) : Int) > (0 : Int)) && decide ((nth s_.2.1 (Int.toNat (((k0 : Nat) : Int) - 1))).1 ≥ a0.1)))))] [3, 4] [] [4] (!(implIsValidFile s_.1 a0)) (fun h3 => ?_) (fun h3 => ?_) ?_
    ·
      have h3n : (implIsValidFile s_.1 a0) = false := bnot_t h3
      refine rd' tt_ok tt_mx [(40, .b true)] [3, 4] [] [4] [(3, .val (.b false)), (4, .val (.b true))] (o2 (ob_call (cb h3n (implIsValidFile_a s_.1 a0))) (o1 (ob_eq (show .b (!false) = .b true from rfl)))) ?_
      exact ⟨rfl, weak_fit (by rw [h3]; first | done | kernel_rfl)⟩
    ·
      have h3n : (implIsValidFile s_.1 a0) = true := bnot_f h3
      refine awp_split (decide (a0.1 ≥ s_.2.2)) (fun h4 => ?_) (fun h4 => ?_)
      ·
        have h4d := of_decide_eq_true h4
        refine rd' tt_ok tt_mx [(40, .b true)] [3, 4] [] [4] [(3, .val (.b true)), (4, .val (.b false)), (10, .val (.b true))] (o2 (ob_call (cb h3n (implIsValidFile_a s_.1 a0))) (o2 (ob_eq (show .b (!true) = .b false from rfl)) (o1 (ob_eq (av_bool h4))))) ?_
        exact ⟨rfl, weak_fit (by rw [h3, h4]; first | done | kernel_rfl)⟩
      ·
        have h4d := of_decide_eq_false h4
        refine awp_split (decide (((k0 : Nat) : Int) > (0 : Int))) (fun h5 => ?_) (fun h5 => ?_)
        ·
          have h5d := of_decide_eq_true h5
          have hx6 : s_.2.1[(Int.toNat (((k0 : Nat) : Int) - 1))]? = some (nth s_.2.1 (Int.toNat (((k0 : Nat) : Int) - 1))) := nth_get (by omega)
          refine rd' tt_ok tt_mx [(40, .b (decide ((nth s_.2.1 (Int.toNat (((k0 : Nat) : Int) - 1))).1 ≥ a0.1)))] [3, 4] [] [4] [(3, .val (.b true)), (4, .val (.b false)), (10, .val (.b false)), (14, .val (.b true)), (19, .val (.i (((k0 : Nat) : Int) - 1))), (20, .row [.i ((nth s_.2.1 (Int.toNat (((k0 : Nat) : Int) - 1))).1), .i ((nth s_.2.1 (Int.toNat (((k0 : Nat) : Int) - 1))).2.1), .b ((nth s_.2.1 (Int.toNat (((k0 : Nat) : Int) - 1))).2.2.1), .i ((nth s_.2.1 (Int.toNat (((k0 : Nat) : Int) - 1))).2.2.2.1), .h ((nth s_.2.1 (Int.toNat (((k0 : Nat) : Int) - 1))).2.2.2.2)])] (o2 (ob_call (cb h3n (implIsValidFile_a s_.1 a0))) (o2 (ob_eq (show .b (!true) = .b false from rfl)) (o2 (ob_eq (av_bool h4)) (o2 (ob_eq (av_bool h5)) (o2 (ob_eq (av_i (IntWalk.i64_in (((k0 : Nat) : Int) - 1) (by omega)))) (o1 (ob_elem (el_of (i := (((k0 : Nat) : Int) - 1)) (by omega) rfl hx6)))))))) ?_
          exact ⟨rfl, weak_fit (by rw [h3, h4, h5]; first | done | kernel_rfl)⟩
        ·
          have h5d := of_decide_eq_false h5
          refine rd' tt_ok tt_mx [(40, .b false)] [3, 4] [] [4] [(3, .val (.b true)), (4, .val (.b false)), (10, .val (.b false)), (14, .val (.b false))] (o2 (ob_call (cb h3n (implIsValidFile_a s_.1 a0))) (o2 (ob_eq (show .b (!true) = .b false from rfl)) (o2 (ob_eq (av_bool h4)) (o1 (ob_eq (av_bool h5)))))) ?_
          exact ⟨rfl, weak_fit (by rw [h3, h4, h5]; first | done | kernel_rfl)⟩
    refine ck ((!(implIsValidFile s_.1 a0)) || (decide (a0.1 ≥ s_.2.2) || (decide (((k0 : Nat) : Int) > (0 : Int)) && decide ((nth s_.2.1 (Int.toNat (((k0 : Nat) : Int) - 1))).1 ≥ a0.1)))) (fun h7 => ?_) (fun h7 => ?_)
    ·
      refine awp_seq ?_
      refine rk tt_ok [] [40] [] [] [] (o0) ?_
      refine awp_ret ?_
      have hr8 : (forL (implIsValidStore_f0 s_) implIsValidStore_e0 s_.2.1 0 ()) = .ret false := forL_ret hx0 (bif_t h7 (rfl)) hI0
      exact pret [] (congrArg (fun z => (.b z : AV)) (show implIsValidStore s_ = false from on_r hr8).symm)
    ·
      have h7l : ((!(implIsValidFile s_.1 a0))) = false := or_l h7
      have h7ln : (implIsValidFile s_.1 a0) = true := bnot_f h7l
      have h7r : ((decide (a0.1 ≥ s_.2.2) || (decide (((k0 : Nat) : Int) > (0 : Int)) && decide ((nth s_.2.1 (Int.toNat (((k0 : Nat) : Int) - 1))).1 ≥ a0.1)))) = false := or_r h7
      have h7rl : (decide (a0.1 ≥ s_.2.2)) = false := or_l h7r
      have h7rld := of_decide_eq_false h7rl
      have h7rr : ((decide (((k0 : Nat) : Int) > (0 : Int)) && decide ((nth s_.2.1 (Int.toNat (((k0 : Nat) : Int) - 1))).1 ≥ a0.1))) = false := or_r h7r
      refine awp_skip ?_
      refine rk tt_ok [(8, .i ((k0 + 1 : Nat) : Int))] [8, 40] [] [] [(0, .val (.i ((k0 + 1 : Nat) : Int)))] (o1 (ob_eq (av_i (wrap_succ k0 (by omega))))) ?_
      exact Exists.intro () (And.intro (weak_fit (by kernel_rfl)) (forL_next hx0 (bif_f h7 (rfl)) hI0))
  ·
    refine awp_seq ?_
    refine rk tt_ok [(9, .b false)] [] [] [] [(0, .val (.b false))] (o1 (ob_eq (av_bool (decide_eq_false (p := ((k0 : Nat) : Int) < (s_.2.1.length : Int)) (by omega))))) ?_
    refine awp_seq ?_
    refine ckF ?_
    refine awp_exit ?_
    exact Exists.intro () (And.intro (weak_fit (by kernel_rfl)) (forL_end hk0 (rfl) hI0))
  ·
    refine awp_seq ?_
    refine jn [(2, .b ((implIsValidSchema s_.1) && (decide ((s_.2.1.length : Int) ≤ (12 : Int)) && (implwithin s_.2.2 1 61))))] [1, 2] [] [1] (implIsValidSchema s_.1) (fun h9 => ?_) (fun h9 => ?_) ?_
    ·
      refine awp_split (decide ((s_.2.1.length : Int) ≤ (12 : Int))) (fun h10 => ?_) (fun h10 => ?_)
      ·
        have h10d := of_decide_eq_true h10
        refine rk tt_ok [(2, .b (implwithin s_.2.2 1 61))] [1, 2] [] [1] [(2, .val (.b true)), (6, .val (.i (s_.2.1.length : Int))), (7, .val (.b true)), (12, .val (.b (implwithin s_.2.2 1 61)))] (o2 (ob_call (cb h9 (implIsValidSchema_a s_.1))) (o2 (ob_eq (av_len s_.2.1)) (o2 (ob_eq (av_bool h10)) (o1 (ob_call (implwithin_a s_.2.2 1 61)))))) ?_
        exact ⟨rfl, weak_fit (by rw [h9, h10]; first | done | kernel_rfl)⟩
      ·
        have h10d := of_decide_eq_false h10
        refine rk tt_ok [] [1] [] [1] [(2, .val (.b true)), (6, .val (.i (s_.2.1.length : Int))), (7, .val (.b false))] (o2 (ob_call (cb h9 (implIsValidSchema_a s_.1))) (o2 (ob_eq (av_len s_.2.1)) (o1 (ob_eq (av_bool h10))))) ?_
        exact ⟨rfl, weak_fit (by rw [h9, h10]; first | done | kernel_rfl)⟩
    ·
      refine rk tt_ok [] [1] [] [1] [(2, .val (.b false))] (o1 (ob_call (cb h9 (implIsValidSchema_a s_.1)))) ?_
      exact ⟨rfl, weak_fit (by rw [h9]; first | done | kernel_rfl)⟩
    refine awp_ret ?_
    exact pret [] (congrArg (fun z => (.b z : AV)) (show implIsValidStore s_ = ((implIsValidSchema s_.1) && (decide ((s_.2.1.length : Int) ≤ (12 : Int)) && (implwithin s_.2.2 1 61))) from on_b hD0 (rfl)).symm)
def specFieldKind_f0 (name : ByteArray) (_ : Nat) (a0 : FieldD) (_ : Unit) : Rd (Int) (Unit) (Unit) := (bif (a0.1.toList == name.toList) then (.ret a0.2) else (.next ()))
def specFieldKind_e0 (_ : Nat) (_ : Unit) : Unit := ()
def specFieldKind (s_ : (List FieldD)) (name : ByteArray) : Int := (Out.on (forL (specFieldKind_f0 name) specFieldKind_e0 s_ 0 ()) (fun _ => 0))
theorem specFieldKind_a (s_ : (List FieldD)) (name : ByteArray) : ACalls Tryz.prog 36 [.h s_, .s name] (.i (specFieldKind s_ name)) := by
  refine acalls_of (tt := tt) tt_ok Tryz.func36 (fn := Tryz.f36) rfl (by unfold FnOk; kernel_rfl) (Nat.le_of_ble_eq_true rfl) fun w0 F0 hG => ?_
  refine awp_seq ?_
  refine rk tt_ok [(4, .i 0)] [] [] [] [] (o0) ?_
  refine awp_seq ?_
  refine awp_seq ?_
  refine rk tt_ok [(5, .i 0)] [] [] [] [] (o0) ?_
  refine wdT 0 0 .sh s_ (fun hw1 => ?_)
  have hl2 : List.length s_ ≤ 1073741824 := wide_len (hw1)
  refine blk (fun (k0 : Nat) (s0 : Unit) => [(5, .i ((k0 : Nat) : Int))]) [5] (fun k0 s0 => []) [] (fun (y0 : Unit) => []) [0, 1, 5] (fun y0 => []) [] (fun (k0 : Nat) (s0 : Unit) => (forL (specFieldKind_f0 name) specFieldKind_e0 s_ 0 ()) = forL (specFieldKind_f0 name) specFieldKind_e0 (List.drop k0 s_) k0 s0) (fun (y0 : Unit) => (forL (specFieldKind_f0 name) specFieldKind_e0 s_ 0 ()) = .brk y0) s_.length () (weak_fit (by kernel_rfl)) rfl (fun k0 s0 hk0 hI0 => ?_) (fun k0 s0 hk0 hI0 => ?_) (fun y0 hD0 => ?_)
  ·
    obtain ⟨a0, hx0⟩ := get_some (l := s_) (i := k0) hk0
    refine awp_seq ?_
    refine awp_seq ?_
    refine rk tt_ok [(9, .b true)] [] [] [] [(2, .val (.i (s_.length : Int))), (3, .val (.b true))] (o2 (ob_eq (av_len s_)) (o1 (ob_eq (av_bool (decide_eq_true (p := ((k0 : Nat) : Int) < (s_.length : Int)) (by omega)))))) ?_
    refine ckT ?_
    refine awp_skip ?_
    refine awp_seq ?_
    refine awp_block ?_
    refine awp_seq ?_
    refine rk tt_ok [(18, .b (a0.1.toList == name.toList))] [9] [] [] [(2, .row [.s a0.1, .i a0.2])] (o1 (ob_elem (el_of (i := ((k0 : Nat) : Int)) (by omega) rfl hx0))) ?_
    refine ck (a0.1.toList == name.toList) (fun h3 => ?_) (fun h3 => ?_)
    ·
      refine awp_seq ?_
      refine rk tt_ok [(4, .i a0.2)] [4, 18] [] [] [(2, .row [.s a0.1, .i a0.2])] (o1 (ob_elem (el_of (i := ((k0 : Nat) : Int)) (by omega) rfl hx0))) ?_
      refine awp_ret ?_
      have hr4 : (forL (specFieldKind_f0 name) specFieldKind_e0 s_ 0 ()) = .ret a0.2 := forL_ret hx0 (bif_t h3 (rfl)) hI0
      exact pret [] (congrArg (fun z => (.i z : AV)) (show specFieldKind s_ name = a0.2 from on_r hr4).symm)
    ·
      refine awp_skip ?_
      refine rk tt_ok [(5, .i ((k0 + 1 : Nat) : Int))] [5, 18] [] [] [(1, .val (.i ((k0 + 1 : Nat) : Int)))] (o1 (ob_eq (av_i (wrap_succ k0 (by omega))))) ?_
      exact Exists.intro () (And.intro (weak_fit (by kernel_rfl)) (forL_next hx0 (bif_f h3 (rfl)) hI0))
  ·
    refine awp_seq ?_
    refine awp_seq ?_
    refine rk tt_ok [(9, .b false)] [] [] [] [(2, .val (.i (s_.length : Int))), (3, .val (.b false))] (o2 (ob_eq (av_len s_)) (o1 (ob_eq (av_bool (decide_eq_false (p := ((k0 : Nat) : Int) < (s_.length : Int)) (by omega)))))) ?_
    refine ckF ?_
    refine awp_exit ?_
    exact Exists.intro () (And.intro (weak_fit (by kernel_rfl)) (forL_end hk0 (rfl) hI0))
  ·
    refine awp_seq ?_
    refine rk tt_ok [] [] [] [] [] (o0) ?_
    refine awp_ret ?_
    exact pret [] (congrArg (fun z => (.i z : AV)) (show specFieldKind s_ name = 0 from on_b hD0 (rfl)).symm)
def specMatchesSchema (s_ : (List FieldD)) (name : ByteArray) (v : ValueD) : Bool := ((specIsValidValue v) && ((v.1 != (0 : Int)) && (v.1 == (specFieldKind s_ name))))
theorem specMatchesSchema_a (s_ : (List FieldD)) (name : ByteArray) (v : ValueD) : ACalls Tryz.prog 27 [.h s_, .s name, .a [.i v.1, .i v.2.1, .s v.2.2]] (.b (specMatchesSchema s_ name v)) := by
  refine acalls_of (tt := tt) tt_ok Tryz.func27 (fn := Tryz.f27) rfl (by unfold FnOk; kernel_rfl) (Nat.le_of_ble_eq_true rfl) fun w0 F0 hG => ?_
  refine awp_seq ?_
  refine rk tt_ok [(5, .p 5 0), (6, .b false)] [2] [(5, [.i v.1, .i v.2.1, .s v.2.2])] [] [] (o0) ?_
  refine awp_seq ?_
  refine jn [(6, .b ((specIsValidValue v) && ((v.1 != (0 : Int)) && (v.1 == (specFieldKind s_ name)))))] [0, 1, 5, 6] [] [5] (specIsValidValue v) (fun h1 => ?_) (fun h1 => ?_) ?_
  ·
    refine awp_split (v.1 != (0 : Int)) (fun h2 => ?_) (fun h2 => ?_)
    ·
      have h2d := ne_of_bne h2
      refine rd' tt_ok tt_mx [(6, .b (v.1 == (specFieldKind s_ name)))] [0, 1, 5, 6] [] [5] [(1, .val (.b true)), (5, .val (.b true)), (12, .val (.i (specFieldKind s_ name)))] (o2 (ob_call (cb h1 (specIsValidValue_a v))) (o2 (ob_eq (av_bool h2)) (o1 (ob_call (specFieldKind_a s_ name))))) ?_
      exact ⟨rfl, weak_fit (by rw [h1, h2]; first | done | kernel_rfl)⟩
    ·
      have h2d := eq_of_bne h2
      refine rd' tt_ok tt_mx [] [0, 1, 5] [] [5] [(1, .val (.b true)), (5, .val (.b false))] (o2 (ob_call (cb h1 (specIsValidValue_a v))) (o1 (ob_eq (av_bool h2)))) ?_
      exact ⟨rfl, weak_fit (by rw [h1, h2]; first | done | kernel_rfl)⟩
  ·
    refine rd' tt_ok tt_mx [] [0, 1, 5] [] [5] [(1, .val (.b false))] (o1 (ob_call (cb h1 (specIsValidValue_a v)))) ?_
    exact ⟨rfl, weak_fit (by rw [h1]; first | done | kernel_rfl)⟩
  refine awp_ret ?_
  exact pret [] (congrArg (fun z => (.b z : AV)) (show specMatchesSchema s_ name v = ((specIsValidValue v) && ((v.1 != (0 : Int)) && (v.1 == (specFieldKind s_ name)))) from rfl).symm)
def specIsValidSchema_f0 (s_ : (List FieldD)) (k0 : Nat) (a0 : FieldD) (_ : Unit) : Rd (Bool) (Unit) (Unit) := (bif ((!(specIsValidAttrName a0.1)) || ((!(specl01In a0.2 1 2)) || (decide (((k0 : Nat) : Int) > (0 : Int)) && (!(Op.bytesLess ((nth s_ (Int.toNat (((k0 : Nat) : Int) - 1))).1).toList a0.1.toList))))) then (.ret false) else (.next ()))
def specIsValidSchema_e0 (_ : Nat) (_ : Unit) : Unit := ()
def specIsValidSchema (s_ : (List FieldD)) : Bool := (Out.on (forL (specIsValidSchema_f0 s_) specIsValidSchema_e0 s_ 0 ()) (fun _ => decide ((s_.length : Int) ≤ (5 : Int))))
theorem specIsValidSchema_a (s_ : (List FieldD)) : ACalls Tryz.prog 25 [.h s_] (.b (specIsValidSchema s_)) := by
  refine acalls_of (tt := tt) tt_ok Tryz.func25 (fn := Tryz.f25) rfl (by unfold FnOk; kernel_rfl) (Nat.le_of_ble_eq_true rfl) fun w0 F0 hG => ?_
  refine awp_seq ?_
  refine rk tt_ok [(2, .b false)] [] [] [] [] (o0) ?_
  refine awp_seq ?_
  refine awp_seq ?_
  refine rk tt_ok [(3, .i 0)] [] [] [] [] (o0) ?_
  refine wdT 0 0 .sh s_ (fun hw1 => ?_)
  have hl2 : List.length s_ ≤ 1073741824 := wide_len (hw1)
  refine blk (fun (k0 : Nat) (s0 : Unit) => [(3, .i ((k0 : Nat) : Int))]) [3] (fun k0 s0 => []) [] (fun (y0 : Unit) => []) [3] (fun y0 => []) [] (fun (k0 : Nat) (s0 : Unit) => (forL (specIsValidSchema_f0 s_) specIsValidSchema_e0 s_ 0 ()) = forL (specIsValidSchema_f0 s_) specIsValidSchema_e0 (List.drop k0 s_) k0 s0) (fun (y0 : Unit) => (forL (specIsValidSchema_f0 s_) specIsValidSchema_e0 s_ 0 ()) = .brk y0) s_.length () (weak_fit (by kernel_rfl)) rfl (fun k0 s0 hk0 hI0 => ?_) (fun k0 s0 hk0 hI0 => ?_) (fun y0 hD0 => ?_)
  ·
    obtain ⟨a0, hx0⟩ := get_some (l := s_) (i := k0) hk0
    refine awp_seq ?_
    refine awp_seq ?_
    refine rk tt_ok [(7, .b true)] [] [] [] [(2, .val (.i (s_.length : Int))), (3, .val (.b true))] (o2 (ob_eq (av_len s_)) (o1 (ob_eq (av_bool (decide_eq_true (p := ((k0 : Nat) : Int) < (s_.length : Int)) (by omega)))))) ?_
    refine ckT ?_
    refine awp_skip ?_
    refine awp_seq ?_
    refine awp_block ?_
    refine awp_seq ?_
    refine jn [(43, .b ((!(specIsValidAttrName a0.1)) || ((!(specl01In a0.2 1 2)) || (decide (((k0 : Nat) : Int) > (0 : Int)) && (!(Op.bytesLess ((nth s_ (Int.toNat (((k0 : Nat) : Int) - 1))).1).toList a0.1.toList))))))] [7] [] [] (!(specIsValidAttrName a0.1)) (fun h3 => ?_) (fun h3 => ?_) ?_
    ·
      have h3n : (specIsValidAttrName a0.1) = false := bnot_t h3
      refine rd' tt_ok tt_mx [(43, .b true)] [7] [] [] [(2, .row [.s a0.1, .i a0.2]), (5, .val (.b false)), (6, .val (.b true))] (o2 (ob_elem (el_of (i := ((k0 : Nat) : Int)) (by omega) rfl hx0)) (o2 (ob_call (cb h3n (specIsValidAttrName_a a0.1))) (o1 (ob_eq (show .b (!false) = .b true from rfl))))) ?_
      exact ⟨rfl, weak_fit (by rw [h3]; first | done | kernel_rfl)⟩
    ·
      have h3n : (specIsValidAttrName a0.1) = true := bnot_f h3
      refine awp_split (!(specl01In a0.2 1 2)) (fun h4 => ?_) (fun h4 => ?_)
      ·
        have h4n : (specl01In a0.2 1 2) = false := bnot_t h4
        refine rd' tt_ok tt_mx [(43, .b true)] [7] [] [] [(2, .row [.s a0.1, .i a0.2]), (5, .val (.b true)), (6, .val (.b false)), (10, .row [.s a0.1, .i a0.2]), (13, .val (.b false)), (14, .val (.b true))] (o2 (ob_elem (el_of (i := ((k0 : Nat) : Int)) (by omega) rfl hx0)) (o2 (ob_call (cb h3n (specIsValidAttrName_a a0.1))) (o2 (ob_eq (show .b (!true) = .b false from rfl)) (o2 (ob_elem (el_of (i := ((k0 : Nat) : Int)) (by omega) rfl hx0)) (o2 (ob_call (cb h4n (specl01In_a a0.2 1 2))) (o1 (ob_eq (show .b (!false) = .b true from rfl)))))))) ?_
        exact ⟨rfl, weak_fit (by rw [h3, h4]; first | done | kernel_rfl)⟩
      ·
        have h4n : (specl01In a0.2 1 2) = true := bnot_f h4
        have h4nw := l01In_iff.1 h4n
        refine awp_split (decide (((k0 : Nat) : Int) > (0 : Int))) (fun h5 => ?_) (fun h5 => ?_)
        ·
          have h5d := of_decide_eq_true h5
          have hx6 : s_[(Int.toNat (((k0 : Nat) : Int) - 1))]? = some (nth s_ (Int.toNat (((k0 : Nat) : Int) - 1))) := nth_get (by omega)
          refine rd' tt_ok tt_mx [(43, .b (!(Op.bytesLess ((nth s_ (Int.toNat (((k0 : Nat) : Int) - 1))).1).toList a0.1.toList)))] [7] [] [] [(2, .row [.s a0.1, .i a0.2]), (5, .val (.b true)), (6, .val (.b false)), (10, .row [.s a0.1, .i a0.2]), (13, .val (.b true)), (14, .val (.b false)), (18, .val (.b true)), (22, .val (.i (((k0 : Nat) : Int) - 1))), (23, .row [.s ((nth s_ (Int.toNat (((k0 : Nat) : Int) - 1))).1), .i ((nth s_ (Int.toNat (((k0 : Nat) : Int) - 1))).2)]), (28, .row [.s a0.1, .i a0.2])] (o2 (ob_elem (el_of (i := ((k0 : Nat) : Int)) (by omega) rfl hx0)) (o2 (ob_call (cb h3n (specIsValidAttrName_a a0.1))) (o2 (ob_eq (show .b (!true) = .b false from rfl)) (o2 (ob_elem (el_of (i := ((k0 : Nat) : Int)) (by omega) rfl hx0)) (o2 (ob_call (cb h4n (specl01In_a a0.2 1 2))) (o2 (ob_eq (show .b (!true) = .b false from rfl)) (o2 (ob_eq (av_bool h5)) (o2 (ob_eq (av_i (IntWalk.i64_in (((k0 : Nat) : Int) - 1) (by omega)))) (o2 (ob_elem (el_of (i := (((k0 : Nat) : Int) - 1)) (by omega) rfl hx6)) (o1 (ob_elem (el_of (i := ((k0 : Nat) : Int)) (by omega) rfl hx0)))))))))))) ?_
          exact ⟨rfl, weak_fit (by rw [h3, h4, h5]; first | done | kernel_rfl)⟩
        ·
          have h5d := of_decide_eq_false h5
          refine rd' tt_ok tt_mx [(43, .b false)] [7] [] [] [(2, .row [.s a0.1, .i a0.2]), (5, .val (.b true)), (6, .val (.b false)), (10, .row [.s a0.1, .i a0.2]), (13, .val (.b true)), (14, .val (.b false)), (18, .val (.b false))] (o2 (ob_elem (el_of (i := ((k0 : Nat) : Int)) (by omega) rfl hx0)) (o2 (ob_call (cb h3n (specIsValidAttrName_a a0.1))) (o2 (ob_eq (show .b (!true) = .b false from rfl)) (o2 (ob_elem (el_of (i := ((k0 : Nat) : Int)) (by omega) rfl hx0)) (o2 (ob_call (cb h4n (specl01In_a a0.2 1 2))) (o2 (ob_eq (show .b (!true) = .b false from rfl)) (o1 (ob_eq (av_bool h5))))))))) ?_
          exact ⟨rfl, weak_fit (by rw [h3, h4, h5]; first | done | kernel_rfl)⟩
    refine ck ((!(specIsValidAttrName a0.1)) || ((!(specl01In a0.2 1 2)) || (decide (((k0 : Nat) : Int) > (0 : Int)) && (!(Op.bytesLess ((nth s_ (Int.toNat (((k0 : Nat) : Int) - 1))).1).toList a0.1.toList))))) (fun h7 => ?_) (fun h7 => ?_)
    ·
      refine awp_seq ?_
      refine rk tt_ok [] [43] [] [] [] (o0) ?_
      refine awp_ret ?_
      have hr8 : (forL (specIsValidSchema_f0 s_) specIsValidSchema_e0 s_ 0 ()) = .ret false := forL_ret hx0 (bif_t h7 (rfl)) hI0
      exact pret [] (congrArg (fun z => (.b z : AV)) (show specIsValidSchema s_ = false from on_r hr8).symm)
    ·
      have h7l : ((!(specIsValidAttrName a0.1))) = false := or_l h7
      have h7ln : (specIsValidAttrName a0.1) = true := bnot_f h7l
      have h7r : (((!(specl01In a0.2 1 2)) || (decide (((k0 : Nat) : Int) > (0 : Int)) && (!(Op.bytesLess ((nth s_ (Int.toNat (((k0 : Nat) : Int) - 1))).1).toList a0.1.toList))))) = false := or_r h7
      have h7rl : ((!(specl01In a0.2 1 2))) = false := or_l h7r
      have h7rln : (specl01In a0.2 1 2) = true := bnot_f h7rl
      have h7rlnw := l01In_iff.1 h7rln
      have h7rr : ((decide (((k0 : Nat) : Int) > (0 : Int)) && (!(Op.bytesLess ((nth s_ (Int.toNat (((k0 : Nat) : Int) - 1))).1).toList a0.1.toList)))) = false := or_r h7r
      refine awp_skip ?_
      refine rk tt_ok [(3, .i ((k0 + 1 : Nat) : Int))] [3, 43] [] [] [(1, .val (.i ((k0 + 1 : Nat) : Int)))] (o1 (ob_eq (av_i (wrap_succ k0 (by omega))))) ?_
      exact Exists.intro () (And.intro (weak_fit (by kernel_rfl)) (forL_next hx0 (bif_f h7 (rfl)) hI0))
  ·
    refine awp_seq ?_
    refine awp_seq ?_
    refine rk tt_ok [(7, .b false)] [] [] [] [(2, .val (.i (s_.length : Int))), (3, .val (.b false))] (o2 (ob_eq (av_len s_)) (o1 (ob_eq (av_bool (decide_eq_false (p := ((k0 : Nat) : Int) < (s_.length : Int)) (by omega)))))) ?_
    refine ckF ?_
    refine awp_exit ?_
    exact Exists.intro () (And.intro (weak_fit (by kernel_rfl)) (forL_end hk0 (rfl) hI0))
  ·
    refine awp_seq ?_
    refine rk tt_ok [(2, .b (decide ((s_.length : Int) ≤ (5 : Int))))] [0, 2] [] [] [(1, .val (.i (s_.length : Int)))] (o1 (ob_eq (av_len s_))) ?_
    refine awp_ret ?_
    exact pret [] (congrArg (fun z => (.b z : AV)) (show specIsValidSchema s_ = decide ((s_.length : Int) ≤ (5 : Int)) from on_b hD0 (rfl)).symm)
def specIsValidFile_f0 (s_ : (List FieldD)) (f : FileD) (k0 : Nat) (a0 : AttrD) (_ : Unit) : Rd (Bool) (Unit) (Unit) := (bif ((!(specMatchesSchema s_ a0.1 a0.2)) || (decide (((k0 : Nat) : Int) > (0 : Int)) && (!(Op.bytesLess ((nth f.2.2.2.2 (Int.toNat (((k0 : Nat) : Int) - 1))).1).toList a0.1.toList)))) then (.ret false) else (.next ()))
def specIsValidFile_e0 (_ : Nat) (_ : Unit) : Unit := ()
def specIsValidFile (s_ : (List FieldD)) (f : FileD) : Bool := (Out.on (forL (specIsValidFile_f0 s_ f) specIsValidFile_e0 f.2.2.2.2 0 ()) (fun _ => ((specIsValidSchema s_) && ((specl01In f.1 1 60) && ((specl01In f.2.1 0 2) && (specl01In f.2.2.2.1 0 60))))))
theorem specIsValidFile_a (s_ : (List FieldD)) (f : FileD) : ACalls Tryz.prog 20 [.h s_, .a [.i f.1, .i f.2.1, .b f.2.2.1, .i f.2.2.2.1, .h f.2.2.2.2]] (.b (specIsValidFile s_ f)) := by
  refine acalls_of (tt := tt) tt_ok Tryz.func20 (fn := Tryz.f20) rfl (by unfold FnOk; kernel_rfl) (Nat.le_of_ble_eq_true rfl) fun w0 F0 hG => ?_
  refine awp_seq ?_
  refine rk tt_ok [(3, .p 3 0), (4, .b false)] [1] [(3, [.i f.1, .i f.2.1, .b f.2.2.1, .i f.2.2.2.1, .h f.2.2.2.2])] [] [] (o0) ?_
  refine awp_seq ?_
  refine awp_seq ?_
  refine rk tt_ok [(5, .i 0)] [] [] [] [] (o0) ?_
  refine wdB 3 4 .sh f.2.2.2.2 (fun hw1 => ?_)
  have hl2 : List.length f.2.2.2.2 ≤ 1073741824 := wide_len (hw1)
  refine blk (fun (k0 : Nat) (s0 : Unit) => [(5, .i ((k0 : Nat) : Int))]) [5] (fun k0 s0 => []) [] (fun (y0 : Unit) => []) [5] (fun y0 => []) [] (fun (k0 : Nat) (s0 : Unit) => (forL (specIsValidFile_f0 s_ f) specIsValidFile_e0 f.2.2.2.2 0 ()) = forL (specIsValidFile_f0 s_ f) specIsValidFile_e0 (List.drop k0 f.2.2.2.2) k0 s0) (fun (y0 : Unit) => (forL (specIsValidFile_f0 s_ f) specIsValidFile_e0 f.2.2.2.2 0 ()) = .brk y0) f.2.2.2.2.length () (weak_fit (by kernel_rfl)) rfl (fun k0 s0 hk0 hI0 => ?_) (fun k0 s0 hk0 hI0 => ?_) (fun y0 hD0 => ?_)
  ·
    obtain ⟨a0, hx0⟩ := get_some (l := f.2.2.2.2) (i := k0) hk0
    refine awp_seq ?_
    refine awp_seq ?_
    refine rk tt_ok [(10, .b true)] [] [] [] [(3, .val (.i (f.2.2.2.2.length : Int))), (4, .val (.b true))] (o2 (ob_eq (av_len f.2.2.2.2)) (o1 (ob_eq (av_bool (decide_eq_true (p := ((k0 : Nat) : Int) < (f.2.2.2.2.length : Int)) (by omega)))))) ?_
    refine ckT ?_
    refine awp_skip ?_
    refine awp_seq ?_
    refine awp_block ?_
    refine awp_seq ?_
    refine jn [(47, .b ((!(specMatchesSchema s_ a0.1 a0.2)) || (decide (((k0 : Nat) : Int) > (0 : Int)) && (!(Op.bytesLess ((nth f.2.2.2.2 (Int.toNat (((k0 : Nat) : Int) - 1))).1).toList a0.1.toList)))))] [10] [] [] (!(specMatchesSchema s_ a0.1 a0.2)) (fun h3 => ?_) (fun h3 => ?_) ?_
    ·
      have h3n : (specMatchesSchema s_ a0.1 a0.2) = false := bnot_t h3
      refine rd' tt_ok tt_mx [(47, .b true)] [10] [] [] [(4, .row [.s a0.1, .i a0.2.1, .i a0.2.2.1, .s a0.2.2.2]), (10, .row [.s a0.1, .i a0.2.1, .i a0.2.2.1, .s a0.2.2.2]), (13, .val (.b false)), (14, .val (.b true))] (o2 (ob_elem (el_of (i := ((k0 : Nat) : Int)) (by omega) rfl hx0)) (o2 (ob_elem (el_of (i := ((k0 : Nat) : Int)) (by omega) rfl hx0)) (o2 (ob_call (cb h3n (specMatchesSchema_a s_ a0.1 a0.2))) (o1 (ob_eq (show .b (!false) = .b true from rfl)))))) ?_
      exact ⟨rfl, weak_fit (by rw [h3]; first | done | kernel_rfl)⟩
    ·
      have h3n : (specMatchesSchema s_ a0.1 a0.2) = true := bnot_f h3
      refine awp_split (decide (((k0 : Nat) : Int) > (0 : Int))) (fun h4 => ?_) (fun h4 => ?_)
      ·
        have h4d := of_decide_eq_true h4
        have hx5 : f.2.2.2.2[(Int.toNat (((k0 : Nat) : Int) - 1))]? = some (nth f.2.2.2.2 (Int.toNat (((k0 : Nat) : Int) - 1))) := nth_get (by omega)
        refine rd' tt_ok tt_mx [(47, .b (!(Op.bytesLess ((nth f.2.2.2.2 (Int.toNat (((k0 : Nat) : Int) - 1))).1).toList a0.1.toList)))] [10] [] [] [(4, .row [.s a0.1, .i a0.2.1, .i a0.2.2.1, .s a0.2.2.2]), (10, .row [.s a0.1, .i a0.2.1, .i a0.2.2.1, .s a0.2.2.2]), (13, .val (.b true)), (14, .val (.b false)), (17, .val (.b true)), (22, .val (.i (((k0 : Nat) : Int) - 1))), (23, .row [.s ((nth f.2.2.2.2 (Int.toNat (((k0 : Nat) : Int) - 1))).1), .i ((nth f.2.2.2.2 (Int.toNat (((k0 : Nat) : Int) - 1))).2.1), .i ((nth f.2.2.2.2 (Int.toNat (((k0 : Nat) : Int) - 1))).2.2.1), .s ((nth f.2.2.2.2 (Int.toNat (((k0 : Nat) : Int) - 1))).2.2.2)]), (29, .row [.s a0.1, .i a0.2.1, .i a0.2.2.1, .s a0.2.2.2])] (o2 (ob_elem (el_of (i := ((k0 : Nat) : Int)) (by omega) rfl hx0)) (o2 (ob_elem (el_of (i := ((k0 : Nat) : Int)) (by omega) rfl hx0)) (o2 (ob_call (cb h3n (specMatchesSchema_a s_ a0.1 a0.2))) (o2 (ob_eq (show .b (!true) = .b false from rfl)) (o2 (ob_eq (av_bool h4)) (o2 (ob_eq (av_i (IntWalk.i64_in (((k0 : Nat) : Int) - 1) (by omega)))) (o2 (ob_elem (el_of (i := (((k0 : Nat) : Int) - 1)) (by omega) rfl hx5)) (o1 (ob_elem (el_of (i := ((k0 : Nat) : Int)) (by omega) rfl hx0)))))))))) ?_
        exact ⟨rfl, weak_fit (by rw [h3, h4]; first | done | kernel_rfl)⟩
      ·
        have h4d := of_decide_eq_false h4
        refine rd' tt_ok tt_mx [(47, .b false)] [10] [] [] [(4, .row [.s a0.1, .i a0.2.1, .i a0.2.2.1, .s a0.2.2.2]), (10, .row [.s a0.1, .i a0.2.1, .i a0.2.2.1, .s a0.2.2.2]), (13, .val (.b true)), (14, .val (.b false)), (17, .val (.b false))] (o2 (ob_elem (el_of (i := ((k0 : Nat) : Int)) (by omega) rfl hx0)) (o2 (ob_elem (el_of (i := ((k0 : Nat) : Int)) (by omega) rfl hx0)) (o2 (ob_call (cb h3n (specMatchesSchema_a s_ a0.1 a0.2))) (o2 (ob_eq (show .b (!true) = .b false from rfl)) (o1 (ob_eq (av_bool h4))))))) ?_
        exact ⟨rfl, weak_fit (by rw [h3, h4]; first | done | kernel_rfl)⟩
    refine ck ((!(specMatchesSchema s_ a0.1 a0.2)) || (decide (((k0 : Nat) : Int) > (0 : Int)) && (!(Op.bytesLess ((nth f.2.2.2.2 (Int.toNat (((k0 : Nat) : Int) - 1))).1).toList a0.1.toList)))) (fun h6 => ?_) (fun h6 => ?_)
    ·
      refine awp_seq ?_
      refine rk tt_ok [] [47] [] [] [] (o0) ?_
      refine awp_ret ?_
      have hr7 : (forL (specIsValidFile_f0 s_ f) specIsValidFile_e0 f.2.2.2.2 0 ()) = .ret false := forL_ret hx0 (bif_t h6 (rfl)) hI0
      exact pret [] (congrArg (fun z => (.b z : AV)) (show specIsValidFile s_ f = false from on_r hr7).symm)
    ·
      have h6l : ((!(specMatchesSchema s_ a0.1 a0.2))) = false := or_l h6
      have h6ln : (specMatchesSchema s_ a0.1 a0.2) = true := bnot_f h6l
      have h6r : ((decide (((k0 : Nat) : Int) > (0 : Int)) && (!(Op.bytesLess ((nth f.2.2.2.2 (Int.toNat (((k0 : Nat) : Int) - 1))).1).toList a0.1.toList)))) = false := or_r h6
      refine awp_skip ?_
      refine rk tt_ok [(5, .i ((k0 + 1 : Nat) : Int))] [5, 47] [] [] [(1, .val (.i ((k0 + 1 : Nat) : Int)))] (o1 (ob_eq (av_i (wrap_succ k0 (by omega))))) ?_
      exact Exists.intro () (And.intro (weak_fit (by kernel_rfl)) (forL_next hx0 (bif_f h6 (rfl)) hI0))
  ·
    refine awp_seq ?_
    refine awp_seq ?_
    refine rk tt_ok [(10, .b false)] [] [] [] [(3, .val (.i (f.2.2.2.2.length : Int))), (4, .val (.b false))] (o2 (ob_eq (av_len f.2.2.2.2)) (o1 (ob_eq (av_bool (decide_eq_false (p := ((k0 : Nat) : Int) < (f.2.2.2.2.length : Int)) (by omega)))))) ?_
    refine ckF ?_
    refine awp_exit ?_
    exact Exists.intro () (And.intro (weak_fit (by kernel_rfl)) (forL_end hk0 (rfl) hI0))
  ·
    refine awp_seq ?_
    refine jn [(4, .b ((specIsValidSchema s_) && ((specl01In f.1 1 60) && ((specl01In f.2.1 0 2) && (specl01In f.2.2.2.1 0 60)))))] [0, 3, 4] [] [3] (specIsValidSchema s_) (fun h8 => ?_) (fun h8 => ?_) ?_
    ·
      refine awp_split (specl01In f.1 1 60) (fun h9 => ?_) (fun h9 => ?_)
      ·
        have h9w := l01In_iff.1 h9
        refine awp_split (specl01In f.2.1 0 2) (fun h10 => ?_) (fun h10 => ?_)
        ·
          have h10w := l01In_iff.1 h10
          refine rk tt_ok [(4, .b (specl01In f.2.2.2.1 0 60))] [0, 3, 4] [] [3] [(1, .val (.b true)), (5, .val (.b true)), (10, .val (.b true)), (15, .val (.b (specl01In f.2.2.2.1 0 60)))] (o2 (ob_call (cb h8 (specIsValidSchema_a s_))) (o2 (ob_call (cb h9 (specl01In_a f.1 1 60))) (o2 (ob_call (cb h10 (specl01In_a f.2.1 0 2))) (o1 (ob_call (specl01In_a f.2.2.2.1 0 60)))))) ?_
          exact ⟨rfl, weak_fit (by rw [h8, h9, h10]; first | done | kernel_rfl)⟩
        ·
          refine rk tt_ok [] [0, 3] [] [3] [(1, .val (.b true)), (5, .val (.b true)), (10, .val (.b false))] (o2 (ob_call (cb h8 (specIsValidSchema_a s_))) (o2 (ob_call (cb h9 (specl01In_a f.1 1 60))) (o1 (ob_call (cb h10 (specl01In_a f.2.1 0 2)))))) ?_
          exact ⟨rfl, weak_fit (by rw [h8, h9, h10]; first | done | kernel_rfl)⟩
      ·
        refine rk tt_ok [] [0, 3] [] [3] [(1, .val (.b true)), (5, .val (.b false))] (o2 (ob_call (cb h8 (specIsValidSchema_a s_))) (o1 (ob_call (cb h9 (specl01In_a f.1 1 60))))) ?_
        exact ⟨rfl, weak_fit (by rw [h8, h9]; first | done | kernel_rfl)⟩
    ·
      refine rk tt_ok [] [0, 3] [] [3] [(1, .val (.b false))] (o1 (ob_call (cb h8 (specIsValidSchema_a s_)))) ?_
      exact ⟨rfl, weak_fit (by rw [h8]; first | done | kernel_rfl)⟩
    refine awp_ret ?_
    exact pret [] (congrArg (fun z => (.b z : AV)) (show specIsValidFile s_ f = ((specIsValidSchema s_) && ((specl01In f.1 1 60) && ((specl01In f.2.1 0 2) && (specl01In f.2.2.2.1 0 60)))) from on_b hD0 (rfl)).symm)
def specIsValidStore_f0 (s_ : StoreD) (k0 : Nat) (a0 : FileD) (_ : Unit) : Rd (Bool) (Unit) (Unit) := (bif ((!(specIsValidFile s_.1 a0)) || (decide (a0.1 ≥ s_.2.2) || (decide (((k0 : Nat) : Int) > (0 : Int)) && decide ((nth s_.2.1 (Int.toNat (((k0 : Nat) : Int) - 1))).1 ≥ a0.1)))) then (.ret false) else (.next ()))
def specIsValidStore_e0 (_ : Nat) (_ : Unit) : Unit := ()
def specIsValidStore (s_ : StoreD) : Bool := (Out.on (forL (specIsValidStore_f0 s_) specIsValidStore_e0 s_.2.1 0 ()) (fun _ => ((specIsValidSchema s_.1) && (decide ((s_.2.1.length : Int) ≤ (12 : Int)) && (specl01In s_.2.2 1 61)))))
theorem specIsValidStore_a (s_ : StoreD) : ACalls Tryz.prog 19 [.a [.h s_.1, .h s_.2.1, .i s_.2.2]] (.b (specIsValidStore s_)) := by
  refine acalls_of (tt := tt) tt_ok Tryz.func19 (fn := Tryz.f19) rfl (by unfold FnOk; kernel_rfl) (Nat.le_of_ble_eq_true rfl) fun w0 F0 hG => ?_
  refine awp_seq ?_
  refine rk tt_ok [(1, .p 1 0), (2, .b false)] [0] [(1, [.h s_.1, .h s_.2.1, .i s_.2.2])] [] [] (o0) ?_
  refine awp_seq ?_
  refine awp_seq ?_
  refine rk tt_ok [(3, .i 0)] [] [] [] [] (o0) ?_
  refine wdB 1 1 .sh s_.2.1 (fun hw1 => ?_)
  have hl2 : List.length s_.2.1 ≤ 1073741824 := wide_len (hw1)
  refine blk (fun (k0 : Nat) (s0 : Unit) => [(3, .i ((k0 : Nat) : Int))]) [3] (fun k0 s0 => []) [] (fun (y0 : Unit) => []) [3] (fun y0 => []) [] (fun (k0 : Nat) (s0 : Unit) => (forL (specIsValidStore_f0 s_) specIsValidStore_e0 s_.2.1 0 ()) = forL (specIsValidStore_f0 s_) specIsValidStore_e0 (List.drop k0 s_.2.1) k0 s0) (fun (y0 : Unit) => (forL (specIsValidStore_f0 s_) specIsValidStore_e0 s_.2.1 0 ()) = .brk y0) s_.2.1.length () (weak_fit (by kernel_rfl)) rfl (fun k0 s0 hk0 hI0 => ?_) (fun k0 s0 hk0 hI0 => ?_) (fun y0 hD0 => ?_)
  ·
    obtain ⟨a0, hx0⟩ := get_some (l := s_.2.1) (i := k0) hk0
    refine awp_seq ?_
    refine awp_seq ?_
    refine rk tt_ok [(8, .b true)] [] [] [] [(3, .val (.i (s_.2.1.length : Int))), (4, .val (.b true))] (o2 (ob_eq (av_len s_.2.1)) (o1 (ob_eq (av_bool (decide_eq_true (p := ((k0 : Nat) : Int) < (s_.2.1.length : Int)) (by omega)))))) ?_
    refine ckT ?_
    refine awp_skip ?_
    refine awp_seq ?_
    refine awp_block ?_
    refine awp_seq ?_
    refine jn [(50, .b ((!(specIsValidFile s_.1 a0)) || (decide (a0.1 ≥ s_.2.2) || (decide (((k0 : Nat) : Int) > (0 : Int)) && decide ((nth s_.2.1 (Int.toNat (((k0 : Nat) : Int) - 1))).1 ≥ a0.1)))))] [8] [] [] (!(specIsValidFile s_.1 a0)) (fun h3 => ?_) (fun h3 => ?_) ?_
    ·
      have h3n : (specIsValidFile s_.1 a0) = false := bnot_t h3
      refine rd' tt_ok tt_mx [(50, .b true)] [8] [] [] [(5, .row [.i a0.1, .i a0.2.1, .b a0.2.2.1, .i a0.2.2.2.1, .h a0.2.2.2.2]), (7, .val (.b false)), (8, .val (.b true))] (o2 (ob_elem (el_of (i := ((k0 : Nat) : Int)) (by omega) rfl hx0)) (o2 (ob_call (cb h3n (specIsValidFile_a s_.1 a0))) (o1 (ob_eq (show .b (!false) = .b true from rfl))))) ?_
      exact ⟨rfl, weak_fit (by rw [h3]; first | done | kernel_rfl)⟩
    ·
      have h3n : (specIsValidFile s_.1 a0) = true := bnot_f h3
      refine awp_split (decide (a0.1 ≥ s_.2.2)) (fun h4 => ?_) (fun h4 => ?_)
      ·
        have h4d := of_decide_eq_true h4
        refine rd' tt_ok tt_mx [(50, .b true)] [8] [] [] [(5, .row [.i a0.1, .i a0.2.1, .b a0.2.2.1, .i a0.2.2.2.1, .h a0.2.2.2.2]), (7, .val (.b true)), (8, .val (.b false)), (13, .row [.i a0.1, .i a0.2.1, .b a0.2.2.1, .i a0.2.2.2.1, .h a0.2.2.2.2]), (18, .val (.b true))] (o2 (ob_elem (el_of (i := ((k0 : Nat) : Int)) (by omega) rfl hx0)) (o2 (ob_call (cb h3n (specIsValidFile_a s_.1 a0))) (o2 (ob_eq (show .b (!true) = .b false from rfl)) (o2 (ob_elem (el_of (i := ((k0 : Nat) : Int)) (by omega) rfl hx0)) (o1 (ob_eq (av_bool h4))))))) ?_
        exact ⟨rfl, weak_fit (by rw [h3, h4]; first | done | kernel_rfl)⟩
      ·
        have h4d := of_decide_eq_false h4
        refine awp_split (decide (((k0 : Nat) : Int) > (0 : Int))) (fun h5 => ?_) (fun h5 => ?_)
        ·
          have h5d := of_decide_eq_true h5
          have hx6 : s_.2.1[(Int.toNat (((k0 : Nat) : Int) - 1))]? = some (nth s_.2.1 (Int.toNat (((k0 : Nat) : Int) - 1))) := nth_get (by omega)
          refine rd' tt_ok tt_mx [(50, .b (decide ((nth s_.2.1 (Int.toNat (((k0 : Nat) : Int) - 1))).1 ≥ a0.1)))] [8] [] [] [(5, .row [.i a0.1, .i a0.2.1, .b a0.2.2.1, .i a0.2.2.2.1, .h a0.2.2.2.2]), (7, .val (.b true)), (8, .val (.b false)), (13, .row [.i a0.1, .i a0.2.1, .b a0.2.2.1, .i a0.2.2.2.1, .h a0.2.2.2.2]), (18, .val (.b false)), (22, .val (.b true)), (27, .val (.i (((k0 : Nat) : Int) - 1))), (28, .row [.i ((nth s_.2.1 (Int.toNat (((k0 : Nat) : Int) - 1))).1), .i ((nth s_.2.1 (Int.toNat (((k0 : Nat) : Int) - 1))).2.1), .b ((nth s_.2.1 (Int.toNat (((k0 : Nat) : Int) - 1))).2.2.1), .i ((nth s_.2.1 (Int.toNat (((k0 : Nat) : Int) - 1))).2.2.2.1), .h ((nth s_.2.1 (Int.toNat (((k0 : Nat) : Int) - 1))).2.2.2.2)]), (34, .row [.i a0.1, .i a0.2.1, .b a0.2.2.1, .i a0.2.2.2.1, .h a0.2.2.2.2])] (o2 (ob_elem (el_of (i := ((k0 : Nat) : Int)) (by omega) rfl hx0)) (o2 (ob_call (cb h3n (specIsValidFile_a s_.1 a0))) (o2 (ob_eq (show .b (!true) = .b false from rfl)) (o2 (ob_elem (el_of (i := ((k0 : Nat) : Int)) (by omega) rfl hx0)) (o2 (ob_eq (av_bool h4)) (o2 (ob_eq (av_bool h5)) (o2 (ob_eq (av_i (IntWalk.i64_in (((k0 : Nat) : Int) - 1) (by omega)))) (o2 (ob_elem (el_of (i := (((k0 : Nat) : Int) - 1)) (by omega) rfl hx6)) (o1 (ob_elem (el_of (i := ((k0 : Nat) : Int)) (by omega) rfl hx0))))))))))) ?_
          exact ⟨rfl, weak_fit (by rw [h3, h4, h5]; first | done | kernel_rfl)⟩
        ·
          have h5d := of_decide_eq_false h5
          refine rd' tt_ok tt_mx [(50, .b false)] [8] [] [] [(5, .row [.i a0.1, .i a0.2.1, .b a0.2.2.1, .i a0.2.2.2.1, .h a0.2.2.2.2]), (7, .val (.b true)), (8, .val (.b false)), (13, .row [.i a0.1, .i a0.2.1, .b a0.2.2.1, .i a0.2.2.2.1, .h a0.2.2.2.2]), (18, .val (.b false)), (22, .val (.b false))] (o2 (ob_elem (el_of (i := ((k0 : Nat) : Int)) (by omega) rfl hx0)) (o2 (ob_call (cb h3n (specIsValidFile_a s_.1 a0))) (o2 (ob_eq (show .b (!true) = .b false from rfl)) (o2 (ob_elem (el_of (i := ((k0 : Nat) : Int)) (by omega) rfl hx0)) (o2 (ob_eq (av_bool h4)) (o1 (ob_eq (av_bool h5)))))))) ?_
          exact ⟨rfl, weak_fit (by rw [h3, h4, h5]; first | done | kernel_rfl)⟩
    refine ck ((!(specIsValidFile s_.1 a0)) || (decide (a0.1 ≥ s_.2.2) || (decide (((k0 : Nat) : Int) > (0 : Int)) && decide ((nth s_.2.1 (Int.toNat (((k0 : Nat) : Int) - 1))).1 ≥ a0.1)))) (fun h7 => ?_) (fun h7 => ?_)
    ·
      refine awp_seq ?_
      refine rk tt_ok [] [50] [] [] [] (o0) ?_
      refine awp_ret ?_
      have hr8 : (forL (specIsValidStore_f0 s_) specIsValidStore_e0 s_.2.1 0 ()) = .ret false := forL_ret hx0 (bif_t h7 (rfl)) hI0
      exact pret [] (congrArg (fun z => (.b z : AV)) (show specIsValidStore s_ = false from on_r hr8).symm)
    ·
      have h7l : ((!(specIsValidFile s_.1 a0))) = false := or_l h7
      have h7ln : (specIsValidFile s_.1 a0) = true := bnot_f h7l
      have h7r : ((decide (a0.1 ≥ s_.2.2) || (decide (((k0 : Nat) : Int) > (0 : Int)) && decide ((nth s_.2.1 (Int.toNat (((k0 : Nat) : Int) - 1))).1 ≥ a0.1)))) = false := or_r h7
      have h7rl : (decide (a0.1 ≥ s_.2.2)) = false := or_l h7r
      have h7rld := of_decide_eq_false h7rl
      have h7rr : ((decide (((k0 : Nat) : Int) > (0 : Int)) && decide ((nth s_.2.1 (Int.toNat (((k0 : Nat) : Int) - 1))).1 ≥ a0.1))) = false := or_r h7r
      refine awp_skip ?_
      refine rk tt_ok [(3, .i ((k0 + 1 : Nat) : Int))] [3, 50] [] [] [(1, .val (.i ((k0 + 1 : Nat) : Int)))] (o1 (ob_eq (av_i (wrap_succ k0 (by omega))))) ?_
      exact Exists.intro () (And.intro (weak_fit (by kernel_rfl)) (forL_next hx0 (bif_f h7 (rfl)) hI0))
  ·
    refine awp_seq ?_
    refine awp_seq ?_
    refine rk tt_ok [(8, .b false)] [] [] [] [(3, .val (.i (s_.2.1.length : Int))), (4, .val (.b false))] (o2 (ob_eq (av_len s_.2.1)) (o1 (ob_eq (av_bool (decide_eq_false (p := ((k0 : Nat) : Int) < (s_.2.1.length : Int)) (by omega)))))) ?_
    refine ckF ?_
    refine awp_exit ?_
    exact Exists.intro () (And.intro (weak_fit (by kernel_rfl)) (forL_end hk0 (rfl) hI0))
  ·
    refine awp_seq ?_
    refine jn [(2, .b ((specIsValidSchema s_.1) && (decide ((s_.2.1.length : Int) ≤ (12 : Int)) && (specl01In s_.2.2 1 61))))] [1, 2] [] [1] (specIsValidSchema s_.1) (fun h9 => ?_) (fun h9 => ?_) ?_
    ·
      refine awp_split (decide ((s_.2.1.length : Int) ≤ (12 : Int))) (fun h10 => ?_) (fun h10 => ?_)
      ·
        have h10d := of_decide_eq_true h10
        refine rk tt_ok [(2, .b (specl01In s_.2.2 1 61))] [1, 2] [] [1] [(2, .val (.b true)), (6, .val (.i (s_.2.1.length : Int))), (7, .val (.b true)), (12, .val (.b (specl01In s_.2.2 1 61)))] (o2 (ob_call (cb h9 (specIsValidSchema_a s_.1))) (o2 (ob_eq (av_len s_.2.1)) (o2 (ob_eq (av_bool h10)) (o1 (ob_call (specl01In_a s_.2.2 1 61)))))) ?_
        exact ⟨rfl, weak_fit (by rw [h9, h10]; first | done | kernel_rfl)⟩
      ·
        have h10d := of_decide_eq_false h10
        refine rk tt_ok [] [1] [] [1] [(2, .val (.b true)), (6, .val (.i (s_.2.1.length : Int))), (7, .val (.b false))] (o2 (ob_call (cb h9 (specIsValidSchema_a s_.1))) (o2 (ob_eq (av_len s_.2.1)) (o1 (ob_eq (av_bool h10))))) ?_
        exact ⟨rfl, weak_fit (by rw [h9, h10]; first | done | kernel_rfl)⟩
    ·
      refine rk tt_ok [] [1] [] [1] [(2, .val (.b false))] (o1 (ob_call (cb h9 (specIsValidSchema_a s_.1)))) ?_
      exact ⟨rfl, weak_fit (by rw [h9]; first | done | kernel_rfl)⟩
    refine awp_ret ?_
    exact pret [] (congrArg (fun z => (.b z : AV)) (show specIsValidStore s_ = ((specIsValidSchema s_.1) && (decide ((s_.2.1.length : Int) ≤ (12 : Int)) && (specl01In s_.2.2 1 61))) from on_b hD0 (rfl)).symm)
end Go.Proofs.YtncjdkfjhkpkmaaGreatDoor
namespace Go.Proofs.YtncjdkfjhkpkmaaGreatDoor
open Go.RowKit
theorem kind_eq (s : List FieldD) (n : ByteArray) : specFieldKind s n = implFieldKind s n := rfl
theorem matchSchema_eq (s : List FieldD) (n : ByteArray) (v : ValueD) : specMatchesSchema s n v = implMatchesSchema s n v := by
  unfold specMatchesSchema implMatchesSchema
  rw [vval_eq, kind_eq]
theorem schema_eq (s : List FieldD) : specIsValidSchema s = implIsValidSchema s := by
  unfold specIsValidSchema implIsValidSchema
  rw [forL_ext (f := specIsValidSchema_f0 s) (g := implIsValidSchema_f0 s) (e := specIsValidSchema_e0) (e' := implIsValidSchema_e0) (fun k a u => by
    unfold specIsValidSchema_f0 implIsValidSchema_f0
    rw [vname_eq]
    have h : (!(specl01In a.2 1 2)) = ((a.2 != 1) && (a.2 != 2)) := by
      unfold specl01In
      rw [Bool.eq_iff_iff]; simp; omega
    rw [h]
    generalize (!(Op.bytesLess ((nth s (Int.toNat (((k : Nat) : Int) - 1))).1).toList a.1.toList)) = x
    cases specIsValidAttrName a.1 <;> cases (a.2 != (1 : Int)) <;> cases (a.2 != (2 : Int)) <;> cases decide (((k : Nat) : Int) > (0 : Int)) <;> cases x <;> rfl) (fun _ _ => rfl)]
theorem file_eq (s : List FieldD) (f : FileD) : specIsValidFile s f = implIsValidFile s f := by
  unfold specIsValidFile implIsValidFile
  rw [forL_ext (f := specIsValidFile_f0 s f) (g := implIsValidFile_f0 s f) (e := specIsValidFile_e0) (e' := implIsValidFile_e0) (fun k a u => by
    unfold specIsValidFile_f0 implIsValidFile_f0
    rw [matchSchema_eq]
    generalize (!(Op.bytesLess ((nth f.2.2.2.2 (Int.toNat (((k : Nat) : Int) - 1))).1).toList a.1.toList)) = x
    cases implMatchesSchema s a.1 a.2 <;> cases decide (((k : Nat) : Int) > (0 : Int)) <;> cases x <;> rfl) (fun _ _ => rfl), schema_eq]
  congr 1
  funext y
  unfold implisUser
  simp only [← within_in]
  cases implIsValidSchema s <;> cases implwithin f.1 1 60 <;> cases implwithin f.2.1 0 2 <;> cases implwithin f.2.2.2.1 0 60 <;> rfl
theorem store_eq (s : StoreD) : specIsValidStore s = implIsValidStore s := by
  unfold specIsValidStore implIsValidStore
  rw [forL_ext (f := specIsValidStore_f0 s) (g := implIsValidStore_f0 s) (e := specIsValidStore_e0) (e' := implIsValidStore_e0) (fun k a u => by
    unfold specIsValidStore_f0 implIsValidStore_f0
    rw [file_eq]) (fun _ _ => rfl), schema_eq]
  rfl
open GoE (enc wide)
def implGetAttr_f0 (name : ByteArray) (_ : Nat) (a0 : AttrD) (_ : Unit) : Rd (ValueD) (Unit) (Unit) := (bif (a0.1.toList == name.toList) then (.ret a0.2) else (.next ()))
def implGetAttr_e0 (_ : Nat) (_ : Unit) : Unit := ()
def implGetAttr (f : FileD) (name : ByteArray) : ValueD := (Out.on (forL (implGetAttr_f0 name) implGetAttr_e0 f.2.2.2.2 0 ()) (fun _ => (0, 0, ⟨#[]⟩)))
theorem implGetAttr_a (f : FileD) (name : ByteArray) : ACalls Tryz.prog 61 [.a [.i f.1, .i f.2.1, .b f.2.2.1, .i f.2.2.2.1, .h f.2.2.2.2], .s name] (.a [.i ((implGetAttr f name).1), .i ((implGetAttr f name).2.1), .s ((implGetAttr f name).2.2)]) := by
  refine acalls_of (tt := tt) tt_ok Tryz.func61 (fn := Tryz.f61) rfl (by unfold FnOk; kernel_rfl) (Nat.le_of_ble_eq_true rfl) fun w0 F0 hG => ?_
  refine awp_seq ?_
  refine rk tt_ok [(2, .p 2 0), (4, .p 4 0)] [0] [(2, [.i f.1, .i f.2.1, .b f.2.2.1, .i f.2.2.2.1, .h f.2.2.2.2]), (4, [.i 0, .i 0, .s ⟨#[]⟩])] [] [] (o0) ?_
  refine awp_seq ?_
  refine awp_seq ?_
  refine rk tt_ok [(8, .h f.2.2.2.2), (9, .i (f.2.2.2.2.length : Int)), (10, .i 0)] [2] [] [2] [(2, .val (.i (f.2.2.2.2.length : Int)))] (o1 (ob_eq (av_len f.2.2.2.2))) ?_
  refine wdT 8 0 .sh f.2.2.2.2 (fun hw1 => ?_)
  have hl2 : List.length f.2.2.2.2 ≤ 1073741824 := wide_len (hw1)
  refine blk (fun (k0 : Nat) (s0 : Unit) => [(10, .i ((k0 : Nat) : Int))]) [10] (fun k0 s0 => []) [] (fun (y0 : Unit) => []) [1, 8, 9, 10] (fun y0 => []) [] (fun (k0 : Nat) (s0 : Unit) => (forL (implGetAttr_f0 name) implGetAttr_e0 f.2.2.2.2 0 ()) = forL (implGetAttr_f0 name) implGetAttr_e0 (List.drop k0 f.2.2.2.2) k0 s0) (fun (y0 : Unit) => (forL (implGetAttr_f0 name) implGetAttr_e0 f.2.2.2.2 0 ()) = .brk y0) f.2.2.2.2.length () (weak_fit (by kernel_rfl)) rfl (fun k0 s0 hk0 hI0 => ?_) (fun k0 s0 hk0 hI0 => ?_) (fun y0 hD0 => ?_)
  ·
    obtain ⟨a0, hx0⟩ := get_some (l := f.2.2.2.2) (i := k0) hk0
    refine awp_seq ?_
    refine rk tt_ok [(11, .b true)] [] [] [] [(0, .val (.b true))] (o1 (ob_eq (av_bool (decide_eq_true (p := ((k0 : Nat) : Int) < (f.2.2.2.2.length : Int)) (by omega))))) ?_
    refine awp_seq ?_
    refine ckT ?_
    refine awp_skip ?_
    refine awp_seq ?_
    refine awp_block ?_
    refine awp_seq ?_
    refine rk tt_ok [(6, .p 6 0)] [11] [(6, [.s a0.1, .i a0.2.1, .i a0.2.2.1, .s a0.2.2.2])] [] [(0, .row [.s a0.1, .i a0.2.1, .i a0.2.2.1, .s a0.2.2.2])] (o1 (ob_elem (el_of (i := ((k0 : Nat) : Int)) (by omega) rfl hx0))) ?_
    refine awp_seq ?_
    refine rk tt_ok [(17, .b (a0.1.toList == name.toList))] [] [] [] [] (o0) ?_
    refine ck (a0.1.toList == name.toList) (fun h3 => ?_) (fun h3 => ?_)
    ·
      refine awp_seq ?_
      refine rk tt_ok [] [6, 17] [(4, [.i a0.2.1, .i a0.2.2.1, .s a0.2.2.2])] [4, 6] [] (o0) ?_
      refine awp_ret ?_
      have hr4 : (forL (implGetAttr_f0 name) implGetAttr_e0 f.2.2.2.2 0 ()) = .ret a0.2 := forL_ret hx0 (bif_t h3 (rfl)) hI0
      exact pret [] (congrArg (fun z => (.a [.i z.1, .i z.2.1, .s z.2.2] : AV)) (show implGetAttr f name = a0.2 from on_r hr4).symm)
    ·
      refine awp_skip ?_
      refine rk tt_ok [(10, .i ((k0 + 1 : Nat) : Int))] [6, 10, 17] [] [6] [(0, .val (.i ((k0 + 1 : Nat) : Int)))] (o1 (ob_eq (av_i (wrap_succ k0 (by omega))))) ?_
      exact Exists.intro () (And.intro (weak_fit (by kernel_rfl)) (forL_next hx0 (bif_f h3 (rfl)) hI0))
  ·
    refine awp_seq ?_
    refine rk tt_ok [(11, .b false)] [] [] [] [(0, .val (.b false))] (o1 (ob_eq (av_bool (decide_eq_false (p := ((k0 : Nat) : Int) < (f.2.2.2.2.length : Int)) (by omega))))) ?_
    refine awp_seq ?_
    refine ckF ?_
    refine awp_exit ?_
    exact Exists.intro () (And.intro (weak_fit (by kernel_rfl)) (forL_end hk0 (rfl) hI0))
  ·
    refine awp_seq ?_
    refine rk tt_ok [] [] [] [] [] (o0) ?_
    refine awp_ret ?_
    exact pret [] (congrArg (fun z => (.a [.i z.1, .i z.2.1, .s z.2.2] : AV)) (show implGetAttr f name = (0, 0, ⟨#[]⟩) from on_b hD0 (rfl)).symm)
def implIntAttr (f : FileD) (name : ByteArray) : Int × Bool := (bif ((implGetAttr f name).1 != (1 : Int)) then (0, false) else ((implGetAttr f name).2.1, true))
theorem implIntAttr_a (f : FileD) (name : ByteArray) : ACalls Tryz.prog 87 [.a [.i f.1, .i f.2.1, .b f.2.2.1, .i f.2.2.2.1, .h f.2.2.2.2], .s name] (.tup [(false, [.i (((implIntAttr f name)).1)]), (false, [.b (((implIntAttr f name)).2)])]) := by
  refine acalls_of (tt := tt) tt_ok Tryz.func87 (fn := Tryz.f87) rfl (by unfold FnOk; kernel_rfl) (Nat.le_of_ble_eq_true rfl) fun w0 F0 hG => ?_
  refine awp_seq ?_
  refine rk tt_ok [(2, .p 2 0), (4, .i 0), (5, .b false)] [0] [(2, [.i f.1, .i f.2.1, .b f.2.2.1, .i f.2.2.2.1, .h f.2.2.2.2])] [] [] (o0) ?_
  refine awp_seq ?_
  refine rk tt_ok [(6, .p 6 0)] [1, 2] [(6, [.i ((implGetAttr f name).1), .i ((implGetAttr f name).2.1), .s ((implGetAttr f name).2.2)])] [2] [(2, .val (.a [.i ((implGetAttr f name).1), .i ((implGetAttr f name).2.1), .s ((implGetAttr f name).2.2)]))] (o1 (ob_call (implGetAttr_a f name))) ?_
  refine awp_seq ?_
  refine awp_seq ?_
  refine rk tt_ok [(12, .b ((implGetAttr f name).1 != (1 : Int)))] [] [] [] [] (o0) ?_
  refine ck ((implGetAttr f name).1 != (1 : Int)) (fun h1 => ?_) (fun h1 => ?_)
  ·
    have h1d := ne_of_bne h1
    refine awp_seq ?_
    refine rk tt_ok [] [12] [] [] [] (o0) ?_
    refine awp_ret ?_
    exact pret [] (congrArg (fun z => (.tup [(false, [.i z.1]), (false, [.b z.2])] : AV)) (show implIntAttr f name = (0, false) from bif_t h1 (rfl)).symm)
  ·
    have h1d := eq_of_bne h1
    refine awp_skip ?_
    refine awp_seq ?_
    refine rk tt_ok [(4, .i ((implGetAttr f name).2.1)), (5, .b true)] [4, 5, 6, 12] [] [6] [] (o0) ?_
    refine awp_ret ?_
    exact pret [] (congrArg (fun z => (.tup [(false, [.i z.1]), (false, [.b z.2])] : AV)) (show implIntAttr f name = ((implGetAttr f name).2.1, true) from bif_f h1 (rfl)).symm)
def implResultIDs_f0 (name : ByteArray) (_ : Nat) (a0 : ResultD) (_ : Unit) : Rd ((List Int)) (Unit) (Unit) := (bif (a0.1.toList == name.toList) then (.ret a0.2) else (.next ()))
def implResultIDs_e0 (_ : Nat) (_ : Unit) : Unit := ()
def implResultIDs (r : (List ResultD)) (name : ByteArray) : (List Int) := (Out.on (forL (implResultIDs_f0 name) implResultIDs_e0 r 0 ()) (fun _ => []))
theorem implResultIDs_a (r : (List ResultD)) (name : ByteArray) : ACalls Tryz.prog 49 [.h r, .s name] (.o 0 (implResultIDs r name)) := by
  refine acalls_of (tt := tt) tt_ok Tryz.func49 (fn := Tryz.f49) rfl (by unfold FnOk; kernel_rfl) (Nat.le_of_ble_eq_true rfl) fun w0 F0 hG => ?_
  refine awp_seq ?_
  refine rk tt_ok [(4, .e 0)] [] [] [] [] (o0) ?_
  refine awp_seq ?_
  refine awp_seq ?_
  refine rk tt_ok [(7, .h r), (8, .i (r.length : Int)), (9, .i 0)] [0] [] [] [(1, .val (.i (r.length : Int)))] (o1 (ob_eq (av_len r))) ?_
  refine wdT 7 0 .sh r (fun hw1 => ?_)
  have hl2 : List.length r ≤ 1073741824 := wide_len (hw1)
  refine blk (fun (k0 : Nat) (s0 : Unit) => [(9, .i ((k0 : Nat) : Int))]) [9] (fun k0 s0 => []) [] (fun (y0 : Unit) => []) [1, 7, 8, 9] (fun y0 => []) [] (fun (k0 : Nat) (s0 : Unit) => (forL (implResultIDs_f0 name) implResultIDs_e0 r 0 ()) = forL (implResultIDs_f0 name) implResultIDs_e0 (List.drop k0 r) k0 s0) (fun (y0 : Unit) => (forL (implResultIDs_f0 name) implResultIDs_e0 r 0 ()) = .brk y0) r.length () (weak_fit (by kernel_rfl)) rfl (fun k0 s0 hk0 hI0 => ?_) (fun k0 s0 hk0 hI0 => ?_) (fun y0 hD0 => ?_)
  ·
    obtain ⟨a0, hx0⟩ := get_some (l := r) (i := k0) hk0
    refine awp_seq ?_
    refine rk tt_ok [(10, .b true)] [] [] [] [(0, .val (.b true))] (o1 (ob_eq (av_bool (decide_eq_true (p := ((k0 : Nat) : Int) < (r.length : Int)) (by omega))))) ?_
    refine awp_seq ?_
    refine ckT ?_
    refine awp_skip ?_
    refine awp_seq ?_
    refine awp_block ?_
    refine awp_seq ?_
    refine rk tt_ok [(6, .p 6 0)] [10] [(6, [.s a0.1, .h a0.2])] [] [(0, .row [.s a0.1, .h a0.2])] (o1 (ob_elem (el_of (i := ((k0 : Nat) : Int)) (by omega) rfl hx0))) ?_
    refine awp_seq ?_
    refine rk tt_ok [(16, .b (a0.1.toList == name.toList))] [] [] [] [] (o0) ?_
    refine ck (a0.1.toList == name.toList) (fun h3 => ?_) (fun h3 => ?_)
    ·
      refine awp_seq ?_
      refine rk tt_ok [(4, .o 1216 a0.2)] [4, 6, 16] [] [6] [(2, .val (.o 0 a0.2))] (o1 (ob_call (cloneInt_a a0.2))) ?_
      refine awp_ret ?_
      have hr4 : (forL (implResultIDs_f0 name) implResultIDs_e0 r 0 ()) = .ret a0.2 := forL_ret hx0 (bif_t h3 (rfl)) hI0
      exact pret [] (congrArg (fun z => (.o 0 z : AV)) (show implResultIDs r name = a0.2 from on_r hr4).symm)
    ·
      refine awp_skip ?_
      refine rk tt_ok [(9, .i ((k0 + 1 : Nat) : Int))] [6, 9, 16] [] [6] [(0, .val (.i ((k0 + 1 : Nat) : Int)))] (o1 (ob_eq (av_i (wrap_succ k0 (by omega))))) ?_
      exact Exists.intro () (And.intro (weak_fit (by kernel_rfl)) (forL_next hx0 (bif_f h3 (rfl)) hI0))
  ·
    refine awp_seq ?_
    refine rk tt_ok [(10, .b false)] [] [] [] [(0, .val (.b false))] (o1 (ob_eq (av_bool (decide_eq_false (p := ((k0 : Nat) : Int) < (r.length : Int)) (by omega))))) ?_
    refine awp_seq ?_
    refine ckF ?_
    refine awp_exit ?_
    exact Exists.intro () (And.intro (weak_fit (by kernel_rfl)) (forL_end hk0 (rfl) hI0))
  ·
    refine awp_seq ?_
    refine rk tt_ok [] [] [] [] [] (o0) ?_
    refine opn [(false, 4, 0, true, 384000, 1)] ?_
    refine awp_ret ?_
    exact pret [] (congrArg (fun z => (.o 0 z : AV)) (show implResultIDs r name = [] from on_b hD0 (rfl)).symm)
def slicesIndex_int_f0 (v : Int) (k0 : Nat) (a0 : Int) (_ : Unit) : Rd (Int) (Unit) (Unit) := (bif (v == a0) then (.ret ((k0 : Nat) : Int)) else (.next ()))
def slicesIndex_int_e0 (_ : Nat) (_ : Unit) : Unit := ()
def slicesIndex_int (s_ : (List Int)) (v : Int) : Int := (Out.on (forL (slicesIndex_int_f0 v) slicesIndex_int_e0 s_ 0 ()) (fun _ => -1))
theorem slicesIndex_int_a (s_ : (List Int)) (v : Int) : ACalls Tryz.prog 104 [.h s_, .i v] (.i (slicesIndex_int s_ v)) := by
  refine acalls_of (tt := tt) tt_ok Tryz.func104 (fn := Tryz.f104) rfl (by unfold FnOk; kernel_rfl) (Nat.le_of_ble_eq_true rfl) fun w0 F0 hG => ?_
  refine awp_seq ?_
  refine rk tt_ok [(4, .i 0)] [] [] [] [] (o0) ?_
  refine awp_seq ?_
  refine awp_seq ?_
  refine rk tt_ok [(7, .i (s_.length : Int)), (8, .i 0)] [] [] [] [(1, .val (.i (s_.length : Int)))] (o1 (ob_eq (av_len s_))) ?_
  refine wdT 0 0 .sh s_ (fun hw1 => ?_)
  have hl2 : List.length s_ ≤ 1073741824 := wide_len (hw1)
  refine blk (fun (k0 : Nat) (s0 : Unit) => [(8, .i ((k0 : Nat) : Int))]) [8] (fun k0 s0 => []) [] (fun (y0 : Unit) => []) [0, 1, 7, 8] (fun y0 => []) [] (fun (k0 : Nat) (s0 : Unit) => (forL (slicesIndex_int_f0 v) slicesIndex_int_e0 s_ 0 ()) = forL (slicesIndex_int_f0 v) slicesIndex_int_e0 (List.drop k0 s_) k0 s0) (fun (y0 : Unit) => (forL (slicesIndex_int_f0 v) slicesIndex_int_e0 s_ 0 ()) = .brk y0) s_.length () (weak_fit (by kernel_rfl)) rfl (fun k0 s0 hk0 hI0 => ?_) (fun k0 s0 hk0 hI0 => ?_) (fun y0 hD0 => ?_)
  ·
    obtain ⟨a0, hx0⟩ := get_some (l := s_) (i := k0) hk0
    refine awp_seq ?_
    refine rk tt_ok [(9, .b true)] [] [] [] [(0, .val (.b true))] (o1 (ob_eq (av_bool (decide_eq_true (p := ((k0 : Nat) : Int) < (s_.length : Int)) (by omega))))) ?_
    refine awp_seq ?_
    refine ckT ?_
    refine awp_skip ?_
    refine awp_seq ?_
    refine awp_block ?_
    refine awp_seq ?_
    refine rk tt_ok [(5, .i ((k0 : Nat) : Int))] [9] [] [] [] (o0) ?_
    refine awp_seq ?_
    refine rk tt_ok [(16, .b (v == a0))] [] [] [] [(3, .row [.i a0])] (o1 (ob_elem (el_of (i := ((k0 : Nat) : Int)) (by omega) rfl hx0))) ?_
    refine ck (v == a0) (fun h3 => ?_) (fun h3 => ?_)
    ·
      have h3d := eq_of_beq h3
      refine awp_seq ?_
      refine rk tt_ok [(4, .i ((k0 : Nat) : Int))] [4, 5, 16] [] [] [] (o0) ?_
      refine awp_ret ?_
      have hr4 : (forL (slicesIndex_int_f0 v) slicesIndex_int_e0 s_ 0 ()) = .ret ((k0 : Nat) : Int) := forL_ret hx0 (bif_t h3 (rfl)) hI0
      exact pret [] (congrArg (fun z => (.i z : AV)) (show slicesIndex_int s_ v = ((k0 : Nat) : Int) from on_r hr4).symm)
    ·
      have h3d := ne_of_beq h3
      refine awp_skip ?_
      refine rk tt_ok [(8, .i ((k0 + 1 : Nat) : Int))] [5, 8, 16] [] [] [(0, .val (.i ((k0 + 1 : Nat) : Int)))] (o1 (ob_eq (av_i (wrap_succ k0 (by omega))))) ?_
      exact Exists.intro () (And.intro (weak_fit (by kernel_rfl)) (forL_next hx0 (bif_f h3 (rfl)) hI0))
  ·
    refine awp_seq ?_
    refine rk tt_ok [(9, .b false)] [] [] [] [(0, .val (.b false))] (o1 (ob_eq (av_bool (decide_eq_false (p := ((k0 : Nat) : Int) < (s_.length : Int)) (by omega))))) ?_
    refine awp_seq ?_
    refine ckF ?_
    refine awp_exit ?_
    exact Exists.intro () (And.intro (weak_fit (by kernel_rfl)) (forL_end hk0 (rfl) hI0))
  ·
    refine awp_seq ?_
    refine rk tt_ok [(4, .i (-1))] [4] [] [] [] (o0) ?_
    refine awp_ret ?_
    exact pret [] (congrArg (fun z => (.i z : AV)) (show slicesIndex_int s_ v = -1 from on_b hD0 (rfl)).symm)
def slicesContains_int (s_ : (List Int)) (v : Int) : Bool := decide ((slicesIndex_int s_ v) ≥ (0 : Int))
theorem slicesContains_int_a (s_ : (List Int)) (v : Int) : ACalls Tryz.prog 96 [.h s_, .i v] (.b (slicesContains_int s_ v)) := by
  refine acalls_of (tt := tt) tt_ok Tryz.func96 (fn := Tryz.f96) rfl (by unfold FnOk; kernel_rfl) (Nat.le_of_ble_eq_true rfl) fun w0 F0 hG => ?_
  refine awp_seq ?_
  refine rk tt_ok [(4, .b false)] [] [] [] [] (o0) ?_
  refine awp_seq ?_
  refine rk tt_ok [(4, .b (decide ((slicesIndex_int s_ v) ≥ (0 : Int))))] [0, 1, 4] [] [] [(2, .val (.i (slicesIndex_int s_ v)))] (o1 (ob_call (slicesIndex_int_a s_ v))) ?_
  refine awp_ret ?_
  exact pret [] (congrArg (fun z => (.b z : AV)) (show slicesContains_int s_ v = decide ((slicesIndex_int s_ v) ≥ (0 : Int)) from rfl).symm)
def implContainsID (ids : (List Int)) (id : Int) : Bool := (slicesContains_int ids id)
theorem implContainsID_a (ids : (List Int)) (id : Int) : ACalls Tryz.prog 88 [.h ids, .i id] (.b (implContainsID ids id)) := by
  refine acalls_of (tt := tt) tt_ok Tryz.func88 (fn := Tryz.f88) rfl (by unfold FnOk; kernel_rfl) (Nat.le_of_ble_eq_true rfl) fun w0 F0 hG => ?_
  refine awp_seq ?_
  refine rk tt_ok [(4, .b false)] [] [] [] [] (o0) ?_
  refine awp_seq ?_
  refine rk tt_ok [(4, .b (slicesContains_int ids id))] [0, 1, 4] [] [] [(2, .val (.b (slicesContains_int ids id)))] (o1 (ob_call (slicesContains_int_a ids id))) ?_
  refine awp_ret ?_
  exact pret [] (congrArg (fun z => (.b z : AV)) (show implContainsID ids id = (slicesContains_int ids id) from rfl).symm)
def implmatchesAt (n_ : Nat) (q : (List NodeD)) (at_ : Int) (f : FileD) (r : (List ResultD)) : Bool := match n_ with
  | 0 => default
  | n_ + 1 => (bif ((nth q (Int.toNat at_)).1 == (2 : Int)) then ((implGetAttr f ((nth q (Int.toNat at_)).2.2.2.1)).1 != (0 : Int)) else (bif ((nth q (Int.toNat at_)).1 == (3 : Int)) then (((implGetAttr f ((nth q (Int.toNat at_)).2.2.2.1)).1 == (nth q (Int.toNat at_)).2.2.2.2.1) && (((implGetAttr f ((nth q (Int.toNat at_)).2.2.2.1)).2.1 == (nth q (Int.toNat at_)).2.2.2.2.2.1) && ((((implGetAttr f ((nth q (Int.toNat at_)).2.2.2.1)).2.2).toList == ((nth q (Int.toNat at_)).2.2.2.2.2.2).toList) && true))) else (bif ((nth q (Int.toNat at_)).1 == (4 : Int)) then (((implIntAttr f ((nth q (Int.toNat at_)).2.2.2.1))).2 && decide (((implIntAttr f ((nth q (Int.toNat at_)).2.2.2.1))).1 < (nth q (Int.toNat at_)).2.2.2.2.2.1)) else (bif ((nth q (Int.toNat at_)).1 == (5 : Int)) then (!(implmatchesAt n_ q ((nth q (Int.toNat at_)).2.1) f r)) else (bif ((nth q (Int.toNat at_)).1 == (6 : Int)) then ((implmatchesAt n_ q ((nth q (Int.toNat at_)).2.1) f r) && (implmatchesAt n_ q ((nth q (Int.toNat at_)).2.2.1) f r)) else (bif ((nth q (Int.toNat at_)).1 == (7 : Int)) then ((implmatchesAt n_ q ((nth q (Int.toNat at_)).2.1) f r) || (implmatchesAt n_ q ((nth q (Int.toNat at_)).2.2.1) f r)) else (bif ((nth q (Int.toNat at_)).1 == (8 : Int)) then (implContainsID (implResultIDs r ((nth q (Int.toNat at_)).2.2.2.1)) f.1) else (bif ((nth q (Int.toNat at_)).1 == (9 : Int)) then ((f.2.2.2.1 != (0 : Int)) && (implContainsID (implResultIDs r ((nth q (Int.toNat at_)).2.2.2.1)) f.2.2.2.1)) else true))))))))
theorem implmatchesAt_a : ∀ (n_ : Nat) (q : (List NodeD)) (at_ : Int) (f : FileD) (r : (List ResultD)) (hv : implIsValidQuery q = true) (ha : 0 ≤ at_) (hb : at_ < (q.length : Int)) (hn : at_ < ((n_ : Nat) : Int)), ACalls Tryz.prog 78 [.h q, .i at_, .a [.i f.1, .i f.2.1, .b f.2.2.1, .i f.2.2.2.1, .h f.2.2.2.2], .h r] (.b (implmatchesAt n_ q at_ f r)) := by
  intro n_
  induction n_ with
  | zero => intro q at_ f r hv ha hb hn; exact (by omega : False).elim
  | succ n_ ih =>
    intro q at_ f r hv ha hb hn
    refine acalls_of (tt := tt) tt_ok Tryz.func78 (fn := Tryz.f78) rfl (by unfold FnOk; kernel_rfl) (Nat.le_of_ble_eq_true rfl) fun w0 F0 hG => ?_
    refine awp_seq ?_
    refine rk tt_ok [(6, .p 6 0), (8, .b false)] [2] [(6, [.i f.1, .i f.2.1, .b f.2.2.1, .i f.2.2.2.1, .h f.2.2.2.2])] [] [] (o0) ?_
    refine awp_seq ?_
    refine wdT 0 0 .sh q (fun hw2 => ?_)
    have hl3 : List.length q ≤ 1073741824 := wide_len (hw2)
    have hx1 : q[(Int.toNat at_)]? = some (nth q (Int.toNat at_)) := nth_get (by omega)
    refine rk tt_ok [(9, .p 9 0)] [1] [(9, [.i ((nth q (Int.toNat at_)).1), .i ((nth q (Int.toNat at_)).2.1), .i ((nth q (Int.toNat at_)).2.2.1), .s ((nth q (Int.toNat at_)).2.2.2.1), .i ((nth q (Int.toNat at_)).2.2.2.2.1), .i ((nth q (Int.toNat at_)).2.2.2.2.2.1), .s ((nth q (Int.toNat at_)).2.2.2.2.2.2)])] [] [(2, .row [.i ((nth q (Int.toNat at_)).1), .i ((nth q (Int.toNat at_)).2.1), .i ((nth q (Int.toNat at_)).2.2.1), .s ((nth q (Int.toNat at_)).2.2.2.1), .i ((nth q (Int.toNat at_)).2.2.2.2.1), .i ((nth q (Int.toNat at_)).2.2.2.2.2.1), .s ((nth q (Int.toNat at_)).2.2.2.2.2.2)])] (o1 (ob_elem (el_of (i := at_) (by omega) rfl hx1))) ?_
    refine awp_seq ?_
    refine awp_seq ?_
    refine rk tt_ok [(17, .i ((nth q (Int.toNat at_)).1))] [] [] [] [] (o0) ?_
    refine awp_block ?_
    refine awp_seq ?_
    refine rk tt_ok [(18, .b ((nth q (Int.toNat at_)).1 == (2 : Int)))] [] [] [] [] (o0) ?_
    refine ck ((nth q (Int.toNat at_)).1 == (2 : Int)) (fun h4 => ?_) (fun h4 => ?_)
    ·
      have h4d := eq_of_beq h4
      refine awp_seq ?_
      refine rk tt_ok [(8, .b ((implGetAttr f ((nth q (Int.toNat at_)).2.2.2.1)).1 != (0 : Int)))] [0, 3, 6, 8, 9, 17, 18] [] [6, 9] [(3, .val (.a [.i ((implGetAttr f ((nth q (Int.toNat at_)).2.2.2.1)).1), .i ((implGetAttr f ((nth q (Int.toNat at_)).2.2.2.1)).2.1), .s ((implGetAttr f ((nth q (Int.toNat at_)).2.2.2.1)).2.2)]))] (o1 (ob_call (implGetAttr_a f ((nth q (Int.toNat at_)).2.2.2.1)))) ?_
      refine awp_ret ?_
      exact pret [] (congrArg (fun z => (.b z : AV)) (show implmatchesAt (n_ + 1) q at_ f r = ((implGetAttr f ((nth q (Int.toNat at_)).2.2.2.1)).1 != (0 : Int)) from bif_t h4 (rfl)).symm)
    ·
      have h4d := ne_of_beq h4
      refine awp_seq ?_
      refine rk tt_ok [(26, .b ((nth q (Int.toNat at_)).1 == (3 : Int)))] [18] [] [] [] (o0) ?_
      refine ck ((nth q (Int.toNat at_)).1 == (3 : Int)) (fun h5 => ?_) (fun h5 => ?_)
      ·
        have h5d := eq_of_beq h5
        refine awp_seq ?_
        refine rd' tt_ok tt_mx [(8, .b (((implGetAttr f ((nth q (Int.toNat at_)).2.2.2.1)).1 == (nth q (Int.toNat at_)).2.2.2.2.1) && (((implGetAttr f ((nth q (Int.toNat at_)).2.2.2.1)).2.1 == (nth q (Int.toNat at_)).2.2.2.2.2.1) && ((((implGetAttr f ((nth q (Int.toNat at_)).2.2.2.1)).2.2).toList == ((nth q (Int.toNat at_)).2.2.2.2.2.2).toList) && true))))] [0, 3, 6, 8, 9, 17, 26] [] [6, 9] [(3, .val (.a [.i ((implGetAttr f ((nth q (Int.toNat at_)).2.2.2.1)).1), .i ((implGetAttr f ((nth q (Int.toNat at_)).2.2.2.1)).2.1), .s ((implGetAttr f ((nth q (Int.toNat at_)).2.2.2.1)).2.2)]))] (o1 (ob_call (implGetAttr_a f ((nth q (Int.toNat at_)).2.2.2.1)))) ?_
        refine awp_ret ?_
        exact pret [] (congrArg (fun z => (.b z : AV)) (show implmatchesAt (n_ + 1) q at_ f r = (((implGetAttr f ((nth q (Int.toNat at_)).2.2.2.1)).1 == (nth q (Int.toNat at_)).2.2.2.2.1) && (((implGetAttr f ((nth q (Int.toNat at_)).2.2.2.1)).2.1 == (nth q (Int.toNat at_)).2.2.2.2.2.1) && ((((implGetAttr f ((nth q (Int.toNat at_)).2.2.2.1)).2.2).toList == ((nth q (Int.toNat at_)).2.2.2.2.2.2).toList) && true))) from bif_f h4 (bif_t h5 (rfl))).symm)
      ·
        have h5d := ne_of_beq h5
        refine awp_seq ?_
        refine rk tt_ok [(35, .b ((nth q (Int.toNat at_)).1 == (4 : Int)))] [26] [] [] [] (o0) ?_
        refine ck ((nth q (Int.toNat at_)).1 == (4 : Int)) (fun h6 => ?_) (fun h6 => ?_)
        ·
          have h6d := eq_of_beq h6
          refine awp_seq ?_
          refine rk tt_ok [(10, .i (((implIntAttr f ((nth q (Int.toNat at_)).2.2.2.1))).1)), (11, .b (((implIntAttr f ((nth q (Int.toNat at_)).2.2.2.1))).2))] [0, 3, 6, 17, 35] [] [6] [(3, .val (.tup [(false, [.i (((implIntAttr f ((nth q (Int.toNat at_)).2.2.2.1))).1)]), (false, [.b (((implIntAttr f ((nth q (Int.toNat at_)).2.2.2.1))).2)])]))] (o1 (ob_call (implIntAttr_a f ((nth q (Int.toNat at_)).2.2.2.1)))) ?_
          refine awp_seq ?_
          refine jn [(8, .b (((implIntAttr f ((nth q (Int.toNat at_)).2.2.2.1))).2 && decide (((implIntAttr f ((nth q (Int.toNat at_)).2.2.2.1))).1 < (nth q (Int.toNat at_)).2.2.2.2.2.1)))] [8, 9, 10, 11] [] [9] (((implIntAttr f ((nth q (Int.toNat at_)).2.2.2.1))).2) (fun h7 => ?_) (fun h7 => ?_) ?_
          ·
            refine rk tt_ok [(8, .b (decide (((implIntAttr f ((nth q (Int.toNat at_)).2.2.2.1))).1 < (nth q (Int.toNat at_)).2.2.2.2.2.1)))] [8, 9, 10, 11] [] [9] [(0, .val (.b true))] (o1 (ob_eq (av_bool h7))) ?_
            exact ⟨rfl, weak_fit (by rw [h7]; first | done | kernel_rfl)⟩
          ·
            refine rk tt_ok [] [9, 10, 11] [] [9] [(0, .val (.b false))] (o1 (ob_eq (av_bool h7))) ?_
            exact ⟨rfl, weak_fit (by rw [h7]; first | done | kernel_rfl)⟩
          refine awp_ret ?_
          exact pret [] (congrArg (fun z => (.b z : AV)) (show implmatchesAt (n_ + 1) q at_ f r = (((implIntAttr f ((nth q (Int.toNat at_)).2.2.2.1))).2 && decide (((implIntAttr f ((nth q (Int.toNat at_)).2.2.2.1))).1 < (nth q (Int.toNat at_)).2.2.2.2.2.1)) from bif_f h4 (bif_f h5 (bif_t h6 (rfl)))).symm)
        ·
          have h6d := ne_of_beq h6
          refine awp_seq ?_
          refine rk tt_ok [(52, .b ((nth q (Int.toNat at_)).1 == (5 : Int)))] [35] [] [] [] (o0) ?_
          refine ck ((nth q (Int.toNat at_)).1 == (5 : Int)) (fun h8 => ?_) (fun h8 => ?_)
          ·
            have h8d := eq_of_beq h8
            refine awp_seq ?_
            refine rk tt_ok [(8, .b (!(implmatchesAt n_ q ((nth q (Int.toNat at_)).2.1) f r)))] [0, 3, 6, 8, 9, 17, 52] [] [6, 9] [(5, .val (.b (implmatchesAt n_ q ((nth q (Int.toNat at_)).2.1) f r)))] (o1 (ob_call (ih q ((nth q (Int.toNat at_)).2.1) f r hv (by have hz := ql_a hv ha hb h8; omega) (by have hz := ql_a hv ha hb h8; omega) (by have hz := ql_a hv ha hb h8; omega)))) ?_
            refine awp_ret ?_
            exact pret [] (congrArg (fun z => (.b z : AV)) (show implmatchesAt (n_ + 1) q at_ f r = (!(implmatchesAt n_ q ((nth q (Int.toNat at_)).2.1) f r)) from bif_f h4 (bif_f h5 (bif_f h6 (bif_t h8 (rfl))))).symm)
          ·
            have h8d := ne_of_beq h8
            refine awp_seq ?_
            refine rk tt_ok [(61, .b ((nth q (Int.toNat at_)).1 == (6 : Int)))] [52] [] [] [] (o0) ?_
            refine ck ((nth q (Int.toNat at_)).1 == (6 : Int)) (fun h9 => ?_) (fun h9 => ?_)
            ·
              have h9d := eq_of_beq h9
              refine awp_seq ?_
              refine jn [(8, .b ((implmatchesAt n_ q ((nth q (Int.toNat at_)).2.1) f r) && (implmatchesAt n_ q ((nth q (Int.toNat at_)).2.2.1) f r)))] [0, 3, 6, 8, 9, 17, 61] [] [6, 9] (implmatchesAt n_ q ((nth q (Int.toNat at_)).2.1) f r) (fun h10 => ?_) (fun h10 => ?_) ?_
              ·
                refine rk tt_ok [(8, .b (implmatchesAt n_ q ((nth q (Int.toNat at_)).2.2.1) f r))] [0, 3, 6, 8, 9, 17, 61] [] [6, 9] [(5, .val (.b true)), (12, .val (.b (implmatchesAt n_ q ((nth q (Int.toNat at_)).2.2.1) f r)))] (o2 (ob_call (cb h10 (ih q ((nth q (Int.toNat at_)).2.1) f r hv (by have hz := ql_b hv ha hb h9; omega) (by have hz := ql_b hv ha hb h9; omega) (by have hz := ql_b hv ha hb h9; omega)))) (o1 (ob_call (ih q ((nth q (Int.toNat at_)).2.2.1) f r hv (by have hz := qr_b hv ha hb h9; omega) (by have hz := qr_b hv ha hb h9; omega) (by have hz := qr_b hv ha hb h9; omega))))) ?_
                exact ⟨rfl, weak_fit (by rw [h10]; first | done | kernel_rfl)⟩
              ·
                refine rk tt_ok [] [0, 3, 6, 9, 17, 61] [] [6, 9] [(5, .val (.b false))] (o1 (ob_call (cb h10 (ih q ((nth q (Int.toNat at_)).2.1) f r hv (by have hz := ql_b hv ha hb h9; omega) (by have hz := ql_b hv ha hb h9; omega) (by have hz := ql_b hv ha hb h9; omega))))) ?_
                exact ⟨rfl, weak_fit (by rw [h10]; first | done | kernel_rfl)⟩
              refine awp_ret ?_
              exact pret [] (congrArg (fun z => (.b z : AV)) (show implmatchesAt (n_ + 1) q at_ f r = ((implmatchesAt n_ q ((nth q (Int.toNat at_)).2.1) f r) && (implmatchesAt n_ q ((nth q (Int.toNat at_)).2.2.1) f r)) from bif_f h4 (bif_f h5 (bif_f h6 (bif_f h8 (bif_t h9 (rfl)))))).symm)
            ·
              have h9d := ne_of_beq h9
              refine awp_seq ?_
              refine rk tt_ok [(77, .b ((nth q (Int.toNat at_)).1 == (7 : Int)))] [61] [] [] [] (o0) ?_
              refine ck ((nth q (Int.toNat at_)).1 == (7 : Int)) (fun h11 => ?_) (fun h11 => ?_)
              ·
                have h11d := eq_of_beq h11
                refine awp_seq ?_
                refine jn [(8, .b ((implmatchesAt n_ q ((nth q (Int.toNat at_)).2.1) f r) || (implmatchesAt n_ q ((nth q (Int.toNat at_)).2.2.1) f r)))] [0, 3, 6, 8, 9, 17, 77] [] [6, 9] (implmatchesAt n_ q ((nth q (Int.toNat at_)).2.1) f r) (fun h12 => ?_) (fun h12 => ?_) ?_
                ·
                  refine rk tt_ok [(8, .b true)] [0, 3, 6, 8, 9, 17, 77] [] [6, 9] [(5, .val (.b true))] (o1 (ob_call (cb h12 (ih q ((nth q (Int.toNat at_)).2.1) f r hv (by have hz := ql_c hv ha hb h11; omega) (by have hz := ql_c hv ha hb h11; omega) (by have hz := ql_c hv ha hb h11; omega))))) ?_
                  exact ⟨rfl, weak_fit (by rw [h12]; first | done | kernel_rfl)⟩
                ·
                  refine rk tt_ok [(8, .b (implmatchesAt n_ q ((nth q (Int.toNat at_)).2.2.1) f r))] [0, 3, 6, 8, 9, 17, 77] [] [6, 9] [(5, .val (.b false)), (12, .val (.b (implmatchesAt n_ q ((nth q (Int.toNat at_)).2.2.1) f r)))] (o2 (ob_call (cb h12 (ih q ((nth q (Int.toNat at_)).2.1) f r hv (by have hz := ql_c hv ha hb h11; omega) (by have hz := ql_c hv ha hb h11; omega) (by have hz := ql_c hv ha hb h11; omega)))) (o1 (ob_call (ih q ((nth q (Int.toNat at_)).2.2.1) f r hv (by have hz := qr_c hv ha hb h11; omega) (by have hz := qr_c hv ha hb h11; omega) (by have hz := qr_c hv ha hb h11; omega))))) ?_
                  exact ⟨rfl, weak_fit (by rw [h12]; first | done | kernel_rfl)⟩
                refine awp_ret ?_
                exact pret [] (congrArg (fun z => (.b z : AV)) (show implmatchesAt (n_ + 1) q at_ f r = ((implmatchesAt n_ q ((nth q (Int.toNat at_)).2.1) f r) || (implmatchesAt n_ q ((nth q (Int.toNat at_)).2.2.1) f r)) from bif_f h4 (bif_f h5 (bif_f h6 (bif_f h8 (bif_f h9 (bif_t h11 (rfl))))))).symm)
              ·
                have h11d := ne_of_beq h11
                refine awp_seq ?_
                refine rk tt_ok [(93, .b ((nth q (Int.toNat at_)).1 == (8 : Int)))] [0, 77] [] [] [] (o0) ?_
                refine ck ((nth q (Int.toNat at_)).1 == (8 : Int)) (fun h13 => ?_) (fun h13 => ?_)
                ·
                  have h13d := eq_of_beq h13
                  refine awp_seq ?_
                  refine rd' tt_ok tt_mx [(8, .b (implContainsID (implResultIDs r ((nth q (Int.toNat at_)).2.2.2.1)) f.1))] [3, 6, 8, 9, 17, 93] [] [6, 9] [(3, .val (.o 0 (implResultIDs r ((nth q (Int.toNat at_)).2.2.2.1)))), (6, .val (.b (implContainsID (implResultIDs r ((nth q (Int.toNat at_)).2.2.2.1)) f.1)))] (o2 (ob_call (implResultIDs_a r ((nth q (Int.toNat at_)).2.2.2.1))) (o1 (ob_call (implContainsID_a (implResultIDs r ((nth q (Int.toNat at_)).2.2.2.1)) f.1)))) ?_
                  refine awp_ret ?_
                  exact pret [] (congrArg (fun z => (.b z : AV)) (show implmatchesAt (n_ + 1) q at_ f r = (implContainsID (implResultIDs r ((nth q (Int.toNat at_)).2.2.2.1)) f.1) from bif_f h4 (bif_f h5 (bif_f h6 (bif_f h8 (bif_f h9 (bif_f h11 (bif_t h13 (rfl)))))))).symm)
                ·
                  have h13d := ne_of_beq h13
                  refine awp_seq ?_
                  refine rk tt_ok [(102, .b ((nth q (Int.toNat at_)).1 == (9 : Int)))] [17, 93] [] [] [] (o0) ?_
                  refine ck ((nth q (Int.toNat at_)).1 == (9 : Int)) (fun h14 => ?_) (fun h14 => ?_)
                  ·
                    have h14d := eq_of_beq h14
                    refine awp_seq ?_
                    refine jn [(8, .b ((f.2.2.2.1 != (0 : Int)) && (implContainsID (implResultIDs r ((nth q (Int.toNat at_)).2.2.2.1)) f.2.2.2.1)))] [3, 6, 8, 9, 102] [] [6, 9] (f.2.2.2.1 != (0 : Int)) (fun h15 => ?_) (fun h15 => ?_) ?_
                    ·
                      have h15d := ne_of_bne h15
                      refine rd' tt_ok tt_mx [(8, .b (implContainsID (implResultIDs r ((nth q (Int.toNat at_)).2.2.2.1)) f.2.2.2.1))] [3, 6, 8, 9, 102] [] [6, 9] [(2, .val (.b true)), (7, .val (.o 0 (implResultIDs r ((nth q (Int.toNat at_)).2.2.2.1)))), (10, .val (.b (implContainsID (implResultIDs r ((nth q (Int.toNat at_)).2.2.2.1)) f.2.2.2.1)))] (o2 (ob_eq (av_bool h15)) (o2 (ob_call (implResultIDs_a r ((nth q (Int.toNat at_)).2.2.2.1))) (o1 (ob_call (implContainsID_a (implResultIDs r ((nth q (Int.toNat at_)).2.2.2.1)) f.2.2.2.1))))) ?_
                      exact ⟨rfl, weak_fit (by rw [h15]; first | done | kernel_rfl)⟩
                    ·
                      have h15d := eq_of_bne h15
                      refine rd' tt_ok tt_mx [] [3, 6, 9, 102] [] [6, 9] [(2, .val (.b false))] (o1 (ob_eq (av_bool h15))) ?_
                      exact ⟨rfl, weak_fit (by rw [h15]; first | done | kernel_rfl)⟩
                    refine awp_ret ?_
                    exact pret [] (congrArg (fun z => (.b z : AV)) (show implmatchesAt (n_ + 1) q at_ f r = ((f.2.2.2.1 != (0 : Int)) && (implContainsID (implResultIDs r ((nth q (Int.toNat at_)).2.2.2.1)) f.2.2.2.1)) from bif_f h4 (bif_f h5 (bif_f h6 (bif_f h8 (bif_f h9 (bif_f h11 (bif_f h13 (bif_t h14 (rfl))))))))).symm)
                  ·
                    have h14d := ne_of_beq h14
                    refine awp_skip ?_
                    refine awp_seq ?_
                    refine rk tt_ok [(8, .b true)] [3, 6, 8, 9, 102] [] [6, 9] [] (o0) ?_
                    refine awp_ret ?_
                    exact pret [] (congrArg (fun z => (.b z : AV)) (show implmatchesAt (n_ + 1) q at_ f r = true from bif_f h4 (bif_f h5 (bif_f h6 (bif_f h8 (bif_f h9 (bif_f h11 (bif_f h13 (bif_f h14 (rfl))))))))).symm)
def implMatches (q : (List NodeD)) (f : FileD) (r : (List ResultD)) : Bool := ((implIsValidQuery q) && (implmatchesAt (List.length q) q ((q.length : Int) - 1) f r))
theorem implMatches_a (q : (List NodeD)) (f : FileD) (r : (List ResultD)) : ACalls Tryz.prog 72 [.h q, .a [.i f.1, .i f.2.1, .b f.2.2.1, .i f.2.2.2.1, .h f.2.2.2.2], .h r] (.b (implMatches q f r)) := by
  refine acalls_of (tt := tt) tt_ok Tryz.func72 (fn := Tryz.f72) rfl (by unfold FnOk; kernel_rfl) (Nat.le_of_ble_eq_true rfl) fun w0 F0 hG => ?_
  refine awp_seq ?_
  refine rk tt_ok [(4, .p 4 0), (6, .b false)] [1] [(4, [.i f.1, .i f.2.1, .b f.2.2.1, .i f.2.2.2.1, .h f.2.2.2.2])] [] [] (o0) ?_
  refine awp_seq ?_
  refine jn [(6, .b ((implIsValidQuery q) && (implmatchesAt (List.length q) q ((q.length : Int) - 1) f r)))] [0, 2, 4, 6] [] [4] (implIsValidQuery q) (fun h1 => ?_) (fun h1 => ?_) ?_
  ·
    refine wdT 0 0 .sh q (fun hw2 => ?_)
    have hl3 : List.length q ≤ 1073741824 := wide_len (hw2)
    refine rk tt_ok [(6, .b (implmatchesAt (List.length q) q ((q.length : Int) - 1) f r))] [0, 2, 4, 6] [] [4] [(1, .val (.b true)), (5, .val (.i (q.length : Int))), (6, .val (.i ((q.length : Int) - 1))), (9, .val (.b (implmatchesAt (List.length q) q ((q.length : Int) - 1) f r)))] (o2 (ob_call (cb h1 (implIsValidQuery_a q))) (o2 (ob_eq (av_len q)) (o2 (ob_eq (av_i (IntWalk.i64_in ((q.length : Int) - 1) (by omega)))) (o1 (ob_call (implmatchesAt_a (List.length q) q ((q.length : Int) - 1) f r h1 (by have := vq_len h1; omega) (by omega) (by omega))))))) ?_
    exact ⟨rfl, weak_fit (by rw [h1]; first | done | kernel_rfl)⟩
  ·
    refine rk tt_ok [] [0, 2, 4] [] [4] [(1, .val (.b false))] (o1 (ob_call (cb h1 (implIsValidQuery_a q)))) ?_
    exact ⟨rfl, weak_fit (by rw [h1]; first | done | kernel_rfl)⟩
  refine awp_ret ?_
  exact pret [] (congrArg (fun z => (.b z : AV)) (show implMatches q f r = ((implIsValidQuery q) && (implmatchesAt (List.length q) q ((q.length : Int) - 1) f r)) from rfl).symm)
def implSelectFiles_f0 (q : (List NodeD)) (r : (List ResultD)) (_ : Nat) (a0 : FileD) (s0 : (List Int)) : Rd ((List Int)) ((List Int)) ((List Int)) := (bif (implMatches q a0 r) then (.next (s0 ++ [a0.1])) else (.next s0))
def implSelectFiles_e0 (_ : Nat) (s0 : (List Int)) : (List Int) := s0
def implSelectFiles (s_ : StoreD) (q : (List NodeD)) (r : (List ResultD)) : (List Int) := (Out.on (forL (implSelectFiles_f0 q r) implSelectFiles_e0 s_.2.1 0 []) (fun y0 => y0))
theorem implSelectFiles_a (s_ : StoreD) (q : (List NodeD)) (r : (List ResultD)) : ACalls Tryz.prog 56 [.a [.h s_.1, .h s_.2.1, .i s_.2.2], .h q, .h r] (.o 0 (implSelectFiles s_ q r)) := by
  refine acalls_of (tt := tt) tt_ok Tryz.func56 (fn := Tryz.f56) rfl (by unfold FnOk; kernel_rfl) (Nat.le_of_ble_eq_true rfl) fun w0 F0 hG => ?_
  refine awp_seq ?_
  refine rk tt_ok [(3, .p 3 0), (6, .e 0)] [0] [(3, [.h s_.1, .h s_.2.1, .i s_.2.2])] [] [] (o0) ?_
  refine awp_seq ?_
  refine rk tt_ok [(7, .one (.slc (.own true 640) 1 []))] [] [] [] [] (o0) ?_
  refine awp_seq ?_
  refine awp_seq ?_
  refine rk tt_ok [(12, .h s_.2.1), (13, .i (s_.2.1.length : Int)), (14, .i 0)] [3] [] [3] [(2, .val (.i (s_.2.1.length : Int)))] (o1 (ob_eq (av_len s_.2.1))) ?_
  refine wdT 12 0 .sh s_.2.1 (fun hw1 => ?_)
  have hl2 : List.length s_.2.1 ≤ 1073741824 := wide_len (hw1)
  refine blk (fun (k0 : Nat) (s0 : (List Int)) => [(7, .o 147203 s0), (14, .i ((k0 : Nat) : Int))]) [7, 14] (fun k0 s0 => []) [] (fun (y0 : (List Int)) => [(7, .o 147353 y0)]) [1, 2, 7, 12, 13, 14] (fun y0 => []) [] (fun (k0 : Nat) (s0 : (List Int)) => (forL (implSelectFiles_f0 q r) implSelectFiles_e0 s_.2.1 0 []) = forL (implSelectFiles_f0 q r) implSelectFiles_e0 (List.drop k0 s_.2.1) k0 s0 ∧ List.length s0 ≤ k0) (fun (y0 : (List Int)) => (forL (implSelectFiles_f0 q r) implSelectFiles_e0 s_.2.1 0 []) = .brk y0) s_.2.1.length [] (weak_sf [(640, 147203)] (by kernel_rfl)) ⟨rfl, (by simp)⟩ (fun k0 s0 hk0 hI0 => ?_) (fun k0 s0 hk0 hI0 => ?_) (fun y0 hD0 => ?_)
  ·
    have hA0_0 := hI0.2
    obtain ⟨a0, hx0⟩ := get_some (l := s_.2.1) (i := k0) hk0
    refine awp_seq ?_
    refine rk tt_ok [(15, .b true)] [] [] [] [(0, .val (.b true))] (o1 (ob_eq (av_bool (decide_eq_true (p := ((k0 : Nat) : Int) < (s_.2.1.length : Int)) (by omega))))) ?_
    refine awp_seq ?_
    refine ckT ?_
    refine awp_skip ?_
    refine awp_seq ?_
    refine awp_block ?_
    refine awp_seq ?_
    refine rk tt_ok [(9, .p 9 0)] [15] [(9, [.i a0.1, .i a0.2.1, .b a0.2.2.1, .i a0.2.2.2.1, .h a0.2.2.2.2])] [] [(0, .row [.i a0.1, .i a0.2.1, .b a0.2.2.1, .i a0.2.2.2.1, .h a0.2.2.2.2])] (o1 (ob_elem (el_of (i := ((k0 : Nat) : Int)) (by omega) rfl hx0))) ?_
    refine awp_seq ?_
    refine rk tt_ok [(21, .b (implMatches q a0 r))] [] [] [] [(3, .val (.b (implMatches q a0 r)))] (o1 (ob_call (implMatches_a q a0 r))) ?_
    refine ck (implMatches q a0 r) (fun h3 => ?_) (fun h3 => ?_)
    ·
      refine wdT 7 0 (.own true 147203) s0 (fun hw4 => ?_)
      have hl5 : List.length s0 ≤ 1073741824 := wide_len (hw4)
      refine rk tt_ok [(7, .one (.slc (.own true 1664) 1 ((eL s0) ++ [[.i a0.1]])))] [7, 9, 21] [] [9] [] (o1 (ob_len (len_of (eL_length s0) (eL_length [a0.1]) (by first | omega | (simp; omega) | simp)))) ?_
      refine eqn [(7, .o 1664 (s0 ++ [a0.1]))] [7] [] [] (by rw [show ((eL s0) ++ [[.i a0.1]]) = (eL (s0 ++ [a0.1])) from app_eL (rfl) (rfl)]; first | done | kernel_rfl) ?_
      refine rk tt_ok [(14, .i ((k0 + 1 : Nat) : Int))] [14] [] [] [(0, .val (.i ((k0 + 1 : Nat) : Int)))] (o1 (ob_eq (av_i (wrap_succ k0 (by omega))))) ?_
      exact Exists.intro (s0 ++ [a0.1]) (And.intro (weak_sf [(1664, 147203)] (by kernel_rfl)) ⟨forL_next hx0 (bif_t h3 (rfl)) hI0.1, by first | omega | (simp; omega) | simp⟩)
    ·
      refine awp_skip ?_
      refine rk tt_ok [(14, .i ((k0 + 1 : Nat) : Int))] [9, 14, 21] [] [9] [(0, .val (.i ((k0 + 1 : Nat) : Int)))] (o1 (ob_eq (av_i (wrap_succ k0 (by omega))))) ?_
      exact Exists.intro s0 (And.intro (weak_fit (by kernel_rfl)) ⟨forL_next hx0 (bif_f h3 (rfl)) hI0.1, by first | omega | (simp; omega) | simp⟩)
  ·
    have hA0_0 := hI0.2
    refine awp_seq ?_
    refine rk tt_ok [(15, .b false)] [] [] [] [(0, .val (.b false))] (o1 (ob_eq (av_bool (decide_eq_false (p := ((k0 : Nat) : Int) < (s_.2.1.length : Int)) (by omega))))) ?_
    refine awp_seq ?_
    refine ckF ?_
    refine awp_exit ?_
    exact Exists.intro s0 (And.intro (weak_sf [(147203, 147353)] (by kernel_rfl)) (forL_end hk0 (rfl) hI0.1))
  ·
    refine awp_seq ?_
    refine rk tt_ok [(6, .o 147353 y0)] [6, 7] [] [] [] (o0) ?_
    refine awp_ret ?_
    exact pret [] (congrArg (fun z => (.o 0 z : AV)) (show implSelectFiles s_ q r = y0 from on_b hD0 (rfl)).symm)
end Go.Proofs.YtncjdkfjhkpkmaaGreatDoor
namespace Go.Proofs.YtncjdkfjhkpkmaaGreatDoor
open Go.RowKit
theorem vn_op {n : NodeD} {k : Int} (h : implIsValidNode n k = true) : n.1 = 1 ∨ n.1 = 2 ∨ n.1 = 3 ∨ n.1 = 4 ∨ n.1 = 5 ∨ n.1 = 6 ∨ n.1 = 7 ∨ n.1 = 8 ∨ n.1 = 9 := by
  refine Classical.byContradiction fun hn => ?_
  simp only [not_or] at hn
  obtain ⟨h1, h2, h3, h4, h5, h6, h7, h8, h9⟩ := hn
  unfold implIsValidNode at h
  simp only [beq_eq_false_iff_ne.2 h1, beq_eq_false_iff_ne.2 h2, beq_eq_false_iff_ne.2 h3, beq_eq_false_iff_ne.2 h4, beq_eq_false_iff_ne.2 h5, beq_eq_false_iff_ne.2 h6, beq_eq_false_iff_ne.2 h7, beq_eq_false_iff_ne.2 h8, beq_eq_false_iff_ne.2 h9, cond_false] at h
  cases h
end Go.Proofs.YtncjdkfjhkpkmaaGreatDoor
namespace Go.Proofs.YtncjdkfjhkpkmaaGreatDoor
section
variable {φ : Type} (fs : List φ) (idOf : φ → Int)
def sel (p : φ → Bool) : List Int := (fs.filter p).map idOf
theorem filter_grow {p q : φ → Bool} : ∀ (l : List φ), (∀ f, f ∈ l → p f = true → q f = true) → (l.filter p).length ≤ (l.filter q).length ∧ ((l.filter q).length ≤ (l.filter p).length → l.filter p = l.filter q)
  | [], _ => ⟨Nat.le_refl _, fun _ => rfl⟩
  | f :: l, h => by
    obtain ⟨h1, h2⟩ := filter_grow l fun g hg => h g (List.mem_cons_of_mem _ hg)
    have h0 := h f (List.mem_cons_self ..)
    cases hp : p f with
    | true =>
      have hq := h0 hp
      simp only [List.filter_cons, hp, hq, if_true, List.length_cons]
      exact ⟨by omega, fun hl => by rw [h2 (by omega)]⟩
    | false =>
      cases hq : q f with
      | true =>
        simp only [List.filter_cons, hp, hq, if_true, List.length_cons, Bool.false_eq_true, if_false]
        exact ⟨by omega, fun hl => absurd hl (by omega)⟩
      | false =>
        simp only [List.filter_cons, hp, hq, Bool.false_eq_true, if_false]
        exact ⟨h1, h2⟩
theorem sel_len (p : φ → Bool) : (sel fs idOf p).length ≤ fs.length := by
  unfold sel; rw [List.length_map]; exact List.length_filter_le _ _
variable {fs idOf}
theorem sel_grow {p q : φ → Bool} (h : ∀ f, f ∈ fs → p f = true → q f = true) (hn : sel fs idOf p ≠ sel fs idOf q) : (sel fs idOf p).length + 1 ≤ (sel fs idOf q).length := by
  obtain ⟨h1, h2⟩ := filter_grow fs h
  unfold sel at hn ⊢
  rw [List.length_map, List.length_map]
  refine Nat.lt_of_le_of_ne h1 fun e => hn ?_
  rw [h2 (by omega)]
theorem sel_sub {p q : φ → Bool} (h : ∀ f, f ∈ fs → p f = true → q f = true) {x : Int} (hx : x ∈ sel fs idOf p) : x ∈ sel fs idOf q := by
  unfold sel at hx ⊢
  obtain ⟨f, hf, rfl⟩ := List.mem_map.1 hx
  obtain ⟨h1, h2⟩ := List.mem_filter.1 hf
  exact List.mem_map.2 ⟨f, List.mem_filter.2 ⟨h1, h f h1 h2⟩, rfl⟩
end
abbrev CD := ByteArray × List Int
def putC (out : List CD) (k : Nat) (ids : List Int) : List CD := out.set k ((nth out k).1, ids)
theorem nth_setC {out : List CD} {k : Nat} (x : CD) (hk : k < out.length) (j : Nat) : nth (out.set k x) j = if j = k then x else nth out j := by
  unfold nth
  simp only [List.getD_eq_getElem?_getD, List.getElem?_set]
  by_cases h : k = j
  · subst h; simp [hk]
  · simp [h, Ne.symm h]
theorem nth_map1 {out : List CD} {k : Nat} (hk : k < out.length) : nth (out.map (·.1)) k = (nth out k).1 := by
  simp [nth, List.getD, hk]
theorem putC_names {out : List CD} {k : Nat} (ids : List Int) (hk : k < out.length) : (putC out k ids).map (·.1) = out.map (·.1) := by
  unfold putC
  rw [List.map_set]
  refine List.ext_getElem (by simp) fun i h1 h2 => ?_
  rw [List.getElem_set]
  split
  · rename_i h; subst h; simp [nth, List.getD, hk]
  · rfl
def room (B : Nat) (act : Nat → Bool) : Nat → List CD → Nat
  | _, [] => 0
  | k, r :: l => (bif act k then B - r.2.length else 0) + room B act (k + 1) l
theorem room_le (B : Nat) (act : Nat → Bool) : ∀ (l : List CD) (k : Nat), room B act k l ≤ l.length * B
  | [], k => by simp [room]
  | r :: l, k => by
    have := room_le B act l (k + 1)
    simp only [room, List.length_cons, Nat.add_mul, Nat.one_mul]
    cases act k with
    | true => simp only [cond_true]; omega
    | false => simp only [cond_false]; omega
theorem room_set (B : Nat) (act : Nat → Bool) (x : CD) : ∀ (l : List CD) (k i : Nat), i < l.length → act (k + i) = true → (nth l i).2.length + 1 ≤ x.2.length → x.2.length ≤ B → room B act k (l.set i x) + 1 ≤ room B act k l
  | [], k, i, hi, _, _, _ => by simp at hi
  | r :: l, k, 0, _, ha, h1, h2 => by
    have e : nth (r :: l) 0 = r := rfl
    rw [e] at h1
    rw [Nat.add_zero] at ha
    simp only [List.set, room, ha, cond_true]
    omega
  | r :: l, k, i + 1, hi, ha, h1, h2 => by
    have := room_set B act x l (k + 1) i (by simpa using hi) (by rwa [show k + 1 + i = k + (i + 1) by omega]) h1 h2
    simp only [List.set, room]
    omega
section
variable {φ : Type} {fs : List φ} {idOf : φ → Int} (m : Nat → List CD → φ → Bool) (act : Nat → Bool)
def LeC (a b : List CD) : Prop := ∀ j, (∀ x, x ∈ (nth a j).2 → x ∈ (nth b j).2) ∧ (act j = false → (nth a j).2 = (nth b j).2)
variable (fs idOf)
def GoodC (out : List CD) : Prop := ∀ k, k < out.length → act k = true → ∃ p : φ → Bool, (nth out k).2 = sel fs idOf p ∧ ∀ f, f ∈ fs → p f = true → m k out f = true
def MonoC (nm : List ByteArray) : Prop := ∀ a b : List CD, a.map (·.1) = nm → b.map (·.1) = nm → LeC act a b → ∀ k, k < nm.length → act k = true → ∀ f, f ∈ fs → m k a f = true → m k b f = true
def stepC (s : List CD × Bool) (k : Nat) : List CD × Bool := bif act k then (if sel fs idOf (m k s.1) = (nth s.1 k).2 then s else (putC s.1 k (sel fs idOf (m k s.1)), true)) else s
def passC (ks : List Nat) (s : List CD × Bool) : List CD × Bool := ks.foldl (stepC fs idOf m act) s
variable {fs idOf m act} {nm : List ByteArray}
structure StateC (fs : List φ) (idOf : φ → Int) (m : Nat → List CD → φ → Bool) (act : Nat → Bool) (nm : List ByteArray) (o out : List CD) : Prop where
  names : out.map (·.1) = nm
  good : GoodC fs idOf m act out
  rest : ∀ j, act j = false → nth out j = nth o j
theorem stepC_ok (hm : MonoC fs m act nm) {o : List CD} {s : List CD × Bool} (h : StateC fs idOf m act nm o s.1) {k : Nat} (hk : k < nm.length) :
    StateC fs idOf m act nm o (stepC fs idOf m act s k).1 ∧ room fs.length act 0 (stepC fs idOf m act s k).1 ≤ room fs.length act 0 s.1 ∧ ((stepC fs idOf m act s k).2 = true → s.2 = true ∨ room fs.length act 0 (stepC fs idOf m act s k).1 + 1 ≤ room fs.length act 0 s.1) := by
  unfold stepC
  cases ha : act k with
  | false => exact ⟨h, Nat.le_refl _, .inl⟩
  | true =>
    simp only [cond_true]
    split
    · exact ⟨h, Nat.le_refl _, .inl⟩
    · rename_i hne
      have hlen : nm.length = s.1.length := by rw [← h.names, List.length_map]
      have hk' : k < s.1.length := by omega
      obtain ⟨p, hp1, hp2⟩ := h.good k hk' ha
      rw [hp1] at hne
      have hgrow := sel_grow (idOf := idOf) hp2 (Ne.symm hne)
      have hnames : (putC s.1 k (sel fs idOf (m k s.1))).map (·.1) = nm := by rw [putC_names _ hk', h.names]
      have hle : LeC act s.1 (putC s.1 k (sel fs idOf (m k s.1))) := fun j => by
        unfold putC
        rw [nth_setC _ hk']
        by_cases hj : j = k
        · subst hj
          rw [if_pos rfl]
          exact ⟨fun x hx => sel_sub hp2 (hp1 ▸ hx), fun hf => absurd ha (by simp [hf])⟩
        · rw [if_neg hj]
          exact ⟨fun _ hx => hx, fun _ => rfl⟩
      have hmono := hm _ _ h.names hnames hle
      have hr : room fs.length act 0 (putC s.1 k (sel fs idOf (m k s.1))) + 1 ≤ room fs.length act 0 s.1 :=
        room_set _ _ _ _ 0 k hk' (by rw [Nat.zero_add]; exact ha) (by rw [hp1]; exact hgrow) (sel_len _ _ _)
      refine ⟨⟨hnames, fun j hj hja => ?_, fun j hj => ?_⟩, Nat.le_of_succ_le hr, fun _ => .inr hr⟩
      · have hj' : j < s.1.length := by unfold putC at hj; rwa [List.length_set] at hj
        by_cases e : j = k
        · subst e
          refine ⟨m j s.1, ?_, fun f hf hmf => hmono j (by omega) hja f hf hmf⟩
          unfold putC; rw [nth_setC _ hk', if_pos rfl]
        · obtain ⟨p', h1, h2⟩ := h.good j hj' hja
          refine ⟨p', ?_, fun f hf hpf => hmono j (by omega) hja f hf (h2 f hf hpf)⟩
          unfold putC; rw [nth_setC _ hk', if_neg e]; exact h1
      · have e : j ≠ k := fun e => absurd ha (by simp [← e, hj])
        unfold putC; rw [nth_setC _ hk', if_neg e]; exact h.rest j hj
theorem passC_ok (hm : MonoC fs m act nm) {o : List CD} : ∀ (ks : List Nat) (s : List CD × Bool), (∀ k, k ∈ ks → k < nm.length) → StateC fs idOf m act nm o s.1 →
    StateC fs idOf m act nm o (passC fs idOf m act ks s).1 ∧ room fs.length act 0 (passC fs idOf m act ks s).1 ≤ room fs.length act 0 s.1 ∧ ((passC fs idOf m act ks s).2 = true → s.2 = true ∨ room fs.length act 0 (passC fs idOf m act ks s).1 + 1 ≤ room fs.length act 0 s.1)
  | [], s, _, h => ⟨h, Nat.le_refl _, .inl⟩
  | k :: ks, s, hks, h => by
    obtain ⟨h1, h2, h3⟩ := stepC_ok hm h (hks k (List.mem_cons_self ..))
    obtain ⟨g1, g2, g3⟩ := passC_ok hm ks _ (fun j hj => hks j (List.mem_cons_of_mem _ hj)) h1
    refine ⟨g1, Nat.le_trans g2 h2, fun hc => ?_⟩
    rcases g3 hc with hc | hc
    · rcases h3 hc with hc | hc
      · exact .inl hc
      · exact .inr (Nat.le_trans (Nat.add_le_add_right g2 1) hc)
    · exact .inr (Nat.le_trans hc h2)
theorem whlC {R S T : Type} {F : S → Rd R S T} {out : S → List CD} {ch : S → Bool} {n : Nat} (hn : n = nm.length)
    (hF : ∀ s, ch s = true → ∃ s', F s = .next s' ∧ (out s', ch s') = passC fs idOf m act (List.range n) (out s, false))
    (hE : ∀ s, ch s = false → ∃ t, F s = .brk t)
    (hm : MonoC fs m act nm) {o : List CD} : ∀ (k : Nat) (s : S), StateC fs idOf m act nm o (out s) → room fs.length act 0 (out s) + (bif ch s then 2 else 1) ≤ k →
    ∃ s', StateC fs idOf m act nm o (out s') ∧ ch s' = false ∧ ∃ t, F s' = .brk t ∧ whl F k s = some (.brk t)
  | 0, s, _, hk => by cases hc : ch s <;> simp [hc] at hk
  | k + 1, s, h, hk => by
    cases hc : ch s with
    | false =>
      obtain ⟨t, ht⟩ := hE s hc
      exact ⟨s, h, hc, t, ht, by simp only [whl, ht]⟩
    | true =>
      rw [hc] at hk
      simp only [cond_true] at hk
      obtain ⟨s', h1, h2⟩ := hF s hc
      obtain ⟨g1, g2, g3⟩ := passC_ok hm (o := o) (List.range n) (out s, false) (fun j hj => by rw [← hn]; exact List.mem_range.1 hj) h
      rw [← h2] at g1 g2 g3
      simp only [whl, h1]
      refine whlC hn hF hE hm k s' g1 ?_
      simp only [Bool.false_eq_true, false_or] at g3
      cases hc' : ch s' with
      | false => simp only [cond_false]; have : room fs.length act 0 (out s') ≤ room fs.length act 0 (out s) := g2; omega
      | true => simp only [cond_true]; have : room fs.length act 0 (out s') + 1 ≤ room fs.length act 0 (out s) := g3 hc'; omega
end
/-! ### a slice that is nil, handed on -/
open Go.RowKit in
def ArgLe (a b : AV) : Prop := ∀ (J : Inj) (w : World) (v : Value), AR J w v a → AR J w v b
theorem ArgLe.rfl (a : AV) : ArgLe a a := fun _ _ _ h => h
theorem ArgLe.nil (n : Nat) : ArgLe (.one (.slc .sh 0 [])) (.one (.slc .sh n [])) := fun J w v h => by
  have h' : VV J.F w v (.slc 0 []) := h
  show VV J.F w v (.slc n [])
  generalize hp : PV.slc 0 ([] : List (List PV)) = p at h'
  cases h' with
  | int | bool | str => cases hp
  | emp oa m hc => exact .emp oa n hc
  | @slc b off cap m cs l hx hcells hr hle hcap =>
    cases hp
    exact .emp _ n hcap.1
theorem acalls_args {P : Program} {f : Nat} {r : AV} {args args' : List AV} (h : All2 ArgLe args args') (c : ACalls P f args' r) : ACalls P f args r := ⟨c.1, fun w hg F vals hF hall => c.2 w hg F vals hF (by
  clear c
  induction h generalizing vals with
  | nil => exact hall
  | cons h1 h2 ih =>
    cases hall with
    | cons g1 g2 => exact .cons (h1 _ _ _ g1) (ih _ g2))⟩
/-! ### a flat row of ours, handed back -/
theorem weak_promote {s : St} {t k n : Nat} {l : List (List PV)} (ht : get s.tm t = some (.one (.slc (.own false k) n l))) (hf : RowsLike l) : Weak s ⟨[(t, .one (.slc (.own true k) n l))], []⟩ := fun N w0 F0 J a w h =>
  ⟨J, { h with
    bo := fun k c hc => by simp [get] at hc
    bi := fun k k' c c' hc => by simp [get] at hc
    tm := fun t' v hv => by
      have h1 := h.tm t _ ht
      by_cases e : t' = t
      · subst e
        obtain rfl : AV.one (.slc (.own true k) n l) = v := by simpa [get] using hv
        exact flat_deep h1 hf
      · simp [get, Ne.symm e] at hv }⟩
theorem awp_promote {P : Program} {N : Nat} {w0 : Base} {F0 : Nat → Prop} {Q : Exit → St → Prop} {s : St} {c : Code} (t : Nat) {k n : Nat} {l : List (List PV)} (ht : get s.tm t = some (.one (.slc (.own false k) n l))) (hf : RowsLike l) (h : AWP P N w0 F0 c Q ⟨[(t, .one (.slc (.own true k) n l))], []⟩) : AWP P N w0 F0 c Q s := awp_weak (weak_promote ht hf) h
end Go.Proofs.YtncjdkfjhkpkmaaGreatDoor
namespace Go.Proofs.YtncjdkfjhkpkmaaGreatDoor
open Go.RowKit
/-! ### each node but the last is named once -/
def isRef (n : NodeD) (c : Int) : Bool := ((n.2.1 == c) && (n.1 == 6 || n.1 == 7 || n.1 == 5)) || ((n.2.2.1 == c) && (n.1 == 6 || n.1 == 7))
theorem refs_step (c : Int) (k : Nat) (a : NodeD) (s : Int) (h0 : 0 ≤ s) (h1 : s ≤ 1000) : ∃ s', implCountReferences_f0 c k a s = .next s' ∧ s + (bif isRef a c then 1 else 0) ≤ s' ∧ s' ≤ s + 2 := by
  have w1 : IntKind.i64.wrap (s + 1) = s + 1 := IntWalk.i64_in _ (by omega)
  have w2 : IntKind.i64.wrap (s + 1 + 1) = s + 1 + 1 := IntWalk.i64_in _ (by omega)
  unfold implCountReferences_f0 isRef
  rw [w1, w2]
  cases (a.2.1 == c) <;> cases (a.2.2.1 == c) <;> cases (a.1 == 6) <;> cases (a.1 == 7) <;> cases (a.1 == 5) <;> exact ⟨_, rfl, by first | (simp; done) | (simp; omega) | omega, by omega⟩
theorem refs_loop (c : Int) : ∀ (l : List NodeD) (k : Nat) (s : Int), 0 ≤ s → s + 2 * l.length ≤ 1000 → ∃ s', forL (implCountReferences_f0 c) implCountReferences_e0 l k s = .brk s' ∧ s + (l.filter fun n => isRef n c).length ≤ s'
  | [], k, s, _, _ => ⟨s, rfl, by simp⟩
  | a :: l, k, s, h0, h1 => by
    rw [List.length_cons] at h1
    obtain ⟨s1, e1, g1, g2⟩ := refs_step c k a s h0 (by omega)
    have hp : 0 ≤ s1 := by cases hb : isRef a c <;> (rw [hb] at g1; simp at g1; omega)
    obtain ⟨s2, e2, g3⟩ := refs_loop c l (k + 1) s1 hp (by omega)
    refine ⟨s2, by simp only [forL, e1]; exact e2, ?_⟩
    rw [List.filter_cons]
    cases hb : isRef a c with
    | true => rw [hb] at g1; simp only [cond_true] at g1; simp only [if_true, List.length_cons]; omega
    | false => rw [hb] at g1; simp only [cond_false] at g1; simp only [Bool.false_eq_true, if_false]; omega
theorem two_of {α : Type} {p : α → Bool} {l : List α} {i j : Nat} {a b : α} (hij : i < j) (hi : l[i]? = some a) (hj : l[j]? = some b) (ha : p a = true) (hb : p b = true) : 2 ≤ (l.filter p).length := by
  have e : l = l.take j ++ l.drop j := (List.take_append_drop j l).symm
  rw [e, List.filter_append, List.length_append]
  have h1 : 1 ≤ ((l.take j).filter p).length := List.length_pos_of_mem (a := a) (List.mem_filter.2 ⟨List.mem_of_getElem? (i := i) (by rw [List.getElem?_take, if_pos hij]; exact hi), ha⟩)
  have h2 : 1 ≤ ((l.drop j).filter p).length := List.length_pos_of_mem (a := b) (List.mem_filter.2 ⟨List.mem_of_getElem? (i := 0) (by rw [List.getElem?_drop]; exact hj), hb⟩)
  omega
theorem vq_refs {q : List NodeD} (h : implIsValidQuery q = true) {i : Nat} (hi : i + 1 < q.length) : implCountReferences q (i : Int) = 1 := by
  obtain ⟨⟨t, ht⟩, _⟩ := vq_run h
  have := forL_all (fun k a t => by unfold implIsValidQuery_f0; generalize (_ || _ : Bool) = c; cases c <;> simp) ht i (nth q i) (nth_get (by omega))
  unfold implIsValidQuery_f0 at this
  rw [Nat.zero_add] at this
  have hd : decide (((i : Nat) : Int) < ((q.length : Int) - 1)) = true := decide_eq_true (by omega)
  rw [hd, Bool.true_and] at this
  cases hn : (implCountReferences q ((i : Nat) : Int) != (1 : Int)) with
  | false => exact eq_of_bne hn
  | true => rw [hn, Bool.or_true] at this; simp at this
theorem ref_once {q : List NodeD} (h : implIsValidQuery q = true) {c i j : Nat} (hc : c + 1 < q.length) (hij : i < j) (hj : j < q.length) (h1 : isRef (nth q i) (c : Int) = true) (h2 : isRef (nth q j) (c : Int) = true) : False := by
  have hr := vq_refs h hc
  have hl := (vq_len h).2
  obtain ⟨s, e, g⟩ := refs_loop (c : Int) q 0 0 (by omega) (by omega)
  unfold implCountReferences at hr
  rw [e] at hr
  have := two_of (p := fun n => isRef n (c : Int)) hij (nth_get (by omega)) (nth_get hj) h1 h2
  simp only [Out.on] at hr
  omega
theorem ref_lt {q : List NodeD} (h : implIsValidQuery q = true) {c i : Nat} (hi : i < q.length) (hr : isRef (nth q i) (c : Int) = true) : c < i := by
  obtain ⟨h1, h2⟩ := vq_kids h (k := (i : Int)) (by omega) (by omega)
  rw [Int.toNat_natCast] at h1 h2
  unfold isRef at hr
  simp only [Bool.or_eq_true, Bool.and_eq_true, beq_iff_eq] at hr
  rcases hr with ⟨e, hop⟩ | ⟨e, hop⟩
  · have := h1 (by omega); omega
  · have := h2 (by omega); omega
/-! ### below a negation -/
theorem nth_setB {L : List Bool} {i : Nat} (x : Bool) (hi : i < L.length) (j : Nat) : nth (L.set i x) j = if j = i then x else nth L j := by
  unfold nth
  simp only [List.getD_eq_getElem?_getD, List.getElem?_set]
  by_cases h : i = j
  · subst h; simp [hi]
  · simp [h, Ne.symm h]
theorem neg_step {q : List NodeD} (h : implIsValidQuery q = true) {k : Nat} (hk : k < q.length) (s : List Bool) (hs : s.length = q.length) : ∃ s', implNegatedNodes_f0 q k s = .next s' ∧ s'.length = q.length ∧
    (∀ j : Nat, isRef (nth q (q.length - 1 - k)) (j : Int) = false → nth s' j = nth s j) ∧
    (∀ j : Nat, isRef (nth q (q.length - 1 - k)) (j : Int) = true → nth s' j = (nth s (q.length - 1 - k) || ((nth q (q.length - 1 - k)).1 == 5))) := by
  have hdn : Int.toNat (dn ((q.length : Int) - 1) k) = q.length - 1 - k := by rw [dn_eq]; omega
  obtain ⟨hl, hr⟩ := vq_kids h (k := ((q.length - 1 - k : Nat) : Int)) (by omega) (by omega)
  rw [Int.toNat_natCast] at hl hr
  have hlt : q.length - 1 - k < s.length := by omega
  unfold implNegatedNodes_f0
  rw [hdn]
  generalize q.length - 1 - k = i at hl hr hlt ⊢
  generalize nth q i = n at hl hr ⊢
  generalize (nth s i || (n.1 == 5)) = b
  have both : ∀ (e5 : (n.1 == (5 : Int)) = false), (n.1 = 6 ∨ n.1 = 7) → (List.set (List.set s (Int.toNat n.2.1) b) (Int.toNat n.2.2.1) b).length = q.length ∧ (∀ j : Nat, isRef n (j : Int) = false → nth (List.set (List.set s (Int.toNat n.2.1) b) (Int.toNat n.2.2.1) b) j = nth s j) ∧ (∀ j : Nat, isRef n (j : Int) = true → nth (List.set (List.set s (Int.toNat n.2.1) b) (Int.toNat n.2.2.1) b) j = b) := fun e5 h67 => by
    obtain ⟨g1, g2⟩ := hl (.inr h67)
    obtain ⟨g3, g4⟩ := hr h67
    have hop : (n.1 == 6 || n.1 == 7) = true := by rcases h67 with e | e <;> simp [e]
    have hlen : (List.set s (Int.toNat n.2.1) b).length = s.length := List.length_set ..
    refine ⟨by rw [List.length_set, hlen, hs], fun j hj => ?_, fun j hj => ?_⟩
    · simp only [isRef, hop, Bool.true_or, Bool.and_true, Bool.or_eq_false_iff, beq_eq_false_iff_ne, ne_eq] at hj
      rw [nth_set_ne _ (by omega), nth_set_ne _ (by omega)]
    · simp only [isRef, hop, Bool.true_or, Bool.and_true, Bool.or_eq_true, beq_iff_eq] at hj
      rw [nth_setB _ (by omega), nth_setB _ (by omega)]
      split
      · rfl
      · rw [if_pos (by omega)]
  by_cases h5 : n.1 = 5
  · obtain ⟨g1, g2⟩ := hl (.inl h5)
    simp only [h5, beq_self_eq_true, cond_true]
    refine ⟨_, rfl, by rw [List.length_set, hs], fun j hj => ?_, fun j hj => ?_⟩
    · have : n.2.1 ≠ (j : Int) := by simpa [isRef, h5] using hj
      exact nth_set_ne _ (by omega)
    · have : n.2.1 = (j : Int) := by simpa [isRef, h5] using hj
      rw [nth_setB _ (by omega), if_pos (by omega)]
  · have e5 : (n.1 == (5 : Int)) = false := beq_eq_false_iff_ne.2 h5
    rw [e5, cond_false]
    by_cases h6 : n.1 = 6
    · simp only [h6, beq_self_eq_true, cond_true]
      exact ⟨_, rfl, both e5 (.inl h6)⟩
    · by_cases h7 : n.1 = 7
      · simp only [h7, beq_self_eq_true, cond_true]
        exact ⟨_, rfl, both e5 (.inr h7)⟩
      · have e6 : (n.1 == (6 : Int)) = false := beq_eq_false_iff_ne.2 h6
        have e7 : (n.1 == (7 : Int)) = false := beq_eq_false_iff_ne.2 h7
        rw [e6, e7, cond_false, cond_false]
        refine ⟨_, rfl, hs, fun _ _ => rfl, fun j hj => ?_⟩
        simp [isRef, e5, e6, e7] at hj
def NegOk (q : List NodeD) (k : Nat) (s : List Bool) : Prop := s.length = q.length ∧ ∀ i, q.length ≤ i + k → i < q.length → ∀ c : Nat, isRef (nth q i) (c : Int) = true → nth s c = (nth s i || ((nth q i).1 == 5))
theorem neg_next {q : List NodeD} (h : implIsValidQuery q = true) {k : Nat} (hk : k < q.length) {s : List Bool} (hs : NegOk q k s) : ∃ s', implNegatedNodes_f0 q k s = .next s' ∧ NegOk q (k + 1) s' := by
  obtain ⟨s', h1, h2, h3, h4⟩ := neg_step h hk s hs.1
  have hself : nth s' (q.length - 1 - k) = nth s (q.length - 1 - k) := h3 _ (by
    cases hr : isRef (nth q (q.length - 1 - k)) ((q.length - 1 - k : Nat) : Int) with
    | false => rfl
    | true => have := ref_lt h (by omega) hr; omega)
  refine ⟨s', h1, h2, fun i hi1 hi2 c hc => ?_⟩
  by_cases e : i = q.length - 1 - k
  · subst e
    rw [h4 c hc, hself]
  · have hci := ref_lt h hi2 hc
    have n1 : isRef (nth q (q.length - 1 - k)) (c : Int) = false := by
      cases hr : isRef (nth q (q.length - 1 - k)) (c : Int) with
      | false => rfl
      | true => exact (ref_once h (c := c) (i := q.length - 1 - k) (j := i) (by omega) (by omega) hi2 hr hc).elim
    have n2 : isRef (nth q (q.length - 1 - k)) (i : Int) = false := by
      cases hr : isRef (nth q (q.length - 1 - k)) (i : Int) with
      | false => rfl
      | true => have := ref_lt h (by omega) hr; omega
    rw [h3 c n1, h3 i n2]
    exact hs.2 i (by omega) hi2 c hc
theorem neg_loop {q : List NodeD} (h : implIsValidQuery q = true) : ∀ (n k : Nat) (s : List Bool), k + n = q.length → NegOk q k s → ∃ s', forN (implNegatedNodes_f0 q) implNegatedNodes_e0 n k s = .brk s' ∧ NegOk q q.length s'
  | 0, k, s, hk, hs => ⟨s, rfl, by rw [show k = q.length by omega] at hs; exact hs⟩
  | n + 1, k, s, hk, hs => by
    obtain ⟨s1, h1, h2⟩ := neg_next h (by omega) hs
    obtain ⟨s2, h3, h4⟩ := neg_loop h n (k + 1) s1 (by omega) h2
    exact ⟨s2, by simp only [forN, h1]; exact h3, h4⟩
theorem neg_kids {q : List NodeD} (h : implIsValidQuery q = true) : NegOk q q.length (implNegatedNodes q) := by
  unfold implNegatedNodes
  obtain ⟨s, h1, h2⟩ := neg_loop h (List.length q) 0 (List.replicate (Int.toNat (q.length : Int)) false) (by omega) ⟨by simp, fun i h1 h2 => by omega⟩
  rw [h]
  simp only [Bool.not_true, cond_false, h1, Out.on]
  exact h2
theorem neg_name {q : List NodeD} {i : Nat} (hi : i < (implNegatedNodes q).length) (hn : nth (implNegatedNodes q) i = true) (hd : implnamesDir (nth q i) = true) : (nth q i).2.2.2.1 ∈ implNegativeDeps q := by
  have key : ∀ (l : List Bool) (k : Nat) (s : List ByteArray), ∃ t, forL (impldepsBelow_f0 q true) impldepsBelow_e0 l k s = .brk t ∧ (∀ x, x ∈ s → x ∈ t) ∧ ∀ j, l[j]? = some true → implnamesDir (nth q (k + j)) = true → (nth q (k + j)).2.2.2.1 ∈ t := by
    intro l
    induction l with
    | nil => intro k s; exact ⟨s, rfl, fun _ h => h, fun j h => by simp at h⟩
    | cons a l ih =>
      intro k s
      simp only [forL, impldepsBelow_f0]
      cases hc : (implnamesDir (nth q k) && (a == true)) with
      | true =>
        obtain ⟨t, h1, h2, h3⟩ := ih (k + 1) (s ++ [(nth q k).2.2.2.1])
        refine ⟨t, h1, fun x hx => h2 x (List.mem_append_left _ hx), fun j hj hnm => ?_⟩
        cases j with
        | zero => exact h2 _ (List.mem_append_right _ (by simp))
        | succ j =>
          have := h3 j (by simpa using hj) (by rwa [show k + 1 + j = k + (j + 1) by omega])
          rwa [show k + 1 + j = k + (j + 1) by omega] at this
      | false =>
        obtain ⟨t, h1, h2, h3⟩ := ih (k + 1) s
        refine ⟨t, h1, h2, fun j hj hnm => ?_⟩
        cases j with
        | zero =>
          obtain rfl : a = true := by simpa using hj
          rw [Nat.add_zero] at hnm
          rw [hnm] at hc; cases hc
        | succ j =>
          have := h3 j (by simpa using hj) (by rwa [show k + 1 + j = k + (j + 1) by omega])
          rwa [show k + 1 + j = k + (j + 1) by omega] at this
  unfold implNegativeDeps impldepsBelow
  obtain ⟨t, h1, _, h3⟩ := key (implNegatedNodes q) 0 []
  rw [h1]
  simp only [Out.on]
  have := h3 i (by rw [nth_get hi, hn]) (by rwa [Nat.zero_add])
  rw [Nat.zero_add] at this
  exact ((once_spec t).2 _).2 this
/-! ### what a node says -/
theorem cid_iff (l : List Int) (x : Int) : implContainsID l x = true ↔ x ∈ l := by
  unfold implContainsID slicesContains_int slicesIndex_int
  have key : ∀ (l : List Int) (k : Nat), decide (((forL (slicesIndex_int_f0 x) slicesIndex_int_e0 l k ()).on fun _ => -1) ≥ 0) = true ↔ x ∈ l := by
    intro l
    induction l with
    | nil => intro k; simp [forL, Out.on, slicesIndex_int_e0]
    | cons a l ih =>
      intro k
      by_cases h : x = a
      · subst h; simp [forL, slicesIndex_int_f0, Out.on]
      · have e1 : (x == a) = false := beq_eq_false_iff_ne.2 h
        simp only [forL, slicesIndex_int_f0, e1, cond_false]
        rw [ih (k + 1)]
        simp [h]
  exact key l 0
structure Seen (q : List NodeD) (a b : List ResultD) : Prop where
  grow : ∀ nm x, x ∈ implResultIDs a nm → x ∈ implResultIDs b nm
  same : ∀ nm, nm ∈ implNegativeDeps q → implResultIDs a nm = implResultIDs b nm
theorem match_grow {q : List NodeD} (hv : implIsValidQuery q = true) {a b : List ResultD} (hs : Seen q a b) (f : FileD) : ∀ (n : Nat) (k : Nat), k < n → k < q.length →
    (nth (implNegatedNodes q) k = true → implmatchesAt n q (k : Int) f a = implmatchesAt n q (k : Int) f b) ∧ (implmatchesAt n q (k : Int) f a = true → implmatchesAt n q (k : Int) f b = true)
  | 0, _, h, _ => absurd h (by omega)
  | n + 1, k, hkn, hk => by
    obtain ⟨hl, hr⟩ := vq_kids hv (k := (k : Int)) (by omega) (by omega)
    rw [Int.toNat_natCast] at hl hr
    obtain ⟨hlen, hneg⟩ := neg_kids hv
    have hneg := hneg k (by omega) hk
    have hop := vn_op (vq_node hv (nth_get hk))
    have hnm := neg_name (q := q) (i := k) (by omega)
    have ih := match_grow hv hs f n
    unfold implmatchesAt
    rw [Int.toNat_natCast]
    generalize nth q k = m at hl hr hneg hop hnm ⊢
    have kid : ∀ c : Int, 0 ≤ c → c < (k : Int) → isRef m c = true → ((nth (implNegatedNodes q) k || (m.1 == 5)) = true → implmatchesAt n q c f a = implmatchesAt n q c f b) ∧ (implmatchesAt n q c f a = true → implmatchesAt n q c f b = true) := fun c h0 h1 hrf => by
      obtain ⟨j, rfl⟩ : ∃ j : Nat, c = (j : Int) := ⟨Int.toNat c, by omega⟩
      obtain ⟨g1, g2⟩ := ih j (by omega) (by omega)
      exact ⟨fun hn => g1 ((hneg j hrf).trans hn), g2⟩
    rcases hop with h | h | h | h | h | h | h | h | h
    · simp [h]
    · simp [h]
    · simp [h]
    · simp [h]
    · obtain ⟨k1, k2⟩ := hl (.inl h)
      obtain ⟨g1, _⟩ := kid m.2.1 k1 k2 (by simp [isRef, h])
      have := g1 (by simp [h])
      simp [h, this]
    · obtain ⟨k1, k2⟩ := hl (.inr (.inl h))
      obtain ⟨k3, k4⟩ := hr (.inl h)
      obtain ⟨g1, g2⟩ := kid m.2.1 k1 k2 (by simp [isRef, h])
      obtain ⟨g3, g4⟩ := kid m.2.2.1 k3 k4 (by simp [isRef, h])
      refine ⟨fun hn => ?_, fun hm => ?_⟩
      · simp [h, g1 (by simp [hn]), g3 (by simp [hn])]
      · simp [h] at hm ⊢
        exact ⟨g2 hm.1, g4 hm.2⟩
    · obtain ⟨k1, k2⟩ := hl (.inr (.inr h))
      obtain ⟨k3, k4⟩ := hr (.inr h)
      obtain ⟨g1, g2⟩ := kid m.2.1 k1 k2 (by simp [isRef, h])
      obtain ⟨g3, g4⟩ := kid m.2.2.1 k3 k4 (by simp [isRef, h])
      refine ⟨fun hn => ?_, fun hm => ?_⟩
      · simp [h, g1 (by simp [hn]), g3 (by simp [hn])]
      · simp [h] at hm ⊢
        exact hm.imp g2 g4
    · refine ⟨fun hn => ?_, fun hm => ?_⟩
      · simp [h, hs.same _ (hnm hn (by simp [implnamesDir, h]))]
      · simp [h] at hm ⊢
        exact (cid_iff _ _).2 (hs.grow _ _ ((cid_iff _ _).1 hm))
    · refine ⟨fun hn => ?_, fun hm => ?_⟩
      · simp [h, hs.same _ (hnm hn (by simp [implnamesDir, h]))]
      · simp [h] at hm ⊢
        exact ⟨hm.1, (cid_iff _ _).2 (hs.grow _ _ ((cid_iff _ _).1 hm.2))⟩
theorem matches_grow {q : List NodeD} {a b : List ResultD} (hs : Seen q a b) (f : FileD) (h : implMatches q f a = true) : implMatches q f b = true := by
  unfold implMatches at h ⊢
  cases hv : implIsValidQuery q with
  | false => rw [hv] at h; cases h
  | true =>
    rw [hv, Bool.true_and] at h
    rw [Bool.true_and]
    have hl := vq_len hv
    have e : ((q.length : Int) - 1) = ((q.length - 1 : Nat) : Int) := by omega
    rw [e] at h ⊢
    exact (match_grow hv hs f q.length (q.length - 1) (by omega) (by omega)).2 h
theorem select_sel (s : StoreD) (q : List NodeD) (r : List ResultD) : implSelectFiles s q r = sel s.2.1 (fun f => f.1) fun f => implMatches q f r := by
  unfold implSelectFiles
  rw [forL_filter (f := implSelectFiles_f0 q r) (p := fun f => implMatches q f r) (g := fun f => f.1) (fun _ _ _ => rfl)]
  rfl
/-! ### strata that hold -/
theorem strata_ok {d : List DirD} {L : List Int} (h : implStrata d = (L, true)) : implIsValidDirs d = true ∧ L.length = d.length ∧ Sat (edgesD d) d.length L ∧ ∀ j, 0 ≤ nth L j := by
  unfold implStrata at h
  cases hv : implIsValidDirs d with
  | false => rw [hv] at h; simp at h
  | true =>
    rw [hv] at h
    simp only [Bool.not_true, cond_false] at h
    have h5 := vdirs_len hv
    have hw := whl_climb (d := d) (f := implStrata_f1 d) (e := implStrata_e1) (F := implStrata_f0 d) (fun _ _ _ => rfl) (fun _ _ => rfl) (fun _ => rfl) (by omega) (d.length * d.length + 3) (List.replicate d.length 0) true (zeroL_ok _).1 (zeroL_ok _).2
    have hsome : (climb (edgesD d) d.length d.length (d.length * d.length + 3) (true, List.replicate d.length 0)).isSome = true := by
      have := implStrata_w d h5
      rw [Int.toNat_natCast, hw, Option.isSome_map] at this
      exact this
    obtain ⟨r, hr⟩ := Option.isSome_iff_exists.1 hsome
    unfold whlD at h
    rw [Int.toNat_natCast, hw, hr] at h
    have hw' : ∀ i e, e ∈ edgesD d i → e.2 ≤ 1 ∧ e.1 < d.length := fun i e he => ⟨(edgesD_ok d i e he).1, (edgesD_ok d i e he).2.1⟩
    obtain ⟨h1, _⟩ := climb_eq hw' _ 0 true r (fun e => by cases e) hr
    cases r with
    | none => simp [endD, Out.on] at h
    | some M =>
      have e : M = L := by simpa [endD, Out.on] using h
      subst e
      obtain ⟨hrest, hM⟩ := h1 M rfl
      rw [hM]
      exact ⟨rfl, after_len _ _ _, rest_sat (after_len _ _ _) hrest, fun j => after_nonneg _ _ j _⟩
theorem strata_le {d : List DirD} {L : List Int} (h : implStrata d = (L, true)) : ∀ j, nth L j ≤ (d.length : Int) := by
  obtain ⟨hv, hlen, _, _⟩ := strata_ok h
  have h5 := vdirs_len hv
  unfold implStrata at h
  rw [hv] at h
  simp only [Bool.not_true, cond_false] at h
  have hw := whl_climb (d := d) (f := implStrata_f1 d) (e := implStrata_e1) (F := implStrata_f0 d) (fun _ _ _ => rfl) (fun _ _ => rfl) (fun _ => rfl) (by omega) (d.length * d.length + 3) (List.replicate d.length 0) true (zeroL_ok _).1 (zeroL_ok _).2
  have hsome : (climb (edgesD d) d.length d.length (d.length * d.length + 3) (true, List.replicate d.length 0)).isSome = true := by
    have := implStrata_w d h5
    rw [Int.toNat_natCast, hw, Option.isSome_map] at this
    exact this
  obtain ⟨r, hr⟩ := Option.isSome_iff_exists.1 hsome
  unfold whlD at h
  rw [Int.toNat_natCast, hw, hr] at h
  have hw' : ∀ i e, e ∈ edgesD d i → e.2 ≤ 1 ∧ e.1 < d.length := fun i e he => ⟨(edgesD_ok d i e he).1, (edgesD_ok d i e he).2.1⟩
  obtain ⟨h1, _⟩ := climb_eq hw' _ 0 true r (fun e => by cases e) hr
  cases r with
  | none => simp [endD, Out.on] at h
  | some M =>
    have e : M = L := by simpa [endD, Out.on] using h
    subst e
    obtain ⟨hrest, hM⟩ := h1 M rfl
    intro j
    by_cases hj : j < d.length
    · rw [hM]; exact Int.le_of_lt (rest_lt hw' hrest j hj)
    · have : nth M j = 0 := nth_out (by omega)
      omega
theorem edgesOfN_mem {d : List DirD} {w : Int} {nm : ByteArray} : ∀ {l : List ByteArray}, nm ∈ l → 0 ≤ impldirAt d nm → (Int.toNat (impldirAt d nm), w) ∈ edgesOfN d w l
  | x :: l, h, h0 => by
    simp only [edgesOfN]
    rcases List.mem_cons.1 h with rfl | h
    · rw [if_pos h0]; exact List.mem_cons_self ..
    · split
      · exact List.mem_cons_of_mem _ (edgesOfN_mem h h0)
      · exact edgesOfN_mem h h0
theorem strata_neg {d : List DirD} {L : List Int} (h : implStrata d = (L, true)) {i : Nat} (hi : i < d.length) {nm : ByteArray} (hn : nm ∈ implNegativeDeps (nth d i).2) (h0 : 0 ≤ impldirAt d nm) : nth L (Int.toNat (impldirAt d nm)) < nth L i := by
  obtain ⟨_, _, hs, _⟩ := strata_ok h
  have hm : (Int.toNat (impldirAt d nm), (1 : Int)) ∈ edgesD d i := by
    unfold edgesD
    rw [if_pos hi]
    exact List.mem_append_right _ (edgesOfN_mem hn h0)
  have := (need_le.1 (hs i hi)).2 _ hm
  simp only at this
  omega
end Go.Proofs.YtncjdkfjhkpkmaaGreatDoor
namespace Go.Proofs.YtncjdkfjhkpkmaaGreatDoor
open Go.RowKit
theorem rids_go (nm : ByteArray) : ∀ (d : List DirD) (o : List ResultD) (k : Nat), o.map (·.1) = d.map (·.1) →
    (forL (slicesIndexFunc_Dir_impldirAt_1_f0 nm) slicesIndexFunc_Dir_impldirAt_1_e0 d k () = .brk () ∧ forL (implResultIDs_f0 nm) implResultIDs_e0 o k () = .brk ()) ∨
    ∃ i : Nat, i < d.length ∧ forL (slicesIndexFunc_Dir_impldirAt_1_f0 nm) slicesIndexFunc_Dir_impldirAt_1_e0 d k () = .ret (((k + i : Nat)) : Int) ∧ forL (implResultIDs_f0 nm) implResultIDs_e0 o k () = .ret (nth o i).2
  | [], [], _, _ => .inl ⟨rfl, rfl⟩
  | [], _ :: _, _, h => by simp at h
  | _ :: _, [], _, h => by simp at h
  | a :: d, b :: o, k, h => by
    simp only [List.map_cons, List.cons.injEq] at h
    obtain ⟨h1, h2⟩ := h
    simp only [forL, slicesIndexFunc_Dir_impldirAt_1_f0, implResultIDs_f0, impldirAt_1, h1]
    cases (a.1.toList == nm.toList) with
    | true => exact .inr ⟨0, by simp, rfl, rfl⟩
    | false =>
      simp only [cond_false]
      rcases rids_go nm d o (k + 1) h2 with h | ⟨i, hi, h3, h4⟩
      · exact .inl h
      · exact .inr ⟨i + 1, by simpa using hi, by rw [h3, show k + 1 + i = k + (i + 1) by omega], h4⟩
theorem rids_at {d : List DirD} {o : List ResultD} (h : o.map (·.1) = d.map (·.1)) (nm : ByteArray) : (impldirAt d nm < 0 ∧ implResultIDs o nm = []) ∨ (0 ≤ impldirAt d nm ∧ Int.toNat (impldirAt d nm) < d.length ∧ implResultIDs o nm = (nth o (Int.toNat (impldirAt d nm))).2) := by
  unfold impldirAt slicesIndexFunc_Dir_impldirAt_1 implResultIDs
  rcases rids_go nm d o 0 h with ⟨h1, h2⟩ | ⟨i, hi, h1, h2⟩
  · rw [h1, h2]
    refine .inl ⟨?_, ?_⟩
    · show (-1 : Int) < 0; omega
    · rfl
  · rw [h1, h2]
    simp only [Out.on, Nat.zero_add, Int.toNat_natCast]
    exact .inr ⟨by omega, hi, trivial⟩
abbrev pickD (d : List DirD) (k : Nat) (o : List ResultD) (f : FileD) : Bool := implMatches (nth d k).2 f o
theorem mono_ok {d : List DirD} {L : List Int} (h : implStrata d = (L, true)) (fs : List FileD) {act : Nat → Bool} {level : Int} (ha : ∀ k, act k = true → nth L k = level) : MonoC fs (pickD d) act (d.map (·.1)) := by
  intro a b hna hnb hle k hk hact f _ hm
  rw [List.length_map] at hk
  refine matches_grow (⟨fun nm x hx => ?_, fun nm hn => ?_⟩ : Seen (nth d k).2 a b) f hm
  · rcases rids_at hna nm with ⟨h1, h2⟩ | ⟨h1, h2, h3⟩
    · rw [h2] at hx; simp at hx
    · rcases rids_at hnb nm with ⟨g1, _⟩ | ⟨_, _, g3⟩
      · omega
      · rw [h3] at hx
        rw [g3]
        exact (hle _).1 x hx
  · rcases rids_at hna nm with ⟨h1, h2⟩ | ⟨h1, h2, h3⟩
    · rcases rids_at hnb nm with ⟨_, g2⟩ | ⟨g1, _, _⟩
      · rw [h2, g2]
      · omega
    · rcases rids_at hnb nm with ⟨g1, _⟩ | ⟨_, _, g3⟩
      · omega
      · rw [h3, g3]
        refine (hle _).2 ?_
        have hlt := strata_neg h hk hn h1
        cases hp : act (Int.toNat (impldirAt d nm)) with
        | false => rfl
        | true => have := ha _ hp; have := ha _ hact; omega
structure EvS (d : List DirD) (L : List Int) (on : Nat → Bool) (fs : List FileD) (k : Int) (o : List ResultD) : Prop where
  names : o.map (·.1) = d.map (·.1)
  none : ∀ j, k ≤ nth L j → on j = true → (nth o j).2 = []
  some_ : ∀ j, j < d.length → on j = true → ∃ p : FileD → Bool, (nth o j).2 = sel fs (fun f => f.1) p
def actD (L : List Int) (on : Nat → Bool) (k : Int) (j : Nat) : Bool := (nth L j == k) && on j
theorem evS_state {d : List DirD} {L : List Int} {on : Nat → Bool} {fs : List FileD} {k : Int} {o : List ResultD} (h : EvS d L on fs k o) : StateC fs (fun f : FileD => f.1) (pickD d) (actD L on k) (d.map (·.1)) o o :=
  ⟨h.names, fun j _ hj => ⟨fun _ => false, by
    unfold actD at hj
    simp only [Bool.and_eq_true, beq_iff_eq] at hj
    rw [h.none j (by omega) hj.2]; simp [sel], fun f _ hf => by cases hf⟩, fun _ _ => rfl⟩
theorem evS_next {d : List DirD} {L : List Int} {on : Nat → Bool} {k : Int} {o o' : List ResultD} {fs : List FileD} (h : EvS d L on fs k o) (h' : StateC fs (fun f : FileD => f.1) (pickD d) (actD L on k) (d.map (·.1)) o o') : EvS d L on fs (k + 1) o' :=
  ⟨h'.names, fun j hj hon => by
    rw [h'.rest j (by unfold actD; rw [Bool.and_eq_false_iff]; exact .inl (beq_eq_false_iff_ne.2 (by omega)))]
    exact h.none j (by omega) hon, fun j hj hon => by
    cases ha : actD L on k j with
    | false => rw [h'.rest j ha]; exact h.some_ j hj hon
    | true =>
      have hlen : o'.length = d.length := by have := congrArg List.length h'.names; simpa using this
      obtain ⟨p, hp, _⟩ := h'.good j (by omega) ha
      exact ⟨p, hp⟩⟩
theorem evS_len {d : List DirD} {L : List Int} {on : Nat → Bool} {fs : List FileD} {k : Int} {o : List ResultD} (h : EvS d L on fs k o) : List.length o = List.length d := by have := congrArg List.length h.names; simpa using this
def StepE (s : StoreD) (d : List DirD) (L : List Int) (on : Nat → Bool) (lv : Int) {R T : Type} (f : Nat → DirD → List ResultD × Bool → Rd R (List ResultD × Bool) T) : Prop :=
  ∀ k a o c, d[k]? = some a → f k a (o, c) = bif actD L on lv k then (bif !(decide (implSelectFiles s a.2 o = (nth o k).2)) then .next (List.set o k ((nth o k).1, implSelectFiles s a.2 o), true) else .next (o, c)) else .next (o, c)
theorem pass_eq {R : Type} {s : StoreD} {d : List DirD} {L : List Int} {on : Nat → Bool} {lv : Int} {f : Nat → DirD → List ResultD × Bool → Rd R (List ResultD × Bool) (List ResultD × Bool)} {e : Nat → List ResultD × Bool → List ResultD × Bool}
    (hf : StepE s d L on lv f) (he : ∀ k s, e k s = s) : ∀ (l : List DirD) (k : Nat) (o : List ResultD) (c : Bool), d.drop k = l → forL f e l k (o, c) = .brk (passC s.2.1 (fun f : FileD => f.1) (pickD d) (actD L on lv) (List.range' k l.length) (o, c))
  | [], k, o, c, _ => by simp [forL, passC, he]
  | a :: l, k, o, c, hl => by
    have hk : d[k]? = some a := by
      have := congrArg (·[0]?) hl
      simpa using this
    have ha : nth d k = a := nth_of hk
    have hrest : d.drop (k + 1) = l := by rw [← List.drop_drop, hl]; rfl
    have hp : passC s.2.1 (fun f : FileD => f.1) (pickD d) (actD L on lv) (List.range' k (a :: l).length) (o, c) = passC s.2.1 (fun f : FileD => f.1) (pickD d) (actD L on lv) (List.range' (k + 1) l.length) (stepC s.2.1 (fun f : FileD => f.1) (pickD d) (actD L on lv) (o, c) k) := by
      rw [List.length_cons, List.range'_succ]; rfl
    have hsel : sel s.2.1 (fun f : FileD => f.1) (pickD d k o) = implSelectFiles s a.2 o := by rw [select_sel, ← ha]
    rw [hp]
    simp only [forL, hf k a o c hk]
    unfold stepC
    cases actD L on lv k with
    | false => simp only [cond_false]; exact pass_eq hf he l (k + 1) o c hrest
    | true =>
      simp only [cond_true, hsel]
      by_cases hq : implSelectFiles s a.2 o = (nth o k).2
      · rw [decide_eq_true hq, if_pos hq]; exact pass_eq hf he l (k + 1) o c hrest
      · rw [decide_eq_false hq, if_neg hq]; exact pass_eq hf he l (k + 1) _ true hrest
theorem ev_run {R' : Type} {s : StoreD} {d : List DirD} {L : List Int} {on : Nat → Bool} {lv : Int} {f : Nat → DirD → List ResultD × Bool → Rd (Rd R' (List ResultD × Int × Bool) (List ResultD × Int)) (List ResultD × Bool) (List ResultD × Bool)} {e : Nat → List ResultD × Bool → List ResultD × Bool} {F : List ResultD × Int × Bool → Rd R' (List ResultD × Int × Bool) (List ResultD × Int)}
    (hf : StepE s d L on lv f) (he : ∀ k s, e k s = s) (hF : ∀ x, F x = bif x.2.2 then (Out.on (forL f e d 0 (x.1, false)) fun y => .next (y.1, IntKind.i64.wrap (x.2.1 + 1), y.2)) else .brk (x.1, x.2.1))
    (hS : implStrata d = (L, true)) {o : List ResultD} (h : EvS d L on s.2.1 lv o) (p : Int) :
    ∃ o' p', whl F (List.length d * List.length s.2.1 + 2) (o, p, true) = some (.brk (o', p')) ∧ EvS d L on s.2.1 (lv + 1) o' := by
  have hlen : o.length = d.length := by have := congrArg List.length h.names; simpa using this
  have hroom := room_le s.2.1.length (actD L on lv) o 0
  rw [hlen] at hroom
  obtain ⟨s', h1, hc, t, h2, h3⟩ := whlC (fs := s.2.1) (idOf := fun f : FileD => f.1) (m := pickD d) (act := actD L on lv) (nm := d.map (·.1)) (F := F) (out := fun x => x.1) (ch := fun x => x.2.2) (n := d.length) (by simp)
    (fun x hx => ⟨_, by rw [hF, hx, cond_true, pass_eq hf he d 0 x.1 false rfl]; rfl, by rw [List.range_eq_range']⟩)
    (fun x hx => ⟨_, by rw [hF, hx, cond_false]⟩) (mono_ok hS s.2.1 fun k hk => by unfold actD at hk; simp only [Bool.and_eq_true, beq_iff_eq] at hk; exact hk.1) (o := o) (List.length d * List.length s.2.1 + 2) (o, p, true) (evS_state h) (by simp only [cond_true]; omega)
  have hc' : s'.2.2 = false := hc
  have hb : F s' = .brk (s'.1, s'.2.1) := by rw [hF, hc']; rfl
  rw [hb] at h2
  cases h2
  exact ⟨s'.1, s'.2.1, h3, evS_next h h1⟩
theorem ev_start {R T : Type} {d : List DirD} {L : List Int} {on : Nat → Bool} {fs : List FileD} {g : DirD → List Int} {f : Nat → DirD → List ResultD → Rd R (List ResultD) T} {e : Nat → List ResultD → T} (hf : ∀ k a s, f k a s = .next (s ++ [(a.1, g a)])) (hg : ∀ j, j < d.length → on j = true → g (nth d j) = []) :
    forL f e d 0 [] = .brk (e d.length (d.map fun a => (a.1, g a))) ∧ EvS d L on fs 0 (d.map fun a => (a.1, g a)) := by
  refine ⟨by rw [forL_map (g := fun a => ((a.1, g a) : ResultD)) hf]; simp, ?_, fun j _ hj => ?_, fun j hj hon => ?_⟩
  · rw [List.map_map]; rfl
  · by_cases hjl : j < d.length
    · have : nth (d.map fun a => ((a.1, g a) : ResultD)) j = ((nth d j).1, g (nth d j)) := by simp [nth, List.getD, hjl]
      rw [this]; exact hg j hjl hj
    · have : nth (d.map fun a => ((a.1, g a) : ResultD)) j = default := by simp [nth, List.getD, hjl]
      rw [this]; rfl
  · have : nth (d.map fun a => ((a.1, g a) : ResultD)) j = ((nth d j).1, g (nth d j)) := by simp [nth, List.getD, hj]
    exact ⟨fun _ => false, by rw [this, hg j hj hon]; simp [sel]⟩
theorem strata_small {d : List DirD} (h : ((implStrata d)).2 = true) : List.length ((implStrata d)).1 = List.length d ∧ List.length d ≤ 5 ∧ ∀ x, x ∈ ((implStrata d)).1 → 0 ≤ x ∧ x ≤ 5 := by
  have hS : implStrata d = ((implStrata d).1, true) := Prod.ext rfl h
  obtain ⟨hv, hlen, hs, h0⟩ := strata_ok hS
  have h5 := vdirs_len hv
  refine ⟨hlen, h5, fun x hx => ?_⟩
  obtain ⟨i, hi, rfl⟩ := mem_nth hx
  refine ⟨h0 i, ?_⟩
  have hb := strata_le hS i
  omega
open GoE (enc wide)
def implDirNames_f0 (_ : Nat) (a0 : DirD) (s0 : (List ByteArray)) : Rd ((List ByteArray)) ((List ByteArray)) ((List ByteArray)) := (.next (s0 ++ [a0.1]))
def implDirNames_e0 (_ : Nat) (s0 : (List ByteArray)) : (List ByteArray) := s0
def implDirNames (d : (List DirD)) : (List ByteArray) := (Out.on (forL implDirNames_f0 implDirNames_e0 d 0 []) (fun y0 => y0))
theorem implDirNames_a (d : (List DirD)) : ACalls Tryz.prog 41 [.h d] (.o 0 (implDirNames d)) := by
  refine acalls_of (tt := tt) tt_ok Tryz.func41 (fn := Tryz.f41) rfl (by unfold FnOk; kernel_rfl) (Nat.le_of_ble_eq_true rfl) fun w0 F0 hG => ?_
  refine awp_seq ?_
  refine rk tt_ok [(2, .e 0)] [] [] [] [] (o0) ?_
  refine awp_seq ?_
  refine rk tt_ok [(3, .one (.slc (.own true 384) 1 []))] [] [] [] [] (o0) ?_
  refine awp_seq ?_
  refine awp_seq ?_
  refine rk tt_ok [(7, .h d), (8, .i (d.length : Int)), (9, .i 0)] [0] [] [] [(1, .val (.i (d.length : Int)))] (o1 (ob_eq (av_len d))) ?_
  refine wdT 7 0 .sh d (fun hw1 => ?_)
  have hl2 : List.length d ≤ 1073741824 := wide_len (hw1)
  refine blk (fun (k0 : Nat) (s0 : (List ByteArray)) => [(3, .o 147201 s0), (9, .i ((k0 : Nat) : Int))]) [3, 9] (fun k0 s0 => []) [] (fun (y0 : (List ByteArray)) => [(3, .o 147351 y0)]) [3, 7, 8, 9] (fun y0 => []) [] (fun (k0 : Nat) (s0 : (List ByteArray)) => (forL implDirNames_f0 implDirNames_e0 d 0 []) = forL implDirNames_f0 implDirNames_e0 (List.drop k0 d) k0 s0 ∧ List.length s0 ≤ k0) (fun (y0 : (List ByteArray)) => (forL implDirNames_f0 implDirNames_e0 d 0 []) = .brk y0) d.length [] (weak_sf [(384, 147201)] (by kernel_rfl)) ⟨rfl, (by simp)⟩ (fun k0 s0 hk0 hI0 => ?_) (fun k0 s0 hk0 hI0 => ?_) (fun y0 hD0 => ?_)
  ·
    have hA0_0 := hI0.2
    obtain ⟨a0, hx0⟩ := get_some (l := d) (i := k0) hk0
    refine awp_seq ?_
    refine rk tt_ok [(10, .b true)] [] [] [] [(0, .val (.b true))] (o1 (ob_eq (av_bool (decide_eq_true (p := ((k0 : Nat) : Int) < (d.length : Int)) (by omega))))) ?_
    refine awp_seq ?_
    refine ckT ?_
    refine awp_skip ?_
    refine awp_seq ?_
    refine awp_block ?_
    refine awp_seq ?_
    refine rk tt_ok [(5, .p 5 0)] [10] [(5, [.s a0.1, .h a0.2])] [] [(0, .row [.s a0.1, .h a0.2])] (o1 (ob_elem (el_of (i := ((k0 : Nat) : Int)) (by omega) rfl hx0))) ?_
    refine wdT 3 0 (.own true 147201) s0 (fun hw3 => ?_)
    have hl4 : List.length s0 ≤ 1073741824 := wide_len (hw3)
    refine rk tt_ok [(3, .one (.slc (.own true 1088) 1 ((eL s0) ++ [[.s a0.1]])))] [3, 5] [] [5] [] (o1 (ob_len (len_of (eL_length s0) (eL_length [a0.1]) (by first | omega | (simp; omega) | simp)))) ?_
    refine eqn [(3, .o 1088 (s0 ++ [a0.1]))] [3] [] [] (by rw [show ((eL s0) ++ [[.s a0.1]]) = (eL (s0 ++ [a0.1])) from app_eL (rfl) (rfl)]; first | done | kernel_rfl) ?_
    refine rk tt_ok [(9, .i ((k0 + 1 : Nat) : Int))] [9] [] [] [(0, .val (.i ((k0 + 1 : Nat) : Int)))] (o1 (ob_eq (av_i (wrap_succ k0 (by omega))))) ?_
    exact Exists.intro (s0 ++ [a0.1]) (And.intro (weak_sf [(1088, 147201)] (by kernel_rfl)) ⟨forL_next hx0 (rfl) hI0.1, by first | omega | (simp; omega) | simp⟩)
  ·
    have hA0_0 := hI0.2
    refine awp_seq ?_
    refine rk tt_ok [(10, .b false)] [] [] [] [(0, .val (.b false))] (o1 (ob_eq (av_bool (decide_eq_false (p := ((k0 : Nat) : Int) < (d.length : Int)) (by omega))))) ?_
    refine awp_seq ?_
    refine ckF ?_
    refine awp_exit ?_
    exact Exists.intro s0 (And.intro (weak_sf [(147201, 147351)] (by kernel_rfl)) (forL_end hk0 (rfl) hI0.1))
  ·
    refine awp_seq ?_
    refine rk tt_ok [(2, .o 147351 y0)] [2, 3] [] [] [] (o0) ?_
    refine awp_ret ?_
    exact pret [] (congrArg (fun z => (.o 0 z : AV)) (show implDirNames d = y0 from on_b hD0 (rfl)).symm)
def slicesIndex_string_f0 (v : ByteArray) (k0 : Nat) (a0 : ByteArray) (_ : Unit) : Rd (Int) (Unit) (Unit) := (bif (v.toList == a0.toList) then (.ret ((k0 : Nat) : Int)) else (.next ()))
def slicesIndex_string_e0 (_ : Nat) (_ : Unit) : Unit := ()
def slicesIndex_string (s_ : (List ByteArray)) (v : ByteArray) : Int := (Out.on (forL (slicesIndex_string_f0 v) slicesIndex_string_e0 s_ 0 ()) (fun _ => -1))
theorem slicesIndex_string_a (s_ : (List ByteArray)) (v : ByteArray) : ACalls Tryz.prog 62 [.h s_, .s v] (.i (slicesIndex_string s_ v)) := by
  refine acalls_of (tt := tt) tt_ok Tryz.func62 (fn := Tryz.f62) rfl (by unfold FnOk; kernel_rfl) (Nat.le_of_ble_eq_true rfl) fun w0 F0 hG => ?_
  refine awp_seq ?_
  refine rk tt_ok [(4, .i 0)] [] [] [] [] (o0) ?_
  refine awp_seq ?_
  refine awp_seq ?_
  refine rk tt_ok [(7, .i (s_.length : Int)), (8, .i 0)] [] [] [] [(1, .val (.i (s_.length : Int)))] (o1 (ob_eq (av_len s_))) ?_
  refine wdT 0 0 .sh s_ (fun hw1 => ?_)
  have hl2 : List.length s_ ≤ 1073741824 := wide_len (hw1)
  refine blk (fun (k0 : Nat) (s0 : Unit) => [(8, .i ((k0 : Nat) : Int))]) [8] (fun k0 s0 => []) [] (fun (y0 : Unit) => []) [0, 1, 7, 8] (fun y0 => []) [] (fun (k0 : Nat) (s0 : Unit) => (forL (slicesIndex_string_f0 v) slicesIndex_string_e0 s_ 0 ()) = forL (slicesIndex_string_f0 v) slicesIndex_string_e0 (List.drop k0 s_) k0 s0) (fun (y0 : Unit) => (forL (slicesIndex_string_f0 v) slicesIndex_string_e0 s_ 0 ()) = .brk y0) s_.length () (weak_fit (by kernel_rfl)) rfl (fun k0 s0 hk0 hI0 => ?_) (fun k0 s0 hk0 hI0 => ?_) (fun y0 hD0 => ?_)
  ·
    obtain ⟨a0, hx0⟩ := get_some (l := s_) (i := k0) hk0
    refine awp_seq ?_
    refine rk tt_ok [(9, .b true)] [] [] [] [(0, .val (.b true))] (o1 (ob_eq (av_bool (decide_eq_true (p := ((k0 : Nat) : Int) < (s_.length : Int)) (by omega))))) ?_
    refine awp_seq ?_
    refine ckT ?_
    refine awp_skip ?_
    refine awp_seq ?_
    refine awp_block ?_
    refine awp_seq ?_
    refine rk tt_ok [(5, .i ((k0 : Nat) : Int))] [9] [] [] [] (o0) ?_
    refine awp_seq ?_
    refine rk tt_ok [(16, .b (v.toList == a0.toList))] [] [] [] [(3, .row [.s a0])] (o1 (ob_elem (el_of (i := ((k0 : Nat) : Int)) (by omega) rfl hx0))) ?_
    refine ck (v.toList == a0.toList) (fun h3 => ?_) (fun h3 => ?_)
    ·
      refine awp_seq ?_
      refine rk tt_ok [(4, .i ((k0 : Nat) : Int))] [4, 5, 16] [] [] [] (o0) ?_
      refine awp_ret ?_
      have hr4 : (forL (slicesIndex_string_f0 v) slicesIndex_string_e0 s_ 0 ()) = .ret ((k0 : Nat) : Int) := forL_ret hx0 (bif_t h3 (rfl)) hI0
      exact pret [] (congrArg (fun z => (.i z : AV)) (show slicesIndex_string s_ v = ((k0 : Nat) : Int) from on_r hr4).symm)
    ·
      refine awp_skip ?_
      refine rk tt_ok [(8, .i ((k0 + 1 : Nat) : Int))] [5, 8, 16] [] [] [(0, .val (.i ((k0 + 1 : Nat) : Int)))] (o1 (ob_eq (av_i (wrap_succ k0 (by omega))))) ?_
      exact Exists.intro () (And.intro (weak_fit (by kernel_rfl)) (forL_next hx0 (bif_f h3 (rfl)) hI0))
  ·
    refine awp_seq ?_
    refine rk tt_ok [(9, .b false)] [] [] [] [(0, .val (.b false))] (o1 (ob_eq (av_bool (decide_eq_false (p := ((k0 : Nat) : Int) < (s_.length : Int)) (by omega))))) ?_
    refine awp_seq ?_
    refine ckF ?_
    refine awp_exit ?_
    exact Exists.intro () (And.intro (weak_fit (by kernel_rfl)) (forL_end hk0 (rfl) hI0))
  ·
    refine awp_seq ?_
    refine rk tt_ok [(4, .i (-1))] [4] [] [] [] (o0) ?_
    refine awp_ret ?_
    exact pret [] (congrArg (fun z => (.i z : AV)) (show slicesIndex_string s_ v = -1 from on_b hD0 (rfl)).symm)
def slicesContains_string (s_ : (List ByteArray)) (v : ByteArray) : Bool := decide ((slicesIndex_string s_ v) ≥ (0 : Int))
theorem slicesContains_string_a (s_ : (List ByteArray)) (v : ByteArray) : ACalls Tryz.prog 47 [.h s_, .s v] (.b (slicesContains_string s_ v)) := by
  refine acalls_of (tt := tt) tt_ok Tryz.func47 (fn := Tryz.f47) rfl (by unfold FnOk; kernel_rfl) (Nat.le_of_ble_eq_true rfl) fun w0 F0 hG => ?_
  refine awp_seq ?_
  refine rk tt_ok [(4, .b false)] [] [] [] [] (o0) ?_
  refine awp_seq ?_
  refine rk tt_ok [(4, .b (decide ((slicesIndex_string s_ v) ≥ (0 : Int))))] [0, 1, 4] [] [] [(2, .val (.i (slicesIndex_string s_ v)))] (o1 (ob_call (slicesIndex_string_a s_ v))) ?_
  refine awp_ret ?_
  exact pret [] (congrArg (fun z => (.b z : AV)) (show slicesContains_string s_ v = decide ((slicesIndex_string s_ v) ≥ (0 : Int)) from rfl).symm)
def slicesMax_int_f0 (x : (List Int)) (k0 : Nat) (s0 : Int) : Rd (Int) (Int) (Int) := (.next (max s0 (nth x (k0 + 1))))
def slicesMax_int_e0 (_ : Nat) (s0 : Int) : Int := s0
def slicesMax_int (x : (List Int)) : Int := (Out.on (forN (slicesMax_int_f0 x) slicesMax_int_e0 (x.length - 1) 0 (nth x 0)) (fun y0 => y0))
theorem slicesMax_int_a (x : (List Int)) (hp : 0 < x.length) : ACalls Tryz.prog 71 [.h x] (.i (slicesMax_int x)) := by
  refine acalls_of (tt := tt) tt_ok Tryz.func71 (fn := Tryz.f71) rfl (by unfold FnOk; kernel_rfl) (Nat.le_of_ble_eq_true rfl) fun w0 F0 hG => ?_
  refine awp_seq ?_
  refine rk tt_ok [(2, .i 0)] [] [] [] [] (o0) ?_
  refine awp_seq ?_
  refine awp_seq ?_
  refine rk tt_ok [(7, .b false)] [] [] [] [(1, .val (.i (x.length : Int))), (2, .val (.b false))] (o2 (ob_eq (av_len x)) (o1 (ob_eq (show .b (decide ((x.length : Int) < (1 : Int))) = .b false from av_bool (decide_eq_false (by omega)))))) ?_
  refine ckF ?_
  refine awp_skip ?_
  refine awp_seq ?_
  refine wdT 0 0 .sh x (fun hw2 => ?_)
  have hl3 : List.length x ≤ 1073741824 := wide_len (hw2)
  have hx1 : x[0]? = some (nth x 0) := nth_get (by omega)
  refine rk tt_ok [(3, .i (nth x 0))] [7] [] [] [(1, .row [.i (nth x 0)])] (o1 (ob_elem (el_of (i := 0) (by omega) rfl hx1))) ?_
  refine awp_seq ?_
  refine awp_seq ?_
  refine rk tt_ok [(4, .i 1)] [] [] [] [] (o0) ?_
  refine blk (fun (k0 : Nat) (s0 : Int) => [(3, .i s0), (4, .i ((k0 + 1 : Nat) : Int))]) [3, 4] (fun k0 s0 => []) [] (fun (y0 : Int) => [(3, .i y0)]) [0, 3, 4] (fun y0 => []) [] (fun (k0 : Nat) (s0 : Int) => (forN (slicesMax_int_f0 x) slicesMax_int_e0 (x.length - 1) 0 (nth x 0)) = forN (slicesMax_int_f0 x) slicesMax_int_e0 ((x.length - 1) - k0) k0 s0) (fun (y0 : Int) => (forN (slicesMax_int_f0 x) slicesMax_int_e0 (x.length - 1) 0 (nth x 0)) = .brk y0) (x.length - 1) (nth x 0) (weak_fit (by kernel_rfl)) rfl (fun k0 s0 hk0 hI0 => ?_) (fun k0 s0 hk0 hI0 => ?_) (fun y0 hD0 => ?_)
  ·
    refine awp_seq ?_
    refine awp_seq ?_
    refine rk tt_ok [(15, .b true)] [] [] [] [(2, .val (.i (x.length : Int))), (3, .val (.b true))] (o2 (ob_eq (av_len x)) (o1 (ob_eq (av_bool (decide_eq_true (p := ((k0 + 1 : Nat) : Int) < (x.length : Int)) (by omega)))))) ?_
    refine ckT ?_
    refine awp_skip ?_
    refine awp_seq ?_
    refine awp_block ?_
    have hx4 : x[(k0 + 1)]? = some (nth x (k0 + 1)) := nth_get (by omega)
    refine rk tt_ok [(3, .i (max s0 (nth x (k0 + 1))))] [3, 15] [] [] [(3, .row [.i (nth x (k0 + 1))])] (o1 (ob_elem (el_of (i := ((k0 + 1 : Nat) : Int)) (by omega) rfl hx4))) ?_
    refine rk tt_ok [(4, .i ((k0 + 2 : Nat) : Int))] [4] [] [] [(1, .val (.i ((k0 + 2 : Nat) : Int)))] (o1 (ob_eq (show .i (IntKind.i64.wrap (((k0 + 1 : Nat) : Int) + 1)) = .i ((k0 + 2 : Nat) : Int) from av_i ((IntWalk.i64_in _ (by omega)).trans (by omega))))) ?_
    exact Exists.intro (max s0 (nth x (k0 + 1))) (And.intro (weak_fit (by kernel_rfl)) (forN_next hk0 (rfl) hI0))
  ·
    refine awp_seq ?_
    refine awp_seq ?_
    refine rk tt_ok [(15, .b false)] [] [] [] [(2, .val (.i (x.length : Int))), (3, .val (.b false))] (o2 (ob_eq (av_len x)) (o1 (ob_eq (av_bool (decide_eq_false (p := ((k0 + 1 : Nat) : Int) < (x.length : Int)) (by omega)))))) ?_
    refine ckF ?_
    refine awp_exit ?_
    exact Exists.intro s0 (And.intro (weak_fit (by kernel_rfl)) (forN_end hk0 (rfl) hI0))
  ·
    refine awp_seq ?_
    refine rk tt_ok [(2, .i y0)] [2, 3] [] [] [] (o0) ?_
    refine awp_ret ?_
    exact pret [] (congrArg (fun z => (.i z : AV)) (show slicesMax_int x = y0 from on_b hD0 (rfl)).symm)
def implMaxStratum (d : (List DirD)) : Int := (bif ((!(((implStrata d)).2)) || (((((implStrata d)).1).length : Int) == (0 : Int))) then -1 else (slicesMax_int (((implStrata d)).1)))
theorem implMaxStratum_a (d : (List DirD)) : ACalls Tryz.prog 55 [.h d] (.i (implMaxStratum d)) := by
  refine acalls_of (tt := tt) tt_ok Tryz.func55 (fn := Tryz.f55) rfl (by unfold FnOk; kernel_rfl) (Nat.le_of_ble_eq_true rfl) fun w0 F0 hG => ?_
  refine awp_seq ?_
  refine rk tt_ok [(2, .i 0)] [] [] [] [] (o0) ?_
  refine awp_seq ?_
  refine rk tt_ok [(3, .o 448 (((implStrata d)).1)), (4, .b (((implStrata d)).2))] [0] [] [] [(1, .val (.tup [(false, [.o 0 (((implStrata d)).1)]), (false, [.b (((implStrata d)).2)])]))] (o1 (ob_call (implStrata_a d))) ?_
  refine awp_seq ?_
  refine awp_seq ?_
  refine jn [(16, .b ((!(((implStrata d)).2)) || (((((implStrata d)).1).length : Int) == (0 : Int))))] [4] [] [] (!(((implStrata d)).2)) (fun h1 => ?_) (fun h1 => ?_) ?_
  ·
    have h1n : (((implStrata d)).2) = false := bnot_t h1
    refine rk tt_ok [(16, .b true)] [4] [] [] [(0, .val (.b false)), (1, .val (.b true))] (o2 (ob_eq (av_bool h1n)) (o1 (ob_eq (show .b (!false) = .b true from rfl)))) ?_
    exact ⟨rfl, weak_fit (by rw [h1]; first | done | kernel_rfl)⟩
  ·
    have h1n : (((implStrata d)).2) = true := bnot_f h1
    refine rk tt_ok [(16, .b (((((implStrata d)).1).length : Int) == (0 : Int)))] [4] [] [] [(0, .val (.b true)), (1, .val (.b false)), (4, .val (.i ((((implStrata d)).1).length : Int)))] (o2 (ob_eq (av_bool h1n)) (o2 (ob_eq (show .b (!true) = .b false from rfl)) (o1 (ob_eq (av_len (((implStrata d)).1)))))) ?_
    exact ⟨rfl, weak_fit (by rw [h1]; first | done | kernel_rfl)⟩
  refine ck ((!(((implStrata d)).2)) || (((((implStrata d)).1).length : Int) == (0 : Int))) (fun h2 => ?_) (fun h2 => ?_)
  ·
    refine awp_seq ?_
    refine rk tt_ok [(2, .i (-1))] [2, 16] [] [] [] (o0) ?_
    refine awp_ret ?_
    exact pret [] (congrArg (fun z => (.i z : AV)) (show implMaxStratum d = -1 from bif_t h2 (rfl)).symm)
  ·
    have h2l : ((!(((implStrata d)).2))) = false := or_l h2
    have h2ln : (((implStrata d)).2) = true := bnot_f h2l
    have h2r : ((((((implStrata d)).1).length : Int) == (0 : Int))) = false := or_r h2
    have h2rd := ne_of_beq h2r
    refine awp_skip ?_
    refine awp_seq ?_
    refine rk tt_ok [(2, .i (slicesMax_int (((implStrata d)).1)))] [2, 3, 16] [] [] [(1, .val (.i (slicesMax_int (((implStrata d)).1))))] (o1 (ob_call (slicesMax_int_a (((implStrata d)).1) (by first | omega | (simp_all; omega))))) ?_
    refine awp_ret ?_
    exact pret [] (congrArg (fun z => (.i z : AV)) (show implMaxStratum d = (slicesMax_int (((implStrata d)).1)) from bif_f h2 (rfl)).symm)
def slicesEqual_int_f0 (s2_ : (List Int)) (k0 : Nat) (a0 : Int) (_ : Unit) : Rd (Bool) (Unit) (Unit) := (bif (a0 != (nth s2_ k0)) then (.ret false) else (.next ()))
def slicesEqual_int_e0 (_ : Nat) (_ : Unit) : Unit := ()
def slicesEqual_int (s1_ : (List Int)) (s2_ : (List Int)) : Bool := (bif ((s1_.length : Int) != (s2_.length : Int)) then false else (Out.on (forL (slicesEqual_int_f0 s2_) slicesEqual_int_e0 s1_ 0 ()) (fun _ => true)))
theorem slicesEqual_int_a (s1_ : (List Int)) (s2_ : (List Int)) : ACalls Tryz.prog 57 [.h s1_, .h s2_] (.b (slicesEqual_int s1_ s2_)) := by
  refine acalls_of (tt := tt) tt_ok Tryz.func57 (fn := Tryz.f57) rfl (by unfold FnOk; kernel_rfl) (Nat.le_of_ble_eq_true rfl) fun w0 F0 hG => ?_
  refine awp_seq ?_
  refine rk tt_ok [(4, .b false)] [] [] [] [] (o0) ?_
  refine awp_seq ?_
  refine awp_seq ?_
  refine rk tt_ok [(10, .b ((s1_.length : Int) != (s2_.length : Int)))] [] [] [] [(1, .val (.i (s1_.length : Int))), (3, .val (.i (s2_.length : Int)))] (o2 (ob_eq (av_len s1_)) (o1 (ob_eq (av_len s2_)))) ?_
  refine ck ((s1_.length : Int) != (s2_.length : Int)) (fun h1 => ?_) (fun h1 => ?_)
  ·
    have h1d := ne_of_bne h1
    refine awp_seq ?_
    refine rk tt_ok [] [10] [] [] [] (o0) ?_
    refine awp_ret ?_
    exact pret [] (congrArg (fun z => (.b z : AV)) (show slicesEqual_int s1_ s2_ = false from bif_t h1 (rfl)).symm)
  ·
    have h1d := eq_of_bne h1
    refine awp_skip ?_
    refine awp_seq ?_
    refine awp_seq ?_
    refine rk tt_ok [(12, .i (s1_.length : Int)), (13, .i 0)] [10] [] [] [(1, .val (.i (s1_.length : Int)))] (o1 (ob_eq (av_len s1_))) ?_
    refine wdT 0 0 .sh s1_ (fun hw2 => ?_)
    have hl3 : List.length s1_ ≤ 1073741824 := wide_len (hw2)
    refine blk (fun (k0 : Nat) (s0 : Unit) => [(13, .i ((k0 : Nat) : Int))]) [13] (fun k0 s0 => []) [] (fun (y0 : Unit) => []) [0, 1, 12, 13] (fun y0 => []) [] (fun (k0 : Nat) (s0 : Unit) => (forL (slicesEqual_int_f0 s2_) slicesEqual_int_e0 s1_ 0 ()) = forL (slicesEqual_int_f0 s2_) slicesEqual_int_e0 (List.drop k0 s1_) k0 s0) (fun (y0 : Unit) => (forL (slicesEqual_int_f0 s2_) slicesEqual_int_e0 s1_ 0 ()) = .brk y0) s1_.length () (weak_fit (by kernel_rfl)) rfl (fun k0 s0 hk0 hI0 => ?_) (fun k0 s0 hk0 hI0 => ?_) (fun y0 hD0 => ?_)
    ·
      obtain ⟨a0, hx0⟩ := get_some (l := s1_) (i := k0) hk0
      refine awp_seq ?_
      refine rk tt_ok [(14, .b true)] [] [] [] [(0, .val (.b true))] (o1 (ob_eq (av_bool (decide_eq_true (p := ((k0 : Nat) : Int) < (s1_.length : Int)) (by omega))))) ?_
      refine awp_seq ?_
      refine ckT ?_
      refine awp_skip ?_
      refine awp_seq ?_
      refine awp_block ?_
      refine awp_seq ?_
      refine rk tt_ok [(5, .i ((k0 : Nat) : Int))] [14] [] [] [] (o0) ?_
      refine awp_seq ?_
      refine wdT 1 0 .sh s2_ (fun hw5 => ?_)
      have hl6 : List.length s2_ ≤ 1073741824 := wide_len (hw5)
      have hx4 : s2_[k0]? = some (nth s2_ k0) := nth_get (by omega)
      refine rd' tt_ok tt_mx [(24, .b (a0 != (nth s2_ k0)))] [5] [] [] [(2, .row [.i a0]), (6, .row [.i (nth s2_ k0)])] (o2 (ob_elem (el_of (i := ((k0 : Nat) : Int)) (by omega) rfl hx0)) (o1 (ob_elem (el_of (i := ((k0 : Nat) : Int)) (by omega) rfl hx4)))) ?_
      refine ck (a0 != (nth s2_ k0)) (fun h7 => ?_) (fun h7 => ?_)
      ·
        have h7d := ne_of_bne h7
        refine awp_seq ?_
        refine rk tt_ok [] [24] [] [] [] (o0) ?_
        refine awp_ret ?_
        have hr8 : (forL (slicesEqual_int_f0 s2_) slicesEqual_int_e0 s1_ 0 ()) = .ret false := forL_ret hx0 (bif_t h7 (rfl)) hI0
        exact pret [] (congrArg (fun z => (.b z : AV)) (show slicesEqual_int s1_ s2_ = false from bif_f h1 (on_r hr8)).symm)
      ·
        have h7d := eq_of_bne h7
        refine awp_skip ?_
        refine rk tt_ok [(13, .i ((k0 + 1 : Nat) : Int))] [13, 24] [] [] [(0, .val (.i ((k0 + 1 : Nat) : Int)))] (o1 (ob_eq (av_i (wrap_succ k0 (by omega))))) ?_
        exact Exists.intro () (And.intro (weak_fit (by kernel_rfl)) (forL_next hx0 (bif_f h7 (rfl)) hI0))
    ·
      refine awp_seq ?_
      refine rk tt_ok [(14, .b false)] [] [] [] [(0, .val (.b false))] (o1 (ob_eq (av_bool (decide_eq_false (p := ((k0 : Nat) : Int) < (s1_.length : Int)) (by omega))))) ?_
      refine awp_seq ?_
      refine ckF ?_
      refine awp_exit ?_
      exact Exists.intro () (And.intro (weak_fit (by kernel_rfl)) (forL_end hk0 (rfl) hI0))
    ·
      refine awp_seq ?_
      refine rk tt_ok [(4, .b true)] [4] [] [] [] (o0) ?_
      refine awp_ret ?_
      exact pret [] (congrArg (fun z => (.b z : AV)) (show slicesEqual_int s1_ s2_ = true from bif_f h1 (on_b hD0 (rfl))).symm)
def implevaluated_f0 (r : (List ResultD)) (names : (List ByteArray)) (_ : Nat) (a0 : DirD) (s0 : (List ResultD)) : Rd ((List ResultD) × Int × Bool) ((List ResultD)) ((List ResultD)) := (bif (!(slicesContains_string names a0.1)) then (.next (s0 ++ [(a0.1, (implResultIDs r a0.1))])) else (.next (s0 ++ [((a0.1, []) : ResultD)])))
def implevaluated_e0 (_ : Nat) (s0 : (List ResultD)) : (List ResultD) := s0
def implevaluated_f3 (s_ : StoreD) (d : (List DirD)) (names : (List ByteArray)) (k1 : Nat) (k3 : Nat) (a3 : DirD) (s3 : (List ResultD) × Bool) : Rd (Rd (Rd ((List ResultD) × Int × Bool) ((List ResultD) × Int) ((List ResultD) × Int)) ((List ResultD) × Int × Bool) ((List ResultD) × Int)) ((List ResultD) × Bool) ((List ResultD) × Bool) := (bif (((nth (((implStrata d)).1) k3) != ((k1 : Nat) : Int)) || (!(slicesContains_string names a3.1))) then (.next (s3.1, s3.2)) else (bif (!(slicesEqual_int (implSelectFiles s_ a3.2 s3.1) ((nth s3.1 k3).2))) then (.next (List.set s3.1 k3 ((nth s3.1 k3).1, (implSelectFiles s_ a3.2 s3.1)), true)) else (.next (s3.1, s3.2))))
def implevaluated_e3 (_ : Nat) (s3 : (List ResultD) × Bool) : (List ResultD) × Bool := (s3.1, s3.2)
def implevaluated_f2 (s_ : StoreD) (d : (List DirD)) (names : (List ByteArray)) (k1 : Nat) (s2 : (List ResultD) × Int × Bool) : Rd (Rd ((List ResultD) × Int × Bool) ((List ResultD) × Int) ((List ResultD) × Int)) ((List ResultD) × Int × Bool) ((List ResultD) × Int) := (bif s2.2.2 then (Out.on (forL (implevaluated_f3 s_ d names k1) implevaluated_e3 d 0 (s2.1, false)) (fun y3 => (.next (y3.1, IntKind.i64.wrap (s2.2.1 + 1), y3.2)))) else (.brk (s2.1, s2.2.1)))
def implevaluated_f1 (s_ : StoreD) (d : (List DirD)) (names : (List ByteArray)) (k1 : Nat) (s1 : (List ResultD) × Int) : Rd ((List ResultD) × Int × Bool) ((List ResultD) × Int) ((List ResultD) × Int) := (Out.on (whlD (implevaluated_f2 s_ d names k1) (List.length d * List.length s_.2.1 + 2) (s1.1, s1.2, true)) (fun y2 => (.next (y2.1, y2.2))))
def implevaluated_e1 (_ : Nat) (s1 : (List ResultD) × Int) : (List ResultD) × Int := (s1.1, s1.2)
def implevaluated (s_ : StoreD) (d : (List DirD)) (r : (List ResultD)) (names : (List ByteArray)) : (List ResultD) × Int × Bool := (bif ((!(((implStrata d)).2)) || (!(implIsValidStore s_))) then ([], 0, false) else (Out.on (forL (implevaluated_f0 r names) implevaluated_e0 d 0 []) (fun y0 => (Out.on (forN (implevaluated_f1 s_ d names) implevaluated_e1 (Int.toNat ((implMaxStratum d) + 1)) 0 (y0, 0)) (fun y1 => (y1.1, y1.2, true))))))
theorem max_go {B : Int} {x : List Int} (hx : ∀ a, a ∈ x → a ≤ B) (hB : 0 ≤ B) : ∀ (n k : Nat) (s : Int), s ≤ B → ∃ t, forN (slicesMax_int_f0 x) slicesMax_int_e0 n k s = .brk t ∧ t ≤ B
  | 0, k, s, h => ⟨s, rfl, h⟩
  | n + 1, k, s, h => by
    obtain ⟨t, h1, h2⟩ := max_go hx hB n (k + 1) (max s (nth x (k + 1))) (by
      by_cases hk : k + 1 < x.length
      · have := hx _ (nth_mem hk); omega
      · rw [nth_out (by omega)]; omega)
    exact ⟨t, by simp only [forN, slicesMax_int_f0]; exact h1, h2⟩
theorem strata_factsI {d : List DirD} (h : ((implStrata d)).2 = true) : List.length ((implStrata d)).1 = List.length d ∧ List.length d ≤ 5 ∧ implMaxStratum d ≤ 5 := by
  obtain ⟨h1, h2, h3⟩ := strata_small h
  refine ⟨h1, h2, ?_⟩
  unfold implMaxStratum
  rw [h]
  simp only [Bool.not_true, Bool.false_or]
  cases hl : (((((implStrata d)).1).length : Int) == (0 : Int)) with
  | true => simp only [cond_true]; omega
  | false =>
    simp only [cond_false]
    have hp : 0 < (((implStrata d)).1).length := by have := ne_of_beq hl; omega
    unfold slicesMax_int
    obtain ⟨t, e, ht⟩ := max_go (B := 5) (x := ((implStrata d)).1) (fun a ha => (h3 a ha).2) (by omega) ((((implStrata d)).1).length - 1) 0 (nth ((implStrata d)).1 0) (h3 _ (nth_mem hp)).2
    rw [e]; exact ht
theorem eqI_go (b : List Int) : ∀ (l : List Int) (k : Nat), l.length = (b.drop k).length → Out.on (forL (slicesEqual_int_f0 b) slicesEqual_int_e0 l k ()) (fun _ => true) = decide (l = b.drop k)
  | [], k, h => by
    have : b.drop k = [] := List.eq_nil_of_length_eq_zero (by rw [← h]; rfl)
    rw [this]; rfl
  | a :: l, k, h => by
    have hk : k < b.length := by simp only [List.length_cons, List.length_drop] at h; omega
    have hd : b.drop k = nth b k :: b.drop (k + 1) := by
      rw [List.drop_eq_getElem_cons hk, show nth b k = b[k] by simp [nth, List.getD, hk]]
    rw [hd] at h ⊢
    simp only [forL, slicesEqual_int_f0]
    by_cases e : a = nth b k
    · rw [show (a != nth b k) = false by simp [e], cond_false, eqI_go b l (k + 1) (by simpa using h)]
      simp [e]
    · rw [show (a != nth b k) = true by simp [e], cond_true]
      simp [e, Out.on]
theorem eqI_eq (a b : List Int) (h : a.length = b.length) : slicesEqual_int a b = decide (a = b) := by
  unfold slicesEqual_int
  rw [show ((a.length : Int) != (b.length : Int)) = false by simp [h], cond_false, eqI_go b a 0 (by simpa using h), List.drop_zero]
theorem eqI_dec (a b : List Int) : slicesEqual_int a b = decide (a = b) := by
  by_cases h : a.length = b.length
  · exact eqI_eq a b h
  · have hb : ((a.length : Int) != (b.length : Int)) = true := by simpa using fun e : (a.length : Int) = (b.length : Int) => h (by omega)
    unfold slicesEqual_int
    rw [hb, decide_eq_false (fun e => h (congrArg List.length e))]
    rfl
def onD (d : List DirD) (names : List ByteArray) (j : Nat) : Bool := slicesContains_string names (nth d j).1
theorem evaluated_step (s_ : StoreD) (d : List DirD) (names : List ByteArray) (k1 : Nat) : StepE s_ d (implStrata d).1 (onD d names) (k1 : Int) (implevaluated_f3 s_ d names k1) := by
  intro k a o c hk
  have ha : nth d k = a := nth_of hk
  unfold implevaluated_f3 actD onD
  rw [ha, eqI_dec]
  simp only [bne]
  cases (nth (implStrata d).1 k == (k1 : Int)) <;> cases slicesContains_string names a.1 <;> rfl
section
variable {s_ : StoreD} {d : List DirD} {names : List ByteArray} {k1 : Nat} {o : List ResultD} {p : Int}
theorem evaluated_run (hS : ((implStrata d)).2 = true) (h : EvS d ((implStrata d)).1 (onD d names) s_.2.1 (k1 : Int) o) : ∃ o' p', whl (implevaluated_f2 s_ d names k1) (List.length d * List.length s_.2.1 + 2) (o, p, true) = some (.brk (o', p')) ∧ EvS d ((implStrata d)).1 (onD d names) s_.2.1 ((k1 : Int) + 1) o' :=
  ev_run (f := implevaluated_f3 s_ d names k1) (e := implevaluated_e3) (evaluated_step s_ d names k1) (fun _ _ => rfl) (fun _ => rfl) (Prod.ext rfl hS) h p
theorem evaluated_w (hS : ((implStrata d)).2 = true) (h : EvS d ((implStrata d)).1 (onD d names) s_.2.1 (((k1 : Nat)) : Int) o) : (whl (implevaluated_f2 s_ d names k1) (List.length d * List.length s_.2.1 + 2) (o, p, true)).isSome = true := by
  obtain ⟨o', p', h1, _⟩ := evaluated_run (p := p) hS h
  rw [h1]; rfl
theorem evaluated_next {y : List ResultD × Int} (hS : ((implStrata d)).2 = true) (h : EvS d ((implStrata d)).1 (onD d names) s_.2.1 (((k1 : Nat)) : Int) o) (hy : whlD (implevaluated_f2 s_ d names k1) (List.length d * List.length s_.2.1 + 2) (o, p, true) = .brk y) : EvS d ((implStrata d)).1 (onD d names) s_.2.1 ((((k1 + 1) : Nat)) : Int) y.1 := by
  obtain ⟨o', p', h1, h2⟩ := evaluated_run (p := p) hS h
  unfold whlD at hy
  rw [h1] at hy
  have e : (o', p') = y := by simpa using hy
  rw [← e, Int.natCast_add]; exact h2
def startG (r : List ResultD) (names : List ByteArray) (a : DirD) : List Int := bif (!(slicesContains_string names a.1)) then (implResultIDs r a.1) else []
theorem evaluated_start {r : List ResultD} (hy : forL (implevaluated_f0 r names) implevaluated_e0 d 0 [] = .brk o) : EvS d ((implStrata d)).1 (onD d names) s_.2.1 (((0 : Nat)) : Int) o := by
  obtain ⟨h1, h2⟩ := ev_start (L := ((implStrata d)).1) (on := onD d names) (fs := s_.2.1) (g := startG r names) (f := implevaluated_f0 r names) (e := implevaluated_e0) (d := d) (fun k a s => by
    unfold implevaluated_f0 startG
    cases slicesContains_string names a.1 <;> rfl) (fun j _ hj => by unfold onD at hj; unfold startG; rw [hj]; rfl)
  rw [h1] at hy
  have e : (d.map fun a => ((a.1, startG r names a) : ResultD)) = o := Out.brk.inj hy
  rw [← e]; exact h2
end
theorem implevaluated_a (s_ : StoreD) (d : (List DirD)) (r : (List ResultD)) (names : (List ByteArray)) : ACalls Tryz.prog 40 [.a [.h s_.1, .h s_.2.1, .i s_.2.2], .h d, .h r, .h names] (.tup [(false, [.o 0 (((implevaluated s_ d r names)).1)]), (false, [.i (((implevaluated s_ d r names)).2.1)]), (false, [.b (((implevaluated s_ d r names)).2.2)])]) := by
  refine acalls_of (tt := tt) tt_ok Tryz.func40 (fn := Tryz.f40) rfl (by unfold FnOk; kernel_rfl) (Nat.le_of_ble_eq_true rfl) fun w0 F0 hG => ?_
  refine awp_seq ?_
  refine rk tt_ok [(4, .p 4 0), (8, .e 0), (9, .i 0), (10, .b false)] [0] [(4, [.h s_.1, .h s_.2.1, .i s_.2.2])] [] [] (o0) ?_
  refine awp_seq ?_
  refine rk tt_ok [(11, .o 1600 (((implStrata d)).1)), (12, .b (((implStrata d)).2))] [] [] [] [(1, .val (.tup [(false, [.o 0 (((implStrata d)).1)]), (false, [.b (((implStrata d)).2)])]))] (o1 (ob_call (implStrata_a d))) ?_
  refine awp_seq ?_
  refine awp_seq ?_
  refine jn [(34, .b ((!(((implStrata d)).2)) || (!(implIsValidStore s_))))] [12] [] [] (!(((implStrata d)).2)) (fun h1 => ?_) (fun h1 => ?_) ?_
  ·
    have h1n : (((implStrata d)).2) = false := bnot_t h1
    refine rk tt_ok [(34, .b true)] [12] [] [] [(0, .val (.b false)), (1, .val (.b true))] (o2 (ob_eq (av_bool h1n)) (o1 (ob_eq (show .b (!false) = .b true from rfl)))) ?_
    exact ⟨rfl, weak_fit (by rw [h1]; first | done | kernel_rfl)⟩
  ·
    have h1n : (((implStrata d)).2) = true := bnot_f h1
    have h1nsf := strata_factsI h1n
    refine rk tt_ok [(34, .b (!(implIsValidStore s_)))] [12] [] [] [(0, .val (.b true)), (1, .val (.b false)), (4, .val (.b (implIsValidStore s_)))] (o2 (ob_eq (av_bool h1n)) (o2 (ob_eq (show .b (!true) = .b false from rfl)) (o1 (ob_call (implIsValidStore_a s_))))) ?_
    exact ⟨rfl, weak_fit (by rw [h1]; first | done | kernel_rfl)⟩
  refine ck ((!(((implStrata d)).2)) || (!(implIsValidStore s_))) (fun h2 => ?_) (fun h2 => ?_)
  ·
    refine awp_seq ?_
    refine rk tt_ok [] [34] [] [] [] (o0) ?_
    refine opn [(false, 8, 0, true, 384000, 2)] ?_
    refine awp_ret ?_
    exact pret [] (congrArg (fun z => (.tup [(false, [.o 0 z.1]), (false, [.i z.2.1]), (false, [.b z.2.2])] : AV)) (show implevaluated s_ d r names = ([], 0, false) from bif_t h2 (rfl)).symm)
  ·
    have h2l : ((!(((implStrata d)).2))) = false := or_l h2
    have h2ln : (((implStrata d)).2) = true := bnot_f h2l
    have h2lnsf := strata_factsI h2ln
    have h2r : ((!(implIsValidStore s_))) = false := or_r h2
    have h2rn : (implIsValidStore s_) = true := bnot_f h2r
    refine awp_skip ?_
    refine awp_seq ?_
    refine rk tt_ok [(13, .one (.slc (.own true 2240) 2 []))] [34] [] [] [] (o0) ?_
    refine awp_seq ?_
    refine awp_seq ?_
    refine rk tt_ok [(36, .h d), (37, .i (d.length : Int)), (38, .i 0)] [] [] [] [(1, .val (.i (d.length : Int)))] (o1 (ob_eq (av_len d))) ?_
    refine wdT 1 0 .sh d (fun hw3 => ?_)
    have hl4 : List.length d ≤ 1073741824 := wide_len (hw3)
    refine blk (fun (k0 : Nat) (s0 : (List ResultD)) => [(13, .o 147208 s0), (38, .i ((k0 : Nat) : Int))]) [13, 38] (fun k0 s0 => []) [] (fun (y0 : (List ResultD)) => [(13, .o 147358 y0)]) [2, 13, 36, 37, 38] (fun y0 => []) [] (fun (k0 : Nat) (s0 : (List ResultD)) => (forL (implevaluated_f0 r names) implevaluated_e0 d 0 []) = forL (implevaluated_f0 r names) implevaluated_e0 (List.drop k0 d) k0 s0 ∧ List.length s0 ≤ k0) (fun (y0 : (List ResultD)) => (forL (implevaluated_f0 r names) implevaluated_e0 d 0 []) = .brk y0) d.length [] (weak_sf [(2240, 147208)] (by kernel_rfl)) ⟨rfl, (by simp)⟩ (fun k0 s0 hk0 hI0 => ?_) (fun k0 s0 hk0 hI0 => ?_) (fun y0 hD0 => ?_)
    ·
      have hA0_0 := hI0.2
      obtain ⟨a0, hx0⟩ := get_some (l := d) (i := k0) hk0
      refine awp_seq ?_
      refine rk tt_ok [(39, .b true)] [] [] [] [(0, .val (.b true))] (o1 (ob_eq (av_bool (decide_eq_true (p := ((k0 : Nat) : Int) < (d.length : Int)) (by omega))))) ?_
      refine awp_seq ?_
      refine ckT ?_
      refine awp_skip ?_
      refine awp_seq ?_
      refine awp_block ?_
      refine awp_seq ?_
      refine rk tt_ok [(15, .p 15 0)] [39] [(15, [.s a0.1, .h a0.2])] [] [(0, .row [.s a0.1, .h a0.2])] (o1 (ob_elem (el_of (i := ((k0 : Nat) : Int)) (by omega) rfl hx0))) ?_
      refine awp_seq ?_
      refine rk tt_ok [(16, .p 16 0)] [] [(16, [.s a0.1, .e 1])] [] [] (o0) ?_
      refine awp_seq ?_
      refine awp_seq ?_
      refine rk tt_ok [(49, .b (!(slicesContains_string names a0.1)))] [] [] [] [(3, .val (.b (slicesContains_string names a0.1)))] (o1 (ob_call (slicesContains_string_a names a0.1))) ?_
      refine ck (!(slicesContains_string names a0.1)) (fun h5 => ?_) (fun h5 => ?_)
      ·
        have h5n : (slicesContains_string names a0.1) = false := bnot_t h5
        refine rk tt_ok [] [15, 49] [(16, [.s a0.1, .o 3392 (implResultIDs r a0.1)])] [15, 16] [(3, .val (.o 0 (implResultIDs r a0.1)))] (o1 (ob_call (implResultIDs_a r a0.1))) ?_
        refine wdT 13 0 (.own true 147208) s0 (fun hw6 => ?_)
        have hl7 : List.length s0 ≤ 1073741824 := wide_len (hw6)
        refine rk tt_ok [(13, .one (.slc (.own true 3712) 2 ((eL s0) ++ [[.s a0.1, .h (implResultIDs r a0.1)]])))] [13, 16] [] [16] [] (o1 (ob_len (len_of (eL_length s0) (eL_length [(a0.1, (implResultIDs r a0.1))]) (by first | omega | (simp; omega) | simp)))) ?_
        refine eqn [(13, .o 3712 (s0 ++ [(a0.1, (implResultIDs r a0.1))]))] [13] [] [] (by rw [show ((eL s0) ++ [[.s a0.1, .h (implResultIDs r a0.1)]]) = (eL (s0 ++ [(a0.1, (implResultIDs r a0.1))])) from app_eL (rfl) (rfl)]; first | done | kernel_rfl) ?_
        refine rk tt_ok [(38, .i ((k0 + 1 : Nat) : Int))] [38] [] [] [(0, .val (.i ((k0 + 1 : Nat) : Int)))] (o1 (ob_eq (av_i (wrap_succ k0 (by omega))))) ?_
        exact Exists.intro (s0 ++ [(a0.1, (implResultIDs r a0.1))]) (And.intro (weak_sf [(3712, 147208)] (by kernel_rfl)) ⟨forL_next hx0 (bif_t h5 (rfl)) hI0.1, by first | omega | (simp; omega) | simp⟩)
      ·
        have h5n : (slicesContains_string names a0.1) = true := bnot_f h5
        refine awp_skip ?_
        refine wdT 13 0 (.own true 147208) s0 (fun hw8 => ?_)
        have hl9 : List.length s0 ≤ 1073741824 := wide_len (hw8)
        refine rk tt_ok [(13, .one (.slc (.own true 3712) 2 ((eL s0) ++ [[.s a0.1, .slc 1 []]])))] [13, 15, 16, 49] [] [15, 16] [] (o1 (ob_len (len_of (eL_length s0) (eL_length [((a0.1, []) : ResultD)]) (by first | omega | (simp; omega) | simp)))) ?_
        refine eqn [(13, .o 3712 (s0 ++ [((a0.1, []) : ResultD)]))] [13] [] [] (by rw [show ((eL s0) ++ [[.s a0.1, .slc 1 []]]) = (eL (s0 ++ [((a0.1, []) : ResultD)])) from app_eL (rfl) (rfl)]; first | done | kernel_rfl) ?_
        refine rk tt_ok [(38, .i ((k0 + 1 : Nat) : Int))] [38] [] [] [(0, .val (.i ((k0 + 1 : Nat) : Int)))] (o1 (ob_eq (av_i (wrap_succ k0 (by omega))))) ?_
        exact Exists.intro (s0 ++ [((a0.1, []) : ResultD)]) (And.intro (weak_sf [(3712, 147208)] (by kernel_rfl)) ⟨forL_next hx0 (bif_f h5 (rfl)) hI0.1, by first | omega | (simp; omega) | simp⟩)
    ·
      have hA0_0 := hI0.2
      refine awp_seq ?_
      refine rk tt_ok [(39, .b false)] [] [] [] [(0, .val (.b false))] (o1 (ob_eq (av_bool (decide_eq_false (p := ((k0 : Nat) : Int) < (d.length : Int)) (by omega))))) ?_
      refine awp_seq ?_
      refine ckF ?_
      refine awp_exit ?_
      exact Exists.intro s0 (And.intro (weak_sf [(147208, 147358)] (by kernel_rfl)) (forL_end hk0 (rfl) hI0.1))
    ·
      refine awp_seq ?_
      refine rk tt_ok [(17, .i 0)] [] [] [] [] (o0) ?_
      refine awp_seq ?_
      refine awp_seq ?_
      refine rk tt_ok [(18, .i 0)] [] [] [] [] (o0) ?_
      refine blk (fun (k1 : Nat) (s1 : (List ResultD) × Int) => [(13, .o 147358 s1.1), (17, .i s1.2), (18, .i ((k1 : Nat) : Int))]) [13, 17, 18] (fun k1 s1 => []) [] (fun (y1 : (List ResultD) × Int) => [(13, .o 147358 y1.1), (17, .i y1.2)]) [1, 3, 4, 11, 13, 17, 18] (fun y1 => []) [4] (fun (k1 : Nat) (s1 : (List ResultD) × Int) => (forN (implevaluated_f1 s_ d names) implevaluated_e1 (Int.toNat ((implMaxStratum d) + 1)) 0 (y0, 0)) = forN (implevaluated_f1 s_ d names) implevaluated_e1 ((Int.toNat ((implMaxStratum d) + 1)) - k1) k1 s1 ∧ EvS d ((implStrata d)).1 (onD d names) s_.2.1 (((k1 : Nat)) : Int) s1.1 ∧ List.length s1.1 = List.length d) (fun (y1 : (List ResultD) × Int) => (forN (implevaluated_f1 s_ d names) implevaluated_e1 (Int.toNat ((implMaxStratum d) + 1)) 0 (y0, 0)) = .brk y1) (Int.toNat ((implMaxStratum d) + 1)) (y0, 0) (weak_fit (by kernel_rfl)) ⟨rfl, (by first | exact evaluated_start hD0 | exact evaluated_start hD0.1 | exact evS_len (fs := s_.2.1) (evaluated_start hD0) | exact evS_len (fs := s_.2.1) (evaluated_start hD0.1)), (by first | exact evaluated_start hD0 | exact evaluated_start hD0.1 | exact evS_len (fs := s_.2.1) (evaluated_start hD0) | exact evS_len (fs := s_.2.1) (evaluated_start hD0.1))⟩ (fun k1 s1 hk1 hI1 => ?_) (fun k1 s1 hk1 hI1 => ?_) (fun y1 hD1 => ?_)
      ·
        have hA1_0 := hI1.2.1
        have hA1_1 := hI1.2.2
        refine awp_seq ?_
        refine awp_seq ?_
        refine rk tt_ok [(63, .b true)] [] [] [] [(2, .val (.i (implMaxStratum d))), (3, .val (.b true))] (o2 (ob_call (implMaxStratum_a d)) (o1 (ob_eq (av_bool (decide_eq_true (p := ((k1 : Nat) : Int) ≤ (implMaxStratum d)) (by omega)))))) ?_
        refine ckT ?_
        refine awp_skip ?_
        refine awp_seq ?_
        refine awp_block ?_
        refine awp_seq ?_
        refine rk tt_ok [(19, .b true)] [63] [] [] [] (o0) ?_
        refine blw (fun (s2 : (List ResultD) × Int × Bool) => [(13, .o 147358 s2.1), (17, .i s2.2.1), (19, .b s2.2.2)]) [13, 17, 19] (fun s2 => []) [] (fun (y2 : (List ResultD) × Int) => [(13, .o 147358 y2.1), (17, .i y2.2)]) [13, 17, 19] (fun y2 => []) [] (fun (k2 : Nat) (s2 : (List ResultD) × Int × Bool) => whl (implevaluated_f2 s_ d names k1) k2 s2 = some (whlD (implevaluated_f2 s_ d names k1) (List.length d * List.length s_.2.1 + 2) (s1.1, s1.2, true)) ∧ List.length s2.1 = List.length d) (fun (y2 : (List ResultD) × Int) => (whlD (implevaluated_f2 s_ d names k1) (List.length d * List.length s_.2.1 + 2) (s1.1, s1.2, true)) = .brk y2) (List.length d * List.length s_.2.1 + 2) (s1.1, s1.2, true) (weak_fit (by kernel_rfl)) ⟨whl_some (evaluated_w (by assumption) (by assumption)), (by assumption)⟩ (fun _ h => whl_zero h.1) (fun k2 s2 hI2 => ?_) (fun y2 hD2 => ?_)
        ·
          have hA2_0 := hI2.2
          refine awp_seq ?_
          refine awp_seq ?_
          refine rk tt_ok [(66, .b s2.2.2)] [] [] [] [] (o0) ?_
          refine ck s2.2.2 (fun h10 => ?_) (fun h10 => ?_)
          ·
            refine awp_skip ?_
            refine awp_block ?_
            refine awp_seq ?_
            refine rk tt_ok [(19, .b false)] [19, 66] [] [] [] (o0) ?_
            refine awp_seq ?_
            refine rk tt_ok [(17, .i (IntKind.i64.wrap (s2.2.1 + 1)))] [17] [] [] [] (o0) ?_
            refine awp_seq ?_
            refine rk tt_ok [(69, .h d), (70, .i (d.length : Int)), (71, .i 0)] [] [] [] [(1, .val (.i (d.length : Int)))] (o1 (ob_eq (av_len d))) ?_
            refine blk (fun (k3 : Nat) (s3 : (List ResultD) × Bool) => [(13, .o 147358 s3.1), (19, .b s3.2), (71, .i ((k3 : Nat) : Int))]) [13, 19, 71] (fun k3 s3 => []) [] (fun (y3 : (List ResultD) × Bool) => [(13, .o 147358 y3.1), (19, .b y3.2)]) [13, 19, 69, 70, 71] (fun y3 => []) [] (fun (k3 : Nat) (s3 : (List ResultD) × Bool) => (forL (implevaluated_f3 s_ d names k1) implevaluated_e3 d 0 (s2.1, false)) = forL (implevaluated_f3 s_ d names k1) implevaluated_e3 (List.drop k3 d) k3 s3 ∧ List.length s3.1 = List.length s2.1) (fun (y3 : (List ResultD) × Bool) => (forL (implevaluated_f3 s_ d names k1) implevaluated_e3 d 0 (s2.1, false)) = .brk y3 ∧ List.length y3.1 = List.length s2.1) d.length (s2.1, false) (weak_fit (by kernel_rfl)) ⟨rfl, (by simp)⟩ (fun k3 s3 hk3 hI3 => ?_) (fun k3 s3 hk3 hI3 => ?_) (fun y3 hD3 => ?_)
            ·
              have hA3_0 := hI3.2
              obtain ⟨a3, hx3⟩ := get_some (l := d) (i := k3) hk3
              refine awp_seq ?_
              refine rk tt_ok [(72, .b true)] [] [] [] [(0, .val (.b true))] (o1 (ob_eq (av_bool (decide_eq_true (p := ((k3 : Nat) : Int) < (d.length : Int)) (by omega))))) ?_
              refine awp_seq ?_
              refine ckT ?_
              refine awp_skip ?_
              refine awp_seq ?_
              refine awp_block ?_
              refine awp_seq ?_
              refine rk tt_ok [(20, .i ((k3 : Nat) : Int)), (21, .p 21 0)] [72] [(21, [.s a3.1, .h a3.2])] [] [(1, .row [.s a3.1, .h a3.2])] (o1 (ob_elem (el_of (i := ((k3 : Nat) : Int)) (by omega) rfl hx3))) ?_
              refine awp_seq ?_
              refine awp_seq ?_
              refine jn [(88, .b (((nth (((implStrata d)).1) k3) != ((k1 : Nat) : Int)) || (!(slicesContains_string names a3.1))))] [] [] [] ((nth (((implStrata d)).1) k3) != ((k1 : Nat) : Int)) (fun h11 => ?_) (fun h11 => ?_) ?_
              ·
                have h11d := ne_of_bne h11
                refine wdT 11 0 (.own true 1600) (((implStrata d)).1) (fun hw13 => ?_)
                have hl14 : List.length (((implStrata d)).1) ≤ 1073741824 := wide_len (hw13)
                have hx12 : (((implStrata d)).1)[k3]? = some (nth (((implStrata d)).1) k3) := nth_get (by omega)
                refine rk tt_ok [(88, .b true)] [] [] [] [(2, .rowE [.i (nth (((implStrata d)).1) k3)]), (5, .val (.b true))] (o2 (ob_elem (el_of (i := ((k3 : Nat) : Int)) (by omega) rfl hx12)) (o1 (ob_eq (av_bool h11)))) ?_
                exact ⟨rfl, weak_fit (by rw [h11]; first | done | kernel_rfl)⟩
              ·
                have h11d := eq_of_bne h11
                refine wdT 11 0 (.own true 1600) (((implStrata d)).1) (fun hw16 => ?_)
                have hl17 : List.length (((implStrata d)).1) ≤ 1073741824 := wide_len (hw16)
                have hx15 : (((implStrata d)).1)[k3]? = some (nth (((implStrata d)).1) k3) := nth_get (by omega)
                refine rk tt_ok [(88, .b (!(slicesContains_string names a3.1)))] [] [] [] [(2, .rowE [.i (nth (((implStrata d)).1) k3)]), (5, .val (.b false)), (10, .val (.b (slicesContains_string names a3.1)))] (o2 (ob_elem (el_of (i := ((k3 : Nat) : Int)) (by omega) rfl hx15)) (o2 (ob_eq (av_bool h11)) (o1 (ob_call (slicesContains_string_a names a3.1))))) ?_
                exact ⟨rfl, weak_fit (by rw [h11]; first | done | kernel_rfl)⟩
              refine ck (((nth (((implStrata d)).1) k3) != ((k1 : Nat) : Int)) || (!(slicesContains_string names a3.1))) (fun h18 => ?_) (fun h18 => ?_)
              ·
                refine awp_exit ?_
                refine rk tt_ok [(71, .i ((k3 + 1 : Nat) : Int))] [20, 21, 71, 88] [] [21] [(0, .val (.i ((k3 + 1 : Nat) : Int)))] (o1 (ob_eq (av_i (wrap_succ k3 (by omega))))) ?_
                exact Exists.intro (s3.1, s3.2) (And.intro (weak_fit (by kernel_rfl)) ⟨forL_next hx3 (bif_t h18 (rfl)) hI3.1, (by first | omega | (simp only [List.length_set]; omega))⟩)
              ·
                have h18l : (((nth (((implStrata d)).1) k3) != ((k1 : Nat) : Int))) = false := or_l h18
                have h18ld := eq_of_bne h18l
                have h18r : ((!(slicesContains_string names a3.1))) = false := or_r h18
                have h18rn : (slicesContains_string names a3.1) = true := bnot_f h18r
                refine awp_skip ?_
                refine awp_seq ?_
                refine rk tt_ok [(22, .o 5952 (implSelectFiles s_ a3.2 s3.1))] [21, 88] [] [21] [(4, .val (.o 0 (implSelectFiles s_ a3.2 s3.1)))] (o1 (ob_call (implSelectFiles_a s_ a3.2 s3.1))) ?_
                refine awp_seq ?_
                refine wdT 13 0 (.own true 147358) s3.1 (fun hw20 => ?_)
                have hl21 : List.length s3.1 ≤ 1073741824 := wide_len (hw20)
                have hx19 : s3.1[k3]? = some (nth s3.1 k3) := nth_get (by omega)
                refine rk tt_ok [(101, .b (!(slicesEqual_int (implSelectFiles s_ a3.2 s3.1) ((nth s3.1 k3).2))))] [] [] [] [(3, .rowE [.s ((nth s3.1 k3).1), .h ((nth s3.1 k3).2)]), (6, .val (.b (slicesEqual_int (implSelectFiles s_ a3.2 s3.1) ((nth s3.1 k3).2))))] (o2 (ob_elem (el_of (i := ((k3 : Nat) : Int)) (by omega) rfl hx19)) (o1 (ob_call (slicesEqual_int_a (implSelectFiles s_ a3.2 s3.1) ((nth s3.1 k3).2))))) ?_
                refine ck (!(slicesEqual_int (implSelectFiles s_ a3.2 s3.1) ((nth s3.1 k3).2))) (fun h22 => ?_) (fun h22 => ?_)
                ·
                  have h22n : (slicesEqual_int (implSelectFiles s_ a3.2 s3.1) ((nth s3.1 k3).2)) = false := bnot_t h22
                  refine awp_seq ?_
                  refine rk tt_ok [(13, .one (.slc (.own true 147358) 2 (setRow (eL s3.1) k3 1 [.h (implSelectFiles s_ a3.2 s3.1)])))] [13, 20, 22, 101] [] [] [(3, .rowE [.s ((nth s3.1 k3).1), .h ((nth s3.1 k3).2)])] (o1 (ob_elem (el_of (i := ((k3 : Nat) : Int)) (by omega) rfl hx19))) ?_
                  refine eqn [(13, .o 147358 (List.set s3.1 k3 ((nth s3.1 k3).1, (implSelectFiles s_ a3.2 s3.1))))] [13] [] [] (by rw [setRow_eL (y := ((nth s3.1 k3).1, (implSelectFiles s_ a3.2 s3.1))) hx19 rfl]; first | done | kernel_rfl) ?_
                  refine rk tt_ok [(19, .b true)] [19] [] [] [] (o0) ?_
                  refine rk tt_ok [(71, .i ((k3 + 1 : Nat) : Int))] [71] [] [] [(0, .val (.i ((k3 + 1 : Nat) : Int)))] (o1 (ob_eq (av_i (wrap_succ k3 (by omega))))) ?_
                  exact Exists.intro (List.set s3.1 k3 ((nth s3.1 k3).1, (implSelectFiles s_ a3.2 s3.1)), true) (And.intro (weak_fit (by kernel_rfl)) ⟨forL_next hx3 (bif_f h18 (bif_t h22 (rfl))) hI3.1, (by first | omega | (simp only [List.length_set]; omega))⟩)
                ·
                  have h22n : (slicesEqual_int (implSelectFiles s_ a3.2 s3.1) ((nth s3.1 k3).2)) = true := bnot_f h22
                  refine awp_skip ?_
                  refine rk tt_ok [(71, .i ((k3 + 1 : Nat) : Int))] [20, 22, 71, 101] [] [] [(0, .val (.i ((k3 + 1 : Nat) : Int)))] (o1 (ob_eq (av_i (wrap_succ k3 (by omega))))) ?_
                  exact Exists.intro (s3.1, s3.2) (And.intro (weak_fit (by kernel_rfl)) ⟨forL_next hx3 (bif_f h18 (bif_f h22 (rfl))) hI3.1, (by first | omega | (simp only [List.length_set]; omega))⟩)
            ·
              have hA3_0 := hI3.2
              refine awp_seq ?_
              refine rk tt_ok [(72, .b false)] [] [] [] [(0, .val (.b false))] (o1 (ob_eq (av_bool (decide_eq_false (p := ((k3 : Nat) : Int) < (d.length : Int)) (by omega))))) ?_
              refine awp_seq ?_
              refine ckF ?_
              refine awp_exit ?_
              exact Exists.intro (s3.1, s3.2) (And.intro (weak_fit (by kernel_rfl)) ⟨forL_end hk3 (rfl) hI3.1, by first | omega | (simp only [List.length_set]; omega)⟩)
            ·
              have hD3_0 := hD3.2
              exact Exists.intro (y3.1, IntKind.i64.wrap (s2.2.1 + 1), y3.2) (And.intro (weak_fit (by kernel_rfl)) ⟨whl_next (bif_t h10 (on_b hD3.1 (rfl))) hI2.1, (by first | omega | (simp only [List.length_set]; omega))⟩)
          ·
            refine awp_exit ?_
            exact Exists.intro (s2.1, s2.2.1) (And.intro (weak_fit (by kernel_rfl)) (whl_brk (bif_f h10 (rfl)) hI2.1))
        ·
          refine rk tt_ok [(18, .i ((k1 + 1 : Nat) : Int))] [18] [] [] [(1, .val (.i ((k1 + 1 : Nat) : Int)))] (o1 (ob_eq (av_i (wrap_succ k1 (by omega))))) ?_
          exact Exists.intro (y2.1, y2.2) (And.intro (weak_fit (by kernel_rfl)) ⟨forN_next hk1 (on_b hD2 (rfl)) hI1.1, (by first | exact evaluated_next (by assumption) (by assumption) (by assumption) | exact evS_len (fs := s_.2.1) (evaluated_next (by assumption) (by assumption) (by assumption))), (by first | exact evaluated_next (by assumption) (by assumption) (by assumption) | exact evS_len (fs := s_.2.1) (evaluated_next (by assumption) (by assumption) (by assumption)))⟩)
      ·
        have hA1_0 := hI1.2.1
        have hA1_1 := hI1.2.2
        refine awp_seq ?_
        refine awp_seq ?_
        refine rk tt_ok [(63, .b false)] [] [] [] [(2, .val (.i (implMaxStratum d))), (3, .val (.b false))] (o2 (ob_call (implMaxStratum_a d)) (o1 (ob_eq (av_bool (decide_eq_false (p := ((k1 : Nat) : Int) ≤ (implMaxStratum d)) (by omega)))))) ?_
        refine ckF ?_
        refine awp_exit ?_
        exact Exists.intro (s1.1, s1.2) (And.intro (weak_fit (by kernel_rfl)) (forN_end hk1 (rfl) hI1.1))
      ·
        refine awp_seq ?_
        refine rk tt_ok [(8, .o 147358 y1.1), (9, .i y1.2), (10, .b true)] [8, 9, 10, 13, 17] [] [] [] (o0) ?_
        refine awp_ret ?_
        exact pret [] (congrArg (fun z => (.tup [(false, [.o 0 z.1]), (false, [.i z.2.1]), (false, [.b z.2.2])] : AV)) (show implevaluated s_ d r names = (y1.1, y1.2, true) from bif_f h2 (on_b hD0 (on_b hD1 (rfl)))).symm)
def implEvaluate (s_ : StoreD) (d : (List DirD)) : (List ResultD) × Bool := (((implevaluated s_ d [] (implDirNames d))).1, ((implevaluated s_ d [] (implDirNames d))).2.2)
theorem implEvaluate_a (s_ : StoreD) (d : (List DirD)) : ACalls Tryz.prog 30 [.a [.h s_.1, .h s_.2.1, .i s_.2.2], .h d] (.tup [(false, [.o 0 (((implEvaluate s_ d)).1)]), (false, [.b (((implEvaluate s_ d)).2)])]) := by
  refine acalls_of (tt := tt) tt_ok Tryz.func30 (fn := Tryz.f30) rfl (by unfold FnOk; kernel_rfl) (Nat.le_of_ble_eq_true rfl) fun w0 F0 hG => ?_
  refine awp_seq ?_
  refine rk tt_ok [(2, .p 2 0), (4, .e 0), (5, .b false)] [0] [(2, [.h s_.1, .h s_.2.1, .i s_.2.2])] [] [] (o0) ?_
  refine awp_seq ?_
  refine rd' tt_ok tt_mx [(6, .o 896 (((implevaluated s_ d [] (implDirNames d))).1)), (8, .b (((implevaluated s_ d [] (implDirNames d))).2.2))] [1, 2] [] [2] [(3, .val (.o 0 (implDirNames d))), (4, .val (.tup [(false, [.o 0 (((implevaluated s_ d [] (implDirNames d))).1)]), (false, [.i (((implevaluated s_ d [] (implDirNames d))).2.1)]), (false, [.b (((implevaluated s_ d [] (implDirNames d))).2.2)])]))] (o2 (ob_call (implDirNames_a d)) (o1 (ob_call (acalls_args (.cons (ArgLe.rfl _) ( .cons (ArgLe.rfl _) ( .cons (ArgLe.nil 2) ( .cons (ArgLe.rfl _) (.nil))))) (implevaluated_a s_ d [] (implDirNames d)))))) ?_
  refine awp_seq ?_
  refine rk tt_ok [(4, .o 896 (((implevaluated s_ d [] (implDirNames d))).1)), (5, .b (((implevaluated s_ d [] (implDirNames d))).2.2))] [4, 5, 6, 8] [] [] [] (o0) ?_
  refine awp_ret ?_
  exact pret [] (congrArg (fun z => (.tup [(false, [.o 0 z.1]), (false, [.b z.2])] : AV)) (show implEvaluate s_ d = (((implevaluated s_ d [] (implDirNames d))).1, ((implevaluated s_ d [] (implDirNames d))).2.2) from rfl).symm)
end Go.Proofs.YtncjdkfjhkpkmaaGreatDoor
namespace Go.Proofs.YtncjdkfjhkpkmaaGreatDoor
open Go.RowKit
theorem contains_iff (v : ByteArray) (l : List ByteArray) : slicesContains_string l v = true ↔ v ∈ l := by
  unfold slicesContains_string slicesIndex_string
  have key : ∀ (l : List ByteArray) (k : Nat), (0 : Int) ≤ ((forL (slicesIndex_string_f0 v) slicesIndex_string_e0 l k ()).on fun _ => -1) ↔ v ∈ l := by
    intro l
    induction l with
    | nil => intro k; simp [forL, Out.on]
    | cons a l ih =>
      intro k
      simp only [forL, slicesIndex_string_f0]
      have hab : (v.toList == a.toList) = decide (v = a) := toList_inj
      cases hc : (v.toList == a.toList) with
      | true =>
        obtain rfl : v = a := by rw [hc] at hab; exact of_decide_eq_true hab.symm
        simp [Out.on]
      | false =>
        have h : v ≠ a := by rw [hc] at hab; exact of_decide_eq_false hab.symm
        simp only [cond_false]
        refine (ih (k + 1)).trans ?_
        simp [h]
  exact decide_eq_true_iff.trans (key l 0)
theorem dirNames_eq (d : List DirD) : implDirNames d = d.map (·.1) := by
  unfold implDirNames
  rw [forL_map (f := implDirNames_f0) (g := fun a : DirD => a.1) (fun _ _ _ => rfl)]
  simp [Out.on, implDirNames_e0]
theorem contains_dir {d : List DirD} {i : Nat} {a : DirD} (h : d[i]? = some a) : slicesContains_string (implDirNames d) a.1 = true := by
  rw [contains_iff, dirNames_eq]
  exact List.mem_map.2 ⟨a, List.mem_of_getElem? h, rfl⟩
/-! ### the greatest stratum -/
theorem max_fold (x : List Int) : ∀ (n k : Nat) (s : Int), k + 1 + n = x.length → forN (slicesMax_int_f0 x) slicesMax_int_e0 n k s = .brk ((x.drop (k + 1)).foldl max s)
  | 0, k, s, h => by rw [List.drop_eq_nil_of_le (by omega)]; rfl
  | n + 1, k, s, h => by
    have hg : x[k + 1]? = some (nth x (k + 1)) := nth_get (by omega)
    rw [drop_at hg]
    simp only [forN, slicesMax_int_f0, List.foldl_cons]
    exact max_fold x n (k + 1) _ (by omega)
/-! ### the evaluation -/
theorem evaluated_ok {s : StoreD} {d : List DirD} {names : List ByteArray} {r : List ResultD} (h : (implevaluated s d r names).2.2 = true) : List.length d ≤ 5 ∧ implIsValidStore s = true ∧ (implevaluated s d r names).1.map (·.1) = d.map (·.1) ∧ ∀ j, j < d.length → onD d names j = true → ∃ p : FileD → Bool, (nth (implevaluated s d r names).1 j).2 = sel s.2.1 (fun f => f.1) p := by
  unfold implevaluated at h ⊢
  cases hc : ((!(((implStrata d)).2)) || (!(implIsValidStore s))) with
  | true => rw [hc] at h; simp at h
  | false =>
    have hs : ((implStrata d)).2 = true := bnot_f (or_l hc)
    have hv : implIsValidStore s = true := bnot_f (or_r hc)
    simp only [cond_false]
    obtain ⟨h1, h2⟩ := ev_start (L := ((implStrata d)).1) (on := onD d names) (fs := s.2.1) (g := startG r names) (f := implevaluated_f0 r names) (e := implevaluated_e0) (d := d) (fun k a s => by
      unfold implevaluated_f0 startG
      cases slicesContains_string names a.1 <;> rfl) (fun j _ hj => by unfold onD at hj; unfold startG; rw [hj]; rfl)
    rw [h1]
    have key : ∀ (n k : Nat) (o : List ResultD) (p : Int), EvS d ((implStrata d)).1 (onD d names) s.2.1 (((k : Nat)) : Int) o → ∃ o' p', forN (implevaluated_f1 s d names) implevaluated_e1 n k (o, p) = .brk (o', p') ∧ EvS d ((implStrata d)).1 (onD d names) s.2.1 (((k + n : Nat)) : Int) o' := by
      intro n
      induction n with
      | zero => intro k o p ho; exact ⟨o, p, rfl, ho⟩
      | succ n ih =>
        intro k o p ho
        obtain ⟨o1, p1, g1, g2⟩ := evaluated_run (p := p) hs ho
        obtain ⟨o2, p2, g3, g4⟩ := ih (k + 1) o1 p1 (by rw [Int.natCast_add]; exact g2)
        refine ⟨o2, p2, ?_, by rw [show k + (n + 1) = k + 1 + n by omega]; exact g4⟩
        simp only [forN]
        unfold implevaluated_f1 whlD
        rw [g1]
        exact g3
    obtain ⟨o, p, g1, g2⟩ := key (Int.toNat (implMaxStratum d + 1)) 0 _ 0 h2
    simp only [Out.on, implevaluated_e0]
    rw [g1]
    exact ⟨(strata_small hs).2.1, hv, g2.names, fun j hj hon => g2.some_ j hj hon⟩
theorem evaluate_ok {s : StoreD} {d : List DirD} (h : (implEvaluate s d).2 = true) : List.length d ≤ 5 ∧ implIsValidStore s = true ∧ (implEvaluate s d).1.map (·.1) = d.map (·.1) ∧ ∀ x, x ∈ (implEvaluate s d).1 → ∃ p : FileD → Bool, x.2 = sel s.2.1 (fun f => f.1) p := by
  unfold implEvaluate at h ⊢
  obtain ⟨h1, h2, h3, h4⟩ := evaluated_ok h
  refine ⟨h1, h2, h3, fun x hx => ?_⟩
  obtain ⟨i, hi⟩ := List.getElem?_of_mem hx
  have hlen : (implevaluated s d [] (implDirNames d)).1.length = d.length := by have := congrArg List.length h3; simpa using this
  have hi' : i < (implevaluated s d [] (implDirNames d)).1.length := (List.getElem?_eq_some_iff.1 hi).1
  have hil : i < d.length := by omega
  have := h4 i hil (by unfold onD; exact contains_dir (nth_get hil))
  rw [nth_of hi] at this
  exact this
theorem evaluate_no {s : StoreD} {d : List DirD} (h : (implEvaluate s d).2 = false) : (implEvaluate s d).1 = [] := by
  unfold implEvaluate at h ⊢
  unfold implevaluated at h ⊢
  cases hc : ((!(((implStrata d)).2)) || (!(implIsValidStore s))) with
  | true => rfl
  | false =>
    exfalso
    have hs : ((implStrata d)).2 = true := bnot_f (or_l hc)
    rw [hc] at h
    simp only [cond_false] at h
    obtain ⟨h1, h2⟩ := ev_start (L := ((implStrata d)).1) (on := onD d (implDirNames d)) (fs := s.2.1) (g := startG [] (implDirNames d)) (f := implevaluated_f0 [] (implDirNames d)) (e := implevaluated_e0) (d := d) (fun k a s => by
      unfold implevaluated_f0 startG
      cases slicesContains_string (implDirNames d) a.1 <;> rfl) (fun j _ hj => by unfold onD at hj; unfold startG; rw [hj]; rfl)
    rw [h1] at h
    have key : ∀ (n k : Nat) (o : List ResultD) (p : Int), EvS d ((implStrata d)).1 (onD d (implDirNames d)) s.2.1 (((k : Nat)) : Int) o → ∃ y, forN (implevaluated_f1 s d (implDirNames d)) implevaluated_e1 n k (o, p) = .brk y := by
      intro n
      induction n with
      | zero => intro k o p ho; exact ⟨_, rfl⟩
      | succ n ih =>
        intro k o p ho
        obtain ⟨o1, p1, g1, g2⟩ := evaluated_run (p := p) hs ho
        obtain ⟨y, g3⟩ := ih (k + 1) o1 p1 (by rw [Int.natCast_add]; exact g2)
        refine ⟨y, ?_⟩
        simp only [forN]
        unfold implevaluated_f1 whlD
        rw [g1]
        exact g3
    obtain ⟨y, g1⟩ := key (Int.toNat (implMaxStratum d + 1)) 0 _ 0 h2
    simp only [Out.on, implevaluated_e0] at h
    rw [g1] at h
    cases h
open GoE (enc wide)
def implCanRead (f : FileD) (user : Int) : Bool := ((implisUser user) && ((f.2.1 == user) || f.2.2.1))
theorem implCanRead_a (f : FileD) (user : Int) : ACalls Tryz.prog 23 [.a [.i f.1, .i f.2.1, .b f.2.2.1, .i f.2.2.2.1, .h f.2.2.2.2], .i user] (.b (implCanRead f user)) := by
  refine acalls_of (tt := tt) tt_ok Tryz.func23 (fn := Tryz.f23) rfl (by unfold FnOk; kernel_rfl) (Nat.le_of_ble_eq_true rfl) fun w0 F0 hG => ?_
  refine awp_seq ?_
  refine rk tt_ok [(2, .p 2 0), (4, .b false)] [0] [(2, [.i f.1, .i f.2.1, .b f.2.2.1, .i f.2.2.2.1, .h f.2.2.2.2])] [] [] (o0) ?_
  refine awp_seq ?_
  refine jn [(4, .b ((implisUser user) && ((f.2.1 == user) || f.2.2.1)))] [1, 2, 4] [] [2] (implisUser user) (fun h1 => ?_) (fun h1 => ?_) ?_
  ·
    refine awp_split (f.2.1 == user) (fun h2 => ?_) (fun h2 => ?_)
    ·
      have h2d := eq_of_beq h2
      refine rk tt_ok [(4, .b true)] [1, 2, 4] [] [2] [(1, .val (.b true)), (6, .val (.b true))] (o2 (ob_call (cb h1 (implisUser_a user))) (o1 (ob_eq (av_bool h2)))) ?_
      exact ⟨rfl, weak_fit (by rw [h1, h2]; first | done | kernel_rfl)⟩
    ·
      have h2d := ne_of_beq h2
      refine rk tt_ok [(4, .b f.2.2.1)] [1, 2, 4] [] [2] [(1, .val (.b true)), (6, .val (.b false))] (o2 (ob_call (cb h1 (implisUser_a user))) (o1 (ob_eq (av_bool h2)))) ?_
      exact ⟨rfl, weak_fit (by rw [h1, h2]; first | done | kernel_rfl)⟩
  ·
    refine rk tt_ok [] [1, 2] [] [2] [(1, .val (.b false))] (o1 (ob_call (cb h1 (implisUser_a user)))) ?_
    exact ⟨rfl, weak_fit (by rw [h1]; first | done | kernel_rfl)⟩
  refine awp_ret ?_
  exact pret [] (congrArg (fun z => (.b z : AV)) (show implCanRead f user = ((implisUser user) && ((f.2.1 == user) || f.2.2.1)) from rfl).symm)
def implcopyFile (f : FileD) : FileD := f
theorem implcopyFile_a (f : FileD) : ACalls Tryz.prog 43 [.a [.i f.1, .i f.2.1, .b f.2.2.1, .i f.2.2.2.1, .h f.2.2.2.2]] (.a [.i ((implcopyFile f).1), .i ((implcopyFile f).2.1), .b ((implcopyFile f).2.2.1), .i ((implcopyFile f).2.2.2.1), .o 0 ((implcopyFile f).2.2.2.2)]) := by
  refine acalls_of (tt := tt) tt_ok Tryz.func43 (fn := Tryz.f43) rfl (by unfold FnOk; kernel_rfl) (Nat.le_of_ble_eq_true rfl) fun w0 F0 hG => ?_
  refine awp_seq ?_
  refine rk tt_ok [(1, .p 1 0), (2, .p 2 0)] [0] [(1, [.i f.1, .i f.2.1, .b f.2.2.1, .i f.2.2.2.1, .h f.2.2.2.2]), (2, [.i 0, .i 0, .b false, .i 0, .e 4])] [] [] (o0) ?_
  refine awp_seq ?_
  refine rk tt_ok [] [] [(1, [.i f.1, .i f.2.1, .b f.2.2.1, .i f.2.2.2.1, .o 320 f.2.2.2.2])] [1] [(2, .val (.o 0 f.2.2.2.2))] (o1 (ob_call (cloneAttr_a f.2.2.2.2))) ?_
  refine awp_seq ?_
  refine rk tt_ok [] [1] [(2, [.i f.1, .i f.2.1, .b f.2.2.1, .i f.2.2.2.1, .o 320 f.2.2.2.2])] [1, 2] [] (o0) ?_
  refine awp_ret ?_
  exact pret [] (congrArg (fun z => (.a [.i z.1, .i z.2.1, .b z.2.2.1, .i z.2.2.2.1, .o 0 z.2.2.2.2] : AV)) (show implcopyFile f = f from rfl).symm)
def implfileAt_1 (f : FileD) (q0 : Int) : Bool := (f.1 == q0)
theorem implfileAt_1_a (f : FileD) (q0 : Int) : ACalls Tryz.prog 60 [.a [.i f.1, .i f.2.1, .b f.2.2.1, .i f.2.2.2.1, .h f.2.2.2.2], .one (.rptr .sh [.i q0])] (.b (implfileAt_1 f q0)) := by
  refine acalls_of (tt := tt) tt_ok Tryz.func60 (fn := Tryz.f60) rfl (by unfold FnOk; kernel_rfl) (Nat.le_of_ble_eq_true rfl) fun w0 F0 hG => ?_
  refine awp_seq ?_
  refine rk tt_ok [(2, .p 2 0), (3, .b false)] [0] [(2, [.i f.1, .i f.2.1, .b f.2.2.1, .i f.2.2.2.1, .h f.2.2.2.2])] [] [] (o0) ?_
  refine awp_seq ?_
  refine rk tt_ok [(3, .b (f.1 == q0))] [1, 2, 3] [] [2] [] (o0) ?_
  refine awp_ret ?_
  exact pret [] (congrArg (fun z => (.b z : AV)) (show implfileAt_1 f q0 = (f.1 == q0) from rfl).symm)
def slicesIndexFunc_File_implfileAt_1_f0 (c0 : Int) (k0 : Nat) (a0 : FileD) (_ : Unit) : Rd (Int) (Unit) (Unit) := (bif (implfileAt_1 a0 c0) then (.ret ((k0 : Nat) : Int)) else (.next ()))
def slicesIndexFunc_File_implfileAt_1_e0 (_ : Nat) (_ : Unit) : Unit := ()
def slicesIndexFunc_File_implfileAt_1 (s_ : (List FileD)) (c0 : Int) : Int := (Out.on (forL (slicesIndexFunc_File_implfileAt_1_f0 c0) slicesIndexFunc_File_implfileAt_1_e0 s_ 0 ()) (fun _ => -1))
theorem slicesIndexFunc_File_implfileAt_1_a (s_ : (List FileD)) (c0 : Int) : ACalls Tryz.prog 59 [.h s_, .one (.fnr 60 [[.i c0]])] (.i (slicesIndexFunc_File_implfileAt_1 s_ c0)) := by
  refine acalls_of (tt := tt) tt_ok Tryz.func59 (fn := Tryz.f59) rfl (by unfold FnOk; kernel_rfl) (Nat.le_of_ble_eq_true rfl) fun w0 F0 hG => ?_
  refine awp_seq ?_
  refine rk tt_ok [(4, .i 0)] [] [] [] [] (o0) ?_
  refine awp_seq ?_
  refine awp_seq ?_
  refine rk tt_ok [(7, .i (s_.length : Int)), (8, .i 0)] [] [] [] [(1, .val (.i (s_.length : Int)))] (o1 (ob_eq (av_len s_))) ?_
  refine wdT 0 0 .sh s_ (fun hw1 => ?_)
  have hl2 : List.length s_ ≤ 1073741824 := wide_len (hw1)
  refine blk (fun (k0 : Nat) (s0 : Unit) => [(8, .i ((k0 : Nat) : Int))]) [8] (fun k0 s0 => []) [] (fun (y0 : Unit) => []) [0, 1, 7, 8] (fun y0 => []) [] (fun (k0 : Nat) (s0 : Unit) => (forL (slicesIndexFunc_File_implfileAt_1_f0 c0) slicesIndexFunc_File_implfileAt_1_e0 s_ 0 ()) = forL (slicesIndexFunc_File_implfileAt_1_f0 c0) slicesIndexFunc_File_implfileAt_1_e0 (List.drop k0 s_) k0 s0) (fun (y0 : Unit) => (forL (slicesIndexFunc_File_implfileAt_1_f0 c0) slicesIndexFunc_File_implfileAt_1_e0 s_ 0 ()) = .brk y0) s_.length () (weak_fit (by kernel_rfl)) rfl (fun k0 s0 hk0 hI0 => ?_) (fun k0 s0 hk0 hI0 => ?_) (fun y0 hD0 => ?_)
  ·
    obtain ⟨a0, hx0⟩ := get_some (l := s_) (i := k0) hk0
    refine awp_seq ?_
    refine rk tt_ok [(9, .b true)] [] [] [] [(0, .val (.b true))] (o1 (ob_eq (av_bool (decide_eq_true (p := ((k0 : Nat) : Int) < (s_.length : Int)) (by omega))))) ?_
    refine awp_seq ?_
    refine ckT ?_
    refine awp_skip ?_
    refine awp_seq ?_
    refine awp_block ?_
    refine awp_seq ?_
    refine rk tt_ok [(5, .i ((k0 : Nat) : Int))] [9] [] [] [] (o0) ?_
    refine awp_seq ?_
    refine rk tt_ok [(16, .b (implfileAt_1 a0 c0))] [] [] [] [(3, .row [.i a0.1, .i a0.2.1, .b a0.2.2.1, .i a0.2.2.2.1, .h a0.2.2.2.2]), (5, .val (.b (implfileAt_1 a0 c0)))] (o2 (ob_elem (el_of (i := ((k0 : Nat) : Int)) (by omega) rfl hx0)) (o1 (ob_call (implfileAt_1_a a0 c0)))) ?_
    refine ck (implfileAt_1 a0 c0) (fun h3 => ?_) (fun h3 => ?_)
    ·
      refine awp_seq ?_
      refine rk tt_ok [(4, .i ((k0 : Nat) : Int))] [4, 5, 16] [] [] [] (o0) ?_
      refine awp_ret ?_
      have hr4 : (forL (slicesIndexFunc_File_implfileAt_1_f0 c0) slicesIndexFunc_File_implfileAt_1_e0 s_ 0 ()) = .ret ((k0 : Nat) : Int) := forL_ret hx0 (bif_t h3 (rfl)) hI0
      exact pret [] (congrArg (fun z => (.i z : AV)) (show slicesIndexFunc_File_implfileAt_1 s_ c0 = ((k0 : Nat) : Int) from on_r hr4).symm)
    ·
      refine awp_skip ?_
      refine rk tt_ok [(8, .i ((k0 + 1 : Nat) : Int))] [5, 8, 16] [] [] [(0, .val (.i ((k0 + 1 : Nat) : Int)))] (o1 (ob_eq (av_i (wrap_succ k0 (by omega))))) ?_
      exact Exists.intro () (And.intro (weak_fit (by kernel_rfl)) (forL_next hx0 (bif_f h3 (rfl)) hI0))
  ·
    refine awp_seq ?_
    refine rk tt_ok [(9, .b false)] [] [] [] [(0, .val (.b false))] (o1 (ob_eq (av_bool (decide_eq_false (p := ((k0 : Nat) : Int) < (s_.length : Int)) (by omega))))) ?_
    refine awp_seq ?_
    refine ckF ?_
    refine awp_exit ?_
    exact Exists.intro () (And.intro (weak_fit (by kernel_rfl)) (forL_end hk0 (rfl) hI0))
  ·
    refine awp_seq ?_
    refine rk tt_ok [(4, .i (-1))] [4] [] [] [] (o0) ?_
    refine awp_ret ?_
    exact pret [] (congrArg (fun z => (.i z : AV)) (show slicesIndexFunc_File_implfileAt_1 s_ c0 = -1 from on_b hD0 (rfl)).symm)
def implfileAt (s_ : StoreD) (id : Int) : Int := (slicesIndexFunc_File_implfileAt_1 s_.2.1 id)
theorem implfileAt_a (s_ : StoreD) (id : Int) : ACalls Tryz.prog 44 [.a [.h s_.1, .h s_.2.1, .i s_.2.2], .i id] (.i (implfileAt s_ id)) := by
  refine acalls_of (tt := tt) tt_ok Tryz.func44 (fn := Tryz.f44) rfl (by unfold FnOk; kernel_rfl) (Nat.le_of_ble_eq_true rfl) fun w0 F0 hG => ?_
  refine awp_seq ?_
  refine rk tt_ok [(2, .p 2 0), (3, .p 3 0), (4, .i 0)] [0, 1] [(2, [.h s_.1, .h s_.2.1, .i s_.2.2]), (3, [.i id])] [] [] (o0) ?_
  refine awp_seq ?_
  refine rk tt_ok [(4, .i (slicesIndexFunc_File_implfileAt_1 s_.2.1 id))] [2, 3, 4] [] [2, 3] [(3, .val (.i (slicesIndexFunc_File_implfileAt_1 s_.2.1 id)))] (o1 (ob_call (slicesIndexFunc_File_implfileAt_1_a s_.2.1 id))) ?_
  refine awp_ret ?_
  exact pret [] (congrArg (fun z => (.i z : AV)) (show implfileAt s_ id = (slicesIndexFunc_File_implfileAt_1 s_.2.1 id) from rfl).symm)
def implVisibleStore_f0 (user : Int) (_ : Nat) (a0 : FileD) (s0 : (List FileD)) : Rd (StoreD) ((List FileD)) ((List FileD)) := (bif (implCanRead a0 user) then (.next (s0 ++ [(implcopyFile a0)])) else (.next s0))
def implVisibleStore_e0 (_ : Nat) (s0 : (List FileD)) : (List FileD) := s0
def implVisibleStore_f1 (s_ : StoreD) (k1 : Nat) (_ : FileD) (s1 : (List FileD)) : Rd (StoreD) ((List FileD)) ((List FileD)) := (bif decide ((implfileAt (s_.1, s1, s_.2.2) ((nth s1 k1).2.2.2.1)) < (0 : Int)) then (.next (List.set s1 k1 ((nth s1 k1).1, (nth s1 k1).2.1, (nth s1 k1).2.2.1, 0, (nth s1 k1).2.2.2.2))) else (.next s1))
def implVisibleStore_e1 (_ : Nat) (s1 : (List FileD)) : (List FileD) := s1
def implVisibleStore (s_ : StoreD) (user : Int) : StoreD := (Out.on (forL (implVisibleStore_f0 user) implVisibleStore_e0 s_.2.1 0 []) (fun y0 => (Out.on (forL (implVisibleStore_f1 s_) implVisibleStore_e1 y0 0 y0) (fun y1 => (s_.1, y1, s_.2.2)))))
theorem implVisibleStore_a (s_ : StoreD) (user : Int) : ACalls Tryz.prog 31 [.a [.h s_.1, .h s_.2.1, .i s_.2.2], .i user] (.a [.o 0 ((implVisibleStore s_ user).1), .o 1 ((implVisibleStore s_ user).2.1), .i ((implVisibleStore s_ user).2.2)]) := by
  refine acalls_of (tt := tt) tt_ok Tryz.func31 (fn := Tryz.f31) rfl (by unfold FnOk; kernel_rfl) (Nat.le_of_ble_eq_true rfl) fun w0 F0 hG => ?_
  refine awp_seq ?_
  refine rk tt_ok [(2, .p 2 0), (4, .p 4 0)] [0] [(2, [.h s_.1, .h s_.2.1, .i s_.2.2]), (4, [.e 2, .e 5, .i 0])] [] [] (o0) ?_
  refine awp_seq ?_
  refine rd' tt_ok tt_mx [(5, .p 5 0)] [] [(5, [.o 768 s_.1, .e 5, .i s_.2.2])] [] [(2, .val (.o 0 s_.1))] (o1 (ob_call (cloneField_a s_.1))) ?_
  refine awp_seq ?_
  refine awp_seq ?_
  refine rk tt_ok [(17, .h s_.2.1), (18, .i (s_.2.1.length : Int)), (19, .i 0)] [2] [] [2] [(2, .val (.i (s_.2.1.length : Int)))] (o1 (ob_eq (av_len s_.2.1))) ?_
  refine wdT 17 0 .sh s_.2.1 (fun hw1 => ?_)
  have hl2 : List.length s_.2.1 ≤ 1073741824 := wide_len (hw1)
  refine blk (fun (k0 : Nat) (s0 : (List FileD)) => [(19, .i ((k0 : Nat) : Int))]) [19] (fun k0 s0 => [(5, [.o 768 s_.1, .o 147210 s0, .i s_.2.2])]) [5] (fun (y0 : (List FileD)) => []) [1, 17, 18, 19] (fun y0 => [(5, [.o 768 s_.1, .o 147360 y0, .i s_.2.2])]) [5] (fun (k0 : Nat) (s0 : (List FileD)) => (forL (implVisibleStore_f0 user) implVisibleStore_e0 s_.2.1 0 []) = forL (implVisibleStore_f0 user) implVisibleStore_e0 (List.drop k0 s_.2.1) k0 s0 ∧ List.length s0 ≤ k0) (fun (y0 : (List FileD)) => (forL (implVisibleStore_f0 user) implVisibleStore_e0 s_.2.1 0 []) = .brk y0) s_.2.1.length [] (weak_gf [(true, 5, 1, true, 320008, 5)] [] [] [(320008, 147210)] (by kernel_rfl)) ⟨rfl, (by simp)⟩ (fun k0 s0 hk0 hI0 => ?_) (fun k0 s0 hk0 hI0 => ?_) (fun y0 hD0 => ?_)
  ·
    have hA0_0 := hI0.2
    obtain ⟨a0, hx0⟩ := get_some (l := s_.2.1) (i := k0) hk0
    refine awp_seq ?_
    refine rk tt_ok [(20, .b true)] [] [] [] [(0, .val (.b true))] (o1 (ob_eq (av_bool (decide_eq_true (p := ((k0 : Nat) : Int) < (s_.2.1.length : Int)) (by omega))))) ?_
    refine awp_seq ?_
    refine ckT ?_
    refine awp_skip ?_
    refine awp_seq ?_
    refine awp_block ?_
    refine awp_seq ?_
    refine rk tt_ok [(7, .p 7 0)] [20] [(7, [.i a0.1, .i a0.2.1, .b a0.2.2.1, .i a0.2.2.2.1, .h a0.2.2.2.2])] [] [(0, .row [.i a0.1, .i a0.2.1, .b a0.2.2.1, .i a0.2.2.2.1, .h a0.2.2.2.2])] (o1 (ob_elem (el_of (i := ((k0 : Nat) : Int)) (by omega) rfl hx0))) ?_
    refine awp_seq ?_
    refine rk tt_ok [(25, .b (implCanRead a0 user))] [] [] [] [(2, .val (.b (implCanRead a0 user)))] (o1 (ob_call (implCanRead_a a0 user))) ?_
    refine ck (implCanRead a0 user) (fun h3 => ?_) (fun h3 => ?_)
    ·
      refine wdB 5 1 (.own true 147210) s0 (fun hw4 => ?_)
      have hl5 : List.length s0 ≤ 1073741824 := wide_len (hw4)
      refine rd' tt_ok tt_mx [] [7, 25] [(5, [.o 768 s_.1, .slc (.own true 1984) 5 ((eL s0) ++ [[.i ((implcopyFile a0).1), .i ((implcopyFile a0).2.1), .b ((implcopyFile a0).2.2.1), .i ((implcopyFile a0).2.2.2.1), .h ((implcopyFile a0).2.2.2.2)]]), .i s_.2.2])] [5, 7] [(3, .val (.a [.i ((implcopyFile a0).1), .i ((implcopyFile a0).2.1), .b ((implcopyFile a0).2.2.1), .i ((implcopyFile a0).2.2.2.1), .o 0 ((implcopyFile a0).2.2.2.2)]))] (o2 (ob_call (implcopyFile_a a0)) (o1 (ob_len (len_of (eL_length s0) (eL_length [(implcopyFile a0)]) (by first | omega | (simp; omega) | simp))))) ?_
      refine eqn [] [] [(5, [.o 768 s_.1, .o 1984 (s0 ++ [(implcopyFile a0)]), .i s_.2.2])] [5] (by rw [show ((eL s0) ++ [[.i ((implcopyFile a0).1), .i ((implcopyFile a0).2.1), .b ((implcopyFile a0).2.2.1), .i ((implcopyFile a0).2.2.2.1), .h ((implcopyFile a0).2.2.2.2)]]) = (eL (s0 ++ [(implcopyFile a0)])) from app_eL (rfl) (rfl)]; first | done | kernel_rfl) ?_
      refine rk tt_ok [(19, .i ((k0 + 1 : Nat) : Int))] [19] [] [] [(0, .val (.i ((k0 + 1 : Nat) : Int)))] (o1 (ob_eq (av_i (wrap_succ k0 (by omega))))) ?_
      exact Exists.intro (s0 ++ [(implcopyFile a0)]) (And.intro (weak_sf [(1984, 147210)] (by kernel_rfl)) ⟨forL_next hx0 (bif_t h3 (rfl)) hI0.1, by first | omega | (simp; omega) | simp⟩)
    ·
      refine awp_skip ?_
      refine rk tt_ok [(19, .i ((k0 + 1 : Nat) : Int))] [7, 19, 25] [] [7] [(0, .val (.i ((k0 + 1 : Nat) : Int)))] (o1 (ob_eq (av_i (wrap_succ k0 (by omega))))) ?_
      exact Exists.intro s0 (And.intro (weak_fit (by kernel_rfl)) ⟨forL_next hx0 (bif_f h3 (rfl)) hI0.1, by first | omega | (simp; omega) | simp⟩)
  ·
    have hA0_0 := hI0.2
    refine awp_seq ?_
    refine rk tt_ok [(20, .b false)] [] [] [] [(0, .val (.b false))] (o1 (ob_eq (av_bool (decide_eq_false (p := ((k0 : Nat) : Int) < (s_.2.1.length : Int)) (by omega))))) ?_
    refine awp_seq ?_
    refine ckF ?_
    refine awp_exit ?_
    exact Exists.intro s0 (And.intro (weak_sf [(147210, 147360)] (by kernel_rfl)) (forL_end hk0 (rfl) hI0.1))
  ·
    refine awp_seq ?_
    refine awp_seq ?_
    refine rk tt_ok [(35, .o 147360 y0), (36, .i (y0.length : Int)), (37, .i 0)] [] [] [] [(2, .val (.i (y0.length : Int)))] (o1 (ob_eq (av_len y0))) ?_
    refine wdT 35 0 (.own true 147360) y0 (fun hw6 => ?_)
    have hl7 : List.length y0 ≤ 1073741824 := wide_len (hw6)
    refine blk (fun (k1 : Nat) (s1 : (List FileD)) => [(35, .o 147360 s1), (37, .i ((k1 : Nat) : Int))]) [35, 37] (fun k1 s1 => [(5, [.o 768 s_.1, .o 147360 s1, .i s_.2.2])]) [5] (fun (y1 : (List FileD)) => []) [35, 36, 37] (fun y1 => [(5, [.o 768 s_.1, .o 147360 y1, .i s_.2.2])]) [5] (fun (k1 : Nat) (s1 : (List FileD)) => (forL (implVisibleStore_f1 s_) implVisibleStore_e1 y0 0 y0) = forL (implVisibleStore_f1 s_) implVisibleStore_e1 (List.drop k1 y0) k1 s1 ∧ List.length s1 = List.length y0) (fun (y1 : (List FileD)) => (forL (implVisibleStore_f1 s_) implVisibleStore_e1 y0 0 y0) = .brk y1) y0.length y0 (weak_fit (by kernel_rfl)) ⟨rfl, (by simp)⟩ (fun k1 s1 hk1 hI1 => ?_) (fun k1 s1 hk1 hI1 => ?_) (fun y1 hD1 => ?_)
    ·
      have hA1_0 := hI1.2
      obtain ⟨a1, hx1⟩ := get_some (l := y0) (i := k1) hk1
      refine awp_seq ?_
      refine rk tt_ok [(38, .b true)] [] [] [] [(0, .val (.b true))] (o1 (ob_eq (av_bool (decide_eq_true (p := ((k1 : Nat) : Int) < (y0.length : Int)) (by omega))))) ?_
      refine awp_seq ?_
      refine ckT ?_
      refine awp_skip ?_
      refine awp_seq ?_
      refine awp_block ?_
      refine awp_seq ?_
      refine wdT 35 0 (.own true 147360) s1 (fun hw9 => ?_)
      have hl10 : List.length s1 ≤ 1073741824 := wide_len (hw9)
      have hx8 : s1[k1]? = some (nth s1 k1) := nth_get (by omega)
      refine rk tt_ok [(8, .i ((k1 : Nat) : Int)), (9, .p 9 0)] [38] [(9, [.i ((nth s1 k1).1), .i ((nth s1 k1).2.1), .b ((nth s1 k1).2.2.1), .i ((nth s1 k1).2.2.2.1), .v 147360 ((nth s1 k1).2.2.2.2)])] [] [(1, .rowE [.i ((nth s1 k1).1), .i ((nth s1 k1).2.1), .b ((nth s1 k1).2.2.1), .i ((nth s1 k1).2.2.2.1), .h ((nth s1 k1).2.2.2.2)])] (o1 (ob_elem (el_of (i := ((k1 : Nat) : Int)) (by omega) rfl hx8))) ?_
      refine awp_seq ?_
      refine rk tt_ok [(46, .b (decide ((implfileAt (s_.1, s1, s_.2.2) ((nth s1 k1).2.2.2.1)) < (0 : Int))))] [9] [] [9] [(3, .val (.i (implfileAt (s_.1, s1, s_.2.2) ((nth s1 k1).2.2.2.1))))] (o1 (ob_call (implfileAt_a (s_.1, s1, s_.2.2) ((nth s1 k1).2.2.2.1)))) ?_
      refine ck (decide ((implfileAt (s_.1, s1, s_.2.2) ((nth s1 k1).2.2.2.1)) < (0 : Int))) (fun h11 => ?_) (fun h11 => ?_)
      ·
        have h11d := of_decide_eq_true h11
        refine rk tt_ok [(35, .one (.slc (.own true 147360) 5 (setRow (eL s1) k1 3 [.i 0])))] [8, 35, 46] [(5, [.o 768 s_.1, .slc (.own true 147360) 5 (setRow (eL s1) k1 3 [.i 0]), .i s_.2.2])] [5] [(3, .rowE [.i ((nth s1 k1).1), .i ((nth s1 k1).2.1), .b ((nth s1 k1).2.2.1), .i ((nth s1 k1).2.2.2.1), .h ((nth s1 k1).2.2.2.2)])] (o1 (ob_elem (el_of (i := ((k1 : Nat) : Int)) (by omega) rfl hx8))) ?_
        refine eqn [(35, .o 147360 (List.set s1 k1 ((nth s1 k1).1, (nth s1 k1).2.1, (nth s1 k1).2.2.1, 0, (nth s1 k1).2.2.2.2)))] [35] [(5, [.o 768 s_.1, .o 147360 (List.set s1 k1 ((nth s1 k1).1, (nth s1 k1).2.1, (nth s1 k1).2.2.1, 0, (nth s1 k1).2.2.2.2)), .i s_.2.2])] [5] (by rw [setRow_eL (y := ((nth s1 k1).1, (nth s1 k1).2.1, (nth s1 k1).2.2.1, 0, (nth s1 k1).2.2.2.2)) hx8 rfl]; first | done | kernel_rfl) ?_
        refine rk tt_ok [(37, .i ((k1 + 1 : Nat) : Int))] [37] [] [] [(0, .val (.i ((k1 + 1 : Nat) : Int)))] (o1 (ob_eq (av_i (wrap_succ k1 (by omega))))) ?_
        exact Exists.intro (List.set s1 k1 ((nth s1 k1).1, (nth s1 k1).2.1, (nth s1 k1).2.2.1, 0, (nth s1 k1).2.2.2.2)) (And.intro (weak_fit (by kernel_rfl)) ⟨forL_next hx1 (bif_t h11 (rfl)) hI1.1, (by first | omega | (simp only [List.length_set]; omega))⟩)
      ·
        have h11d := of_decide_eq_false h11
        refine awp_skip ?_
        refine rk tt_ok [(37, .i ((k1 + 1 : Nat) : Int))] [8, 37, 46] [] [] [(0, .val (.i ((k1 + 1 : Nat) : Int)))] (o1 (ob_eq (av_i (wrap_succ k1 (by omega))))) ?_
        exact Exists.intro s1 (And.intro (weak_fit (by kernel_rfl)) ⟨forL_next hx1 (bif_f h11 (rfl)) hI1.1, (by first | omega | (simp only [List.length_set]; omega))⟩)
    ·
      have hA1_0 := hI1.2
      refine awp_seq ?_
      refine rk tt_ok [(38, .b false)] [] [] [] [(0, .val (.b false))] (o1 (ob_eq (av_bool (decide_eq_false (p := ((k1 : Nat) : Int) < (y0.length : Int)) (by omega))))) ?_
      refine awp_seq ?_
      refine ckF ?_
      refine awp_exit ?_
      exact Exists.intro s1 (And.intro (weak_fit (by kernel_rfl)) (forL_end hk1 (rfl) hI1.1))
    ·
      refine awp_seq ?_
      refine rk tt_ok [] [5] [(4, [.o 768 s_.1, .o 147360 y1, .i s_.2.2])] [4, 5] [] (o0) ?_
      refine awp_ret ?_
      exact pret [] (congrArg (fun z => (.a [.o 0 z.1, .o 1 z.2.1, .i z.2.2] : AV)) (show implVisibleStore s_ user = (s_.1, y1, s_.2.2) from on_b hD0 (on_b hD1 (rfl))).symm)
def implEvaluateForUser (s_ : StoreD) (d : (List DirD)) (user : Int) : (List ResultD) × Bool := (bif ((!(implIsValidStore s_)) || (!(implisUser user))) then ([], false) else (((implEvaluate (implVisibleStore s_ user) d)).1, ((implEvaluate (implVisibleStore s_ user) d)).2))
theorem implEvaluateForUser_a (s_ : StoreD) (d : (List DirD)) (user : Int) : ACalls Tryz.prog 21 [.a [.h s_.1, .h s_.2.1, .i s_.2.2], .h d, .i user] (.tup [(false, [.o 0 (((implEvaluateForUser s_ d user)).1)]), (false, [.b (((implEvaluateForUser s_ d user)).2)])]) := by
  refine acalls_of (tt := tt) tt_ok Tryz.func21 (fn := Tryz.f21) rfl (by unfold FnOk; kernel_rfl) (Nat.le_of_ble_eq_true rfl) fun w0 F0 hG => ?_
  refine awp_seq ?_
  refine rk tt_ok [(3, .p 3 0), (6, .e 0), (7, .b false)] [0] [(3, [.h s_.1, .h s_.2.1, .i s_.2.2])] [] [] (o0) ?_
  refine awp_seq ?_
  refine awp_seq ?_
  refine jn [(15, .b ((!(implIsValidStore s_)) || (!(implisUser user))))] [] [] [] (!(implIsValidStore s_)) (fun h1 => ?_) (fun h1 => ?_) ?_
  ·
    have h1n : (implIsValidStore s_) = false := bnot_t h1
    refine rk tt_ok [(15, .b true)] [] [] [] [(1, .val (.b false)), (2, .val (.b true))] (o2 (ob_call (cb h1n (implIsValidStore_a s_))) (o1 (ob_eq (show .b (!false) = .b true from rfl)))) ?_
    exact ⟨rfl, weak_fit (by rw [h1]; first | done | kernel_rfl)⟩
  ·
    have h1n : (implIsValidStore s_) = true := bnot_f h1
    refine rk tt_ok [(15, .b (!(implisUser user)))] [] [] [] [(1, .val (.b true)), (2, .val (.b false)), (5, .val (.b (implisUser user)))] (o2 (ob_call (cb h1n (implIsValidStore_a s_))) (o2 (ob_eq (show .b (!true) = .b false from rfl)) (o1 (ob_call (implisUser_a user))))) ?_
    exact ⟨rfl, weak_fit (by rw [h1]; first | done | kernel_rfl)⟩
  refine ck ((!(implIsValidStore s_)) || (!(implisUser user))) (fun h2 => ?_) (fun h2 => ?_)
  ·
    refine awp_seq ?_
    refine rk tt_ok [] [15] [] [] [] (o0) ?_
    refine opn [(false, 6, 0, true, 384000, 2)] ?_
    refine awp_ret ?_
    exact pret [] (congrArg (fun z => (.tup [(false, [.o 0 z.1]), (false, [.b z.2])] : AV)) (show implEvaluateForUser s_ d user = ([], false) from bif_t h2 (rfl)).symm)
  ·
    have h2l : ((!(implIsValidStore s_))) = false := or_l h2
    have h2ln : (implIsValidStore s_) = true := bnot_f h2l
    have h2r : ((!(implisUser user))) = false := or_r h2
    have h2rn : (implisUser user) = true := bnot_f h2r
    refine awp_skip ?_
    refine awp_seq ?_
    refine rk tt_ok [(6, .o 1280 (((implEvaluate (implVisibleStore s_ user) d)).1)), (7, .b (((implEvaluate (implVisibleStore s_ user) d)).2))] [1, 2, 3, 6, 7, 15] [] [3] [(2, .val (.a [.o 0 ((implVisibleStore s_ user).1), .o 1 ((implVisibleStore s_ user).2.1), .i ((implVisibleStore s_ user).2.2)])), (4, .val (.tup [(false, [.o 0 (((implEvaluate (implVisibleStore s_ user) d)).1)]), (false, [.b (((implEvaluate (implVisibleStore s_ user) d)).2)])]))] (o2 (ob_call (implVisibleStore_a s_ user)) (o1 (ob_call (implEvaluate_a (implVisibleStore s_ user) d)))) ?_
    refine awp_ret ?_
    exact pret [] (congrArg (fun z => (.tup [(false, [.o 0 z.1]), (false, [.b z.2])] : AV)) (show implEvaluateForUser s_ d user = (((implEvaluate (implVisibleStore s_ user) d)).1, ((implEvaluate (implVisibleStore s_ user) d)).2) from bif_f h2 (rfl)).symm)
def implListDir (s_ : StoreD) (d : (List DirD)) (user : Int) (name : ByteArray) : (List Int) := (implResultIDs (((implEvaluateForUser s_ d user)).1) name)
theorem implListDir_a (s_ : StoreD) (d : (List DirD)) (user : Int) (name : ByteArray) : ACalls Tryz.prog 33 [.a [.h s_.1, .h s_.2.1, .i s_.2.2], .h d, .i user, .s name] (.o 0 (implListDir s_ d user name)) := by
  refine acalls_of (tt := tt) tt_ok Tryz.func33 (fn := Tryz.f33) rfl (by unfold FnOk; kernel_rfl) (Nat.le_of_ble_eq_true rfl) fun w0 F0 hG => ?_
  refine awp_seq ?_
  refine rk tt_ok [(4, .p 4 0), (8, .e 0)] [0] [(4, [.h s_.1, .h s_.2.1, .i s_.2.2])] [] [] (o0) ?_
  refine awp_seq ?_
  refine rk tt_ok [(9, .o 960 (((implEvaluateForUser s_ d user)).1))] [1, 2, 4] [] [4] [(3, .val (.tup [(false, [.o 0 (((implEvaluateForUser s_ d user)).1)]), (false, [.b (((implEvaluateForUser s_ d user)).2)])]))] (o1 (ob_call (implEvaluateForUser_a s_ d user))) ?_
  refine awp_seq ?_
  refine rk tt_ok [(8, .o 1280 (implResultIDs (((implEvaluateForUser s_ d user)).1) name))] [3, 8, 9] [] [] [(2, .val (.o 0 (implResultIDs (((implEvaluateForUser s_ d user)).1) name)))] (o1 (ob_call (implResultIDs_a (((implEvaluateForUser s_ d user)).1) name))) ?_
  refine awp_ret ?_
  exact pret [] (congrArg (fun z => (.o 0 z : AV)) (show implListDir s_ d user name = (implResultIDs (((implEvaluateForUser s_ d user)).1) name) from rfl).symm)
end Go.Proofs.YtncjdkfjhkpkmaaGreatDoor
namespace Go.Proofs.YtncjdkfjhkpkmaaGreatDoor
open Go.RowKit
theorem forL_forN {α R S T : Type} {f : Nat → α → S → Rd R S T} {g : Nat → S → Rd R S T} {e e' : Nat → S → T} (hf : ∀ k a s, f k a s = g k s) (he : ∀ k s, e k s = e' k s) : ∀ (l : List α) (k : Nat) (s : S), forL f e l k s = forN g e' l.length k s
  | [], k, s => by simp [forL, forN, he]
  | a :: l, k, s => by
    simp only [forL, forN, List.length_cons, hf]
    cases g k s with
    | next s' => exact forL_forN hf he l (k + 1) s'
    | brk t => rfl
    | ret r => rfl
theorem store12 {s : StoreD} (h : implIsValidStore s = true) : s.2.1.length ≤ 12 := by
  unfold implIsValidStore at h
  cases hf : forL (implIsValidStore_f0 s) implIsValidStore_e0 s.2.1 0 () with
  | brk t =>
    rw [hf] at h
    simp only [Out.on, Bool.and_eq_true, decide_eq_true_eq] at h
    omega
  | ret r =>
    rw [hf] at h
    obtain rfl : r = true := h
    exfalso
    have key : ∀ (l : List FileD) k, forL (implIsValidStore_f0 s) implIsValidStore_e0 l k () ≠ .ret true := by
      intro l
      induction l with
      | nil => intro k h; simp [forL] at h
      | cons a l ih =>
        intro k h
        simp only [forL] at h
        unfold implIsValidStore_f0 at h
        split at h
        · rename_i hf; exact ih _ h
        · cases h
        · rename_i r hf; cases h; revert hf; generalize (_ || _ : Bool) = c; cases c <;> simp
    exact key _ _ hf
theorem sel_id {fs : List FileD} {p : FileD → Bool} {x : Int} (h : x ∈ sel fs (fun f => f.1) p) : ∃ f, f ∈ fs ∧ f.1 = x := by
  obtain ⟨f, hf, e⟩ := List.mem_map.1 h
  exact ⟨f, (List.mem_filter.1 hf).1, e⟩
theorem store_ids {s : StoreD} (h : implIsValidStore s = true) {f : FileD} (hf : f ∈ s.2.1) : 1 ≤ f.1 ∧ f.1 ≤ 60 := by
  have hv : implIsValidFile s.1 f = true := by
    unfold implIsValidStore at h
    obtain ⟨i, hi⟩ := List.getElem?_of_mem hf
    cases hl : forL (implIsValidStore_f0 s) implIsValidStore_e0 s.2.1 0 () with
    | brk t =>
      have := forL_all (fun k a t => by unfold implIsValidStore_f0; generalize (_ || _ : Bool) = c; cases c <;> simp) hl i f hi
      unfold implIsValidStore_f0 at this
      cases hv : implIsValidFile s.1 f with
      | true => rfl
      | false => rw [hv] at this; simp at this
    | ret r =>
      rw [hl] at h
      obtain rfl : r = true := h
      exfalso
      have key : ∀ (l : List FileD) k, forL (implIsValidStore_f0 s) implIsValidStore_e0 l k () ≠ .ret true := by
        intro l
        induction l with
        | nil => intro k h; simp [forL] at h
        | cons a l ih =>
          intro k h
          simp only [forL] at h
          unfold implIsValidStore_f0 at h
          split at h
          · rename_i hf; exact ih _ h
          · cases h
          · rename_i r hf; cases h; revert hf; generalize (_ || _ : Bool) = c; cases c <;> simp
      exact key _ _ hl
  unfold implIsValidFile at hv
  cases hl : forL (implIsValidFile_f0 s.1 f) implIsValidFile_e0 f.2.2.2.2 0 () with
  | brk t =>
    rw [hl] at hv
    simp only [Out.on] at hv
    cases hw : implwithin f.1 1 60 with
    | true => exact within_iff.1 hw
    | false => rw [hw] at hv; simp at hv
  | ret r =>
    rw [hl] at hv
    obtain rfl : r = true := hv
    exfalso
    have key : ∀ (l : List AttrD) k, forL (implIsValidFile_f0 s.1 f) implIsValidFile_e0 l k () ≠ .ret true := by
      intro l
      induction l with
      | nil => intro k h; simp [forL] at h
      | cons a l ih =>
        intro k h
        simp only [forL] at h
        unfold implIsValidFile_f0 at h
        split at h
        · rename_i hf; exact ih _ h
        · cases h
        · rename_i r hf; cases h; revert hf; generalize (bif decide (((k : Nat) : Int) > (0 : Int)) then _ else _ : Bool) = c; cases c <;> simp
    exact key _ _ hl
theorem user_ok (s : StoreD) (d : List DirD) (u : Int) : ((implEvaluateForUser s d u)).1.length ≤ 5 ∧ ∀ x, x ∈ ((implEvaluateForUser s d u)).1 → x.2.length ≤ 12 ∧ ∀ n, n ∈ x.2 → 1 ≤ n ∧ n ≤ 60 := by
  unfold implEvaluateForUser
  cases hc : ((!(implIsValidStore s)) || (!(implisUser u))) with
  | true => exact ⟨Nat.zero_le _, fun x hx => by simp at hx⟩
  | false =>
    simp only [cond_false]
    cases he : (implEvaluate (implVisibleStore s u) d).2 with
    | false => rw [evaluate_no he]; exact ⟨Nat.zero_le _, fun x hx => by simp at hx⟩
    | true =>
      obtain ⟨h1, h2, h3, h4⟩ := evaluate_ok he
      have h5 := store12 h2
      have hlen := congrArg List.length h3
      rw [List.length_map, List.length_map] at hlen
      refine ⟨by omega, fun x hx => ?_⟩
      obtain ⟨p, hp⟩ := h4 x hx
      refine ⟨by rw [hp]; exact Nat.le_trans (sel_len _ _ _) h5, fun n hn => ?_⟩
      rw [hp] at hn
      obtain ⟨f, hf, rfl⟩ := sel_id hn
      exact store_ids h2 hf
theorem user_len (s : StoreD) (d : List DirD) (u : Int) : ((implEvaluateForUser s d u)).1.length ≤ 5 := (user_ok s d u).1
theorem user_short {s : StoreD} {d : List DirD} {u : Int} {k : Nat} {x : ResultD} (h : ((implEvaluateForUser s d u)).1[k]? = some x) : x.2.length ≤ 12 := ((user_ok s d u).2 x (List.mem_of_getElem? h)).1
theorem rids_mem (nm : ByteArray) : ∀ (o : List ResultD) (k : Nat), forL (implResultIDs_f0 nm) implResultIDs_e0 o k () = .brk () ∨ ∃ x, x ∈ o ∧ forL (implResultIDs_f0 nm) implResultIDs_e0 o k () = .ret x.2
  | [], _ => .inl rfl
  | b :: o, k => by
    simp only [forL, implResultIDs_f0]
    cases (b.1.toList == nm.toList) with
    | true => exact .inr ⟨b, List.mem_cons_self .., rfl⟩
    | false =>
      simp only [cond_false]
      rcases rids_mem nm o (k + 1) with h | ⟨x, hx, h⟩
      · exact .inl h
      · exact .inr ⟨x, List.mem_cons_of_mem _ hx, h⟩
theorem listDir_short (s : StoreD) (d : List DirD) (u : Int) (n : ByteArray) : (implListDir s d u n).length ≤ 12 := by
  unfold implListDir implResultIDs
  rcases rids_mem n (implEvaluateForUser s d u).1 0 with h | ⟨x, hx, h⟩
  · rw [h]; exact Nat.zero_le _
  · rw [h]; exact ((user_ok s d u).2 x hx).1
theorem listDir_ids (s : StoreD) (d : List DirD) (u : Int) (n : ByteArray) : ∀ x, x ∈ implListDir s d u n → 1 ≤ x ∧ x ≤ 60 := by
  unfold implListDir implResultIDs
  rcases rids_mem n (implEvaluateForUser s d u).1 0 with h | ⟨x, hx, h⟩
  · rw [h]; intro x hx; simp [Out.on] at hx
  · rw [h]; exact ((user_ok s d u).2 x hx).2
theorem ints_size (l : List Int) : GoD.size l = l.length := size_plain (fun _ => rfl)
end Go.Proofs.YtncjdkfjhkpkmaaGreatDoor
namespace Go.Proofs.YtncjdkfjhkpkmaaGreatDoor
open Go.RowKit
theorem fat_go (n : Int) : ∀ (l : List FileD) (k : Nat), forL (slicesIndexFunc_File_implfileAt_1_f0 n) slicesIndexFunc_File_implfileAt_1_e0 l k () = .brk () ∨ ∃ i : Nat, i < l.length ∧ forL (slicesIndexFunc_File_implfileAt_1_f0 n) slicesIndexFunc_File_implfileAt_1_e0 l k () = .ret (((k + i : Nat)) : Int)
  | [], _ => .inl rfl
  | a :: l, k => by
    simp only [forL, slicesIndexFunc_File_implfileAt_1_f0]
    cases (implfileAt_1 a n) with
    | true => exact .inr ⟨0, by simp, rfl⟩
    | false =>
      simp only [cond_false]
      rcases fat_go n l (k + 1) with h | ⟨i, hi, h⟩
      · exact .inl h
      · exact .inr ⟨i + 1, by simpa using hi, by rw [h, show k + 1 + i = k + (i + 1) by omega]⟩
theorem fat_lt (s : StoreD) (n : Int) : -1 ≤ implfileAt s n ∧ implfileAt s n < (List.length s.2.1 : Int) := by
  unfold implfileAt slicesIndexFunc_File_implfileAt_1
  rcases fat_go n s.2.1 0 with h | ⟨i, hi, h⟩
  · rw [h]; simp only [Out.on]; omega
  · rw [h]; simp only [Out.on]; omega
end Go.Proofs.YtncjdkfjhkpkmaaGreatDoor
namespace Go.Proofs.YtncjdkfjhkpkmaaGreatDoor
open Go.RowKit
open GoD (rd own)
def inR (n lo hi : Int) : Bool := decide (lo ≤ n) && decide (n ≤ hi)
theorem inR_true {n lo hi : Int} (h1 : lo ≤ n) (h2 : n ≤ hi) : inR n lo hi = true := by simp [inR, h1, h2]
theorem inR_lo {n lo hi : Int} (h : ¬ lo ≤ n) : inR n lo hi = false := by simp [inR, h]
theorem inR_hi {n lo hi : Int} (h : ¬ n ≤ hi) : inR n lo hi = false := by simp [inR, h]
theorem within_c (w : World) (n lo hi : Int) : Calls Tryz.prog 39 #[.int .i64 n, .int .i64 lo, .int .i64 hi] w (Ret w (.bool (inR n lo hi))) := by
  by_cases h1 : lo ≤ n
  · by_cases h2 : n ≤ hi
    · rw [inR_true h1 h2]
      go_enter Tryz.func39, Tryz.ntmps39
      go_wp2
      go_ret
      exact ⟨rfl, Below.refl _ _⟩
    · rw [inR_hi h2]
      go_enter Tryz.func39, Tryz.ntmps39
      go_wp2
      go_ret
      exact ⟨rfl, Below.refl _ _⟩
  · rw [inR_lo h1]
    go_enter Tryz.func39, Tryz.ntmps39
    go_wp2
    go_ret
    exact ⟨rfl, Below.refl _ _⟩
theorem l01In_c (w : World) (n lo hi : Int) : Calls Tryz.prog 26 #[.int .i64 n, .int .i64 lo, .int .i64 hi] w (Ret w (.bool (inR n lo hi))) := by
  by_cases h1 : lo ≤ n
  · by_cases h2 : n ≤ hi
    · rw [inR_true h1 h2]
      go_enter Tryz.func26, Tryz.ntmps26
      go_wp2
      go_ret
      exact ⟨rfl, Below.refl _ _⟩
    · rw [inR_hi h2]
      go_enter Tryz.func26, Tryz.ntmps26
      go_wp2
      go_ret
      exact ⟨rfl, Below.refl _ _⟩
  · rw [inR_lo h1]
    go_enter Tryz.func26, Tryz.ntmps26
    go_wp2
    go_ret
    exact ⟨rfl, Below.refl _ _⟩
def okAction (a : ActionD) : Bool := inR a.1 1 8 && decide ((a.2.2.1.length : Int) ≤ 6)
theorem within_b (w : World) (n lo hi : Int) (r : Bool) (h : inR n lo hi = r) : Calls Tryz.prog 39 #[.int .i64 n, .int .i64 lo, .int .i64 hi] w (Ret w (.bool r)) := h ▸ within_c w n lo hi
theorem l01In_b (w : World) (n lo hi : Int) (r : Bool) (h : inR n lo hi = r) : Calls Tryz.prog 26 #[.int .i64 n, .int .i64 lo, .int .i64 hi] w (Ret w (.bool r)) := h ▸ l01In_c w n lo hi
end Go.Proofs.YtncjdkfjhkpkmaaGreatDoor
