/- max and min of two numbers; make of a slice of plain cells. No program in sight. -/
import Derived.Test.YtjkfmihbmkbjfaaGreatPg
import Derived.Laws.MakeOwn
namespace Go.Proofs.YtjkfmihbmkbjfaaGreat
open Go.RowKit

def zeroPV : List C → Option PV
  | [.int k _] => some (.int k 0)
  | [.bool _] => some (.bool false)
  | [.str _] => some (.str ⟨#[]⟩)
  | _ => none
def evalX (tt : List (Nat × TI)) (dst : Option Nat) : Op → List AV → Option (Res × List Ob)
  | .call ⟨.builtin .max, _, _⟩, [.one (.int k a), .one (.int k' b)] => bif decide (k = k') then some (⟨.one (.int k (max a b)), [], none, none⟩, []) else none
  | .call ⟨.builtin .min, _, _⟩, [.one (.int k a), .one (.int k' b)] => bif decide (k = k') then some (⟨.one (.int k (min a b)), [], none, none⟩, []) else none
  | .makeSlice t (.tmp i) (.tmp j), [.one (.int _ a), _] => (match dst, get tt t with
    | some d, some ⟨.sli e, _, _, _⟩ => (match get tt e with
      | some ei => (match zeroPV ei.zero with
        | some p => bif Nat.beq i j && Nat.beq ei.size 1 then some (⟨.one (.slc (.own true (64 * d)) 1 (List.replicate a.toNat [p])), [(64 * d, none)], none, none⟩, [.rng 0 a 1073741824]) else none
        | none => none)
      | none => none)
    | _, _ => none)
  | _, _ => none

section
variable {P : Program} {A : Nat → List AV → AV → Prop} {T : TakeT} {N : Nat} {w0 : World} {F0 : Nat → Prop} {J : Inj} {a : Act} {w : World} {s : St}
theorem vals2 {args : Array Operand} {x y : AV} (h : All2 (fun o v => AR J w (a.eval o) v) args.toList [x, y]) : ∃ p q, args = #[p, q] ∧ AR J w (a.eval p) x ∧ AR J w (a.eval q) y := by
  obtain ⟨l⟩ := args
  have h : All2 (fun o v => AR J w (a.eval o) v) l [x, y] := h
  cases h with
  | cons h1 h2 => cases h2 with
    | cons h2 h3 => cases h3; exact ⟨_, _, rfl, h1, h2⟩
theorem inR_max {k : IntKind} {x y : Int} (hx : InR k x) (hy : InR k y) : InR k (max x y) := by
  rw [Int.max_def]; split <;> assumption
theorem inR_min {k : IntKind} {x y : Int} (hx : InR k x) (hy : InR k y) : InR k (min x y) := by
  rw [Int.min_def]; split <;> assumption
theorem or_replicate {w : World} {v : Value} {p : PV} (h : OV w [] v p) : ∀ n : Nat, OR w 1 [] (List.replicate n v) (List.replicate n [p])
  | 0 => .nil 1
  | n + 1 => by
    have h1 : OC w [] [v] [p] := OC.cons (L1 := []) (L2 := []) h .nil
    exact OR.cons (L1 := []) (L2 := []) (ce := [v]) h1 rfl (or_replicate h n)
theorem made_list {z : Array Value} {v : Value} (h : z = #[v]) (n : Nat) : (madeCells z n).toList = List.replicate n v := by
  subst h
  apply List.ext_getElem
  · simp [madeCells]
  · intro i h1 h2
    simp [madeCells, Nat.mod_one]
theorem evalX_ok {tt : List (Nat × TI)} (htt : ttOk P tt = true) {o : Oper} {avs : List AV} {r : Res} {obs : List Ob} (h : evalX tt o.dst o.op avs = some (r, obs)) (hob : AllOb A T obs) (hdst : ∀ d, o.dst = some d → d < N)
    (hrel : Rel N w0 F0 J a w s) (hops : All2 (fun x v => opAV s x = some v) o.op.operands.toList avs) {K : Act → World → Prop} {Q : Exit → Act → World → Prop}
    (hK : ∀ J' a' w', Rel N w0 F0 J' a' w' (s.step o.dst r) → K a' w') : o.wp P a w K Q := by
  have hv := opAVs_ok hrel hops
  generalize ho : o.op = op at h hv
  generalize hd : o.dst = dst at h
  unfold evalX at h
  split at h
  · rename_i args tys k x k' y
    cases hk : decide (k = k') with
    | false => rw [hk] at h; cases h
    | true =>
      rw [hk] at h
      obtain rfl := of_decide_eq_true hk
      simp only [cond_true, Option.some.injEq, Prod.mk.injEq] at h
      obtain ⟨rfl, rfl⟩ := h
      have hv0 : All2 (fun x v => AR J w (a.eval x) v) args.toList [.one (.int k x), .one (.int k y)] := by simpa [Op.operands, Call.operands] using hv
      obtain ⟨p, q, rfl, ⟨e1, r1⟩, ⟨e2, r2⟩⟩ := vals2 hv0
      have hmax : (if y > x then y else x) = max x y := by rw [Int.max_def]; by_cases h : y > x <;> simp [h] <;> omega
      have hrun : (execOp a.eval o).run P w = .ok (.value (.int k (max x y))) w := by
        simp [execOp, ho, resolve, invoke, builtin, Builtin.max_, Builtin.max2, e1, e2, hmax]
      exact wp_of_run hrun (hK J _ _ (hrel.pure o.dst hdst _ _ fun _ => ⟨rfl, inR_max r1 r2⟩))
  · rename_i args tys k x k' y
    cases hk : decide (k = k') with
    | false => rw [hk] at h; cases h
    | true =>
      rw [hk] at h
      obtain rfl := of_decide_eq_true hk
      simp only [cond_true, Option.some.injEq, Prod.mk.injEq] at h
      obtain ⟨rfl, rfl⟩ := h
      have hv0 : All2 (fun x v => AR J w (a.eval x) v) args.toList [.one (.int k x), .one (.int k y)] := by simpa [Op.operands, Call.operands] using hv
      obtain ⟨p, q, rfl, ⟨e1, r1⟩, ⟨e2, r2⟩⟩ := vals2 hv0
      have hmin : (if y < x then y else x) = min x y := by rw [Int.min_def]; by_cases h : y < x <;> simp [h] <;> omega
      have hrun : (execOp a.eval o).run P w = .ok (.value (.int k (min x y))) w := by
        simp [execOp, ho, resolve, invoke, builtin, Builtin.min_, Builtin.min2, e1, e2, hmin]
      exact wp_of_run hrun (hK J _ _ (hrel.pure o.dst hdst _ _ fun _ => ⟨rfl, inR_min r1 r2⟩))
  · rename_i t i j ik x y
    split at h
    rotate_left
    · cases h
    rename_i d e n0 z0 q0 hg
    split at h
    rotate_left
    · cases h
    rename_i ei hge
    split at h
    rotate_left
    · cases h
    rename_i p hp
    cases hc : (Nat.beq i j && Nat.beq ei.size 1) with
    | false => rw [hc] at h; cases h
    | true =>
      rw [hc] at h
      simp only [cond_true, Option.some.injEq, Prod.mk.injEq] at h
      obtain ⟨rfl, rfl⟩ := h
      simp only [Bool.and_eq_true, Nat.beq_eq] at hc
      obtain ⟨rfl, hsz⟩ := hc
      obtain ⟨h0, _, h2⟩ : 0 ≤ (0 : Int) ∧ 0 ≤ x ∧ x ≤ ((1073741824 : Nat) : Int) := hob
      rename_i hx0
      have hu := (ttOk_get htt hg).sli
      obtain ⟨inf, z, hi, hs, hby, hz, hzs, hzo⟩ := (ttOk_get htt hge).info
      have hv0 : All2 (fun o v => AR J w (a.eval o) v) [.tmp i, .tmp i] [.one (.int ik x), y] := by simpa [Op.operands] using hv
      obtain ⟨e1, _⟩ : a.eval (.tmp i) = .int ik x ∧ InR ik x := by cases hv0 with | cons h1 _ => exact h1
      obtain ⟨v, hzv, hov⟩ : ∃ v, z.cells = #[v] ∧ ∀ w', OV w' [] v p := by
        generalize ei.zero = zc at hzo hp
        generalize hcl : z.cells.toList = cl at hzo
        have key : ∀ v, cl = [v] → z.cells = #[v] := fun v e => Array.ext' (by rw [hcl, e])
        unfold zeroPV at hp
        split at hp
        · rename_i k m
          obtain rfl := Option.some.inj hp
          match cl, hzo with
          | [], hzo => simp [zerosOk] at hzo
          | _ :: _ :: _, hzo => simp [zerosOk] at hzo
          | [v], hzo =>
            simp only [zerosOk, Bool.and_true] at hzo
            cases v <;> simp [zeroOk] at hzo
            rename_i k2 n2
            obtain ⟨⟨rfl, rfl⟩, _⟩ := hzo
            exact ⟨_, key _ rfl, fun w' => .int (by cases k2 <;> simp [InR, IntKind.min, IntKind.max, IntKind.bits, IntKind.signed])⟩
        · obtain rfl := Option.some.inj hp
          match cl, hzo with
          | [], hzo => simp [zerosOk] at hzo
          | _ :: _ :: _, hzo => simp [zerosOk] at hzo
          | [v], hzo =>
            simp only [zerosOk, Bool.and_true] at hzo
            cases v <;> simp [zeroOk] at hzo
            obtain ⟨rfl, _⟩ := hzo
            exact ⟨_, key _ rfl, fun w' => .bool _⟩
        · obtain rfl := Option.some.inj hp
          match cl, hzo with
          | [], hzo => simp [zerosOk] at hzo
          | _ :: _ :: _, hzo => simp [zerosOk] at hzo
          | [v], hzo =>
            simp only [zerosOk, Bool.and_true] at hzo
            cases v <;> simp [zeroOk] at hzo
            rename_i s2
            obtain ⟨hs2, _⟩ := hzo
            have : s2 = ⟨#[]⟩ := by
              exact hs2
            subst this
            exact ⟨_, key _ rfl, fun w' => .str (by decide)⟩
        · cases hp
      have hbytes : (inf.bytes : Int) * x ≤ 281474976710656 := by
        have h1 : (inf.bytes : Int) * x ≤ 1000 * x := Int.mul_le_mul_of_nonneg_right (by omega) hx0
        omega
      have hmk := run_make (P := P) (w := w) t e inf z hu hi hz ik ik x x hx0 (Int.le_refl _) hbytes (by omega)
      rw [hs, hsz, Nat.mul_one] at hmk
      have hrun : (execOp a.eval o).run P w = .ok (.value (.slice (some ⟨w.heap.size, 0, none⟩) x.toNat x.toNat)) (w.alloc (.cells (madeCells z.cells x.toNat) e)) := by
        simp [execOp, ho, e1, hmk]
      refine wp_of_run hrun ?_
      rw [hd] at hK ⊢
      have hw : ∀ b, b < w.heap.size → (w.alloc (.cells (madeCells z.cells x.toNat) e)).heap[b]? = w.heap[b]? := fun b hb => Below.heap_alloc w _ b hb
      have hnew : (w.alloc (.cells (madeCells z.cells x.toNat) e)).heap[w.heap.size]? = some (.cells (madeCells z.cells x.toNat) e (0, 0)) := heap_alloc_new w _
      have hzz : (w.alloc (.cells (madeCells z.cells x.toNat) e)).heap.size = w.heap.size + 1 := by simp
      refine hK ⟨J.F, fun k => if k = 64 * d then [w.heap.size] else J.L k, J.B⟩ _ _ (hrel.grab (some d) (fun d' e => by cases e; exact hdst d hd) _ _ (64 * d) [] rfl rfl (hrel.below.alloc hrel.below.size _) (by omega) rfl (fun k hk => by simp [hk])
        (fun b hb => hb) (fun b hb => .inl hb) (fun k _ hk => by simp [get, Ne.symm hk]) (fun _ => by simp [get]) (fun k hk => by simp at hk) (fun b hb _ => hw b hb) (by simp) (fun b hb => ?_) (fun _ => ?_))
      · simp only [if_true, List.mem_singleton] at hb
        subst hb
        exact ⟨by omega, .inl (Nat.le_refl _)⟩
      · show OwnDeep (if 64 * d = 64 * d then _ else _) _ _ _ _
        rw [if_pos rfl]
        have hlen : (List.replicate x.toNat [p]).length = x.toNat := by simp
        have hor := or_replicate (hov (w.alloc (.cells (madeCells z.cells x.toNat) e))) x.toNat
        rw [← made_list hzv x.toNat] at hor
        have hcs : (madeCells z.cells x.toNat).size = x.toNat := size_madeCells _ _
        have key : OV (w.alloc (.cells (madeCells z.cells x.toNat) e)) [w.heap.size] (.slice (some ⟨w.heap.size, 0, none⟩) (List.replicate x.toNat [p]).length x.toNat) (.slc 1 (List.replicate x.toNat [p])) := by
          refine OV.slc (L := []) (cur := madeCells z.cells x.toNat) hnew ?_ ?_ (by rw [hlen]; exact Nat.le_refl _) ⟨?_, ?_⟩
          · rw [hcs, Nat.mul_one]
          · rw [hlen, Nat.mul_one, List.take_of_length_le (by simp [hcs])]
            exact hor
          · unfold maxLen; omega
          · rw [hlen]; omega
        rw [hlen] at key
        exact .of key (by simp)
  · cases h
end
end Go.Proofs.YtjkfmihbmkbjfaaGreat
