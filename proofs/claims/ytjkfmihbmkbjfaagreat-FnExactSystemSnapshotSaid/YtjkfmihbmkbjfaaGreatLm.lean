/- Small lemmas that the printed walks of the abstract machine use. No program in sight. -/
import Derived.Test.YtjkfmihbmkbjfaaGreatGe
namespace Go.Proofs.YtjkfmihbmkbjfaaGreat
open Go.RowKit
open GoE (enc)
section
variable {A : Nat → List AV → AV → Prop} {T : TakeT}
theorem ob1 {x : Ob} (h : x.holds A T) : AllOb A T [x] := h
theorem obc {x y : Ob} {r : List Ob} (h : x.holds A T) (h' : AllOb A T (y :: r)) : AllOb A T (x :: y :: r) := ⟨h, h'⟩
theorem ob_call {f : Nat} {args : List AV} {r : AV} (h : A f args r) : (Ob.call f args r).holds A T := h
theorem ob_take {f n : Nat} {l : List (List PV)} {args : List AV} {mix turn : Bool} {l' : List (List PV)} (h : T f n l args mix turn l') : (Ob.take f n l args mix turn l').holds A T := h
theorem ob_eq {a b : AV} (h : a = b) : (Ob.eq a b).holds A T := h
theorem ob_elem {l : List (List PV)} {i : Int} {r : List PV} (h : 0 ≤ i ∧ l[i.toNat]? = some r) : (Ob.elem l i r).holds A T := h
theorem ob_rng {lo hi : Int} {n : Nat} (h : 0 ≤ lo ∧ lo ≤ hi ∧ hi ≤ n) : (Ob.rng lo hi n).holds A T := h
theorem ob_idx {i : Int} {n : Nat} (h : 0 ≤ i ∧ i < n) : (Ob.idx i n).holds A T := h
theorem ob_flat {l : List (List PV)} (h : RowsLike l) : (Ob.flat l).holds A T := h
theorem ob_len {n : Nat} (h : n ≤ 1073741824) : (Ob.len n).holds A T := h
theorem ob_nz {n : Int} (h : n ≠ 0) : (Ob.nz n).holds A T := h
theorem ob_inr {k : IntKind} {n : Int} (h : InR k n) : (Ob.inr k n).holds A T := h
end
theorem wrap_succ (k : Nat) (h : k < 9223372036854775807) : IntKind.i64.wrap ((k : Int) + 1) = ((k + 1 : Nat) : Int) := by
  rw [IntWalk.i64_in _ (by omega)]
  rfl
theorem get_some {α : Type} {l : List α} {i : Nat} (h : i < l.length) : ∃ x, l[i]? = some x := ⟨l[i], List.getElem?_eq_getElem h⟩
/-- data without slices -/
class FlatE (α : Type) [GoE α] : Prop where
  flat : ∀ a : α, ∀ p, p ∈ enc a → p.flat
instance : FlatE Int := ⟨fun a p hp => by obtain rfl := List.mem_singleton.1 hp; trivial⟩
instance : FlatE Bool := ⟨fun a p hp => by obtain rfl := List.mem_singleton.1 hp; trivial⟩
instance : FlatE ByteArray := ⟨fun a p hp => by obtain rfl := List.mem_singleton.1 hp; trivial⟩
instance {α β : Type} [GoE α] [GoE β] [FlatE α] [FlatE β] : FlatE (α × β) := ⟨fun a p hp => (List.mem_append.1 hp).elim (FlatE.flat a.1 p) (FlatE.flat a.2 p)⟩
theorem flat_eL {α : Type} [GoE α] [FlatE α] (l : List α) : RowsLike (eL l) := fun r hr p hp => by
  obtain ⟨a, _, rfl⟩ := List.mem_map.1 hr
  exact FlatE.flat a p hp
theorem eL_take_succ {α : Type} [GoE α] {l : List α} {k : Nat} {x : α} (h : l[k]? = some x) : eL (List.take k l) ++ [enc x] = eL (List.take (k + 1) l) := by
  simp [eL, List.take_add_one, h]
theorem sz_get {α : Type} [GoD α] {l : List α} {i : Nat} {a : α} {N : Nat} (h : l[i]? = some a) (hs : GoD.size l ≤ N) : GoD.size a ≤ N := Nat.le_trans (size_list_get h) hs
theorem sz_len {α : Type} [GoD α] {l : List α} {N : Nat} (hs : GoD.size l ≤ N) : l.length ≤ N := Nat.le_trans (size_list_len l) hs
theorem sz_fst {α β : Type} [GoD α] [GoD β] {p : α × β} {N : Nat} (hs : GoD.size p ≤ N) : GoD.size p.1 ≤ N := Nat.le_trans (Nat.le_add_right _ _) hs
theorem sz_snd {α β : Type} [GoD α] [GoD β] {p : α × β} {N : Nat} (hs : GoD.size p ≤ N) : GoD.size p.2 ≤ N := Nat.le_trans (Nat.le_add_left _ _) hs
/-! ### contracts of the walks as contracts of the machine -/
section
variable {P : Program} {α β : Type} [GoE α] [GoE β]
theorem acalls_retS {f : Nat} (hok : FnOk P f) {l : List α} {r : List β} (h : ∀ w v, GoD.rd w [v] l → GoE.wide l → Calls P f #[v] w (RetS w r)) (hw : GoE.wide l → GoE.wide r) : ACalls P f [argS l] (resS r) := by
  refine ⟨hok, fun w F vals hF hall => ?_⟩
  cases hall with
  | cons h1 h2 =>
    cases h2
    refine (h w _ (vv_rdS h1) (vv_wide h1)).mono ?_
    rintro e w' ⟨v, L, rfl, hb, ho, hL⟩
    have hlt := GoD.own_lt ho
    have hmem : ∀ k b, b ∈ (if k = 0 then L else []) → k = 0 ∧ b ∈ L := fun k b hm => by
      by_cases hk : k = 0
      · rw [if_pos hk] at hm; exact ⟨hk, hm⟩
      · rw [if_neg hk] at hm; simp at hm
    refine ⟨v, fun k => if k = 0 then L else [], rfl, hb, fun k => ?_, fun k b hm => ⟨hL b (hmem k b hm).2, hlt b (hmem k b hm).2⟩, fun k k' b hm hm' => (hmem k b hm).1.trans (hmem k' b hm').1.symm, OwnDeep.of (ownS_ov ho (hw (vv_wide h1))) (GoD.own_nd ho)⟩
    by_cases hk : k = 0
    · simp only [if_pos hk]; exact GoD.own_nd ho
    · simp only [if_neg hk]; exact List.nodup_nil
end
theorem awp_demotes {P : Program} {N : Nat} {w0 : World} {F0 : Nat → Prop} {Q : Exit → St → Prop} {s s' : St} {c : Code} (l : List Nat) (he : s.demotes l = s') (h : AWP P N w0 F0 c Q s') : AWP P N w0 F0 c Q s := awp_weak (he ▸ weak_demotes l s) h
/-- cells stored into a typed row -/
theorem setRow_eL {α : Type} [GoE α] {o : Nat} {ps : List PV} {y : α} : ∀ {l : List α} {i : Nat} {x : α}, l[i]? = some x → (GoE.enc x).take o ++ ps ++ (GoE.enc x).drop (o + ps.length) = GoE.enc y → setRow (eL l) i o ps = eL (l.set i y)
  | [], i, x, h, _ => by simp at h
  | a :: l, 0, x, h, e => by
    obtain rfl : a = x := by simpa using h
    show ((GoE.enc a).take o ++ ps ++ (GoE.enc a).drop (o + ps.length)) :: eL l = _
    rw [e]; rfl
  | a :: l, i + 1, x, h, e => by
    show GoE.enc a :: setRow (eL l) i o ps = _
    rw [setRow_eL (l := l) (i := i) (x := x) (by simpa using h) e]; rfl
/-- a loop that counts, with a fact that each round carries on -/
theorem awp_forI {P : Program} {N : Nat} {w0 : World} {F0 : Nat → Prop} {Q : Exit → St → Prop} {s : St} {c : Code} (len : Nat) (S : Nat → St) (I : Nat → Prop) (h0 : Weak s (S 0)) (i0 : I 0)
    (hr : ∀ k, k < len → I k → AWP P N w0 F0 c (Exit.thenS (fun s' => Weak s' (S (k + 1)) ∧ I (k + 1)) Q) (S k)) (he : I len → AWP P N w0 F0 c (Exit.thenS (fun _ => False) Q) (S len)) : AWP P N w0 F0 (.loop c) Q s := by
  refine awp_weak h0 (awp_loop (fun n s => ∃ k, k ≤ len ∧ n = len - k ∧ s = S k ∧ I k) (n := len) ⟨0, Nat.zero_le _, by omega, rfl, i0⟩ ?_)
  rintro n _ ⟨k, hk, rfl, rfl, hi⟩
  by_cases h : k < len
  · refine awp_mono (hr k h hi) fun e s' hq => ?_
    cases e with
    | normal => exact ⟨len - (k + 1), S (k + 1), by omega, hq.1, k + 1, by omega, rfl, rfl, hq.2⟩
    | _ => exact hq
  · obtain rfl : k = len := by omega
    refine awp_mono (he hi) fun e s' hq => ?_
    cases e with
    | normal => exact hq.elim
    | _ => exact hq
theorem weak_to {s s' : St} (sw : List (Nat × Nat)) (ts bs : List Nat) (h : (s.swaps sw).keep ts bs = s') : Weak s s' := (weak_swaps sw s).trans (weak_keep ts bs h)
theorem weak_all {s s' : St} (os : List (Bool × Nat × Nat × Bool × Nat × Nat)) (ds : List Nat) (sw : List (Nat × Nat)) (ts bs : List Nat) (h : (((s.opens os).demotes ds).swaps sw).keep ts bs = s') : Weak s s' := (weak_opens os s).trans ((weak_demotes ds _).trans (weak_to sw ts bs h))
theorem weak_too {s s' : St} (os : List (Bool × Nat × Nat × Bool × Nat × Nat)) (sw : List (Nat × Nat)) (ts bs : List Nat) (h : ((s.opens os).swaps sw).keep ts bs = s') : Weak s s' := (weak_opens os s).trans (weak_to sw ts bs h)
end Go.Proofs.YtjkfmihbmkbjfaaGreat
