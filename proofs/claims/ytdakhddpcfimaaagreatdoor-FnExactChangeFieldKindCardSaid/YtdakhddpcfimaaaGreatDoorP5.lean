/- Texts of this proof, put together by a program: Eub, Enp, Wk, Vf, Cgs, Cga, Cgb, Cgc, Cfa, Lw, Cfp, In, Sh, Fi, Fd, Fe, Vv, Cv, Cfb. -/
import Derived.Test.YtdakhddpcfimaaaGreatDoorP4
import Derived.KernelRfl
import Derived.Test.YtdakhddpcfimaaaGreatDoorProg
import Derived.Outline
import Derived.Shelf.Strconv.Atoi
import Derived.Shelf.Strconv.Itoa0
import Derived.Shelf.Strconv.Itoa1
import Derived.Shelf.LaysM
import Derived.Shelf.Strconv.Itoa2
import Derived.Shelf.Strconv.Itoa3
import Derived.Shelf.Strconv.AtoiErrFast
import Derived.Shelf.Strconv.ParseIntEmpty
import Derived.Shelf.Strconv.AtoiFail
import Derived.Shelf.Strconv.Clone
import Derived.Shelf.Strconv.SyntaxError
import Derived.Shelf.LaysC
import Derived.Shelf.Strconv.ToError
import Derived.Shelf.Strconv.AtoiErr
import Derived.Shelf.Strconv.ErrVar
import Derived.Shelf.Strconv.Lower
import Derived.Shelf.Strconv.ParseUint10Empty
import Derived.Shelf.Strconv.ParseUintEmpty
import Derived.Laws.IdiomStrings
import Derived.Lib.ItoaNum
import Derived.Lib.ConvBytes
import Derived.Lib.SlBytesRow
import Derived.Lib.SmallJoins
import Derived.Lib.Atoi
import Derived.Laws.StructEq
set_option linter.unusedVariables false
set_option linter.unusedSimpArgs false
namespace Go.Proofs.YtdakhddpcfimaaaGreatDoor
open Go.RowKit
theorem forL_forN {α R S T : Type} {f : Nat → α → S → Rd R S T} {g : Nat → S → Rd R S T} {e e' : Nat → S → T} (hf : ∀ k a s, f k a s = g k s) (he : ∀ k s, e k s = e' k s) : ∀ (l : List α) (k : Nat) (s : S), forL f e l k s = forN g e' l.length k s
  | [], k, s => by simp [forL, forN, he]
  | a :: l, k, s => by
    simp only [forL, forN, List.length_cons, hf]
    cases g k s with
    | next s' => exact forL_forN hf he l (k + 1) s'
    | brk t => rfl
    | ret r => rfl
theorem store12 {s : StoreD} (h : implIsValidStore s = true) : s.2.1.length ≤ 12 := by
  unfold implIsValidStore at h
  cases hf : forL (implIsValidStore_f0 s) implIsValidStore_e0 s.2.1 0 () with
  | brk t =>
    rw [hf] at h
    simp only [Out.on, Bool.and_eq_true, decide_eq_true_eq] at h
    omega
  | ret r =>
    rw [hf] at h
    obtain rfl : r = true := h
    exfalso
    have key : ∀ (l : List FileD) k, forL (implIsValidStore_f0 s) implIsValidStore_e0 l k () ≠ .ret true := by
      intro l
      induction l with
      | nil => intro k h; simp [forL] at h
      | cons a l ih =>
        intro k h
        simp only [forL] at h
        unfold implIsValidStore_f0 at h
        split at h
        · rename_i hf; exact ih _ h
        · cases h
        · rename_i r hf; cases h; revert hf; generalize (_ || _ : Bool) = c; cases c <;> simp
    exact key _ _ hf
theorem sel_id {fs : List FileD} {p : FileD → Bool} {x : Int} (h : x ∈ sel fs (fun f => f.1) p) : ∃ f, f ∈ fs ∧ f.1 = x := by
  obtain ⟨f, hf, e⟩ := List.mem_map.1 h
  exact ⟨f, (List.mem_filter.1 hf).1, e⟩
theorem store_ids {s : StoreD} (h : implIsValidStore s = true) {f : FileD} (hf : f ∈ s.2.1) : 1 ≤ f.1 ∧ f.1 ≤ 60 := by
  have hv : implIsValidFile s.1 f = true := by
    unfold implIsValidStore at h
    obtain ⟨i, hi⟩ := List.getElem?_of_mem hf
    cases hl : forL (implIsValidStore_f0 s) implIsValidStore_e0 s.2.1 0 () with
    | brk t =>
      have := forL_all (fun k a t => by unfold implIsValidStore_f0; generalize (_ || _ : Bool) = c; cases c <;> simp) hl i f hi
      unfold implIsValidStore_f0 at this
      cases hv : implIsValidFile s.1 f with
      | true => rfl
      | false => rw [hv] at this; simp at this
    | ret r =>
      rw [hl] at h
      obtain rfl : r = true := h
      exfalso
      have key : ∀ (l : List FileD) k, forL (implIsValidStore_f0 s) implIsValidStore_e0 l k () ≠ .ret true := by
        intro l
        induction l with
        | nil => intro k h; simp [forL] at h
        | cons a l ih =>
          intro k h
          simp only [forL] at h
          unfold implIsValidStore_f0 at h
          split at h
          · rename_i hf; exact ih _ h
          · cases h
          · rename_i r hf; cases h; revert hf; generalize (_ || _ : Bool) = c; cases c <;> simp
      exact key _ _ hl
  unfold implIsValidFile at hv
  cases hl : forL (implIsValidFile_f0 s.1 f) implIsValidFile_e0 f.2.2.2.2 0 () with
  | brk t =>
    rw [hl] at hv
    simp only [Out.on] at hv
    cases hw : implwithin f.1 1 60 with
    | true => exact within_iff.1 hw
    | false => rw [hw] at hv; simp at hv
  | ret r =>
    rw [hl] at hv
    obtain rfl : r = true := hv
    exfalso
    have key : ∀ (l : List AttrD) k, forL (implIsValidFile_f0 s.1 f) implIsValidFile_e0 l k () ≠ .ret true := by
      intro l
      induction l with
      | nil => intro k h; simp [forL] at h
      | cons a l ih =>
        intro k h
        simp only [forL] at h
        unfold implIsValidFile_f0 at h
        split at h
        · rename_i hf; exact ih _ h
        · cases h
        · rename_i r hf; cases h; revert hf; generalize (bif decide (((k : Nat) : Int) > (0 : Int)) then _ else _ : Bool) = c; cases c <;> simp
    exact key _ _ hl
theorem ints_size (l : List Int) : GoD.size l = l.length := size_plain (fun _ => rfl)
end Go.Proofs.YtdakhddpcfimaaaGreatDoor
namespace Go.Proofs.YtdakhddpcfimaaaGreatDoor
theorem nodup_le {α : Type} [DecidableEq α] : ∀ {l N : List α}, l.Nodup → (∀ x, x ∈ l → x ∈ N) → l.length ≤ N.length
  | [], _, _, _ => Nat.zero_le _
  | a :: l, N, hn, hs => by
    have hn' := List.nodup_cons.1 hn
    have ha := hs a (List.mem_cons_self ..)
    have h := nodup_le (l := l) (N := N.erase a) hn'.2 fun x hx => (List.mem_erase_of_ne (fun e : x = a => hn'.1 (by rw [← e]; exact hx))).2 (hs x (List.mem_cons_of_mem _ hx))
    rw [List.length_erase_of_mem ha] at h
    have : 0 < N.length := List.length_pos_of_mem ha
    rw [List.length_cons]
    omega
def Fresh {α : Type} (N out out' : List α) : Prop := ∃ new : List α, out' = out ++ new ∧ new.Nodup ∧ ∀ x, x ∈ new → x ∉ out ∧ x ∈ N
theorem Fresh.refl {α : Type} (N out : List α) : Fresh N out out := ⟨[], by simp, List.nodup_nil, by simp⟩
theorem Fresh.one {α : Type} {N out : List α} {x : α} (h1 : x ∉ out) (h2 : x ∈ N) : Fresh N out (out ++ [x]) := ⟨[x], rfl, by simp, by simp [h1, h2]⟩
theorem Fresh.trans {α : Type} {N a b c : List α} (h : Fresh N a b) (k : Fresh N b c) : Fresh N a c := by
  obtain ⟨p, rfl, h1, h2⟩ := h
  obtain ⟨q, rfl, k1, k2⟩ := k
  refine ⟨p ++ q, by rw [List.append_assoc], List.nodup_append.2 ⟨h1, k1, fun x hx y hy e => ?_⟩, fun x hx => ?_⟩
  · subst e
    exact (k2 _ hy).1 (List.mem_append_right _ hx)
  · rcases List.mem_append.1 hx with hx | hx
    · exact h2 x hx
    · exact ⟨fun h => (k2 x hx).1 (List.mem_append_left _ h), (k2 x hx).2⟩
theorem fresh_len {α : Type} [DecidableEq α] {N a b : List α} (h : Fresh N a b) : b.length ≤ a.length + N.length := by
  obtain ⟨new, rfl, h1, h2⟩ := h
  have := nodup_le h1 fun x hx => (h2 x hx).2
  rw [List.length_append]
  omega
theorem work_go {α R T : Type} [DecidableEq α] {N names : List α} {f : List α × Int → Rd R (List α × Int) T}
    (hf : ∀ out i s', 0 ≤ i → out.length ≤ names.length + N.length → f (out, i) = .next s' → i < (out.length : Int) ∧ s'.2 = i + 1 ∧ Fresh N out s'.1) : ∀ (n : Nat) (out : List α) (i : Int), 0 ≤ i → Fresh N names out → (names.length : Int) + N.length ≤ i + n → (whl f (n + 1) (out, i)).isSome = true
  | n, out, i, h0, hF, hn => by
    simp only [whl]
    cases hc : f (out, i) with
    | brk t => rfl
    | ret r => rfl
    | next s' =>
      have hl := fresh_len hF
      obtain ⟨h1, h2, h3⟩ := hf out i s' h0 hl hc
      cases n with
      | zero => omega
      | succ n =>
        obtain ⟨o', i'⟩ := s'
        obtain rfl : i' = i + 1 := h2
        exact work_go hf n o' (i + 1) (by omega) (hF.trans h3) (by omega)
theorem work_some {α R T : Type} [DecidableEq α] {N names : List α} {f : List α × Int → Rd R (List α × Int) T}
    (hf : ∀ out i s', 0 ≤ i → out.length ≤ names.length + N.length → f (out, i) = .next s' → i < (out.length : Int) ∧ s'.2 = i + 1 ∧ Fresh N out s'.1) : (whl f (List.length names + List.length N + 1) (names, 0)).isSome = true :=
  work_go hf _ names 0 (Int.le_refl 0) (Fresh.refl N names) (by omega)
theorem adj_pair {l : List ByteArray} (h : ∀ i, i + 1 < l.length → bl (nth l i) (nth l (i + 1)) = true) : ascS l := by
  have key : ∀ j i, i < j → j < l.length → bl (nth l i) (nth l j) = true := by
    intro j
    induction j with
    | zero => intro i hi; omega
    | succ j ih =>
      intro i hi hj
      by_cases e : i = j
      · subst e; exact h i hj
      · exact bl_trans (ih i (by omega) (by omega)) (h j hj)
  unfold ascS
  rw [List.pairwise_iff_getElem]
  intro i j hi hj hij
  have := key j i hij hj
  simpa [nth, List.getD, hi, hj] using this
theorem asc_nodup {l : List ByteArray} (h : ascS l) : l.Nodup := h.imp fun {a b} hab e => by
  subst e
  rw [bl_irr] at hab
  cases hab
theorem fk_mem (n : ByteArray) : ∀ (l : List FieldD) (k : Nat), Out.on (forL (implFieldKind_f0 n) implFieldKind_e0 l k ()) (fun _ => 0) ≠ 0 → n ∈ l.map (·.1)
  | [], _, h => by simp [forL, Out.on] at h
  | a :: l, k, h => by
    simp only [forL, implFieldKind_f0] at h
    cases hc : (a.1.toList == n.toList) with
    | true =>
      rw [toList_inj] at hc
      have : a.1 = n := of_decide_eq_true hc
      rw [← this]; simp
    | false =>
      rw [hc] at h
      simp only [cond_false] at h
      exact List.mem_cons_of_mem _ (fk_mem n l (k + 1) h)
theorem schema5 {s : List FieldD} (h : implIsValidSchema s = true) : s.length ≤ 5 := by
  unfold implIsValidSchema at h
  cases hf : forL (implIsValidSchema_f0 s) implIsValidSchema_e0 s 0 () with
  | brk t =>
    rw [hf] at h
    simp only [Out.on, decide_eq_true_eq] at h
    omega
  | ret r =>
    rw [hf] at h
    obtain rfl : r = true := h
    exfalso
    have key : ∀ (l : List FieldD) k, forL (implIsValidSchema_f0 s) implIsValidSchema_e0 l k () ≠ .ret true := by
      intro l
      induction l with
      | nil => intro k h; simp [forL] at h
      | cons a l ih =>
        intro k h
        simp only [forL] at h
        unfold implIsValidSchema_f0 at h
        split at h
        · rename_i hf; exact ih _ h
        · cases h
        · rename_i r hf; cases h; revert hf; generalize (_ || _ : Bool) = c; cases c <;> simp
    exact key _ _ hf
theorem vfile_run {s : List FieldD} {f : FileD} (h : implIsValidFile s f = true) : (∃ t, forL (implIsValidFile_f0 s f) implIsValidFile_e0 f.2.2.2.2 0 () = .brk t) ∧ implIsValidSchema s = true := by
  unfold implIsValidFile at h
  cases hl : forL (implIsValidFile_f0 s f) implIsValidFile_e0 f.2.2.2.2 0 () with
  | brk t =>
    rw [hl] at h
    simp only [Out.on, Bool.and_eq_true] at h
    exact ⟨⟨t, rfl⟩, h.2.2.2⟩
  | ret r =>
    rw [hl] at h
    obtain rfl : r = true := h
    exfalso
    have key : ∀ (l : List AttrD) k, forL (implIsValidFile_f0 s f) implIsValidFile_e0 l k () ≠ .ret true := by
      intro l
      induction l with
      | nil => intro k h; simp [forL] at h
      | cons a l ih =>
        intro k h
        simp only [forL] at h
        unfold implIsValidFile_f0 at h
        split at h
        · rename_i hf; exact ih _ h
        · cases h
        · rename_i r hf; cases h; revert hf; generalize (bif decide (((k : Nat) : Int) > (0 : Int)) then _ else _ : Bool) = c; cases c <;> simp
    exact key _ _ hl
theorem vfile_attrs {s : List FieldD} {f : FileD} (h : implIsValidFile s f = true) : List.length f.2.2.2.2 ≤ 5 := by
  obtain ⟨⟨t, hl⟩, hs⟩ := vfile_run h
  have hat : ∀ i a, f.2.2.2.2[i]? = some a → (0 < i → bl (nth f.2.2.2.2 (i - 1)).1 a.1 = true) ∧ implMatchesSchema s a.1 a.2 = true := fun i a hi => by
    have := forL_all (fun k a t => by unfold implIsValidFile_f0; generalize (bif decide (((k : Nat) : Int) > (0 : Int)) then _ else _ : Bool) = c; cases c <;> simp) hl i a hi
    rw [Nat.zero_add] at this
    unfold implIsValidFile_f0 at this
    cases hm : implMatchesSchema s a.1 a.2 with
    | false => rw [hm] at this; simp at this
    | true =>
      refine ⟨fun h0 => ?_, rfl⟩
      rw [hm, decide_eq_true (show ((i : Nat) : Int) > 0 by omega)] at this
      simp only [cond_true, Bool.not_true, Bool.or_false] at this
      rw [show Int.toNat (((i : Nat) : Int) - 1) = i - 1 by omega] at this
      cases hb : bl (nth f.2.2.2.2 (i - 1)).1 a.1 with
      | true => rfl
      | false =>
        unfold bl at hb
        rw [hb] at this
        simp at this
  have hasc : ascS (f.2.2.2.2.map (·.1)) := adj_pair fun i hi => by
    rw [List.length_map] at hi
    have := (hat (i + 1) _ (nth_get hi)).1 (by omega)
    have e : ∀ j, j < f.2.2.2.2.length → nth (f.2.2.2.2.map (·.1)) j = (nth f.2.2.2.2 j).1 := fun j hj => by simp [nth, List.getD, hj]
    rw [e i (by omega), e (i + 1) hi]
    exact this
  have hsub : ∀ x, x ∈ f.2.2.2.2.map (·.1) → x ∈ s.map (·.1) := fun x hx => by
    obtain ⟨a, ha, rfl⟩ := List.mem_map.1 hx
    obtain ⟨i, hi⟩ := List.getElem?_of_mem ha
    have hm := (hat i a hi).2
    unfold implMatchesSchema at hm
    simp only [Bool.and_eq_true, bne_iff_ne, beq_iff_eq] at hm
    exact fk_mem a.1 s 0 fun e => hm.2.1 (hm.2.2.trans e)
  have := nodup_le (asc_nodup hasc) hsub
  rw [List.length_map, List.length_map] at this
  have := schema5 hs
  omega
theorem vstore_file {s : StoreD} (h : implIsValidStore s = true) {f : FileD} (hf : f ∈ s.2.1) : implIsValidFile s.1 f = true := by
  unfold implIsValidStore at h
  obtain ⟨i, hi⟩ := List.getElem?_of_mem hf
  cases hl : forL (implIsValidStore_f0 s) implIsValidStore_e0 s.2.1 0 () with
  | brk t =>
    have := forL_all (fun k a t => by unfold implIsValidStore_f0; generalize (_ || _ : Bool) = c; cases c <;> simp) hl i f hi
    unfold implIsValidStore_f0 at this
    cases hv : implIsValidFile s.1 f with
    | true => rfl
    | false => rw [hv] at this; simp at this
  | ret r =>
    rw [hl] at h
    obtain rfl : r = true := h
    exfalso
    have key : ∀ (l : List FileD) k, forL (implIsValidStore_f0 s) implIsValidStore_e0 l k () ≠ .ret true := by
      intro l
      induction l with
      | nil => intro k h; simp [forL] at h
      | cons a l ih =>
        intro k h
        simp only [forL] at h
        unfold implIsValidStore_f0 at h
        split at h
        · rename_i hf; exact ih _ h
        · cases h
        · rename_i r hf; cases h; revert hf; generalize (_ || _ : Bool) = c; cases c <;> simp
    exact key _ _ hl
theorem vstore_attrs {s : StoreD} (h : implIsValidStore s = true) {f : FileD} (hf : f ∈ s.2.1) : List.length f.2.2.2.2 ≤ 5 := vfile_attrs (vstore_file h hf)
end Go.Proofs.YtdakhddpcfimaaaGreatDoor

namespace Go.Proofs.YtdakhddpcfimaaaGreatDoor
open Go.RowKit
open GoE (enc wide)
set_option maxRecDepth 100000 in
set_option maxHeartbeats 4000000 in
theorem insAttr_run (w : World) (oa : Option Addr) (m cap : Nat) (olds : List Value) (i vb voff vc : Nat) (vs : List Value) (hR : RowAt w 4 oa m cap olds) (hO : OneAt w 4 oa cap vb voff vs) (hi : i ≤ m) : Calls Tryz.prog 66 #[.slice oa m cap, .int .i64 (i : Int), .slice (some ⟨vb, voff, none⟩) 1 vc] w (InsTo w 4 i oa m cap olds vs) := by
  have hei := ttOk_get tt_ok (t := 74) rfl
  have hu := (ttOk_get tt_ok (t := 51) rfl).sli
  have hui := run_underlying (P := Tryz.prog) hu
  have hsz : ∀ w, (Go.sizeOf 74).run Tryz.prog w = .ok 4 w := fun w => sizeOf_run (ttOk_get tt_ok (t := 74) rfl) w
  have hlim := hR.lim
  have hle := hR.le
  have hcm : cap ≤ 9223372036854775807 := by have := hR.cap; unfold maxLen at this; omega
  have mixed := tt_mx
  have hz1 : ¬ ((1 : Int) = 0) := by omega
  by_cases him : i = m
  · subst him
    obtain ⟨u, w', hrun, u', h1, hT⟩ := road_end (vc := vc) hu hei (by decide) hR hO
    cases h1
    have hc : Calls Tryz.prog 66 #[.slice oa i cap, .int .i64 (i : Int), .slice (some ⟨vb, voff, none⟩) 1 vc] w (fun e w2 => e = .returned u ∧ w2 = w') := by
      clear hT hR hO hei
      go_enter Tryz.func66, Tryz.ntmps66
      cases oa with
      | none =>
        go_wp2_with (at_builtin; refine Lib.wpList_append_run _ rfl _ _ _ _ rfl _ _ rfl rfl _ _ (hrun _) ?_)
        all_goals (go_ret; exact ⟨rfl, rfl⟩)
      | some a =>
        obtain ⟨ab, ao, asp⟩ := a
        go_wp2_with (at_builtin; refine Lib.wpList_append_run _ rfl _ _ _ _ rfl _ _ rfl rfl _ _ (hrun _) ?_)
        all_goals (go_ret; exact ⟨rfl, rfl⟩)
    exact hc.mono (by rintro e w2 ⟨rfl, rfl⟩; exact ⟨_, rfl, hT⟩)
  · rcases hR.row with ⟨_, h0, _⟩ | ⟨g, cur, e0, rfl, hg, hcs, htk⟩
    · omega
    have him2 : i < m := by omega
    have hz2 : ¬ ((i : Int) = (m : Int)) := by omega
    have hw1 : IntKind.i64.wrap ((m : Int) + 1) = (m : Int) + 1 := by rw [IntKind.wrap_i64]; omega
    have hw2 : IntKind.i64.wrap ((i : Int) + 1) = (i : Int) + 1 := by rw [IntKind.wrap_i64]; omega
    have htn : ((i : Int) + 1).toNat = i + 1 := by omega
    have htm : ((m : Int) + 1).toNat = m + 1 := by omega
    have hb1 : (0 : Int) ≤ (i : Int) + 1 := by omega
    have hb3 : (i : Int) ≤ (m : Int) + 1 := by omega
    have hbm : (0 : Int) ≤ (m : Int) + 1 := by omega
    have hin : i ≤ m := hi
    obtain ⟨hvw, arrA, tA, frA, hA, hposA⟩ := hO.block (by decide)
    have hcp : 0 < cap := by omega
    have hvg : vb ≠ g := hO.ne g rfl hcp
    have hov : ∀ o lb cb, (callFunc 86 #[.slice (some ⟨vb, voff, none⟩) 1 vc, .slice (some ⟨g, o, none⟩) lb cb]).run Tryz.prog w = .ok (.value (.bool false)) w := fun o lb cb => by
      rw [run_callFunc_extern Tryz.func86 (by kernel_rfl) (by kernel_rfl) (by kernel_rfl) (e := Extern.SlicesOverlaps.overlaps #[51, 51] #[4]) (by kernel_rfl), overlaps_run w 51 4 74 hu 4 hsz ⟨vb, voff, none⟩ ⟨g, o, none⟩ 1 vc lb cb hvg hA hg (by omega) hposA]
      rfl
    by_cases hroom : m + 1 ≤ cap
    · obtain ⟨q1, q2, q3⟩ := road_room (vc := vc) (w := w) hu hei (by decide) hg hcs htk hR hO him2 hroom
      have hb2 : ¬ (cap = i + 1) := by omega
      have hb4 : ¬ (cap = i) := by omega
      have hng : ¬ ((cap : Int) < (m : Int) + 1) := by omega
      have hmc : ((m : Int) + 1) ≤ (cap : Int) := by omega
      have hc : Calls Tryz.prog 66 #[.slice (some ⟨g, 0, none⟩) m cap, .int .i64 (i : Int), .slice (some ⟨vb, voff, none⟩) 1 vc] w (fun e w2 => e = .returned (.slice (some ⟨g, 0, none⟩) (m + 1) cap) ∧ w2 = (w.drew.setCells g ((i + 1) * 4) (olds.drop (i * 4))).setCells g (i * 4) vs) := by
        obtain ⟨q4, q5, q6⟩ := road_room (vc := vc) (w := w.drew) hu hei (by decide) hg hcs htk ⟨hR.len, hR.row, hR.le, hR.cap, hR.lim, hR.ones⟩ ⟨hO.len, hO.cells, hO.ones, hO.ne⟩ him2 hroom
        clear hR hO hei q1 q2 q3 q6 hg hA hcs htk
        go_enter Tryz.func66, Tryz.ntmps66
        go_wp2_with (simp only [hov])
        go_region_law (refine step_copy_rn rfl _ _ 51 51 rfl (.slice (some ⟨g, (i + 1) * 4, none⟩) (m + 1 - (i + 1)) (cap - (i + 1))) (.slice (some ⟨g, i * 4, none⟩) (m + 1 - i) (cap - i)) (by simp [Act.eval, Act.put]) (by simp [Act.eval, Act.put]) (q4 _ _ _) ?_)
        go_wp2_with (at_builtin; refine wpList_copy_rn rfl _ _ 51 51 rfl (.slice (some ⟨g, i * 4, none⟩) (m + 1 - i) (cap - i)) _ (by simp [Act.eval, Act.put]) rfl (q5 _ rfl _ _) ?_)
        go_ret
        exact ⟨rfl, rfl⟩
      refine hc.mono ?_
      rintro e w2 ⟨rfl, rfl⟩
      obtain ⟨p1, p2, p3⟩ := heap_os_setCells g (olds.drop (i * 4)) ((i + 1) * 4) w.drew
      exact q3 _ (heap_drew_setCells g _ _ w) p1 p2 p3
    · obtain ⟨G, W1, hG1, hG2, qa, qb, qc, qd, o1, o2, o3⟩ := road_grow (vc := vc) (tn := 3) hu (by kernel_rfl) hei (by decide) hg hcs htk hR hO hvw him2 (by omega)
      have hG63 : G ≤ 9223372036854775807 := by unfold maxLen at hG2; omega
      have hGi : ¬ (G = i) := by omega
      have hGim : ¬ (G = i + 1) := by omega
      have hci : ¬ (cap = i) := by omega
      have hlt : (cap : Int) < (m : Int) + 1 := by omega
      have hw3 : IntKind.i64.wrap ((m : Int) + 1 - (i : Int)) = (m : Int) + 1 - (i : Int) := by rw [IntKind.wrap_i64]; omega
      have hii : (i : Int) ≤ (m : Int) := by omega
      have hqa : ∀ ty, (Builtin.append_ #[51, 3] ty #[.slice (some ⟨g, 0, none⟩) i cap, .int .i64 ((m : Int) + 1 - (i : Int))]).run Tryz.prog w = .ok (.slice (some ⟨w.heap.size, 0, none⟩) (m + 1) G) W1 := fun ty => qa ty _ (by omega)
      have hqb := qb W1 rfl
      have hqc := qc (W1.setCells w.heap.size (i * 4) vs).drew rfl
      have hc : Calls Tryz.prog 66 #[.slice (some ⟨g, 0, none⟩) m cap, .int .i64 (i : Int), .slice (some ⟨vb, voff, none⟩) 1 vc] w (fun e w2 => e = .returned (.slice (some ⟨w.heap.size, 0, none⟩) (m + 1) G) ∧ w2 = (W1.setCells w.heap.size (i * 4) vs).drew.setCells w.heap.size ((i + 1) * 4) (olds.drop (i * 4))) := by
        clear hR hO hei qa qb qc qd hg hA hcs htk hov hG1 hG2
        go_enter Tryz.func66, Tryz.ntmps66
        go_wp2_with (first
          | (at_builtin; refine Lib.wpList_append_run _ rfl _ _ _ _ rfl _ _ rfl rfl _ _ (hqa _) ?_)
          | (at_builtin; refine wpList_copy_rn rfl _ _ 51 51 rfl (.slice (some ⟨w.heap.size, i * 4, none⟩) (m + 1 - i) (G - i)) _ (by simp [Act.eval, Act.put]) rfl (hqb _ _) ?_))
        go_region_law (refine step_copy_rn rfl _ _ 51 51 rfl (.slice (some ⟨w.heap.size, (i + 1) * 4, none⟩) (m + 1 - (i + 1)) (G - (i + 1))) (.slice (some ⟨g, i * 4, none⟩) (m - i) (cap - i)) (by simp [Act.eval, Act.put]) (by simp [Act.eval, Act.put]) (hqc _ _ _) ?_)
        go_wp2
        go_ret
        exact ⟨rfl, rfl⟩
      refine hc.mono ?_
      rintro e w2 ⟨rfl, rfl⟩
      obtain ⟨p1, p2, p3⟩ := heap_os_setCells w.heap.size vs (i * 4) W1
      exact qd _ rfl (p1.trans o1) (p2.trans o2) (p3.trans o3)
theorem insAttr_a (l : List AttrD) (y : AttrD) {i : Int} (hi : 0 ≤ i) (hj : i ≤ l.length) (hl : l.length < 1073741824) : ATake Tryz.prog 66 4 (eL l) [.one (.int .i64 i), .one (.slc .sh 4 (eL [y]))] true false (eL (insAt l i.toNat y)) :=
  atake_insT (by unfold FnOk; kernel_rfl) (by decide) (fun w oa m cap olds i vb voff vc vs => insAttr_run w oa m cap olds i vb voff vc vs) l y hi hj hl
open GoE (enc wide)
end Go.Proofs.YtdakhddpcfimaaaGreatDoor
namespace Go.Proofs.YtdakhddpcfimaaaGreatDoor
open Go.RowKit
open GoE (enc wide)
open GoE (enc wide)
def implcopyFile (f : FileD) : FileD := f
theorem implcopyFile_a (f : FileD) : ACalls Tryz.prog 61 [.a [.i f.1, .i f.2.1, .b f.2.2.1, .i f.2.2.2.1, .h f.2.2.2.2]] (.a [.i ((implcopyFile f).1), .i ((implcopyFile f).2.1), .b ((implcopyFile f).2.2.1), .i ((implcopyFile f).2.2.2.1), .o 0 ((implcopyFile f).2.2.2.2)]) := by
  refine en tt_ok Tryz.func61 fun w0 F0 hG => ?_
  refine sn tt_ok [1, 2] [1, 2] (p0) ?_
  refine tn tt_ok [1, 2] [1, 2] (pc 2 (cloneAttr_a f.2.2.2.2) p0) ?_
  refine tu tt_ok [(2, .p 2 0)] [0] [(2, [.i f.1, .i f.2.1, .b f.2.2.1, .i f.2.2.2.1, .o 320 f.2.2.2.2])] [] (p0) ?_
  refine awp_ret ?_
  exact pz [] (show implcopyFile f = f from rfl) (fun z => .a [.i z.1, .i z.2.1, .b z.2.2.1, .i z.2.2.2.1, .o 0 z.2.2.2.2])
def implcopyFiles_f0 (_ : Nat) (a0 : FileD) (s0 : (List FileD)) : Rd ((List FileD)) ((List FileD)) ((List FileD)) := (.next (s0 ++ [(implcopyFile a0)]))
def implcopyFiles_e0 (_ : Nat) (s0 : (List FileD)) : (List FileD) := s0
def implcopyFiles (l : (List FileD)) : (List FileD) := (Out.on (forL implcopyFiles_f0 implcopyFiles_e0 l 0 []) (fun y0 => y0))
theorem implcopyFiles_a (l : (List FileD)) : ACalls Tryz.prog 50 [.h l] (.o 0 (implcopyFiles l)) := by
  refine en tt_ok Tryz.func50 fun w0 F0 hG => ?_
  refine sn tt_ok [0, 2] [] (p0) ?_
  refine tn tt_ok [0, 2, 3] [] (p0) ?_
  refine awp_seq ?_
  refine tu tt_ok [(2, .e 0), (3, .one (.slc (.own true 384) 5 [])), (7, .h l), (8, .i (l.length : Int)), (9, .i 0)] [0] [] [] (pl 1 l p0) ?_
  refine wT 7 0 .sh l (fun hw1 hl2 => ?_)
  refine blL1 implcopyFiles_f0 implcopyFiles_e0 l [] (fun k0 s0 => [(3, .o 147201 s0), (9, .i ((k0 : Nat) : Int))]) [3, 9] (fun y0 => [(3, .o 147351 y0)]) [3, 7, 8, 9] (fun k0 s0 => List.length s0 ≤ k0) (weak_sf [(384, 147201)] (by kernel_rfl)) (by simp) (fun k0 s0 hk0 hI0 => ?_) (fun k0 s0 hk0 hI0 => ?_) (fun y0 hD0 => ?_)
  ·
    have hA0_0 := hI0.2
    obtain ⟨a0, hx0⟩ := get_some (l := l) (i := k0) hk0
    refine sn tt_ok [2, 3, 7, 8, 9, 10] [] (pe 0 (av_bool (decide_eq_true (p := ((k0 : Nat) : Int) < (l.length : Int)) (by omega))) p0) ?_
    refine awp_seq ?_
    refine ckT ?_
    refine awp_skip ?_
    refine awp_seq ?_
    refine awp_block ?_
    refine tn tt_ok [2, 3, 5, 7, 8, 9] [5] (pn 0 hx0 p0) ?_
    refine wT 3 0 (.own true 147201) s0 (fun hw3 hl4 => ?_)
    refine qu tt_ok [(3, .one (.slc (.own true 1088) 5 ((eL s0) ++ [[.i ((implcopyFile a0).1), .i ((implcopyFile a0).2.1), .b ((implcopyFile a0).2.2.1), .i ((implcopyFile a0).2.2.2.1), .h ((implcopyFile a0).2.2.2.2)]])))] [3] [] [] (pc 2 (implcopyFile_a a0) (pa s0 [(implcopyFile a0)] p0)) ?_
    refine eqn [(3, .o 1088 (s0 ++ [(implcopyFile a0)]))] [3] [] [] (by rw [show ((eL s0) ++ [[.i ((implcopyFile a0).1), .i ((implcopyFile a0).2.1), .b ((implcopyFile a0).2.2.1), .i ((implcopyFile a0).2.2.2.1), .h ((implcopyFile a0).2.2.2.2)]]) = (eL (s0 ++ [(implcopyFile a0)])) from app_eL (rfl) (rfl)]; first | done | kernel_rfl) ?_
    refine rn tt_ok [2, 3, 7, 8, 9] [] (pe 0 (av_i (wrap_succ k0 (by omega))) p0) ?_
    exact Exists.intro (s0 ++ [(implcopyFile a0)]) (And.intro (weak_sf [(1088, 147201)] (by kernel_rfl)) ⟨forL_next hx0 (rfl) hI0.1, by first | omega | (simp; omega) | simp⟩)
  ·
    have hA0_0 := hI0.2
    refine sn tt_ok [2, 3, 7, 8, 9, 10] [] (pe 0 (av_bool (decide_eq_false (p := ((k0 : Nat) : Int) < (l.length : Int)) (by omega))) p0) ?_
    refine awp_seq ?_
    refine ckF ?_
    refine awp_exit ?_
    exact Exists.intro _ (And.intro (weak_sf [(147201, 147351)] (by kernel_rfl)) (forL_end hk0 (rfl) hI0.1))
  ·
    refine sn tt_ok [2] [] (p0) ?_
    refine awp_ret ?_
    exact po0 [] (on_b hD0 (rfl))
def implcopyStore (s_ : StoreD) : StoreD := (s_.1, (implcopyFiles s_.2.1), s_.2.2)
theorem copyFiles_id (l : List FileD) : implcopyFiles l = l := by
  unfold implcopyFiles
  rw [forL_map (f := implcopyFiles_f0) (e := implcopyFiles_e0) (g := id) (fun k a s => rfl) l 0 []]
  simp [Out.on, implcopyFiles_e0]
theorem copyStore_len (s_ : StoreD) : (implcopyStore s_).2.1.length = s_.2.1.length := by unfold implcopyStore; rw [copyFiles_id]
theorem copyStore_id (s_ : StoreD) : implcopyStore s_ = s_ := by unfold implcopyStore; rw [copyFiles_id]
theorem implcopyStore_a (s_ : StoreD) : ACalls Tryz.prog 25 [.a [.h s_.1, .h s_.2.1, .i s_.2.2]] (.a [.o 0 ((implcopyStore s_).1), .o 1 ((implcopyStore s_).2.1), .i ((implcopyStore s_).2.2)]) := by
  refine en tt_ok Tryz.func25 fun w0 F0 hG => ?_
  refine sn tt_ok [1, 2] [1, 2] (p0) ?_
  refine tN tt_ok tt_mx [2] [2] (pc 2 (cloneField_a s_.1) (pc 5 (implcopyFiles_a s_.2.1) p0)) ?_
  refine awp_ret ?_
  exact pz [] (show implcopyStore s_ = (s_.1, (implcopyFiles s_.2.1), s_.2.2) from rfl) (fun z => .a [.o 0 z.1, .o 1 z.2.1, .i z.2.2])
def specl04Copy (f : FileD) : FileD := f
theorem specl04Copy_a (f : FileD) : ACalls Tryz.prog 39 [.a [.i f.1, .i f.2.1, .b f.2.2.1, .i f.2.2.2.1, .h f.2.2.2.2]] (.a [.i ((specl04Copy f).1), .i ((specl04Copy f).2.1), .b ((specl04Copy f).2.2.1), .i ((specl04Copy f).2.2.2.1), .o 0 ((specl04Copy f).2.2.2.2)]) := by
  refine en tt_ok Tryz.func39 fun w0 F0 hG => ?_
  refine sn tt_ok [1, 2] [1, 2] (p0) ?_
  refine wB 1 4 .sh f.2.2.2.2 (fun hw1 hl2 => ?_)
  refine tn tt_ok [1, 2] [1, 2] (po 3 (.flat) (px (ob_len (n := (([] : List (List PV)).length + ((eL f.2.2.2.2) : List (List PV)).length)) (len_of (rfl) (eL_length f.2.2.2.2) (by first | omega | (simp only [List.length_cons, List.length_nil]; omega) | (simp; omega) | simp))) (px (ob_flat (flat_eL f.2.2.2.2)) p0))) ?_
  refine tu tt_ok [(2, .p 2 0)] [0] [(2, [.i f.1, .i f.2.1, .b f.2.2.1, .i f.2.2.2.1, .o 384 f.2.2.2.2])] [] (p0) ?_
  refine awp_ret ?_
  exact pz [] (show specl04Copy f = f from rfl) (fun z => .a [.i z.1, .i z.2.1, .b z.2.2.1, .i z.2.2.2.1, .o 0 z.2.2.2.2])
def specl05Copy_f0 (_ : Nat) (a0 : FileD) (s0 : (List FileD)) : Rd (StoreD) ((List FileD)) ((List FileD)) := (.next (s0 ++ [(specl04Copy a0)]))
def specl05Copy_e0 (_ : Nat) (s0 : (List FileD)) : (List FileD) := s0
def specl05Copy (s_ : StoreD) : StoreD := (Out.on (forL specl05Copy_f0 specl05Copy_e0 s_.2.1 0 []) (fun y0 => (s_.1, y0, s_.2.2)))
theorem specl05Copy_a (s_ : StoreD) : ACalls Tryz.prog 16 [.a [.h s_.1, .h s_.2.1, .i s_.2.2]] (.a [.o 0 ((specl05Copy s_).1), .o 1 ((specl05Copy s_).2.1), .i ((specl05Copy s_).2.2)]) := by
  refine en tt_ok Tryz.func16 fun w0 F0 hG => ?_
  refine sn tt_ok [1, 2] [1, 2] (p0) ?_
  refine wB 1 0 .sh s_.1 (fun hw1 hl2 => ?_)
  refine tN tt_ok tt_mx [1, 2, 3] [1, 2, 3] (po 3 (.flat) (px (ob_len (n := (([] : List (List PV)).length + ((eL s_.1) : List (List PV)).length)) (len_of (rfl) (eL_length s_.1) (by first | omega | (simp only [List.length_cons, List.length_nil]; omega) | (simp; omega) | simp))) (px (ob_flat (flat_eL s_.1)) p0))) ?_
  refine awp_seq ?_
  refine tu tt_ok [(1, .p 1 0), (2, .p 2 0), (3, .p 3 0), (4, .i 0)] [0] [(1, [.h s_.1, .h s_.2.1, .i s_.2.2]), (2, [.e 2, .e 5, .i 0]), (3, [.o 512 s_.1, .e 5, .i s_.2.2])] [] (p0) ?_
  refine wB 1 1 .sh s_.2.1 (fun hw3 hl4 => ?_)
  refine blL1b specl05Copy_f0 specl05Copy_e0 s_.2.1 [] (fun k0 _ => [(4, .i ((k0 : Nat) : Int))]) [4] (fun _ s0 => [(3, [.o 512 s_.1, .o 147211 s0, .i s_.2.2])]) [3] (fun _ => []) [1, 4] (fun y0 => [(3, [.o 512 s_.1, .o 147361 y0, .i s_.2.2])]) [1, 3] (fun k0 s0 => List.length s0 ≤ k0) (weak_gf [(true, 3, 1, true, 320008, 5)] [] [] [(320008, 147211)] (by kernel_rfl)) (by simp) (fun k0 s0 hk0 hI0 => ?_) (fun k0 s0 hk0 hI0 => ?_) (fun y0 hD0 => ?_)
  ·
    have hA0_0 := hI0.2
    obtain ⟨a0, hx0⟩ := get_some (l := s_.2.1) (i := k0) hk0
    refine awp_seq ?_
    refine su tt_ok [(16, .b true)] [] [] [] (pl 3 s_.2.1 (pe 4 (av_bool (decide_eq_true (p := ((k0 : Nat) : Int) < (s_.2.1.length : Int)) (by omega))) p0)) ?_
    refine ckT ?_
    refine awp_skip ?_
    refine awp_seq ?_
    refine awp_block ?_
    refine wB 3 1 (.own true 147211) s0 (fun hw5 hl6 => ?_)
    refine rU tt_ok tt_mx [] [16] [(3, [.o 512 s_.1, .slc (.own true 1792) 5 ((eL s0) ++ [[.i ((specl04Copy a0).1), .i ((specl04Copy a0).2.1), .b ((specl04Copy a0).2.2.1), .i ((specl04Copy a0).2.2.2.1), .h ((specl04Copy a0).2.2.2.2)]]), .i s_.2.2])] [3] (pn 5 hx0 (pc 7 (specl04Copy_a a0) (pa s0 [(specl04Copy a0)] p0))) ?_
    refine eqn [] [] [(3, [.o 512 s_.1, .o 1792 (s0 ++ [(specl04Copy a0)]), .i s_.2.2])] [3] (by rw [show ((eL s0) ++ [[.i ((specl04Copy a0).1), .i ((specl04Copy a0).2.1), .b ((specl04Copy a0).2.2.1), .i ((specl04Copy a0).2.2.2.1), .h ((specl04Copy a0).2.2.2.2)]]) = (eL (s0 ++ [(specl04Copy a0)])) from app_eL (rfl) (rfl)]; first | done | kernel_rfl) ?_
    refine rn tt_ok [1, 2, 3, 4] [1, 2, 3] (pe 1 (av_i (wrap_succ k0 (by omega))) p0) ?_
    exact Exists.intro (s0 ++ [(specl04Copy a0)]) (And.intro (weak_sf [(1792, 147211)] (by kernel_rfl)) ⟨forL_next hx0 (rfl) hI0.1, by first | omega | (simp; omega) | simp⟩)
  ·
    have hA0_0 := hI0.2
    refine awp_seq ?_
    refine su tt_ok [(16, .b false)] [] [] [] (pl 3 s_.2.1 (pe 4 (av_bool (decide_eq_false (p := ((k0 : Nat) : Int) < (s_.2.1.length : Int)) (by omega))) p0)) ?_
    refine ckF ?_
    refine awp_exit ?_
    exact Exists.intro _ (And.intro (weak_sf [(147211, 147361)] (by kernel_rfl)) (forL_end hk0 (rfl) hI0.1))
  ·
    refine sn tt_ok [2] [2] (p0) ?_
    refine awp_ret ?_
    exact pz [] (show specl05Copy s_ = _ from on_b hD0 (rfl)) (fun z => .a [.o 0 z.1, .o 1 z.2.1, .i z.2.2])
def implGetAttr_f0 (name : ByteArray) (_ : Nat) (a0 : AttrD) (_ : Unit) : Rd (ValueD) (Unit) (Unit) := (bif (a0.1.toList == name.toList) then (.ret a0.2) else (.next ()))
def implGetAttr_e0 (_ : Nat) (_ : Unit) : Unit := ()
def implGetAttr (f : FileD) (name : ByteArray) : ValueD := (Out.on (forL (implGetAttr_f0 name) implGetAttr_e0 f.2.2.2.2 0 ()) (fun _ => (0, 0, ⟨#[]⟩)))
theorem implGetAttr_a (f : FileD) (name : ByteArray) : ACalls Tryz.prog 28 [.a [.i f.1, .i f.2.1, .b f.2.2.1, .i f.2.2.2.1, .h f.2.2.2.2], .s name] (.a [.i ((implGetAttr f name).1), .i ((implGetAttr f name).2.1), .s ((implGetAttr f name).2.2)]) := by
  refine en tt_ok Tryz.func28 fun w0 F0 hG => ?_
  refine sn tt_ok [1, 2, 4] [2, 4] (p0) ?_
  refine awp_seq ?_
  refine tn tt_ok [1, 4, 8, 9, 10] [4] (pl 2 f.2.2.2.2 p0) ?_
  refine mz [(4, .p 4 0), (8, .h f.2.2.2.2), (9, .i (f.2.2.2.2.length : Int)), (10, .i 0)] [0] [(4, [.i 0, .i 0, .s ⟨#[]⟩])] [] ?_
  refine wT 8 0 .sh f.2.2.2.2 (fun hw1 hl2 => ?_)
  refine blL0 (implGetAttr_f0 name) implGetAttr_e0 f.2.2.2.2 () (fun k0 _ => [(10, .i ((k0 : Nat) : Int))]) [10] (fun _ => []) [1, 8, 9, 10] (weak_fit (by kernel_rfl)) (fun k0 s0 hk0 hI0 => ?_) (fun k0 s0 hk0 hI0 => ?_) (fun y0 hD0 => ?_)
  ·
    obtain ⟨a0, hx0⟩ := get_some (l := f.2.2.2.2) (i := k0) hk0
    refine su tt_ok [(11, .b true)] [] [] [] (pe 0 (av_bool (decide_eq_true (p := ((k0 : Nat) : Int) < (f.2.2.2.2.length : Int)) (by omega))) p0) ?_
    refine awp_seq ?_
    refine ckT ?_
    refine awp_skip ?_
    refine awp_seq ?_
    refine awp_block ?_
    refine sn tt_ok [1, 4, 6, 8, 9, 10] [4, 6] (pn 0 hx0 p0) ?_
    refine tn tt_ok [1, 4, 6, 8, 9, 10, 17] [4, 6] (p0) ?_
    refine ck (a0.1.toList == name.toList) (fun h3 => ?_) (fun h3 => ?_)
    ·
      refine tu tt_ok [] [11] [(4, [.i a0.2.1, .i a0.2.2.1, .s a0.2.2.2])] [4] (p0) ?_
      refine awp_ret ?_
      have hr4 : (forL (implGetAttr_f0 name) implGetAttr_e0 f.2.2.2.2 0 ()) = .ret a0.2 := forL_ret hx0 (bif_t h3 (rfl)) hI0
      exact pz [] (show implGetAttr f name = _ from on_r hr4) (fun z => .a [.i z.1, .i z.2.1, .s z.2.2])
    ·
      refine awp_skip ?_
      refine qu tt_ok [(10, .i ((k0 + 1 : Nat) : Int))] [10, 11] [] [] (pe 0 (av_i (wrap_succ k0 (by omega))) p0) ?_
      exact Exists.intro _ (And.intro (weak_fit (by kernel_rfl)) (forL_next hx0 (bif_f h3 (rfl)) hI0))
  ·
    refine sn tt_ok [1, 4, 8, 9, 10, 11] [4] (pe 0 (av_bool (decide_eq_false (p := ((k0 : Nat) : Int) < (f.2.2.2.2.length : Int)) (by omega))) p0) ?_
    refine awp_seq ?_
    refine ckF ?_
    refine awp_exit ?_
    exact Exists.intro _ (And.intro (weak_fit (by kernel_rfl)) (forL_end hk0 (rfl) hI0))
  ·
    refine sn tt_ok [4] [4] (p0) ?_
    refine awp_ret ?_
    exact pz [] (show implGetAttr f name = _ from on_b hD0 (rfl)) (fun z => .a [.i z.1, .i z.2.1, .s z.2.2])
def specGetAttr_f0 (name : ByteArray) (_ : Nat) (a0 : AttrD) (_ : Unit) : Rd (ValueD) (Unit) (Unit) := (bif (a0.1.toList == name.toList) then (.ret a0.2) else (.next ()))
def specGetAttr_e0 (_ : Nat) (_ : Unit) : Unit := ()
def specGetAttr (f : FileD) (name : ByteArray) : ValueD := (Out.on (forL (specGetAttr_f0 name) specGetAttr_e0 f.2.2.2.2 0 ()) (fun _ => (0, 0, ⟨#[]⟩)))
theorem specGetAttr_a (f : FileD) (name : ByteArray) : ACalls Tryz.prog 20 [.a [.i f.1, .i f.2.1, .b f.2.2.1, .i f.2.2.2.1, .h f.2.2.2.2], .s name] (.a [.i ((specGetAttr f name).1), .i ((specGetAttr f name).2.1), .s ((specGetAttr f name).2.2)]) := by
  refine en tt_ok Tryz.func20 fun w0 F0 hG => ?_
  refine sn tt_ok [1, 2, 4] [2, 4] (p0) ?_
  refine awp_seq ?_
  refine tn tt_ok [1, 2, 4, 5] [2, 4] (p0) ?_
  refine mz [(2, .p 2 0), (4, .p 4 0), (5, .i 0)] [0] [(2, [.i f.1, .i f.2.1, .b f.2.2.1, .i f.2.2.2.1, .h f.2.2.2.2]), (4, [.i 0, .i 0, .s ⟨#[]⟩])] [] ?_
  refine wB 2 4 .sh f.2.2.2.2 (fun hw1 hl2 => ?_)
  refine blL0b (specGetAttr_f0 name) specGetAttr_e0 f.2.2.2.2 () (fun k0 _ => [(5, .i ((k0 : Nat) : Int))]) [5] (fun _ _ => []) [] (fun _ => []) [1, 2, 5] (fun _ => []) [2] (weak_fit (by kernel_rfl)) (fun k0 s0 hk0 hI0 => ?_) (fun k0 s0 hk0 hI0 => ?_) (fun y0 hD0 => ?_)
  ·
    obtain ⟨a0, hx0⟩ := get_some (l := f.2.2.2.2) (i := k0) hk0
    refine awp_seq ?_
    refine sn tt_ok [1, 2, 4, 5, 10] [2, 4] (pl 3 f.2.2.2.2 (pe 4 (av_bool (decide_eq_true (p := ((k0 : Nat) : Int) < (f.2.2.2.2.length : Int)) (by omega))) p0)) ?_
    refine ckT ?_
    refine awp_skip ?_
    refine awp_seq ?_
    refine awp_block ?_
    refine tn tt_ok [1, 2, 4, 5, 20] [2, 4] (pn 3 hx0 p0) ?_
    refine ck (a0.1.toList == name.toList) (fun h3 => ?_) (fun h3 => ?_)
    ·
      refine tu tt_ok [] [] [(4, [.i a0.2.1, .i a0.2.2.1, .s a0.2.2.2])] [4] (pn 3 hx0 p0) ?_
      refine awp_ret ?_
      have hr4 : (forL (specGetAttr_f0 name) specGetAttr_e0 f.2.2.2.2 0 ()) = .ret a0.2 := forL_ret hx0 (bif_t h3 (rfl)) hI0
      exact pz [] (show specGetAttr f name = _ from on_r hr4) (fun z => .a [.i z.1, .i z.2.1, .s z.2.2])
    ·
      refine awp_skip ?_
      refine qu tt_ok [(5, .i ((k0 + 1 : Nat) : Int))] [5] [] [] (pe 1 (av_i (wrap_succ k0 (by omega))) p0) ?_
      exact Exists.intro _ (And.intro (weak_fit (by kernel_rfl)) (forL_next hx0 (bif_f h3 (rfl)) hI0))
  ·
    refine awp_seq ?_
    refine sn tt_ok [1, 2, 4, 5, 10] [2, 4] (pl 3 f.2.2.2.2 (pe 4 (av_bool (decide_eq_false (p := ((k0 : Nat) : Int) < (f.2.2.2.2.length : Int)) (by omega))) p0)) ?_
    refine ckF ?_
    refine awp_exit ?_
    exact Exists.intro _ (And.intro (weak_fit (by kernel_rfl)) (forL_end hk0 (rfl) hI0))
  ·
    refine sn tt_ok [4] [4] (p0) ?_
    refine awp_ret ?_
    exact pz [] (show specGetAttr f name = _ from on_b hD0 (rfl)) (fun z => .a [.i z.1, .i z.2.1, .s z.2.2])
def implSetAttr_1 (a_ : AttrD) (q0 : ByteArray) : Bool := (a_.1.toList == q0.toList)
theorem implSetAttr_1_a (a_ : AttrD) (q0 : ByteArray) : ACalls Tryz.prog 63 [.a [.s a_.1, .i a_.2.1, .i a_.2.2.1, .s a_.2.2.2], .one (.rptr .sh [.s q0])] (.b (implSetAttr_1 a_ q0)) := by
  refine en tt_ok Tryz.func63 fun w0 F0 hG => ?_
  refine sn tt_ok [1, 2, 3] [2] (p0) ?_
  refine tn tt_ok [3] [] (p0) ?_
  refine awp_ret ?_
  exact pb [] (show implSetAttr_1 a_ q0 = (a_.1.toList == q0.toList) from rfl)
def slicesIndexFunc_Attr_implSetAttr_1_f0 (c0 : ByteArray) (k0 : Nat) (a0 : AttrD) (_ : Unit) : Rd (Int) (Unit) (Unit) := (bif (implSetAttr_1 a0 c0) then (.ret ((k0 : Nat) : Int)) else (.next ()))
def slicesIndexFunc_Attr_implSetAttr_1_e0 (_ : Nat) (_ : Unit) : Unit := ()
def slicesIndexFunc_Attr_implSetAttr_1 (s_ : (List AttrD)) (c0 : ByteArray) : Int := (Out.on (forL (slicesIndexFunc_Attr_implSetAttr_1_f0 c0) slicesIndexFunc_Attr_implSetAttr_1_e0 s_ 0 ()) (fun _ => -1))
theorem slicesIndexFunc_Attr_implSetAttr_1_ix (s_ : (List AttrD)) (c0 : ByteArray) : slicesIndexFunc_Attr_implSetAttr_1 s_ c0 = ixF (fun a => implSetAttr_1 a c0) s_ := idx_eq (fun _ _ _ => rfl) s_
theorem slicesIndexFunc_Attr_implSetAttr_1_bd (s_ : (List AttrD)) (c0 : ByteArray) : -1 ≤ slicesIndexFunc_Attr_implSetAttr_1 s_ c0 ∧ slicesIndexFunc_Attr_implSetAttr_1 s_ c0 < (List.length s_ : Int) := by rw [slicesIndexFunc_Attr_implSetAttr_1_ix]; exact ixF_bd _ _
theorem slicesIndexFunc_Attr_implSetAttr_1_a (s_ : (List AttrD)) (c0 : ByteArray) : ACalls Tryz.prog 64 [.h s_, .one (.fnr 63 [[.s c0]])] (.i (slicesIndexFunc_Attr_implSetAttr_1 s_ c0)) := by
  refine en tt_ok Tryz.func64 fun w0 F0 hG => ?_
  refine sn tt_ok [0, 1, 4] [] (p0) ?_
  refine awp_seq ?_
  refine tn tt_ok [0, 1, 4, 7, 8] [] (pl 1 s_ p0) ?_
  refine mz [(4, .i 0), (7, .i (s_.length : Int)), (8, .i 0)] [] [] [] ?_
  refine wT 0 0 .sh s_ (fun hw1 hl2 => ?_)
  refine blL0 (slicesIndexFunc_Attr_implSetAttr_1_f0 c0) slicesIndexFunc_Attr_implSetAttr_1_e0 s_ () (fun k0 _ => [(8, .i ((k0 : Nat) : Int))]) [8] (fun _ => []) [0, 1, 7, 8] (weak_fit (by kernel_rfl)) (fun k0 s0 hk0 hI0 => ?_) (fun k0 s0 hk0 hI0 => ?_) (fun y0 hD0 => ?_)
  ·
    obtain ⟨a0, hx0⟩ := get_some (l := s_) (i := k0) hk0
    refine sn tt_ok [0, 1, 4, 7, 8, 9] [] (pe 0 (av_bool (decide_eq_true (p := ((k0 : Nat) : Int) < (s_.length : Int)) (by omega))) p0) ?_
    refine awp_seq ?_
    refine ckT ?_
    refine awp_skip ?_
    refine awp_seq ?_
    refine awp_block ?_
    refine tn tt_ok [0, 1, 4, 5, 7, 8] [] (p0) ?_
    refine tu tt_ok [(5, .i ((k0 : Nat) : Int)), (16, .b (implSetAttr_1 a0 c0))] [] [] [] (pn 3 hx0 (pc 5 (implSetAttr_1_a a0 c0) p0)) ?_
    refine ck (implSetAttr_1 a0 c0) (fun h3 => ?_) (fun h3 => ?_)
    ·
      refine sn tt_ok [0, 1, 4, 7, 8] [] (p0) ?_
      refine awp_ret ?_
      have hr4 : (forL (slicesIndexFunc_Attr_implSetAttr_1_f0 c0) slicesIndexFunc_Attr_implSetAttr_1_e0 s_ 0 ()) = .ret ((k0 : Nat) : Int) := forL_ret hx0 (bif_t h3 (rfl)) hI0
      exact pi [] (on_r hr4)
    ·
      refine awp_skip ?_
      refine rn tt_ok [0, 1, 4, 7, 8] [] (pe 0 (av_i (wrap_succ k0 (by omega))) p0) ?_
      exact Exists.intro _ (And.intro (weak_fit (by kernel_rfl)) (forL_next hx0 (bif_f h3 (rfl)) hI0))
  ·
    refine sn tt_ok [0, 1, 4, 7, 8, 9] [] (pe 0 (av_bool (decide_eq_false (p := ((k0 : Nat) : Int) < (s_.length : Int)) (by omega))) p0) ?_
    refine awp_seq ?_
    refine ckF ?_
    refine awp_exit ?_
    exact Exists.intro _ (And.intro (weak_fit (by kernel_rfl)) (forL_end hk0 (rfl) hI0))
  ·
    refine sn tt_ok [4] [] (p0) ?_
    refine awp_ret ?_
    exact pi [] (on_b hD0 (rfl))
def slicesDeleteFunc_Attr_implSetAttr_1_f0 (c0 : ByteArray) (s0 : (List AttrD) × Int × Int) : Rd ((List AttrD)) ((List AttrD) × Int × Int) ((List AttrD) × Int) := (bif decide (s0.2.2 < (s0.1.length : Int)) then (bif (!(implSetAttr_1 (nth s0.1 (Int.toNat s0.2.2)) c0)) then (.next (List.set s0.1 (Int.toNat s0.2.1) (nth s0.1 (Int.toNat s0.2.2)), (s0.2.1 + 1), (s0.2.2 + 1))) else (.next (s0.1, s0.2.1, (s0.2.2 + 1)))) else (.brk (s0.1, s0.2.1)))
def slicesDeleteFunc_Attr_implSetAttr_1 (s_ : (List AttrD)) (c0 : ByteArray) : (List AttrD) := (bif ((slicesIndexFunc_Attr_implSetAttr_1 s_ c0) == (-1 : Int)) then s_ else (Out.on (whlD (slicesDeleteFunc_Attr_implSetAttr_1_f0 c0) (List.length s_ + 1) (s_, (slicesIndexFunc_Attr_implSetAttr_1 s_ c0), ((slicesIndexFunc_Attr_implSetAttr_1 s_ c0) + 1))) (fun y0 => List.take (Int.toNat y0.2) y0.1)))
theorem slicesDeleteFunc_Attr_implSetAttr_1_st (c0 : ByteArray) : DelStep (slicesDeleteFunc_Attr_implSetAttr_1_f0 c0) (fun a => implSetAttr_1 a c0) := by
  intro s i j hij hj
  unfold slicesDeleteFunc_Attr_implSetAttr_1_f0
  by_cases h : (j : Int) < (s.length : Int) <;> cases hp : implSetAttr_1 (nth s j) c0 <;> simp [h, hp]
theorem slicesDeleteFunc_Attr_implSetAttr_1_w (s_ : (List AttrD)) (c0 : ByteArray) (hp : List.length s_ ≤ 1073741824) (h : slicesIndexFunc_Attr_implSetAttr_1 s_ c0 ≠ -1) : (whl (slicesDeleteFunc_Attr_implSetAttr_1_f0 c0) (List.length s_ + 1) (s_, slicesIndexFunc_Attr_implSetAttr_1 s_ c0, slicesIndexFunc_Attr_implSetAttr_1 s_ c0 + 1)).isSome = true := del_some (slicesDeleteFunc_Attr_implSetAttr_1_st c0) hp (slicesIndexFunc_Attr_implSetAttr_1_ix s_ c0) h
theorem slicesDeleteFunc_Attr_implSetAttr_1_eq (s_ : (List AttrD)) (c0 : ByteArray) (hp : List.length s_ ≤ 1073741824) : slicesDeleteFunc_Attr_implSetAttr_1 s_ c0 = s_.filter (fun a => !(implSetAttr_1 a c0)) := by
  unfold slicesDeleteFunc_Attr_implSetAttr_1
  exact del_eq (slicesDeleteFunc_Attr_implSetAttr_1_st c0) hp (slicesIndexFunc_Attr_implSetAttr_1_ix s_ c0)
theorem slicesDeleteFunc_Attr_implSetAttr_1_le (s_ : (List AttrD)) (c0 : ByteArray) (hp : List.length s_ ≤ 1073741824) : List.length (slicesDeleteFunc_Attr_implSetAttr_1 s_ c0) ≤ List.length s_ := by rw [slicesDeleteFunc_Attr_implSetAttr_1_eq _ _ hp]; exact List.length_filter_le _ _
theorem slicesDeleteFunc_Attr_implSetAttr_1_a (s_ : (List AttrD)) (c0 : ByteArray) : ATake Tryz.prog 62 4 (eL s_) [.one (.fnr 63 [[.s c0]])] true false (eL (slicesDeleteFunc_Attr_implSetAttr_1 s_ c0)) := by
  refine atake_of (tt := tt) tt_ok Tryz.func62 (fn := Tryz.f62) rfl (by unfold FnOk; kernel_rfl) (Nat.le_of_ble_eq_true rfl) (by simp [AV.cells, C.key, C.bkeys]) (t := 4) rfl fun w0 F0 hG => ?_
  refine wT 0 0 (.own false 63) s_ (fun hw1 hl2 => ?_)
  have hix := slicesIndexFunc_Attr_implSetAttr_1_bd s_ c0
  refine sn tt_ok [0, 1, 4] [] (p0) ?_
  refine tn tt_ok [0, 1, 4, 5] [] (pc 2 (slicesIndexFunc_Attr_implSetAttr_1_a s_ c0) p0) ?_
  refine awp_seq ?_
  refine tu tt_ok [(4, .e 0), (5, .i (slicesIndexFunc_Attr_implSetAttr_1 s_ c0)), (12, .b ((slicesIndexFunc_Attr_implSetAttr_1 s_ c0) == (-1 : Int)))] [] [] [] (p0) ?_
  refine ck ((slicesIndexFunc_Attr_implSetAttr_1 s_ c0) == (-1 : Int)) (fun h3 => ?_) (fun h3 => ?_)
  ·
    have h3d := eq_of_beq h3
    refine sn tt_ok [0, 1, 4, 5] [] (p0) ?_
    refine awp_ret ?_
    have hE4 : slicesDeleteFunc_Attr_implSetAttr_1 s_ c0 = s_ := bif_t h3 (rfl)
    exact ⟨.inl rfl, 63, by rw [hE4]; kernel_rfl⟩
  ·
    have h3d := ne_of_beq h3
    refine awp_skip ?_
    refine awp_seq ?_
    refine sn tt_ok [0, 1, 4, 5, 6] [] (pe 1 (av_i (IntWalk.i64_in ((slicesIndexFunc_Attr_implSetAttr_1 s_ c0) + 1) (by omega))) p0) ?_
    refine mz [(6, .i ((slicesIndexFunc_Attr_implSetAttr_1 s_ c0) + 1))] [12] [] [] ?_
    refine blw (fun (s0 : (List AttrD) × Int × Int) => [(0, .q 63 s0.1), (5, .i s0.2.1), (6, .i s0.2.2)]) [0, 5, 6] (fun s0 => []) [] (fun (y0 : (List AttrD) × Int) => [(0, .q 63 y0.1), (5, .i y0.2)]) [0, 1, 5, 6] (fun y0 => []) [] (fun (k0 : Nat) (s0 : (List AttrD) × Int × Int) => whl (slicesDeleteFunc_Attr_implSetAttr_1_f0 c0) k0 s0 = some (whlD (slicesDeleteFunc_Attr_implSetAttr_1_f0 c0) (List.length s_ + 1) (s_, (slicesIndexFunc_Attr_implSetAttr_1 s_ c0), ((slicesIndexFunc_Attr_implSetAttr_1 s_ c0) + 1))) ∧ 0 ≤ s0.2.1 ∧ s0.2.1 < s0.2.2 ∧ s0.2.2 ≤ (List.length s0.1 : Int) ∧ List.length s0.1 = List.length s_) (fun (y0 : (List AttrD) × Int) => (whlD (slicesDeleteFunc_Attr_implSetAttr_1_f0 c0) (List.length s_ + 1) (s_, (slicesIndexFunc_Attr_implSetAttr_1 s_ c0), ((slicesIndexFunc_Attr_implSetAttr_1 s_ c0) + 1))) = .brk y0 ∧ 0 ≤ y0.2 ∧ y0.2 < (List.length y0.1 : Int) ∧ List.length y0.1 = List.length s_) (List.length s_ + 1) (s_, (slicesIndexFunc_Attr_implSetAttr_1 s_ c0), ((slicesIndexFunc_Attr_implSetAttr_1 s_ c0) + 1)) (weak_fit (by kernel_rfl)) ⟨whl_some (slicesDeleteFunc_Attr_implSetAttr_1_w s_ c0 hl2 h3d), (by first | omega | (dsimp only; omega) | rfl), (by first | omega | (dsimp only; omega) | rfl), (by first | omega | (dsimp only; omega) | rfl), (by first | omega | (dsimp only; omega) | rfl)⟩ (fun _ h => whl_zero h.1) (fun k0 s0 hI0 => ?_) (fun y0 hD0 => ?_)
    ·
      have hA0_0 := hI0.2.1
      have hA0_1 := hI0.2.2.1
      have hA0_2 := hI0.2.2.2.1
      have hA0_3 := hI0.2.2.2.2
      refine awp_seq ?_
      refine sn tt_ok [0, 1, 4, 5, 6, 19] [] (pl 2 s0.1 p0) ?_
      refine ck (decide (s0.2.2 < (s0.1.length : Int))) (fun h5 => ?_) (fun h5 => ?_)
      ·
        have h5d := of_decide_eq_true h5
        refine awp_skip ?_
        refine awp_seq ?_
        refine awp_block ?_
        refine wT 0 0 (.own false 63) s0.1 (fun hw7 hl8 => ?_)
        have hx6 := ng s0.1 (Int.toNat s0.2.2)
        refine tn tt_ok [0, 1, 4, 5, 6, 7] [7] (pG 2 s0.2.2 hx6 p0) ?_
        refine tu tt_ok [(7, .p 7 0), (29, .b (!(implSetAttr_1 (nth s0.1 (Int.toNat s0.2.2)) c0)))] [] [(7, [.s ((nth s0.1 (Int.toNat s0.2.2)).1), .i ((nth s0.1 (Int.toNat s0.2.2)).2.1), .i ((nth s0.1 (Int.toNat s0.2.2)).2.2.1), .s ((nth s0.1 (Int.toNat s0.2.2)).2.2.2)])] [] (pc 2 (implSetAttr_1_a (nth s0.1 (Int.toNat s0.2.2)) c0) p0) ?_
        refine ck (!(implSetAttr_1 (nth s0.1 (Int.toNat s0.2.2)) c0)) (fun h9 => ?_) (fun h9 => ?_)
        ·
          have h9n : (implSetAttr_1 (nth s0.1 (Int.toNat s0.2.2)) c0) = false := bnot_t h9
          have hx10 := ng s0.1 (Int.toNat s0.2.1)
          refine su tt_ok [(0, .one (.slc (.own false 63) 4 (setRow (eL s0.1) (Int.toNat s0.2.1) 0 [.s ((nth s0.1 (Int.toNat s0.2.2)).1), .i ((nth s0.1 (Int.toNat s0.2.2)).2.1), .i ((nth s0.1 (Int.toNat s0.2.2)).2.2.1), .s ((nth s0.1 (Int.toNat s0.2.2)).2.2.2)])))] [0, 7, 29] [] [7] (pG 3 s0.2.1 hx10 p0) ?_
          refine eqn [(0, .q 63 (List.set s0.1 (Int.toNat s0.2.1) (nth s0.1 (Int.toNat s0.2.2))))] [0] [] [] (by rw [setRow_eL (y := (nth s0.1 (Int.toNat s0.2.2))) hx10 rfl]; first | done | kernel_rfl) ?_
          refine rn tt_ok [0, 1, 4, 5, 6] [] (pe 1 (av_i (IntWalk.i64_in (s0.2.1 + 1) (by omega))) p0) ?_
          refine qn tt_ok [0, 1, 4, 5, 6] [] (pe 1 (av_i (IntWalk.i64_in (s0.2.2 + 1) (by omega))) p0) ?_
          exact Exists.intro (List.set s0.1 (Int.toNat s0.2.1) (nth s0.1 (Int.toNat s0.2.2)), (s0.2.1 + 1), (s0.2.2 + 1)) (And.intro (weak_fit (by kernel_rfl)) ⟨wn hI0.1 (bif_t h5 (bif_t h9 (rfl))), (by first | omega | (dsimp only; omega) | (simp only [List.length_set]; omega)), (by first | omega | (dsimp only; omega) | (simp only [List.length_set]; omega)), (by first | omega | (dsimp only; omega) | (simp only [List.length_set]; omega)), (by first | omega | (dsimp only; omega) | (simp only [List.length_set]; omega))⟩)
        ·
          have h9n : (implSetAttr_1 (nth s0.1 (Int.toNat s0.2.2)) c0) = true := bnot_f h9
          refine awp_skip ?_
          refine rn tt_ok [0, 1, 4, 5, 6] [] (pe 1 (av_i (IntWalk.i64_in (s0.2.2 + 1) (by omega))) p0) ?_
          exact Exists.intro (s0.1, s0.2.1, (s0.2.2 + 1)) (And.intro (weak_fit (by kernel_rfl)) ⟨wn hI0.1 (bif_t h5 (bif_f h9 (rfl))), (by first | omega | (dsimp only; omega) | (simp only [List.length_set]; omega)), (by first | omega | (dsimp only; omega) | (simp only [List.length_set]; omega)), (by first | omega | (dsimp only; omega) | (simp only [List.length_set]; omega)), (by first | omega | (dsimp only; omega) | (simp only [List.length_set]; omega))⟩)
      ·
        have h5d := of_decide_eq_false h5
        refine awp_exit ?_
        exact Exists.intro (s0.1, s0.2.1) (And.intro (weak_fit (by kernel_rfl)) ⟨wb hI0.1 (bif_f h5 (rfl)), by first | omega | (simp only [List.length_set]; omega), by first | omega | (simp only [List.length_set]; omega), by first | omega | (simp only [List.length_set]; omega)⟩)
    ·
      have hD0_0 := hD0.2.1
      have hD0_1 := hD0.2.2.1
      have hD0_2 := hD0.2.2.2
      refine awp_seq ?_
      refine awp_clear tt_ok rfl (by kernel_rfl) rfl rfl rfl rfl rfl (by omega) (by rw [eL_length]; omega) (fun lc11 hllc11 htlc11 => ?_)
      refine sn tt_ok [4] [] (po 2 (.cut (eL (List.take (Int.toNat y0.2) y0.1))) (px (ob_eq (show .one (.slc (.own false 0) 4 ((lc11.take (Int.toNat y0.2)).drop (Int.toNat 0))) = .q 0 (List.take (Int.toNat y0.2) y0.1) from (congrArg (fun z => AV.one (.slc (.own false 0) 4 (z.drop (Int.toNat 0)))) htlc11).trans (av_take (.own false 0) 4 (Int.toNat y0.2) y0.2 y0.1 rfl))) (px (ob_rng (lo := 0) (hi := y0.2) (n := (List.length lc11)) (rng_lc (by omega) (by rw [hllc11, eL_length]; omega))) p0))) ?_
      refine awp_ret ?_
      have hE12 : slicesDeleteFunc_Attr_implSetAttr_1 s_ c0 = List.take (Int.toNat y0.2) y0.1 := bif_f h3 (on_b hD0.1 (rfl))
      exact ⟨.inl rfl, 0, by rw [hE12]; kernel_rfl⟩
def implSetAttr_2 (a_ : AttrD) (q0 : ByteArray) : Bool := (!(Op.bytesLess a_.1.toList q0.toList || a_.1.toList == q0.toList))
theorem implSetAttr_2_a (a_ : AttrD) (q0 : ByteArray) : ACalls Tryz.prog 65 [.a [.s a_.1, .i a_.2.1, .i a_.2.2.1, .s a_.2.2.2], .one (.rptr .sh [.s q0])] (.b (implSetAttr_2 a_ q0)) := by
  refine en tt_ok Tryz.func65 fun w0 F0 hG => ?_
  refine sn tt_ok [1, 2, 3] [2] (p0) ?_
  refine tn tt_ok [3] [] (p0) ?_
  refine awp_ret ?_
  exact pb [] (show implSetAttr_2 a_ q0 = (!(Op.bytesLess a_.1.toList q0.toList || a_.1.toList == q0.toList)) from rfl)
def slicesIndexFunc_Attr_implSetAttr_2_f0 (c0 : ByteArray) (k0 : Nat) (a0 : AttrD) (_ : Unit) : Rd (Int) (Unit) (Unit) := (bif (implSetAttr_2 a0 c0) then (.ret ((k0 : Nat) : Int)) else (.next ()))
def slicesIndexFunc_Attr_implSetAttr_2_e0 (_ : Nat) (_ : Unit) : Unit := ()
def slicesIndexFunc_Attr_implSetAttr_2 (s_ : (List AttrD)) (c0 : ByteArray) : Int := (Out.on (forL (slicesIndexFunc_Attr_implSetAttr_2_f0 c0) slicesIndexFunc_Attr_implSetAttr_2_e0 s_ 0 ()) (fun _ => -1))
theorem slicesIndexFunc_Attr_implSetAttr_2_ix (s_ : (List AttrD)) (c0 : ByteArray) : slicesIndexFunc_Attr_implSetAttr_2 s_ c0 = ixF (fun a => implSetAttr_2 a c0) s_ := idx_eq (fun _ _ _ => rfl) s_
theorem slicesIndexFunc_Attr_implSetAttr_2_bd (s_ : (List AttrD)) (c0 : ByteArray) : -1 ≤ slicesIndexFunc_Attr_implSetAttr_2 s_ c0 ∧ slicesIndexFunc_Attr_implSetAttr_2 s_ c0 < (List.length s_ : Int) := by rw [slicesIndexFunc_Attr_implSetAttr_2_ix]; exact ixF_bd _ _
theorem slicesIndexFunc_Attr_implSetAttr_2_a (s_ : (List AttrD)) (c0 : ByteArray) : ACalls Tryz.prog 64 [.h s_, .one (.fnr 65 [[.s c0]])] (.i (slicesIndexFunc_Attr_implSetAttr_2 s_ c0)) := by
  refine en tt_ok Tryz.func64 fun w0 F0 hG => ?_
  refine sn tt_ok [0, 1, 4] [] (p0) ?_
  refine awp_seq ?_
  refine tn tt_ok [0, 1, 4, 7, 8] [] (pl 1 s_ p0) ?_
  refine mz [(4, .i 0), (7, .i (s_.length : Int)), (8, .i 0)] [] [] [] ?_
  refine wT 0 0 .sh s_ (fun hw1 hl2 => ?_)
  refine blL0 (slicesIndexFunc_Attr_implSetAttr_2_f0 c0) slicesIndexFunc_Attr_implSetAttr_2_e0 s_ () (fun k0 _ => [(8, .i ((k0 : Nat) : Int))]) [8] (fun _ => []) [0, 1, 7, 8] (weak_fit (by kernel_rfl)) (fun k0 s0 hk0 hI0 => ?_) (fun k0 s0 hk0 hI0 => ?_) (fun y0 hD0 => ?_)
  ·
    obtain ⟨a0, hx0⟩ := get_some (l := s_) (i := k0) hk0
    refine sn tt_ok [0, 1, 4, 7, 8, 9] [] (pe 0 (av_bool (decide_eq_true (p := ((k0 : Nat) : Int) < (s_.length : Int)) (by omega))) p0) ?_
    refine awp_seq ?_
    refine ckT ?_
    refine awp_skip ?_
    refine awp_seq ?_
    refine awp_block ?_
    refine tn tt_ok [0, 1, 4, 5, 7, 8] [] (p0) ?_
    refine tu tt_ok [(5, .i ((k0 : Nat) : Int)), (16, .b (implSetAttr_2 a0 c0))] [] [] [] (pn 3 hx0 (pc 5 (implSetAttr_2_a a0 c0) p0)) ?_
    refine ck (implSetAttr_2 a0 c0) (fun h3 => ?_) (fun h3 => ?_)
    ·
      refine sn tt_ok [0, 1, 4, 7, 8] [] (p0) ?_
      refine awp_ret ?_
      have hr4 : (forL (slicesIndexFunc_Attr_implSetAttr_2_f0 c0) slicesIndexFunc_Attr_implSetAttr_2_e0 s_ 0 ()) = .ret ((k0 : Nat) : Int) := forL_ret hx0 (bif_t h3 (rfl)) hI0
      exact pi [] (on_r hr4)
    ·
      refine awp_skip ?_
      refine rn tt_ok [0, 1, 4, 7, 8] [] (pe 0 (av_i (wrap_succ k0 (by omega))) p0) ?_
      exact Exists.intro _ (And.intro (weak_fit (by kernel_rfl)) (forL_next hx0 (bif_f h3 (rfl)) hI0))
  ·
    refine sn tt_ok [0, 1, 4, 7, 8, 9] [] (pe 0 (av_bool (decide_eq_false (p := ((k0 : Nat) : Int) < (s_.length : Int)) (by omega))) p0) ?_
    refine awp_seq ?_
    refine ckF ?_
    refine awp_exit ?_
    exact Exists.intro _ (And.intro (weak_fit (by kernel_rfl)) (forL_end hk0 (rfl) hI0))
  ·
    refine sn tt_ok [4] [] (p0) ?_
    refine awp_ret ?_
    exact pi [] (on_b hD0 (rfl))
def implSetAttr (f : FileD) (name : ByteArray) (v : ValueD) : FileD := (bif (v.1 == (0 : Int)) then ((implcopyFile f).1, (implcopyFile f).2.1, (implcopyFile f).2.2.1, (implcopyFile f).2.2.2.1, slicesDeleteFunc_Attr_implSetAttr_1 ((implcopyFile f).2.2.2.2) name) else (bif decide ((slicesIndexFunc_Attr_implSetAttr_2 (slicesDeleteFunc_Attr_implSetAttr_1 ((implcopyFile f).2.2.2.2) name) name) < (0 : Int)) then ((implcopyFile f).1, (implcopyFile f).2.1, (implcopyFile f).2.2.1, (implcopyFile f).2.2.2.1, insAt (slicesDeleteFunc_Attr_implSetAttr_1 ((implcopyFile f).2.2.2.2) name) (Int.toNat ((slicesDeleteFunc_Attr_implSetAttr_1 ((implcopyFile f).2.2.2.2) name).length : Int)) (name, v)) else ((implcopyFile f).1, (implcopyFile f).2.1, (implcopyFile f).2.2.1, (implcopyFile f).2.2.2.1, insAt (slicesDeleteFunc_Attr_implSetAttr_1 ((implcopyFile f).2.2.2.2) name) (Int.toNat (slicesIndexFunc_Attr_implSetAttr_2 (slicesDeleteFunc_Attr_implSetAttr_1 ((implcopyFile f).2.2.2.2) name) name)) (name, v))))
theorem insAt_len2 {α : Type} (l : List α) (j : Nat) (y : α) : (insAt l j y).length = l.length + 1 := by simp [insAt]; omega
theorem setAttr_len (f : FileD) (name : ByteArray) (v : ValueD) (hp : List.length f.2.2.2.2 ≤ 1073741000) : List.length (implSetAttr f name v).2.2.2.2 ≤ List.length f.2.2.2.2 + 1 := by
  have hdl : List.length (slicesDeleteFunc_Attr_implSetAttr_1 ((implcopyFile f).2.2.2.2) name) ≤ List.length f.2.2.2.2 := by rw [slicesDeleteFunc_Attr_implSetAttr_1_eq (implcopyFile f).2.2.2.2 name (Nat.le_trans hp (by decide))]; exact List.length_filter_le _ _
  unfold implSetAttr
  cases (v.1 == (0 : Int)) with
  | true => exact Nat.le_trans hdl (Nat.le_succ _)
  | false =>
    simp only [cond_false]
    cases decide ((slicesIndexFunc_Attr_implSetAttr_2 (slicesDeleteFunc_Attr_implSetAttr_1 ((implcopyFile f).2.2.2.2) name) name) < (0 : Int)) with
    | true => simp only [cond_true]; rw [insAt_len2]; omega
    | false => simp only [cond_false]; rw [insAt_len2]; omega
theorem implSetAttr_a (f : FileD) (name : ByteArray) (v : ValueD) (hp : List.length f.2.2.2.2 ≤ 1073741000) : ACalls Tryz.prog 30 [.a [.i f.1, .i f.2.1, .b f.2.2.1, .i f.2.2.2.1, .h f.2.2.2.2], .s name, .a [.i v.1, .i v.2.1, .s v.2.2]] (.a [.i ((implSetAttr f name v).1), .i ((implSetAttr f name v).2.1), .b ((implSetAttr f name v).2.2.1), .i ((implSetAttr f name v).2.2.2.1), .o 0 ((implSetAttr f name v).2.2.2.2)]) := by
  refine en tt_ok Tryz.func30 fun w0 F0 hG => ?_
  have hdl : List.length (slicesDeleteFunc_Attr_implSetAttr_1 ((implcopyFile f).2.2.2.2) name) ≤ 1073741000 := by rw [slicesDeleteFunc_Attr_implSetAttr_1_eq (implcopyFile f).2.2.2.2 name (Nat.le_trans hp (by decide))]; exact Nat.le_trans (List.length_filter_le _ _) hp
  have hbd := slicesIndexFunc_Attr_implSetAttr_2_bd (slicesDeleteFunc_Attr_implSetAttr_1 ((implcopyFile f).2.2.2.2) name) name
  refine sn tt_ok [3, 4, 5, 6] [3, 4, 5, 6] (p0) ?_
  refine tn tt_ok [4, 5, 6, 7] [4, 5, 6, 7] (pc 1 (implcopyFile_a f) p0) ?_
  refine wB 7 4 (.own true 640) ((implcopyFile f).2.2.2.2) (fun hw1 hl2 => ?_)
  have hq3 := slicesDeleteFunc_Attr_implSetAttr_1_le ((implcopyFile f).2.2.2.2) name hl2
  refine tu tt_ok [(4, .p 4 0), (5, .p 5 0), (6, .p 6 0), (7, .p 7 0)] [0, 1, 2] [(4, [.s name]), (5, [.i v.1, .i v.2.1, .s v.2.2]), (6, [.i 0, .i 0, .b false, .i 0, .e 4]), (7, [.i ((implcopyFile f).1), .i ((implcopyFile f).2.1), .b ((implcopyFile f).2.2.1), .i ((implcopyFile f).2.2.2.1), .o 896 (slicesDeleteFunc_Attr_implSetAttr_1 ((implcopyFile f).2.2.2.2) name)])] [] (po 3 (.take false false (eL (slicesDeleteFunc_Attr_implSetAttr_1 ((implcopyFile f).2.2.2.2) name))) (px (ob_take (atake_flat (slicesDeleteFunc_Attr_implSetAttr_1_a ((implcopyFile f).2.2.2.2) name) (flat_eL _))) (px (ob_flat (flat_eL ((implcopyFile f).2.2.2.2))) (px (ob_flat (flat_eL (slicesDeleteFunc_Attr_implSetAttr_1 ((implcopyFile f).2.2.2.2) name))) p0)))) ?_
  refine awp_seq ?_
  refine sn tt_ok [4, 5, 6, 7, 18] [4, 5, 6, 7] (p0) ?_
  refine ck (v.1 == (0 : Int)) (fun h4 => ?_) (fun h4 => ?_)
  ·
    have h4d := eq_of_beq h4
    refine tn tt_ok [4, 5, 6, 7] [4, 5, 6, 7] (p0) ?_
    refine awp_ret ?_
    exact pz [] (show implSetAttr f name v = _ from bif_t h4 (rfl)) (fun z => .a [.i z.1, .i z.2.1, .b z.2.2.1, .i z.2.2.2.1, .o 0 z.2.2.2.2])
  ·
    have h4d := ne_of_beq h4
    refine awp_skip ?_
    refine tn tt_ok [4, 5, 6, 7, 8] [4, 5, 6, 7] (pc 3 (slicesIndexFunc_Attr_implSetAttr_2_a (slicesDeleteFunc_Attr_implSetAttr_1 ((implcopyFile f).2.2.2.2) name) name) p0) ?_
    refine awp_seq ?_
    refine tu tt_ok [(8, .i (slicesIndexFunc_Attr_implSetAttr_2 (slicesDeleteFunc_Attr_implSetAttr_1 ((implcopyFile f).2.2.2.2) name) name)), (25, .b (decide ((slicesIndexFunc_Attr_implSetAttr_2 (slicesDeleteFunc_Attr_implSetAttr_1 ((implcopyFile f).2.2.2.2) name) name) < (0 : Int))))] [] [] [] (p0) ?_
    refine ck (decide ((slicesIndexFunc_Attr_implSetAttr_2 (slicesDeleteFunc_Attr_implSetAttr_1 ((implcopyFile f).2.2.2.2) name) name) < (0 : Int))) (fun h5 => ?_) (fun h5 => ?_)
    ·
      have h5d := of_decide_eq_true h5
      refine rn tt_ok [4, 5, 6, 7, 8] [4, 5, 6, 7] (pl 2 (slicesDeleteFunc_Attr_implSetAttr_1 ((implcopyFile f).2.2.2.2) name) p0) ?_
      refine wB 7 4 (.own true 896) (slicesDeleteFunc_Attr_implSetAttr_1 ((implcopyFile f).2.2.2.2) name) (fun hw6 hl7 => ?_)
      refine tn tt_ok [6, 7] [6, 7] (po 7 (.take true false (eL (insAt (slicesDeleteFunc_Attr_implSetAttr_1 ((implcopyFile f).2.2.2.2) name) (Int.toNat ((slicesDeleteFunc_Attr_implSetAttr_1 ((implcopyFile f).2.2.2.2) name).length : Int)) (name, v)))) (px (ob_take (insAttr_a (slicesDeleteFunc_Attr_implSetAttr_1 ((implcopyFile f).2.2.2.2) name) (name, v) (i := ((slicesDeleteFunc_Attr_implSetAttr_1 ((implcopyFile f).2.2.2.2) name).length : Int)) (by omega) (by omega) (by omega))) (px (ob_flat (flat_eL (slicesDeleteFunc_Attr_implSetAttr_1 ((implcopyFile f).2.2.2.2) name))) (px (ob_flat (flat_eL (insAt (slicesDeleteFunc_Attr_implSetAttr_1 ((implcopyFile f).2.2.2.2) name) (Int.toNat ((slicesDeleteFunc_Attr_implSetAttr_1 ((implcopyFile f).2.2.2.2) name).length : Int)) (name, v)))) p0)))) ?_
      refine tu tt_ok [] [4, 5, 7, 8, 25] [(6, [.i ((implcopyFile f).1), .i ((implcopyFile f).2.1), .b ((implcopyFile f).2.2.1), .i ((implcopyFile f).2.2.2.1), .o 2304 (insAt (slicesDeleteFunc_Attr_implSetAttr_1 ((implcopyFile f).2.2.2.2) name) (Int.toNat ((slicesDeleteFunc_Attr_implSetAttr_1 ((implcopyFile f).2.2.2.2) name).length : Int)) (name, v))])] [4, 5, 6, 7] (p0) ?_
      refine awp_ret ?_
      exact pz [] (show implSetAttr f name v = _ from bif_f h4 (bif_t h5 (rfl))) (fun z => .a [.i z.1, .i z.2.1, .b z.2.2.1, .i z.2.2.2.1, .o 0 z.2.2.2.2])
    ·
      have h5d := of_decide_eq_false h5
      refine awp_skip ?_
      refine wB 7 4 (.own true 896) (slicesDeleteFunc_Attr_implSetAttr_1 ((implcopyFile f).2.2.2.2) name) (fun hw8 hl9 => ?_)
      refine sn tt_ok [6, 7] [6, 7] (po 7 (.take true false (eL (insAt (slicesDeleteFunc_Attr_implSetAttr_1 ((implcopyFile f).2.2.2.2) name) (Int.toNat (slicesIndexFunc_Attr_implSetAttr_2 (slicesDeleteFunc_Attr_implSetAttr_1 ((implcopyFile f).2.2.2.2) name) name)) (name, v)))) (px (ob_take (insAttr_a (slicesDeleteFunc_Attr_implSetAttr_1 ((implcopyFile f).2.2.2.2) name) (name, v) (i := (slicesIndexFunc_Attr_implSetAttr_2 (slicesDeleteFunc_Attr_implSetAttr_1 ((implcopyFile f).2.2.2.2) name) name)) (by omega) (by omega) (by omega))) (px (ob_flat (flat_eL (slicesDeleteFunc_Attr_implSetAttr_1 ((implcopyFile f).2.2.2.2) name))) (px (ob_flat (flat_eL (insAt (slicesDeleteFunc_Attr_implSetAttr_1 ((implcopyFile f).2.2.2.2) name) (Int.toNat (slicesIndexFunc_Attr_implSetAttr_2 (slicesDeleteFunc_Attr_implSetAttr_1 ((implcopyFile f).2.2.2.2) name) name)) (name, v)))) p0)))) ?_
      refine tn tt_ok [6] [6] (p0) ?_
      refine awp_ret ?_
      exact pz [] (show implSetAttr f name v = _ from bif_f h4 (bif_f h5 (rfl))) (fun z => .a [.i z.1, .i z.2.1, .b z.2.2.1, .i z.2.2.2.1, .o 0 z.2.2.2.2])
def specSetAttr_f0 (name : ByteArray) (_ : Nat) (a0 : AttrD) (s0 : (List AttrD)) : Rd (FileD) ((List AttrD)) ((List AttrD)) := (bif (!(a0.1.toList == name.toList)) then (.next (s0 ++ [a0])) else (.next s0))
def specSetAttr_e0 (_ : Nat) (s0 : (List AttrD)) : (List AttrD) := s0
def specSetAttr_f1 (name : ByteArray) (k1 : Nat) (a1 : AttrD) (_ : Unit) : Rd (FileD) (Unit) (Int) := (bif (Op.bytesLess a1.1.toList name.toList || a1.1.toList == name.toList) then (.next ()) else (.brk ((k1 : Nat) : Int)))
def specSetAttr_e1 (k1 : Nat) (_ : Unit) : Int := ((k1 : Nat) : Int)
def specSetAttr (f : FileD) (name : ByteArray) (v : ValueD) : FileD := (Out.on (forL (specSetAttr_f0 name) specSetAttr_e0 f.2.2.2.2 0 []) (fun y0 => (bif (v.1 != (0 : Int)) then (Out.on (forL (specSetAttr_f1 name) specSetAttr_e1 y0 0 ()) (fun y1 => (f.1, f.2.1, f.2.2.1, f.2.2.2.1, List.take (Int.toNat y1) y0 ++ [(name, v)] ++ (List.drop (Int.toNat y1) y0)))) else (f.1, f.2.1, f.2.2.1, f.2.2.2.1, y0))))
theorem specSetAttr_a (f : FileD) (name : ByteArray) (v : ValueD) (hp : List.length f.2.2.2.2 ≤ 1073741000) : ACalls Tryz.prog 22 [.a [.i f.1, .i f.2.1, .b f.2.2.1, .i f.2.2.2.1, .h f.2.2.2.2], .s name, .a [.i v.1, .i v.2.1, .s v.2.2]] (.a [.i ((specSetAttr f name v).1), .i ((specSetAttr f name v).2.1), .b ((specSetAttr f name v).2.2.1), .i ((specSetAttr f name v).2.2.2.1), .o 0 ((specSetAttr f name v).2.2.2.2)]) := by
  refine en tt_ok Tryz.func22 fun w0 F0 hG => ?_
  refine sn tt_ok [1, 3, 5, 6] [3, 5, 6] (p0) ?_
  refine tn tt_ok [1, 3, 5, 6, 7] [3, 5, 6] (p0) ?_
  refine awp_seq ?_
  refine tu tt_ok [(3, .p 3 0), (5, .p 5 0), (6, .p 6 0), (7, .one (.slc (.own true 704) 4 [])), (8, .i 0)] [0, 2] [(3, [.i f.1, .i f.2.1, .b f.2.2.1, .i f.2.2.2.1, .h f.2.2.2.2]), (5, [.i v.1, .i v.2.1, .s v.2.2]), (6, [.i 0, .i 0, .b false, .i 0, .e 4])] [] (p0) ?_
  refine wB 3 4 .sh f.2.2.2.2 (fun hw1 hl2 => ?_)
  refine blL3 (specSetAttr_f0 name) specSetAttr_e0 f.2.2.2.2 [] (fun k0 s0 => [(7, .o 147204 s0), (8, .i ((k0 : Nat) : Int))]) [7, 8] (fun y0 => [(7, .o 147354 y0)]) [7, 8] (fun k0 s0 => List.length s0 ≤ k0) (fun y0 => List.length y0 ≤ List.length f.2.2.2.2) (weak_sf [(704, 147204)] (by kernel_rfl)) (by simp) (fun k0 s0 hk0 hI0 => ?_) (fun k0 s0 hk0 hI0 => ?_) (fun y0 hD0 => ?_)
  ·
    have hA0_0 := hI0.2
    obtain ⟨a0, hx0⟩ := get_some (l := f.2.2.2.2) (i := k0) hk0
    refine awp_seq ?_
    refine su tt_ok [(16, .b true)] [] [] [] (pl 3 f.2.2.2.2 (pe 4 (av_bool (decide_eq_true (p := ((k0 : Nat) : Int) < (f.2.2.2.2.length : Int)) (by omega))) p0)) ?_
    refine ckT ?_
    refine awp_skip ?_
    refine awp_seq ?_
    refine awp_block ?_
    refine sn tt_ok [1, 3, 5, 6, 7, 8, 26] [3, 5, 6] (pn 3 hx0 p0) ?_
    refine ck (!(a0.1.toList == name.toList)) (fun h3 => ?_) (fun h3 => ?_)
    ·
      have h3n : (a0.1.toList == name.toList) = false := bnot_t h3
      refine wT 7 0 (.own true 147204) s0 (fun hw4 hl5 => ?_)
      refine qu tt_ok [(7, .one (.slc (.own true 2176) 4 ((eL s0) ++ [[.s a0.1, .i a0.2.1, .i a0.2.2.1, .s a0.2.2.2]])))] [7, 16] [] [] (pn 4 hx0 (pa s0 [a0] p0)) ?_
      refine eqn [(7, .o 2176 (s0 ++ [a0]))] [7] [] [] (by rw [show ((eL s0) ++ [[.s a0.1, .i a0.2.1, .i a0.2.2.1, .s a0.2.2.2]]) = (eL (s0 ++ [a0])) from app_eL (rfl) (rfl)]; first | done | kernel_rfl) ?_
      refine rn tt_ok [1, 3, 5, 6, 7, 8] [3, 5, 6] (pe 1 (av_i (wrap_succ k0 (by omega))) p0) ?_
      exact Exists.intro (s0 ++ [a0]) (And.intro (weak_sf [(2176, 147204)] (by kernel_rfl)) ⟨forL_next hx0 (bif_t h3 (rfl)) hI0.1, by first | omega | (simp; omega) | simp⟩)
    ·
      have h3n : (a0.1.toList == name.toList) = true := bnot_f h3
      refine awp_skip ?_
      refine qn tt_ok [1, 3, 5, 6, 7, 8] [3, 5, 6] (pe 1 (av_i (wrap_succ k0 (by omega))) p0) ?_
      exact Exists.intro s0 (And.intro (weak_fit (by kernel_rfl)) ⟨forL_next hx0 (bif_f h3 (rfl)) hI0.1, by first | omega | (simp; omega) | simp⟩)
  ·
    have hA0_0 := hI0.2
    refine awp_seq ?_
    refine su tt_ok [(16, .b false)] [] [] [] (pl 3 f.2.2.2.2 (pe 4 (av_bool (decide_eq_false (p := ((k0 : Nat) : Int) < (f.2.2.2.2.length : Int)) (by omega))) p0)) ?_
    refine ckF ?_
    refine awp_exit ?_
    exact Exists.intro s0 (And.intro (weak_sf [(147204, 147354)] (by kernel_rfl)) ⟨forL_end hk0 (rfl) hI0.1, by first | omega | (simp only [List.length_set]; omega)⟩)
  ·
    have hD0_0 := hD0.2
    refine awp_seq ?_
    refine sn tt_ok [1, 3, 5, 6, 7, 37] [3, 5, 6] (p0) ?_
    refine ck (v.1 != (0 : Int)) (fun h6 => ?_) (fun h6 => ?_)
    ·
      have h6d := ne_of_bne h6
      refine tu tt_ok [(9, .i 0)] [] [] [] (p0) ?_
      refine awp_seq ?_
      refine wT 7 0 (.own true 147354) y0 (fun hw7 hl8 => ?_)
      refine blL2 (specSetAttr_f1 name) specSetAttr_e1 y0 () (fun k1 _ => [(9, .i ((k1 : Nat) : Int))]) [9] (fun y1 => [(9, .i y1)]) [9] (fun y1 => 0 ≤ y1 ∧ y1 ≤ (y0.length : Int)) (weak_fit (by kernel_rfl)) (fun k1 s1 hk1 hI1 => ?_) (fun k1 s1 hk1 hI1 => ?_) (fun y1 hD1 => ?_)
      ·
        obtain ⟨a1, hx1⟩ := get_some (l := y0) (i := k1) hk1
        refine awp_seq ?_
        refine sn tt_ok [1, 3, 5, 6, 7, 9, 50] [3, 5, 6] (pl 2 y0 (pe 3 (av_bool (decide_eq_true (p := ((k1 : Nat) : Int) < (y0.length : Int)) (by omega))) (pN 7 hx1 p0))) ?_
        refine ck (Op.bytesLess a1.1.toList name.toList || a1.1.toList == name.toList) (fun h9 => ?_) (fun h9 => ?_)
        ·
          refine awp_skip ?_
          refine awp_block ?_
          refine qn tt_ok [1, 3, 5, 6, 7, 9] [3, 5, 6] (pe 1 (av_i (wrap_succ k1 (by omega))) p0) ?_
          exact Exists.intro _ (And.intro (weak_fit (by kernel_rfl)) (forL_next hx1 (bif_t h9 (rfl)) hI1))
        ·
          have h9l : (Op.bytesLess a1.1.toList name.toList) = false := or_l h9
          have h9r : (a1.1.toList == name.toList) = false := or_r h9
          refine awp_exit ?_
          exact Exists.intro ((k1 : Nat) : Int) (And.intro (weak_fit (by kernel_rfl)) ⟨forL_brk hx1 (bif_f h9 (rfl)) hI1, by first | omega | (simp only [List.length_set]; omega)⟩)
      ·
        refine awp_seq ?_
        refine su tt_ok [(50, .b false)] [] [] [] (pl 2 y0 (pe 3 (av_bool (decide_eq_false (p := ((k1 : Nat) : Int) < (y0.length : Int)) (by omega))) p0)) ?_
        refine ckF ?_
        refine awp_exit ?_
        exact Exists.intro ((k1 : Nat) : Int) (And.intro (weak_fit (by kernel_rfl)) ⟨forL_end hk1 (rfl) hI1, by first | omega | (simp only [List.length_set]; omega)⟩)
      ·
        have hD1_0 := hD1.2
        have hl10 : List.length (List.take (Int.toNat y1) y0) ≤ 1073741824 := wide_len (wide_take (Int.toNat y1) (hw7))
        refine sU tt_ok tt_mx [(10, .one (.slc (.own true 3968) 4 (([] ++ (eL (List.take (Int.toNat y1) y0))) ++ [[.s name, .i v.1, .i v.2.1, .s v.2.2]])))] [1, 5] [] [5] (pe 3 (av_take (.vw 147354) 4 (Int.toNat y1) y1 y0 rfl) (px (ob_rng (lo := 0) (hi := y1) (n := (List.length (eL y0))) (rng_of (by omega) (by omega) (by omega))) (po 4 (.flat) (px (ob_len (n := (([] : List (List PV)).length + ((eL (List.take (Int.toNat y1) y0)) : List (List PV)).length)) (len_of (rfl) (eL_length (List.take (Int.toNat y1) y0)) (by first | omega | (simp only [List.length_cons, List.length_nil]; omega) | (simp; omega) | simp))) (px (ob_flat (flat_eL (List.take (Int.toNat y1) y0))) (px (ob_len (n := ((([] ++ (eL (List.take (Int.toNat y1) y0))) : List (List PV)).length + ([[.s name, .i v.1, .i v.2.1, .s v.2.2]] : List (List PV)).length)) (by simp [eL_length]; omega)) p0)))))) ?_
        refine eqn [(10, .o 3968 (List.take (Int.toNat y1) y0 ++ [(name, v)]))] [10] [] [] (by rw [show (([] ++ (eL (List.take (Int.toNat y1) y0))) ++ [[.s name, .i v.1, .i v.2.1, .s v.2.2]]) = (eL (List.take (Int.toNat y1) y0 ++ [(name, v)])) from app_eL (rfl) (rfl)]; first | done | kernel_rfl) ?_
        refine wT 10 0 (.own true 3968) (List.take (Int.toNat y1) y0 ++ [(name, v)]) (fun hw11 hl12 => ?_)
        have hl13 : List.length (List.drop (Int.toNat y1) y0) ≤ 1073741824 := wide_len (wide_drop (Int.toNat y1) (hw7))
        refine ru tt_ok [(7, .one (.slc (.own true 4288) 4 ((eL (List.take (Int.toNat y1) y0 ++ [(name, v)])) ++ (eL (List.drop (Int.toNat y1) y0)))))] [7, 9, 10] [] [] (pe 3 (av_drop (.vw 147354) 4 (Int.toNat y1) y1 y0 rfl) (px (ob_rng (lo := y1) (hi := (((eL y0) : List (List PV)).length : Int)) (n := (List.length (eL y0))) (rng_all (by omega) (by omega))) (po 4 (.flat) (pa (List.take (Int.toNat y1) y0 ++ [(name, v)]) (List.drop (Int.toNat y1) y0) (px (ob_flat (flat_eL (List.drop (Int.toNat y1) y0))) p0))))) ?_
        refine eqn [(7, .o 4288 (List.take (Int.toNat y1) y0 ++ [(name, v)] ++ (List.drop (Int.toNat y1) y0)))] [7] [] [] (by rw [show ((eL (List.take (Int.toNat y1) y0 ++ [(name, v)])) ++ (eL (List.drop (Int.toNat y1) y0))) = (eL (List.take (Int.toNat y1) y0 ++ [(name, v)] ++ (List.drop (Int.toNat y1) y0))) from app_eL (rfl) (rfl)]; first | done | kernel_rfl) ?_
        refine sn tt_ok [3, 6] [3, 6] (p0) ?_
        refine tn tt_ok [6] [6] (p0) ?_
        refine awp_ret ?_
        exact pz [] (show specSetAttr f name v = _ from on_b hD0.1 (bif_t h6 (on_b hD1.1 (rfl)))) (fun z => .a [.i z.1, .i z.2.1, .b z.2.2.1, .i z.2.2.2.1, .o 0 z.2.2.2.2])
    ·
      have h6d := eq_of_bne h6
      refine awp_skip ?_
      refine tn tt_ok [3, 6] [3, 6] (p0) ?_
      refine tu tt_ok [] [1, 3, 5, 7] [(6, [.i f.1, .i f.2.1, .b f.2.2.1, .i f.2.2.2.1, .o 147354 y0])] [3, 5, 6] (p0) ?_
      refine awp_ret ?_
      exact pz [] (show specSetAttr f name v = _ from on_b hD0.1 (bif_f h6 (rfl))) (fun z => .a [.i z.1, .i z.2.1, .b z.2.2.1, .i z.2.2.2.1, .o 0 z.2.2.2.2])
def implhasField_1 (f : FieldD) (q0 : ByteArray) : Bool := (f.1.toList == q0.toList)
theorem implhasField_1_a (f : FieldD) (q0 : ByteArray) : ACalls Tryz.prog 55 [.a [.s f.1, .i f.2], .one (.rptr .sh [.s q0])] (.b (implhasField_1 f q0)) := by
  refine en tt_ok Tryz.func55 fun w0 F0 hG => ?_
  refine sn tt_ok [1, 2, 3] [2] (p0) ?_
  refine tn tt_ok [3] [] (p0) ?_
  refine awp_ret ?_
  exact pb [] (show implhasField_1 f q0 = (f.1.toList == q0.toList) from rfl)
def slicesIndexFunc_Field_implhasField_1_f0 (c0 : ByteArray) (k0 : Nat) (a0 : FieldD) (_ : Unit) : Rd (Int) (Unit) (Unit) := (bif (implhasField_1 a0 c0) then (.ret ((k0 : Nat) : Int)) else (.next ()))
def slicesIndexFunc_Field_implhasField_1_e0 (_ : Nat) (_ : Unit) : Unit := ()
def slicesIndexFunc_Field_implhasField_1 (s_ : (List FieldD)) (c0 : ByteArray) : Int := (Out.on (forL (slicesIndexFunc_Field_implhasField_1_f0 c0) slicesIndexFunc_Field_implhasField_1_e0 s_ 0 ()) (fun _ => -1))
theorem slicesIndexFunc_Field_implhasField_1_ix (s_ : (List FieldD)) (c0 : ByteArray) : slicesIndexFunc_Field_implhasField_1 s_ c0 = ixF (fun a => implhasField_1 a c0) s_ := idx_eq (fun _ _ _ => rfl) s_
theorem slicesIndexFunc_Field_implhasField_1_bd (s_ : (List FieldD)) (c0 : ByteArray) : -1 ≤ slicesIndexFunc_Field_implhasField_1 s_ c0 ∧ slicesIndexFunc_Field_implhasField_1 s_ c0 < (List.length s_ : Int) := by rw [slicesIndexFunc_Field_implhasField_1_ix]; exact ixF_bd _ _
theorem slicesIndexFunc_Field_implhasField_1_a (s_ : (List FieldD)) (c0 : ByteArray) : ACalls Tryz.prog 81 [.h s_, .one (.fnr 55 [[.s c0]])] (.i (slicesIndexFunc_Field_implhasField_1 s_ c0)) := by
  refine en tt_ok Tryz.func81 fun w0 F0 hG => ?_
  refine sn tt_ok [0, 1, 4] [] (p0) ?_
  refine awp_seq ?_
  refine tn tt_ok [0, 1, 4, 7, 8] [] (pl 1 s_ p0) ?_
  refine mz [(4, .i 0), (7, .i (s_.length : Int)), (8, .i 0)] [] [] [] ?_
  refine wT 0 0 .sh s_ (fun hw1 hl2 => ?_)
  refine blL0 (slicesIndexFunc_Field_implhasField_1_f0 c0) slicesIndexFunc_Field_implhasField_1_e0 s_ () (fun k0 _ => [(8, .i ((k0 : Nat) : Int))]) [8] (fun _ => []) [0, 1, 7, 8] (weak_fit (by kernel_rfl)) (fun k0 s0 hk0 hI0 => ?_) (fun k0 s0 hk0 hI0 => ?_) (fun y0 hD0 => ?_)
  ·
    obtain ⟨a0, hx0⟩ := get_some (l := s_) (i := k0) hk0
    refine sn tt_ok [0, 1, 4, 7, 8, 9] [] (pe 0 (av_bool (decide_eq_true (p := ((k0 : Nat) : Int) < (s_.length : Int)) (by omega))) p0) ?_
    refine awp_seq ?_
    refine ckT ?_
    refine awp_skip ?_
    refine awp_seq ?_
    refine awp_block ?_
    refine tn tt_ok [0, 1, 4, 5, 7, 8] [] (p0) ?_
    refine tu tt_ok [(5, .i ((k0 : Nat) : Int)), (16, .b (implhasField_1 a0 c0))] [] [] [] (pn 3 hx0 (pc 5 (implhasField_1_a a0 c0) p0)) ?_
    refine ck (implhasField_1 a0 c0) (fun h3 => ?_) (fun h3 => ?_)
    ·
      refine sn tt_ok [0, 1, 4, 7, 8] [] (p0) ?_
      refine awp_ret ?_
      have hr4 : (forL (slicesIndexFunc_Field_implhasField_1_f0 c0) slicesIndexFunc_Field_implhasField_1_e0 s_ 0 ()) = .ret ((k0 : Nat) : Int) := forL_ret hx0 (bif_t h3 (rfl)) hI0
      exact pi [] (on_r hr4)
    ·
      refine awp_skip ?_
      refine rn tt_ok [0, 1, 4, 7, 8] [] (pe 0 (av_i (wrap_succ k0 (by omega))) p0) ?_
      exact Exists.intro _ (And.intro (weak_fit (by kernel_rfl)) (forL_next hx0 (bif_f h3 (rfl)) hI0))
  ·
    refine sn tt_ok [0, 1, 4, 7, 8, 9] [] (pe 0 (av_bool (decide_eq_false (p := ((k0 : Nat) : Int) < (s_.length : Int)) (by omega))) p0) ?_
    refine awp_seq ?_
    refine ckF ?_
    refine awp_exit ?_
    exact Exists.intro _ (And.intro (weak_fit (by kernel_rfl)) (forL_end hk0 (rfl) hI0))
  ·
    refine sn tt_ok [4] [] (p0) ?_
    refine awp_ret ?_
    exact pi [] (on_b hD0 (rfl))
def slicesContainsFunc_Field_implhasField_1 (s_ : (List FieldD)) (c0 : ByteArray) : Bool := decide ((slicesIndexFunc_Field_implhasField_1 s_ c0) ≥ (0 : Int))
theorem slicesContainsFunc_Field_implhasField_1_a (s_ : (List FieldD)) (c0 : ByteArray) : ACalls Tryz.prog 54 [.h s_, .one (.fnr 55 [[.s c0]])] (.b (slicesContainsFunc_Field_implhasField_1 s_ c0)) := by
  refine en tt_ok Tryz.func54 fun w0 F0 hG => ?_
  refine sn tt_ok [0, 1, 4] [] (p0) ?_
  refine tn tt_ok [4] [] (pc 2 (slicesIndexFunc_Field_implhasField_1_a s_ c0) p0) ?_
  refine awp_ret ?_
  exact pb [] (show slicesContainsFunc_Field_implhasField_1 s_ c0 = decide ((slicesIndexFunc_Field_implhasField_1 s_ c0) ≥ (0 : Int)) from rfl)
def implhasField (s_ : (List FieldD)) (name : ByteArray) : Bool := (slicesContainsFunc_Field_implhasField_1 s_ name)
theorem implhasField_a (s_ : (List FieldD)) (name : ByteArray) : ACalls Tryz.prog 27 [.h s_, .s name] (.b (implhasField s_ name)) := by
  refine en tt_ok Tryz.func27 fun w0 F0 hG => ?_
  refine sn tt_ok [0, 3, 4] [3] (p0) ?_
  refine tn tt_ok [4] [] (pc 2 (slicesContainsFunc_Field_implhasField_1_a s_ name) p0) ?_
  refine awp_ret ?_
  exact pb [] (show implhasField s_ name = (slicesContainsFunc_Field_implhasField_1 s_ name) from rfl)
open GoD (rd own)
open GoE (enc wide)
def szI (t : Nat) (left : Int) : Int := bif decide ((t : Int) ≤ left) then left - t else -1
theorem szI_of {t : Nat} {left r : Int} (h : szq t left r) : r = szI t left := by
  unfold szq at h
  unfold szI
  by_cases hc : (t : Int) ≤ left
  · rw [decide_eq_true hc]; simp only [cond_true]; omega
  · rw [decide_eq_false hc]; simp only [cond_false]; omega
theorem szI_bd (t : Nat) (left : Int) : szI t left < 0 ∨ (0 ≤ szI t left ∧ szI t left = left - t ∧ (t : Int) ≤ left) := by
  by_cases hc : (t : Int) ≤ left
  · have : szI t left = left - t := by unfold szI; rw [decide_eq_true hc]; rfl
    omega
  · have : szI t left = -1 := by unfold szI; rw [decide_eq_false hc]; rfl
    omega
theorem szI_in (t : Nat) {left : Int} (h0 : 0 ≤ left) (h1 : left ≤ 1048576) : InR .i64 (szI t left) := by
  rw [inR_i64]; unfold I64
  by_cases hc : (t : Int) ≤ left
  · have : szI t left = left - t := by unfold szI; rw [decide_eq_true hc]; rfl
    omega
  · have : szI t left = -1 := by unfold szI; rw [decide_eq_false hc]; rfl
    omega
section
variable {α : Type} [GoE α] {P : Program} {f : Nat}
theorem argA_rd {F : Nat → Prop} {w : World} {v : Value} {a : α} (h : AR (argJ F) w v (argA a)) : ∃ cs : List Value, v = .agg cs.toArray ∧ rd w cs a := by
  obtain ⟨vs, rfl, hr⟩ := h
  exact ⟨vs, rfl, GoE.vc_rd (sh_vc hr fun _ => GoE.no_any)⟩
theorem argA_wide {F : Nat → Prop} {w : World} {v : Value} {a : α} (h : AR (argJ F) w v (argA a)) : wide a := by
  obtain ⟨vs, rfl, hr⟩ := h
  exact GoE.vc_wide (sh_vc hr fun _ => GoE.no_any)
theorem argS_rd {F : Nat → Prop} {w : World} {v : Value} {l : List α} (h : AR (argJ F) w v (argS l)) : rd w [v] l := vv_rdS h
theorem argS_wide {F : Nat → Prop} {w : World} {v : Value} {l : List α} (h : AR (argJ F) w v (argS l)) : wide l := vv_wide h
theorem aret_pure {F : Nat → Prop} {w w' : World} {v : Value} {r : AV} (hb : Below w.heap.size w w') (hr : ∀ J, AR J w' v r) : ARet F w r (.returned v) w' :=
  ⟨v, fun _ => [], rfl, hb, fun _ => List.nodup_nil, (fun _ _ h => by simp at h), (fun _ _ _ h => by simp at h), hr _⟩
theorem acalls_szA (hok : FnOk P f) {a : α} {left : Int} (h0 : 0 ≤ left) (h1 : left ≤ 1048576) (h : ∀ w (cs : List Value), rd w cs a → Calls P f #[.agg cs.toArray, .int .i64 left] w (RetSz w (GoD.size a) left)) : ACalls P f [argA a, intA left] (intA (szI (GoD.size a) left)) := by
  refine ⟨hok, fun w _ F vals hF hall => ?_⟩
  cases hall with
  | cons h2 h3 => cases h3 with
    | cons h3 h4 =>
      cases h4
      obtain ⟨cs, rfl, hr⟩ := argA_rd h2
      obtain ⟨rfl, _⟩ := h3
      refine (h w cs hr).mono ?_
      rintro e w' ⟨r, rfl, hq, hb⟩
      exact aret_pure hb fun J => ⟨by rw [szI_of hq], szI_in _ h0 h1⟩
theorem acalls_szS (hok : FnOk P f) {l : List α} {left : Int} (h0 : 0 ≤ left) (h1 : left ≤ 1048576) (h : ∀ w (v : Value), rd w [v] l → Calls P f #[v, .int .i64 left] w (RetSz w (GoD.size l) left)) : ACalls P f [argS l, intA left] (intA (szI (GoD.size l) left)) := by
  refine ⟨hok, fun w _ F vals hF hall => ?_⟩
  cases hall with
  | cons h2 h3 => cases h3 with
    | cons h3 h4 =>
      cases h4
      obtain ⟨rfl, _⟩ := h3
      refine (h w _ (argS_rd h2)).mono ?_
      rintro e w' ⟨r, rfl, hq, hb⟩
      exact aret_pure hb fun J => ⟨by rw [szI_of hq], szI_in _ h0 h1⟩
theorem acalls_eqA (hok : FnOk P f) {a b : α} (he : a = b) (h : ∀ w (ca cb : List Value), rd w ca a → rd w cb b → Calls P f #[.agg ca.toArray, .agg cb.toArray] w (Ret w (.bool (eqb a b)))) : ACalls P f [argA a, argA b] (boolA true) := by
  refine ⟨hok, fun w _ F vals hF hall => ?_⟩
  cases hall with
  | cons h2 h3 => cases h3 with
    | cons h3 h4 =>
      cases h4
      obtain ⟨ca, rfl, ha⟩ := argA_rd h2
      obtain ⟨cb, rfl, hcb⟩ := argA_rd h3
      refine (h w ca cb ha hcb).mono ?_
      rintro e w' ⟨rfl, hb⟩
      subst he
      exact aret_pure hb fun J => by rw [eqb_refl]; rfl
theorem acalls_eqS (hok : FnOk P f) {a b : List α} (he : a = b) (h : ∀ w (u v : Value), rd w [u] a → rd w [v] b → Calls P f #[u, v] w (Ret w (.bool (eqb a b)))) : ACalls P f [argS a, argS b] (boolA true) := by
  refine ⟨hok, fun w _ F vals hF hall => ?_⟩
  cases hall with
  | cons h2 h3 => cases h3 with
    | cons h3 h4 =>
      cases h4
      refine (h w _ _ (argS_rd h2) (argS_rd h3)).mono ?_
      rintro e w' ⟨rfl, hb⟩
      subst he
      exact aret_pure hb fun J => by rw [eqb_refl]; rfl
theorem acalls_heA (hok : FnOk P f) {a : α} {K R : Int} (hR : InR .i64 R) (h : ∀ w (cs : List Value), rd w cs a → Calls P f #[.agg cs.toArray, .int .i64 K] w (Ret w (.int .i64 R))) : ACalls P f [argA a, intA K] (intA R) := by
  refine ⟨hok, fun w _ F vals hF hall => ?_⟩
  cases hall with
  | cons h2 h3 => cases h3 with
    | cons h3 h4 =>
      cases h4
      obtain ⟨cs, rfl, hr⟩ := argA_rd h2
      obtain ⟨rfl, _⟩ := h3
      refine (h w cs hr).mono ?_
      rintro e w' ⟨rfl, hb⟩
      exact aret_pure hb fun J => ⟨rfl, hR⟩
theorem acalls_heS (hok : FnOk P f) {l : List α} {K R : Int} (hR : InR .i64 R) (h : ∀ w (v : Value), rd w [v] l → Calls P f #[v, .int .i64 K] w (Ret w (.int .i64 R))) : ACalls P f [argS l, intA K] (intA R) := by
  refine ⟨hok, fun w _ F vals hF hall => ?_⟩
  cases hall with
  | cons h2 h3 => cases h3 with
    | cons h3 h4 =>
      cases h4
      obtain ⟨rfl, _⟩ := h3
      refine (h w _ (argS_rd h2)).mono ?_
      rintro e w' ⟨rfl, hb⟩
      exact aret_pure hb fun J => ⟨rfl, hR⟩
end
/-! ### copies -/
theorem oc_ow {w : World} : ∀ {ps : List PV} {vs : List Value} {L : List Nat} (k : Nat), OC w L vs ps → L.Nodup → ∃ Lf : Nat → List Nat, (∀ J : Inj, (∀ j, k ≤ j → J.L j = Lf j) → All2 (CR J w) vs (owC k ps)) ∧ (∀ j, (Lf j).Nodup) ∧ (∀ j b, b ∈ Lf j → b ∈ L) ∧ ∀ i j b, b ∈ Lf i → b ∈ Lf j → i = j
  | [], vs, L, k, h, hn => by
    cases h
    exact ⟨fun _ => [], fun _ _ => .nil, fun _ => List.nodup_nil, fun _ _ h => by simp at h, fun _ _ _ h => by simp at h⟩
  | p :: ps, vs, L, k, h, hn => by
    cases h with
    | @cons L1 L2 v p vs ps h1 h2 =>
      obtain ⟨n1, n2, n3⟩ := List.nodup_append.1 hn
      cases p with
      | int a b =>
        obtain ⟨Lf, q1, q2, q3, q4⟩ := oc_ow k h2 n2
        exact ⟨Lf, fun J hJ => .cons (by cases h1; exact ⟨rfl, ‹_›⟩) (q1 J hJ), q2, fun j b hb => List.mem_append_right _ (q3 j b hb), q4⟩
      | bool b =>
        obtain ⟨Lf, q1, q2, q3, q4⟩ := oc_ow k h2 n2
        exact ⟨Lf, fun J hJ => .cons (by cases h1; rfl) (q1 J hJ), q2, fun j b hb => List.mem_append_right _ (q3 j b hb), q4⟩
      | str s =>
        obtain ⟨Lf, q1, q2, q3, q4⟩ := oc_ow k h2 n2
        exact ⟨Lf, fun J hJ => .cons (by cases h1; exact ⟨rfl, ‹_›⟩) (q1 J hJ), q2, fun j b hb => List.mem_append_right _ (q3 j b hb), q4⟩
      | any =>
        obtain ⟨Lf, q1, q2, q3, q4⟩ := oc_ow k h2 n2
        exact ⟨Lf, fun J hJ => .cons trivial (q1 J hJ), q2, fun j b hb => List.mem_append_right _ (q3 j b hb), q4⟩
      | slc n l =>
        obtain ⟨Lf, q1, q2, q3, q4⟩ := oc_ow (k + 1) h2 n2
        refine ⟨fun j => if j = k then L1 else if k < j then Lf j else [], fun J hJ => .cons ?_ (q1 J fun j hj => ?_), fun j => ?_, fun j b hb => ?_, fun i j b hi hj => ?_⟩
        · show OwnDeep (J.L k) w v n l
          have e : J.L k = L1 := (hJ k (Nat.le_refl _)).trans (if_pos rfl)
          rw [e]
          exact .of h1 n1
        · exact (hJ j (by omega)).trans ((if_neg (by omega)).trans (if_pos (by omega)))
        · show (if j = k then L1 else if k < j then Lf j else []).Nodup
          split
          · exact n1
          · split
            · exact q2 j
            · exact List.nodup_nil
        · have hb : b ∈ (if j = k then L1 else if k < j then Lf j else []) := hb
          split at hb
          · exact List.mem_append_left _ hb
          · split at hb
            · exact List.mem_append_right _ (q3 j b hb)
            · simp at hb
        · have hi : b ∈ (if i = k then L1 else if k < i then Lf i else []) := hi
          have hj : b ∈ (if j = k then L1 else if k < j then Lf j else []) := hj
          split at hi <;> split at hj
          · omega
          · split at hj
            · exact (n3 b hi b (q3 j b hj) rfl).elim
            · simp at hj
          · split at hi
            · exact (n3 b hj b (q3 i b hi) rfl).elim
            · simp at hi
          · split at hi
            · split at hj
              · exact q4 i j b hi hj
              · simp at hj
            · simp at hi
section
variable {α : Type} [GoE α] {P : Program} {f : Nat}
theorem acalls_toA (hok : FnOk P f) {a : α} (h : ∀ w (cs : List Value), rd w cs a → Calls P f #[.agg cs.toArray] w (RetA w a)) : ACalls P f [argA a] (resA a) := by
  refine ⟨hok, fun w _ F vals hF hall => ?_⟩
  cases hall with
  | cons h2 h3 =>
    cases h3
    have hw := argA_wide h2
    obtain ⟨cs, rfl, hr⟩ := argA_rd h2
    refine (h w cs hr).mono ?_
    rintro e w' ⟨cs', L, rfl, hb, ho, hL⟩
    have hlt := GoD.own_lt ho
    obtain ⟨Lf, q1, q2, q3, q4⟩ := oc_ow 0 (GoE.own_oc ho hw) (GoD.own_nd ho)
    exact ⟨_, Lf, rfl, hb, q2, fun k b hk => ⟨hL b (q3 k b hk), hlt b (q3 k b hk)⟩, q4, cs', rfl, q1 _ fun _ _ => rfl⟩
theorem acalls_toS (hok : FnOk P f) {l : List α} (h : ∀ w (v : Value), rd w [v] l → Calls P f #[v] w (RetS w l)) : ACalls P f [argS l] (resS l) := acalls_retS hok (fun w v hr _ => h w v hr) id
end
/-! ### marks -/
def MarkA (P : Program) (f : Nat) {α : Type} [GoE α] (a : α) (K : Int) (r : α × Nat) : Prop := FnOk P f ∧ ∀ (w : World) (L : List Nat) (cs : List Value), own L w cs a → Calls P f #[.agg cs.toArray, .int .i64 K] w (MarkR L w cs r)
def MarkS (P : Program) (f : Nat) {α : Type} [GoE α] (l : List α) (K : Int) (r : List α × Nat) : Prop := FnOk P f ∧ ∀ (w : World) (L : List Nat) (v : Value), own L w [v] l → Calls P f #[v, .int .i64 K] w (MarkR L w [v] r)
def nmC : List Nat → List PV → Option (List C)
  | [], [] => some []
  | _, [] => none
  | k :: ks, .slc n l :: r => (nmC ks r).map (C.slc (.own true k) n l :: ·)
  | [], .slc _ _ :: _ => none
  | ks, .int a b :: r => (nmC ks r).map (C.int a b :: ·)
  | ks, .bool b :: r => (nmC ks r).map (C.bool b :: ·)
  | ks, .str s :: r => (nmC ks r).map (C.str s :: ·)
  | [], .any :: _ => none
  | _ :: _, .any :: _ => none
theorem nm_oc {J : Inj} {w : World} (hd : ∀ k k' b, b ∈ J.L k → b ∈ J.L k' → k = k') : ∀ {ps : List PV} {ks : List Nat} {cs : List C} {vs : List Value}, nmC ks ps = some cs → ks.Nodup → All2 (CR J w) vs cs → ∃ L, OC w L vs ps ∧ L.Nodup ∧ ∀ b, b ∈ L → ∃ k, k ∈ ks ∧ b ∈ J.L k
  | [], [], cs, vs, h, _, ha => by
    obtain rfl : [] = cs := by simpa [nmC] using h
    cases ha
    exact ⟨[], .nil, List.nodup_nil, fun _ h => by simp at h⟩
  | [], k :: ks, cs, vs, h, _, ha => by simp [nmC] at h
  | .int a b :: ps, ks, cs, vs, h, hn, ha => by
    have h : (nmC ks ps).map (C.int a b :: ·) = some cs := by cases ks <;> exact h
    obtain ⟨cs', h', rfl⟩ := Option.map_eq_some_iff.1 h
    cases ha with
    | cons h1 h2 => obtain ⟨rfl, h1⟩ := h1; obtain ⟨L, q1, q2, q3⟩ := nm_oc hd h' hn h2; exact ⟨L, OC.cons (L1 := []) (.int h1) q1, q2, q3⟩
  | .bool b :: ps, ks, cs, vs, h, hn, ha => by
    have h : (nmC ks ps).map (C.bool b :: ·) = some cs := by cases ks <;> exact h
    obtain ⟨cs', h', rfl⟩ := Option.map_eq_some_iff.1 h
    cases ha with
    | cons h1 h2 => obtain rfl := h1; obtain ⟨L, q1, q2, q3⟩ := nm_oc hd h' hn h2; exact ⟨L, OC.cons (L1 := []) (.bool _) q1, q2, q3⟩
  | .str s :: ps, ks, cs, vs, h, hn, ha => by
    have h : (nmC ks ps).map (C.str s :: ·) = some cs := by cases ks <;> exact h
    obtain ⟨cs', h', rfl⟩ := Option.map_eq_some_iff.1 h
    cases ha with
    | cons h1 h2 => obtain ⟨rfl, h1⟩ := h1; obtain ⟨L, q1, q2, q3⟩ := nm_oc hd h' hn h2; exact ⟨L, OC.cons (L1 := []) (.str h1) q1, q2, q3⟩
  | .slc n l :: ps, [], cs, vs, h, _, ha => by simp [nmC] at h
  | .any :: ps, [], cs, vs, h, _, ha => by simp [nmC] at h
  | .any :: ps, k :: ks, cs, vs, h, _, ha => by simp [nmC] at h
  | .slc n l :: ps, k :: ks, cs, vs, h, hn, ha => by
    simp only [nmC] at h
    obtain ⟨cs', h', rfl⟩ := Option.map_eq_some_iff.1 h
    obtain ⟨hk, hn⟩ := List.nodup_cons.1 hn
    cases ha with
    | cons h1 h2 =>
      obtain ⟨L, q1, q2, q3⟩ := nm_oc hd h' hn h2
      obtain ⟨L0, a1, a2, a3, _⟩ := h1
      refine ⟨L0 ++ L, OC.cons a1 q1, List.nodup_append.2 ⟨a2, q2, fun b hb b' hb' e => ?_⟩, fun b hb => ?_⟩
      · subst e
        obtain ⟨k', hk', hm⟩ := q3 b hb'
        exact hk (hd _ _ b (a3 b hb) hm ▸ hk')
      · rcases List.mem_append.1 hb with hb | hb
        · exact ⟨k, List.mem_cons_self, a3 b hb⟩
        · obtain ⟨k', hk', hm⟩ := q3 b hb
          exact ⟨k', List.mem_cons_of_mem _ hk', hm⟩
section
variable {P : Program} {N : Nat} {w0 : Base} {F0 : Nat → Prop} {J : Inj} {a : Act} {w w' : World} {s : St}
theorem Rel.mark (h : Rel N w0 F0 J a w s) (ks : List Nat) {L : List Nat} (hL : ∀ b, b ∈ L → ∃ k, k ∈ ks ∧ b ∈ J.L k) (hc : Chg L w w') (d : Nat) (hd : d < N) (n : Int) (hn : InR .i64 n) (bx : Option (Nat × List C))
    (hb : ∀ k c, bx = some (k, c) → ∃ c0, get s.bx k = some c0 ∧ ∃ arr e, w.heap[J.B k]? = some (.cells arr e (0, 0)) ∧ ∀ J' : Inj, (∀ b, J'.F b ↔ J.F b ∨ b ∈ L) → All2 (CR J' w') arr.toList c) :
    ∃ J', (∀ b, J'.F b ↔ J.F b ∨ b ∈ L) ∧ (∀ k, J'.B k = J.B k) ∧ Rel N w0 F0 J' (a.put (some d) (.int .i64 n)) w' (s.step (some d) ⟨.one (.int .i64 n), killAll ks, none, bx⟩) := by
  let J' : Inj := ⟨fun b => J.F b ∨ b ∈ L, fun k => if k ∈ ks then [] else J.L k, J.B⟩
  have hlo : ∀ b, b ∈ L → w0.lo (b) ∧ b < w.heap.size ∧ ¬ J.F b := fun b hb => by
    obtain ⟨k, _, hm⟩ := hL b hb
    exact h.lo k b hm
  have hun : ∀ b, b < w.heap.size → b ∉ L → w'.heap[b]? = w.heap[b]? := hc.block
  have hJL : ∀ k b, b ∈ J'.L k → k ∉ ks ∧ b ∈ J.L k := fun k b hm => by
    have hm : b ∈ (if k ∈ ks then [] else J.L k) := hm
    split at hm
    · simp at hm
    · rename_i hk; exact ⟨hk, hm⟩
  have hout : ∀ k b, k ∉ ks → b ∈ J.L k → b ∉ L := fun k b hk hm hl => by
    obtain ⟨k', hk', hm'⟩ := hL b hl
    exact hk (h.dj k k' b hm hm' ▸ hk')
  have hboxL : ∀ k c, get s.bx k = some c → J.B k ∉ L := fun k c hk hl => by
    obtain ⟨k', _, hm⟩ := hL _ hl
    exact (h.bo k c hk).2.2.1 k' hm
  refine ⟨J', fun b => Iff.rfl, fun _ => rfl, ?_⟩
  refine h.upd (w' := w') (J' := J') (some d) (fun d' e => by cases e; exact hd) _ _ (h.below.step hc.os hc.tape hc.output hc.size fun b hb hnl => hun b hb fun hl => hnl (hlo b hl).1) ?_ ?_ (fun _ => ⟨rfl, hn⟩) ?_ ?_
  · constructor
    · exact fun b hb => ⟨.inl hb, hun b (h.fl b hb).1 fun hl => (hlo b hl).2.2 hb⟩
    · intro k hk
      rw [get_kill] at hk
      split at hk
      · cases hk
      · rename_i hn
        exact ⟨if_neg hn, fun b hb => hun b (h.lo k b hb).2.1 (hout k b hn hb)⟩
    · intro k hk; rw [get_kill] at hk; split at hk <;> cases hk
    · intro k k' hk; rw [get_kill] at hk; split at hk <;> cases hk
    · intro k t hk; rw [get_kill] at hk; split at hk <;> cases hk
    · exact fun _ _ => rfl
    · intro k d m i o cs hk; rw [get_kill] at hk; split at hk <;> cases hk
  · constructor
    · intro b hb
      rcases hb with hb | hb
      · exact ⟨Nat.lt_of_lt_of_le (h.fl b hb).1 hc.size, (h.fl b hb).2⟩
      · exact ⟨Nat.lt_of_lt_of_le (hlo b hb).2.1 hc.size, .inr (hlo b hb).1⟩
    · exact fun b hb => .inl (h.f0 b hb)
    · intro k
      show (if _ then _ else _ : List Nat).Nodup
      split
      · exact List.nodup_nil
      · exact h.nd k
    · intro k b hm
      obtain ⟨hk, hm⟩ := hJL k b hm
      obtain ⟨h1, h2, h3⟩ := h.lo k b hm
      exact ⟨h1, Nat.lt_of_lt_of_le h2 hc.size, fun hF => hF.elim h3 (hout k b hk hm)⟩
    · intro k k' b hm hm'
      exact h.dj k k' b (hJL k b hm).2 (hJL k' b hm').2
  · intro k c hk _
    obtain ⟨h1, h2, h3, arr, e, h4, _⟩ := h.bo k c hk
    refine ⟨by simp, fun hF => hF.elim h2 (hboxL k c hk), fun k' hm => h3 k' (hJL k' _ hm).2, hun _ ?_ (hboxL k c hk)⟩
    exact block_lt_of_heap h4
  · intro k c hk
    obtain ⟨c0, hg, arr, e, hh, hall⟩ := hb k c hk
    obtain ⟨h1, h2, h3, arr', e', h4, _⟩ := h.bo k c0 hg
    have hlt : J.B k < w.heap.size := block_lt_of_heap h4
    exact ⟨h1, fun hF => hF.elim h2 (hboxL k c0 hg), fun k' hm => h3 k' (hJL k' _ hm).2, ⟨arr, e, (hun _ hlt (hboxL k c0 hg)).trans hh, hall J' fun _ => Iff.rfl⟩, fun k' c' hk' hne e => hne (h.bi k' k c' c0 hk' hg e)⟩
theorem Rel.settm (h : Rel N w0 F0 J a w s) (t : Nat) (av : AV) (hv : AR J w (a.tmps.getD t undef) av) : Rel N w0 F0 J a w ⟨ins t av s.tm, s.bx⟩ := by
  refine { h with tm := fun u v hu => ?_ }
  simp only [get_ins] at hu
  split at hu
  · rename_i e; subst e; cases hu; exact hv
  · exact h.tm u v hu
theorem loadVar_agg {ti : TI} {t : Nat} (hti : TiOk P t ti) {vs : List Value} (hag : ti.agg = true) (hl : vs.length = ti.size) {b off : Nat} (hc : ∀ (j : Nat) (u : Value), vs[j]? = some u → w.cell? ⟨b, off + j, none⟩ = some u) : (loadVar t ⟨b, off, none⟩).run P w = .ok (.agg vs.toArray) w := by
  obtain ⟨d, hd, hagg⟩ := hti.agg
  have hld := run_loadCells_list (P := P) w ⟨b, off, none⟩ vs (fun j u hj => by rw [Addr.add_lit]; exact hc j u hj)
  rw [hl] at hld
  simp [loadVar, run_isAgg_of hd, hagg, hag, sizeOf_run hti, hld]
theorem getD_put {a : Act} {t u : Nat} {v : Value} (ht : t < a.tmps.size) : (a.put (some t) v).tmps.getD u undef = if u = t then v else a.tmps.getD u undef := by
  simp only [Act.put, Array.getD_eq_getD_getElem?, Array.getElem?_setIfInBounds]
  by_cases h : u = t
  · subst h; simp [ht]
  · simp [h, Ne.symm h]
end
class GoM (α : Type) [GoE α] : Prop where
  mkw : ∀ {a : α} {k : Nat}, wide a → wide (GoD.mark a k).1
  mkT : ∀ {a : α} {k : Nat}, wide a → wide (GoD.markT a k).1
instance : GoM Int := ⟨fun _ => trivial, fun _ => trivial⟩
instance : GoM Bool := ⟨fun _ => trivial, fun _ => trivial⟩
instance : GoM ByteArray := ⟨fun _ => trivial, fun _ => trivial⟩
instance {α β : Type} [GoE α] [GoE β] [GoM α] [GoM β] : GoM (α × β) := ⟨fun h => ⟨GoM.mkw h.1, GoM.mkw h.2⟩, fun h => ⟨GoM.mkT h.1, GoM.mkT h.2⟩⟩
theorem markS_wide {α : Type} [GoE α] [GoM α] : ∀ {l : List α} {k : Nat}, (∀ a, a ∈ l → wide a) → ∀ a, a ∈ (markS l k).1 → wide a
  | [], k, _, a, ha => by simp [markS] at ha
  | x :: l, k, h, a, ha => by
    simp only [markS, List.mem_cons] at ha
    rcases ha with rfl | ha
    · exact GoM.mkw (h x List.mem_cons_self)
    · exact markS_wide (fun a ha => h a (List.mem_cons_of_mem _ ha)) a ha
instance {α : Type} [GoE α] [GoM α] : GoM (List α) := ⟨fun {l k} h => ⟨by rw [show (GoD.mark l k).1 = (markS l k).1 from rfl, markS_length']; exact h.1, markS_wide h.2⟩, fun {l k} h => ⟨by rw [show (GoD.markT l k).1 = (markS l k).1 from rfl, markS_length']; exact h.1, markS_wide h.2⟩⟩
section
variable {P : Program} {N : Nat} {w0 : Base} {F0 : Nat → Prop} {s s' : St} {Q : Exit → St → Prop}
theorem wpOps_one {ops : Array Oper} {Q : Exit → Act → World → Prop} {i : Nat} {rest : List Nat} {o : Oper} {a : Act} {w : World} (hi : ops[i]? = some o) (hg : o.guard = none) (h : o.wp P a w (wpOps P ops Q rest) Q) : wpOps P ops Q (i :: rest) a w := by
  rw [wpOps_cons]
  unfold wpOp
  simp only [hi]
  rw [if_pos (by simp [Region.wanted, hg])]
  exact .inl h
theorem sizePut {a : Act} {t : Nat} {v : Value} : (a.put (some t) v).tmps.size = a.tmps.size := by simp [Act.put]
def distinct4 (N x y d z p kv : Nat) : Bool := Nat.blt x N && Nat.blt y N && Nat.blt d N && Nat.blt z N && !Nat.beq kv x && !Nat.beq x y && !Nat.beq p x
theorem ne_of_nbeq {a b : Nat} (h : (!Nat.beq a b) = true) : a ≠ b := fun e => by subst e; simp at h
theorem awp_markA {tt : List (Nat × TI)} (htt : ttOk P tt = true) {α : Type} [GoE α] [GoM α] {a : α} {K : Int} {r : α × Nat} {f : Nat} (hm : MarkA P f a K r) (hr : InR .i64 (r.2 : Int)) (hrw : wide a → wide r.1) (ks : List Nat) {id x y d z p q kv t : Nat} {o0 o1 o2 o3 : Oper} {tys : Array TypeId} {ti : TI} {cs : List C} (ts bs : List Nat)
    (p0 : o0.op = .load t (.tmp p)) (d0 : o0.dst = some x) (g0 : o0.guard = none) (p1 : o1.op = .move (.tmp kv)) (d1 : o1.dst = some y) (g1 : o1.guard = none)
    (p2 : o2.op = .call ⟨.value (.func f), #[.tmp x, .tmp y], tys⟩) (d2 : o2.dst = some d) (g2 : o2.guard = none) (p3 : o3.op = .assign (.tmp d)) (d3 : o3.dst = some z) (g3 : o3.guard = none) (hN : distinct4 N x y d z p kv = true)
    (ht : get tt t = some ti) (hag : ti.agg = true) (hsz : Nat.beq ti.size (enc a).length = true) (hp : get s.tm p = some (.one (.ptr q 0))) (hb : get s.bx q = some cs) (hcs : nmC ks (enc a) = some cs) (hks : nodupN ks = true) (hk : get s.tm kv = some (.one (.int .i64 K)))
    (hs : ((((s.step (some x) ⟨.one .dead, [], none, none⟩).step (some y) ⟨.one .dead, [], none, none⟩).step (some d) ⟨.one (.int .i64 (r.2 : Int)), killAll ks, none, some (q, (enc r.1).map shC)⟩).step (some z) ⟨.one (.int .i64 (r.2 : Int)), [], none, none⟩).keep ts bs = s')
    (hQ : Q .normal s') : AWP P N w0 F0 (.region id #[o0, o1, o2, o3] false) Q s := fun J ac w hr0 => by
  simp only [distinct4, Bool.and_eq_true, Nat.blt_eq] at hN
  obtain ⟨⟨⟨⟨⟨⟨n1, n2⟩, n3⟩, n4⟩, n5⟩, n6⟩, n7⟩ := hN
  have n5 := ne_of_nbeq n5
  have n6 := ne_of_nbeq n6
  obtain ⟨_, _, _, arr, e, hheap, hall⟩ := hr0.bo q cs hb
  have hpv : ac.tmps.getD p undef = .pointer (some ⟨J.B q, 0, none⟩) := hr0.tm p _ hp
  obtain ⟨hkv, hKr⟩ : ac.tmps.getD kv undef = .int .i64 K ∧ InR .i64 K := hr0.tm kv _ hk
  obtain ⟨L, hoc, hnd, hsub⟩ := nm_oc hr0.dj hcs (nodupN_iff.1 hks) hall
  have hown : own L w arr.toList a := GoE.oc_own hoc hnd
  have hwa : wide a := GoE.vc_wide (hoc.vc (X := fun b => b ∈ L) fun _ h => h)
  have hlen : arr.toList.length = ti.size := by rw [hoc.length]; exact (Nat.eq_of_beq_eq_true hsz).symm
  have hld : (loadVar t ⟨J.B q, 0, none⟩).run P w = .ok (.agg arr) w := by
    have := loadVar_agg (P := P) (w := w) (ttOk_get htt ht) hag hlen (b := J.B q) (off := 0) (fun j u hj => by
      rw [Array.getElem?_toList] at hj
      simp [World.cell?, hheap, hj])
    simpa using this
  have hsx : x < ac.tmps.size := by rw [hr0.size]; exact n1
  have hsy : y < (ac.put (some x) (.agg arr)).tmps.size := by rw [sizePut, hr0.size]; exact n2
  have R1 := hr0.pure (some x) (fun d' e => by cases e; exact n1) (.one .dead) (.agg arr) (fun _ => trivial)
  have R2 := R1.pure (some y) (fun d' e => by cases e; exact n2) (.one .dead) (.int .i64 K) (fun _ => trivial)
  refine wp_region ?_
  show wpOps P _ _ [0, 1, 2, 3] ac w
  refine wpOps_one (o := o0) rfl g0 (wp_of_run (v := .agg arr) (w' := w) ?_ ?_)
  · have e1 : ac.eval (.tmp p) = .pointer (some ⟨J.B q, 0, none⟩) := hpv
    simp [execOp, p0, e1, Instr.loadAt, Instr.sureAddr, hld]
  rw [d0]
  refine wpOps_one (o := o1) rfl g1 (wp_of_run (v := .int .i64 K) (w' := w) ?_ ?_)
  · have e1 : (ac.put (some x) (.agg arr)).eval (.tmp kv) = .int .i64 K := (getD_put hsx).trans ((if_neg n5).trans hkv)
    simp [execOp, p1, e1]
  rw [d1]
  refine wpOps_one (o := o2) rfl g2 (wp_callV (caps := #[]) p2 rfl hm.1 ?_)
  have ex : ((ac.put (some x) (.agg arr)).put (some y) (.int .i64 K)).eval (.tmp x) = .agg arr := (getD_put hsy).trans ((if_neg n6).trans ((getD_put hsx).trans (if_pos rfl)))
  have ey : ((ac.put (some x) (.agg arr)).put (some y) (.int .i64 K)).eval (.tmp y) = .int .i64 K := (getD_put hsy).trans (if_pos rfl)
  have hargs : (#[Operand.tmp x, Operand.tmp y].map ((ac.put (some x) (.agg arr)).put (some y) (.int .i64 K)).eval ++ #[]) = #[.agg arr.toList.toArray, .int .i64 K] := by simp [ex, ey]
  rw [hargs]
  refine (hm.2 w L arr.toList hown).mono ?_
  rintro en w' ⟨rfl, ho, hc⟩
  have hwr := hrw hwa
  obtain ⟨J', hF, hB, R3⟩ := R2.mark ks hsub hc d n3 (r.2 : Int) hr (some (q, (enc r.1).map shC)) (fun k c hk => by
    cases hk
    refine ⟨cs, hb, arr, e, hheap, fun J' hF => ?_⟩
    exact sh_all ((GoE.own_oc ho hwr).vc fun b hb => (hF b).2 (.inr hb)))
  have R4 := R3.pure (some z) (fun d' e => by cases e; exact n4) (.one (.int .i64 (r.2 : Int))) (.int .i64 (r.2 : Int)) (fun _ => ⟨rfl, hr⟩)
  rw [d2]
  refine wpOps_one (o := o3) rfl g3 (wp_of_run (v := .int .i64 (r.2 : Int)) (w' := w') ?_ ?_)
  · have hsd : d < ((ac.put (some x) (.agg arr)).put (some y) (.int .i64 K)).tmps.size := by rw [sizePut, sizePut, hr0.size]; exact n3
    have e1 : (((ac.put (some x) (.agg arr)).put (some y) (.int .i64 K)).put (some d) (.int .i64 (r.2 : Int))).eval (.tmp d) = .int .i64 (r.2 : Int) := (getD_put hsd).trans (if_pos rfl)
    simp [execOp, p3, e1]
  rw [d3]
  subst hs
  exact ⟨J', _, R4.less (fun t v hv => get_keep hv) (fun k c hc => get_keep hc), hQ⟩
theorem awp_markS {α : Type} [GoE α] [GoM α] {l : List α} {K : Int} {r : List α × Nat} {f : Nat} (hm : MarkS P f l K r) (hr : InR .i64 (r.2 : Int)) (hrw : wide l → wide r.1) (k0 : Nat) {id x y d z p kv : Nat} {o0 o1 o2 o3 : Oper} {tys : Array TypeId} (ts bs : List Nat)
    (p0 : o0.op = .move (.tmp p)) (d0 : o0.dst = some x) (g0 : o0.guard = none) (p1 : o1.op = .move (.tmp kv)) (d1 : o1.dst = some y) (g1 : o1.guard = none)
    (p2 : o2.op = .call ⟨.value (.func f), #[.tmp x, .tmp y], tys⟩) (d2 : o2.dst = some d) (g2 : o2.guard = none) (p3 : o3.op = .assign (.tmp d)) (d3 : o3.dst = some z) (g3 : o3.guard = none) (hN : distinct4 N x y d z p kv = true) (hN2 : (!Nat.beq p y && !Nat.beq p d && !Nat.beq p z) = true)
    (hp : get s.tm p = some (.one (.slc (.own true k0) (GoD.n α) (eL l)))) (hk : get s.tm kv = some (.one (.int .i64 K)))
    (hs : (St.mk (ins p (.one (.slc .sh (GoD.n α) (eL r.1))) ((((s.step (some x) ⟨.one .dead, [], none, none⟩).step (some y) ⟨.one .dead, [], none, none⟩).step (some d) ⟨.one (.int .i64 (r.2 : Int)), killAll [k0], none, none⟩).step (some z) ⟨.one (.int .i64 (r.2 : Int)), [], none, none⟩).tm) ((((s.step (some x) ⟨.one .dead, [], none, none⟩).step (some y) ⟨.one .dead, [], none, none⟩).step (some d) ⟨.one (.int .i64 (r.2 : Int)), killAll [k0], none, none⟩).step (some z) ⟨.one (.int .i64 (r.2 : Int)), [], none, none⟩).bx).keep ts bs = s')
    (hQ : Q .normal s') : AWP P N w0 F0 (.region id #[o0, o1, o2, o3] false) Q s := fun J ac w hr0 => by
  simp only [distinct4, Bool.and_eq_true, Nat.blt_eq] at hN hN2
  obtain ⟨⟨⟨⟨⟨⟨n1, n2⟩, n3⟩, n4⟩, n5⟩, n6⟩, n7⟩ := hN
  have n5 := ne_of_nbeq n5
  have n6 := ne_of_nbeq n6
  have n7 := ne_of_nbeq n7
  have m1 := ne_of_nbeq hN2.1.1
  have m2 := ne_of_nbeq hN2.1.2
  have m3 := ne_of_nbeq hN2.2
  have hpv : CR J w (ac.tmps.getD p undef) (.slc (.own true k0) (GoD.n α) (eL l)) := hr0.tm p _ hp
  generalize hv : ac.tmps.getD p undef = v at hpv
  obtain ⟨hkv, hKr⟩ : ac.tmps.getD kv undef = .int .i64 K ∧ InR .i64 K := hr0.tm kv _ hk
  obtain ⟨L, hov, hnd, hsub, _⟩ := hpv
  have hown : own L w [v] l := ov_ownS hov hnd
  have hwl : wide l := vv_wide (hov.vv (X := fun b => b ∈ L) fun _ h => h)
  have hsx : x < ac.tmps.size := by rw [hr0.size]; exact n1
  have hsy : y < (ac.put (some x) v).tmps.size := by rw [sizePut, hr0.size]; exact n2
  have R1 := hr0.pure (some x) (fun d' e => by cases e; exact n1) (.one .dead) v (fun _ => trivial)
  have R2 := R1.pure (some y) (fun d' e => by cases e; exact n2) (.one .dead) (.int .i64 K) (fun _ => trivial)
  refine wp_region ?_
  show wpOps P _ _ [0, 1, 2, 3] ac w
  refine wpOps_one (o := o0) rfl g0 (wp_of_run (v := v) (w' := w) ?_ ?_)
  · have e1 : ac.eval (.tmp p) = v := hv
    simp [execOp, p0, e1]
  rw [d0]
  refine wpOps_one (o := o1) rfl g1 (wp_of_run (v := .int .i64 K) (w' := w) ?_ ?_)
  · have e1 : (ac.put (some x) v).eval (.tmp kv) = .int .i64 K := (getD_put hsx).trans ((if_neg n5).trans hkv)
    simp [execOp, p1, e1]
  rw [d1]
  refine wpOps_one (o := o2) rfl g2 (wp_callV (caps := #[]) p2 rfl hm.1 ?_)
  have ex : ((ac.put (some x) v).put (some y) (.int .i64 K)).eval (.tmp x) = v := (getD_put hsy).trans ((if_neg n6).trans ((getD_put hsx).trans (if_pos rfl)))
  have ey : ((ac.put (some x) v).put (some y) (.int .i64 K)).eval (.tmp y) = .int .i64 K := (getD_put hsy).trans (if_pos rfl)
  have hargs : (#[Operand.tmp x, Operand.tmp y].map ((ac.put (some x) v).put (some y) (.int .i64 K)).eval ++ #[]) = #[v, .int .i64 K] := by simp [ex, ey]
  rw [hargs]
  refine (hm.2 w L v hown).mono ?_
  rintro en w' ⟨rfl, ho, hc⟩
  have hwr := hrw hwl
  obtain ⟨J', hF, hB, R3⟩ := R2.mark [k0] (fun b hb => ⟨k0, by simp, hsub b hb⟩) hc d n3 (r.2 : Int) hr none (fun k c hk => by cases hk)
  have R4 := R3.pure (some z) (fun d' e => by cases e; exact n4) (.one (.int .i64 (r.2 : Int))) (.int .i64 (r.2 : Int)) (fun _ => ⟨rfl, hr⟩)
  have hsd : d < ((ac.put (some x) v).put (some y) (.int .i64 K)).tmps.size := by rw [sizePut, sizePut, hr0.size]; exact n3
  rw [d2]
  refine wpOps_one (o := o3) rfl g3 (wp_of_run (v := .int .i64 (r.2 : Int)) (w' := w') ?_ ?_)
  · have e1 : (((ac.put (some x) v).put (some y) (.int .i64 K)).put (some d) (.int .i64 (r.2 : Int))).eval (.tmp d) = .int .i64 (r.2 : Int) := (getD_put hsd).trans (if_pos rfl)
    simp [execOp, p3, e1]
  rw [d3]
  have hsz' : z < (((ac.put (some x) v).put (some y) (.int .i64 K)).put (some d) (.int .i64 (r.2 : Int))).tmps.size := by rw [sizePut, sizePut, sizePut, hr0.size]; exact n4
  have ep : ((((ac.put (some x) v).put (some y) (.int .i64 K)).put (some d) (.int .i64 (r.2 : Int))).put (some z) (.int .i64 (r.2 : Int))).tmps.getD p undef = v := by
    rw [getD_put hsz', if_neg m3, getD_put hsd, if_neg m2, getD_put hsy, if_neg m1, getD_put hsx, if_neg n7, hv]
  have hvv : VV J'.F w' v (.slc (GoD.n α) (eL r.1)) := by
    have := (GoE.own_oc ho hwr).vc (X := J'.F) fun b hb => (hF b).2 (.inr hb)
    exact VC.one this
  have R5 := R4.settm p (.one (.slc .sh (GoD.n α) (eL r.1))) (by rw [ep]; exact hvv)
  subst hs
  exact ⟨J', _, R5.less (fun t v hv => get_keep hv) (fun k c hc => get_keep hc), hQ⟩
end
end Go.Proofs.YtdakhddpcfimaaaGreatDoor
namespace Go.Proofs.YtdakhddpcfimaaaGreatDoor
open Go.RowKit
theorem cf_room {l m : List FileD} {k : Nat} (h : ∀ f, f ∈ l → List.length f.2.2.2.2 ≤ 5) (he : ∀ j, k ≤ j → m[j]? = l[j]?) (hk : k < l.length) : List.length (nth m k).2.2.2.2 ≤ 1073741000 := by
  have h3 := nth_get hk
  have h2 : nth m k = nth l k := nth_of ((he k (Nat.le_refl _)).trans h3)
  rw [h2]
  exact Nat.le_trans (h _ (List.mem_of_getElem? h3)) (by decide)
theorem cf_attrs {s : StoreD} (h : implIsValidStore s = true) : ∀ f, f ∈ (implcopyStore s).2.1 → List.length f.2.2.2.2 ≤ 5 := fun f hf => vstore_attrs h (by rw [copyStore_id] at hf; exact hf)
theorem cf_attrsS {s : StoreD} (h : specIsValidStore (specl05Copy s) = true) : ∀ f, f ∈ (specl05Copy s).2.1 → List.length f.2.2.2.2 ≤ 5 := fun f hf => vstore_attrs ((store_eq _).symm.trans h) hf
theorem sa_at (n : ByteArray) : ∀ (l : List AttrD) (k : Nat), forL (specSetAttr_f1 n) specSetAttr_e1 l k () = .brk (bif (ixF (fun a => implSetAttr_2 a n) l == -1) then ((k + l.length : Nat) : Int) else (k : Int) + ixF (fun a => implSetAttr_2 a n) l)
  | [], k => rfl
  | a :: l, k => by
    have hb := ixF_bd (fun a => implSetAttr_2 a n) l
    have e : specSetAttr_f1 n k a () = bif implSetAttr_2 a n then .brk ((k : Nat) : Int) else .next () := by
      unfold specSetAttr_f1 implSetAttr_2
      generalize (Op.bytesLess a.1.toList n.toList || a.1.toList == n.toList) = c
      cases c <;> rfl
    simp only [forL, e, ixF]
    cases implSetAttr_2 a n with
    | true => simp only [cond_true]; rw [show ((0 : Int) == -1) = false from rfl, cond_false, Int.add_zero]
    | false =>
      simp only [cond_false]
      rw [sa_at n l (k + 1)]
      cases h : (ixF (fun a => implSetAttr_2 a n) l == -1) with
      | true => simp only [cond_true, List.length_cons]; rw [show ((-1 : Int) == -1) = true from rfl, cond_true]; congr 1; omega
      | false =>
        have hne : ixF (fun a => implSetAttr_2 a n) l ≠ -1 := by simpa using h
        simp only [cond_false]
        rw [show (ixF (fun a => implSetAttr_2 a n) l + 1 == -1) = false by simp; omega, cond_false]
        congr 1; omega
theorem copyFile_id (f : FileD) : implcopyFile f = f := rfl
theorem setAttr_form (f : FileD) (n : ByteArray) (v : ValueD) (hp : List.length f.2.2.2.2 ≤ 1073741000) : implSetAttr f n v = (f.1, f.2.1, f.2.2.1, f.2.2.2.1, bif (v.1 == (0 : Int)) then f.2.2.2.2.filter (fun a => !(a.1.toList == n.toList)) else insAt (f.2.2.2.2.filter (fun a => !(a.1.toList == n.toList))) (bif (ixF (fun a => implSetAttr_2 a n) (f.2.2.2.2.filter (fun a => !(a.1.toList == n.toList))) == -1) then (f.2.2.2.2.filter (fun a => !(a.1.toList == n.toList))).length else Int.toNat (ixF (fun a => implSetAttr_2 a n) (f.2.2.2.2.filter (fun a => !(a.1.toList == n.toList))))) (n, v)) := by
  unfold implSetAttr
  rw [copyFile_id, slicesDeleteFunc_Attr_implSetAttr_1_eq _ _ (Nat.le_trans hp (by decide)), slicesIndexFunc_Attr_implSetAttr_2_ix]
  show (bif (v.1 == (0 : Int)) then _ else _) = _
  unfold implSetAttr_1
  generalize f.2.2.2.2.filter (fun a => !(a.1.toList == n.toList)) = l
  have hb := ixF_bd (fun a => implSetAttr_2 a n) l
  cases (v.1 == (0 : Int)) with
  | true => rfl
  | false =>
    simp only [cond_false]
    cases h : (ixF (fun a => implSetAttr_2 a n) l == -1) with
    | true =>
      have h1 : ixF (fun a => implSetAttr_2 a n) l = -1 := by simpa using h
      rw [h1, show decide ((-1 : Int) < 0) = true from rfl]
      rfl
    | false =>
      have hne : ixF (fun a => implSetAttr_2 a n) l ≠ -1 := by simpa using h
      rw [decide_eq_false (show ¬ ixF (fun a => implSetAttr_2 a n) l < 0 by omega)]
      rfl
theorem setAttr_eq (f : FileD) (n : ByteArray) (v : ValueD) (hp : List.length f.2.2.2.2 ≤ 1073741000) : specSetAttr f n v = implSetAttr f n v := by
  rw [setAttr_form f n v hp]
  unfold specSetAttr
  rw [forL_filter (f := specSetAttr_f0 n) (e := specSetAttr_e0) (p := fun a => !(a.1.toList == n.toList)) (g := id) (fun _ _ _ => rfl)]
  simp only [Out.on, specSetAttr_e0, List.nil_append, List.map_id]
  generalize f.2.2.2.2.filter (fun a => !(a.1.toList == n.toList)) = l
  rw [sa_at]
  have hb := ixF_bd (fun a => implSetAttr_2 a n) l
  show (bif (!(v.1 == (0 : Int))) then _ else _) = _
  cases (v.1 == (0 : Int)) with
  | true => rfl
  | false =>
    simp only [Bool.not_false, cond_true, cond_false]
    cases h : (ixF (fun a => implSetAttr_2 a n) l == -1) with
    | true => simp only [cond_true]; rw [show ((0 + l.length : Nat) : Int).toNat = l.length by omega]; rfl
    | false => simp only [cond_false]; rw [show ((0 : Nat) : Int) + ixF (fun a => implSetAttr_2 a n) l = ixF (fun a => implSetAttr_2 a n) l by omega]; rfl
open GoD (rd own)
def inR (n lo hi : Int) : Bool := decide (lo ≤ n) && decide (n ≤ hi)
theorem inR_true {n lo hi : Int} (h1 : lo ≤ n) (h2 : n ≤ hi) : inR n lo hi = true := by simp [inR, h1, h2]
theorem inR_lo {n lo hi : Int} (h : ¬ lo ≤ n) : inR n lo hi = false := by simp [inR, h]
theorem inR_hi {n lo hi : Int} (h : ¬ n ≤ hi) : inR n lo hi = false := by simp [inR, h]
theorem within_c (w : World) (n lo hi : Int) : Calls Tryz.prog 53 #[.int .i64 n, .int .i64 lo, .int .i64 hi] w (Ret w (.bool (inR n lo hi))) := by
  by_cases h1 : lo ≤ n
  · by_cases h2 : n ≤ hi
    · rw [inR_true h1 h2]
      go_enter Tryz.func53, Tryz.ntmps53
      go_wp2
      go_ret
      exact ⟨rfl, Below.refl _ _⟩
    · rw [inR_hi h2]
      go_enter Tryz.func53, Tryz.ntmps53
      go_wp2
      go_ret
      exact ⟨rfl, Below.refl _ _⟩
  · rw [inR_lo h1]
    go_enter Tryz.func53, Tryz.ntmps53
    go_wp2
    go_ret
    exact ⟨rfl, Below.refl _ _⟩
theorem l01In_c (w : World) (n lo hi : Int) : Calls Tryz.prog 19 #[.int .i64 n, .int .i64 lo, .int .i64 hi] w (Ret w (.bool (inR n lo hi))) := by
  by_cases h1 : lo ≤ n
  · by_cases h2 : n ≤ hi
    · rw [inR_true h1 h2]
      go_enter Tryz.func19, Tryz.ntmps19
      go_wp2
      go_ret
      exact ⟨rfl, Below.refl _ _⟩
    · rw [inR_hi h2]
      go_enter Tryz.func19, Tryz.ntmps19
      go_wp2
      go_ret
      exact ⟨rfl, Below.refl _ _⟩
  · rw [inR_lo h1]
    go_enter Tryz.func19, Tryz.ntmps19
    go_wp2
    go_ret
    exact ⟨rfl, Below.refl _ _⟩
def okAction (a : ActionD) : Bool := inR a.1 1 8 && decide ((a.2.2.1.length : Int) ≤ 6)
theorem within_b (w : World) (n lo hi : Int) (r : Bool) (h : inR n lo hi = r) : Calls Tryz.prog 53 #[.int .i64 n, .int .i64 lo, .int .i64 hi] w (Ret w (.bool r)) := h ▸ within_c w n lo hi
theorem l01In_b (w : World) (n lo hi : Int) (r : Bool) (h : inR n lo hi = r) : Calls Tryz.prog 19 #[.int .i64 n, .int .i64 lo, .int .i64 hi] w (Ret w (.bool r)) := h ▸ l01In_c w n lo hi
end Go.Proofs.YtdakhddpcfimaaaGreatDoor
namespace Go.Proofs.YtdakhddpcfimaaaGreatDoor
open Go.Shelf
def Sh.lays244_ren : Go.Shelf.Ren := ⟨fun | 244 => 101 | 247 => 106 | 287 => 115 | 321 => 123 | 322 => 124 | n => n, fun | 9 => 9 | 3 => 3 | 75 => 112 | 4 => 4 | 5 => 5 | 167 => 122 | 37 => 97 | 0 => 0 | 85 => 123 | 2 => 2 | 53 => 129 | 175 => 134 | 46 => 136 | 21 => 21 | 80 => 157 | n => n, fun | n => n⟩
theorem Sh.lays244 : Go.Proofs.Lays.n244 Tryz.prog Sh.lays244_ren := {
  mixed := by kernel_rfl
  f244 := Tryz.func101.trans (congrArg some (by kernel_rfl))
  f247 := Tryz.func106.trans (congrArg some (by kernel_rfl))
  f287 := Tryz.func115.trans (congrArg some (by kernel_rfl))
  f321 := Tryz.func123.trans (congrArg some (by kernel_rfl))
  f322 := Tryz.func124.trans (congrArg some (by kernel_rfl))
  t0 := Tryz.underlying0
  a0 := Tryz.isAgg0
  z0 := Tryz.sizeOf0
  v0 := Tryz.zeroValue0
  t2 := Tryz.underlying2
  a2 := Tryz.isAgg2
  z2 := Tryz.sizeOf2
  v2 := Tryz.zeroValue2
  t3 := Tryz.underlying3
  a3 := Tryz.isAgg3
  z3 := Tryz.sizeOf3
  v3 := Tryz.zeroValue3
  t4 := Tryz.underlying4
  a4 := Tryz.isAgg4
  z4 := Tryz.sizeOf4
  v4 := Tryz.zeroValue4
  t5 := Tryz.underlying5
  a5 := Tryz.isAgg5
  z5 := Tryz.sizeOf5
  v5 := Tryz.zeroValue5
  t9 := Tryz.underlying9
  a9 := Tryz.isAgg9
  z9 := Tryz.sizeOf9
  v9 := Tryz.zeroValue9
  t21 := Tryz.underlying21
  a21 := Tryz.isAgg21
  z21 := Tryz.sizeOf21
  v21 := Tryz.zeroValue21
  t37 := Tryz.underlying97
  a37 := Tryz.isAgg97
  z37 := Tryz.sizeOf97
  v37 := Tryz.zeroValue97
  t46 := Tryz.underlying136
  a46 := Tryz.isAgg136
  z46 := Tryz.sizeOf136
  v46 := Tryz.zeroValue136
  t53 := Tryz.underlying129
  a53 := Tryz.isAgg129
  z53 := Tryz.sizeOf129
  v53 := Tryz.zeroValue129
  t75 := Tryz.underlying112
  a75 := Tryz.isAgg112
  z75 := Tryz.sizeOf112
  v75 := Tryz.zeroValue112
  t85 := Tryz.underlying123
  a85 := Tryz.isAgg123
  z85 := Tryz.sizeOf123
  v85 := Tryz.zeroValue123
  t167 := Tryz.underlying122
  a167 := Tryz.isAgg122
  z167 := Tryz.sizeOf122
  v167 := Tryz.zeroValue122
  t175 := Tryz.underlying134
  a175 := Tryz.isAgg134
  z175 := Tryz.sizeOf134
  v175 := Tryz.zeroValue134 }
open Go.RowKit in
theorem Sh.internal_strconv_Atoi (s : ByteArray) (n : Int) (hl : s.size ≤ 18) (h : Lib.atoi s.data.toList = some n) (w : World) :
    Calls Tryz.prog 101 #[.string s] w fun e w' => e = .returned (.tuple #[.int .i64 n, .nilIface]) ∧ ∃ t, w' = Lib.bytesWorld w 5 t := Any.internal_strconv_Atoi Sh.lays244 s n hl h w
def Sh.lays172_ren : Go.Shelf.Ren := ⟨fun | 172 => 95 | 244 => 101 | 245 => 102 | 247 => 106 | 279 => 107 | 280 => 108 | 281 => 109 | 282 => 110 | 287 => 115 | 316 => 116 | 171 => 94 | 205 => 117 | 321 => 123 | 322 => 124 | 243 => 100 | 246 => 105 | 283 => 111 | 284 => 112 | 285 => 113 | 286 => 114 | 129 => 119 | 317 => 118 | 318 => 120 | 319 => 121 | 320 => 122 | 337 => 125 | 338 => 126 | n => n, fun | 9 => 9 | 3 => 3 | 75 => 112 | 76 => 113 | 4 => 4 | 5 => 5 | 167 => 122 | 37 => 97 | 0 => 0 | 85 => 123 | 2 => 2 | 168 => 125 | 53 => 129 | 175 => 134 | 46 => 136 | 210 => 139 | 127 => 148 | 145 => 151 | 143 => 149 | 21 => 21 | 171 => 128 | 173 => 132 | 212 => 143 | 51 => 144 | 20 => 20 | 213 => 145 | 232 => 153 | 233 => 154 | 80 => 157 | n => n, fun | 15 => 0 | 16 => 1 | 17 => 2 | 18 => 3 | 19 => 4 | n => n⟩
theorem Sh.lays172 : Go.Proofs.Lays.n172 Tryz.prog Sh.lays172_ren := {
  mixed := by kernel_rfl
  f129 := Tryz.func119.trans (congrArg some (by kernel_rfl))
  f171 := Tryz.func94.trans (congrArg some (by kernel_rfl))
  f172 := Tryz.func95.trans (congrArg some (by kernel_rfl))
  f205 := Tryz.func117.trans (congrArg some (by kernel_rfl))
  f243 := Tryz.func100.trans (congrArg some (by kernel_rfl))
  f244 := Tryz.func101.trans (congrArg some (by kernel_rfl))
  f245 := Tryz.func102.trans (congrArg some (by kernel_rfl))
  f246 := Tryz.func105.trans (congrArg some (by kernel_rfl))
  f247 := Tryz.func106.trans (congrArg some (by kernel_rfl))
  f279 := Tryz.func107.trans (congrArg some (by kernel_rfl))
  f280 := Tryz.func108.trans (congrArg some (by kernel_rfl))
  f281 := Tryz.func109.trans (congrArg some (by kernel_rfl))
  f282 := Tryz.func110.trans (congrArg some (by kernel_rfl))
  f283 := Tryz.func111.trans (congrArg some (by kernel_rfl))
  f284 := Tryz.func112.trans (congrArg some (by kernel_rfl))
  f285 := Tryz.func113.trans (congrArg some (by kernel_rfl))
  f286 := Tryz.func114.trans (congrArg some (by kernel_rfl))
  f287 := Tryz.func115.trans (congrArg some (by kernel_rfl))
  f316 := Tryz.func116.trans (congrArg some (by kernel_rfl))
  f317 := Tryz.func118.trans (congrArg some (by kernel_rfl))
  f318 := Tryz.func120.trans (congrArg some (by kernel_rfl))
  f319 := Tryz.func121.trans (congrArg some (by kernel_rfl))
  f320 := Tryz.func122.trans (congrArg some (by kernel_rfl))
  f321 := Tryz.func123.trans (congrArg some (by kernel_rfl))
  f322 := Tryz.func124.trans (congrArg some (by kernel_rfl))
  f337 := Tryz.func125.trans (congrArg some (by kernel_rfl))
  f338 := Tryz.func126.trans (congrArg some (by kernel_rfl))
  t0 := Tryz.underlying0
  a0 := Tryz.isAgg0
  z0 := Tryz.sizeOf0
  v0 := Tryz.zeroValue0
  t2 := Tryz.underlying2
  a2 := Tryz.isAgg2
  z2 := Tryz.sizeOf2
  v2 := Tryz.zeroValue2
  t3 := Tryz.underlying3
  a3 := Tryz.isAgg3
  z3 := Tryz.sizeOf3
  v3 := Tryz.zeroValue3
  t4 := Tryz.underlying4
  a4 := Tryz.isAgg4
  z4 := Tryz.sizeOf4
  v4 := Tryz.zeroValue4
  t5 := Tryz.underlying5
  a5 := Tryz.isAgg5
  z5 := Tryz.sizeOf5
  v5 := Tryz.zeroValue5
  t9 := Tryz.underlying9
  a9 := Tryz.isAgg9
  z9 := Tryz.sizeOf9
  v9 := Tryz.zeroValue9
  t20 := Tryz.underlying20
  a20 := Tryz.isAgg20
  z20 := Tryz.sizeOf20
  v20 := Tryz.zeroValue20
  t21 := Tryz.underlying21
  a21 := Tryz.isAgg21
  z21 := Tryz.sizeOf21
  v21 := Tryz.zeroValue21
  t37 := Tryz.underlying97
  a37 := Tryz.isAgg97
  z37 := Tryz.sizeOf97
  v37 := Tryz.zeroValue97
  t46 := Tryz.underlying136
  a46 := Tryz.isAgg136
  z46 := Tryz.sizeOf136
  v46 := Tryz.zeroValue136
  t51 := Tryz.underlying144
  a51 := Tryz.isAgg144
  z51 := Tryz.sizeOf144
  v51 := Tryz.zeroValue144
  t53 := Tryz.underlying129
  a53 := Tryz.isAgg129
  z53 := Tryz.sizeOf129
  v53 := Tryz.zeroValue129
  t75 := Tryz.underlying112
  a75 := Tryz.isAgg112
  z75 := Tryz.sizeOf112
  v75 := Tryz.zeroValue112
  t76 := Tryz.underlying113
  a76 := Tryz.isAgg113
  z76 := Tryz.sizeOf113
  v76 := Tryz.zeroValue113
  t85 := Tryz.underlying123
  a85 := Tryz.isAgg123
  z85 := Tryz.sizeOf123
  v85 := Tryz.zeroValue123
  t127 := Tryz.underlying148
  a127 := Tryz.isAgg148
  z127 := Tryz.sizeOf148
  v127 := Tryz.zeroValue148
  t143 := Tryz.underlying149
  a143 := Tryz.isAgg149
  z143 := Tryz.sizeOf149
  v143 := Tryz.zeroValue149
  t145 := Tryz.underlying151
  a145 := Tryz.isAgg151
  z145 := Tryz.sizeOf151
  v145 := Tryz.zeroValue151
  t167 := Tryz.underlying122
  a167 := Tryz.isAgg122
  z167 := Tryz.sizeOf122
  v167 := Tryz.zeroValue122
  t168 := Tryz.underlying125
  a168 := Tryz.isAgg125
  z168 := Tryz.sizeOf125
  v168 := Tryz.zeroValue125
  t171 := Tryz.underlying128
  a171 := Tryz.isAgg128
  z171 := Tryz.sizeOf128
  v171 := Tryz.zeroValue128
  t173 := Tryz.underlying132
  a173 := Tryz.isAgg132
  z173 := Tryz.sizeOf132
  v173 := Tryz.zeroValue132
  t175 := Tryz.underlying134
  a175 := Tryz.isAgg134
  z175 := Tryz.sizeOf134
  v175 := Tryz.zeroValue134
  t210 := Tryz.underlying139
  a210 := Tryz.isAgg139
  z210 := Tryz.sizeOf139
  v210 := Tryz.zeroValue139
  t212 := Tryz.underlying143
  a212 := Tryz.isAgg143
  z212 := Tryz.sizeOf143
  v212 := Tryz.zeroValue143
  t213 := Tryz.underlying145
  a213 := Tryz.isAgg145
  z213 := Tryz.sizeOf145
  t232 := Tryz.underlying153
  a232 := Tryz.isAgg153
  z232 := Tryz.sizeOf153
  v232 := Tryz.zeroValue153
  t233 := Tryz.underlying154
  a233 := Tryz.isAgg154
  z233 := Tryz.sizeOf154
  v233 := Tryz.zeroValue154
  g15 := by kernel_rfl
  g16 := by kernel_rfl
  g17 := by kernel_rfl
  g18 := by kernel_rfl
  g19 := by kernel_rfl }
open Go.RowKit in
theorem Sh.strconv_Atoi (s : ByteArray) (n : Int) (hl : s.size ≤ 18) (h : Lib.atoi s.data.toList = some n) (w : World) :
    Calls Tryz.prog 95 #[.string s] w fun e w' => e = .returned (.tuple #[.int .i64 n, .nilIface]) ∧ ∃ t, w' = Lib.bytesWorld w 5 t := Any.strconv_Atoi Sh.lays172 s n hl h w
def Sh.lays129_ren : Go.Shelf.Ren := ⟨fun | 129 => 119 | n => n, fun | 53 => 129 | 3 => 3 | 4 => 4 | 46 => 136 | 5 => 5 | 9 => 9 | n => n, fun | n => n⟩
theorem Sh.lays129 : Go.Proofs.Lays.n129 Tryz.prog Sh.lays129_ren := {
  mixed := by kernel_rfl
  f129 := Tryz.func119.trans (congrArg some (by kernel_rfl))
  t3 := Tryz.underlying3
  a3 := Tryz.isAgg3
  z3 := Tryz.sizeOf3
  v3 := Tryz.zeroValue3
  t4 := Tryz.underlying4
  a4 := Tryz.isAgg4
  z4 := Tryz.sizeOf4
  v4 := Tryz.zeroValue4
  t5 := Tryz.underlying5
  a5 := Tryz.isAgg5
  z5 := Tryz.sizeOf5
  v5 := Tryz.zeroValue5
  t9 := Tryz.underlying9
  a9 := Tryz.isAgg9
  z9 := Tryz.sizeOf9
  v9 := Tryz.zeroValue9
  t46 := Tryz.underlying136
  a46 := Tryz.isAgg136
  z46 := Tryz.sizeOf136
  v46 := Tryz.zeroValue136
  t53 := Tryz.underlying129
  a53 := Tryz.isAgg129
  z53 := Tryz.sizeOf129
  v53 := Tryz.zeroValue129 }
theorem Sh.bits_Len64 (x : Int) (w : World) (h0 : 0 ≤ x) (h1 : x ≤ 18446744073709551615) :
    Calls Tryz.prog 119 #[.int .u64 x] w fun e w' => e = .returned (.int .i64 (Lib.bitLen x.toNat)) ∧ w' = w := Any.bits_Len64 Sh.lays129 x w h0 h1
def Sh.lays317_ren : Go.Shelf.Ren := ⟨fun | 317 => 118 | n => n, fun | 3 => 3 | 46 => 136 | n => n, fun | n => n⟩
theorem Sh.lays317 : Go.Proofs.Lays.n317 Tryz.prog Sh.lays317_ren := {
  mixed := by kernel_rfl
  f317 := Tryz.func118.trans (congrArg some (by kernel_rfl))
  t3 := Tryz.underlying3
  a3 := Tryz.isAgg3
  z3 := Tryz.sizeOf3
  v3 := Tryz.zeroValue3
  t46 := Tryz.underlying136
  a46 := Tryz.isAgg136
  z46 := Tryz.sizeOf136
  v46 := Tryz.zeroValue136 }
open Go.Lib in
theorem Sh.internal_strconv_log10Pow2 (x : Nat) (h : x ≤ 64) (w : World) :
    Calls Tryz.prog 118 #[.int .i64 x] w fun e w' => e = .returned (.int .i64 (Lib.l10 x)) ∧ w' = w := Any.internal_strconv_log10Pow2 Sh.lays317 x h w
def Sh.lays318_ren : Go.Shelf.Ren := ⟨fun | 318 => 120 | n => n, fun | 3 => 3 | 4 => 4 | n => n, fun | n => n⟩
theorem Sh.lays318 : Go.Proofs.Lays.n318 Tryz.prog Sh.lays318_ren := {
  mixed := by kernel_rfl
  f318 := Tryz.func120.trans (congrArg some (by kernel_rfl))
  t3 := Tryz.underlying3
  a3 := Tryz.isAgg3
  z3 := Tryz.sizeOf3
  v3 := Tryz.zeroValue3
  t4 := Tryz.underlying4
  a4 := Tryz.isAgg4
  z4 := Tryz.sizeOf4
  v4 := Tryz.zeroValue4 }
open Go.Lib in
theorem Sh.internal_strconv_bool2_int (b : Bool) (w : World) :
    Calls Tryz.prog 120 #[.bool b] w fun e w' => e = .returned (.int .i64 (if b then 1 else 0)) ∧ w' = w := Any.internal_strconv_bool2_int Sh.lays318 b w
def Sh.lays283_ren : Go.Shelf.Ren := ⟨fun | 283 => 111 | n => n, fun | 3 => 3 | 9 => 9 | 4 => 4 | n => n, fun | n => n⟩
theorem Sh.lays283 : Go.Proofs.Lays.n283 Tryz.prog Sh.lays283_ren := {
  mixed := by kernel_rfl
  f283 := Tryz.func111.trans (congrArg some (by kernel_rfl))
  t3 := Tryz.underlying3
  a3 := Tryz.isAgg3
  z3 := Tryz.sizeOf3
  v3 := Tryz.zeroValue3
  t4 := Tryz.underlying4
  a4 := Tryz.isAgg4
  z4 := Tryz.sizeOf4
  v4 := Tryz.zeroValue4
  t9 := Tryz.underlying9
  a9 := Tryz.isAgg9
  z9 := Tryz.sizeOf9
  v9 := Tryz.zeroValue9 }
open Go.Lib in
theorem Sh.internal_strconv_small (i : Nat) (h : i < 100) (w : World) :
    Calls Tryz.prog 111 #[.int .i64 i] w fun e w' => e = .returned (.string ⟨(Lib.decDigits i).toArray⟩) ∧ w' = w := Any.internal_strconv_small Sh.lays283 i h w
def Sh.laysM284_ren : Go.Shelf.Ren := ⟨fun | 284 => 112 | 129 => 119 | 317 => 118 | 318 => 120 | n => n, fun | 53 => 129 | 3 => 3 | 212 => 143 | 0 => 0 | 4 => 4 | 46 => 136 | 5 => 5 | 9 => 9 | n => n, fun | 17 => 2 | n => n⟩
theorem Sh.laysM284 : Go.Proofs.LaysM.n284 Tryz.prog Sh.laysM284_ren := {
  mixed := by kernel_rfl
  f129 := Tryz.func119.trans (congrArg some (by kernel_rfl))
  f284 := Tryz.func112.trans (congrArg some (by kernel_rfl))
  f317 := Tryz.func118.trans (congrArg some (by kernel_rfl))
  f318 := Tryz.func120.trans (congrArg some (by kernel_rfl))
  t0 := Tryz.underlying0
  a0 := Tryz.isAgg0
  z0 := Tryz.sizeOf0
  v0 := Tryz.zeroValue0
  t3 := Tryz.underlying3
  a3 := Tryz.isAgg3
  z3 := Tryz.sizeOf3
  v3 := Tryz.zeroValue3
  t4 := Tryz.underlying4
  a4 := Tryz.isAgg4
  z4 := Tryz.sizeOf4
  v4 := Tryz.zeroValue4
  t5 := Tryz.underlying5
  a5 := Tryz.isAgg5
  z5 := Tryz.sizeOf5
  v5 := Tryz.zeroValue5
  t9 := Tryz.underlying9
  a9 := Tryz.isAgg9
  z9 := Tryz.sizeOf9
  v9 := Tryz.zeroValue9
  t46 := Tryz.underlying136
  a46 := Tryz.isAgg136
  z46 := Tryz.sizeOf136
  v46 := Tryz.zeroValue136
  t53 := Tryz.underlying129
  a53 := Tryz.isAgg129
  z53 := Tryz.sizeOf129
  v53 := Tryz.zeroValue129
  t212 := Tryz.underlying143
  a212 := Tryz.isAgg143
  z212 := Tryz.sizeOf143
  v212 := Tryz.zeroValue143
  g17 := by kernel_rfl
  i0 := by kernel_rfl
  i3 := by kernel_rfl
  i4 := by kernel_rfl
  i5 := by kernel_rfl
  i9 := by kernel_rfl
  i46 := by kernel_rfl
  i53 := by kernel_rfl
  i212 := by kernel_rfl
  m17 := by kernel_rfl }
open Go.Lib in
theorem Sh.internal_strconv_numDigits (u : Nat) (h1 : 1 ≤ u) (h2 : u < 18446744073709551616) (w : World) (htab : Lib.TabIs Tryz.prog w "internal/strconv.uint64pow10" .u64 Lib.pow10Tab) :
    Calls Tryz.prog 112 #[.int .u64 u] w fun e w' => e = .returned (.int .i64 (Lib.nDigits u)) ∧ w' = w := Any.internal_strconv_numDigits Sh.laysM284 u h1 h2 w htab
def Sh.lays285_ren : Go.Shelf.Ren := ⟨fun | 285 => 113 | n => n, fun | 37 => 97 | 53 => 129 | 3 => 3 | 4 => 4 | 51 => 144 | 9 => 9 | 5 => 5 | 0 => 0 | n => n, fun | n => n⟩
theorem Sh.lays285 : Go.Proofs.Lays.n285 Tryz.prog Sh.lays285_ren := {
  mixed := by kernel_rfl
  f285 := Tryz.func113.trans (congrArg some (by kernel_rfl))
  t0 := Tryz.underlying0
  a0 := Tryz.isAgg0
  z0 := Tryz.sizeOf0
  v0 := Tryz.zeroValue0
  t3 := Tryz.underlying3
  a3 := Tryz.isAgg3
  z3 := Tryz.sizeOf3
  v3 := Tryz.zeroValue3
  t4 := Tryz.underlying4
  a4 := Tryz.isAgg4
  z4 := Tryz.sizeOf4
  v4 := Tryz.zeroValue4
  t5 := Tryz.underlying5
  a5 := Tryz.isAgg5
  z5 := Tryz.sizeOf5
  v5 := Tryz.zeroValue5
  t9 := Tryz.underlying9
  a9 := Tryz.isAgg9
  z9 := Tryz.sizeOf9
  v9 := Tryz.zeroValue9
  t37 := Tryz.underlying97
  a37 := Tryz.isAgg97
  z37 := Tryz.sizeOf97
  v37 := Tryz.zeroValue97
  t51 := Tryz.underlying144
  a51 := Tryz.isAgg144
  z51 := Tryz.sizeOf144
  v51 := Tryz.zeroValue144
  t53 := Tryz.underlying129
  a53 := Tryz.isAgg129
  z53 := Tryz.sizeOf129
  v53 := Tryz.zeroValue129 }
open Go.RowKit Go.Sort Go.Lib in
theorem Sh.internal_strconv_formatBase10 (blk off cap : Nat) (u : Nat) (d : Array UInt8) (w : World) (hH : Holds (fun (b : UInt8) => Value.int .u8 (b.toNat : Int)) w blk off d) (hu : u < 10 ^ d.size) (hu64 : u < 18446744073709551616) (hsz : d.size < 4611686018427387904) :
    Calls Tryz.prog 113 #[.slice (some ⟨blk, off, none⟩) d.size cap, .int .u64 u] w fun e w' =>
      e = .returned (.tuple #[]) ∧ ∃ (n v' : Nat) (dk : Array UInt8), w' = (putRow (fun (b : UInt8) => Value.int .u8 (b.toNat : Int)) w blk off dk).drewN n ∧ FmtInv d.size u 0 v' dk := Any.internal_strconv_formatBase10 Sh.lays285 blk off cap u d w hH hu hu64 hsz
def Sh.laysM246_ren : Go.Shelf.Ren := ⟨fun | 246 => 105 | 283 => 111 | 284 => 112 | 285 => 113 | 286 => 114 | 129 => 119 | 317 => 118 | 318 => 120 | 319 => 121 | 320 => 122 | 337 => 125 | 338 => 126 | n => n, fun | 2 => 2 | 3 => 3 | 9 => 9 | 4 => 4 | 171 => 128 | 0 => 0 | 53 => 129 | 37 => 97 | 5 => 5 | 173 => 132 | 212 => 143 | 51 => 144 | 20 => 20 | 213 => 145 | 46 => 136 | 232 => 153 | 233 => 154 | n => n, fun | 17 => 2 | 18 => 3 | 19 => 4 | n => n⟩
theorem Sh.laysM246 : Go.Proofs.LaysM.n246 Tryz.prog Sh.laysM246_ren := {
  mixed := by kernel_rfl
  f129 := Tryz.func119.trans (congrArg some (by kernel_rfl))
  f246 := Tryz.func105.trans (congrArg some (by kernel_rfl))
  f283 := Tryz.func111.trans (congrArg some (by kernel_rfl))
  f284 := Tryz.func112.trans (congrArg some (by kernel_rfl))
  f285 := Tryz.func113.trans (congrArg some (by kernel_rfl))
  f286 := Tryz.func114.trans (congrArg some (by kernel_rfl))
  f317 := Tryz.func118.trans (congrArg some (by kernel_rfl))
  f318 := Tryz.func120.trans (congrArg some (by kernel_rfl))
  f319 := Tryz.func121.trans (congrArg some (by kernel_rfl))
  f320 := Tryz.func122.trans (congrArg some (by kernel_rfl))
  f337 := Tryz.func125.trans (congrArg some (by kernel_rfl))
  f338 := Tryz.func126.trans (congrArg some (by kernel_rfl))
  t0 := Tryz.underlying0
  a0 := Tryz.isAgg0
  z0 := Tryz.sizeOf0
  v0 := Tryz.zeroValue0
  t2 := Tryz.underlying2
  a2 := Tryz.isAgg2
  z2 := Tryz.sizeOf2
  v2 := Tryz.zeroValue2
  t3 := Tryz.underlying3
  a3 := Tryz.isAgg3
  z3 := Tryz.sizeOf3
  v3 := Tryz.zeroValue3
  t4 := Tryz.underlying4
  a4 := Tryz.isAgg4
  z4 := Tryz.sizeOf4
  v4 := Tryz.zeroValue4
  t5 := Tryz.underlying5
  a5 := Tryz.isAgg5
  z5 := Tryz.sizeOf5
  v5 := Tryz.zeroValue5
  t9 := Tryz.underlying9
  a9 := Tryz.isAgg9
  z9 := Tryz.sizeOf9
  v9 := Tryz.zeroValue9
  t20 := Tryz.underlying20
  a20 := Tryz.isAgg20
  z20 := Tryz.sizeOf20
  v20 := Tryz.zeroValue20
  t37 := Tryz.underlying97
  a37 := Tryz.isAgg97
  z37 := Tryz.sizeOf97
  v37 := Tryz.zeroValue97
  t46 := Tryz.underlying136
  a46 := Tryz.isAgg136
  z46 := Tryz.sizeOf136
  v46 := Tryz.zeroValue136
  t51 := Tryz.underlying144
  a51 := Tryz.isAgg144
  z51 := Tryz.sizeOf144
  v51 := Tryz.zeroValue144
  t53 := Tryz.underlying129
  a53 := Tryz.isAgg129
  z53 := Tryz.sizeOf129
  v53 := Tryz.zeroValue129
  t171 := Tryz.underlying128
  a171 := Tryz.isAgg128
  z171 := Tryz.sizeOf128
  v171 := Tryz.zeroValue128
  t173 := Tryz.underlying132
  a173 := Tryz.isAgg132
  z173 := Tryz.sizeOf132
  v173 := Tryz.zeroValue132
  t212 := Tryz.underlying143
  a212 := Tryz.isAgg143
  z212 := Tryz.sizeOf143
  v212 := Tryz.zeroValue143
  t213 := Tryz.underlying145
  a213 := Tryz.isAgg145
  z213 := Tryz.sizeOf145
  t232 := Tryz.underlying153
  a232 := Tryz.isAgg153
  z232 := Tryz.sizeOf153
  v232 := Tryz.zeroValue153
  t233 := Tryz.underlying154
  a233 := Tryz.isAgg154
  z233 := Tryz.sizeOf154
  v233 := Tryz.zeroValue154
  g17 := by kernel_rfl
  g18 := by kernel_rfl
  g19 := by kernel_rfl
  i0 := by kernel_rfl
  i2 := by kernel_rfl
  i3 := by kernel_rfl
  i4 := by kernel_rfl
  i5 := by kernel_rfl
  i9 := by kernel_rfl
  i20 := by kernel_rfl
  i37 := by kernel_rfl
  i46 := by kernel_rfl
  i51 := by kernel_rfl
  i53 := by kernel_rfl
  i171 := by kernel_rfl
  i173 := by kernel_rfl
  i212 := by kernel_rfl
  i232 := by kernel_rfl
  i233 := by kernel_rfl
  m17 := by kernel_rfl
  m18 := by kernel_rfl
  m19 := by kernel_rfl }
open Go.RowKit Go.Sort Go.Lib in
theorem Sh.internal_strconv_FormatInt_10 (n : Int) (h0 : -9223372036854775808 ≤ n) (h1 : n ≤ 9223372036854775807) (w : World) (htab : Lib.TabIs Tryz.prog w "internal/strconv.uint64pow10" .u64 Lib.pow10Tab) :
    Calls Tryz.prog 105 #[.int .i64 n, .int .i64 10] w fun e w' => e = .returned (.string ⟨(Lib.itoa n).toArray⟩) ∧ ∃ k os, w' = grow (w.drewN k) os := Any.internal_strconv_FormatInt_10 Sh.laysM246 n h0 h1 w htab
def Sh.lays246_ren : Go.Shelf.Ren := ⟨fun | 246 => 105 | 283 => 111 | 284 => 112 | 285 => 113 | 286 => 114 | 129 => 119 | 317 => 118 | 318 => 120 | 319 => 121 | 320 => 122 | 337 => 125 | 338 => 126 | n => n, fun | 2 => 2 | 3 => 3 | 9 => 9 | 4 => 4 | 171 => 128 | 0 => 0 | 53 => 129 | 37 => 97 | 5 => 5 | 173 => 132 | 212 => 143 | 51 => 144 | 20 => 20 | 213 => 145 | 46 => 136 | 232 => 153 | 233 => 154 | n => n, fun | 17 => 2 | 18 => 3 | 19 => 4 | n => n⟩
theorem Sh.lays246 : Go.Proofs.Lays.n246 Tryz.prog Sh.lays246_ren := {
  mixed := by kernel_rfl
  f129 := Tryz.func119.trans (congrArg some (by kernel_rfl))
  f246 := Tryz.func105.trans (congrArg some (by kernel_rfl))
  f283 := Tryz.func111.trans (congrArg some (by kernel_rfl))
  f284 := Tryz.func112.trans (congrArg some (by kernel_rfl))
  f285 := Tryz.func113.trans (congrArg some (by kernel_rfl))
  f286 := Tryz.func114.trans (congrArg some (by kernel_rfl))
  f317 := Tryz.func118.trans (congrArg some (by kernel_rfl))
  f318 := Tryz.func120.trans (congrArg some (by kernel_rfl))
  f319 := Tryz.func121.trans (congrArg some (by kernel_rfl))
  f320 := Tryz.func122.trans (congrArg some (by kernel_rfl))
  f337 := Tryz.func125.trans (congrArg some (by kernel_rfl))
  f338 := Tryz.func126.trans (congrArg some (by kernel_rfl))
  t0 := Tryz.underlying0
  a0 := Tryz.isAgg0
  z0 := Tryz.sizeOf0
  v0 := Tryz.zeroValue0
  t2 := Tryz.underlying2
  a2 := Tryz.isAgg2
  z2 := Tryz.sizeOf2
  v2 := Tryz.zeroValue2
  t3 := Tryz.underlying3
  a3 := Tryz.isAgg3
  z3 := Tryz.sizeOf3
  v3 := Tryz.zeroValue3
  t4 := Tryz.underlying4
  a4 := Tryz.isAgg4
  z4 := Tryz.sizeOf4
  v4 := Tryz.zeroValue4
  t5 := Tryz.underlying5
  a5 := Tryz.isAgg5
  z5 := Tryz.sizeOf5
  v5 := Tryz.zeroValue5
  t9 := Tryz.underlying9
  a9 := Tryz.isAgg9
  z9 := Tryz.sizeOf9
  v9 := Tryz.zeroValue9
  t20 := Tryz.underlying20
  a20 := Tryz.isAgg20
  z20 := Tryz.sizeOf20
  v20 := Tryz.zeroValue20
  t37 := Tryz.underlying97
  a37 := Tryz.isAgg97
  z37 := Tryz.sizeOf97
  v37 := Tryz.zeroValue97
  t46 := Tryz.underlying136
  a46 := Tryz.isAgg136
  z46 := Tryz.sizeOf136
  v46 := Tryz.zeroValue136
  t51 := Tryz.underlying144
  a51 := Tryz.isAgg144
  z51 := Tryz.sizeOf144
  v51 := Tryz.zeroValue144
  t53 := Tryz.underlying129
  a53 := Tryz.isAgg129
  z53 := Tryz.sizeOf129
  v53 := Tryz.zeroValue129
  t171 := Tryz.underlying128
  a171 := Tryz.isAgg128
  z171 := Tryz.sizeOf128
  v171 := Tryz.zeroValue128
  t173 := Tryz.underlying132
  a173 := Tryz.isAgg132
  z173 := Tryz.sizeOf132
  v173 := Tryz.zeroValue132
  t212 := Tryz.underlying143
  a212 := Tryz.isAgg143
  z212 := Tryz.sizeOf143
  v212 := Tryz.zeroValue143
  t213 := Tryz.underlying145
  a213 := Tryz.isAgg145
  z213 := Tryz.sizeOf145
  t232 := Tryz.underlying153
  a232 := Tryz.isAgg153
  z232 := Tryz.sizeOf153
  v232 := Tryz.zeroValue153
  t233 := Tryz.underlying154
  a233 := Tryz.isAgg154
  z233 := Tryz.sizeOf154
  v233 := Tryz.zeroValue154
  g17 := by kernel_rfl
  g18 := by kernel_rfl
  g19 := by kernel_rfl }
open Go.RowKit Go.Sort Go.Lib in
theorem Sh.internal_strconv_FormatInt_10_small (i : Nat) (hi : i < 100) (w : World) :
    Calls Tryz.prog 105 #[.int .i64 i, .int .i64 10] w fun e w' => e = .returned (.string ⟨(Lib.decDigits i).toArray⟩) ∧ w' = w := Any.internal_strconv_FormatInt_10_small Sh.lays246 i hi w
def Sh.laysM243_ren : Go.Shelf.Ren := ⟨fun | 243 => 100 | 246 => 105 | 283 => 111 | 284 => 112 | 285 => 113 | 286 => 114 | 129 => 119 | 317 => 118 | 318 => 120 | 319 => 121 | 320 => 122 | 337 => 125 | 338 => 126 | n => n, fun | 3 => 3 | 9 => 9 | 2 => 2 | 4 => 4 | 171 => 128 | 0 => 0 | 53 => 129 | 37 => 97 | 5 => 5 | 173 => 132 | 212 => 143 | 51 => 144 | 20 => 20 | 213 => 145 | 46 => 136 | 232 => 153 | 233 => 154 | n => n, fun | 17 => 2 | 18 => 3 | 19 => 4 | n => n⟩
theorem Sh.laysM243 : Go.Proofs.LaysM.n243 Tryz.prog Sh.laysM243_ren := {
  mixed := by kernel_rfl
  f129 := Tryz.func119.trans (congrArg some (by kernel_rfl))
  f243 := Tryz.func100.trans (congrArg some (by kernel_rfl))
  f246 := Tryz.func105.trans (congrArg some (by kernel_rfl))
  f283 := Tryz.func111.trans (congrArg some (by kernel_rfl))
  f284 := Tryz.func112.trans (congrArg some (by kernel_rfl))
  f285 := Tryz.func113.trans (congrArg some (by kernel_rfl))
  f286 := Tryz.func114.trans (congrArg some (by kernel_rfl))
  f317 := Tryz.func118.trans (congrArg some (by kernel_rfl))
  f318 := Tryz.func120.trans (congrArg some (by kernel_rfl))
  f319 := Tryz.func121.trans (congrArg some (by kernel_rfl))
  f320 := Tryz.func122.trans (congrArg some (by kernel_rfl))
  f337 := Tryz.func125.trans (congrArg some (by kernel_rfl))
  f338 := Tryz.func126.trans (congrArg some (by kernel_rfl))
  t0 := Tryz.underlying0
  a0 := Tryz.isAgg0
  z0 := Tryz.sizeOf0
  v0 := Tryz.zeroValue0
  t2 := Tryz.underlying2
  a2 := Tryz.isAgg2
  z2 := Tryz.sizeOf2
  v2 := Tryz.zeroValue2
  t3 := Tryz.underlying3
  a3 := Tryz.isAgg3
  z3 := Tryz.sizeOf3
  v3 := Tryz.zeroValue3
  t4 := Tryz.underlying4
  a4 := Tryz.isAgg4
  z4 := Tryz.sizeOf4
  v4 := Tryz.zeroValue4
  t5 := Tryz.underlying5
  a5 := Tryz.isAgg5
  z5 := Tryz.sizeOf5
  v5 := Tryz.zeroValue5
  t9 := Tryz.underlying9
  a9 := Tryz.isAgg9
  z9 := Tryz.sizeOf9
  v9 := Tryz.zeroValue9
  t20 := Tryz.underlying20
  a20 := Tryz.isAgg20
  z20 := Tryz.sizeOf20
  v20 := Tryz.zeroValue20
  t37 := Tryz.underlying97
  a37 := Tryz.isAgg97
  z37 := Tryz.sizeOf97
  v37 := Tryz.zeroValue97
  t46 := Tryz.underlying136
  a46 := Tryz.isAgg136
  z46 := Tryz.sizeOf136
  v46 := Tryz.zeroValue136
  t51 := Tryz.underlying144
  a51 := Tryz.isAgg144
  z51 := Tryz.sizeOf144
  v51 := Tryz.zeroValue144
  t53 := Tryz.underlying129
  a53 := Tryz.isAgg129
  z53 := Tryz.sizeOf129
  v53 := Tryz.zeroValue129
  t171 := Tryz.underlying128
  a171 := Tryz.isAgg128
  z171 := Tryz.sizeOf128
  v171 := Tryz.zeroValue128
  t173 := Tryz.underlying132
  a173 := Tryz.isAgg132
  z173 := Tryz.sizeOf132
  v173 := Tryz.zeroValue132
  t212 := Tryz.underlying143
  a212 := Tryz.isAgg143
  z212 := Tryz.sizeOf143
  v212 := Tryz.zeroValue143
  t213 := Tryz.underlying145
  a213 := Tryz.isAgg145
  z213 := Tryz.sizeOf145
  t232 := Tryz.underlying153
  a232 := Tryz.isAgg153
  z232 := Tryz.sizeOf153
  v232 := Tryz.zeroValue153
  t233 := Tryz.underlying154
  a233 := Tryz.isAgg154
  z233 := Tryz.sizeOf154
  v233 := Tryz.zeroValue154
  g17 := by kernel_rfl
  g18 := by kernel_rfl
  g19 := by kernel_rfl
  i0 := by kernel_rfl
  i2 := by kernel_rfl
  i3 := by kernel_rfl
  i4 := by kernel_rfl
  i5 := by kernel_rfl
  i9 := by kernel_rfl
  i20 := by kernel_rfl
  i37 := by kernel_rfl
  i46 := by kernel_rfl
  i51 := by kernel_rfl
  i53 := by kernel_rfl
  i171 := by kernel_rfl
  i173 := by kernel_rfl
  i212 := by kernel_rfl
  i232 := by kernel_rfl
  i233 := by kernel_rfl
  m17 := by kernel_rfl
  m18 := by kernel_rfl
  m19 := by kernel_rfl }
open Go.RowKit Go.Sort Go.Lib in
theorem Sh.internal_strconv_Itoa (n : Int) (h0 : -9223372036854775808 ≤ n) (h1 : n ≤ 9223372036854775807) (w : World) (htab : Lib.TabIs Tryz.prog w "internal/strconv.uint64pow10" .u64 Lib.pow10Tab) :
    Calls Tryz.prog 100 #[.int .i64 n] w fun e w' => e = .returned (.string ⟨(Lib.itoa n).toArray⟩) ∧ ∃ k os, w' = grow (w.drewN k) os := Any.internal_strconv_Itoa Sh.laysM243 n h0 h1 w htab
def Sh.lays243_ren : Go.Shelf.Ren := ⟨fun | 243 => 100 | 246 => 105 | 283 => 111 | 284 => 112 | 285 => 113 | 286 => 114 | 129 => 119 | 317 => 118 | 318 => 120 | 319 => 121 | 320 => 122 | 337 => 125 | 338 => 126 | n => n, fun | 3 => 3 | 9 => 9 | 2 => 2 | 4 => 4 | 171 => 128 | 0 => 0 | 53 => 129 | 37 => 97 | 5 => 5 | 173 => 132 | 212 => 143 | 51 => 144 | 20 => 20 | 213 => 145 | 46 => 136 | 232 => 153 | 233 => 154 | n => n, fun | 17 => 2 | 18 => 3 | 19 => 4 | n => n⟩
theorem Sh.lays243 : Go.Proofs.Lays.n243 Tryz.prog Sh.lays243_ren := {
  mixed := by kernel_rfl
  f129 := Tryz.func119.trans (congrArg some (by kernel_rfl))
  f243 := Tryz.func100.trans (congrArg some (by kernel_rfl))
  f246 := Tryz.func105.trans (congrArg some (by kernel_rfl))
  f283 := Tryz.func111.trans (congrArg some (by kernel_rfl))
  f284 := Tryz.func112.trans (congrArg some (by kernel_rfl))
  f285 := Tryz.func113.trans (congrArg some (by kernel_rfl))
  f286 := Tryz.func114.trans (congrArg some (by kernel_rfl))
  f317 := Tryz.func118.trans (congrArg some (by kernel_rfl))
  f318 := Tryz.func120.trans (congrArg some (by kernel_rfl))
  f319 := Tryz.func121.trans (congrArg some (by kernel_rfl))
  f320 := Tryz.func122.trans (congrArg some (by kernel_rfl))
  f337 := Tryz.func125.trans (congrArg some (by kernel_rfl))
  f338 := Tryz.func126.trans (congrArg some (by kernel_rfl))
  t0 := Tryz.underlying0
  a0 := Tryz.isAgg0
  z0 := Tryz.sizeOf0
  v0 := Tryz.zeroValue0
  t2 := Tryz.underlying2
  a2 := Tryz.isAgg2
  z2 := Tryz.sizeOf2
  v2 := Tryz.zeroValue2
  t3 := Tryz.underlying3
  a3 := Tryz.isAgg3
  z3 := Tryz.sizeOf3
  v3 := Tryz.zeroValue3
  t4 := Tryz.underlying4
  a4 := Tryz.isAgg4
  z4 := Tryz.sizeOf4
  v4 := Tryz.zeroValue4
  t5 := Tryz.underlying5
  a5 := Tryz.isAgg5
  z5 := Tryz.sizeOf5
  v5 := Tryz.zeroValue5
  t9 := Tryz.underlying9
  a9 := Tryz.isAgg9
  z9 := Tryz.sizeOf9
  v9 := Tryz.zeroValue9
  t20 := Tryz.underlying20
  a20 := Tryz.isAgg20
  z20 := Tryz.sizeOf20
  v20 := Tryz.zeroValue20
  t37 := Tryz.underlying97
  a37 := Tryz.isAgg97
  z37 := Tryz.sizeOf97
  v37 := Tryz.zeroValue97
  t46 := Tryz.underlying136
  a46 := Tryz.isAgg136
  z46 := Tryz.sizeOf136
  v46 := Tryz.zeroValue136
  t51 := Tryz.underlying144
  a51 := Tryz.isAgg144
  z51 := Tryz.sizeOf144
  v51 := Tryz.zeroValue144
  t53 := Tryz.underlying129
  a53 := Tryz.isAgg129
  z53 := Tryz.sizeOf129
  v53 := Tryz.zeroValue129
  t171 := Tryz.underlying128
  a171 := Tryz.isAgg128
  z171 := Tryz.sizeOf128
  v171 := Tryz.zeroValue128
  t173 := Tryz.underlying132
  a173 := Tryz.isAgg132
  z173 := Tryz.sizeOf132
  v173 := Tryz.zeroValue132
  t212 := Tryz.underlying143
  a212 := Tryz.isAgg143
  z212 := Tryz.sizeOf143
  v212 := Tryz.zeroValue143
  t213 := Tryz.underlying145
  a213 := Tryz.isAgg145
  z213 := Tryz.sizeOf145
  t232 := Tryz.underlying153
  a232 := Tryz.isAgg153
  z232 := Tryz.sizeOf153
  v232 := Tryz.zeroValue153
  t233 := Tryz.underlying154
  a233 := Tryz.isAgg154
  z233 := Tryz.sizeOf154
  v233 := Tryz.zeroValue154
  g17 := by kernel_rfl
  g18 := by kernel_rfl
  g19 := by kernel_rfl }
open Go.RowKit Go.Sort Go.Lib in
theorem Sh.internal_strconv_Itoa_small (i : Nat) (hi : i < 100) (w : World) :
    Calls Tryz.prog 100 #[.int .i64 i] w fun e w' => e = .returned (.string ⟨(Lib.decDigits i).toArray⟩) ∧ w' = w := Any.internal_strconv_Itoa_small Sh.lays243 i hi w
def Sh.laysM171_ren : Go.Shelf.Ren := ⟨fun | 171 => 94 | 243 => 100 | 246 => 105 | 283 => 111 | 284 => 112 | 285 => 113 | 286 => 114 | 129 => 119 | 317 => 118 | 318 => 120 | 319 => 121 | 320 => 122 | 337 => 125 | 338 => 126 | n => n, fun | 3 => 3 | 9 => 9 | 2 => 2 | 4 => 4 | 171 => 128 | 0 => 0 | 53 => 129 | 37 => 97 | 5 => 5 | 173 => 132 | 212 => 143 | 51 => 144 | 20 => 20 | 213 => 145 | 46 => 136 | 232 => 153 | 233 => 154 | n => n, fun | 17 => 2 | 18 => 3 | 19 => 4 | n => n⟩
theorem Sh.laysM171 : Go.Proofs.LaysM.n171 Tryz.prog Sh.laysM171_ren := {
  mixed := by kernel_rfl
  f129 := Tryz.func119.trans (congrArg some (by kernel_rfl))
  f171 := Tryz.func94.trans (congrArg some (by kernel_rfl))
  f243 := Tryz.func100.trans (congrArg some (by kernel_rfl))
  f246 := Tryz.func105.trans (congrArg some (by kernel_rfl))
  f283 := Tryz.func111.trans (congrArg some (by kernel_rfl))
  f284 := Tryz.func112.trans (congrArg some (by kernel_rfl))
  f285 := Tryz.func113.trans (congrArg some (by kernel_rfl))
  f286 := Tryz.func114.trans (congrArg some (by kernel_rfl))
  f317 := Tryz.func118.trans (congrArg some (by kernel_rfl))
  f318 := Tryz.func120.trans (congrArg some (by kernel_rfl))
  f319 := Tryz.func121.trans (congrArg some (by kernel_rfl))
  f320 := Tryz.func122.trans (congrArg some (by kernel_rfl))
  f337 := Tryz.func125.trans (congrArg some (by kernel_rfl))
  f338 := Tryz.func126.trans (congrArg some (by kernel_rfl))
  t0 := Tryz.underlying0
  a0 := Tryz.isAgg0
  z0 := Tryz.sizeOf0
  v0 := Tryz.zeroValue0
  t2 := Tryz.underlying2
  a2 := Tryz.isAgg2
  z2 := Tryz.sizeOf2
  v2 := Tryz.zeroValue2
  t3 := Tryz.underlying3
  a3 := Tryz.isAgg3
  z3 := Tryz.sizeOf3
  v3 := Tryz.zeroValue3
  t4 := Tryz.underlying4
  a4 := Tryz.isAgg4
  z4 := Tryz.sizeOf4
  v4 := Tryz.zeroValue4
  t5 := Tryz.underlying5
  a5 := Tryz.isAgg5
  z5 := Tryz.sizeOf5
  v5 := Tryz.zeroValue5
  t9 := Tryz.underlying9
  a9 := Tryz.isAgg9
  z9 := Tryz.sizeOf9
  v9 := Tryz.zeroValue9
  t20 := Tryz.underlying20
  a20 := Tryz.isAgg20
  z20 := Tryz.sizeOf20
  v20 := Tryz.zeroValue20
  t37 := Tryz.underlying97
  a37 := Tryz.isAgg97
  z37 := Tryz.sizeOf97
  v37 := Tryz.zeroValue97
  t46 := Tryz.underlying136
  a46 := Tryz.isAgg136
  z46 := Tryz.sizeOf136
  v46 := Tryz.zeroValue136
  t51 := Tryz.underlying144
  a51 := Tryz.isAgg144
  z51 := Tryz.sizeOf144
  v51 := Tryz.zeroValue144
  t53 := Tryz.underlying129
  a53 := Tryz.isAgg129
  z53 := Tryz.sizeOf129
  v53 := Tryz.zeroValue129
  t171 := Tryz.underlying128
  a171 := Tryz.isAgg128
  z171 := Tryz.sizeOf128
  v171 := Tryz.zeroValue128
  t173 := Tryz.underlying132
  a173 := Tryz.isAgg132
  z173 := Tryz.sizeOf132
  v173 := Tryz.zeroValue132
  t212 := Tryz.underlying143
  a212 := Tryz.isAgg143
  z212 := Tryz.sizeOf143
  v212 := Tryz.zeroValue143
  t213 := Tryz.underlying145
  a213 := Tryz.isAgg145
  z213 := Tryz.sizeOf145
  t232 := Tryz.underlying153
  a232 := Tryz.isAgg153
  z232 := Tryz.sizeOf153
  v232 := Tryz.zeroValue153
  t233 := Tryz.underlying154
  a233 := Tryz.isAgg154
  z233 := Tryz.sizeOf154
  v233 := Tryz.zeroValue154
  g17 := by kernel_rfl
  g18 := by kernel_rfl
  g19 := by kernel_rfl
  i0 := by kernel_rfl
  i2 := by kernel_rfl
  i3 := by kernel_rfl
  i4 := by kernel_rfl
  i5 := by kernel_rfl
  i9 := by kernel_rfl
  i20 := by kernel_rfl
  i37 := by kernel_rfl
  i46 := by kernel_rfl
  i51 := by kernel_rfl
  i53 := by kernel_rfl
  i171 := by kernel_rfl
  i173 := by kernel_rfl
  i212 := by kernel_rfl
  i232 := by kernel_rfl
  i233 := by kernel_rfl
  m17 := by kernel_rfl
  m18 := by kernel_rfl
  m19 := by kernel_rfl }
open Go.RowKit Go.Sort Go.Lib in
theorem Sh.strconv_Itoa (n : Int) (h0 : -9223372036854775808 ≤ n) (h1 : n ≤ 9223372036854775807) (w : World) (htab : Lib.TabIs Tryz.prog w "internal/strconv.uint64pow10" .u64 Lib.pow10Tab) :
    Calls Tryz.prog 94 #[.int .i64 n] w fun e w' => e = .returned (.string ⟨(Lib.itoa n).toArray⟩) ∧ ∃ k os, w' = grow (w.drewN k) os := Any.strconv_Itoa Sh.laysM171 n h0 h1 w htab
def Sh.lays171_ren : Go.Shelf.Ren := ⟨fun | 171 => 94 | 243 => 100 | 246 => 105 | 283 => 111 | 284 => 112 | 285 => 113 | 286 => 114 | 129 => 119 | 317 => 118 | 318 => 120 | 319 => 121 | 320 => 122 | 337 => 125 | 338 => 126 | n => n, fun | 3 => 3 | 9 => 9 | 2 => 2 | 4 => 4 | 171 => 128 | 0 => 0 | 53 => 129 | 37 => 97 | 5 => 5 | 173 => 132 | 212 => 143 | 51 => 144 | 20 => 20 | 213 => 145 | 46 => 136 | 232 => 153 | 233 => 154 | n => n, fun | 17 => 2 | 18 => 3 | 19 => 4 | n => n⟩
theorem Sh.lays171 : Go.Proofs.Lays.n171 Tryz.prog Sh.lays171_ren := {
  mixed := by kernel_rfl
  f129 := Tryz.func119.trans (congrArg some (by kernel_rfl))
  f171 := Tryz.func94.trans (congrArg some (by kernel_rfl))
  f243 := Tryz.func100.trans (congrArg some (by kernel_rfl))
  f246 := Tryz.func105.trans (congrArg some (by kernel_rfl))
  f283 := Tryz.func111.trans (congrArg some (by kernel_rfl))
  f284 := Tryz.func112.trans (congrArg some (by kernel_rfl))
  f285 := Tryz.func113.trans (congrArg some (by kernel_rfl))
  f286 := Tryz.func114.trans (congrArg some (by kernel_rfl))
  f317 := Tryz.func118.trans (congrArg some (by kernel_rfl))
  f318 := Tryz.func120.trans (congrArg some (by kernel_rfl))
  f319 := Tryz.func121.trans (congrArg some (by kernel_rfl))
  f320 := Tryz.func122.trans (congrArg some (by kernel_rfl))
  f337 := Tryz.func125.trans (congrArg some (by kernel_rfl))
  f338 := Tryz.func126.trans (congrArg some (by kernel_rfl))
  t0 := Tryz.underlying0
  a0 := Tryz.isAgg0
  z0 := Tryz.sizeOf0
  v0 := Tryz.zeroValue0
  t2 := Tryz.underlying2
  a2 := Tryz.isAgg2
  z2 := Tryz.sizeOf2
  v2 := Tryz.zeroValue2
  t3 := Tryz.underlying3
  a3 := Tryz.isAgg3
  z3 := Tryz.sizeOf3
  v3 := Tryz.zeroValue3
  t4 := Tryz.underlying4
  a4 := Tryz.isAgg4
  z4 := Tryz.sizeOf4
  v4 := Tryz.zeroValue4
  t5 := Tryz.underlying5
  a5 := Tryz.isAgg5
  z5 := Tryz.sizeOf5
  v5 := Tryz.zeroValue5
  t9 := Tryz.underlying9
  a9 := Tryz.isAgg9
  z9 := Tryz.sizeOf9
  v9 := Tryz.zeroValue9
  t20 := Tryz.underlying20
  a20 := Tryz.isAgg20
  z20 := Tryz.sizeOf20
  v20 := Tryz.zeroValue20
  t37 := Tryz.underlying97
  a37 := Tryz.isAgg97
  z37 := Tryz.sizeOf97
  v37 := Tryz.zeroValue97
  t46 := Tryz.underlying136
  a46 := Tryz.isAgg136
  z46 := Tryz.sizeOf136
  v46 := Tryz.zeroValue136
  t51 := Tryz.underlying144
  a51 := Tryz.isAgg144
  z51 := Tryz.sizeOf144
  v51 := Tryz.zeroValue144
  t53 := Tryz.underlying129
  a53 := Tryz.isAgg129
  z53 := Tryz.sizeOf129
  v53 := Tryz.zeroValue129
  t171 := Tryz.underlying128
  a171 := Tryz.isAgg128
  z171 := Tryz.sizeOf128
  v171 := Tryz.zeroValue128
  t173 := Tryz.underlying132
  a173 := Tryz.isAgg132
  z173 := Tryz.sizeOf132
  v173 := Tryz.zeroValue132
  t212 := Tryz.underlying143
  a212 := Tryz.isAgg143
  z212 := Tryz.sizeOf143
  v212 := Tryz.zeroValue143
  t213 := Tryz.underlying145
  a213 := Tryz.isAgg145
  z213 := Tryz.sizeOf145
  t232 := Tryz.underlying153
  a232 := Tryz.isAgg153
  z232 := Tryz.sizeOf153
  v232 := Tryz.zeroValue153
  t233 := Tryz.underlying154
  a233 := Tryz.isAgg154
  z233 := Tryz.sizeOf154
  v233 := Tryz.zeroValue154
  g17 := by kernel_rfl
  g18 := by kernel_rfl
  g19 := by kernel_rfl }
open Go.RowKit Go.Sort Go.Lib in
theorem Sh.strconv_Itoa_small (i : Nat) (hi : i < 100) (w : World) :
    Calls Tryz.prog 94 #[.int .i64 i] w fun e w' => e = .returned (.string ⟨(Lib.decDigits i).toArray⟩) ∧ w' = w := Any.strconv_Itoa_small Sh.lays171 i hi w
open Go.RowKit in
theorem Sh.internal_strconv_Atoi_err (s : ByteArray) (hl0 : 1 ≤ s.size) (hl : s.size ≤ 18) (h : Lib.atoi s.data.toList = none) (w : World) :
    Calls Tryz.prog 101 #[.string s] w fun e w' => e = .returned (.tuple #[.int .i64 0, (.iface 122 (.int .i64 2))]) ∧ (w' = w ∨ ∃ t, w' = Lib.bytesWorld w 5 t) := Any.internal_strconv_Atoi_err Sh.lays244 s hl0 hl h w
def Sh.lays247_ren : Go.Shelf.Ren := ⟨fun | 247 => 106 | 287 => 115 | 321 => 123 | 322 => 124 | n => n, fun | 9 => 9 | 3 => 3 | 2 => 2 | 75 => 112 | 4 => 4 | 167 => 122 | 5 => 5 | 53 => 129 | 175 => 134 | 46 => 136 | 37 => 97 | 0 => 0 | 21 => 21 | 80 => 157 | n => n, fun | n => n⟩
theorem Sh.lays247 : Go.Proofs.Lays.n247 Tryz.prog Sh.lays247_ren := {
  mixed := by kernel_rfl
  f247 := Tryz.func106.trans (congrArg some (by kernel_rfl))
  f287 := Tryz.func115.trans (congrArg some (by kernel_rfl))
  f321 := Tryz.func123.trans (congrArg some (by kernel_rfl))
  f322 := Tryz.func124.trans (congrArg some (by kernel_rfl))
  t0 := Tryz.underlying0
  a0 := Tryz.isAgg0
  z0 := Tryz.sizeOf0
  v0 := Tryz.zeroValue0
  t2 := Tryz.underlying2
  a2 := Tryz.isAgg2
  z2 := Tryz.sizeOf2
  v2 := Tryz.zeroValue2
  t3 := Tryz.underlying3
  a3 := Tryz.isAgg3
  z3 := Tryz.sizeOf3
  v3 := Tryz.zeroValue3
  t4 := Tryz.underlying4
  a4 := Tryz.isAgg4
  z4 := Tryz.sizeOf4
  v4 := Tryz.zeroValue4
  t5 := Tryz.underlying5
  a5 := Tryz.isAgg5
  z5 := Tryz.sizeOf5
  v5 := Tryz.zeroValue5
  t9 := Tryz.underlying9
  a9 := Tryz.isAgg9
  z9 := Tryz.sizeOf9
  v9 := Tryz.zeroValue9
  t21 := Tryz.underlying21
  a21 := Tryz.isAgg21
  z21 := Tryz.sizeOf21
  v21 := Tryz.zeroValue21
  t37 := Tryz.underlying97
  a37 := Tryz.isAgg97
  z37 := Tryz.sizeOf97
  v37 := Tryz.zeroValue97
  t46 := Tryz.underlying136
  a46 := Tryz.isAgg136
  z46 := Tryz.sizeOf136
  v46 := Tryz.zeroValue136
  t53 := Tryz.underlying129
  a53 := Tryz.isAgg129
  z53 := Tryz.sizeOf129
  v53 := Tryz.zeroValue129
  t75 := Tryz.underlying112
  a75 := Tryz.isAgg112
  z75 := Tryz.sizeOf112
  v75 := Tryz.zeroValue112
  t167 := Tryz.underlying122
  a167 := Tryz.isAgg122
  z167 := Tryz.sizeOf122
  v167 := Tryz.zeroValue122
  t175 := Tryz.underlying134
  a175 := Tryz.isAgg134
  z175 := Tryz.sizeOf134
  v175 := Tryz.zeroValue134 }
open Go.RowKit in
theorem Sh.internal_strconv_ParseInt_empty (base bits : Int) (w : World) :
    Calls Tryz.prog 106 #[.string ⟨#[]⟩, .int .i64 base, .int .i64 bits] w fun e w' => e = .returned (.tuple #[.int .i64 0, (.iface 122 (.int .i64 2))]) ∧ w' = w := Any.internal_strconv_ParseInt_empty Sh.lays247 base bits w
open Go.RowKit in
theorem Sh.internal_strconv_Atoi_empty (w : World) :
    Calls Tryz.prog 101 #[.string ⟨#[]⟩] w fun e w' => e = .returned (.tuple #[.int .i64 0, (.iface 122 (.int .i64 2))]) ∧ w' = w := Any.internal_strconv_Atoi_empty Sh.lays244 w
open Go.RowKit in
theorem Sh.internal_strconv_Atoi_fail (s : ByteArray) (hl : s.size ≤ 18) (h : Lib.atoi s.data.toList = none) (w : World) :
    Calls Tryz.prog 101 #[.string s] w fun e w' => e = .returned (.tuple #[.int .i64 0, (.iface 122 (.int .i64 2))]) ∧ (w' = w ∨ ∃ t, w' = Lib.bytesWorld w 5 t) := Any.internal_strconv_Atoi_fail Sh.lays244 s hl h w
def Sh.laysM316_ren : Go.Shelf.Ren := ⟨fun | 316 => 116 | n => n, fun | 9 => 9 | 3 => 3 | 4 => 4 | 37 => 97 | 0 => 0 | 127 => 148 | 5 => 5 | n => n, fun | n => n⟩
theorem Sh.laysM316 : Go.Proofs.LaysM.n316 Tryz.prog Sh.laysM316_ren := {
  mixed := by kernel_rfl
  f316 := Tryz.func116.trans (congrArg some (by kernel_rfl))
  t0 := Tryz.underlying0
  a0 := Tryz.isAgg0
  z0 := Tryz.sizeOf0
  v0 := Tryz.zeroValue0
  t3 := Tryz.underlying3
  a3 := Tryz.isAgg3
  z3 := Tryz.sizeOf3
  v3 := Tryz.zeroValue3
  t4 := Tryz.underlying4
  a4 := Tryz.isAgg4
  z4 := Tryz.sizeOf4
  v4 := Tryz.zeroValue4
  t9 := Tryz.underlying9
  a9 := Tryz.isAgg9
  z9 := Tryz.sizeOf9
  v9 := Tryz.zeroValue9
  t37 := Tryz.underlying97
  a37 := Tryz.isAgg97
  z37 := Tryz.sizeOf97
  v37 := Tryz.zeroValue97
  t127 := Tryz.underlying148
  a127 := Tryz.isAgg148
  z127 := Tryz.sizeOf148
  v127 := Tryz.zeroValue148
  t5 := Tryz.underlying5
  a5 := Tryz.isAgg5
  z5 := Tryz.sizeOf5
  v5 := Tryz.zeroValue5
  i0 := by kernel_rfl
  i3 := by kernel_rfl
  i4 := by kernel_rfl
  i5 := by kernel_rfl
  i9 := by kernel_rfl
  i37 := by kernel_rfl
  i127 := by kernel_rfl }
open Go.RowKit in
theorem Sh.stringslite_Clone (s : ByteArray) (w : World) (hlim : s.size ≤ 281474976710656) :
    Calls Tryz.prog 116 #[.string s] w fun e w' => e = .returned (.string s) ∧ Below w.heap.size w w' := Any.stringslite_Clone Sh.laysM316 s w hlim
def Sh.laysM279_ren : Go.Shelf.Ren := ⟨fun | 279 => 107 | 316 => 116 | n => n, fun | 9 => 9 | 168 => 125 | 75 => 112 | 210 => 139 | 3 => 3 | 4 => 4 | 37 => 97 | 0 => 0 | 127 => 148 | 80 => 157 | 5 => 5 | n => n, fun | 15 => 0 | n => n⟩
theorem Sh.laysM279 : Go.Proofs.LaysM.n279 Tryz.prog Sh.laysM279_ren := {
  mixed := by kernel_rfl
  f279 := Tryz.func107.trans (congrArg some (by kernel_rfl))
  f316 := Tryz.func116.trans (congrArg some (by kernel_rfl))
  t0 := Tryz.underlying0
  a0 := Tryz.isAgg0
  z0 := Tryz.sizeOf0
  v0 := Tryz.zeroValue0
  t3 := Tryz.underlying3
  a3 := Tryz.isAgg3
  z3 := Tryz.sizeOf3
  v3 := Tryz.zeroValue3
  t4 := Tryz.underlying4
  a4 := Tryz.isAgg4
  z4 := Tryz.sizeOf4
  v4 := Tryz.zeroValue4
  t9 := Tryz.underlying9
  a9 := Tryz.isAgg9
  z9 := Tryz.sizeOf9
  v9 := Tryz.zeroValue9
  t37 := Tryz.underlying97
  a37 := Tryz.isAgg97
  z37 := Tryz.sizeOf97
  v37 := Tryz.zeroValue97
  t75 := Tryz.underlying112
  a75 := Tryz.isAgg112
  z75 := Tryz.sizeOf112
  v75 := Tryz.zeroValue112
  t127 := Tryz.underlying148
  a127 := Tryz.isAgg148
  z127 := Tryz.sizeOf148
  v127 := Tryz.zeroValue148
  t168 := Tryz.underlying125
  a168 := Tryz.isAgg125
  z168 := Tryz.sizeOf125
  v168 := Tryz.zeroValue125
  t210 := Tryz.underlying139
  a210 := Tryz.isAgg139
  z210 := Tryz.sizeOf139
  v210 := Tryz.zeroValue139
  g15 := by kernel_rfl
  t5 := Tryz.underlying5
  a5 := Tryz.isAgg5
  z5 := Tryz.sizeOf5
  v5 := Tryz.zeroValue5
  t80 := Tryz.underlying157
  a80 := Tryz.isAgg157
  z80 := Tryz.sizeOf157
  v80 := Tryz.zeroValue157
  i0 := by kernel_rfl
  i3 := by kernel_rfl
  i4 := by kernel_rfl
  i5 := by kernel_rfl
  i9 := by kernel_rfl
  i37 := by kernel_rfl
  i75 := by kernel_rfl
  i80 := by kernel_rfl
  i127 := by kernel_rfl
  i168 := by kernel_rfl
  i210 := by kernel_rfl
  m15 := by kernel_rfl }
open Go.RowKit in
theorem Sh.strconv_syntaxError (fn s : ByteArray) (ev : Value) (w : World) (hlim : s.size ≤ 281474976710656) (hv : w.cell? ⟨0, 0, none⟩ = some ev) (hev : ev = .nilIface ∨ ∃ te pe, ev = .iface te pe) :
    Calls Tryz.prog 107 #[.string fn, .string s] w fun e w' => ∃ N, e = .returned (.pointer (some ⟨N, 0, none⟩)) ∧ w.heap.size ≤ N ∧ w'.heap[N]? = some (.cells #[.string fn, .string s, ev] 139 (0, 0)) ∧ Below w.heap.size w w' := Any.strconv_syntaxError Sh.laysM279 fn s ev w hlim hv hev
def Sh.laysC245_ren : Go.Shelf.Ren := ⟨fun | 245 => 102 | 279 => 107 | 280 => 108 | 281 => 109 | 282 => 110 | 316 => 116 | 171 => 94 | 205 => 117 | 243 => 100 | 246 => 105 | 283 => 111 | 284 => 112 | 285 => 113 | 286 => 114 | 129 => 119 | 317 => 118 | 318 => 120 | 319 => 121 | 320 => 122 | 337 => 125 | 338 => 126 | n => n, fun | 9 => 9 | 3 => 3 | 75 => 112 | 167 => 122 | 4 => 4 | 168 => 125 | 210 => 139 | 37 => 97 | 0 => 0 | 127 => 148 | 145 => 151 | 143 => 149 | 2 => 2 | 171 => 128 | 53 => 129 | 5 => 5 | 173 => 132 | 212 => 143 | 51 => 144 | 20 => 20 | 213 => 145 | 46 => 136 | 232 => 153 | 233 => 154 | 80 => 157 | n => n, fun | 15 => 0 | 16 => 1 | 17 => 2 | 18 => 3 | 19 => 4 | n => n⟩
theorem Sh.laysC245 : Go.Proofs.LaysC.n245 Tryz.prog Sh.laysC245_ren := {
  mixed := by kernel_rfl
  f129 := Tryz.func119.trans (congrArg some (by kernel_rfl))
  f171 := Tryz.func94.trans (congrArg some (by kernel_rfl))
  f205 := Tryz.func117.trans (congrArg some (by kernel_rfl))
  f243 := Tryz.func100.trans (congrArg some (by kernel_rfl))
  f245 := Tryz.func102.trans (congrArg some (by kernel_rfl))
  f246 := Tryz.func105.trans (congrArg some (by kernel_rfl))
  f279 := Tryz.func107.trans (congrArg some (by kernel_rfl))
  f280 := Tryz.func108.trans (congrArg some (by kernel_rfl))
  f281 := Tryz.func109.trans (congrArg some (by kernel_rfl))
  f282 := Tryz.func110.trans (congrArg some (by kernel_rfl))
  f283 := Tryz.func111.trans (congrArg some (by kernel_rfl))
  f284 := Tryz.func112.trans (congrArg some (by kernel_rfl))
  f285 := Tryz.func113.trans (congrArg some (by kernel_rfl))
  f286 := Tryz.func114.trans (congrArg some (by kernel_rfl))
  f316 := Tryz.func116.trans (congrArg some (by kernel_rfl))
  f317 := Tryz.func118.trans (congrArg some (by kernel_rfl))
  f318 := Tryz.func120.trans (congrArg some (by kernel_rfl))
  f319 := Tryz.func121.trans (congrArg some (by kernel_rfl))
  f320 := Tryz.func122.trans (congrArg some (by kernel_rfl))
  f337 := Tryz.func125.trans (congrArg some (by kernel_rfl))
  f338 := Tryz.func126.trans (congrArg some (by kernel_rfl))
  t0 := Tryz.underlying0
  a0 := Tryz.isAgg0
  z0 := Tryz.sizeOf0
  v0 := Tryz.zeroValue0
  t2 := Tryz.underlying2
  a2 := Tryz.isAgg2
  z2 := Tryz.sizeOf2
  v2 := Tryz.zeroValue2
  t3 := Tryz.underlying3
  a3 := Tryz.isAgg3
  z3 := Tryz.sizeOf3
  v3 := Tryz.zeroValue3
  t4 := Tryz.underlying4
  a4 := Tryz.isAgg4
  z4 := Tryz.sizeOf4
  v4 := Tryz.zeroValue4
  t5 := Tryz.underlying5
  a5 := Tryz.isAgg5
  z5 := Tryz.sizeOf5
  v5 := Tryz.zeroValue5
  t9 := Tryz.underlying9
  a9 := Tryz.isAgg9
  z9 := Tryz.sizeOf9
  v9 := Tryz.zeroValue9
  t20 := Tryz.underlying20
  a20 := Tryz.isAgg20
  z20 := Tryz.sizeOf20
  v20 := Tryz.zeroValue20
  t37 := Tryz.underlying97
  a37 := Tryz.isAgg97
  z37 := Tryz.sizeOf97
  v37 := Tryz.zeroValue97
  t46 := Tryz.underlying136
  a46 := Tryz.isAgg136
  z46 := Tryz.sizeOf136
  v46 := Tryz.zeroValue136
  t51 := Tryz.underlying144
  a51 := Tryz.isAgg144
  z51 := Tryz.sizeOf144
  v51 := Tryz.zeroValue144
  t53 := Tryz.underlying129
  a53 := Tryz.isAgg129
  z53 := Tryz.sizeOf129
  v53 := Tryz.zeroValue129
  t75 := Tryz.underlying112
  a75 := Tryz.isAgg112
  z75 := Tryz.sizeOf112
  v75 := Tryz.zeroValue112
  t127 := Tryz.underlying148
  a127 := Tryz.isAgg148
  z127 := Tryz.sizeOf148
  v127 := Tryz.zeroValue148
  t143 := Tryz.underlying149
  a143 := Tryz.isAgg149
  z143 := Tryz.sizeOf149
  v143 := Tryz.zeroValue149
  t145 := Tryz.underlying151
  a145 := Tryz.isAgg151
  z145 := Tryz.sizeOf151
  v145 := Tryz.zeroValue151
  t167 := Tryz.underlying122
  a167 := Tryz.isAgg122
  z167 := Tryz.sizeOf122
  v167 := Tryz.zeroValue122
  t168 := Tryz.underlying125
  a168 := Tryz.isAgg125
  z168 := Tryz.sizeOf125
  v168 := Tryz.zeroValue125
  t171 := Tryz.underlying128
  a171 := Tryz.isAgg128
  z171 := Tryz.sizeOf128
  v171 := Tryz.zeroValue128
  t173 := Tryz.underlying132
  a173 := Tryz.isAgg132
  z173 := Tryz.sizeOf132
  v173 := Tryz.zeroValue132
  t210 := Tryz.underlying139
  a210 := Tryz.isAgg139
  z210 := Tryz.sizeOf139
  v210 := Tryz.zeroValue139
  t212 := Tryz.underlying143
  a212 := Tryz.isAgg143
  z212 := Tryz.sizeOf143
  v212 := Tryz.zeroValue143
  t213 := Tryz.underlying145
  a213 := Tryz.isAgg145
  z213 := Tryz.sizeOf145
  t232 := Tryz.underlying153
  a232 := Tryz.isAgg153
  z232 := Tryz.sizeOf153
  v232 := Tryz.zeroValue153
  t233 := Tryz.underlying154
  a233 := Tryz.isAgg154
  z233 := Tryz.sizeOf154
  v233 := Tryz.zeroValue154
  g15 := by kernel_rfl
  g16 := by kernel_rfl
  g17 := by kernel_rfl
  g18 := by kernel_rfl
  g19 := by kernel_rfl
  t80 := Tryz.underlying157
  a80 := Tryz.isAgg157
  z80 := Tryz.sizeOf157
  v80 := Tryz.zeroValue157
  i0 := by kernel_rfl
  i2 := by kernel_rfl
  i3 := by kernel_rfl
  i4 := by kernel_rfl
  i5 := by kernel_rfl
  i9 := by kernel_rfl
  i20 := by kernel_rfl
  i37 := by kernel_rfl
  i46 := by kernel_rfl
  i51 := by kernel_rfl
  i53 := by kernel_rfl
  i75 := by kernel_rfl
  i80 := by kernel_rfl
  i127 := by kernel_rfl
  i143 := by kernel_rfl
  i145 := by kernel_rfl
  i167 := by kernel_rfl
  i168 := by kernel_rfl
  i171 := by kernel_rfl
  i173 := by kernel_rfl
  i210 := by kernel_rfl
  i212 := by kernel_rfl
  i232 := by kernel_rfl
  i233 := by kernel_rfl
  m15 := by kernel_rfl
  m16 := by kernel_rfl
  m17 := by kernel_rfl
  m18 := by kernel_rfl
  m19 := by kernel_rfl
  c0 := by kernel_rfl
  c2 := by kernel_rfl
  c3 := by kernel_rfl
  c4 := by kernel_rfl
  c5 := by kernel_rfl
  c9 := by kernel_rfl
  c20 := by kernel_rfl
  c37 := by kernel_rfl
  c46 := by kernel_rfl
  c51 := by kernel_rfl
  c53 := by kernel_rfl
  c75 := by kernel_rfl
  c80 := by kernel_rfl
  c127 := by kernel_rfl
  c143 := by kernel_rfl
  c145 := by kernel_rfl
  c167 := by kernel_rfl
  c168 := by kernel_rfl
  c171 := by kernel_rfl
  c173 := by kernel_rfl
  c210 := by kernel_rfl
  c212 := by kernel_rfl
  c213 := by kernel_rfl
  c232 := by kernel_rfl
  c233 := by kernel_rfl }
open Go.RowKit in
theorem Sh.strconv_toError_syntax (fn s : ByteArray) (base bits : Int) (ev : Value) (w : World) (hlim : s.size ≤ 281474976710656) (hv : w.cell? ⟨0, 0, none⟩ = some ev) (hev : ev = .nilIface ∨ ∃ te pe, ev = .iface te pe) :
    Calls Tryz.prog 102 #[.string fn, .string s, .int .i64 base, .int .i64 bits, .iface 122 (.int .i64 2)] w fun e w' => ∃ N, e = .returned (.iface 125 (.pointer (some ⟨N, 0, none⟩))) ∧ w.heap.size ≤ N ∧ w'.heap[N]? = some (.cells #[.string fn, .string s, ev] 139 (0, 0)) ∧ Below w.heap.size w w' := Any.strconv_toError_syntax Sh.laysC245 fn s base bits ev w hlim hv hev
def Sh.laysC172_ren : Go.Shelf.Ren := ⟨fun | 172 => 95 | 244 => 101 | 245 => 102 | 247 => 106 | 279 => 107 | 280 => 108 | 281 => 109 | 282 => 110 | 287 => 115 | 316 => 116 | 171 => 94 | 205 => 117 | 321 => 123 | 322 => 124 | 243 => 100 | 246 => 105 | 283 => 111 | 284 => 112 | 285 => 113 | 286 => 114 | 129 => 119 | 317 => 118 | 318 => 120 | 319 => 121 | 320 => 122 | 337 => 125 | 338 => 126 | n => n, fun | 9 => 9 | 3 => 3 | 75 => 112 | 76 => 113 | 4 => 4 | 5 => 5 | 167 => 122 | 37 => 97 | 0 => 0 | 85 => 123 | 2 => 2 | 168 => 125 | 53 => 129 | 175 => 134 | 46 => 136 | 210 => 139 | 127 => 148 | 145 => 151 | 143 => 149 | 21 => 21 | 171 => 128 | 173 => 132 | 212 => 143 | 51 => 144 | 20 => 20 | 213 => 145 | 232 => 153 | 233 => 154 | 80 => 157 | n => n, fun | 15 => 0 | 16 => 1 | 17 => 2 | 18 => 3 | 19 => 4 | n => n⟩
theorem Sh.laysC172 : Go.Proofs.LaysC.n172 Tryz.prog Sh.laysC172_ren := {
  mixed := by kernel_rfl
  f129 := Tryz.func119.trans (congrArg some (by kernel_rfl))
  f171 := Tryz.func94.trans (congrArg some (by kernel_rfl))
  f172 := Tryz.func95.trans (congrArg some (by kernel_rfl))
  f205 := Tryz.func117.trans (congrArg some (by kernel_rfl))
  f243 := Tryz.func100.trans (congrArg some (by kernel_rfl))
  f244 := Tryz.func101.trans (congrArg some (by kernel_rfl))
  f245 := Tryz.func102.trans (congrArg some (by kernel_rfl))
  f246 := Tryz.func105.trans (congrArg some (by kernel_rfl))
  f247 := Tryz.func106.trans (congrArg some (by kernel_rfl))
  f279 := Tryz.func107.trans (congrArg some (by kernel_rfl))
  f280 := Tryz.func108.trans (congrArg some (by kernel_rfl))
  f281 := Tryz.func109.trans (congrArg some (by kernel_rfl))
  f282 := Tryz.func110.trans (congrArg some (by kernel_rfl))
  f283 := Tryz.func111.trans (congrArg some (by kernel_rfl))
  f284 := Tryz.func112.trans (congrArg some (by kernel_rfl))
  f285 := Tryz.func113.trans (congrArg some (by kernel_rfl))
  f286 := Tryz.func114.trans (congrArg some (by kernel_rfl))
  f287 := Tryz.func115.trans (congrArg some (by kernel_rfl))
  f316 := Tryz.func116.trans (congrArg some (by kernel_rfl))
  f317 := Tryz.func118.trans (congrArg some (by kernel_rfl))
  f318 := Tryz.func120.trans (congrArg some (by kernel_rfl))
  f319 := Tryz.func121.trans (congrArg some (by kernel_rfl))
  f320 := Tryz.func122.trans (congrArg some (by kernel_rfl))
  f321 := Tryz.func123.trans (congrArg some (by kernel_rfl))
  f322 := Tryz.func124.trans (congrArg some (by kernel_rfl))
  f337 := Tryz.func125.trans (congrArg some (by kernel_rfl))
  f338 := Tryz.func126.trans (congrArg some (by kernel_rfl))
  t0 := Tryz.underlying0
  a0 := Tryz.isAgg0
  z0 := Tryz.sizeOf0
  v0 := Tryz.zeroValue0
  t2 := Tryz.underlying2
  a2 := Tryz.isAgg2
  z2 := Tryz.sizeOf2
  v2 := Tryz.zeroValue2
  t3 := Tryz.underlying3
  a3 := Tryz.isAgg3
  z3 := Tryz.sizeOf3
  v3 := Tryz.zeroValue3
  t4 := Tryz.underlying4
  a4 := Tryz.isAgg4
  z4 := Tryz.sizeOf4
  v4 := Tryz.zeroValue4
  t5 := Tryz.underlying5
  a5 := Tryz.isAgg5
  z5 := Tryz.sizeOf5
  v5 := Tryz.zeroValue5
  t9 := Tryz.underlying9
  a9 := Tryz.isAgg9
  z9 := Tryz.sizeOf9
  v9 := Tryz.zeroValue9
  t20 := Tryz.underlying20
  a20 := Tryz.isAgg20
  z20 := Tryz.sizeOf20
  v20 := Tryz.zeroValue20
  t21 := Tryz.underlying21
  a21 := Tryz.isAgg21
  z21 := Tryz.sizeOf21
  v21 := Tryz.zeroValue21
  t37 := Tryz.underlying97
  a37 := Tryz.isAgg97
  z37 := Tryz.sizeOf97
  v37 := Tryz.zeroValue97
  t46 := Tryz.underlying136
  a46 := Tryz.isAgg136
  z46 := Tryz.sizeOf136
  v46 := Tryz.zeroValue136
  t51 := Tryz.underlying144
  a51 := Tryz.isAgg144
  z51 := Tryz.sizeOf144
  v51 := Tryz.zeroValue144
  t53 := Tryz.underlying129
  a53 := Tryz.isAgg129
  z53 := Tryz.sizeOf129
  v53 := Tryz.zeroValue129
  t75 := Tryz.underlying112
  a75 := Tryz.isAgg112
  z75 := Tryz.sizeOf112
  v75 := Tryz.zeroValue112
  t76 := Tryz.underlying113
  a76 := Tryz.isAgg113
  z76 := Tryz.sizeOf113
  v76 := Tryz.zeroValue113
  t85 := Tryz.underlying123
  a85 := Tryz.isAgg123
  z85 := Tryz.sizeOf123
  v85 := Tryz.zeroValue123
  t127 := Tryz.underlying148
  a127 := Tryz.isAgg148
  z127 := Tryz.sizeOf148
  v127 := Tryz.zeroValue148
  t143 := Tryz.underlying149
  a143 := Tryz.isAgg149
  z143 := Tryz.sizeOf149
  v143 := Tryz.zeroValue149
  t145 := Tryz.underlying151
  a145 := Tryz.isAgg151
  z145 := Tryz.sizeOf151
  v145 := Tryz.zeroValue151
  t167 := Tryz.underlying122
  a167 := Tryz.isAgg122
  z167 := Tryz.sizeOf122
  v167 := Tryz.zeroValue122
  t168 := Tryz.underlying125
  a168 := Tryz.isAgg125
  z168 := Tryz.sizeOf125
  v168 := Tryz.zeroValue125
  t171 := Tryz.underlying128
  a171 := Tryz.isAgg128
  z171 := Tryz.sizeOf128
  v171 := Tryz.zeroValue128
  t173 := Tryz.underlying132
  a173 := Tryz.isAgg132
  z173 := Tryz.sizeOf132
  v173 := Tryz.zeroValue132
  t175 := Tryz.underlying134
  a175 := Tryz.isAgg134
  z175 := Tryz.sizeOf134
  v175 := Tryz.zeroValue134
  t210 := Tryz.underlying139
  a210 := Tryz.isAgg139
  z210 := Tryz.sizeOf139
  v210 := Tryz.zeroValue139
  t212 := Tryz.underlying143
  a212 := Tryz.isAgg143
  z212 := Tryz.sizeOf143
  v212 := Tryz.zeroValue143
  t213 := Tryz.underlying145
  a213 := Tryz.isAgg145
  z213 := Tryz.sizeOf145
  t232 := Tryz.underlying153
  a232 := Tryz.isAgg153
  z232 := Tryz.sizeOf153
  v232 := Tryz.zeroValue153
  t233 := Tryz.underlying154
  a233 := Tryz.isAgg154
  z233 := Tryz.sizeOf154
  v233 := Tryz.zeroValue154
  g15 := by kernel_rfl
  g16 := by kernel_rfl
  g17 := by kernel_rfl
  g18 := by kernel_rfl
  g19 := by kernel_rfl
  t80 := Tryz.underlying157
  a80 := Tryz.isAgg157
  z80 := Tryz.sizeOf157
  v80 := Tryz.zeroValue157
  i0 := by kernel_rfl
  i2 := by kernel_rfl
  i3 := by kernel_rfl
  i4 := by kernel_rfl
  i5 := by kernel_rfl
  i9 := by kernel_rfl
  i20 := by kernel_rfl
  i21 := by kernel_rfl
  i37 := by kernel_rfl
  i46 := by kernel_rfl
  i51 := by kernel_rfl
  i53 := by kernel_rfl
  i75 := by kernel_rfl
  i76 := by kernel_rfl
  i80 := by kernel_rfl
  i85 := by kernel_rfl
  i127 := by kernel_rfl
  i143 := by kernel_rfl
  i145 := by kernel_rfl
  i167 := by kernel_rfl
  i168 := by kernel_rfl
  i171 := by kernel_rfl
  i173 := by kernel_rfl
  i175 := by kernel_rfl
  i210 := by kernel_rfl
  i212 := by kernel_rfl
  i232 := by kernel_rfl
  i233 := by kernel_rfl
  m15 := by kernel_rfl
  m16 := by kernel_rfl
  m17 := by kernel_rfl
  m18 := by kernel_rfl
  m19 := by kernel_rfl
  c0 := by kernel_rfl
  c2 := by kernel_rfl
  c3 := by kernel_rfl
  c4 := by kernel_rfl
  c5 := by kernel_rfl
  c9 := by kernel_rfl
  c20 := by kernel_rfl
  c21 := by kernel_rfl
  c37 := by kernel_rfl
  c46 := by kernel_rfl
  c51 := by kernel_rfl
  c53 := by kernel_rfl
  c75 := by kernel_rfl
  c76 := by kernel_rfl
  c80 := by kernel_rfl
  c85 := by kernel_rfl
  c127 := by kernel_rfl
  c143 := by kernel_rfl
  c145 := by kernel_rfl
  c167 := by kernel_rfl
  c168 := by kernel_rfl
  c171 := by kernel_rfl
  c173 := by kernel_rfl
  c175 := by kernel_rfl
  c210 := by kernel_rfl
  c212 := by kernel_rfl
  c213 := by kernel_rfl
  c232 := by kernel_rfl
  c233 := by kernel_rfl }
open Go.RowKit in
theorem Sh.strconv_Atoi_err (s : ByteArray) (hl : s.size ≤ 18) (h : Lib.atoi s.data.toList = none) (ev : Value) (w : World) (hv : w.cell? ⟨0, 0, none⟩ = some ev) (hev : ev = .nilIface ∨ ∃ te pe, ev = .iface te pe) :
    Calls Tryz.prog 95 #[.string s] w fun e w' => ∃ N, e = .returned (.tuple #[.int .i64 0, .iface 125 (.pointer (some ⟨N, 0, none⟩))]) ∧ w.heap.size ≤ N ∧ w'.heap[N]? = some (.cells #[.string ⟨#[65, 116, 111, 105]⟩, .string s, ev] 139 (0, 0)) ∧ Below w.heap.size w w' := Any.strconv_Atoi_err Sh.laysC172 s hl h ev w hv hev
open Go.RowKit in
theorem Sh.strconv_Atoi_err_var (s : ByteArray) (hl : s.size ≤ 18) (h : Lib.atoi s.data.toList = none) (tp : TypeId) (p : Value) (w : World) (hvar : w.var? Tryz.prog "strconv.ErrSyntax" = some #[.iface tp p]) :
    Calls Tryz.prog 95 #[.string s] w fun e w' => ∃ N, e = .returned (.tuple #[.int .i64 0, .iface 125 (.pointer (some ⟨N, 0, none⟩))]) ∧ w.heap.size ≤ N ∧ w'.heap[N]? = some (.cells #[.string ⟨#[65, 116, 111, 105]⟩, .string s, .iface tp p] 139 (0, 0)) ∧ Below w.heap.size w w' := Any.strconv_Atoi_err_var Sh.laysC172 s hl h tp p w hvar
def Sh.lays321_ren : Go.Shelf.Ren := ⟨fun | 321 => 123 | n => n, fun | 5 => 5 | n => n, fun | n => n⟩
theorem Sh.lays321 : Go.Proofs.Lays.n321 Tryz.prog Sh.lays321_ren := {
  mixed := by kernel_rfl
  f321 := Tryz.func123.trans (congrArg some (by kernel_rfl))
  t5 := Tryz.underlying5
  a5 := Tryz.isAgg5
  z5 := Tryz.sizeOf5
  v5 := Tryz.zeroValue5 }
open Go.RowKit in
theorem Sh.internal_strconv_lower (c : Int) (w : World) :
    Calls Tryz.prog 123 #[.int .u8 c] w fun e w' => e = .returned (.int .u8 (bits .or .u8 c 32)) ∧ w' = w := Any.internal_strconv_lower Sh.lays321 c w
def Sh.lays287_ren : Go.Shelf.Ren := ⟨fun | 287 => 115 | 321 => 123 | 322 => 124 | n => n, fun | 9 => 9 | 3 => 3 | 53 => 129 | 75 => 112 | 4 => 4 | 167 => 122 | 5 => 5 | 46 => 136 | 37 => 97 | 0 => 0 | 21 => 21 | 80 => 157 | n => n, fun | n => n⟩
theorem Sh.lays287 : Go.Proofs.Lays.n287 Tryz.prog Sh.lays287_ren := {
  mixed := by kernel_rfl
  f287 := Tryz.func115.trans (congrArg some (by kernel_rfl))
  f321 := Tryz.func123.trans (congrArg some (by kernel_rfl))
  f322 := Tryz.func124.trans (congrArg some (by kernel_rfl))
  t0 := Tryz.underlying0
  a0 := Tryz.isAgg0
  z0 := Tryz.sizeOf0
  v0 := Tryz.zeroValue0
  t3 := Tryz.underlying3
  a3 := Tryz.isAgg3
  z3 := Tryz.sizeOf3
  v3 := Tryz.zeroValue3
  t4 := Tryz.underlying4
  a4 := Tryz.isAgg4
  z4 := Tryz.sizeOf4
  v4 := Tryz.zeroValue4
  t5 := Tryz.underlying5
  a5 := Tryz.isAgg5
  z5 := Tryz.sizeOf5
  v5 := Tryz.zeroValue5
  t9 := Tryz.underlying9
  a9 := Tryz.isAgg9
  z9 := Tryz.sizeOf9
  v9 := Tryz.zeroValue9
  t21 := Tryz.underlying21
  a21 := Tryz.isAgg21
  z21 := Tryz.sizeOf21
  v21 := Tryz.zeroValue21
  t37 := Tryz.underlying97
  a37 := Tryz.isAgg97
  z37 := Tryz.sizeOf97
  v37 := Tryz.zeroValue97
  t46 := Tryz.underlying136
  a46 := Tryz.isAgg136
  z46 := Tryz.sizeOf136
  v46 := Tryz.zeroValue136
  t53 := Tryz.underlying129
  a53 := Tryz.isAgg129
  z53 := Tryz.sizeOf129
  v53 := Tryz.zeroValue129
  t75 := Tryz.underlying112
  a75 := Tryz.isAgg112
  z75 := Tryz.sizeOf112
  v75 := Tryz.zeroValue112
  t167 := Tryz.underlying122
  a167 := Tryz.isAgg122
  z167 := Tryz.sizeOf122
  v167 := Tryz.zeroValue122 }
open Go.RowKit in
theorem Sh.internal_strconv_ParseUint_empty (base bits : Int) (w : World) :
    Calls Tryz.prog 115 #[.string ⟨#[]⟩, .int .i64 base, .int .i64 bits] w fun e w' => e = .returned (.tuple #[.int .u64 0, .iface 122 (.int .i64 2)]) ∧ w' = w := Any.internal_strconv_ParseUint_empty Sh.lays287 base bits w
end Go.Proofs.YtdakhddpcfimaaaGreatDoor
namespace Go.Proofs.YtdakhddpcfimaaaGreatDoor
open Go.RowKit
open GoD (rd own)
theorem below_gd (w : World) (k : Nat) (os : Array Obj) : Below w.heap.size w (Go.Sort.grow (w.drewN k) os) :=
  ⟨rfl, rfl, rfl, by rw [Go.Sort.size_grow]; exact Nat.le_add_right _ _, fun j hj => by
    unfold Go.Sort.grow
    rw [Array.getElem?_append, if_pos (by exact hj)]
    rfl⟩
theorem figure_c (w : World) (d : Nat) (hd : d < 10) : Calls Tryz.prog 91 #[.int .i64 d] w (Ret w (.int .u8 (48 + (d : Int)))) := by
  have h1 : (d : Int) < 10 := by omega
  have h2 : IntKind.i64.wrap (48 + (d : Int)) = 48 + (d : Int) := by rw [IntKind.wrap_i64]; omega
  go_enter Tryz.func91, Tryz.ntmps91
  go_wp2
  go_ret
  exact ⟨rfl, Below.refl _ _⟩
def tabOk (w : World) : Prop := Lib.TabIs Tryz.prog w "internal/strconv.uint64pow10" .u64 Lib.pow10Tab
theorem gTab : Tryz.prog.globalNamed "internal/strconv.uint64pow10" = some 2 := by kernel_rfl
theorem tabOk.keep {w w' : World} (h : tabOk w) (hb : Below w.heap.size w w') : tabOk w' := Go.Joins.tab_stays gTab h hb (Nat.le_refl _)
def numeral (n : Int) : ByteArray := ⟨(Lib.itoa n).toArray⟩
theorem implFormatInt_c (w : World) (n : Int) (hn : I64 n) (ht : tabOk w) : Calls Tryz.prog 83 #[.int .i64 n] w (Ret w (.string (numeral n))) := by
  have hcon := Sh.strconv_Itoa n hn.1 hn.2 w ht
  rw [show (⟨(Lib.itoa n).toArray⟩ : ByteArray) = numeral n from rfl] at hcon
  generalize numeral n = s at *
  clear ht hn
  go_enter Tryz.func83, Tryz.ntmps83
  go_wp2_with (go_at_call 94; refine hcon.mono ?_; rintro e w' ⟨rfl, k, os, rfl⟩; have hb := below_gd w k os; generalize Go.Sort.grow (w.drewN k) os = w9 at *)
  go_ret
  exact ⟨rfl, hb⟩
def shift (s : ByteArray) (k : Nat) : ByteArray := ⟨s.data.mapIdx (fun i x => if i < k then x + 49 else x)⟩
theorem shift_size (s : ByteArray) (k : Nat) : (shift s k).size = s.size := Array.size_mapIdx
theorem shift_zero (s : ByteArray) : shift s 0 = s := by
  unfold shift
  congr 1
  apply Array.ext
  · simp
  · intro i h1 h2; simp
theorem shift_at (s : ByteArray) (k i : Nat) (h : i < (shift s k).size) : (shift s k)[i] = if i < k then s[i]'(by rw [shift_size] at h; exact h) + 49 else s[i]'(by rw [shift_size] at h; exact h) := by
  have h1 : i < (s.data.mapIdx (fun i x => if i < k then x + 49 else x)).size := h
  exact (Array.getElem_mapIdx h1)
theorem plus49 (x : UInt8) : ((x + 49).toNat : Int) = IntKind.u8.wrap ((x.toNat : Int) + 49) := by
  have h49 : (49 : UInt8).toNat = 49 := rfl
  rw [IntKind.wrap_u8, UInt8.toNat_add, h49]
  omega
theorem plus49' (x : UInt8) : IntKind.u8.wrap (IntKind.u8.wrap ((x.toNat : Int) - 48) + 97) = IntKind.u8.wrap ((x.toNat : Int) + 49) := by
  rw [IntKind.wrap_u8, IntKind.wrap_u8, IntKind.wrap_u8]
  omega
theorem bytes_set {w : World} {g : Nat} {s : ByteArray} {k : Nat} (h : Lib.Bytes w g 0 (shift s k)) (hk : k < s.size) (v : Int) (hv : v = IntKind.u8.wrap ((s[k].toNat : Int) + 49)) : Lib.Bytes (w.setCell ⟨g, k, none⟩ (.int .u8 v)) g 0 (shift s (k + 1)) := by
  intro i hi
  rw [shift_at]
  have hi' : i < s.size := by rw [shift_size] at hi; exact hi
  have h0 := h i (by rw [shift_size]; exact hi')
  rw [shift_at] at h0
  rw [Nat.zero_add] at h0 ⊢
  by_cases e : i = k
  · subst e
    rw [World.cell?_setCell_same _ _ _ h0, if_pos (Nat.lt_succ_self _), plus49, hv]
  · rw [World.cell?_setCell_other _ _ _ _ (fun h1 : (⟨g, k, none⟩ : Addr) = ⟨g, i, none⟩ => e (by injection h1 with _ h2 _; exact h2.symm)), h0]
    congr 3
    by_cases hlt : i < k
    · rw [if_pos hlt, if_pos (by omega)]
    · rw [if_neg hlt, if_neg (by omega)]
theorem bytes_start (w : World) (s : ByteArray) : Lib.Bytes (Lib.bytesWorld w 5 s) w.heap.size 0 (shift s 0) := by
  rw [shift_zero]
  intro i hi
  rw [Nat.zero_add, Lib.bytesWorld_cell w _ s i hi]
  have e : s.data.toList.getD i 0 = s[i] := by
    rw [List.getD_eq_getElem?_getD, Array.getElem?_toList, Array.getElem?_eq_getElem (show i < s.data.size from hi)]
    rfl
  rw [e]
theorem frozen_start (w : World) (e : TypeId) (s : ByteArray) (j : Nat) (hj : j < s.size) : (Lib.bytesWorld w e s).frozen? ⟨w.heap.size, j, none⟩ = false := by
  have h1 := Lib.bytesWorld_at_new w e s
  have h2 : s.size ≤ (Lib.bytesCells w e s).size := by
    have h3 := Lib.bytesWorld_cell w e s j hj
    unfold Lib.bytesCells
    simp
    try omega
  simp only [World.frozen?, h1]
  simp
  omega
noncomputable def encodeInt (n : Int) : ByteArray := if inR n 0 999 then shift (numeral n) (numeral n).size else ⟨#[]⟩
theorem encode_no {n : Int} (h : inR n 0 999 = false) : encodeInt n = ⟨#[]⟩ := by unfold encodeInt; rw [h]; rfl
theorem encode_yes {n : Int} (h : inR n 0 999 = true) : encodeInt n = shift (numeral n) (numeral n).size := by unfold encodeInt; rw [h]; rfl
theorem dig_len : ∀ (u : Nat), u < 1000 → (Lib.decDigits u).length ≤ 3 := by
  intro u hu
  rw [Lib.decDigits]
  split
  · simp
  · rw [Lib.decDigits]
    split
    · simp
    · rw [Lib.decDigits]
      split
      · simp
      · omega
theorem numeral_size {n : Int} (h : inR n 0 999 = true) : (numeral n).size ≤ 20 := by
  unfold inR at h
  simp only [Bool.and_eq_true, decide_eq_true_eq] at h
  have h1 := dig_len n.toNat (by omega)
  unfold numeral Lib.itoa
  rw [if_neg (by omega)]
  show (Lib.decDigits n.toNat).toArray.size ≤ 20
  simp only [List.size_toArray]
  omega
theorem below_set {B : Nat} {w w' : World} {g k : Nat} {v : Value} (h : Below B w w') (hg : B ≤ g) : Below B w (w'.setCell ⟨g, k, none⟩ v) :=
  ⟨h.os, h.tape, h.output, by rw [World.size_setCell]; exact h.size, fun j hj => by
    rw [← h.block j hj]
    unfold World.setCell
    simp only [Array.getElem?_modify]
    rw [if_neg (by omega)]⟩
theorem wpList_conv {P : Program} {w : World} {ops : Array Oper} {rest : List Oper} {o : Oper} {a : Act} {Q : Exit → Act → World → Prop} {x : Operand} {src dst e : TypeId} {s : ByteArray} {u : TypeDesc}
    (hgd : o.guard = none) (ho : o.op = .convert src dst x) (hs : P.underlying src = some u) (hd : P.underlying dst = some (.slice e)) (he : P.underlying e = some (.int .u8)) (hx : a.eval x = .string s)
    (k : wpList P ops Q rest (a.put o.dst (.slice (some ⟨w.heap.size, 0, none⟩) s.size (grownCap w s.size 0 e))) (Lib.bytesWorld w e s)) : wpList P ops Q (o :: rest) a w := by
  refine wpList_plain hgd fun _ hK => ?_
  have hr := Lib.run_convert_string_bytes (P := P) w src dst e s hs hd he
  unfold Oper.wp execOp
  simp only [ho, Sem.run_bind, Sem.run_pure, Result.andThen_ok, hx, hr]
  exact hK _ _ k
theorem dig_step {n : Nat} (h : ¬ n < 10) : Lib.decDigits n = Lib.decDigits (n / 10) ++ [UInt8.ofNat (48 + n % 10)] := by rw [Lib.decDigits, dif_neg h]
theorem dig_small {n : Nat} (h : n < 10) : Lib.decDigits n = [UInt8.ofNat (48 + n)] := by rw [Lib.decDigits, dif_pos h]
def restDig (n : Nat) : List UInt8 := if n = 0 then [] else Lib.decDigits n
theorem rest_step {n : Nat} (h : n ≠ 0) (t : List UInt8) : restDig (n / 10) ++ (UInt8.ofNat (48 + n % 10) :: t) = restDig n ++ t := by
  unfold restDig
  rw [if_neg h]
  by_cases h10 : n < 10
  · rw [if_pos (by omega), dig_small h10, show n % 10 = n by omega]; rfl
  · rw [if_neg (by omega), dig_step h10]; simp
theorem one_byte (d : Nat) (hd : d < 10) (s : ByteArray) : (⟨#[UInt8.ofNat (48 + d)]⟩ : ByteArray) ++ s = ⟨(UInt8.ofNat (48 + d) :: s.data.toList).toArray⟩ := by
  apply ByteArray.ext
  rw [ByteArray.data_append]
  apply Array.toList_inj.1
  simp
set_option maxRecDepth 20000 in
theorem specFormatInt_c (w : World) (n : Int) (hn : I64 n) (hr : inR n 0 999 = true) : Calls Tryz.prog 76 #[.int .i64 n] w (Ret w (.string (numeral n))) := by
  unfold inR at hr
  simp only [Bool.and_eq_true, decide_eq_true_eq] at hr
  obtain ⟨m, rfl⟩ : ∃ m : Nat, n = m := ⟨n.toNat, by omega⟩
  have hm : m < 1000 := by omega
  clear hr hn
  have hnum : numeral (m : Int) = ⟨(Lib.decDigits m).toArray⟩ := by
    unfold numeral Lib.itoa
    rw [if_neg (by omega)]
    rfl
  generalize numeral (m : Int) = res at *
  have HRES := Lib.hid hnum; clear hnum
  by_cases h0 : m = 0
  · subst h0
    have hr : res = ⟨#[48]⟩ := by rw [HRES.out, dig_small (by omega)]; rfl
    subst hr
    clear HRES
    go_enter Tryz.func76, Tryz.ntmps76
    go_wp2
    go_ret
    exact ⟨rfl, Below.refl _ _⟩
  · have hm0 : ¬ ((m : Int) = 0) := by omega
    have hm1 : ¬ ((m : Int) < 0) := by omega
    go_enter Tryz.func76, Tryz.ntmps76
    go_wp2
    go_loopw [0, 4] (fun i s wr => ∃ (k : Nat) (t : ByteArray), k < 1000 ∧ i = .int .i64 k ∧ s = .string t ∧ t.size ≤ 1000 - k ∧ Below w.heap.size w wr ∧ Hid (restDig k ++ t.data.toList = Lib.decDigits m)) (fun i _ _ => (intOf i).toNat)
    case atStart => exact ⟨m, ⟨#[]⟩, hm, rfl, rfl, by simp [ByteArray.size], Below.refl _ _, Lib.hid (by unfold restDig; rw [if_neg h0]; simp)⟩
    case round =>
      obtain ⟨k, t, hk, rfl, rfl, hts, hB, hd⟩ := hrel
      by_cases hk0 : k = 0
      · subst hk0
        have hrt : res = t := by
          have h1 := hd.out
          unfold restDig at h1
          rw [if_pos rfl, List.nil_append] at h1
          rw [HRES.out, ← h1]
        subst hrt
        clear HRES hd
        go_wp2
        go_ret
        exact ⟨rfl, hB⟩
      · have hk1 : ¬ ((k : Int) = 0) := by omega
        have hd10 : k % 10 < 10 := Nat.mod_lt _ (by decide)
        have hd0 : ¬ ((k : Int) % 10 < 0) := by omega
        have hcv : ∀ g : World, (convert 97 9 (.slice (some ⟨g.heap.size, 0, none⟩) 1 1)).run Tryz.prog (g.alloc (.cells #[.int .u8 (48 + (k : Int) % 10)] 5)) = .ok (.string ⟨#[UInt8.ofNat (48 + k % 10)]⟩) (g.alloc (.cells #[.int .u8 (48 + (k : Int) % 10)] 5)) := fun g => by
          have h := Lib.run_convert_whole (P := Tryz.prog) (g.alloc (.cells #[.int .u8 (48 + (k : Int) % 10)] 5)) 97 5 9 Tryz.underlying97 Tryz.underlying5 Tryz.underlying9 g.heap.size 0 ⟨#[UInt8.ofNat (48 + k % 10)]⟩ (fun i hi => by
            have hi0 : i = 0 := by have : i < 1 := hi; omega
            subst hi0
            have he : (48 + (k : Int) % 10) = ((UInt8.ofNat (48 + k % 10)).toNat : Int) := by rw [UInt8.toNat_ofNat']; omega
            show (g.alloc _).cell? ⟨g.heap.size, 0 + 0, none⟩ = some (.int .u8 ((UInt8.ofNat (48 + k % 10)).toNat : Int))
            rw [← he]
            simp [go_sem]) 1
          exact h
        go_wp2_with (go_at_call 91; have hfg := (fun w1 => figure_c w1 (k % 10) hd10); rw [show (((k % 10 : Nat)) : Int) = (k : Int) % 10 by omega] at hfg; refine call_ret (w := w) (hfg _) (by go_grown) ?_; clear hfg; intro g1 hG1 hb hz1 hz2; clear hb)
        go_roundw
        case rel => exact ⟨k / 10, ⟨#[UInt8.ofNat (48 + k % 10)]⟩ ++ t, by omega, by first | rfl | go_num, by rw [UInt8.ofNat_add]; rfl, by rw [ByteArray.size_append]; have : (⟨#[UInt8.ofNat (48 + k % 10)]⟩ : ByteArray).size = 1 := rfl; omega, by go_grown, Lib.hid (by rw [one_byte _ hd10]; show restDig (k / 10) ++ (UInt8.ofNat (48 + k % 10) :: t.data.toList) = _; rw [rest_step hk0]; exact hd.out)⟩
        case measure => simp [intOf]; omega
set_option maxRecDepth 20000 in
set_option maxHeartbeats 2000000 in
theorem implEncode_c (w : World) (n : Int) (hn : I64 n) (ht : tabOk w) : Calls Tryz.prog 58 #[.int .i64 n] w (Ret w (.string (encodeInt n))) := by
  have HN := Lib.hid hn; clear hn
  have HT := Lib.hid ht; clear ht
  have he : inR n 0 999 = false → encodeInt n = ⟨#[]⟩ := encode_no
  have he2 : inR n 0 999 = true → encodeInt n = shift (numeral n) (numeral n).size := encode_yes
  generalize encodeInt n = res at *
  cases h : inR n 0 999
  · obtain rfl := he h
    have HR := Lib.hid h; clear h he he2
    go_enter Tryz.func58, Tryz.ntmps58
    go_wp2_with (first | (go_at_call 53; refine call_ret (w := w) (within_b _ n 0 999 false HR.out) (by go_grown) ?_; intro g1 hG1 hb hz1 hz2; clear hb hz2))
    go_ret
    exact ⟨rfl, by go_grown⟩
  · have HR := Lib.hid h; clear h
    have hres := he2 HR.out
    clear he he2
    generalize hs : numeral n = s at *
    have hsz : s.size ≤ 20 := by rw [← hs]; exact numeral_size HR.out
    have HS := Lib.hid hs; clear hs
    have HRES := Lib.hid hres; clear hres
    go_enter Tryz.func58, Tryz.ntmps58
    have hconv : ∀ w, (convert 9 97 (.string s)).run Tryz.prog w = .ok (.slice (some ⟨w.heap.size, 0, none⟩) s.size (grownCap w s.size 0 5)) (Lib.bytesWorld w 5 s) := fun w => Lib.run_convert_string_bytes w 9 97 5 s Tryz.underlying9 Tryz.underlying97 Tryz.underlying5
    go_wp2_with (first | (go_at_call 53; refine call_ret (w := w) (within_b _ n 0 999 true HR.out) (by go_grown) ?_; intro g1 hG1 hb hz1 hz2; clear hb hz2) | (go_at_call 83; have hcon := (fun w1 h => implFormatInt_c w1 n HN.out h); rw [HS.out] at hcon; refine call_ret (w := w) (hcon _ (HT.out.keep (by go_grown))) (by go_grown) ?_; clear hcon; intro g2 hG2 hb2 hz3 hz4; clear hb2 hz4; have HG2 := Lib.hid hG2))
    clear hconv
    have hB3 := (Lib.hid (Below.trans HG2.out (Go.Joins.below_bytesWorld w.heap.size g2 5 s (by omega))))
    have hs3 := Lib.bytesWorld_size g2 5 s
    have HST := Lib.hid (bytes_start g2 s)
    have HFZ := Lib.hid (frozen_start g2 5 s)
    generalize hcap : grownCap g2 s.size 0 5 = cap
    clear hcap
    generalize hw3 : Lib.bytesWorld g2 5 s = w3 at *
    clear hw3
    go_loopw [13] (fun i wr => ∃ k : Nat, k ≤ s.size ∧ i = .int .i64 k ∧ Below w.heap.size w wr ∧ g2.heap.size < wr.heap.size ∧ Hid (Lib.Bytes wr g2.heap.size 0 (shift s k)) ∧ Hid (∀ j, j < s.size → wr.frozen? ⟨g2.heap.size, j, none⟩ = false)) (fun i _ => s.size - (intOf i).toNat)
    case atStart => exact ⟨0, Nat.zero_le _, rfl, hB3.out, by omega, HST, HFZ⟩
    case round =>
      clear hB3 HST HFZ hs3
      obtain ⟨k, hk, rfl, hB, hlt, hby, hfz⟩ := hrel
      by_cases hkl : k < s.size
      · have hc := hby.out k (by rw [shift_size]; exact hkl)
        rw [shift_at, if_neg (Nat.lt_irrefl _), Nat.zero_add] at hc
        have hf := hfz.out k hkl
        have hx : ∃ x, s[k] = x := ⟨_, rfl⟩
        obtain ⟨x, hx⟩ := hx
        rw [hx] at hc
        have HX := Lib.hid hx; clear hx
        have hv := plus49' x
        go_wp2
        go_roundw
        case rel => exact ⟨k + 1, by omega, by go_num, below_set hB (by omega), by rw [World.size_setCell]; exact hlt, Lib.hid (bytes_set hby.out hkl _ (by first | (rw [HX.out, IntKind.wrap_u8]; done) | (rw [HX.out, IntKind.wrap_u8]; omega))), Lib.hid (fun j hj => by rw [World.frozen?_setCell]; exact hfz.out j hj)⟩
        case measure => simp [intOf]; omega
      · obtain rfl : k = s.size := by omega
        obtain rfl := HRES.out
        have hcv := Lib.run_convert_whole (P := Tryz.prog) wr 97 5 9 Tryz.underlying97 Tryz.underlying5 Tryz.underlying9 g2.heap.size 0 (shift s s.size) hby.out
        rw [shift_size] at hcv
        go_wp2
        go_ret
        exact ⟨rfl, hB⟩
set_option maxRecDepth 20000 in
set_option maxHeartbeats 2000000 in
theorem specEncode_c (w : World) (n : Int) (hn : I64 n) : Calls Tryz.prog 44 #[.int .i64 n] w (Ret w (.string (encodeInt n))) := by
  have HN := Lib.hid hn; clear hn
  have he : inR n 0 999 = false → encodeInt n = ⟨#[]⟩ := encode_no
  have he2 : inR n 0 999 = true → encodeInt n = shift (numeral n) (numeral n).size := encode_yes
  generalize encodeInt n = res at *
  cases h : inR n 0 999
  · obtain rfl := he h
    have HR := Lib.hid h; clear h he he2
    go_enter Tryz.func44, Tryz.ntmps44
    go_wp2_with (first | (go_at_call 19; refine call_ret (w := w) (l01In_b _ n 0 999 false HR.out) (by go_grown) ?_; intro g1 hG1 hb hz1 hz2; clear hb hz2))
    go_ret
    exact ⟨rfl, by go_grown⟩
  · have HR := Lib.hid h; clear h
    have hres := he2 HR.out
    clear he he2
    generalize hs : numeral n = s at *
    have hsz : s.size ≤ 20 := by rw [← hs]; exact numeral_size HR.out
    have HS := Lib.hid hs; clear hs
    have HRES := Lib.hid hres; clear hres
    go_enter Tryz.func44, Tryz.ntmps44
    have hconv : ∀ w, (convert 9 97 (.string s)).run Tryz.prog w = .ok (.slice (some ⟨w.heap.size, 0, none⟩) s.size (grownCap w s.size 0 5)) (Lib.bytesWorld w 5 s) := fun w => Lib.run_convert_string_bytes w 9 97 5 s Tryz.underlying9 Tryz.underlying97 Tryz.underlying5
    go_wp2_with (first | (go_at_call 19; refine call_ret (w := w) (l01In_b _ n 0 999 true HR.out) (by go_grown) ?_; intro g1 hG1 hb hz1 hz2; clear hb hz2) | (go_at_call 76; have hcon := (fun w1 => specFormatInt_c w1 n HN.out HR.out); rw [HS.out] at hcon; refine call_ret (w := w) (hcon _) (by go_grown) ?_; clear hcon; intro g2 hG2 hb2 hz3 hz4; clear hb2 hz4; have HG2 := Lib.hid hG2))
    clear hconv
    have hB3 := (Lib.hid (Below.trans HG2.out (Go.Joins.below_bytesWorld w.heap.size g2 5 s (by omega))))
    have hs3 := Lib.bytesWorld_size g2 5 s
    have HST := Lib.hid (bytes_start g2 s)
    have HFZ := Lib.hid (frozen_start g2 5 s)
    generalize hcap : grownCap g2 s.size 0 5 = cap
    clear hcap
    generalize hw3 : Lib.bytesWorld g2 5 s = w3 at *
    clear hw3
    go_loopw [4] (fun i wr => ∃ k : Nat, k ≤ s.size ∧ i = .int .i64 k ∧ Below w.heap.size w wr ∧ g2.heap.size < wr.heap.size ∧ Hid (Lib.Bytes wr g2.heap.size 0 (shift s k)) ∧ Hid (∀ j, j < s.size → wr.frozen? ⟨g2.heap.size, j, none⟩ = false)) (fun i _ => s.size - (intOf i).toNat)
    case atStart => exact ⟨0, Nat.zero_le _, rfl, hB3.out, by omega, HST, HFZ⟩
    case round =>
      clear hB3 HST HFZ hs3
      obtain ⟨k, hk, rfl, hB, hlt, hby, hfz⟩ := hrel
      by_cases hkl : k < s.size
      · have hc := hby.out k (by rw [shift_size]; exact hkl)
        rw [shift_at, if_neg (Nat.lt_irrefl _), Nat.zero_add] at hc
        have hf := hfz.out k hkl
        have hx : ∃ x, s[k] = x := ⟨_, rfl⟩
        obtain ⟨x, hx⟩ := hx
        rw [hx] at hc
        have HX := Lib.hid hx; clear hx
        have hv := plus49' x
        go_wp2
        go_roundw
        case rel => exact ⟨k + 1, by omega, by go_num, below_set hB (by omega), by rw [World.size_setCell]; exact hlt, Lib.hid (bytes_set hby.out hkl _ (by first | (rw [HX.out, IntKind.wrap_u8]; done) | (rw [HX.out, IntKind.wrap_u8]; omega))), Lib.hid (fun j hj => by rw [World.frozen?_setCell]; exact hfz.out j hj)⟩
        case measure => simp [intOf]; omega
      · obtain rfl : k = s.size := by omega
        obtain rfl := HRES.out
        have hcv := Lib.run_convert_whole (P := Tryz.prog) wr 97 5 9 Tryz.underlying97 Tryz.underlying5 Tryz.underlying9 g2.heap.size 0 (shift s s.size) hby.out
        rw [shift_size] at hcv
        go_wp2
        go_ret
        exact ⟨rfl, hB⟩
end Go.Proofs.YtdakhddpcfimaaaGreatDoor
namespace Go.Proofs.YtdakhddpcfimaaaGreatDoor
open Go.RowKit
open GoD (rd own)
theorem eqb_ne {α : Type} [GoD α] {a b : α} (h : ¬ a = b) : eqb a b = false := by
  unfold eqb
  exact @decide_eq_false _ (_) h
theorem decFrom_append (r : List UInt8) : ∀ (l : List UInt8) (acc : Nat), Lib.decFrom acc (l ++ r) = (Lib.decFrom acc l).bind (fun a => Lib.decFrom a r)
  | [], acc => rfl
  | b :: l, acc => by
    simp only [List.cons_append, Lib.decFrom]
    cases Lib.digitVal b with
    | none => rfl
    | some d => exact decFrom_append r l _
theorem digitVal_of (d : Nat) (h : d < 10) : Lib.digitVal (UInt8.ofNat (48 + d)) = some d := by
  have h1 : (UInt8.ofNat (48 + d)).toNat = 48 + d := by rw [UInt8.toNat_ofNat']; omega
  unfold Lib.digitVal
  rw [h1, if_pos (by omega)]
  congr 1
  omega
theorem decFrom_digits : ∀ n : Nat, Lib.decFrom 0 (Lib.decDigits n) = some n := by
  intro n
  induction n using Nat.strongRecOn with
  | ind n ih =>
    by_cases h : n < 10
    · rw [dig_small h]
      simp only [Lib.decFrom, digitVal_of n h]
      simp
    · rw [dig_step h, decFrom_append, ih (n / 10) (by omega)]
      simp only [Option.bind_some, Lib.decFrom, digitVal_of (n % 10) (Nat.mod_lt _ (by decide))]
      congr 1
      omega
theorem digits_all : ∀ n : Nat, ∀ b, b ∈ Lib.decDigits n → 48 ≤ b.toNat ∧ b.toNat ≤ 57 := by
  intro n
  induction n using Nat.strongRecOn with
  | ind n ih =>
    intro b hb
    by_cases h : n < 10
    · rw [dig_small h] at hb
      have e := List.mem_singleton.1 hb
      rw [e, UInt8.toNat_ofNat']
      omega
    · rw [dig_step h] at hb
      rcases List.mem_append.1 hb with hb | hb
      · exact ih (n / 10) (by omega) b hb
      · have e := List.mem_singleton.1 hb
        rw [e, UInt8.toNat_ofNat']
        omega
theorem digits_ne (n : Nat) : Lib.decDigits n ≠ [] := by
  by_cases h : n < 10
  · rw [dig_small h]; simp
  · rw [dig_step h]; simp
theorem atoi_digits (n : Nat) : Lib.atoi (Lib.decDigits n) = some (n : Int) := by
  have h1 := decFrom_digits n
  have h2 := digits_all n
  have h3 := digits_ne n
  generalize Lib.decDigits n = l at *
  cases l with
  | nil => exact absurd rfl h3
  | cons b r =>
    have hb := h2 b (by simp)
    have e45 : (b == 45) = false := by
      rw [beq_eq_false_iff_ne]
      intro e
      rw [e] at hb
      exact absurd hb.1 (by decide)
    have e43 : (b == 43) = false := by
      rw [beq_eq_false_iff_ne]
      intro e
      rw [e] at hb
      exact absurd hb.1 (by decide)
    simp only [Lib.atoi, e45, e43, Lib.decNat, List.isEmpty_cons, h1]
    rfl
theorem digits_len : ∀ (k n : Nat), n < 10 ^ (k + 1) → (Lib.decDigits n).length ≤ k + 1
  | 0, n, h => by rw [dig_small (by simpa using h)]; simp
  | k + 1, n, h => by
    by_cases h10 : n < 10
    · rw [dig_small h10]; simp
    · have := digits_len k (n / 10) (by rw [Nat.pow_succ] at h; omega)
      rw [dig_step h10, List.length_append]
      simp only [List.length_singleton]
      omega
theorem numeral_nat (n : Nat) : numeral (n : Int) = ⟨(Lib.decDigits n).toArray⟩ := by
  unfold numeral Lib.itoa
  rw [if_neg (by omega)]
  rfl
theorem numeral_list (n : Nat) : (numeral (n : Int)).data.toList = Lib.decDigits n := by rw [numeral_nat]
theorem numeral_inj {n m : Nat} (h : numeral (n : Int) = numeral (m : Int)) : n = m := by
  have h1 := atoi_digits n
  have h2 := atoi_digits m
  rw [← numeral_list, h, numeral_list, h2] at h1
  have := Option.some.inj h1
  omega
noncomputable def parseU (s : ByteArray) : Option Nat := @dite _ (∃ n : Nat, n ≤ 1000000000 ∧ numeral (n : Int) = s) (Classical.propDecidable _) (fun h => some h.choose) (fun _ => none)
theorem parseU_yes {s : ByteArray} {n : Nat} (h : n ≤ 1000000000) (e : numeral (n : Int) = s) : parseU s = some n := by
  have hex : ∃ n : Nat, n ≤ 1000000000 ∧ numeral (n : Int) = s := ⟨n, h, e⟩
  unfold parseU
  rw [dif_pos hex]
  congr 1
  exact numeral_inj (hex.choose_spec.2.trans e.symm)
theorem parseU_no {s : ByteArray} (h : ∀ n : Nat, n ≤ 1000000000 → numeral (n : Int) ≠ s) : parseU s = none := by
  unfold parseU
  rw [dif_neg (fun ⟨n, h1, h2⟩ => h n h1 h2)]
def optV : Option Nat → Value
  | some n => .tuple #[.int .i64 n, .bool true]
  | none => .tuple #[.int .i64 0, .bool false]
def errOk (w : World) : Prop := ∃ tp p, w.var? Tryz.prog "strconv.ErrSyntax" = some #[.iface tp p]
theorem gErr : Tryz.prog.globalNamed "strconv.ErrSyntax" = some 0 := by kernel_rfl
theorem errOk.keep {w w' : World} (h : errOk w) (hb : Below w.heap.size w w') : errOk w' := by
  obtain ⟨tp, p, h⟩ := h
  exact ⟨tp, p, Go.Joins.var_stays gErr h hb (Nat.le_refl _)⟩
set_option maxRecDepth 20000 in
theorem implParseUint_c (w : World) (s : ByteArray) (hs : s.size ≤ maxLen) (ht : tabOk w) (he : errOk w) : Calls Tryz.prog 84 #[.string s] w (Ret w (optV (parseU s))) := by
  unfold maxLen at hs
  have HT := Lib.hid ht; clear ht
  have HE := Lib.hid he; clear he
  by_cases hlen : 10 < s.size
  · have hno : parseU s = none := parseU_no fun n hn e => by
      have h1 := digits_len 9 n (by omega)
      have h2 : s.size = (Lib.decDigits n).length := by rw [← e, numeral_nat]; simp [ByteArray.size]
      omega
    rw [hno]
    clear hno
    go_enter Tryz.func84, Tryz.ntmps84
    go_wp2
    refine bodyPost_ret (v := .tuple #[.int .i64 0, .bool false]) (by simp [results, Tryz.results84, go_sem]) rfl ⟨rfl, Below.refl _ _⟩
  · cases ha : Lib.atoi s.data.toList with
    | none =>
      have hno : parseU s = none := parseU_no fun n hn e => by
        rw [← e, numeral_list, atoi_digits] at ha
        cases ha
      rw [hno]
      clear hno
      have HA := Lib.hid ha; clear ha
      go_enter Tryz.func84, Tryz.ntmps84
      go_wp2_with (go_at_call 95; obtain ⟨tp, p, hv⟩ := HE.out; refine (Sh.strconv_Atoi_err_var s (by omega) HA.out tp p w hv).mono ?_; clear hv; rintro e1 w1 ⟨N, rfl, hN, _, hb⟩; have HB := Lib.hid hb; clear hb)
      refine bodyPost_ret (v := .tuple #[.int .i64 0, .bool false]) (by simp [results, Tryz.results84, go_sem]) rfl ⟨rfl, HB.out⟩
    | some v =>
      have hun : ∀ n : Nat, numeral (n : Int) = s → v = (n : Int) := fun n e => by
        rw [← e, numeral_list, atoi_digits] at ha
        exact (Option.some.inj ha).symm
      have HUN := Lib.hid hun; clear hun
      have HA := Lib.hid ha; clear ha
      cases hr : inR v 0 1000000000
      · have hno : parseU s = none := parseU_no fun n hn e => by
          have h1 := HUN.out n e
          rw [h1, inR_true (by omega) (by omega)] at hr
          cases hr
        rw [hno]
        clear hno
        have HR := Lib.hid hr; clear hr
        go_enter Tryz.func84, Tryz.ntmps84
        go_wp2_with (first | (go_at_call 95; refine (Sh.strconv_Atoi s _ (by omega) HA.out w).mono ?_; rintro e1 w1 ⟨rfl, t1, hw1⟩; have hG1 : Below w.heap.size w w1 := (by rw [hw1]; exact Go.Joins.below_bytesWorld _ _ _ _ (Nat.le_refl _)); clear hw1; have hz1 := hG1.size) | (go_at_call 53; refine call_ret (w := w) (within_b _ v 0 1000000000 false HR.out) (by go_grown) ?_; intro g2 hG2 hb2 hz3 hz4; clear hb2 hz4))
        refine bodyPost_ret (v := .tuple #[.int .i64 0, .bool false]) (by simp [results, Tryz.results84, go_sem]) rfl ⟨rfl, (by go_grown)⟩
      · have hrn : ∃ n : Nat, v = (n : Int) ∧ n ≤ 1000000000 := by
          unfold inR at hr
          simp only [Bool.and_eq_true, decide_eq_true_eq] at hr
          exact ⟨v.toNat, by omega, by omega⟩
        obtain ⟨n, rfl, hn⟩ := hrn
        have HR := Lib.hid hr; clear hr
        have hni : I64 (n : Int) := by unfold I64; omega
        have HNI := Lib.hid hni; clear hni
        by_cases he : numeral (n : Int) = s
        · rw [parseU_yes hn he]
          have HEQ := Lib.hid he; clear he
          go_enter Tryz.func84, Tryz.ntmps84
          go_wp2_with (first | (go_at_call 95; refine (Sh.strconv_Atoi s _ (by omega) HA.out w).mono ?_; rintro e1 w1 ⟨rfl, t1, hw1⟩; have hG1 : Below w.heap.size w w1 := (by rw [hw1]; exact Go.Joins.below_bytesWorld _ _ _ _ (Nat.le_refl _)); clear hw1; have hz1 := hG1.size) | (go_at_call 53; refine call_ret (w := w) (within_b _ n 0 1000000000 true HR.out) (by go_grown) ?_; intro g2 hG2 hb2 hz3 hz4; clear hb2 hz4) | (go_at_call 83; have hcon := (fun w1 h => implFormatInt_c w1 n HNI.out h); rw [HEQ.out] at hcon; refine call_ret (w := w) (hcon _ (HT.out.keep (by go_grown))) (by go_grown) ?_; clear hcon; intro g3 hG3 hb3 hz5 hz6; clear hb3 hz6))
          refine bodyPost_ret (v := .tuple #[.int .i64 n, .bool true]) (by simp [results, Tryz.results84, go_sem]) rfl ⟨rfl, (by go_grown)⟩
        · have hno : parseU s = none := parseU_no fun m hm e => by
            have h1 := HUN.out m e
            have h2 : n = m := by omega
            exact he (h2 ▸ e)
          rw [hno]
          clear hno
          generalize hu : numeral (n : Int) = u at *
          have HU := Lib.hid hu; clear hu
          have hne : (u.toList == s.toList) = false := by rw [eqb_str]; exact eqb_ne he
          go_enter Tryz.func84, Tryz.ntmps84
          go_wp2_with (first | (go_at_call 95; refine (Sh.strconv_Atoi s _ (by omega) HA.out w).mono ?_; rintro e1 w1 ⟨rfl, t1, hw1⟩; have hG1 : Below w.heap.size w w1 := (by rw [hw1]; exact Go.Joins.below_bytesWorld _ _ _ _ (Nat.le_refl _)); clear hw1; have hz1 := hG1.size) | (go_at_call 53; refine call_ret (w := w) (within_b _ n 0 1000000000 true HR.out) (by go_grown) ?_; intro g2 hG2 hb2 hz3 hz4; clear hb2 hz4) | (go_at_call 83; have hcon := (fun w1 h => implFormatInt_c w1 n HNI.out h); rw [HU.out] at hcon; refine call_ret (w := w) (hcon _ (HT.out.keep (by go_grown))) (by go_grown) ?_; clear hcon; intro g3 hG3 hb3 hz5 hz6; clear hb3 hz6))
          refine bodyPost_ret (v := .tuple #[.int .i64 0, .bool false]) (by simp [results, Tryz.results84, go_sem]) rfl ⟨rfl, (by go_grown)⟩
end Go.Proofs.YtdakhddpcfimaaaGreatDoor
namespace Go.Proofs.YtdakhddpcfimaaaGreatDoor
open Go.RowKit
open GoD (rd own)
theorem parseU_some {s : ByteArray} {n : Nat} (h : parseU s = some n) : n ≤ 1000000000 ∧ numeral (n : Int) = s := by
  by_cases hex : ∃ n : Nat, n ≤ 1000000000 ∧ numeral (n : Int) = s
  · unfold parseU at h
    rw [dif_pos hex] at h
    have := hex.choose_spec
    rw [Option.some.inj h] at this
    exact this
  · unfold parseU at h
    rw [dif_neg hex] at h
    cases h
def unsh (s : ByteArray) (k : Nat) : ByteArray := ⟨s.data.mapIdx (fun i x => if i < k then x - 49 else x)⟩
theorem unsh_size (s : ByteArray) (k : Nat) : (unsh s k).size = s.size := Array.size_mapIdx
theorem unsh_at (s : ByteArray) (k i : Nat) (h : i < (unsh s k).size) : (unsh s k)[i] = if i < k then s[i]'(by rw [unsh_size] at h; exact h) - 49 else s[i]'(by rw [unsh_size] at h; exact h) := by
  have h1 : i < (s.data.mapIdx (fun i x => if i < k then x - 49 else x)).size := h
  exact (Array.getElem_mapIdx h1)
theorem unsh_zero (s : ByteArray) : unsh s 0 = s := by
  unfold unsh
  congr 1
  apply Array.ext
  · simp
  · intro i h1 h2; simp
theorem bytes_ext {s t : ByteArray} (h : s.size = t.size) (h2 : ∀ i (h1 : i < s.size) (h3 : i < t.size), s[i] = t[i]) : s = t := by
  apply ByteArray.ext
  apply Array.ext
  · exact h
  · intro i h1 h3
    exact h2 i h1 h3
theorem unsh_shift (t : ByteArray) : unsh (shift t t.size) (shift t t.size).size = t := by
  refine bytes_ext (by rw [unsh_size, shift_size]) fun i h1 h3 => ?_
  rw [unsh_at, if_pos (by rw [shift_size]; exact h3), shift_at, if_pos h3, UInt8.add_sub_cancel]
theorem shift_unsh (s : ByteArray) : shift (unsh s s.size) (unsh s s.size).size = s := by
  refine bytes_ext (by rw [shift_size, unsh_size]) fun i h1 h3 => ?_
  rw [shift_at, if_pos (by rw [unsh_size]; exact h3), unsh_at, if_pos h3, UInt8.sub_add_cancel]
theorem encode_nat {n : Nat} (h : n ≤ 999) : encodeInt (n : Int) = shift (numeral n) (numeral n).size := encode_yes (inR_true (by omega) (by omega))
theorem encode_iff {n : Nat} (h : n ≤ 999) {s : ByteArray} : encodeInt (n : Int) = s ↔ numeral (n : Int) = unsh s s.size := by
  rw [encode_nat h]
  constructor
  · intro e
    rw [← e, unsh_shift]
  · intro e
    rw [e, shift_unsh]
theorem encode_bytes {n : Nat} (h : n ≤ 999) {s : ByteArray} (e : encodeInt (n : Int) = s) (i : Nat) (hi : i < s.size) : 97 ≤ s[i].toNat ∧ s[i].toNat ≤ 106 := by
  rw [encode_nat h] at e
  subst e
  have hi' : i < (numeral (n : Int)).size := by rw [shift_size] at hi; exact hi
  rw [shift_at, if_pos hi']
  have hd := digits_all n ((numeral (n : Int))[i]) (by
    rw [← numeral_list]
    exact List.mem_iff_getElem.2 ⟨i, by rw [Array.length_toList]; exact hi', rfl⟩)
  have h49 : (49 : UInt8).toNat = 49 := rfl
  rw [UInt8.toNat_add, h49]
  omega
theorem encode_len {n : Nat} (h : n ≤ 999) : (encodeInt (n : Int)).size ≤ 3 := by
  rw [encode_nat h, shift_size, numeral_nat]
  have := digits_len 2 n (by omega)
  simpa [ByteArray.size] using this
noncomputable def decD (s : ByteArray) : Option Nat := @dite _ (∃ n : Nat, n ≤ 999 ∧ encodeInt (n : Int) = s) (Classical.propDecidable _) (fun h => some h.choose) (fun _ => none)
theorem decD_yes {s : ByteArray} {n : Nat} (h : n ≤ 999) (e : encodeInt (n : Int) = s) : decD s = some n := by
  have hex : ∃ n : Nat, n ≤ 999 ∧ encodeInt (n : Int) = s := ⟨n, h, e⟩
  unfold decD
  rw [dif_pos hex]
  congr 1
  have h1 := (encode_iff hex.choose_spec.1).1 hex.choose_spec.2
  have h2 := (encode_iff h).1 e
  exact numeral_inj (h1.trans h2.symm)
theorem decD_no {s : ByteArray} (h : ∀ n : Nat, n ≤ 999 → encodeInt (n : Int) ≠ s) : decD s = none := by
  unfold decD
  rw [dif_neg (fun ⟨n, h1, h2⟩ => h n h1 h2)]
theorem minus49 (x : UInt8) : ((x - 49).toNat : Int) = IntKind.u8.wrap ((x.toNat : Int) - 49) := by
  have h49 : (49 : UInt8).toNat = 49 := rfl
  have hx := UInt8.toNat_lt x
  rw [IntKind.wrap_u8, UInt8.toNat_sub, h49]
  omega
theorem bytes_unset {w : World} {g : Nat} {s : ByteArray} {k : Nat} (h : Lib.Bytes w g 0 (unsh s k)) (hk : k < s.size) (v : Int) (hv : v = IntKind.u8.wrap ((s[k].toNat : Int) - 49)) : Lib.Bytes (w.setCell ⟨g, k, none⟩ (.int .u8 v)) g 0 (unsh s (k + 1)) := by
  intro i hi
  rw [unsh_at]
  have hi' : i < s.size := by rw [unsh_size] at hi; exact hi
  have h0 := h i (by rw [unsh_size]; exact hi')
  rw [unsh_at] at h0
  rw [Nat.zero_add] at h0 ⊢
  by_cases e : i = k
  · subst e
    rw [World.cell?_setCell_same _ _ _ h0, if_pos (Nat.lt_succ_self _), minus49, hv]
  · rw [World.cell?_setCell_other _ _ _ _ (fun h1 : (⟨g, k, none⟩ : Addr) = ⟨g, i, none⟩ => e (by injection h1 with _ h2 _; exact h2.symm)), h0]
    congr 3
    by_cases hlt : i < k
    · rw [if_pos hlt, if_pos (by omega)]
    · rw [if_neg hlt, if_neg (by omega)]
theorem bytes_start0 (w : World) (s : ByteArray) : Lib.Bytes (Lib.bytesWorld w 5 s) w.heap.size 0 (unsh s 0) := by
  have h := bytes_start w s
  rw [shift_zero] at h
  rw [unsh_zero]
  exact h
set_option maxRecDepth 20000 in
set_option maxHeartbeats 1000000 in
theorem specDecode_c (w : World) (s : ByteArray) (hs : s.size ≤ maxLen) : Calls Tryz.prog 45 #[.string s] w (Ret w (optV (decD s))) := by
  unfold maxLen at hs
  have hY : ∀ n : Nat, n ≤ 999 → encodeInt (n : Int) = s → decD s = some n := fun n h e => decD_yes h e
  have hN : (∀ n : Nat, n ≤ 999 → encodeInt (n : Int) ≠ s) → decD s = none := decD_no
  generalize decD s = r at *
  have HY := Lib.hid hY; clear hY
  have HNO := Lib.hid hN; clear hN
  by_cases hl : s.size ≤ 3
  · have hl3 : (s.size : Int) ≤ 3 := by omega
    go_enter Tryz.func45, Tryz.ntmps45
    go_wp2
    go_loopw [4] (fun i wr => ∃ k : Nat, k ≤ 1000 ∧ i = .int .i64 k ∧ Below w.heap.size w wr ∧ Hid (∀ j : Nat, j < k → encodeInt (j : Int) ≠ s)) (fun i _ => 1000 - (intOf i).toNat)
    case atStart => exact ⟨0, by omega, rfl, Below.refl _ _, Lib.hid (fun j hj => absurd hj (Nat.not_lt_zero _))⟩
    case round =>
      obtain ⟨k, hk, rfl, hB, hno⟩ := hrel
      by_cases hk9 : k ≤ 999
      · have hki : I64 (k : Int) := by unfold I64; omega
        have HK := Lib.hid hki; clear hki
        have hk9i : (k : Int) ≤ 999 := by omega
        by_cases he : encodeInt (k : Int) = s
        · obtain rfl : r = some k := HY.out k hk9 he
          have HEQ := Lib.hid he; clear he
          go_wp2_with (first | (go_at_call 44; have hcon := (fun w1 => specEncode_c w1 (k : Int) HK.out); rw [HEQ.out] at hcon; refine call_ret (w := wr) (hcon _) (by go_grown) ?_; clear hcon; intro g1 hG1 hb hz1 hz2; clear hb hz2))
          refine bodyPost_ret (v := .tuple #[.int .i64 k, .bool true]) (by simp [results, Tryz.results45, go_sem]) rfl ⟨rfl, below_via hB hG1⟩
        · generalize hu : encodeInt (k : Int) = u at *
          have HU := Lib.hid hu; clear hu
          have hne : (u.toList == s.toList) = false := by rw [eqb_str]; exact eqb_ne he
          have HNE := Lib.hid he; clear he
          go_wp2_with (first | (go_at_call 44; have hcon := (fun w1 => specEncode_c w1 (k : Int) HK.out); rw [HU.out] at hcon; refine call_ret (w := wr) (hcon _) (by go_grown) ?_; clear hcon; intro g1 hG1 hb hz1 hz2; clear hb hz2))
          go_roundw
          case rel => exact ⟨k + 1, by omega, by go_num, below_via hB hG1, Lib.hid (fun j hj => by
            by_cases e : j = k
            · subst e
              rw [HU.out]
              exact HNE.out
            · exact hno.out j (by omega))⟩
          case measure => simp [intOf]; omega
      · obtain rfl : k = 1000 := by omega
        obtain rfl : r = none := HNO.out (fun n hn => hno.out n (by omega))
        go_wp2
        refine bodyPost_ret (v := .tuple #[.int .i64 0, .bool false]) (by simp [results, Tryz.results45, go_sem]) rfl ⟨rfl, hB⟩
  · obtain rfl : r = none := HNO.out (fun n hn e => by have := encode_len hn; rw [e] at this; omega)
    have hl3 : ¬ ((s.size : Int) ≤ 3) := by omega
    go_enter Tryz.func45, Tryz.ntmps45
    go_wp2
    go_loopw [4] (fun i wr => i = .int .i64 0 ∧ Below w.heap.size w wr) (fun i _ => 0)
    case atStart => exact ⟨rfl, Below.refl _ _⟩
    case round =>
      obtain ⟨rfl, hB⟩ := hrel
      go_wp2
      refine bodyPost_ret (v := .tuple #[.int .i64 0, .bool false]) (by simp [results, Tryz.results45, go_sem]) rfl ⟨rfl, hB⟩
set_option maxRecDepth 20000 in
set_option maxHeartbeats 2000000 in
theorem implDecode_c (w : World) (s : ByteArray) (hs : s.size ≤ maxLen) (ht : tabOk w) (he : errOk w) : Calls Tryz.prog 59 #[.string s] w (Ret w (optV (decD s))) := by
  have HS := Lib.hid hs
  unfold maxLen at hs
  have HT := Lib.hid ht; clear ht
  have HE := Lib.hid he; clear he
  have hY : ∀ n : Nat, n ≤ 999 → encodeInt (n : Int) = s → decD s = some n := fun n h e => decD_yes h e
  have hN : (∀ n : Nat, n ≤ 999 → encodeInt (n : Int) ≠ s) → decD s = none := decD_no
  generalize decD s = r at *
  have HY := Lib.hid hY; clear hY
  have HNO := Lib.hid hN; clear hN
  have hconv : ∀ w, (convert 9 97 (.string s)).run Tryz.prog w = .ok (.slice (some ⟨w.heap.size, 0, none⟩) s.size (grownCap w s.size 0 5)) (Lib.bytesWorld w 5 s) := fun w => Lib.run_convert_string_bytes w 9 97 5 s Tryz.underlying9 Tryz.underlying97 Tryz.underlying5
  go_enter Tryz.func59, Tryz.ntmps59
  go_wp2
  clear hconv
  have hB3 := (Lib.hid (Go.Joins.below_bytesWorld w.heap.size w 5 s (Nat.le_refl _)))
  have hs3 := Lib.bytesWorld_size w 5 s
  have HST := Lib.hid (bytes_start0 w s)
  have HFZ := Lib.hid (frozen_start w 5 s)
  generalize hcap : grownCap w s.size 0 5 = cap
  clear hcap
  generalize hw3 : Lib.bytesWorld w 5 s = w3 at *
  clear hw3
  go_loopw [12] (fun i wr => ∃ k : Nat, k ≤ s.size ∧ i = .int .i64 k ∧ Below w.heap.size w wr ∧ w.heap.size < wr.heap.size ∧ Hid (Lib.Bytes wr w.heap.size 0 (unsh s k)) ∧ Hid (∀ j, j < s.size → wr.frozen? ⟨w.heap.size, j, none⟩ = false)) (fun i _ => s.size - (intOf i).toNat)
  case atStart => exact ⟨0, Nat.zero_le _, rfl, hB3.out, by omega, HST, HFZ⟩
  case round =>
    clear hB3 HST HFZ hs3
    obtain ⟨k, hk, rfl, hB, hlt, hby, hfz⟩ := hrel
    by_cases hkl : k < s.size
    · have hc := hby.out k (by rw [unsh_size]; exact hkl)
      rw [unsh_at, if_neg (Nat.lt_irrefl _), Nat.zero_add] at hc
      have hf := hfz.out k hkl
      have hx : ∃ x, s[k] = x := ⟨_, rfl⟩
      obtain ⟨x, hx⟩ := hx
      rw [hx] at hc
      have HX := Lib.hid hx; clear hx
      by_cases h97 : (x.toNat : Int) < 97
      · obtain rfl : r = none := HNO.out (fun n hn e => by have := encode_bytes hn e k hkl; rw [HX.out] at this; omega)
        go_wp2
        refine bodyPost_ret (v := .tuple #[.int .i64 0, .bool false]) (by simp [results, Tryz.results59, go_sem]) rfl ⟨rfl, hB⟩
      by_cases h106 : 106 < (x.toNat : Int)
      · obtain rfl : r = none := HNO.out (fun n hn e => by have := encode_bytes hn e k hkl; rw [HX.out] at this; omega)
        go_wp2
        refine bodyPost_ret (v := .tuple #[.int .i64 0, .bool false]) (by simp [results, Tryz.results59, go_sem]) rfl ⟨rfl, hB⟩
      go_wp2
      go_roundw
      case rel => exact ⟨k + 1, by omega, by go_num, below_set hB (Nat.le_refl _), by rw [World.size_setCell]; exact hlt, Lib.hid (bytes_unset hby.out hkl _ (by first | (rw [HX.out, IntKind.wrap_u8]; done) | (rw [HX.out, IntKind.wrap_u8]; omega))), Lib.hid (fun j hj => by rw [World.frozen?_setCell]; exact hfz.out j hj)⟩
      case measure => simp [intOf]; omega
    · obtain rfl : k = s.size := by omega
      have hcv := Lib.run_convert_whole (P := Tryz.prog) wr 97 5 9 Tryz.underlying97 Tryz.underlying5 Tryz.underlying9 w.heap.size 0 (unsh s s.size) hby.out
      rw [unsh_size] at hcv
      have hts : (unsh s s.size).size ≤ maxLen := by rw [unsh_size]; exact HS.out
      have HTS := Lib.hid hts; clear hts
      have HU := Lib.hid (rfl : unsh s s.size = unsh s s.size)
      generalize ht : unsh s s.size = t at hcv HTS
      have HTT := Lib.hid ht; clear ht HU hby
      cases hp : parseU t with
      | none =>
        obtain rfl : r = none := HNO.out (fun n hn e => by have h1 := (encode_iff hn).1 e; rw [HTT.out] at h1; rw [parseU_yes (by omega) h1] at hp; cases hp)
        have HP := Lib.hid hp; clear hp
        have ho : optV none = .tuple #[.int .i64 0, .bool false] := rfl
        go_wp2_with (first | (go_at_call 84; have hcon := (fun w1 h1 h2 => implParseUint_c w1 t HTS.out h1 h2); rw [HP.out, ho] at hcon; refine call_ret (w := w) (hcon _ (HT.out.keep (by go_grown)) (HE.out.keep (by go_grown))) (by go_grown) ?_; clear hcon; intro g1 hG1 hb hz1 hz2; clear hb hz2))
        refine bodyPost_ret (v := .tuple #[.int .i64 0, .bool false]) (by simp [results, Tryz.results59, go_sem]) rfl ⟨rfl, (by go_grown)⟩
      | some n =>
        have ho : optV (some n) = .tuple #[.int .i64 n, .bool true] := rfl
        have hps := parseU_some hp
        have HP := Lib.hid hp; clear hp
        by_cases h9 : n ≤ 999
        · obtain rfl : r = some n := HY.out n h9 ((encode_iff h9).2 (hps.2.trans HTT.out.symm))
          have h9i : ¬ (999 < (n : Int)) := by omega
          go_wp2_with (first | (go_at_call 84; have hcon := (fun w1 h1 h2 => implParseUint_c w1 t HTS.out h1 h2); rw [HP.out, ho] at hcon; refine call_ret (w := w) (hcon _ (HT.out.keep (by go_grown)) (HE.out.keep (by go_grown))) (by go_grown) ?_; clear hcon; intro g1 hG1 hb hz1 hz2; clear hb hz2))
          refine bodyPost_ret (v := .tuple #[.int .i64 n, .bool true]) (by simp [results, Tryz.results59, go_sem]) rfl ⟨rfl, (by go_grown)⟩
        · obtain rfl : r = none := HNO.out (fun m hm e => by have h1 := (encode_iff hm).1 e; rw [HTT.out, ← hps.2] at h1; have := numeral_inj h1; omega)
          have h9i : 999 < (n : Int) := by omega
          go_wp2_with (first | (go_at_call 84; have hcon := (fun w1 h1 h2 => implParseUint_c w1 t HTS.out h1 h2); rw [HP.out, ho] at hcon; refine call_ret (w := w) (hcon _ (HT.out.keep (by go_grown)) (HE.out.keep (by go_grown))) (by go_grown) ?_; clear hcon; intro g1 hG1 hb hz1 hz2; clear hb hz2))
          refine bodyPost_ret (v := .tuple #[.int .i64 0, .bool false]) (by simp [results, Tryz.results59, go_sem]) rfl ⟨rfl, (by go_grown)⟩
end Go.Proofs.YtdakhddpcfimaaaGreatDoor
namespace Go.Proofs.YtdakhddpcfimaaaGreatDoor
open Go.RowKit
open GoD (rd own)
def lowB (b : UInt8) : Bool := decide (97 ≤ b.toNat) && decide (b.toNat ≤ 122)
def textOk (s : ByteArray) (m : Int) : Bool := s.data.toList.all lowB && inR (s.size : Int) 1 m
theorem text_bad {s : ByteArray} {m : Int} {k : Nat} {b : UInt8} (hk : k < s.size) (hb : s[k] = b) (h : lowB b = false) : textOk s m = false := by
  unfold textOk
  rw [Bool.and_eq_false_iff]
  left
  rw [List.all_eq_false]
  exact ⟨b, List.mem_iff_getElem.2 ⟨k, by rw [Array.length_toList]; exact hk, hb⟩, by rw [h]; exact Bool.false_ne_true⟩
theorem text_good {s : ByteArray} {m : Int} (h : ∀ k (hk : k < s.size), lowB s[k] = true) : textOk s m = inR (s.size : Int) 1 m := by
  unfold textOk
  have : s.data.toList.all lowB = true := by
    rw [List.all_eq_true]
    intro b hb
    obtain ⟨k, hk, e⟩ := List.mem_iff_getElem.1 hb
    rw [← e]
    exact h k (by rw [Array.length_toList] at hk; exact hk)
  rw [this, Bool.true_and]
set_option maxRecDepth 20000 in
set_option maxHeartbeats 1000000 in
theorem l02Text_c (w : World) (s : ByteArray) (m : Int) (hs : s.size ≤ maxLen) : Calls Tryz.prog 90 #[.string s, .int .i64 m] w (Ret w (.bool (textOk s m))) := by
  unfold maxLen at hs
  have hB : ∀ k b (hk : k < s.size), s[k] = b → lowB b = false → textOk s m = false := fun k b hk hb h => text_bad hk hb h
  have hG : (∀ k (hk : k < s.size), lowB s[k] = true) → textOk s m = inR (s.size : Int) 1 m := text_good
  generalize textOk s m = r at *
  have HB := Lib.hid hB; clear hB
  have HG := Lib.hid hG; clear hG
  go_enter Tryz.func90, Tryz.ntmps90
  go_wp2
  go_loop [5] (fun i => ∃ k : Nat, k ≤ s.size ∧ i = .int .i64 k ∧ Hid (∀ j (hj : j < s.size), j < k → lowB s[j] = true)) (fun i => s.size - (intOf i).toNat)
  case atStart => exact ⟨0, Nat.zero_le _, rfl, Lib.hid (fun j _ hj => absurd hj (Nat.not_lt_zero _))⟩
  case round =>
    obtain ⟨k, hk, rfl, hlow⟩ := hrel
    by_cases hkl : k < s.size
    · obtain ⟨x, hx⟩ : ∃ x, s[k] = x := ⟨_, rfl⟩
      have HX := Lib.hid hx
      by_cases h97 : (x.toNat : Int) < 97
      · obtain rfl : r = false := HB.out k x hkl HX.out (by unfold lowB; simp only [Bool.and_eq_false_iff, decide_eq_false_iff_not]; omega)
        go_wp2
        go_ret
        exact ⟨rfl, Below.refl _ _⟩
      by_cases h122 : 122 < (x.toNat : Int)
      · obtain rfl : r = false := HB.out k x hkl HX.out (by unfold lowB; simp only [Bool.and_eq_false_iff, decide_eq_false_iff_not]; omega)
        go_wp2
        go_ret
        exact ⟨rfl, Below.refl _ _⟩
      go_wp2
      go_round
      case rel => exact ⟨k + 1, by omega, by go_num, Lib.hid (fun j hj hjk => by
        by_cases e : j = k
        · subst e
          rw [HX.out]
          unfold lowB
          simp only [Bool.and_eq_true, decide_eq_true_eq]
          omega
        · exact hlow.out j hj (by omega))⟩
      case measure => simp [intOf]; omega
    · obtain rfl : k = s.size := by omega
      have hr := HG.out (fun j hj => hlow.out j hj hj)
      have HR := Lib.hid hr.symm; clear hr
      go_wp2_with (first | (go_at_call 19; refine call_ret (w := w) (l01In_b _ (s.size : Int) 1 m r HR.out) (by go_grown) ?_; intro g1 hG1 hb hz1 hz2; clear hb hz2))
      go_ret
      exact ⟨rfl, hG1⟩
set_option maxRecDepth 20000 in
set_option maxHeartbeats 1000000 in
theorem implIsValidString_c (w : World) (s : ByteArray) (hs : s.size ≤ maxLen) : Calls Tryz.prog 82 #[.string s] w (Ret w (.bool (textOk s 6))) := by
  unfold maxLen at hs
  have hB : ∀ k b (hk : k < s.size), s[k] = b → lowB b = false → textOk s 6 = false := fun k b hk hb h => text_bad hk hb h
  have hG : (∀ k (hk : k < s.size), lowB s[k] = true) → textOk s 6 = inR (s.size : Int) 1 6 := text_good
  generalize textOk s 6 = r at *
  have HB := Lib.hid hB; clear hB
  have HG := Lib.hid hG; clear hG
  go_enter Tryz.func82, Tryz.ntmps82
  go_wp2
  go_loop [6] (fun i => ∃ k : Nat, k ≤ s.size ∧ i = .int .i64 k ∧ Hid (∀ j (hj : j < s.size), j < k → lowB s[j] = true)) (fun i => s.size - (intOf i).toNat)
  case atStart => exact ⟨0, Nat.zero_le _, rfl, Lib.hid (fun j _ hj => absurd hj (Nat.not_lt_zero _))⟩
  case round =>
    obtain ⟨k, hk, rfl, hlow⟩ := hrel
    by_cases hkl : k < s.size
    · obtain ⟨x, hx⟩ : ∃ x, s[k] = x := ⟨_, rfl⟩
      have HX := Lib.hid hx
      by_cases h97 : (x.toNat : Int) < 97
      · obtain rfl : r = false := HB.out k x hkl HX.out (by unfold lowB; simp only [Bool.and_eq_false_iff, decide_eq_false_iff_not]; omega)
        go_wp2
        go_ret
        exact ⟨rfl, Below.refl _ _⟩
      by_cases h122 : 122 < (x.toNat : Int)
      · obtain rfl : r = false := HB.out k x hkl HX.out (by unfold lowB; simp only [Bool.and_eq_false_iff, decide_eq_false_iff_not]; omega)
        go_wp2
        go_ret
        exact ⟨rfl, Below.refl _ _⟩
      go_wp2
      go_round
      case rel => exact ⟨k + 1, by omega, by go_num, Lib.hid (fun j hj hjk => by
        by_cases e : j = k
        · subst e
          rw [HX.out]
          unfold lowB
          simp only [Bool.and_eq_true, decide_eq_true_eq]
          omega
        · exact hlow.out j hj (by omega))⟩
      case measure => simp [intOf]; omega
    · obtain rfl : k = s.size := by omega
      have hr := HG.out (fun j hj => hlow.out j hj hj)
      have HR := Lib.hid hr.symm; clear hr
      go_wp2_with (first | (go_at_call 53; refine call_ret (w := w) (within_b _ (s.size : Int) 1 6 r HR.out) (by go_grown) ?_; intro g1 hG1 hb hz1 hz2; clear hb hz2))
      go_ret
      exact ⟨rfl, hG1⟩
theorem l02Text_b (w : World) (s : ByteArray) (m : Int) (r : Bool) (hs : s.size ≤ maxLen) (h : textOk s m = r) : Calls Tryz.prog 90 #[.string s, .int .i64 m] w (Ret w (.bool r)) := h ▸ l02Text_c w s m hs
theorem implIsValidString_b (w : World) (s : ByteArray) (r : Bool) (hs : s.size ≤ maxLen) (h : textOk s 6 = r) : Calls Tryz.prog 82 #[.string s] w (Ret w (.bool r)) := h ▸ implIsValidString_c w s hs
theorem specIsValidString_b (w : World) (s : ByteArray) (r : Bool) (hs : s.size ≤ maxLen) (h : textOk s 6 = r) : Calls Tryz.prog 75 #[.string s] w (Ret w (.bool r)) := by
  have HS := Lib.hid hs
  unfold maxLen at hs
  have HR := Lib.hid h; clear h
  go_enter Tryz.func75, Tryz.ntmps75
  go_wp2_with (first | (go_at_call 90; refine call_ret (w := w) (l02Text_b _ s 6 r HS.out HR.out) (by go_grown) ?_; intro g1 hG1 hb hz1 hz2; clear hb hz2))
  go_ret
  exact ⟨rfl, hG1⟩
def okVal (v : ValueD) : Bool :=
  if v.1 = 0 then v.2.1 == 0 && eqb v.2.2 ⟨#[]⟩ else if v.1 = 1 then inR v.2.1 0 999 && eqb v.2.2 ⟨#[]⟩ else if v.1 = 2 then textOk v.2.2 6 && v.2.1 == 0 else false
theorem empty_eqb (s : ByteArray) : s.toList.isEmpty = eqb s ⟨#[]⟩ := by
  rw [← eqb_str, show (⟨#[]⟩ : ByteArray).toList = [] by rw [ByteArray.toList_eq]]
  cases s.toList <;> rfl
theorem eqZero (i : Int) (s : ByteArray) (w : World) : (binOp .eql 49 (.agg #[.int .i64 0, .int .i64 i, .string s]) (.agg #[.int .i64 0, .int .i64 0, .string ⟨#[]⟩])).run Tryz.prog w = .ok (.bool (i == 0 && s.toList == (⟨#[]⟩ : ByteArray).toList)) w := by
  have u3 := Tryz.underlying3
  have a3 := Tryz.isAgg3
  have z3 := Tryz.sizeOf3
  have u9 := Tryz.underlying9
  have a9 := Tryz.isAgg9
  have z9 := Tryz.sizeOf9
  have hS : Tryz.prog.underlying 49 = some (.struct (Tryz.prog.fieldsOf 49)) := by kernel_rfl
  have hp : Tryz.prog.stoodInHeld 49 = false := by kernel_rfl
  rw [run_eql_struct, show (10000 : Nat) = 9999 + 1 from rfl, run_equalIn_agg w 9999 49 _ _ hS hp]
  simp only [Program.fieldsOf, Tryz.underlying49]
  go_simp
  by_cases h1 : i = 0 <;> simp [h1]
  cases s.toList <;> simp
set_option maxRecDepth 20000 in
set_option maxHeartbeats 1000000 in
theorem specIsValidValue_c (w : World) (a1 a2 : Int) (a3 : ByteArray) (h3 : a3.size ≤ maxLen) : Calls Tryz.prog 42 #[.agg #[.int .i64 a1, .int .i64 a2, .string a3]] w (Ret w (.bool (okVal (a1, a2, a3)))) := by
  have HS := Lib.hid h3
  unfold maxLen at h3
  have es := eqb_str
  by_cases h0 : a1 = 0
  · subst h0
    have hv : okVal (0, a2, a3) = (a2 == 0 && eqb a3 ⟨#[]⟩) := rfl
    rw [hv]; clear hv
    have hz := fun w => eqZero a2 a3 w
    rw [eqb_str] at hz
    generalize (a2 == 0 && eqb a3 ⟨#[]⟩) = r at *
    clear es
    go_enter Tryz.func42, Tryz.ntmps42
    go_wp2
    go_ret
    exact ⟨rfl, by go_grown⟩
  by_cases h1 : a1 = 1
  · subst h1
    have hv : okVal (1, a2, a3) = (inR a2 0 999 && eqb a3 ⟨#[]⟩) := rfl
    rw [hv]; clear hv h0
    cases hr : inR a2 0 999
    · have HR := Lib.hid hr; clear hr
      rw [Bool.false_and]
      go_enter Tryz.func42, Tryz.ntmps42
      go_wp2_with (first | (go_at_call 19; refine call_ret (w := w) (l01In_b _ a2 0 999 false HR.out) (by go_grown) ?_; intro g1 hG1 hb hz1 hz2; have q0 := fun o => bcell hb w.heap.size o (by first | go_size | omega); clear hb hz2))
      go_ret
      exact ⟨rfl, by go_grown⟩
    · have HR := Lib.hid hr; clear hr
      rw [Bool.true_and]
      generalize he : eqb a3 ⟨#[]⟩ = r
      have he2 : a3.toList.isEmpty = r := by rw [empty_eqb]; exact he
      have HEE := Lib.hid he; clear he es
      go_enter Tryz.func42, Tryz.ntmps42
      go_wp2_with (first | (go_at_call 19; refine call_ret (w := w) (l01In_b _ a2 0 999 true HR.out) (by go_grown) ?_; intro g1 hG1 hb hz1 hz2; have q0 := fun o => bcell hb w.heap.size o (by first | go_size | omega); clear hb hz2))
      go_ret
      exact ⟨rfl, by go_grown⟩
  by_cases h2 : a1 = 2
  · subst h2
    have hv : okVal (2, a2, a3) = (textOk a3 6 && a2 == 0) := rfl
    rw [hv]; clear hv h0 h1
    cases hr : textOk a3 6
    · have HR := Lib.hid hr; clear hr
      rw [Bool.false_and]
      go_enter Tryz.func42, Tryz.ntmps42
      go_wp2_with (first | (go_at_call 75; refine call_ret (w := w) (specIsValidString_b _ a3 false HS.out HR.out) (by go_grown) ?_; intro g1 hG1 hb hz1 hz2; have q0 := fun o => bcell hb w.heap.size o (by first | go_size | omega); clear hb hz2))
      go_ret
      exact ⟨rfl, by go_grown⟩
    · have HR := Lib.hid hr; clear hr
      rw [Bool.true_and]
      go_enter Tryz.func42, Tryz.ntmps42
      go_wp2_with (first | (go_at_call 75; refine call_ret (w := w) (specIsValidString_b _ a3 true HS.out HR.out) (by go_grown) ?_; intro g1 hG1 hb hz1 hz2; have q0 := fun o => bcell hb w.heap.size o (by first | go_size | omega); clear hb hz2))
      go_ret
      exact ⟨rfl, by go_grown⟩
  have hv : okVal (a1, a2, a3) = false := by unfold okVal; rw [if_neg h0, if_neg h1, if_neg h2]
  rw [hv]; clear hv
  go_enter Tryz.func42, Tryz.ntmps42
  go_wp2
  go_ret
  exact ⟨rfl, by go_grown⟩
theorem specIsValidValue_b (w : World) (a1 a2 : Int) (a3 : ByteArray) (r : Bool) (h3 : a3.size ≤ maxLen) (h : okVal (a1, a2, a3) = r) : Calls Tryz.prog 42 #[.agg #[.int .i64 a1, .int .i64 a2, .string a3]] w (Ret w (.bool r)) := h ▸ specIsValidValue_c w a1 a2 a3 h3
set_option maxRecDepth 20000 in
set_option maxHeartbeats 1000000 in
theorem implIsValidValue_c (w : World) (a1 a2 : Int) (a3 : ByteArray) (h3 : a3.size ≤ maxLen) : Calls Tryz.prog 56 #[.agg #[.int .i64 a1, .int .i64 a2, .string a3]] w (Ret w (.bool (okVal (a1, a2, a3)))) := by
  have HS := Lib.hid h3
  unfold maxLen at h3
  have es := eqb_str
  by_cases h0 : a1 = 0
  · subst h0
    have hv : okVal (0, a2, a3) = (a2 == 0 && eqb a3 ⟨#[]⟩) := rfl
    rw [hv]; clear hv
    have hz := fun w => eqZero a2 a3 w
    rw [eqb_str] at hz
    generalize (a2 == 0 && eqb a3 ⟨#[]⟩) = r at *
    clear es
    go_enter Tryz.func56, Tryz.ntmps56
    go_wp2
    go_ret
    exact ⟨rfl, by go_grown⟩
  by_cases h1 : a1 = 1
  · subst h1
    have hv : okVal (1, a2, a3) = (inR a2 0 999 && eqb a3 ⟨#[]⟩) := rfl
    rw [hv]; clear hv h0
    cases hr : inR a2 0 999
    · have HR := Lib.hid hr; clear hr
      rw [Bool.false_and]
      go_enter Tryz.func56, Tryz.ntmps56
      go_wp2_with (first | (go_at_call 53; refine call_ret (w := w) (within_b _ a2 0 999 false HR.out) (by go_grown) ?_; intro g1 hG1 hb hz1 hz2; have q0 := fun o => bcell hb w.heap.size o (by first | go_size | omega); clear hb hz2))
      go_ret
      exact ⟨rfl, by go_grown⟩
    · have HR := Lib.hid hr; clear hr
      rw [Bool.true_and]
      generalize he : eqb a3 ⟨#[]⟩ = r
      have he2 : a3.toList.isEmpty = r := by rw [empty_eqb]; exact he
      have HEE := Lib.hid he; clear he es
      go_enter Tryz.func56, Tryz.ntmps56
      go_wp2_with (first | (go_at_call 53; refine call_ret (w := w) (within_b _ a2 0 999 true HR.out) (by go_grown) ?_; intro g1 hG1 hb hz1 hz2; have q0 := fun o => bcell hb w.heap.size o (by first | go_size | omega); clear hb hz2))
      go_ret
      exact ⟨rfl, by go_grown⟩
  by_cases h2 : a1 = 2
  · subst h2
    have hv : okVal (2, a2, a3) = (textOk a3 6 && a2 == 0) := rfl
    rw [hv]; clear hv h0 h1
    cases hr : textOk a3 6
    · have HR := Lib.hid hr; clear hr
      rw [Bool.false_and]
      go_enter Tryz.func56, Tryz.ntmps56
      go_wp2_with (first | (go_at_call 82; refine call_ret (w := w) (implIsValidString_b _ a3 false HS.out HR.out) (by go_grown) ?_; intro g1 hG1 hb hz1 hz2; have q0 := fun o => bcell hb w.heap.size o (by first | go_size | omega); clear hb hz2))
      go_ret
      exact ⟨rfl, by go_grown⟩
    · have HR := Lib.hid hr; clear hr
      rw [Bool.true_and]
      go_enter Tryz.func56, Tryz.ntmps56
      go_wp2_with (first | (go_at_call 82; refine call_ret (w := w) (implIsValidString_b _ a3 true HS.out HR.out) (by go_grown) ?_; intro g1 hG1 hb hz1 hz2; have q0 := fun o => bcell hb w.heap.size o (by first | go_size | omega); clear hb hz2))
      go_ret
      exact ⟨rfl, by go_grown⟩
  have hv : okVal (a1, a2, a3) = false := by unfold okVal; rw [if_neg h0, if_neg h1, if_neg h2]
  rw [hv]; clear hv
  go_enter Tryz.func56, Tryz.ntmps56
  go_wp2
  go_ret
  exact ⟨rfl, by go_grown⟩
theorem implIsValidValue_b (w : World) (a1 a2 : Int) (a3 : ByteArray) (r : Bool) (h3 : a3.size ≤ maxLen) (h : okVal (a1, a2, a3) = r) : Calls Tryz.prog 56 #[.agg #[.int .i64 a1, .int .i64 a2, .string a3]] w (Ret w (.bool r)) := h ▸ implIsValidValue_c w a1 a2 a3 h3
end Go.Proofs.YtdakhddpcfimaaaGreatDoor
namespace Go.Proofs.YtdakhddpcfimaaaGreatDoor
open Go.RowKit
open GoD (rd own)
def valOf (v : ValueD) : Value := .agg #[.int .i64 v.1, .int .i64 v.2.1, .string v.2.2]
def zeroV : ValueD := (0, 0, ⟨#[]⟩)
noncomputable def convV (v : ValueD) (k : Int) : ValueD × Bool :=
  if okVal v = false ∨ v.1 = 0 ∨ inR k 1 2 = false then (zeroV, false)
  else if v.1 = k then (v, true)
  else if k = 2 then ((2, 0, encodeInt v.2.1), true)
  else match decD v.2.2 with
    | some n => ((1, (n : Int), ⟨#[]⟩), true)
    | none => (zeroV, false)
def resV (p : ValueD × Bool) : Value := .tuple #[valOf p.1, .bool p.2]
theorem specStringValue_c (w : World) (s : ByteArray) : Calls Tryz.prog 43 #[.string s] w (Ret w (.agg #[.int .i64 2, .int .i64 0, .string s])) := by
  go_enter Tryz.func43, Tryz.ntmps43
  go_wp2
  refine bodyPost_ret (v := .agg #[.int .i64 2, .int .i64 0, .string s]) (by simp [results, Tryz.results43, go_sem]) rfl ⟨rfl, by go_grown⟩
theorem specIntValue_c (w : World) (n : Int) : Calls Tryz.prog 46 #[.int .i64 n] w (Ret w (.agg #[.int .i64 1, .int .i64 n, .string ⟨#[]⟩])) := by
  go_enter Tryz.func46, Tryz.ntmps46
  go_wp2
  refine bodyPost_ret (v := .agg #[.int .i64 1, .int .i64 n, .string ⟨#[]⟩]) (by simp [results, Tryz.results46, go_sem]) rfl ⟨rfl, by go_grown⟩
theorem implStringValue_c (w : World) (s : ByteArray) : Calls Tryz.prog 57 #[.string s] w (Ret w (.agg #[.int .i64 2, .int .i64 0, .string s])) := by
  go_enter Tryz.func57, Tryz.ntmps57
  go_wp2
  refine bodyPost_ret (v := .agg #[.int .i64 2, .int .i64 0, .string s]) (by simp [results, Tryz.results57, go_sem]) rfl ⟨rfl, by go_grown⟩
theorem implIntValue_c (w : World) (n : Int) : Calls Tryz.prog 60 #[.int .i64 n] w (Ret w (.agg #[.int .i64 1, .int .i64 n, .string ⟨#[]⟩])) := by
  go_enter Tryz.func60, Tryz.ntmps60
  go_wp2
  refine bodyPost_ret (v := .agg #[.int .i64 1, .int .i64 n, .string ⟨#[]⟩]) (by simp [results, Tryz.results60, go_sem]) rfl ⟨rfl, by go_grown⟩
set_option maxRecDepth 20000 in
set_option maxHeartbeats 2000000 in
theorem specConvert_c (w : World) (a1 a2 : Int) (a3 : ByteArray) (k : Int) (h1 : I64 a1) (h2 : I64 a2) (h3 : a3.size ≤ maxLen) (hk : I64 k) : Calls Tryz.prog 21 #[valOf (a1, a2, a3), .int .i64 k] w (Ret w (resV (convV (a1, a2, a3) k))) := by
  have HS := Lib.hid h3
  unfold maxLen at h3
  have H2 := Lib.hid h2; clear h2
  have hv0 : valOf (a1, a2, a3) = .agg #[.int .i64 a1, .int .i64 a2, .string a3] := rfl
  rw [hv0]; clear hv0 h1 hk
  cases hv : okVal (a1, a2, a3)
  · have hcv : convV (a1, a2, a3) k = (zeroV, false) := by
      unfold convV
      rw [if_pos (Or.inl hv)]
    rw [hcv]
    clear hcv
    have HV := Lib.hid hv; clear hv
    go_enter Tryz.func21, Tryz.ntmps21
    go_wp2_with (first | (go_at_call 42; refine call_ret (w := w) (specIsValidValue_b _ a1 a2 a3 false HS.out HV.out) (by go_grown) ?_; intro g1 hG1 hb hz1 hy1; (try simp only [World.size_alloc, World.size_setCell, World.size_drew] at hy1); have q1a := fun o => bcell hb w.heap.size o (by first | go_size | omega); have q1b := fun o => bcell hb (w.heap.size + 1) o (by first | go_size | omega); have q1f := fun o => bfroz hb (w.heap.size + 1) o (by first | go_size | omega); clear hb))
    refine bodyPost_ret (v := .tuple #[.agg #[.int .i64 0, .int .i64 0, .string ⟨#[]⟩], .bool false]) (by simp [results, Tryz.results21, go_sem, q1b]) rfl ⟨rfl, by repeat (first | (with_reducible assumption) | (refine below_set ?_ (by omega)))⟩
  by_cases h0 : a1 = 0
  · subst h0
    have hcv : convV (0, a2, a3) k = (zeroV, false) := by
      unfold convV
      rw [if_pos (Or.inr (Or.inl rfl))]
    rw [hcv]
    clear hcv
    have HV := Lib.hid hv; clear hv
    go_enter Tryz.func21, Tryz.ntmps21
    go_wp2_with (first | (go_at_call 42; refine call_ret (w := w) (specIsValidValue_b _ 0 a2 a3 true HS.out HV.out) (by go_grown) ?_; intro g1 hG1 hb hz1 hy1; (try simp only [World.size_alloc, World.size_setCell, World.size_drew] at hy1); have q1a := fun o => bcell hb w.heap.size o (by first | go_size | omega); have q1b := fun o => bcell hb (w.heap.size + 1) o (by first | go_size | omega); have q1f := fun o => bfroz hb (w.heap.size + 1) o (by first | go_size | omega); clear hb))
    refine bodyPost_ret (v := .tuple #[.agg #[.int .i64 0, .int .i64 0, .string ⟨#[]⟩], .bool false]) (by simp [results, Tryz.results21, go_sem, q1b]) rfl ⟨rfl, by repeat (first | (with_reducible assumption) | (refine below_set ?_ (by omega)))⟩
  cases hk : inR k 1 2
  · have hcv : convV (a1, a2, a3) k = (zeroV, false) := by
      unfold convV
      rw [if_pos (Or.inr (Or.inr hk))]
    rw [hcv]
    clear hcv
    have HV := Lib.hid hv; clear hv
    have HK := Lib.hid hk; clear hk
    go_enter Tryz.func21, Tryz.ntmps21
    go_wp2_with (first | (go_at_call 42; refine call_ret (w := w) (specIsValidValue_b _ a1 a2 a3 true HS.out HV.out) (by go_grown) ?_; intro g1 hG1 hb hz1 hy1; (try simp only [World.size_alloc, World.size_setCell, World.size_drew] at hy1); have q1a := fun o => bcell hb w.heap.size o (by first | go_size | omega); have q1b := fun o => bcell hb (w.heap.size + 1) o (by first | go_size | omega); have q1f := fun o => bfroz hb (w.heap.size + 1) o (by first | go_size | omega); clear hb) | (go_at_call 19; refine call_ret (w := w) (l01In_b _ k 1 2 false HK.out) (by go_grown) ?_; intro g2 hG2 hb hz2 hy2; (try simp only [World.size_alloc, World.size_setCell, World.size_drew] at hy2); have q2a := fun o => bcell hb w.heap.size o (by first | go_size | omega); have q2b := fun o => bcell hb (w.heap.size + 1) o (by first | go_size | omega); have q2f := fun o => bfroz hb (w.heap.size + 1) o (by first | go_size | omega); clear hb))
    refine bodyPost_ret (v := .tuple #[.agg #[.int .i64 0, .int .i64 0, .string ⟨#[]⟩], .bool false]) (by simp [results, Tryz.results21, go_sem, q1b, q2b]) rfl ⟨rfl, by repeat (first | (with_reducible assumption) | (refine below_set ?_ (by omega)))⟩
  have hnot : ¬ (okVal (a1, a2, a3) = false ∨ a1 = 0 ∨ inR k 1 2 = false) := by rw [hv, hk]; simp [h0]
  have hk12 : k = 1 ∨ k = 2 := by unfold inR at hk; simp only [Bool.and_eq_true, decide_eq_true_eq] at hk; omega
  have HV := Lib.hid hv; clear hv
  have HK := Lib.hid hk; clear hk
  have HN := Lib.hid hnot; clear hnot
  by_cases he1 : a1 = k
  · subst he1
    have hcv : convV (a1, a2, a3) a1 = ((a1, a2, a3), true) := by
      unfold convV
      rw [if_neg HN.out, if_pos rfl]
    rw [hcv]
    clear hcv
    rcases hk12 with rfl | rfl
    all_goals (go_enter Tryz.func21, Tryz.ntmps21)
    all_goals go_wp2_with (first | (go_at_call 42; refine call_ret (w := w) (specIsValidValue_b _ _ a2 a3 true HS.out HV.out) (by go_grown) ?_; intro g1 hG1 hb hz1 hy1; (try simp only [World.size_alloc, World.size_setCell, World.size_drew] at hy1); have q1a := fun o => bcell hb w.heap.size o (by first | go_size | omega); have q1b := fun o => bcell hb (w.heap.size + 1) o (by first | go_size | omega); have q1f := fun o => bfroz hb (w.heap.size + 1) o (by first | go_size | omega); clear hb) | (go_at_call 19; refine call_ret (w := w) (l01In_b _ _ 1 2 true HK.out) (by go_grown) ?_; intro g2 hG2 hb hz2 hy2; (try simp only [World.size_alloc, World.size_setCell, World.size_drew] at hy2); have q2a := fun o => bcell hb w.heap.size o (by first | go_size | omega); have q2b := fun o => bcell hb (w.heap.size + 1) o (by first | go_size | omega); have q2f := fun o => bfroz hb (w.heap.size + 1) o (by first | go_size | omega); clear hb))
    · refine bodyPost_ret (v := .tuple #[.agg #[.int .i64 1, .int .i64 a2, .string a3], .bool true]) (by simp [results, Tryz.results21, go_sem, q1b, q2b]) rfl ⟨rfl, by repeat (first | (with_reducible assumption) | (refine below_set ?_ (by omega)))⟩
    · refine bodyPost_ret (v := .tuple #[.agg #[.int .i64 2, .int .i64 a2, .string a3], .bool true]) (by simp [results, Tryz.results21, go_sem, q1b, q2b]) rfl ⟨rfl, by repeat (first | (with_reducible assumption) | (refine below_set ?_ (by omega)))⟩
  by_cases hk2 : k = 2
  · subst hk2
    have hcv : convV (a1, a2, a3) 2 = ((2, 0, encodeInt a2), true) := by
      unfold convV
      rw [if_neg HN.out, if_neg he1, if_pos rfl]
    rw [hcv]
    clear hcv hk12
    generalize hu : encodeInt a2 = u
    have HE2 := Lib.hid hu; clear hu
    go_enter Tryz.func21, Tryz.ntmps21
    go_wp2_with (first | (go_at_call 42; refine call_ret (w := w) (specIsValidValue_b _ a1 a2 a3 true HS.out HV.out) (by go_grown) ?_; intro g1 hG1 hb hz1 hy1; (try simp only [World.size_alloc, World.size_setCell, World.size_drew] at hy1); have q1a := fun o => bcell hb w.heap.size o (by first | go_size | omega); have q1b := fun o => bcell hb (w.heap.size + 1) o (by first | go_size | omega); have q1f := fun o => bfroz hb (w.heap.size + 1) o (by first | go_size | omega); clear hb) | (go_at_call 19; refine call_ret (w := w) (l01In_b _ 2 1 2 true HK.out) (by go_grown) ?_; intro g2 hG2 hb hz2 hy2; (try simp only [World.size_alloc, World.size_setCell, World.size_drew] at hy2); have q2a := fun o => bcell hb w.heap.size o (by first | go_size | omega); have q2b := fun o => bcell hb (w.heap.size + 1) o (by first | go_size | omega); have q2f := fun o => bfroz hb (w.heap.size + 1) o (by first | go_size | omega); clear hb) | (go_at_call 44; have hcon := (fun w1 => specEncode_c w1 a2 H2.out); rw [HE2.out] at hcon; refine call_ret (w := w) (hcon _) (by go_grown) ?_; clear hcon; intro g3 hG3 hb hz3 hy3; (try simp only [World.size_alloc, World.size_setCell, World.size_drew] at hy3); have q3a := fun o => bcell hb w.heap.size o (by first | go_size | omega); have q3b := fun o => bcell hb (w.heap.size + 1) o (by first | go_size | omega); have q3f := fun o => bfroz hb (w.heap.size + 1) o (by first | go_size | omega); clear hb) | (go_at_call 43; refine call_ret (w := w) (specStringValue_c _ u) (by go_grown) ?_; intro g4 hG4 hb hz4 hy4; (try simp only [World.size_alloc, World.size_setCell, World.size_drew] at hy4); have q4a := fun o => bcell hb w.heap.size o (by first | go_size | omega); have q4b := fun o => bcell hb (w.heap.size + 1) o (by first | go_size | omega); have q4f := fun o => bfroz hb (w.heap.size + 1) o (by first | go_size | omega); clear hb))
    refine bodyPost_ret (v := .tuple #[.agg #[.int .i64 2, .int .i64 0, .string u], .bool true]) (by simp [results, Tryz.results21, go_sem, q1b, q2b, q3b, q4b]) rfl ⟨rfl, by repeat (first | (with_reducible assumption) | (refine below_set ?_ (by omega)))⟩
  obtain rfl : k = 1 := by omega
  clear hk12
  cases hd : decD a3 with
  | none =>
    have hcv : convV (a1, a2, a3) 1 = (zeroV, false) := by
      unfold convV
      rw [if_neg HN.out, if_neg he1, if_neg (by decide), hd]
    rw [hcv]
    clear hcv
    have ho : optV none = .tuple #[.int .i64 0, .bool false] := rfl
    have HD := Lib.hid hd; clear hd
    go_enter Tryz.func21, Tryz.ntmps21
    go_wp2_with (first | (go_at_call 42; refine call_ret (w := w) (specIsValidValue_b _ a1 a2 a3 true HS.out HV.out) (by go_grown) ?_; intro g1 hG1 hb hz1 hy1; (try simp only [World.size_alloc, World.size_setCell, World.size_drew] at hy1); have q1a := fun o => bcell hb w.heap.size o (by first | go_size | omega); have q1b := fun o => bcell hb (w.heap.size + 1) o (by first | go_size | omega); have q1f := fun o => bfroz hb (w.heap.size + 1) o (by first | go_size | omega); clear hb) | (go_at_call 19; refine call_ret (w := w) (l01In_b _ 1 1 2 true HK.out) (by go_grown) ?_; intro g2 hG2 hb hz2 hy2; (try simp only [World.size_alloc, World.size_setCell, World.size_drew] at hy2); have q2a := fun o => bcell hb w.heap.size o (by first | go_size | omega); have q2b := fun o => bcell hb (w.heap.size + 1) o (by first | go_size | omega); have q2f := fun o => bfroz hb (w.heap.size + 1) o (by first | go_size | omega); clear hb) | (go_at_call 45; have hcon := (fun w1 => specDecode_c w1 a3 HS.out); rw [HD.out, ho] at hcon; refine call_ret (w := w) (hcon _) (by go_grown) ?_; clear hcon; intro g5 hG5 hb hz5 hy5; (try simp only [World.size_alloc, World.size_setCell, World.size_drew] at hy5); have q5a := fun o => bcell hb w.heap.size o (by first | go_size | omega); have q5b := fun o => bcell hb (w.heap.size + 1) o (by first | go_size | omega); have q5f := fun o => bfroz hb (w.heap.size + 1) o (by first | go_size | omega); clear hb))
    refine bodyPost_ret (v := .tuple #[.agg #[.int .i64 0, .int .i64 0, .string ⟨#[]⟩], .bool false]) (by simp [results, Tryz.results21, go_sem, q1b, q2b, q5b]) rfl ⟨rfl, by repeat (first | (with_reducible assumption) | (refine below_set ?_ (by omega)))⟩
  | some n =>
    have hcv : convV (a1, a2, a3) 1 = ((1, (n : Int), ⟨#[]⟩), true) := by
      unfold convV
      rw [if_neg HN.out, if_neg he1, if_neg (by decide), hd]
    rw [hcv]
    clear hcv
    have ho : optV (some n) = .tuple #[.int .i64 n, .bool true] := rfl
    have HD := Lib.hid hd; clear hd
    go_enter Tryz.func21, Tryz.ntmps21
    go_wp2_with (first | (go_at_call 42; refine call_ret (w := w) (specIsValidValue_b _ a1 a2 a3 true HS.out HV.out) (by go_grown) ?_; intro g1 hG1 hb hz1 hy1; (try simp only [World.size_alloc, World.size_setCell, World.size_drew] at hy1); have q1a := fun o => bcell hb w.heap.size o (by first | go_size | omega); have q1b := fun o => bcell hb (w.heap.size + 1) o (by first | go_size | omega); have q1f := fun o => bfroz hb (w.heap.size + 1) o (by first | go_size | omega); clear hb) | (go_at_call 19; refine call_ret (w := w) (l01In_b _ 1 1 2 true HK.out) (by go_grown) ?_; intro g2 hG2 hb hz2 hy2; (try simp only [World.size_alloc, World.size_setCell, World.size_drew] at hy2); have q2a := fun o => bcell hb w.heap.size o (by first | go_size | omega); have q2b := fun o => bcell hb (w.heap.size + 1) o (by first | go_size | omega); have q2f := fun o => bfroz hb (w.heap.size + 1) o (by first | go_size | omega); clear hb) | (go_at_call 45; have hcon := (fun w1 => specDecode_c w1 a3 HS.out); rw [HD.out, ho] at hcon; refine call_ret (w := w) (hcon _) (by go_grown) ?_; clear hcon; intro g5 hG5 hb hz5 hy5; (try simp only [World.size_alloc, World.size_setCell, World.size_drew] at hy5); have q5a := fun o => bcell hb w.heap.size o (by first | go_size | omega); have q5b := fun o => bcell hb (w.heap.size + 1) o (by first | go_size | omega); have q5f := fun o => bfroz hb (w.heap.size + 1) o (by first | go_size | omega); clear hb) | (go_at_call 46; refine call_ret (w := w) (specIntValue_c _ (n : Int)) (by go_grown) ?_; intro g6 hG6 hb hz6 hy6; (try simp only [World.size_alloc, World.size_setCell, World.size_drew] at hy6); have q6a := fun o => bcell hb w.heap.size o (by first | go_size | omega); have q6b := fun o => bcell hb (w.heap.size + 1) o (by first | go_size | omega); have q6f := fun o => bfroz hb (w.heap.size + 1) o (by first | go_size | omega); clear hb))
    refine bodyPost_ret (v := .tuple #[.agg #[.int .i64 1, .int .i64 n, .string ⟨#[]⟩], .bool true]) (by simp [results, Tryz.results21, go_sem, q1b, q2b, q5b, q6b]) rfl ⟨rfl, by repeat (first | (with_reducible assumption) | (refine below_set ?_ (by omega)))⟩
set_option maxRecDepth 20000 in
set_option maxHeartbeats 2000000 in
theorem implConvert_c (w : World) (a1 a2 : Int) (a3 : ByteArray) (k : Int) (h1 : I64 a1) (h2 : I64 a2) (h3 : a3.size ≤ maxLen) (hk : I64 k) (ht : tabOk w) (he : errOk w) : Calls Tryz.prog 29 #[valOf (a1, a2, a3), .int .i64 k] w (Ret w (resV (convV (a1, a2, a3) k))) := by
  have HS := Lib.hid h3
  unfold maxLen at h3
  have H2 := Lib.hid h2; clear h2
  have hv0 : valOf (a1, a2, a3) = .agg #[.int .i64 a1, .int .i64 a2, .string a3] := rfl
  rw [hv0]; clear hv0 h1 hk
  have HT := Lib.hid ht; clear ht
  have HER := Lib.hid he; clear he
  cases hv : okVal (a1, a2, a3)
  · have hcv : convV (a1, a2, a3) k = (zeroV, false) := by
      unfold convV
      rw [if_pos (Or.inl hv)]
    rw [hcv]
    clear hcv
    have HV := Lib.hid hv; clear hv
    go_enter Tryz.func29, Tryz.ntmps29
    go_wp2_with (first | (go_at_call 56; refine call_ret (w := w) (implIsValidValue_b _ a1 a2 a3 false HS.out HV.out) (by go_grown) ?_; intro g1 hG1 hb hz1 hy1; (try simp only [World.size_alloc, World.size_setCell, World.size_drew] at hy1); have q1a := fun o => bcell hb w.heap.size o (by first | go_size | omega); have q1b := fun o => bcell hb (w.heap.size + 1) o (by first | go_size | omega); have q1f := fun o => bfroz hb (w.heap.size + 1) o (by first | go_size | omega); clear hb))
    refine bodyPost_ret (v := .tuple #[.agg #[.int .i64 0, .int .i64 0, .string ⟨#[]⟩], .bool false]) (by simp [results, Tryz.results29, go_sem, q1b]) rfl ⟨rfl, by repeat (first | (with_reducible assumption) | (refine below_set ?_ (by omega)))⟩
  by_cases h0 : a1 = 0
  · subst h0
    have hcv : convV (0, a2, a3) k = (zeroV, false) := by
      unfold convV
      rw [if_pos (Or.inr (Or.inl rfl))]
    rw [hcv]
    clear hcv
    have HV := Lib.hid hv; clear hv
    go_enter Tryz.func29, Tryz.ntmps29
    go_wp2_with (first | (go_at_call 56; refine call_ret (w := w) (implIsValidValue_b _ 0 a2 a3 true HS.out HV.out) (by go_grown) ?_; intro g1 hG1 hb hz1 hy1; (try simp only [World.size_alloc, World.size_setCell, World.size_drew] at hy1); have q1a := fun o => bcell hb w.heap.size o (by first | go_size | omega); have q1b := fun o => bcell hb (w.heap.size + 1) o (by first | go_size | omega); have q1f := fun o => bfroz hb (w.heap.size + 1) o (by first | go_size | omega); clear hb))
    refine bodyPost_ret (v := .tuple #[.agg #[.int .i64 0, .int .i64 0, .string ⟨#[]⟩], .bool false]) (by simp [results, Tryz.results29, go_sem, q1b]) rfl ⟨rfl, by repeat (first | (with_reducible assumption) | (refine below_set ?_ (by omega)))⟩
  cases hk : inR k 1 2
  · have hcv : convV (a1, a2, a3) k = (zeroV, false) := by
      unfold convV
      rw [if_pos (Or.inr (Or.inr hk))]
    rw [hcv]
    clear hcv
    have hk1 : (k != (1 : Int)) = true := by rw [bne_iff_ne]; intro e; rw [e] at hk; cases hk
    have hk2 : (k != (2 : Int)) = true := by rw [bne_iff_ne]; intro e; rw [e] at hk; cases hk
    have h0b : (a1 == (0 : Int)) = false := beq_eq_false_iff_ne.2 h0
    have HV := Lib.hid hv; clear hv
    have HK := Lib.hid hk; clear hk
    go_enter Tryz.func29, Tryz.ntmps29
    go_wp2_with (first | (go_at_call 56; refine call_ret (w := w) (implIsValidValue_b _ a1 a2 a3 true HS.out HV.out) (by go_grown) ?_; intro g1 hG1 hb hz1 hy1; (try simp only [World.size_alloc, World.size_setCell, World.size_drew] at hy1); have q1a := fun o => bcell hb w.heap.size o (by first | go_size | omega); have q1b := fun o => bcell hb (w.heap.size + 1) o (by first | go_size | omega); have q1f := fun o => bfroz hb (w.heap.size + 1) o (by first | go_size | omega); clear hb))
    refine bodyPost_ret (v := .tuple #[.agg #[.int .i64 0, .int .i64 0, .string ⟨#[]⟩], .bool false]) (by simp [results, Tryz.results29, go_sem, q1b]) rfl ⟨rfl, by repeat (first | (with_reducible assumption) | (refine below_set ?_ (by omega)))⟩
  have hnot : ¬ (okVal (a1, a2, a3) = false ∨ a1 = 0 ∨ inR k 1 2 = false) := by rw [hv, hk]; simp [h0]
  have hk12 : k = 1 ∨ k = 2 := by unfold inR at hk; simp only [Bool.and_eq_true, decide_eq_true_eq] at hk; omega
  have HV := Lib.hid hv; clear hv
  have HK := Lib.hid hk; clear hk
  have HN := Lib.hid hnot; clear hnot
  by_cases he1 : a1 = k
  · subst he1
    have hcv : convV (a1, a2, a3) a1 = ((a1, a2, a3), true) := by
      unfold convV
      rw [if_neg HN.out, if_pos rfl]
    rw [hcv]
    clear hcv
    rcases hk12 with rfl | rfl
    all_goals (go_enter Tryz.func29, Tryz.ntmps29)
    all_goals go_wp2_with (first | (go_at_call 56; refine call_ret (w := w) (implIsValidValue_b _ _ a2 a3 true HS.out HV.out) (by go_grown) ?_; intro g1 hG1 hb hz1 hy1; (try simp only [World.size_alloc, World.size_setCell, World.size_drew] at hy1); have q1a := fun o => bcell hb w.heap.size o (by first | go_size | omega); have q1b := fun o => bcell hb (w.heap.size + 1) o (by first | go_size | omega); have q1f := fun o => bfroz hb (w.heap.size + 1) o (by first | go_size | omega); clear hb))
    · refine bodyPost_ret (v := .tuple #[.agg #[.int .i64 1, .int .i64 a2, .string a3], .bool true]) (by simp [results, Tryz.results29, go_sem, q1b]) rfl ⟨rfl, by repeat (first | (with_reducible assumption) | (refine below_set ?_ (by omega)))⟩
    · refine bodyPost_ret (v := .tuple #[.agg #[.int .i64 2, .int .i64 a2, .string a3], .bool true]) (by simp [results, Tryz.results29, go_sem, q1b]) rfl ⟨rfl, by repeat (first | (with_reducible assumption) | (refine below_set ?_ (by omega)))⟩
  by_cases hk2 : k = 2
  · subst hk2
    have hcv : convV (a1, a2, a3) 2 = ((2, 0, encodeInt a2), true) := by
      unfold convV
      rw [if_neg HN.out, if_neg he1, if_pos rfl]
    rw [hcv]
    clear hcv hk12
    generalize hu : encodeInt a2 = u
    have HE2 := Lib.hid hu; clear hu
    go_enter Tryz.func29, Tryz.ntmps29
    go_wp2_with (first | (go_at_call 56; refine call_ret (w := w) (implIsValidValue_b _ a1 a2 a3 true HS.out HV.out) (by go_grown) ?_; intro g1 hG1 hb hz1 hy1; (try simp only [World.size_alloc, World.size_setCell, World.size_drew] at hy1); have q1a := fun o => bcell hb w.heap.size o (by first | go_size | omega); have q1b := fun o => bcell hb (w.heap.size + 1) o (by first | go_size | omega); have q1f := fun o => bfroz hb (w.heap.size + 1) o (by first | go_size | omega); clear hb) | (go_at_call 58; have hcon := (fun w1 h => implEncode_c w1 a2 H2.out h); rw [HE2.out] at hcon; refine call_ret (w := w) (hcon _ (HT.out.keep (by go_grown))) (by go_grown) ?_; clear hcon; intro g3 hG3 hb hz3 hy3; (try simp only [World.size_alloc, World.size_setCell, World.size_drew] at hy3); have q3a := fun o => bcell hb w.heap.size o (by first | go_size | omega); have q3b := fun o => bcell hb (w.heap.size + 1) o (by first | go_size | omega); have q3f := fun o => bfroz hb (w.heap.size + 1) o (by first | go_size | omega); clear hb) | (go_at_call 57; refine call_ret (w := w) (implStringValue_c _ u) (by go_grown) ?_; intro g4 hG4 hb hz4 hy4; (try simp only [World.size_alloc, World.size_setCell, World.size_drew] at hy4); have q4a := fun o => bcell hb w.heap.size o (by first | go_size | omega); have q4b := fun o => bcell hb (w.heap.size + 1) o (by first | go_size | omega); have q4f := fun o => bfroz hb (w.heap.size + 1) o (by first | go_size | omega); clear hb))
    refine bodyPost_ret (v := .tuple #[.agg #[.int .i64 2, .int .i64 0, .string u], .bool true]) (by simp [results, Tryz.results29, go_sem, q1b, q3b, q4b]) rfl ⟨rfl, by repeat (first | (with_reducible assumption) | (refine below_set ?_ (by omega)))⟩
  obtain rfl : k = 1 := by omega
  clear hk12
  cases hd : decD a3 with
  | none =>
    have hcv : convV (a1, a2, a3) 1 = (zeroV, false) := by
      unfold convV
      rw [if_neg HN.out, if_neg he1, if_neg (by decide), hd]
    rw [hcv]
    clear hcv
    have ho : optV none = .tuple #[.int .i64 0, .bool false] := rfl
    have HD := Lib.hid hd; clear hd
    go_enter Tryz.func29, Tryz.ntmps29
    go_wp2_with (first | (go_at_call 56; refine call_ret (w := w) (implIsValidValue_b _ a1 a2 a3 true HS.out HV.out) (by go_grown) ?_; intro g1 hG1 hb hz1 hy1; (try simp only [World.size_alloc, World.size_setCell, World.size_drew] at hy1); have q1a := fun o => bcell hb w.heap.size o (by first | go_size | omega); have q1b := fun o => bcell hb (w.heap.size + 1) o (by first | go_size | omega); have q1f := fun o => bfroz hb (w.heap.size + 1) o (by first | go_size | omega); clear hb) | (go_at_call 59; have hcon := (fun w1 h h2 => implDecode_c w1 a3 HS.out h h2); rw [HD.out, ho] at hcon; refine call_ret (w := w) (hcon _ (HT.out.keep (by go_grown)) (HER.out.keep (by go_grown))) (by go_grown) ?_; clear hcon; intro g5 hG5 hb hz5 hy5; (try simp only [World.size_alloc, World.size_setCell, World.size_drew] at hy5); have q5a := fun o => bcell hb w.heap.size o (by first | go_size | omega); have q5b := fun o => bcell hb (w.heap.size + 1) o (by first | go_size | omega); have q5f := fun o => bfroz hb (w.heap.size + 1) o (by first | go_size | omega); clear hb))
    refine bodyPost_ret (v := .tuple #[.agg #[.int .i64 0, .int .i64 0, .string ⟨#[]⟩], .bool false]) (by simp [results, Tryz.results29, go_sem, q1b, q5b]) rfl ⟨rfl, by repeat (first | (with_reducible assumption) | (refine below_set ?_ (by omega)))⟩
  | some n =>
    have hcv : convV (a1, a2, a3) 1 = ((1, (n : Int), ⟨#[]⟩), true) := by
      unfold convV
      rw [if_neg HN.out, if_neg he1, if_neg (by decide), hd]
    rw [hcv]
    clear hcv
    have ho : optV (some n) = .tuple #[.int .i64 n, .bool true] := rfl
    have HD := Lib.hid hd; clear hd
    go_enter Tryz.func29, Tryz.ntmps29
    go_wp2_with (first | (go_at_call 56; refine call_ret (w := w) (implIsValidValue_b _ a1 a2 a3 true HS.out HV.out) (by go_grown) ?_; intro g1 hG1 hb hz1 hy1; (try simp only [World.size_alloc, World.size_setCell, World.size_drew] at hy1); have q1a := fun o => bcell hb w.heap.size o (by first | go_size | omega); have q1b := fun o => bcell hb (w.heap.size + 1) o (by first | go_size | omega); have q1f := fun o => bfroz hb (w.heap.size + 1) o (by first | go_size | omega); clear hb) | (go_at_call 59; have hcon := (fun w1 h h2 => implDecode_c w1 a3 HS.out h h2); rw [HD.out, ho] at hcon; refine call_ret (w := w) (hcon _ (HT.out.keep (by go_grown)) (HER.out.keep (by go_grown))) (by go_grown) ?_; clear hcon; intro g5 hG5 hb hz5 hy5; (try simp only [World.size_alloc, World.size_setCell, World.size_drew] at hy5); have q5a := fun o => bcell hb w.heap.size o (by first | go_size | omega); have q5b := fun o => bcell hb (w.heap.size + 1) o (by first | go_size | omega); have q5f := fun o => bfroz hb (w.heap.size + 1) o (by first | go_size | omega); clear hb) | (go_at_call 60; refine call_ret (w := w) (implIntValue_c _ (n : Int)) (by go_grown) ?_; intro g6 hG6 hb hz6 hy6; (try simp only [World.size_alloc, World.size_setCell, World.size_drew] at hy6); have q6a := fun o => bcell hb w.heap.size o (by first | go_size | omega); have q6b := fun o => bcell hb (w.heap.size + 1) o (by first | go_size | omega); have q6f := fun o => bfroz hb (w.heap.size + 1) o (by first | go_size | omega); clear hb))
    refine bodyPost_ret (v := .tuple #[.agg #[.int .i64 1, .int .i64 n, .string ⟨#[]⟩], .bool true]) (by simp [results, Tryz.results29, go_sem, q1b, q5b, q6b]) rfl ⟨rfl, by repeat (first | (with_reducible assumption) | (refine below_set ?_ (by omega)))⟩
end Go.Proofs.YtdakhddpcfimaaaGreatDoor
namespace Go.Proofs.YtdakhddpcfimaaaGreatDoor
open Go.RowKit
open GoD (rd own)
section
variable {P : Program}
theorem acalls_conv {f : Nat} (hok : FnOk P f) {v : ValueD} {k : Int} {p : ValueD × Bool} (hp : I64 v.1 → I64 v.2.1 → v.2.2.size ≤ maxLen → I64 p.1.1 ∧ I64 p.1.2.1 ∧ p.1.2.2.size ≤ maxLen)
    (h : ∀ w, Good P w → I64 v.1 → I64 v.2.1 → v.2.2.size ≤ maxLen → I64 k → Calls P f #[valOf v, .int .i64 k] w (Ret w (resV p))) : ACalls P f [.a [.i v.1, .i v.2.1, .s v.2.2], .i k] (.tup [(true, [.i p.1.1, .i p.1.2.1, .s p.1.2.2]), (false, [.b p.2])]) := by
  refine ⟨hok, fun w hg F vals hF hall => ?_⟩
  cases hall with
  | cons h1 h2 =>
    cases h2 with
    | cons h2 h3 =>
      cases h3
      obtain ⟨vs, rfl, hv⟩ := h1
      cases hv with
      | cons a1 hv => cases hv with
        | cons a2 hv => cases hv with
          | cons a3 hv =>
            cases hv
            obtain ⟨rfl, i1⟩ := a1
            obtain ⟨rfl, i2⟩ := a2
            obtain ⟨rfl, i3⟩ := a3
            obtain ⟨rfl, i4⟩ := h2
            have j1 := (inR_i64 _).1 i1
            have j2 := (inR_i64 _).1 i2
            obtain ⟨q1, q2, q3⟩ := hp j1 j2 i3
            refine (h w hg j1 j2 i3 ((inR_i64 _).1 i4)).mono ?_
            rintro e w' ⟨rfl, hb⟩
            exact aret_pure hb fun J => ⟨[valOf p.1, .bool p.2], rfl, .cons ⟨[.int .i64 p.1.1, .int .i64 p.1.2.1, .string p.1.2.2], rfl, .cons ⟨rfl, (inR_i64 _).2 q1⟩ (.cons ⟨rfl, (inR_i64 _).2 q2⟩ (.cons ⟨rfl, q3⟩ .nil))⟩ (.cons ⟨_, rfl, rfl⟩ .nil)⟩
end
theorem decD_le {s : ByteArray} {n : Nat} (h : decD s = some n) : n ≤ 999 := by
  by_cases hex : ∃ n : Nat, n ≤ 999 ∧ encodeInt (n : Int) = s
  · unfold decD at h
    rw [dif_pos hex] at h
    have := hex.choose_spec
    rw [Option.some.inj h] at this
    exact this.1
  · unfold decD at h
    rw [dif_neg hex] at h
    cases h
theorem conv_ok {v : ValueD} {k : Int} (h1 : I64 v.1) (h2 : I64 v.2.1) (h3 : v.2.2.size ≤ maxLen) : I64 (convV v k).1.1 ∧ I64 (convV v k).1.2.1 ∧ (convV v k).1.2.2.size ≤ maxLen := by
  have hz : I64 zeroV.1 ∧ I64 zeroV.2.1 ∧ zeroV.2.2.size ≤ maxLen := ⟨⟨by decide, by decide⟩, ⟨by decide, by decide⟩, Nat.zero_le _⟩
  unfold convV
  split
  · exact hz
  · split
    · exact ⟨h1, h2, h3⟩
    · split
      · refine ⟨⟨show (-9223372036854775808 : Int) ≤ 2 by decide, show (2 : Int) ≤ 9223372036854775807 by decide⟩, ⟨show (-9223372036854775808 : Int) ≤ 0 by decide, show (0 : Int) ≤ 9223372036854775807 by decide⟩, ?_⟩
        show (encodeInt v.2.1).size ≤ maxLen
        unfold encodeInt maxLen
        split
        · rename_i h
          have := numeral_size h
          rw [shift_size]
          omega
        · exact Nat.zero_le _
      · split
        · rename_i n hn
          have hle : n ≤ 999 := decD_le hn
          exact ⟨⟨show (-9223372036854775808 : Int) ≤ 1 by decide, show (1 : Int) ≤ 9223372036854775807 by decide⟩, ⟨by show (-9223372036854775808 : Int) ≤ (n : Int); omega, by show (n : Int) ≤ 9223372036854775807; omega⟩, Nat.zero_le _⟩
        · exact hz
noncomputable def implConvertValue (v : ValueD) (k : Int) : ValueD × Bool := convV v k
noncomputable def specConvertValue (v : ValueD) (k : Int) : ValueD × Bool := convV v k
theorem implConvertValue_a (v : ValueD) (k : Int) : ACalls Tryz.prog 29 [.a [.i v.1, .i v.2.1, .s v.2.2], .i k] (.tup [(true, [.i (implConvertValue v k).1.1, .i (implConvertValue v k).1.2.1, .s (implConvertValue v k).1.2.2]), (false, [.b (implConvertValue v k).2])]) :=
  acalls_conv (by unfold FnOk; kernel_rfl) conv_ok fun w hg h1 h2 h3 hk => implConvert_c w v.1 v.2.1 v.2.2 k h1 h2 h3 hk (hg.tab _ gTab) (hg.err _ gErr)
theorem specConvertValue_a (v : ValueD) (k : Int) : ACalls Tryz.prog 21 [.a [.i v.1, .i v.2.1, .s v.2.2], .i k] (.tup [(true, [.i (specConvertValue v k).1.1, .i (specConvertValue v k).1.2.1, .s (specConvertValue v k).1.2.2]), (false, [.b (specConvertValue v k).2])]) :=
  acalls_conv (by unfold FnOk; kernel_rfl) conv_ok fun w _ h1 h2 h3 hk => specConvert_c w v.1 v.2.1 v.2.2 k h1 h2 h3 hk
end Go.Proofs.YtdakhddpcfimaaaGreatDoor
