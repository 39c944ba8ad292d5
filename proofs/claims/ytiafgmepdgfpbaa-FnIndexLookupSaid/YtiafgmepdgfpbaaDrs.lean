/- Drawn files are valid in the usual schema; drawn stores are valid. -/
import Derived.Test.YtiafgmepdgfpbaaDra
set_option linter.unusedVariables false
set_option linter.unusedSimpArgs false
namespace Go.Proofs.Ytiafgmepdgfpbaa
open Go.RowKit
def stA (l : List AttrD) (nm : ByteArray) (v : ValueD) : List AttrD := (specSetAttr (0, 0, false, 0, l) nm v).2.2.2.2
theorem setAttr_at (f : FileD) (nm : ByteArray) (v : ValueD) : specSetAttr f nm v = (f.1, f.2.1, f.2.2.1, f.2.2.2.1, stA f.2.2.2.2 nm v) := by
  obtain ⟨a, b, c, d, l⟩ := f
  unfold stA specSetAttr
  dsimp only
  rw [forL_filter (f := specSetAttr_f0 nm) (e := specSetAttr_e0) (p := fun a => !(a.1.toList == nm.toList)) (g := id) (fun _ _ _ => rfl)]
  simp only [Out.on]
  cases (v.1 != (0 : Int)) with
  | false => rfl
  | true =>
    simp only [cond_true]
    generalize specSetAttr_e0 _ _ = l'
    obtain ⟨t, ht⟩ := forL_noret (f := specSetAttr_f1 nm) (e := specSetAttr_e1) (fun k a s r => by
      unfold specSetAttr_f1
      generalize (Op.bytesLess a.1.toList nm.toList || a.1.toList == nm.toList) = c
      cases c <;> simp) l' 0 ()
    rw [ht]
def ints4 : List Int := [0, 1, 2, 3]
def A1 : List (List AttrD) := [] :: ints4.map fun n => stA [] ⟨#[97]⟩ (specIntValue n)
def A2 : List (List AttrD) := A1 ++ A1.flatMap fun l => ints4.map fun n => stA l ⟨#[98]⟩ (specIntValue n)
def A3 : List (List AttrD) := A2 ++ A2.flatMap fun l => ([⟨#[105, 110, 107]⟩, ⟨#[115, 101, 97]⟩] : List ByteArray).map fun s => stA l ⟨#[110]⟩ (specStringValue s)
def A4 : List (List AttrD) := A3 ++ A3.flatMap fun l => ([⟨#[114, 101, 100]⟩, ⟨#[98, 108, 117, 101]⟩] : List ByteArray).map fun s => stA l ⟨#[116]⟩ (specStringValue s)
theorem in4 {x : Int} (h0 : 0 ≤ x) (h1 : x < 4) : x ∈ ints4 := by
  unfold ints4
  simp only [List.mem_cons, List.not_mem_nil, or_false]
  omega
theorem pick_mem (code : List UInt8) (ci : Nat) (ch : Int) {list : List ByteArray} (hp : 0 < list.length) : (specl01Pick code ci ch list).1 ∈ list := by
  unfold specl01Pick lt
  have hb := specl01Below_bd code ci ch (list.length : Int)
  generalize specl01Below code ci ch (list.length : Int) = x at hb ⊢
  exact List.mem_of_getElem? (nth_get (by omega))
structure FOk (id : Int) (S : List (List AttrD)) (f : FileD) : Prop where
  h1 : f.1 = id
  h2 : 0 ≤ f.2.1
  h3 : f.2.1 ≤ 2
  h4 : 0 ≤ f.2.2.2.1
  h5 : f.2.2.2.1 ≤ 6
  h6 : f.2.2.2.2 ∈ S
theorem fok_set {id : Int} {S S' : List (List AttrD)} {f : FileD} {nm : ByteArray} {v : ValueD} (h : FOk id S f) (hm : ∀ l, l ∈ S → stA l nm v ∈ S') : FOk id S' (specSetAttr f nm v) := by
  rw [setAttr_at]
  exact ⟨h.h1, h.h2, h.h3, h.h4, h.h5, hm _ h.h6⟩
theorem fok_sub {id : Int} {S S' : List (List AttrD)} {f : FileD} (h : FOk id S f) (hm : ∀ l, l ∈ S → l ∈ S') : FOk id S' f := ⟨h.h1, h.h2, h.h3, h.h4, h.h5, hm _ h.h6⟩
theorem st_a {x : Int} (h0 : 0 ≤ x) (h1 : x < 4) : ∀ l, l ∈ ([[]] : List (List AttrD)) → stA l ⟨#[97]⟩ (specIntValue x) ∈ A1 := fun l hl => by
  rw [List.mem_singleton.1 hl]
  exact List.mem_cons_of_mem _ (List.mem_map.2 ⟨x, in4 h0 h1, rfl⟩)
theorem lf {id : Int} {S : List (List AttrD)} {α : Type} {t : α} {f : α → FileD × Nat × Int} (Q : α → Prop) (h : Q t) (k : ∀ x, Q x → FOk id S (f x).1) : FOk id S (lt t f).1 := k t h
theorem l04_ok (code : List UInt8) (ci : Nat) (ch id : Int) : FOk id A4 (specl04File code ci ch id).1 := by
  have bd : ∀ (ci : Nat) (ch : Int) (n : Int), 0 < n → 0 ≤ (specl01Below code ci ch n).1 ∧ (specl01Below code ci ch n).1 < n := fun ci ch n h => ⟨(specl01Below_bd code ci ch n).1, (specl01Below_bd code ci ch n).2.1 h⟩
  unfold specl04File
  refine lf (fun x : Int × Nat × Int => 0 ≤ x.1 ∧ x.1 < 3) (bd ci ch 3 (by decide)) fun x1 hx1 => ?_
  refine lf (fun _ => True) trivial fun x2 _ => ?_
  refine lf (fun _ => True) trivial fun x3 _ => ?_
  refine lf (fun x : Int × Nat × Int => 0 ≤ x.1 ∧ x.1 ≤ 6) ?_ fun x4 hx4 => ?_
  · cases x3.1 with
    | true => simp only [cond_true]; exact lt_any (P := fun x : Int × Nat × Int => 0 ≤ x.1 ∧ x.1 ≤ 6) (fun x : Int × Nat × Int => 0 ≤ x.1 ∧ x.1 < 7) (bd _ _ 7 (by decide)) fun x h => ⟨h.1, by have := h.2; show x.1 ≤ 6; omega⟩
    | false => exact ⟨Int.le_refl 0, by show (0 : Int) ≤ 6; decide⟩
  refine lf (fun _ => True) trivial fun x7 _ => ?_
  have f0 : FOk id [[]] (id, x1.1, x2.1, x4.1, []) := ⟨rfl, hx1.1, by have := hx1.2; show x1.1 ≤ 2; omega, hx4.1, hx4.2, by simp⟩
  refine lf (fun z : FileD × Nat × Int => FOk id A1 z.1) ?_ fun x8 hx8 => ?_
  · cases x7.1 with
    | true => exact fok_sub f0 fun l hl => by rw [List.mem_singleton.1 hl]; exact List.mem_cons_self
    | false => simp only [Bool.not_false, cond_true]; exact lf (S := A1) (fun x : Int × Nat × Int => 0 ≤ x.1 ∧ x.1 < 4) (bd _ _ 4 (by decide)) fun y hy => fok_set f0 (st_a hy.1 hy.2)
  refine lf (fun _ => True) trivial fun x11 _ => ?_
  refine lf (fun z : FileD × Nat × Int => FOk id A2 z.1) ?_ fun x12 hx12 => ?_
  · cases x11.1 with
    | false => exact fok_sub hx8 fun l hl => List.mem_append_left _ hl
    | true => simp only [cond_true]; exact lf (S := A2) (fun x : Int × Nat × Int => 0 ≤ x.1 ∧ x.1 < 4) (bd _ _ 4 (by decide)) fun y hy => fok_set hx8 fun l hl => List.mem_append_right _ (List.mem_flatMap.2 ⟨l, hl, List.mem_map.2 ⟨y.1, in4 hy.1 hy.2, rfl⟩⟩)
  refine lf (fun _ => True) trivial fun x15 _ => ?_
  refine lf (fun z : FileD × Nat × Int => FOk id A3 z.1) ?_ fun x16 hx16 => ?_
  · cases x15.1 with
    | true => exact fok_sub hx12 fun l hl => List.mem_append_left _ hl
    | false => simp only [Bool.not_false, cond_true]; exact lf (S := A3) (fun x : ByteArray × Nat × Int => x.1 ∈ ([⟨#[105, 110, 107]⟩, ⟨#[115, 101, 97]⟩] : List ByteArray)) (pick_mem code _ _ (Nat.zero_lt_succ _)) fun y hy => fok_set hx12 fun l hl => List.mem_append_right _ (List.mem_flatMap.2 ⟨l, hl, List.mem_map.2 ⟨y.1, hy, rfl⟩⟩)
  refine lf (fun _ => True) trivial fun x19 _ => ?_
  cases x19.1 with
  | false => exact fok_sub hx16 fun l hl => List.mem_append_left _ hl
  | true => simp only [cond_true]; exact lf (S := A4) (fun x : ByteArray × Nat × Int => x.1 ∈ ([⟨#[114, 101, 100]⟩, ⟨#[98, 108, 117, 101]⟩] : List ByteArray)) (pick_mem code _ _ (Nat.zero_lt_succ _)) fun y hy => fok_set hx16 fun l hl => List.mem_append_right _ (List.mem_flatMap.2 ⟨l, hl, List.mem_map.2 ⟨y.1, hy, rfl⟩⟩)
def okAttrs (l : List AttrD) : Bool := match forL (specIsValidFile_f0 specl03Usual (0, 0, false, 0, l)) specIsValidFile_e0 l 0 () with
  | .brk _ => true
  | .ret _ => false
theorem all_ok : A4.all okAttrs = true := by kernel_rfl
theorem usual_ok : specIsValidSchema specl03Usual = true := by kernel_rfl
theorem l04_valid {id i : Int} {f : FileD} (h : FOk id A4 f) (h1 : 1 ≤ i) (h2 : i ≤ 60) : specIsValidFile specl03Usual (i, f.2) = true := by
  obtain ⟨a, o, s, x, l⟩ := f
  have hl := List.all_eq_true.1 all_ok l h.h6
  have e : forL (specIsValidFile_f0 specl03Usual (i, o, s, x, l)) specIsValidFile_e0 l 0 () = .brk () := by
    have e2 : specIsValidFile_f0 specl03Usual (i, o, s, x, l) = specIsValidFile_f0 specl03Usual (0, 0, false, 0, l) := rfl
    rw [e2]
    unfold okAttrs at hl
    split at hl
    · rename_i t ht; exact ht
    · cases hl
  have h2' := h.h2
  have h3' := h.h3
  have h4' := h.h4
  have h5' := h.h5
  dsimp only at h2' h3' h4' h5'
  show Out.on (forL (specIsValidFile_f0 specl03Usual (i, o, s, x, l)) specIsValidFile_e0 l 0 ()) _ = true
  rw [e]
  simp only [Out.on, usual_ok, specl01In, Bool.true_and]
  rw [decide_eq_true (show i ≥ 1 from h1), decide_eq_true (show i ≤ 60 from h2), decide_eq_true (show o ≥ 0 from h2'), decide_eq_true (show o ≤ 2 from h3'), decide_eq_true (show x ≥ 0 from h4'), decide_eq_true (show x ≤ 60 by omega)]
  rfl
structure S5 (s : StoreD) : Prop where
  vs : VS s
  sch : s.1 = specl03Usual
  nx : s.2.2 ≤ 8 + s.2.1.length
theorem s5_push {s : StoreD} {id : Int} {f : FileD} (h : S5 s) (hl : s.2.1.length < 12) (hf : FOk id A4 f) : (specCreateFile s f).1.2.1.length = s.2.1.length + 1 ∧ S5 (specCreateFile s f).1 := by
  have hn : s.2.2 ≤ 60 := by have := h.nx; omega
  have hv : specIsValidFile s.1 (s.2.2, f.2) = true := by rw [h.sch]; exact l04_valid hf h.vs.nx1 hn
  rw [createS h.vs hl hn hv]
  exact ⟨by simp, vs_push h.vs hl hn hv, h.sch, by have := h.nx; simp; omega⟩
theorem l05_ok (code : List UInt8) (ci : Nat) (ch : Int) : S5 (specl05Store code ci ch).1 ∧ (specl05Store code ci ch).1.2.1.length ≤ 7 := by
  unfold specl05Store
  obtain ⟨t, ht⟩ := whlD_brk (f := specl05Store_f0 code) (fun s r => by
    unfold specl05Store_f0 lt
    dsimp only
    generalize decide (_ < IntKind.i64.wrap _) = c
    cases c <;> simp) 8 (0, (specNewStore specl03Usual), ci, ch)
  have hj : VS t.1 ∧ t.1.1 = specl03Usual ∧ t.1.2.2 ≤ 8 ∧ t.1.2.1.length ≤ 7 := whlD_inv (f := specl05Store_f0 code) (I := fun s => VS s.2.1 ∧ s.2.1.1 = specl03Usual ∧ s.2.1.2.2 ≤ 1 + s.1 ∧ (s.2.1.2.1.length : Int) ≤ s.1 ∧ 0 ≤ s.1 ∧ s.1 ≤ 7) (J := fun t => VS t.1 ∧ t.1.1 = specl03Usual ∧ t.1.2.2 ≤ 8 ∧ t.1.2.1.length ≤ 7) (fun s s' hi h => by
    unfold specl05Store_f0 lt at h
    have hb := specl01Below_bd code s.2.2.1 s.2.2.2 7
    generalize specl01Below code s.2.2.1 s.2.2.2 7 = x at h hb
    have e : IntKind.i64.wrap (1 + x.1) = 1 + x.1 := IntWalk.i64_in _ (by omega)
    simp only [e] at h
    obtain ⟨i1, i2, i3, i4, i5, i6⟩ := hi
    by_cases hc : s.1 < 1 + x.1
    · simp only [decide_eq_true hc, cond_true] at h
      have h := Rd.next.inj h
      have e3 : IntKind.i64.wrap (s.1 + 1) = s.1 + 1 := IntWalk.i64_in _ (by omega)
      rw [← h, e3]
      obtain ⟨c1, c2, c3, c4, c5⟩ := create_vs (specl04File code x.2.1 x.2.2 1).1 i1
      refine ⟨c1, c2.trans i2, ?_, ?_, ?_, ?_⟩ <;> dsimp only <;> omega
    · simp only [decide_eq_false hc, cond_false] at h
      cases h) (fun s t hi h => by
    unfold specl05Store_f0 lt at h
    generalize specl01Below code s.2.2.1 s.2.2.2 7 = x at h
    obtain ⟨i1, i2, i3, i4, i5, i6⟩ := hi
    by_cases hc : s.1 < IntKind.i64.wrap (1 + x.1)
    · simp only [decide_eq_true hc, cond_true] at h
      cases h
    · simp only [decide_eq_false hc, cond_false] at h
      have h := Rd.brk.inj h
      rw [← h]
      exact ⟨i1, i2, by dsimp only; omega, by dsimp only; omega⟩) (by
    refine ⟨⟨usual_ok, by simp [specNewStore], by simp [specNewStore], by simp [specNewStore], fun i a h => by simp [specNewStore] at h, fun i a b h => by simp [specNewStore] at h⟩, rfl, ?_, ?_, ?_, ?_⟩
    · show (1 : Int) ≤ 1 + 0; decide
    · show ((0 : Nat) : Int) ≤ 0; decide
    · show (0 : Int) ≤ 0; decide
    · show (0 : Int) ≤ 7; decide) (specl05Store_w code ci ch _) ht
  rw [ht]
  simp only [Out.on]
  obtain ⟨j1, j2, j3, j4⟩ := hj
  have fin : S5 t.1 ∧ t.1.2.1.length ≤ 7 := ⟨⟨j1, j2, by omega⟩, j4⟩
  cases decide ((t.1.2.1.length : Int) > (2 : Int)) with
  | false => exact fin
  | true =>
    simp only [cond_true]
    refine lt_any (P := fun z : StoreD × Nat × Int => S5 z.1 ∧ z.1.2.1.length ≤ 7) (fun _ => True) trivial fun x5 _ => ?_
    cases x5.1 with
    | false => exact fin
    | true =>
      obtain ⟨d1, d2, d3, d4⟩ := delete_vs ((nth t.1.2.1 1).1) j1
      exact ⟨⟨d1, d2.trans j2, by show _ ≤ _; dsimp only [cond_true]; omega⟩, by dsimp only [cond_true]; omega⟩
theorem all_len : A4.all (fun l => decide (l.length ≤ 4)) = true := by kernel_rfl
theorem l04_len (code : List UInt8) (ci : Nat) (ch id : Int) : List.length (specl04File code ci ch id).1.2.2.2.2 ≤ 4 := of_decide_eq_true (List.all_eq_true.1 all_len _ (l04_ok code ci ch id).h6)
end Go.Proofs.Ytiafgmepdgfpbaa
