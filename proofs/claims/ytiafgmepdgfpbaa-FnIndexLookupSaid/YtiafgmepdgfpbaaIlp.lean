/- The index contains a file under a name and a value exactly if the file has that attribute: the law on lookups is true. -/
import Derived.Test.YtiafgmepdgfpbaaLIl
set_option linter.unusedVariables false
set_option linter.unusedSimpArgs false
namespace Go.Proofs.Ytiafgmepdgfpbaa
open Go.RowKit
theorem samePostE (a b : PostingD) : lawssamePosting a b = true ↔ a = b := by
  unfold lawssamePosting
  have hi : ∀ a b : List Int, lawssameInts a b = true ↔ a = b := fun a b => eqE_iff (p := fun a b : Int => a == b) (fun a b => beq_iff_eq) (f := lawssameInts_f0 b) (e := lawssameInts_e0) fun k a => by
    unfold lawssameInts_f0
    cases h : (a == nth b k) <;> simp [bne, h]
  rw [Bool.and_eq_true, Bool.and_eq_true, bytesE, valE, hi]
  obtain ⟨a1, a2, a3⟩ := a
  obtain ⟨b1, b2, b3⟩ := b
  exact ⟨fun ⟨h1, h2, h3⟩ => by simp only at h1 h2 h3; rw [h1, h2, h3], fun h => by cases h; exact ⟨rfl, rfl, rfl⟩⟩
theorem samePostsE (a b : List PostingD) : lawssamePostings a b = true ↔ a = b := eqE_iff (p := lawssamePosting) samePostE (f := lawssamePostings_f0 b) (e := lawssamePostings_e0) fun k a => rfl
theorem sameIntsE (a b : List Int) : lawssameInts a b = true ↔ a = b := eqE_iff (p := fun a b : Int => a == b) (fun a b => beq_iff_eq) (f := lawssameInts_f0 b) (e := lawssameInts_e0) fun k a => by
  unfold lawssameInts_f0
  cases h : (a == nth b k) <;> simp [bne, h]
theorem containsE (x : Int) : ∀ (l : List Int) (k : Nat), x ∈ l → Out.on (forL (specContainsID_f0 x) specContainsID_e0 l k ()) (fun _ => false) = true
  | [], _, h => by cases h
  | a :: l, k, h => by
    simp only [forL, specContainsID_f0]
    cases hc : (a == x) with
    | true => rfl
    | false =>
      simp only [cond_false]
      refine containsE x l (k + 1) ((List.mem_cons.1 h).resolve_left fun e => ?_)
      rw [e, beq_self_eq_true] at hc
      cases hc
theorem namesE (f : FileD) : implAttrNames f = f.2.2.2.2.map (·.1) := by
  unfold implAttrNames
  rw [forL_map (f := implAttrNames_f0) (e := implAttrNames_e0) (g := fun a : AttrD => a.1) (fun _ _ _ => rfl)]
  simp [Out.on, implAttrNames_e0]
theorem getA_mem (n : ByteArray) (d : ValueD) : ∀ (l : List AttrD) (k : Nat), n ∈ l.map (·.1) → (n, Out.on (forL (specGetAttr_f0 n) specGetAttr_e0 l k ()) (fun _ => d)) ∈ l
  | [], _, h => by cases h
  | a :: l, k, h => by
    simp only [forL, specGetAttr_f0]
    cases hc : (a.1.toList == n.toList) with
    | true =>
      have : a.1 = n := (bytesE _ _).1 hc
      obtain ⟨a1, a2⟩ := a
      cases this
      exact List.mem_cons_self
    | false =>
      simp only [cond_false]
      refine List.mem_cons_of_mem _ (getA_mem n d l (k + 1) ?_)
      rw [List.map_cons] at h
      refine (List.mem_cons.1 h).resolve_left fun e => ?_
      rw [(bytesE _ _).2 e.symm] at hc
      cases hc
theorem asc_val {l : List AttrD} (hp : l.Pairwise fun a b => bl a.1 b.1 = true) {n : ByteArray} {v w : ValueD} (h1 : (n, v) ∈ l) (h2 : (n, w) ∈ l) : v = w := by
  induction l with
  | nil => cases h1
  | cons a l ih =>
    obtain ⟨p1, p2⟩ := List.pairwise_cons.1 hp
    rcases List.mem_cons.1 h1 with e1 | h1 <;> rcases List.mem_cons.1 h2 with e2 | h2
    · rw [← e2] at e1; exact (Prod.mk.inj e1).2
    · have := p1 _ h2
      rw [← e1, bl_irr] at this
      cases this
    · have := p1 _ h1
      rw [← e2, bl_irr] at this
      cases this
    · exact ih p2 h1 h2
theorem getA_one {l : List AttrD} (hp : l.Pairwise fun a b => bl a.1 b.1 = true) {n : ByteArray} {v d : ValueD} (h : (n, v) ∈ l) : Out.on (forL (specGetAttr_f0 n) specGetAttr_e0 l 0 ()) (fun _ => d) = v :=
  asc_val hp (getA_mem n d l 0 (List.mem_map_of_mem h)) h
theorem ixF_in {α : Type} (p : α → Bool) : ∀ (l : List α) (a : α), a ∈ l → p a = true → 0 ≤ ixF p l
  | b :: l, a, h, hp => by
    cases hb : p b with
    | true => simp [ixF, hb]
    | false =>
      have := ixF_in p l a ((List.mem_cons.1 h).resolve_left fun e => by rw [e, hb] at hp; cases hp) hp
      simp only [ixF, hb, cond_false]
      rw [beq_eq_false_iff_ne.2 (by omega), cond_false]
      omega
theorem fileE {s : StoreD} (hv : VS s) {f : FileD} (hf : f ∈ s.2.1) : lawsfileOf s f.1 = f := by
  unfold lawsfileOf specFindFile
  have e : specl05Place s f.1 = ixF (fun a : FileD => a.1 == f.1) s.2.1 := idx_eq (p := fun a : FileD => a.1 == f.1) (f := specl05Place_f0 f.1) (e := specl05Place_e0) (fun _ _ _ => rfl) s.2.1
  have h0 := ixF_in (fun a : FileD => a.1 == f.1) s.2.1 f hf (by simp)
  obtain ⟨_, h2⟩ := ixF_find (fun a : FileD => a.1 == f.1) s.2.1
  have h3 := h2 h0
  rw [e, decide_eq_false (by omega), cond_false]
  have h4 := List.find?_some h3
  have h5 := List.mem_of_find?_eq_some h3
  show nth s.2.1 _ = f
  generalize nth s.2.1 (Int.toNat (ixF (fun a : FileD => a.1 == f.1) s.2.1)) = g at h4 h5
  have he : g.1 = f.1 := by simpa using h4
  have hp := files_one hv.asc
  obtain ⟨i, hi, rfl⟩ := List.getElem_of_mem h5
  obtain ⟨j, hj, rfl⟩ := List.getElem_of_mem hf
  have hpw := List.pairwise_iff_getElem.1 hp
  rcases Nat.lt_trichotomy i j with hij | hij | hij
  · have := hpw i j hi hj hij; omega
  · subst hij; rfl
  · have := hpw j i hj hi hij; omega
theorem lawsFnIndexLookup_true (code : List UInt8) : lawsFnIndexLookup code = true := by
  have hs := drawIx_ok code
  have hl : ∀ (i : Nat) (a : FileD), (specDrawBuildIndex code).2.1[i]? = some a → lawsFnIndexLookup_f0 code (0 + i) a () = .next () := by
    intro i f hf
    have hm := List.mem_of_getElem? hf
    unfold lawsFnIndexLookup_f0
    rw [forL_of_all (f := lawsFnIndexLookup_f1 code f) (e := lawsFnIndexLookup_e1) _ 0 (fun k n hn => ?_)]
    · rfl
    · rw [namesE] at hn
      have hn := getA_mem n (0, 0, ⟨#[]⟩) f.2.2.2.2 0 (List.mem_of_getElem? hn)
      have hc := containsE f.1 (implLookupIndex (implBuildIndex (specDrawBuildIndex code)) n (specGetAttr f n)) 0 (by rw [lookI]; exact (lk_build _ _ _ _).2 ⟨f, hm, rfl, hn⟩)
      unfold lawsFnIndexLookup_f1
      rw [show specContainsID (implLookupIndex (implBuildIndex (specDrawBuildIndex code)) n (specGetAttr f n)) f.1 = true from hc]
      rfl
  have hg : ∀ (i : Nat) (x : Int), (implLookupIndex (implBuildIndex (specDrawBuildIndex code)) (specDrawLookupIndex code).2.1 (specDrawLookupIndex code).2.2)[i]? = some x → lawsFnIndexLookup_f2 code (0 + i) x () = .next () := by
    intro i x hx
    have hx := List.mem_of_getElem? hx
    rw [lookI] at hx
    obtain ⟨f, hf, rfl, ha⟩ := (lk_build _ _ _ _).1 hx
    obtain ⟨j, hj, rfl⟩ := List.getElem_of_mem hf
    have hv := (hs.vs.file j _ (List.getElem?_eq_getElem hj)).1
    have hk := (vf_kind hv ha).1
    have hk : ((specDrawLookupIndex code).2.2.1 == (0 : Int)) = false := beq_eq_false_iff_ne.2 hk
    have hga : specGetAttr (specDrawBuildIndex code).2.1[j] (specDrawLookupIndex code).2.1 = (specDrawLookupIndex code).2.2 := getA_one (vf_asc hv) ha
    unfold lawsFnIndexLookup_f2
    rw [hk, fileE hs.vs hf, hga, (valE _ _).2 rfl]
    rfl
  unfold lawsFnIndexLookup
  rw [buildIx_eq, (samePostsE _ _).2 rfl, lookI (specDrawLookupIndex code).1, lookS, (sameIntsE _ _).2 rfl, forL_of_all _ 0 hl]
  simp only [Bool.not_true, cond_false, Out.on]
  rw [forL_of_all _ 0 hg]
  simp only [Out.on]
  have he : (((implLookupIndex (implBuildIndex (lawssampleStore 5)) ⟨#[97]⟩ (1, 5, ⟨#[]⟩)).length : Int) == (1 : Int)) = true := by kernel_rfl
  rw [he]
  cases lawsbig code <;> rfl
end Go.Proofs.Ytiafgmepdgfpbaa
