/- Texts of this proof, put together by a program: Vs, Ena, Enb, Isn, Isv, Ent, Enc, End, Enu, Vla, Vlb, Isw, Lid, Rp, Lia, Lib, Lic, Iza, Ise, Isr, Dra, Drs. -/
import Derived.Test.YtkbfhiamdcoieaaGreatDoorP5
import Derived.KernelRfl
import Derived.Lib.SlicesCompact
set_option linter.unusedVariables false
set_option linter.unusedSimpArgs false
namespace Go.Proofs.YtkbfhiamdcoieaaGreatDoor
open Go.RowKit
structure VS (s : Ql) : Prop where
  sch : Jh s.1 = true
  len : s.2.1.length ≤ 12
  nx1 : 1 ≤ s.2.2
  nx2 : s.2.2 ≤ 61
  file : ∀ (i : Nat) (a : Q9), s.2.1[i]? = some a → Xi s.1 a = true ∧ a.1 < s.2.2
  asc : ∀ (i : Nat) (a b : Q9), s.2.1[i]? = some a → s.2.1[i+1]? = some b → a.1 < b.1
theorem Sj {s : Ql} (h : VS s) : Qw s = true := by
  unfold Qw
  rw [E7 (l := s.2.1) (k := 0) (fun i a hi => ?_)]
  · have h1 := h.len
    have h2 := h.nx1
    have h3 := h.nx2
    simp only [Out.on, Xa, h.sch, Bool.true_and]
    rw [decide_eq_true (show (s.2.1.length : Int) ≤ 12 by omega), decide_eq_true (show s.2.2 ≥ 1 from h2), decide_eq_true (show s.2.2 ≤ 61 from h3)]
    rfl
  obtain ⟨h1, h2⟩ := h.file i a hi
  unfold Zh
  rw [h1, decide_eq_false (show ¬ a.1 ≥ s.2.2 by omega)]
  have e2 : (decide (((0 + i : Nat) : Int) > 0) && decide ((nth s.2.1 (Int.toNat (((0 + i : Nat) : Int) - 1))).1 ≥ a.1)) = false := by
    by_cases hp : 0 < i
    · have hlt : i - 1 < s.2.1.length := by have := (List.getElem?_eq_some_iff.1 hi).1; omega
      have h3 := h.asc (i - 1) _ a (K9 hlt) (by rw [show i - 1 + 1 = i by omega]; exact hi)
      rw [show Int.toNat (((0 + i : Nat) : Int) - 1) = i - 1 by omega, decide_eq_false (show ¬ (nth s.2.1 (i - 1)).1 ≥ a.1 by omega), Bool.and_false]
    obtain rfl : i = 0 := by omega
    rfl
  rw [e2]
  rfl
theorem Qbq {s : Ql} (h : Qw s = true) : VS s := by
  unfold Qw at h
  cases hl : Xp (Zh s) Vd s.2.1 0 () with
  | brk t =>
    rw [hl] at h
    simp only [Out.on, Bool.and_eq_true, Xa, decide_eq_true_eq] at h
    obtain ⟨h1, h2, h3, h4⟩ := h
    have key : ∀ (i : Nat) (a : Q9), s.2.1[i]? = some a → Xi s.1 a = true ∧ a.1 < s.2.2 ∧ (decide (((i : Nat) : Int) > 0) && decide ((nth s.2.1 (Int.toNat (((i : Nat) : Int) - 1))).1 ≥ a.1)) = false := fun i a hi => by
      have h5 := Od (fun k a t => by unfold Zh; generalize (_ || _ : Bool) = c; cases c <;> simp) hl i a hi
      unfold Zh at h5
      rw [Nat.zero_add] at h5
      cases hv : Xi s.1 a with
      | false => rw [hv] at h5; simp at h5
      | true =>
        rw [hv] at h5
        cases hd : decide (a.1 ≥ s.2.2) with
        | true => rw [hd] at h5; simp at h5
        | false =>
          rw [hd] at h5
          refine ⟨rfl, by have := of_decide_eq_false hd; omega, ?_⟩
          generalize (decide (((i : Nat) : Int) > 0) && decide ((nth s.2.1 (Int.toNat (((i : Nat) : Int) - 1))).1 ≥ a.1)) = c at h5
          cases c with
          | true => simp at h5
          | false => rfl
    refine ⟨h1, by omega, h3, h4, fun i a hi => ⟨(key i a hi).1, (key i a hi).2.1⟩, fun i a b ha hb => ?_⟩
    have h5 := (key (i + 1) b hb).2.2
    rw [decide_eq_true (show ((i + 1 : Nat) : Int) > 0 by omega), Bool.true_and, show Int.toNat (((i + 1 : Nat) : Int) - 1) = i by omega, Ip ha] at h5
    have := of_decide_eq_false h5
    omega
  | ret r =>
    rw [hl] at h
    obtain rfl : r = true := h
    exfalso
    have key : ∀ (l : List Q9) k, Xp (Zh s) Vd l k () ≠ .ret true := by
      intro l
      induction l with
      | nil => intro k h; simp [Xp] at h
      | cons a l ih =>
        intro k h
        simp only [Xp] at h
        unfold Zh at h
        split at h
        · exact ih _ h
        · cases h
        rename_i r hf; cases h; revert hf; generalize (_ || _ : Bool) = c; cases c <;> simp
    exact key _ _ hl
theorem EG (l : List Q9) : ∀ (k : Nat) (s : List Q9), Xp Di Dj l k s = .brk (s ++ l) := fun k s => by
  rw [Sa (f := Di) (e := Dj) (g := id) (fun _ _ _ => rfl), List.map_id]
  rfl
theorem EH (s : Ql) : Qf s = s := by
  unfold Qf
  rw [EG]
  rfl
theorem LI {s : Ql} {f : Q9} (h : VS s) (hl : s.2.1.length < 12) (hn : s.2.2 ≤ 60) (hf : Xi s.1 (s.2.2, f.2) = true) : VS (s.1, s.2.1 ++ [(s.2.2, f.2)], s.2.2 + 1) := by
  have hcase : ∀ (i : Nat) (a : Q9), (s.2.1 ++ [((s.2.2, f.2) : Q9)])[i]? = some a → s.2.1[i]? = some a ∨ (i = s.2.1.length ∧ a = (s.2.2, f.2)) := fun i a hi => by
    rw [List.getElem?_append] at hi
    split at hi
    · exact .inl hi
    right
    rename_i hge
    have : i - s.2.1.length = 0 := by
      have := (List.getElem?_eq_some_iff.1 hi).1
      simp at this; omega
    rw [this] at hi
    exact ⟨by omega, (Option.some.inj hi).symm⟩
  refine ⟨h.sch, by simp; omega, by have := h.nx1; show 1 ≤ s.2.2 + 1; omega, by show s.2.2 + 1 ≤ 61; omega, fun i a hi => ?_, fun i a b ha hb => ?_⟩
  · show Xi s.1 a = true ∧ a.1 < s.2.2 + 1
    rcases hcase i a hi with hi | ⟨_, rfl⟩
    · obtain ⟨h1, h2⟩ := h.file i a hi
      exact ⟨h1, by omega⟩
    exact ⟨hf, by show s.2.2 < s.2.2 + 1; omega⟩
  rcases hcase i a ha with ha | ⟨h1, rfl⟩
  · rcases hcase (i + 1) b hb with hb | ⟨_, rfl⟩
    · exact h.asc i a b ha hb
    exact (h.file i a ha).2
  rcases hcase (i + 1) b hb with hb | ⟨h2, _⟩
  · have := (List.getElem?_eq_some_iff.1 hb).1; omega
  omega
theorem LJ {s : Ql} {f : Q9} (h : VS s) (hl : s.2.1.length < 12) (hn : s.2.2 ≤ 60) (hf : Xi s.1 (s.2.2, f.2) = true) : Xv s f = ((s.1, s.2.1 ++ [(s.2.2, f.2)], s.2.2 + 1), s.2.2, true) := by
  unfold Xv
  rw [EH, Sj h, decide_eq_false (show ¬ (s.2.1.length : Int) ≥ 12 by omega)]
  have hf' : Xi s.1 (s.2.2, (Qn f).2.1, (Qn f).2.2.1, (Qn f).2.2.2.1, (Qn f).2.2.2.2) = true := hf
  have h1 := h.nx1
  rw [hf', IntWalk.i64_in _ (show _ ∧ _ by omega)]
  rfl
theorem Qcn {s : List Yq} {f : Q9} (h : Xi s f = true) : 1 ≤ f.1 ∧ f.1 ≤ 60 := by
  unfold Xi at h
  cases hl : Xp (Y9 s f) Jy f.2.2.2.2 0 () with
  | brk t =>
    rw [hl] at h
    simp only [Out.on, Bool.and_eq_true, Xa, decide_eq_true_eq] at h
    exact h.2.1
  | ret r =>
    rw [hl] at h
    obtain rfl : r = true := h
    exfalso
    have key : ∀ (l : List Uc) k, Xp (Y9 s f) Jy l k () ≠ .ret true := by
      intro l
      induction l with
      | nil => intro k h; simp [Xp] at h
      | cons a l ih =>
        intro k h
        simp only [Xp] at h
        unfold Y9 at h
        split at h
        · exact ih _ h
        · cases h
        rename_i r hf; cases h; revert hf; generalize (_ || _ : Bool) = c; cases c <;> simp
    exact key _ _ hl
theorem LL {s : Ql} (f : Q9) (h : VS s) : VS (Xv s f).1 ∧ (Xv s f).1.1 = s.1 ∧ (Xv s f).1.2.1.length ≤ s.2.1.length + 1 ∧ s.2.1.length ≤ (Xv s f).1.2.1.length ∧ (Xv s f).1.2.2 ≤ s.2.2 + 1 := by
  by_cases hc : s.2.1.length < 12 ∧ Xi s.1 (s.2.2, f.2) = true
  · have hn : s.2.2 ≤ 60 := (Qcn hc.2).2
    rw [LJ h hc.1 hn hc.2]
    exact ⟨LI h hc.1 hn hc.2, rfl, by simp, by simp, Int.le_refl _⟩
  have e : (Xv s f).1 = s := by
    unfold Xv
    rw [EH, Sj h]
    by_cases h1 : s.2.1.length < 12
    · have h2 : Xi s.1 (s.2.2, f.2) ≠ true := fun h2 => hc ⟨h1, h2⟩
      have h3 : Xi s.1 (s.2.2, (Qn f).2.1, (Qn f).2.2.1, (Qn f).2.2.2.1, (Qn f).2.2.2.2) = false := Bool.eq_false_iff.2 h2
      rw [h3]
      simp
    rw [decide_eq_true (show (s.2.1.length : Int) ≥ 12 by omega)]
    simp
  rw [e]
  exact ⟨h, rfl, by omega, by omega, by omega⟩
theorem LM {s : Ql} (id : Int) (h : VS s) : VS (Yw s id).1 ∧ (Yw s id).1.1 = s.1 ∧ (Yw s id).1.2.1.length ≤ s.2.1.length ∧ (Yw s id).1.2.2 = s.2.2 := by
  unfold Yw
  rw [EH, Sj h]
  by_cases hc : Q2 s id < 0
  · rw [decide_eq_true hc]
    exact ⟨h, rfl, Nat.le_refl _, rfl⟩
  rw [decide_eq_false hc]
  simp only [Bool.not_true, Bool.or_false, cond_false]
  have hb := T4 s id
  generalize Q2 s id = p at hc hb
  obtain ⟨k, rfl⟩ : ∃ k : Nat, p = (k : Int) := ⟨p.toNat, by omega⟩
  have e2 : Int.toNat ((k : Int) + 1) = k + 1 := by omega
  rw [e2, Int.toNat_natCast]
  have hk : k < s.2.1.length := by omega
  have hget : ∀ (i : Nat) (a : Q9), (List.take k s.2.1 ++ List.drop (k + 1) s.2.1)[i]? = some a → s.2.1[if i < k then i else i + 1]? = some a := fun i a hi => by
    rw [List.getElem?_append, List.length_take, Nat.min_eq_left (by omega)] at hi
    split at hi
    · rename_i hlt
      rw [if_pos hlt]
      rwa [List.getElem?_take_of_lt hlt] at hi
    rename_i hge
    rw [if_neg hge]
    rw [List.getElem?_drop] at hi
    rwa [show k + 1 + (i - k) = i + 1 by omega] at hi
  refine ⟨⟨h.sch, ?_, h.nx1, h.nx2, fun i a hi => h.file _ a (hget i a hi), fun i a b ha hb => ?_⟩, trivial, ?_, trivial⟩
  · have := h.len
    show (List.take k s.2.1 ++ List.drop (k + 1) s.2.1).length ≤ 12
    simp; omega
  · have ha := hget i a ha
    have hb := hget (i + 1) b hb
    by_cases h1 : i + 1 < k
    · rw [if_pos (by omega)] at ha
      rw [if_pos h1] at hb
      exact h.asc i a b ha hb
    rw [if_neg h1] at hb
    by_cases h2 : i < k
    · rw [if_pos h2] at ha
      have hm : k < s.2.1.length := hk
      have h3 := h.asc i a _ ha (by rw [show i + 1 = k by omega]; exact K9 hm)
      have h4 := h.asc k _ b (K9 hm) (by rw [show k + 1 = i + 1 + 1 by omega]; exact hb)
      omega
    rw [if_neg h2] at ha
    exact h.asc (i + 1) a b ha hb
  show (List.take k s.2.1 ++ List.drop (k + 1) s.2.1).length ≤ s.2.1.length
  simp; omega
open GoE (enc wide)
def Q3 (s_ : Ql) (id : Int) : Q9 × Bool := (bif decide ((Z7 s_ id) ≥ (0 : Int)) then ((Yy (nth s_.2.1 (Int.toNat (Z7 s_ id)))), true) else ((0, 0, false, 0, []), false))
theorem XA (s_ : Ql) (id : Int) : ACalls Tryz.prog 90 [.a [.h s_.1, .h s_.2.1, .i s_.2.2], .i id] (.tup [(true, [.i ((((Q3 s_ id)).1).1), .i ((((Q3 s_ id)).1).2.1), .b ((((Q3 s_ id)).1).2.2.1), .i ((((Q3 s_ id)).1).2.2.2.1), .o 0 ((((Q3 s_ id)).1).2.2.2.2)]), (false, [.b (((Q3 s_ id)).2)])]) := by
 refine en Qb Tryz.func90 fun w0 F0 hG => ?_
 refine sn Qb [1, 2, 4, 5] [2, 4] (p0) ?_
 refine Qe (tn Qb [2, 4, 5, 6] [2, 4] (pc 2 (Rt s_ id) p0) ?_)
 refine tu Qb [(2, .p 2 0), (4, .p 4 0), (5, .b false), (6, .i (Z7 s_ id)), (11, .b (decide ((Z7 s_ id) ≥ (0 : Int))))] [0, 1] [(2, [.h s_.1, .h s_.2.1, .i s_.2.2]), (4, [.i 0, .i 0, .b false, .i 0, .e 4])] [] (p0) ?_
 refine ck (decide ((Z7 s_ id) ≥ (0 : Int))) (fun h1 => ?_) (fun h1 => ?_)
 ·
  have h1p := LF s_ id
  have h1d := of_decide_eq_true h1
  refine wB 2 1 .sh s_.2.1 (fun hw3 hl4 => ?_)
  have hx2 := ng s_.2.1 (Int.toNat (Z7 s_ id))
  refine sn Qb [4, 5] [4] (pg 3 (Z7 s_ id) hx2 (pc 5 (Mr (nth s_.2.1 (Int.toNat (Z7 s_ id)))) p0)) ?_
  refine Qg ?_
  exact pz [] (show Q3 s_ id = _ from Q6 h1 (rfl)) (fun z => .tup [(true, [.i z.1.1, .i z.1.2.1, .b z.1.2.2.1, .i z.1.2.2.2.1, .o 0 z.1.2.2.2.2]), (false, [.b z.2])])
 refine Qh ?_
 refine sn Qb [4, 5] [4] (p0) ?_
 refine opn [(true, 4, 4, true, 384000, 4)] ?_
 refine Qg ?_
 exact pz [] (show Q3 s_ id = _ from Qm h1 (rfl)) (fun z => .tup [(true, [.i z.1.1, .i z.1.2.1, .b z.1.2.2.1, .i z.1.2.2.2.1, .o 0 z.1.2.2.2.2]), (false, [.b z.2])])
def Q7 (f : Q9) : ByteArray := (bif ((Yh f ⟨#[110]⟩).1 == (2 : Int)) then (Yh f ⟨#[110]⟩).2.2 else ⟨#[102, 105, 108, 101]⟩)
theorem XB (f : Q9) : ACalls Tryz.prog 91 [.a [.i f.1, .i f.2.1, .b f.2.2.1, .i f.2.2.2.1, .h f.2.2.2.2]] (.s (Q7 f)) := by
 refine en Qb Tryz.func91 fun w0 F0 hG => ?_
 refine sn Qb [1, 2] [1] (p0) ?_
 refine Qe (tn Qb [2, 3] [3] (pc 1 (Eo f ⟨#[110]⟩) p0) ?_)
 refine tu Qb [(2, .s ⟨#[]⟩), (3, .p 3 0), (8, .b ((Yh f ⟨#[110]⟩).1 == (2 : Int)))] [0] [(3, [.i ((Yh f ⟨#[110]⟩).1), .i ((Yh f ⟨#[110]⟩).2.1), .s ((Yh f ⟨#[110]⟩).2.2)])] [] (p0) ?_
 refine ck ((Yh f ⟨#[110]⟩).1 == (2 : Int)) (fun h1 => ?_) (fun h1 => ?_)
 ·
  refine sn Qb [2] [] (p0) ?_
  refine Qg ?_
  exact ps [] (Q6 h1 (rfl))
 refine Qh ?_
 refine sn Qb [2] [] (p0) ?_
 refine Qg ?_
 exact ps [] (Qm h1 (rfl))
def Bq (f : Q9) : ByteArray := (bif ((Y6 f ⟨#[110]⟩).1 != (2 : Int)) then ⟨#[102, 105, 108, 101]⟩ else (Y6 f ⟨#[110]⟩).2.2)
theorem XC (f : Q9) : ACalls Tryz.prog 139 [.a [.i f.1, .i f.2.1, .b f.2.2.1, .i f.2.2.2.1, .h f.2.2.2.2]] (.s (Bq f)) := by
 refine en Qb Tryz.func139 fun w0 F0 hG => ?_
 refine sn Qb [1, 2] [1] (p0) ?_
 refine tn Qb [2, 3] [3] (pc 1 (Ow f ⟨#[110]⟩) p0) ?_
 refine Qe (tu Qb [(2, .s ⟨#[]⟩), (3, .p 3 0), (8, .b ((Y6 f ⟨#[110]⟩).1 != (2 : Int)))] [0] [(3, [.i ((Y6 f ⟨#[110]⟩).1), .i ((Y6 f ⟨#[110]⟩).2.1), .s ((Y6 f ⟨#[110]⟩).2.2)])] [] (p0) ?_)
 refine ck ((Y6 f ⟨#[110]⟩).1 != (2 : Int)) (fun h1 => ?_) (fun h1 => ?_)
 ·
  refine sn Qb [2, 3] [3] (p0) ?_
  refine Qg ?_
  exact ps [] (Q6 h1 (rfl))
 refine Qh ?_
 refine sn Qb [2] [] (p0) ?_
 refine Qg ?_
 exact ps [] (Qm h1 (rfl))
def J9 (s_ : Ql) (id : Int) : ByteArray := (Bq (((Y8 s_ id)).1))
theorem O4 (s_ : Ql) (id : Int) : ACalls Tryz.prog 96 [.a [.h s_.1, .h s_.2.1, .i s_.2.2], .i id] (.s (J9 s_ id)) := by
 refine en Qb Tryz.func96 fun w0 F0 hG => ?_
 refine sn Qb [1, 2, 4] [2] (p0) ?_
 refine tn Qb [4, 5] [5] (pc 2 (Mt s_ id) p0) ?_
 refine tu Qb [(4, .s (Bq (((Y8 s_ id)).1)))] [0, 1] [] [] (pc 1 (XC (((Y8 s_ id)).1)) p0) ?_
 refine Qg ?_
 exact ps [] (show J9 s_ id = (Bq (((Y8 s_ id)).1)) from rfl)
end Go.Proofs.YtkbfhiamdcoieaaGreatDoor
namespace Go.Proofs.YtkbfhiamdcoieaaGreatDoor
open Go.RowKit
theorem T9 (s : Ql) (n : Int) : Y8 s n = Q3 s n := by
  unfold Y8 Q3
  rw [Qbo]
  by_cases h : Z7 s n ≥ 0
  · rw [decide_eq_true h, decide_eq_false (by omega)]; rfl
  rw [decide_eq_false h, decide_eq_true (by omega)]; rfl
theorem AJ (f : Q9) : Bq f = Q7 f := by
  unfold Bq Q7
  rw [← IS]
  cases h : ((Yh f ⟨#[110]⟩).1 == (2 : Int)) with
  | true => simp [bne, h]
  | false => simp [bne, h]
theorem AK (s : Ql) (n : Int) : J9 s n = Q7 ((Q3 s n)).1 := by
  unfold J9
  rw [T9, AJ]
theorem QA (nm : ByteArray) : ∀ (l : List Uc) (k : Nat), Xp (U0 nm) An l k () = .brk () ∨ ∃ a, a ∈ l ∧ Xp (U0 nm) An l k () = .ret a.2
  | [], _ => .inl rfl
  | b :: l, k => by
    simp only [Xp, U0]
    cases (b.1.toList == nm.toList) with
    | true => exact .inr ⟨b, List.mem_cons_self .., rfl⟩
    | false =>
      simp only [cond_false]
      rcases QA nm l (k + 1) with h | ⟨a, ha, h⟩
      · exact .inl h
      exact .inr ⟨a, List.mem_cons_of_mem _ ha, h⟩
theorem PA {α : Type} [GoD α] {l : List α} {a : α} (h : a ∈ l) : GoD.size a ≤ GoD.size l := by
  obtain ⟨i, hi⟩ := List.getElem?_of_mem h
  exact RA hi (Nat.le_refl _)
theorem JP (f : Q9) : (Q7 f).size ≤ GoD.size f + 4 := by
  unfold Q7
  cases h : ((Yh f ⟨#[110]⟩).1 == (2 : Int)) with
  | false => exact Nat.le_add_left 4 (GoD.size f)
  | true =>
    simp only [cond_true]
    unfold Yh
    rcases QA ⟨#[110]⟩ f.2.2.2.2 0 with h | ⟨a, ha, h⟩
    · rw [h]; exact Nat.zero_le _
    rw [h]
    simp only [Out.on]
    have h1 := PA ha
    have h2 : GoD.size a = a.1.size + (0 + (0 + a.2.2.2.size)) := rfl
    have h3 : GoD.size f = 0 + (0 + (0 + (0 + GoD.size f.2.2.2.2))) := rfl
    omega
theorem LN (s : Ql) (n : Int) : (Q7 ((Q3 s n)).1).size ≤ GoD.size s + 4 := by
  have h1 := JP ((Q3 s n)).1
  have h2 : GoD.size ((Q3 s n)).1 ≤ GoD.size s := by
    unfold Q3
    by_cases h : Z7 s n ≥ 0
    · rw [decide_eq_true h]
      have hp := LF s n
      have hg := RA (K9 (l := s.2.1) (i := Int.toNat (Z7 s n)) (by omega)) (Nat.le_refl _)
      exact Nat.le_trans hg (Qa3 (Qa4 (Nat.le_refl _)))
    rw [decide_eq_false h]; exact Nat.zero_le _
  omega
end Go.Proofs.YtkbfhiamdcoieaaGreatDoor
namespace Go.Proofs.YtkbfhiamdcoieaaGreatDoor
open Go.RowKit
theorem JQ {s t : Ql} (h2 : s.2.1 = t.2.1) (hv : Qz s = Qz t) (d : List Yd) : Z0 s d = Z0 t d := by
  have hsel : ∀ q r, X7 s q r = X7 t q r := fun q r => by
    unfold X7
    rw [h2]
  have h3 : Jr s d = Jr t d := by
    funext names k1 k3 a3 s3
    unfold Jr
    rw [hsel]
  have hf2 : Jc s d = Jc t d := by
    funext names k1 s2
    unfold Jc
    rw [h3]
  have hf1 : Js s d = Js t d := by
    funext names k1 s1
    unfold Js
    rw [hf2, h2]
  have he : ∀ r names, Yp s d r names = Yp t d r names := fun r names => by
    unfold Yp
    rw [hv, hf1]
  unfold Z0
  rw [he]
theorem WJ {a b : Ql} {u : Int} (ha : Qz a = true) (hb : Qz b = true) (hva : Qz (Qi a u) = true) (hvb : Qz (Qi b u) = true) (h2 : (Qi a u).2.1 = (Qi b u).2.1) (d : List Yd) :
    Qt a d u = Qt b d u := by
  unfold Qt
  rw [ha, hb, JQ h2 (hva.trans hvb.symm)]
theorem WK {a b : Ql} {u : Int} (ha : Qz a = true) (hb : Qz b = true) (hva : Qz (Qi a u) = true) (hvb : Qz (Qi b u) = true) (h2 : (Qi a u).2.1 = (Qi b u).2.1) (d : List Yd) (n : ByteArray) :
    Xf a d u n = Xf b d u n := by
  unfold Xf
  rw [WJ ha hb hva hvb h2]
/-! ### what a user sees of a valid store is a valid store -/
def AL (a b : Q9) : Prop := b.1 = a.1 ∧ b.2.1 = a.2.1 ∧ b.2.2.1 = a.2.2.1 ∧ (b.2.2.2.1 = a.2.2.2.1 ∨ b.2.2.2.1 = 0) ∧ b.2.2.2.2 = a.2.2.2.2
end Go.Proofs.YtkbfhiamdcoieaaGreatDoor
namespace Go.Proofs.YtkbfhiamdcoieaaGreatDoor
open Go.RowKit
def SI (l s : List Q9) : Prop := s.length = l.length ∧ ∀ (i : Nat) (a b : Q9), l[i]? = some a → s[i]? = some b → AL a b
theorem Qbr {l s : List Q9} {k : Nat} (h : SI l s) : SI l (s.set k ((nth s k).1, (nth s k).2.1, (nth s k).2.2.1, 0, (nth s k).2.2.2.2)) := by
  refine ⟨by rw [List.length_set]; exact h.1, fun i a b ha hb => ?_⟩
  rw [List.getElem?_set] at hb
  by_cases e : k = i
  · subst e
    rw [if_pos rfl] at hb
    split at hb
    · rename_i hk
      obtain ⟨q1, q2, q3, _, q5⟩ := h.2 k a _ ha (K9 hk)
      have hb := Option.some.inj hb
      subst hb
      exact ⟨q1, q2, q3, .inr rfl, q5⟩
    cases hb
  rw [if_neg e] at hb; exact h.2 i a b ha hb
theorem Ii (s : Ql) (u : Int) : ∃ y, Qi s u = (s.1, y, s.2.2) ∧ SI (s.2.1.filter fun f => Kt f u) y := by
  unfold Qi
  rw [C1 (f := Ve u) (e := Vf) (p := fun a => Kt a u) (g := id) (fun _ _ _ => rfl)]
  simp only [Out.on, Vf, List.nil_append, List.map_id]
  generalize s.2.1.filter (fun f => Kt f u) = l
  obtain ⟨y, h1, h2⟩ := Ov (f := Ku s) (e := Wr) (SI l) (fun k a t ht => by
    unfold Ku
    generalize decide (_ < (0 : Int)) = c
    cases c with
    | true => exact ⟨_, rfl, Qbr ht⟩
    | false => exact ⟨_, rfl, ht⟩) l 0 l ⟨rfl, fun i a b ha hb => by rw [ha] at hb; cases hb; exact ⟨rfl, rfl, rfl, .inl rfl, rfl⟩⟩
  rw [h1]
  exact ⟨y, rfl, h2⟩
theorem AM {sch : List Yq} {a b : Q9} (h : AL a b) (hv : Zg sch a = true) : Zg sch b = true := by
  obtain ⟨a1, a2, a3, a4, a5⟩ := a
  obtain ⟨b1, b2, b3, b4, b5⟩ := b
  obtain ⟨q1, q2, q3, q4, q5⟩ := h
  simp only at q1 q2 q3 q4 q5
  subst q1 q2 q3 q5
  rcases q4 with q4 | q4
  · subst q4; exact hv
  subst q4
  unfold Zg at hv ⊢
  have e : Zz sch (b1, b2, b3, a4, b5) = Zz sch (b1, b2, b3, 0, b5) := rfl
  rw [e] at hv
  revert hv
  cases Xp (Zz sch (b1, b2, b3, 0, b5)) K3 b5 0 () with
  | ret r => exact id
  | brk t =>
    show ((Ye b1 1 60) && ((Ki b2) && ((Ye a4 0 60) && (Jg sch)))) = true → ((Ye b1 1 60) && ((Ki b2) && ((Ye 0 0 60) && (Jg sch)))) = true
    simp only [Bool.and_eq_true]
    exact fun ⟨h1, h2, _, h4⟩ => ⟨h1, h2, by decide, h4⟩
theorem JR : ∀ {l : List Q9}, (∀ (i : Nat) (a b : Q9), l[i]? = some a → l[i + 1]? = some b → a.1 < b.1) → l.Pairwise fun a b => a.1 < b.1
  | [], _ => .nil
  | [_], _ => List.pairwise_singleton _ _
  | a :: b :: l, h => by
    have ih := JR (l := b :: l) fun i x y hx hy => h (i + 1) x y (by simpa using hx) (by simpa using hy)
    have hab := h 0 a b rfl rfl
    refine List.pairwise_cons.2 ⟨fun x hx => ?_, ih⟩
    rcases List.mem_cons.1 hx with rfl | hx
    · exact hab
    exact Int.lt_trans hab ((List.pairwise_cons.1 ih).1 x hx)
theorem PB {l : List Q9} (h : l.Pairwise fun a b => a.1 < b.1) {i : Nat} {a b : Q9} (ha : l[i]? = some a) (hb : l[i + 1]? = some b) : a.1 < b.1 := by
  obtain ⟨h1, rfl⟩ := List.getElem?_eq_some_iff.1 ha
  obtain ⟨h2, rfl⟩ := List.getElem?_eq_some_iff.1 hb
  exact List.pairwise_iff_getElem.1 h i (i + 1) h1 h2 (Nat.lt_succ_self i)
theorem Eu {s : Ql} (h : Qz s = true) (u : Int) : Qz (Qi s u) = true := by
  have hv := Qbq ((Ib s).trans h)
  obtain ⟨y, e, hl, hs⟩ := Ii s u
  rw [e, ← Ib]
  have hp := List.Pairwise.filter (fun f => Kt f u) (JR hv.asc)
  generalize hg : s.2.1.filter (fun f => Kt f u) = l at hl hs hp
  have hm : ∀ (i : Nat) (b : Q9), y[i]? = some b → ∃ a, l[i]? = some a ∧ AL a b := fun i b hb => by
    have hi : i < l.length := by rw [← hl]; exact (List.getElem?_eq_some_iff.1 hb).1
    exact ⟨_, List.getElem?_eq_getElem hi, hs i _ b (List.getElem?_eq_getElem hi) hb⟩
  refine Sj ⟨hv.sch, ?_, hv.nx1, hv.nx2, fun i b hb => ?_, fun i b c hb hc => ?_⟩
  · show y.length ≤ 12
    rw [hl, ← hg]
    exact Nat.le_trans (List.length_filter_le _ _) hv.len
  · obtain ⟨a, ha, hq⟩ := hm i b hb
    have hmem : a ∈ s.2.1 := (List.mem_filter.1 (hg ▸ List.mem_of_getElem? ha)).1
    obtain ⟨j, hj⟩ := List.getElem?_of_mem hmem
    obtain ⟨h1, h2⟩ := hv.file j a hj
    rw [IR] at h1 ⊢
    exact ⟨AM hq h1, by rw [hq.1]; exact h2⟩
  obtain ⟨a, ha, hq⟩ := hm i b hb
  obtain ⟨a', ha', hq'⟩ := hm (i + 1) c hc
  rw [hq.1, hq'.1]
  exact PB hp ha ha'
theorem Ru {a b : Ql} {u : Int} (ha : Qz a = true) (hb : Qz b = true) (h2 : (Qi a u).2.1 = (Qi b u).2.1) (d : List Yd) (n : ByteArray) : Xf a d u n = Xf b d u n := WK ha hb (Eu ha u) (Eu hb u) h2 d n
end Go.Proofs.YtkbfhiamdcoieaaGreatDoor
namespace Go.Proofs.YtkbfhiamdcoieaaGreatDoor
open Go.RowKit
def TxA (l : List Uc) : Prop := ∀ a, a ∈ l → a.2.2.2.size ≤ 1000
def TxS (s : Ql) : Prop := ∀ f, f ∈ s.2.1 → TxA f.2.2.2.2
def TxD (d : List Yd) : Prop := ∀ a, a ∈ d → a.1.size ≤ 1000
theorem AN {s : Ql} (h : TxS s) (n : Int) : (Q7 ((Q3 s n)).1).size ≤ 1000 := by
  have key : ∀ f : Q9, TxA f.2.2.2.2 → (Q7 f).size ≤ 1000 := fun f hf => by
    unfold Q7
    cases h : ((Yh f ⟨#[110]⟩).1 == (2 : Int)) with
    | false => exact (by decide : (4 : Nat) ≤ 1000)
    | true =>
      simp only [cond_true]
      unfold Yh
      rcases QA ⟨#[110]⟩ f.2.2.2.2 0 with h | ⟨a, ha, h⟩
      · rw [h]; exact Nat.zero_le _
      rw [h]; simp only [Out.on]; exact hf a ha
  apply key
  unfold Q3
  by_cases h' : Z7 s n ≥ 0
  · rw [decide_eq_true h']
    have hp := LF s n
    exact h _ (List.mem_of_getElem? (K9 (l := s.2.1) (i := Int.toNat (Z7 s n)) (by omega)))
  rw [decide_eq_false h']; intro a ha; cases ha
theorem PC {s : Ql} (h : TxS s) (n : Int) : (J9 s n).size ≤ 1000 := by rw [AK]; exact AN h n
theorem P7 {s : Ql} (h : TxS s) (u : Int) : TxS (Qi s u) := by
  obtain ⟨y, e, hl, hs⟩ := Ii s u
  rw [e]
  intro f hf
  obtain ⟨i, hi⟩ := List.getElem?_of_mem hf
  have hil : i < (s.2.1.filter fun f => Kt f u).length := by rw [← hl]; exact (List.getElem?_eq_some_iff.1 hi).1
  have hg := List.getElem?_eq_getElem hil
  have hsh := hs i _ f hg hi
  have hm := (List.mem_filter.1 (List.mem_of_getElem? hg)).1
  rw [hsh.2.2.2.2]
  exact h _ hm
theorem AO {s : Ql} (h : TxS s) (u : Int) : TxS (Q1 s u) := by rw [Ez]; exact P7 h u
open GoE (enc wide)
def Kv (s_ : Ql) (_ : Nat) (a0 : Int) (s0 : (List ByteArray) × (List ByteArray)) : Rd ((List ByteArray)) ((List ByteArray) × (List ByteArray)) ((List ByteArray)) := (bif (Qy s0.1 (Q7 (((Q3 s_ a0)).1))) then (.next (s0.1 ++ [(Q7 (((Q3 s_ a0)).1))], s0.2 ++ [(((Q7 (((Q3 s_ a0)).1)) ++ (⟨#[46]⟩ : ByteArray)) ++ (Vv a0))])) else (.next (s0.1 ++ [(Q7 (((Q3 s_ a0)).1))], s0.2 ++ [(Q7 (((Q3 s_ a0)).1))])))
def Un (_ : Nat) (s0 : (List ByteArray) × (List ByteArray)) : (List ByteArray) := s0.2
def Yj (s_ : Ql) (ids : (List Int)) : (List ByteArray) := (Out.on (Xp (Kv s_) Un ids 0 ([], [])) (fun y0 => y0))
theorem Rz (s_ : Ql) (ids : (List Int)) (hi : ∀ x, x ∈ ids → 1 ≤ x ∧ x ≤ 60) (hp : TxS s_) : ACalls Tryz.prog 54 [.a [.h s_.1, .h s_.2.1, .i s_.2.2], .h ids] (.o 0 (Yj s_ ids)) := by
 refine en Qb Tryz.func54 fun w0 F0 hG => ?_
 refine sn Qb [1, 2, 4] [2] (p0) ?_
 refine tn Qb [1, 2, 4, 5] [2] (p0) ?_
 refine tu Qb [(2, .p 2 0), (4, .e 0), (5, .one (.slc (.own true 768) 1 [])), (6, .one (.slc (.own true 832) 1 []))] [0] [(2, [.h s_.1, .h s_.2.1, .i s_.2.2])] [] (p0) ?_
 refine Qe (sn Qb [2, 4, 5, 6, 14, 15, 16] [2] (pl 1 ids p0) ?_)
 refine mz [(14, .h ids), (15, .i (ids.length : Int)), (16, .i 0)] [1] [] [] ?_
 refine wT 14 0 .sh ids (fun hw1 hl2 => ?_)
 refine Rw (Kv s_) Un ids ([], []) (fun k0 s0 => [(5, .o 147202 s0.1), (6, .o 147203 s0.2), (16, .i ((k0 : Nat) : Int))]) [5, 6, 16] (fun _ _ => []) [] (fun y0 => [(6, .o 147353 y0)]) [2, 5, 6, 14, 15, 16] (fun _ => []) [2] (fun k0 s0 => List.length s0.1 ≤ k0 ∧ List.length s0.2 ≤ k0) (X2 [(768, 147202), (832, 147203)] (by kernel_rfl)) ⟨(by simp), (by simp)⟩ (fun k0 s0 hk0 hI0 => ?_) (fun k0 s0 hk0 hI0 => ?_) (fun y0 hD0 => ?_)
 ·
  have hA0_0 := hI0.2.1
  have hA0_1 := hI0.2.2
  obtain ⟨a0, hx0⟩ := Xm (l := ids) (i := k0) hk0
  have hi0 := hi _ (List.mem_of_getElem? hx0)
  have hbs := AN hp a0
  have hns := E0 (n := a0) (by omega)
  refine su Qb [(17, .b true)] [] [] [] (pe 0 (Qo (decide_eq_true (p := ((k0 : Nat) : Int) < (ids.length : Int)) (by omega))) p0) ?_
  refine Qe (ckT ?_)
  refine Qh ?_
  refine Qe (Qs ?_)
  refine su Qb [(8, .i a0)] [17] [] [] (pn 0 hx0 p0) ?_
  refine sn Qb [2, 4, 5, 6, 8, 9, 14, 15, 16] [2, 9] (pc 2 (XA s_ a0) p0) ?_
  refine tn Qb [2, 4, 5, 6, 8, 11, 14, 15, 16] [2] (pc 1 (XB (((Q3 s_ a0)).1)) p0) ?_
  refine Qe (tu Qb [(11, .s (Q7 (((Q3 s_ a0)).1))), (30, .b (Qy s0.1 (Q7 (((Q3 s_ a0)).1))))] [] [] [] (pc 2 (Uv s0.1 (Q7 (((Q3 s_ a0)).1))) p0) ?_)
  refine ck (Qy s0.1 (Q7 (((Q3 s_ a0)).1))) (fun h3 => ?_) (fun h3 => ?_)
  ·
   refine wT 6 0 (.own true 147203) s0.2 (fun hw4 hl5 => ?_)
   refine ru Qb [(6, .one (.slc (.own true 2432) 1 ((eL s0.2) ++ [[.s (((Q7 (((Q3 s_ a0)).1)) ++ (⟨#[46]⟩ : ByteArray)) ++ (Vv a0))]])))] [6, 8, 30] [] [] (px (I9 (n := (ByteArray.size (Q7 (((Q3 s_ a0)).1)) + ByteArray.size (⟨#[46]⟩ : ByteArray))) (by have hq0 : ByteArray.size (⟨#[46]⟩ : ByteArray) = 1 := rfl; unfold maxLen; first | omega | (simp only [ByteArray.size_append]; omega))) (pc 4 (T7 a0 (by omega)) (px (I9 (n := (ByteArray.size ((Q7 (((Q3 s_ a0)).1)) ++ (⟨#[46]⟩ : ByteArray)) + ByteArray.size (Vv a0))) (by have hq0 : ByteArray.size (⟨#[46]⟩ : ByteArray) = 1 := rfl; unfold maxLen; first | omega | (simp only [ByteArray.size_append]; omega))) (pa s0.2 [(((Q7 (((Q3 s_ a0)).1)) ++ (⟨#[46]⟩ : ByteArray)) ++ (Vv a0))] p0)))) ?_
   refine eqn [(6, .o 2432 (s0.2 ++ [(((Q7 (((Q3 s_ a0)).1)) ++ (⟨#[46]⟩ : ByteArray)) ++ (Vv a0))]))] [6] [] [] (by rw [show ((eL s0.2) ++ [[.s (((Q7 (((Q3 s_ a0)).1)) ++ (⟨#[46]⟩ : ByteArray)) ++ (Vv a0))]]) = (eL (s0.2 ++ [(((Q7 (((Q3 s_ a0)).1)) ++ (⟨#[46]⟩ : ByteArray)) ++ (Vv a0))])) from Kj (rfl) (rfl)]; first | done | kernel_rfl) ?_
   refine wT 5 0 (.own true 147202) s0.1 (fun hw6 hl7 => ?_)
   refine ru Qb [(5, .one (.slc (.own true 2944) 1 ((eL s0.1) ++ [[.s (Q7 (((Q3 s_ a0)).1))]])))] [5, 11] [] [] (pa s0.1 [(Q7 (((Q3 s_ a0)).1))] p0) ?_
   refine eqn [(5, .o 2944 (s0.1 ++ [(Q7 (((Q3 s_ a0)).1))]))] [5] [] [] (by rw [show ((eL s0.1) ++ [[.s (Q7 (((Q3 s_ a0)).1))]]) = (eL (s0.1 ++ [(Q7 (((Q3 s_ a0)).1))])) from Kj (rfl) (rfl)]; first | done | kernel_rfl) ?_
   refine rn Qb [2, 4, 5, 6, 14, 15, 16] [2] (pe 0 (Jn (Qp k0 (by omega))) p0) ?_
   exact Exists.intro (s0.1 ++ [(Q7 (((Q3 s_ a0)).1))], s0.2 ++ [(((Q7 (((Q3 s_ a0)).1)) ++ (⟨#[46]⟩ : ByteArray)) ++ (Vv a0))]) (And.intro (X2 [(2944, 147202), (2432, 147203)] (by kernel_rfl)) ⟨Qx hx0 (Q6 h3 (rfl)) hI0.1, by first | omega | (simp; omega) | simp, by first | omega | (simp; omega) | simp⟩)
  refine wT 6 0 (.own true 147203) s0.2 (fun hw8 hl9 => ?_)
  refine ru Qb [(6, .one (.slc (.own true 2688) 1 ((eL s0.2) ++ [[.s (Q7 (((Q3 s_ a0)).1))]])))] [6, 8, 30] [] [] (pa s0.2 [(Q7 (((Q3 s_ a0)).1))] p0) ?_
  refine eqn [(6, .o 2688 (s0.2 ++ [(Q7 (((Q3 s_ a0)).1))]))] [6] [] [] (by rw [show ((eL s0.2) ++ [[.s (Q7 (((Q3 s_ a0)).1))]]) = (eL (s0.2 ++ [(Q7 (((Q3 s_ a0)).1))])) from Kj (rfl) (rfl)]; first | done | kernel_rfl) ?_
  refine wT 5 0 (.own true 147202) s0.1 (fun hw10 hl11 => ?_)
  refine ru Qb [(5, .one (.slc (.own true 2944) 1 ((eL s0.1) ++ [[.s (Q7 (((Q3 s_ a0)).1))]])))] [5, 11] [] [] (pa s0.1 [(Q7 (((Q3 s_ a0)).1))] p0) ?_
  refine eqn [(5, .o 2944 (s0.1 ++ [(Q7 (((Q3 s_ a0)).1))]))] [5] [] [] (by rw [show ((eL s0.1) ++ [[.s (Q7 (((Q3 s_ a0)).1))]]) = (eL (s0.1 ++ [(Q7 (((Q3 s_ a0)).1))])) from Kj (rfl) (rfl)]; first | done | kernel_rfl) ?_
  refine rn Qb [2, 4, 5, 6, 14, 15, 16] [2] (pe 0 (Jn (Qp k0 (by omega))) p0) ?_
  exact Exists.intro (s0.1 ++ [(Q7 (((Q3 s_ a0)).1))], s0.2 ++ [(Q7 (((Q3 s_ a0)).1))]) (And.intro (X2 [(2944, 147202), (2688, 147203)] (by kernel_rfl)) ⟨Qx hx0 (Qm h3 (rfl)) hI0.1, by first | omega | (simp; omega) | simp, by first | omega | (simp; omega) | simp⟩)
 ·
  have hA0_0 := hI0.2.1
  have hA0_1 := hI0.2.2
  refine su Qb [(17, .b false)] [] [] [] (pe 0 (Qo (decide_eq_false (p := ((k0 : Nat) : Int) < (ids.length : Int)) (by omega))) p0) ?_
  refine Qe (ckF ?_)
  refine Q5 ?_
  exact Exists.intro _ (And.intro (X2 [(147203, 147353)] (by kernel_rfl)) (Xn hk0 (rfl) hI0.1))
 refine sn Qb [4] [] (p0) ?_
 refine Qg ?_
 exact po0 [] (Wc hD0 (rfl))
def H7 (s_ : Ql) (ids : (List Int)) (a0 : Int) (k1 : Nat) (s1 : ByteArray) : Rd (Rd ((List ByteArray)) ((List ByteArray)) ((List ByteArray))) (ByteArray) (ByteArray) := (bif ((J9 s_ (nth ids k1)).toList == (J9 s_ a0).toList) then (.next (((J9 s_ a0) ++ (⟨#[46]⟩ : ByteArray)) ++ (Vv a0))) else (.next s1))
def C8 (_ : Nat) (s1 : ByteArray) : ByteArray := s1
def H8 (s_ : Ql) (ids : (List Int)) (k0 : Nat) (a0 : Int) (s0 : (List ByteArray)) : Rd ((List ByteArray)) ((List ByteArray)) ((List ByteArray)) := (Out.on (Wd (H7 s_ ids a0) C8 (Int.toNat ((k0 : Nat) : Int)) 0 (J9 s_ a0)) (fun y1 => (.next (s0 ++ [y1]))))
def C9 (_ : Nat) (s0 : (List ByteArray)) : (List ByteArray) := s0
def Jm (s_ : Ql) (ids : (List Int)) : (List ByteArray) := (Out.on (Xp (H8 s_ ids) C9 ids 0 []) (fun y0 => y0))
theorem R0 (s_ : Ql) (ids : (List Int)) (hi : ∀ x, x ∈ ids → 1 ≤ x ∧ x ≤ 60) (hp : TxS s_) : ACalls Tryz.prog 60 [.a [.h s_.1, .h s_.2.1, .i s_.2.2], .h ids] (.o 0 (Jm s_ ids)) := by
 refine en Qb Tryz.func60 fun w0 F0 hG => ?_
 refine sn Qb [1, 2, 4] [2] (p0) ?_
 refine tn Qb [1, 2, 4, 5] [2] (p0) ?_
 refine Qe (tu Qb [(2, .p 2 0), (4, .e 0), (5, .one (.slc (.own true 640) 1 [])), (6, .i 0)] [0] [(2, [.h s_.1, .h s_.2.1, .i s_.2.2])] [] (p0) ?_)
 refine wT 1 0 .sh ids (fun hw1 hl2 => ?_)
 refine Rw (H8 s_ ids) C9 ids [] (fun k0 s0 => [(5, .o 147203 s0), (6, .i ((k0 : Nat) : Int))]) [5, 6] (fun _ _ => []) [] (fun y0 => [(5, .o 147353 y0)]) [1, 2, 5, 6] (fun _ => []) [2] (fun k0 s0 => List.length s0 ≤ k0) (X2 [(640, 147203)] (by kernel_rfl)) (by simp) (fun k0 s0 hk0 hI0 => ?_) (fun k0 s0 hk0 hI0 => ?_) (fun y0 hD0 => ?_)
 ·
  have hA0_0 := hI0.2
  obtain ⟨a0, hx0⟩ := Xm (l := ids) (i := k0) hk0
  have hi0 := hi _ (List.mem_of_getElem? hx0)
  have hbs := PC hp a0
  have hns := E0 (n := a0) (by omega)
  refine Qe (sn Qb [1, 2, 4, 5, 6, 14] [2] (pl 2 ids (pe 3 (Qo (decide_eq_true (p := ((k0 : Nat) : Int) < (ids.length : Int)) (by omega))) p0)) ?_)
  refine ckT ?_
  refine Qh ?_
  refine Qe (Qs ?_)
  refine tN Qb Yo [1, 2, 4, 5, 6, 7] [2] (pn 3 hx0 (pc 5 (O4 s_ a0) p0)) ?_
  refine tu Qb [(7, .s (J9 s_ a0)), (8, .s (J9 s_ a0))] [] [] [] (p0) ?_
  refine Qe (su Qb [(9, .i 0)] [] [] [] (p0) ?_)
  refine Qb2 (H7 s_ ids a0) C8 (Int.toNat ((k0 : Nat) : Int)) (J9 s_ a0) (fun k1 s1 => [(8, .s s1), (9, .i ((k1 : Nat) : Int))]) [8, 9] (fun y1 => [(8, .s y1)]) [7, 8, 9] (Qd (by kernel_rfl)) (fun k1 s1 hk1 hI1 => ?_) (fun k1 s1 hk1 hI1 => ?_) (fun y1 hD1 => ?_)
  ·
   refine Qe (su Qb [(26, .b true)] [] [] [] (pe 2 (Qo (decide_eq_true (p := ((k1 : Nat) : Int) < ((k0 : Nat) : Int)) (by omega))) p0) ?_)
   refine ckT ?_
   refine Qh ?_
   refine Qe (Qs ?_)
   have hx3 := ng ids k1
   refine sN Qb Yo [1, 2, 4, 5, 6, 7, 8, 9, 36] [2] (pn 3 hx3 (pc 5 (O4 s_ (nth ids k1)) p0)) ?_
   refine ck ((J9 s_ (nth ids k1)).toList == (J9 s_ a0).toList) (fun h4 => ?_) (fun h4 => ?_)
   ·
    refine qn Qb [1, 2, 4, 5, 6, 7, 8, 9] [2] (px (I9 (n := (ByteArray.size (J9 s_ a0) + ByteArray.size (⟨#[46]⟩ : ByteArray))) (by have hq0 : ByteArray.size (⟨#[46]⟩ : ByteArray) = 1 := rfl; unfold maxLen; first | omega | (simp only [ByteArray.size_append]; omega))) (pn 4 hx0 (pc 6 (T8 a0 (by omega)) (px (I9 (n := (ByteArray.size ((J9 s_ a0) ++ (⟨#[46]⟩ : ByteArray)) + ByteArray.size (Vv a0))) (by have hq0 : ByteArray.size (⟨#[46]⟩ : ByteArray) = 1 := rfl; unfold maxLen; first | omega | (simp only [ByteArray.size_append]; omega))) p0)))) ?_
    refine qu Qb [(8, .s (((J9 s_ a0) ++ (⟨#[46]⟩ : ByteArray)) ++ (Vv a0))), (9, .i ((k1 + 1 : Nat) : Int))] [8, 9, 26] [] [] (pe 1 (Jn (Qp k1 (by omega))) p0) ?_
    exact Exists.intro _ (And.intro (Qd (by kernel_rfl)) (K0 hk1 (Q6 h4 (rfl)) hI1))
   refine Qh ?_
   refine qn Qb [1, 2, 4, 5, 6, 7, 8, 9] [2] (pe 1 (Jn (Qp k1 (by omega))) p0) ?_
   exact Exists.intro _ (And.intro (Qd (by kernel_rfl)) (K0 hk1 (Qm h4 (rfl)) hI1))
  ·
   refine Qe (su Qb [(26, .b false)] [] [] [] (pe 2 (Qo (decide_eq_false (p := ((k1 : Nat) : Int) < ((k0 : Nat) : Int)) (by omega))) p0) ?_)
   refine ckF ?_
   refine Q5 ?_
   exact Exists.intro _ (And.intro (Qd (by kernel_rfl)) (Bz hk1 (rfl) hI1))
  refine wT 5 0 (.own true 147203) s0 (fun hw5 hl6 => ?_)
  refine ru Qb [(5, .one (.slc (.own true 3072) 1 ((eL s0) ++ [[.s y1]])))] [5, 8] [] [] (pa s0 [y1] p0) ?_
  refine eqn [(5, .o 3072 (s0 ++ [y1]))] [5] [] [] (by rw [show ((eL s0) ++ [[.s y1]]) = (eL (s0 ++ [y1])) from Kj (rfl) (rfl)]; first | done | kernel_rfl) ?_
  refine rn Qb [1, 2, 4, 5, 6] [2] (pe 1 (Jn (Qp k0 (by omega))) p0) ?_
  exact Exists.intro (s0 ++ [y1]) (And.intro (X2 [(3072, 147203)] (by kernel_rfl)) ⟨Qx hx0 (Wc hD1 (rfl)) hI0.1, by first | omega | (simp; omega) | simp⟩)
 ·
  have hA0_0 := hI0.2
  refine Qe (sn Qb [1, 2, 4, 5, 6, 14] [2] (pl 2 ids (pe 3 (Qo (decide_eq_false (p := ((k0 : Nat) : Int) < (ids.length : Int)) (by omega))) p0)) ?_)
  refine ckF ?_
  refine Q5 ?_
  exact Exists.intro _ (And.intro (X2 [(147203, 147353)] (by kernel_rfl)) (Xn hk0 (rfl) hI0.1))
 refine sn Qb [4] [] (p0) ?_
 refine Qg ?_
 exact po0 [] (Wc hD0 (rfl))
end Go.Proofs.YtkbfhiamdcoieaaGreatDoor
namespace Go.Proofs.YtkbfhiamdcoieaaGreatDoor
open Go.RowKit
abbrev Hf (s : Ql) (x : Int) : ByteArray := Q7 (((Q3 s x)).1)
abbrev WL (s : Ql) (x : Int) : ByteArray := (Hf s x ++ (⟨#[46]⟩ : ByteArray)) ++ Vv x
theorem JS (x v : ByteArray) (l : List ByteArray) : Qy (x :: l) v = ((x.toList == v.toList) || Qy l v) := by
  have h : (x.toList == v.toList) = decide (x = v) := toList_inj
  rw [h, Bool.eq_iff_iff, Ln, Bool.or_eq_true, Ln, decide_eq_true_eq, List.mem_cons]
  exact or_congr eq_comm Iff.rfl
theorem Nl (s : Ql) (ids : List Int) (a : Int) (m : Nat) (hm : m ≤ ids.length) : ∀ (n k : Nat) (t : ByteArray), k + n = m → Wd (H7 s ids a) C8 n k t = .brk (bif Qy (((ids.take m).drop k).map (Hf s)) (Hf s a) then WL s a else t)
  | 0, k, t, h => by
    have e : (ids.take m).drop k = [] := List.drop_eq_nil_of_le (by rw [List.length_take]; omega)
    have e2 : Qy (List.map (Hf s) []) (Hf s a) = false := rfl
    rw [e, e2]; rfl
  | n + 1, k, t, h => by
    have hg : (ids.take m)[k]? = some (nth ids k) := by rw [List.getElem?_take, if_pos (by omega)]; exact K9 (by omega)
    rw [M8 hg, List.map_cons, JS]
    simp only [Wd, H7, AK]
    cases hc : ((Q7 (((Q3 s (nth ids k))).1)).toList == (Q7 (((Q3 s a)).1)).toList) with
    | true =>
      simp only [cond_true, Bool.true_or]
      rw [Nl s ids a m hm n (k + 1) _ (by omega)]
      cases Qy _ _ <;> rfl
    | false =>
      simp only [cond_false, Bool.false_or]
      exact Nl s ids a m hm n (k + 1) t (by omega)
theorem P8 (s : Ql) (ids : List Int) : ∀ (l : List Int) (k : Nat) (t : List ByteArray), ids.drop k = l → ∃ r, Xp (Kv s) Un l k ((ids.take k).map (Hf s), t) = .brk r ∧ Xp (H8 s ids) C9 l k t = .brk r
  | [], k, t, _ => ⟨t, rfl, rfl⟩
  | a :: l, k, t, hl => by
    have hk : ids[k]? = some a := by
      have := congrArg (·[0]?) hl
      simpa using this
    have hkl : k < ids.length := (List.getElem?_eq_some_iff.1 hk).1
    have hrest : ids.drop (k + 1) = l := by rw [← List.drop_drop, hl]; rfl
    have hin := Nl s ids a k (by omega) k 0 (Hf s a) (by omega)
    rw [List.drop_zero] at hin
    have htake : (ids.take k).map (Hf s) ++ [Hf s a] = (ids.take (k + 1)).map (Hf s) := by
      rw [List.take_add_one, hk]; simp
    simp only [Xp, Kv, H8, AK, Int.toNat_natCast]
    rw [hin]
    cases hc : Qy ((ids.take k).map (Hf s)) (Hf s a) with
    | true =>
      simp only [cond_true, Out.on]
      rw [htake]
      exact P8 s ids l (k + 1) _ hrest
    | false =>
      simp only [cond_false, Out.on]
      rw [htake]
      exact P8 s ids l (k + 1) _ hrest
theorem O5 (s : Ql) (ids : List Int) : Jm s ids = Yj s ids := by
  unfold Jm Yj
  obtain ⟨r, h1, h2⟩ := P8 s ids ids 0 [] rfl
  rw [List.take_zero, List.map_nil] at h1
  rw [h1, h2]
theorem Nm (s : Ql) : ∀ (l : List Int) (k : Nat) (b t : List ByteArray), (∀ x, x ∈ l → 1 ≤ x ∧ x ≤ 60) → (∀ x, x ∈ t → x.size ≤ GoD.size s + 25) → ∃ r, Xp (Kv s) Un l k (b, t) = .brk r ∧ r.length = t.length + l.length ∧ ∀ x, x ∈ r → x.size ≤ GoD.size s + 25
  | [], k, b, t, _, h => ⟨t, rfl, rfl, h⟩
  | a :: l, k, b, t, hi, h => by
    have ha := hi a (List.mem_cons_self ..)
    have hb := LN s a
    have hn := E0 (n := a) (by omega)
    have hl : (WL s a).size ≤ GoD.size s + 25 := by
      have h1 : ByteArray.size (⟨#[46]⟩ : ByteArray) = 1 := rfl
      show ((Hf s a ++ (⟨#[46]⟩ : ByteArray)) ++ Vv a).size ≤ _
      rw [ByteArray.size_append, ByteArray.size_append]
      have h2 : (Hf s a).size ≤ GoD.size s + 4 := hb
      omega
    have hi' : ∀ x, x ∈ l → 1 ≤ x ∧ x ≤ 60 := fun x hx => hi x (List.mem_cons_of_mem _ hx)
    simp only [Xp, Kv]
    cases Qy b (Q7 (((Q3 s a)).1)) with
    | true =>
      simp only [cond_true]
      obtain ⟨r, h1, h2, h3⟩ := Nm s l (k + 1) (b ++ [Hf s a]) (t ++ [WL s a]) hi' fun x hx => by
        rcases List.mem_append.1 hx with hx | hx
        · exact h x hx
        obtain rfl := List.mem_singleton.1 hx; exact hl
      refine ⟨r, h1, ?_, h3⟩
      rw [h2, List.length_append, List.length_singleton, List.length_cons]; omega
    | false =>
      simp only [cond_false]
      obtain ⟨r, h1, h2, h3⟩ := Nm s l (k + 1) (b ++ [Hf s a]) (t ++ [Hf s a]) hi' fun x hx => by
        rcases List.mem_append.1 hx with hx | hx
        · exact h x hx
        obtain rfl := List.mem_singleton.1 hx
        have h2 : (Hf s a).size ≤ GoD.size s + 4 := hb
        omega
      refine ⟨r, h1, ?_, h3⟩
      rw [h2, List.length_append, List.length_singleton, List.length_cons]; omega
theorem PD {s : Ql} {ids : List Int} (hi : ∀ x, x ∈ ids → 1 ≤ x ∧ x ≤ 60) : (Yj s ids).length = ids.length ∧ ∀ x, x ∈ Yj s ids → x.size ≤ GoD.size s + 25 := by
  unfold Yj
  obtain ⟨r, h1, h2, h3⟩ := Nm s ids 0 [] [] hi fun x hx => by simp at hx
  rw [h1]
  exact ⟨by simpa [Out.on] using h2, h3⟩
/-! ### what a user sees is no larger than the store -/
theorem Ma {α : Type} [GoD α] (l m : List α) : GoD.size (l ++ m) = GoD.size l + GoD.size m := by
  simp only [Nr, List.length_append, List.map_append, List.sum_append]
  omega
theorem CW {α : Type} [GoD α] (a : α) : GoD.size [a] = 1 + GoD.size a := by simp [Nr]
theorem PE {α : Type} [GoD α] [Inhabited α] {l : List α} {i : Nat} (y : α) (hy : GoD.size y ≤ GoD.size (nth l i)) : GoD.size (l.set i y) ≤ GoD.size l := by
  by_cases hi : i < l.length
  · have h2 : l = l.take i ++ ([nth l i] ++ l.drop (i + 1)) := by
      have := M8 (K9 hi)
      rw [List.singleton_append, ← this, List.take_append_drop]
    have h1 : l.set i y = l.take i ++ ([y] ++ l.drop (i + 1)) := by
      rw [List.set_eq_take_append_cons_drop, if_pos hi]; rfl
    rw [h1]
    conv => rhs; rw [h2]
    rw [Ma, Ma, Ma, Ma, CW, CW]
    omega
  rw [List.set_eq_of_length_le (by omega)]
  exact Nat.le_refl _
theorem P9 (u : Int) : ∀ (l : List Q9) (k : Nat) (t : List Q9), ∃ r, Xp (Ve u) Vf l k t = .brk r ∧ GoD.size r ≤ GoD.size t + GoD.size l
  | [], k, t => ⟨t, rfl, Nat.le_add_right _ _⟩
  | a :: l, k, t => by
    have e : GoD.size (a :: l) = GoD.size [a] + GoD.size l := Ma [a] l
    simp only [Xp, Ve]
    cases Kt a u with
    | true =>
      simp only [cond_true]
      obtain ⟨r, h1, h2⟩ := P9 u l (k + 1) (t ++ [Yy a])
      refine ⟨r, h1, ?_⟩
      rw [Ma, show Yy a = a from rfl] at h2
      omega
    | false =>
      simp only [cond_false]
      obtain ⟨r, h1, h2⟩ := P9 u l (k + 1) t
      exact ⟨r, h1, by omega⟩
theorem Ra (s : Ql) : ∀ (l : List Q9) (k : Nat) (t : List Q9), ∃ r, Xp (Ku s) Wr l k t = .brk r ∧ GoD.size r ≤ GoD.size t
  | [], k, t => ⟨t, rfl, Nat.le_refl _⟩
  | a :: l, k, t => by
    simp only [Xp, Ku]
    cases decide ((Z7 (s.1, t, s.2.2) ((nth t k).2.2.2.1)) < (0 : Int)) with
    | true =>
      simp only [cond_true]
      obtain ⟨r, h1, h2⟩ := Ra s l (k + 1) (List.set t k ((nth t k).1, (nth t k).2.1, (nth t k).2.2.1, 0, (nth t k).2.2.2.2))
      exact ⟨r, h1, Nat.le_trans h2 (PE _ (Nat.le_refl _))⟩
    | false =>
      simp only [cond_false]
      exact Ra s l (k + 1) t
theorem WM (s : Ql) (u : Int) : GoD.size (Qi s u) ≤ GoD.size s := by
  unfold Qi
  obtain ⟨r, h1, h2⟩ := P9 u s.2.1 0 []
  rw [h1]
  simp only [Out.on]
  obtain ⟨r2, h3, h4⟩ := Ra s r 0 r
  rw [h3]
  have e : GoD.size s = GoD.size s.1 + (GoD.size s.2.1 + 0) := rfl
  have e2 : GoD.size ((s.1, r2, s.2.2) : Ql) = GoD.size s.1 + (GoD.size r2 + 0) := rfl
  have e3 : GoD.size ([] : List Q9) = 0 := rfl
  show GoD.size ((s.1, r2, s.2.2) : Ql) ≤ _
  omega
theorem WN (s : Ql) (d : List Yd) (u : Int) (n : ByteArray) : ∀ x, x ∈ X3 s d u n → 1 ≤ x ∧ x ≤ 60 := by rw [Gn]; exact Ig s d u n
theorem Qae (s : Ql) (d : List Yd) (u : Int) (n : ByteArray) : (Yj (Qi s u) (Xf s d u n)).length ≤ 12 ∧ ∀ (k : Nat) (x : ByteArray), (Yj (Qi s u) (Xf s d u n))[k]? = some x → x.size ≤ GoD.size s + 25 := by
  obtain ⟨h1, h2⟩ := PD (s := Qi s u) (Ig s d u n)
  have h3 := JO s d u n
  have h4 := WM s u
  exact ⟨by omega, fun k x hx => by have := h2 x (List.mem_of_getElem? hx); omega⟩
end Go.Proofs.YtkbfhiamdcoieaaGreatDoor
namespace Go.Proofs.YtkbfhiamdcoieaaGreatDoor
open Go.RowKit
theorem JT {s : Ql} (hs : TxS s) : ∀ (l : List Int) (k : Nat) (b t : List ByteArray), (∀ x, x ∈ l → 1 ≤ x ∧ x ≤ 60) → (∀ x, x ∈ t → x.size ≤ 1025) → ∃ r, Xp (Kv s) Un l k (b, t) = .brk r ∧ ∀ x, x ∈ r → x.size ≤ 1025
  | [], k, b, t, _, h => ⟨t, rfl, h⟩
  | a :: l, k, b, t, hi, h => by
    have ha := hi a (List.mem_cons_self ..)
    have hb := AN hs a
    have hn := E0 (n := a) (by omega)
    have hl : (WL s a).size ≤ 1025 := by
      have h1 : ByteArray.size (⟨#[46]⟩ : ByteArray) = 1 := rfl
      show ((Hf s a ++ (⟨#[46]⟩ : ByteArray)) ++ Vv a).size ≤ _
      rw [ByteArray.size_append, ByteArray.size_append]
      have h2 : (Hf s a).size ≤ 1000 := hb
      omega
    have hi' : ∀ x, x ∈ l → 1 ≤ x ∧ x ≤ 60 := fun x hx => hi x (List.mem_cons_of_mem _ hx)
    simp only [Xp, Kv]
    cases Qy b (Q7 (((Q3 s a)).1)) with
    | true =>
      simp only [cond_true]
      exact JT hs l (k + 1) (b ++ [Hf s a]) (t ++ [WL s a]) hi' fun x hx => by
        rcases List.mem_append.1 hx with hx | hx
        · exact h x hx
        obtain rfl := List.mem_singleton.1 hx; exact hl
    | false =>
      simp only [cond_false]
      exact JT hs l (k + 1) (b ++ [Hf s a]) (t ++ [Hf s a]) hi' fun x hx => by
        rcases List.mem_append.1 hx with hx | hx
        · exact h x hx
        obtain rfl := List.mem_singleton.1 hx
        have h2 : (Hf s a).size ≤ 1000 := hb
        omega
theorem LO {s : Ql} (hs : TxS s) (d : List Yd) (u : Int) (n : ByteArray) : (Yj (Qi s u) (Xf s d u n)).length ≤ 12 ∧ ∀ (k : Nat) (x : ByteArray), (Yj (Qi s u) (Xf s d u n))[k]? = some x → x.size ≤ 1025 := by
  refine ⟨(Qae s d u n).1, fun k x hx => ?_⟩
  have hx := List.mem_of_getElem? hx
  revert hx
  unfold Yj
  obtain ⟨r, h1, h2⟩ := JT (P7 hs u) (Xf s d u n) 0 [] [] (Ig s d u n) fun x hx => by simp at hx
  rw [h1]
  exact h2 x
theorem PF {s : Ql} (hs : TxS s) (d : List Yd) (u : Int) (n : ByteArray) : (Jm (Q1 s u) (X3 s d u n)).length ≤ 12 ∧ ∀ (k : Nat) (x : ByteArray), (Jm (Q1 s u) (X3 s d u n))[k]? = some x → x.size ≤ 1025 := by
  rw [O5, Ez, Gn]; exact LO hs d u n
open GoE (enc wide)
def Ck (_ : Nat) (a0 : ByteArray) (s0 : ByteArray) : Rd (ByteArray) (ByteArray) (ByteArray) := (.next (s0 ++ ((⟨#[32]⟩ : ByteArray) ++ a0)))
def Fk (_ : Nat) (s0 : ByteArray) : ByteArray := s0
def Yt (s_ : Ql) (d : (List Yd)) (user : Int) (name : ByteArray) : ByteArray := (Out.on (Xp Ck Fk (Yj (Qi s_ user) (Xf s_ d user name)) 0 name) (fun y0 => y0))
theorem F8 (s_ : Ql) (d : (List Yd)) (user : Int) (name : ByteArray) (hp : TxS s_) (hn : name.size ≤ 1000) : ACalls Tryz.prog 26 [.a [.h s_.1, .h s_.2.1, .i s_.2.2], .h d, .i user, .s name] (.s (Yt s_ d user name)) := by
 refine en Qb Tryz.func26 fun w0 F0 hG => ?_
 refine sn Qb [1, 2, 3, 4, 8] [4] (p0) ?_
 refine tn Qb [1, 2, 3, 4, 8, 9] [4] (p0) ?_
 refine Qe (tU Qb Yo [(8, .s ⟨#[]⟩), (9, .s name), (21, .o 1344 (Yj (Qi s_ user) (Xf s_ d user name))), (22, .i ((Yj (Qi s_ user) (Xf s_ d user name)).length : Int)), (23, .i 0)] [0, 1, 2, 3] [] [] (pc 2 (Hd s_ user) (pc 7 (Ce s_ d user name) (pc 8 (Rz (Qi s_ user) (Xf s_ d user name) (Ig s_ d user name) (P7 hp user)) (pl 9 (Yj (Qi s_ user) (Xf s_ d user name)) p0)))) ?_)
 refine wT 21 0 (.own true 1344) (Yj (Qi s_ user) (Xf s_ d user name)) (fun hw1 hl2 => ?_)
 refine GN Ck Fk (Yj (Qi s_ user) (Xf s_ d user name)) name (fun k0 s0 => [(9, .s s0), (23, .i ((k0 : Nat) : Int))]) [9, 23] (fun y0 => [(9, .s y0)]) [9, 21, 22, 23] (fun k0 s0 => ByteArray.size s0 ≤ name.size + 300000000 * k0) (Qd (by kernel_rfl)) (by omega) (fun k0 s0 hk0 hI0 => ?_) (fun k0 s0 hk0 hI0 => ?_) (fun y0 hD0 => ?_)
 ·
  have hA0_0 := hI0.2
  obtain ⟨a0, hx0⟩ := Xm (l := Yj (Qi s_ user) (Xf s_ d user name)) (i := k0) hk0
  have hlo := LO hp d user name
  have hxs := hlo.2 _ _ hx0
  have hll := hlo.1
  refine su Qb [(24, .b true)] [] [] [] (pe 0 (Qo (decide_eq_true (p := ((k0 : Nat) : Int) < ((Yj (Qi s_ user) (Xf s_ d user name)).length : Int)) (by omega))) p0) ?_
  refine Qe (ckT ?_)
  refine Qh ?_
  refine Qe (Qs ?_)
  refine su Qb [(11, .s a0)] [24] [] [] (pN 0 hx0 p0) ?_
  refine rn Qb [8, 9, 21, 22, 23] [] (px (I9 (n := (ByteArray.size (⟨#[32]⟩ : ByteArray) + ByteArray.size a0)) (by have hq0 : ByteArray.size (⟨#[32]⟩ : ByteArray) = 1 := rfl; unfold maxLen; first | omega | (simp only [ByteArray.size_append]; omega))) (px (I9 (n := (ByteArray.size s0 + ByteArray.size ((⟨#[32]⟩ : ByteArray) ++ a0))) (by have hq0 : ByteArray.size (⟨#[32]⟩ : ByteArray) = 1 := rfl; unfold maxLen; first | omega | (simp only [ByteArray.size_append]; omega))) p0)) ?_
  refine qn Qb [8, 9, 21, 22, 23] [] (pe 0 (Jn (Qp k0 (by omega))) p0) ?_
  exact Exists.intro (s0 ++ ((⟨#[32]⟩ : ByteArray) ++ a0)) (And.intro (Qd (by kernel_rfl)) ⟨Qx hx0 (rfl) hI0.1, (by have hq : ByteArray.size (⟨#[32]⟩ : ByteArray) = 1 := rfl; simp only [ByteArray.size_append]; omega)⟩)
 ·
  have hA0_0 := hI0.2
  refine su Qb [(24, .b false)] [] [] [] (pe 0 (Qo (decide_eq_false (p := ((k0 : Nat) : Int) < ((Yj (Qi s_ user) (Xf s_ d user name)).length : Int)) (by omega))) p0) ?_
  refine Qe (ckF ?_)
  refine Q5 ?_
  exact Exists.intro _ (And.intro (Qd (by kernel_rfl)) (Xn hk0 (rfl) hI0.1))
 refine sn Qb [8] [] (p0) ?_
 refine Qg ?_
 exact ps [] (Wc hD0 (rfl))
def Vg (s_ : Ql) (d : (List Yd)) (user : Int) (_ : Nat) (a0 : Yd) (s0 : (List ByteArray)) : Rd ((List ByteArray)) ((List ByteArray)) ((List ByteArray)) := (.next (s0 ++ [(Yt s_ d user a0.1)]))
def Uo (_ : Nat) (s0 : (List ByteArray)) : (List ByteArray) := s0
def X9 (s_ : Ql) (d : (List Yd)) (user : Int) : (List ByteArray) := (bif (!(((Qt s_ d user)).2)) then [] else (Out.on (Xp (Vg s_ d user) Uo d 0 []) (fun y0 => y0)))
theorem D9 (s_ : Ql) (d : (List Yd)) (user : Int) (hp : TxS s_) (hd : TxD d) : ACalls Tryz.prog 8 [.a [.h s_.1, .h s_.2.1, .i s_.2.2], .h d, .i user] (.o 0 (X9 s_ d user)) := by
 refine en Qb Tryz.func8 fun w0 F0 hG => ?_
 refine sn Qb [1, 2, 3, 6] [3] (p0) ?_
 refine Qe (tn Qb [1, 2, 3, 6, 8] [3] (pc 3 (Hw s_ d user) p0) ?_)
 refine tu Qb [(3, .p 3 0), (6, .e 0), (20, .b (!(((Qt s_ d user)).2)))] [0] [(3, [.h s_.1, .h s_.2.1, .i s_.2.2])] [] (p0) ?_
 refine ck (!(((Qt s_ d user)).2)) (fun h1 => ?_) (fun h1 => ?_)
 ·
  have h1n : (((Qt s_ d user)).2) = false := Vr h1
  refine su Qb [] [20] [] [] (p0) ?_
  refine opn [(false, 6, 0, true, 384000, 1)] ?_
  refine Qg ?_
  exact po0 [] (Q6 h1 (rfl))
 have h1n : (((Qt s_ d user)).2) = true := Ze h1
 refine Qh ?_
 refine sn Qb [1, 2, 3, 6, 9] [3] (p0) ?_
 refine Qe (tn Qb [1, 2, 3, 6, 9, 22, 23, 24] [3] (pl 1 d p0) ?_)
 refine mz [(9, .one (.slc (.own true 1344) 1 [])), (22, .h d), (23, .i (d.length : Int)), (24, .i 0)] [20] [] [] ?_
 refine wT 1 0 .sh d (fun hw2 hl3 => ?_)
 refine Rw (Vg s_ d user) Uo d [] (fun k0 s0 => [(9, .o 147204 s0), (24, .i ((k0 : Nat) : Int))]) [9, 24] (fun _ _ => []) [] (fun y0 => [(9, .o 147354 y0)]) [1, 2, 3, 9, 22, 23, 24] (fun _ => []) [3] (fun k0 s0 => List.length s0 ≤ k0) (X2 [(1344, 147204)] (by kernel_rfl)) (by simp) (fun k0 s0 hk0 hI0 => ?_) (fun k0 s0 hk0 hI0 => ?_) (fun y0 hD0 => ?_)
 ·
  have hA0_0 := hI0.2
  obtain ⟨a0, hx0⟩ := Xm (l := d) (i := k0) hk0
  refine su Qb [(25, .b true)] [] [] [] (pe 0 (Qo (decide_eq_true (p := ((k0 : Nat) : Int) < (d.length : Int)) (by omega))) p0) ?_
  refine Qe (ckT ?_)
  refine Qh ?_
  refine Qe (Qs ?_)
  refine sn Qb [1, 2, 3, 6, 9, 11, 22, 23, 24] [3, 11] (pn 0 hx0 p0) ?_
  refine wT 9 0 (.own true 147204) s0 (fun hw4 hl5 => ?_)
  refine qu Qb [(9, .one (.slc (.own true 2304) 1 ((eL s0) ++ [[.s (Yt s_ d user a0.1)]])))] [9, 25] [] [] (pc 6 (F8 s_ d user a0.1 (by assumption) (hd _ (List.mem_of_getElem? hx0))) (pa s0 [(Yt s_ d user a0.1)] p0)) ?_
  refine eqn [(9, .o 2304 (s0 ++ [(Yt s_ d user a0.1)]))] [9] [] [] (by rw [show ((eL s0) ++ [[.s (Yt s_ d user a0.1)]]) = (eL (s0 ++ [(Yt s_ d user a0.1)])) from Kj (rfl) (rfl)]; first | done | kernel_rfl) ?_
  refine rn Qb [1, 2, 3, 6, 9, 22, 23, 24] [3] (pe 0 (Jn (Qp k0 (by omega))) p0) ?_
  exact Exists.intro (s0 ++ [(Yt s_ d user a0.1)]) (And.intro (X2 [(2304, 147204)] (by kernel_rfl)) ⟨Qx hx0 (rfl) hI0.1, by first | omega | (simp; omega) | simp⟩)
 ·
  have hA0_0 := hI0.2
  refine su Qb [(25, .b false)] [] [] [] (pe 0 (Qo (decide_eq_false (p := ((k0 : Nat) : Int) < (d.length : Int)) (by omega))) p0) ?_
  refine Qe (ckF ?_)
  refine Q5 ?_
  exact Exists.intro _ (And.intro (X2 [(147204, 147354)] (by kernel_rfl)) (Xn hk0 (rfl) hI0.1))
 refine sn Qb [6] [] (p0) ?_
 refine Qg ?_
 exact po0 [] (Qm h1 (Wc hD0 (rfl)))
def Dk (_ : Nat) (a0 : ByteArray) (s0 : ByteArray) : Rd (ByteArray) (ByteArray) (ByteArray) := (.next ((s0 ++ (⟨#[32]⟩ : ByteArray)) ++ a0))
def F9 (_ : Nat) (s0 : ByteArray) : ByteArray := s0
def Ji (s_ : Ql) (d : (List Yd)) (u : Int) (name : ByteArray) : ByteArray := (Out.on (Xp Dk F9 (Jm (Q1 s_ u) (X3 s_ d u name)) 0 name) (fun y0 => y0))
theorem Ij (s_ : Ql) (d : (List Yd)) (u : Int) (name : ByteArray) (hp : TxS s_) (hn : name.size ≤ 1000) : ACalls Tryz.prog 32 [.a [.h s_.1, .h s_.2.1, .i s_.2.2], .h d, .i u, .s name] (.s (Ji s_ d u name)) := by
 refine en Qb Tryz.func32 fun w0 F0 hG => ?_
 refine sn Qb [1, 2, 3, 4, 8] [4] (p0) ?_
 refine tn Qb [1, 2, 3, 4, 8, 9] [4] (p0) ?_
 refine tU Qb Yo [(8, .s ⟨#[]⟩), (9, .s name), (10, .o 1344 (Jm (Q1 s_ u) (X3 s_ d u name)))] [0, 1, 2, 3] [] [] (pc 2 (He s_ u) (pc 7 (Ie s_ d u name) (pc 8 (R0 (Q1 s_ u) (X3 s_ d u name) (WN s_ d u name) (AO hp u)) p0))) ?_
 refine Qe (sn Qb [8, 9, 10, 11] [] (p0) ?_)
 refine mz [(11, .i 0)] [] [] [] ?_
 refine wT 10 0 (.own true 1344) (Jm (Q1 s_ u) (X3 s_ d u name)) (fun hw1 hl2 => ?_)
 refine GN Dk F9 (Jm (Q1 s_ u) (X3 s_ d u name)) name (fun k0 s0 => [(9, .s s0), (11, .i ((k0 : Nat) : Int))]) [9, 11] (fun y0 => [(9, .s y0)]) [9, 10, 11] (fun k0 s0 => ByteArray.size s0 ≤ name.size + 300000000 * k0) (Qd (by kernel_rfl)) (by omega) (fun k0 s0 hk0 hI0 => ?_) (fun k0 s0 hk0 hI0 => ?_) (fun y0 hD0 => ?_)
 ·
  have hA0_0 := hI0.2
  obtain ⟨a0, hx0⟩ := Xm (l := Jm (Q1 s_ u) (X3 s_ d u name)) (i := k0) hk0
  have hlo := PF hp d u name
  have hxs := hlo.2 _ _ hx0
  have hll := hlo.1
  refine Qe (sn Qb [8, 9, 10, 11, 25] [] (pl 2 (Jm (Q1 s_ u) (X3 s_ d u name)) (pe 3 (Qo (decide_eq_true (p := ((k0 : Nat) : Int) < ((Jm (Q1 s_ u) (X3 s_ d u name)).length : Int)) (by omega))) p0)) ?_)
  refine ckT ?_
  refine Qh ?_
  refine Qe (Qs ?_)
  refine qn Qb [8, 9, 10, 11] [] (px (I9 (n := (ByteArray.size s0 + ByteArray.size (⟨#[32]⟩ : ByteArray))) (by have hq0 : ByteArray.size (⟨#[32]⟩ : ByteArray) = 1 := rfl; unfold maxLen; first | omega | (simp only [ByteArray.size_append]; omega))) (pN 4 hx0 (px (I9 (n := (ByteArray.size (s0 ++ (⟨#[32]⟩ : ByteArray)) + ByteArray.size a0)) (by have hq0 : ByteArray.size (⟨#[32]⟩ : ByteArray) = 1 := rfl; unfold maxLen; first | omega | (simp only [ByteArray.size_append]; omega))) p0))) ?_
  refine qu Qb [(9, .s ((s0 ++ (⟨#[32]⟩ : ByteArray)) ++ a0)), (11, .i ((k0 + 1 : Nat) : Int))] [9, 11] [] [] (pe 1 (Jn (Qp k0 (by omega))) p0) ?_
  exact Exists.intro ((s0 ++ (⟨#[32]⟩ : ByteArray)) ++ a0) (And.intro (Qd (by kernel_rfl)) ⟨Qx hx0 (rfl) hI0.1, (by have hq : ByteArray.size (⟨#[32]⟩ : ByteArray) = 1 := rfl; simp only [ByteArray.size_append]; omega)⟩)
 ·
  have hA0_0 := hI0.2
  refine Qe (sn Qb [8, 9, 10, 11, 25] [] (pl 2 (Jm (Q1 s_ u) (X3 s_ d u name)) (pe 3 (Qo (decide_eq_false (p := ((k0 : Nat) : Int) < ((Jm (Q1 s_ u) (X3 s_ d u name)).length : Int)) (by omega))) p0)) ?_)
  refine ckF ?_
  refine Q5 ?_
  exact Exists.intro _ (And.intro (Qd (by kernel_rfl)) (Xn hk0 (rfl) hI0.1))
 refine sn Qb [8] [] (p0) ?_
 refine Qg ?_
 exact ps [] (Wc hD0 (rfl))
def H9 (s_ : Ql) (d : (List Yd)) (u : Int) (_ : Nat) (a0 : Yd) (s0 : (List ByteArray)) : Rd ((List ByteArray)) ((List ByteArray)) ((List ByteArray)) := (.next (s0 ++ [(Ji s_ d u a0.1)]))
def Da (_ : Nat) (s0 : (List ByteArray)) : (List ByteArray) := s0
def Z5 (s_ : Ql) (d : (List Yd)) (u : Int) : (List ByteArray) := (bif (!(((Xb s_ d u)).2)) then [] else (Out.on (Xp (H9 s_ d u) Da d 0 []) (fun y0 => y0)))
theorem Ea (s_ : Ql) (d : (List Yd)) (u : Int) (hp : TxS s_) (hd : TxD d) : ACalls Tryz.prog 12 [.a [.h s_.1, .h s_.2.1, .i s_.2.2], .h d, .i u] (.o 0 (Z5 s_ d u)) := by
 refine en Qb Tryz.func12 fun w0 F0 hG => ?_
 refine sn Qb [1, 2, 3, 6] [3] (p0) ?_
 refine tn Qb [1, 2, 3, 6, 7] [3] (p0) ?_
 refine Qe (tu Qb [(3, .p 3 0), (6, .e 0), (7, .one (.slc (.own true 704) 1 [])), (9, .b (((Xb s_ d u)).2))] [0] [(3, [.h s_.1, .h s_.2.1, .i s_.2.2])] [] (pc 3 (Hx s_ d u) p0) ?_)
 refine sn Qb [1, 2, 3, 6, 7, 20] [3] (p0) ?_
 refine ck (!(((Xb s_ d u)).2)) (fun h1 => ?_) (fun h1 => ?_)
 ·
  have h1n : (((Xb s_ d u)).2) = false := Vr h1
  refine tn Qb [1, 2, 3, 6, 7] [3] (p0) ?_
  refine Qg ?_
  exact po0 [] (Q6 h1 (rfl))
 have h1n : (((Xb s_ d u)).2) = true := Ze h1
 refine Qh ?_
 refine Qe (tu Qb [(10, .i 0)] [9] [] [] (p0) ?_)
 refine wT 1 0 .sh d (fun hw2 hl3 => ?_)
 refine Rw (H9 s_ d u) Da d [] (fun k0 s0 => [(7, .o 147204 s0), (10, .i ((k0 : Nat) : Int))]) [7, 10] (fun _ _ => []) [] (fun y0 => [(7, .o 147354 y0)]) [1, 2, 3, 7, 10] (fun _ => []) [3] (fun k0 s0 => List.length s0 ≤ k0) (X2 [(704, 147204)] (by kernel_rfl)) (by simp) (fun k0 s0 hk0 hI0 => ?_) (fun k0 s0 hk0 hI0 => ?_) (fun y0 hD0 => ?_)
 ·
  have hA0_0 := hI0.2
  obtain ⟨a0, hx0⟩ := Xm (l := d) (i := k0) hk0
  refine Qe (su Qb [(25, .b true)] [] [] [] (pl 2 d (pe 3 (Qo (decide_eq_true (p := ((k0 : Nat) : Int) < (d.length : Int)) (by omega))) p0)) ?_)
  refine ckT ?_
  refine Qh ?_
  refine Qe (Qs ?_)
  refine wT 7 0 (.own true 147204) s0 (fun hw4 hl5 => ?_)
  refine rU Qb Yo [(7, .one (.slc (.own true 2496) 1 ((eL s0) ++ [[.s (Ji s_ d u a0.1)]])))] [7, 25] [] [] (pn 6 hx0 (pc 9 (Ij s_ d u a0.1 (by assumption) (hd _ (List.mem_of_getElem? hx0))) (pa s0 [(Ji s_ d u a0.1)] p0))) ?_
  refine eqn [(7, .o 2496 (s0 ++ [(Ji s_ d u a0.1)]))] [7] [] [] (by rw [show ((eL s0) ++ [[.s (Ji s_ d u a0.1)]]) = (eL (s0 ++ [(Ji s_ d u a0.1)])) from Kj (rfl) (rfl)]; first | done | kernel_rfl) ?_
  refine rn Qb [1, 2, 3, 6, 7, 10] [3] (pe 1 (Jn (Qp k0 (by omega))) p0) ?_
  exact Exists.intro (s0 ++ [(Ji s_ d u a0.1)]) (And.intro (X2 [(2496, 147204)] (by kernel_rfl)) ⟨Qx hx0 (rfl) hI0.1, by first | omega | (simp; omega) | simp⟩)
 ·
  have hA0_0 := hI0.2
  refine Qe (su Qb [(25, .b false)] [] [] [] (pl 2 d (pe 3 (Qo (decide_eq_false (p := ((k0 : Nat) : Int) < (d.length : Int)) (by omega))) p0)) ?_)
  refine ckF ?_
  refine Q5 ?_
  exact Exists.intro _ (And.intro (X2 [(147204, 147354)] (by kernel_rfl)) (Xn hk0 (rfl) hI0.1))
 refine sn Qb [6] [] (p0) ?_
 refine Qg ?_
 exact po0 [] (Qm h1 (Wc hD0 (rfl)))
end Go.Proofs.YtkbfhiamdcoieaaGreatDoor
namespace Go.Proofs.YtkbfhiamdcoieaaGreatDoor
open Go.RowKit
theorem AP (s : Ql) (d : List Yd) (u : Int) (n : ByteArray) : Ji s d u n = Yt s d u n := by
  unfold Ji Yt
  rw [Ez, Gn, O5, B0 (f := Dk) (g := Ck) (e := F9) (e' := Fk) (fun k a t => by
    unfold Dk Ck
    rw [ByteArray.append_assoc]) (fun _ _ => rfl)]
theorem JU (s : Ql) (d : List Yd) (u : Int) : Z5 s d u = X9 s d u := by
  unfold Z5 X9
  rw [Fj, B0 (f := H9 s d u) (g := Vg s d u) (e := Da) (e' := Uo) (fun k a t => by
    unfold H9 Vg
    rw [AP]) (fun _ _ => rfl)]
end Go.Proofs.YtkbfhiamdcoieaaGreatDoor
namespace Go.Proofs.YtkbfhiamdcoieaaGreatDoor
open Go.RowKit
theorem RQ {α : Type} [Inhabited α] {p : α → α → Bool} {f : Nat → α → Unit → Rd Bool Unit Unit} {e : Nat → Unit → Unit} {b : List α} (hf : ∀ k a, f k a () = (bif !(p a (nth b k)) then .ret false else .next ())) :
    ∀ (l : List α) (k : Nat), Out.on (Xp f e l k ()) (fun _ => true) = true ↔ ∀ (i : Nat) (a : α), l[i]? = some a → p a (nth b (k + i)) = true
  | [], k => by simp [Xp, Out.on]
  | x :: l, k => by
    simp only [Xp, hf]
    cases hp : p x (nth b k) with
    | false =>
      simp only [Bool.not_false, cond_true, Out.on]
      refine ⟨fun h => (by cases h), fun h => ?_⟩
      have := h 0 x rfl
      rw [Nat.add_zero, hp] at this
      exact this
    | true =>
      simp only [Bool.not_true, cond_false]
      rw [RQ hf l (k + 1)]
      refine ⟨fun h i a hi => ?_, fun h i a hi => ?_⟩
      · cases i with
        | zero => have hi : x = a := by simpa using hi
                  subst hi; exact hp
        | succ i => have := h i a (by simpa using hi)
                    rw [show k + (i + 1) = k + 1 + i by omega]; exact this
      have := h (i + 1) a (by simpa using hi)
      rw [show k + 1 + i = k + (i + 1) by omega]; exact this
theorem Rb {α : Type} [Inhabited α] {p : α → α → Bool} (hp : ∀ a b, p a b = true ↔ a = b) {f : Nat → α → Unit → Rd Bool Unit Unit} {e : Nat → Unit → Unit} {l b : List α} (hf : ∀ k a, f k a () = (bif !(p a (nth b k)) then .ret false else .next ())) :
    (bif ((l.length : Int) != (b.length : Int)) then false else Out.on (Xp f e l 0 ()) (fun _ => true)) = true ↔ l = b := by
  by_cases hl : l.length = b.length
  · have hn : ((l.length : Int) != (b.length : Int)) = false := by simp [hl]
    rw [hn, cond_false, RQ hf]
    refine ⟨fun h => List.ext_getElem? fun i => ?_, fun h i a hi => ?_⟩
    · by_cases hi : i < l.length
      · rw [K9 hi, K9 (by omega : i < b.length)]
        have := h i _ (K9 hi)
        rw [Nat.zero_add] at this
        rw [(hp _ _).1 this]
      rw [List.getElem?_eq_none (by omega), List.getElem?_eq_none (by omega)]
    subst h
    rw [Nat.zero_add, Ip hi]
    exact (hp _ _).2 rfl
  have hn : ((l.length : Int) != (b.length : Int)) = true := by simpa using fun e : (l.length : Int) = (b.length : Int) => hl (by omega)
  rw [hn, cond_true]
  exact ⟨fun h => (by cases h), fun h => (hl (congrArg List.length h)).elim⟩
theorem LP (a b : ByteArray) : (a.toList == b.toList) = true ↔ a = b := by rw [toList_inj, decide_eq_true_eq]
open GoE (enc wide)
def Cl (n : Int) (k0 : Nat) (a0 : Int) (_ : Unit) : Rd ((List Int)) (Unit) (Int) := (bif decide (a0 < n) then (.next ()) else (.brk ((k0 : Nat) : Int)))
def Cm (k0 : Nat) (_ : Unit) : Int := ((k0 : Nat) : Int)
def Br (list : (List Int)) (n : Int) : (List Int) := (Out.on (Xp (Cl n) Cm list 0 ()) (fun y0 => (bif (decide (y0 < (list.length : Int)) && ((nth list (Int.toNat y0)) == n)) then list else List.take (Int.toNat y0) list ++ [n] ++ (List.drop (Int.toNat y0) list))))
theorem XD (list : (List Int)) (n : Int) (hp : list.length < 1073741824) : ACalls Tryz.prog 37 [.h list, .i n] (.h (Br list n)) := by
 refine en Qb Tryz.func37 fun w0 F0 hG => ?_
 refine sn Qb [0, 1, 4] [] (p0) ?_
 refine tn Qb [0, 1, 4, 5] [] (p0) ?_
 refine Qe (mz [(4, .e 0), (5, .i 0)] [] [] [] ?_)
 refine wT 0 0 .sh list (fun hw1 hl2 => ?_)
 refine Qci (Cl n) Cm list () (fun k0 _ => [(5, .i ((k0 : Nat) : Int))]) [5] (fun y0 => [(5, .i y0)]) [5] (fun y0 => 0 ≤ y0 ∧ y0 ≤ (list.length : Int)) (Qd (by kernel_rfl)) (fun k0 s0 hk0 hI0 => ?_) (fun k0 s0 hk0 hI0 => ?_) (fun y0 hD0 => ?_)
 ·
  obtain ⟨a0, hx0⟩ := Xm (l := list) (i := k0) hk0
  refine Qe (sn Qb [0, 1, 4, 5, 18] [] (pl 2 list (pe 3 (Qo (decide_eq_true (p := ((k0 : Nat) : Int) < (list.length : Int)) (by omega))) (pn 7 hx0 p0))) ?_)
  refine ck (decide (a0 < n)) (fun h3 => ?_) (fun h3 => ?_)
  ·
   have h3d := of_decide_eq_true h3
   refine Qh ?_
   refine Qs ?_
   refine qn Qb [0, 1, 4, 5] [] (pe 1 (Jn (Qp k0 (by omega))) p0) ?_
   exact Exists.intro _ (And.intro (Qd (by kernel_rfl)) (Qx hx0 (Q6 h3 (rfl)) hI0))
  have h3d := of_decide_eq_false h3
  refine Q5 ?_
  exact Exists.intro ((k0 : Nat) : Int) (And.intro (Qd (by kernel_rfl)) ⟨R9 hx0 (Qm h3 (rfl)) hI0, by first | omega | (simp only [List.length_set]; omega)⟩)
 ·
  refine Qe (sn Qb [0, 1, 4, 5, 18] [] (pl 2 list (pe 3 (Qo (decide_eq_false (p := ((k0 : Nat) : Int) < (list.length : Int)) (by omega))) p0)) ?_)
  refine ckF ?_
  refine Q5 ?_
  exact Exists.intro ((k0 : Nat) : Int) (And.intro (Qd (by kernel_rfl)) ⟨Xn hk0 (rfl) hI0, by first | omega | (simp only [List.length_set]; omega)⟩)
 have hD0_0 := hD0.2
 refine Qe (Qe (jn [(32, .b (decide (y0 < (list.length : Int)) && ((nth list (Int.toNat y0)) == n)))] [] [] [] (decide (y0 < (list.length : Int))) (fun h4 => ?_) (fun h4 => ?_) ?_))
 ·
  have h4d := of_decide_eq_true h4
  have hx5 := ng list (Int.toNat y0)
  refine rn Qb [0, 1, 4, 5, 32] [] (pl 2 list (pt 3 h4 (pg 7 y0 hx5 p0))) ?_
  exact ⟨rfl, Qd (by rw [h4]; first | done | kernel_rfl)⟩
 ·
  refine rn Qb [0, 1, 4, 5, 32] [] (pl 2 list (pf 3 h4 p0)) ?_
  exact ⟨rfl, Qd (by rw [h4]; first | done | kernel_rfl)⟩
 refine ck (decide (y0 < (list.length : Int)) && ((nth list (Int.toNat y0)) == n)) (fun h6 => ?_) (fun h6 => ?_)
 ·
  refine sn Qb [0, 1, 4, 5] [] (p0) ?_
  refine Qg ?_
  exact ph0 [] (Wc hD0.1 (Q6 h6 (rfl)))
 refine Qh ?_
 have hl7 : List.length (List.take (Int.toNat y0) list) ≤ 1073741824 := Ao (N9 (Int.toNat y0) (hw1))
 refine su Qb [(6, .one (.slc (.own true 2624) 1 (([] ++ (eL (List.take (Int.toNat y0) list))) ++ [[.i n]])))] [1, 32] [] [] (pe 3 (Pu .sh 1 (Int.toNat y0) y0 list rfl) (px (Fu (lo := 0) (hi := y0) (n := (List.length (eL list))) (YB (by omega) (by omega) (by omega))) (po 4 (.flat) (px (Ds (n := (([] : List (List PV)).length + ((eL (List.take (Int.toNat y0) list)) : List (List PV)).length)) (Gi (rfl) (Y5 (List.take (Int.toNat y0) list)) (by first | omega | (simp only [List.length_cons, List.length_nil]; omega) | (simp; omega) | simp))) (px (A7 (Af (List.take (Int.toNat y0) list))) (px (Ds (n := ((([] ++ (eL (List.take (Int.toNat y0) list))) : List (List PV)).length + ([[.i n]] : List (List PV)).length)) (by simp [Y5]; omega)) p0)))))) ?_
 refine eqn [(6, .o 2624 (List.take (Int.toNat y0) list ++ [n]))] [6] [] [] (by rw [show (([] ++ (eL (List.take (Int.toNat y0) list))) ++ [[.i n]]) = (eL (List.take (Int.toNat y0) list ++ [n])) from Kj (rfl) (rfl)]; first | done | kernel_rfl) ?_
 refine wT 6 0 (.own true 2624) (List.take (Int.toNat y0) list ++ [n]) (fun hw8 hl9 => ?_)
 have hl10 : List.length (List.drop (Int.toNat y0) list) ≤ 1073741824 := Ao (Oa (Int.toNat y0) (hw1))
 refine su Qb [(4, .one (.slc (.own true 2944) 1 ((eL (List.take (Int.toNat y0) list ++ [n])) ++ (eL (List.drop (Int.toNat y0) list)))))] [0, 4, 5, 6] [] [] (pe 3 (ZP .sh 1 (Int.toNat y0) y0 list rfl) (px (Fu (lo := y0) (hi := (((eL list) : List (List PV)).length : Int)) (n := (List.length (eL list))) (ZQ (by omega) (by omega))) (po 4 (.flat) (pa (List.take (Int.toNat y0) list ++ [n]) (List.drop (Int.toNat y0) list) (px (A7 (Af (List.drop (Int.toNat y0) list))) p0))))) ?_
 refine eqn [(4, .o 2944 (List.take (Int.toNat y0) list ++ [n] ++ (List.drop (Int.toNat y0) list)))] [4] [] [] (by rw [show ((eL (List.take (Int.toNat y0) list ++ [n])) ++ (eL (List.drop (Int.toNat y0) list))) = (eL (List.take (Int.toNat y0) list ++ [n] ++ (List.drop (Int.toNat y0) list))) from Kj (rfl) (rfl)]; first | done | kernel_rfl) ?_
 refine Qg ?_
 exact ph0 [2944] (Wc hD0.1 (Qm h6 (rfl)))
end Go.Proofs.YtkbfhiamdcoieaaGreatDoor
namespace Go.Proofs.YtkbfhiamdcoieaaGreatDoor
open Go.RowKit
theorem LQ : ∀ (a b : List Int), a.Pairwise (· < ·) → b.Pairwise (· < ·) → (∀ x, x ∈ a ↔ x ∈ b) → a = b
  | [], [], _, _, _ => rfl
  | [], y :: b, _, _, h => by have := (h y).2 (by simp); simp at this
  | x :: a, [], _, _, h => by have := (h x).1 (by simp); simp at this
  | x :: a, y :: b, ha, hb, h => by
    rw [List.pairwise_cons] at ha hb
    have h1 : x = y := by
      have hx := (h x).1 (by simp)
      have hy := (h y).2 (by simp)
      simp only [List.mem_cons] at hx hy
      rcases hx with e | hx
      · exact e
      rcases hy with e | hy
      · exact e.symm
      have h1 := ha.1 y hy
      have h2 := hb.1 x hx
      omega
    subst h1
    congr 1
    refine LQ a b ha.2 hb.2 fun z => ?_
    have hz := h z
    simp only [List.mem_cons] at hz
    constructor
    · intro hm
      have hlt := ha.1 z hm
      rcases hz.1 (.inr hm) with e | e
      · omega
      exact e
    intro hm
    have hlt := hb.1 z hm
    rcases hz.2 (.inr hm) with e | e
    · omega
    exact e
def Lp : List Int → Int → List Int
  | [], n => [n]
  | x :: l, n => if x < n then x :: Lp l n else if x = n then x :: l else n :: x :: l
theorem QB (n x : Int) : ∀ l : List Int, x ∈ Lp l n ↔ x = n ∨ x ∈ l
  | [] => by simp [Lp]
  | y :: l => by
    unfold Lp
    by_cases h1 : y < n
    · rw [if_pos h1, List.mem_cons, QB n x l, List.mem_cons]
      constructor
      · rintro (h | h | h)
        · exact .inr (.inl h)
        · exact .inl h
        exact .inr (.inr h)
      rintro (h | h | h)
      · exact .inr (.inl h)
      · exact .inl h
      exact .inr (.inr h)
    rw [if_neg h1]
    by_cases h2 : y = n
    · rw [if_pos h2, h2]; simp
    rw [if_neg h2]; simp
theorem WO (n : Int) : ∀ l : List Int, l.Pairwise (· < ·) → (Lp l n).Pairwise (· < ·)
  | [], _ => by simp [Lp]
  | y :: l, h => by
    rw [List.pairwise_cons] at h
    unfold Lp
    by_cases h1 : y < n
    · rw [if_pos h1, List.pairwise_cons]
      refine ⟨fun z hz => ?_, WO n l h.2⟩
      rcases (QB n z l).1 hz with e | e
      · omega
      exact h.1 z e
    rw [if_neg h1]
    by_cases h2 : y = n
    · rw [if_pos h2, List.pairwise_cons]; exact h
    rw [if_neg h2, List.pairwise_cons, List.pairwise_cons]
    refine ⟨fun z hz => ?_, h⟩
    rcases List.mem_cons.1 hz with e | e
    · omega
    have := h.1 z e; omega
theorem WP (n : Int) : ∀ l : List Int, (Lp l n).length ≤ l.length + 1
  | [] => by simp [Lp]
  | y :: l => by
    have h := WP n l
    unfold Lp
    split
    · simp only [List.length_cons]; omega
    split
    · simp
    simp
def Ue (l : List Int) (n : Int) : Nat := (l.takeWhile (fun x => decide (x < n))).length
theorem CX (n : Int) : ∀ l : List Int, Lp l n = if l[Ue l n]? = some n then l else l.take (Ue l n) ++ [n] ++ l.drop (Ue l n)
  | [] => by simp [Lp, Ue]
  | y :: l => by
    have ih := CX n l
    unfold Lp Ue
    by_cases h1 : y < n
    · rw [if_pos h1, ih]
      simp only [List.takeWhile_cons, h1, decide_true, if_true, List.length_cons, List.getElem?_cons_succ, List.take_succ_cons, List.drop_succ_cons]
      unfold Ue
      split <;> simp
    rw [if_neg h1]
    simp only [List.takeWhile_cons, h1, decide_false, List.length_nil, List.getElem?_cons_zero, Option.some.injEq, List.take_zero, List.drop_zero]
    by_cases h2 : y = n
    · rw [if_pos h2]; simp [h2]
    rw [if_neg h2]; simp [h2]
def Gp (l : List Int) (xs : List Int) : List Int := xs.foldl Lp l
theorem Rc (x : Int) : ∀ (xs l : List Int), x ∈ Gp l xs ↔ x ∈ xs ∨ x ∈ l
  | [], l => by simp [Gp]
  | n :: xs, l => by
    have h := Rc x xs (Lp l n)
    unfold Gp at h ⊢
    rw [List.foldl_cons, h, QB, List.mem_cons]
    constructor
    · rintro (h | h | h)
      · exact .inl (.inr h)
      · exact .inl (.inl h)
      exact .inr h
    rintro ((h | h) | h)
    · exact .inr (.inl h)
    · exact .inl h
    exact .inr (.inr h)
theorem YR : ∀ (xs l : List Int), l.Pairwise (· < ·) → (Gp l xs).Pairwise (· < ·)
  | [], _, h => h
  | n :: xs, l, h => YR xs (Lp l n) (WO n l h)
def less (ids removed : List Int) : List Int := ids.filter (fun x => !removed.contains x)
theorem QC (d : Array Int) (hs : ∀ i j, i ≤ j → j < d.size → d[i]! ≤ d[j]!) : ∀ m, m ≤ d.size → (Lib.compactUpTo d m).Pairwise (· < ·) ∧ ∀ x, x ∈ Lib.compactUpTo d m ↔ ∃ j, j < m ∧ d[j]! = x
  | 0, _ => by simp [Lib.compactUpTo]
  | m + 1, hm => by
    obtain ⟨h1, h2⟩ := QC d hs m (by omega)
    rw [Lib.compactUpTo_succ]
    by_cases hk : Lib.keeps d m = true
    · rw [if_pos hk]
      refine ⟨?_, fun x => ?_⟩
      · rw [List.pairwise_append]
        refine ⟨h1, by simp, fun a ha b hb => ?_⟩
        obtain ⟨j, hj, rfl⟩ := (h2 a).1 ha
        obtain rfl : b = d[m]! := by simpa using hb
        have hle := hs j (m - 1) (by omega) (by omega)
        have hle2 := hs (m - 1) m (by omega) (by omega)
        have hne : d[m]! ≠ d[m - 1]! := by
          unfold Lib.keeps at hk
          simp only [Bool.or_eq_true, beq_iff_eq, bne_iff_ne, decide_eq_true_eq] at hk
          rcases hk with h | h
          · omega
          exact h
        omega
      rw [List.mem_append, h2 x]
      constructor
      · rintro (⟨j, hj, e⟩ | h)
        · exact ⟨j, by omega, e⟩
        exact ⟨m, by omega, by simpa using (by simpa using h : x = d[m]!).symm⟩
      rintro ⟨j, hj, e⟩
      by_cases hjm : j = m
      · subst hjm; exact .inr (by simp [e])
      exact .inl ⟨j, by omega, e⟩
    rw [if_neg hk, List.append_nil]
    refine ⟨h1, fun x => ?_⟩
    rw [h2 x]
    have hm0 : m ≠ 0 ∧ d[m]! = d[m - 1]! := by
      unfold Lib.keeps at hk
      simp only [Bool.or_eq_true, beq_iff_eq, bne_iff_ne, decide_eq_true_eq, not_or, Decidable.not_not] at hk
      exact hk
    constructor
    · rintro ⟨j, hj, e⟩; exact ⟨j, by omega, e⟩
    rintro ⟨j, hj, e⟩
    by_cases hjm : j = m
    · subst hjm; exact ⟨j - 1, by omega, hm0.2 ▸ e⟩
    exact ⟨j, by omega, e⟩
theorem WQ (l : List Int) (a : List Int) (ha : a.Pairwise (· < ·)) (hm : ∀ x, x ∈ a ↔ x ∈ l) : Lib.compact (l.mergeSort fun x y => decide (x ≤ y)) = a := by
  have hp := List.mergeSort_perm l (fun x y => decide (x ≤ y))
  have hs := List.pairwise_mergeSort (le := fun (x y : Int) => decide (x ≤ y)) (fun a b c h1 h2 => by simp at h1 h2 ⊢; omega) (fun a b => by simp; omega) l
  generalize (l.mergeSort fun x y => decide (x ≤ y)) = s at hp hs
  have hsz : s.toArray.size = s.length := by simp
  have hget : ∀ j, j < s.length → s.toArray[j]! = s[j]! := fun j hj => by simp
  have hmono : ∀ i j, i ≤ j → j < s.toArray.size → s.toArray[i]! ≤ s.toArray[j]! := fun i j hij hj => by
    rw [hsz] at hj
    rw [hget i (by omega), hget j hj, getElem!_pos s i (by omega), getElem!_pos s j hj]
    by_cases e : i = j
    · subst e; exact Int.le_refl _
    have := List.pairwise_iff_getElem.1 hs i j (by omega) hj (by omega)
    simpa using this
  obtain ⟨h1, h2⟩ := QC s.toArray hmono s.length (by omega)
  refine LQ _ _ h1 ha fun x => ?_
  show x ∈ Lib.compactUpTo s.toArray s.length ↔ _
  rw [h2 x, hm x, ← hp.mem_iff]
  constructor
  · rintro ⟨j, hj, e⟩
    rw [hget j hj, getElem!_pos s j hj] at e
    exact e ▸ List.getElem_mem hj
  intro h
  obtain ⟨j, hj, e⟩ := List.getElem_of_mem h
  exact ⟨j, hj, by rw [hget j hj, getElem!_pos s j hj]; exact e⟩
end Go.Proofs.YtkbfhiamdcoieaaGreatDoor
namespace Go.Proofs.YtkbfhiamdcoieaaGreatDoor
open Go.RowKit
theorem WR (n : Int) : ∀ (l : List Int) (k : Nat), Xp (Cl n) Cm l k () = .brk (((k + Ue l n : Nat)) : Int)
  | [], k => by simp [Xp, Cm, Ue]
  | a :: l, k => by
    simp only [Xp, Cl]
    by_cases h : a < n
    · have e : Ue (a :: l) n = Ue l n + 1 := by simp [Ue, h]
      rw [decide_eq_true h, e]
      simp only [cond_true]
      rw [WR n l (k + 1), show k + 1 + Ue l n = k + (Ue l n + 1) by omega]
    have e : Ue (a :: l) n = 0 := by simp [Ue, h]
    rw [decide_eq_false h, e]
    rfl
theorem WS (l : List Int) (n : Int) : Br l n = Lp l n := by
  unfold Br
  rw [WR, CX]
  simp only [Out.on, Nat.zero_add, Int.toNat_natCast]
  by_cases h : l[Ue l n]? = some n
  · obtain ⟨hlt, _⟩ := List.getElem?_eq_some_iff.1 h
    rw [if_pos h, decide_eq_true (by omega : ((Ue l n : Nat) : Int) < (l.length : Int)), Ip h]
    simp
  rw [if_neg h]
  have hc : (decide (((Ue l n : Nat) : Int) < (l.length : Int)) && (nth l (Ue l n) == n)) = false := by
    by_cases hlt : Ue l n < l.length
    · have : nth l (Ue l n) ≠ n := fun e => h (by rw [K9 hlt, e])
      rw [beq_eq_false_iff_ne.2 this, Bool.and_false]
    rw [decide_eq_false (by omega), Bool.false_and]
  rw [hc, cond_false]
theorem PG (l : List Int) (n : Int) : List.length (Br l n) ≤ List.length l + 1 := by rw [WS]; exact WP n l
theorem WT (l : List Int) : HQ (Rx l) = Gp [] l := WQ l (Gp [] l) (YR l [] List.Pairwise.nil) fun x => by rw [Rc]; simp
theorem EI (l a b : List Int) : Gp l (a ++ b) = Gp (Gp l a) b := List.foldl_append
open GoE (enc wide)
def Aw (_ : Nat) (a0 : Qr) (s0 : (List Int)) : Rd ((List Int)) ((List Int)) ((List Int)) := (.next (s0 ++ a0.2))
def Ax (_ : Nat) (s0 : (List Int)) : (List Int) := s0
def Yk (s_ : Ql) (d : (List Yd)) (user : Int) : (List Int) := (Out.on (Xp Aw Ax (((Qt s_ d user)).1) 0 []) (fun y0 => HQ (Rx y0)))
theorem Lq (s_ : Ql) (d : (List Yd)) (user : Int) : ACalls Tryz.prog 16 [.a [.h s_.1, .h s_.2.1, .i s_.2.2], .h d, .i user] (.o 0 (Yk s_ d user)) := by
 refine en Qb Tryz.func16 fun w0 F0 hG => ?_
 refine sn Qb [1, 2, 3, 6] [3] (p0) ?_
 refine tn Qb [6, 7] [] (pc 3 (Hw s_ d user) p0) ?_
 refine tu Qb [(6, .e 0), (7, .o 1024 (((Qt s_ d user)).1)), (9, .one (.slc (.own true 1216) 1 []))] [0, 1, 2] [] [] (p0) ?_
 refine Qe (sn Qb [6, 9, 20, 21, 22] [] (pl 1 (((Qt s_ d user)).1) p0) ?_)
 refine mz [(20, .o 1024 (((Qt s_ d user)).1)), (21, .i ((((Qt s_ d user)).1).length : Int)), (22, .i 0)] [7] [] [] ?_
 refine wT 20 0 (.own true 1024) (((Qt s_ d user)).1) (fun hw1 hl2 => ?_)
 refine GN Aw Ax (((Qt s_ d user)).1) [] (fun k0 s0 => [(9, .o 147201 s0), (22, .i ((k0 : Nat) : Int))]) [9, 22] (fun y0 => [(9, .o 147351 y0)]) [9, 20, 21, 22] (fun k0 s0 => List.length s0 ≤ 12 * k0) (X2 [(1216, 147201)] (by kernel_rfl)) (by simp) (fun k0 s0 hk0 hI0 => ?_) (fun k0 s0 hk0 hI0 => ?_) (fun y0 hD0 => ?_)
 ·
  have hA0_0 := hI0.2
  obtain ⟨a0, hx0⟩ := Xm (l := ((Qt s_ d user)).1) (i := k0) hk0
  have hsh := YQ hx0
  have hl5 := CU s_ d user
  refine su Qb [(23, .b true)] [] [] [] (pe 0 (Qo (decide_eq_true (p := ((k0 : Nat) : Int) < ((((Qt s_ d user)).1).length : Int)) (by omega))) p0) ?_
  refine Qe (ckT ?_)
  refine Qh ?_
  refine Qe (Qs ?_)
  refine sn Qb [6, 9, 11, 20, 21, 22] [11] (pN 0 hx0 p0) ?_
  refine wT 9 0 (.own true 147201) s0 (fun hw3 hl4 => ?_)
  refine wB 11 1 (.vw 1024) a0.2 (fun hw5 hl6 => ?_)
  refine qu Qb [(9, .one (.slc (.own true 1856) 1 ((eL s0) ++ (eL a0.2))))] [9, 23] [] [] (po 3 (.flat) (pa s0 a0.2 (px (A7 (Af a0.2)) p0))) ?_
  refine eqn [(9, .o 1856 (s0 ++ a0.2))] [9] [] [] (by rw [show ((eL s0) ++ (eL a0.2)) = (eL (s0 ++ a0.2)) from Kj (rfl) (rfl)]; first | done | kernel_rfl) ?_
  refine rn Qb [6, 9, 20, 21, 22] [] (pe 0 (Jn (Qp k0 (by omega))) p0) ?_
  exact Exists.intro (s0 ++ a0.2) (And.intro (X2 [(1856, 147201)] (by kernel_rfl)) ⟨Qx hx0 (rfl) hI0.1, (by first | omega | (simp; omega))⟩)
 ·
  have hA0_0 := hI0.2
  refine su Qb [(23, .b false)] [] [] [] (pe 0 (Qo (decide_eq_false (p := ((k0 : Nat) : Int) < ((((Qt s_ d user)).1).length : Int)) (by omega))) p0) ?_
  refine Qe (ckF ?_)
  refine Q5 ?_
  exact Exists.intro _ (And.intro (X2 [(147201, 147351)] (by kernel_rfl)) (Xn hk0 (rfl) hI0.1))
 refine E6 [147351] rfl ?_
 refine su Qb [(9, .one (.slc (.own false 147351) 1 (PM (eL y0) 0 4294967296 (List.flatten (eL (Rx y0))))))] [9] [] [] (po 1 (.take false true (eL (Rx y0))) (px (ZL (TS y0)) p0)) ?_
 refine eqn [(9, .q 147351 (Rx y0))] [9] [] [] (by rw [CC (fun _ => rfl) (GZ _)]; first | done | kernel_rfl) ?_
 refine sn Qb [6] [] (po 1 (.take false false (eL (HQ (Rx y0)))) (px (ZL (TT (Rx y0))) p0)) ?_
 refine AB 6 (k := 2176) (n := 1) (by kernel_rfl) (Af (HQ (Rx y0))) ?_
 refine Qg ?_
 exact po0 [] (Wc hD0 (rfl))
def Ay (a0 : Qr) (k1 : Nat) (s1 : (List Int)) : Rd (Rd ((List Int)) ((List Int)) ((List Int))) ((List Int)) ((List Int)) := (.next (Br s1 (nth a0.2 k1)))
def Eb (_ : Nat) (s1 : (List Int)) : (List Int) := s1
def Az (_ : Nat) (a0 : Qr) (s0 : (List Int)) : Rd ((List Int)) ((List Int)) ((List Int)) := (Out.on (Wd (Ay a0) Eb (List.length a0.2) 0 s0) (fun y1 => (.next y1)))
def Ec (_ : Nat) (s0 : (List Int)) : (List Int) := s0
def K4 (s_ : Ql) (d : (List Yd)) (u : Int) : (List Int) := (Out.on (Xp Az Ec (((Xb s_ d u)).1) 0 []) (fun y0 => y0))
theorem QD (s_ : Ql) (d : (List Yd)) (u : Int) : ACalls Tryz.prog 17 [.a [.h s_.1, .h s_.2.1, .i s_.2.2], .h d, .i u] (.o 0 (K4 s_ d u)) := by
 refine en Qb Tryz.func17 fun w0 F0 hG => ?_
 refine sn Qb [1, 2, 3, 6] [3] (p0) ?_
 refine tn Qb [1, 2, 3, 6, 7] [3] (p0) ?_
 refine tu Qb [(6, .e 0), (7, .one (.slc (.own true 768) 1 [])), (8, .o 1088 (((Xb s_ d u)).1))] [0, 1, 2] [] [] (pc 3 (Hx s_ d u) p0) ?_
 refine Qe (sn Qb [6, 7, 8, 10] [] (p0) ?_)
 refine mz [(10, .i 0)] [] [] [] ?_
 refine wT 8 0 (.own true 1088) (((Xb s_ d u)).1) (fun hw1 hl2 => ?_)
 refine GN Az Ec (((Xb s_ d u)).1) [] (fun k0 s0 => [(7, .h s0), (10, .i ((k0 : Nat) : Int))]) [7, 10] (fun y0 => [(7, .h y0)]) [7, 8, 10] (fun k0 s0 => List.length s0 ≤ 12 * k0) (Dz [] [768] [] [] (by kernel_rfl)) (by simp) (fun k0 s0 hk0 hI0 => ?_) (fun k0 s0 hk0 hI0 => ?_) (fun y0 hD0 => ?_)
 ·
  have hA0_0 := hI0.2
  obtain ⟨a0, hx0⟩ := Xm (l := ((Xb s_ d u)).1) (i := k0) hk0
  have hsh := AH hx0
  have hl5 := LE s_ d u
  refine Qe (sn Qb [6, 7, 8, 10, 23] [] (pl 2 (((Xb s_ d u)).1) (pe 3 (Qo (decide_eq_true (p := ((k0 : Nat) : Int) < ((((Xb s_ d u)).1).length : Int)) (by omega))) p0)) ?_)
  refine ckT ?_
  refine Qh ?_
  refine Qe (Qs ?_)
  refine tn Qb [6, 7, 8, 10, 11] [] (p0) ?_
  refine mz [(11, .i 0)] [] [] [] ?_
  refine Qb3 (Ay a0) Eb (List.length a0.2) s0 (fun k1 s1 => [(7, .h s1), (11, .i ((k1 : Nat) : Int))]) [7, 11] (fun y1 => [(7, .h y1)]) [7, 11] (fun k1 s1 => List.length s1 ≤ List.length s0 + k1) (fun y1 => List.length y1 ≤ List.length s0 + List.length a0.2) (Qd (by kernel_rfl)) (by simp) (fun k1 s1 hk1 hI1 => ?_) (fun k1 s1 hk1 hI1 => ?_) (fun y1 hD1 => ?_)
  ·
   have hA1_0 := hI1.2
   refine Qe (su Qb [(33, .b true)] [] [] [] (pN 3 hx0 (pl 6 a0.2 (pe 7 (Qo (decide_eq_true (p := ((k1 : Nat) : Int) < (a0.2.length : Int)) (by omega))) p0))) ?_)
   refine ckT ?_
   refine Qh ?_
   refine Qe (Qs ?_)
   have hl4 : List.length a0.2 ≤ 1073741824 := Ao (BT (BS hx0 (hw1)))
   have hx3 := ng a0.2 k1
   refine rn Qb [6, 7, 8, 10, 11] [] (pN 3 hx0 (pn 7 hx3 (pc 9 (XD s1 (nth a0.2 k1) (by omega)) p0))) ?_
   refine qn Qb [6, 7, 8, 10, 11] [] (pe 1 (Jn (Qp k1 (by omega))) p0) ?_
   exact Exists.intro (Br s1 (nth a0.2 k1)) (And.intro (Qd (by kernel_rfl)) ⟨K0 hk1 (rfl) hI1.1, (by have hz := PG s1 (nth a0.2 k1); omega)⟩)
  ·
   have hA1_0 := hI1.2
   refine Qe (sn Qb [6, 7, 8, 10, 11, 33] [] (pN 3 hx0 (pl 6 a0.2 (pe 7 (Qo (decide_eq_false (p := ((k1 : Nat) : Int) < (a0.2.length : Int)) (by omega))) p0))) ?_)
   refine ckF ?_
   refine Q5 ?_
   exact Exists.intro s1 (And.intro (Qd (by kernel_rfl)) ⟨Bz hk1 (rfl) hI1.1, by first | omega | (simp only [List.length_set]; omega)⟩)
  have hD1_0 := hD1.2
  refine rn Qb [6, 7, 8, 10] [] (pe 1 (Jn (Qp k0 (by omega))) p0) ?_
  exact Exists.intro y1 (And.intro (Qd (by kernel_rfl)) ⟨Qx hx0 (Wc hD1.1 (rfl)) hI0.1, (by first | omega | (simp; omega))⟩)
 ·
  have hA0_0 := hI0.2
  refine Qe (sn Qb [6, 7, 8, 10, 23] [] (pl 2 (((Xb s_ d u)).1) (pe 3 (Qo (decide_eq_false (p := ((k0 : Nat) : Int) < ((((Xb s_ d u)).1).length : Int)) (by omega))) p0)) ?_)
  refine ckF ?_
  refine Q5 ?_
  exact Exists.intro _ (And.intro (Qd (by kernel_rfl)) (Xn hk0 (rfl) hI0.1))
 refine wT 7 0 .sh y0 (fun hw5 hl6 => ?_)
 refine sn Qb [6] [] (po 2 (.flat) (px (Ds (n := (([] : List (List PV)).length + ((eL y0) : List (List PV)).length)) (Gi (rfl) (Y5 y0) (by first | omega | (simp only [List.length_cons, List.length_nil]; omega) | (simp; omega) | simp))) (px (A7 (Af y0)) p0))) ?_
 refine Qg ?_
 exact po0 [] (Wc hD0 (rfl))
end Go.Proofs.YtkbfhiamdcoieaaGreatDoor
namespace Go.Proofs.YtkbfhiamdcoieaaGreatDoor
open Go.RowKit
theorem QE : ∀ (r : List Qr) (k : Nat) (a b : List Int), Gp [] a = b → ∃ m, Xp Aw Ax r k a = .brk m ∧ Xp Az Ec r k b = .brk (Gp [] m)
  | [], k, a, b, h => ⟨a, rfl, by rw [h]; rfl⟩
  | x :: r, k, a, b, h => by
    have inner : ∀ (n j : Nat) (s : List Int), j + n = x.2.length → Wd (Ay x) Eb n j s = .brk (Gp s (x.2.drop j)) := by
      intro n
      induction n with
      | zero => intro j s hj; rw [List.drop_eq_nil_of_le (by omega)]; rfl
      | succ n ih =>
        intro j s hj
        have hg : x.2[j]? = some (nth x.2 j) := K9 (by omega)
        rw [M8 hg]
        simp only [Wd, Ay, WS]
        exact ih (j + 1) _ (by omega)
    obtain ⟨m, h1, h2⟩ := QE r (k + 1) (a ++ x.2) (Gp b x.2) (by rw [EI, h])
    refine ⟨m, h1, ?_⟩
    simp only [Xp, Az]
    rw [inner x.2.length 0 b (by omega)]
    exact h2
theorem WU (s : Ql) (d : List Yd) (u : Int) : K4 s d u = Yk s d u := by
  unfold K4 Yk
  rw [Fj]
  obtain ⟨m, h1, h2⟩ := QE ((Qt s d u)).1 0 [] [] rfl
  rw [h1, h2]
  simp only [Out.on]
  exact (WT m).symm
open GoE (enc wide)
def Aj (s2_ : (List Yq)) (k0 : Nat) (a0 : Yq) (_ : Unit) : Rd (Bool) (Unit) (Unit) := (bif (!((a0.1.toList == ((nth s2_ k0).1).toList) && ((a0.2 == (nth s2_ k0).2) && true))) then (.ret false) else (.next ()))
def Ak (_ : Nat) (_ : Unit) : Unit := ()
def Wl (s1_ : (List Yq)) (s2_ : (List Yq)) : Bool := (bif ((s1_.length : Int) != (s2_.length : Int)) then false else (Out.on (Xp (Aj s2_) Ak s1_ 0 ()) (fun _ => true)))
theorem Fl (s1_ : (List Yq)) (s2_ : (List Yq)) : ACalls Tryz.prog 55 [.h s1_, .h s2_] (.b (Wl s1_ s2_)) := by
 refine en Qb Tryz.func55 fun w0 F0 hG => ?_
 refine sn Qb [0, 1, 4] [] (p0) ?_
 refine Qe (tn Qb [0, 1, 4, 10] [] (pl 1 s1_ (pl 3 s2_ p0)) ?_)
 refine ck ((s1_.length : Int) != (s2_.length : Int)) (fun h1 => ?_) (fun h1 => ?_)
 ·
  refine tu Qb [(4, .b false)] [] [] [] (p0) ?_
  refine Qg ?_
  exact pb [] (Q6 h1 (rfl))
 have h1d := J3 h1
 refine Qh ?_
 refine Qe (tu Qb [(4, .b false), (12, .i (s1_.length : Int)), (13, .i 0)] [] [] [] (pl 1 s1_ p0) ?_)
 refine wT 0 0 .sh s1_ (fun hw2 hl3 => ?_)
 refine L3 (Aj s2_) Ak s1_ () (fun k0 _ => [(13, .i ((k0 : Nat) : Int))]) [13] (fun _ => []) [0, 1, 12, 13] (Qd (by kernel_rfl)) (fun k0 s0 hk0 hI0 => ?_) (fun k0 s0 hk0 hI0 => ?_) (fun y0 hD0 => ?_)
 ·
  obtain ⟨a0, hx0⟩ := Xm (l := s1_) (i := k0) hk0
  refine su Qb [(14, .b true)] [] [] [] (pe 0 (Qo (decide_eq_true (p := ((k0 : Nat) : Int) < (s1_.length : Int)) (by omega))) p0) ?_
  refine Qe (ckT ?_)
  refine Qh ?_
  refine Qe (Qs ?_)
  refine sn Qb [0, 1, 4, 5, 12, 13] [] (p0) ?_
  refine wT 1 0 .sh s2_ (fun hw5 hl6 => ?_)
  have hx4 := ng s2_ k0
  refine tN Qb Yo [0, 1, 4, 12, 13, 24] [] (pn 2 hx0 (pn 6 hx4 p0)) ?_
  refine ck (!((a0.1.toList == ((nth s2_ k0).1).toList) && ((a0.2 == (nth s2_ k0).2) && true))) (fun h7 => ?_) (fun h7 => ?_)
  ·
   refine tu Qb [] [14] [] [] (p0) ?_
   refine Qg ?_
   have hr8 : (Xp (Aj s2_) Ak s1_ 0 ()) = .ret false := Zx hx0 (Q6 h7 (rfl)) hI0
   exact pb [] (Qm h1 (Iq hr8))
  have h7n : ((a0.1.toList == ((nth s2_ k0).1).toList) && ((a0.2 == (nth s2_ k0).2) && true)) = true := Ze h7
  have h7nr : (((a0.2 == (nth s2_ k0).2) && true)) = true := Pv h7n
  have h7nrl : ((a0.2 == (nth s2_ k0).2)) = true := M9 h7nr
  have h7nrld := eq_of_beq h7nrl
  refine Qh ?_
  refine qu Qb [(13, .i ((k0 + 1 : Nat) : Int))] [13, 14] [] [] (pe 0 (Jn (Qp k0 (by omega))) p0) ?_
  exact Exists.intro _ (And.intro (Qd (by kernel_rfl)) (Qx hx0 (Qm h7 (rfl)) hI0))
 ·
  refine sn Qb [0, 1, 4, 12, 13, 14] [] (pe 0 (Qo (decide_eq_false (p := ((k0 : Nat) : Int) < (s1_.length : Int)) (by omega))) p0) ?_
  refine Qe (ckF ?_)
  refine Q5 ?_
  exact Exists.intro _ (And.intro (Qd (by kernel_rfl)) (Xn hk0 (rfl) hI0))
 refine sn Qb [4] [] (p0) ?_
 refine Qg ?_
 exact pb [] (Qm h1 (Wc hD0 (rfl)))
def Bk (s2_ : (List Uc)) (k0 : Nat) (a0 : Uc) (_ : Unit) : Rd (Bool) (Unit) (Unit) := (bif (!((a0.1.toList == ((nth s2_ k0).1).toList) && ((a0.2.1 == (nth s2_ k0).2.1) && ((a0.2.2.1 == (nth s2_ k0).2.2.1) && ((a0.2.2.2.toList == ((nth s2_ k0).2.2.2).toList) && true))))) then (.ret false) else (.next ()))
def Bl (_ : Nat) (_ : Unit) : Unit := ()
def Uy (s1_ : (List Uc)) (s2_ : (List Uc)) : Bool := (bif ((s1_.length : Int) != (s2_.length : Int)) then false else (Out.on (Xp (Bk s2_) Bl s1_ 0 ()) (fun _ => true)))
theorem O6 (s1_ : (List Uc)) (s2_ : (List Uc)) : ACalls Tryz.prog 94 [.h s1_, .h s2_] (.b (Uy s1_ s2_)) := by
 refine en Qb Tryz.func94 fun w0 F0 hG => ?_
 refine sn Qb [0, 1, 4] [] (p0) ?_
 refine Qe (tn Qb [0, 1, 4, 10] [] (pl 1 s1_ (pl 3 s2_ p0)) ?_)
 refine ck ((s1_.length : Int) != (s2_.length : Int)) (fun h1 => ?_) (fun h1 => ?_)
 ·
  refine tu Qb [(4, .b false)] [] [] [] (p0) ?_
  refine Qg ?_
  exact pb [] (Q6 h1 (rfl))
 have h1d := J3 h1
 refine Qh ?_
 refine Qe (tu Qb [(4, .b false), (12, .i (s1_.length : Int)), (13, .i 0)] [] [] [] (pl 1 s1_ p0) ?_)
 refine wT 0 0 .sh s1_ (fun hw2 hl3 => ?_)
 refine L3 (Bk s2_) Bl s1_ () (fun k0 _ => [(13, .i ((k0 : Nat) : Int))]) [13] (fun _ => []) [0, 1, 12, 13] (Qd (by kernel_rfl)) (fun k0 s0 hk0 hI0 => ?_) (fun k0 s0 hk0 hI0 => ?_) (fun y0 hD0 => ?_)
 ·
  obtain ⟨a0, hx0⟩ := Xm (l := s1_) (i := k0) hk0
  refine su Qb [(14, .b true)] [] [] [] (pe 0 (Qo (decide_eq_true (p := ((k0 : Nat) : Int) < (s1_.length : Int)) (by omega))) p0) ?_
  refine Qe (ckT ?_)
  refine Qh ?_
  refine Qe (Qs ?_)
  refine sn Qb [0, 1, 4, 5, 12, 13] [] (p0) ?_
  refine wT 1 0 .sh s2_ (fun hw5 hl6 => ?_)
  have hx4 := ng s2_ k0
  refine tN Qb Yo [0, 1, 4, 12, 13, 24] [] (pn 2 hx0 (pn 6 hx4 p0)) ?_
  refine ck (!((a0.1.toList == ((nth s2_ k0).1).toList) && ((a0.2.1 == (nth s2_ k0).2.1) && ((a0.2.2.1 == (nth s2_ k0).2.2.1) && ((a0.2.2.2.toList == ((nth s2_ k0).2.2.2).toList) && true))))) (fun h7 => ?_) (fun h7 => ?_)
  ·
   refine tu Qb [] [14] [] [] (p0) ?_
   refine Qg ?_
   have hr8 : (Xp (Bk s2_) Bl s1_ 0 ()) = .ret false := Zx hx0 (Q6 h7 (rfl)) hI0
   exact pb [] (Qm h1 (Iq hr8))
  have h7n : ((a0.1.toList == ((nth s2_ k0).1).toList) && ((a0.2.1 == (nth s2_ k0).2.1) && ((a0.2.2.1 == (nth s2_ k0).2.2.1) && ((a0.2.2.2.toList == ((nth s2_ k0).2.2.2).toList) && true)))) = true := Ze h7
  have h7nr : (((a0.2.1 == (nth s2_ k0).2.1) && ((a0.2.2.1 == (nth s2_ k0).2.2.1) && ((a0.2.2.2.toList == ((nth s2_ k0).2.2.2).toList) && true)))) = true := Pv h7n
  have h7nrl : ((a0.2.1 == (nth s2_ k0).2.1)) = true := M9 h7nr
  have h7nrld := eq_of_beq h7nrl
  have h7nrr : (((a0.2.2.1 == (nth s2_ k0).2.2.1) && ((a0.2.2.2.toList == ((nth s2_ k0).2.2.2).toList) && true))) = true := Pv h7nr
  have h7nrrl : ((a0.2.2.1 == (nth s2_ k0).2.2.1)) = true := M9 h7nrr
  have h7nrrld := eq_of_beq h7nrrl
  refine Qh ?_
  refine qu Qb [(13, .i ((k0 + 1 : Nat) : Int))] [13, 14] [] [] (pe 0 (Jn (Qp k0 (by omega))) p0) ?_
  exact Exists.intro _ (And.intro (Qd (by kernel_rfl)) (Qx hx0 (Qm h7 (rfl)) hI0))
 ·
  refine sn Qb [0, 1, 4, 12, 13, 14] [] (pe 0 (Qo (decide_eq_false (p := ((k0 : Nat) : Int) < (s1_.length : Int)) (by omega))) p0) ?_
  refine Qe (ckF ?_)
  refine Q5 ?_
  exact Exists.intro _ (And.intro (Qd (by kernel_rfl)) (Xn hk0 (rfl) hI0))
 refine sn Qb [4] [] (p0) ?_
 refine Qg ?_
 exact pb [] (Qm h1 (Wc hD0 (rfl)))
def Wf (a_ : Q9) (b : Q9) : Bool := ((a_.1 == b.1) && ((a_.2.1 == b.2.1) && ((a_.2.2.1 == b.2.2.1) && ((a_.2.2.2.1 == b.2.2.2.1) && (Uy a_.2.2.2.2 b.2.2.2.2)))))
theorem R1 (a_ : Q9) (b : Q9) : ACalls Tryz.prog 57 [.a [.i a_.1, .i a_.2.1, .b a_.2.2.1, .i a_.2.2.2.1, .h a_.2.2.2.2], .a [.i b.1, .i b.2.1, .b b.2.2.1, .i b.2.2.2.1, .h b.2.2.2.2]] (.b (Wf a_ b)) := by
 refine en Qb Tryz.func57 fun w0 F0 hG => ?_
 refine sn Qb [2, 3, 4] [2, 3] (p0) ?_
 refine Qe (mz [(2, .p 2 0), (3, .p 3 0), (4, .b false)] [0, 1] [(2, [.i a_.1, .i a_.2.1, .b a_.2.2.1, .i a_.2.2.2.1, .h a_.2.2.2.2]), (3, [.i b.1, .i b.2.1, .b b.2.2.1, .i b.2.2.2.1, .h b.2.2.2.2])] [] ?_)
 refine jn [(4, .b ((a_.1 == b.1) && ((a_.2.1 == b.2.1) && ((a_.2.2.1 == b.2.2.1) && ((a_.2.2.2.1 == b.2.2.2.1) && (Uy a_.2.2.2.2 b.2.2.2.2))))))] [2, 3, 4] [] [2, 3] (a_.1 == b.1) (fun h1 => ?_) (fun h1 => ?_) ?_
 ·
  refine Xl (a_.2.1 == b.2.1) (fun h2 => ?_) (fun h2 => ?_)
  ·
   refine Xl (a_.2.2.1 == b.2.2.1) (fun h3 => ?_) (fun h3 => ?_)
   ·
    refine Xl (a_.2.2.2.1 == b.2.2.2.1) (fun h4 => ?_) (fun h4 => ?_)
    ·
     refine rn Qb [4] [] (pt 4 h1 (pt 10 h2 (pt 17 h3 (pt 24 h4 (pc 31 (O6 a_.2.2.2.2 b.2.2.2.2) p0))))) ?_
     exact ⟨rfl, Qd (by rw [h1, h2, h3, h4]; first | done | kernel_rfl)⟩
    refine rn Qb [4] [] (pt 4 h1 (pt 10 h2 (pt 17 h3 (pf 24 h4 p0)))) ?_
    exact ⟨rfl, Qd (by rw [h1, h2, h3, h4]; first | done | kernel_rfl)⟩
   refine rn Qb [4] [] (pt 4 h1 (pt 10 h2 (pf 17 h3 p0))) ?_
   exact ⟨rfl, Qd (by rw [h1, h2, h3]; first | done | kernel_rfl)⟩
  refine rn Qb [4] [] (pt 4 h1 (pf 10 h2 p0)) ?_
  exact ⟨rfl, Qd (by rw [h1, h2]; first | done | kernel_rfl)⟩
 ·
  refine rn Qb [4] [] (pf 4 h1 p0) ?_
  exact ⟨rfl, Qd (by rw [h1]; first | done | kernel_rfl)⟩
 refine Qg ?_
 exact pb [] (show Wf a_ b = ((a_.1 == b.1) && ((a_.2.1 == b.2.1) && ((a_.2.2.1 == b.2.2.1) && ((a_.2.2.2.1 == b.2.2.2.1) && (Uy a_.2.2.2.2 b.2.2.2.2))))) from rfl)
def Kd (s2_ : (List Q9)) (k0 : Nat) (a0 : Q9) (_ : Unit) : Rd (Bool) (Unit) (Unit) := (bif (!(Wf a0 (nth s2_ k0))) then (.ret false) else (.next ()))
def Ke (_ : Nat) (_ : Unit) : Unit := ()
def Zj (s1_ : (List Q9)) (s2_ : (List Q9)) : Bool := (bif ((s1_.length : Int) != (s2_.length : Int)) then false else (Out.on (Xp (Kd s2_) Ke s1_ 0 ()) (fun _ => true)))
theorem Al (s1_ : (List Q9)) (s2_ : (List Q9)) : ACalls Tryz.prog 56 [.h s1_, .h s2_, .one (.fnr 57 [])] (.b (Zj s1_ s2_)) := by
 refine en Qb Tryz.func56 fun w0 F0 hG => ?_
 refine sn Qb [0, 1, 2, 6] [] (p0) ?_
 refine Qe (tn Qb [0, 1, 2, 6, 14] [] (pl 1 s1_ (pl 3 s2_ p0)) ?_)
 refine ck ((s1_.length : Int) != (s2_.length : Int)) (fun h1 => ?_) (fun h1 => ?_)
 ·
  refine tu Qb [(6, .b false)] [] [] [] (p0) ?_
  refine Qg ?_
  exact pb [] (Q6 h1 (rfl))
 have h1d := J3 h1
 refine Qh ?_
 refine Qe (tu Qb [(6, .b false), (15, .h s1_), (16, .i (s1_.length : Int)), (17, .i 0)] [0] [] [] (pl 1 s1_ p0) ?_)
 refine wT 15 0 .sh s1_ (fun hw2 hl3 => ?_)
 refine L3 (Kd s2_) Ke s1_ () (fun k0 _ => [(17, .i ((k0 : Nat) : Int))]) [17] (fun _ => []) [1, 2, 15, 16, 17] (Qd (by kernel_rfl)) (fun k0 s0 hk0 hI0 => ?_) (fun k0 s0 hk0 hI0 => ?_) (fun y0 hD0 => ?_)
 ·
  obtain ⟨a0, hx0⟩ := Xm (l := s1_) (i := k0) hk0
  refine su Qb [(18, .b true)] [] [] [] (pe 0 (Qo (decide_eq_true (p := ((k0 : Nat) : Int) < (s1_.length : Int)) (by omega))) p0) ?_
  refine Qe (ckT ?_)
  refine Qh ?_
  refine Qe (Qs ?_)
  refine sn Qb [1, 2, 6, 7, 8, 15, 16, 17] [8] (pn 1 hx0 p0) ?_
  refine wT 1 0 .sh s2_ (fun hw5 hl6 => ?_)
  have hx4 := ng s2_ k0
  refine tn Qb [1, 2, 6, 8, 9, 15, 16, 17] [8, 9] (pn 2 hx4 p0) ?_
  refine tu Qb [(30, .b (!(Wf a0 (nth s2_ k0))))] [18] [] [] (pc 3 (R1 a0 (nth s2_ k0)) p0) ?_
  refine ck (!(Wf a0 (nth s2_ k0))) (fun h7 => ?_) (fun h7 => ?_)
  ·
   refine su Qb [] [30] [] [] (p0) ?_
   refine Qg ?_
   have hr8 : (Xp (Kd s2_) Ke s1_ 0 ()) = .ret false := Zx hx0 (Q6 h7 (rfl)) hI0
   exact pb [] (Qm h1 (Iq hr8))
  refine Qh ?_
  refine rn Qb [1, 2, 6, 15, 16, 17] [] (pe 0 (Jn (Qp k0 (by omega))) p0) ?_
  exact Exists.intro _ (And.intro (Qd (by kernel_rfl)) (Qx hx0 (Qm h7 (rfl)) hI0))
 ·
  refine su Qb [(18, .b false)] [] [] [] (pe 0 (Qo (decide_eq_false (p := ((k0 : Nat) : Int) < (s1_.length : Int)) (by omega))) p0) ?_
  refine Qe (ckF ?_)
  refine Q5 ?_
  exact Exists.intro _ (And.intro (Qd (by kernel_rfl)) (Xn hk0 (rfl) hI0))
 refine sn Qb [6] [] (p0) ?_
 refine Qg ?_
 exact pb [] (Qm h1 (Wc hD0 (rfl)))
def Jd (a_ : Ql) (b : Ql) (user : Int) : Bool := ((Wl ((Qi a_ user).1) ((Qi b user).1)) && (Zj ((Qi a_ user).2.1) ((Qi b user).2.1)))
theorem O7 (a_ : Ql) (b : Ql) (user : Int) : ACalls Tryz.prog 27 [.a [.h a_.1, .h a_.2.1, .i a_.2.2], .a [.h b.1, .h b.2.1, .i b.2.2], .i user] (.b (Jd a_ b user)) := by
 refine en Qb Tryz.func27 fun w0 F0 hG => ?_
 refine sn Qb [2, 3, 4, 6] [3, 4] (p0) ?_
 refine tN Qb Yo [6, 7, 8] [7, 8] (pc 2 (Hd a_ user) (pc 5 (Hd b user) p0)) ?_
 refine Qe (mz [(6, .b false), (7, .p 7 0), (8, .p 8 0)] [0, 1, 2] [(7, [.o 704 ((Qi a_ user).1), .o 705 ((Qi a_ user).2.1), .i ((Qi a_ user).2.2)]), (8, [.o 896 ((Qi b user).1), .o 897 ((Qi b user).2.1), .i ((Qi b user).2.2)])] [] ?_)
 refine jn [(6, .b ((Wl ((Qi a_ user).1) ((Qi b user).1)) && (Zj ((Qi a_ user).2.1) ((Qi b user).2.1))))] [6, 7, 8] [] [7, 8] (Wl ((Qi a_ user).1) ((Qi b user).1)) (fun h1 => ?_) (fun h1 => ?_) ?_
 ·
  refine rn Qb [6] [] (pc 4 (cb h1 (Fl ((Qi a_ user).1) ((Qi b user).1))) (pc 10 (Al ((Qi a_ user).2.1) ((Qi b user).2.1)) p0)) ?_
  exact ⟨rfl, Qd (by rw [h1]; first | done | kernel_rfl)⟩
 ·
  refine rn Qb [6] [] (pc 4 (cb h1 (Fl ((Qi a_ user).1) ((Qi b user).1))) p0) ?_
  exact ⟨rfl, Qd (by rw [h1]; first | done | kernel_rfl)⟩
 refine Qg ?_
 exact pb [] (show Jd a_ b user = ((Wl ((Qi a_ user).1) ((Qi b user).1)) && (Zj ((Qi a_ user).2.1) ((Qi b user).2.1))) from rfl)
def Ed (b : (List Yq)) (k0 : Nat) (a0 : Yq) (_ : Unit) : Rd (Bool) (Unit) (Unit) := (bif (!((a0.1.toList == ((nth b k0).1).toList) && ((a0.2 == (nth b k0).2) && true))) then (.ret false) else (.next ()))
def Ee (_ : Nat) (_ : Unit) : Unit := ()
def Vq (a_ : (List Yq)) (b : (List Yq)) : Bool := (bif ((a_.length : Int) != (b.length : Int)) then false else (Out.on (Xp (Ed b) Ee a_ 0 ()) (fun _ => true)))
theorem Fm (a_ : (List Yq)) (b : (List Yq)) : ACalls Tryz.prog 68 [.h a_, .h b] (.b (Vq a_ b)) := by
 refine en Qb Tryz.func68 fun w0 F0 hG => ?_
 refine sn Qb [0, 1, 4] [] (p0) ?_
 refine Qe (tn Qb [0, 1, 4, 10] [] (pl 1 a_ (pl 3 b p0)) ?_)
 refine ck ((a_.length : Int) != (b.length : Int)) (fun h1 => ?_) (fun h1 => ?_)
 ·
  refine tu Qb [(4, .b false)] [] [] [] (p0) ?_
  refine Qg ?_
  exact pb [] (Q6 h1 (rfl))
 have h1d := J3 h1
 refine Qh ?_
 refine Qe (tu Qb [(4, .b false), (5, .i 0)] [] [] [] (p0) ?_)
 refine wT 0 0 .sh a_ (fun hw2 hl3 => ?_)
 refine L3 (Ed b) Ee a_ () (fun k0 _ => [(5, .i ((k0 : Nat) : Int))]) [5] (fun _ => []) [0, 1, 5] (Qd (by kernel_rfl)) (fun k0 s0 hk0 hI0 => ?_) (fun k0 s0 hk0 hI0 => ?_) (fun y0 hD0 => ?_)
 ·
  obtain ⟨a0, hx0⟩ := Xm (l := a_) (i := k0) hk0
  refine Qe (sn Qb [0, 1, 4, 5, 14] [] (pl 2 a_ (pe 3 (Qo (decide_eq_true (p := ((k0 : Nat) : Int) < (a_.length : Int)) (by omega))) p0)) ?_)
  refine ckT ?_
  refine Qh ?_
  refine Qe (Qs ?_)
  refine wT 1 0 .sh b (fun hw5 hl6 => ?_)
  have hx4 := ng b k0
  refine tN Qb Yo [0, 1, 4, 5, 25] [] (pn 2 hx0 (pn 6 hx4 p0)) ?_
  refine ck (!((a0.1.toList == ((nth b k0).1).toList) && ((a0.2 == (nth b k0).2) && true))) (fun h7 => ?_) (fun h7 => ?_)
  ·
   refine tu Qb [] [] [] [] (p0) ?_
   refine Qg ?_
   have hr8 : (Xp (Ed b) Ee a_ 0 ()) = .ret false := Zx hx0 (Q6 h7 (rfl)) hI0
   exact pb [] (Qm h1 (Iq hr8))
  have h7n : ((a0.1.toList == ((nth b k0).1).toList) && ((a0.2 == (nth b k0).2) && true)) = true := Ze h7
  have h7nr : (((a0.2 == (nth b k0).2) && true)) = true := Pv h7n
  have h7nrl : ((a0.2 == (nth b k0).2)) = true := M9 h7nr
  have h7nrld := eq_of_beq h7nrl
  refine Qh ?_
  refine qu Qb [(5, .i ((k0 + 1 : Nat) : Int))] [5] [] [] (pe 1 (Jn (Qp k0 (by omega))) p0) ?_
  exact Exists.intro _ (And.intro (Qd (by kernel_rfl)) (Qx hx0 (Qm h7 (rfl)) hI0))
 ·
  refine Qe (sn Qb [0, 1, 4, 5, 14] [] (pl 2 a_ (pe 3 (Qo (decide_eq_false (p := ((k0 : Nat) : Int) < (a_.length : Int)) (by omega))) p0)) ?_)
  refine ckF ?_
  refine Q5 ?_
  exact Exists.intro _ (And.intro (Qd (by kernel_rfl)) (Xn hk0 (rfl) hI0))
 refine sn Qb [4] [] (p0) ?_
 refine Qg ?_
 exact pb [] (Qm h1 (Wc hD0 (rfl)))
def Aa (b : Q9) (k0 : Nat) (a0 : Uc) (_ : Unit) : Rd (Bool) (Unit) (Unit) := (bif (!((a0.1.toList == ((nth b.2.2.2.2 k0).1).toList) && ((a0.2.1 == (nth b.2.2.2.2 k0).2.1) && ((a0.2.2.1 == (nth b.2.2.2.2 k0).2.2.1) && ((a0.2.2.2.toList == ((nth b.2.2.2.2 k0).2.2.2).toList) && true))))) then (.ret false) else (.next ()))
def Ab (_ : Nat) (_ : Unit) : Unit := ()
def U2 (a_ : Q9) (b : Q9) : Bool := (bif ((a_.1 != b.1) || ((a_.2.1 != b.2.1) || ((!(a_.2.2.1 == b.2.2.1)) || ((a_.2.2.2.1 != b.2.2.2.1) || ((a_.2.2.2.2.length : Int) != (b.2.2.2.2.length : Int)))))) then false else (Out.on (Xp (Aa b) Ab a_.2.2.2.2 0 ()) (fun _ => true)))
theorem R2 (a_ : Q9) (b : Q9) : ACalls Tryz.prog 69 [.a [.i a_.1, .i a_.2.1, .b a_.2.2.1, .i a_.2.2.2.1, .h a_.2.2.2.2], .a [.i b.1, .i b.2.1, .b b.2.2.1, .i b.2.2.2.1, .h b.2.2.2.2]] (.b (U2 a_ b)) := by
 refine en Qb Tryz.func69 fun w0 F0 hG => ?_
 refine sn Qb [2, 3, 4] [2, 3] (p0) ?_
 refine Qe (Qe (mz [(2, .p 2 0), (3, .p 3 0), (4, .b false)] [0, 1] [(2, [.i a_.1, .i a_.2.1, .b a_.2.2.1, .i a_.2.2.2.1, .h a_.2.2.2.2]), (3, [.i b.1, .i b.2.1, .b b.2.2.1, .i b.2.2.2.1, .h b.2.2.2.2])] [] ?_))
 refine jn [(40, .b ((a_.1 != b.1) || ((a_.2.1 != b.2.1) || ((!(a_.2.2.1 == b.2.2.1)) || ((a_.2.2.2.1 != b.2.2.2.1) || ((a_.2.2.2.2.length : Int) != (b.2.2.2.2.length : Int)))))))] [] [] [] (a_.1 != b.1) (fun h1 => ?_) (fun h1 => ?_) ?_
 ·
  refine rn Qb [2, 3, 4, 40] [2, 3] (pt 4 h1 p0) ?_
  exact ⟨rfl, Qd (by rw [h1]; first | done | kernel_rfl)⟩
 ·
  refine Xl (a_.2.1 != b.2.1) (fun h2 => ?_) (fun h2 => ?_)
  ·
   refine rn Qb [2, 3, 4, 40] [2, 3] (pf 4 h1 (pt 10 h2 p0)) ?_
   exact ⟨rfl, Qd (by rw [h1, h2]; first | done | kernel_rfl)⟩
  refine Xl (!(a_.2.2.1 == b.2.2.1)) (fun h3 => ?_) (fun h3 => ?_)
  ·
   refine rn Qb [2, 3, 4, 40] [2, 3] (pf 4 h1 (pf 10 h2 (pt 17 h3 p0))) ?_
   exact ⟨rfl, Qd (by rw [h1, h2, h3]; first | done | kernel_rfl)⟩
  refine Xl (a_.2.2.2.1 != b.2.2.2.1) (fun h4 => ?_) (fun h4 => ?_)
  ·
   refine rn Qb [2, 3, 4, 40] [2, 3] (pf 4 h1 (pf 10 h2 (pf 17 h3 (pt 24 h4 p0)))) ?_
   exact ⟨rfl, Qd (by rw [h1, h2, h3, h4]; first | done | kernel_rfl)⟩
  refine rn Qb [2, 3, 4, 40] [2, 3] (pf 4 h1 (pf 10 h2 (pf 17 h3 (pf 24 h4 (pl 29 a_.2.2.2.2 (pl 32 b.2.2.2.2 p0)))))) ?_
  exact ⟨rfl, Qd (by rw [h1, h2, h3, h4]; first | done | kernel_rfl)⟩
 refine ck ((a_.1 != b.1) || ((a_.2.1 != b.2.1) || ((!(a_.2.2.1 == b.2.2.1)) || ((a_.2.2.2.1 != b.2.2.2.1) || ((a_.2.2.2.2.length : Int) != (b.2.2.2.2.length : Int)))))) (fun h5 => ?_) (fun h5 => ?_)
 ·
  refine su Qb [] [40] [] [] (p0) ?_
  refine Qg ?_
  exact pb [] (Q6 h5 (rfl))
 have h5l : ((a_.1 != b.1)) = false := Pw h5
 have h5ld := J3 h5l
 have h5r : (((a_.2.1 != b.2.1) || ((!(a_.2.2.1 == b.2.2.1)) || ((a_.2.2.2.1 != b.2.2.2.1) || ((a_.2.2.2.2.length : Int) != (b.2.2.2.2.length : Int)))))) = false := Px h5
 have h5rl : ((a_.2.1 != b.2.1)) = false := Pw h5r
 have h5rld := J3 h5rl
 have h5rr : (((!(a_.2.2.1 == b.2.2.1)) || ((a_.2.2.2.1 != b.2.2.2.1) || ((a_.2.2.2.2.length : Int) != (b.2.2.2.2.length : Int))))) = false := Px h5r
 have h5rrl : ((!(a_.2.2.1 == b.2.2.1))) = false := Pw h5rr
 have h5rrln : (a_.2.2.1 == b.2.2.1) = true := Ze h5rrl
 have h5rrlnd := eq_of_beq h5rrln
 have h5rrr : (((a_.2.2.2.1 != b.2.2.2.1) || ((a_.2.2.2.2.length : Int) != (b.2.2.2.2.length : Int)))) = false := Px h5rr
 have h5rrrl : ((a_.2.2.2.1 != b.2.2.2.1)) = false := Pw h5rrr
 have h5rrrld := J3 h5rrrl
 have h5rrrr : (((a_.2.2.2.2.length : Int) != (b.2.2.2.2.length : Int))) = false := Px h5rrr
 have h5rrrrd := J3 h5rrrr
 refine Qh ?_
 refine Qe (sn Qb [2, 3, 4, 5] [2, 3] (p0) ?_)
 refine mz [(5, .i 0)] [40] [] [] ?_
 refine wB 2 4 .sh a_.2.2.2.2 (fun hw6 hl7 => ?_)
 refine GO (Aa b) Ab a_.2.2.2.2 () (fun k0 _ => [(5, .i ((k0 : Nat) : Int))]) [5] (fun _ _ => []) [] (fun _ => []) [2, 3, 5] (fun _ => []) [2, 3] (Qd (by kernel_rfl)) (fun k0 s0 hk0 hI0 => ?_) (fun k0 s0 hk0 hI0 => ?_) (fun y0 hD0 => ?_)
 ·
  obtain ⟨a0, hx0⟩ := Xm (l := a_.2.2.2.2) (i := k0) hk0
  refine Qe (sn Qb [2, 3, 4, 5, 45] [2, 3] (pl 3 a_.2.2.2.2 (pe 4 (Qo (decide_eq_true (p := ((k0 : Nat) : Int) < (a_.2.2.2.2.length : Int)) (by omega))) p0)) ?_)
  refine ckT ?_
  refine Qh ?_
  refine Qe (Qs ?_)
  refine wB 3 4 .sh b.2.2.2.2 (fun hw9 hl10 => ?_)
  have hx8 := ng b.2.2.2.2 k0
  refine tN Qb Yo [2, 3, 4, 5, 58] [2, 3] (pn 3 hx0 (pn 8 hx8 p0)) ?_
  refine ck (!((a0.1.toList == ((nth b.2.2.2.2 k0).1).toList) && ((a0.2.1 == (nth b.2.2.2.2 k0).2.1) && ((a0.2.2.1 == (nth b.2.2.2.2 k0).2.2.1) && ((a0.2.2.2.toList == ((nth b.2.2.2.2 k0).2.2.2).toList) && true))))) (fun h11 => ?_) (fun h11 => ?_)
  ·
   refine tu Qb [] [] [] [] (p0) ?_
   refine Qg ?_
   have hr12 : (Xp (Aa b) Ab a_.2.2.2.2 0 ()) = .ret false := Zx hx0 (Q6 h11 (rfl)) hI0
   exact pb [] (Qm h5 (Iq hr12))
  have h11n : ((a0.1.toList == ((nth b.2.2.2.2 k0).1).toList) && ((a0.2.1 == (nth b.2.2.2.2 k0).2.1) && ((a0.2.2.1 == (nth b.2.2.2.2 k0).2.2.1) && ((a0.2.2.2.toList == ((nth b.2.2.2.2 k0).2.2.2).toList) && true)))) = true := Ze h11
  have h11nr : (((a0.2.1 == (nth b.2.2.2.2 k0).2.1) && ((a0.2.2.1 == (nth b.2.2.2.2 k0).2.2.1) && ((a0.2.2.2.toList == ((nth b.2.2.2.2 k0).2.2.2).toList) && true)))) = true := Pv h11n
  have h11nrl : ((a0.2.1 == (nth b.2.2.2.2 k0).2.1)) = true := M9 h11nr
  have h11nrld := eq_of_beq h11nrl
  have h11nrr : (((a0.2.2.1 == (nth b.2.2.2.2 k0).2.2.1) && ((a0.2.2.2.toList == ((nth b.2.2.2.2 k0).2.2.2).toList) && true))) = true := Pv h11nr
  have h11nrrl : ((a0.2.2.1 == (nth b.2.2.2.2 k0).2.2.1)) = true := M9 h11nrr
  have h11nrrld := eq_of_beq h11nrrl
  refine Qh ?_
  refine qu Qb [(5, .i ((k0 + 1 : Nat) : Int))] [5] [] [] (pe 1 (Jn (Qp k0 (by omega))) p0) ?_
  exact Exists.intro _ (And.intro (Qd (by kernel_rfl)) (Qx hx0 (Qm h11 (rfl)) hI0))
 ·
  refine Qe (sn Qb [2, 3, 4, 5, 45] [2, 3] (pl 3 a_.2.2.2.2 (pe 4 (Qo (decide_eq_false (p := ((k0 : Nat) : Int) < (a_.2.2.2.2.length : Int)) (by omega))) p0)) ?_)
  refine ckF ?_
  refine Q5 ?_
  exact Exists.intro _ (And.intro (Qd (by kernel_rfl)) (Xn hk0 (rfl) hI0))
 refine sn Qb [4] [] (p0) ?_
 refine Qg ?_
 exact pb [] (Qm h5 (Wc hD0 (rfl)))
def Hg (b : Ql) (k0 : Nat) (a0 : Q9) (_ : Unit) : Rd (Bool) (Unit) (Unit) := (bif (!(U2 a0 (nth b.2.1 k0))) then (.ret false) else (.next ()))
def Hh (_ : Nat) (_ : Unit) : Unit := ()
def Hy (a_ : Ql) (b : Ql) : Bool := (bif ((!(Vq a_.1 b.1)) || ((a_.2.2 != b.2.2) || ((a_.2.1.length : Int) != (b.2.1.length : Int)))) then false else (Out.on (Xp (Hg b) Hh a_.2.1 0 ()) (fun _ => true)))
theorem Re (a_ : Ql) (b : Ql) : ACalls Tryz.prog 43 [.a [.h a_.1, .h a_.2.1, .i a_.2.2], .a [.h b.1, .h b.2.1, .i b.2.2]] (.b (Hy a_ b)) := by
 refine en Qb Tryz.func43 fun w0 F0 hG => ?_
 refine sn Qb [2, 3, 4] [2, 3] (p0) ?_
 refine Qe (Qe (mz [(2, .p 2 0), (3, .p 3 0), (4, .b false)] [0, 1] [(2, [.h a_.1, .h a_.2.1, .i a_.2.2]), (3, [.h b.1, .h b.2.1, .i b.2.2])] [] ?_))
 refine jn [(27, .b ((!(Vq a_.1 b.1)) || ((a_.2.2 != b.2.2) || ((a_.2.1.length : Int) != (b.2.1.length : Int)))))] [] [] [] (!(Vq a_.1 b.1)) (fun h1 => ?_) (fun h1 => ?_) ?_
 ·
  have h1n : (Vq a_.1 b.1) = false := Vr h1
  refine rn Qb [2, 3, 4, 27] [2, 3] (pc 4 (cb h1n (Fm a_.1 b.1)) (pe 5 (show .b (!false) = .b true from rfl) p0)) ?_
  exact ⟨rfl, Qd (by rw [h1]; first | done | kernel_rfl)⟩
 ·
  have h1n : (Vq a_.1 b.1) = true := Ze h1
  refine Xl (a_.2.2 != b.2.2) (fun h2 => ?_) (fun h2 => ?_)
  ·
   refine rn Qb [2, 3, 4, 27] [2, 3] (pc 4 (cb h1n (Fm a_.1 b.1)) (pe 5 (show .b (!true) = .b false from rfl) (pt 11 h2 p0))) ?_
   exact ⟨rfl, Qd (by rw [h1, h2]; first | done | kernel_rfl)⟩
  refine rn Qb [2, 3, 4, 27] [2, 3] (pc 4 (cb h1n (Fm a_.1 b.1)) (pe 5 (show .b (!true) = .b false from rfl) (pf 11 h2 (pl 16 a_.2.1 (pl 19 b.2.1 p0))))) ?_
  exact ⟨rfl, Qd (by rw [h1, h2]; first | done | kernel_rfl)⟩
 refine ck ((!(Vq a_.1 b.1)) || ((a_.2.2 != b.2.2) || ((a_.2.1.length : Int) != (b.2.1.length : Int)))) (fun h3 => ?_) (fun h3 => ?_)
 ·
  refine su Qb [] [27] [] [] (p0) ?_
  refine Qg ?_
  exact pb [] (Q6 h3 (rfl))
 have h3r : (((a_.2.2 != b.2.2) || ((a_.2.1.length : Int) != (b.2.1.length : Int)))) = false := Px h3
 have h3rl : ((a_.2.2 != b.2.2)) = false := Pw h3r
 have h3rld := J3 h3rl
 have h3rr : (((a_.2.1.length : Int) != (b.2.1.length : Int))) = false := Px h3r
 have h3rrd := J3 h3rr
 refine Qh ?_
 refine Qe (sn Qb [2, 3, 4, 5] [2, 3] (p0) ?_)
 refine mz [(5, .i 0)] [27] [] [] ?_
 refine wB 2 1 .sh a_.2.1 (fun hw4 hl5 => ?_)
 refine GO (Hg b) Hh a_.2.1 () (fun k0 _ => [(5, .i ((k0 : Nat) : Int))]) [5] (fun _ _ => []) [] (fun _ => []) [2, 3, 5] (fun _ => []) [2, 3] (Qd (by kernel_rfl)) (fun k0 s0 hk0 hI0 => ?_) (fun k0 s0 hk0 hI0 => ?_) (fun y0 hD0 => ?_)
 ·
  obtain ⟨a0, hx0⟩ := Xm (l := a_.2.1) (i := k0) hk0
  refine Qe (sn Qb [2, 3, 4, 5, 32] [2, 3] (pl 3 a_.2.1 (pe 4 (Qo (decide_eq_true (p := ((k0 : Nat) : Int) < (a_.2.1.length : Int)) (by omega))) p0)) ?_)
  refine ckT ?_
  refine Qh ?_
  refine Qe (Qs ?_)
  refine wB 3 1 .sh b.2.1 (fun hw7 hl8 => ?_)
  have hx6 := ng b.2.1 k0
  refine tN Qb Yo [2, 3, 4, 5, 46] [2, 3] (pn 3 hx0 (pn 8 hx6 (pc 10 (R2 a0 (nth b.2.1 k0)) p0))) ?_
  refine ck (!(U2 a0 (nth b.2.1 k0))) (fun h9 => ?_) (fun h9 => ?_)
  ·
   refine tu Qb [] [] [] [] (p0) ?_
   refine Qg ?_
   have hr10 : (Xp (Hg b) Hh a_.2.1 0 ()) = .ret false := Zx hx0 (Q6 h9 (rfl)) hI0
   exact pb [] (Qm h3 (Iq hr10))
  refine Qh ?_
  refine qu Qb [(5, .i ((k0 + 1 : Nat) : Int))] [5] [] [] (pe 1 (Jn (Qp k0 (by omega))) p0) ?_
  exact Exists.intro _ (And.intro (Qd (by kernel_rfl)) (Qx hx0 (Qm h9 (rfl)) hI0))
 ·
  refine Qe (sn Qb [2, 3, 4, 5, 32] [2, 3] (pl 3 a_.2.1 (pe 4 (Qo (decide_eq_false (p := ((k0 : Nat) : Int) < (a_.2.1.length : Int)) (by omega))) p0)) ?_)
  refine ckF ?_
  refine Q5 ?_
  exact Exists.intro _ (And.intro (Qd (by kernel_rfl)) (Xn hk0 (rfl) hI0))
 refine sn Qb [4] [] (p0) ?_
 refine Qg ?_
 exact pb [] (Qm h3 (Wc hD0 (rfl)))
def Yu (a_ : Ql) (b : Ql) (u : Int) : Bool := (Hy ((Q1 a_ u).1, (Q1 a_ u).2.1, 0) ((Q1 b u).1, (Q1 b u).2.1, 0))
theorem Cn (a_ : Ql) (b : Ql) (u : Int) : ACalls Tryz.prog 21 [.a [.h a_.1, .h a_.2.1, .i a_.2.2], .a [.h b.1, .h b.2.1, .i b.2.2], .i u] (.b (Yu a_ b u)) := by
 refine en Qb Tryz.func21 fun w0 F0 hG => ?_
 refine sn Qb [2, 3, 4, 6] [3, 4] (p0) ?_
 refine tn Qb [2, 4, 6, 7] [4, 7] (pc 2 (He a_ u) p0) ?_
 refine tu Qb [(6, .b false), (7, .p 7 0), (8, .p 8 0)] [0, 1, 2] [(7, [.o 704 ((Q1 a_ u).1), .o 705 ((Q1 a_ u).2.1), .i ((Q1 a_ u).2.2)]), (8, [.o 896 ((Q1 b u).1), .o 897 ((Q1 b u).2.1), .i ((Q1 b u).2.2)])] [] (pc 2 (He b u) p0) ?_
 refine sn Qb [6, 7, 8] [7, 8] (p0) ?_
 refine tn Qb [6, 7, 8] [7, 8] (p0) ?_
 refine tu Qb [(6, .b (Hy ((Q1 a_ u).1, (Q1 a_ u).2.1, 0) ((Q1 b u).1, (Q1 b u).2.1, 0)))] [6, 7, 8] [] [7, 8] (pc 2 (Re ((Q1 a_ u).1, (Q1 a_ u).2.1, 0) ((Q1 b u).1, (Q1 b u).2.1, 0)) p0) ?_
 refine Qg ?_
 exact pb [] (show Yu a_ b u = (Hy ((Q1 a_ u).1, (Q1 a_ u).2.1, 0) ((Q1 b u).1, (Q1 b u).2.1, 0)) from rfl)
def Co (user : Int) (_ : Nat) (a0 : Q9) (s0 : (List Int)) : Rd ((List Int)) ((List Int)) ((List Int)) := (bif (!(Kt a0 user)) then (.next (s0 ++ [a0.1])) else (.next s0))
def Cp (_ : Nat) (s0 : (List Int)) : (List Int) := s0
def Zk (s_ : Ql) (user : Int) : (List Int) := (Out.on (Xp (Co user) Cp s_.2.1 0 []) (fun y0 => y0))
theorem Gq (s_ : Ql) (user : Int) : ACalls Tryz.prog 14 [.a [.h s_.1, .h s_.2.1, .i s_.2.2], .i user] (.o 0 (Zk s_ user)) := by
 refine en Qb Tryz.func14 fun w0 F0 hG => ?_
 refine sn Qb [1, 2, 4] [2] (p0) ?_
 refine tn Qb [1, 2, 4, 5] [2] (p0) ?_
 refine Qe (tu Qb [(4, .e 0), (5, .one (.slc (.own true 512) 1 [])), (10, .h s_.2.1), (11, .i (s_.2.1.length : Int)), (12, .i 0)] [0] [] [] (pl 2 s_.2.1 p0) ?_)
 refine wT 10 0 .sh s_.2.1 (fun hw1 hl2 => ?_)
 refine GN (Co user) Cp s_.2.1 [] (fun k0 s0 => [(5, .o 147202 s0), (12, .i ((k0 : Nat) : Int))]) [5, 12] (fun y0 => [(5, .o 147352 y0)]) [1, 5, 10, 11, 12] (fun k0 s0 => List.length s0 ≤ k0) (X2 [(512, 147202)] (by kernel_rfl)) (by simp) (fun k0 s0 hk0 hI0 => ?_) (fun k0 s0 hk0 hI0 => ?_) (fun y0 hD0 => ?_)
 ·
  have hA0_0 := hI0.2
  obtain ⟨a0, hx0⟩ := Xm (l := s_.2.1) (i := k0) hk0
  refine su Qb [(13, .b true)] [] [] [] (pe 0 (Qo (decide_eq_true (p := ((k0 : Nat) : Int) < (s_.2.1.length : Int)) (by omega))) p0) ?_
  refine Qe (ckT ?_)
  refine Qh ?_
  refine Qe (Qs ?_)
  refine sn Qb [1, 4, 5, 7, 10, 11, 12] [7] (pn 0 hx0 p0) ?_
  refine tn Qb [1, 4, 5, 7, 10, 11, 12, 19] [7] (pc 2 (O0 a0 user) p0) ?_
  refine ck (!(Kt a0 user)) (fun h3 => ?_) (fun h3 => ?_)
  ·
   refine wT 5 0 (.own true 147202) s0 (fun hw4 hl5 => ?_)
   refine qu Qb [(5, .one (.slc (.own true 1536) 1 ((eL s0) ++ [[.i a0.1]])))] [5, 13] [] [] (pa s0 [a0.1] p0) ?_
   refine eqn [(5, .o 1536 (s0 ++ [a0.1]))] [5] [] [] (by rw [show ((eL s0) ++ [[.i a0.1]]) = (eL (s0 ++ [a0.1])) from Kj (rfl) (rfl)]; first | done | kernel_rfl) ?_
   refine rn Qb [1, 4, 5, 10, 11, 12] [] (pe 0 (Jn (Qp k0 (by omega))) p0) ?_
   exact Exists.intro (s0 ++ [a0.1]) (And.intro (X2 [(1536, 147202)] (by kernel_rfl)) ⟨Qx hx0 (Q6 h3 (rfl)) hI0.1, by first | omega | (simp; omega) | simp⟩)
  refine Qh ?_
  refine qu Qb [(12, .i ((k0 + 1 : Nat) : Int))] [12, 13] [] [] (pe 0 (Jn (Qp k0 (by omega))) p0) ?_
  exact Exists.intro s0 (And.intro (Qd (by kernel_rfl)) ⟨Qx hx0 (Qm h3 (rfl)) hI0.1, by first | omega | (simp; omega) | simp⟩)
 ·
  have hA0_0 := hI0.2
  refine su Qb [(13, .b false)] [] [] [] (pe 0 (Qo (decide_eq_false (p := ((k0 : Nat) : Int) < (s_.2.1.length : Int)) (by omega))) p0) ?_
  refine Qe (ckF ?_)
  refine Q5 ?_
  exact Exists.intro _ (And.intro (X2 [(147202, 147352)] (by kernel_rfl)) (Xn hk0 (rfl) hI0.1))
 refine sn Qb [4] [] (p0) ?_
 refine Qg ?_
 exact po0 [] (Wc hD0 (rfl))
def Cq (u : Int) (_ : Nat) (a0 : Q9) (s0 : (List Int)) : Rd ((List Int)) ((List Int)) ((List Int)) := (bif (!(J8 a0 u)) then (.next (s0 ++ [a0.1])) else (.next s0))
def Cr (_ : Nat) (s0 : (List Int)) : (List Int) := s0
def Zl (s_ : Ql) (u : Int) : (List Int) := (Out.on (Xp (Cq u) Cr s_.2.1 0 []) (fun y0 => y0))
theorem Gr (s_ : Ql) (u : Int) : ACalls Tryz.prog 15 [.a [.h s_.1, .h s_.2.1, .i s_.2.2], .i u] (.o 0 (Zl s_ u)) := by
 refine en Qb Tryz.func15 fun w0 F0 hG => ?_
 refine sn Qb [1, 2, 4] [2] (p0) ?_
 refine tn Qb [1, 2, 4, 5] [2] (p0) ?_
 refine Qe (tu Qb [(2, .p 2 0), (4, .e 0), (5, .one (.slc (.own true 448) 1 [])), (6, .i 0)] [0] [(2, [.h s_.1, .h s_.2.1, .i s_.2.2])] [] (p0) ?_)
 refine wB 2 1 .sh s_.2.1 (fun hw1 hl2 => ?_)
 refine Rw (Cq u) Cr s_.2.1 [] (fun k0 s0 => [(5, .o 147203 s0), (6, .i ((k0 : Nat) : Int))]) [5, 6] (fun _ _ => []) [] (fun y0 => [(5, .o 147353 y0)]) [1, 2, 5, 6] (fun _ => []) [2] (fun k0 s0 => List.length s0 ≤ k0) (X2 [(448, 147203)] (by kernel_rfl)) (by simp) (fun k0 s0 hk0 hI0 => ?_) (fun k0 s0 hk0 hI0 => ?_) (fun y0 hD0 => ?_)
 ·
  have hA0_0 := hI0.2
  obtain ⟨a0, hx0⟩ := Xm (l := s_.2.1) (i := k0) hk0
  refine Qe (sn Qb [1, 2, 4, 5, 6, 12] [2] (pl 3 s_.2.1 (pe 4 (Qo (decide_eq_true (p := ((k0 : Nat) : Int) < (s_.2.1.length : Int)) (by omega))) p0)) ?_)
  refine ckT ?_
  refine Qh ?_
  refine Qe (Qs ?_)
  refine tn Qb [1, 2, 4, 5, 6, 22] [2] (pn 3 hx0 (pc 6 (Cf a0 u) p0)) ?_
  refine ck (!(J8 a0 u)) (fun h3 => ?_) (fun h3 => ?_)
  ·
   refine wT 5 0 (.own true 147203) s0 (fun hw4 hl5 => ?_)
   refine qu Qb [(5, .one (.slc (.own true 1984) 1 ((eL s0) ++ [[.i a0.1]])))] [5] [] [] (pn 4 hx0 (pa s0 [a0.1] p0)) ?_
   refine eqn [(5, .o 1984 (s0 ++ [a0.1]))] [5] [] [] (by rw [show ((eL s0) ++ [[.i a0.1]]) = (eL (s0 ++ [a0.1])) from Kj (rfl) (rfl)]; first | done | kernel_rfl) ?_
   refine rn Qb [1, 2, 4, 5, 6] [2] (pe 1 (Jn (Qp k0 (by omega))) p0) ?_
   exact Exists.intro (s0 ++ [a0.1]) (And.intro (X2 [(1984, 147203)] (by kernel_rfl)) ⟨Qx hx0 (Q6 h3 (rfl)) hI0.1, by first | omega | (simp; omega) | simp⟩)
  refine Qh ?_
  refine qu Qb [(6, .i ((k0 + 1 : Nat) : Int))] [6] [] [] (pe 1 (Jn (Qp k0 (by omega))) p0) ?_
  exact Exists.intro s0 (And.intro (Qd (by kernel_rfl)) ⟨Qx hx0 (Qm h3 (rfl)) hI0.1, by first | omega | (simp; omega) | simp⟩)
 ·
  have hA0_0 := hI0.2
  refine Qe (sn Qb [1, 2, 4, 5, 6, 12] [2] (pl 3 s_.2.1 (pe 4 (Qo (decide_eq_false (p := ((k0 : Nat) : Int) < (s_.2.1.length : Int)) (by omega))) p0)) ?_)
  refine ckF ?_
  refine Q5 ?_
  exact Exists.intro _ (And.intro (X2 [(147203, 147353)] (by kernel_rfl)) (Xn hk0 (rfl) hI0.1))
 refine sn Qb [4] [] (p0) ?_
 refine Qg ?_
 exact po0 [] (Wc hD0 (rfl))
def V1 (a_ : Ql) (b : Ql) (d : (List Yd)) (user : Int) (_ : Nat) (a0 : Yd) (s0 : (List ByteArray)) : Rd ((List ByteArray)) ((List ByteArray)) ((List ByteArray)) := (bif ((!(Y7 (Xf a_ d user a0.1) (Xf b d user a0.1))) || (!((Yt a_ d user a0.1).toList == (Yt b d user a0.1).toList))) then (.next (s0 ++ [a0.1])) else (.next s0))
def Hi (_ : Nat) (s0 : (List ByteArray)) : (List ByteArray) := s0
def Xu (a_ : Ql) (b : Ql) (d : (List Yd)) (user : Int) : (List ByteArray) := (bif (!(Jd a_ b user)) then [] else (Out.on (Xp (V1 a_ b d user) Hi d 0 []) (fun y0 => y0)))
theorem Kw (a_ : Ql) (b : Ql) (d : (List Yd)) (user : Int) (hp : TxS a_) (hq : TxS b) (hd : TxD d) : ACalls Tryz.prog 10 [.a [.h a_.1, .h a_.2.1, .i a_.2.2], .a [.h b.1, .h b.2.1, .i b.2.2], .h d, .i user] (.o 0 (Xu a_ b d user)) := by
 refine en Qb Tryz.func10 fun w0 F0 hG => ?_
 refine sn Qb [2, 3, 4, 5, 8] [4, 5] (p0) ?_
 refine Qe (tn Qb [2, 3, 4, 5, 8, 16] [4, 5] (pc 3 (O7 a_ b user) p0) ?_)
 refine ck (!(Jd a_ b user)) (fun h1 => ?_) (fun h1 => ?_)
 ·
  have h1n : (Jd a_ b user) = false := Vr h1
  refine tu Qb [(4, .p 4 0), (5, .p 5 0), (8, .e 0)] [0, 1] [(4, [.h a_.1, .h a_.2.1, .i a_.2.2]), (5, [.h b.1, .h b.2.1, .i b.2.2])] [] (p0) ?_
  refine opn [(false, 8, 0, true, 384000, 1)] ?_
  refine Qg ?_
  exact po0 [] (Q6 h1 (rfl))
 have h1n : (Jd a_ b user) = true := Ze h1
 refine Qh ?_
 refine tu Qb [(4, .p 4 0), (5, .p 5 0), (8, .e 0), (9, .one (.slc (.own true 1088) 1 []))] [0, 1] [(4, [.h a_.1, .h a_.2.1, .i a_.2.2]), (5, [.h b.1, .h b.2.1, .i b.2.2])] [] (p0) ?_
 refine Qe (sn Qb [2, 3, 4, 5, 8, 9, 18, 19, 20] [4, 5] (pl 1 d p0) ?_)
 refine mz [(18, .h d), (19, .i (d.length : Int)), (20, .i 0)] [] [] [] ?_
 refine wT 2 0 .sh d (fun hw2 hl3 => ?_)
 refine Rw (V1 a_ b d user) Hi d [] (fun k0 s0 => [(9, .o 147205 s0), (20, .i ((k0 : Nat) : Int))]) [9, 20] (fun _ _ => []) [] (fun y0 => [(9, .o 147355 y0)]) [2, 3, 4, 5, 9, 18, 19, 20] (fun _ => []) [4, 5] (fun k0 s0 => List.length s0 ≤ k0) (X2 [(1088, 147205)] (by kernel_rfl)) (by simp) (fun k0 s0 hk0 hI0 => ?_) (fun k0 s0 hk0 hI0 => ?_) (fun y0 hD0 => ?_)
 ·
  have hA0_0 := hI0.2
  obtain ⟨a0, hx0⟩ := Xm (l := d) (i := k0) hk0
  refine su Qb [(21, .b true)] [] [] [] (pe 0 (Qo (decide_eq_true (p := ((k0 : Nat) : Int) < (d.length : Int)) (by omega))) p0) ?_
  refine Qe (ckT ?_)
  refine Qh ?_
  refine Qe (Qs ?_)
  refine sn Qb [2, 3, 4, 5, 8, 9, 11, 18, 19, 20] [4, 5, 11] (pn 0 hx0 p0) ?_
  refine Qe (mz [(11, .p 11 0)] [21] [(11, [.s a0.1, .h a0.2])] [] ?_)
  refine jn [(52, .b ((!(Y7 (Xf a_ d user a0.1) (Xf b d user a0.1))) || (!((Yt a_ d user a0.1).toList == (Yt b d user a0.1).toList))))] [] [] [] (!(Y7 (Xf a_ d user a0.1) (Xf b d user a0.1))) (fun h4 => ?_) (fun h4 => ?_) ?_
  ·
   have h4n : (Y7 (Xf a_ d user a0.1) (Xf b d user a0.1)) = false := Vr h4
   refine rU Qb Yo [(52, .b true)] [] [] [] (pc 5 (Ce a_ d user a0.1) (pc 11 (Ce b d user a0.1) (pc 12 (cb h4n (C7 (Xf a_ d user a0.1) (Xf b d user a0.1))) (pe 13 (show .b (!false) = .b true from rfl) p0)))) ?_
   exact ⟨rfl, Qd (by rw [h4]; first | done | kernel_rfl)⟩
  ·
   have h4n : (Y7 (Xf a_ d user a0.1) (Xf b d user a0.1)) = true := Ze h4
   refine rN Qb Yo [2, 3, 4, 5, 8, 9, 11, 18, 19, 20, 52] [4, 5, 11] (pc 5 (Ce a_ d user a0.1) (pc 11 (Ce b d user a0.1) (pc 12 (cb h4n (C7 (Xf a_ d user a0.1) (Xf b d user a0.1))) (pe 13 (show .b (!true) = .b false from rfl) (pc 20 (F8 a_ d user a0.1 (by assumption) (hd _ (List.mem_of_getElem? hx0))) (pc 26 (F8 b d user a0.1 (by assumption) (hd _ (List.mem_of_getElem? hx0))) p0)))))) ?_
   exact ⟨rfl, Qd (by rw [h4]; first | done | kernel_rfl)⟩
  refine ck ((!(Y7 (Xf a_ d user a0.1) (Xf b d user a0.1))) || (!((Yt a_ d user a0.1).toList == (Yt b d user a0.1).toList))) (fun h5 => ?_) (fun h5 => ?_)
  ·
   refine wT 9 0 (.own true 147205) s0 (fun hw6 hl7 => ?_)
   refine ru Qb [(9, .one (.slc (.own true 3648) 1 ((eL s0) ++ [[.s a0.1]])))] [9, 11, 52] [] [11] (pa s0 [a0.1] p0) ?_
   refine eqn [(9, .o 3648 (s0 ++ [a0.1]))] [9] [] [] (by rw [show ((eL s0) ++ [[.s a0.1]]) = (eL (s0 ++ [a0.1])) from Kj (rfl) (rfl)]; first | done | kernel_rfl) ?_
   refine rn Qb [2, 3, 4, 5, 8, 9, 18, 19, 20] [4, 5] (pe 0 (Jn (Qp k0 (by omega))) p0) ?_
   exact Exists.intro (s0 ++ [a0.1]) (And.intro (X2 [(3648, 147205)] (by kernel_rfl)) ⟨Qx hx0 (Q6 h5 (rfl)) hI0.1, by first | omega | (simp; omega) | simp⟩)
  have h5l : ((!(Y7 (Xf a_ d user a0.1) (Xf b d user a0.1)))) = false := Pw h5
  have h5ln : (Y7 (Xf a_ d user a0.1) (Xf b d user a0.1)) = true := Ze h5l
  have h5r : ((!((Yt a_ d user a0.1).toList == (Yt b d user a0.1).toList))) = false := Px h5
  have h5rn : ((Yt a_ d user a0.1).toList == (Yt b d user a0.1).toList) = true := Ze h5r
  refine Qh ?_
  refine rn Qb [2, 3, 4, 5, 8, 9, 18, 19, 20] [4, 5] (pe 0 (Jn (Qp k0 (by omega))) p0) ?_
  exact Exists.intro s0 (And.intro (Qd (by kernel_rfl)) ⟨Qx hx0 (Qm h5 (rfl)) hI0.1, by first | omega | (simp; omega) | simp⟩)
 ·
  have hA0_0 := hI0.2
  refine su Qb [(21, .b false)] [] [] [] (pe 0 (Qo (decide_eq_false (p := ((k0 : Nat) : Int) < (d.length : Int)) (by omega))) p0) ?_
  refine Qe (ckF ?_)
  refine Q5 ?_
  exact Exists.intro _ (And.intro (X2 [(147205, 147355)] (by kernel_rfl)) (Xn hk0 (rfl) hI0.1))
 refine sn Qb [8] [] (p0) ?_
 refine Qg ?_
 exact po0 [] (Qm h1 (Wc hD0 (rfl)))
def Hj (a_ : Ql) (b : Ql) (d : (List Yd)) (u : Int) (_ : Nat) (a0 : Yd) (s0 : (List ByteArray)) : Rd ((List ByteArray)) ((List ByteArray)) ((List ByteArray)) := (bif ((!(Z4 (X3 a_ d u a0.1) (X3 b d u a0.1))) || (!((Ji a_ d u a0.1).toList == (Ji b d u a0.1).toList))) then (.next (s0 ++ [a0.1])) else (.next s0))
def Cs (_ : Nat) (s0 : (List ByteArray)) : (List ByteArray) := s0
def Zm (a_ : Ql) (b : Ql) (d : (List Yd)) (u : Int) : (List ByteArray) := (bif (!(Yu a_ b u)) then [] else (Out.on (Xp (Hj a_ b d u) Cs d 0 []) (fun y0 => y0)))
theorem Ac (a_ : Ql) (b : Ql) (d : (List Yd)) (u : Int) (hp : TxS a_) (hq : TxS b) (hd : TxD d) : ACalls Tryz.prog 11 [.a [.h a_.1, .h a_.2.1, .i a_.2.2], .a [.h b.1, .h b.2.1, .i b.2.2], .h d, .i u] (.o 0 (Zm a_ b d u)) := by
 refine en Qb Tryz.func11 fun w0 F0 hG => ?_
 refine sn Qb [2, 3, 4, 5, 8] [4, 5] (p0) ?_
 refine tn Qb [2, 3, 4, 5, 8, 9] [4, 5] (p0) ?_
 refine Qe (tu Qb [(4, .p 4 0), (5, .p 5 0), (8, .e 0), (9, .one (.slc (.own true 768) 1 [])), (17, .b (!(Yu a_ b u)))] [0, 1] [(4, [.h a_.1, .h a_.2.1, .i a_.2.2]), (5, [.h b.1, .h b.2.1, .i b.2.2])] [] (pc 3 (Cn a_ b u) p0) ?_)
 refine ck (!(Yu a_ b u)) (fun h1 => ?_) (fun h1 => ?_)
 ·
  have h1n : (Yu a_ b u) = false := Vr h1
  refine sn Qb [2, 3, 4, 5, 8, 9] [4, 5] (p0) ?_
  refine Qg ?_
  exact po0 [] (Q6 h1 (rfl))
 have h1n : (Yu a_ b u) = true := Ze h1
 refine Qh ?_
 refine Qe (su Qb [(10, .i 0)] [17] [] [] (p0) ?_)
 refine wT 2 0 .sh d (fun hw2 hl3 => ?_)
 refine Rw (Hj a_ b d u) Cs d [] (fun k0 s0 => [(9, .o 147205 s0), (10, .i ((k0 : Nat) : Int))]) [9, 10] (fun _ _ => []) [] (fun y0 => [(9, .o 147355 y0)]) [2, 3, 4, 5, 9, 10] (fun _ => []) [4, 5] (fun k0 s0 => List.length s0 ≤ k0) (X2 [(768, 147205)] (by kernel_rfl)) (by simp) (fun k0 s0 hk0 hI0 => ?_) (fun k0 s0 hk0 hI0 => ?_) (fun y0 hD0 => ?_)
 ·
  have hA0_0 := hI0.2
  obtain ⟨a0, hx0⟩ := Xm (l := d) (i := k0) hk0
  refine Qe (su Qb [(22, .b true)] [] [] [] (pl 2 d (pe 3 (Qo (decide_eq_true (p := ((k0 : Nat) : Int) < (d.length : Int)) (by omega))) p0)) ?_)
  refine ckT ?_
  refine Qh ?_
  refine Qe (Qs ?_)
  refine sN Qb Yo [2, 3, 4, 5, 8, 9, 10, 11] [4, 5] (pn 5 hx0 (pc 8 (Ie a_ d u a0.1) (pn 14 hx0 (pc 17 (Ie b d u a0.1) (pc 18 (G9 (X3 a_ d u a0.1) (X3 b d u a0.1)) p0))))) ?_
  refine Qe (mz [(11, .b (Z4 (X3 a_ d u a0.1) (X3 b d u a0.1)))] [22] [] [] ?_)
  refine jn [(66, .b ((!(Z4 (X3 a_ d u a0.1) (X3 b d u a0.1))) || (!((Ji a_ d u a0.1).toList == (Ji b d u a0.1).toList))))] [11] [] [] (!(Z4 (X3 a_ d u a0.1) (X3 b d u a0.1))) (fun h4 => ?_) (fun h4 => ?_) ?_
  ·
   have h4n : (Z4 (X3 a_ d u a0.1) (X3 b d u a0.1)) = false := Vr h4
   refine rU Qb Yo [(66, .b true)] [11] [] [] (pf 0 h4n (pe 1 (show .b (!false) = .b true from rfl) p0)) ?_
   exact ⟨rfl, Qd (by rw [h4]; first | done | kernel_rfl)⟩
  ·
   have h4n : (Z4 (X3 a_ d u a0.1) (X3 b d u a0.1)) = true := Ze h4
   refine rN Qb Yo [2, 3, 4, 5, 8, 9, 10, 66] [4, 5] (pt 0 h4n (pe 1 (show .b (!true) = .b false from rfl) (pn 8 hx0 (pc 11 (Ij a_ d u a0.1 (by assumption) (hd _ (List.mem_of_getElem? hx0))) (pn 17 hx0 (pc 20 (Ij b d u a0.1 (by assumption) (hd _ (List.mem_of_getElem? hx0))) p0)))))) ?_
   exact ⟨rfl, Qd (by rw [h4]; first | done | kernel_rfl)⟩
  refine ck ((!(Z4 (X3 a_ d u a0.1) (X3 b d u a0.1))) || (!((Ji a_ d u a0.1).toList == (Ji b d u a0.1).toList))) (fun h5 => ?_) (fun h5 => ?_)
  ·
   refine wT 9 0 (.own true 147205) s0 (fun hw6 hl7 => ?_)
   refine ru Qb [(9, .one (.slc (.own true 4736) 1 ((eL s0) ++ [[.s a0.1]])))] [9, 66] [] [] (pn 3 hx0 (pa s0 [a0.1] p0)) ?_
   refine eqn [(9, .o 4736 (s0 ++ [a0.1]))] [9] [] [] (by rw [show ((eL s0) ++ [[.s a0.1]]) = (eL (s0 ++ [a0.1])) from Kj (rfl) (rfl)]; first | done | kernel_rfl) ?_
   refine rn Qb [2, 3, 4, 5, 8, 9, 10] [4, 5] (pe 1 (Jn (Qp k0 (by omega))) p0) ?_
   exact Exists.intro (s0 ++ [a0.1]) (And.intro (X2 [(4736, 147205)] (by kernel_rfl)) ⟨Qx hx0 (Q6 h5 (rfl)) hI0.1, by first | omega | (simp; omega) | simp⟩)
  have h5l : ((!(Z4 (X3 a_ d u a0.1) (X3 b d u a0.1)))) = false := Pw h5
  have h5ln : (Z4 (X3 a_ d u a0.1) (X3 b d u a0.1)) = true := Ze h5l
  have h5r : ((!((Ji a_ d u a0.1).toList == (Ji b d u a0.1).toList))) = false := Px h5
  have h5rn : ((Ji a_ d u a0.1).toList == (Ji b d u a0.1).toList) = true := Ze h5r
  refine Qh ?_
  refine rn Qb [2, 3, 4, 5, 8, 9, 10] [4, 5] (pe 1 (Jn (Qp k0 (by omega))) p0) ?_
  exact Exists.intro s0 (And.intro (Qd (by kernel_rfl)) ⟨Qx hx0 (Qm h5 (rfl)) hI0.1, by first | omega | (simp; omega) | simp⟩)
 ·
  have hA0_0 := hI0.2
  refine Qe (su Qb [(22, .b false)] [] [] [] (pl 2 d (pe 3 (Qo (decide_eq_false (p := ((k0 : Nat) : Int) < (d.length : Int)) (by omega))) p0)) ?_)
  refine ckF ?_
  refine Q5 ?_
  exact Exists.intro _ (And.intro (X2 [(147205, 147355)] (by kernel_rfl)) (Xn hk0 (rfl) hI0.1))
 refine sn Qb [8] [] (p0) ?_
 refine Qg ?_
 exact po0 [] (Qm h1 (Wc hD0 (rfl)))
def A0 (b : (List ByteArray)) (k0 : Nat) (a0 : ByteArray) (_ : Unit) : Rd (Bool) (Unit) (Unit) := (bif (!(a0.toList == (nth b k0).toList)) then (.ret false) else (.next ()))
def Ef (_ : Nat) (_ : Unit) : Unit := ()
def Yx (a_ : (List ByteArray)) (b : (List ByteArray)) : Bool := (bif ((a_.length : Int) != (b.length : Int)) then false else (Out.on (Xp (A0 b) Ef a_ 0 ()) (fun _ => true)))
theorem Vw (a_ : (List ByteArray)) (b : (List ByteArray)) : ACalls Tryz.prog 9 [.h a_, .h b] (.b (Yx a_ b)) := by
 refine en Qb Tryz.func9 fun w0 F0 hG => ?_
 refine sn Qb [0, 1, 4] [] (p0) ?_
 refine Qe (tn Qb [0, 1, 4, 10] [] (pl 1 a_ (pl 3 b p0)) ?_)
 refine ck ((a_.length : Int) != (b.length : Int)) (fun h1 => ?_) (fun h1 => ?_)
 ·
  refine tu Qb [(4, .b false)] [] [] [] (p0) ?_
  refine Qg ?_
  exact pb [] (Q6 h1 (rfl))
 have h1d := J3 h1
 refine Qh ?_
 refine Qe (tu Qb [(4, .b false), (5, .i 0)] [] [] [] (p0) ?_)
 refine wT 0 0 .sh a_ (fun hw2 hl3 => ?_)
 refine L3 (A0 b) Ef a_ () (fun k0 _ => [(5, .i ((k0 : Nat) : Int))]) [5] (fun _ => []) [0, 1, 5] (Qd (by kernel_rfl)) (fun k0 s0 hk0 hI0 => ?_) (fun k0 s0 hk0 hI0 => ?_) (fun y0 hD0 => ?_)
 ·
  obtain ⟨a0, hx0⟩ := Xm (l := a_) (i := k0) hk0
  refine Qe (sn Qb [0, 1, 4, 5, 14] [] (pl 2 a_ (pe 3 (Qo (decide_eq_true (p := ((k0 : Nat) : Int) < (a_.length : Int)) (by omega))) p0)) ?_)
  refine ckT ?_
  refine Qh ?_
  refine Qe (Qs ?_)
  refine wT 1 0 .sh b (fun hw5 hl6 => ?_)
  have hx4 := ng b k0
  refine tN Qb Yo [0, 1, 4, 5, 25] [] (pn 2 hx0 (pn 6 hx4 p0)) ?_
  refine ck (!(a0.toList == (nth b k0).toList)) (fun h7 => ?_) (fun h7 => ?_)
  ·
   refine tu Qb [] [] [] [] (p0) ?_
   refine Qg ?_
   have hr8 : (Xp (A0 b) Ef a_ 0 ()) = .ret false := Zx hx0 (Q6 h7 (rfl)) hI0
   exact pb [] (Qm h1 (Iq hr8))
  refine Qh ?_
  refine qu Qb [(5, .i ((k0 + 1 : Nat) : Int))] [5] [] [] (pe 1 (Jn (Qp k0 (by omega))) p0) ?_
  exact Exists.intro _ (And.intro (Qd (by kernel_rfl)) (Qx hx0 (Qm h7 (rfl)) hI0))
 ·
  refine Qe (sn Qb [0, 1, 4, 5, 14] [] (pl 2 a_ (pe 3 (Qo (decide_eq_false (p := ((k0 : Nat) : Int) < (a_.length : Int)) (by omega))) p0)) ?_)
  refine ckF ?_
  refine Q5 ?_
  exact Exists.intro _ (And.intro (Qd (by kernel_rfl)) (Xn hk0 (rfl) hI0))
 refine sn Qb [4] [] (p0) ?_
 refine Qg ?_
 exact pb [] (Qm h1 (Wc hD0 (rfl)))
def Ct (b : (List Int)) (k0 : Nat) (a0 : Int) (_ : Unit) : Rd (Bool) (Unit) (Unit) := (bif (a0 != (nth b k0)) then (.ret false) else (.next ()))
def Fn (_ : Nat) (_ : Unit) : Unit := ()
def Zo (a_ : (List Int)) (b : (List Int)) : Bool := (bif ((a_.length : Int) != (b.length : Int)) then false else (Out.on (Xp (Ct b) Fn a_ 0 ()) (fun _ => true)))
theorem Ga (a_ : (List Int)) (b : (List Int)) : ACalls Tryz.prog 13 [.h a_, .h b] (.b (Zo a_ b)) := by
 refine en Qb Tryz.func13 fun w0 F0 hG => ?_
 refine sn Qb [0, 1, 4] [] (p0) ?_
 refine Qe (tn Qb [0, 1, 4, 10] [] (pl 1 a_ (pl 3 b p0)) ?_)
 refine ck ((a_.length : Int) != (b.length : Int)) (fun h1 => ?_) (fun h1 => ?_)
 ·
  refine tu Qb [(4, .b false)] [] [] [] (p0) ?_
  refine Qg ?_
  exact pb [] (Q6 h1 (rfl))
 have h1d := J3 h1
 refine Qh ?_
 refine Qe (tu Qb [(4, .b false), (5, .i 0)] [] [] [] (p0) ?_)
 refine wT 0 0 .sh a_ (fun hw2 hl3 => ?_)
 refine L3 (Ct b) Fn a_ () (fun k0 _ => [(5, .i ((k0 : Nat) : Int))]) [5] (fun _ => []) [0, 1, 5] (Qd (by kernel_rfl)) (fun k0 s0 hk0 hI0 => ?_) (fun k0 s0 hk0 hI0 => ?_) (fun y0 hD0 => ?_)
 ·
  obtain ⟨a0, hx0⟩ := Xm (l := a_) (i := k0) hk0
  refine Qe (sn Qb [0, 1, 4, 5, 14] [] (pl 2 a_ (pe 3 (Qo (decide_eq_true (p := ((k0 : Nat) : Int) < (a_.length : Int)) (by omega))) p0)) ?_)
  refine ckT ?_
  refine Qh ?_
  refine Qe (Qs ?_)
  refine wT 1 0 .sh b (fun hw5 hl6 => ?_)
  have hx4 := ng b k0
  refine tN Qb Yo [0, 1, 4, 5, 25] [] (pn 2 hx0 (pn 6 hx4 p0)) ?_
  refine ck (a0 != (nth b k0)) (fun h7 => ?_) (fun h7 => ?_)
  ·
   refine tu Qb [] [] [] [] (p0) ?_
   refine Qg ?_
   have hr8 : (Xp (Ct b) Fn a_ 0 ()) = .ret false := Zx hx0 (Q6 h7 (rfl)) hI0
   exact pb [] (Qm h1 (Iq hr8))
  have h7d := J3 h7
  refine Qh ?_
  refine qu Qb [(5, .i ((k0 + 1 : Nat) : Int))] [5] [] [] (pe 1 (Jn (Qp k0 (by omega))) p0) ?_
  exact Exists.intro _ (And.intro (Qd (by kernel_rfl)) (Qx hx0 (Qm h7 (rfl)) hI0))
 ·
  refine Qe (sn Qb [0, 1, 4, 5, 14] [] (pl 2 a_ (pe 3 (Qo (decide_eq_false (p := ((k0 : Nat) : Int) < (a_.length : Int)) (by omega))) p0)) ?_)
  refine ckF ?_
  refine Q5 ?_
  exact Exists.intro _ (And.intro (Qd (by kernel_rfl)) (Xn hk0 (rfl) hI0))
 refine sn Qb [4] [] (p0) ?_
 refine Qg ?_
 exact pb [] (Qm h1 (Wc hD0 (rfl)))
end Go.Proofs.YtkbfhiamdcoieaaGreatDoor
namespace Go.Proofs.YtkbfhiamdcoieaaGreatDoor
open Go.RowKit
theorem AQ (a b : ByteArray) : a.toList = b.toList ↔ a = b := by rw [← LP, beq_iff_eq]
theorem AS (a b : List Yq) : Wl a b = true ↔ a = b :=
  Rb (p := fun x y => (x.1.toList == y.1.toList) && ((x.2 == y.2) && true)) (fun x y => by
    simp only [Bool.and_eq_true, beq_iff_eq, AQ, and_true]
    exact ⟨fun h => Prod.ext h.1 h.2, fun h => by rw [h]; exact ⟨rfl, rfl⟩⟩) (fun _ _ => rfl)
theorem QF (a b : List Yq) : Vq a b = true ↔ a = b :=
  Rb (p := fun x y => (x.1.toList == y.1.toList) && ((x.2 == y.2) && true)) (fun x y => by
    simp only [Bool.and_eq_true, beq_iff_eq, AQ, and_true]
    exact ⟨fun h => Prod.ext h.1 h.2, fun h => by rw [h]; exact ⟨rfl, rfl⟩⟩) (fun _ _ => rfl)
def PH (x y : Uc) : Bool := (x.1.toList == y.1.toList) && ((x.2.1 == y.2.1) && ((x.2.2.1 == y.2.2.1) && ((x.2.2.2.toList == y.2.2.2.toList) && true)))
theorem WV (x y : Uc) : PH x y = true ↔ x = y := by
  unfold PH
  simp only [Bool.and_eq_true, beq_iff_eq, AQ, and_true]
  exact ⟨fun h => Prod.ext h.1 (Prod.ext h.2.1 (Prod.ext h.2.2.1 h.2.2.2)), fun h => by rw [h]; exact ⟨rfl, rfl, rfl, rfl⟩⟩
theorem EJ (a b : List Uc) : Uy a b = true ↔ a = b := Rb (p := PH) WV (fun _ _ => rfl)
theorem LR (a b : Q9) : Wf a b = true ↔ a = b := by
  unfold Wf
  simp only [Bool.and_eq_true, beq_iff_eq, EJ]
  exact ⟨fun h => Prod.ext h.1 (Prod.ext h.2.1 (Prod.ext h.2.2.1 (Prod.ext h.2.2.2.1 h.2.2.2.2))), fun h => by rw [h]; exact ⟨rfl, rfl, rfl, rfl, rfl⟩⟩
theorem LS (a b : Q9) : U2 a b = true ↔ a = b := by
  have key := Rb (p := PH) WV (f := Aa b) (e := Ab) (l := a.2.2.2.2) (b := b.2.2.2.2) (fun _ _ => rfl)
  unfold U2
  by_cases h1 : a.1 = b.1
  · by_cases h2 : a.2.1 = b.2.1
    · by_cases h3 : a.2.2.1 = b.2.2.1
      · by_cases h4 : a.2.2.2.1 = b.2.2.2.1
        · simp only [h1, h2, h3, h4, bne_self_eq_false, beq_self_eq_true, Bool.not_true, Bool.false_or]
          rw [key]
          exact ⟨fun h => Prod.ext h1 (Prod.ext h2 (Prod.ext h3 (Prod.ext h4 h))), fun h => by rw [h]⟩
        simp [h4]; exact fun e => h4 (by rw [e])
      simp [h3]; exact fun e => h3 (by rw [e])
    simp [h2]; exact fun e => h2 (by rw [e])
  simp [h1]; exact fun e => h1 (by rw [e])
theorem EK (a b : List Q9) : Zj a b = true ↔ a = b := Rb (p := Wf) LR (fun _ _ => rfl)
theorem YS (a b : Ql) (u : Int) : Jd a b u = true ↔ (Qi a u).1 = (Qi b u).1 ∧ (Qi a u).2.1 = (Qi b u).2.1 := by
  unfold Jd
  rw [Bool.and_eq_true, AS, EK]
theorem YT (a b : Ql) (u : Int) : Yu a b u = true ↔ (Qi a u).1 = (Qi b u).1 ∧ (Qi a u).2.1 = (Qi b u).2.1 := by
  unfold Yu Hy
  rw [Ez, Ez]
  generalize Qi a u = x
  generalize Qi b u = y
  have key := Rb (p := U2) LS (f := Hg (y.1, y.2.1, 0)) (e := Hh) (l := x.2.1) (b := y.2.1) (fun _ _ => rfl)
  by_cases h : x.1 = y.1
  · have h0 := (QF x.1 y.1).2 h
    simp only [h0, bne_self_eq_false, Bool.not_true, Bool.false_or]
    rw [key]
    exact ⟨fun h2 => ⟨h, h2⟩, fun h2 => h2.2⟩
  have h0 : Vq x.1 y.1 = false := by
    cases hc : Vq x.1 y.1 with
    | false => rfl
    | true => exact (h ((QF _ _).1 hc)).elim
  simp only [h0, Bool.not_false, Bool.true_or, cond_true]
  exact ⟨fun h2 => (by cases h2), fun h2 => (h h2.1).elim⟩
theorem PI (a b : Ql) (u : Int) : Yu a b u = Jd a b u := by
  have h1 := YS a b u
  have h2 := YT a b u
  cases hx : Yu a b u <;> cases hy : Jd a b u
  · rfl
  · rw [hx] at h2; exact absurd (h2.2 (h1.1 hy)) (by simp)
  · rw [hy] at h1; exact absurd (h1.2 (h2.1 hx)) (by simp)
  rfl
theorem EL (a b : Ql) (d : List Yd) (u : Int) : Zm a b d u = Xu a b d u := by
  unfold Zm Xu
  rw [PI, B0 (f := Hj a b d u) (g := V1 a b d u) (e := Cs) (e' := Hi) (fun k x t => by
    unfold Hj V1
    rw [Gn, Gn, AP, AP, JI, JK]) (fun _ _ => rfl)]
theorem WW {a b : Ql} {u : Int} (ha : Qz a = true) (hb : Qz b = true) (h1 : (Qi a u).1 = (Qi b u).1) (h2 : (Qi a u).2.1 = (Qi b u).2.1) (d : List Yd) (n : ByteArray) : Yt a d u n = Yt b d u n := by
  have hn : ∀ (s t : Ql) (ids : List Int), s.2.1 = t.2.1 → Yj s ids = Yj t ids := by
    rintro ⟨s1, s2, s3⟩ ⟨t1, t2, t3⟩ ids h
    obtain rfl : s2 = t2 := h
    rfl
  unfold Yt
  rw [Ru ha hb h2, hn _ _ _ h2]
theorem AT {a b : Ql} {u : Int} (ha : Qz a = true) (hb : Qz b = true) (h1 : (Qi a u).1 = (Qi b u).1) (h2 : (Qi a u).2.1 = (Qi b u).2.1) (d : List Yd) : X9 a d u = X9 b d u := by
  unfold X9
  rw [WJ ha hb (Eu ha u) (Eu hb u) h2, B0 (f := Vg a d u) (g := Vg b d u) (e := Uo) (e' := Uo) (fun k x t => by
    unfold Vg
    rw [WW ha hb h1 h2]) (fun _ _ => rfl)]
theorem QG {a b : Ql} {d0 : List Yd} {u : Int} (h : ∀ n, Xf a d0 u n = Xf b d0 u n) (h' : ∀ n, Yt a d0 u n = Yt b d0 u n) : ∀ (l : List Yd) (k : Nat), Xp (V1 a b d0 u) Hi l k [] = .brk []
  | [], k => rfl
  | x :: l, k => by
    simp only [Xp, V1]
    rw [h, h', JK, decide_eq_true rfl, beq_self_eq_true]
    exact QG h h' l (k + 1)
theorem QH (a : Ql) (d : List Yd) (u : Int) : Xu a a d u = [] := by
  unfold Xu
  rw [QG (fun _ => rfl) (fun _ => rfl)]
  cases (!(Jd a a u)) <;> rfl
theorem Qbs {a b : Ql} (d : List Yd) (u : Int) (ha : Qz a = true) (hb : Qz b = true) : Xu a b d u = [] := by
  unfold Xu
  cases hq : Jd a b u with
  | false => rfl
  | true =>
    obtain ⟨h1, h2⟩ := (YS a b u).1 hq
    rw [QG (fun n => Ru ha hb h2 d n) (fun n => WW ha hb h1 h2 d n)]
    rfl
end Go.Proofs.YtkbfhiamdcoieaaGreatDoor
namespace Go.Proofs.YtkbfhiamdcoieaaGreatDoor
open Go.RowKit
theorem YU : ∀ (r : List Qr) (k : Nat) (a : List Int), ∃ m, Xp Aw Ax r k a = .brk m ∧ ∀ y, y ∈ m → y ∈ a ∨ ∃ z, z ∈ r ∧ y ∈ z.2
  | [], k, a => ⟨a, rfl, fun y hy => .inl hy⟩
  | z :: r, k, a => by
    obtain ⟨m, h1, h2⟩ := YU r (k + 1) (a ++ z.2)
    refine ⟨m, h1, fun y hy => ?_⟩
    rcases h2 y hy with h | ⟨w, hw, h⟩
    · rcases List.mem_append.1 h with h | h
      · exact .inl h
      exact .inr ⟨z, List.mem_cons_self .., h⟩
    exact .inr ⟨w, List.mem_cons_of_mem _ hw, h⟩
theorem LT {s : Ql} {d : List Yd} {u x : Int} (h : x ∈ Yk s d u) : ∃ z, z ∈ (Qt s d u).1 ∧ x ∈ z.2 := by
  unfold Yk at h
  obtain ⟨m, h1, h2⟩ := YU ((Qt s d u)).1 0 []
  rw [h1] at h
  simp only [Out.on] at h
  rw [WT, Rc] at h
  rcases h with h | h
  · rcases h2 x h with h | h
    · cases h
    exact h
  cases h
theorem Qaf {s : Ql} {d : List Yd} {u : Int} {z : Qr} (h : z ∈ (Qt s d u).1) : Qz s = true ∧ ∀ x, x ∈ z.2 → ∃ f, f ∈ (Qi s u).2.1 ∧ f.1 = x := by
  unfold Qt at h
  cases hv : Qz s with
  | false => rw [hv] at h; simp at h
  | true =>
    rw [hv] at h
    cases hu : Ki u with
    | false => rw [hu] at h; simp at h
    | true =>
      rw [hu] at h
      simp only [Bool.not_true, Bool.or_false, cond_false] at h
      refine ⟨rfl, fun x hx => ?_⟩
      cases he : (Z0 (Qi s u) d).2 with
      | false => rw [T3 he] at h; cases h
      | true =>
        obtain ⟨_, _, _, h4⟩ := T2 he
        obtain ⟨p, hp⟩ := h4 z h
        rw [hp] at hx
        exact RN hx
theorem RR (n : Int) : ∀ (l : List Q9) (k : Nat) {a : Q9}, a ∈ l → a.1 = n → ∃ (i : Nat) (b : Q9), l[i]? = some b ∧ b.1 = n ∧ Xp (X5 n) Yv l k () = .ret (((k + i : Nat)) : Int)
  | [], k, a, ha, _ => by cases ha
  | x :: l, k, a, ha, hn => by
    simp only [Xp, X5]
    by_cases hx : x.1 = n
    · have e : Us x n = true := beq_iff_eq.2 hx
      rw [e]; exact ⟨0, x, rfl, hx, rfl⟩
    have e : Us x n = false := beq_eq_false_iff_ne.2 hx
    rw [e]
    simp only [cond_false]
    have ha' : a ∈ l := by
      rcases List.mem_cons.1 ha with h | h
      · subst h; exact absurd hn hx
      exact h
    obtain ⟨i, b, h1, h2, h3⟩ := RR n l (k + 1) ha' hn
    exact ⟨i + 1, b, by simpa using h1, h2, by rw [h3, show k + 1 + i = k + (i + 1) by omega]⟩
theorem Qag {l : List Q9} (h : l.Pairwise fun a b => a.1 < b.1) {a b : Q9} (ha : a ∈ l) (hb : b ∈ l) (e : a.1 = b.1) : a = b := by
  obtain ⟨i, hi, rfl⟩ := List.getElem_of_mem ha
  obtain ⟨j, hj, rfl⟩ := List.getElem_of_mem hb
  have hp := List.pairwise_iff_getElem.1 h
  rcases Nat.lt_trichotomy i j with hij | hij | hij
  · have := hp i j hi hj hij; omega
  · subst hij; rfl
  have := hp j i hj hi hij; omega
theorem Qah {s : Ql} {a : Q9} (hv : VS s) (ha : a ∈ s.2.1) : (Y8 s a.1).1 = a := by
  obtain ⟨i, b, h1, h2, h3⟩ := RR a.1 s.2.1 0 ha rfl
  have hb : b = a := Qag (JR hv.asc) (List.mem_of_getElem? h1) ha h2
  have hf : Z7 s a.1 = ((i : Nat) : Int) := by
    unfold Z7 Z1
    rw [h3, Nat.zero_add]; rfl
  rw [T9]
  unfold Q3
  rw [hf, decide_eq_true (show ((i : Nat) : Int) ≥ 0 by omega)]
  simp only [cond_true, Int.toNat_natCast]
  rw [Ip h1]
  exact hb
theorem AU {s : Ql} {d : List Yd} {u x : Int} (h : x ∈ Yk s d u) : J8 (Y8 s x).1 u = true := by
  obtain ⟨z, hz, hx⟩ := LT h
  obtain ⟨hv, hr⟩ := Qaf hz
  obtain ⟨f, hf, e⟩ := hr x hx
  have hvs := Qbq ((Ib s).trans hv)
  obtain ⟨y, hy, hl, hs⟩ := Ii s u
  rw [hy] at hf
  obtain ⟨i, hi⟩ := List.getElem?_of_mem hf
  have hil : i < (s.2.1.filter fun f => Kt f u).length := by rw [← hl]; exact (List.getElem?_eq_some_iff.1 hi).1
  have hg := List.getElem?_eq_getElem hil
  have hsh := hs i _ f hg hi
  have hm := List.mem_filter.1 (List.mem_of_getElem? hg)
  generalize (s.2.1.filter fun f => Kt f u)[i] = a at hsh hm
  have ea : a.1 = x := hsh.1.symm.trans e
  rw [← ea, Qah hvs hm.1]
  exact hm.2
theorem LU (s : Ql) (u : Int) : Zl s u = Zk s u := by
  unfold Zl Zk
  rw [Ex (f := Cq u) (g := Co u) (e := Cr) (e' := Cp) (fun _ _ => rfl) s.2.1 0 _ (fun i a t _ => rfl)]
theorem Gb (l : List ByteArray) : Yx l l = true := by
  unfold Yx
  rw [E7 l 0 (fun i a hi => by
    unfold A0
    rw [Nat.zero_add, Ip hi]
    simp)]
  simp [Out.on]
theorem O8 (l : List Int) : Zo l l = true := by
  unfold Zo
  rw [E7 l 0 (fun i a hi => by
    unfold Ct
    rw [Nat.zero_add, Ip hi]
    simp)]
  simp [Out.on]
open GoE (enc wide)
def Y2 (code : (List UInt8)) (ci : Nat) (ch : Int) (n : Int) : Bool × Nat × Int := (lt (α := Int × Nat × Int) (Qk code ci ch n) (fun x1 => ((x1.1 == (0 : Int)), x1.2.1, x1.2.2)))
theorem K5 (code : (List UInt8)) (ci : Nat) (ch : Int) (n : Int) : AGive Tryz.prog 72 [.h code, .i ((ci : Nat) : Int), .i ch] [.i n] (.b (((Y2 code ci ch n)).1)) [.h code, .i ((((Y2 code ci ch n)).2.1 : Nat) : Int), .i (((Y2 code ci ch n)).2.2)] := by
 refine Ky (tt := tt) Qb Tryz.func72 (fn := Tryz.f72) rfl (by unfold Dq; kernel_rfl) (Nat.le_of_ble_eq_true rfl) (Nat.le_of_ble_eq_true rfl) rfl rfl fun w0 F0 hG => ?_
 refine sn Qb [0, 1, 4] [60000] (p0) ?_
 obtain ⟨x1, hx1⟩ : ∃ z : Int × Nat × Int, Qk code ci ch n = z := ⟨_, rfl⟩
 have hbx1 := hx1 ▸ Q0 code ci ch n
 refine tn Qb [0, 4] [60000] (po 2 (.give none (.i x1.1) [.h code, .i ((x1.2.1 : Nat) : Int), .i x1.2.2]) (px (Q8 (hx1 ▸ Xc code ci ch n)) p0)) ?_
 refine Qg ?_
 have hE2 : Y2 code ci ch n = ((x1.1 == (0 : Int)), x1.2.1, x1.2.2) := Yn hx1 (rfl)
 exact Hl [] (congrArg (fun z => (.b z.1 : AV)) hE2.symm) (congrArg (fun z => ([.h code, .i ((z.2.1 : Nat) : Int), .i z.2.2] : List C)) hE2.symm)
def X6 (n : Int) : Kg := (1, n, ⟨#[]⟩)
theorem U3 (n : Int) : ACalls Tryz.prog 127 [.i n] (.a [.i ((X6 n).1), .i ((X6 n).2.1), .s ((X6 n).2.2)]) := by
 refine en Qb Tryz.func127 fun w0 F0 hG => ?_
 refine sn Qb [0, 2] [2] (p0) ?_
 refine tn Qb [2] [2] (p0) ?_
 refine Qg ?_
 exact pz [] (show X6 n = (1, n, ⟨#[]⟩) from rfl) (fun z => .a [.i z.1, .i z.2.1, .s z.2.2])
def Dl (name : ByteArray) (_ : Nat) (a0 : Uc) (s0 : (List Uc)) : Rd (Q9) ((List Uc)) ((List Uc)) := (bif (!(a0.1.toList == name.toList)) then (.next (s0 ++ [a0])) else (.next s0))
def U4 (_ : Nat) (s0 : (List Uc)) : (List Uc) := s0
def U5 (name : ByteArray) (k1 : Nat) (a1 : Uc) (_ : Unit) : Rd (Q9) (Unit) (Int) := (bif (Op.bytesLess a1.1.toList name.toList || a1.1.toList == name.toList) then (.next ()) else (.brk ((k1 : Nat) : Int)))
def Dm (k1 : Nat) (_ : Unit) : Int := ((k1 : Nat) : Int)
def Xk (f : Q9) (name : ByteArray) (v : Kg) : Q9 := (Out.on (Xp (Dl name) U4 f.2.2.2.2 0 []) (fun y0 => (bif (v.1 != (0 : Int)) then (Out.on (Xp (U5 name) Dm y0 0 ()) (fun y1 => (f.1, f.2.1, f.2.2.1, f.2.2.2.1, List.take (Int.toNat y1) y0 ++ [(name, v)] ++ (List.drop (Int.toNat y1) y0)))) else (f.1, f.2.1, f.2.2.1, f.2.2.2.1, y0))))
theorem WX (f : Q9) (name : ByteArray) (v : Kg) : List.length (Xk f name v).2.2.2.2 ≤ List.length f.2.2.2.2 + 1 := by
  unfold Xk
  rw [C1 (f := Dl name) (e := U4) (p := fun a => !(a.1.toList == name.toList)) (g := id) (fun _ _ _ => rfl)]
  simp only [Out.on, U4, List.nil_append, List.map_id]
  have hf := List.length_filter_le (fun a : Uc => !(a.1.toList == name.toList)) f.2.2.2.2
  generalize List.filter (fun a : Uc => !(a.1.toList == name.toList)) f.2.2.2.2 = l at hf
  cases (v.1 != (0 : Int)) with
  | false => exact Nat.le_succ_of_le hf
  | true =>
    simp only [cond_true]
    obtain ⟨t, ht⟩ := P6 (f := U5 name) (e := Dm) (fun k a s r => by
      unfold U5
      generalize (Op.bytesLess a.1.toList name.toList || a.1.toList == name.toList) = c
      cases c <;> simp) l 0 ()
    rw [ht]
    · show (List.take (Int.toNat t) l ++ [(name, v)] ++ List.drop (Int.toNat t) l).length ≤ _
      simp
      omega
theorem QI {c : Bool} {α : Type} {t : α} {F : Q9} {nm : ByteArray} {V : α → Kg} {A : α → Nat × Int} {B : Nat × Int} : List.length (bif c then lt t (fun x => (Xk F nm (V x), A x)) else (F, B)).1.2.2.2.2 ≤ F.2.2.2.2.length + 1 := by
 cases c with
 | true => exact WX _ _ _
 | false => exact Nat.le_succ _
theorem Cu (f : Q9) (name : ByteArray) (v : Kg) (hp : List.length f.2.2.2.2 ≤ 1073741000) : ACalls Tryz.prog 124 [.a [.i f.1, .i f.2.1, .b f.2.2.1, .i f.2.2.2.1, .h f.2.2.2.2], .s name, .a [.i v.1, .i v.2.1, .s v.2.2]] (.a [.i ((Xk f name v).1), .i ((Xk f name v).2.1), .b ((Xk f name v).2.2.1), .i ((Xk f name v).2.2.2.1), .o 0 ((Xk f name v).2.2.2.2)]) := by
 refine en Qb Tryz.func124 fun w0 F0 hG => ?_
 refine sn Qb [1, 3, 5, 6] [3, 5, 6] (p0) ?_
 refine tn Qb [1, 3, 5, 6, 7] [3, 5, 6] (p0) ?_
 refine Qe (tu Qb [(3, .p 3 0), (5, .p 5 0), (6, .p 6 0), (7, .one (.slc (.own true 704) 4 [])), (8, .i 0)] [0, 2] [(3, [.i f.1, .i f.2.1, .b f.2.2.1, .i f.2.2.2.1, .h f.2.2.2.2]), (5, [.i v.1, .i v.2.1, .s v.2.2]), (6, [.i 0, .i 0, .b false, .i 0, .e 4])] [] (p0) ?_)
 refine wB 3 4 .sh f.2.2.2.2 (fun hw1 hl2 => ?_)
 refine TJ (Dl name) U4 f.2.2.2.2 [] (fun k0 s0 => [(7, .o 147204 s0), (8, .i ((k0 : Nat) : Int))]) [7, 8] (fun y0 => [(7, .o 147354 y0)]) [7, 8] (fun k0 s0 => List.length s0 ≤ k0) (fun y0 => List.length y0 ≤ List.length f.2.2.2.2) (X2 [(704, 147204)] (by kernel_rfl)) (by simp) (fun k0 s0 hk0 hI0 => ?_) (fun k0 s0 hk0 hI0 => ?_) (fun y0 hD0 => ?_)
 ·
  have hA0_0 := hI0.2
  obtain ⟨a0, hx0⟩ := Xm (l := f.2.2.2.2) (i := k0) hk0
  refine Qe (su Qb [(16, .b true)] [] [] [] (pl 3 f.2.2.2.2 (pe 4 (Qo (decide_eq_true (p := ((k0 : Nat) : Int) < (f.2.2.2.2.length : Int)) (by omega))) p0)) ?_)
  refine ckT ?_
  refine Qh ?_
  refine Qe (Qs ?_)
  refine sn Qb [1, 3, 5, 6, 7, 8, 26] [3, 5, 6] (pn 3 hx0 p0) ?_
  refine ck (!(a0.1.toList == name.toList)) (fun h3 => ?_) (fun h3 => ?_)
  ·
   refine wT 7 0 (.own true 147204) s0 (fun hw4 hl5 => ?_)
   refine qu Qb [(7, .one (.slc (.own true 2176) 4 ((eL s0) ++ [[.s a0.1, .i a0.2.1, .i a0.2.2.1, .s a0.2.2.2]])))] [7, 16] [] [] (pn 4 hx0 (pa s0 [a0] p0)) ?_
   refine eqn [(7, .o 2176 (s0 ++ [a0]))] [7] [] [] (by rw [show ((eL s0) ++ [[.s a0.1, .i a0.2.1, .i a0.2.2.1, .s a0.2.2.2]]) = (eL (s0 ++ [a0])) from Kj (rfl) (rfl)]; first | done | kernel_rfl) ?_
   refine rn Qb [1, 3, 5, 6, 7, 8] [3, 5, 6] (pe 1 (Jn (Qp k0 (by omega))) p0) ?_
   exact Exists.intro (s0 ++ [a0]) (And.intro (X2 [(2176, 147204)] (by kernel_rfl)) ⟨Qx hx0 (Q6 h3 (rfl)) hI0.1, by first | omega | (simp; omega) | simp⟩)
  refine Qh ?_
  refine qn Qb [1, 3, 5, 6, 7, 8] [3, 5, 6] (pe 1 (Jn (Qp k0 (by omega))) p0) ?_
  exact Exists.intro s0 (And.intro (Qd (by kernel_rfl)) ⟨Qx hx0 (Qm h3 (rfl)) hI0.1, by first | omega | (simp; omega) | simp⟩)
 ·
  have hA0_0 := hI0.2
  refine Qe (su Qb [(16, .b false)] [] [] [] (pl 3 f.2.2.2.2 (pe 4 (Qo (decide_eq_false (p := ((k0 : Nat) : Int) < (f.2.2.2.2.length : Int)) (by omega))) p0)) ?_)
  refine ckF ?_
  refine Q5 ?_
  exact Exists.intro s0 (And.intro (X2 [(147204, 147354)] (by kernel_rfl)) ⟨Xn hk0 (rfl) hI0.1, by first | omega | (simp only [List.length_set]; omega)⟩)
 have hD0_0 := hD0.2
 refine Qe (sn Qb [1, 3, 5, 6, 7, 37] [3, 5, 6] (p0) ?_)
 refine ck (v.1 != (0 : Int)) (fun h6 => ?_) (fun h6 => ?_)
 ·
  have h6d := Oc h6
  refine tu Qb [(9, .i 0)] [] [] [] (p0) ?_
  refine Qe ?_
  refine wT 7 0 (.own true 147354) y0 (fun hw7 hl8 => ?_)
  refine Qci (U5 name) Dm y0 () (fun k1 _ => [(9, .i ((k1 : Nat) : Int))]) [9] (fun y1 => [(9, .i y1)]) [9] (fun y1 => 0 ≤ y1 ∧ y1 ≤ (y0.length : Int)) (Qd (by kernel_rfl)) (fun k1 s1 hk1 hI1 => ?_) (fun k1 s1 hk1 hI1 => ?_) (fun y1 hD1 => ?_)
  ·
   obtain ⟨a1, hx1⟩ := Xm (l := y0) (i := k1) hk1
   refine Qe (sn Qb [1, 3, 5, 6, 7, 9, 50] [3, 5, 6] (pl 2 y0 (pe 3 (Qo (decide_eq_true (p := ((k1 : Nat) : Int) < (y0.length : Int)) (by omega))) (pN 7 hx1 p0))) ?_)
   refine ck (Op.bytesLess a1.1.toList name.toList || a1.1.toList == name.toList) (fun h9 => ?_) (fun h9 => ?_)
   ·
    refine Qh ?_
    refine Qs ?_
    refine qn Qb [1, 3, 5, 6, 7, 9] [3, 5, 6] (pe 1 (Jn (Qp k1 (by omega))) p0) ?_
    exact Exists.intro _ (And.intro (Qd (by kernel_rfl)) (Qx hx1 (Q6 h9 (rfl)) hI1))
   refine Q5 ?_
   exact Exists.intro ((k1 : Nat) : Int) (And.intro (Qd (by kernel_rfl)) ⟨R9 hx1 (Qm h9 (rfl)) hI1, by first | omega | (simp only [List.length_set]; omega)⟩)
  ·
   refine Qe (su Qb [(50, .b false)] [] [] [] (pl 2 y0 (pe 3 (Qo (decide_eq_false (p := ((k1 : Nat) : Int) < (y0.length : Int)) (by omega))) p0)) ?_)
   refine ckF ?_
   refine Q5 ?_
   exact Exists.intro ((k1 : Nat) : Int) (And.intro (Qd (by kernel_rfl)) ⟨Xn hk1 (rfl) hI1, by first | omega | (simp only [List.length_set]; omega)⟩)
  have hD1_0 := hD1.2
  have hl10 : List.length (List.take (Int.toNat y1) y0) ≤ 1073741824 := Ao (N9 (Int.toNat y1) (hw7))
  refine sU Qb Yo [(10, .one (.slc (.own true 3968) 4 (([] ++ (eL (List.take (Int.toNat y1) y0))) ++ [[.s name, .i v.1, .i v.2.1, .s v.2.2]])))] [1, 5] [] [5] (pe 3 (Pu (.vw 147354) 4 (Int.toNat y1) y1 y0 rfl) (px (Fu (lo := 0) (hi := y1) (n := (List.length (eL y0))) (YB (by omega) (by omega) (by omega))) (po 4 (.flat) (px (Ds (n := (([] : List (List PV)).length + ((eL (List.take (Int.toNat y1) y0)) : List (List PV)).length)) (Gi (rfl) (Y5 (List.take (Int.toNat y1) y0)) (by first | omega | (simp only [List.length_cons, List.length_nil]; omega) | (simp; omega) | simp))) (px (A7 (Af (List.take (Int.toNat y1) y0))) (px (Ds (n := ((([] ++ (eL (List.take (Int.toNat y1) y0))) : List (List PV)).length + ([[.s name, .i v.1, .i v.2.1, .s v.2.2]] : List (List PV)).length)) (by simp [Y5]; omega)) p0)))))) ?_
  refine eqn [(10, .o 3968 (List.take (Int.toNat y1) y0 ++ [(name, v)]))] [10] [] [] (by rw [show (([] ++ (eL (List.take (Int.toNat y1) y0))) ++ [[.s name, .i v.1, .i v.2.1, .s v.2.2]]) = (eL (List.take (Int.toNat y1) y0 ++ [(name, v)])) from Kj (rfl) (rfl)]; first | done | kernel_rfl) ?_
  refine wT 10 0 (.own true 3968) (List.take (Int.toNat y1) y0 ++ [(name, v)]) (fun hw11 hl12 => ?_)
  have hl13 : List.length (List.drop (Int.toNat y1) y0) ≤ 1073741824 := Ao (Oa (Int.toNat y1) (hw7))
  refine ru Qb [(7, .one (.slc (.own true 4288) 4 ((eL (List.take (Int.toNat y1) y0 ++ [(name, v)])) ++ (eL (List.drop (Int.toNat y1) y0)))))] [7, 9, 10] [] [] (pe 3 (ZP (.vw 147354) 4 (Int.toNat y1) y1 y0 rfl) (px (Fu (lo := y1) (hi := (((eL y0) : List (List PV)).length : Int)) (n := (List.length (eL y0))) (ZQ (by omega) (by omega))) (po 4 (.flat) (pa (List.take (Int.toNat y1) y0 ++ [(name, v)]) (List.drop (Int.toNat y1) y0) (px (A7 (Af (List.drop (Int.toNat y1) y0))) p0))))) ?_
  refine eqn [(7, .o 4288 (List.take (Int.toNat y1) y0 ++ [(name, v)] ++ (List.drop (Int.toNat y1) y0)))] [7] [] [] (by rw [show ((eL (List.take (Int.toNat y1) y0 ++ [(name, v)])) ++ (eL (List.drop (Int.toNat y1) y0))) = (eL (List.take (Int.toNat y1) y0 ++ [(name, v)] ++ (List.drop (Int.toNat y1) y0))) from Kj (rfl) (rfl)]; first | done | kernel_rfl) ?_
  refine sn Qb [3, 6] [3, 6] (p0) ?_
  refine tn Qb [6] [6] (p0) ?_
  refine Qg ?_
  exact pz [] (show Xk f name v = _ from Wc hD0.1 (Q6 h6 (Wc hD1.1 (rfl)))) (fun z => .a [.i z.1, .i z.2.1, .b z.2.2.1, .i z.2.2.2.1, .o 0 z.2.2.2.2])
 refine Qh ?_
 refine tn Qb [3, 6] [3, 6] (p0) ?_
 refine tu Qb [] [1, 3, 5, 7] [(6, [.i f.1, .i f.2.1, .b f.2.2.1, .i f.2.2.2.1, .o 147354 y0])] [3, 5, 6] (p0) ?_
 refine Qg ?_
 exact pz [] (show Xk f name v = _ from Wc hD0.1 (Qm h6 (rfl))) (fun z => .a [.i z.1, .i z.2.1, .b z.2.2.1, .i z.2.2.2.1, .o 0 z.2.2.2.2])
def Yc (code : (List UInt8)) (ci : Nat) (ch : Int) (list : (List ByteArray)) : ByteArray × Nat × Int := (lt (α := Int × Nat × Int) (Qk code ci ch (list.length : Int)) (fun x1 => ((nth list (Int.toNat x1.1)), x1.2.1, x1.2.2)))
theorem Kp (code : (List UInt8)) (ci : Nat) (ch : Int) (list : (List ByteArray)) (hp : 0 < List.length list) : AGive Tryz.prog 120 [.h code, .i ((ci : Nat) : Int), .i ch] [.h list] (.s (((Yc code ci ch list)).1)) [.h code, .i ((((Yc code ci ch list)).2.1 : Nat) : Int), .i (((Yc code ci ch list)).2.2)] := by
 refine Ky (tt := tt) Qb Tryz.func120 (fn := Tryz.f120) rfl (by unfold Dq; kernel_rfl) (Nat.le_of_ble_eq_true rfl) (Nat.le_of_ble_eq_true rfl) rfl rfl fun w0 F0 hG => ?_
 refine sn Qb [0, 1, 4] [60000] (p0) ?_
 obtain ⟨x1, hx1⟩ : ∃ z : Int × Nat × Int, Qk code ci ch (list.length : Int) = z := ⟨_, rfl⟩
 have hbx1 := hx1 ▸ Q0 code ci ch (list.length : Int)
 refine wT 1 0 .sh list (fun hw3 hl4 => ?_)
 have hx2 := ng list (Int.toNat x1.1)
 refine tn Qb [0, 4] [60000] (pl 3 list (po 4 (.give none (.i x1.1) [.h code, .i ((x1.2.1 : Nat) : Int), .i x1.2.2]) (px (Q8 (hx1 ▸ Xc code ci ch (list.length : Int))) (pg 5 x1.1 hx2 p0)))) ?_
 refine Qg ?_
 have hE5 : Yc code ci ch list = ((nth list (Int.toNat x1.1)), x1.2.1, x1.2.2) := Yn hx1 (rfl)
 exact Hl [] (congrArg (fun z => (.s z.1 : AV)) hE5.symm) (congrArg (fun z => ([.h code, .i ((z.2.1 : Nat) : Int), .i z.2.2] : List C)) hE5.symm)
def Xd (w : ByteArray) : Kg := (2, 0, w)
theorem Up (w : ByteArray) : ACalls Tryz.prog 125 [.s w] (.a [.i ((Xd w).1), .i ((Xd w).2.1), .s ((Xd w).2.2)]) := by
 refine en Qb Tryz.func125 fun w0 F0 hG => ?_
 refine sn Qb [0, 2] [2] (p0) ?_
 refine tn Qb [2] [2] (p0) ?_
 refine Qg ?_
 exact pz [] (show Xd w = (2, 0, w) from rfl) (fun z => .a [.i z.1, .i z.2.1, .s z.2.2])
def Zr (code : (List UInt8)) (ci : Nat) (ch : Int) (id : Int) : Q9 × Nat × Int := (lt (α := Int × Nat × Int) (Qk code ci ch 3) (fun x1 => (lt (α := Bool × Nat × Int) (Y2 code x1.2.1 x1.2.2 2) (fun x2 => (lt (α := Bool × Nat × Int) (Y2 code x2.2.1 x2.2.2 2) (fun x3 => (lt (α := Int × Nat × Int) (bif x3.1 then (lt (α := Int × Nat × Int) (Qk code x3.2.1 x3.2.2 7) (fun x4 => (x4.1, x4.2.1, x4.2.2))) else (0, x3.2.1, x3.2.2)) (fun x4 => (lt (α := Bool × Nat × Int) (Y2 code x4.2.1 x4.2.2 4) (fun x7 => (lt (α := Q9 × Nat × Int) (bif (!x7.1) then (lt (α := Int × Nat × Int) (Qk code x7.2.1 x7.2.2 4) (fun x8 => ((Xk (id, x1.1, x2.1, x4.1, []) ⟨#[97]⟩ (X6 x8.1)), x8.2.1, x8.2.2))) else ((id, x1.1, x2.1, x4.1, []), x7.2.1, x7.2.2)) (fun x8 => (lt (α := Bool × Nat × Int) (Y2 code x8.2.1 x8.2.2 2) (fun x11 => (lt (α := Q9 × Nat × Int) (bif x11.1 then (lt (α := Int × Nat × Int) (Qk code x11.2.1 x11.2.2 4) (fun x12 => ((Xk x8.1 ⟨#[98]⟩ (X6 x12.1)), x12.2.1, x12.2.2))) else (x8.1, x11.2.1, x11.2.2)) (fun x12 => (lt (α := Bool × Nat × Int) (Y2 code x12.2.1 x12.2.2 3) (fun x15 => (lt (α := Q9 × Nat × Int) (bif (!x15.1) then (lt (α := ByteArray × Nat × Int) (Yc code x15.2.1 x15.2.2 [⟨#[105, 110, 107]⟩, ⟨#[115, 101, 97]⟩]) (fun x16 => ((Xk x12.1 ⟨#[110]⟩ (Xd x16.1)), x16.2.1, x16.2.2))) else (x12.1, x15.2.1, x15.2.2)) (fun x16 => (lt (α := Bool × Nat × Int) (Y2 code x16.2.1 x16.2.2 2) (fun x19 => (bif x19.1 then (lt (α := ByteArray × Nat × Int) (Yc code x19.2.1 x19.2.2 [⟨#[114, 101, 100]⟩, ⟨#[98, 108, 117, 101]⟩]) (fun x21 => ((Xk x16.1 ⟨#[116]⟩ (Xd x21.1)), x21.2.1, x21.2.2))) else (x16.1, x19.2.1, x19.2.2))))))))))))))))))))))))
theorem Ev (code : (List UInt8)) (ci : Nat) (ch : Int) (id : Int) : AGive Tryz.prog 81 [.h code, .i ((ci : Nat) : Int), .i ch] [.i id] (.a [.i ((((Zr code ci ch id)).1).1), .i ((((Zr code ci ch id)).1).2.1), .b ((((Zr code ci ch id)).1).2.2.1), .i ((((Zr code ci ch id)).1).2.2.2.1), .o 0 ((((Zr code ci ch id)).1).2.2.2.2)]) [.h code, .i ((((Zr code ci ch id)).2.1 : Nat) : Int), .i (((Zr code ci ch id)).2.2)] := by
 refine Ky (tt := tt) Qb Tryz.func81 (fn := Tryz.f81) rfl (by unfold Dq; kernel_rfl) (Nat.le_of_ble_eq_true rfl) (Nat.le_of_ble_eq_true rfl) rfl rfl fun w0 F0 hG => ?_
 refine sn Qb [0, 1, 4] [4, 60000] (p0) ?_
 obtain ⟨x1, hx1⟩ : ∃ z : Int × Nat × Int, Qk code ci ch 3 = z := ⟨_, rfl⟩
 have hbx1 := hx1 ▸ Q0 code ci ch 3
 obtain ⟨x2, hx2⟩ : ∃ z : Bool × Nat × Int, Y2 code x1.2.1 x1.2.2 2 = z := ⟨_, rfl⟩
 refine tn Qb [0, 4, 5] [4, 5, 60000] (po 2 (.give none (.i x1.1) [.h code, .i ((x1.2.1 : Nat) : Int), .i x1.2.2]) (px (Q8 (hx1 ▸ Xc code ci ch 3)) (po 4 (.give none (.b x2.1) [.h code, .i ((x2.2.1 : Nat) : Int), .i x2.2.2]) (px (Q8 (hx2 ▸ K5 code x1.2.1 x1.2.2 2)) p0)))) ?_
 refine Qe ?_
 obtain ⟨x3, hx3⟩ : ∃ z : Bool × Nat × Int, Y2 code x2.2.1 x2.2.2 2 = z := ⟨_, rfl⟩
 refine tu Qb [(4, .p 4 0), (5, .p 5 0), (13, .b x3.1)] [1] [(4, [.i 0, .i 0, .b false, .i 0, .e 4]), (5, [.i id, .i x1.1, .b x2.1, .i 0, .e 4]), (60000, [.h code, .i ((x3.2.1 : Nat) : Int), .i x3.2.2])] [60000] (po 1 (.give none (.b x3.1) [.h code, .i ((x3.2.1 : Nat) : Int), .i x3.2.2]) (px (Q8 (hx3 ▸ K5 code x2.2.1 x2.2.2 2)) p0)) ?_
 obtain ⟨x4, hx4⟩ : ∃ z : Int × Nat × Int, (bif x3.1 then (lt (α := Int × Nat × Int) (Qk code x3.2.1 x3.2.2 7) (fun x4 => (x4.1, x4.2.1, x4.2.2))) else (0, x3.2.1, x3.2.2)) = z := ⟨_, rfl⟩
 refine jn [] [13] [(5, [.i id, .i x1.1, .b x2.1, .i x4.1, .e 4]), (60000, [.h code, .i ((x4.2.1 : Nat) : Int), .i x4.2.2])] [5, 60000] x3.1 (fun h5 => ?_) (fun h5 => ?_) ?_
 ·
  refine ckt h5 ?_
  obtain ⟨x6, hx6⟩ : ∃ z : Int × Nat × Int, Qk code x3.2.1 x3.2.2 7 = z := ⟨_, rfl⟩
  have hbx6 := hx6 ▸ Q0 code x3.2.1 x3.2.2 7
  refine rn Qb [0, 4, 5] [4, 5, 60000] (po 1 (.give none (.i x6.1) [.h code, .i ((x6.2.1 : Nat) : Int), .i x6.2.2]) (px (Q8 (hx6 ▸ Xc code x3.2.1 x3.2.2 7)) p0)) ?_
  obtain rfl : x4 = (x6.1, x6.2.1, x6.2.2) := hx4.symm.trans (show (bif x3.1 then (lt (α := Int × Nat × Int) (Qk code x3.2.1 x3.2.2 7) (fun x4 => (x4.1, x4.2.1, x4.2.2))) else (0, x3.2.1, x3.2.2)) = (x6.1, x6.2.1, x6.2.2) from Q6 h5 (Yn hx6 (rfl)))
  exact ⟨rfl, Qd (by kernel_rfl)⟩
 ·
  refine ckf h5 ?_
  refine Qh ?_
  obtain rfl : x4 = (0, x3.2.1, x3.2.2) := hx4.symm.trans (show (bif x3.1 then (lt (α := Int × Nat × Int) (Qk code x3.2.1 x3.2.2 7) (fun x4 => (x4.1, x4.2.1, x4.2.2))) else (0, x3.2.1, x3.2.2)) = (0, x3.2.1, x3.2.2) from Qm h5 (rfl))
  exact ⟨rfl, Qd (by kernel_rfl)⟩
 refine Qe ?_
 obtain ⟨x7, hx7⟩ : ∃ z : Bool × Nat × Int, Y2 code x4.2.1 x4.2.2 4 = z := ⟨_, rfl⟩
 refine sn Qb [0, 4, 5, 19] [4, 5, 60000] (po 1 (.give none (.b x7.1) [.h code, .i ((x7.2.1 : Nat) : Int), .i x7.2.2]) (px (Q8 (hx7 ▸ K5 code x4.2.1 x4.2.2 4)) p0)) ?_
 refine mz [(19, .b (!x7.1))] [] [(60000, [.h code, .i ((x7.2.1 : Nat) : Int), .i x7.2.2])] [60000] ?_
 obtain ⟨x8, hx8⟩ : ∃ z : Q9 × Nat × Int, (bif (!x7.1) then (lt (α := Int × Nat × Int) (Qk code x7.2.1 x7.2.2 4) (fun x8 => ((Xk (id, x1.1, x2.1, x4.1, []) ⟨#[97]⟩ (X6 x8.1)), x8.2.1, x8.2.2))) else ((id, x1.1, x2.1, x4.1, []), x7.2.1, x7.2.2)) = z := ⟨_, rfl⟩
 have hjx8 : List.length x8.1.2.2.2.2 ≤ 1 := by rw [← hx8]; exact Nat.le_trans QI (by first | omega | simp)
 refine jn [] [19] [(5, [.i x8.1.1, .i x8.1.2.1, .b x8.1.2.2.1, .i x8.1.2.2.2.1, .o 448768 x8.1.2.2.2.2]), (60000, [.h code, .i ((x8.2.1 : Nat) : Int), .i x8.2.2])] [5, 60000] (!x7.1) (fun h9 => ?_) (fun h9 => ?_) ?_
 ·
  refine ckt h9 ?_
  obtain ⟨x10, hx10⟩ : ∃ z : Int × Nat × Int, Qk code x7.2.1 x7.2.2 4 = z := ⟨_, rfl⟩
  have hbx10 := hx10 ▸ Q0 code x7.2.1 x7.2.2 4
  refine rN Qb Yo [0, 4, 5] [4, 5, 60000] (po 2 (.give none (.i x10.1) [.h code, .i ((x10.2.1 : Nat) : Int), .i x10.2.2]) (px (Q8 (hx10 ▸ Xc code x7.2.1 x7.2.2 4)) (pc 3 (U3 x10.1) (pc 4 (Cu (id, x1.1, x2.1, x4.1, []) ⟨#[97]⟩ (X6 x10.1) (by first | omega | (simp; done) | (simp; omega))) p0)))) ?_
  obtain rfl : x8 = ((Xk (id, x1.1, x2.1, x4.1, []) ⟨#[97]⟩ (X6 x10.1)), x10.2.1, x10.2.2) := hx8.symm.trans (show (bif (!x7.1) then (lt (α := Int × Nat × Int) (Qk code x7.2.1 x7.2.2 4) (fun x8 => ((Xk (id, x1.1, x2.1, x4.1, []) ⟨#[97]⟩ (X6 x8.1)), x8.2.1, x8.2.2))) else ((id, x1.1, x2.1, x4.1, []), x7.2.1, x7.2.2)) = ((Xk (id, x1.1, x2.1, x4.1, []) ⟨#[97]⟩ (X6 x10.1)), x10.2.1, x10.2.2) from Q6 h9 (Yn hx10 (rfl)))
  exact ⟨rfl, X2 [(1536, 448768)] (by kernel_rfl)⟩
 ·
  refine ckf h9 ?_
  refine Qh ?_
  obtain rfl : x8 = ((id, x1.1, x2.1, x4.1, []), x7.2.1, x7.2.2) := hx8.symm.trans (show (bif (!x7.1) then (lt (α := Int × Nat × Int) (Qk code x7.2.1 x7.2.2 4) (fun x8 => ((Xk (id, x1.1, x2.1, x4.1, []) ⟨#[97]⟩ (X6 x8.1)), x8.2.1, x8.2.2))) else ((id, x1.1, x2.1, x4.1, []), x7.2.1, x7.2.2)) = ((id, x1.1, x2.1, x4.1, []), x7.2.1, x7.2.2) from Qm h9 (rfl))
  exact ⟨rfl, Dz [(true, 5, 4, true, 320008, 4)] [] [] [(320008, 448768)] (by kernel_rfl)⟩
 refine Qe ?_
 obtain ⟨x11, hx11⟩ : ∃ z : Bool × Nat × Int, Y2 code x8.2.1 x8.2.2 2 = z := ⟨_, rfl⟩
 refine sn Qb [0, 4, 5, 26] [4, 5, 60000] (po 1 (.give none (.b x11.1) [.h code, .i ((x11.2.1 : Nat) : Int), .i x11.2.2]) (px (Q8 (hx11 ▸ K5 code x8.2.1 x8.2.2 2)) p0)) ?_
 refine mz [(26, .b x11.1)] [] [(60000, [.h code, .i ((x11.2.1 : Nat) : Int), .i x11.2.2])] [60000] ?_
 obtain ⟨x12, hx12⟩ : ∃ z : Q9 × Nat × Int, (bif x11.1 then (lt (α := Int × Nat × Int) (Qk code x11.2.1 x11.2.2 4) (fun x12 => ((Xk x8.1 ⟨#[98]⟩ (X6 x12.1)), x12.2.1, x12.2.2))) else (x8.1, x11.2.1, x11.2.2)) = z := ⟨_, rfl⟩
 have hjx12 : List.length x12.1.2.2.2.2 ≤ 2 := by rw [← hx12]; exact Nat.le_trans QI (by first | omega | simp)
 refine jn [] [26] [(5, [.i x12.1.1, .i x12.1.2.1, .b x12.1.2.2.1, .i x12.1.2.2.2.1, .o 448768 x12.1.2.2.2.2]), (60000, [.h code, .i ((x12.2.1 : Nat) : Int), .i x12.2.2])] [5, 60000] x11.1 (fun h13 => ?_) (fun h13 => ?_) ?_
 ·
  refine ckt h13 ?_
  obtain ⟨x14, hx14⟩ : ∃ z : Int × Nat × Int, Qk code x11.2.1 x11.2.2 4 = z := ⟨_, rfl⟩
  have hbx14 := hx14 ▸ Q0 code x11.2.1 x11.2.2 4
  refine rN Qb Yo [0, 4, 5] [4, 5, 60000] (po 2 (.give none (.i x14.1) [.h code, .i ((x14.2.1 : Nat) : Int), .i x14.2.2]) (px (Q8 (hx14 ▸ Xc code x11.2.1 x11.2.2 4)) (pc 3 (U3 x14.1) (pc 4 (Cu x8.1 ⟨#[98]⟩ (X6 x14.1) (by first | omega | (simp; done) | (simp; omega))) p0)))) ?_
  obtain rfl : x12 = ((Xk x8.1 ⟨#[98]⟩ (X6 x14.1)), x14.2.1, x14.2.2) := hx12.symm.trans (show (bif x11.1 then (lt (α := Int × Nat × Int) (Qk code x11.2.1 x11.2.2 4) (fun x12 => ((Xk x8.1 ⟨#[98]⟩ (X6 x12.1)), x12.2.1, x12.2.2))) else (x8.1, x11.2.1, x11.2.2)) = ((Xk x8.1 ⟨#[98]⟩ (X6 x14.1)), x14.2.1, x14.2.2) from Q6 h13 (Yn hx14 (rfl)))
  exact ⟨rfl, X2 [(1984, 448768)] (by kernel_rfl)⟩
 ·
  refine ckf h13 ?_
  refine Qh ?_
  obtain rfl : x12 = (x8.1, x11.2.1, x11.2.2) := hx12.symm.trans (show (bif x11.1 then (lt (α := Int × Nat × Int) (Qk code x11.2.1 x11.2.2 4) (fun x12 => ((Xk x8.1 ⟨#[98]⟩ (X6 x12.1)), x12.2.1, x12.2.2))) else (x8.1, x11.2.1, x11.2.2)) = (x8.1, x11.2.1, x11.2.2) from Qm h13 (rfl))
  exact ⟨rfl, Qd (by kernel_rfl)⟩
 refine Qe ?_
 obtain ⟨x15, hx15⟩ : ∃ z : Bool × Nat × Int, Y2 code x12.2.1 x12.2.2 3 = z := ⟨_, rfl⟩
 refine sn Qb [0, 4, 5, 34] [4, 5, 60000] (po 1 (.give none (.b x15.1) [.h code, .i ((x15.2.1 : Nat) : Int), .i x15.2.2]) (px (Q8 (hx15 ▸ K5 code x12.2.1 x12.2.2 3)) p0)) ?_
 refine mz [(34, .b (!x15.1))] [] [(60000, [.h code, .i ((x15.2.1 : Nat) : Int), .i x15.2.2])] [60000] ?_
 obtain ⟨x16, hx16⟩ : ∃ z : Q9 × Nat × Int, (bif (!x15.1) then (lt (α := ByteArray × Nat × Int) (Yc code x15.2.1 x15.2.2 [⟨#[105, 110, 107]⟩, ⟨#[115, 101, 97]⟩]) (fun x16 => ((Xk x12.1 ⟨#[110]⟩ (Xd x16.1)), x16.2.1, x16.2.2))) else (x12.1, x15.2.1, x15.2.2)) = z := ⟨_, rfl⟩
 have hjx16 : List.length x16.1.2.2.2.2 ≤ 3 := by rw [← hx16]; exact Nat.le_trans QI (by first | omega | simp)
 refine jn [] [34] [(5, [.i x16.1.1, .i x16.1.2.1, .b x16.1.2.2.1, .i x16.1.2.2.2.1, .o 448768 x16.1.2.2.2.2]), (60000, [.h code, .i ((x16.2.1 : Nat) : Int), .i x16.2.2])] [5, 60000] (!x15.1) (fun h17 => ?_) (fun h17 => ?_) ?_
 ·
  refine ckt h17 ?_
  obtain ⟨x18, hx18⟩ : ∃ z : ByteArray × Nat × Int, Yc code x15.2.1 x15.2.2 [⟨#[105, 110, 107]⟩, ⟨#[115, 101, 97]⟩] = z := ⟨_, rfl⟩
  refine rN Qb Yo [0, 4, 5] [4, 5, 60000] (po 3 (.give none (.s x18.1) [.h code, .i ((x18.2.1 : Nat) : Int), .i x18.2.2]) (px (Q8 (hx18 ▸ Kp code x15.2.1 x15.2.2 [⟨#[105, 110, 107]⟩, ⟨#[115, 101, 97]⟩] (Nat.zero_lt_succ _))) (pc 4 (Up x18.1) (pc 5 (Cu x12.1 ⟨#[110]⟩ (Xd x18.1) (by first | omega | (simp; done) | (simp; omega))) p0)))) ?_
  obtain rfl : x16 = ((Xk x12.1 ⟨#[110]⟩ (Xd x18.1)), x18.2.1, x18.2.2) := hx16.symm.trans (show (bif (!x15.1) then (lt (α := ByteArray × Nat × Int) (Yc code x15.2.1 x15.2.2 [⟨#[105, 110, 107]⟩, ⟨#[115, 101, 97]⟩]) (fun x16 => ((Xk x12.1 ⟨#[110]⟩ (Xd x16.1)), x16.2.1, x16.2.2))) else (x12.1, x15.2.1, x15.2.2)) = ((Xk x12.1 ⟨#[110]⟩ (Xd x18.1)), x18.2.1, x18.2.2) from Q6 h17 (Yn hx18 (rfl)))
  exact ⟨rfl, X2 [(2560, 448768)] (by kernel_rfl)⟩
 ·
  refine ckf h17 ?_
  refine Qh ?_
  obtain rfl : x16 = (x12.1, x15.2.1, x15.2.2) := hx16.symm.trans (show (bif (!x15.1) then (lt (α := ByteArray × Nat × Int) (Yc code x15.2.1 x15.2.2 [⟨#[105, 110, 107]⟩, ⟨#[115, 101, 97]⟩]) (fun x16 => ((Xk x12.1 ⟨#[110]⟩ (Xd x16.1)), x16.2.1, x16.2.2))) else (x12.1, x15.2.1, x15.2.2)) = (x12.1, x15.2.1, x15.2.2) from Qm h17 (rfl))
  exact ⟨rfl, Qd (by kernel_rfl)⟩
 refine Qe ?_
 obtain ⟨x19, hx19⟩ : ∃ z : Bool × Nat × Int, Y2 code x16.2.1 x16.2.2 2 = z := ⟨_, rfl⟩
 refine sn Qb [0, 4, 5, 42] [4, 5, 60000] (po 1 (.give none (.b x19.1) [.h code, .i ((x19.2.1 : Nat) : Int), .i x19.2.2]) (px (Q8 (hx19 ▸ K5 code x16.2.1 x16.2.2 2)) p0)) ?_
 refine ck x19.1 (fun h20 => ?_) (fun h20 => ?_)
 ·
  obtain ⟨x21, hx21⟩ : ∃ z : ByteArray × Nat × Int, Yc code x19.2.1 x19.2.2 [⟨#[114, 101, 100]⟩, ⟨#[98, 108, 117, 101]⟩] = z := ⟨_, rfl⟩
  refine qN Qb Yo [0, 4, 5] [4, 5, 60000] (po 3 (.give none (.s x21.1) [.h code, .i ((x21.2.1 : Nat) : Int), .i x21.2.2]) (px (Q8 (hx21 ▸ Kp code x19.2.1 x19.2.2 [⟨#[114, 101, 100]⟩, ⟨#[98, 108, 117, 101]⟩] (Nat.zero_lt_succ _))) (pc 4 (Up x21.1) (pc 5 (Cu x16.1 ⟨#[116]⟩ (Xd x21.1) (by first | omega | (simp; done) | (simp; omega))) p0)))) ?_
  refine tu Qb [] [5] [(4, [.i ((Xk x16.1 ⟨#[116]⟩ (Xd x21.1)).1), .i ((Xk x16.1 ⟨#[116]⟩ (Xd x21.1)).2.1), .b ((Xk x16.1 ⟨#[116]⟩ (Xd x21.1)).2.2.1), .i ((Xk x16.1 ⟨#[116]⟩ (Xd x21.1)).2.2.2.1), .o 3072 ((Xk x16.1 ⟨#[116]⟩ (Xd x21.1)).2.2.2.2)]), (60000, [.h code, .i ((x21.2.1 : Nat) : Int), .i x21.2.2])] [4, 5, 60000] (p0) ?_
  refine Qg ?_
  have hE22 : Zr code ci ch id = ((Xk x16.1 ⟨#[116]⟩ (Xd x21.1)), x21.2.1, x21.2.2) := Yn hx1 (Yn hx2 (Yn hx3 (Yn hx4 (Yn hx7 (Yn hx8 (Yn hx11 (Yn hx12 (Yn hx15 (Yn hx16 (Yn hx19 (Q6 h20 (Yn hx21 (rfl)))))))))))))
  exact Hl [] (congrArg (fun z => (.a [.i z.1.1, .i z.1.2.1, .b z.1.2.2.1, .i z.1.2.2.2.1, .o 0 z.1.2.2.2.2] : AV)) hE22.symm) (congrArg (fun z => ([.h code, .i ((z.2.1 : Nat) : Int), .i z.2.2] : List C)) hE22.symm)
 refine Qh ?_
 refine tn Qb [0, 4] [4, 60000] (p0) ?_
 refine Qg ?_
 have hE23 : Zr code ci ch id = (x16.1, x19.2.1, x19.2.2) := Yn hx1 (Yn hx2 (Yn hx3 (Yn hx4 (Yn hx7 (Yn hx8 (Yn hx11 (Yn hx12 (Yn hx15 (Yn hx16 (Yn hx19 (Qm h20 (rfl))))))))))))
 exact Hl [] (congrArg (fun z => (.a [.i z.1.1, .i z.1.2.1, .b z.1.2.2.1, .i z.1.2.2.2.1, .o 0 z.1.2.2.2.2] : AV)) hE23.symm) (congrArg (fun z => ([.h code, .i ((z.2.1 : Nat) : Int), .i z.2.2] : List C)) hE23.symm)
def Qv : (List Yq) := [((⟨#[97]⟩, 1) : Yq), ((⟨#[98]⟩, 1) : Yq), ((⟨#[110]⟩, 2) : Yq), ((⟨#[116]⟩, 2) : Yq)]
theorem Mu : ACalls Tryz.prog 114 [] (.o 0 Qv) := by
 refine en Qb Tryz.func114 fun w0 F0 hG => ?_
 refine sn Qb [0] [] (p0) ?_
 refine tn Qb [0] [] (p0) ?_
 refine Qg ?_
 exact po0 [] (show Qv = [((⟨#[97]⟩, 1) : Yq), ((⟨#[98]⟩, 1) : Yq), ((⟨#[110]⟩, 2) : Yq), ((⟨#[116]⟩, 2) : Yq)] from rfl)
def Jj (code : (List UInt8)) (s0 : Int × Ql × Nat × Int) : Rd (Ql × Nat × Int) (Int × Ql × Nat × Int) (Ql × Nat × Int) := (lt (α := Int × Nat × Int) (Qk code s0.2.2.1 s0.2.2.2 7) (fun x1 => (bif decide (s0.1 < IntKind.i64.wrap (1 + x1.1)) then (lt (α := Q9 × Nat × Int) (Zr code x1.2.1 x1.2.2 1) (fun x3 => (.next (IntKind.i64.wrap (s0.1 + 1), (((Xv s0.2.1 x3.1)).1), x3.2.1, x3.2.2)))) else (.brk (s0.2.1, x1.2.1, x1.2.2)))))
def Z2 (code : (List UInt8)) (ci : Nat) (ch : Int) : Ql × Nat × Int := (Out.on (Fp (Jj code) 8 (0, (Z9 Qv), ci, ch)) (fun y0 => (bif decide ((y0.1.2.1.length : Int) > (2 : Int)) then (lt (α := Bool × Nat × Int) (Y2 code y0.2.1 y0.2.2 3) (fun x5 => (bif x5.1 then ((((Yw y0.1 ((nth y0.1.2.1 1).1))).1), x5.2.1, x5.2.2) else (y0.1, x5.2.1, x5.2.2)))) else (y0.1, y0.2.1, y0.2.2))))
theorem Mv (code : List UInt8) (ci : Nat) (ch : Int) (s : Ql) : (whl (Jj code) 8 (0, s, ci, ch)).isSome = true :=
  BV (fun s => s.1) 7 (fun s s' h0 h => by
    unfold Jj lt at h
    have hb := Q0 code s.2.2.1 s.2.2.2 7
    generalize Qk code s.2.2.1 s.2.2.2 7 = x at h hb
    have e : IntKind.i64.wrap (1 + x.1) = 1 + x.1 := IntWalk.i64_in _ (by omega)
    simp only [e] at h
    by_cases hc : s.1 < 1 + x.1
    · simp only [decide_eq_true hc, cond_true] at h
      have h := Rd.next.inj h
      rw [← h]
      exact ⟨by omega, IntWalk.i64_in _ (by omega)⟩
    simp only [decide_eq_false hc, cond_false] at h
    cases h) 7 _ (Int.le_refl 0) (by show (7 : Int) ≤ 0 + 7; omega)
theorem Gc (code : (List UInt8)) (ci : Nat) (ch : Int) : AGive Tryz.prog 70 [.h code, .i ((ci : Nat) : Int), .i ch] [] (.a [.o 0 ((((Z2 code ci ch)).1).1), .q 1 ((((Z2 code ci ch)).1).2.1), .i ((((Z2 code ci ch)).1).2.2)]) [.h code, .i ((((Z2 code ci ch)).2.1 : Nat) : Int), .i (((Z2 code ci ch)).2.2)] := by
 refine Ky (tt := tt) Qb Tryz.func70 (fn := Tryz.f70) rfl (by unfold Dq; kernel_rfl) (Nat.le_of_ble_eq_true rfl) (Nat.le_of_ble_eq_true rfl) rfl rfl fun w0 F0 hG => ?_
 refine sn Qb [0, 2] [2, 60000] (p0) ?_
 refine tn Qb [0, 2, 3] [2, 3, 60000] (pc 0 (Mu) (pc 1 (QZ Qv) p0)) ?_
 refine Qe (tu Qb [(2, .p 2 0), (3, .p 3 0), (4, .i 0)] [] [(2, [.e 2, .e 5, .i 0]), (3, [.o 384 ((Z9 Qv).1), .o 385 ((Z9 Qv).2.1), .i ((Z9 Qv).2.2)])] [] (p0) ?_)
 refine blw (fun (s0 : Int × Ql × Nat × Int) => [(4, .i s0.1)]) [4] (fun s0 => [(3, [.o 147207 s0.2.1.1, .o 147208 s0.2.1.2.1, .i s0.2.1.2.2]), (60000, [.h code, .i ((s0.2.2.1 : Nat) : Int), .i s0.2.2.2])]) [3, 60000] (fun (y0 : Ql × Nat × Int) => []) [4] (fun y0 => [(3, [.o 147357 y0.1.1, .o 147358 y0.1.2.1, .i y0.1.2.2]), (60000, [.h code, .i ((y0.2.1 : Nat) : Int), .i y0.2.2])]) [3, 60000] (fun (k0 : Nat) (s0 : Int × Ql × Nat × Int) => whl (Jj code) k0 s0 = some (Fp (Jj code) 8 (0, (Z9 Qv), ci, ch))) (fun (y0 : Ql × Nat × Int) => (Fp (Jj code) 8 (0, (Z9 Qv), ci, ch)) = .brk y0) 8 (0, (Z9 Qv), ci, ch) (X2 [(384, 147207), (385, 147208)] (by kernel_rfl)) (De (Mv code ci ch _)) (fun _ h => Ej h) (fun k0 s0 hI0 => ?_) (fun y0 hD0 => ?_)
 ·
  refine Qe ?_
  obtain ⟨x1, hx1⟩ : ∃ z : Int × Nat × Int, Qk code s0.2.2.1 s0.2.2.2 7 = z := ⟨_, rfl⟩
  have hbx1 := hx1 ▸ Q0 code s0.2.2.1 s0.2.2.2 7
  refine sn Qb [0, 2, 3, 4, 11] [2, 3, 60000] (po 2 (.give none (.i x1.1) [.h code, .i ((x1.2.1 : Nat) : Int), .i x1.2.2]) (px (Q8 (hx1 ▸ Xc code s0.2.2.1 s0.2.2.2 7)) p0)) ?_
  refine ck (decide (s0.1 < IntKind.i64.wrap (1 + x1.1))) (fun h2 => ?_) (fun h2 => ?_)
  ·
   refine Qh ?_
   refine Qe (Qs ?_)
   obtain ⟨x3, hx3⟩ : ∃ z : Q9 × Nat × Int, Zr code x1.2.1 x1.2.2 1 = z := ⟨_, rfl⟩
   refine qN Qb Yo [0, 2, 3, 4] [2, 3, 60000] (po 2 (.give none (.a [.i x3.1.1, .i x3.1.2.1, .b x3.1.2.2.1, .i x3.1.2.2.2.1, .o 0 x3.1.2.2.2.2]) [.h code, .i ((x3.2.1 : Nat) : Int), .i x3.2.2]) (px (Q8 (hx3 ▸ Ev code x1.2.1 x1.2.2 1)) (pc 3 (D8 s0.2.1 x3.1) p0))) ?_
   refine qu Qb [(4, .i (IntKind.i64.wrap (s0.1 + 1)))] [4] [(3, [.o 1152 ((((Xv s0.2.1 x3.1)).1).1), .o 1153 ((((Xv s0.2.1 x3.1)).1).2.1), .i ((((Xv s0.2.1 x3.1)).1).2.2)]), (60000, [.h code, .i ((x3.2.1 : Nat) : Int), .i x3.2.2])] [3, 60000] (p0) ?_
   exact Exists.intro (IntKind.i64.wrap (s0.1 + 1), (((Xv s0.2.1 x3.1)).1), x3.2.1, x3.2.2) (And.intro (X2 [(1152, 147207), (1153, 147208)] (by kernel_rfl)) (wn hI0 (Yn hx1 (Q6 h2 (Yn hx3 (rfl))))))
  refine Q5 ?_
  exact Exists.intro (s0.2.1, x1.2.1, x1.2.2) (And.intro (X2 [(147207, 147357), (147208, 147358)] (by kernel_rfl)) (wb hI0 (Yn hx1 (Qm h2 (rfl)))))
 refine Qe (Qe ?_)
 refine Xl (decide ((y0.1.2.1.length : Int) > (2 : Int))) (fun h4 => ?_) (fun h4 => ?_)
 ·
  have h4d := of_decide_eq_true h4
  obtain ⟨x5, hx5⟩ : ∃ z : Bool × Nat × Int, Y2 code y0.2.1 y0.2.2 3 = z := ⟨_, rfl⟩
  refine rn Qb [0, 2, 3, 29] [2, 3, 60000] (pl 2 y0.1.2.1 (pt 3 h4 (po 6 (.give none (.b x5.1) [.h code, .i ((x5.2.1 : Nat) : Int), .i x5.2.2]) (px (Q8 (hx5 ▸ K5 code y0.2.1 y0.2.2 3)) p0)))) ?_
  refine ck x5.1 (fun h6 => ?_) (fun h6 => ?_)
  ·
   refine wB 3 1 (.own true 147358) y0.1.2.1 (fun hw8 hl9 => ?_)
   have hx7 := ng y0.1.2.1 1
   refine qN Qb Yo [0, 2, 3] [2, 3, 60000] (pG 3 1 hx7 (pc 6 (Iv y0.1 ((nth y0.1.2.1 1).1)) p0)) ?_
   refine tu Qb [] [3] [(2, [.o 2368 ((((Yw y0.1 ((nth y0.1.2.1 1).1))).1).1), .q 2369 ((((Yw y0.1 ((nth y0.1.2.1 1).1))).1).2.1), .i ((((Yw y0.1 ((nth y0.1.2.1 1).1))).1).2.2)]), (60000, [.h code, .i ((x5.2.1 : Nat) : Int), .i x5.2.2])] [2, 3, 60000] (p0) ?_
   refine Qg ?_
   have hE10 : Z2 code ci ch = ((((Yw y0.1 ((nth y0.1.2.1 1).1))).1), x5.2.1, x5.2.2) := Wc hD0 (Q6 h4 (Yn hx5 (Q6 h6 (rfl))))
   exact Hl [] (congrArg (fun z => (.a [.o 0 z.1.1, .q 1 z.1.2.1, .i z.1.2.2] : AV)) hE10.symm) (congrArg (fun z => ([.h code, .i ((z.2.1 : Nat) : Int), .i z.2.2] : List C)) hE10.symm)
  refine Qh ?_
  refine tn Qb [0, 2] [2, 60000] (p0) ?_
  refine E6 [147358] rfl ?_
  refine Qg ?_
  have hE11 : Z2 code ci ch = (y0.1, x5.2.1, x5.2.2) := Wc hD0 (Q6 h4 (Yn hx5 (Qm h6 (rfl))))
  exact Hl [] (congrArg (fun z => (.a [.o 0 z.1.1, .q 1 z.1.2.1, .i z.1.2.2] : AV)) hE11.symm) (congrArg (fun z => ([.h code, .i ((z.2.1 : Nat) : Int), .i z.2.2] : List C)) hE11.symm)
 refine ru Qb [(29, .b false)] [] [] [] (pl 2 y0.1.2.1 (pf 3 h4 p0)) ?_
 refine ckF ?_
 refine Qh ?_
 refine sn Qb [0, 2] [2, 60000] (p0) ?_
 refine E6 [147358] rfl ?_
 refine Qg ?_
 have hE12 : Z2 code ci ch = (y0.1, y0.2.1, y0.2.2) := Wc hD0 (Qm h4 (rfl))
 exact Hl [] (congrArg (fun z => (.a [.o 0 z.1.1, .q 1 z.1.2.1, .i z.1.2.2] : AV)) hE12.symm) (congrArg (fun z => ([.h code, .i ((z.2.1 : Nat) : Int), .i z.2.2] : List C)) hE12.symm)
def Wg (code : (List UInt8)) (ci : Nat) (ch : Int) : ByteArray × Nat × Int := (lt (α := ByteArray × Nat × Int) (Yc code ci ch [⟨#[100, 97]⟩, ⟨#[100, 98]⟩, ⟨#[100, 99]⟩, ⟨#[100, 100]⟩, ⟨#[100, 97]⟩, ⟨#[100, 98]⟩, ⟨#[100, 99]⟩]) (fun x1 => (x1.1, x1.2.1, x1.2.2)))
theorem Iw (code : (List UInt8)) (ci : Nat) (ch : Int) : AGive Tryz.prog 171 [.h code, .i ((ci : Nat) : Int), .i ch] [] (.s (((Wg code ci ch)).1)) [.h code, .i ((((Wg code ci ch)).2.1 : Nat) : Int), .i (((Wg code ci ch)).2.2)] := by
 refine Ky (tt := tt) Qb Tryz.func171 (fn := Tryz.f171) rfl (by unfold Dq; kernel_rfl) (Nat.le_of_ble_eq_true rfl) (Nat.le_of_ble_eq_true rfl) rfl rfl fun w0 F0 hG => ?_
 refine sn Qb [0, 2] [60000] (p0) ?_
 obtain ⟨x1, hx1⟩ : ∃ z : ByteArray × Nat × Int, Yc code ci ch [⟨#[100, 97]⟩, ⟨#[100, 98]⟩, ⟨#[100, 99]⟩, ⟨#[100, 100]⟩, ⟨#[100, 97]⟩, ⟨#[100, 98]⟩, ⟨#[100, 99]⟩] = z := ⟨_, rfl⟩
 refine tn Qb [0, 2] [60000] (po 2 (.give none (.s x1.1) [.h code, .i ((x1.2.1 : Nat) : Int), .i x1.2.2]) (px (Q8 (hx1 ▸ Kp code ci ch [⟨#[100, 97]⟩, ⟨#[100, 98]⟩, ⟨#[100, 99]⟩, ⟨#[100, 100]⟩, ⟨#[100, 97]⟩, ⟨#[100, 98]⟩, ⟨#[100, 99]⟩] (Nat.zero_lt_succ _))) p0)) ?_
 refine Qg ?_
 have hE2 : Wg code ci ch = (x1.1, x1.2.1, x1.2.2) := Yn hx1 (rfl)
 exact Hl [] (congrArg (fun z => (.s z.1 : AV)) hE2.symm) (congrArg (fun z => ([.h code, .i ((z.2.1 : Nat) : Int), .i z.2.2] : List C)) hE2.symm)
def Zn (code : (List UInt8)) (ci : Nat) (ch : Int) : X4 × Nat × Int := (lt (α := Int × Nat × Int) (Qk code ci ch 9) (fun x1 => (bif (x1.1 == (0 : Int)) then ((1, 0, 0, ⟨#[]⟩, (0, 0, ⟨#[]⟩)), x1.2.1, x1.2.2) else (bif (x1.1 == (1 : Int)) then (lt (α := ByteArray × Nat × Int) (Yc code x1.2.1 x1.2.2 [⟨#[97]⟩, ⟨#[98]⟩, ⟨#[110]⟩, ⟨#[116]⟩]) (fun x5 => ((2, 0, 0, x5.1, (0, 0, ⟨#[]⟩)), x5.2.1, x5.2.2))) else (bif (x1.1 == (2 : Int)) then (lt (α := Int × Nat × Int) (Qk code x1.2.1 x1.2.2 4) (fun x8 => ((3, 0, 0, ⟨#[97]⟩, (X6 x8.1)), x8.2.1, x8.2.2))) else (bif (x1.1 == (3 : Int)) then (lt (α := ByteArray × Nat × Int) (Yc code x1.2.1 x1.2.2 [⟨#[114, 101, 100]⟩, ⟨#[98, 108, 117, 101]⟩]) (fun x11 => ((3, 0, 0, ⟨#[116]⟩, (Xd x11.1)), x11.2.1, x11.2.2))) else (bif (x1.1 == (4 : Int)) then (lt (α := ByteArray × Nat × Int) (Yc code x1.2.1 x1.2.2 [⟨#[97]⟩, ⟨#[98]⟩]) (fun x14 => (lt (α := Int × Nat × Int) (Qk code x14.2.1 x14.2.2 3) (fun x15 => ((4, 0, 0, x14.1, (X6 (IntKind.i64.wrap (1 + x15.1)))), x15.2.1, x15.2.2))))) else (bif (bif (x1.1 == (5 : Int)) then (x1.1 == (5 : Int)) else (x1.1 == (6 : Int))) then (lt (α := ByteArray × Nat × Int) (Wg code x1.2.1 x1.2.2) (fun x19 => ((8, 0, 0, x19.1, (0, 0, ⟨#[]⟩)), x19.2.1, x19.2.2))) else (bif (x1.1 == (7 : Int)) then (lt (α := ByteArray × Nat × Int) (Wg code x1.2.1 x1.2.2) (fun x22 => ((9, 0, 0, x22.1, (0, 0, ⟨#[]⟩)), x22.2.1, x22.2.2))) else (lt (α := Int × Nat × Int) (Qk code x1.2.1 x1.2.2 4) (fun x24 => ((3, 0, 0, ⟨#[98]⟩, (X6 x24.1)), x24.2.1, x24.2.2))))))))))))
theorem Ik (code : (List UInt8)) (ci : Nat) (ch : Int) : AGive Tryz.prog 153 [.h code, .i ((ci : Nat) : Int), .i ch] [] (.a [.i ((((Zn code ci ch)).1).1), .i ((((Zn code ci ch)).1).2.1), .i ((((Zn code ci ch)).1).2.2.1), .s ((((Zn code ci ch)).1).2.2.2.1), .i ((((Zn code ci ch)).1).2.2.2.2.1), .i ((((Zn code ci ch)).1).2.2.2.2.2.1), .s ((((Zn code ci ch)).1).2.2.2.2.2.2)]) [.h code, .i ((((Zn code ci ch)).2.1 : Nat) : Int), .i (((Zn code ci ch)).2.2)] := by
 refine Ky (tt := tt) Qb Tryz.func153 (fn := Tryz.f153) rfl (by unfold Dq; kernel_rfl) (Nat.le_of_ble_eq_true rfl) (Nat.le_of_ble_eq_true rfl) rfl rfl fun w0 F0 hG => ?_
 refine sn Qb [0, 2] [2, 60000] (p0) ?_
 refine Qe ?_
 obtain ⟨x1, hx1⟩ : ∃ z : Int × Nat × Int, Qk code ci ch 9 = z := ⟨_, rfl⟩
 have hbx1 := hx1 ▸ Q0 code ci ch 9
 refine tn Qb [0, 2, 4] [2, 60000] (po 1 (.give none (.i x1.1) [.h code, .i ((x1.2.1 : Nat) : Int), .i x1.2.2]) (px (Q8 (hx1 ▸ Xc code ci ch 9)) p0)) ?_
 refine Qs ?_
 refine tu Qb [(2, .p 2 0), (4, .i x1.1), (5, .b (x1.1 == (0 : Int)))] [] [(2, [.i 0, .i 0, .i 0, .s ⟨#[]⟩, .i 0, .i 0, .s ⟨#[]⟩]), (60000, [.h code, .i ((x1.2.1 : Nat) : Int), .i x1.2.2])] [60000] (p0) ?_
 refine ck (x1.1 == (0 : Int)) (fun h2 => ?_) (fun h2 => ?_)
 ·
  refine sn Qb [0, 2] [2, 60000] (p0) ?_
  refine Qg ?_
  have hE3 : Zn code ci ch = ((1, 0, 0, ⟨#[]⟩, (0, 0, ⟨#[]⟩)), x1.2.1, x1.2.2) := Yn hx1 (Q6 h2 (rfl))
  exact Hl [] (congrArg (fun z => (.a [.i z.1.1, .i z.1.2.1, .i z.1.2.2.1, .s z.1.2.2.2.1, .i z.1.2.2.2.2.1, .i z.1.2.2.2.2.2.1, .s z.1.2.2.2.2.2.2] : AV)) hE3.symm) (congrArg (fun z => ([.h code, .i ((z.2.1 : Nat) : Int), .i z.2.2] : List C)) hE3.symm)
 refine sn Qb [0, 2, 4, 8] [2, 60000] (p0) ?_
 refine ck (x1.1 == (1 : Int)) (fun h4 => ?_) (fun h4 => ?_)
 ·
  obtain ⟨x5, hx5⟩ : ∃ z : ByteArray × Nat × Int, Yc code x1.2.1 x1.2.2 [⟨#[97]⟩, ⟨#[98]⟩, ⟨#[110]⟩, ⟨#[116]⟩] = z := ⟨_, rfl⟩
  refine tn Qb [0, 2] [2, 60000] (po 2 (.give none (.s x5.1) [.h code, .i ((x5.2.1 : Nat) : Int), .i x5.2.2]) (px (Q8 (hx5 ▸ Kp code x1.2.1 x1.2.2 [⟨#[97]⟩, ⟨#[98]⟩, ⟨#[110]⟩, ⟨#[116]⟩] (Nat.zero_lt_succ _))) p0)) ?_
  refine Qg ?_
  have hE6 : Zn code ci ch = ((2, 0, 0, x5.1, (0, 0, ⟨#[]⟩)), x5.2.1, x5.2.2) := Yn hx1 (Qm h2 (Q6 h4 (Yn hx5 (rfl))))
  exact Hl [] (congrArg (fun z => (.a [.i z.1.1, .i z.1.2.1, .i z.1.2.2.1, .s z.1.2.2.2.1, .i z.1.2.2.2.2.1, .i z.1.2.2.2.2.2.1, .s z.1.2.2.2.2.2.2] : AV)) hE6.symm) (congrArg (fun z => ([.h code, .i ((z.2.1 : Nat) : Int), .i z.2.2] : List C)) hE6.symm)
 refine tn Qb [0, 2, 4, 14] [2, 60000] (p0) ?_
 refine ck (x1.1 == (2 : Int)) (fun h7 => ?_) (fun h7 => ?_)
 ·
  obtain ⟨x8, hx8⟩ : ∃ z : Int × Nat × Int, Qk code x1.2.1 x1.2.2 4 = z := ⟨_, rfl⟩
  have hbx8 := hx8 ▸ Q0 code x1.2.1 x1.2.2 4
  refine tu Qb [] [4, 5] [(2, [.i 3, .i 0, .i 0, .s ⟨#[97]⟩, .i ((X6 x8.1).1), .i ((X6 x8.1).2.1), .s ((X6 x8.1).2.2)]), (60000, [.h code, .i ((x8.2.1 : Nat) : Int), .i x8.2.2])] [2, 60000] (po 1 (.give none (.i x8.1) [.h code, .i ((x8.2.1 : Nat) : Int), .i x8.2.2]) (px (Q8 (hx8 ▸ Xc code x1.2.1 x1.2.2 4)) (pc 2 (U3 x8.1) p0))) ?_
  refine Qg ?_
  have hE9 : Zn code ci ch = ((3, 0, 0, ⟨#[97]⟩, (X6 x8.1)), x8.2.1, x8.2.2) := Yn hx1 (Qm h2 (Qm h4 (Q6 h7 (Yn hx8 (rfl)))))
  exact Hl [] (congrArg (fun z => (.a [.i z.1.1, .i z.1.2.1, .i z.1.2.2.1, .s z.1.2.2.2.1, .i z.1.2.2.2.2.1, .i z.1.2.2.2.2.2.1, .s z.1.2.2.2.2.2.2] : AV)) hE9.symm) (congrArg (fun z => ([.h code, .i ((z.2.1 : Nat) : Int), .i z.2.2] : List C)) hE9.symm)
 refine tu Qb [(20, .b (x1.1 == (3 : Int)))] [5] [] [] (p0) ?_
 refine ck (x1.1 == (3 : Int)) (fun h10 => ?_) (fun h10 => ?_)
 ·
  obtain ⟨x11, hx11⟩ : ∃ z : ByteArray × Nat × Int, Yc code x1.2.1 x1.2.2 [⟨#[114, 101, 100]⟩, ⟨#[98, 108, 117, 101]⟩] = z := ⟨_, rfl⟩
  refine sn Qb [0, 2] [2, 60000] (po 2 (.give none (.s x11.1) [.h code, .i ((x11.2.1 : Nat) : Int), .i x11.2.2]) (px (Q8 (hx11 ▸ Kp code x1.2.1 x1.2.2 [⟨#[114, 101, 100]⟩, ⟨#[98, 108, 117, 101]⟩] (Nat.zero_lt_succ _))) (pc 3 (Up x11.1) p0))) ?_
  refine Qg ?_
  have hE12 : Zn code ci ch = ((3, 0, 0, ⟨#[116]⟩, (Xd x11.1)), x11.2.1, x11.2.2) := Yn hx1 (Qm h2 (Qm h4 (Qm h7 (Q6 h10 (Yn hx11 (rfl))))))
  exact Hl [] (congrArg (fun z => (.a [.i z.1.1, .i z.1.2.1, .i z.1.2.2.1, .s z.1.2.2.2.1, .i z.1.2.2.2.2.1, .i z.1.2.2.2.2.2.1, .s z.1.2.2.2.2.2.2] : AV)) hE12.symm) (congrArg (fun z => ([.h code, .i ((z.2.1 : Nat) : Int), .i z.2.2] : List C)) hE12.symm)
 refine sn Qb [0, 2, 4, 27] [2, 60000] (p0) ?_
 refine ck (x1.1 == (4 : Int)) (fun h13 => ?_) (fun h13 => ?_)
 ·
  obtain ⟨x14, hx14⟩ : ∃ z : ByteArray × Nat × Int, Yc code x1.2.1 x1.2.2 [⟨#[97]⟩, ⟨#[98]⟩] = z := ⟨_, rfl⟩
  obtain ⟨x15, hx15⟩ : ∃ z : Int × Nat × Int, Qk code x14.2.1 x14.2.2 3 = z := ⟨_, rfl⟩
  have hbx15 := hx15 ▸ Q0 code x14.2.1 x14.2.2 3
  refine tn Qb [0, 2] [2, 60000] (po 2 (.give none (.s x14.1) [.h code, .i ((x14.2.1 : Nat) : Int), .i x14.2.2]) (px (Q8 (hx14 ▸ Kp code x1.2.1 x1.2.2 [⟨#[97]⟩, ⟨#[98]⟩] (Nat.zero_lt_succ _))) (po 4 (.give none (.i x15.1) [.h code, .i ((x15.2.1 : Nat) : Int), .i x15.2.2]) (px (Q8 (hx15 ▸ Xc code x14.2.1 x14.2.2 3)) (pc 6 (U3 (IntKind.i64.wrap (1 + x15.1))) p0))))) ?_
  refine Qg ?_
  have hE16 : Zn code ci ch = ((4, 0, 0, x14.1, (X6 (IntKind.i64.wrap (1 + x15.1)))), x15.2.1, x15.2.2) := Yn hx1 (Qm h2 (Qm h4 (Qm h7 (Qm h10 (Q6 h13 (Yn hx14 (Yn hx15 (rfl))))))))
  exact Hl [] (congrArg (fun z => (.a [.i z.1.1, .i z.1.2.1, .i z.1.2.2.1, .s z.1.2.2.2.1, .i z.1.2.2.2.2.1, .i z.1.2.2.2.2.2.1, .s z.1.2.2.2.2.2.2] : AV)) hE16.symm) (congrArg (fun z => ([.h code, .i ((z.2.1 : Nat) : Int), .i z.2.2] : List C)) hE16.symm)
 refine Qe (tn Qb [0, 2, 4, 37] [2, 60000] (p0) ?_)
 refine mz [(37, .b (x1.1 == (5 : Int)))] [20] [] [] ?_
 refine jn [(37, .b (bif (x1.1 == (5 : Int)) then (x1.1 == (5 : Int)) else (x1.1 == (6 : Int))))] [37] [] [] (x1.1 == (5 : Int)) (fun h17 => ?_) (fun h17 => ?_) ?_
 ·
  refine ckt h17 ?_
  refine Qh ?_
  exact ⟨rfl, Qd (by rw [h17]; first | done | kernel_rfl)⟩
 ·
  refine ckf h17 ?_
  refine rn Qb [0, 2, 4, 37] [2, 60000] (p0) ?_
  exact ⟨rfl, Qd (by rw [h17]; first | done | kernel_rfl)⟩
 refine ck (bif (x1.1 == (5 : Int)) then (x1.1 == (5 : Int)) else (x1.1 == (6 : Int))) (fun h18 => ?_) (fun h18 => ?_)
 ·
  obtain ⟨x19, hx19⟩ : ∃ z : ByteArray × Nat × Int, Wg code x1.2.1 x1.2.2 = z := ⟨_, rfl⟩
  refine sn Qb [0, 2] [2, 60000] (po 1 (.give none (.s x19.1) [.h code, .i ((x19.2.1 : Nat) : Int), .i x19.2.2]) (px (Q8 (hx19 ▸ Iw code x1.2.1 x1.2.2)) p0)) ?_
  refine Qg ?_
  have hE20 : Zn code ci ch = ((8, 0, 0, x19.1, (0, 0, ⟨#[]⟩)), x19.2.1, x19.2.2) := Yn hx1 (Qm h2 (Qm h4 (Qm h7 (Qm h10 (Qm h13 (Q6 h18 (Yn hx19 (rfl))))))))
  exact Hl [] (congrArg (fun z => (.a [.i z.1.1, .i z.1.2.1, .i z.1.2.2.1, .s z.1.2.2.2.1, .i z.1.2.2.2.2.1, .i z.1.2.2.2.2.2.1, .s z.1.2.2.2.2.2.2] : AV)) hE20.symm) (congrArg (fun z => ([.h code, .i ((z.2.1 : Nat) : Int), .i z.2.2] : List C)) hE20.symm)
 refine sn Qb [0, 2, 43] [2, 60000] (p0) ?_
 refine ck (x1.1 == (7 : Int)) (fun h21 => ?_) (fun h21 => ?_)
 ·
  obtain ⟨x22, hx22⟩ : ∃ z : ByteArray × Nat × Int, Wg code x1.2.1 x1.2.2 = z := ⟨_, rfl⟩
  refine tn Qb [0, 2] [2, 60000] (po 1 (.give none (.s x22.1) [.h code, .i ((x22.2.1 : Nat) : Int), .i x22.2.2]) (px (Q8 (hx22 ▸ Iw code x1.2.1 x1.2.2)) p0)) ?_
  refine Qg ?_
  have hE23 : Zn code ci ch = ((9, 0, 0, x22.1, (0, 0, ⟨#[]⟩)), x22.2.1, x22.2.2) := Yn hx1 (Qm h2 (Qm h4 (Qm h7 (Qm h10 (Qm h13 (Qm h18 (Q6 h21 (Yn hx22 (rfl)))))))))
  exact Hl [] (congrArg (fun z => (.a [.i z.1.1, .i z.1.2.1, .i z.1.2.2.1, .s z.1.2.2.2.1, .i z.1.2.2.2.2.1, .i z.1.2.2.2.2.2.1, .s z.1.2.2.2.2.2.2] : AV)) hE23.symm) (congrArg (fun z => ([.h code, .i ((z.2.1 : Nat) : Int), .i z.2.2] : List C)) hE23.symm)
 refine Qh ?_
 obtain ⟨x24, hx24⟩ : ∃ z : Int × Nat × Int, Qk code x1.2.1 x1.2.2 4 = z := ⟨_, rfl⟩
 have hbx24 := hx24 ▸ Q0 code x1.2.1 x1.2.2 4
 refine tn Qb [0, 2] [2, 60000] (po 1 (.give none (.i x24.1) [.h code, .i ((x24.2.1 : Nat) : Int), .i x24.2.2]) (px (Q8 (hx24 ▸ Xc code x1.2.1 x1.2.2 4)) (pc 2 (U3 x24.1) p0))) ?_
 refine Qg ?_
 have hE25 : Zn code ci ch = ((3, 0, 0, ⟨#[98]⟩, (X6 x24.1)), x24.2.1, x24.2.2) := Yn hx1 (Qm h2 (Qm h4 (Qm h7 (Qm h10 (Qm h13 (Qm h18 (Qm h21 (Yn hx24 (rfl)))))))))
 exact Hl [] (congrArg (fun z => (.a [.i z.1.1, .i z.1.2.1, .i z.1.2.2.1, .s z.1.2.2.2.1, .i z.1.2.2.2.2.1, .i z.1.2.2.2.2.2.1, .s z.1.2.2.2.2.2.2] : AV)) hE25.symm) (congrArg (fun z => ([.h code, .i ((z.2.1 : Nat) : Int), .i z.2.2] : List C)) hE25.symm)
def Z6 (n_ : Nat) (code : (List UInt8)) (ci : Nat) (ch : Int) (q : (List X4)) (deep : Int) (not : Bool) : (List X4) × Nat × Int := match n_ with
 | 0 => default
 | n_ + 1 => (bif (deep == (0 : Int)) then (lt (α := X4 × Nat × Int) (Zn code ci ch) (fun x2 => (q ++ [x2.1], x2.2.1, x2.2.2))) else (lt (α := Bool × Nat × Int) (Y2 code ci ch 3) (fun x6 => (bif x6.1 then (lt (α := X4 × Nat × Int) (Zn code x6.2.1 x6.2.2) (fun x8 => (q ++ [x8.1], x8.2.1, x8.2.2))) else (lt (α := Int × Nat × Int) (Qk code x6.2.1 x6.2.2 5) (fun x12 => (bif ((x12.1 == (0 : Int)) && not) then (lt (α := (List X4) × Nat × Int) (Z6 n_ code x12.2.1 x12.2.2 q (deep - 1) true) (fun x15 => (x15.1 ++ [((5, ((x15.1.length : Int) - 1), 0, ⟨#[]⟩, (0, 0, ⟨#[]⟩)) : X4)], x15.2.1, x15.2.2))) else (lt (α := (List X4) × Nat × Int) (Z6 n_ code x12.2.1 x12.2.2 q (deep - 1) not) (fun x19 => (lt (α := (List X4) × Nat × Int) (Z6 n_ code x19.2.1 x19.2.2 x19.1 0 not) (fun x22 => (bif decide (x12.1 < (3 : Int)) then (x22.1 ++ [((6, ((x19.1.length : Int) - 1), ((x22.1.length : Int) - 1), ⟨#[]⟩, (0, 0, ⟨#[]⟩)) : X4)], x22.2.1, x22.2.2) else (x22.1 ++ [((7, ((x19.1.length : Int) - 1), ((x22.1.length : Int) - 1), ⟨#[]⟩, (0, 0, ⟨#[]⟩)) : X4)], x22.2.1, x22.2.2)))))))))))))
theorem Mb (code : List UInt8) : ∀ (n ci : Nat) (ch : Int) (q : List X4) (deep : Int) (not_ : Bool), 0 ≤ deep → deep < n → q.length + 1 ≤ (Z6 n code ci ch q deep not_).1.length ∧ ((Z6 n code ci ch q deep not_).1.length : Int) ≤ q.length + 2 * deep + 1
  | 0, _, _, _, _, _, h0, h1 => by omega
  | n + 1, ci, ch, q, deep, not_, h0, h1 => by
    have ih := Mb code n
    unfold Z6 lt
    by_cases hz : deep = 0
    · rw [beq_iff_eq.2 hz]
      simp only [cond_true, List.length_append, List.length_cons, List.length_nil]
      omega
    rw [beq_eq_false_iff_ne.2 hz]
    simp only [cond_false]
    generalize Y2 code ci ch 3 = x
    cases x.1 with
    | true =>
      simp only [cond_true, List.length_append, List.length_cons, List.length_nil]
      omega
    | false =>
      simp only [cond_false]
      generalize Qk code x.2.1 x.2.2 5 = y
      cases ((y.1 == (0 : Int)) && not_) with
      | true =>
        simp only [cond_true, List.length_append, List.length_cons, List.length_nil]
        have := ih y.2.1 y.2.2 q (deep - 1) true (by omega) (by omega)
        omega
      | false =>
        simp only [cond_false]
        have h2 := ih y.2.1 y.2.2 q (deep - 1) not_ (by omega) (by omega)
        generalize Z6 n code y.2.1 y.2.2 q (deep - 1) not_ = z at h2
        have h3 := ih z.2.1 z.2.2 z.1 0 not_ (by omega) (by omega)
        generalize Z6 n code z.2.1 z.2.2 z.1 0 not_ = u at h3
        cases decide (y.1 < (3 : Int)) <;> simp only [cond_true, cond_false, List.length_append, List.length_cons, List.length_nil] <;> omega
theorem JV : ∀ (n_ : Nat) (code : (List UInt8)) (ci : Nat) (ch : Int) (q : (List X4)) (deep : Int) (not : Bool) (hd : 0 ≤ deep) (hn : deep < (n_ : Int)) (hq : (List.length q : Int) + 2 * deep ≤ 1000), AGive Tryz.prog 150 [.h code, .i ((ci : Nat) : Int), .i ch] [.o 63 q, .i deep, .b not] (.o 0 (((Z6 n_ code ci ch q deep not)).1)) [.h code, .i ((((Z6 n_ code ci ch q deep not)).2.1 : Nat) : Int), .i (((Z6 n_ code ci ch q deep not)).2.2)] := by
 intro n_
 induction n_ with
 | zero => intro code ci ch q deep not hd hn hq; exact (by omega : False).elim
 | succ n_ ih =>
  intro code ci ch q deep not hd hn hq
  refine Ky (tt := tt) Qb Tryz.func150 (fn := Tryz.f150) rfl (by unfold Dq; kernel_rfl) (Nat.le_of_ble_eq_true rfl) (Nat.le_of_ble_eq_true rfl) rfl rfl fun w0 F0 hG => ?_
  refine su Qb [(8, .e 0)] [] [] [] (p0) ?_
  refine Qe (Qe ?_)
  refine Xl (deep == (0 : Int)) (fun h1 => ?_) (fun h1 => ?_)
  ·
   have h1d := eq_of_beq h1
   refine ru Qb [(16, .b true)] [] [] [] (pt 1 h1 p0) ?_
   refine ckT ?_
   obtain ⟨x2, hx2⟩ : ∃ z : X4 × Nat × Int, Zn code ci ch = z := ⟨_, rfl⟩
   refine wT 1 0 (.own true 63) q (fun hw3 hl4 => ?_)
   refine su Qb [(8, .one (.slc (.own true 1344) 7 ((eL q) ++ [[.i x2.1.1, .i x2.1.2.1, .i x2.1.2.2.1, .s x2.1.2.2.2.1, .i x2.1.2.2.2.2.1, .i x2.1.2.2.2.2.2.1, .s x2.1.2.2.2.2.2.2]])))] [1, 8, 16] [(60000, [.h code, .i ((x2.2.1 : Nat) : Int), .i x2.2.2])] [60000] (po 2 (.give none (.a [.i x2.1.1, .i x2.1.2.1, .i x2.1.2.2.1, .s x2.1.2.2.2.1, .i x2.1.2.2.2.2.1, .i x2.1.2.2.2.2.2.1, .s x2.1.2.2.2.2.2.2]) [.h code, .i ((x2.2.1 : Nat) : Int), .i x2.2.2]) (px (Q8 (hx2 ▸ Ik code ci ch)) (pa q [x2.1] p0))) ?_
   refine eqn [(8, .o 1344 (q ++ [x2.1]))] [8] [] [] (by rw [show ((eL q) ++ [[.i x2.1.1, .i x2.1.2.1, .i x2.1.2.2.1, .s x2.1.2.2.2.1, .i x2.1.2.2.2.2.1, .i x2.1.2.2.2.2.2.1, .s x2.1.2.2.2.2.2.2]]) = (eL (q ++ [x2.1])) from Kj (rfl) (rfl)]; first | done | kernel_rfl) ?_
   refine Qg ?_
   have hE5 : Z6 (n_ + 1) code ci ch q deep not = (q ++ [x2.1], x2.2.1, x2.2.2) := Q6 h1 (Yn hx2 (rfl))
   exact Hl [] (congrArg (fun z => (.o 0 z.1 : AV)) hE5.symm) (congrArg (fun z => ([.h code, .i ((z.2.1 : Nat) : Int), .i z.2.2] : List C)) hE5.symm)
  have h1d := Yg h1
  obtain ⟨x6, hx6⟩ : ∃ z : Bool × Nat × Int, Y2 code ci ch 3 = z := ⟨_, rfl⟩
  refine rn Qb [0, 1, 2, 3, 8, 16] [60000] (pf 1 h1 (po 4 (.give none (.b x6.1) [.h code, .i ((x6.2.1 : Nat) : Int), .i x6.2.2]) (px (Q8 (hx6 ▸ K5 code ci ch 3)) p0))) ?_
  refine ck x6.1 (fun h7 => ?_) (fun h7 => ?_)
  ·
   obtain ⟨x8, hx8⟩ : ∃ z : X4 × Nat × Int, Zn code x6.2.1 x6.2.2 = z := ⟨_, rfl⟩
   refine wT 1 0 (.own true 63) q (fun hw9 hl10 => ?_)
   refine tu Qb [(8, .one (.slc (.own true 1344) 7 ((eL q) ++ [[.i x8.1.1, .i x8.1.2.1, .i x8.1.2.2.1, .s x8.1.2.2.2.1, .i x8.1.2.2.2.2.1, .i x8.1.2.2.2.2.2.1, .s x8.1.2.2.2.2.2.2]])))] [1, 8] [(60000, [.h code, .i ((x8.2.1 : Nat) : Int), .i x8.2.2])] [60000] (po 2 (.give none (.a [.i x8.1.1, .i x8.1.2.1, .i x8.1.2.2.1, .s x8.1.2.2.2.1, .i x8.1.2.2.2.2.1, .i x8.1.2.2.2.2.2.1, .s x8.1.2.2.2.2.2.2]) [.h code, .i ((x8.2.1 : Nat) : Int), .i x8.2.2]) (px (Q8 (hx8 ▸ Ik code x6.2.1 x6.2.2)) (pa q [x8.1] p0))) ?_
   refine eqn [(8, .o 1344 (q ++ [x8.1]))] [8] [] [] (by rw [show ((eL q) ++ [[.i x8.1.1, .i x8.1.2.1, .i x8.1.2.2.1, .s x8.1.2.2.2.1, .i x8.1.2.2.2.2.1, .i x8.1.2.2.2.2.2.1, .s x8.1.2.2.2.2.2.2]]) = (eL (q ++ [x8.1])) from Kj (rfl) (rfl)]; first | done | kernel_rfl) ?_
   refine Qg ?_
   have hE11 : Z6 (n_ + 1) code ci ch q deep not = (q ++ [x8.1], x8.2.1, x8.2.2) := Qm h1 (Yn hx6 (Q6 h7 (Yn hx8 (rfl))))
   exact Hl [] (congrArg (fun z => (.o 0 z.1 : AV)) hE11.symm) (congrArg (fun z => ([.h code, .i ((z.2.1 : Nat) : Int), .i z.2.2] : List C)) hE11.symm)
  refine Qh ?_
  obtain ⟨x12, hx12⟩ : ∃ z : Int × Nat × Int, Qk code x6.2.1 x6.2.2 5 = z := ⟨_, rfl⟩
  have hbx12 := hx12 ▸ Q0 code x6.2.1 x6.2.2 5
  refine tn Qb [0, 1, 2, 3, 8, 9] [60000] (po 1 (.give none (.i x12.1) [.h code, .i ((x12.2.1 : Nat) : Int), .i x12.2.2]) (px (Q8 (hx12 ▸ Xc code x6.2.1 x6.2.2 5)) p0)) ?_
  refine Qe (Qe (mz [(9, .i x12.1)] [] [(60000, [.h code, .i ((x12.2.1 : Nat) : Int), .i x12.2.2])] [60000] ?_))
  refine jn [(28, .b ((x12.1 == (0 : Int)) && not))] [] [] [] (x12.1 == (0 : Int)) (fun h13 => ?_) (fun h13 => ?_) ?_
  ·
   refine ru Qb [(28, .b not)] [] [] [] (pt 1 h13 p0) ?_
   exact ⟨rfl, Qd (by rw [h13]; first | done | kernel_rfl)⟩
  ·
   refine ru Qb [(28, .b false)] [] [] [] (pf 1 h13 p0) ?_
   exact ⟨rfl, Qd (by rw [h13]; first | done | kernel_rfl)⟩
  refine ck ((x12.1 == (0 : Int)) && not) (fun h14 => ?_) (fun h14 => ?_)
  ·
   have h14l : ((x12.1 == (0 : Int))) = true := M9 h14
   have h14ld := eq_of_beq h14l
   have h14r : (not) = true := Pv h14
   obtain ⟨x15, hx15⟩ : ∃ z : (List X4) × Nat × Int, Z6 n_ code x12.2.1 x12.2.2 q (deep - 1) true = z := ⟨_, rfl⟩
   have hbx15 := hx15 ▸ Mb code n_ x12.2.1 x12.2.2 q (deep - 1) true (by omega) (by omega)
   refine sn Qb [0, 1, 2, 3, 8, 9] [60000] (pe 3 (Jn (IntWalk.i64_in (deep - 1) (by omega))) (pt 4 h14r (po 5 (.give (some 63) (.o 0 x15.1) [.h code, .i ((x15.2.1 : Nat) : Int), .i x15.2.2]) (px (Q8 (hx15 ▸ ih code x12.2.1 x12.2.2 q (deep - 1) true (by omega) (by omega) (by omega))) p0)))) ?_
   refine wT 1 0 (.own true 2176) x15.1 (fun hw16 hl17 => ?_)
   refine tu Qb [(8, .one (.slc (.own true 2624) 7 ((eL x15.1) ++ [[.i 5, .i ((x15.1.length : Int) - 1), .i 0, .s ⟨#[]⟩, .i 0, .i 0, .s ⟨#[]⟩]])))] [1, 8, 28] [(60000, [.h code, .i ((x15.2.1 : Nat) : Int), .i x15.2.2])] [60000] (pl 2 x15.1 (pe 3 (Jn (IntWalk.i64_in ((x15.1.length : Int) - 1) (by omega))) (pa x15.1 [((5, ((x15.1.length : Int) - 1), 0, ⟨#[]⟩, (0, 0, ⟨#[]⟩)) : X4)] p0))) ?_
   refine eqn [(8, .o 2624 (x15.1 ++ [((5, ((x15.1.length : Int) - 1), 0, ⟨#[]⟩, (0, 0, ⟨#[]⟩)) : X4)]))] [8] [] [] (by rw [show ((eL x15.1) ++ [[.i 5, .i ((x15.1.length : Int) - 1), .i 0, .s ⟨#[]⟩, .i 0, .i 0, .s ⟨#[]⟩]]) = (eL (x15.1 ++ [((5, ((x15.1.length : Int) - 1), 0, ⟨#[]⟩, (0, 0, ⟨#[]⟩)) : X4)])) from Kj (rfl) (rfl)]; first | done | kernel_rfl) ?_
   refine Qg ?_
   have hE18 : Z6 (n_ + 1) code ci ch q deep not = (x15.1 ++ [((5, ((x15.1.length : Int) - 1), 0, ⟨#[]⟩, (0, 0, ⟨#[]⟩)) : X4)], x15.2.1, x15.2.2) := Qm h1 (Yn hx6 (Qm h7 (Yn hx12 (Q6 h14 (Yn hx15 (rfl))))))
   exact Hl [] (congrArg (fun z => (.o 0 z.1 : AV)) hE18.symm) (congrArg (fun z => ([.h code, .i ((z.2.1 : Nat) : Int), .i z.2.2] : List C)) hE18.symm)
  refine Qh ?_
  obtain ⟨x19, hx19⟩ : ∃ z : (List X4) × Nat × Int, Z6 n_ code x12.2.1 x12.2.2 q (deep - 1) not = z := ⟨_, rfl⟩
  have hbx19 := hx19 ▸ Mb code n_ x12.2.1 x12.2.2 q (deep - 1) not (by omega) (by omega)
  refine sn Qb [0, 1, 3, 8, 9] [60000] (pe 3 (Jn (IntWalk.i64_in (deep - 1) (by omega))) (po 5 (.give (some 63) (.o 0 x19.1) [.h code, .i ((x19.2.1 : Nat) : Int), .i x19.2.2]) (px (Q8 (hx19 ▸ ih code x12.2.1 x12.2.2 q (deep - 1) not (by omega) (by omega) (by omega))) p0))) ?_
  refine wT 1 0 (.own true 3008) x19.1 (fun hw20 hl21 => ?_)
  refine tn Qb [0, 1, 3, 8, 9, 10] [60000] (pl 1 x19.1 (pe 2 (Jn (IntWalk.i64_in ((x19.1.length : Int) - 1) (by omega))) p0)) ?_
  obtain ⟨x22, hx22⟩ : ∃ z : (List X4) × Nat × Int, Z6 n_ code x19.2.1 x19.2.2 x19.1 0 not = z := ⟨_, rfl⟩
  have hbx22 := hx22 ▸ Mb code n_ x19.2.1 x19.2.2 x19.1 0 not (by omega) (by omega)
  refine tu Qb [(1, .o 3456 x22.1), (10, .i ((x19.1.length : Int) - 1))] [1, 2, 3, 28] [(60000, [.h code, .i ((x22.2.1 : Nat) : Int), .i x22.2.2])] [60000] (po 3 (.give (some 3008) (.o 0 x22.1) [.h code, .i ((x22.2.1 : Nat) : Int), .i x22.2.2]) (px (Q8 (hx22 ▸ ih code x19.2.1 x19.2.2 x19.1 0 not (by omega) (by omega) (by omega))) p0)) ?_
  refine Qe (sn Qb [0, 1, 8, 10, 56] [60000] (p0) ?_)
  refine ck (decide (x12.1 < (3 : Int))) (fun h23 => ?_) (fun h23 => ?_)
  ·
   have h23d := of_decide_eq_true h23
   refine wT 1 0 (.own true 3456) x22.1 (fun hw24 hl25 => ?_)
   refine tu Qb [(8, .one (.slc (.own true 4096) 7 ((eL x22.1) ++ [[.i 6, .i ((x19.1.length : Int) - 1), .i ((x22.1.length : Int) - 1), .s ⟨#[]⟩, .i 0, .i 0, .s ⟨#[]⟩]])))] [1, 8, 9] [] [] (pl 3 x22.1 (pe 4 (Jn (IntWalk.i64_in ((x22.1.length : Int) - 1) (by omega))) (pa x22.1 [((6, ((x19.1.length : Int) - 1), ((x22.1.length : Int) - 1), ⟨#[]⟩, (0, 0, ⟨#[]⟩)) : X4)] p0))) ?_
   refine eqn [(8, .o 4096 (x22.1 ++ [((6, ((x19.1.length : Int) - 1), ((x22.1.length : Int) - 1), ⟨#[]⟩, (0, 0, ⟨#[]⟩)) : X4)]))] [8] [] [] (by rw [show ((eL x22.1) ++ [[.i 6, .i ((x19.1.length : Int) - 1), .i ((x22.1.length : Int) - 1), .s ⟨#[]⟩, .i 0, .i 0, .s ⟨#[]⟩]]) = (eL (x22.1 ++ [((6, ((x19.1.length : Int) - 1), ((x22.1.length : Int) - 1), ⟨#[]⟩, (0, 0, ⟨#[]⟩)) : X4)])) from Kj (rfl) (rfl)]; first | done | kernel_rfl) ?_
   refine Qg ?_
   have hE26 : Z6 (n_ + 1) code ci ch q deep not = (x22.1 ++ [((6, ((x19.1.length : Int) - 1), ((x22.1.length : Int) - 1), ⟨#[]⟩, (0, 0, ⟨#[]⟩)) : X4)], x22.2.1, x22.2.2) := Qm h1 (Yn hx6 (Qm h7 (Yn hx12 (Qm h14 (Yn hx19 (Yn hx22 (Q6 h23 (rfl))))))))
   exact Hl [] (congrArg (fun z => (.o 0 z.1 : AV)) hE26.symm) (congrArg (fun z => ([.h code, .i ((z.2.1 : Nat) : Int), .i z.2.2] : List C)) hE26.symm)
  have h23d := of_decide_eq_false h23
  refine Qh ?_
  refine wT 1 0 (.own true 3456) x22.1 (fun hw27 hl28 => ?_)
  refine tu Qb [(8, .one (.slc (.own true 4608) 7 ((eL x22.1) ++ [[.i 7, .i ((x19.1.length : Int) - 1), .i ((x22.1.length : Int) - 1), .s ⟨#[]⟩, .i 0, .i 0, .s ⟨#[]⟩]])))] [1, 8, 9, 10] [] [] (pl 3 x22.1 (pe 4 (Jn (IntWalk.i64_in ((x22.1.length : Int) - 1) (by omega))) (pa x22.1 [((7, ((x19.1.length : Int) - 1), ((x22.1.length : Int) - 1), ⟨#[]⟩, (0, 0, ⟨#[]⟩)) : X4)] p0))) ?_
  refine eqn [(8, .o 4608 (x22.1 ++ [((7, ((x19.1.length : Int) - 1), ((x22.1.length : Int) - 1), ⟨#[]⟩, (0, 0, ⟨#[]⟩)) : X4)]))] [8] [] [] (by rw [show ((eL x22.1) ++ [[.i 7, .i ((x19.1.length : Int) - 1), .i ((x22.1.length : Int) - 1), .s ⟨#[]⟩, .i 0, .i 0, .s ⟨#[]⟩]]) = (eL (x22.1 ++ [((7, ((x19.1.length : Int) - 1), ((x22.1.length : Int) - 1), ⟨#[]⟩, (0, 0, ⟨#[]⟩)) : X4)])) from Kj (rfl) (rfl)]; first | done | kernel_rfl) ?_
  refine Qg ?_
  have hE29 : Z6 (n_ + 1) code ci ch q deep not = (x22.1 ++ [((7, ((x19.1.length : Int) - 1), ((x22.1.length : Int) - 1), ⟨#[]⟩, (0, 0, ⟨#[]⟩)) : X4)], x22.2.1, x22.2.2) := Qm h1 (Yn hx6 (Qm h7 (Yn hx12 (Qm h14 (Yn hx19 (Yn hx22 (Qm h23 (rfl))))))))
  exact Hl [] (congrArg (fun z => (.o 0 z.1 : AV)) hE29.symm) (congrArg (fun z => ([.h code, .i ((z.2.1 : Nat) : Int), .i z.2.2] : List C)) hE29.symm)
def Jk (code : (List UInt8)) (ci : Nat) (ch : Int) : (List X4) × Nat × Int := (lt (α := Int × Nat × Int) (Qk code ci ch 4) (fun x1 => (lt (α := (List X4) × Nat × Int) (Z6 (Int.toNat x1.1 + 1) code x1.2.1 x1.2.2 [] x1.1 true) (fun x2 => (x2.1, x2.2.1, x2.2.2)))))
theorem JW (code : List UInt8) (ci : Nat) (ch : Int) : 1 ≤ (Jk code ci ch).1.length ∧ (Jk code ci ch).1.length ≤ 7 := by
 unfold Jk lt
 have hb := Q0 code ci ch 4
 generalize Qk code ci ch 4 = x at hb
 have h := Mb code (Int.toNat x.1 + 1) x.2.1 x.2.2 [] x.1 true (by omega) (by omega)
 simp only [List.length_nil] at h
 simp only
 omega
theorem Db (code : (List UInt8)) (ci : Nat) (ch : Int) : AGive Tryz.prog 118 [.h code, .i ((ci : Nat) : Int), .i ch] [] (.o 0 (((Jk code ci ch)).1)) [.h code, .i ((((Jk code ci ch)).2.1 : Nat) : Int), .i (((Jk code ci ch)).2.2)] := by
 refine Ky (tt := tt) Qb Tryz.func118 (fn := Tryz.f118) rfl (by unfold Dq; kernel_rfl) (Nat.le_of_ble_eq_true rfl) (Nat.le_of_ble_eq_true rfl) rfl rfl fun w0 F0 hG => ?_
 refine sn Qb [0, 2] [60000] (p0) ?_
 obtain ⟨x1, hx1⟩ : ∃ z : Int × Nat × Int, Qk code ci ch 4 = z := ⟨_, rfl⟩
 have hbx1 := hx1 ▸ Q0 code ci ch 4
 obtain ⟨x2, hx2⟩ : ∃ z : (List X4) × Nat × Int, Z6 (Int.toNat x1.1 + 1) code x1.2.1 x1.2.2 [] x1.1 true = z := ⟨_, rfl⟩
 have hbx2 := hx2 ▸ Mb code (Int.toNat x1.1 + 1) x1.2.1 x1.2.2 [] x1.1 true (by omega) (by omega)
 refine tn Qb [0, 2] [60000] (po 2 (.give none (.i x1.1) [.h code, .i ((x1.2.1 : Nat) : Int), .i x1.2.2]) (px (Q8 (hx1 ▸ Xc code ci ch 4)) (po 3 (.give none (.o 0 x2.1) [.h code, .i ((x2.2.1 : Nat) : Int), .i x2.2.2]) (px (Q8 (hx2 ▸ (JV (Int.toNat x1.1 + 1) code x1.2.1 x1.2.2 [] x1.1 true (by omega) (by omega) (by first | omega | (simp; omega))).emp (m := 0) (by simp [AV.cells, C.key, C.bkeys, Tok.key]))) p0)))) ?_
 refine Qg ?_
 have hE3 : Jk code ci ch = (x2.1, x2.2.1, x2.2.2) := Yn hx1 (Yn hx2 (rfl))
 exact Hl [] (congrArg (fun z => (.o 0 z.1 : AV)) hE3.symm) (congrArg (fun z => ([.h code, .i ((z.2.1 : Nat) : Int), .i z.2.2] : List C)) hE3.symm)
def Zp (code : (List UInt8)) (s0 : (List Yd) × Int × Nat × Int) : Rd ((List Yd) × Nat × Int) ((List Yd) × Int × Nat × Int) ((List Yd) × Nat × Int) := (lt (α := Int × Nat × Int) (Qk code s0.2.2.1 s0.2.2.2 4) (fun x1 => (bif decide (s0.2.1 < (1 + x1.1)) then (lt (α := (List X4) × Nat × Int) (Jk code x1.2.1 x1.2.2) (fun x4 => (.next (s0.1 ++ [((nth ([⟨#[100, 97]⟩, ⟨#[100, 98]⟩, ⟨#[100, 99]⟩, ⟨#[100, 100]⟩] : (List ByteArray)) (Int.toNat s0.2.1)), x4.1)], (s0.2.1 + 1), x4.2.1, x4.2.2)))) else (.brk (s0.1, x1.2.1, x1.2.2)))))
def Kf (code : (List UInt8)) (ci : Nat) (ch : Int) : (List Yd) × Nat × Int := (Out.on (Fp (Zp code) 5 ([], 0, ci, ch)) (fun y0 => (y0.1, y0.2.1, y0.2.2)))
theorem Il (code : List UInt8) (ci : Nat) (ch : Int) : (whl (Zp code) 5 ([], 0, ci, ch)).isSome = true :=
  BV (fun s => s.2.1) 4 (fun s s' h0 h => by
    unfold Zp lt at h
    have hb := Q0 code s.2.2.1 s.2.2.2 4
    generalize Qk code s.2.2.1 s.2.2.2 4 = x at h hb
    by_cases hc : s.2.1 < 1 + x.1
    · simp only [decide_eq_true hc, cond_true] at h
      have h := Rd.next.inj h
      rw [← h]
      exact ⟨by omega, rfl⟩
    simp only [decide_eq_false hc, cond_false] at h
    cases h) 4 _ (by show (0 : Int) ≤ 0; decide) (by show (4 : Int) ≤ 0 + 4; decide)
theorem O9 (code : (List UInt8)) (ci : Nat) (ch : Int) : AGive Tryz.prog 74 [.h code, .i ((ci : Nat) : Int), .i ch] [] (.o 0 (((Kf code ci ch)).1)) [.h code, .i ((((Kf code ci ch)).2.1 : Nat) : Int), .i (((Kf code ci ch)).2.2)] := by
 refine Ky (tt := tt) Qb Tryz.func74 (fn := Tryz.f74) rfl (by unfold Dq; kernel_rfl) (Nat.le_of_ble_eq_true rfl) (Nat.le_of_ble_eq_true rfl) rfl rfl fun w0 F0 hG => ?_
 refine sn Qb [0, 2] [60000] (p0) ?_
 refine tn Qb [0, 2, 3] [60000] (p0) ?_
 refine Qe (tu Qb [(2, .e 0), (3, .one (.slc (.own true 320) 2 [])), (4, .i 0)] [] [] [] (p0) ?_)
 refine blw (fun (s0 : (List Yd) × Int × Nat × Int) => [(3, .o 147202 s0.1), (4, .i s0.2.1)]) [3, 4] (fun s0 => [(60000, [.h code, .i ((s0.2.2.1 : Nat) : Int), .i s0.2.2.2])]) [60000] (fun (y0 : (List Yd) × Nat × Int) => [(3, .o 147352 y0.1)]) [3, 4] (fun y0 => [(60000, [.h code, .i ((y0.2.1 : Nat) : Int), .i y0.2.2])]) [60000] (fun (k0 : Nat) (s0 : (List Yd) × Int × Nat × Int) => whl (Zp code) k0 s0 = some (Fp (Zp code) 5 ([], 0, ci, ch)) ∧ 0 ≤ s0.2.1 ∧ (List.length s0.1 : Int) ≤ s0.2.1) (fun (y0 : (List Yd) × Nat × Int) => (Fp (Zp code) 5 ([], 0, ci, ch)) = .brk y0) 5 ([], 0, ci, ch) (X2 [(320, 147202)] (by kernel_rfl)) ⟨De (Il code ci ch), (by first | omega | (simp; done) | (dsimp only; omega)), (by first | omega | (simp; done) | (dsimp only; omega))⟩ (fun _ h => Ej h.1) (fun k0 s0 hI0 => ?_) (fun y0 hD0 => ?_)
 ·
  have hA0_0 := hI0.2.1
  have hA0_1 := hI0.2.2
  refine Qe ?_
  obtain ⟨x1, hx1⟩ : ∃ z : Int × Nat × Int, Qk code s0.2.2.1 s0.2.2.2 4 = z := ⟨_, rfl⟩
  have hbx1 := hx1 ▸ Q0 code s0.2.2.1 s0.2.2.2 4
  refine sn Qb [0, 2, 3, 4, 10] [60000] (po 2 (.give none (.i x1.1) [.h code, .i ((x1.2.1 : Nat) : Int), .i x1.2.2]) (px (Q8 (hx1 ▸ Xc code s0.2.2.1 s0.2.2.2 4)) (pe 3 (Jn (IntWalk.i64_in (1 + x1.1) (by omega))) p0))) ?_
  refine ck (decide (s0.2.1 < (1 + x1.1))) (fun h2 => ?_) (fun h2 => ?_)
  ·
   have h2d := of_decide_eq_true h2
   refine Qh ?_
   refine Qe (Qs ?_)
   have hx3 := ng ([⟨#[100, 97]⟩, ⟨#[100, 98]⟩, ⟨#[100, 99]⟩, ⟨#[100, 100]⟩] : (List ByteArray)) (Int.toNat s0.2.1) (by simp only [List.length_cons, List.length_nil]; omega)
   obtain ⟨x4, hx4⟩ : ∃ z : (List X4) × Nat × Int, Jk code x1.2.1 x1.2.2 = z := ⟨_, rfl⟩
   have hbx4 := hx4 ▸ JW code x1.2.1 x1.2.2
   refine wT 3 0 (.own true 147202) s0.1 (fun hw5 hl6 => ?_)
   refine qU Qb Yo [(3, .one (.slc (.own true 1408) 2 ((eL s0.1) ++ [[.s (nth ([⟨#[100, 97]⟩, ⟨#[100, 98]⟩, ⟨#[100, 99]⟩, ⟨#[100, 100]⟩] : (List ByteArray)) (Int.toNat s0.2.1)), .h x4.1]])))] [3] [(60000, [.h code, .i ((x4.2.1 : Nat) : Int), .i x4.2.2])] [60000] (pG 3 s0.2.1 hx3 (po 6 (.give none (.o 0 x4.1) [.h code, .i ((x4.2.1 : Nat) : Int), .i x4.2.2]) (px (Q8 (hx4 ▸ Db code x1.2.1 x1.2.2)) (pa s0.1 [((nth ([⟨#[100, 97]⟩, ⟨#[100, 98]⟩, ⟨#[100, 99]⟩, ⟨#[100, 100]⟩] : (List ByteArray)) (Int.toNat s0.2.1)), x4.1)] p0)))) ?_
   refine eqn [(3, .o 1408 (s0.1 ++ [((nth ([⟨#[100, 97]⟩, ⟨#[100, 98]⟩, ⟨#[100, 99]⟩, ⟨#[100, 100]⟩] : (List ByteArray)) (Int.toNat s0.2.1)), x4.1)]))] [3] [] [] (by rw [show ((eL s0.1) ++ [[.s (nth ([⟨#[100, 97]⟩, ⟨#[100, 98]⟩, ⟨#[100, 99]⟩, ⟨#[100, 100]⟩] : (List ByteArray)) (Int.toNat s0.2.1)), .h x4.1]]) = (eL (s0.1 ++ [((nth ([⟨#[100, 97]⟩, ⟨#[100, 98]⟩, ⟨#[100, 99]⟩, ⟨#[100, 100]⟩] : (List ByteArray)) (Int.toNat s0.2.1)), x4.1)])) from Kj (rfl) (rfl)]; first | done | kernel_rfl) ?_
   refine rn Qb [0, 2, 3, 4] [60000] (pe 1 (Jn (IntWalk.i64_in (s0.2.1 + 1) (by omega))) p0) ?_
   exact Exists.intro (s0.1 ++ [((nth ([⟨#[100, 97]⟩, ⟨#[100, 98]⟩, ⟨#[100, 99]⟩, ⟨#[100, 100]⟩] : (List ByteArray)) (Int.toNat s0.2.1)), x4.1)], (s0.2.1 + 1), x4.2.1, x4.2.2) (And.intro (X2 [(1408, 147202)] (by kernel_rfl)) ⟨wn hI0.1 (Yn hx1 (Q6 h2 (Yn hx4 (rfl)))), (by first | omega | (simp; omega)), (by first | omega | (simp; omega))⟩)
  refine Q5 ?_
  exact Exists.intro (s0.1, x1.2.1, x1.2.2) (And.intro (X2 [(147202, 147352)] (by kernel_rfl)) (wb hI0.1 (Yn hx1 (Qm h2 (rfl)))))
 refine sn Qb [0, 2] [60000] (p0) ?_
 refine Qg ?_
 have hE7 : Kf code ci ch = (y0.1, y0.2.1, y0.2.2) := Wc hD0 (rfl)
 exact Hl [] (congrArg (fun z => (.o 0 z.1 : AV)) hE7.symm) (congrArg (fun z => ([.h code, .i ((z.2.1 : Nat) : Int), .i z.2.2] : List C)) hE7.symm)
def Kb (d : (List Yd)) : Bool := ((Xx d)).2
theorem Pa (d : (List Yd)) : ACalls Tryz.prog 75 [.h d] (.b (Kb d)) := by
 refine en Qb Tryz.func75 fun w0 F0 hG => ?_
 refine sn Qb [0, 2] [] (p0) ?_
 refine tn Qb [2, 4] [] (pc 1 (Ll d) p0) ?_
 refine tu Qb [(2, .b (((Xx d)).2))] [0] [] [] (p0) ?_
 refine Qg ?_
 exact pb [] (show Kb d = ((Xx d)).2 from rfl)
def Ju (s0 : (List Yd)) : Rd ((List Yd) × Nat × Int) ((List Yd)) ((List Yd)) := (bif (decide ((s0.length : Int) > (0 : Int)) && (!(Kb s0))) then (.next (List.take (Int.toNat ((s0.length : Int) - 1)) s0)) else (.brk s0))
def Ka (code : (List UInt8)) (ci : Nat) (ch : Int) : (List Yd) × Nat × Int := (lt (α := (List Yd) × Nat × Int) (Kf code ci ch) (fun x1 => (Out.on (Fp Ju (List.length x1.1 + 1) x1.1) (fun y0 => (bif ((y0.length : Int) == (0 : Int)) then ([((⟨#[100, 97]⟩, [((1, 0, 0, ⟨#[]⟩, (0, 0, ⟨#[]⟩)) : X4)]) : Yd)], x1.2.1, x1.2.2) else (y0, x1.2.1, x1.2.2))))))
theorem Pb (code : List UInt8) (d : List Yd) : (whl Ju (List.length d + 1) d).isSome = true :=
  BW (fun s => List.length s) (fun s s' h => by
    unfold Ju at h
    by_cases hc : ((s.length : Int) > 0)
    · simp only [decide_eq_true hc, Bool.true_and, cond_true] at h
      cases hs : Kb s <;> simp only [hs, Bool.not_true, Bool.not_false, cond_true, cond_false] at h
      · have h := Rd.next.inj h
        rw [← h, List.length_take]
        omega
      cases h
    simp only [decide_eq_false hc, Bool.false_and, cond_false] at h
    cases h) _ _ (Nat.lt_succ_self _)
theorem RS (code : List UInt8) (ci : Nat) (ch : Int) : 0 < (Ka code ci ch).1.length := by
  unfold Ka lt
  generalize Kf code ci ch = x
  obtain ⟨t, ht⟩ := O1 (f := Ju) (fun s r => by
    unfold Ju
    generalize (decide ((s.length : Int) > (0 : Int)) && (!(Kb s))) = c
    cases c <;> simp) (List.length x.1 + 1) x.1
  simp only [ht, Out.on]
  by_cases h : (t.length : Int) = 0
  · rw [beq_iff_eq.2 h]; exact Nat.zero_lt_one
  rw [beq_eq_false_iff_ne.2 h]
  show 0 < t.length
  omega
theorem Pc (code : (List UInt8)) (ci : Nat) (ch : Int) : AGive Tryz.prog 46 [.h code, .i ((ci : Nat) : Int), .i ch] [] (.h (((Ka code ci ch)).1)) [.h code, .i ((((Ka code ci ch)).2.1 : Nat) : Int), .i (((Ka code ci ch)).2.2)] := by
 refine Ky (tt := tt) Qb Tryz.func46 (fn := Tryz.f46) rfl (by unfold Dq; kernel_rfl) (Nat.le_of_ble_eq_true rfl) (Nat.le_of_ble_eq_true rfl) rfl rfl fun w0 F0 hG => ?_
 refine sn Qb [0, 2] [60000] (p0) ?_
 obtain ⟨x1, hx1⟩ : ∃ z : (List Yd) × Nat × Int, Kf code ci ch = z := ⟨_, rfl⟩
 refine tn Qb [0, 2, 3] [60000] (po 1 (.give none (.o 0 x1.1) [.h code, .i ((x1.2.1 : Nat) : Int), .i x1.2.2]) (px (Q8 (hx1 ▸ O9 code ci ch)) p0)) ?_
 refine Qe (mz [(2, .e 0), (3, .o 320 x1.1)] [] [(60000, [.h code, .i ((x1.2.1 : Nat) : Int), .i x1.2.2])] [60000] ?_)
 refine blw (fun (s0 : (List Yd)) => [(3, .h s0)]) [3] (fun s0 => []) [] (fun (y0 : (List Yd)) => [(3, .h y0)]) [3] (fun y0 => []) [] (fun (k0 : Nat) (s0 : (List Yd)) => whl Ju k0 s0 = some (Fp Ju (List.length x1.1 + 1) x1.1)) (fun (y0 : (List Yd)) => (Fp Ju (List.length x1.1 + 1) x1.1) = .brk y0) (List.length x1.1 + 1) x1.1 (Dz [] [320] [] [] (by kernel_rfl)) (De (Pb code x1.1)) (fun _ h => Ej h) (fun k0 s0 hI0 => ?_) (fun y0 hD0 => ?_)
 ·
  refine Qe (Qe (jn [(13, .b (decide ((s0.length : Int) > (0 : Int)) && (!(Kb s0))))] [] [] [] (decide ((s0.length : Int) > (0 : Int))) (fun h2 => ?_) (fun h2 => ?_) ?_))
  ·
   refine rn Qb [0, 2, 3, 13] [60000] (pl 1 s0 (pt 2 h2 (pc 5 (Pa s0) p0))) ?_
   exact ⟨rfl, Qd (by rw [h2]; first | done | kernel_rfl)⟩
  ·
   refine rn Qb [0, 2, 3, 13] [60000] (pl 1 s0 (pf 2 h2 p0)) ?_
   exact ⟨rfl, Qd (by rw [h2]; first | done | kernel_rfl)⟩
  refine ck (decide ((s0.length : Int) > (0 : Int)) && (!(Kb s0))) (fun h3 => ?_) (fun h3 => ?_)
  ·
   have h3l : (decide ((s0.length : Int) > (0 : Int))) = true := M9 h3
   have h3ld := of_decide_eq_true h3l
   refine Qh ?_
   refine Qs ?_
   refine wT 3 0 .sh s0 (fun hw4 hl5 => ?_)
   refine rn Qb [0, 2, 3] [60000] (pl 2 s0 (pe 3 (Jn (IntWalk.i64_in ((s0.length : Int) - 1) (by omega))) (pe 4 (Pu .sh 2 (Int.toNat ((s0.length : Int) - 1)) ((s0.length : Int) - 1) s0 rfl) (px (Fu (lo := 0) (hi := ((s0.length : Int) - 1)) (n := (List.length (eL s0))) (YB (by omega) (by omega) (by omega))) p0)))) ?_
   exact Exists.intro _ (And.intro (Qd (by kernel_rfl)) (wn hI0 (Q6 h3 (rfl))))
  refine Q5 ?_
  exact Exists.intro _ (And.intro (Qd (by kernel_rfl)) (wb hI0 (Qm h3 (rfl))))
 refine Qe (sn Qb [0, 2, 3, 21] [60000] (pl 1 y0 p0) ?_)
 refine ck ((y0.length : Int) == (0 : Int)) (fun h6 => ?_) (fun h6 => ?_)
 ·
  refine qn Qb [0, 2, 3] [60000] (p0) ?_
  refine tu Qb [(2, .o 1600 [((⟨#[100, 97]⟩, [((1, 0, 0, ⟨#[]⟩, (0, 0, ⟨#[]⟩)) : X4)]) : Yd)])] [2, 3] [] [] (p0) ?_
  refine Qg ?_
  have hE7 : Ka code ci ch = ([((⟨#[100, 97]⟩, [((1, 0, 0, ⟨#[]⟩, (0, 0, ⟨#[]⟩)) : X4)]) : Yd)], x1.2.1, x1.2.2) := Yn hx1 (Wc hD0 (Q6 h6 (rfl)))
  exact Hl [1600] (congrArg (fun z => (.h z.1 : AV)) hE7.symm) (congrArg (fun z => ([.h code, .i ((z.2.1 : Nat) : Int), .i z.2.2] : List C)) hE7.symm)
 refine Qh ?_
 refine tn Qb [0, 2] [60000] (p0) ?_
 refine Qg ?_
 have hE8 : Ka code ci ch = (y0, x1.2.1, x1.2.2) := Yn hx1 (Wc hD0 (Qm h6 (rfl)))
 exact Hl [] (congrArg (fun z => (.h z.1 : AV)) hE8.symm) (congrArg (fun z => ([.h code, .i ((z.2.1 : Nat) : Int), .i z.2.2] : List C)) hE8.symm)
def Zb (code : (List UInt8)) (ci : Nat) (ch : Int) (list : (List Int)) : Int × Nat × Int := (lt (α := Int × Nat × Int) (Qk code ci ch (list.length : Int)) (fun x1 => ((nth list (Int.toNat x1.1)), x1.2.1, x1.2.2)))
theorem V7 (code : (List UInt8)) (ci : Nat) (ch : Int) (list : (List Int)) (hp : 0 < List.length list) : AGive Tryz.prog 77 [.h code, .i ((ci : Nat) : Int), .i ch] [.h list] (.i (((Zb code ci ch list)).1)) [.h code, .i ((((Zb code ci ch list)).2.1 : Nat) : Int), .i (((Zb code ci ch list)).2.2)] := by
 refine Ky (tt := tt) Qb Tryz.func77 (fn := Tryz.f77) rfl (by unfold Dq; kernel_rfl) (Nat.le_of_ble_eq_true rfl) (Nat.le_of_ble_eq_true rfl) rfl rfl fun w0 F0 hG => ?_
 refine sn Qb [0, 1, 4] [60000] (p0) ?_
 obtain ⟨x1, hx1⟩ : ∃ z : Int × Nat × Int, Qk code ci ch (list.length : Int) = z := ⟨_, rfl⟩
 have hbx1 := hx1 ▸ Q0 code ci ch (list.length : Int)
 refine wT 1 0 .sh list (fun hw3 hl4 => ?_)
 have hx2 := ng list (Int.toNat x1.1)
 refine tn Qb [0, 4] [60000] (pl 3 list (po 4 (.give none (.i x1.1) [.h code, .i ((x1.2.1 : Nat) : Int), .i x1.2.2]) (px (Q8 (hx1 ▸ Xc code ci ch (list.length : Int))) (pg 5 x1.1 hx2 p0)))) ?_
 refine Qg ?_
 have hE5 : Zb code ci ch list = ((nth list (Int.toNat x1.1)), x1.2.1, x1.2.2) := Yn hx1 (rfl)
 exact Hl [] (congrArg (fun z => (.i z.1 : AV)) hE5.symm) (congrArg (fun z => ([.h code, .i ((z.2.1 : Nat) : Int), .i z.2.2] : List C)) hE5.symm)
def Uf (code : (List UInt8)) (ci : Nat) (ch : Int) : Int × Nat × Int := (lt (α := Int × Nat × Int) (Zb code ci ch [0, 1, 2, 0, 1, 3, -1]) (fun x1 => (x1.1, x1.2.1, x1.2.2)))
theorem Im (code : (List UInt8)) (ci : Nat) (ch : Int) : AGive Tryz.prog 48 [.h code, .i ((ci : Nat) : Int), .i ch] [] (.i (((Uf code ci ch)).1)) [.h code, .i ((((Uf code ci ch)).2.1 : Nat) : Int), .i (((Uf code ci ch)).2.2)] := by
 refine Ky (tt := tt) Qb Tryz.func48 (fn := Tryz.f48) rfl (by unfold Dq; kernel_rfl) (Nat.le_of_ble_eq_true rfl) (Nat.le_of_ble_eq_true rfl) rfl rfl fun w0 F0 hG => ?_
 refine sn Qb [0, 2] [60000] (p0) ?_
 obtain ⟨x1, hx1⟩ : ∃ z : Int × Nat × Int, Zb code ci ch [0, 1, 2, 0, 1, 3, -1] = z := ⟨_, rfl⟩
 refine tn Qb [0, 2] [60000] (po 2 (.give none (.i x1.1) [.h code, .i ((x1.2.1 : Nat) : Int), .i x1.2.2]) (px (Q8 (hx1 ▸ V7 code ci ch [0, 1, 2, 0, 1, 3, -1] (Nat.zero_lt_succ _))) p0)) ?_
 refine Qg ?_
 have hE2 : Uf code ci ch = (x1.1, x1.2.1, x1.2.2) := Yn hx1 (rfl)
 exact Hl [] (congrArg (fun z => (.i z.1 : AV)) hE2.symm) (congrArg (fun z => ([.h code, .i ((z.2.1 : Nat) : Int), .i z.2.2] : List C)) hE2.symm)
end Go.Proofs.YtkbfhiamdcoieaaGreatDoor
namespace Go.Proofs.YtkbfhiamdcoieaaGreatDoor
open Go.RowKit
def stA (l : List Uc) (nm : ByteArray) (v : Kg) : List Uc := (Xk (0, 0, false, 0, l) nm v).2.2.2.2
theorem YV (f : Q9) (nm : ByteArray) (v : Kg) : Xk f nm v = (f.1, f.2.1, f.2.2.1, f.2.2.2.1, stA f.2.2.2.2 nm v) := by
  obtain ⟨a, b, c, d, l⟩ := f
  unfold stA Xk
  dsimp only
  rw [C1 (f := Dl nm) (e := U4) (p := fun a => !(a.1.toList == nm.toList)) (g := id) (fun _ _ _ => rfl)]
  simp only [Out.on]
  cases (v.1 != (0 : Int)) with
  | false => rfl
  | true =>
    simp only [cond_true]
    generalize U4 _ _ = l'
    obtain ⟨t, ht⟩ := P6 (f := U5 nm) (e := Dm) (fun k a s r => by
      unfold U5
      generalize (Op.bytesLess a.1.toList nm.toList || a.1.toList == nm.toList) = c
      cases c <;> simp) l' 0 ()
    rw [ht]
def ints4 : List Int := [0, 1, 2, 3]
def A1 : List (List Uc) := [] :: ints4.map fun n => stA [] ⟨#[97]⟩ (X6 n)
def A2 : List (List Uc) := A1 ++ A1.flatMap fun l => ints4.map fun n => stA l ⟨#[98]⟩ (X6 n)
def A3 : List (List Uc) := A2 ++ A2.flatMap fun l => ([⟨#[105, 110, 107]⟩, ⟨#[115, 101, 97]⟩] : List ByteArray).map fun s => stA l ⟨#[110]⟩ (Xd s)
def A4 : List (List Uc) := A3 ++ A3.flatMap fun l => ([⟨#[114, 101, 100]⟩, ⟨#[98, 108, 117, 101]⟩] : List ByteArray).map fun s => stA l ⟨#[116]⟩ (Xd s)
theorem in4 {x : Int} (h0 : 0 ≤ x) (h1 : x < 4) : x ∈ ints4 := by
  unfold ints4
  simp only [List.mem_cons, List.not_mem_nil, or_false]
  omega
theorem JX (code : List UInt8) (ci : Nat) (ch : Int) {list : List ByteArray} (hp : 0 < list.length) : (Yc code ci ch list).1 ∈ list := by
  unfold Yc lt
  have hb := Q0 code ci ch (list.length : Int)
  generalize Qk code ci ch (list.length : Int) = x at hb ⊢
  exact List.mem_of_getElem? (K9 (by omega))
structure FOk (id : Int) (S : List (List Uc)) (f : Q9) : Prop where
  h1 : f.1 = id
  h2 : 0 ≤ f.2.1
  h3 : f.2.1 ≤ 2
  h4 : 0 ≤ f.2.2.2.1
  h5 : f.2.2.2.1 ≤ 6
  h6 : f.2.2.2.2 ∈ S
theorem JY {id : Int} {S S' : List (List Uc)} {f : Q9} {nm : ByteArray} {v : Kg} (h : FOk id S f) (hm : ∀ l, l ∈ S → stA l nm v ∈ S') : FOk id S' (Xk f nm v) := by
  rw [YV]
  exact ⟨h.h1, h.h2, h.h3, h.h4, h.h5, hm _ h.h6⟩
theorem JZ {id : Int} {S S' : List (List Uc)} {f : Q9} (h : FOk id S f) (hm : ∀ l, l ∈ S → l ∈ S') : FOk id S' f := ⟨h.h1, h.h2, h.h3, h.h4, h.h5, hm _ h.h6⟩
theorem Qcx {x : Int} (h0 : 0 ≤ x) (h1 : x < 4) : ∀ l, l ∈ ([[]] : List (List Uc)) → stA l ⟨#[97]⟩ (X6 x) ∈ A1 := fun l hl => by
  rw [List.mem_singleton.1 hl]
  exact List.mem_cons_of_mem _ (List.mem_map.2 ⟨x, in4 h0 h1, rfl⟩)
theorem lf {id : Int} {S : List (List Uc)} {α : Type} {t : α} {f : α → Q9 × Nat × Int} (Q : α → Prop) (h : Q t) (k : ∀ x, Q x → FOk id S (f x).1) : FOk id S (lt t f).1 := k t h
theorem CY (code : List UInt8) (ci : Nat) (ch id : Int) : FOk id A4 (Zr code ci ch id).1 := by
  have bd : ∀ (ci : Nat) (ch : Int) (n : Int), 0 < n → 0 ≤ (Qk code ci ch n).1 ∧ (Qk code ci ch n).1 < n := fun ci ch n h => ⟨(Q0 code ci ch n).1, (Q0 code ci ch n).2.1 h⟩
  unfold Zr
  refine lf (fun x : Int × Nat × Int => 0 ≤ x.1 ∧ x.1 < 3) (bd ci ch 3 (by decide)) fun x1 hx1 => ?_
  refine lf (fun _ => True) trivial fun x2 _ => ?_
  refine lf (fun _ => True) trivial fun x3 _ => ?_
  refine lf (fun x : Int × Nat × Int => 0 ≤ x.1 ∧ x.1 ≤ 6) ?_ fun x4 hx4 => ?_
  · cases x3.1 with
    | true => simp only [cond_true]; exact Z8 (P := fun x : Int × Nat × Int => 0 ≤ x.1 ∧ x.1 ≤ 6) (fun x : Int × Nat × Int => 0 ≤ x.1 ∧ x.1 < 7) (bd _ _ 7 (by decide)) fun x h => ⟨h.1, by have := h.2; show x.1 ≤ 6; omega⟩
    | false => exact ⟨Int.le_refl 0, by show (0 : Int) ≤ 6; decide⟩
  refine lf (fun _ => True) trivial fun x7 _ => ?_
  have f0 : FOk id [[]] (id, x1.1, x2.1, x4.1, []) := ⟨rfl, hx1.1, by have := hx1.2; show x1.1 ≤ 2; omega, hx4.1, hx4.2, by simp⟩
  refine lf (fun z : Q9 × Nat × Int => FOk id A1 z.1) ?_ fun x8 hx8 => ?_
  · cases x7.1 with
    | true => exact JZ f0 fun l hl => by rw [List.mem_singleton.1 hl]; exact List.mem_cons_self
    | false => simp only [Bool.not_false, cond_true]; exact lf (S := A1) (fun x : Int × Nat × Int => 0 ≤ x.1 ∧ x.1 < 4) (bd _ _ 4 (by decide)) fun y hy => JY f0 (Qcx hy.1 hy.2)
  refine lf (fun _ => True) trivial fun x11 _ => ?_
  refine lf (fun z : Q9 × Nat × Int => FOk id A2 z.1) ?_ fun x12 hx12 => ?_
  · cases x11.1 with
    | false => exact JZ hx8 fun l hl => List.mem_append_left _ hl
    | true => simp only [cond_true]; exact lf (S := A2) (fun x : Int × Nat × Int => 0 ≤ x.1 ∧ x.1 < 4) (bd _ _ 4 (by decide)) fun y hy => JY hx8 fun l hl => List.mem_append_right _ (List.mem_flatMap.2 ⟨l, hl, List.mem_map.2 ⟨y.1, in4 hy.1 hy.2, rfl⟩⟩)
  refine lf (fun _ => True) trivial fun x15 _ => ?_
  refine lf (fun z : Q9 × Nat × Int => FOk id A3 z.1) ?_ fun x16 hx16 => ?_
  · cases x15.1 with
    | true => exact JZ hx12 fun l hl => List.mem_append_left _ hl
    | false => simp only [Bool.not_false, cond_true]; exact lf (S := A3) (fun x : ByteArray × Nat × Int => x.1 ∈ ([⟨#[105, 110, 107]⟩, ⟨#[115, 101, 97]⟩] : List ByteArray)) (JX code _ _ (Nat.zero_lt_succ _)) fun y hy => JY hx12 fun l hl => List.mem_append_right _ (List.mem_flatMap.2 ⟨l, hl, List.mem_map.2 ⟨y.1, hy, rfl⟩⟩)
  refine lf (fun _ => True) trivial fun x19 _ => ?_
  cases x19.1 with
  | false => exact JZ hx16 fun l hl => List.mem_append_left _ hl
  | true => simp only [cond_true]; exact lf (S := A4) (fun x : ByteArray × Nat × Int => x.1 ∈ ([⟨#[114, 101, 100]⟩, ⟨#[98, 108, 117, 101]⟩] : List ByteArray)) (JX code _ _ (Nat.zero_lt_succ _)) fun y hy => JY hx16 fun l hl => List.mem_append_right _ (List.mem_flatMap.2 ⟨l, hl, List.mem_map.2 ⟨y.1, hy, rfl⟩⟩)
def LV (l : List Uc) : Bool := match Xp (Y9 Qv (0, 0, false, 0, l)) Jy l 0 () with
  | .brk _ => true
  | .ret _ => false
theorem Qbt : A4.all LV = true := by kernel_rfl
theorem CZ : Jh Qv = true := by kernel_rfl
theorem LW {id i : Int} {f : Q9} (h : FOk id A4 f) (h1 : 1 ≤ i) (h2 : i ≤ 60) : Xi Qv (i, f.2) = true := by
  obtain ⟨a, o, s, x, l⟩ := f
  have hl := List.all_eq_true.1 Qbt l h.h6
  have e : Xp (Y9 Qv (i, o, s, x, l)) Jy l 0 () = .brk () := by
    have e2 : Y9 Qv (i, o, s, x, l) = Y9 Qv (0, 0, false, 0, l) := rfl
    rw [e2]
    unfold LV at hl
    split at hl
    · rename_i t ht; exact ht
    cases hl
  have h2' := h.h2
  have h3' := h.h3
  have h4' := h.h4
  have h5' := h.h5
  dsimp only at h2' h3' h4' h5'
  show Out.on (Xp (Y9 Qv (i, o, s, x, l)) Jy l 0 ()) _ = true
  rw [e]
  simp only [Out.on, CZ, Xa, Bool.true_and]
  rw [decide_eq_true (show i ≥ 1 from h1), decide_eq_true (show i ≤ 60 from h2), decide_eq_true (show o ≥ 0 from h2'), decide_eq_true (show o ≤ 2 from h3'), decide_eq_true (show x ≥ 0 from h4'), decide_eq_true (show x ≤ 60 by omega)]
  rfl
structure S5 (s : Ql) : Prop where
  vs : VS s
  sch : s.1 = Qv
  nx : s.2.2 ≤ 8 + s.2.1.length
theorem Qai {s : Ql} {id : Int} {f : Q9} (h : S5 s) (hl : s.2.1.length < 12) (hf : FOk id A4 f) : (Xv s f).1.2.1.length = s.2.1.length + 1 ∧ S5 (Xv s f).1 := by
  have hn : s.2.2 ≤ 60 := by have := h.nx; omega
  have hv : Xi s.1 (s.2.2, f.2) = true := by rw [h.sch]; exact LW hf h.vs.nx1 hn
  rw [LJ h.vs hl hn hv]
  exact ⟨by simp, LI h.vs hl hn hv, h.sch, by have := h.nx; simp; omega⟩
theorem Qbu (code : List UInt8) (ci : Nat) (ch : Int) : S5 (Z2 code ci ch).1 ∧ (Z2 code ci ch).1.2.1.length ≤ 7 := by
  unfold Z2
  obtain ⟨t, ht⟩ := O1 (f := Jj code) (fun s r => by
    unfold Jj lt
    dsimp only
    generalize decide (_ < IntKind.i64.wrap _) = c
    cases c <;> simp) 8 (0, (Z9 Qv), ci, ch)
  have hj : VS t.1 ∧ t.1.1 = Qv ∧ t.1.2.2 ≤ 8 ∧ t.1.2.1.length ≤ 7 := Si (f := Jj code) (I := fun s => VS s.2.1 ∧ s.2.1.1 = Qv ∧ s.2.1.2.2 ≤ 1 + s.1 ∧ (s.2.1.2.1.length : Int) ≤ s.1 ∧ 0 ≤ s.1 ∧ s.1 ≤ 7) (J := fun t => VS t.1 ∧ t.1.1 = Qv ∧ t.1.2.2 ≤ 8 ∧ t.1.2.1.length ≤ 7) (fun s s' hi h => by
    unfold Jj lt at h
    have hb := Q0 code s.2.2.1 s.2.2.2 7
    generalize Qk code s.2.2.1 s.2.2.2 7 = x at h hb
    have e : IntKind.i64.wrap (1 + x.1) = 1 + x.1 := IntWalk.i64_in _ (by omega)
    simp only [e] at h
    obtain ⟨i1, i2, i3, i4, i5, i6⟩ := hi
    by_cases hc : s.1 < 1 + x.1
    · simp only [decide_eq_true hc, cond_true] at h
      have h := Rd.next.inj h
      have e3 : IntKind.i64.wrap (s.1 + 1) = s.1 + 1 := IntWalk.i64_in _ (by omega)
      rw [← h, e3]
      obtain ⟨c1, c2, c3, c4, c5⟩ := LL (Zr code x.2.1 x.2.2 1).1 i1
      refine ⟨c1, c2.trans i2, ?_, ?_, ?_, ?_⟩ <;> dsimp only <;> omega
    · simp only [decide_eq_false hc, cond_false] at h
      cases h) (fun s t hi h => by
    unfold Jj lt at h
    generalize Qk code s.2.2.1 s.2.2.2 7 = x at h
    obtain ⟨i1, i2, i3, i4, i5, i6⟩ := hi
    by_cases hc : s.1 < IntKind.i64.wrap (1 + x.1)
    · simp only [decide_eq_true hc, cond_true] at h
      cases h
    · simp only [decide_eq_false hc, cond_false] at h
      have h := Rd.brk.inj h
      rw [← h]
      exact ⟨i1, i2, by dsimp only; omega, by dsimp only; omega⟩) (by
    refine ⟨⟨CZ, by simp [Z9], by simp [Z9], by simp [Z9], fun i a h => by simp [Z9] at h, fun i a b h => by simp [Z9] at h⟩, rfl, ?_, ?_, ?_, ?_⟩
    · show (1 : Int) ≤ 1 + 0; decide
    · show ((0 : Nat) : Int) ≤ 0; decide
    · show (0 : Int) ≤ 0; decide
    show (0 : Int) ≤ 7; decide) (Mv code ci ch _) ht
  rw [ht]
  simp only [Out.on]
  obtain ⟨j1, j2, j3, j4⟩ := hj
  have fin : S5 t.1 ∧ t.1.2.1.length ≤ 7 := ⟨⟨j1, j2, by omega⟩, j4⟩
  cases decide ((t.1.2.1.length : Int) > (2 : Int)) with
  | false => exact fin
  | true =>
    simp only [cond_true]
    refine Z8 (P := fun z : Ql × Nat × Int => S5 z.1 ∧ z.1.2.1.length ≤ 7) (fun _ => True) trivial fun x5 _ => ?_
    cases x5.1 with
    | false => exact fin
    | true =>
      obtain ⟨d1, d2, d3, d4⟩ := LM ((nth t.1.2.1 1).1) j1
      exact ⟨⟨d1, d2.trans j2, by show _ ≤ _; dsimp only [cond_true]; omega⟩, by dsimp only [cond_true]; omega⟩
theorem Qaj : A4.all (fun l => decide (l.length ≤ 4)) = true := by kernel_rfl
theorem Qak (code : List UInt8) (ci : Nat) (ch id : Int) : List.length (Zr code ci ch id).1.2.2.2.2 ≤ 4 := of_decide_eq_true (List.all_eq_true.1 Qaj _ (CY code ci ch id).h6)
theorem Qal (code : List UInt8) (ci : Nat) (ch : Int) : 1 ≤ (Kf code ci ch).1.length ∧ (Kf code ci ch).1.length ≤ 4 := by
  unfold Kf
  obtain ⟨t, ht⟩ := O1 (f := Zp code) (fun s r => by
    unfold Zp lt
    generalize Qk code s.2.2.1 s.2.2.2 4 = x
    simp only
    generalize decide (s.2.1 < 1 + x.1) = c
    cases c <;> simp) 5 ([], 0, ci, ch)
  have := Si (f := Zp code) (I := fun s => (s.1.length : Int) = s.2.1 ∧ s.2.1 ≤ 4) (J := fun t => 1 ≤ t.1.length ∧ t.1.length ≤ 4) (fun s s' hi h => by
    unfold Zp lt at h
    have hb := Q0 code s.2.2.1 s.2.2.2 4
    generalize Qk code s.2.2.1 s.2.2.2 4 = x at h hb
    by_cases hc : s.2.1 < 1 + x.1
    · simp only [decide_eq_true hc, cond_true] at h
      have h := Rd.next.inj h
      rw [← h]
      refine ⟨?_, ?_⟩
      · simp; omega
      show s.2.1 + 1 ≤ 4; omega
    · simp only [decide_eq_false hc, cond_false] at h
      cases h) (fun s t hi h => by
    unfold Zp lt at h
    have hb := Q0 code s.2.2.1 s.2.2.2 4
    generalize Qk code s.2.2.1 s.2.2.2 4 = x at h hb
    by_cases hc : s.2.1 < 1 + x.1
    · simp only [decide_eq_true hc, cond_true] at h
      cases h
    simp only [decide_eq_false hc, cond_false] at h
    have h := Rd.brk.inj h
    rw [← h]
    dsimp only
    omega) (n := 5) (s := ([], 0, ci, ch)) (t := t) ⟨rfl, by show (0 : Int) ≤ 4; decide⟩ (Il code ci ch) ht
  rw [ht]
  exact this
end Go.Proofs.YtkbfhiamdcoieaaGreatDoor
