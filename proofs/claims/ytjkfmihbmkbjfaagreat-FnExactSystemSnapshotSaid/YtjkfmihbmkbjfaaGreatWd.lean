/- Printed walks, second make: lists in memory are bounded; loops as folds; joins. No program in sight. -/
import Derived.Test.YtjkfmihbmkbjfaaGreatLm
import Derived.Test.YtjkfmihbmkbjfaaGreatDx
import Derived.KernelRfl
namespace Go.Proofs.YtjkfmihbmkbjfaaGreat
open Go.RowKit
open GoE (enc wide)

/-- the element at a place, in range or not -/
def nth {α : Type} [Inhabited α] (l : List α) (i : Nat) : α := l.getD i default
theorem nth_get {α : Type} [Inhabited α] {l : List α} {i : Nat} (h : i < l.length) : l[i]? = some (nth l i) := by
  simp [nth, List.getD, List.getElem?_eq_getElem h]
theorem nth_of {α : Type} [Inhabited α] {l : List α} {i : Nat} {a : α} (h : l[i]? = some a) : nth l i = a := by simp [nth, List.getD, h]
/-- k below s -/
def dn (s : Int) : Nat → Int
  | 0 => s
  | k + 1 => dn s k - 1
theorem dn_eq (s : Int) : ∀ k, dn s k = s - (k : Int)
  | 0 => by simp [dn]
  | k + 1 => by rw [dn, dn_eq s k]; omega
/-! ### bounds that come with memory -/
section
variable {α : Type} [GoE α]
theorem slcC_wide {J : Inj} {w : World} {v : Value} {tok : Tok} {l : List α} (h : CR J w v (.slc tok (GoD.n α) (eL l))) : wide l := by
  cases tok with
  | sh => exact vv_wide h
  | emp =>
    obtain ⟨h, _⟩ := h
    cases l with
    | nil => exact ⟨Nat.zero_le _, by simp⟩
    | cons a l => simp [eL] at h
  | vw k => exact vv_wide h
  | put => exact h.elim
  | own d k =>
    cases d with
    | true => exact vv_wide (OwnDeep.vv (X := fun _ => True) h fun _ _ => ⟨trivial, rfl⟩)
    | false => exact vv_wide (OwnTop.vv (X := fun _ => True) h (fun _ _ => ⟨trivial, rfl⟩) fun _ _ => ⟨trivial, rfl⟩)
theorem wide_get {l : List α} {i : Nat} {a : α} (h : l[i]? = some a) (hw : wide l) : wide a := hw.2 a (List.mem_of_getElem? h)
theorem wide_len {l : List α} (hw : wide l) : l.length ≤ 1073741824 := hw.1
theorem wide_fst {β : Type} [GoE β] {p : α × β} (hw : wide p) : wide p.1 := hw.1
theorem wide_snd {β : Type} [GoE β] {p : α × β} (hw : wide p) : wide p.2 := hw.2
theorem wide_take {l : List α} (k : Nat) (hw : wide l) : wide (List.take k l) := ⟨Nat.le_trans (by simp [Nat.min_le_right]) hw.1, fun a h => hw.2 a (List.mem_of_mem_take h)⟩
theorem wide_drop {l : List α} (k : Nat) (hw : wide l) : wide (List.drop k l) := ⟨Nat.le_trans (by simp) hw.1, fun a h => hw.2 a (List.mem_of_mem_drop h)⟩
end
section
variable {P : Program} {N : Nat} {w0 : World} {F0 : Nat → Prop} {Q : Exit → St → Prop} {s s' : St} {c : Code} {α : Type} [GoE α]
theorem awp_wide1 {t : Nat} {tok : Tok} {l : List α} (ht : get s.tm t = some (.one (.slc tok (GoD.n α) (eL l)))) (k : wide l → AWP P N w0 F0 c Q s) : AWP P N w0 F0 c Q s := fun J a w hr => k (slcC_wide (hr.tm t _ ht)) J a w hr
theorem awp_wideA {t : Nat} (i : Nat) {cs : List C} {tok : Tok} {l : List α} (ht : get s.tm t = some (.agg cs)) (hi : cs[i]? = some (.slc tok (GoD.n α) (eL l))) (k : wide l → AWP P N w0 F0 c Q s) : AWP P N w0 F0 c Q s := fun J a w hr => by
  obtain ⟨vs, _, ha⟩ := hr.tm t _ ht
  obtain ⟨u, _, hc⟩ := ha.get' hi
  exact k (slcC_wide hc) J a w hr
theorem awp_wideB {b : Nat} (i : Nat) {cs : List C} {tok : Tok} {l : List α} (hb : get s.bx b = some cs) (hi : cs[i]? = some (.slc tok (GoD.n α) (eL l))) (k : wide l → AWP P N w0 F0 c Q s) : AWP P N w0 F0 c Q s := fun J a w hr => by
  obtain ⟨_, _, _, arr, e, _, ha⟩ := hr.bo b _ hb
  obtain ⟨u, _, hc⟩ := ha.get' hi
  exact k (slcC_wide hc) J a w hr
theorem awp_str1 {t : Nat} {x : ByteArray} (ht : get s.tm t = some (.one (.str x))) (k : x.size ≤ 9223372036854775807 → AWP P N w0 F0 c Q s) : AWP P N w0 F0 c Q s := fun J a w hr => k (show x.size ≤ 9223372036854775807 from (hr.tm t _ ht).2) J a w hr
theorem awp_strA {t : Nat} (i : Nat) {cs : List C} {x : ByteArray} (ht : get s.tm t = some (.agg cs)) (hi : cs[i]? = some (.str x)) (k : x.size ≤ 9223372036854775807 → AWP P N w0 F0 c Q s) : AWP P N w0 F0 c Q s := fun J a w hr => by
  obtain ⟨vs, _, ha⟩ := hr.tm t _ ht
  obtain ⟨u, _, hc⟩ := ha.get' hi
  exact k (show x.size ≤ 9223372036854775807 from hc.2) J a w hr
theorem awp_strB {b : Nat} (i : Nat) {cs : List C} {x : ByteArray} (hb : get s.bx b = some cs) (hi : cs[i]? = some (.str x)) (k : x.size ≤ 9223372036854775807 → AWP P N w0 F0 c Q s) : AWP P N w0 F0 c Q s := fun J a w hr => by
  obtain ⟨_, _, _, arr, e, _, ha⟩ := hr.bo b _ hb
  obtain ⟨u, _, hc⟩ := ha.get' hi
  exact k (show x.size ≤ 9223372036854775807 from hc.2) J a w hr
theorem awp_eq (e : s = s') (h : AWP P N w0 F0 c Q s') : AWP P N w0 F0 c Q s := e ▸ h
end
/-! ### short names, for printed text -/
abbrev PV.i (n : Int) : PV := .int .i64 n
abbrev PV.b (b : Bool) : PV := .bool b
abbrev PV.s (x : ByteArray) : PV := .str x
abbrev PV.h {α : Type} [GoE α] (l : List α) : PV := .slc (GoD.n α) (eL l)
abbrev C.i (n : Int) : C := .int .i64 n
abbrev C.b (b : Bool) : C := .bool b
abbrev C.s (x : ByteArray) : C := .str x
abbrev C.e (n : Nat) : C := .slc .emp n []
abbrev C.h {α : Type} [GoE α] (l : List α) : C := .slc .sh (GoD.n α) (eL l)
abbrev C.o {α : Type} [GoE α] (k : Nat) (l : List α) : C := .slc (.own true k) (GoD.n α) (eL l)
abbrev C.q {α : Type} [GoE α] (k : Nat) (l : List α) : C := .slc (.own false k) (GoD.n α) (eL l)
abbrev C.v {α : Type} [GoE α] (k : Nat) (l : List α) : C := .slc (.vw k) (GoD.n α) (eL l)
abbrev AV.i (n : Int) : AV := .one (.int .i64 n)
abbrev AV.b (b : Bool) : AV := .one (.bool b)
abbrev AV.s (x : ByteArray) : AV := .one (.str x)
abbrev AV.e (n : Nat) : AV := .one (.slc .emp n [])
abbrev AV.h {α : Type} [GoE α] (l : List α) : AV := .one (.slc .sh (GoD.n α) (eL l))
abbrev AV.o {α : Type} [GoE α] (k : Nat) (l : List α) : AV := .one (.slc (.own true k) (GoD.n α) (eL l))
abbrev AV.q {α : Type} [GoE α] (k : Nat) (l : List α) : AV := .one (.slc (.own false k) (GoD.n α) (eL l))
abbrev AV.v {α : Type} [GoE α] (k : Nat) (l : List α) : AV := .one (.slc (.vw k) (GoD.n α) (eL l))
abbrev AV.p (k o : Nat) : AV := .one (.ptr k o)
abbrev AV.a (cs : List C) : AV := .agg cs
section
variable {A : Nat → List AV → AV → Prop} {T : TakeT}
theorem o0 : AllOb A T [] := trivial
theorem o1 {x : Ob} (h : x.holds A T) : AllOb A T [x] := h
theorem o2 {x y : Ob} {r : List Ob} (h : x.holds A T) (h' : AllOb A T (y :: r)) : AllOb A T (x :: y :: r) := ⟨h, h'⟩
end
/-! ### values, neater -/
section
variable {α : Type} [GoE α]
theorem av_len (l : List α) : AV.one (.int .i64 ((eL l).length : Int)) = AV.one (.int .i64 (l.length : Int)) := by rw [eL_length]
theorem av_int {k : IntKind} {a b : Int} (h : a = b) : AV.one (.int k a) = AV.one (.int k b) := h ▸ rfl
theorem av_bool {a b : Bool} (h : a = b) : AV.one (.bool a) = AV.one (.bool b) := h ▸ rfl
theorem av_drop (t : Tok) (n k : Nat) (lo : Int) (l : List α) (hk : lo.toNat = k) : AV.one (.slc t n (((eL l).take (Int.toNat ((eL l).length : Int))).drop (Int.toNat lo))) = AV.one (.slc t n (eL (List.drop k l))) := by
  subst hk; rw [Int.toNat_natCast, List.take_length, eL_drop]
theorem av_take (t : Tok) (n k : Nat) (hi : Int) (l : List α) (hk : hi.toNat = k) : AV.one (.slc t n (((eL l).take (Int.toNat hi)).drop (Int.toNat 0))) = AV.one (.slc t n (eL (List.take k l))) := by
  subst hk; rw [eL_take]; rfl
theorem av_sub (t : Tok) (n j k : Nat) (lo hi : Int) (l : List α) (hj : lo.toNat = j) (hk : hi.toNat = k) : AV.one (.slc t n (((eL l).take (Int.toNat hi)).drop (Int.toNat lo))) = AV.one (.slc t n (eL (List.drop j (List.take k l)))) := by
  subst hj; subst hk; rw [eL_take, eL_drop]
theorem el_of {l : List α} {i : Int} {k : Nat} {a : α} (h0 : 0 ≤ i) (hk : i.toNat = k) (h : l[k]? = some a) : 0 ≤ i ∧ (eL l)[i.toNat]? = some (enc a) := ⟨h0, by rw [hk]; exact eL_get h⟩
theorem len_of {a b m n : Nat} (ha : a = m) (hb : b = n) (h : m + n ≤ 1073741824) : a + b ≤ 1073741824 := by omega
theorem rng_of {l : List α} {lo hi : Int} (h0 : 0 ≤ lo) (h1 : lo ≤ hi) (h2 : hi ≤ (l.length : Int)) : 0 ≤ lo ∧ lo ≤ hi ∧ hi ≤ ((eL l).length : Int) := by rw [eL_length]; exact ⟨h0, h1, h2⟩
theorem rng_all {l : List α} {lo : Int} (h0 : 0 ≤ lo) (h2 : lo ≤ (l.length : Int)) : 0 ≤ lo ∧ lo ≤ ((eL l).length : Int) ∧ ((eL l).length : Int) ≤ ((eL l).length : Int) := by rw [eL_length]; exact ⟨h0, h2, Int.le_refl _⟩
end
theorem app_eL {α : Type} [GoE α] {A B : List (List PV)} {a b : List α} (ha : A = eL a) (hb : B = eL b) : A ++ B = eL (a ++ b) := by rw [ha, hb, eL_append]
theorem mk_eL {α : Type} [GoE α] (n : Nat) (a : α) : List.replicate n (enc a) = eL (List.replicate n a) := by simp [eL]
theorem app_nil {α : Type} [GoE α] {B : List (List PV)} {b : List α} (hb : B = eL b) : [] ++ B = eL b := hb
theorem ne_of_beq {α : Type} [BEq α] [LawfulBEq α] {a b : α} (h : (a == b) = false) : a ≠ b := by simpa using h
theorem ne_of_bne {α : Type} [BEq α] [LawfulBEq α] {a b : α} (h : (a != b) = true) : a ≠ b := by simpa using h
theorem eq_of_bne {α : Type} [BEq α] [LawfulBEq α] {a b : α} (h : (a != b) = false) : a = b := by simpa using h
/-! ### trees -/
theorem bif_t {α : Sort _} {c : Bool} {a b r : α} (h : c = true) (e : a = r) : (bif c then a else b) = r := by subst h; exact e
theorem bif_f {α : Sort _} {c : Bool} {a b r : α} (h : c = false) (e : b = r) : (bif c then a else b) = r := by subst h; exact e
inductive Rd (R S T : Type) where
  | next (s : S)
  | brk (t : T)
  | ret (r : R)
inductive Out (R T : Type) where
  | brk (t : T)
  | ret (r : R)
/-- behind a loop -/
def Out.on {R T : Type} (o : Out R T) (f : T → R) : R := match o with
  | .brk t => f t
  | .ret r => r
theorem on_b {R T : Type} {o : Out R T} {f : T → R} {t : T} {r : R} (h : o = .brk t) (e : f t = r) : o.on f = r := by subst h; exact e
theorem on_r {R T : Type} {o : Out R T} {f : T → R} {r : R} (h : o = .ret r) : o.on f = r := by subst h; rfl
/-- a loop over the elements of a list -/
def forL {α R S T : Type} (f : Nat → α → S → Rd R S T) (e : Nat → S → T) : List α → Nat → S → Out R T
  | [], k, s => .brk (e k s)
  | a :: l, k, s => match f k a s with
    | .next s' => forL f e l (k + 1) s'
    | .brk t => .brk t
    | .ret r => .ret r
/-- a loop that counts: how many rounds are left -/
def forN {R S T : Type} (f : Nat → S → Rd R S T) (e : Nat → S → T) : Nat → Nat → S → Out R T
  | 0, k, s => .brk (e k s)
  | n + 1, k, s => match f k s with
    | .next s' => forN f e n (k + 1) s'
    | .brk t => .brk t
    | .ret r => .ret r
section
variable {α R S T : Type} {f : Nat → α → S → Rd R S T} {e : Nat → S → T} {l : List α} {k : Nat} {s : S} {a : α} {o : Out R T}
theorem drop_at (h : l[k]? = some a) : l.drop k = a :: l.drop (k + 1) := by
  obtain ⟨hlt, rfl⟩ := List.getElem?_eq_some_iff.1 h
  exact List.drop_eq_getElem_cons hlt
theorem forL_next {s' : S} (hx : l[k]? = some a) (h : f k a s = .next s') (hI : o = forL f e (l.drop k) k s) : o = forL f e (l.drop (k + 1)) (k + 1) s' := by
  rw [hI, drop_at hx]; simp only [forL, h]
theorem forL_brk {t : T} (hx : l[k]? = some a) (h : f k a s = .brk t) (hI : o = forL f e (l.drop k) k s) : o = .brk t := by
  rw [hI, drop_at hx]; simp only [forL, h]
theorem forL_ret {r : R} (hx : l[k]? = some a) (h : f k a s = .ret r) (hI : o = forL f e (l.drop k) k s) : o = .ret r := by
  rw [hI, drop_at hx]; simp only [forL, h]
theorem forL_end {t : T} (hk : k = l.length) (h : e k s = t) (hI : o = forL f e (l.drop k) k s) : o = .brk t := by
  rw [hI, hk, List.drop_length, ← hk]; simp only [forL, h]
end
section
variable {R S T : Type} {f : Nat → S → Rd R S T} {e : Nat → S → T} {n k : Nat} {s : S} {o : Out R T}
theorem forN_next {s' : S} (hk : k < n) (h : f k s = .next s') (hI : o = forN f e (n - k) k s) : o = forN f e (n - (k + 1)) (k + 1) s' := by
  rw [hI, show n - k = n - (k + 1) + 1 by omega]; simp only [forN, h]
theorem forN_brk {t : T} (hk : k < n) (h : f k s = .brk t) (hI : o = forN f e (n - k) k s) : o = .brk t := by
  rw [hI, show n - k = n - (k + 1) + 1 by omega]; simp only [forN, h]
theorem forN_ret {r : R} (hk : k < n) (h : f k s = .ret r) (hI : o = forN f e (n - k) k s) : o = .ret r := by
  rw [hI, show n - k = n - (k + 1) + 1 by omega]; simp only [forN, h]
theorem forN_end {t : T} (hk : k = n) (h : e k s = t) (hI : o = forN f e (n - k) k s) : o = .brk t := by
  rw [hI, hk, Nat.sub_self, ← hk]; simp only [forN, h]
end
/-- a loop whose end is shown apart: fuel -/
def whl {R S T : Type} (f : S → Rd R S T) : Nat → S → Option (Out R T)
  | 0, _ => none
  | n + 1, s => match f s with
    | .next s' => whl f n s'
    | .brk t => some (.brk t)
    | .ret r => some (.ret r)
section
variable {R S T : Type} {f : S → Rd R S T} {n : Nat} {s : S} {o : Out R T}
theorem whl_next {s' : S} (h : f s = .next s') (hI : whl f (n + 1) s = some o) : whl f n s' = some o := by simpa only [whl, h] using hI
theorem whl_brk {t : T} (h : f s = .brk t) (hI : whl f (n + 1) s = some o) : o = .brk t := by simp only [whl, h] at hI; exact (Option.some.inj hI).symm
theorem whl_ret {r : R} (h : f s = .ret r) (hI : whl f (n + 1) s = some o) : o = .ret r := by simp only [whl, h] at hI; exact (Option.some.inj hI).symm
end
instance {R T : Type} [Inhabited T] : Inhabited (Out R T) := ⟨.brk default⟩
def whlD {R S T : Type} [Inhabited T] (f : S → Rd R S T) (n : Nat) (s : S) : Out R T := (whl f n s).getD default
theorem whl_some {R S T : Type} [Inhabited T] {f : S → Rd R S T} {n : Nat} {s : S} (h : (whl f n s).isSome = true) : whl f n s = some (whlD f n s) := by
  unfold whlD
  cases hw : whl f n s with
  | none => rw [hw] at h; cases h
  | some o => rfl
theorem whl_zero {R S T : Type} {f : S → Rd R S T} {s : S} {o : Out R T} : ¬ whl f 0 s = some o := by simp [whl]
/-! ### loops -/
def QL (id : Nat) (A B : St → Prop) (Q : Exit → St → Prop) : Exit → St → Prop
  | .normal, s => A s
  | .exit i, s => bif Nat.beq i id then B s else Q (.exit i) s
  | e, s => Q e s
section
variable {P : Program} {N : Nat} {w0 : World} {F0 : Nat → Prop} {Q : Exit → St → Prop} {s s' : St} {c : Code} {σ τ : Type} {id : Nat}
theorem awp_blockG (mk : Nat → σ → St) (after : τ → St) (I : Nat → σ → Prop) (D : τ → Prop) (len : Nat) (x0 : σ) (h0 : Weak s (mk 0 x0)) (i0 : I 0 x0)
    (hr : ∀ k x, k < len → I k x → AWP P N w0 F0 c (QL id (fun s' => ∃ x', Weak s' (mk (k + 1) x') ∧ I (k + 1) x') (fun s' => ∃ y, Weak s' (after y) ∧ D y) Q) (mk k x))
    (he : ∀ k x, k = len → I k x → AWP P N w0 F0 c (QL id (fun _ => False) (fun s' => ∃ y, Weak s' (after y) ∧ D y) Q) (mk k x))
    (ha : ∀ y, D y → Q .normal (after y)) : AWP P N w0 F0 (.block id (.loop c)) Q s := by
  refine awp_block (awp_weak h0 (awp_loop (fun n s => ∃ k x, k ≤ len ∧ n = len - k ∧ s = mk k x ∧ I k x) (n := len) ⟨0, x0, Nat.zero_le _, by omega, rfl, i0⟩ ?_))
  rintro n _ ⟨k, x, hk, rfl, rfl, hi⟩
  have hex : ∀ (A : St → Prop) (i : Nat) (s' : St), QL id A (fun s' => ∃ y, Weak s' (after y) ∧ D y) Q (.exit i) s' → ∀ (J : Inj) (a : Act) (w : World), Rel N w0 F0 J a w s' → ∃ J s, Rel N w0 F0 J a w s ∧ Exit.inBlockS id Q (.exit i) s := by
    intro A i s' hq J a w hR
    simp only [QL] at hq
    cases hb : Nat.beq i id with
    | true =>
      rw [hb] at hq
      obtain ⟨y, hw, hd⟩ := hq
      obtain ⟨J', hR'⟩ := hw N w0 F0 J a w hR
      exact ⟨J', _, hR', by simp only [Exit.inBlockS, hb, cond_true]; exact ha y hd⟩
    | false =>
      rw [hb] at hq
      exact ⟨J, s', hR, by simp only [Exit.inBlockS, hb, cond_false]; exact hq⟩
  intro J a w hrel
  by_cases h : k < len
  · refine wp_mono (hr k x h hi J a w hrel) ?_
    rintro e a' w' ⟨J', s', hR, hq⟩
    cases e with
    | normal =>
      obtain ⟨x', hw, hi'⟩ := hq
      exact ⟨J', s', hR, len - (k + 1), _, by omega, hw, k + 1, x', by omega, rfl, rfl, hi'⟩
    | exit i => exact hex _ i s' hq J' a' w' hR
    | _ => exact ⟨J', s', hR, hq⟩
  · obtain rfl : k = len := by omega
    refine wp_mono (he _ x rfl hi J a w hrel) ?_
    rintro e a' w' ⟨J', s', hR, hq⟩
    cases e with
    | normal => exact hq.elim
    | exit i => exact hex _ i s' hq J' a' w' hR
    | _ => exact ⟨J', s', hR, hq⟩
/-- a loop whose rounds the fuel of 'whl' counts -/
theorem awp_blockW (mk : σ → St) (after : τ → St) (I : Nat → σ → Prop) (D : τ → Prop) (n : Nat) (x0 : σ) (h0 : Weak s (mk x0)) (i0 : I n x0) (hz : ∀ x, ¬ I 0 x)
    (hr : ∀ n x, I (n + 1) x → AWP P N w0 F0 c (QL id (fun s' => ∃ x', Weak s' (mk x') ∧ I n x') (fun s' => ∃ y, Weak s' (after y) ∧ D y) Q) (mk x))
    (ha : ∀ y, D y → Q .normal (after y)) : AWP P N w0 F0 (.block id (.loop c)) Q s := by
  refine awp_blockG (fun _ => mk) after (fun k x => ∃ m, m + k = n ∧ I m x) D n x0 h0 ⟨n, rfl, i0⟩ (fun k x hk ⟨m, hm, hi⟩ => ?_) (fun k x hk ⟨m, hm, hi⟩ => ?_) ha
  · obtain ⟨m, rfl⟩ : ∃ j, m = j + 1 := ⟨m - 1, by omega⟩
    refine awp_mono (hr m x hi) fun e s' hq => ?_
    cases e with
    | normal => obtain ⟨x', hw, hi'⟩ := hq; exact ⟨x', hw, m, by omega, hi'⟩
    | _ => exact hq
  · obtain rfl : m = 0 := by omega
    exact (hz x hi).elim
/-- where two ways meet -/
def QJ (s3 : St) (e : Exit) (s' : St) : Prop := e = .normal ∧ Weak s' s3
theorem awp_join (s3 : St) (b : Bool) (h1 : b = true → AWP P N w0 F0 c (QJ s3) s) (h0 : b = false → AWP P N w0 F0 c (QJ s3) s) (hQ : Q .normal s3) : AWP P N w0 F0 c Q s := by
  have key : AWP P N w0 F0 c (QJ s3) s := by cases hb : b with
    | true => exact h1 hb
    | false => exact h0 hb
  intro J a w hr
  refine wp_mono (key J a w hr) ?_
  rintro e a' w' ⟨J', s', hR, rfl, hw⟩
  obtain ⟨J2, hR2⟩ := hw N w0 F0 J' a' w' hR
  exact ⟨J2, s3, hR2, hQ⟩
theorem weak_eq (e : s = s') : Weak s s' := e ▸ Weak.refl s
theorem awp_split (b : Bool) (h1 : b = true → AWP P N w0 F0 c Q s) (h0 : b = false → AWP P N w0 F0 c Q s) : AWP P N w0 F0 c Q s := by cases hb : b with
  | true => exact h1 hb
  | false => exact h0 hb
theorem awp_condT {t : Nat} {x y : Code} (hc : get s.tm t = some (.one (.bool true))) (h1 : AWP P N w0 F0 x Q s) : AWP P N w0 F0 (.cond (.tmp t) x y) Q s := awp_cond hc (fun _ => h1) (fun h => by cases h)
theorem awp_condF {t : Nat} {x y : Code} (hc : get s.tm t = some (.one (.bool false))) (h1 : AWP P N w0 F0 y Q s) : AWP P N w0 F0 (.cond (.tmp t) x y) Q s := awp_cond hc (fun h => by cases h) (fun _ => h1)
theorem awp_condT' {t : Nat} {x y : Code} {b : Bool} (hc : get s.tm t = some (.one (.bool b))) (hb : b = true) (h1 : AWP P N w0 F0 x Q s) : AWP P N w0 F0 (.cond (.tmp t) x y) Q s := awp_cond hc (fun _ => h1) (fun h => absurd (hb.symm.trans h) (by decide))
theorem awp_condF' {t : Nat} {x y : Code} {b : Bool} (hc : get s.tm t = some (.one (.bool b))) (hb : b = false) (h1 : AWP P N w0 F0 y Q s) : AWP P N w0 F0 (.cond (.tmp t) x y) Q s := awp_cond hc (fun h => absurd (hb.symm.trans h) (by decide)) (fun _ => h1)
end
theorem and_l {a b : Bool} (h : (a && b) = true) : a = true := by cases a <;> simp_all
theorem and_r {a b : Bool} (h : (a && b) = true) : b = true := by cases a <;> simp_all
theorem or_l {a b : Bool} (h : (a || b) = false) : a = false := by cases a <;> simp_all
theorem or_r {a b : Bool} (h : (a || b) = false) : b = false := by cases a <;> simp_all
theorem bnot_t {b : Bool} (h : (!b) = true) : b = false := by cases b <;> simp_all
theorem bnot_f {b : Bool} (h : (!b) = false) : b = true := by cases b <;> simp_all
/-! ### weaker states, all at once: opened, frozen, demoted, renamed, kept -/
theorem weak_gen {s s' : St} (os : List (Bool × Nat × Nat × Bool × Nat × Nat)) (fz ds : List Nat) (sw : List (Nat × Nat)) (ts bs : List Nat) (h : ((((s.opens os).map (relC (freezeAll fz) none)).demotes ds).swaps sw).keep ts bs = s') : Weak s s' :=
  (weak_opens os s).trans ((weak_freeze fz rfl).trans ((weak_demotes ds _).trans (weak_to sw ts bs h)))
/-! ### steps in short: a state said by what has turned in the one before -/
def dropL {α : Type} (d : List Nat) : List (Nat × α) → List (Nat × α)
  | [] => []
  | p :: r => bif memN p.1 d then dropL d r else p :: dropL d r
def updL {α : Type} (u : List (Nat × α)) (d : List Nat) (l : List (Nat × α)) : List (Nat × α) := u ++ dropL d l
def keysL {α : Type} : List (Nat × α) → List Nat
  | [] => []
  | p :: r => p.1 :: keysL r
def St.up (s : St) (u : List (Nat × AV)) (d : List Nat) (bu : List (Nat × List C)) (bd : List Nat) : St := ⟨updL u d s.tm, updL bu bd s.bx⟩
def St.fit (s s' : St) : St := s.keep (keysL s'.tm) (keysL s'.bx)
theorem weak_fit {s s' : St} (h : s.fit s' = s') : Weak s s' := weak_keep _ _ h
def St.cellT (s : St) (t i : Nat) : Option C := match get s.tm t with
  | some (.one c) => (match i with | 0 => some c | _ => none)
  | some (.agg cs) => cs[i]?
  | _ => none
def St.cellB (s : St) (b i : Nat) : Option C := match get s.bx b with
  | some cs => cs[i]?
  | _ => none
section
variable {P : Program} {N : Nat} {w0 : World} {F0 : Nat → Prop} {Q : Exit → St → Prop} {s : St} {c : Code}
theorem rk {tt : List (Nat × TI)} (htt : ttOk P tt = true) (u : List (Nat × AV)) (d : List Nat) (bu : List (Nat × List C)) (bd : List Nat) (orcs : List (Nat × Orc)) {obs : List Ob} (hob : AllOb (ACalls P) (ATake P) obs) {id : Nat} {ops : Array Oper} (hQ : Q .normal (s.up u d bu bd))
    (h : runKeep tt N orcs ops.toList (keysL (s.up u d bu bd).tm) (keysL (s.up u d bu bd).bx) s = some (s.up u d bu bd, obs) := by kernel_rfl) : AWP P N w0 F0 (.region id ops false) Q s := awp_regionK htt orcs _ _ h hob hQ
theorem rd' {tt : List (Nat × TI)} (htt : ttOk P tt = true) (hm : P.follows .mixedOrders = true) (u : List (Nat × AV)) (d : List Nat) (bu : List (Nat × List C)) (bd : List Nat) (orcs : List (Nat × Orc)) {obs : List Ob} (hob : AllOb (ACalls P) (ATake P) obs) {id : Nat} {ops : Array Oper} (hQ : Q .normal (s.up u d bu bd))
    (h : runDraw tt N orcs ops.toList (keysL (s.up u d bu bd).tm) (keysL (s.up u d bu bd).bx) s = some (s.up u d bu bd, obs) := by kernel_rfl) : AWP P N w0 F0 (.region id ops true) Q s := awp_draw htt hm orcs _ _ h hob hQ
theorem ck {t : Nat} {x y : Code} (b : Bool) (h1 : b = true → AWP P N w0 F0 x Q s) (h2 : b = false → AWP P N w0 F0 y Q s) (hc : get s.tm t = some (.one (.bool b)) := by kernel_rfl) : AWP P N w0 F0 (.cond (.tmp t) x y) Q s := awp_cond hc h1 h2
theorem ckT {t : Nat} {x y : Code} (h1 : AWP P N w0 F0 x Q s) (hc : get s.tm t = some (.one (.bool true)) := by kernel_rfl) : AWP P N w0 F0 (.cond (.tmp t) x y) Q s := awp_condT hc h1
theorem ckF {t : Nat} {x y : Code} (h1 : AWP P N w0 F0 y Q s) (hc : get s.tm t = some (.one (.bool false)) := by kernel_rfl) : AWP P N w0 F0 (.cond (.tmp t) x y) Q s := awp_condF hc h1
theorem ckt {t : Nat} {x y : Code} {b : Bool} (hb : b = true) (h1 : AWP P N w0 F0 x Q s) (hc : get s.tm t = some (.one (.bool b)) := by kernel_rfl) : AWP P N w0 F0 (.cond (.tmp t) x y) Q s := awp_condT' hc hb h1
theorem ckf {t : Nat} {x y : Code} {b : Bool} (hb : b = false) (h1 : AWP P N w0 F0 y Q s) (hc : get s.tm t = some (.one (.bool b)) := by kernel_rfl) : AWP P N w0 F0 (.cond (.tmp t) x y) Q s := awp_condF' hc hb h1
theorem jn (u : List (Nat × AV)) (d : List Nat) (bu : List (Nat × List C)) (bd : List Nat) (b : Bool) (h1 : b = true → AWP P N w0 F0 c (QJ (s.up u d bu bd)) s) (h0 : b = false → AWP P N w0 F0 c (QJ (s.up u d bu bd)) s) (hQ : Q .normal (s.up u d bu bd)) : AWP P N w0 F0 c Q s := awp_join _ b h1 h0 hQ
theorem eqn (u : List (Nat × AV)) (d : List Nat) (bu : List (Nat × List C)) (bd : List Nat) (h : s.fit (s.up u d bu bd) = s.up u d bu bd) (k : AWP P N w0 F0 c Q (s.up u d bu bd)) : AWP P N w0 F0 c Q s := awp_weak (weak_fit h) k
theorem cell_AR {J : Inj} {a : Act} {w : World} (h : Rel N w0 F0 J a w s) {t i : Nat} {x : C} (hc : s.cellT t i = some x) : ∃ u, CR J w u x := by
  unfold St.cellT at hc
  split at hc
  · rename_i y hg
    split at hc
    · obtain rfl := Option.some.inj hc; exact ⟨_, h.tm t _ hg⟩
    · cases hc
  · rename_i cs hg
    obtain ⟨vs, _, ha⟩ := h.tm t _ hg
    obtain ⟨u, _, hu⟩ := ha.get' hc
    exact ⟨u, hu⟩
  · cases hc
theorem cell_BR {J : Inj} {a : Act} {w : World} (h : Rel N w0 F0 J a w s) {b i : Nat} {x : C} (hc : s.cellB b i = some x) : ∃ u, CR J w u x := by
  unfold St.cellB at hc
  split at hc
  · rename_i cs hg
    obtain ⟨_, _, _, arr, e, _, ha⟩ := h.bo b _ hg
    obtain ⟨u, _, hu⟩ := ha.get' hc
    exact ⟨u, hu⟩
  · cases hc
theorem wdT {α : Type} [GoE α] (t i : Nat) (tok : Tok) (l : List α) (k : wide l → AWP P N w0 F0 c Q s) (h : s.cellT t i = some (.slc tok (GoD.n α) (eL l)) := by kernel_rfl) : AWP P N w0 F0 c Q s := fun J a w hr => k (by obtain ⟨u, hu⟩ := cell_AR hr h; exact slcC_wide hu) J a w hr
theorem wdB {α : Type} [GoE α] (b i : Nat) (tok : Tok) (l : List α) (k : wide l → AWP P N w0 F0 c Q s) (h : s.cellB b i = some (.slc tok (GoD.n α) (eL l)) := by kernel_rfl) : AWP P N w0 F0 c Q s := fun J a w hr => k (by obtain ⟨u, hu⟩ := cell_BR hr h; exact slcC_wide hu) J a w hr
theorem stT (t i : Nat) (x : ByteArray) (k : x.size ≤ 9223372036854775807 → AWP P N w0 F0 c Q s) (h : s.cellT t i = some (.str x) := by kernel_rfl) : AWP P N w0 F0 c Q s := fun J a w hr => k (by obtain ⟨u, hu⟩ := cell_AR hr h; exact hu.2) J a w hr
theorem stB (b i : Nat) (x : ByteArray) (k : x.size ≤ 9223372036854775807 → AWP P N w0 F0 c Q s) (h : s.cellB b i = some (.str x) := by kernel_rfl) : AWP P N w0 F0 c Q s := fun J a w hr => k (by obtain ⟨u, hu⟩ := cell_BR hr h; exact hu.2) J a w hr
theorem blk {σ τ : Type} {id : Nat} (u : Nat → σ → List (Nat × AV)) (d : List Nat) (bu : Nat → σ → List (Nat × List C)) (bd : List Nat) (ua : τ → List (Nat × AV)) (da : List Nat) (ba : τ → List (Nat × List C)) (bda : List Nat) (I : Nat → σ → Prop) (D : τ → Prop) (len : Nat) (x0 : σ)
    (h0 : Weak s (s.up (u 0 x0) d (bu 0 x0) bd)) (i0 : I 0 x0)
    (hr : ∀ k x, k < len → I k x → AWP P N w0 F0 c (QL id (fun s' => ∃ x', Weak s' (s.up (u (k + 1) x') d (bu (k + 1) x') bd) ∧ I (k + 1) x') (fun s' => ∃ y, Weak s' (s.up (ua y) da (ba y) bda) ∧ D y) Q) (s.up (u k x) d (bu k x) bd))
    (he : ∀ k x, k = len → I k x → AWP P N w0 F0 c (QL id (fun _ => False) (fun s' => ∃ y, Weak s' (s.up (ua y) da (ba y) bda) ∧ D y) Q) (s.up (u k x) d (bu k x) bd))
    (ha : ∀ y, D y → Q .normal (s.up (ua y) da (ba y) bda)) : AWP P N w0 F0 (.block id (.loop c)) Q s := awp_blockG _ _ I D len x0 h0 i0 hr he ha
theorem blw {σ τ : Type} {id : Nat} (u : σ → List (Nat × AV)) (d : List Nat) (bu : σ → List (Nat × List C)) (bd : List Nat) (ua : τ → List (Nat × AV)) (da : List Nat) (ba : τ → List (Nat × List C)) (bda : List Nat) (I : Nat → σ → Prop) (D : τ → Prop) (n : Nat) (x0 : σ)
    (h0 : Weak s (s.up (u x0) d (bu x0) bd)) (i0 : I n x0) (hz : ∀ x, ¬ I 0 x)
    (hr : ∀ n x, I (n + 1) x → AWP P N w0 F0 c (QL id (fun s' => ∃ x', Weak s' (s.up (u x') d (bu x') bd) ∧ I n x') (fun s' => ∃ y, Weak s' (s.up (ua y) da (ba y) bda) ∧ D y) Q) (s.up (u x) d (bu x) bd))
    (ha : ∀ y, D y → Q .normal (s.up (ua y) da (ba y) bda)) : AWP P N w0 F0 (.block id (.loop c)) Q s := awp_blockW _ _ I D n x0 h0 i0 hz hr ha
end
theorem av_i {a b : Int} (h : a = b) : AV.i a = AV.i b := h ▸ rfl
theorem cb {P : Program} {f : Nat} {args : List AV} {a b : Bool} (h : a = b) (c : ACalls P f args (.b a)) : ACalls P f args (.b b) := h ▸ c
theorem av_dt {p : Prop} [Decidable p] (h : p) : AV.b (decide p) = AV.b true := by rw [decide_eq_true h]
theorem av_df {p : Prop} [Decidable p] (h : ¬ p) : AV.b (decide p) = AV.b false := by rw [decide_eq_false h]
theorem weak_sf {s s' : St} (sw : List (Nat × Nat)) (h : (s.swaps sw).fit s' = s') : Weak s s' := (weak_swaps sw s).trans (weak_fit h)
theorem weak_gf {s s' : St} (os : List (Bool × Nat × Nat × Bool × Nat × Nat)) (fz ds : List Nat) (sw : List (Nat × Nat)) (h : ((((s.opens os).map (relC (freezeAll fz) none)).demotes ds).swaps sw).fit s' = s') : Weak s s' :=
  (weak_opens os s).trans ((weak_freeze fz rfl).trans ((weak_demotes ds _).trans (weak_sf sw h)))
theorem pret {tt : List (Nat × TI)} {rs : List ResultVar} {r b : AV} {s : St} (frz : List Nat) (e : b = r) (h : gives tt rs (s.map (relC (freezeAll frz) none)) = some b := by kernel_rfl) : Post tt rs r .ret s := post_ret frz h e
theorem pnor {tt : List (Nat × TI)} {rs : List ResultVar} {r b : AV} {s : St} (frz : List Nat) (e : b = r) (h : gives tt rs (s.map (relC (freezeAll frz) none)) = some b := by kernel_rfl) : Post tt rs r .normal s := post_normal frz h e
theorem opn {P : Program} {N : Nat} {w0 : World} {F0 : Nat → Prop} {Q : Exit → St → Prop} {s : St} {c : Code} (l : List (Bool × Nat × Nat × Bool × Nat × Nat)) (h : AWP P N w0 F0 c Q (s.opens l)) : AWP P N w0 F0 c Q s := awp_opens l rfl h
end Go.Proofs.YtjkfmihbmkbjfaaGreat
