/- The abstract state: what the temporaries and the boxes of a frame hold, as pure data; and when a frame in a world shows such a state. No program in sight. -/
import Derived.Test.YtjkfmihbmkbjfaaGreatPv
import Derived.Calls
namespace Go.Proofs.YtjkfmihbmkbjfaaGreat
open Go.RowKit

/-- sh: in memory that nobody turns; emp: empty, no room; own d k: a row of our own (d: all below it too), named k; vw k: lies within what k names; put: (only as what becomes of a name) cells stored into row i, from place o on, of the slice named, whose width is m -/
inductive Tok where
  | sh
  | emp
  | own (d : Bool) (k : Nat)
  | vw (k : Nat)
  | put (d : Bool) (m i o : Nat) (cs : List PV)

inductive C where
  | int (k : IntKind) (n : Int)
  | bool (b : Bool)
  | str (s : ByteArray)
  | slc (t : Tok) (n : Nat) (l : List (List PV))
  | ptr (k off : Nat)
  | rptr (t : Tok) (cs : List PV)
  | ept (d : Bool) (k n i o : Nat) (cs : List PV)
  | fn (f : Nat) (caps : List (Nat × Nat))
  | fnr (f : Nat) (caps : List (List PV))
  | dead

inductive AV where
  | one (c : C)
  | agg (cs : List C)
  | tup (vs : List (Bool × List C))

/-- where the names of a state lie -/
structure Inj where
  F : Nat → Prop
  L : Nat → List Nat
  B : Nat → Nat

def Tok.key : Tok → Option Nat
  | .own _ k => some k
  | .vw k => some k
  | _ => none
def C.key : C → Option Nat
  | .slc t _ _ => t.key
  | .rptr t _ => t.key
  | .ept _ k _ _ _ _ => some k
  | _ => none
def C.bkeys : C → List Nat
  | .ptr k _ => [k]
  | .fn _ caps => caps.map (·.1)
  | _ => []

/-- what is read through a pointer to an element -/
def eptTok : Bool → Nat → Tok
  | true, k => .vw k
  | false, _ => .sh
/-- the blocks through which a token may read -/
def Inj.X (J : Inj) : Tok → Nat → Prop
  | .sh, b => J.F b
  | .vw k, b => b ∈ J.L k ∨ J.F b
  | _, _ => False

/-- an owned row whose elements are shared -/
def OwnTop (F : Nat → Prop) (L : List Nat) (w : World) (v : Value) (n : Nat) (l : List (List PV)) : Prop :=
  (l = [] ∧ ∃ oa, v = .slice oa 0 0) ∨ ∃ (g cap : Nat) (cur : Array Value) (e : TypeId), L = [g] ∧ v = .slice (some ⟨g, 0, none⟩) l.length cap ∧ w.heap[g]? = some (.cells cur e (0, 0)) ∧ cur.size = cap * n ∧ VR F w n (cur.toList.take (l.length * n)) l ∧ l.length ≤ cap ∧ Cap l.length cap
/-- an owned row, all below it owned too: what is named may be more -/
def OwnDeep (L : List Nat) (w : World) (v : Value) (n : Nat) (l : List (List PV)) : Prop :=
  ∃ L', OV w L' v (.slc n l) ∧ L'.Nodup ∧ (∀ b, b ∈ L' → b ∈ L) ∧ (L' = [] ∨ ∃ g r r', L' = g :: r ∧ L = g :: r')
theorem OwnDeep.of {L : List Nat} {w : World} {v : Value} {n : Nat} {l : List (List PV)} (h : OV w L v (.slc n l)) (hn : L.Nodup) : OwnDeep L w v n l := by
  refine ⟨L, h, hn, fun _ h => h, ?_⟩
  cases L with
  | nil => exact .inl rfl
  | cons g r => exact .inr ⟨g, r, r, rfl, rfl⟩
theorem OwnDeep.keep {L : List Nat} {w w' : World} {v : Value} {n : Nat} {l : List (List PV)} (h : OwnDeep L w v n l) (hL : ∀ b, b ∈ L → w'.heap[b]? = w.heap[b]?) : OwnDeep L w' v n l := by
  obtain ⟨L', h1, h2, h3, h4⟩ := h
  exact ⟨L', OV.keep h1 fun b hb => hL b (h3 b hb), h2, h3, h4⟩
theorem OwnDeep.vv {X : Nat → Prop} {L : List Nat} {w w' : World} {v : Value} {n : Nat} {l : List (List PV)} (h : OwnDeep L w v n l) (hL : ∀ b, b ∈ L → X b ∧ w'.heap[b]? = w.heap[b]?) : VV X w' v (.slc n l) := by
  obtain ⟨L', h1, _, h3, _⟩ := h
  exact (OV.keep h1 fun b hb => (hL b (h3 b hb)).2).vv fun b hb => (hL b (h3 b hb)).1
/-- a pointer behind which cells can be read -/
def Reads (X : Nat → Prop) (w : World) (v : Value) (cs : List PV) : Prop :=
  ∃ b off vs, v = .pointer (some ⟨b, off, none⟩) ∧ X b ∧ VC X w vs cs ∧ ∀ (j : Nat) (u : Value), vs[j]? = some u → w.cell? ⟨b, off + j, none⟩ = some u

inductive All2 {α β : Type} (R : α → β → Prop) : List α → List β → Prop
  | nil : All2 R [] []
  | cons {a : α} {b : β} {l : List α} {m : List β} : R a b → All2 R l m → All2 R (a :: l) (b :: m)

def CR (J : Inj) (w : World) (v : Value) : C → Prop
  | .int k n => v = .int k n ∧ InR k n
  | .bool b => v = .bool b
  | .str s => v = .string s ∧ s.size ≤ maxLen
  | .slc .sh n l => VV J.F w v (.slc n l)
  | .slc .emp _ l => l = [] ∧ ∃ oa, v = .slice oa 0 0
  | .slc (.own true k) n l => OwnDeep (J.L k) w v n l
  | .slc (.own false k) n l => OwnTop J.F (J.L k) w v n l
  | .slc (.vw k) n l => VV (J.X (.vw k)) w v (.slc n l)
  | .slc (.put _ _ _ _ _) _ _ => False
  | .ptr k off => v = .pointer (some ⟨J.B k, off, none⟩)
  | .rptr t cs => Reads (J.X t) w v cs
  | .ept d k n i o cs => ∃ g r vs, J.L k = g :: r ∧ v = .pointer (some ⟨g, i * n + o, none⟩) ∧ VC (J.X (eptTok d k)) w vs cs ∧ (∀ (j : Nat) (u : Value), vs[j]? = some u → w.cell? ⟨g, i * n + o + j, none⟩ = some u) ∧ ∃ arr e, w.heap[g]? = some (.cells arr e (0, 0))
  | .fn f caps => v = .func (.func f) #[] (caps.map fun c => .pointer (some ⟨J.B c.1, c.2, none⟩)).toArray
  | .fnr f caps => ∃ vs : List Value, v = .func (.func f) #[] vs.toArray ∧ All2 (Reads J.F w) vs caps
  | .dead => True
def VA (J : Inj) (w : World) (v : Value) : Bool × List C → Prop
  | (true, cs) => ∃ vs : List Value, v = .agg vs.toArray ∧ All2 (CR J w) vs cs
  | (false, cs) => ∃ c, cs = [c] ∧ CR J w v c
def AR (J : Inj) (w : World) (v : Value) : AV → Prop
  | .one c => CR J w v c
  | .agg cs => ∃ vs : List Value, v = .agg vs.toArray ∧ All2 (CR J w) vs cs
  | .tup l => ∃ vs : List Value, v = .tuple vs.toArray ∧ All2 (VA J w) vs l

def AV.cells : AV → List C
  | .one c => [c]
  | .agg cs => cs
  | .tup l => l.flatMap (·.2)
def AV.map (f : C → C) : AV → AV
  | .one c => .one (f c)
  | .agg cs => .agg (cs.map f)
  | .tup l => .tup (l.map fun p => (p.1, p.2.map f))

/-! ### All2 -/
section
variable {α β : Type} {R R' : α → β → Prop}
theorem All2.imp {l : List α} {m : List β} (h : All2 R l m) (hi : ∀ a b, b ∈ m → R a b → R' a b) : All2 R' l m := by
  induction h with
  | nil => exact .nil
  | cons h1 _ ih => exact .cons (hi _ _ List.mem_cons_self h1) (ih fun a b hb => hi a b (List.mem_cons_of_mem _ hb))
theorem All2.length {l : List α} {m : List β} (h : All2 R l m) : l.length = m.length := by
  induction h with
  | nil => rfl
  | cons _ _ ih => simp [ih]
theorem All2.append {l l' : List α} {m m' : List β} (h : All2 R l m) (h' : All2 R l' m') : All2 R (l ++ l') (m ++ m') := by
  induction h with
  | nil => exact h'
  | cons h1 _ ih => exact .cons h1 ih
theorem All2.drop {l : List α} {m : List β} (h : All2 R l m) : ∀ k, All2 R (l.drop k) (m.drop k) := by
  induction h with
  | nil => intro k; simp; exact .nil
  | cons h1 h2 ih => intro k; cases k with
    | zero => exact .cons h1 h2
    | succ k => exact ih k
theorem All2.take {l : List α} {m : List β} (h : All2 R l m) : ∀ k, All2 R (l.take k) (m.take k) := by
  induction h with
  | nil => intro k; simp; exact .nil
  | cons h1 h2 ih => intro k; cases k with
    | zero => exact .nil
    | succ k => exact .cons h1 (ih k)
theorem All2.get {l : List α} {m : List β} (h : All2 R l m) : ∀ {i : Nat} {a : α}, l[i]? = some a → ∃ b, m[i]? = some b ∧ R a b := by
  induction h with
  | nil => intro i a h; simp at h
  | cons h1 h2 ih => intro i a h; cases i with
    | zero => exact ⟨_, rfl, by simp at h; exact h ▸ h1⟩
    | succ i => exact ih (by simpa using h)
theorem All2.get' {l : List α} {m : List β} (h : All2 R l m) : ∀ {i : Nat} {b : β}, m[i]? = some b → ∃ a, l[i]? = some a ∧ R a b := by
  induction h with
  | nil => intro i a h; simp at h
  | cons h1 h2 ih => intro i a h; cases i with
    | zero => exact ⟨_, rfl, by simp at h; exact h ▸ h1⟩
    | succ i => exact ih (by simpa using h)
theorem All2.map {γ : Type} {Q : α → γ → Prop} (f : β → γ) {l : List α} {m : List β} (h : All2 R l m) (hi : ∀ a b, b ∈ m → R a b → Q a (f b)) : All2 Q l (m.map f) := by
  induction h with
  | nil => exact .nil
  | cons h1 _ ih => exact .cons (hi _ _ List.mem_cons_self h1) (ih fun a b hb => hi a b (List.mem_cons_of_mem _ hb))
end
theorem VC.all2 {X : Nat → Prop} {w : World} : ∀ {vs : List Value} {ps : List PV}, VC X w vs ps → All2 (VV X w) vs ps
  | _, _, .nil => .nil
  | _, _, .cons h1 h2 => .cons h1 (VC.all2 h2)
theorem VC.of_all2 {X : Nat → Prop} {w : World} {vs : List Value} {ps : List PV} (h : All2 (VV X w) vs ps) : VC X w vs ps := by
  induction h with
  | nil => exact .nil
  | cons h1 _ ih => exact .cons h1 ih

/-! ### what keeps the relation -/
theorem Reads.keep {X X' : Nat → Prop} {w w' : World} {v : Value} {cs : List PV} (h : Reads X w v cs) (hX : ∀ b, X b → X' b ∧ w'.heap[b]? = w.heap[b]?) : Reads X' w' v cs := by
  obtain ⟨b, off, vs, rfl, hb, hv, hc⟩ := h
  exact ⟨b, off, vs, rfl, (hX b hb).1, hv.keep hX, fun j u hj => by rw [World.cell?_of_block (hX b hb).2]; exact hc j u hj⟩
theorem OwnTop.keep {F F' : Nat → Prop} {L : List Nat} {w w' : World} {v : Value} {n : Nat} {l : List (List PV)} (h : OwnTop F L w v n l) (hF : ∀ b, F b → F' b ∧ w'.heap[b]? = w.heap[b]?) (hL : ∀ b, b ∈ L → w'.heap[b]? = w.heap[b]?) : OwnTop F' L w' v n l := by
  rcases h with h | ⟨g, cap, cur, e, rfl, hv, hg, hs, hr, h1, h2⟩
  · exact .inl h
  · exact .inr ⟨g, cap, cur, e, rfl, hv, (hL g (by simp)).trans hg, hs, hr.keep hF, h1, h2⟩
structure Keeps (J J' : Inj) (w w' : World) (c : C) : Prop where
  F : ∀ b, J.F b → J'.F b ∧ w'.heap[b]? = w.heap[b]?
  L : ∀ k, c.key = some k → J'.L k = J.L k ∧ ∀ b, b ∈ J.L k → w'.heap[b]? = w.heap[b]?
  B : ∀ k, k ∈ c.bkeys → J'.B k = J.B k
theorem Keeps.X {J J' : Inj} {w w' : World} {t : Tok} (hF : ∀ b, J.F b → J'.F b ∧ w'.heap[b]? = w.heap[b]?) (hL : ∀ k, t.key = some k → J'.L k = J.L k ∧ ∀ b, b ∈ J.L k → w'.heap[b]? = w.heap[b]?) :
    ∀ b, J.X t b → J'.X t b ∧ w'.heap[b]? = w.heap[b]? := by
  intro b hb
  cases t with
  | sh => exact hF b hb
  | emp => exact hb.elim
  | own d k => exact hb.elim
  | put => exact hb.elim
  | vw k =>
    obtain ⟨h1, h2⟩ := hL k rfl
    rcases hb with hb | hb
    · exact ⟨.inl (by rw [h1]; exact hb), h2 b hb⟩
    · exact ⟨.inr (hF b hb).1, (hF b hb).2⟩
theorem CR.keep {J J' : Inj} {w w' : World} {v : Value} {c : C} (h : CR J w v c) (hk : Keeps J J' w w' c) : CR J' w' v c := by
  cases c with
  | int | bool | str | dead => exact h
  | slc t n l =>
    cases t with
    | sh => exact VV.keep hk.F h
    | emp => exact h
    | own d k =>
      obtain ⟨h1, h2⟩ := hk.L k rfl
      cases d with
      | true => show OwnDeep (J'.L k) w' v n l; rw [h1]; exact OwnDeep.keep h h2
      | false => show OwnTop J'.F (J'.L k) w' v n l; rw [h1]; exact OwnTop.keep h hk.F h2
    | vw k => exact VV.keep (Keeps.X (t := .vw k) hk.F hk.L) h
    | put => exact h.elim
  | ept d k n i o cs =>
    obtain ⟨g, r, vs, h1, h2, h3, h4, arr, ty, h5⟩ := h
    obtain ⟨e, hs⟩ := hk.L k rfl
    have hg := hs g (by rw [h1]; exact List.mem_cons_self)
    refine ⟨g, r, vs, e.trans h1, h2, h3.keep (Keeps.X (t := eptTok d k) hk.F fun k' hk' => ?_), fun j u hj => by rw [World.cell?_of_block hg]; exact h4 j u hj, arr, ty, hg.trans h5⟩
    cases d with
    | true => obtain rfl : k = k' := by simpa [eptTok, Tok.key] using hk'
              exact ⟨e, hs⟩
    | false => cases hk'
  | ptr k off => show v = _; rw [hk.B k (by simp [C.bkeys])]; exact h
  | rptr t cs => exact Reads.keep h (Keeps.X (t := t) hk.F hk.L)
  | fn f caps =>
    have : caps.map (fun c => Value.pointer (some ⟨J'.B c.1, c.2, none⟩)) = caps.map (fun c => Value.pointer (some ⟨J.B c.1, c.2, none⟩)) :=
      List.map_congr_left fun c hc => by rw [hk.B c.1 (by simp [C.bkeys]; exact ⟨_, hc⟩)]
    show v = _
    rw [this]
    exact h
  | fnr f caps =>
    obtain ⟨vs, rfl, ha⟩ := h
    exact ⟨vs, rfl, ha.imp fun a b _ h => h.keep hk.F⟩
theorem VA.keep {J J' : Inj} {w w' : World} {v : Value} {x : Bool × List C} (h : VA J w v x) (hk : ∀ c, c ∈ x.2 → Keeps J J' w w' c) : VA J' w' v x := by
  obtain ⟨b, cs⟩ := x
  cases b with
  | true => obtain ⟨vs, rfl, ha⟩ := h; exact ⟨vs, rfl, ha.imp fun a c hc h => h.keep (hk c hc)⟩
  | false => obtain ⟨c, rfl, hc⟩ := h; exact ⟨c, rfl, hc.keep (hk c (by simp))⟩
theorem AR.keep {J J' : Inj} {w w' : World} {v : Value} {x : AV} (h : AR J w v x) (hk : ∀ c, c ∈ x.cells → Keeps J J' w w' c) : AR J' w' v x := by
  cases x with
  | one c => exact CR.keep h (hk c (by simp [AV.cells]))
  | agg cs => obtain ⟨vs, rfl, ha⟩ := h; exact ⟨vs, rfl, ha.imp fun a c hc h => h.keep (hk c hc)⟩
  | tup l =>
    obtain ⟨vs, rfl, ha⟩ := h
    exact ⟨vs, rfl, ha.imp fun a x hx h => h.keep fun c hc => hk c (by simp only [AV.cells, List.mem_flatMap]; exact ⟨x, hx, hc⟩)⟩
/-- cells turned one by one -/
theorem VA.map {J J' : Inj} {w w' : World} {v : Value} {x : Bool × List C} (f : C → C) (h : VA J w v x) (hk : ∀ u c, c ∈ x.2 → CR J w u c → CR J' w' u (f c)) : VA J' w' v (x.1, x.2.map f) := by
  obtain ⟨b, cs⟩ := x
  cases b with
  | true => obtain ⟨vs, rfl, ha⟩ := h; exact ⟨vs, rfl, ha.map f fun a c hc h => hk a c hc h⟩
  | false => obtain ⟨c, rfl, hc⟩ := h; exact ⟨f c, rfl, hk v c (by simp) hc⟩
theorem AR.map {J J' : Inj} {w w' : World} {v : Value} {x : AV} (f : C → C) (h : AR J w v x) (hk : ∀ u c, c ∈ x.cells → CR J w u c → CR J' w' u (f c)) : AR J' w' v (x.map f) := by
  cases x with
  | one c => exact hk v c (by simp [AV.cells]) h
  | agg cs => obtain ⟨vs, rfl, ha⟩ := h; exact ⟨vs, rfl, ha.map f fun a c hc h => hk a c hc h⟩
  | tup l =>
    obtain ⟨vs, rfl, ha⟩ := h
    exact ⟨vs, rfl, ha.map (fun p => (p.1, p.2.map f)) fun a x hx h => h.map f fun u c hc => hk u c (by simp only [AV.cells, List.mem_flatMap]; exact ⟨x, hx, hc⟩)⟩

/-! ### states -/
structure St where
  tm : List (Nat × AV)
  bx : List (Nat × List C)
def get {α : Type} : List (Nat × α) → Nat → Option α
  | [], _ => none
  | (k, a) :: r, t => if k = t then some a else get r t
def ins {α : Type} (t : Nat) (x : α) : List (Nat × α) → List (Nat × α)
  | [] => [(t, x)]
  | (k, a) :: r => if k = t then (t, x) :: r else (k, a) :: ins t x r
theorem get_ins {α : Type} (t : Nat) (x : α) (u : Nat) : ∀ l : List (Nat × α), get (ins t x l) u = if t = u then some x else get l u
  | [] => by simp [ins, get]
  | (k, a) :: r => by
    simp only [ins]
    by_cases hk : k = t
    · subst hk
      rw [if_pos rfl]
      simp only [get]
      split <;> rfl
    · rw [if_neg hk]
      simp only [get, get_ins t x u r]
      by_cases hu : k = u
      · subst hu
        rw [if_pos rfl, if_pos rfl, if_neg (fun e => hk e.symm)]
      · rw [if_neg hu, if_neg hu]
theorem get_map {α β : Type} (f : α → β) (u : Nat) : ∀ l : List (Nat × α), get (l.map fun p => (p.1, f p.2)) u = (get l u).map f
  | [] => rfl
  | (k, a) :: r => by
    simp only [List.map_cons, get, get_map f u r]
    split <;> rfl
def St.map (f : C → C) (s : St) : St := ⟨s.tm.map fun p => (p.1, p.2.map f), s.bx.map fun p => (p.1, p.2.map f)⟩

structure Rel (N : Nat) (w0 : World) (F0 : Nat → Prop) (J : Inj) (a : Act) (w : World) (s : St) : Prop where
  below : Below w0.heap.size w0 w
  nodef : a.defers = []
  size : a.tmps.size = N
  fl : ∀ b, J.F b → b < w.heap.size ∧ (F0 b ∨ w0.heap.size ≤ b)
  f0 : ∀ b, F0 b → J.F b
  nd : ∀ k, (J.L k).Nodup
  lo : ∀ k b, b ∈ J.L k → w0.heap.size ≤ b ∧ b < w.heap.size ∧ ¬ J.F b
  dj : ∀ k k' b, b ∈ J.L k → b ∈ J.L k' → k = k'
  bo : ∀ k c, get s.bx k = some c → w0.heap.size ≤ J.B k ∧ ¬ J.F (J.B k) ∧ (∀ k', J.B k ∉ J.L k') ∧ ∃ arr e, w.heap[J.B k]? = some (.cells arr e (0, 0)) ∧ All2 (CR J w) arr.toList c
  bi : ∀ k k' c c', get s.bx k = some c → get s.bx k' = some c' → J.B k = J.B k' → k = k'
  tm : ∀ t v, get s.tm t = some v → AR J w (a.tmps.getD t undef) v

/-- same looks -/
def St.eqv (s s' : St) : Prop := (∀ t, get s.tm t = get s'.tm t) ∧ ∀ k, get s.bx k = get s'.bx k
theorem Rel.eqv {N : Nat} {w0 : World} {F0 : Nat → Prop} {J : Inj} {a : Act} {w : World} {s s' : St} (h : Rel N w0 F0 J a w s) (he : s.eqv s') : Rel N w0 F0 J a w s' :=
  { h with bo := fun k c hc => h.bo k c ((he.2 k).trans hc), bi := fun k k' c c' h1 h2 => h.bi k k' c c' ((he.2 k).trans h1) ((he.2 k').trans h2), tm := fun t v hv => h.tm t v ((he.1 t).trans hv) }
/-- less known -/
theorem Rel.less {N : Nat} {w0 : World} {F0 : Nat → Prop} {J : Inj} {a : Act} {w : World} {s s' : St} (h : Rel N w0 F0 J a w s) (h1 : ∀ t v, get s'.tm t = some v → get s.tm t = some v) (h2 : ∀ k c, get s'.bx k = some c → get s.bx k = some c) : Rel N w0 F0 J a w s' :=
  { h with bo := fun k c hc => h.bo k c (h2 k c hc), bi := fun k k' c c' e1 e2 => h.bi k k' c c' (h2 _ _ e1) (h2 _ _ e2), tm := fun t v hv => h.tm t v (h1 t v hv) }
end Go.Proofs.YtjkfmihbmkbjfaaGreat
