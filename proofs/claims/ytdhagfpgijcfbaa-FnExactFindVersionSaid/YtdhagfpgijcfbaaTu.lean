/- Calls that hand back a tuple: one value that lies in memory, among plain ones. No program in sight. -/
import Derived.Test.YtdhagfpgijcfbaaGe
namespace Go.Proofs.Ytdhagfpgijcfbaa
open Go.RowKit
open GoD (rd own)
open GoE (enc)
section
variable {α : Type} [GoE α]
def RetXA (w : World) (f : List Value → Value) (a : α) (e : Ending) (w' : World) : Prop := ∃ cs L, e = .returned (f cs) ∧ Below w.heap.size w w' ∧ own L w' cs a ∧ ∀ b, b ∈ L → w.heap.size ≤ b
def RetXS (w : World) (f : Value → Value) (a : α) (e : Ending) (w' : World) : Prop := ∃ v L, e = .returned (f v) ∧ Below w.heap.size w w' ∧ own L w' [v] a ∧ ∀ b, b ∈ L → w.heap.size ≤ b
def RetXRA (w : World) (f : List Value → Value) (a : α) (e : Ending) (w' : World) : Prop := ∃ cs, e = .returned (f cs) ∧ Below w.heap.size w w' ∧ rd w' cs a
def RetXRS (w : World) (f : Value → Value) (a : α) (e : Ending) (w' : World) : Prop := ∃ v, e = .returned (f v) ∧ Below w.heap.size w w' ∧ rd w' [v] a
theorem RetXA.rd {w : World} {f : List Value → Value} {a : α} {e : Ending} {w' : World} (h : RetXA w f a e w') : RetXRA w f a e w' :=
  let ⟨cs, _, he, hb, ho, _⟩ := h
  ⟨cs, he, hb, GoD.own_rd ho⟩
theorem RetXS.rd {w : World} {f : Value → Value} {a : α} {e : Ending} {w' : World} (h : RetXS w f a e w') : RetXRS w f a e w' :=
  let ⟨v, _, he, hb, ho, _⟩ := h
  ⟨v, he, hb, GoD.own_rd ho⟩
theorem call_retXA {P : Program} {g : FuncId} {args : Array Value} {W w : World} {f : List Value → Value} {a : α} {R : Ending → World → Prop} (hc : Calls P g args W (RetXA W f a)) (h0 : Below w.heap.size w W)
    (k : ∀ w' cs L, Below w.heap.size w w' → Below W.heap.size W w' → w.heap.size ≤ w'.heap.size → W.heap.size ≤ w'.heap.size → own L w' cs a → (∀ b, b ∈ L → W.heap.size ≤ b) → R (.returned (f cs)) w') : Calls P g args W R :=
  hc.mono fun e w' ⟨cs, L, he, hb, ho, hL⟩ => by
    subst he
    have h1 := below_via h0 hb
    exact k w' cs L h1 hb h1.size hb.size ho hL
theorem call_retXS {P : Program} {g : FuncId} {args : Array Value} {W w : World} {f : Value → Value} {a : α} {R : Ending → World → Prop} (hc : Calls P g args W (RetXS W f a)) (h0 : Below w.heap.size w W)
    (k : ∀ w' v L, Below w.heap.size w w' → Below W.heap.size W w' → w.heap.size ≤ w'.heap.size → W.heap.size ≤ w'.heap.size → own L w' [v] a → (∀ b, b ∈ L → W.heap.size ≤ b) → R (.returned (f v)) w') : Calls P g args W R :=
  hc.mono fun e w' ⟨v, L, he, hb, ho, hL⟩ => by
    subst he
    have h1 := below_via h0 hb
    exact k w' v L h1 hb h1.size hb.size ho hL
theorem call_rdXA {P : Program} {g : FuncId} {args : Array Value} {W w : World} {f : List Value → Value} {a : α} {R : Ending → World → Prop} (hc : Calls P g args W (RetXRA W f a)) (h0 : Below w.heap.size w W)
    (k : ∀ w' cs, Below w.heap.size w w' → Below W.heap.size W w' → w.heap.size ≤ w'.heap.size → W.heap.size ≤ w'.heap.size → GoD.rd w' cs a → R (.returned (f cs)) w') : Calls P g args W R :=
  hc.mono fun e w' ⟨cs, he, hb, ho⟩ => by
    subst he
    have h1 := below_via h0 hb
    exact k w' cs h1 hb h1.size hb.size ho
theorem call_rdXS {P : Program} {g : FuncId} {args : Array Value} {W w : World} {f : Value → Value} {a : α} {R : Ending → World → Prop} (hc : Calls P g args W (RetXRS W f a)) (h0 : Below w.heap.size w W)
    (k : ∀ w' v, Below w.heap.size w w' → Below W.heap.size W w' → w.heap.size ≤ w'.heap.size → W.heap.size ≤ w'.heap.size → GoD.rd w' [v] a → R (.returned (f v)) w') : Calls P g args W R :=
  hc.mono fun e w' ⟨v, he, hb, ho⟩ => by
    subst he
    have h1 := below_via h0 hb
    exact k w' v h1 hb h1.size hb.size ho
/-- a struct and a bool -/
theorem ret_tab {w : World} {F : Nat → Prop} {a : α} {b : Bool} {e : Ending} {w' : World} (h : ARet F w (.tup [(true, owC 0 (enc a)), (false, [.bool b])]) e w') : RetXA w (fun cs => .tuple #[.agg cs.toArray, .bool b]) a e w' := by
  obtain ⟨v, L, rfl, hb, hn, hl, hd, vs, rfl, h⟩ := h
  cases h with
  | cons h1 h => cases h with
    | cons h2 h =>
      cases h
      obtain ⟨cs, rfl, hr⟩ := h1
      obtain ⟨c, e, h2⟩ := h2
      cases e
      obtain rfl := h2
      have ho := ow_oc hr
      exact ⟨cs, _, rfl, hb, GoE.oc_own ho (owL_nd hn hd), fun b hm => by obtain ⟨k, _, hk⟩ := owL_mem hm; exact (hl k b hk).1⟩
/-- a slice and a bool -/
theorem ret_tsb {w : World} {F : Nat → Prop} {l : List α} {b : Bool} {e : Ending} {w' : World} (h : ARet F w (.tup [(false, [.slc (.own true 0) (GoD.n α) (eL l)]), (false, [.bool b])]) e w') : RetXS w (fun v => .tuple #[v, .bool b]) l e w' := by
  obtain ⟨v, L, rfl, hb, hn, hl, hd, vs, rfl, h⟩ := h
  cases h with
  | cons h1 h => cases h with
    | cons h2 h =>
      cases h
      obtain ⟨c, e, h1⟩ := h1
      cases e
      obtain ⟨c, e, h2⟩ := h2
      cases e
      obtain rfl := h2
      exact ⟨_, L 0, rfl, hb, ov_ownS h1 (hn 0), fun b hm => (hl 0 b hm).1⟩
end
end Go.Proofs.Ytdhagfpgijcfbaa
