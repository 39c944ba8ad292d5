/- Pure data, and how Go values show it: 'VV' through blocks of a set (shared), 'OV' with a list of blocks owned. No program in sight. -/
import Derived.Test.YtjkfmihbmkbjfaaGreatOwn
import Derived.IntWalk
namespace Go.Proofs.YtjkfmihbmkbjfaaGreat
open Go.RowKit

/-- what a slice in memory may be: no longer than its room, and no longer than what any append makes -/
def Cap (m cap : Nat) : Prop := cap ≤ maxLen ∧ m ≤ 1073741824

inductive PV where
  | int (k : IntKind) (n : Int)
  | bool (b : Bool)
  | str (s : ByteArray)
  | slc (n : Nat) (l : List (List PV))

def InR (k : IntKind) (n : Int) : Prop := k.min ≤ n ∧ n ≤ k.max

theorem inR_wrap (k : IntKind) (n : Int) : InR k (k.wrap n) := by
  cases k <;> simp [InR, IntKind.wrap, IntKind.min, IntKind.max, IntKind.bits, IntKind.signed] <;> (try split) <;> omega
theorem inR_i64 (n : Int) : InR .i64 n ↔ I64 n := by
  simp [InR, I64, IntKind.min, IntKind.max, IntKind.bits, IntKind.signed]

section
variable (X : Nat → Prop) (w : World)
mutual
inductive VV : Value → PV → Prop
  | int {k : IntKind} {n : Int} : InR k n → VV (.int k n) (.int k n)
  | bool (b : Bool) : VV (.bool b) (.bool b)
  | str {s : ByteArray} : s.size ≤ maxLen → VV (.string s) (.str s)
  | emp (oa : Option Addr) {cap : Nat} (n : Nat) : cap ≤ maxLen → VV (.slice oa 0 cap) (.slc n [])
  | slc {b off cap n : Nat} {cs : List Value} {l : List (List PV)} : X b → (∀ j u, cs[j]? = some u → w.cell? ⟨b, off + j, none⟩ = some u) → VR n cs l → l.length ≤ cap → Cap l.length cap →
      VV (.slice (some ⟨b, off, none⟩) l.length cap) (.slc n l)
inductive VC : List Value → List PV → Prop
  | nil : VC [] []
  | cons {v : Value} {p : PV} {vs : List Value} {ps : List PV} : VV v p → VC vs ps → VC (v :: vs) (p :: ps)
inductive VR : Nat → List Value → List (List PV) → Prop
  | nil (n : Nat) : VR n [] []
  | cons {n : Nat} {ce cs : List Value} {r : List PV} {l : List (List PV)} : VC ce r → r.length = n → VR n cs l → VR n (ce ++ cs) (r :: l)
end
mutual
inductive OV : List Nat → Value → PV → Prop
  | int {k : IntKind} {n : Int} : InR k n → OV [] (.int k n) (.int k n)
  | bool (b : Bool) : OV [] (.bool b) (.bool b)
  | str {s : ByteArray} : s.size ≤ maxLen → OV [] (.string s) (.str s)
  | emp (oa : Option Addr) (n : Nat) : OV [] (.slice oa 0 0) (.slc n [])
  | slc {g cap n : Nat} {cur : Array Value} {e : TypeId} {L : List Nat} {l : List (List PV)} : w.heap[g]? = some (.cells cur e (0, 0)) → cur.size = cap * n → OR n L (cur.toList.take (l.length * n)) l → l.length ≤ cap → Cap l.length cap →
      OV (g :: L) (.slice (some ⟨g, 0, none⟩) l.length cap) (.slc n l)
inductive OC : List Nat → List Value → List PV → Prop
  | nil : OC [] [] []
  | cons {L1 L2 : List Nat} {v : Value} {p : PV} {vs : List Value} {ps : List PV} : OV L1 v p → OC L2 vs ps → OC (L1 ++ L2) (v :: vs) (p :: ps)
inductive OR : Nat → List Nat → List Value → List (List PV) → Prop
  | nil (n : Nat) : OR n [] [] []
  | cons {n : Nat} {L1 L2 : List Nat} {ce cs : List Value} {r : List PV} {l : List (List PV)} : OC L1 ce r → r.length = n → OR n L2 cs l → OR n (L1 ++ L2) (ce ++ cs) (r :: l)
end
end

/-! ### shared -/
section
variable {X X' : Nat → Prop} {w w' : World}
mutual
theorem VV.keep (hX : ∀ b, X b → X' b ∧ w'.heap[b]? = w.heap[b]?) : ∀ {v : Value} {p : PV}, VV X w v p → VV X' w' v p
  | _, _, .int h => .int h
  | _, _, .bool b => .bool b
  | _, _, .str h => .str h
  | _, _, .emp oa n h => .emp oa n h
  | _, _, .slc hb hc hr h1 h2 => .slc (hX _ hb).1 (fun j u hj => by rw [World.cell?_of_block (hX _ hb).2]; exact hc j u hj) (VR.keep hX hr) h1 h2
theorem VC.keep (hX : ∀ b, X b → X' b ∧ w'.heap[b]? = w.heap[b]?) : ∀ {vs : List Value} {ps : List PV}, VC X w vs ps → VC X' w' vs ps
  | _, _, .nil => .nil
  | _, _, .cons h1 h2 => .cons (VV.keep hX h1) (VC.keep hX h2)
theorem VR.keep (hX : ∀ b, X b → X' b ∧ w'.heap[b]? = w.heap[b]?) : ∀ {n : Nat} {cs : List Value} {l : List (List PV)}, VR X w n cs l → VR X' w' n cs l
  | _, _, _, .nil n => .nil n
  | _, _, _, .cons h1 h2 h3 => .cons (VC.keep hX h1) h2 (VR.keep hX h3)
end
theorem VC.length {vs : List Value} {ps : List PV} : VC X w vs ps → vs.length = ps.length
  | .nil => rfl
  | .cons _ h => congrArg (· + 1) (VC.length h)
theorem VR.length : ∀ {n : Nat} {cs : List Value} {l : List (List PV)}, VR X w n cs l → cs.length = l.length * n
  | _, _, _, .nil n => by simp
  | _, _, _, .cons h1 h2 h3 => by rw [List.length_append, VC.length h1, VR.length h3, h2, List.length_cons, Nat.add_mul, Nat.one_mul, Nat.add_comm]
theorem VC.append {vs vs' : List Value} {ps ps' : List PV} (h' : VC X w vs' ps') : VC X w vs ps → VC X w (vs ++ vs') (ps ++ ps')
  | .nil => h'
  | .cons h1 h2 => .cons h1 (VC.append h' h2)
theorem VR.append {cs' : List Value} {l' : List (List PV)} : ∀ {n : Nat} {cs : List Value} {l : List (List PV)}, VR X w n cs' l' → VR X w n cs l → VR X w n (cs ++ cs') (l ++ l')
  | _, _, _, h', .nil _ => h'
  | _, _, _, h', .cons h1 h2 h3 => by rw [List.append_assoc]; exact .cons h1 h2 (VR.append h' h3)
theorem VC.drop : ∀ (k : Nat) {vs : List Value} {ps : List PV}, VC X w vs ps → VC X w (vs.drop k) (ps.drop k)
  | 0, _, _, h => h
  | _ + 1, _, _, .nil => .nil
  | k + 1, _, _, .cons _ h => VC.drop k h
theorem VC.take : ∀ (k : Nat) {vs : List Value} {ps : List PV}, VC X w vs ps → VC X w (vs.take k) (ps.take k)
  | 0, _, _, _ => .nil
  | _ + 1, _, _, .nil => .nil
  | k + 1, _, _, .cons h1 h => .cons h1 (VC.take k h)
theorem VR.drop : ∀ (k : Nat) {n : Nat} {cs : List Value} {l : List (List PV)}, VR X w n cs l → VR X w n (cs.drop (k * n)) (l.drop k)
  | 0, _, _, _, h => by simpa using h
  | _ + 1, _, _, _, .nil n => by simpa using VR.nil n
  | k + 1, _, _, _, .cons (n := n) (ce := ce) (cs := cs) h1 h2 h3 => by
    have hl : (k + 1) * n = ce.length + k * n := by rw [VC.length h1, h2, Nat.add_mul, Nat.one_mul, Nat.add_comm]
    rw [hl, List.drop_length_add_append, List.drop_succ_cons]
    exact VR.drop k h3
theorem VR.take : ∀ (k : Nat) {n : Nat} {cs : List Value} {l : List (List PV)}, VR X w n cs l → VR X w n (cs.take (k * n)) (l.take k)
  | 0, _, _, _, _ => by simpa using VR.nil _
  | _ + 1, _, _, _, .nil n => by simpa using VR.nil n
  | k + 1, _, _, _, .cons (n := n) (ce := ce) (cs := cs) h1 h2 h3 => by
    have hl : (k + 1) * n = ce.length + k * n := by rw [VC.length h1, h2, Nat.add_mul, Nat.one_mul, Nat.add_comm]
    rw [hl, List.take_length_add_append, List.take_succ_cons]
    exact .cons h1 h2 (VR.take k h3)
theorem VR.get {n : Nat} {cs : List Value} {l : List (List PV)} (h : VR X w n cs l) {i : Nat} {r : List PV} (hi : l[i]? = some r) : VC X w ((cs.drop (i * n)).take n) r ∧ r.length = n := by
  have hd := VR.drop i h
  obtain ⟨hlt, rfl⟩ := List.getElem?_eq_some_iff.1 hi
  rw [List.drop_eq_getElem_cons hlt] at hd
  generalize hr : l[i] = r at hd ⊢
  generalize hc : cs.drop (i * n) = c at hd ⊢
  cases hd with
  | cons h1 h2 h3 =>
    have hl := VC.length h1
    rw [h2] at hl
    rw [← hl, List.take_left]
    exact ⟨h1, h2.trans hl.symm⟩
end

/-! ### owned -/
section
variable {w w' : World}
mutual
theorem OV.keep : ∀ {L : List Nat} {v : Value} {p : PV}, OV w L v p → (∀ b, b ∈ L → w'.heap[b]? = w.heap[b]?) → OV w' L v p
  | _, _, _, .int h, _ => .int h
  | _, _, _, .bool b, _ => .bool b
  | _, _, _, .str h, _ => .str h
  | _, _, _, .emp oa n, _ => .emp oa n
  | _, _, _, .slc hg hs hr h1 h2, hL => .slc ((hL _ (List.mem_cons_self)).trans hg) hs (OR.keep hr fun b hb => hL b (List.mem_cons_of_mem _ hb)) h1 h2
theorem OC.keep : ∀ {L : List Nat} {vs : List Value} {ps : List PV}, OC w L vs ps → (∀ b, b ∈ L → w'.heap[b]? = w.heap[b]?) → OC w' L vs ps
  | _, _, _, .nil, _ => .nil
  | _, _, _, .cons h1 h2, hL => .cons (OV.keep h1 fun b hb => hL b (List.mem_append_left _ hb)) (OC.keep h2 fun b hb => hL b (List.mem_append_right _ hb))
theorem OR.keep : ∀ {n : Nat} {L : List Nat} {cs : List Value} {l : List (List PV)}, OR w n L cs l → (∀ b, b ∈ L → w'.heap[b]? = w.heap[b]?) → OR w' n L cs l
  | _, _, _, _, .nil n, _ => .nil n
  | _, _, _, _, .cons h1 h2 h3, hL => .cons (OC.keep h1 fun b hb => hL b (List.mem_append_left _ hb)) h2 (OR.keep h3 fun b hb => hL b (List.mem_append_right _ hb))
end
mutual
theorem OV.vv {X : Nat → Prop} : ∀ {L : List Nat} {v : Value} {p : PV}, OV w L v p → (∀ b, b ∈ L → X b) → VV X w v p
  | _, _, _, .int h, _ => .int h
  | _, _, _, .bool b, _ => .bool b
  | _, _, _, .str h, _ => .str h
  | _, _, _, .emp oa n, _ => .emp oa n (Nat.zero_le _)
  | _, _, _, .slc hg hs hr h1 h2, hL => .slc (hL _ (List.mem_cons_self)) (fun j u hj => by
      rw [List.getElem?_take] at hj
      split at hj
      · rw [Array.getElem?_toList] at hj
        simp [World.cell?, hg, hj]
      · cases hj) (OR.vr hr fun b hb => hL b (List.mem_cons_of_mem _ hb)) h1 h2
theorem OC.vc {X : Nat → Prop} : ∀ {L : List Nat} {vs : List Value} {ps : List PV}, OC w L vs ps → (∀ b, b ∈ L → X b) → VC X w vs ps
  | _, _, _, .nil, _ => .nil
  | _, _, _, .cons h1 h2, hL => .cons (OV.vv h1 fun b hb => hL b (List.mem_append_left _ hb)) (OC.vc h2 fun b hb => hL b (List.mem_append_right _ hb))
theorem OR.vr {X : Nat → Prop} : ∀ {n : Nat} {L : List Nat} {cs : List Value} {l : List (List PV)}, OR w n L cs l → (∀ b, b ∈ L → X b) → VR X w n cs l
  | _, _, _, _, .nil n, _ => .nil n
  | _, _, _, _, .cons h1 h2 h3, hL => .cons (OC.vc h1 fun b hb => hL b (List.mem_append_left _ hb)) h2 (OR.vr h3 fun b hb => hL b (List.mem_append_right _ hb))
end
mutual
theorem OV.lt : ∀ {L : List Nat} {v : Value} {p : PV}, OV w L v p → ∀ b, b ∈ L → b < w.heap.size
  | _, _, _, .int _, b, hb => by simp at hb
  | _, _, _, .bool _, b, hb => by simp at hb
  | _, _, _, .str _, b, hb => by simp at hb
  | _, _, _, .emp _ _, b, hb => by simp at hb
  | _, _, _, .slc hg hs hr h1 h2, b, hb => by
    rcases List.mem_cons.1 hb with rfl | hb
    · exact block_lt_of_heap hg
    · exact OR.lt hr b hb
theorem OC.lt : ∀ {L : List Nat} {vs : List Value} {ps : List PV}, OC w L vs ps → ∀ b, b ∈ L → b < w.heap.size
  | _, _, _, .nil, b, hb => by simp at hb
  | _, _, _, .cons h1 h2, b, hb => (List.mem_append.1 hb).elim (OV.lt h1 b) (OC.lt h2 b)
theorem OR.lt : ∀ {n : Nat} {L : List Nat} {cs : List Value} {l : List (List PV)}, OR w n L cs l → ∀ b, b ∈ L → b < w.heap.size
  | _, _, _, _, .nil n, b, hb => by simp at hb
  | _, _, _, _, .cons h1 h2 h3, b, hb => (List.mem_append.1 hb).elim (OC.lt h1 b) (OR.lt h3 b)
end
theorem OC.append {L' : List Nat} {vs' : List Value} {ps' : List PV} (h' : OC w L' vs' ps') : ∀ {L : List Nat} {vs : List Value} {ps : List PV}, OC w L vs ps → OC w (L ++ L') (vs ++ vs') (ps ++ ps')
  | _, _, _, .nil => h'
  | _, _, _, .cons h1 h2 => by rw [List.append_assoc]; exact .cons h1 (OC.append h' h2)
theorem OR.append {L' : List Nat} {cs' : List Value} {l' : List (List PV)} : ∀ {n : Nat} {L : List Nat} {cs : List Value} {l : List (List PV)}, OR w n L' cs' l' → OR w n L cs l → OR w n (L ++ L') (cs ++ cs') (l ++ l')
  | _, _, _, _, h', .nil _ => h'
  | _, _, _, _, h', .cons h1 h2 h3 => by rw [List.append_assoc, List.append_assoc]; exact .cons h1 h2 (OR.append h' h3)
/-- plain rows: no slice in them -/
def PV.flat : PV → Prop
  | .slc _ _ => False
  | _ => True
theorem VV.ov {X : Nat → Prop} {v : Value} {p : PV} (h : VV X w v p) (hp : p.flat) : OV w' [] v p := by
  cases h with
  | int h => exact .int h
  | bool b => exact .bool b
  | str h => exact .str h
  | emp oa n h => exact hp.elim
  | slc => exact hp.elim
theorem VC.oc {X : Nat → Prop} : ∀ {vs : List Value} {ps : List PV}, VC X w vs ps → (∀ p, p ∈ ps → p.flat) → OC w' [] vs ps
  | _, _, .nil, _ => .nil
  | _, _, .cons h1 h2, hp => OC.cons (L1 := []) (L2 := []) (VV.ov h1 (hp _ List.mem_cons_self)) (VC.oc h2 fun p hm => hp p (List.mem_cons_of_mem _ hm))
theorem VR.orr {X : Nat → Prop} : ∀ {n : Nat} {cs : List Value} {l : List (List PV)}, VR X w n cs l → (∀ r, r ∈ l → ∀ p, p ∈ r → p.flat) → OR w' n [] cs l
  | _, _, _, .nil n, _ => .nil n
  | _, _, _, .cons h1 h2 h3, hp => OR.cons (L1 := []) (L2 := []) (VC.oc h1 (hp _ List.mem_cons_self)) h2 (VR.orr h3 fun r hm => hp r (List.mem_cons_of_mem _ hm))
theorem OR.length {n : Nat} {L : List Nat} {cs : List Value} {l : List (List PV)} (h : OR w n L cs l) : cs.length = l.length * n := VR.length (X := fun b => b ∈ L) (OR.vr h fun _ hb => hb)
theorem OC.length {L : List Nat} {vs : List Value} {ps : List PV} (h : OC w L vs ps) : vs.length = ps.length := VC.length (X := fun b => b ∈ L) (OC.vc h fun _ hb => hb)
end
end Go.Proofs.YtjkfmihbmkbjfaaGreat
