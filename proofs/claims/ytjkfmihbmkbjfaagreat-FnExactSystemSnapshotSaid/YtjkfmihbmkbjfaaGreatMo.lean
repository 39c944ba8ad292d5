/- The abstract machine's operations that make memory or store: boxes, literals of slices. No program in sight. -/
import Derived.Test.YtjkfmihbmkbjfaaGreatPq
namespace Go.Proofs.YtjkfmihbmkbjfaaGreat
open Go.RowKit

theorem memN_iff {k : Nat} : ∀ {l : List Nat}, memN k l = true ↔ k ∈ l
  | [] => by simp [memN]
  | x :: r => by
    simp only [memN, Bool.or_eq_true, Nat.beq_eq, memN_iff (l := r), List.mem_cons]
    exact ⟨fun h => h.elim (fun e => .inl e.symm) .inr, fun h => h.elim (fun e => .inl e.symm) .inr⟩
theorem nodupN_iff : ∀ {l : List Nat}, nodupN l = true ↔ l.Nodup
  | [] => by simp [nodupN]
  | x :: r => by
    simp only [nodupN, Bool.and_eq_true, Bool.not_eq_true', List.nodup_cons, nodupN_iff (l := r)]
    exact ⟨fun h => ⟨fun hm => by rw [memN_iff.2 hm] at h; exact absurd h.1 (by simp), h.2⟩, fun h => ⟨by cases hm : memN x r with | false => rfl | true => exact absurd (memN_iff.1 hm) h.1, h.2⟩⟩

section
variable {N : Nat} {w0 : World} {F0 : Nat → Prop} {J J' : Inj} {a : Act} {w w' : World} {s : St}

/-- a step in which the new name nk takes rows over -/
theorem Rel.grab (h : Rel N w0 F0 J a w s) (dst : Option Nat) (hdst : ∀ d, dst = some d → d < N) (r : Res) (v : Value) (nk : Nat) (gone : List Nat) (hkb : r.kb = none) (hbx : r.bx = none)
    (hb : Below w0.heap.size w0 w') (hsz : w.heap.size ≤ w'.heap.size) (hB : J'.B = J.B) (hL : ∀ k, k ≠ nk → J'.L k = if k ∈ gone then [] else J.L k)
    (hF1 : ∀ b, J.F b → J'.F b) (hF2 : ∀ b, J'.F b → J.F b ∨ (∃ k, k ∈ gone ∧ b ∈ J.L k) ∧ b ∉ J'.L nk)
    (hrl : ∀ k, k ∉ gone → k ≠ nk → get r.rl k = none) (hnk : nk ∉ gone → get r.rl nk = some none)
    (hT : ∀ k, k ∈ gone → get r.rl k = some none ∨ (get r.rl k = some (some .sh) ∧ ∀ b, b ∈ J.L k → J'.F b ∧ w'.heap[b]? = w.heap[b]?) ∨ (get r.rl k = some (some (.vw nk)) ∧ ∀ b, b ∈ J.L k → (b ∈ J'.L nk ∨ J'.F b) ∧ w'.heap[b]? = w.heap[b]?))
    (hS : ∀ b, b < w.heap.size → (∀ k, k ∈ gone → b ∉ J.L k) → w'.heap[b]? = w.heap[b]?)
    (hN1 : (J'.L nk).Nodup) (hN2 : ∀ b, b ∈ J'.L nk → b < w'.heap.size ∧ (w.heap.size ≤ b ∨ ∃ k, k ∈ gone ∧ b ∈ J.L k))
    (hv : dst ≠ none → AR J' w' v r.av) : Rel N w0 F0 J' (a.put dst v) w' (s.step dst r) := by
  have hnot : ∀ b, J.F b → ∀ k, b ∉ J.L k := fun b hF k hm => (h.lo k b hm).2.2 hF
  have hFn : ∀ b, J'.F b → b ∉ J'.L nk := fun b hF hm => by
    rcases hF2 b hF with hF | ⟨_, hn⟩
    · rcases (hN2 b hm).2 with hge | ⟨k, _, hk⟩
      · have := (h.fl b hF).1; omega
      · exact hnot b hF k hk
    · exact hn hm
  have h0 : w0.heap.size ≤ w.heap.size := h.below.size
  refine h.upd dst hdst r v hb ⟨fun b hF => ⟨hF1 b hF, hS b (h.fl b hF).1 fun k _ => hnot b hF k⟩, fun k hk => ?_, fun k hk b hm => ?_, fun k k' hk b hm => ?_, fun k t hk => ?_, fun k _ => by rw [hB], fun k d m i o cs hk => by
      have hg : k ∈ gone := Classical.byContradiction fun hg => by
        by_cases hn : k = nk
        · subst hn; rw [hnk hg] at hk; cases hk
        · rw [hrl k hg hn] at hk; cases hk
      rcases hT k hg with e | ⟨e, _⟩ | ⟨e, _⟩ <;> rw [e] at hk <;> cases hk⟩
    ⟨fun b hF => ?_, fun b hF => hF1 b (h.f0 b hF), fun k => ?_, fun k b hm => ?_, fun k k' b hm hm' => ?_⟩ hv (fun k c hk _ => ?_) (fun k c hk => by rw [hbx] at hk; cases hk)
  · have hg : k ∉ gone := fun hg => by
      rcases hT k hg with e | ⟨e, _⟩ | ⟨e, _⟩ <;> rw [e] at hk <;> cases hk
    have hn : k ≠ nk := fun e => by subst e; rw [hnk hg] at hk; cases hk
    refine ⟨by rw [hL k hn, if_neg hg], fun b hm => hS b (h.lo k b hm).2.1 fun k' hk' hm' => ?_⟩
    exact hg (h.dj k k' b hm hm' ▸ hk')
  · have hg : k ∈ gone := Classical.byContradiction fun hg => by
      by_cases hn : k = nk
      · subst hn; rw [hnk hg] at hk; cases hk
      · rw [hrl k hg hn] at hk; cases hk
    rcases hT k hg with e | ⟨_, e⟩ | ⟨e, _⟩
    · rw [e] at hk; cases hk
    · exact e b hm
    · rw [e] at hk; cases hk
  · have hg : k ∈ gone := Classical.byContradiction fun hg => by
      by_cases hn : k = nk
      · subst hn; rw [hnk hg] at hk; cases hk
      · rw [hrl k hg hn] at hk; cases hk
    rcases hT k hg with e | ⟨e, _⟩ | ⟨e', e⟩
    · rw [e] at hk; cases hk
    · rw [e] at hk; cases hk
    · rw [e'] at hk
      obtain rfl : nk = k' := by simpa using hk
      exact e b hm
  · have hg : k ∈ gone := Classical.byContradiction fun hg => by
      by_cases hn : k = nk
      · subst hn; rw [hnk hg] at hk; cases hk
      · rw [hrl k hg hn] at hk; cases hk
    rcases hT k hg with e | ⟨e, _⟩ | ⟨e, _⟩ <;> rw [e] at hk
    · cases hk
    · exact .inl (by simpa using hk.symm)
    · exact .inr (.inl ⟨nk, by simpa using hk.symm⟩)
  · rcases hF2 b hF with hF | ⟨⟨k, _, hm⟩, _⟩
    · have := h.fl b hF; exact ⟨by omega, this.2⟩
    · have := h.lo k b hm; exact ⟨by omega, .inr this.1⟩
  · by_cases hk : k = nk
    · rw [hk]; exact hN1
    · rw [hL k hk]; split
      · simp
      · exact h.nd k
  · by_cases hk : k = nk
    · subst hk
      obtain ⟨h1, h2⟩ := hN2 b hm
      refine ⟨?_, h1, fun hF => hFn b hF hm⟩
      rcases h2 with h2 | ⟨k', _, hm'⟩
      · omega
      · exact (h.lo k' b hm').1
    · rw [hL k hk] at hm
      split at hm
      · simp at hm
      · rename_i hg
        obtain ⟨h1, h2, h3⟩ := h.lo k b hm
        refine ⟨h1, by omega, fun hF => ?_⟩
        rcases hF2 b hF with hF | ⟨⟨k', hg', hm'⟩, _⟩
        · exact h3 hF
        · exact hg (h.dj k k' b hm hm' ▸ hg')
  · have key : ∀ k, k ≠ nk → b ∈ J'.L nk → b ∈ J'.L k → False := fun k hk h1 h2 => by
      rw [hL k hk] at h2
      split at h2
      · simp at h2
      · rename_i hg
        rcases (hN2 b h1).2 with hge | ⟨k', hg', hm'⟩
        · have := (h.lo k b h2).2.1; omega
        · exact hg (h.dj k k' b h2 hm' ▸ hg')
    by_cases hk : k = nk
    · by_cases hk' : k' = nk
      · rw [hk, hk']
      · subst hk; exact (key k' hk' hm hm').elim
    · by_cases hk' : k' = nk
      · subst hk'; exact (key k hk hm' hm).elim
      · rw [hL k hk] at hm
        rw [hL k' hk'] at hm'
        split at hm
        · simp at hm
        · split at hm'
          · simp at hm'
          · exact h.dj k k' b hm hm'
  · obtain ⟨h1, h2, h3, arr, e, h4, _⟩ := h.bo k c hk
    refine ⟨by rw [hkb]; simp, fun hF => ?_, fun k' hm => ?_, hS _ (block_lt_of_heap h4) fun k' _ => h3 k'⟩
    · rcases hF2 _ hF with hF | ⟨⟨k', _, hm⟩, _⟩
      · exact h2 hF
      · exact h3 k' hm
    · by_cases hk' : k' = nk
      · subst hk'
        rcases (hN2 _ hm).2 with hge | ⟨k'', _, hm'⟩
        · have := block_lt_of_heap h4; omega
        · exact h3 k'' hm'
      · rw [hL k' hk'] at hm
        split at hm
        · simp at hm
        · exact h3 k' hm

/-- a new box -/
def Inj.box (J : Inj) (d b : Nat) : Inj := ⟨J.F, J.L, fun k => if k = d then b else J.B k⟩
theorem Keeps.box {c : C} (hc : noPtrC c = true) (hw : ∀ b, b < w.heap.size → w'.heap[b]? = w.heap[b]?) (h : Rel N w0 F0 J a w s) (d b : Nat) : Keeps J (J.box d b) w w' c := by
  refine ⟨fun x hx => ⟨hx, hw x (h.fl x hx).1⟩, fun k _ => ⟨rfl, fun x hx => hw x (h.lo k x hx).2.1⟩, fun k hk => ?_⟩
  cases c <;> simp_all [C.bkeys, noPtrC]
theorem All2.box {vs : List Value} {cs : List C} (hv : All2 (CR J w) vs cs) (hc : allC noPtrC cs = true) (hw : ∀ b, b < w.heap.size → w'.heap[b]? = w.heap[b]?) (h : Rel N w0 F0 J a w s) (d b : Nat) : All2 (CR (J.box d b) w') vs cs := by
  induction hv with
  | nil => exact .nil
  | cons h1 _ ih =>
    simp only [allC, Bool.and_eq_true] at hc
    exact .cons (h1.keep (Keeps.box hc.1 hw h d b)) (ih hc.2)
theorem Rel.alloc (h : Rel N w0 F0 J a w s) (d : Nat) (hd : d < N) (arr : Array Value) (e : TypeId) (cs : List C) (hc : allC noPtrC cs = true) (hv : All2 (CR J w) arr.toList cs) :
    Rel N w0 F0 (J.box d w.heap.size) (a.put (some d) (.pointer (some ⟨w.heap.size, 0, none⟩))) (w.alloc (.cells arr e (0, 0))) (s.step (some d) ⟨.one (.ptr d 0), [], some d, some (d, cs)⟩) := by
  have hw : ∀ b, b < w.heap.size → (w.alloc (.cells arr e (0, 0))).heap[b]? = w.heap[b]? := fun b hb => Below.heap_alloc w _ b hb
  have h0 := h.below.size
  have hz : (w.alloc (.cells arr e (0, 0))).heap.size = w.heap.size + 1 := by simp
  refine h.upd (some d) (fun d' e => by cases e; exact hd) _ _ (h.below.alloc h0 _) ⟨fun b hb => ⟨hb, hw b (h.fl b hb).1⟩, fun k _ => ⟨rfl, fun b hb => hw b (h.lo k b hb).2.1⟩, (fun _ hk => by cases hk), (fun _ _ hk => by cases hk), (fun _ _ hk => by cases hk), (fun k hk => ?_), (fun _ _ _ _ _ _ hk => by cases hk)⟩
    ⟨fun b hb => ⟨by have := (h.fl b hb).1; omega, (h.fl b hb).2⟩, h.f0, h.nd, fun k b hb => ⟨(h.lo k b hb).1, by have := (h.lo k b hb).2.1; omega, (h.lo k b hb).2.2⟩, h.dj⟩ (fun _ => ?_) (fun k c hk hne => ?_) (fun k c hk => ?_)
  · show (if k = d then _ else J.B k) = J.B k
    rw [if_neg (fun e => hk (by simp [e]))]
  · show Value.pointer _ = _
    simp [Inj.box]
  · have hkd : k ≠ d := fun e => hne (d, cs) rfl e.symm
    obtain ⟨h1, h2, h3, arr', e', h4, _⟩ := h.bo k c hk
    exact ⟨by simpa using fun e => hkd e.symm, h2, h3, hw _ (block_lt_of_heap h4)⟩
  · simp only [Option.some.injEq, Prod.mk.injEq] at hk
    obtain ⟨rfl, rfl⟩ := hk
    have hBd : (J.box d w.heap.size).B d = w.heap.size := by simp [Inj.box]
    rw [hBd]
    refine ⟨h0, fun hF => by have := (h.fl _ hF).1; omega, fun k' hm => by have := (h.lo k' _ hm).2.1; omega, ⟨arr, e, heap_alloc_new w _, hv.box hc hw h d _⟩, fun k' c' hk' _ hB => ?_⟩
    obtain ⟨_, _, _, arr', e', h4, _⟩ := h.bo k' c' hk'
    have := block_lt_of_heap h4
    omega

/-- a store into a box -/
theorem Rel.store (h : Rel N w0 F0 J a w s) (dst : Option Nat) (hdst : ∀ d, dst = some d → d < N) (k : Nat) (cells cs : List C) (hk : get s.bx k = some cells) (arr arr' : Array Value) (e : TypeId) (hg : w.heap[J.B k]? = some (.cells arr e (0, 0)))
    (hw : w'.heap[J.B k]? = some (.cells arr' e (0, 0))) (hw' : ∀ b, b ≠ J.B k → w'.heap[b]? = w.heap[b]?) (ho : w'.os = w.os) (ht : w'.tape = w.tape) (hu : w'.output = w.output) (hz : w'.heap.size = w.heap.size) (hv : All2 (CR J w) arr'.toList cs) (v : Value) :
    Rel N w0 F0 J (a.put dst v) w' (s.step dst ⟨.one .dead, [], none, some (k, cs)⟩) := by
  obtain ⟨hb0, hbF, hbL, _⟩ := h.bo k cells hk
  have hF : ∀ b, J.F b → w'.heap[b]? = w.heap[b]? := fun b hb => hw' b fun e => hbF (e ▸ hb)
  have hL : ∀ k' b, b ∈ J.L k' → w'.heap[b]? = w.heap[b]? := fun k' b hb => hw' b fun e => hbL k' (e ▸ hb)
  have hkeep : ∀ c, Keeps J J w w' c := fun c => ⟨fun b hb => ⟨hb, hF b hb⟩, fun k' _ => ⟨rfl, hL k'⟩, fun _ _ => rfl⟩
  refine h.upd dst hdst _ v (h.below.trans ⟨ho, ht, hu, by omega, fun b hb => hw' b (by omega)⟩) ⟨fun b hb => ⟨hb, hF b hb⟩, fun k' _ => ⟨rfl, hL k'⟩, (fun _ hk => by cases hk), (fun _ _ hk => by cases hk), (fun _ _ hk => by cases hk), (fun _ _ => rfl), (fun _ _ _ _ _ _ hk => by cases hk)⟩
    ⟨fun b hb => ⟨by have := (h.fl b hb).1; omega, (h.fl b hb).2⟩, h.f0, h.nd, fun k b hb => ⟨(h.lo k b hb).1, by have := (h.lo k b hb).2.1; omega, (h.lo k b hb).2.2⟩, h.dj⟩ (fun _ => trivial) (fun k' c' hk' hne => ?_) (fun k' c' hk' => ?_)
  · have hkk : k ≠ k' := hne (k, cs) rfl
    obtain ⟨_, h2, h3, _⟩ := h.bo k' c' hk'
    exact ⟨by simp, h2, h3, hw' _ fun e => hkk (h.bi k' k c' cells hk' hk e).symm⟩
  · simp only [Option.some.injEq, Prod.mk.injEq] at hk'
    obtain ⟨rfl, rfl⟩ := hk'
    refine ⟨hb0, hbF, hbL, ⟨arr', e, hw, hv.imp fun x c _ hc => hc.keep (hkeep c)⟩, fun k' c' hk' hne hB => ?_⟩
    exact hne (h.bi k' k c' cells hk' hk hB)
end
end Go.Proofs.YtjkfmihbmkbjfaaGreat
