/- Plain lists: the place of the first element that a test takes. No program in sight. -/
namespace Go.Proofs.Ytdhagfpgijcfbaa

section
variable {α : Type} {p : α → Bool} {l : List α} {k : Nat} {x : α}
def NoP (p : α → Bool) (l : List α) (k : Nat) : Prop := ∀ x, x ∈ l.take k → p x = false
def idxI (p : α → Bool) (l : List α) : Int := match l.findIdx? p with
  | some k => (k : Int)
  | none => -1
theorem noP_zero : NoP p l 0 := fun x h => by simp at h
theorem noP_step (h : NoP p l k) (hx : l[k]? = some x) (hp : p x = false) : NoP p l (k + 1) := fun y hy => by
  rw [List.take_add_one, hx] at hy
  rcases List.mem_append.1 hy with hy | hy
  · exact h y hy
  · simp at hy; exact hy ▸ hp
theorem idx_hit (h : NoP p l k) (hx : l[k]? = some x) (hp : p x = true) : idxI p l = k := by
  have hk : k < l.length := (List.getElem?_eq_some_iff.1 hx).1
  have : l.findIdx? p = some k := by
    rw [List.findIdx?_eq_some_iff_getElem]
    obtain ⟨_, e⟩ := List.getElem?_eq_some_iff.1 hx
    refine ⟨hk, e ▸ hp, fun j hj => ?_⟩
    have := h l[j] (List.mem_take_iff_getElem.2 ⟨j, by omega, rfl⟩)
    simp [this]
  unfold idxI
  rw [this]
theorem idx_none (h : NoP p l l.length) : idxI p l = -1 := by
  have : l.findIdx? p = none := by
    rw [List.findIdx?_eq_none_iff]
    intro x hx
    exact h x (by rw [List.take_length]; exact hx)
  unfold idxI
  rw [this]
theorem idx_some (h : ¬ idxI p l < 0) : ∃ k, l.findIdx? p = some k ∧ idxI p l = k := by
  unfold idxI at h ⊢
  cases hf : l.findIdx? p with
  | some k => exact ⟨k, rfl, rfl⟩
  | none => rw [hf] at h; simp at h
theorem idx_lt (p : α → Bool) (l : List α) : idxI p l < (l.length : Int) ∧ -1 ≤ idxI p l := by
  unfold idxI
  cases hf : l.findIdx? p with
  | some k => have := (List.findIdx?_eq_some_iff_getElem.1 hf).1; simp only; omega
  | none => simp only; omega
theorem idx_yes (h : ¬ idxI p l < 0) (hx : l[(idxI p l).toNat]? = some x) : p x = true ∧ NoP p l (idxI p l).toNat ∧ l.find? p = some x := by
  obtain ⟨k, hf, e⟩ := idx_some h
  rw [e] at hx ⊢
  simp only [Int.toNat_natCast] at hx ⊢
  obtain ⟨hk, hp, hn⟩ := List.findIdx?_eq_some_iff_getElem.1 hf
  obtain ⟨_, rfl⟩ := List.getElem?_eq_some_iff.1 hx
  have hno : NoP p l k := fun y hy => by
    obtain ⟨j, hj, rfl⟩ := List.mem_take_iff_getElem.1 hy
    have := hn j (by omega)
    simpa using this
  refine ⟨hp, hno, ?_⟩
  rw [List.find?_eq_some_iff_append]
  refine ⟨hp, l.take k, l.drop (k + 1), ?_, fun a ha => by simp [hno a ha]⟩
  rw [← List.drop_eq_getElem_cons hk, List.take_append_drop]
theorem idx_no (h : idxI p l < 0) : l.find? p = none := by
  rw [List.find?_eq_none]
  intro x hx
  unfold idxI at h
  cases hf : l.findIdx? p with
  | some k => rw [hf] at h; simp at h; omega
  | none => simpa using List.findIdx?_eq_none_iff.1 hf x hx
end
end Go.Proofs.Ytdhagfpgijcfbaa
