/- The laws' own functions as contracts of the machine: sizes, copies, equality, marks. No program in sight. -/
import Derived.Test.YtiafgmepdgfpbaaZc
import Derived.Test.YtiafgmepdgfpbaaTy
set_option linter.unusedVariables false
set_option linter.unusedSimpArgs false
namespace Go.Proofs.Ytiafgmepdgfpbaa
open Go.RowKit
open GoD (rd own)
open GoE (enc wide)
def szI (t : Nat) (left : Int) : Int := bif decide ((t : Int) ≤ left) then left - t else -1
theorem szI_of {t : Nat} {left r : Int} (h : szq t left r) : r = szI t left := by
  unfold szq at h
  unfold szI
  by_cases hc : (t : Int) ≤ left
  · rw [decide_eq_true hc]; simp only [cond_true]; omega
  · rw [decide_eq_false hc]; simp only [cond_false]; omega
theorem szI_bd (t : Nat) (left : Int) : szI t left < 0 ∨ (0 ≤ szI t left ∧ szI t left = left - t ∧ (t : Int) ≤ left) := by
  by_cases hc : (t : Int) ≤ left
  · have : szI t left = left - t := by unfold szI; rw [decide_eq_true hc]; rfl
    omega
  · have : szI t left = -1 := by unfold szI; rw [decide_eq_false hc]; rfl
    omega
theorem szI_in (t : Nat) {left : Int} (h0 : 0 ≤ left) (h1 : left ≤ 1048576) : InR .i64 (szI t left) := by
  rw [inR_i64]; unfold I64
  by_cases hc : (t : Int) ≤ left
  · have : szI t left = left - t := by unfold szI; rw [decide_eq_true hc]; rfl
    omega
  · have : szI t left = -1 := by unfold szI; rw [decide_eq_false hc]; rfl
    omega
section
variable {α : Type} [GoE α] {P : Program} {f : Nat}
theorem argA_rd {F : Nat → Prop} {w : World} {v : Value} {a : α} (h : AR (argJ F) w v (argA a)) : ∃ cs : List Value, v = .agg cs.toArray ∧ rd w cs a := by
  obtain ⟨vs, rfl, hr⟩ := h
  exact ⟨vs, rfl, GoE.vc_rd (sh_vc hr fun _ => GoE.no_any)⟩
theorem argA_wide {F : Nat → Prop} {w : World} {v : Value} {a : α} (h : AR (argJ F) w v (argA a)) : wide a := by
  obtain ⟨vs, rfl, hr⟩ := h
  exact GoE.vc_wide (sh_vc hr fun _ => GoE.no_any)
theorem argS_rd {F : Nat → Prop} {w : World} {v : Value} {l : List α} (h : AR (argJ F) w v (argS l)) : rd w [v] l := vv_rdS h
theorem argS_wide {F : Nat → Prop} {w : World} {v : Value} {l : List α} (h : AR (argJ F) w v (argS l)) : wide l := vv_wide h
theorem aret_pure {F : Nat → Prop} {w w' : World} {v : Value} {r : AV} (hb : Below w.heap.size w w') (hr : ∀ J, AR J w' v r) : ARet F w r (.returned v) w' :=
  ⟨v, fun _ => [], rfl, hb, fun _ => List.nodup_nil, (fun _ _ h => by simp at h), (fun _ _ _ h => by simp at h), hr _⟩
theorem acalls_szA (hok : FnOk P f) {a : α} {left : Int} (h0 : 0 ≤ left) (h1 : left ≤ 1048576) (h : ∀ w (cs : List Value), rd w cs a → Calls P f #[.agg cs.toArray, .int .i64 left] w (RetSz w (GoD.size a) left)) : ACalls P f [argA a, intA left] (intA (szI (GoD.size a) left)) := by
  refine ⟨hok, fun w _ F vals hF hall => ?_⟩
  cases hall with
  | cons h2 h3 => cases h3 with
    | cons h3 h4 =>
      cases h4
      obtain ⟨cs, rfl, hr⟩ := argA_rd h2
      obtain ⟨rfl, _⟩ := h3
      refine (h w cs hr).mono ?_
      rintro e w' ⟨r, rfl, hq, hb⟩
      exact aret_pure hb fun J => ⟨by rw [szI_of hq], szI_in _ h0 h1⟩
theorem acalls_szS (hok : FnOk P f) {l : List α} {left : Int} (h0 : 0 ≤ left) (h1 : left ≤ 1048576) (h : ∀ w (v : Value), rd w [v] l → Calls P f #[v, .int .i64 left] w (RetSz w (GoD.size l) left)) : ACalls P f [argS l, intA left] (intA (szI (GoD.size l) left)) := by
  refine ⟨hok, fun w _ F vals hF hall => ?_⟩
  cases hall with
  | cons h2 h3 => cases h3 with
    | cons h3 h4 =>
      cases h4
      obtain ⟨rfl, _⟩ := h3
      refine (h w _ (argS_rd h2)).mono ?_
      rintro e w' ⟨r, rfl, hq, hb⟩
      exact aret_pure hb fun J => ⟨by rw [szI_of hq], szI_in _ h0 h1⟩
theorem acalls_eqA (hok : FnOk P f) {a b : α} (he : a = b) (h : ∀ w (ca cb : List Value), rd w ca a → rd w cb b → Calls P f #[.agg ca.toArray, .agg cb.toArray] w (Ret w (.bool (eqb a b)))) : ACalls P f [argA a, argA b] (boolA true) := by
  refine ⟨hok, fun w _ F vals hF hall => ?_⟩
  cases hall with
  | cons h2 h3 => cases h3 with
    | cons h3 h4 =>
      cases h4
      obtain ⟨ca, rfl, ha⟩ := argA_rd h2
      obtain ⟨cb, rfl, hcb⟩ := argA_rd h3
      refine (h w ca cb ha hcb).mono ?_
      rintro e w' ⟨rfl, hb⟩
      subst he
      exact aret_pure hb fun J => by rw [eqb_refl]; rfl
theorem acalls_eqS (hok : FnOk P f) {a b : List α} (he : a = b) (h : ∀ w (u v : Value), rd w [u] a → rd w [v] b → Calls P f #[u, v] w (Ret w (.bool (eqb a b)))) : ACalls P f [argS a, argS b] (boolA true) := by
  refine ⟨hok, fun w _ F vals hF hall => ?_⟩
  cases hall with
  | cons h2 h3 => cases h3 with
    | cons h3 h4 =>
      cases h4
      refine (h w _ _ (argS_rd h2) (argS_rd h3)).mono ?_
      rintro e w' ⟨rfl, hb⟩
      subst he
      exact aret_pure hb fun J => by rw [eqb_refl]; rfl
theorem acalls_heA (hok : FnOk P f) {a : α} {K R : Int} (hR : InR .i64 R) (h : ∀ w (cs : List Value), rd w cs a → Calls P f #[.agg cs.toArray, .int .i64 K] w (Ret w (.int .i64 R))) : ACalls P f [argA a, intA K] (intA R) := by
  refine ⟨hok, fun w _ F vals hF hall => ?_⟩
  cases hall with
  | cons h2 h3 => cases h3 with
    | cons h3 h4 =>
      cases h4
      obtain ⟨cs, rfl, hr⟩ := argA_rd h2
      obtain ⟨rfl, _⟩ := h3
      refine (h w cs hr).mono ?_
      rintro e w' ⟨rfl, hb⟩
      exact aret_pure hb fun J => ⟨rfl, hR⟩
theorem acalls_heS (hok : FnOk P f) {l : List α} {K R : Int} (hR : InR .i64 R) (h : ∀ w (v : Value), rd w [v] l → Calls P f #[v, .int .i64 K] w (Ret w (.int .i64 R))) : ACalls P f [argS l, intA K] (intA R) := by
  refine ⟨hok, fun w _ F vals hF hall => ?_⟩
  cases hall with
  | cons h2 h3 => cases h3 with
    | cons h3 h4 =>
      cases h4
      obtain ⟨rfl, _⟩ := h3
      refine (h w _ (argS_rd h2)).mono ?_
      rintro e w' ⟨rfl, hb⟩
      exact aret_pure hb fun J => ⟨rfl, hR⟩
end
/-! ### copies -/
theorem oc_ow {w : World} : ∀ {ps : List PV} {vs : List Value} {L : List Nat} (k : Nat), OC w L vs ps → L.Nodup → ∃ Lf : Nat → List Nat, (∀ J : Inj, (∀ j, k ≤ j → J.L j = Lf j) → All2 (CR J w) vs (owC k ps)) ∧ (∀ j, (Lf j).Nodup) ∧ (∀ j b, b ∈ Lf j → b ∈ L) ∧ ∀ i j b, b ∈ Lf i → b ∈ Lf j → i = j
  | [], vs, L, k, h, hn => by
    cases h
    exact ⟨fun _ => [], fun _ _ => .nil, fun _ => List.nodup_nil, fun _ _ h => by simp at h, fun _ _ _ h => by simp at h⟩
  | p :: ps, vs, L, k, h, hn => by
    cases h with
    | @cons L1 L2 v p vs ps h1 h2 =>
      obtain ⟨n1, n2, n3⟩ := List.nodup_append.1 hn
      cases p with
      | int a b =>
        obtain ⟨Lf, q1, q2, q3, q4⟩ := oc_ow k h2 n2
        exact ⟨Lf, fun J hJ => .cons (by cases h1; exact ⟨rfl, ‹_›⟩) (q1 J hJ), q2, fun j b hb => List.mem_append_right _ (q3 j b hb), q4⟩
      | bool b =>
        obtain ⟨Lf, q1, q2, q3, q4⟩ := oc_ow k h2 n2
        exact ⟨Lf, fun J hJ => .cons (by cases h1; rfl) (q1 J hJ), q2, fun j b hb => List.mem_append_right _ (q3 j b hb), q4⟩
      | str s =>
        obtain ⟨Lf, q1, q2, q3, q4⟩ := oc_ow k h2 n2
        exact ⟨Lf, fun J hJ => .cons (by cases h1; exact ⟨rfl, ‹_›⟩) (q1 J hJ), q2, fun j b hb => List.mem_append_right _ (q3 j b hb), q4⟩
      | any =>
        obtain ⟨Lf, q1, q2, q3, q4⟩ := oc_ow k h2 n2
        exact ⟨Lf, fun J hJ => .cons trivial (q1 J hJ), q2, fun j b hb => List.mem_append_right _ (q3 j b hb), q4⟩
      | raw u =>
        obtain ⟨Lf, q1, q2, q3, q4⟩ := oc_ow k h2 n2
        exact ⟨Lf, fun J hJ => .cons (by cases h1; exact ⟨rfl, ‹_›, ‹_›⟩) (q1 J hJ), q2, fun j b hb => List.mem_append_right _ (q3 j b hb), q4⟩
      | slc n l =>
        obtain ⟨Lf, q1, q2, q3, q4⟩ := oc_ow (k + 1) h2 n2
        refine ⟨fun j => if j = k then L1 else if k < j then Lf j else [], fun J hJ => .cons ?_ (q1 J fun j hj => ?_), fun j => ?_, fun j b hb => ?_, fun i j b hi hj => ?_⟩
        · show OwnDeep (J.L k) w v n l
          have e : J.L k = L1 := (hJ k (Nat.le_refl _)).trans (if_pos rfl)
          rw [e]
          exact .of h1 n1
        · exact (hJ j (by omega)).trans ((if_neg (by omega)).trans (if_pos (by omega)))
        · show (if j = k then L1 else if k < j then Lf j else []).Nodup
          split
          · exact n1
          · split
            · exact q2 j
            · exact List.nodup_nil
        · have hb : b ∈ (if j = k then L1 else if k < j then Lf j else []) := hb
          split at hb
          · exact List.mem_append_left _ hb
          · split at hb
            · exact List.mem_append_right _ (q3 j b hb)
            · simp at hb
        · have hi : b ∈ (if i = k then L1 else if k < i then Lf i else []) := hi
          have hj : b ∈ (if j = k then L1 else if k < j then Lf j else []) := hj
          split at hi <;> split at hj
          · omega
          · split at hj
            · exact (n3 b hi b (q3 j b hj) rfl).elim
            · simp at hj
          · split at hi
            · exact (n3 b hj b (q3 i b hi) rfl).elim
            · simp at hi
          · split at hi
            · split at hj
              · exact q4 i j b hi hj
              · simp at hj
            · simp at hi
section
variable {α : Type} [GoE α] {P : Program} {f : Nat}
theorem acalls_toA (hok : FnOk P f) {a : α} (h : ∀ w (cs : List Value), rd w cs a → Calls P f #[.agg cs.toArray] w (RetA w a)) : ACalls P f [argA a] (resA a) := by
  refine ⟨hok, fun w _ F vals hF hall => ?_⟩
  cases hall with
  | cons h2 h3 =>
    cases h3
    have hw := argA_wide h2
    obtain ⟨cs, rfl, hr⟩ := argA_rd h2
    refine (h w cs hr).mono ?_
    rintro e w' ⟨cs', L, rfl, hb, ho, hL⟩
    have hlt := GoD.own_lt ho
    obtain ⟨Lf, q1, q2, q3, q4⟩ := oc_ow 0 (GoE.own_oc ho hw) (GoD.own_nd ho)
    exact ⟨_, Lf, rfl, hb, q2, fun k b hk => ⟨hL b (q3 k b hk), hlt b (q3 k b hk)⟩, q4, cs', rfl, q1 _ fun _ _ => rfl⟩
theorem acalls_toS (hok : FnOk P f) {l : List α} (h : ∀ w (v : Value), rd w [v] l → Calls P f #[v] w (RetS w l)) : ACalls P f [argS l] (resS l) := acalls_retS hok (fun w v hr _ => h w v hr) id
end
/-! ### marks -/
def MarkA (P : Program) (f : Nat) {α : Type} [GoE α] (a : α) (K : Int) (r : α × Nat) : Prop := FnOk P f ∧ ∀ (w : World) (L : List Nat) (cs : List Value), own L w cs a → Calls P f #[.agg cs.toArray, .int .i64 K] w (MarkR L w cs r)
def MarkS (P : Program) (f : Nat) {α : Type} [GoE α] (l : List α) (K : Int) (r : List α × Nat) : Prop := FnOk P f ∧ ∀ (w : World) (L : List Nat) (v : Value), own L w [v] l → Calls P f #[v, .int .i64 K] w (MarkR L w [v] r)
def nmC : List Nat → List PV → Option (List C)
  | [], [] => some []
  | _, [] => none
  | k :: ks, .slc n l :: r => (nmC ks r).map (C.slc (.own true k) n l :: ·)
  | [], .slc _ _ :: _ => none
  | ks, .int a b :: r => (nmC ks r).map (C.int a b :: ·)
  | ks, .bool b :: r => (nmC ks r).map (C.bool b :: ·)
  | ks, .str s :: r => (nmC ks r).map (C.str s :: ·)
  | [], .any :: _ => none
  | _ :: _, .any :: _ => none
  | [], .raw _ :: _ => none
  | _ :: _, .raw _ :: _ => none
theorem nm_oc {J : Inj} {w : World} (hd : ∀ k k' b, b ∈ J.L k → b ∈ J.L k' → k = k') : ∀ {ps : List PV} {ks : List Nat} {cs : List C} {vs : List Value}, nmC ks ps = some cs → ks.Nodup → All2 (CR J w) vs cs → ∃ L, OC w L vs ps ∧ L.Nodup ∧ ∀ b, b ∈ L → ∃ k, k ∈ ks ∧ b ∈ J.L k
  | [], [], cs, vs, h, _, ha => by
    obtain rfl : [] = cs := by simpa [nmC] using h
    cases ha
    exact ⟨[], .nil, List.nodup_nil, fun _ h => by simp at h⟩
  | [], k :: ks, cs, vs, h, _, ha => by simp [nmC] at h
  | .int a b :: ps, ks, cs, vs, h, hn, ha => by
    have h : (nmC ks ps).map (C.int a b :: ·) = some cs := by cases ks <;> exact h
    obtain ⟨cs', h', rfl⟩ := Option.map_eq_some_iff.1 h
    cases ha with
    | cons h1 h2 => obtain ⟨rfl, h1⟩ := h1; obtain ⟨L, q1, q2, q3⟩ := nm_oc hd h' hn h2; exact ⟨L, OC.cons (L1 := []) (.int h1) q1, q2, q3⟩
  | .bool b :: ps, ks, cs, vs, h, hn, ha => by
    have h : (nmC ks ps).map (C.bool b :: ·) = some cs := by cases ks <;> exact h
    obtain ⟨cs', h', rfl⟩ := Option.map_eq_some_iff.1 h
    cases ha with
    | cons h1 h2 => obtain rfl := h1; obtain ⟨L, q1, q2, q3⟩ := nm_oc hd h' hn h2; exact ⟨L, OC.cons (L1 := []) (.bool _) q1, q2, q3⟩
  | .str s :: ps, ks, cs, vs, h, hn, ha => by
    have h : (nmC ks ps).map (C.str s :: ·) = some cs := by cases ks <;> exact h
    obtain ⟨cs', h', rfl⟩ := Option.map_eq_some_iff.1 h
    cases ha with
    | cons h1 h2 => obtain ⟨rfl, h1⟩ := h1; obtain ⟨L, q1, q2, q3⟩ := nm_oc hd h' hn h2; exact ⟨L, OC.cons (L1 := []) (.str h1) q1, q2, q3⟩
  | .slc n l :: ps, [], cs, vs, h, _, ha => by simp [nmC] at h
  | .any :: ps, [], cs, vs, h, _, ha => by simp [nmC] at h
  | .any :: ps, k :: ks, cs, vs, h, _, ha => by simp [nmC] at h
  | .raw _ :: ps, [], cs, vs, h, _, ha => by simp [nmC] at h
  | .raw _ :: ps, k :: ks, cs, vs, h, _, ha => by simp [nmC] at h
  | .slc n l :: ps, k :: ks, cs, vs, h, hn, ha => by
    simp only [nmC] at h
    obtain ⟨cs', h', rfl⟩ := Option.map_eq_some_iff.1 h
    obtain ⟨hk, hn⟩ := List.nodup_cons.1 hn
    cases ha with
    | cons h1 h2 =>
      obtain ⟨L, q1, q2, q3⟩ := nm_oc hd h' hn h2
      obtain ⟨L0, a1, a2, a3, _⟩ := h1
      refine ⟨L0 ++ L, OC.cons a1 q1, List.nodup_append.2 ⟨a2, q2, fun b hb b' hb' e => ?_⟩, fun b hb => ?_⟩
      · subst e
        obtain ⟨k', hk', hm⟩ := q3 b hb'
        exact hk (hd _ _ b (a3 b hb) hm ▸ hk')
      · rcases List.mem_append.1 hb with hb | hb
        · exact ⟨k, List.mem_cons_self, a3 b hb⟩
        · obtain ⟨k', hk', hm⟩ := q3 b hb
          exact ⟨k', List.mem_cons_of_mem _ hk', hm⟩
section
variable {P : Program} {N : Nat} {w0 : Base} {F0 : Nat → Prop} {J : Inj} {a : Act} {w w' : World} {s : St}
theorem Rel.mark (h : Rel N w0 F0 J a w s) (ks : List Nat) {L : List Nat} (hL : ∀ b, b ∈ L → ∃ k, k ∈ ks ∧ b ∈ J.L k) (hc : Chg L w w') (d : Nat) (hd : d < N) (n : Int) (hn : InR .i64 n) (bx : Option (Nat × List C))
    (hb : ∀ k c, bx = some (k, c) → ∃ c0, get s.bx k = some c0 ∧ ∃ arr e, w.heap[J.B k]? = some (.cells arr e (0, 0)) ∧ ∀ J' : Inj, (∀ b, J'.F b ↔ J.F b ∨ b ∈ L) → All2 (CR J' w') arr.toList c) :
    ∃ J', (∀ b, J'.F b ↔ J.F b ∨ b ∈ L) ∧ (∀ k, J'.B k = J.B k) ∧ Rel N w0 F0 J' (a.put (some d) (.int .i64 n)) w' (s.step (some d) ⟨.one (.int .i64 n), killAll ks, none, bx⟩) := by
  let J' : Inj := ⟨fun b => J.F b ∨ b ∈ L, fun k => if k ∈ ks then [] else J.L k, J.B⟩
  have hlo : ∀ b, b ∈ L → w0.lo (b) ∧ b < w.heap.size ∧ ¬ J.F b := fun b hb => by
    obtain ⟨k, _, hm⟩ := hL b hb
    exact h.lo k b hm
  have hun : ∀ b, b < w.heap.size → b ∉ L → w'.heap[b]? = w.heap[b]? := hc.block
  have hJL : ∀ k b, b ∈ J'.L k → k ∉ ks ∧ b ∈ J.L k := fun k b hm => by
    have hm : b ∈ (if k ∈ ks then [] else J.L k) := hm
    split at hm
    · simp at hm
    · rename_i hk; exact ⟨hk, hm⟩
  have hout : ∀ k b, k ∉ ks → b ∈ J.L k → b ∉ L := fun k b hk hm hl => by
    obtain ⟨k', hk', hm'⟩ := hL b hl
    exact hk (h.dj k k' b hm hm' ▸ hk')
  have hboxL : ∀ k c, get s.bx k = some c → J.B k ∉ L := fun k c hk hl => by
    obtain ⟨k', _, hm⟩ := hL _ hl
    exact (h.bo k c hk).2.2.1 k' hm
  refine ⟨J', fun b => Iff.rfl, fun _ => rfl, ?_⟩
  refine h.upd (w' := w') (J' := J') (some d) (fun d' e => by cases e; exact hd) _ _ (h.below.step hc.os hc.tape hc.output hc.size fun b hb hnl => hun b hb fun hl => hnl (hlo b hl).1) ?_ ?_ (fun _ => ⟨rfl, hn⟩) ?_ ?_
  · constructor
    · exact fun b hb => ⟨.inl hb, hun b (h.fl b hb).1 fun hl => (hlo b hl).2.2 hb⟩
    · intro k hk
      rw [get_kill] at hk
      split at hk
      · cases hk
      · rename_i hn
        exact ⟨if_neg hn, fun b hb => hun b (h.lo k b hb).2.1 (hout k b hn hb)⟩
    · intro k hk; rw [get_kill] at hk; split at hk <;> cases hk
    · intro k k' hk; rw [get_kill] at hk; split at hk <;> cases hk
    · intro k t hk; rw [get_kill] at hk; split at hk <;> cases hk
    · exact fun _ _ => rfl
    · intro k d m i o cs hk; rw [get_kill] at hk; split at hk <;> cases hk
  · constructor
    · intro b hb
      rcases hb with hb | hb
      · exact ⟨Nat.lt_of_lt_of_le (h.fl b hb).1 hc.size, (h.fl b hb).2⟩
      · exact ⟨Nat.lt_of_lt_of_le (hlo b hb).2.1 hc.size, .inr (hlo b hb).1⟩
    · exact fun b hb => .inl (h.f0 b hb)
    · intro k
      show (if _ then _ else _ : List Nat).Nodup
      split
      · exact List.nodup_nil
      · exact h.nd k
    · intro k b hm
      obtain ⟨hk, hm⟩ := hJL k b hm
      obtain ⟨h1, h2, h3⟩ := h.lo k b hm
      exact ⟨h1, Nat.lt_of_lt_of_le h2 hc.size, fun hF => hF.elim h3 (hout k b hk hm)⟩
    · intro k k' b hm hm'
      exact h.dj k k' b (hJL k b hm).2 (hJL k' b hm').2
  · intro k c hk _
    obtain ⟨h1, h2, h3, arr, e, h4, _⟩ := h.bo k c hk
    refine ⟨by simp, fun hF => hF.elim h2 (hboxL k c hk), fun k' hm => h3 k' (hJL k' _ hm).2, hun _ ?_ (hboxL k c hk)⟩
    exact block_lt_of_heap h4
  · intro k c hk
    obtain ⟨c0, hg, arr, e, hh, hall⟩ := hb k c hk
    obtain ⟨h1, h2, h3, arr', e', h4, _⟩ := h.bo k c0 hg
    have hlt : J.B k < w.heap.size := block_lt_of_heap h4
    exact ⟨h1, fun hF => hF.elim h2 (hboxL k c0 hg), fun k' hm => h3 k' (hJL k' _ hm).2, ⟨arr, e, (hun _ hlt (hboxL k c0 hg)).trans hh, hall J' fun _ => Iff.rfl⟩, fun k' c' hk' hne e => hne (h.bi k' k c' c0 hk' hg e)⟩
theorem Rel.settm (h : Rel N w0 F0 J a w s) (t : Nat) (av : AV) (hv : AR J w (a.tmps.getD t undef) av) : Rel N w0 F0 J a w ⟨ins t av s.tm, s.bx⟩ := by
  refine { h with tm := fun u v hu => ?_ }
  simp only [get_ins] at hu
  split at hu
  · rename_i e; subst e; cases hu; exact hv
  · exact h.tm u v hu
theorem loadVar_agg {ti : TI} {t : Nat} (hti : TiOk P t ti) {vs : List Value} (hag : ti.agg = true) (hl : vs.length = ti.size) {b off : Nat} (hc : ∀ (j : Nat) (u : Value), vs[j]? = some u → w.cell? ⟨b, off + j, none⟩ = some u) : (loadVar t ⟨b, off, none⟩).run P w = .ok (.agg vs.toArray) w := by
  obtain ⟨d, hd, hagg⟩ := hti.agg
  have hld := run_loadCells_list (P := P) w ⟨b, off, none⟩ vs (fun j u hj => by rw [Addr.add_lit]; exact hc j u hj)
  rw [hl] at hld
  simp [loadVar, run_isAgg_of hd, hagg, hag, sizeOf_run hti, hld]
theorem getD_put {a : Act} {t u : Nat} {v : Value} (ht : t < a.tmps.size) : (a.put (some t) v).tmps.getD u undef = if u = t then v else a.tmps.getD u undef := by
  simp only [Act.put, Array.getD_eq_getD_getElem?, Array.getElem?_setIfInBounds]
  by_cases h : u = t
  · subst h; simp [ht]
  · simp [h, Ne.symm h]
end
class GoM (α : Type) [GoE α] : Prop where
  mkw : ∀ {a : α} {k : Nat}, wide a → wide (GoD.mark a k).1
  mkT : ∀ {a : α} {k : Nat}, wide a → wide (GoD.markT a k).1
instance : GoM Int := ⟨fun _ => trivial, fun _ => trivial⟩
instance : GoM Bool := ⟨fun _ => trivial, fun _ => trivial⟩
instance : GoM ByteArray := ⟨fun _ => trivial, fun _ => trivial⟩
instance {α β : Type} [GoE α] [GoE β] [GoM α] [GoM β] : GoM (α × β) := ⟨fun h => ⟨GoM.mkw h.1, GoM.mkw h.2⟩, fun h => ⟨GoM.mkT h.1, GoM.mkT h.2⟩⟩
theorem markS_wide {α : Type} [GoE α] [GoM α] : ∀ {l : List α} {k : Nat}, (∀ a, a ∈ l → wide a) → ∀ a, a ∈ (markS l k).1 → wide a
  | [], k, _, a, ha => by simp [markS] at ha
  | x :: l, k, h, a, ha => by
    simp only [markS, List.mem_cons] at ha
    rcases ha with rfl | ha
    · exact GoM.mkw (h x List.mem_cons_self)
    · exact markS_wide (fun a ha => h a (List.mem_cons_of_mem _ ha)) a ha
instance {α : Type} [GoE α] [GoM α] : GoM (List α) := ⟨fun {l k} h => ⟨by rw [show (GoD.mark l k).1 = (markS l k).1 from rfl, markS_length']; exact h.1, markS_wide h.2⟩, fun {l k} h => ⟨by rw [show (GoD.markT l k).1 = (markS l k).1 from rfl, markS_length']; exact h.1, markS_wide h.2⟩⟩
section
variable {P : Program} {N : Nat} {w0 : Base} {F0 : Nat → Prop} {s s' : St} {Q : Exit → St → Prop}
theorem wpOps_one {ops : Array Oper} {Q : Exit → Act → World → Prop} {i : Nat} {rest : List Nat} {o : Oper} {a : Act} {w : World} (hi : ops[i]? = some o) (hg : o.guard = none) (h : o.wp P a w (wpOps P ops Q rest) Q) : wpOps P ops Q (i :: rest) a w := by
  rw [wpOps_cons]
  unfold wpOp
  simp only [hi]
  rw [if_pos (by simp [Region.wanted, hg])]
  exact .inl h
theorem sizePut {a : Act} {t : Nat} {v : Value} : (a.put (some t) v).tmps.size = a.tmps.size := by simp [Act.put]
def distinct4 (N x y d z p kv : Nat) : Bool := Nat.blt x N && Nat.blt y N && Nat.blt d N && Nat.blt z N && !Nat.beq kv x && !Nat.beq x y && !Nat.beq p x
theorem ne_of_nbeq {a b : Nat} (h : (!Nat.beq a b) = true) : a ≠ b := fun e => by subst e; simp at h
theorem awp_markA {tt : List (Nat × TI)} (htt : ttOk P tt = true) {α : Type} [GoE α] [GoM α] {a : α} {K : Int} {r : α × Nat} {f : Nat} (hm : MarkA P f a K r) (hr : InR .i64 (r.2 : Int)) (hrw : wide a → wide r.1) (ks : List Nat) {id x y d z p q kv t : Nat} {o0 o1 o2 o3 : Oper} {tys : Array TypeId} {ti : TI} {cs : List C} (ts bs : List Nat)
    (p0 : o0.op = .load t (.tmp p)) (d0 : o0.dst = some x) (g0 : o0.guard = none) (p1 : o1.op = .move (.tmp kv)) (d1 : o1.dst = some y) (g1 : o1.guard = none)
    (p2 : o2.op = .call ⟨.value (.func f), #[.tmp x, .tmp y], tys⟩) (d2 : o2.dst = some d) (g2 : o2.guard = none) (p3 : o3.op = .assign (.tmp d)) (d3 : o3.dst = some z) (g3 : o3.guard = none) (hN : distinct4 N x y d z p kv = true)
    (ht : get tt t = some ti) (hag : ti.agg = true) (hsz : Nat.beq ti.size (enc a).length = true) (hp : get s.tm p = some (.one (.ptr q 0))) (hb : get s.bx q = some cs) (hcs : nmC ks (enc a) = some cs) (hks : nodupN ks = true) (hk : get s.tm kv = some (.one (.int .i64 K)))
    (hs : ((((s.step (some x) ⟨.one .dead, [], none, none⟩).step (some y) ⟨.one .dead, [], none, none⟩).step (some d) ⟨.one (.int .i64 (r.2 : Int)), killAll ks, none, some (q, (enc r.1).map shC)⟩).step (some z) ⟨.one (.int .i64 (r.2 : Int)), [], none, none⟩).keep ts bs = s')
    (hQ : Q .normal s') : AWP P N w0 F0 (.region id #[o0, o1, o2, o3] false) Q s := fun J ac w hr0 => by
  simp only [distinct4, Bool.and_eq_true, Nat.blt_eq] at hN
  obtain ⟨⟨⟨⟨⟨⟨n1, n2⟩, n3⟩, n4⟩, n5⟩, n6⟩, n7⟩ := hN
  have n5 := ne_of_nbeq n5
  have n6 := ne_of_nbeq n6
  obtain ⟨_, _, _, arr, e, hheap, hall⟩ := hr0.bo q cs hb
  have hpv : ac.tmps.getD p undef = .pointer (some ⟨J.B q, 0, none⟩) := hr0.tm p _ hp
  obtain ⟨hkv, hKr⟩ : ac.tmps.getD kv undef = .int .i64 K ∧ InR .i64 K := hr0.tm kv _ hk
  obtain ⟨L, hoc, hnd, hsub⟩ := nm_oc hr0.dj hcs (nodupN_iff.1 hks) hall
  have hown : own L w arr.toList a := GoE.oc_own hoc hnd
  have hwa : wide a := GoE.vc_wide (hoc.vc (X := fun b => b ∈ L) fun _ h => h)
  have hlen : arr.toList.length = ti.size := by rw [hoc.length]; exact (Nat.eq_of_beq_eq_true hsz).symm
  have hld : (loadVar t ⟨J.B q, 0, none⟩).run P w = .ok (.agg arr) w := by
    have := loadVar_agg (P := P) (w := w) (ttOk_get htt ht) hag hlen (b := J.B q) (off := 0) (fun j u hj => by
      rw [Array.getElem?_toList] at hj
      simp [World.cell?, hheap, hj])
    simpa using this
  have hsx : x < ac.tmps.size := by rw [hr0.size]; exact n1
  have hsy : y < (ac.put (some x) (.agg arr)).tmps.size := by rw [sizePut, hr0.size]; exact n2
  have R1 := hr0.pure (some x) (fun d' e => by cases e; exact n1) (.one .dead) (.agg arr) (fun _ => trivial)
  have R2 := R1.pure (some y) (fun d' e => by cases e; exact n2) (.one .dead) (.int .i64 K) (fun _ => trivial)
  refine wp_region ?_
  show wpOps P _ _ [0, 1, 2, 3] ac w
  refine wpOps_one (o := o0) rfl g0 (wp_of_run (v := .agg arr) (w' := w) ?_ ?_)
  · have e1 : ac.eval (.tmp p) = .pointer (some ⟨J.B q, 0, none⟩) := hpv
    simp [execOp, p0, e1, Instr.loadAt, Instr.sureAddr, hld]
  rw [d0]
  refine wpOps_one (o := o1) rfl g1 (wp_of_run (v := .int .i64 K) (w' := w) ?_ ?_)
  · have e1 : (ac.put (some x) (.agg arr)).eval (.tmp kv) = .int .i64 K := (getD_put hsx).trans ((if_neg n5).trans hkv)
    simp [execOp, p1, e1]
  rw [d1]
  refine wpOps_one (o := o2) rfl g2 (wp_callV (caps := #[]) p2 rfl hm.1 ?_)
  have ex : ((ac.put (some x) (.agg arr)).put (some y) (.int .i64 K)).eval (.tmp x) = .agg arr := (getD_put hsy).trans ((if_neg n6).trans ((getD_put hsx).trans (if_pos rfl)))
  have ey : ((ac.put (some x) (.agg arr)).put (some y) (.int .i64 K)).eval (.tmp y) = .int .i64 K := (getD_put hsy).trans (if_pos rfl)
  have hargs : (#[Operand.tmp x, Operand.tmp y].map ((ac.put (some x) (.agg arr)).put (some y) (.int .i64 K)).eval ++ #[]) = #[.agg arr.toList.toArray, .int .i64 K] := by simp [ex, ey]
  rw [hargs]
  refine (hm.2 w L arr.toList hown).mono ?_
  rintro en w' ⟨rfl, ho, hc⟩
  have hwr := hrw hwa
  obtain ⟨J', hF, hB, R3⟩ := R2.mark ks hsub hc d n3 (r.2 : Int) hr (some (q, (enc r.1).map shC)) (fun k c hk => by
    cases hk
    refine ⟨cs, hb, arr, e, hheap, fun J' hF => ?_⟩
    exact sh_all ((GoE.own_oc ho hwr).vc fun b hb => (hF b).2 (.inr hb)))
  have R4 := R3.pure (some z) (fun d' e => by cases e; exact n4) (.one (.int .i64 (r.2 : Int))) (.int .i64 (r.2 : Int)) (fun _ => ⟨rfl, hr⟩)
  rw [d2]
  refine wpOps_one (o := o3) rfl g3 (wp_of_run (v := .int .i64 (r.2 : Int)) (w' := w') ?_ ?_)
  · have hsd : d < ((ac.put (some x) (.agg arr)).put (some y) (.int .i64 K)).tmps.size := by rw [sizePut, sizePut, hr0.size]; exact n3
    have e1 : (((ac.put (some x) (.agg arr)).put (some y) (.int .i64 K)).put (some d) (.int .i64 (r.2 : Int))).eval (.tmp d) = .int .i64 (r.2 : Int) := (getD_put hsd).trans (if_pos rfl)
    simp [execOp, p3, e1]
  rw [d3]
  subst hs
  exact ⟨J', _, R4.less (fun t v hv => get_keep hv) (fun k c hc => get_keep hc), hQ⟩
theorem awp_markS {α : Type} [GoE α] [GoM α] {l : List α} {K : Int} {r : List α × Nat} {f : Nat} (hm : MarkS P f l K r) (hr : InR .i64 (r.2 : Int)) (hrw : wide l → wide r.1) (k0 : Nat) {id x y d z p kv : Nat} {o0 o1 o2 o3 : Oper} {tys : Array TypeId} (ts bs : List Nat)
    (p0 : o0.op = .move (.tmp p)) (d0 : o0.dst = some x) (g0 : o0.guard = none) (p1 : o1.op = .move (.tmp kv)) (d1 : o1.dst = some y) (g1 : o1.guard = none)
    (p2 : o2.op = .call ⟨.value (.func f), #[.tmp x, .tmp y], tys⟩) (d2 : o2.dst = some d) (g2 : o2.guard = none) (p3 : o3.op = .assign (.tmp d)) (d3 : o3.dst = some z) (g3 : o3.guard = none) (hN : distinct4 N x y d z p kv = true) (hN2 : (!Nat.beq p y && !Nat.beq p d && !Nat.beq p z) = true)
    (hp : get s.tm p = some (.one (.slc (.own true k0) (GoD.n α) (eL l)))) (hk : get s.tm kv = some (.one (.int .i64 K)))
    (hs : (St.mk (ins p (.one (.slc .sh (GoD.n α) (eL r.1))) ((((s.step (some x) ⟨.one .dead, [], none, none⟩).step (some y) ⟨.one .dead, [], none, none⟩).step (some d) ⟨.one (.int .i64 (r.2 : Int)), killAll [k0], none, none⟩).step (some z) ⟨.one (.int .i64 (r.2 : Int)), [], none, none⟩).tm) ((((s.step (some x) ⟨.one .dead, [], none, none⟩).step (some y) ⟨.one .dead, [], none, none⟩).step (some d) ⟨.one (.int .i64 (r.2 : Int)), killAll [k0], none, none⟩).step (some z) ⟨.one (.int .i64 (r.2 : Int)), [], none, none⟩).bx).keep ts bs = s')
    (hQ : Q .normal s') : AWP P N w0 F0 (.region id #[o0, o1, o2, o3] false) Q s := fun J ac w hr0 => by
  simp only [distinct4, Bool.and_eq_true, Nat.blt_eq] at hN hN2
  obtain ⟨⟨⟨⟨⟨⟨n1, n2⟩, n3⟩, n4⟩, n5⟩, n6⟩, n7⟩ := hN
  have n5 := ne_of_nbeq n5
  have n6 := ne_of_nbeq n6
  have n7 := ne_of_nbeq n7
  have m1 := ne_of_nbeq hN2.1.1
  have m2 := ne_of_nbeq hN2.1.2
  have m3 := ne_of_nbeq hN2.2
  have hpv : CR J w (ac.tmps.getD p undef) (.slc (.own true k0) (GoD.n α) (eL l)) := hr0.tm p _ hp
  generalize hv : ac.tmps.getD p undef = v at hpv
  obtain ⟨hkv, hKr⟩ : ac.tmps.getD kv undef = .int .i64 K ∧ InR .i64 K := hr0.tm kv _ hk
  obtain ⟨L, hov, hnd, hsub, _⟩ := hpv
  have hown : own L w [v] l := ov_ownS hov hnd
  have hwl : wide l := vv_wide (hov.vv (X := fun b => b ∈ L) fun _ h => h)
  have hsx : x < ac.tmps.size := by rw [hr0.size]; exact n1
  have hsy : y < (ac.put (some x) v).tmps.size := by rw [sizePut, hr0.size]; exact n2
  have R1 := hr0.pure (some x) (fun d' e => by cases e; exact n1) (.one .dead) v (fun _ => trivial)
  have R2 := R1.pure (some y) (fun d' e => by cases e; exact n2) (.one .dead) (.int .i64 K) (fun _ => trivial)
  refine wp_region ?_
  show wpOps P _ _ [0, 1, 2, 3] ac w
  refine wpOps_one (o := o0) rfl g0 (wp_of_run (v := v) (w' := w) ?_ ?_)
  · have e1 : ac.eval (.tmp p) = v := hv
    simp [execOp, p0, e1]
  rw [d0]
  refine wpOps_one (o := o1) rfl g1 (wp_of_run (v := .int .i64 K) (w' := w) ?_ ?_)
  · have e1 : (ac.put (some x) v).eval (.tmp kv) = .int .i64 K := (getD_put hsx).trans ((if_neg n5).trans hkv)
    simp [execOp, p1, e1]
  rw [d1]
  refine wpOps_one (o := o2) rfl g2 (wp_callV (caps := #[]) p2 rfl hm.1 ?_)
  have ex : ((ac.put (some x) v).put (some y) (.int .i64 K)).eval (.tmp x) = v := (getD_put hsy).trans ((if_neg n6).trans ((getD_put hsx).trans (if_pos rfl)))
  have ey : ((ac.put (some x) v).put (some y) (.int .i64 K)).eval (.tmp y) = .int .i64 K := (getD_put hsy).trans (if_pos rfl)
  have hargs : (#[Operand.tmp x, Operand.tmp y].map ((ac.put (some x) v).put (some y) (.int .i64 K)).eval ++ #[]) = #[v, .int .i64 K] := by simp [ex, ey]
  rw [hargs]
  refine (hm.2 w L v hown).mono ?_
  rintro en w' ⟨rfl, ho, hc⟩
  have hwr := hrw hwl
  obtain ⟨J', hF, hB, R3⟩ := R2.mark [k0] (fun b hb => ⟨k0, by simp, hsub b hb⟩) hc d n3 (r.2 : Int) hr none (fun k c hk => by cases hk)
  have R4 := R3.pure (some z) (fun d' e => by cases e; exact n4) (.one (.int .i64 (r.2 : Int))) (.int .i64 (r.2 : Int)) (fun _ => ⟨rfl, hr⟩)
  have hsd : d < ((ac.put (some x) v).put (some y) (.int .i64 K)).tmps.size := by rw [sizePut, sizePut, hr0.size]; exact n3
  rw [d2]
  refine wpOps_one (o := o3) rfl g3 (wp_of_run (v := .int .i64 (r.2 : Int)) (w' := w') ?_ ?_)
  · have e1 : (((ac.put (some x) v).put (some y) (.int .i64 K)).put (some d) (.int .i64 (r.2 : Int))).eval (.tmp d) = .int .i64 (r.2 : Int) := (getD_put hsd).trans (if_pos rfl)
    simp [execOp, p3, e1]
  rw [d3]
  have hsz' : z < (((ac.put (some x) v).put (some y) (.int .i64 K)).put (some d) (.int .i64 (r.2 : Int))).tmps.size := by rw [sizePut, sizePut, sizePut, hr0.size]; exact n4
  have ep : ((((ac.put (some x) v).put (some y) (.int .i64 K)).put (some d) (.int .i64 (r.2 : Int))).put (some z) (.int .i64 (r.2 : Int))).tmps.getD p undef = v := by
    rw [getD_put hsz', if_neg m3, getD_put hsd, if_neg m2, getD_put hsy, if_neg m1, getD_put hsx, if_neg n7, hv]
  have hvv : VV J'.F w' v (.slc (GoD.n α) (eL r.1)) := by
    have := (GoE.own_oc ho hwr).vc (X := J'.F) fun b hb => (hF b).2 (.inr hb)
    exact VC.one this
  have R5 := R4.settm p (.one (.slc .sh (GoD.n α) (eL r.1))) (by rw [ep]; exact hvv)
  subst hs
  exact ⟨J', _, R5.less (fun t v hv => get_keep hv) (fun k c hc => get_keep hc), hQ⟩
end
end Go.Proofs.Ytiafgmepdgfpbaa
