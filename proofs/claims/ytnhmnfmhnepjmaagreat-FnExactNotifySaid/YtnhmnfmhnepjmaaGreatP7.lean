/- Texts of this proof, put together by a program: He, Lw, Sz, Eq, To, LPn, MPn. -/
import Derived.Test.YtnhmnfmhnepjmaaGreatP6
import Derived.Test.YtnhmnfmhnepjmaaGreatProg
import Derived.KernelRfl
import Derived.Outline
set_option linter.unusedVariables false
set_option linter.unusedSimpArgs false
namespace Go.Proofs.YtnhmnfmhnepjmaaGreat
open Go.RowKit
open GoD (rd own)
set_option maxRecDepth 100000 in
set_option maxHeartbeats 1000000 in
theorem Qh8 (w : World) (v : Value) (l l' : List Int) (K : Int) (k : Nat) (hK : K = k) (h1 : 1 ≤ k) (hk : (Xe l k).2 ≤ 4611686018427387904) (hl' : l' = (Xe l k).1) (ha : rd w [v] l') : Calls Tryz.prog 19 #[v, .int .i64 K] w (Ret w (.int .i64 ((Xe l k).2 : Nat))) := by
  subst hK hl'
  obtain ⟨oa, cap, e1, hl, hm, hel⟩ := ha
  obtain rfl : v = _ := by simpa using e1
  clear e1
  have HE := Lib.hid hel; clear hel
  rw [V9] at hl ⊢
  unfold maxLen at hm
  have hlm : l.length ≤ 9223372036854775807 := by omega
  generalize hfin : (Xe l k).2 = fin at *
  have HF := Lib.hid hfin; clear hfin
  go_enter Tryz.func19, Tryz.ntmps19
  go_wp2
  go_loopw [1, 5] (fun q i wr => ∃ j : Nat, j ≤ l.length ∧ i = .int .i64 j ∧ q = .int .i64 ((Xe (l.take j) k).2 : Nat) ∧ Below w.heap.size w wr) (fun _ i _ => l.length - (intOf i).toNat)
  case atStart => exact ⟨0, Nat.zero_le _, rfl, rfl, Below.refl _ _⟩
  case round =>
    obtain ⟨j, hj, rfl, rfl, hB⟩ := hrel
    by_cases hjl : j < l.length
    · have hx := List.getElem?_eq_getElem hjl
      have hsp := Ub l k j _ hx
      have hle := Nat.le_trans (Wy l k j _ hx) (Nat.le_trans (Nat.le_of_eq HF.out) hk)
      have hkk : k ≤ (Xe (l.take j) k).2 := Jo _ _
      obtain ⟨eb, eo, ee, rfl, hcl, hcc, hxr⟩ := HE.out j _ (Qpb l k j _ hx)
      clear hx
      generalize (Xe (l.take j) k).2 = kk at *
      generalize (Xe (l.take j) k).1 = xs at *
      generalize l[j] = x at *
      have HSP : Hid (_ = (xs ++ [((((kk : Nat) : Int) : Int))], kk + 1)) := hsp
      clear hsp
      have hle : kk + 1 ≤ 4611686018427387904 := hle
      have hxr : rd w ee (((kk : Nat) : Int) : Int) := hxr
      obtain ⟨rfl, _⟩ := hxr
      have q0 : w.cell? ⟨eb, eo + j, none⟩ = some (.int .i64 ((kk : Nat) : Int)) := by have h0 := hcc 0 _ rfl; simp only [GoD.n, Nat.mul_one, Nat.add_zero] at h0; exact h0
      have HQ := Lib.hid (show True from trivial)
      have Q0 := Lib.hid q0; clear q0
      have p0_0 := (hB.cell (World.block_lt_of_cell? w _ Q0.out)).trans Q0.out
      clear hcc hcl
      have hz0 := hB.size
      go_wp2
      first
      | exact ⟨⟨j + 1, by omega, by go_num, by (show Value.int _ _ = _; rw [HSP.out]; try (show Value.int .i64 _ = .int .i64 ((kk + 1 : Nat) : Int); first | go_num | (congr 1 <;> omega))), hB⟩, by simp [intOf]; omega⟩
      | (go_roundw; (case measure => simp [intOf]; omega); (case rel => exact ⟨j + 1, by omega, by go_num, by (show Value.int _ _ = _; rw [HSP.out]; try (show Value.int .i64 _ = .int .i64 ((kk + 1 : Nat) : Int); first | go_num | (congr 1 <;> omega))), hB⟩))
    · obtain rfl : j = l.length := by omega
      have hf := HF.out
      rw [List.take_length] at *
      rw [hf] at *
      have HF2 := Lib.hid hf; clear hf
      go_wp2
      go_ret
      exact ⟨rfl, hB⟩
set_option maxRecDepth 100000 in
set_option maxHeartbeats 1000000 in
theorem Qqf (w : World) (v : Value) (l l' : List Zk) (K : Int) (k : Nat) (hK : K = k) (h1 : 1 ≤ k) (hk : (Xe l k).2 ≤ 4611686018427387904) (hl' : l' = (Xe l k).1) (ha : rd w [v] l') : Calls Tryz.prog 56 #[v, .int .i64 K] w (Ret w (.int .i64 ((Xe l k).2 : Nat))) := by
  subst hK hl'
  obtain ⟨oa, cap, e1, hl, hm, hel⟩ := ha
  obtain rfl : v = _ := by simpa using e1
  clear e1
  have HE := Lib.hid hel; clear hel
  rw [V9] at hl ⊢
  unfold maxLen at hm
  have hlm : l.length ≤ 9223372036854775807 := by omega
  generalize hfin : (Xe l k).2 = fin at *
  have HF := Lib.hid hfin; clear hfin
  go_enter Tryz.func56, Tryz.ntmps56
  go_wp2
  go_loopw [1, 5] (fun q i wr => ∃ j : Nat, j ≤ l.length ∧ i = .int .i64 j ∧ q = .int .i64 ((Xe (l.take j) k).2 : Nat) ∧ Below w.heap.size w wr) (fun _ i _ => l.length - (intOf i).toNat)
  case atStart => exact ⟨0, Nat.zero_le _, rfl, rfl, Below.refl _ _⟩
  case round =>
    obtain ⟨j, hj, rfl, rfl, hB⟩ := hrel
    by_cases hjl : j < l.length
    · have hx := List.getElem?_eq_getElem hjl
      have hsp := Ub l k j _ hx
      have hle := Nat.le_trans (Wy l k j _ hx) (Nat.le_trans (Nat.le_of_eq HF.out) hk)
      have hkk : k ≤ (Xe (l.take j) k).2 := Jo _ _
      obtain ⟨eb, eo, ee, rfl, hcl, hcc, hxr⟩ := HE.out j _ (Qpb l k j _ hx)
      clear hx
      generalize (Xe (l.take j) k).2 = kk at *
      generalize (Xe (l.take j) k).1 = xs at *
      generalize l[j] = x at *
      obtain ⟨v0, v1, v2⟩ := x
      have HSP : Hid (_ = (xs ++ [(((((kk : Nat) : Int), (Xe v1 (kk + 1)).1, (Xe v2 ((Xe v1 (kk + 1)).2)).1) : Zk))], (Xe v2 ((Xe v1 (kk + 1)).2)).2)) := hsp
      clear hsp
      have hle : (Xe v2 ((Xe v1 (kk + 1)).2)).2 ≤ 4611686018427387904 := hle
      have hxr : rd w ee ((((kk : Nat) : Int), (Xe v1 (kk + 1)).1, (Xe v2 ((Xe v1 (kk + 1)).2)).1) : Zk) := hxr
      obtain ⟨_, _, rfl, ⟨rfl, _⟩, ⟨_, _, rfl, rh1, rh2⟩⟩ := hxr
      obtain ⟨rv1, rfl⟩ := U6 (show _ = 1 from GoD.rd_len rh1)
      obtain ⟨oa1, cp1, rfl⟩ := Uj rh1
      obtain ⟨rv2, rfl⟩ := U6 (show _ = 1 from GoD.rd_len rh2)
      obtain ⟨oa2, cp2, rfl⟩ := Uj rh2
      simp only [V9] at hcc rh1 rh2
      have hm1 : kk + 1 ≤ (Xe v1 (kk + 1)).2 := Jo _ _
      have HR1 := Lib.hid rh1; clear rh1
      have hm2 : (Xe v1 (kk + 1)).2 ≤ (Xe v2 ((Xe v1 (kk + 1)).2)).2 := Jo _ _
      have HR2 := Lib.hid rh2; clear rh2
      have q0 : w.cell? ⟨eb, eo + j * 3, none⟩ = some _ := hcc 0 _ rfl
      have q1 : w.cell? ⟨eb, eo + j * 3 + 1, none⟩ = some _ := hcc 1 _ rfl
      have q2 : w.cell? ⟨eb, eo + j * 3 + 2, none⟩ = some _ := hcc 2 _ rfl
      have HQ := Lib.hid (show True from trivial)
      have Q0 := Lib.hid q0; clear q0
      have Q1 := Lib.hid q1; clear q1
      have Q2 := Lib.hid q2; clear q2
      have p0_0 := (hB.cell (World.block_lt_of_cell? w _ Q0.out)).trans Q0.out
      have p0_1 := (hB.cell (World.block_lt_of_cell? w _ Q1.out)).trans Q1.out
      have p0_2 := (hB.cell (World.block_lt_of_cell? w _ Q2.out)).trans Q2.out
      clear hcc hcl
      have hz0 := hB.size
      have tok1 : True := trivial
      have tok2 : True := trivial
      go_wp2_with (first | (go_at_call 19; have tk := tok1; clear tok1; refine U1 (w := w) (Qh8 _ _ v1 _ _ (kk + 1) (by omega) (by omega) (by omega) rfl (Q3 HR1.out hB)) hB ?_; intro w1 hB1 hbq hz1 hz2; clear hbq hz2; have p1_0 := (hB1.cell (World.block_lt_of_cell? w _ Q0.out)).trans Q0.out; have p1_1 := (hB1.cell (World.block_lt_of_cell? w _ Q1.out)).trans Q1.out; have p1_2 := (hB1.cell (World.block_lt_of_cell? w _ Q2.out)).trans Q2.out) | (go_at_call 19; have tk := tok2; clear tok2; refine U1 (w := w) (Qh8 _ _ v2 _ _ ((Xe v1 (kk + 1)).2) (by omega) (by omega) (by omega) rfl (Q3 HR2.out hB1)) hB1 ?_; intro w2 hB2 hbq hz2 hz2; clear hbq hz2; have p2_0 := (hB2.cell (World.block_lt_of_cell? w _ Q0.out)).trans Q0.out; have p2_1 := (hB2.cell (World.block_lt_of_cell? w _ Q1.out)).trans Q1.out; have p2_2 := (hB2.cell (World.block_lt_of_cell? w _ Q2.out)).trans Q2.out))
      first
      | exact ⟨⟨j + 1, by omega, by go_num, by (show Value.int _ _ = _; rw [HSP.out]; try (show Value.int .i64 _ = .int .i64 (((Xe v2 ((Xe v1 (kk + 1)).2)).2 : Nat) : Int); first | go_num | (congr 1 <;> omega))), hB2⟩, by simp [intOf]; omega⟩
      | (go_roundw; (case measure => simp [intOf]; omega); (case rel => exact ⟨j + 1, by omega, by go_num, by (show Value.int _ _ = _; rw [HSP.out]; try (show Value.int .i64 _ = .int .i64 (((Xe v2 ((Xe v1 (kk + 1)).2)).2 : Nat) : Int); first | go_num | (congr 1 <;> omega))), hB2⟩))
    · obtain rfl : j = l.length := by omega
      have hf := HF.out
      rw [List.take_length] at *
      rw [hf] at *
      have HF2 := Lib.hid hf; clear hf
      go_wp2
      go_ret
      exact ⟨rfl, hB⟩
set_option maxRecDepth 100000 in
set_option maxHeartbeats 1000000 in
theorem Qsd (w : World) (ca : List Value) (a a' : Jl) (K : Int) (k : Nat) (hK : K = k) (h1 : 1 ≤ k) (hk : (GoD.markT a k).2 ≤ 4611686018427387904) (ha' : a' = (GoD.markT a k).1) (ha : rd w ca a') : Calls Tryz.prog 24 #[.agg ca.toArray, .int .i64 K] w (Ret w (.int .i64 ((GoD.markT a k).2 : Nat))) := by
  subst hK ha'
  obtain ⟨b1, b2, b3, b4⟩ := a
  have hk : (Xe b4 ((Xe b3 (k)).2)).2 ≤ 4611686018427387904 := hk
  have ha : rd w ca (b1, b2, (Xe b3 (k)).1, (Xe b4 ((Xe b3 (k)).2)).1) := ha
  generalize hfin : (GoD.markT ((b1, b2, b3, b4) : Jl) k).2 = fin
  have hfin : (Xe b4 ((Xe b3 (k)).2)).2 = fin := hfin
  obtain ⟨_, _, rfl, ar1, _, _, rfl, ar2, _, _, rfl, ar3, ar4⟩ := ha
  obtain ⟨rfl, ar1⟩ := ar1
  clear ar1
  obtain ⟨rfl, ar2⟩ := ar2
  clear ar2
  obtain ⟨ax3_0, rfl⟩ := U6 (show _ = 1 from GoD.rd_len ar3)
  have HR3 := Lib.hid ar3; clear ar3
  have hm3 : k ≤ (Xe b3 (k)).2 := Jo _ _
  obtain ⟨ax4_0, rfl⟩ := U6 (show _ = 1 from GoD.rd_len ar4)
  have HR4 := Lib.hid ar4; clear ar4
  have hm4 : (Xe b3 (k)).2 ≤ (Xe b4 ((Xe b3 (k)).2)).2 := Jo _ _
  dsimp only [List.cons_append, List.nil_append] at *
  have tok1 : True := trivial
  have tok2 : True := trivial
  have HF := Lib.hid hfin; clear hfin
  go_enter Tryz.func24, Tryz.ntmps24
  go_wp2_with (first | (go_at_call 19; have tk := tok1; clear tok1; refine U1 (w := w) (Qh8 _ ax3_0 b3 _ _ (k) (by omega) (by omega) (show (Xe b3 (k)).2 ≤ 4611686018427387904 by omega) rfl (Q3 HR3.out (by go_grown))) (by go_grown) ?_; intro w1 hB hb hz hz2; (repeat (first | rewrite [World.size_alloc] at hz2 | rewrite [World.size_setCell] at hz2 | rewrite [World.size_drew] at hz2)); have c0 := fun o => Z4 hb (w.heap.size) o (by go_size); clear hb) | (go_at_call 56; have tk := tok2; clear tok2; refine U1 (w := w) (Qqf _ ax4_0 b4 _ _ ((Xe b3 (k)).2) (by omega) (by omega) (show (Xe b4 ((Xe b3 (k)).2)).2 ≤ 4611686018427387904 by omega) rfl (Q3 HR4.out (by go_grown))) (by go_grown) ?_; intro w2 hB hb hz hz2; (repeat (first | rewrite [World.size_alloc] at hz2 | rewrite [World.size_setCell] at hz2 | rewrite [World.size_drew] at hz2)); have c0 := fun o => Z4 hb (w.heap.size) o (by go_size); clear hb))
  go_ret
  refine ⟨?_, by go_grown⟩
  rw [← HF.out]
  rfl
end Go.Proofs.YtnhmnfmhnepjmaaGreat
namespace Go.Proofs.YtnhmnfmhnepjmaaGreat
open Go.RowKit
open GoD (rd own)
open GoE (enc wide)
def szI (t : Nat) (left : Int) : Int := bif decide ((t : Int) ≤ left) then left - t else -1
theorem szI_of {t : Nat} {left r : Int} (h : szq t left r) : r = szI t left := by
  unfold szq at h
  unfold szI
  by_cases hc : (t : Int) ≤ left
  · rw [decide_eq_true hc]; simp only [cond_true]; omega
  · rw [decide_eq_false hc]; simp only [cond_false]; omega
theorem szI_bd (t : Nat) (left : Int) : szI t left < 0 ∨ (0 ≤ szI t left ∧ szI t left = left - t ∧ (t : Int) ≤ left) := by
  by_cases hc : (t : Int) ≤ left
  · have : szI t left = left - t := by unfold szI; rw [decide_eq_true hc]; rfl
    omega
  · have : szI t left = -1 := by unfold szI; rw [decide_eq_false hc]; rfl
    omega
theorem szI_in (t : Nat) {left : Int} (h0 : 0 ≤ left) (h1 : left ≤ 1048576) : InR .i64 (szI t left) := by
  rw [Qbz]; unfold I64
  by_cases hc : (t : Int) ≤ left
  · have : szI t left = left - t := by unfold szI; rw [decide_eq_true hc]; rfl
    omega
  · have : szI t left = -1 := by unfold szI; rw [decide_eq_false hc]; rfl
    omega
section
variable {α : Type} [GoE α] {P : Program} {f : Nat}
theorem Qk1 {F : Nat → Prop} {w : World} {v : Value} {a : α} (h : AR (Qmu F) w v (Qo2 a)) : ∃ cs : List Value, v = .agg cs.toArray ∧ rd w cs a := by
  obtain ⟨vs, rfl, hr⟩ := h
  exact ⟨vs, rfl, GoE.vc_rd (sh_vc hr)⟩
theorem argA_wide {F : Nat → Prop} {w : World} {v : Value} {a : α} (h : AR (Qmu F) w v (Qo2 a)) : wide a := by
  obtain ⟨vs, rfl, hr⟩ := h
  exact GoE.vc_wide (sh_vc hr)
theorem Qse {F : Nat → Prop} {w : World} {v : Value} {l : List α} (h : AR (Qmu F) w v (Qo3 l)) : rd w [v] l := Qo0 h
theorem Qex {F : Nat → Prop} {w w' : World} {v : Value} {r : AV} (hb : Below w.heap.size w w') (hr : ∀ J, AR J w' v r) : ARet F w r (.returned v) w' :=
  ⟨v, fun _ => [], rfl, hb, fun _ => List.nodup_nil, (fun _ _ h => by simp at h), (fun _ _ _ h => by simp at h), hr _⟩
theorem Qmj (hok : Z7 P f) {a : α} {left : Int} (h0 : 0 ≤ left) (h1 : left ≤ 1048576) (h : ∀ w (cs : List Value), rd w cs a → Calls P f #[.agg cs.toArray, .int .i64 left] w (Qdi w (GoD.size a) left)) : ACalls P f [Qo2 a, Qq6 left] (Qq6 (szI (GoD.size a) left)) := by
  refine ⟨hok, fun w F vals hF hall => ?_⟩
  cases hall with
  | cons h2 h3 => cases h3 with
    | cons h3 h4 =>
      cases h4
      obtain ⟨cs, rfl, hr⟩ := Qk1 h2
      obtain ⟨rfl, _⟩ := h3
      refine (h w cs hr).mono ?_
      rintro e w' ⟨r, rfl, hq, hb⟩
      exact Qex hb fun J => ⟨by rw [szI_of hq], szI_in _ h0 h1⟩
theorem Qu8 (hok : Z7 P f) {l : List α} {left : Int} (h0 : 0 ≤ left) (h1 : left ≤ 1048576) (h : ∀ w (v : Value), rd w [v] l → Calls P f #[v, .int .i64 left] w (Qdi w (GoD.size l) left)) : ACalls P f [Qo3 l, Qq6 left] (Qq6 (szI (GoD.size l) left)) := by
  refine ⟨hok, fun w F vals hF hall => ?_⟩
  cases hall with
  | cons h2 h3 => cases h3 with
    | cons h3 h4 =>
      cases h4
      obtain ⟨rfl, _⟩ := h3
      refine (h w _ (Qse h2)).mono ?_
      rintro e w' ⟨r, rfl, hq, hb⟩
      exact Qex hb fun J => ⟨by rw [szI_of hq], szI_in _ h0 h1⟩
theorem Qmk (hok : Z7 P f) {a b : α} (he : a = b) (h : ∀ w (ca cb : List Value), rd w ca a → rd w cb b → Calls P f #[.agg ca.toArray, .agg cb.toArray] w (Ret w (.bool (eqb a b)))) : ACalls P f [Qo2 a, Qo2 b] (Qub true) := by
  refine ⟨hok, fun w F vals hF hall => ?_⟩
  cases hall with
  | cons h2 h3 => cases h3 with
    | cons h3 h4 =>
      cases h4
      obtain ⟨ca, rfl, ha⟩ := Qk1 h2
      obtain ⟨cb, rfl, hcb⟩ := Qk1 h3
      refine (h w ca cb ha hcb).mono ?_
      rintro e w' ⟨rfl, hb⟩
      subst he
      exact Qex hb fun J => by rw [Qs4]; rfl
theorem Qu9 (hok : Z7 P f) {a b : List α} (he : a = b) (h : ∀ w (u v : Value), rd w [u] a → rd w [v] b → Calls P f #[u, v] w (Ret w (.bool (eqb a b)))) : ACalls P f [Qo3 a, Qo3 b] (Qub true) := by
  refine ⟨hok, fun w F vals hF hall => ?_⟩
  cases hall with
  | cons h2 h3 => cases h3 with
    | cons h3 h4 =>
      cases h4
      refine (h w _ _ (Qse h2) (Qse h3)).mono ?_
      rintro e w' ⟨rfl, hb⟩
      subst he
      exact Qex hb fun J => by rw [Qs4]; rfl
theorem Qva (hok : Z7 P f) {a : α} {K R : Int} (hR : InR .i64 R) (h : ∀ w (cs : List Value), rd w cs a → Calls P f #[.agg cs.toArray, .int .i64 K] w (Ret w (.int .i64 R))) : ACalls P f [Qo2 a, Qq6 K] (Qq6 R) := by
  refine ⟨hok, fun w F vals hF hall => ?_⟩
  cases hall with
  | cons h2 h3 => cases h3 with
    | cons h3 h4 =>
      cases h4
      obtain ⟨cs, rfl, hr⟩ := Qk1 h2
      obtain ⟨rfl, _⟩ := h3
      refine (h w cs hr).mono ?_
      rintro e w' ⟨rfl, hb⟩
      exact Qex hb fun J => ⟨rfl, hR⟩
end
/-! ### copies -/
theorem oc_ow {w : World} : ∀ {ps : List PV} {vs : List Value} {L : List Nat} (k : Nat), OC w L vs ps → L.Nodup → ∃ Lf : Nat → List Nat, (∀ J : Inj, (∀ j, k ≤ j → J.L j = Lf j) → All2 (CR J w) vs (owC k ps)) ∧ (∀ j, (Lf j).Nodup) ∧ (∀ j b, b ∈ Lf j → b ∈ L) ∧ ∀ i j b, b ∈ Lf i → b ∈ Lf j → i = j
  | [], vs, L, k, h, hn => by
    cases h
    exact ⟨fun _ => [], fun _ _ => .nil, fun _ => List.nodup_nil, fun _ _ h => by simp at h, fun _ _ _ h => by simp at h⟩
  | p :: ps, vs, L, k, h, hn => by
    cases h with
    | @cons L1 L2 v p vs ps h1 h2 =>
      obtain ⟨n1, n2, n3⟩ := List.nodup_append.1 hn
      cases p with
      | int a b =>
        obtain ⟨Lf, q1, q2, q3, q4⟩ := oc_ow k h2 n2
        exact ⟨Lf, fun J hJ => .cons (by cases h1; exact ⟨rfl, ‹_›⟩) (q1 J hJ), q2, fun j b hb => List.mem_append_right _ (q3 j b hb), q4⟩
      | bool b =>
        obtain ⟨Lf, q1, q2, q3, q4⟩ := oc_ow k h2 n2
        exact ⟨Lf, fun J hJ => .cons (by cases h1; rfl) (q1 J hJ), q2, fun j b hb => List.mem_append_right _ (q3 j b hb), q4⟩
      | str s =>
        obtain ⟨Lf, q1, q2, q3, q4⟩ := oc_ow k h2 n2
        exact ⟨Lf, fun J hJ => .cons (by cases h1; exact ⟨rfl, ‹_›⟩) (q1 J hJ), q2, fun j b hb => List.mem_append_right _ (q3 j b hb), q4⟩
      | slc n l =>
        obtain ⟨Lf, q1, q2, q3, q4⟩ := oc_ow (k + 1) h2 n2
        refine ⟨fun j => if j = k then L1 else if k < j then Lf j else [], fun J hJ => .cons ?_ (q1 J fun j hj => ?_), fun j => ?_, fun j b hb => ?_, fun i j b hi hj => ?_⟩
        · show OwnDeep (J.L k) w v n l
          have e : J.L k = L1 := (hJ k (Nat.le_refl _)).trans (if_pos rfl)
          rw [e]
          exact .of h1 n1
        · exact (hJ j (by omega)).trans ((if_neg (by omega)).trans (if_pos (by omega)))
        · show (if j = k then L1 else if k < j then Lf j else []).Nodup
          split
          · exact n1
          · split
            · exact q2 j
            · exact List.nodup_nil
        · have hb : b ∈ (if j = k then L1 else if k < j then Lf j else []) := hb
          split at hb
          · exact List.mem_append_left _ hb
          · split at hb
            · exact List.mem_append_right _ (q3 j b hb)
            · simp at hb
        · have hi : b ∈ (if i = k then L1 else if k < i then Lf i else []) := hi
          have hj : b ∈ (if j = k then L1 else if k < j then Lf j else []) := hj
          split at hi <;> split at hj
          · omega
          · split at hj
            · exact (n3 b hi b (q3 j b hj) rfl).elim
            · simp at hj
          · split at hi
            · exact (n3 b hj b (q3 i b hi) rfl).elim
            · simp at hi
          · split at hi
            · split at hj
              · exact q4 i j b hi hj
              · simp at hj
            · simp at hi
section
variable {α : Type} [GoE α] {P : Program} {f : Nat}
theorem Qml (hok : Z7 P f) {a : α} (h : ∀ w (cs : List Value), rd w cs a → Calls P f #[.agg cs.toArray] w (RetA w a)) : ACalls P f [Qo2 a] (resA a) := by
  refine ⟨hok, fun w F vals hF hall => ?_⟩
  cases hall with
  | cons h2 h3 =>
    cases h3
    have hw := argA_wide h2
    obtain ⟨cs, rfl, hr⟩ := Qk1 h2
    refine (h w cs hr).mono ?_
    rintro e w' ⟨cs', L, rfl, hb, ho, hL⟩
    have hlt := GoD.own_lt ho
    obtain ⟨Lf, q1, q2, q3, q4⟩ := oc_ow 0 (GoE.own_oc ho hw) (GoD.own_nd ho)
    exact ⟨_, Lf, rfl, hb, q2, fun k b hk => ⟨hL b (q3 k b hk), hlt b (q3 k b hk)⟩, q4, cs', rfl, q1 _ fun _ _ => rfl⟩
theorem Qvb (hok : Z7 P f) {l : List α} (h : ∀ w (v : Value), rd w [v] l → Calls P f #[v] w (RetS w l)) : ACalls P f [Qo3 l] (resS l) := Qco hok (fun w v hr _ => h w v hr) id
end
/-! ### marks -/
def MarkA (P : Program) (f : Nat) {α : Type} [GoE α] (a : α) (K : Int) (r : α × Nat) : Prop := Z7 P f ∧ ∀ (w : World) (L : List Nat) (cs : List Value), own L w cs a → Calls P f #[.agg cs.toArray, .int .i64 K] w (Qgn L w cs r)
def MarkS (P : Program) (f : Nat) {α : Type} [GoE α] (l : List α) (K : Int) (r : List α × Nat) : Prop := Z7 P f ∧ ∀ (w : World) (L : List Nat) (v : Value), own L w [v] l → Calls P f #[v, .int .i64 K] w (Qgn L w [v] r)
def nmC : List Nat → List PV → Option (List C)
  | [], [] => some []
  | _, [] => none
  | k :: ks, .slc n l :: r => (nmC ks r).map (C.slc (.own true k) n l :: ·)
  | [], .slc _ _ :: _ => none
  | ks, .int a b :: r => (nmC ks r).map (C.int a b :: ·)
  | ks, .bool b :: r => (nmC ks r).map (C.bool b :: ·)
  | ks, .str s :: r => (nmC ks r).map (C.str s :: ·)
theorem nm_oc {J : Inj} {w : World} (hd : ∀ k k' b, b ∈ J.L k → b ∈ J.L k' → k = k') : ∀ {ps : List PV} {ks : List Nat} {cs : List C} {vs : List Value}, nmC ks ps = some cs → ks.Nodup → All2 (CR J w) vs cs → ∃ L, OC w L vs ps ∧ L.Nodup ∧ ∀ b, b ∈ L → ∃ k, k ∈ ks ∧ b ∈ J.L k
  | [], [], cs, vs, h, _, ha => by
    obtain rfl : [] = cs := by simpa [nmC] using h
    cases ha
    exact ⟨[], .nil, List.nodup_nil, fun _ h => by simp at h⟩
  | [], k :: ks, cs, vs, h, _, ha => by simp [nmC] at h
  | .int a b :: ps, ks, cs, vs, h, hn, ha => by
    have h : (nmC ks ps).map (C.int a b :: ·) = some cs := by cases ks <;> exact h
    obtain ⟨cs', h', rfl⟩ := Option.map_eq_some_iff.1 h
    cases ha with
    | cons h1 h2 => obtain ⟨rfl, h1⟩ := h1; obtain ⟨L, q1, q2, q3⟩ := nm_oc hd h' hn h2; exact ⟨L, OC.cons (L1 := []) (.int h1) q1, q2, q3⟩
  | .bool b :: ps, ks, cs, vs, h, hn, ha => by
    have h : (nmC ks ps).map (C.bool b :: ·) = some cs := by cases ks <;> exact h
    obtain ⟨cs', h', rfl⟩ := Option.map_eq_some_iff.1 h
    cases ha with
    | cons h1 h2 => obtain rfl := h1; obtain ⟨L, q1, q2, q3⟩ := nm_oc hd h' hn h2; exact ⟨L, OC.cons (L1 := []) (.bool _) q1, q2, q3⟩
  | .str s :: ps, ks, cs, vs, h, hn, ha => by
    have h : (nmC ks ps).map (C.str s :: ·) = some cs := by cases ks <;> exact h
    obtain ⟨cs', h', rfl⟩ := Option.map_eq_some_iff.1 h
    cases ha with
    | cons h1 h2 => obtain ⟨rfl, h1⟩ := h1; obtain ⟨L, q1, q2, q3⟩ := nm_oc hd h' hn h2; exact ⟨L, OC.cons (L1 := []) (.str h1) q1, q2, q3⟩
  | .slc n l :: ps, [], cs, vs, h, _, ha => by simp [nmC] at h
  | .slc n l :: ps, k :: ks, cs, vs, h, hn, ha => by
    simp only [nmC] at h
    obtain ⟨cs', h', rfl⟩ := Option.map_eq_some_iff.1 h
    obtain ⟨hk, hn⟩ := List.nodup_cons.1 hn
    cases ha with
    | cons h1 h2 =>
      obtain ⟨L, q1, q2, q3⟩ := nm_oc hd h' hn h2
      obtain ⟨L0, a1, a2, a3, _⟩ := h1
      refine ⟨L0 ++ L, OC.cons a1 q1, List.nodup_append.2 ⟨a2, q2, fun b hb b' hb' e => ?_⟩, fun b hb => ?_⟩
      · subst e
        obtain ⟨k', hk', hm⟩ := q3 b hb'
        exact hk (hd _ _ b (a3 b hb) hm ▸ hk')
      · rcases List.mem_append.1 hb with hb | hb
        · exact ⟨k, List.mem_cons_self, a3 b hb⟩
        · obtain ⟨k', hk', hm⟩ := q3 b hb
          exact ⟨k', List.mem_cons_of_mem _ hk', hm⟩
section
variable {P : Program} {N : Nat} {w0 : World} {F0 : Nat → Prop} {J : Inj} {a : Act} {w w' : World} {s : St}
theorem Rel.mark (h : Rel N w0 F0 J a w s) (ks : List Nat) {L : List Nat} (hL : ∀ b, b ∈ L → ∃ k, k ∈ ks ∧ b ∈ J.L k) (hc : Chg L w w') (d : Nat) (hd : d < N) (n : Int) (hn : InR .i64 n) (bx : Option (Nat × List C))
    (hb : ∀ k c, bx = some (k, c) → ∃ c0, get s.bx k = some c0 ∧ ∃ arr e, w.heap[J.B k]? = some (.cells arr e (0, 0)) ∧ ∀ J' : Inj, (∀ b, J'.F b ↔ J.F b ∨ b ∈ L) → All2 (CR J' w') arr.toList c) :
    ∃ J', (∀ b, J'.F b ↔ J.F b ∨ b ∈ L) ∧ (∀ k, J'.B k = J.B k) ∧ Rel N w0 F0 J' (a.put (some d) (.int .i64 n)) w' (s.step (some d) ⟨.one (.int .i64 n), V4 ks, none, bx⟩) := by
  let J' : Inj := ⟨fun b => J.F b ∨ b ∈ L, fun k => if k ∈ ks then [] else J.L k, J.B⟩
  have hlo : ∀ b, b ∈ L → w0.heap.size ≤ b ∧ b < w.heap.size ∧ ¬ J.F b := fun b hb => by
    obtain ⟨k, _, hm⟩ := hL b hb
    exact h.lo k b hm
  have hun : ∀ b, b < w.heap.size → b ∉ L → w'.heap[b]? = w.heap[b]? := hc.block
  have hJL : ∀ k b, b ∈ J'.L k → k ∉ ks ∧ b ∈ J.L k := fun k b hm => by
    have hm : b ∈ (if k ∈ ks then [] else J.L k) := hm
    split at hm
    · simp at hm
    · rename_i hk; exact ⟨hk, hm⟩
  have hout : ∀ k b, k ∉ ks → b ∈ J.L k → b ∉ L := fun k b hk hm hl => by
    obtain ⟨k', hk', hm'⟩ := hL b hl
    exact hk (h.dj k k' b hm hm' ▸ hk')
  have hboxL : ∀ k c, get s.bx k = some c → J.B k ∉ L := fun k c hk hl => by
    obtain ⟨k', _, hm⟩ := hL _ hl
    exact (h.bo k c hk).2.2.1 k' hm
  refine ⟨J', fun b => Iff.rfl, fun _ => rfl, ?_⟩
  refine h.upd (w' := w') (J' := J') (some d) (fun d' e => by cases e; exact hd) _ _ (h.below.trans (hc.below h.below.size fun b hb => (hlo b hb).1)) ?_ ?_ (fun _ => ⟨rfl, hn⟩) ?_ ?_
  · constructor
    · exact fun b hb => ⟨.inl hb, hun b (h.fl b hb).1 fun hl => (hlo b hl).2.2 hb⟩
    · intro k hk
      rw [Hm] at hk
      split at hk
      · cases hk
      · rename_i hn
        exact ⟨if_neg hn, fun b hb => hun b (h.lo k b hb).2.1 (hout k b hn hb)⟩
    · intro k hk; rw [Hm] at hk; split at hk <;> cases hk
    · intro k k' hk; rw [Hm] at hk; split at hk <;> cases hk
    · intro k t hk; rw [Hm] at hk; split at hk <;> cases hk
    · exact fun _ _ => rfl
    · intro k d m i o cs hk; rw [Hm] at hk; split at hk <;> cases hk
  · constructor
    · intro b hb
      rcases hb with hb | hb
      · exact ⟨Nat.lt_of_lt_of_le (h.fl b hb).1 hc.size, (h.fl b hb).2⟩
      · exact ⟨Nat.lt_of_lt_of_le (hlo b hb).2.1 hc.size, .inr (hlo b hb).1⟩
    · exact fun b hb => .inl (h.f0 b hb)
    · intro k
      show (if _ then _ else _ : List Nat).Nodup
      split
      · exact List.nodup_nil
      · exact h.nd k
    · intro k b hm
      obtain ⟨hk, hm⟩ := hJL k b hm
      obtain ⟨h1, h2, h3⟩ := h.lo k b hm
      exact ⟨h1, Nat.lt_of_lt_of_le h2 hc.size, fun hF => hF.elim h3 (hout k b hk hm)⟩
    · intro k k' b hm hm'
      exact h.dj k k' b (hJL k b hm).2 (hJL k' b hm').2
  · intro k c hk _
    obtain ⟨h1, h2, h3, arr, e, h4, _⟩ := h.bo k c hk
    refine ⟨by simp, fun hF => hF.elim h2 (hboxL k c hk), fun k' hm => h3 k' (hJL k' _ hm).2, hun _ ?_ (hboxL k c hk)⟩
    exact Q5 h4
  · intro k c hk
    obtain ⟨c0, hg, arr, e, hh, hall⟩ := hb k c hk
    obtain ⟨h1, h2, h3, arr', e', h4, _⟩ := h.bo k c0 hg
    have hlt : J.B k < w.heap.size := Q5 h4
    exact ⟨h1, fun hF => hF.elim h2 (hboxL k c0 hg), fun k' hm => h3 k' (hJL k' _ hm).2, ⟨arr, e, (hun _ hlt (hboxL k c0 hg)).trans hh, hall J' fun _ => Iff.rfl⟩, fun k' c' hk' hne e => hne (h.bi k' k c' c0 hk' hg e)⟩
theorem Rel.settm (h : Rel N w0 F0 J a w s) (t : Nat) (av : AV) (hv : AR J w (a.tmps.getD t undef) av) : Rel N w0 F0 J a w ⟨ins t av s.tm, s.bx⟩ := by
  refine { h with tm := fun u v hu => ?_ }
  simp only [Qhj] at hu
  split at hu
  · rename_i e; subst e; cases hu; exact hv
  · exact h.tm u v hu
theorem Qsf {ti : TI} {t : Nat} (hti : TiOk P t ti) {vs : List Value} (hag : ti.agg = true) (hl : vs.length = ti.size) {b off : Nat} (hc : ∀ (j : Nat) (u : Value), vs[j]? = some u → w.cell? ⟨b, off + j, none⟩ = some u) : (loadVar t ⟨b, off, none⟩).run P w = .ok (.agg vs.toArray) w := by
  obtain ⟨d, hd, hagg⟩ := hti.agg
  have hld := run_loadCells_list (P := P) w ⟨b, off, none⟩ vs (fun j u hj => by rw [Addr.add_lit]; exact hc j u hj)
  rw [hl] at hld
  simp [loadVar, U8 hd, hagg, hag, Qbb hti, hld]
theorem U3 {a : Act} {t u : Nat} {v : Value} (ht : t < a.tmps.size) : (a.put (some t) v).tmps.getD u undef = if u = t then v else a.tmps.getD u undef := by
  simp only [Act.put, Array.getD_eq_getD_getElem?, Array.getElem?_setIfInBounds]
  by_cases h : u = t
  · subst h; simp [ht]
  · simp [h, Ne.symm h]
end
class GoM (α : Type) [GoE α] : Prop where
  mkw : ∀ {a : α} {k : Nat}, wide a → wide (GoD.mark a k).1
  mkT : ∀ {a : α} {k : Nat}, wide a → wide (GoD.markT a k).1
instance : GoM Int := ⟨fun _ => trivial, fun _ => trivial⟩
instance : GoM Bool := ⟨fun _ => trivial, fun _ => trivial⟩
instance : GoM ByteArray := ⟨fun _ => trivial, fun _ => trivial⟩
instance {α β : Type} [GoE α] [GoE β] [GoM α] [GoM β] : GoM (α × β) := ⟨fun h => ⟨GoM.mkw h.1, GoM.mkw h.2⟩, fun h => ⟨GoM.mkT h.1, GoM.mkT h.2⟩⟩
theorem Qh9 {α : Type} [GoE α] [GoM α] : ∀ {l : List α} {k : Nat}, (∀ a, a ∈ l → wide a) → ∀ a, a ∈ (Xe l k).1 → wide a
  | [], k, _, a, ha => by simp [Xe] at ha
  | x :: l, k, h, a, ha => by
    simp only [Xe, List.mem_cons] at ha
    rcases ha with rfl | ha
    · exact GoM.mkw (h x List.mem_cons_self)
    · exact Qh9 (fun a ha => h a (List.mem_cons_of_mem _ ha)) a ha
instance {α : Type} [GoE α] [GoM α] : GoM (List α) := ⟨fun {l k} h => ⟨by rw [show (GoD.mark l k).1 = (Xe l k).1 from rfl, Qdu]; exact h.1, Qh9 h.2⟩, fun {l k} h => ⟨by rw [show (GoD.markT l k).1 = (Xe l k).1 from rfl, Qdu]; exact h.1, Qh9 h.2⟩⟩
section
variable {P : Program} {N : Nat} {w0 : World} {F0 : Nat → Prop} {s s' : St} {Q : Exit → St → Prop}
theorem Qbw {ops : Array Oper} {Q : Exit → Act → World → Prop} {i : Nat} {rest : List Nat} {o : Oper} {a : Act} {w : World} (hi : ops[i]? = some o) (hg : o.guard = none) (h : o.wp P a w (wpOps P ops Q rest) Q) : wpOps P ops Q (i :: rest) a w := by
  rw [wpOps_cons]
  unfold wpOp
  simp only [hi]
  rw [if_pos (by simp [Region.wanted, hg])]
  exact .inl h
theorem Qd5 {a : Act} {t : Nat} {v : Value} : (a.put (some t) v).tmps.size = a.tmps.size := by simp [Act.put]
def Qhd (N x y d z p kv : Nat) : Bool := Nat.blt x N && Nat.blt y N && Nat.blt d N && Nat.blt z N && !Nat.beq kv x && !Nat.beq x y && !Nat.beq p x
theorem Qaz {a b : Nat} (h : (!Nat.beq a b) = true) : a ≠ b := fun e => by subst e; simp at h
theorem Qk2 {tt : List (Nat × TI)} (htt : Qjf P tt = true) {α : Type} [GoE α] [GoM α] {a : α} {K : Int} {r : α × Nat} {f : Nat} (hm : MarkA P f a K r) (hr : InR .i64 (r.2 : Int)) (hrw : wide a → wide r.1) (ks : List Nat) {id x y d z p q kv t : Nat} {o0 o1 o2 o3 : Oper} {tys : Array TypeId} {ti : TI} {cs : List C} (ts bs : List Nat)
    (p0 : o0.op = .load t (.tmp p)) (d0 : o0.dst = some x) (g0 : o0.guard = none) (p1 : o1.op = .move (.tmp kv)) (d1 : o1.dst = some y) (g1 : o1.guard = none)
    (p2 : o2.op = .call ⟨.value (.func f), #[.tmp x, .tmp y], tys⟩) (d2 : o2.dst = some d) (g2 : o2.guard = none) (p3 : o3.op = .assign (.tmp d)) (d3 : o3.dst = some z) (g3 : o3.guard = none) (hN : Qhd N x y d z p kv = true)
    (ht : get tt t = some ti) (hag : ti.agg = true) (hsz : Nat.beq ti.size (enc a).length = true) (hp : get s.tm p = some (.one (.ptr q 0))) (hb : get s.bx q = some cs) (hcs : nmC ks (enc a) = some cs) (hks : Qcm ks = true) (hk : get s.tm kv = some (.one (.int .i64 K)))
    (hs : ((((s.step (some x) ⟨.one .dead, [], none, none⟩).step (some y) ⟨.one .dead, [], none, none⟩).step (some d) ⟨.one (.int .i64 (r.2 : Int)), V4 ks, none, some (q, (enc r.1).map shC)⟩).step (some z) ⟨.one (.int .i64 (r.2 : Int)), [], none, none⟩).keep ts bs = s')
    (hQ : Q .normal s') : AWP P N w0 F0 (.region id #[o0, o1, o2, o3] false) Q s := fun J ac w hr0 => by
  simp only [Qhd, Bool.and_eq_true, Nat.blt_eq] at hN
  obtain ⟨⟨⟨⟨⟨⟨n1, n2⟩, n3⟩, n4⟩, n5⟩, n6⟩, n7⟩ := hN
  have n5 := Qaz n5
  have n6 := Qaz n6
  obtain ⟨_, _, _, arr, e, hheap, hall⟩ := hr0.bo q cs hb
  have hpv : ac.tmps.getD p undef = .pointer (some ⟨J.B q, 0, none⟩) := hr0.tm p _ hp
  obtain ⟨hkv, hKr⟩ : ac.tmps.getD kv undef = .int .i64 K ∧ InR .i64 K := hr0.tm kv _ hk
  obtain ⟨L, hoc, hnd, hsub⟩ := nm_oc hr0.dj hcs (Qcd.1 hks) hall
  have hown : own L w arr.toList a := GoE.oc_own hoc hnd
  have hwa : wide a := GoE.vc_wide (hoc.vc (X := fun b => b ∈ L) fun _ h => h)
  have hlen : arr.toList.length = ti.size := by rw [hoc.length]; exact (Nat.eq_of_beq_eq_true hsz).symm
  have hld : (loadVar t ⟨J.B q, 0, none⟩).run P w = .ok (.agg arr) w := by
    have := Qsf (P := P) (w := w) (Zo htt ht) hag hlen (b := J.B q) (off := 0) (fun j u hj => by
      rw [Array.getElem?_toList] at hj
      simp [World.cell?, hheap, hj])
    simpa using this
  have hsx : x < ac.tmps.size := by rw [hr0.size]; exact n1
  have hsy : y < (ac.put (some x) (.agg arr)).tmps.size := by rw [Qd5, hr0.size]; exact n2
  have R1 := hr0.pure (some x) (fun d' e => by cases e; exact n1) (.one .dead) (.agg arr) (fun _ => trivial)
  have R2 := R1.pure (some y) (fun d' e => by cases e; exact n2) (.one .dead) (.int .i64 K) (fun _ => trivial)
  refine wp_region ?_
  show wpOps P _ _ [0, 1, 2, 3] ac w
  refine Qbw (o := o0) rfl g0 (Vf (v := .agg arr) (w' := w) ?_ ?_)
  · have e1 : ac.eval (.tmp p) = .pointer (some ⟨J.B q, 0, none⟩) := hpv
    simp [execOp, p0, e1, Instr.loadAt, Instr.sureAddr, hld]
  rw [d0]
  refine Qbw (o := o1) rfl g1 (Vf (v := .int .i64 K) (w' := w) ?_ ?_)
  · have e1 : (ac.put (some x) (.agg arr)).eval (.tmp kv) = .int .i64 K := (U3 hsx).trans ((if_neg n5).trans hkv)
    simp [execOp, p1, e1]
  rw [d1]
  refine Qbw (o := o2) rfl g2 (Qdn (caps := #[]) p2 rfl hm.1 ?_)
  have ex : ((ac.put (some x) (.agg arr)).put (some y) (.int .i64 K)).eval (.tmp x) = .agg arr := (U3 hsy).trans ((if_neg n6).trans ((U3 hsx).trans (if_pos rfl)))
  have ey : ((ac.put (some x) (.agg arr)).put (some y) (.int .i64 K)).eval (.tmp y) = .int .i64 K := (U3 hsy).trans (if_pos rfl)
  have hargs : (#[Operand.tmp x, Operand.tmp y].map ((ac.put (some x) (.agg arr)).put (some y) (.int .i64 K)).eval ++ #[]) = #[.agg arr.toList.toArray, .int .i64 K] := by simp [ex, ey]
  rw [hargs]
  refine (hm.2 w L arr.toList hown).mono ?_
  rintro en w' ⟨rfl, ho, hc⟩
  have hwr := hrw hwa
  obtain ⟨J', hF, hB, R3⟩ := R2.mark ks hsub hc d n3 (r.2 : Int) hr (some (q, (enc r.1).map shC)) (fun k c hk => by
    cases hk
    refine ⟨cs, hb, arr, e, hheap, fun J' hF => ?_⟩
    exact sh_all ((GoE.own_oc ho hwr).vc fun b hb => (hF b).2 (.inr hb)))
  have R4 := R3.pure (some z) (fun d' e => by cases e; exact n4) (.one (.int .i64 (r.2 : Int))) (.int .i64 (r.2 : Int)) (fun _ => ⟨rfl, hr⟩)
  rw [d2]
  refine Qbw (o := o3) rfl g3 (Vf (v := .int .i64 (r.2 : Int)) (w' := w') ?_ ?_)
  · have hsd : d < ((ac.put (some x) (.agg arr)).put (some y) (.int .i64 K)).tmps.size := by rw [Qd5, Qd5, hr0.size]; exact n3
    have e1 : (((ac.put (some x) (.agg arr)).put (some y) (.int .i64 K)).put (some d) (.int .i64 (r.2 : Int))).eval (.tmp d) = .int .i64 (r.2 : Int) := (U3 hsd).trans (if_pos rfl)
    simp [execOp, p3, e1]
  rw [d3]
  subst hs
  exact ⟨J', _, R4.less (fun t v hv => Qaf hv) (fun k c hc => Qaf hc), hQ⟩
theorem awp_markS {α : Type} [GoE α] [GoM α] {l : List α} {K : Int} {r : List α × Nat} {f : Nat} (hm : MarkS P f l K r) (hr : InR .i64 (r.2 : Int)) (hrw : wide l → wide r.1) (k0 : Nat) {id x y d z p kv : Nat} {o0 o1 o2 o3 : Oper} {tys : Array TypeId} (ts bs : List Nat)
    (p0 : o0.op = .move (.tmp p)) (d0 : o0.dst = some x) (g0 : o0.guard = none) (p1 : o1.op = .move (.tmp kv)) (d1 : o1.dst = some y) (g1 : o1.guard = none)
    (p2 : o2.op = .call ⟨.value (.func f), #[.tmp x, .tmp y], tys⟩) (d2 : o2.dst = some d) (g2 : o2.guard = none) (p3 : o3.op = .assign (.tmp d)) (d3 : o3.dst = some z) (g3 : o3.guard = none) (hN : Qhd N x y d z p kv = true) (hN2 : (!Nat.beq p y && !Nat.beq p d && !Nat.beq p z) = true)
    (hp : get s.tm p = some (.one (.slc (.own true k0) (GoD.n α) (eL l)))) (hk : get s.tm kv = some (.one (.int .i64 K)))
    (hs : (St.mk (ins p (.one (.slc .sh (GoD.n α) (eL r.1))) ((((s.step (some x) ⟨.one .dead, [], none, none⟩).step (some y) ⟨.one .dead, [], none, none⟩).step (some d) ⟨.one (.int .i64 (r.2 : Int)), V4 [k0], none, none⟩).step (some z) ⟨.one (.int .i64 (r.2 : Int)), [], none, none⟩).tm) ((((s.step (some x) ⟨.one .dead, [], none, none⟩).step (some y) ⟨.one .dead, [], none, none⟩).step (some d) ⟨.one (.int .i64 (r.2 : Int)), V4 [k0], none, none⟩).step (some z) ⟨.one (.int .i64 (r.2 : Int)), [], none, none⟩).bx).keep ts bs = s')
    (hQ : Q .normal s') : AWP P N w0 F0 (.region id #[o0, o1, o2, o3] false) Q s := fun J ac w hr0 => by
  simp only [Qhd, Bool.and_eq_true, Nat.blt_eq] at hN hN2
  obtain ⟨⟨⟨⟨⟨⟨n1, n2⟩, n3⟩, n4⟩, n5⟩, n6⟩, n7⟩ := hN
  have n5 := Qaz n5
  have n6 := Qaz n6
  have n7 := Qaz n7
  have m1 := Qaz hN2.1.1
  have m2 := Qaz hN2.1.2
  have m3 := Qaz hN2.2
  have hpv : CR J w (ac.tmps.getD p undef) (.slc (.own true k0) (GoD.n α) (eL l)) := hr0.tm p _ hp
  generalize hv : ac.tmps.getD p undef = v at hpv
  obtain ⟨hkv, hKr⟩ : ac.tmps.getD kv undef = .int .i64 K ∧ InR .i64 K := hr0.tm kv _ hk
  obtain ⟨L, hov, hnd, hsub, _⟩ := hpv
  have hown : own L w [v] l := ov_ownS hov hnd
  have hwl : wide l := Qb0 (hov.vv (X := fun b => b ∈ L) fun _ h => h)
  have hsx : x < ac.tmps.size := by rw [hr0.size]; exact n1
  have hsy : y < (ac.put (some x) v).tmps.size := by rw [Qd5, hr0.size]; exact n2
  have R1 := hr0.pure (some x) (fun d' e => by cases e; exact n1) (.one .dead) v (fun _ => trivial)
  have R2 := R1.pure (some y) (fun d' e => by cases e; exact n2) (.one .dead) (.int .i64 K) (fun _ => trivial)
  refine wp_region ?_
  show wpOps P _ _ [0, 1, 2, 3] ac w
  refine Qbw (o := o0) rfl g0 (Vf (v := v) (w' := w) ?_ ?_)
  · have e1 : ac.eval (.tmp p) = v := hv
    simp [execOp, p0, e1]
  rw [d0]
  refine Qbw (o := o1) rfl g1 (Vf (v := .int .i64 K) (w' := w) ?_ ?_)
  · have e1 : (ac.put (some x) v).eval (.tmp kv) = .int .i64 K := (U3 hsx).trans ((if_neg n5).trans hkv)
    simp [execOp, p1, e1]
  rw [d1]
  refine Qbw (o := o2) rfl g2 (Qdn (caps := #[]) p2 rfl hm.1 ?_)
  have ex : ((ac.put (some x) v).put (some y) (.int .i64 K)).eval (.tmp x) = v := (U3 hsy).trans ((if_neg n6).trans ((U3 hsx).trans (if_pos rfl)))
  have ey : ((ac.put (some x) v).put (some y) (.int .i64 K)).eval (.tmp y) = .int .i64 K := (U3 hsy).trans (if_pos rfl)
  have hargs : (#[Operand.tmp x, Operand.tmp y].map ((ac.put (some x) v).put (some y) (.int .i64 K)).eval ++ #[]) = #[v, .int .i64 K] := by simp [ex, ey]
  rw [hargs]
  refine (hm.2 w L v hown).mono ?_
  rintro en w' ⟨rfl, ho, hc⟩
  have hwr := hrw hwl
  obtain ⟨J', hF, hB, R3⟩ := R2.mark [k0] (fun b hb => ⟨k0, by simp, hsub b hb⟩) hc d n3 (r.2 : Int) hr none (fun k c hk => by cases hk)
  have R4 := R3.pure (some z) (fun d' e => by cases e; exact n4) (.one (.int .i64 (r.2 : Int))) (.int .i64 (r.2 : Int)) (fun _ => ⟨rfl, hr⟩)
  have hsd : d < ((ac.put (some x) v).put (some y) (.int .i64 K)).tmps.size := by rw [Qd5, Qd5, hr0.size]; exact n3
  rw [d2]
  refine Qbw (o := o3) rfl g3 (Vf (v := .int .i64 (r.2 : Int)) (w' := w') ?_ ?_)
  · have e1 : (((ac.put (some x) v).put (some y) (.int .i64 K)).put (some d) (.int .i64 (r.2 : Int))).eval (.tmp d) = .int .i64 (r.2 : Int) := (U3 hsd).trans (if_pos rfl)
    simp [execOp, p3, e1]
  rw [d3]
  have hsz' : z < (((ac.put (some x) v).put (some y) (.int .i64 K)).put (some d) (.int .i64 (r.2 : Int))).tmps.size := by rw [Qd5, Qd5, Qd5, hr0.size]; exact n4
  have ep : ((((ac.put (some x) v).put (some y) (.int .i64 K)).put (some d) (.int .i64 (r.2 : Int))).put (some z) (.int .i64 (r.2 : Int))).tmps.getD p undef = v := by
    rw [U3 hsz', if_neg m3, U3 hsd, if_neg m2, U3 hsy, if_neg m1, U3 hsx, if_neg n7, hv]
  have hvv : VV J'.F w' v (.slc (GoD.n α) (eL r.1)) := by
    have := (GoE.own_oc ho hwr).vc (X := J'.F) fun b hb => (hF b).2 (.inr hb)
    exact VC.one this
  have R5 := R4.settm p (.one (.slc .sh (GoD.n α) (eL r.1))) (by rw [ep]; exact hvv)
  subst hs
  exact ⟨J', _, R5.less (fun t v hv => Qaf hv) (fun k c hc => Qaf hc), hQ⟩
end
end Go.Proofs.YtnhmnfmhnepjmaaGreat
namespace Go.Proofs.YtnhmnfmhnepjmaaGreat
open Go.RowKit
open GoD (rd own)
set_option maxRecDepth 100000 in
set_option maxHeartbeats 1000000 in
theorem Qn9 (w : World) (v : Value) (l : List Int) (left : Int) (ha : rd w [v] l) (h0 : 0 ≤ left) (h1 : left ≤ 1048576) : Calls Tryz.prog 57 #[v, .int .i64 left] w (Qdi w (GoD.size l) left) := by
  obtain ⟨oa, cap, e1, hl, hm, hel⟩ := ha
  obtain rfl : v = _ := by simpa using e1
  clear e1
  have HE := Lib.hid hel; clear hel
  unfold maxLen at hm
  have hlm : l.length ≤ 9223372036854775807 := by omega
  have hsz : GoD.size l = l.length + (l.map GoD.size).sum := rfl
  have HSZ := Lib.hid hsz; clear hsz
  have hz0 : (l.map GoD.size).sum = 0 := Qsi l (fun _ => rfl)
  have HZ0 := Lib.hid hz0; clear hz0
  go_enter Tryz.func57, Tryz.ntmps57
  go_wp2
  all_goals
    go_ret
    refine ⟨_, rfl, ?_, by go_grown⟩
    rw [HSZ.out, HZ0.out]
    unfold szq
    go_light
    omega
set_option maxRecDepth 100000 in
set_option maxHeartbeats 1000000 in
theorem szEvent_c (w : World) (ca : List Value) (a : Zk) (left : Int) (ha : rd w ca a) (h0 : 0 ≤ left) (h1 : left ≤ 1048576) : Calls Tryz.prog 106 #[.agg ca.toArray, .int .i64 left] w (Qdi w (GoD.size a) left) := by
  obtain ⟨a1, a2, a3⟩ := a
  obtain ⟨ac1, at1, rfl, ar1, ac2, at2, rfl, ar2, ar3⟩ := ha
  obtain ⟨rfl, ar1⟩ := ar1
  obtain ⟨ax2_0, rfl⟩ := U6 (show _ = 1 from GoD.rd_len ar2)
  obtain ⟨ax3_0, rfl⟩ := U6 (show _ = 1 from GoD.rd_len ar3)
  dsimp only [List.cons_append, List.nil_append] at *
  clear ar1
  have AR2H := Lib.hid ar2; clear ar2
  have AR3H := Lib.hid ar3; clear ar3
  have tok1 : True := trivial
  have tok2 : True := trivial
  have hsz : GoD.size (a1, a2, a3) = (0 + (GoD.size a2 + GoD.size a3)) := rfl
  have HSZ := Lib.hid hsz; clear hsz
  go_enter Tryz.func106, Tryz.ntmps106
  go_wp2_with (first | (go_at_call 57; have tk := tok1; clear tok1; refine Uk (w := w) (Qn9 _ ax2_0 a2 _ (Q3 AR2H.out (by go_grown)) (by omega) (by omega)) (by go_grown) ?_; intro w1 r1 hB hb hz hz2 hr hs; have HR1 := Lib.hid hr; clear hr; (repeat (first | rewrite [World.size_alloc] at hz2 | rewrite [World.size_setCell] at hz2 | rewrite [World.size_drew] at hz2)); have c0 := fun o => Z4 hb (w.heap.size) o (by go_size); clear hb) | (go_at_call 57; have tk := tok2; clear tok2; refine Uk (w := w) (Qn9 _ ax3_0 a3 _ (Q3 AR3H.out (by go_grown)) (by omega) (by omega)) (by go_grown) ?_; intro w2 r2 hB hb hz hz2 hr hs; have HR2 := Lib.hid hr; clear hr; (repeat (first | rewrite [World.size_alloc] at hz2 | rewrite [World.size_setCell] at hz2 | rewrite [World.size_drew] at hz2)); have c0 := fun o => Z4 hb (w.heap.size) o (by go_size); clear hb))
  all_goals
    go_ret
    refine ⟨_, rfl, ?_, by go_grown⟩
    rw [HSZ.out]
    unfold szq
    (try have u1 := HR1.out)
    (try have u2 := HR2.out)
    (try unfold szq at *)
    go_light
    omega
set_option maxRecDepth 100000 in
set_option maxHeartbeats 1000000 in
theorem Qqg (w : World) (ca : List Value) (a : H5) (left : Int) (ha : rd w ca a) (h0 : 0 ≤ left) (h1 : left ≤ 1048576) : Calls Tryz.prog 165 #[.agg ca.toArray, .int .i64 left] w (Qdi w (GoD.size a) left) := by
  obtain ⟨a1, a2, a3⟩ := a
  obtain ⟨ac1, at1, rfl, ar1, ac2, at2, rfl, ar2, ar3⟩ := ha
  obtain ⟨rfl, ar1⟩ := ar1
  obtain ⟨rfl, ar2⟩ := ar2
  obtain ⟨rfl, ar3⟩ := ar3
  dsimp only [List.cons_append, List.nil_append] at *
  clear ar1
  clear ar2
  unfold maxLen at ar3
  have ar3 : a3.size ≤ 9223372036854775807 := by omega
  have hsz : GoD.size (a1, a2, a3) = (0 + (0 + a3.size)) := rfl
  have HSZ := Lib.hid hsz; clear hsz
  go_enter Tryz.func165, Tryz.ntmps165
  go_wp2
  all_goals
    go_ret
    refine ⟨_, rfl, ?_, by go_grown⟩
    rw [HSZ.out]
    unfold szq
    (try unfold szq at *)
    go_light
    omega
set_option maxRecDepth 100000 in
set_option maxHeartbeats 1000000 in
theorem szNode_c (w : World) (ca : List Value) (a : Yq) (left : Int) (ha : rd w ca a) (h0 : 0 ≤ left) (h1 : left ≤ 1048576) : Calls Tryz.prog 123 #[.agg ca.toArray, .int .i64 left] w (Qdi w (GoD.size a) left) := by
  obtain ⟨a1, a2, a3, a4, a5⟩ := a
  obtain ⟨ac1, at1, rfl, ar1, ac2, at2, rfl, ar2, ac3, at3, rfl, ar3, ac4, at4, rfl, ar4, ar5⟩ := ha
  obtain ⟨rfl, ar1⟩ := ar1
  obtain ⟨rfl, ar2⟩ := ar2
  obtain ⟨rfl, ar3⟩ := ar3
  obtain ⟨rfl, ar4⟩ := ar4
  obtain ⟨ax5_0, ax5_1, ax5_2, rfl⟩ := Qvj (show _ = 3 from GoD.rd_len ar5)
  dsimp only [List.cons_append, List.nil_append] at *
  clear ar1
  clear ar2
  clear ar3
  unfold maxLen at ar4
  have ar4 : a4.size ≤ 9223372036854775807 := by omega
  have AR5H := Lib.hid ar5; clear ar5
  have tok1 : True := trivial
  have hsz : GoD.size (a1, a2, a3, a4, a5) = (0 + (0 + (0 + (a4.size + GoD.size a5)))) := rfl
  have HSZ := Lib.hid hsz; clear hsz
  go_enter Tryz.func123, Tryz.ntmps123
  go_wp2_with (first | (go_at_call 165; have tk := tok1; clear tok1; refine Uk (w := w) (Qqg _ [ax5_0, ax5_1, ax5_2] a5 _ (Q3 AR5H.out (by go_grown)) (by omega) (by omega)) (by go_grown) ?_; intro w1 r1 hB hb hz hz2 hr hs; have HR1 := Lib.hid hr; clear hr; (repeat (first | rewrite [World.size_alloc] at hz2 | rewrite [World.size_setCell] at hz2 | rewrite [World.size_drew] at hz2)); have c0 := fun o => Z4 hb (w.heap.size) o (by go_size); clear hb))
  all_goals
    go_ret
    refine ⟨_, rfl, ?_, by go_grown⟩
    rw [HSZ.out]
    unfold szq
    (try have u1 := HR1.out)
    (try unfold szq at *)
    go_light
    omega
set_option maxRecDepth 100000 in
set_option maxHeartbeats 1000000 in
theorem szAttr_c (w : World) (ca : List Value) (a : Qdd) (left : Int) (ha : rd w ca a) (h0 : 0 ≤ left) (h1 : left ≤ 1048576) : Calls Tryz.prog 164 #[.agg ca.toArray, .int .i64 left] w (Qdi w (GoD.size a) left) := by
  obtain ⟨a1, a2⟩ := a
  obtain ⟨ac1, at1, rfl, ar1, ar2⟩ := ha
  obtain ⟨rfl, ar1⟩ := ar1
  obtain ⟨ax2_0, ax2_1, ax2_2, rfl⟩ := Qvj (show _ = 3 from GoD.rd_len ar2)
  dsimp only [List.cons_append, List.nil_append] at *
  unfold maxLen at ar1
  have ar1 : a1.size ≤ 9223372036854775807 := by omega
  have AR2H := Lib.hid ar2; clear ar2
  have tok1 : True := trivial
  have hsz : GoD.size (a1, a2) = (a1.size + GoD.size a2) := rfl
  have HSZ := Lib.hid hsz; clear hsz
  go_enter Tryz.func164, Tryz.ntmps164
  go_wp2_with (first | (go_at_call 165; have tk := tok1; clear tok1; refine Uk (w := w) (Qqg _ [ax2_0, ax2_1, ax2_2] a2 _ (Q3 AR2H.out (by go_grown)) (by omega) (by omega)) (by go_grown) ?_; intro w1 r1 hB hb hz hz2 hr hs; have HR1 := Lib.hid hr; clear hr; (repeat (first | rewrite [World.size_alloc] at hz2 | rewrite [World.size_setCell] at hz2 | rewrite [World.size_drew] at hz2)); have c0 := fun o => Z4 hb (w.heap.size) o (by go_size); clear hb))
  all_goals
    go_ret
    refine ⟨_, rfl, ?_, by go_grown⟩
    rw [HSZ.out]
    unfold szq
    (try have u1 := HR1.out)
    (try unfold szq at *)
    go_light
    omega
set_option maxRecDepth 100000 in
set_option maxHeartbeats 1000000 in
theorem szAttrS_c (w : World) (v : Value) (l : List Qdd) (left : Int) (ha : rd w [v] l) (h0 : 0 ≤ left) (h1 : left ≤ 1048576) : Calls Tryz.prog 122 #[v, .int .i64 left] w (Qdi w (GoD.size l) left) := by
  obtain ⟨oa, cap, e1, hl, hm, hel⟩ := ha
  obtain rfl : v = _ := by simpa using e1
  clear e1
  have HE := Lib.hid hel; clear hel
  unfold maxLen at hm
  have hlm : l.length ≤ 9223372036854775807 := by omega
  have hsz : GoD.size l = l.length + (l.map GoD.size).sum := rfl
  have HSZ := Lib.hid hsz; clear hsz
  by_cases hneg : left - l.length < 0
  · go_enter Tryz.func122, Tryz.ntmps122
    go_wp2
    go_ret
    refine ⟨_, rfl, ?_, Below.refl _ _⟩
    rw [HSZ.out]
    unfold szq
    omega
  · go_enter Tryz.func122, Tryz.ntmps122
    go_wp2
    go_loopw [1, 5] (fun q i wr => ∃ (k : Nat) (r : Int), k ≤ l.length ∧ i = .int .i64 k ∧ q = .int .i64 r ∧ 0 ≤ r ∧ r ≤ 1048576 ∧ Hid (r = left - l.length - ((l.take k).map GoD.size).sum) ∧ Below w.heap.size w wr) (fun _ i _ => l.length - (intOf i).toNat)
    case atStart => exact ⟨0, _, Nat.zero_le _, rfl, rfl, by omega, by omega, by show _ = _; simp, Below.refl _ _⟩
    case round =>
      obtain ⟨k, r, hk, rfl, rfl, hr0, hr1, HR, hB⟩ := hrel
      by_cases hkl : k < l.length
      · have hx := List.getElem?_eq_getElem hkl
        obtain ⟨eb, eo, ee, rfl, hcl, hcc, hxr⟩ := HE.out k _ hx
        have HT := Lib.hid (Qdj hx)
        have HU := Lib.hid (Qak hx)
        clear hx
        generalize l[k] = x at *
        obtain ⟨x0, x1, x2, x3, rfl⟩ := len4 (show _ = 4 from hcl)
        have p0 : wr.cell? ⟨eb, eo + k * 4, none⟩ = some x0 := (hB.cell (World.block_lt_of_cell? w _ (hcc 0 _ rfl))).trans (hcc 0 _ rfl)
        have p1 : wr.cell? ⟨eb, eo + k * 4 + 1, none⟩ = some x1 := (hB.cell (World.block_lt_of_cell? w _ (hcc 1 _ rfl))).trans (hcc 1 _ rfl)
        have p2 : wr.cell? ⟨eb, eo + k * 4 + 2, none⟩ = some x2 := (hB.cell (World.block_lt_of_cell? w _ (hcc 2 _ rfl))).trans (hcc 2 _ rfl)
        have p3 : wr.cell? ⟨eb, eo + k * 4 + 3, none⟩ = some x3 := (hB.cell (World.block_lt_of_cell? w _ (hcc 3 _ rfl))).trans (hcc 3 _ rfl)
        have HXR := Lib.hid hxr; clear hxr hcc hcl
        go_wp2_with (go_at_call 164; refine Uk (w := w) (szAttr_c _ [x0, x1, x2, x3] x _ (Q3 HXR.out hB) (by omega) (by omega)) (by go_grown) ?_; intro w2 r2 hB2 hb hz hz2 hr2 hs; have HR2 := Lib.hid hr2; clear hr2 hb)
        · go_ret
          refine ⟨_, rfl, ?_, by go_grown⟩
          have u1 := HU.out; have u2 := HR2.out; have u3 := HR.out
          rw [HSZ.out]
          unfold szq at *
          go_light
          omega
        · go_roundw
          case rel => exact ⟨k + 1, _, by omega, by go_num, rfl, by omega, by omega, by
          show _ = _
          have u1 := HT.out; have u2 := HR2.out; have u3 := HR.out
          unfold szq at *
          rw [u1]
          omega, by go_grown⟩
          case measure => simp [intOf]; omega
      · obtain rfl : k = l.length := by omega
        go_wp2
        go_ret
        refine ⟨_, rfl, ?_, hB⟩
        have u3 := HR.out
        rw [List.take_length] at u3
        rw [HSZ.out]
        unfold szq
        omega
set_option maxRecDepth 100000 in
set_option maxHeartbeats 1000000 in
theorem szFile_c (w : World) (ca : List Value) (a : Yt) (left : Int) (ha : rd w ca a) (h0 : 0 ≤ left) (h1 : left ≤ 1048576) : Calls Tryz.prog 84 #[.agg ca.toArray, .int .i64 left] w (Qdi w (GoD.size a) left) := by
  obtain ⟨a1, a2, a3, a4, a5⟩ := a
  obtain ⟨ac1, at1, rfl, ar1, ac2, at2, rfl, ar2, ac3, at3, rfl, ar3, ac4, at4, rfl, ar4, ar5⟩ := ha
  obtain ⟨rfl, ar1⟩ := ar1
  obtain ⟨rfl, ar2⟩ := ar2
  obtain rfl := ar3
  obtain ⟨rfl, ar4⟩ := ar4
  obtain ⟨ax5_0, rfl⟩ := U6 (show _ = 1 from GoD.rd_len ar5)
  dsimp only [List.cons_append, List.nil_append] at *
  clear ar1
  clear ar2
  clear ar4
  have AR5H := Lib.hid ar5; clear ar5
  have tok1 : True := trivial
  have hsz : GoD.size (a1, a2, a3, a4, a5) = (0 + (0 + (0 + (0 + GoD.size a5)))) := rfl
  have HSZ := Lib.hid hsz; clear hsz
  go_enter Tryz.func84, Tryz.ntmps84
  go_wp2_with (first | (go_at_call 122; have tk := tok1; clear tok1; refine Uk (w := w) (szAttrS_c _ ax5_0 a5 _ (Q3 AR5H.out (by go_grown)) (by omega) (by omega)) (by go_grown) ?_; intro w1 r1 hB hb hz hz2 hr hs; have HR1 := Lib.hid hr; clear hr; (repeat (first | rewrite [World.size_alloc] at hz2 | rewrite [World.size_setCell] at hz2 | rewrite [World.size_drew] at hz2)); have c0 := fun o => Z4 hb (w.heap.size) o (by go_size); clear hb))
  all_goals
    go_ret
    refine ⟨_, rfl, ?_, by go_grown⟩
    rw [HSZ.out]
    unfold szq
    (try have u1 := HR1.out)
    (try unfold szq at *)
    go_light
    omega
set_option maxRecDepth 100000 in
set_option maxHeartbeats 1000000 in
theorem szFileS_c (w : World) (v : Value) (l : List Yt) (left : Int) (ha : rd w [v] l) (h0 : 0 ≤ left) (h1 : left ≤ 1048576) : Calls Tryz.prog 35 #[v, .int .i64 left] w (Qdi w (GoD.size l) left) := by
  obtain ⟨oa, cap, e1, hl, hm, hel⟩ := ha
  obtain rfl : v = _ := by simpa using e1
  clear e1
  have HE := Lib.hid hel; clear hel
  unfold maxLen at hm
  have hlm : l.length ≤ 9223372036854775807 := by omega
  have hsz : GoD.size l = l.length + (l.map GoD.size).sum := rfl
  have HSZ := Lib.hid hsz; clear hsz
  by_cases hneg : left - l.length < 0
  · go_enter Tryz.func35, Tryz.ntmps35
    go_wp2
    go_ret
    refine ⟨_, rfl, ?_, Below.refl _ _⟩
    rw [HSZ.out]
    unfold szq
    omega
  · go_enter Tryz.func35, Tryz.ntmps35
    go_wp2
    go_loopw [1, 5] (fun q i wr => ∃ (k : Nat) (r : Int), k ≤ l.length ∧ i = .int .i64 k ∧ q = .int .i64 r ∧ 0 ≤ r ∧ r ≤ 1048576 ∧ Hid (r = left - l.length - ((l.take k).map GoD.size).sum) ∧ Below w.heap.size w wr) (fun _ i _ => l.length - (intOf i).toNat)
    case atStart => exact ⟨0, _, Nat.zero_le _, rfl, rfl, by omega, by omega, by show _ = _; simp, Below.refl _ _⟩
    case round =>
      obtain ⟨k, r, hk, rfl, rfl, hr0, hr1, HR, hB⟩ := hrel
      by_cases hkl : k < l.length
      · have hx := List.getElem?_eq_getElem hkl
        obtain ⟨eb, eo, ee, rfl, hcl, hcc, hxr⟩ := HE.out k _ hx
        have HT := Lib.hid (Qdj hx)
        have HU := Lib.hid (Qak hx)
        clear hx
        generalize l[k] = x at *
        obtain ⟨x0, x1, x2, x3, x4, rfl⟩ := len5 (show _ = 5 from hcl)
        have p0 : wr.cell? ⟨eb, eo + k * 5, none⟩ = some x0 := (hB.cell (World.block_lt_of_cell? w _ (hcc 0 _ rfl))).trans (hcc 0 _ rfl)
        have p1 : wr.cell? ⟨eb, eo + k * 5 + 1, none⟩ = some x1 := (hB.cell (World.block_lt_of_cell? w _ (hcc 1 _ rfl))).trans (hcc 1 _ rfl)
        have p2 : wr.cell? ⟨eb, eo + k * 5 + 2, none⟩ = some x2 := (hB.cell (World.block_lt_of_cell? w _ (hcc 2 _ rfl))).trans (hcc 2 _ rfl)
        have p3 : wr.cell? ⟨eb, eo + k * 5 + 3, none⟩ = some x3 := (hB.cell (World.block_lt_of_cell? w _ (hcc 3 _ rfl))).trans (hcc 3 _ rfl)
        have p4 : wr.cell? ⟨eb, eo + k * 5 + 4, none⟩ = some x4 := (hB.cell (World.block_lt_of_cell? w _ (hcc 4 _ rfl))).trans (hcc 4 _ rfl)
        have HXR := Lib.hid hxr; clear hxr hcc hcl
        go_wp2_with (go_at_call 84; refine Uk (w := w) (szFile_c _ [x0, x1, x2, x3, x4] x _ (Q3 HXR.out hB) (by omega) (by omega)) (by go_grown) ?_; intro w2 r2 hB2 hb hz hz2 hr2 hs; have HR2 := Lib.hid hr2; clear hr2 hb)
        · go_ret
          refine ⟨_, rfl, ?_, by go_grown⟩
          have u1 := HU.out; have u2 := HR2.out; have u3 := HR.out
          rw [HSZ.out]
          unfold szq at *
          go_light
          omega
        · go_roundw
          case rel => exact ⟨k + 1, _, by omega, by go_num, rfl, by omega, by omega, by
          show _ = _
          have u1 := HT.out; have u2 := HR2.out; have u3 := HR.out
          unfold szq at *
          rw [u1]
          omega, by go_grown⟩
          case measure => simp [intOf]; omega
      · obtain rfl : k = l.length := by omega
        go_wp2
        go_ret
        refine ⟨_, rfl, ?_, hB⟩
        have u3 := HR.out
        rw [List.take_length] at u3
        rw [HSZ.out]
        unfold szq
        omega
set_option maxRecDepth 100000 in
set_option maxHeartbeats 1000000 in
theorem szNodeS_c (w : World) (v : Value) (l : List Yq) (left : Int) (ha : rd w [v] l) (h0 : 0 ≤ left) (h1 : left ≤ 1048576) : Calls Tryz.prog 85 #[v, .int .i64 left] w (Qdi w (GoD.size l) left) := by
  obtain ⟨oa, cap, e1, hl, hm, hel⟩ := ha
  obtain rfl : v = _ := by simpa using e1
  clear e1
  have HE := Lib.hid hel; clear hel
  unfold maxLen at hm
  have hlm : l.length ≤ 9223372036854775807 := by omega
  have hsz : GoD.size l = l.length + (l.map GoD.size).sum := rfl
  have HSZ := Lib.hid hsz; clear hsz
  by_cases hneg : left - l.length < 0
  · go_enter Tryz.func85, Tryz.ntmps85
    go_wp2
    go_ret
    refine ⟨_, rfl, ?_, Below.refl _ _⟩
    rw [HSZ.out]
    unfold szq
    omega
  · go_enter Tryz.func85, Tryz.ntmps85
    go_wp2
    go_loopw [1, 5] (fun q i wr => ∃ (k : Nat) (r : Int), k ≤ l.length ∧ i = .int .i64 k ∧ q = .int .i64 r ∧ 0 ≤ r ∧ r ≤ 1048576 ∧ Hid (r = left - l.length - ((l.take k).map GoD.size).sum) ∧ Below w.heap.size w wr) (fun _ i _ => l.length - (intOf i).toNat)
    case atStart => exact ⟨0, _, Nat.zero_le _, rfl, rfl, by omega, by omega, by show _ = _; simp, Below.refl _ _⟩
    case round =>
      obtain ⟨k, r, hk, rfl, rfl, hr0, hr1, HR, hB⟩ := hrel
      by_cases hkl : k < l.length
      · have hx := List.getElem?_eq_getElem hkl
        obtain ⟨eb, eo, ee, rfl, hcl, hcc, hxr⟩ := HE.out k _ hx
        have HT := Lib.hid (Qdj hx)
        have HU := Lib.hid (Qak hx)
        clear hx
        generalize l[k] = x at *
        obtain ⟨x0, x1, x2, x3, x4, x5, x6, rfl⟩ := len7 (show _ = 7 from hcl)
        have p0 : wr.cell? ⟨eb, eo + k * 7, none⟩ = some x0 := (hB.cell (World.block_lt_of_cell? w _ (hcc 0 _ rfl))).trans (hcc 0 _ rfl)
        have p1 : wr.cell? ⟨eb, eo + k * 7 + 1, none⟩ = some x1 := (hB.cell (World.block_lt_of_cell? w _ (hcc 1 _ rfl))).trans (hcc 1 _ rfl)
        have p2 : wr.cell? ⟨eb, eo + k * 7 + 2, none⟩ = some x2 := (hB.cell (World.block_lt_of_cell? w _ (hcc 2 _ rfl))).trans (hcc 2 _ rfl)
        have p3 : wr.cell? ⟨eb, eo + k * 7 + 3, none⟩ = some x3 := (hB.cell (World.block_lt_of_cell? w _ (hcc 3 _ rfl))).trans (hcc 3 _ rfl)
        have p4 : wr.cell? ⟨eb, eo + k * 7 + 4, none⟩ = some x4 := (hB.cell (World.block_lt_of_cell? w _ (hcc 4 _ rfl))).trans (hcc 4 _ rfl)
        have p5 : wr.cell? ⟨eb, eo + k * 7 + 5, none⟩ = some x5 := (hB.cell (World.block_lt_of_cell? w _ (hcc 5 _ rfl))).trans (hcc 5 _ rfl)
        have p6 : wr.cell? ⟨eb, eo + k * 7 + 6, none⟩ = some x6 := (hB.cell (World.block_lt_of_cell? w _ (hcc 6 _ rfl))).trans (hcc 6 _ rfl)
        have HXR := Lib.hid hxr; clear hxr hcc hcl
        go_wp2_with (go_at_call 123; refine Uk (w := w) (szNode_c _ [x0, x1, x2, x3, x4, x5, x6] x _ (Q3 HXR.out hB) (by omega) (by omega)) (by go_grown) ?_; intro w2 r2 hB2 hb hz hz2 hr2 hs; have HR2 := Lib.hid hr2; clear hr2 hb)
        · go_ret
          refine ⟨_, rfl, ?_, by go_grown⟩
          have u1 := HU.out; have u2 := HR2.out; have u3 := HR.out
          rw [HSZ.out]
          unfold szq at *
          go_light
          omega
        · go_roundw
          case rel => exact ⟨k + 1, _, by omega, by go_num, rfl, by omega, by omega, by
          show _ = _
          have u1 := HT.out; have u2 := HR2.out; have u3 := HR.out
          unfold szq at *
          rw [u1]
          omega, by go_grown⟩
          case measure => simp [intOf]; omega
      · obtain rfl : k = l.length := by omega
        go_wp2
        go_ret
        refine ⟨_, rfl, ?_, hB⟩
        have u3 := HR.out
        rw [List.take_length] at u3
        rw [HSZ.out]
        unfold szq
        omega
set_option maxRecDepth 100000 in
set_option maxHeartbeats 1000000 in
theorem szDir_c (w : World) (ca : List Value) (a : Zh) (left : Int) (ha : rd w ca a) (h0 : 0 ≤ left) (h1 : left ≤ 1048576) : Calls Tryz.prog 36 #[.agg ca.toArray, .int .i64 left] w (Qdi w (GoD.size a) left) := by
  obtain ⟨a1, a2⟩ := a
  obtain ⟨ac1, at1, rfl, ar1, ar2⟩ := ha
  obtain ⟨rfl, ar1⟩ := ar1
  obtain ⟨ax2_0, rfl⟩ := U6 (show _ = 1 from GoD.rd_len ar2)
  dsimp only [List.cons_append, List.nil_append] at *
  unfold maxLen at ar1
  have ar1 : a1.size ≤ 9223372036854775807 := by omega
  have AR2H := Lib.hid ar2; clear ar2
  have tok1 : True := trivial
  have hsz : GoD.size (a1, a2) = (a1.size + GoD.size a2) := rfl
  have HSZ := Lib.hid hsz; clear hsz
  go_enter Tryz.func36, Tryz.ntmps36
  go_wp2_with (first | (go_at_call 85; have tk := tok1; clear tok1; refine Uk (w := w) (szNodeS_c _ ax2_0 a2 _ (Q3 AR2H.out (by go_grown)) (by omega) (by omega)) (by go_grown) ?_; intro w1 r1 hB hb hz hz2 hr hs; have HR1 := Lib.hid hr; clear hr; (repeat (first | rewrite [World.size_alloc] at hz2 | rewrite [World.size_setCell] at hz2 | rewrite [World.size_drew] at hz2)); have c0 := fun o => Z4 hb (w.heap.size) o (by go_size); clear hb))
  all_goals
    go_ret
    refine ⟨_, rfl, ?_, by go_grown⟩
    rw [HSZ.out]
    unfold szq
    (try have u1 := HR1.out)
    (try unfold szq at *)
    go_light
    omega
set_option maxRecDepth 100000 in
set_option maxHeartbeats 1000000 in
theorem Qty (w : World) (v : Value) (l : List Zh) (left : Int) (ha : rd w [v] l) (h0 : 0 ≤ left) (h1 : left ≤ 1048576) : Calls Tryz.prog 8 #[v, .int .i64 left] w (Qdi w (GoD.size l) left) := by
  obtain ⟨oa, cap, e1, hl, hm, hel⟩ := ha
  obtain rfl : v = _ := by simpa using e1
  clear e1
  have HE := Lib.hid hel; clear hel
  unfold maxLen at hm
  have hlm : l.length ≤ 9223372036854775807 := by omega
  have hsz : GoD.size l = l.length + (l.map GoD.size).sum := rfl
  have HSZ := Lib.hid hsz; clear hsz
  by_cases hneg : left - l.length < 0
  · go_enter Tryz.func8, Tryz.ntmps8
    go_wp2
    go_ret
    refine ⟨_, rfl, ?_, Below.refl _ _⟩
    rw [HSZ.out]
    unfold szq
    omega
  · go_enter Tryz.func8, Tryz.ntmps8
    go_wp2
    go_loopw [1, 5] (fun q i wr => ∃ (k : Nat) (r : Int), k ≤ l.length ∧ i = .int .i64 k ∧ q = .int .i64 r ∧ 0 ≤ r ∧ r ≤ 1048576 ∧ Hid (r = left - l.length - ((l.take k).map GoD.size).sum) ∧ Below w.heap.size w wr) (fun _ i _ => l.length - (intOf i).toNat)
    case atStart => exact ⟨0, _, Nat.zero_le _, rfl, rfl, by omega, by omega, by show _ = _; simp, Below.refl _ _⟩
    case round =>
      obtain ⟨k, r, hk, rfl, rfl, hr0, hr1, HR, hB⟩ := hrel
      by_cases hkl : k < l.length
      · have hx := List.getElem?_eq_getElem hkl
        obtain ⟨eb, eo, ee, rfl, hcl, hcc, hxr⟩ := HE.out k _ hx
        have HT := Lib.hid (Qdj hx)
        have HU := Lib.hid (Qak hx)
        clear hx
        generalize l[k] = x at *
        obtain ⟨x0, x1, rfl⟩ := Qi1 (show _ = 2 from hcl)
        have p0 : wr.cell? ⟨eb, eo + k * 2, none⟩ = some x0 := (hB.cell (World.block_lt_of_cell? w _ (hcc 0 _ rfl))).trans (hcc 0 _ rfl)
        have p1 : wr.cell? ⟨eb, eo + k * 2 + 1, none⟩ = some x1 := (hB.cell (World.block_lt_of_cell? w _ (hcc 1 _ rfl))).trans (hcc 1 _ rfl)
        have HXR := Lib.hid hxr; clear hxr hcc hcl
        go_wp2_with (go_at_call 36; refine Uk (w := w) (szDir_c _ [x0, x1] x _ (Q3 HXR.out hB) (by omega) (by omega)) (by go_grown) ?_; intro w2 r2 hB2 hb hz hz2 hr2 hs; have HR2 := Lib.hid hr2; clear hr2 hb)
        · go_ret
          refine ⟨_, rfl, ?_, by go_grown⟩
          have u1 := HU.out; have u2 := HR2.out; have u3 := HR.out
          rw [HSZ.out]
          unfold szq at *
          go_light
          omega
        · go_roundw
          case rel => exact ⟨k + 1, _, by omega, by go_num, rfl, by omega, by omega, by
          show _ = _
          have u1 := HT.out; have u2 := HR2.out; have u3 := HR.out
          unfold szq at *
          rw [u1]
          omega, by go_grown⟩
          case measure => simp [intOf]; omega
      · obtain rfl : k = l.length := by omega
        go_wp2
        go_ret
        refine ⟨_, rfl, ?_, hB⟩
        have u3 := HR.out
        rw [List.take_length] at u3
        rw [HSZ.out]
        unfold szq
        omega
set_option maxRecDepth 100000 in
set_option maxHeartbeats 1000000 in
theorem szField_c (w : World) (ca : List Value) (a : Jr) (left : Int) (ha : rd w ca a) (h0 : 0 ≤ left) (h1 : left ≤ 1048576) : Calls Tryz.prog 83 #[.agg ca.toArray, .int .i64 left] w (Qdi w (GoD.size a) left) := by
  obtain ⟨a1, a2⟩ := a
  obtain ⟨ac1, at1, rfl, ar1, ar2⟩ := ha
  obtain ⟨rfl, ar1⟩ := ar1
  obtain ⟨rfl, ar2⟩ := ar2
  dsimp only [List.cons_append, List.nil_append] at *
  unfold maxLen at ar1
  have ar1 : a1.size ≤ 9223372036854775807 := by omega
  clear ar2
  have hsz : GoD.size (a1, a2) = (a1.size + 0) := rfl
  have HSZ := Lib.hid hsz; clear hsz
  go_enter Tryz.func83, Tryz.ntmps83
  go_wp2
  all_goals
    go_ret
    refine ⟨_, rfl, ?_, by go_grown⟩
    rw [HSZ.out]
    unfold szq
    (try unfold szq at *)
    go_light
    omega
set_option maxRecDepth 100000 in
set_option maxHeartbeats 1000000 in
theorem Qvc (w : World) (v : Value) (l : List Zk) (left : Int) (ha : rd w [v] l) (h0 : 0 ≤ left) (h1 : left ≤ 1048576) : Calls Tryz.prog 58 #[v, .int .i64 left] w (Qdi w (GoD.size l) left) := by
  obtain ⟨oa, cap, e1, hl, hm, hel⟩ := ha
  obtain rfl : v = _ := by simpa using e1
  clear e1
  have HE := Lib.hid hel; clear hel
  unfold maxLen at hm
  have hlm : l.length ≤ 9223372036854775807 := by omega
  have hsz : GoD.size l = l.length + (l.map GoD.size).sum := rfl
  have HSZ := Lib.hid hsz; clear hsz
  by_cases hneg : left - l.length < 0
  · go_enter Tryz.func58, Tryz.ntmps58
    go_wp2
    go_ret
    refine ⟨_, rfl, ?_, Below.refl _ _⟩
    rw [HSZ.out]
    unfold szq
    omega
  · go_enter Tryz.func58, Tryz.ntmps58
    go_wp2
    go_loopw [1, 5] (fun q i wr => ∃ (k : Nat) (r : Int), k ≤ l.length ∧ i = .int .i64 k ∧ q = .int .i64 r ∧ 0 ≤ r ∧ r ≤ 1048576 ∧ Hid (r = left - l.length - ((l.take k).map GoD.size).sum) ∧ Below w.heap.size w wr) (fun _ i _ => l.length - (intOf i).toNat)
    case atStart => exact ⟨0, _, Nat.zero_le _, rfl, rfl, by omega, by omega, by show _ = _; simp, Below.refl _ _⟩
    case round =>
      obtain ⟨k, r, hk, rfl, rfl, hr0, hr1, HR, hB⟩ := hrel
      by_cases hkl : k < l.length
      · have hx := List.getElem?_eq_getElem hkl
        obtain ⟨eb, eo, ee, rfl, hcl, hcc, hxr⟩ := HE.out k _ hx
        have HT := Lib.hid (Qdj hx)
        have HU := Lib.hid (Qak hx)
        clear hx
        generalize l[k] = x at *
        obtain ⟨x0, x1, x2, rfl⟩ := Qvj (show _ = 3 from hcl)
        have p0 : wr.cell? ⟨eb, eo + k * 3, none⟩ = some x0 := (hB.cell (World.block_lt_of_cell? w _ (hcc 0 _ rfl))).trans (hcc 0 _ rfl)
        have p1 : wr.cell? ⟨eb, eo + k * 3 + 1, none⟩ = some x1 := (hB.cell (World.block_lt_of_cell? w _ (hcc 1 _ rfl))).trans (hcc 1 _ rfl)
        have p2 : wr.cell? ⟨eb, eo + k * 3 + 2, none⟩ = some x2 := (hB.cell (World.block_lt_of_cell? w _ (hcc 2 _ rfl))).trans (hcc 2 _ rfl)
        have HXR := Lib.hid hxr; clear hxr hcc hcl
        go_wp2_with (go_at_call 106; refine Uk (w := w) (szEvent_c _ [x0, x1, x2] x _ (Q3 HXR.out hB) (by omega) (by omega)) (by go_grown) ?_; intro w2 r2 hB2 hb hz hz2 hr2 hs; have HR2 := Lib.hid hr2; clear hr2 hb)
        · go_ret
          refine ⟨_, rfl, ?_, by go_grown⟩
          have u1 := HU.out; have u2 := HR2.out; have u3 := HR.out
          rw [HSZ.out]
          unfold szq at *
          go_light
          omega
        · go_roundw
          case rel => exact ⟨k + 1, _, by omega, by go_num, rfl, by omega, by omega, by
          show _ = _
          have u1 := HT.out; have u2 := HR2.out; have u3 := HR.out
          unfold szq at *
          rw [u1]
          omega, by go_grown⟩
          case measure => simp [intOf]; omega
      · obtain rfl : k = l.length := by omega
        go_wp2
        go_ret
        refine ⟨_, rfl, ?_, hB⟩
        have u3 := HR.out
        rw [List.take_length] at u3
        rw [HSZ.out]
        unfold szq
        omega
set_option maxRecDepth 100000 in
set_option maxHeartbeats 1000000 in
theorem Qvd (w : World) (v : Value) (l : List Jr) (left : Int) (ha : rd w [v] l) (h0 : 0 ≤ left) (h1 : left ≤ 1048576) : Calls Tryz.prog 34 #[v, .int .i64 left] w (Qdi w (GoD.size l) left) := by
  obtain ⟨oa, cap, e1, hl, hm, hel⟩ := ha
  obtain rfl : v = _ := by simpa using e1
  clear e1
  have HE := Lib.hid hel; clear hel
  unfold maxLen at hm
  have hlm : l.length ≤ 9223372036854775807 := by omega
  have hsz : GoD.size l = l.length + (l.map GoD.size).sum := rfl
  have HSZ := Lib.hid hsz; clear hsz
  by_cases hneg : left - l.length < 0
  · go_enter Tryz.func34, Tryz.ntmps34
    go_wp2
    go_ret
    refine ⟨_, rfl, ?_, Below.refl _ _⟩
    rw [HSZ.out]
    unfold szq
    omega
  · go_enter Tryz.func34, Tryz.ntmps34
    go_wp2
    go_loopw [1, 5] (fun q i wr => ∃ (k : Nat) (r : Int), k ≤ l.length ∧ i = .int .i64 k ∧ q = .int .i64 r ∧ 0 ≤ r ∧ r ≤ 1048576 ∧ Hid (r = left - l.length - ((l.take k).map GoD.size).sum) ∧ Below w.heap.size w wr) (fun _ i _ => l.length - (intOf i).toNat)
    case atStart => exact ⟨0, _, Nat.zero_le _, rfl, rfl, by omega, by omega, by show _ = _; simp, Below.refl _ _⟩
    case round =>
      obtain ⟨k, r, hk, rfl, rfl, hr0, hr1, HR, hB⟩ := hrel
      by_cases hkl : k < l.length
      · have hx := List.getElem?_eq_getElem hkl
        obtain ⟨eb, eo, ee, rfl, hcl, hcc, hxr⟩ := HE.out k _ hx
        have HT := Lib.hid (Qdj hx)
        have HU := Lib.hid (Qak hx)
        clear hx
        generalize l[k] = x at *
        obtain ⟨x0, x1, rfl⟩ := Qi1 (show _ = 2 from hcl)
        have p0 : wr.cell? ⟨eb, eo + k * 2, none⟩ = some x0 := (hB.cell (World.block_lt_of_cell? w _ (hcc 0 _ rfl))).trans (hcc 0 _ rfl)
        have p1 : wr.cell? ⟨eb, eo + k * 2 + 1, none⟩ = some x1 := (hB.cell (World.block_lt_of_cell? w _ (hcc 1 _ rfl))).trans (hcc 1 _ rfl)
        have HXR := Lib.hid hxr; clear hxr hcc hcl
        go_wp2_with (go_at_call 83; refine Uk (w := w) (szField_c _ [x0, x1] x _ (Q3 HXR.out hB) (by omega) (by omega)) (by go_grown) ?_; intro w2 r2 hB2 hb hz hz2 hr2 hs; have HR2 := Lib.hid hr2; clear hr2 hb)
        · go_ret
          refine ⟨_, rfl, ?_, by go_grown⟩
          have u1 := HU.out; have u2 := HR2.out; have u3 := HR.out
          rw [HSZ.out]
          unfold szq at *
          go_light
          omega
        · go_roundw
          case rel => exact ⟨k + 1, _, by omega, by go_num, rfl, by omega, by omega, by
          show _ = _
          have u1 := HT.out; have u2 := HR2.out; have u3 := HR.out
          unfold szq at *
          rw [u1]
          omega, by go_grown⟩
          case measure => simp [intOf]; omega
      · obtain rfl : k = l.length := by omega
        go_wp2
        go_ret
        refine ⟨_, rfl, ?_, hB⟩
        have u3 := HR.out
        rw [List.take_length] at u3
        rw [HSZ.out]
        unfold szq
        omega
set_option maxRecDepth 100000 in
set_option maxHeartbeats 1000000 in
theorem Qqh (w : World) (ca : List Value) (a : X7) (left : Int) (ha : rd w ca a) (h0 : 0 ≤ left) (h1 : left ≤ 1048576) : Calls Tryz.prog 7 #[.agg ca.toArray, .int .i64 left] w (Qdi w (GoD.size a) left) := by
  obtain ⟨a1, a2, a3⟩ := a
  obtain ⟨ac1, at1, rfl, ar1, ac2, at2, rfl, ar2, ar3⟩ := ha
  obtain ⟨ax1_0, rfl⟩ := U6 (show _ = 1 from GoD.rd_len ar1)
  obtain ⟨ax2_0, rfl⟩ := U6 (show _ = 1 from GoD.rd_len ar2)
  obtain ⟨rfl, ar3⟩ := ar3
  dsimp only [List.cons_append, List.nil_append] at *
  have AR1H := Lib.hid ar1; clear ar1
  have AR2H := Lib.hid ar2; clear ar2
  clear ar3
  have tok1 : True := trivial
  have tok2 : True := trivial
  have hsz : GoD.size (a1, a2, a3) = (GoD.size a1 + (GoD.size a2 + 0)) := rfl
  have HSZ := Lib.hid hsz; clear hsz
  go_enter Tryz.func7, Tryz.ntmps7
  go_wp2_with (first | (go_at_call 34; have tk := tok1; clear tok1; refine Uk (w := w) (Qvd _ ax1_0 a1 _ (Q3 AR1H.out (by go_grown)) (by omega) (by omega)) (by go_grown) ?_; intro w1 r1 hB hb hz hz2 hr hs; have HR1 := Lib.hid hr; clear hr; (repeat (first | rewrite [World.size_alloc] at hz2 | rewrite [World.size_setCell] at hz2 | rewrite [World.size_drew] at hz2)); have c0 := fun o => Z4 hb (w.heap.size) o (by go_size); clear hb) | (go_at_call 35; have tk := tok2; clear tok2; refine Uk (w := w) (szFileS_c _ ax2_0 a2 _ (Q3 AR2H.out (by go_grown)) (by omega) (by omega)) (by go_grown) ?_; intro w2 r2 hB hb hz hz2 hr hs; have HR2 := Lib.hid hr; clear hr; (repeat (first | rewrite [World.size_alloc] at hz2 | rewrite [World.size_setCell] at hz2 | rewrite [World.size_drew] at hz2)); have c0 := fun o => Z4 hb (w.heap.size) o (by go_size); clear hb))
  all_goals
    go_ret
    refine ⟨_, rfl, ?_, by go_grown⟩
    rw [HSZ.out]
    unfold szq
    (try have u1 := HR1.out)
    (try have u2 := HR2.out)
    (try unfold szq at *)
    go_light
    omega
set_option maxRecDepth 100000 in
set_option maxHeartbeats 1000000 in
theorem Qqi (w : World) (ca : List Value) (a : Jl) (left : Int) (ha : rd w ca a) (h0 : 0 ≤ left) (h1 : left ≤ 1048576) : Calls Tryz.prog 25 #[.agg ca.toArray, .int .i64 left] w (Qdi w (GoD.size a) left) := by
  obtain ⟨a1, a2, a3, a4⟩ := a
  obtain ⟨ac1, at1, rfl, ar1, ac2, at2, rfl, ar2, ac3, at3, rfl, ar3, ar4⟩ := ha
  obtain ⟨rfl, ar1⟩ := ar1
  obtain ⟨rfl, ar2⟩ := ar2
  obtain ⟨ax3_0, rfl⟩ := U6 (show _ = 1 from GoD.rd_len ar3)
  obtain ⟨ax4_0, rfl⟩ := U6 (show _ = 1 from GoD.rd_len ar4)
  dsimp only [List.cons_append, List.nil_append] at *
  clear ar1
  unfold maxLen at ar2
  have ar2 : a2.size ≤ 9223372036854775807 := by omega
  have AR3H := Lib.hid ar3; clear ar3
  have AR4H := Lib.hid ar4; clear ar4
  have tok1 : True := trivial
  have tok2 : True := trivial
  have hsz : GoD.size (a1, a2, a3, a4) = (0 + (a2.size + (GoD.size a3 + GoD.size a4))) := rfl
  have HSZ := Lib.hid hsz; clear hsz
  go_enter Tryz.func25, Tryz.ntmps25
  go_wp2_with (first | (go_at_call 57; have tk := tok1; clear tok1; refine Uk (w := w) (Qn9 _ ax3_0 a3 _ (Q3 AR3H.out (by go_grown)) (by omega) (by omega)) (by go_grown) ?_; intro w1 r1 hB hb hz hz2 hr hs; have HR1 := Lib.hid hr; clear hr; (repeat (first | rewrite [World.size_alloc] at hz2 | rewrite [World.size_setCell] at hz2 | rewrite [World.size_drew] at hz2)); have c0 := fun o => Z4 hb (w.heap.size) o (by go_size); clear hb) | (go_at_call 58; have tk := tok2; clear tok2; refine Uk (w := w) (Qvc _ ax4_0 a4 _ (Q3 AR4H.out (by go_grown)) (by omega) (by omega)) (by go_grown) ?_; intro w2 r2 hB hb hz hz2 hr hs; have HR2 := Lib.hid hr; clear hr; (repeat (first | rewrite [World.size_alloc] at hz2 | rewrite [World.size_setCell] at hz2 | rewrite [World.size_drew] at hz2)); have c0 := fun o => Z4 hb (w.heap.size) o (by go_size); clear hb))
  all_goals
    go_ret
    refine ⟨_, rfl, ?_, by go_grown⟩
    rw [HSZ.out]
    unfold szq
    (try have u1 := HR1.out)
    (try have u2 := HR2.out)
    (try unfold szq at *)
    go_light
    omega
end Go.Proofs.YtnhmnfmhnepjmaaGreat
namespace Go.Proofs.YtnhmnfmhnepjmaaGreat
open Go.RowKit
open GoD (rd own)
set_option maxHeartbeats 1000000 in
theorem Qoa (w : World) (sa sb : Value) (la lb : List Int) (ha : rd w [sa] la) (hb : rd w [sb] lb) : Calls Tryz.prog 13 #[sa, sb] w (Ret w (.bool (eqb la lb))) := by
  obtain ⟨oa, capa, e1, hl1, hm1, hel1⟩ := ha
  obtain ⟨ob, capb, e2, hl2, hm2, hel2⟩ := hb
  obtain rfl : sa = _ := by simpa using e1
  obtain rfl : sb = _ := by simpa using e2
  clear e1 e2
  have HE1 := Lib.hid hel1; clear hel1
  have HE2 := Lib.hid hel2; clear hel2
  unfold maxLen at hm1 hm2
  have hma : la.length ≤ 9223372036854775807 := by omega
  have hmb : lb.length ≤ 9223372036854775807 := by omega
  by_cases hlen : la.length = lb.length
  · have hne : ((la.length : Int) != (lb.length : Int)) = false := by simp [hlen]
    generalize hr : eqb la lb = r
    have Hr := Lib.hid hr; clear hr
    have Hlen := Lib.hid hlen; clear hlen
    have es := Hz
    go_enter Tryz.func13, Tryz.ntmps13
    go_wp2
    go_loopw [5] (fun i wr => ∃ k : Nat, k ≤ la.length ∧ i = .int .i64 k ∧ Hid (la.take k = lb.take k) ∧ Below w.heap.size w wr) (fun i _ => la.length - (intOf i).toNat)
    case atStart => exact ⟨0, Nat.zero_le _, rfl, rfl, Below.refl _ _⟩
    case round =>
      obtain ⟨k, hk, rfl, htk, hB⟩ := hrel
      by_cases hlt : k < la.length
      · have hltb : k < lb.length := by have := Hlen.out; omega
        obtain ⟨ba, fa, ea, rfl, hla, hca, hra⟩ := HE1.out k _ (List.getElem?_eq_getElem hlt)
        obtain ⟨bb, fb, eb, rfl, hlb, hcb, hrb⟩ := HE2.out k _ (List.getElem?_eq_getElem hltb)
        have Hno := Lib.hid (Qj5 (List.getElem?_eq_getElem hlt) (List.getElem?_eq_getElem hltb))
        have Hyes := Lib.hid (Qdv htk.out (List.getElem?_eq_getElem hlt) (List.getElem?_eq_getElem hltb))
        generalize la[k] = xa at *
        generalize lb[k] = xb at *
        obtain ⟨x0, rfl⟩ := U6 (show _ = 1 from hla)
        obtain ⟨y0, rfl⟩ := U6 (show _ = 1 from hlb)
        have e3 : x0 = .int .i64 xa := by rcases hra with ⟨e, _⟩; simpa using e
        have e4 : y0 = .int .i64 xb := by rcases hrb with ⟨e, _⟩; simpa using e
        subst e3 e4
        have qba0 : w.cell? ⟨ba, fa + k, none⟩ = some _ := (by simpa [GoD.n] using hca 0 _ rfl)
        have pba0 := fun d os => cell_regrown ((hB.cell (World.block_lt_of_cell? w _ qba0)).trans qba0) d os
        clear qba0
        have qbb0 : w.cell? ⟨bb, fb + k, none⟩ = some _ := (by simpa [GoD.n] using hcb 0 _ rfl)
        have pbb0 := fun d os => cell_regrown ((hB.cell (World.block_lt_of_cell? w _ qbb0)).trans qbb0) d os
        clear qbb0
        clear hca hcb hra hrb hla hlb
        go_wp2
        refine wp_region_quiet_below (by kernel_rfl) (by kernel_rfl) ?_
        repeat (quiet_step (fail))
        refine wpQuiet_nil ?_
        intro _ hw'
        obtain ⟨⟨dq, osq⟩, hw''⟩ := hw'
        subst hw''
        have hB2 := hB.trans ((below_regrown wr dq osq).mono hB.size)
        go_wp2
        · go_ret
          obtain rfl : r = false := Hr.out.symm.trans (Hno.out (by go_light; clear es; simp_all [We, Kk]))
          exact ⟨rfl, hB2⟩
        · go_roundw
          case rel => exact ⟨k + 1, by omega, by go_num, Hyes.out (by go_light; clear es; simp_all [We, Kk]), hB2⟩
          case measure => simp [intOf]; omega
      · obtain rfl : k = la.length := by omega
        have Hy := Lib.hid (Qfu htk.out (by have := Hlen.out; omega))
        go_wp2
        go_ret
        obtain rfl : r = true := Hr.out.symm.trans Hy.out
        exact ⟨rfl, hB⟩
  · have hne : ((la.length : Int) != (lb.length : Int)) = true := by simp; omega
    generalize hr : eqb la lb = r
    have Hr := Lib.hid hr; clear hr
    have Hn := Lib.hid (Qfv hlen); clear hlen
    go_enter Tryz.func13, Tryz.ntmps13
    go_wp2
    go_ret
    obtain rfl : r = false := Hr.out.symm.trans Hn.out
    exact ⟨rfl, Below.refl _ _⟩
set_option maxHeartbeats 1000000 in
theorem eqEvent_c (w : World) (ca cb : List Value) (a b : Zk) (ha : rd w ca a) (hb : rd w cb b) : Calls Tryz.prog 105 #[.agg ca.toArray, .agg cb.toArray] w (Ret w (.bool (eqb a b))) := by
  obtain ⟨a1, a2, a3⟩ := a
  obtain ⟨ac1, at1, rfl, ar1, ac2, at2, rfl, ar2, ar3⟩ := ha
  obtain ⟨rfl, ar1⟩ := ar1
  obtain ⟨ax2_0, rfl⟩ := U6 (show _ = 1 from GoD.rd_len ar2)
  obtain ⟨ax3_0, rfl⟩ := U6 (show _ = 1 from GoD.rd_len ar3)
  obtain ⟨b1, b2, b3⟩ := b
  obtain ⟨bc1, bt1, rfl, br1, bc2, bt2, rfl, br2, br3⟩ := hb
  obtain ⟨rfl, br1⟩ := br1
  obtain ⟨bx2_0, rfl⟩ := U6 (show _ = 1 from GoD.rd_len br2)
  obtain ⟨bx3_0, rfl⟩ := U6 (show _ = 1 from GoD.rd_len br3)
  dsimp only [List.cons_append, List.nil_append] at *
  generalize hr : eqb (a1, a2, a3) (b1, b2, b3) = r
  have Hr := Lib.hid hr; clear hr
  have es := Hz
  clear ar1 br1
  have AR2H := Lib.hid ar2; clear ar2
  have BR2H := Lib.hid br2; clear br2
  have AR3H := Lib.hid ar3; clear ar3
  have BR3H := Lib.hid br3; clear br3
  have tok1 : True := trivial
  have tok2 : True := trivial
  go_enter Tryz.func105, Tryz.ntmps105
  go_wp2_with (first | (go_at_call 13; have tk := tok1; clear tok1; (refine U1 (w := w) (Qoa _ ax2_0 bx2_0 a2 b2 (Q3 AR2H.out (by go_grown)) (Q3 BR2H.out (by go_grown))) (by go_grown) ?_; intro w' hB hb hz hz2; (repeat (first | rewrite [World.size_alloc] at hz2 | rewrite [World.size_setCell] at hz2 | rewrite [World.size_drew] at hz2)); have c0 := fun o => Z4 hb (w.heap.size) o (by go_size); have c1 := fun o => Z4 hb (w.heap.size + 1) o (by go_size))) | (go_at_call 13; have tk := tok2; clear tok2; (refine U1 (w := w) (Qoa _ ax3_0 bx3_0 a3 b3 (Q3 AR3H.out (by go_grown)) (Q3 BR3H.out (by go_grown))) (by go_grown) ?_; intro w' hB hb hz hz2; (repeat (first | rewrite [World.size_alloc] at hz2 | rewrite [World.size_setCell] at hz2 | rewrite [World.size_drew] at hz2)); have c0 := fun o => Z4 hb (w.heap.size) o (by go_size); have c1 := fun o => Z4 hb (w.heap.size + 1) o (by go_size))))
  all_goals
    go_ret
    refine ⟨?_, by go_grown⟩
    rw [← Hr.out]
    go_light
    clear es
    simp_all [Qb9, We, Kk]
set_option maxHeartbeats 1000000 in
theorem Qve (w : World) (sa sb : Value) (la lb : List Zk) (ha : rd w [sa] la) (hb : rd w [sb] lb) : Calls Tryz.prog 54 #[sa, sb] w (Ret w (.bool (eqb la lb))) := by
  obtain ⟨oa, capa, e1, hl1, hm1, hel1⟩ := ha
  obtain ⟨ob, capb, e2, hl2, hm2, hel2⟩ := hb
  obtain rfl : sa = _ := by simpa using e1
  obtain rfl : sb = _ := by simpa using e2
  clear e1 e2
  have HE1 := Lib.hid hel1; clear hel1
  have HE2 := Lib.hid hel2; clear hel2
  unfold maxLen at hm1 hm2
  have hma : la.length ≤ 9223372036854775807 := by omega
  have hmb : lb.length ≤ 9223372036854775807 := by omega
  by_cases hlen : la.length = lb.length
  · have hne : ((la.length : Int) != (lb.length : Int)) = false := by simp [hlen]
    generalize hr : eqb la lb = r
    have Hr := Lib.hid hr; clear hr
    have Hlen := Lib.hid hlen; clear hlen
    have es := Hz
    go_enter Tryz.func54, Tryz.ntmps54
    go_wp2
    go_loopw [5] (fun i wr => ∃ k : Nat, k ≤ la.length ∧ i = .int .i64 k ∧ Hid (la.take k = lb.take k) ∧ Below w.heap.size w wr) (fun i _ => la.length - (intOf i).toNat)
    case atStart => exact ⟨0, Nat.zero_le _, rfl, rfl, Below.refl _ _⟩
    case round =>
      obtain ⟨k, hk, rfl, htk, hB⟩ := hrel
      by_cases hlt : k < la.length
      · have hltb : k < lb.length := by have := Hlen.out; omega
        obtain ⟨ba, fa, ea, rfl, hla, hca, hra⟩ := HE1.out k _ (List.getElem?_eq_getElem hlt)
        obtain ⟨bb, fb, eb, rfl, hlb, hcb, hrb⟩ := HE2.out k _ (List.getElem?_eq_getElem hltb)
        have Hno := Lib.hid (Qj5 (List.getElem?_eq_getElem hlt) (List.getElem?_eq_getElem hltb))
        have Hyes := Lib.hid (Qdv htk.out (List.getElem?_eq_getElem hlt) (List.getElem?_eq_getElem hltb))
        generalize la[k] = xa at *
        generalize lb[k] = xb at *
        obtain ⟨x0, x1, x2, rfl⟩ := Qvj (show _ = 3 from hla)
        obtain ⟨y0, y1, y2, rfl⟩ := Qvj (show _ = 3 from hlb)
        have qba0 : w.cell? ⟨ba, fa + k * 3, none⟩ = some _ := hca 0 _ rfl
        have pba0 := fun d os => cell_regrown ((hB.cell (World.block_lt_of_cell? w _ qba0)).trans qba0) d os
        clear qba0
        have qba1 : w.cell? ⟨ba, fa + k * 3 + 1, none⟩ = some _ := hca 1 _ rfl
        have pba1 := fun d os => cell_regrown ((hB.cell (World.block_lt_of_cell? w _ qba1)).trans qba1) d os
        clear qba1
        have qba2 : w.cell? ⟨ba, fa + k * 3 + 2, none⟩ = some _ := hca 2 _ rfl
        have pba2 := fun d os => cell_regrown ((hB.cell (World.block_lt_of_cell? w _ qba2)).trans qba2) d os
        clear qba2
        have qbb0 : w.cell? ⟨bb, fb + k * 3, none⟩ = some _ := hcb 0 _ rfl
        have pbb0 := fun d os => cell_regrown ((hB.cell (World.block_lt_of_cell? w _ qbb0)).trans qbb0) d os
        clear qbb0
        have qbb1 : w.cell? ⟨bb, fb + k * 3 + 1, none⟩ = some _ := hcb 1 _ rfl
        have pbb1 := fun d os => cell_regrown ((hB.cell (World.block_lt_of_cell? w _ qbb1)).trans qbb1) d os
        clear qbb1
        have qbb2 : w.cell? ⟨bb, fb + k * 3 + 2, none⟩ = some _ := hcb 2 _ rfl
        have pbb2 := fun d os => cell_regrown ((hB.cell (World.block_lt_of_cell? w _ qbb2)).trans qbb2) d os
        clear qbb2
        have ra := fun d os => Q3 (Q3 hra hB) (below_regrown wr d os)
        have rb := fun d os => Q3 (Q3 hrb hB) (below_regrown wr d os)
        have Ra := Lib.hid ra
        have Rb := Lib.hid rb
        clear ra rb
        clear hca hcb hra hrb hla hlb
        go_wp2
        refine wp_region_quiet_below (by kernel_rfl) (by kernel_rfl) ?_
        repeat (quiet_step (exact Calls.regrown_of (eqEvent_c _ [x0, x1, x2] [y0, y1, y2] xa xb (Ra.out _ _) (Rb.out _ _))))
        refine wpQuiet_nil ?_
        intro _ hw'
        obtain ⟨⟨dq, osq⟩, hw''⟩ := hw'
        subst hw''
        have hB2 := hB.trans ((below_regrown wr dq osq).mono hB.size)
        go_wp2
        · go_ret
          obtain rfl : r = false := Hr.out.symm.trans (Hno.out (by go_light; clear es; simp_all [We, Kk]))
          exact ⟨rfl, hB2⟩
        · go_roundw
          case rel => exact ⟨k + 1, by omega, by go_num, Hyes.out (by go_light; clear es; simp_all [We, Kk]), hB2⟩
          case measure => simp [intOf]; omega
      · obtain rfl : k = la.length := by omega
        have Hy := Lib.hid (Qfu htk.out (by have := Hlen.out; omega))
        go_wp2
        go_ret
        obtain rfl : r = true := Hr.out.symm.trans Hy.out
        exact ⟨rfl, hB⟩
  · have hne : ((la.length : Int) != (lb.length : Int)) = true := by simp; omega
    generalize hr : eqb la lb = r
    have Hr := Lib.hid hr; clear hr
    have Hn := Lib.hid (Qfv hlen); clear hlen
    go_enter Tryz.func54, Tryz.ntmps54
    go_wp2
    go_ret
    obtain rfl : r = false := Hr.out.symm.trans Hn.out
    exact ⟨rfl, Below.refl _ _⟩
set_option maxHeartbeats 1000000 in
theorem eqWatch_c (w : World) (ca cb : List Value) (a b : Jl) (ha : rd w ca a) (hb : rd w cb b) : Calls Tryz.prog 22 #[.agg ca.toArray, .agg cb.toArray] w (Ret w (.bool (eqb a b))) := by
  obtain ⟨a1, a2, a3, a4⟩ := a
  obtain ⟨ac1, at1, rfl, ar1, ac2, at2, rfl, ar2, ac3, at3, rfl, ar3, ar4⟩ := ha
  obtain ⟨rfl, ar1⟩ := ar1
  obtain ⟨rfl, ar2⟩ := ar2
  obtain ⟨ax3_0, rfl⟩ := U6 (show _ = 1 from GoD.rd_len ar3)
  obtain ⟨ax4_0, rfl⟩ := U6 (show _ = 1 from GoD.rd_len ar4)
  obtain ⟨b1, b2, b3, b4⟩ := b
  obtain ⟨bc1, bt1, rfl, br1, bc2, bt2, rfl, br2, bc3, bt3, rfl, br3, br4⟩ := hb
  obtain ⟨rfl, br1⟩ := br1
  obtain ⟨rfl, br2⟩ := br2
  obtain ⟨bx3_0, rfl⟩ := U6 (show _ = 1 from GoD.rd_len br3)
  obtain ⟨bx4_0, rfl⟩ := U6 (show _ = 1 from GoD.rd_len br4)
  dsimp only [List.cons_append, List.nil_append] at *
  generalize hr : eqb (a1, a2, a3, a4) (b1, b2, b3, b4) = r
  have Hr := Lib.hid hr; clear hr
  have es := Hz
  clear ar1 br1
  clear ar2 br2
  have AR3H := Lib.hid ar3; clear ar3
  have BR3H := Lib.hid br3; clear br3
  have AR4H := Lib.hid ar4; clear ar4
  have BR4H := Lib.hid br4; clear br4
  have tok1 : True := trivial
  have tok2 : True := trivial
  go_enter Tryz.func22, Tryz.ntmps22
  go_wp2_with (first | (go_at_call 13; have tk := tok1; clear tok1; (refine U1 (w := w) (Qoa _ ax3_0 bx3_0 a3 b3 (Q3 AR3H.out (by go_grown)) (Q3 BR3H.out (by go_grown))) (by go_grown) ?_; intro w' hB hb hz hz2; (repeat (first | rewrite [World.size_alloc] at hz2 | rewrite [World.size_setCell] at hz2 | rewrite [World.size_drew] at hz2)); have c0 := fun o => Z4 hb (w.heap.size) o (by go_size); have c1 := fun o => Z4 hb (w.heap.size + 1) o (by go_size))) | (go_at_call 54; have tk := tok2; clear tok2; (refine U1 (w := w) (Qve _ ax4_0 bx4_0 a4 b4 (Q3 AR4H.out (by go_grown)) (Q3 BR4H.out (by go_grown))) (by go_grown) ?_; intro w' hB hb hz hz2; (repeat (first | rewrite [World.size_alloc] at hz2 | rewrite [World.size_setCell] at hz2 | rewrite [World.size_drew] at hz2)); have c0 := fun o => Z4 hb (w.heap.size) o (by go_size); have c1 := fun o => Z4 hb (w.heap.size + 1) o (by go_size))))
  all_goals
    go_ret
    refine ⟨?_, by go_grown⟩
    rw [← Hr.out]
    go_light
    clear es
    simp_all [Qb9, We, Kk]
set_option maxHeartbeats 1000000 in
theorem eqField_c (w : World) (ca cb : List Value) (a b : Jr) (ha : rd w ca a) (hb : rd w cb b) : Calls Tryz.prog 99 #[.agg ca.toArray, .agg cb.toArray] w (Ret w (.bool (eqb a b))) := by
  obtain ⟨a1, a2⟩ := a
  obtain ⟨ac1, at1, rfl, ar1, ar2⟩ := ha
  obtain ⟨rfl, ar1⟩ := ar1
  obtain ⟨rfl, ar2⟩ := ar2
  obtain ⟨b1, b2⟩ := b
  obtain ⟨bc1, bt1, rfl, br1, br2⟩ := hb
  obtain ⟨rfl, br1⟩ := br1
  obtain ⟨rfl, br2⟩ := br2
  dsimp only [List.cons_append, List.nil_append] at *
  generalize hr : eqb (a1, a2) (b1, b2) = r
  have Hr := Lib.hid hr; clear hr
  have es := Hz
  clear ar1 br1
  clear ar2 br2
  go_enter Tryz.func99, Tryz.ntmps99
  go_wp2
  all_goals
    go_ret
    refine ⟨?_, by go_grown⟩
    rw [← Hr.out]
    go_light
    clear es
    simp_all [Qb9, We, Kk]
set_option maxHeartbeats 1000000 in
theorem Qvf (w : World) (sa sb : Value) (la lb : List Jr) (ha : rd w [sa] la) (hb : rd w [sb] lb) : Calls Tryz.prog 45 #[sa, sb] w (Ret w (.bool (eqb la lb))) := by
  obtain ⟨oa, capa, e1, hl1, hm1, hel1⟩ := ha
  obtain ⟨ob, capb, e2, hl2, hm2, hel2⟩ := hb
  obtain rfl : sa = _ := by simpa using e1
  obtain rfl : sb = _ := by simpa using e2
  clear e1 e2
  have HE1 := Lib.hid hel1; clear hel1
  have HE2 := Lib.hid hel2; clear hel2
  unfold maxLen at hm1 hm2
  have hma : la.length ≤ 9223372036854775807 := by omega
  have hmb : lb.length ≤ 9223372036854775807 := by omega
  by_cases hlen : la.length = lb.length
  · have hne : ((la.length : Int) != (lb.length : Int)) = false := by simp [hlen]
    generalize hr : eqb la lb = r
    have Hr := Lib.hid hr; clear hr
    have Hlen := Lib.hid hlen; clear hlen
    have es := Hz
    go_enter Tryz.func45, Tryz.ntmps45
    go_wp2
    go_loopw [5] (fun i wr => ∃ k : Nat, k ≤ la.length ∧ i = .int .i64 k ∧ Hid (la.take k = lb.take k) ∧ Below w.heap.size w wr) (fun i _ => la.length - (intOf i).toNat)
    case atStart => exact ⟨0, Nat.zero_le _, rfl, rfl, Below.refl _ _⟩
    case round =>
      obtain ⟨k, hk, rfl, htk, hB⟩ := hrel
      by_cases hlt : k < la.length
      · have hltb : k < lb.length := by have := Hlen.out; omega
        obtain ⟨ba, fa, ea, rfl, hla, hca, hra⟩ := HE1.out k _ (List.getElem?_eq_getElem hlt)
        obtain ⟨bb, fb, eb, rfl, hlb, hcb, hrb⟩ := HE2.out k _ (List.getElem?_eq_getElem hltb)
        have Hno := Lib.hid (Qj5 (List.getElem?_eq_getElem hlt) (List.getElem?_eq_getElem hltb))
        have Hyes := Lib.hid (Qdv htk.out (List.getElem?_eq_getElem hlt) (List.getElem?_eq_getElem hltb))
        generalize la[k] = xa at *
        generalize lb[k] = xb at *
        obtain ⟨x0, x1, rfl⟩ := Qi1 (show _ = 2 from hla)
        obtain ⟨y0, y1, rfl⟩ := Qi1 (show _ = 2 from hlb)
        have qba0 : w.cell? ⟨ba, fa + k * 2, none⟩ = some _ := hca 0 _ rfl
        have pba0 := fun d os => cell_regrown ((hB.cell (World.block_lt_of_cell? w _ qba0)).trans qba0) d os
        clear qba0
        have qba1 : w.cell? ⟨ba, fa + k * 2 + 1, none⟩ = some _ := hca 1 _ rfl
        have pba1 := fun d os => cell_regrown ((hB.cell (World.block_lt_of_cell? w _ qba1)).trans qba1) d os
        clear qba1
        have qbb0 : w.cell? ⟨bb, fb + k * 2, none⟩ = some _ := hcb 0 _ rfl
        have pbb0 := fun d os => cell_regrown ((hB.cell (World.block_lt_of_cell? w _ qbb0)).trans qbb0) d os
        clear qbb0
        have qbb1 : w.cell? ⟨bb, fb + k * 2 + 1, none⟩ = some _ := hcb 1 _ rfl
        have pbb1 := fun d os => cell_regrown ((hB.cell (World.block_lt_of_cell? w _ qbb1)).trans qbb1) d os
        clear qbb1
        have ra := fun d os => Q3 (Q3 hra hB) (below_regrown wr d os)
        have rb := fun d os => Q3 (Q3 hrb hB) (below_regrown wr d os)
        have Ra := Lib.hid ra
        have Rb := Lib.hid rb
        clear ra rb
        clear hca hcb hra hrb hla hlb
        go_wp2
        refine wp_region_quiet_below (by kernel_rfl) (by kernel_rfl) ?_
        repeat (quiet_step (exact Calls.regrown_of (eqField_c _ [x0, x1] [y0, y1] xa xb (Ra.out _ _) (Rb.out _ _))))
        refine wpQuiet_nil ?_
        intro _ hw'
        obtain ⟨⟨dq, osq⟩, hw''⟩ := hw'
        subst hw''
        have hB2 := hB.trans ((below_regrown wr dq osq).mono hB.size)
        go_wp2
        · go_ret
          obtain rfl : r = false := Hr.out.symm.trans (Hno.out (by go_light; clear es; simp_all [We, Kk]))
          exact ⟨rfl, hB2⟩
        · go_roundw
          case rel => exact ⟨k + 1, by omega, by go_num, Hyes.out (by go_light; clear es; simp_all [We, Kk]), hB2⟩
          case measure => simp [intOf]; omega
      · obtain rfl : k = la.length := by omega
        have Hy := Lib.hid (Qfu htk.out (by have := Hlen.out; omega))
        go_wp2
        go_ret
        obtain rfl : r = true := Hr.out.symm.trans Hy.out
        exact ⟨rfl, hB⟩
  · have hne : ((la.length : Int) != (lb.length : Int)) = true := by simp; omega
    generalize hr : eqb la lb = r
    have Hr := Lib.hid hr; clear hr
    have Hn := Lib.hid (Qfv hlen); clear hlen
    go_enter Tryz.func45, Tryz.ntmps45
    go_wp2
    go_ret
    obtain rfl : r = false := Hr.out.symm.trans Hn.out
    exact ⟨rfl, Below.refl _ _⟩
set_option maxHeartbeats 1000000 in
theorem Qqj (w : World) (ca cb : List Value) (a b : H5) (ha : rd w ca a) (hb : rd w cb b) : Calls Tryz.prog 189 #[.agg ca.toArray, .agg cb.toArray] w (Ret w (.bool (eqb a b))) := by
  obtain ⟨a1, a2, a3⟩ := a
  obtain ⟨ac1, at1, rfl, ar1, ac2, at2, rfl, ar2, ar3⟩ := ha
  obtain ⟨rfl, ar1⟩ := ar1
  obtain ⟨rfl, ar2⟩ := ar2
  obtain ⟨rfl, ar3⟩ := ar3
  obtain ⟨b1, b2, b3⟩ := b
  obtain ⟨bc1, bt1, rfl, br1, bc2, bt2, rfl, br2, br3⟩ := hb
  obtain ⟨rfl, br1⟩ := br1
  obtain ⟨rfl, br2⟩ := br2
  obtain ⟨rfl, br3⟩ := br3
  dsimp only [List.cons_append, List.nil_append] at *
  generalize hr : eqb (a1, a2, a3) (b1, b2, b3) = r
  have Hr := Lib.hid hr; clear hr
  have es := Hz
  clear ar1 br1
  clear ar2 br2
  clear ar3 br3
  go_enter Tryz.func189, Tryz.ntmps189
  go_wp2
  all_goals
    go_ret
    refine ⟨?_, by go_grown⟩
    rw [← Hr.out]
    go_light
    clear es
    simp_all [Qb9, We, Kk]
set_option maxHeartbeats 1000000 in
theorem eqAttr_c (w : World) (ca cb : List Value) (a b : Qdd) (ha : rd w ca a) (hb : rd w cb b) : Calls Tryz.prog 188 #[.agg ca.toArray, .agg cb.toArray] w (Ret w (.bool (eqb a b))) := by
  obtain ⟨a1, a2⟩ := a
  obtain ⟨ac1, at1, rfl, ar1, ar2⟩ := ha
  obtain ⟨rfl, ar1⟩ := ar1
  obtain ⟨ax2_0, ax2_1, ax2_2, rfl⟩ := Qvj (show _ = 3 from GoD.rd_len ar2)
  obtain ⟨b1, b2⟩ := b
  obtain ⟨bc1, bt1, rfl, br1, br2⟩ := hb
  obtain ⟨rfl, br1⟩ := br1
  obtain ⟨bx2_0, bx2_1, bx2_2, rfl⟩ := Qvj (show _ = 3 from GoD.rd_len br2)
  dsimp only [List.cons_append, List.nil_append] at *
  generalize hr : eqb (a1, a2) (b1, b2) = r
  have Hr := Lib.hid hr; clear hr
  have es := Hz
  clear ar1 br1
  have AR2H := Lib.hid ar2; clear ar2
  have BR2H := Lib.hid br2; clear br2
  have tok1 : True := trivial
  go_enter Tryz.func188, Tryz.ntmps188
  go_wp2_with (first | (go_at_call 189; have tk := tok1; clear tok1; (refine U1 (w := w) (Qqj _ [ax2_0, ax2_1, ax2_2] [bx2_0, bx2_1, bx2_2] a2 b2 (Q3 AR2H.out (by go_grown)) (Q3 BR2H.out (by go_grown))) (by go_grown) ?_; intro w' hB hb hz hz2; (repeat (first | rewrite [World.size_alloc] at hz2 | rewrite [World.size_setCell] at hz2 | rewrite [World.size_drew] at hz2)); have c0 := fun o => Z4 hb (w.heap.size) o (by go_size); have c1 := fun o => Z4 hb (w.heap.size + 1) o (by go_size))))
  all_goals
    go_ret
    refine ⟨?_, by go_grown⟩
    rw [← Hr.out]
    go_light
    clear es
    simp_all [Qb9, We, Kk]
set_option maxHeartbeats 1000000 in
theorem eqAttrS_c (w : World) (sa sb : Value) (la lb : List Qdd) (ha : rd w [sa] la) (hb : rd w [sb] lb) : Calls Tryz.prog 151 #[sa, sb] w (Ret w (.bool (eqb la lb))) := by
  obtain ⟨oa, capa, e1, hl1, hm1, hel1⟩ := ha
  obtain ⟨ob, capb, e2, hl2, hm2, hel2⟩ := hb
  obtain rfl : sa = _ := by simpa using e1
  obtain rfl : sb = _ := by simpa using e2
  clear e1 e2
  have HE1 := Lib.hid hel1; clear hel1
  have HE2 := Lib.hid hel2; clear hel2
  unfold maxLen at hm1 hm2
  have hma : la.length ≤ 9223372036854775807 := by omega
  have hmb : lb.length ≤ 9223372036854775807 := by omega
  by_cases hlen : la.length = lb.length
  · have hne : ((la.length : Int) != (lb.length : Int)) = false := by simp [hlen]
    generalize hr : eqb la lb = r
    have Hr := Lib.hid hr; clear hr
    have Hlen := Lib.hid hlen; clear hlen
    have es := Hz
    go_enter Tryz.func151, Tryz.ntmps151
    go_wp2
    go_loopw [5] (fun i wr => ∃ k : Nat, k ≤ la.length ∧ i = .int .i64 k ∧ Hid (la.take k = lb.take k) ∧ Below w.heap.size w wr) (fun i _ => la.length - (intOf i).toNat)
    case atStart => exact ⟨0, Nat.zero_le _, rfl, rfl, Below.refl _ _⟩
    case round =>
      obtain ⟨k, hk, rfl, htk, hB⟩ := hrel
      by_cases hlt : k < la.length
      · have hltb : k < lb.length := by have := Hlen.out; omega
        obtain ⟨ba, fa, ea, rfl, hla, hca, hra⟩ := HE1.out k _ (List.getElem?_eq_getElem hlt)
        obtain ⟨bb, fb, eb, rfl, hlb, hcb, hrb⟩ := HE2.out k _ (List.getElem?_eq_getElem hltb)
        have Hno := Lib.hid (Qj5 (List.getElem?_eq_getElem hlt) (List.getElem?_eq_getElem hltb))
        have Hyes := Lib.hid (Qdv htk.out (List.getElem?_eq_getElem hlt) (List.getElem?_eq_getElem hltb))
        generalize la[k] = xa at *
        generalize lb[k] = xb at *
        obtain ⟨x0, x1, x2, x3, rfl⟩ := len4 (show _ = 4 from hla)
        obtain ⟨y0, y1, y2, y3, rfl⟩ := len4 (show _ = 4 from hlb)
        have qba0 : w.cell? ⟨ba, fa + k * 4, none⟩ = some _ := hca 0 _ rfl
        have pba0 := fun d os => cell_regrown ((hB.cell (World.block_lt_of_cell? w _ qba0)).trans qba0) d os
        clear qba0
        have qba1 : w.cell? ⟨ba, fa + k * 4 + 1, none⟩ = some _ := hca 1 _ rfl
        have pba1 := fun d os => cell_regrown ((hB.cell (World.block_lt_of_cell? w _ qba1)).trans qba1) d os
        clear qba1
        have qba2 : w.cell? ⟨ba, fa + k * 4 + 2, none⟩ = some _ := hca 2 _ rfl
        have pba2 := fun d os => cell_regrown ((hB.cell (World.block_lt_of_cell? w _ qba2)).trans qba2) d os
        clear qba2
        have qba3 : w.cell? ⟨ba, fa + k * 4 + 3, none⟩ = some _ := hca 3 _ rfl
        have pba3 := fun d os => cell_regrown ((hB.cell (World.block_lt_of_cell? w _ qba3)).trans qba3) d os
        clear qba3
        have qbb0 : w.cell? ⟨bb, fb + k * 4, none⟩ = some _ := hcb 0 _ rfl
        have pbb0 := fun d os => cell_regrown ((hB.cell (World.block_lt_of_cell? w _ qbb0)).trans qbb0) d os
        clear qbb0
        have qbb1 : w.cell? ⟨bb, fb + k * 4 + 1, none⟩ = some _ := hcb 1 _ rfl
        have pbb1 := fun d os => cell_regrown ((hB.cell (World.block_lt_of_cell? w _ qbb1)).trans qbb1) d os
        clear qbb1
        have qbb2 : w.cell? ⟨bb, fb + k * 4 + 2, none⟩ = some _ := hcb 2 _ rfl
        have pbb2 := fun d os => cell_regrown ((hB.cell (World.block_lt_of_cell? w _ qbb2)).trans qbb2) d os
        clear qbb2
        have qbb3 : w.cell? ⟨bb, fb + k * 4 + 3, none⟩ = some _ := hcb 3 _ rfl
        have pbb3 := fun d os => cell_regrown ((hB.cell (World.block_lt_of_cell? w _ qbb3)).trans qbb3) d os
        clear qbb3
        have ra := fun d os => Q3 (Q3 hra hB) (below_regrown wr d os)
        have rb := fun d os => Q3 (Q3 hrb hB) (below_regrown wr d os)
        have Ra := Lib.hid ra
        have Rb := Lib.hid rb
        clear ra rb
        clear hca hcb hra hrb hla hlb
        go_wp2
        refine wp_region_quiet_below (by kernel_rfl) (by kernel_rfl) ?_
        repeat (quiet_step (exact Calls.regrown_of (eqAttr_c _ [x0, x1, x2, x3] [y0, y1, y2, y3] xa xb (Ra.out _ _) (Rb.out _ _))))
        refine wpQuiet_nil ?_
        intro _ hw'
        obtain ⟨⟨dq, osq⟩, hw''⟩ := hw'
        subst hw''
        have hB2 := hB.trans ((below_regrown wr dq osq).mono hB.size)
        go_wp2
        · go_ret
          obtain rfl : r = false := Hr.out.symm.trans (Hno.out (by go_light; clear es; simp_all [We, Kk]))
          exact ⟨rfl, hB2⟩
        · go_roundw
          case rel => exact ⟨k + 1, by omega, by go_num, Hyes.out (by go_light; clear es; simp_all [We, Kk]), hB2⟩
          case measure => simp [intOf]; omega
      · obtain rfl : k = la.length := by omega
        have Hy := Lib.hid (Qfu htk.out (by have := Hlen.out; omega))
        go_wp2
        go_ret
        obtain rfl : r = true := Hr.out.symm.trans Hy.out
        exact ⟨rfl, hB⟩
  · have hne : ((la.length : Int) != (lb.length : Int)) = true := by simp; omega
    generalize hr : eqb la lb = r
    have Hr := Lib.hid hr; clear hr
    have Hn := Lib.hid (Qfv hlen); clear hlen
    go_enter Tryz.func151, Tryz.ntmps151
    go_wp2
    go_ret
    obtain rfl : r = false := Hr.out.symm.trans Hn.out
    exact ⟨rfl, Below.refl _ _⟩
set_option maxHeartbeats 1000000 in
theorem eqFile_c (w : World) (ca cb : List Value) (a b : Yt) (ha : rd w ca a) (hb : rd w cb b) : Calls Tryz.prog 100 #[.agg ca.toArray, .agg cb.toArray] w (Ret w (.bool (eqb a b))) := by
  obtain ⟨a1, a2, a3, a4, a5⟩ := a
  obtain ⟨ac1, at1, rfl, ar1, ac2, at2, rfl, ar2, ac3, at3, rfl, ar3, ac4, at4, rfl, ar4, ar5⟩ := ha
  obtain ⟨rfl, ar1⟩ := ar1
  obtain ⟨rfl, ar2⟩ := ar2
  obtain rfl := ar3
  obtain ⟨rfl, ar4⟩ := ar4
  obtain ⟨ax5_0, rfl⟩ := U6 (show _ = 1 from GoD.rd_len ar5)
  obtain ⟨b1, b2, b3, b4, b5⟩ := b
  obtain ⟨bc1, bt1, rfl, br1, bc2, bt2, rfl, br2, bc3, bt3, rfl, br3, bc4, bt4, rfl, br4, br5⟩ := hb
  obtain ⟨rfl, br1⟩ := br1
  obtain ⟨rfl, br2⟩ := br2
  obtain rfl := br3
  obtain ⟨rfl, br4⟩ := br4
  obtain ⟨bx5_0, rfl⟩ := U6 (show _ = 1 from GoD.rd_len br5)
  dsimp only [List.cons_append, List.nil_append] at *
  generalize hr : eqb (a1, a2, a3, a4, a5) (b1, b2, b3, b4, b5) = r
  have Hr := Lib.hid hr; clear hr
  have es := Hz
  clear ar1 br1
  clear ar2 br2
  clear ar4 br4
  have AR5H := Lib.hid ar5; clear ar5
  have BR5H := Lib.hid br5; clear br5
  have tok1 : True := trivial
  go_enter Tryz.func100, Tryz.ntmps100
  go_wp2_with (first | (go_at_call 151; have tk := tok1; clear tok1; (refine U1 (w := w) (eqAttrS_c _ ax5_0 bx5_0 a5 b5 (Q3 AR5H.out (by go_grown)) (Q3 BR5H.out (by go_grown))) (by go_grown) ?_; intro w' hB hb hz hz2; (repeat (first | rewrite [World.size_alloc] at hz2 | rewrite [World.size_setCell] at hz2 | rewrite [World.size_drew] at hz2)); have c0 := fun o => Z4 hb (w.heap.size) o (by go_size); have c1 := fun o => Z4 hb (w.heap.size + 1) o (by go_size))))
  all_goals
    go_ret
    refine ⟨?_, by go_grown⟩
    rw [← Hr.out]
    go_light
    clear es
    simp_all [Qb9, We, Kk]
set_option maxHeartbeats 1000000 in
theorem eqFileS_c (w : World) (sa sb : Value) (la lb : List Yt) (ha : rd w [sa] la) (hb : rd w [sb] lb) : Calls Tryz.prog 46 #[sa, sb] w (Ret w (.bool (eqb la lb))) := by
  obtain ⟨oa, capa, e1, hl1, hm1, hel1⟩ := ha
  obtain ⟨ob, capb, e2, hl2, hm2, hel2⟩ := hb
  obtain rfl : sa = _ := by simpa using e1
  obtain rfl : sb = _ := by simpa using e2
  clear e1 e2
  have HE1 := Lib.hid hel1; clear hel1
  have HE2 := Lib.hid hel2; clear hel2
  unfold maxLen at hm1 hm2
  have hma : la.length ≤ 9223372036854775807 := by omega
  have hmb : lb.length ≤ 9223372036854775807 := by omega
  by_cases hlen : la.length = lb.length
  · have hne : ((la.length : Int) != (lb.length : Int)) = false := by simp [hlen]
    generalize hr : eqb la lb = r
    have Hr := Lib.hid hr; clear hr
    have Hlen := Lib.hid hlen; clear hlen
    have es := Hz
    go_enter Tryz.func46, Tryz.ntmps46
    go_wp2
    go_loopw [5] (fun i wr => ∃ k : Nat, k ≤ la.length ∧ i = .int .i64 k ∧ Hid (la.take k = lb.take k) ∧ Below w.heap.size w wr) (fun i _ => la.length - (intOf i).toNat)
    case atStart => exact ⟨0, Nat.zero_le _, rfl, rfl, Below.refl _ _⟩
    case round =>
      obtain ⟨k, hk, rfl, htk, hB⟩ := hrel
      by_cases hlt : k < la.length
      · have hltb : k < lb.length := by have := Hlen.out; omega
        obtain ⟨ba, fa, ea, rfl, hla, hca, hra⟩ := HE1.out k _ (List.getElem?_eq_getElem hlt)
        obtain ⟨bb, fb, eb, rfl, hlb, hcb, hrb⟩ := HE2.out k _ (List.getElem?_eq_getElem hltb)
        have Hno := Lib.hid (Qj5 (List.getElem?_eq_getElem hlt) (List.getElem?_eq_getElem hltb))
        have Hyes := Lib.hid (Qdv htk.out (List.getElem?_eq_getElem hlt) (List.getElem?_eq_getElem hltb))
        generalize la[k] = xa at *
        generalize lb[k] = xb at *
        obtain ⟨x0, x1, x2, x3, x4, rfl⟩ := len5 (show _ = 5 from hla)
        obtain ⟨y0, y1, y2, y3, y4, rfl⟩ := len5 (show _ = 5 from hlb)
        have qba0 : w.cell? ⟨ba, fa + k * 5, none⟩ = some _ := hca 0 _ rfl
        have pba0 := fun d os => cell_regrown ((hB.cell (World.block_lt_of_cell? w _ qba0)).trans qba0) d os
        clear qba0
        have qba1 : w.cell? ⟨ba, fa + k * 5 + 1, none⟩ = some _ := hca 1 _ rfl
        have pba1 := fun d os => cell_regrown ((hB.cell (World.block_lt_of_cell? w _ qba1)).trans qba1) d os
        clear qba1
        have qba2 : w.cell? ⟨ba, fa + k * 5 + 2, none⟩ = some _ := hca 2 _ rfl
        have pba2 := fun d os => cell_regrown ((hB.cell (World.block_lt_of_cell? w _ qba2)).trans qba2) d os
        clear qba2
        have qba3 : w.cell? ⟨ba, fa + k * 5 + 3, none⟩ = some _ := hca 3 _ rfl
        have pba3 := fun d os => cell_regrown ((hB.cell (World.block_lt_of_cell? w _ qba3)).trans qba3) d os
        clear qba3
        have qba4 : w.cell? ⟨ba, fa + k * 5 + 4, none⟩ = some _ := hca 4 _ rfl
        have pba4 := fun d os => cell_regrown ((hB.cell (World.block_lt_of_cell? w _ qba4)).trans qba4) d os
        clear qba4
        have qbb0 : w.cell? ⟨bb, fb + k * 5, none⟩ = some _ := hcb 0 _ rfl
        have pbb0 := fun d os => cell_regrown ((hB.cell (World.block_lt_of_cell? w _ qbb0)).trans qbb0) d os
        clear qbb0
        have qbb1 : w.cell? ⟨bb, fb + k * 5 + 1, none⟩ = some _ := hcb 1 _ rfl
        have pbb1 := fun d os => cell_regrown ((hB.cell (World.block_lt_of_cell? w _ qbb1)).trans qbb1) d os
        clear qbb1
        have qbb2 : w.cell? ⟨bb, fb + k * 5 + 2, none⟩ = some _ := hcb 2 _ rfl
        have pbb2 := fun d os => cell_regrown ((hB.cell (World.block_lt_of_cell? w _ qbb2)).trans qbb2) d os
        clear qbb2
        have qbb3 : w.cell? ⟨bb, fb + k * 5 + 3, none⟩ = some _ := hcb 3 _ rfl
        have pbb3 := fun d os => cell_regrown ((hB.cell (World.block_lt_of_cell? w _ qbb3)).trans qbb3) d os
        clear qbb3
        have qbb4 : w.cell? ⟨bb, fb + k * 5 + 4, none⟩ = some _ := hcb 4 _ rfl
        have pbb4 := fun d os => cell_regrown ((hB.cell (World.block_lt_of_cell? w _ qbb4)).trans qbb4) d os
        clear qbb4
        have ra := fun d os => Q3 (Q3 hra hB) (below_regrown wr d os)
        have rb := fun d os => Q3 (Q3 hrb hB) (below_regrown wr d os)
        have Ra := Lib.hid ra
        have Rb := Lib.hid rb
        clear ra rb
        clear hca hcb hra hrb hla hlb
        go_wp2
        refine wp_region_quiet_below (by kernel_rfl) (by kernel_rfl) ?_
        repeat (quiet_step (exact Calls.regrown_of (eqFile_c _ [x0, x1, x2, x3, x4] [y0, y1, y2, y3, y4] xa xb (Ra.out _ _) (Rb.out _ _))))
        refine wpQuiet_nil ?_
        intro _ hw'
        obtain ⟨⟨dq, osq⟩, hw''⟩ := hw'
        subst hw''
        have hB2 := hB.trans ((below_regrown wr dq osq).mono hB.size)
        go_wp2
        · go_ret
          obtain rfl : r = false := Hr.out.symm.trans (Hno.out (by go_light; clear es; simp_all [We, Kk]))
          exact ⟨rfl, hB2⟩
        · go_roundw
          case rel => exact ⟨k + 1, by omega, by go_num, Hyes.out (by go_light; clear es; simp_all [We, Kk]), hB2⟩
          case measure => simp [intOf]; omega
      · obtain rfl : k = la.length := by omega
        have Hy := Lib.hid (Qfu htk.out (by have := Hlen.out; omega))
        go_wp2
        go_ret
        obtain rfl : r = true := Hr.out.symm.trans Hy.out
        exact ⟨rfl, hB⟩
  · have hne : ((la.length : Int) != (lb.length : Int)) = true := by simp; omega
    generalize hr : eqb la lb = r
    have Hr := Lib.hid hr; clear hr
    have Hn := Lib.hid (Qfv hlen); clear hlen
    go_enter Tryz.func46, Tryz.ntmps46
    go_wp2
    go_ret
    obtain rfl : r = false := Hr.out.symm.trans Hn.out
    exact ⟨rfl, Below.refl _ _⟩
set_option maxHeartbeats 1000000 in
theorem eqStore_c (w : World) (ca cb : List Value) (a b : X7) (ha : rd w ca a) (hb : rd w cb b) : Calls Tryz.prog 14 #[.agg ca.toArray, .agg cb.toArray] w (Ret w (.bool (eqb a b))) := by
  obtain ⟨a1, a2, a3⟩ := a
  obtain ⟨ac1, at1, rfl, ar1, ac2, at2, rfl, ar2, ar3⟩ := ha
  obtain ⟨ax1_0, rfl⟩ := U6 (show _ = 1 from GoD.rd_len ar1)
  obtain ⟨ax2_0, rfl⟩ := U6 (show _ = 1 from GoD.rd_len ar2)
  obtain ⟨rfl, ar3⟩ := ar3
  obtain ⟨b1, b2, b3⟩ := b
  obtain ⟨bc1, bt1, rfl, br1, bc2, bt2, rfl, br2, br3⟩ := hb
  obtain ⟨bx1_0, rfl⟩ := U6 (show _ = 1 from GoD.rd_len br1)
  obtain ⟨bx2_0, rfl⟩ := U6 (show _ = 1 from GoD.rd_len br2)
  obtain ⟨rfl, br3⟩ := br3
  dsimp only [List.cons_append, List.nil_append] at *
  generalize hr : eqb (a1, a2, a3) (b1, b2, b3) = r
  have Hr := Lib.hid hr; clear hr
  have es := Hz
  have AR1H := Lib.hid ar1; clear ar1
  have BR1H := Lib.hid br1; clear br1
  have AR2H := Lib.hid ar2; clear ar2
  have BR2H := Lib.hid br2; clear br2
  clear ar3 br3
  have tok1 : True := trivial
  have tok2 : True := trivial
  go_enter Tryz.func14, Tryz.ntmps14
  go_wp2_with (first | (go_at_call 45; have tk := tok1; clear tok1; (refine U1 (w := w) (Qvf _ ax1_0 bx1_0 a1 b1 (Q3 AR1H.out (by go_grown)) (Q3 BR1H.out (by go_grown))) (by go_grown) ?_; intro w' hB hb hz hz2; (repeat (first | rewrite [World.size_alloc] at hz2 | rewrite [World.size_setCell] at hz2 | rewrite [World.size_drew] at hz2)); have c0 := fun o => Z4 hb (w.heap.size) o (by go_size); have c1 := fun o => Z4 hb (w.heap.size + 1) o (by go_size))) | (go_at_call 46; have tk := tok2; clear tok2; (refine U1 (w := w) (eqFileS_c _ ax2_0 bx2_0 a2 b2 (Q3 AR2H.out (by go_grown)) (Q3 BR2H.out (by go_grown))) (by go_grown) ?_; intro w' hB hb hz hz2; (repeat (first | rewrite [World.size_alloc] at hz2 | rewrite [World.size_setCell] at hz2 | rewrite [World.size_drew] at hz2)); have c0 := fun o => Z4 hb (w.heap.size) o (by go_size); have c1 := fun o => Z4 hb (w.heap.size + 1) o (by go_size))))
  all_goals
    go_ret
    refine ⟨?_, by go_grown⟩
    rw [← Hr.out]
    go_light
    clear es
    simp_all [Qb9, We, Kk]
set_option maxHeartbeats 1000000 in
theorem eqNode_c (w : World) (ca cb : List Value) (a b : Yq) (ha : rd w ca a) (hb : rd w cb b) : Calls Tryz.prog 152 #[.agg ca.toArray, .agg cb.toArray] w (Ret w (.bool (eqb a b))) := by
  obtain ⟨a1, a2, a3, a4, a5⟩ := a
  obtain ⟨ac1, at1, rfl, ar1, ac2, at2, rfl, ar2, ac3, at3, rfl, ar3, ac4, at4, rfl, ar4, ar5⟩ := ha
  obtain ⟨rfl, ar1⟩ := ar1
  obtain ⟨rfl, ar2⟩ := ar2
  obtain ⟨rfl, ar3⟩ := ar3
  obtain ⟨rfl, ar4⟩ := ar4
  obtain ⟨ax5_0, ax5_1, ax5_2, rfl⟩ := Qvj (show _ = 3 from GoD.rd_len ar5)
  obtain ⟨b1, b2, b3, b4, b5⟩ := b
  obtain ⟨bc1, bt1, rfl, br1, bc2, bt2, rfl, br2, bc3, bt3, rfl, br3, bc4, bt4, rfl, br4, br5⟩ := hb
  obtain ⟨rfl, br1⟩ := br1
  obtain ⟨rfl, br2⟩ := br2
  obtain ⟨rfl, br3⟩ := br3
  obtain ⟨rfl, br4⟩ := br4
  obtain ⟨bx5_0, bx5_1, bx5_2, rfl⟩ := Qvj (show _ = 3 from GoD.rd_len br5)
  dsimp only [List.cons_append, List.nil_append] at *
  generalize hr : eqb (a1, a2, a3, a4, a5) (b1, b2, b3, b4, b5) = r
  have Hr := Lib.hid hr; clear hr
  have es := Hz
  clear ar1 br1
  clear ar2 br2
  clear ar3 br3
  clear ar4 br4
  have AR5H := Lib.hid ar5; clear ar5
  have BR5H := Lib.hid br5; clear br5
  have tok1 : True := trivial
  go_enter Tryz.func152, Tryz.ntmps152
  go_wp2_with (first | (go_at_call 189; have tk := tok1; clear tok1; (refine U1 (w := w) (Qqj _ [ax5_0, ax5_1, ax5_2] [bx5_0, bx5_1, bx5_2] a5 b5 (Q3 AR5H.out (by go_grown)) (Q3 BR5H.out (by go_grown))) (by go_grown) ?_; intro w' hB hb hz hz2; (repeat (first | rewrite [World.size_alloc] at hz2 | rewrite [World.size_setCell] at hz2 | rewrite [World.size_drew] at hz2)); have c0 := fun o => Z4 hb (w.heap.size) o (by go_size); have c1 := fun o => Z4 hb (w.heap.size + 1) o (by go_size))))
  all_goals
    go_ret
    refine ⟨?_, by go_grown⟩
    rw [← Hr.out]
    go_light
    clear es
    simp_all [Qb9, We, Kk]
set_option maxHeartbeats 1000000 in
theorem eqNodeS_c (w : World) (sa sb : Value) (la lb : List Yq) (ha : rd w [sa] la) (hb : rd w [sb] lb) : Calls Tryz.prog 101 #[sa, sb] w (Ret w (.bool (eqb la lb))) := by
  obtain ⟨oa, capa, e1, hl1, hm1, hel1⟩ := ha
  obtain ⟨ob, capb, e2, hl2, hm2, hel2⟩ := hb
  obtain rfl : sa = _ := by simpa using e1
  obtain rfl : sb = _ := by simpa using e2
  clear e1 e2
  have HE1 := Lib.hid hel1; clear hel1
  have HE2 := Lib.hid hel2; clear hel2
  unfold maxLen at hm1 hm2
  have hma : la.length ≤ 9223372036854775807 := by omega
  have hmb : lb.length ≤ 9223372036854775807 := by omega
  by_cases hlen : la.length = lb.length
  · have hne : ((la.length : Int) != (lb.length : Int)) = false := by simp [hlen]
    generalize hr : eqb la lb = r
    have Hr := Lib.hid hr; clear hr
    have Hlen := Lib.hid hlen; clear hlen
    have es := Hz
    go_enter Tryz.func101, Tryz.ntmps101
    go_wp2
    go_loopw [5] (fun i wr => ∃ k : Nat, k ≤ la.length ∧ i = .int .i64 k ∧ Hid (la.take k = lb.take k) ∧ Below w.heap.size w wr) (fun i _ => la.length - (intOf i).toNat)
    case atStart => exact ⟨0, Nat.zero_le _, rfl, rfl, Below.refl _ _⟩
    case round =>
      obtain ⟨k, hk, rfl, htk, hB⟩ := hrel
      by_cases hlt : k < la.length
      · have hltb : k < lb.length := by have := Hlen.out; omega
        obtain ⟨ba, fa, ea, rfl, hla, hca, hra⟩ := HE1.out k _ (List.getElem?_eq_getElem hlt)
        obtain ⟨bb, fb, eb, rfl, hlb, hcb, hrb⟩ := HE2.out k _ (List.getElem?_eq_getElem hltb)
        have Hno := Lib.hid (Qj5 (List.getElem?_eq_getElem hlt) (List.getElem?_eq_getElem hltb))
        have Hyes := Lib.hid (Qdv htk.out (List.getElem?_eq_getElem hlt) (List.getElem?_eq_getElem hltb))
        generalize la[k] = xa at *
        generalize lb[k] = xb at *
        obtain ⟨x0, x1, x2, x3, x4, x5, x6, rfl⟩ := len7 (show _ = 7 from hla)
        obtain ⟨y0, y1, y2, y3, y4, y5, y6, rfl⟩ := len7 (show _ = 7 from hlb)
        have qba0 : w.cell? ⟨ba, fa + k * 7, none⟩ = some _ := hca 0 _ rfl
        have pba0 := fun d os => cell_regrown ((hB.cell (World.block_lt_of_cell? w _ qba0)).trans qba0) d os
        clear qba0
        have qba1 : w.cell? ⟨ba, fa + k * 7 + 1, none⟩ = some _ := hca 1 _ rfl
        have pba1 := fun d os => cell_regrown ((hB.cell (World.block_lt_of_cell? w _ qba1)).trans qba1) d os
        clear qba1
        have qba2 : w.cell? ⟨ba, fa + k * 7 + 2, none⟩ = some _ := hca 2 _ rfl
        have pba2 := fun d os => cell_regrown ((hB.cell (World.block_lt_of_cell? w _ qba2)).trans qba2) d os
        clear qba2
        have qba3 : w.cell? ⟨ba, fa + k * 7 + 3, none⟩ = some _ := hca 3 _ rfl
        have pba3 := fun d os => cell_regrown ((hB.cell (World.block_lt_of_cell? w _ qba3)).trans qba3) d os
        clear qba3
        have qba4 : w.cell? ⟨ba, fa + k * 7 + 4, none⟩ = some _ := hca 4 _ rfl
        have pba4 := fun d os => cell_regrown ((hB.cell (World.block_lt_of_cell? w _ qba4)).trans qba4) d os
        clear qba4
        have qba5 : w.cell? ⟨ba, fa + k * 7 + 5, none⟩ = some _ := hca 5 _ rfl
        have pba5 := fun d os => cell_regrown ((hB.cell (World.block_lt_of_cell? w _ qba5)).trans qba5) d os
        clear qba5
        have qba6 : w.cell? ⟨ba, fa + k * 7 + 6, none⟩ = some _ := hca 6 _ rfl
        have pba6 := fun d os => cell_regrown ((hB.cell (World.block_lt_of_cell? w _ qba6)).trans qba6) d os
        clear qba6
        have qbb0 : w.cell? ⟨bb, fb + k * 7, none⟩ = some _ := hcb 0 _ rfl
        have pbb0 := fun d os => cell_regrown ((hB.cell (World.block_lt_of_cell? w _ qbb0)).trans qbb0) d os
        clear qbb0
        have qbb1 : w.cell? ⟨bb, fb + k * 7 + 1, none⟩ = some _ := hcb 1 _ rfl
        have pbb1 := fun d os => cell_regrown ((hB.cell (World.block_lt_of_cell? w _ qbb1)).trans qbb1) d os
        clear qbb1
        have qbb2 : w.cell? ⟨bb, fb + k * 7 + 2, none⟩ = some _ := hcb 2 _ rfl
        have pbb2 := fun d os => cell_regrown ((hB.cell (World.block_lt_of_cell? w _ qbb2)).trans qbb2) d os
        clear qbb2
        have qbb3 : w.cell? ⟨bb, fb + k * 7 + 3, none⟩ = some _ := hcb 3 _ rfl
        have pbb3 := fun d os => cell_regrown ((hB.cell (World.block_lt_of_cell? w _ qbb3)).trans qbb3) d os
        clear qbb3
        have qbb4 : w.cell? ⟨bb, fb + k * 7 + 4, none⟩ = some _ := hcb 4 _ rfl
        have pbb4 := fun d os => cell_regrown ((hB.cell (World.block_lt_of_cell? w _ qbb4)).trans qbb4) d os
        clear qbb4
        have qbb5 : w.cell? ⟨bb, fb + k * 7 + 5, none⟩ = some _ := hcb 5 _ rfl
        have pbb5 := fun d os => cell_regrown ((hB.cell (World.block_lt_of_cell? w _ qbb5)).trans qbb5) d os
        clear qbb5
        have qbb6 : w.cell? ⟨bb, fb + k * 7 + 6, none⟩ = some _ := hcb 6 _ rfl
        have pbb6 := fun d os => cell_regrown ((hB.cell (World.block_lt_of_cell? w _ qbb6)).trans qbb6) d os
        clear qbb6
        have ra := fun d os => Q3 (Q3 hra hB) (below_regrown wr d os)
        have rb := fun d os => Q3 (Q3 hrb hB) (below_regrown wr d os)
        have Ra := Lib.hid ra
        have Rb := Lib.hid rb
        clear ra rb
        clear hca hcb hra hrb hla hlb
        go_wp2
        refine wp_region_quiet_below (by kernel_rfl) (by kernel_rfl) ?_
        repeat (quiet_step (exact Calls.regrown_of (eqNode_c _ [x0, x1, x2, x3, x4, x5, x6] [y0, y1, y2, y3, y4, y5, y6] xa xb (Ra.out _ _) (Rb.out _ _))))
        refine wpQuiet_nil ?_
        intro _ hw'
        obtain ⟨⟨dq, osq⟩, hw''⟩ := hw'
        subst hw''
        have hB2 := hB.trans ((below_regrown wr dq osq).mono hB.size)
        go_wp2
        · go_ret
          obtain rfl : r = false := Hr.out.symm.trans (Hno.out (by go_light; clear es; simp_all [We, Kk]))
          exact ⟨rfl, hB2⟩
        · go_roundw
          case rel => exact ⟨k + 1, by omega, by go_num, Hyes.out (by go_light; clear es; simp_all [We, Kk]), hB2⟩
          case measure => simp [intOf]; omega
      · obtain rfl : k = la.length := by omega
        have Hy := Lib.hid (Qfu htk.out (by have := Hlen.out; omega))
        go_wp2
        go_ret
        obtain rfl : r = true := Hr.out.symm.trans Hy.out
        exact ⟨rfl, hB⟩
  · have hne : ((la.length : Int) != (lb.length : Int)) = true := by simp; omega
    generalize hr : eqb la lb = r
    have Hr := Lib.hid hr; clear hr
    have Hn := Lib.hid (Qfv hlen); clear hlen
    go_enter Tryz.func101, Tryz.ntmps101
    go_wp2
    go_ret
    obtain rfl : r = false := Hr.out.symm.trans Hn.out
    exact ⟨rfl, Below.refl _ _⟩
set_option maxHeartbeats 1000000 in
theorem eqDir_c (w : World) (ca cb : List Value) (a b : Zh) (ha : rd w ca a) (hb : rd w cb b) : Calls Tryz.prog 47 #[.agg ca.toArray, .agg cb.toArray] w (Ret w (.bool (eqb a b))) := by
  obtain ⟨a1, a2⟩ := a
  obtain ⟨ac1, at1, rfl, ar1, ar2⟩ := ha
  obtain ⟨rfl, ar1⟩ := ar1
  obtain ⟨ax2_0, rfl⟩ := U6 (show _ = 1 from GoD.rd_len ar2)
  obtain ⟨b1, b2⟩ := b
  obtain ⟨bc1, bt1, rfl, br1, br2⟩ := hb
  obtain ⟨rfl, br1⟩ := br1
  obtain ⟨bx2_0, rfl⟩ := U6 (show _ = 1 from GoD.rd_len br2)
  dsimp only [List.cons_append, List.nil_append] at *
  generalize hr : eqb (a1, a2) (b1, b2) = r
  have Hr := Lib.hid hr; clear hr
  have es := Hz
  clear ar1 br1
  have AR2H := Lib.hid ar2; clear ar2
  have BR2H := Lib.hid br2; clear br2
  have tok1 : True := trivial
  go_enter Tryz.func47, Tryz.ntmps47
  go_wp2_with (first | (go_at_call 101; have tk := tok1; clear tok1; (refine U1 (w := w) (eqNodeS_c _ ax2_0 bx2_0 a2 b2 (Q3 AR2H.out (by go_grown)) (Q3 BR2H.out (by go_grown))) (by go_grown) ?_; intro w' hB hb hz hz2; (repeat (first | rewrite [World.size_alloc] at hz2 | rewrite [World.size_setCell] at hz2 | rewrite [World.size_drew] at hz2)); have c0 := fun o => Z4 hb (w.heap.size) o (by go_size); have c1 := fun o => Z4 hb (w.heap.size + 1) o (by go_size))))
  all_goals
    go_ret
    refine ⟨?_, by go_grown⟩
    rw [← Hr.out]
    go_light
    clear es
    simp_all [Qb9, We, Kk]
set_option maxHeartbeats 1000000 in
theorem eqDirS_c (w : World) (sa sb : Value) (la lb : List Zh) (ha : rd w [sa] la) (hb : rd w [sb] lb) : Calls Tryz.prog 15 #[sa, sb] w (Ret w (.bool (eqb la lb))) := by
  obtain ⟨oa, capa, e1, hl1, hm1, hel1⟩ := ha
  obtain ⟨ob, capb, e2, hl2, hm2, hel2⟩ := hb
  obtain rfl : sa = _ := by simpa using e1
  obtain rfl : sb = _ := by simpa using e2
  clear e1 e2
  have HE1 := Lib.hid hel1; clear hel1
  have HE2 := Lib.hid hel2; clear hel2
  unfold maxLen at hm1 hm2
  have hma : la.length ≤ 9223372036854775807 := by omega
  have hmb : lb.length ≤ 9223372036854775807 := by omega
  by_cases hlen : la.length = lb.length
  · have hne : ((la.length : Int) != (lb.length : Int)) = false := by simp [hlen]
    generalize hr : eqb la lb = r
    have Hr := Lib.hid hr; clear hr
    have Hlen := Lib.hid hlen; clear hlen
    have es := Hz
    go_enter Tryz.func15, Tryz.ntmps15
    go_wp2
    go_loopw [5] (fun i wr => ∃ k : Nat, k ≤ la.length ∧ i = .int .i64 k ∧ Hid (la.take k = lb.take k) ∧ Below w.heap.size w wr) (fun i _ => la.length - (intOf i).toNat)
    case atStart => exact ⟨0, Nat.zero_le _, rfl, rfl, Below.refl _ _⟩
    case round =>
      obtain ⟨k, hk, rfl, htk, hB⟩ := hrel
      by_cases hlt : k < la.length
      · have hltb : k < lb.length := by have := Hlen.out; omega
        obtain ⟨ba, fa, ea, rfl, hla, hca, hra⟩ := HE1.out k _ (List.getElem?_eq_getElem hlt)
        obtain ⟨bb, fb, eb, rfl, hlb, hcb, hrb⟩ := HE2.out k _ (List.getElem?_eq_getElem hltb)
        have Hno := Lib.hid (Qj5 (List.getElem?_eq_getElem hlt) (List.getElem?_eq_getElem hltb))
        have Hyes := Lib.hid (Qdv htk.out (List.getElem?_eq_getElem hlt) (List.getElem?_eq_getElem hltb))
        generalize la[k] = xa at *
        generalize lb[k] = xb at *
        obtain ⟨x0, x1, rfl⟩ := Qi1 (show _ = 2 from hla)
        obtain ⟨y0, y1, rfl⟩ := Qi1 (show _ = 2 from hlb)
        have qba0 : w.cell? ⟨ba, fa + k * 2, none⟩ = some _ := hca 0 _ rfl
        have pba0 := fun d os => cell_regrown ((hB.cell (World.block_lt_of_cell? w _ qba0)).trans qba0) d os
        clear qba0
        have qba1 : w.cell? ⟨ba, fa + k * 2 + 1, none⟩ = some _ := hca 1 _ rfl
        have pba1 := fun d os => cell_regrown ((hB.cell (World.block_lt_of_cell? w _ qba1)).trans qba1) d os
        clear qba1
        have qbb0 : w.cell? ⟨bb, fb + k * 2, none⟩ = some _ := hcb 0 _ rfl
        have pbb0 := fun d os => cell_regrown ((hB.cell (World.block_lt_of_cell? w _ qbb0)).trans qbb0) d os
        clear qbb0
        have qbb1 : w.cell? ⟨bb, fb + k * 2 + 1, none⟩ = some _ := hcb 1 _ rfl
        have pbb1 := fun d os => cell_regrown ((hB.cell (World.block_lt_of_cell? w _ qbb1)).trans qbb1) d os
        clear qbb1
        have ra := fun d os => Q3 (Q3 hra hB) (below_regrown wr d os)
        have rb := fun d os => Q3 (Q3 hrb hB) (below_regrown wr d os)
        have Ra := Lib.hid ra
        have Rb := Lib.hid rb
        clear ra rb
        clear hca hcb hra hrb hla hlb
        go_wp2
        refine wp_region_quiet_below (by kernel_rfl) (by kernel_rfl) ?_
        repeat (quiet_step (exact Calls.regrown_of (eqDir_c _ [x0, x1] [y0, y1] xa xb (Ra.out _ _) (Rb.out _ _))))
        refine wpQuiet_nil ?_
        intro _ hw'
        obtain ⟨⟨dq, osq⟩, hw''⟩ := hw'
        subst hw''
        have hB2 := hB.trans ((below_regrown wr dq osq).mono hB.size)
        go_wp2
        · go_ret
          obtain rfl : r = false := Hr.out.symm.trans (Hno.out (by go_light; clear es; simp_all [We, Kk]))
          exact ⟨rfl, hB2⟩
        · go_roundw
          case rel => exact ⟨k + 1, by omega, by go_num, Hyes.out (by go_light; clear es; simp_all [We, Kk]), hB2⟩
          case measure => simp [intOf]; omega
      · obtain rfl : k = la.length := by omega
        have Hy := Lib.hid (Qfu htk.out (by have := Hlen.out; omega))
        go_wp2
        go_ret
        obtain rfl : r = true := Hr.out.symm.trans Hy.out
        exact ⟨rfl, hB⟩
  · have hne : ((la.length : Int) != (lb.length : Int)) = true := by simp; omega
    generalize hr : eqb la lb = r
    have Hr := Lib.hid hr; clear hr
    have Hn := Lib.hid (Qfv hlen); clear hlen
    go_enter Tryz.func15, Tryz.ntmps15
    go_wp2
    go_ret
    obtain rfl : r = false := Hr.out.symm.trans Hn.out
    exact ⟨rfl, Below.refl _ _⟩
end Go.Proofs.YtnhmnfmhnepjmaaGreat
namespace Go.Proofs.YtnhmnfmhnepjmaaGreat
open Go.RowKit
open GoD (rd own)
set_option maxHeartbeats 1000000 in
theorem Qqk (w : World) (ca : List Value) (a : H5) (ha : rd w ca a) (hsz : GoD.size a ≤ 1048576) : Calls Tryz.prog 172 #[.agg ca.toArray] w (RetA w a) := by
  obtain ⟨a1, a2, a3⟩ := a
  obtain ⟨ac1, at1, rfl, ar1, ac2, at2, rfl, ar2, ar3⟩ := ha
  obtain ⟨rfl, ar1⟩ := ar1
  obtain ⟨rfl, ar2⟩ := ar2
  obtain ⟨rfl, ar3⟩ := ar3
  dsimp only [List.cons_append, List.nil_append] at *
  replace hsz : (GoD.size a1 + (GoD.size a2 + GoD.size a3)) ≤ 1048576 := hsz
  have AR1H := Lib.hid ar1; clear ar1
  have AR2H := Lib.hid ar2; clear ar2
  have AR3H := Lib.hid ar3; clear ar3
  go_enter Tryz.func172, Tryz.ntmps172
  go_wp2_with (first | ((with_reducible show bodyPost _ _ _ _ _ _); refine bodyPost_ret (v := .agg #[.int .i64 a1, .int .i64 a2, .string a3]) (by simp [results, Tryz.results172, go_sem]) rfl ⟨[.int .i64 a1, .int .i64 a2, .string a3], ([] ++ ([] ++ [])), rfl, by go_grown, ?_, ?_⟩; (exact (Yx (Qa9 _ AR1H.out) (Yx (Qa9 _ AR2H.out) (Qhi _ AR3H.out) (by simp)) (by simp))); simp))
set_option maxHeartbeats 1000000 in
theorem toNode_c (w : World) (ca : List Value) (a : Yq) (ha : rd w ca a) (hsz : GoD.size a ≤ 1048576) : Calls Tryz.prog 131 #[.agg ca.toArray] w (RetA w a) := by
  obtain ⟨a1, a2, a3, a4, a5⟩ := a
  obtain ⟨ac1, at1, rfl, ar1, ac2, at2, rfl, ar2, ac3, at3, rfl, ar3, ac4, at4, rfl, ar4, ar5⟩ := ha
  obtain ⟨rfl, ar1⟩ := ar1
  obtain ⟨rfl, ar2⟩ := ar2
  obtain ⟨rfl, ar3⟩ := ar3
  obtain ⟨rfl, ar4⟩ := ar4
  obtain ⟨ax5_0, ax5_1, ax5_2, rfl⟩ := Qvj (show _ = 3 from GoD.rd_len ar5)
  dsimp only [List.cons_append, List.nil_append] at *
  replace hsz : (GoD.size a1 + (GoD.size a2 + (GoD.size a3 + (GoD.size a4 + GoD.size a5)))) ≤ 1048576 := hsz
  have AR1H := Lib.hid ar1; clear ar1
  have AR2H := Lib.hid ar2; clear ar2
  have AR3H := Lib.hid ar3; clear ar3
  have AR4H := Lib.hid ar4; clear ar4
  have AR5H := Lib.hid ar5; clear ar5
  have tok1 : True := trivial
  go_enter Tryz.func131, Tryz.ntmps131
  go_wp2_with (first | (go_at_call 172; have tk := tok1; clear tok1; refine Qbn (w := w) (Qqk _ [ax5_0, ax5_1, ax5_2] a5 (Q3 AR5H.out (by go_grown)) (by omega)) (by go_grown) ?_; intro w1 cs1 L1 hB hb hz _ ho1 hL1; obtain rfl := Qj4 (GoD.own_rd ho1); have hz2 := hb.size; (repeat (first | rewrite [World.size_alloc] at hz2 | rewrite [World.size_setCell] at hz2 | rewrite [World.size_drew] at hz2)); (repeat (first | rewrite [World.size_alloc] at hL1 | rewrite [World.size_setCell] at hL1 | rewrite [World.size_drew] at hL1)); have hlt1 := GoD.own_lt ho1; have c1_0 := fun o => Z4 hb (w.heap.size) o (by go_size); have f1_0 := fun o => U4 hb (w.heap.size) o (by go_size); have c1_1 := fun o => Z4 hb (w.heap.size + 1) o (by go_size); have f1_1 := fun o => U4 hb (w.heap.size + 1) o (by go_size); have c1_2 := fun o => Z4 hb (w.heap.size + 1 + 1) o (by go_size); have f1_2 := fun o => U4 hb (w.heap.size + 1 + 1) o (by go_size); have HO1 := Lib.hid ho1; clear ho1; have HL1 := Lib.hid hL1; clear hL1; have HT1 := Lib.hid hlt1; clear hlt1; have HB1 := Lib.hid hb; clear hb) | ((with_reducible show bodyPost _ _ _ _ _ _); refine bodyPost_ret (v := .agg #[.int .i64 a1, .int .i64 a2, .int .i64 a3, .string a4, .int .i64 a5.1, .int .i64 a5.2.1, .string a5.2.2]) (by simp [results, Tryz.results131, go_sem, c1_1]) rfl ⟨[.int .i64 a1, .int .i64 a2, .int .i64 a3, .string a4, .int .i64 a5.1, .int .i64 a5.2.1, .string a5.2.2], ([] ++ ([] ++ ([] ++ ([] ++ L1)))), rfl, by go_grown, ?_, ?_⟩; (exact (Yx (Qa9 _ AR1H.out) (Yx (Qa9 _ AR2H.out) (Yx (Qa9 _ AR3H.out) (Yx (Qhi _ AR4H.out) (show own L1 _ [.int .i64 a5.1, .int .i64 a5.2.1, .string a5.2.2] a5 by (repeat (first | (with_reducible exact HO1.out) | ((with_reducible refine Z2 ?_ ?_); rotate_left; exact (fun hm => by have := HL1.out _ hm; omega)) | (with_reducible refine K1 ?_) | (with_reducible refine Qbk ?_)))) (by simp)) (by simp)) (by simp)) (by simp))); intro x hx; (try simp only [List.mem_append, List.not_mem_nil, List.append_nil, List.nil_append, false_or, or_false] at hx); rcases hx with hx <;> first | (have := HL1.out x hx; omega)))
set_option maxRecDepth 100000 in
set_option maxHeartbeats 1000000 in
theorem toNodeS_c (w : World) (v : Value) (l : List Yq) (ha : rd w [v] l) (hsz : GoD.size l ≤ 1048576) : Calls Tryz.prog 92 #[v] w (RetS w l) := by
  obtain ⟨oa, cap, e1, hl, hm, hel⟩ := ha
  obtain rfl : v = _ := by simpa using e1
  clear e1
  have HE := Lib.hid hel; clear hel
  have hn : l.length ≤ 1048576 := by have := Wv l; omega
  have HS := Lib.hid (fun i a (h : l[i]? = some a) => Ww h)
  have hlm : l.length ≤ maxLen := by omega
  go_enter Tryz.func92, Tryz.ntmps92
  go_wp2_with (at_make; refine Qfn w (.tmp 6) (.tmp 6) 94 163 7 l.length rfl rfl Tryz.underlying94 (by kernel_rfl) rfl rfl (by omega) (by go_grown) ?_; intro w1 cur hcur hcs hB1 hb1 hlt1)
  go_loopw [4] (fun i wr => ∃ k : Nat, k ≤ l.length ∧ i = .int .i64 k ∧ Below w.heap.size w wr ∧ w.heap.size < wr.heap.size ∧ Hid (Part wr w.heap.size l.length 163 l k)) (fun i _ => l.length - (intOf i).toNat)
  case atStart => exact ⟨0, Nat.zero_le _, rfl, hB1, hlt1, Part.start hcur hcs l⟩
  case round =>
    obtain ⟨k, hk, rfl, hB, hlt, hP⟩ := hrel
    clear hB1 hb1 hlt1 hcur hcs
    by_cases hkl : k < l.length
    · have hx := List.getElem?_eq_getElem hkl
      obtain ⟨eb, eo, ee, rfl, hcl, hcc, hxr⟩ := HE.out k _ hx
      have hxs := HS.out k _ hx
      have HX := Lib.hid hx; clear hx
      generalize l[k] = x at *
      obtain ⟨cur2, hg, hgs⟩ := hP.out.block
      have hgs2 : cur2.size = l.length * 7 := hgs
      have hroom := Nat.mul_le_mul_right 7 (show k + 1 ≤ l.length by omega)
      obtain ⟨x0, x1, x2, x3, x4, x5, x6, rfl⟩ := len7 (show _ = 7 from hcl)
      have p0 : wr.cell? ⟨eb, eo + k * 7, none⟩ = some x0 := (hB.cell (World.block_lt_of_cell? w _ (hcc 0 _ rfl))).trans (hcc 0 _ rfl)
      have p1 : wr.cell? ⟨eb, eo + k * 7 + 1, none⟩ = some x1 := (hB.cell (World.block_lt_of_cell? w _ (hcc 1 _ rfl))).trans (hcc 1 _ rfl)
      have p2 : wr.cell? ⟨eb, eo + k * 7 + 2, none⟩ = some x2 := (hB.cell (World.block_lt_of_cell? w _ (hcc 2 _ rfl))).trans (hcc 2 _ rfl)
      have p3 : wr.cell? ⟨eb, eo + k * 7 + 3, none⟩ = some x3 := (hB.cell (World.block_lt_of_cell? w _ (hcc 3 _ rfl))).trans (hcc 3 _ rfl)
      have p4 : wr.cell? ⟨eb, eo + k * 7 + 4, none⟩ = some x4 := (hB.cell (World.block_lt_of_cell? w _ (hcc 4 _ rfl))).trans (hcc 4 _ rfl)
      have p5 : wr.cell? ⟨eb, eo + k * 7 + 5, none⟩ = some x5 := (hB.cell (World.block_lt_of_cell? w _ (hcc 5 _ rfl))).trans (hcc 5 _ rfl)
      have p6 : wr.cell? ⟨eb, eo + k * 7 + 6, none⟩ = some x6 := (hB.cell (World.block_lt_of_cell? w _ (hcc 6 _ rfl))).trans (hcc 6 _ rfl)
      have HXR := Lib.hid hxr; clear hxr hcc hcl
      have HG := Lib.hid hg; clear hg
      go_wp2_with (go_at_call 131; refine Qbn (w := w) (toNode_c _ [x0, x1, x2, x3, x4, x5, x6] x (Q3 HXR.out hB) (by omega)) (by go_grown) ?_; intro w2 cs L hB2 hb2 hz2 _ ho hL; obtain rfl := Quq (GoD.own_rd ho); have hg2 := (hb2.block _ hlt).trans HG.out; obtain ⟨z0, q0⟩ : ∃ y, w2.cell? ⟨w.heap.size, k * 7, none⟩ = some y := ⟨_, Yh hg2 _ (by omega)⟩; obtain ⟨z1, q1⟩ : ∃ y, w2.cell? ⟨w.heap.size, k * 7 + 1, none⟩ = some y := ⟨_, Yh hg2 _ (by omega)⟩; obtain ⟨z2, q2⟩ : ∃ y, w2.cell? ⟨w.heap.size, k * 7 + 2, none⟩ = some y := ⟨_, Yh hg2 _ (by omega)⟩; obtain ⟨z3, q3⟩ : ∃ y, w2.cell? ⟨w.heap.size, k * 7 + 3, none⟩ = some y := ⟨_, Yh hg2 _ (by omega)⟩; obtain ⟨z4, q4⟩ : ∃ y, w2.cell? ⟨w.heap.size, k * 7 + 4, none⟩ = some y := ⟨_, Yh hg2 _ (by omega)⟩; obtain ⟨z5, q5⟩ : ∃ y, w2.cell? ⟨w.heap.size, k * 7 + 5, none⟩ = some y := ⟨_, Yh hg2 _ (by omega)⟩; obtain ⟨z6, q6⟩ : ∃ y, w2.cell? ⟨w.heap.size, k * 7 + 6, none⟩ = some y := ⟨_, Yh hg2 _ (by omega)⟩; have fz := Jp hg2; clear hg2; have HO := Lib.hid ho; clear ho; have HL := Lib.hid hL; clear hL; have HB2 := Lib.hid hb2; clear hb2)
      go_roundw
      case rel => exact ⟨k + 1, by omega, by go_num, by go_grown, by simp only [World.size_setCell]; omega, by
        have h := hP.out.step HB2.out hkl hk HX.out HO.out HL.out
        rw [show GoD.n Yq = 7 from rfl] at h
        simp only [World.setCells, Nat.add_assoc, Nat.reduceAdd] at h
        exact h⟩
      case measure => simp [intOf]; omega
    · obtain rfl : k = l.length := by omega
      go_wp2
      go_ret
      obtain ⟨L, hL, hLB⟩ := hP.out.done hlm
      exact ⟨_, L, rfl, hB, hL, hLB⟩
set_option maxHeartbeats 1000000 in
theorem toDir_c (w : World) (ca : List Value) (a : Zh) (ha : rd w ca a) (hsz : GoD.size a ≤ 1048576) : Calls Tryz.prog 41 #[.agg ca.toArray] w (RetA w a) := by
  obtain ⟨a1, a2⟩ := a
  obtain ⟨ac1, at1, rfl, ar1, ar2⟩ := ha
  obtain ⟨rfl, ar1⟩ := ar1
  obtain ⟨ax2_0, rfl⟩ := U6 (show _ = 1 from GoD.rd_len ar2)
  dsimp only [List.cons_append, List.nil_append] at *
  replace hsz : (GoD.size a1 + GoD.size a2) ≤ 1048576 := hsz
  have AR1H := Lib.hid ar1; clear ar1
  have AR2H := Lib.hid ar2; clear ar2
  have tok1 : True := trivial
  go_enter Tryz.func41, Tryz.ntmps41
  go_wp2_with (first | (go_at_call 92; have tk := tok1; clear tok1; refine Qbo (w := w) (toNodeS_c _ ax2_0 a2 (Q3 AR2H.out (by go_grown)) (by omega)) (by go_grown) ?_; intro w1 v1 L1 hB hb hz _ ho1 hL1; obtain ⟨oa1, cp1, rfl⟩ := Zd ho1; have hz2 := hb.size; (repeat (first | rewrite [World.size_alloc] at hz2 | rewrite [World.size_setCell] at hz2 | rewrite [World.size_drew] at hz2)); (repeat (first | rewrite [World.size_alloc] at hL1 | rewrite [World.size_setCell] at hL1 | rewrite [World.size_drew] at hL1)); have hlt1 := GoD.own_lt ho1; have c1_0 := fun o => Z4 hb (w.heap.size) o (by go_size); have f1_0 := fun o => U4 hb (w.heap.size) o (by go_size); have c1_1 := fun o => Z4 hb (w.heap.size + 1) o (by go_size); have f1_1 := fun o => U4 hb (w.heap.size + 1) o (by go_size); have c1_2 := fun o => Z4 hb (w.heap.size + 1 + 1) o (by go_size); have f1_2 := fun o => U4 hb (w.heap.size + 1 + 1) o (by go_size); have HO1 := Lib.hid ho1; clear ho1; have HL1 := Lib.hid hL1; clear hL1; have HT1 := Lib.hid hlt1; clear hlt1; have HB1 := Lib.hid hb; clear hb) | ((with_reducible show bodyPost _ _ _ _ _ _); refine bodyPost_ret (v := .agg #[.string a1, .slice oa1 a2.length cp1]) (by simp [results, Tryz.results41, go_sem, c1_1]) rfl ⟨[.string a1, .slice oa1 a2.length cp1], ([] ++ L1), rfl, by go_grown, ?_, ?_⟩; (exact (Yx (Qhi _ AR1H.out) (show own L1 _ [.slice oa1 a2.length cp1] a2 by (repeat (first | (with_reducible exact HO1.out) | ((with_reducible refine Z2 ?_ ?_); rotate_left; exact (fun hm => by have := HL1.out _ hm; omega)) | (with_reducible refine K1 ?_) | (with_reducible refine Qbk ?_)))) (by simp))); intro x hx; (try simp only [List.mem_append, List.not_mem_nil, List.append_nil, List.nil_append, false_or, or_false] at hx); rcases hx with hx <;> first | (have := HL1.out x hx; omega)))
set_option maxRecDepth 100000 in
set_option maxHeartbeats 1000000 in
theorem Qob (w : World) (v : Value) (l : List Int) (ha : rd w [v] l) (hsz : GoD.size l ≤ 1048576) : Calls Tryz.prog 62 #[v] w (RetS w l) := by
  obtain ⟨oa, cap, e1, hl, hm, hel⟩ := ha
  obtain rfl : v = _ := by simpa using e1
  clear e1
  have HE := Lib.hid hel; clear hel
  have hn : l.length ≤ 1048576 := by have := Wv l; omega
  have HS := Lib.hid (fun i a (h : l[i]? = some a) => Ww h)
  have hlm : l.length ≤ maxLen := by omega
  go_enter Tryz.func62, Tryz.ntmps62
  go_wp2_with (at_make; refine Qfn w (.tmp 6) (.tmp 6) 29 3 1 l.length rfl rfl Tryz.underlying29 (by kernel_rfl) rfl rfl (by omega) (by go_grown) ?_; intro w1 cur hcur hcs hB1 hb1 hlt1)
  go_loopw [4] (fun i wr => ∃ k : Nat, k ≤ l.length ∧ i = .int .i64 k ∧ Below w.heap.size w wr ∧ w.heap.size < wr.heap.size ∧ Hid (Part wr w.heap.size l.length 3 l k)) (fun i _ => l.length - (intOf i).toNat)
  case atStart => exact ⟨0, Nat.zero_le _, rfl, hB1, hlt1, Part.start hcur hcs l⟩
  case round =>
    obtain ⟨k, hk, rfl, hB, hlt, hP⟩ := hrel
    clear hB1 hb1 hlt1 hcur hcs
    by_cases hkl : k < l.length
    · have hx := List.getElem?_eq_getElem hkl
      obtain ⟨eb, eo, ee, rfl, hcl, hcc, hxr⟩ := HE.out k _ hx
      have hxs := HS.out k _ hx
      have HX := Lib.hid hx; clear hx
      generalize l[k] = x at *
      obtain ⟨cur2, hg, hgs⟩ := hP.out.block
      have hgs2 : cur2.size = l.length * 1 := hgs
      have hroom := Nat.mul_le_mul_right 1 (show k + 1 ≤ l.length by omega)
      obtain ⟨e, hxi⟩ := hxr
      obtain rfl := e
      have p0 : wr.cell? ⟨eb, eo + k, none⟩ = some (.int .i64 x) := by have h0 := hcc 0 _ rfl; simp only [GoD.n, Nat.mul_one, Nat.add_zero] at h0; exact (hB.cell (World.block_lt_of_cell? w _ h0)).trans h0
      have HXI := Lib.hid hxi; clear hxi
      obtain ⟨y0, q0⟩ : ∃ y, wr.cell? ⟨w.heap.size, k, none⟩ = some y := ⟨_, Yh hg k (by omega)⟩
      have fz := Jp hg
      clear hcc hcl hg hgs
      go_wp2
      go_roundw
      case rel => exact ⟨k + 1, by omega, by go_num, by go_grown, by simpa using hlt, by
        have h := hP.out.step (Below.refl _ _) hkl hk HX.out (Qa9 wr HXI.out) (by simp)
        simp only [GoD.n, Nat.mul_one, World.setCells] at h
        exact h⟩
      case measure => simp [intOf]; omega
    · obtain rfl : k = l.length := by omega
      go_wp2
      go_ret
      obtain ⟨L, hL, hLB⟩ := hP.out.done hlm
      exact ⟨_, L, rfl, hB, hL, hLB⟩
set_option maxHeartbeats 1000000 in
theorem toField_c (w : World) (ca : List Value) (a : Jr) (ha : rd w ca a) (hsz : GoD.size a ≤ 1048576) : Calls Tryz.prog 90 #[.agg ca.toArray] w (RetA w a) := by
  obtain ⟨a1, a2⟩ := a
  obtain ⟨ac1, at1, rfl, ar1, ar2⟩ := ha
  obtain ⟨rfl, ar1⟩ := ar1
  obtain ⟨rfl, ar2⟩ := ar2
  dsimp only [List.cons_append, List.nil_append] at *
  replace hsz : (GoD.size a1 + GoD.size a2) ≤ 1048576 := hsz
  have AR1H := Lib.hid ar1; clear ar1
  have AR2H := Lib.hid ar2; clear ar2
  go_enter Tryz.func90, Tryz.ntmps90
  go_wp2_with (first | ((with_reducible show bodyPost _ _ _ _ _ _); refine bodyPost_ret (v := .agg #[.string a1, .int .i64 a2]) (by simp [results, Tryz.results90, go_sem]) rfl ⟨[.string a1, .int .i64 a2], ([] ++ []), rfl, by go_grown, ?_, ?_⟩; (exact (Yx (Qhi _ AR1H.out) (Qa9 _ AR2H.out) (by simp))); simp))
set_option maxRecDepth 100000 in
set_option maxHeartbeats 1000000 in
theorem toDirS_c (w : World) (v : Value) (l : List Zh) (ha : rd w [v] l) (hsz : GoD.size l ≤ 1048576) : Calls Tryz.prog 11 #[v] w (RetS w l) := by
  obtain ⟨oa, cap, e1, hl, hm, hel⟩ := ha
  obtain rfl : v = _ := by simpa using e1
  clear e1
  have HE := Lib.hid hel; clear hel
  have hn : l.length ≤ 1048576 := by have := Wv l; omega
  have HS := Lib.hid (fun i a (h : l[i]? = some a) => Ww h)
  have hlm : l.length ≤ maxLen := by omega
  go_enter Tryz.func11, Tryz.ntmps11
  go_wp2_with (at_make; refine Qfn w (.tmp 6) (.tmp 6) 36 96 2 l.length rfl rfl Tryz.underlying36 (by kernel_rfl) rfl rfl (by omega) (by go_grown) ?_; intro w1 cur hcur hcs hB1 hb1 hlt1)
  go_loopw [4] (fun i wr => ∃ k : Nat, k ≤ l.length ∧ i = .int .i64 k ∧ Below w.heap.size w wr ∧ w.heap.size < wr.heap.size ∧ Hid (Part wr w.heap.size l.length 96 l k)) (fun i _ => l.length - (intOf i).toNat)
  case atStart => exact ⟨0, Nat.zero_le _, rfl, hB1, hlt1, Part.start hcur hcs l⟩
  case round =>
    obtain ⟨k, hk, rfl, hB, hlt, hP⟩ := hrel
    clear hB1 hb1 hlt1 hcur hcs
    by_cases hkl : k < l.length
    · have hx := List.getElem?_eq_getElem hkl
      obtain ⟨eb, eo, ee, rfl, hcl, hcc, hxr⟩ := HE.out k _ hx
      have hxs := HS.out k _ hx
      have HX := Lib.hid hx; clear hx
      generalize l[k] = x at *
      obtain ⟨cur2, hg, hgs⟩ := hP.out.block
      have hgs2 : cur2.size = l.length * 2 := hgs
      have hroom := Nat.mul_le_mul_right 2 (show k + 1 ≤ l.length by omega)
      obtain ⟨x0, x1, rfl⟩ := Qi1 (show _ = 2 from hcl)
      have p0 : wr.cell? ⟨eb, eo + k * 2, none⟩ = some x0 := (hB.cell (World.block_lt_of_cell? w _ (hcc 0 _ rfl))).trans (hcc 0 _ rfl)
      have p1 : wr.cell? ⟨eb, eo + k * 2 + 1, none⟩ = some x1 := (hB.cell (World.block_lt_of_cell? w _ (hcc 1 _ rfl))).trans (hcc 1 _ rfl)
      have HXR := Lib.hid hxr; clear hxr hcc hcl
      have HG := Lib.hid hg; clear hg
      go_wp2_with (go_at_call 41; refine Qbn (w := w) (toDir_c _ [x0, x1] x (Q3 HXR.out hB) (by omega)) (by go_grown) ?_; intro w2 cs L hB2 hb2 hz2 _ ho hL; obtain ⟨eoa1, ecp1, rfl⟩ := cells_Dir (GoD.own_rd ho); have hg2 := (hb2.block _ hlt).trans HG.out; obtain ⟨z0, q0⟩ : ∃ y, w2.cell? ⟨w.heap.size, k * 2, none⟩ = some y := ⟨_, Yh hg2 _ (by omega)⟩; obtain ⟨z1, q1⟩ : ∃ y, w2.cell? ⟨w.heap.size, k * 2 + 1, none⟩ = some y := ⟨_, Yh hg2 _ (by omega)⟩; have fz := Jp hg2; clear hg2; have HO := Lib.hid ho; clear ho; have HL := Lib.hid hL; clear hL; have HB2 := Lib.hid hb2; clear hb2)
      go_roundw
      case rel => exact ⟨k + 1, by omega, by go_num, by go_grown, by simp only [World.size_setCell]; omega, by
        have h := hP.out.step HB2.out hkl hk HX.out HO.out HL.out
        rw [show GoD.n Zh = 2 from rfl] at h
        simp only [World.setCells, Nat.add_assoc, Nat.reduceAdd] at h
        exact h⟩
      case measure => simp [intOf]; omega
    · obtain rfl : k = l.length := by omega
      go_wp2
      go_ret
      obtain ⟨L, hL, hLB⟩ := hP.out.done hlm
      exact ⟨_, L, rfl, hB, hL, hLB⟩
set_option maxHeartbeats 1000000 in
theorem toEvent_c (w : World) (ca : List Value) (a : Zk) (ha : rd w ca a) (hsz : GoD.size a ≤ 1048576) : Calls Tryz.prog 110 #[.agg ca.toArray] w (RetA w a) := by
  obtain ⟨a1, a2, a3⟩ := a
  obtain ⟨ac1, at1, rfl, ar1, ac2, at2, rfl, ar2, ar3⟩ := ha
  obtain ⟨rfl, ar1⟩ := ar1
  obtain ⟨ax2_0, rfl⟩ := U6 (show _ = 1 from GoD.rd_len ar2)
  obtain ⟨ax3_0, rfl⟩ := U6 (show _ = 1 from GoD.rd_len ar3)
  dsimp only [List.cons_append, List.nil_append] at *
  replace hsz : (GoD.size a1 + (GoD.size a2 + GoD.size a3)) ≤ 1048576 := hsz
  have AR1H := Lib.hid ar1; clear ar1
  have AR2H := Lib.hid ar2; clear ar2
  have AR3H := Lib.hid ar3; clear ar3
  have tok1 : True := trivial
  have tok2 : True := trivial
  go_enter Tryz.func110, Tryz.ntmps110
  go_wp2_with (first | (go_at_call 62; have tk := tok1; clear tok1; refine Qbo (w := w) (Qob _ ax2_0 a2 (Q3 AR2H.out (by go_grown)) (by omega)) (by go_grown) ?_; intro w1 v1 L1 hB hb hz _ ho1 hL1; obtain ⟨oa1, cp1, rfl⟩ := Zd ho1; have hz2 := hb.size; (repeat (first | rewrite [World.size_alloc] at hz2 | rewrite [World.size_setCell] at hz2 | rewrite [World.size_drew] at hz2)); (repeat (first | rewrite [World.size_alloc] at hL1 | rewrite [World.size_setCell] at hL1 | rewrite [World.size_drew] at hL1)); have hlt1 := GoD.own_lt ho1; have c1_0 := fun o => Z4 hb (w.heap.size) o (by go_size); have f1_0 := fun o => U4 hb (w.heap.size) o (by go_size); have c1_1 := fun o => Z4 hb (w.heap.size + 1) o (by go_size); have f1_1 := fun o => U4 hb (w.heap.size + 1) o (by go_size); have c1_2 := fun o => Z4 hb (w.heap.size + 1 + 1) o (by go_size); have f1_2 := fun o => U4 hb (w.heap.size + 1 + 1) o (by go_size); have HO1 := Lib.hid ho1; clear ho1; have HL1 := Lib.hid hL1; clear hL1; have HT1 := Lib.hid hlt1; clear hlt1; have HB1 := Lib.hid hb; clear hb) | (go_at_call 62; have tk := tok2; clear tok2; refine Qbo (w := w) (Qob _ ax3_0 a3 (Q3 AR3H.out (by go_grown)) (by omega)) (by go_grown) ?_; intro w2 v2 L2 hB hb hz _ ho2 hL2; obtain ⟨oa2, cp2, rfl⟩ := Zd ho2; have hz2 := hb.size; (repeat (first | rewrite [World.size_alloc] at hz2 | rewrite [World.size_setCell] at hz2 | rewrite [World.size_drew] at hz2)); (repeat (first | rewrite [World.size_alloc] at hL2 | rewrite [World.size_setCell] at hL2 | rewrite [World.size_drew] at hL2)); have hlt2 := GoD.own_lt ho2; have c2_0 := fun o => Z4 hb (w.heap.size) o (by go_size); have f2_0 := fun o => U4 hb (w.heap.size) o (by go_size); have c2_1 := fun o => Z4 hb (w.heap.size + 1) o (by go_size); have f2_1 := fun o => U4 hb (w.heap.size + 1) o (by go_size); have c2_2 := fun o => Z4 hb (w.heap.size + 1 + 1) o (by go_size); have f2_2 := fun o => U4 hb (w.heap.size + 1 + 1) o (by go_size); have HO2 := Lib.hid ho2; clear ho2; have HL2 := Lib.hid hL2; clear hL2; have HT2 := Lib.hid hlt2; clear hlt2; have HB2 := Lib.hid hb; clear hb) | ((with_reducible show bodyPost _ _ _ _ _ _); refine bodyPost_ret (v := .agg #[.int .i64 a1, .slice oa1 a2.length cp1, .slice oa2 a3.length cp2]) (by simp [results, Tryz.results110, go_sem, c1_1, c2_1]) rfl ⟨[.int .i64 a1, .slice oa1 a2.length cp1, .slice oa2 a3.length cp2], ([] ++ (L1 ++ L2)), rfl, by go_grown, ?_, ?_⟩; (exact (Yx (Qa9 _ AR1H.out) (Yx (show own L1 _ [.slice oa1 a2.length cp1] a2 by (repeat (first | (with_reducible exact HO1.out) | ((with_reducible refine Z2 ?_ ?_); rotate_left; exact (fun hm => by have := HL1.out _ hm; omega)) | (with_reducible refine K1 ?_) | (with_reducible refine Qbk ?_) | (with_reducible refine Qeb ?_ HB2.out)))) (show own L2 _ [.slice oa2 a3.length cp2] a3 by (repeat (first | (with_reducible exact HO2.out) | ((with_reducible refine Z2 ?_ ?_); rotate_left; exact (fun hm => by have := HL2.out _ hm; omega)) | (with_reducible refine K1 ?_) | (with_reducible refine Qbk ?_)))) (fun x hx hy => by (try simp only [List.mem_append, List.not_mem_nil, List.append_nil, List.nil_append, false_or, or_false] at hy); have := HT1.out x hx; rcases hy with hy <;> (first | (have := HL2.out x hy; omega)))) (by simp))); intro x hx; (try simp only [List.mem_append, List.not_mem_nil, List.append_nil, List.nil_append, false_or, or_false] at hx); rcases hx with hx | hx <;> first | (have := HL1.out x hx; omega) | (have := HL2.out x hx; omega)))
set_option maxRecDepth 100000 in
set_option maxHeartbeats 1000000 in
theorem Qvg (w : World) (v : Value) (l : List Zk) (ha : rd w [v] l) (hsz : GoD.size l ≤ 1048576) : Calls Tryz.prog 63 #[v] w (RetS w l) := by
  obtain ⟨oa, cap, e1, hl, hm, hel⟩ := ha
  obtain rfl : v = _ := by simpa using e1
  clear e1
  have HE := Lib.hid hel; clear hel
  have hn : l.length ≤ 1048576 := by have := Wv l; omega
  have HS := Lib.hid (fun i a (h : l[i]? = some a) => Ww h)
  have hlm : l.length ≤ maxLen := by omega
  go_enter Tryz.func63, Tryz.ntmps63
  go_wp2_with (at_make; refine Qfn w (.tmp 6) (.tmp 6) 45 116 3 l.length rfl rfl Tryz.underlying45 (by kernel_rfl) rfl rfl (by omega) (by go_grown) ?_; intro w1 cur hcur hcs hB1 hb1 hlt1)
  go_loopw [4] (fun i wr => ∃ k : Nat, k ≤ l.length ∧ i = .int .i64 k ∧ Below w.heap.size w wr ∧ w.heap.size < wr.heap.size ∧ Hid (Part wr w.heap.size l.length 116 l k)) (fun i _ => l.length - (intOf i).toNat)
  case atStart => exact ⟨0, Nat.zero_le _, rfl, hB1, hlt1, Part.start hcur hcs l⟩
  case round =>
    obtain ⟨k, hk, rfl, hB, hlt, hP⟩ := hrel
    clear hB1 hb1 hlt1 hcur hcs
    by_cases hkl : k < l.length
    · have hx := List.getElem?_eq_getElem hkl
      obtain ⟨eb, eo, ee, rfl, hcl, hcc, hxr⟩ := HE.out k _ hx
      have hxs := HS.out k _ hx
      have HX := Lib.hid hx; clear hx
      generalize l[k] = x at *
      obtain ⟨cur2, hg, hgs⟩ := hP.out.block
      have hgs2 : cur2.size = l.length * 3 := hgs
      have hroom := Nat.mul_le_mul_right 3 (show k + 1 ≤ l.length by omega)
      obtain ⟨x0, x1, x2, rfl⟩ := Qvj (show _ = 3 from hcl)
      have p0 : wr.cell? ⟨eb, eo + k * 3, none⟩ = some x0 := (hB.cell (World.block_lt_of_cell? w _ (hcc 0 _ rfl))).trans (hcc 0 _ rfl)
      have p1 : wr.cell? ⟨eb, eo + k * 3 + 1, none⟩ = some x1 := (hB.cell (World.block_lt_of_cell? w _ (hcc 1 _ rfl))).trans (hcc 1 _ rfl)
      have p2 : wr.cell? ⟨eb, eo + k * 3 + 2, none⟩ = some x2 := (hB.cell (World.block_lt_of_cell? w _ (hcc 2 _ rfl))).trans (hcc 2 _ rfl)
      have HXR := Lib.hid hxr; clear hxr hcc hcl
      have HG := Lib.hid hg; clear hg
      go_wp2_with (go_at_call 110; refine Qbn (w := w) (toEvent_c _ [x0, x1, x2] x (Q3 HXR.out hB) (by omega)) (by go_grown) ?_; intro w2 cs L hB2 hb2 hz2 _ ho hL; obtain ⟨eoa1, ecp1, eoa2, ecp2, rfl⟩ := Qre (GoD.own_rd ho); have hg2 := (hb2.block _ hlt).trans HG.out; obtain ⟨z0, q0⟩ : ∃ y, w2.cell? ⟨w.heap.size, k * 3, none⟩ = some y := ⟨_, Yh hg2 _ (by omega)⟩; obtain ⟨z1, q1⟩ : ∃ y, w2.cell? ⟨w.heap.size, k * 3 + 1, none⟩ = some y := ⟨_, Yh hg2 _ (by omega)⟩; obtain ⟨z2, q2⟩ : ∃ y, w2.cell? ⟨w.heap.size, k * 3 + 2, none⟩ = some y := ⟨_, Yh hg2 _ (by omega)⟩; have fz := Jp hg2; clear hg2; have HO := Lib.hid ho; clear ho; have HL := Lib.hid hL; clear hL; have HB2 := Lib.hid hb2; clear hb2)
      go_roundw
      case rel => exact ⟨k + 1, by omega, by go_num, by go_grown, by simp only [World.size_setCell]; omega, by
        have h := hP.out.step HB2.out hkl hk HX.out HO.out HL.out
        rw [show GoD.n Zk = 3 from rfl] at h
        simp only [World.setCells, Nat.add_assoc, Nat.reduceAdd] at h
        exact h⟩
      case measure => simp [intOf]; omega
    · obtain rfl : k = l.length := by omega
      go_wp2
      go_ret
      obtain ⟨L, hL, hLB⟩ := hP.out.done hlm
      exact ⟨_, L, rfl, hB, hL, hLB⟩
set_option maxHeartbeats 1000000 in
theorem toWatch_c (w : World) (ca : List Value) (a : Jl) (ha : rd w ca a) (hsz : GoD.size a ≤ 1048576) : Calls Tryz.prog 27 #[.agg ca.toArray] w (RetA w a) := by
  obtain ⟨a1, a2, a3, a4⟩ := a
  obtain ⟨ac1, at1, rfl, ar1, ac2, at2, rfl, ar2, ac3, at3, rfl, ar3, ar4⟩ := ha
  obtain ⟨rfl, ar1⟩ := ar1
  obtain ⟨rfl, ar2⟩ := ar2
  obtain ⟨ax3_0, rfl⟩ := U6 (show _ = 1 from GoD.rd_len ar3)
  obtain ⟨ax4_0, rfl⟩ := U6 (show _ = 1 from GoD.rd_len ar4)
  dsimp only [List.cons_append, List.nil_append] at *
  replace hsz : (GoD.size a1 + (GoD.size a2 + (GoD.size a3 + GoD.size a4))) ≤ 1048576 := hsz
  have AR1H := Lib.hid ar1; clear ar1
  have AR2H := Lib.hid ar2; clear ar2
  have AR3H := Lib.hid ar3; clear ar3
  have AR4H := Lib.hid ar4; clear ar4
  have tok1 : True := trivial
  have tok2 : True := trivial
  go_enter Tryz.func27, Tryz.ntmps27
  go_wp2_with (first | (go_at_call 62; have tk := tok1; clear tok1; refine Qbo (w := w) (Qob _ ax3_0 a3 (Q3 AR3H.out (by go_grown)) (by omega)) (by go_grown) ?_; intro w1 v1 L1 hB hb hz _ ho1 hL1; obtain ⟨oa1, cp1, rfl⟩ := Zd ho1; have hz2 := hb.size; (repeat (first | rewrite [World.size_alloc] at hz2 | rewrite [World.size_setCell] at hz2 | rewrite [World.size_drew] at hz2)); (repeat (first | rewrite [World.size_alloc] at hL1 | rewrite [World.size_setCell] at hL1 | rewrite [World.size_drew] at hL1)); have hlt1 := GoD.own_lt ho1; have c1_0 := fun o => Z4 hb (w.heap.size) o (by go_size); have f1_0 := fun o => U4 hb (w.heap.size) o (by go_size); have c1_1 := fun o => Z4 hb (w.heap.size + 1) o (by go_size); have f1_1 := fun o => U4 hb (w.heap.size + 1) o (by go_size); have c1_2 := fun o => Z4 hb (w.heap.size + 1 + 1) o (by go_size); have f1_2 := fun o => U4 hb (w.heap.size + 1 + 1) o (by go_size); have HO1 := Lib.hid ho1; clear ho1; have HL1 := Lib.hid hL1; clear hL1; have HT1 := Lib.hid hlt1; clear hlt1; have HB1 := Lib.hid hb; clear hb) | (go_at_call 63; have tk := tok2; clear tok2; refine Qbo (w := w) (Qvg _ ax4_0 a4 (Q3 AR4H.out (by go_grown)) (by omega)) (by go_grown) ?_; intro w2 v2 L2 hB hb hz _ ho2 hL2; obtain ⟨oa2, cp2, rfl⟩ := Zd ho2; have hz2 := hb.size; (repeat (first | rewrite [World.size_alloc] at hz2 | rewrite [World.size_setCell] at hz2 | rewrite [World.size_drew] at hz2)); (repeat (first | rewrite [World.size_alloc] at hL2 | rewrite [World.size_setCell] at hL2 | rewrite [World.size_drew] at hL2)); have hlt2 := GoD.own_lt ho2; have c2_0 := fun o => Z4 hb (w.heap.size) o (by go_size); have f2_0 := fun o => U4 hb (w.heap.size) o (by go_size); have c2_1 := fun o => Z4 hb (w.heap.size + 1) o (by go_size); have f2_1 := fun o => U4 hb (w.heap.size + 1) o (by go_size); have c2_2 := fun o => Z4 hb (w.heap.size + 1 + 1) o (by go_size); have f2_2 := fun o => U4 hb (w.heap.size + 1 + 1) o (by go_size); have HO2 := Lib.hid ho2; clear ho2; have HL2 := Lib.hid hL2; clear hL2; have HT2 := Lib.hid hlt2; clear hlt2; have HB2 := Lib.hid hb; clear hb) | ((with_reducible show bodyPost _ _ _ _ _ _); refine bodyPost_ret (v := .agg #[.int .i64 a1, .string a2, .slice oa1 a3.length cp1, .slice oa2 a4.length cp2]) (by simp [results, Tryz.results27, go_sem, c1_1, c2_1]) rfl ⟨[.int .i64 a1, .string a2, .slice oa1 a3.length cp1, .slice oa2 a4.length cp2], ([] ++ ([] ++ (L1 ++ L2))), rfl, by go_grown, ?_, ?_⟩; (exact (Yx (Qa9 _ AR1H.out) (Yx (Qhi _ AR2H.out) (Yx (show own L1 _ [.slice oa1 a3.length cp1] a3 by (repeat (first | (with_reducible exact HO1.out) | ((with_reducible refine Z2 ?_ ?_); rotate_left; exact (fun hm => by have := HL1.out _ hm; omega)) | (with_reducible refine K1 ?_) | (with_reducible refine Qbk ?_) | (with_reducible refine Qeb ?_ HB2.out)))) (show own L2 _ [.slice oa2 a4.length cp2] a4 by (repeat (first | (with_reducible exact HO2.out) | ((with_reducible refine Z2 ?_ ?_); rotate_left; exact (fun hm => by have := HL2.out _ hm; omega)) | (with_reducible refine K1 ?_) | (with_reducible refine Qbk ?_)))) (fun x hx hy => by (try simp only [List.mem_append, List.not_mem_nil, List.append_nil, List.nil_append, false_or, or_false] at hy); have := HT1.out x hx; rcases hy with hy <;> (first | (have := HL2.out x hy; omega)))) (by simp)) (by simp))); intro x hx; (try simp only [List.mem_append, List.not_mem_nil, List.append_nil, List.nil_append, false_or, or_false] at hx); rcases hx with hx | hx <;> first | (have := HL1.out x hx; omega) | (have := HL2.out x hx; omega)))
set_option maxRecDepth 100000 in
set_option maxHeartbeats 1000000 in
theorem Qvh (w : World) (v : Value) (l : List Jr) (ha : rd w [v] l) (hsz : GoD.size l ≤ 1048576) : Calls Tryz.prog 39 #[v] w (RetS w l) := by
  obtain ⟨oa, cap, e1, hl, hm, hel⟩ := ha
  obtain rfl : v = _ := by simpa using e1
  clear e1
  have HE := Lib.hid hel; clear hel
  have hn : l.length ≤ 1048576 := by have := Wv l; omega
  have HS := Lib.hid (fun i a (h : l[i]? = some a) => Ww h)
  have hlm : l.length ≤ maxLen := by omega
  go_enter Tryz.func39, Tryz.ntmps39
  go_wp2_with (at_make; refine Qfn w (.tmp 6) (.tmp 6) 31 144 2 l.length rfl rfl Tryz.underlying31 (by kernel_rfl) rfl rfl (by omega) (by go_grown) ?_; intro w1 cur hcur hcs hB1 hb1 hlt1)
  go_loopw [4] (fun i wr => ∃ k : Nat, k ≤ l.length ∧ i = .int .i64 k ∧ Below w.heap.size w wr ∧ w.heap.size < wr.heap.size ∧ Hid (Part wr w.heap.size l.length 144 l k)) (fun i _ => l.length - (intOf i).toNat)
  case atStart => exact ⟨0, Nat.zero_le _, rfl, hB1, hlt1, Part.start hcur hcs l⟩
  case round =>
    obtain ⟨k, hk, rfl, hB, hlt, hP⟩ := hrel
    clear hB1 hb1 hlt1 hcur hcs
    by_cases hkl : k < l.length
    · have hx := List.getElem?_eq_getElem hkl
      obtain ⟨eb, eo, ee, rfl, hcl, hcc, hxr⟩ := HE.out k _ hx
      have hxs := HS.out k _ hx
      have HX := Lib.hid hx; clear hx
      generalize l[k] = x at *
      obtain ⟨cur2, hg, hgs⟩ := hP.out.block
      have hgs2 : cur2.size = l.length * 2 := hgs
      have hroom := Nat.mul_le_mul_right 2 (show k + 1 ≤ l.length by omega)
      obtain ⟨x0, x1, rfl⟩ := Qi1 (show _ = 2 from hcl)
      have p0 : wr.cell? ⟨eb, eo + k * 2, none⟩ = some x0 := (hB.cell (World.block_lt_of_cell? w _ (hcc 0 _ rfl))).trans (hcc 0 _ rfl)
      have p1 : wr.cell? ⟨eb, eo + k * 2 + 1, none⟩ = some x1 := (hB.cell (World.block_lt_of_cell? w _ (hcc 1 _ rfl))).trans (hcc 1 _ rfl)
      have HXR := Lib.hid hxr; clear hxr hcc hcl
      have HG := Lib.hid hg; clear hg
      go_wp2_with (go_at_call 90; refine Qbn (w := w) (toField_c _ [x0, x1] x (Q3 HXR.out hB) (by omega)) (by go_grown) ?_; intro w2 cs L hB2 hb2 hz2 _ ho hL; obtain rfl := Qrc (GoD.own_rd ho); have hg2 := (hb2.block _ hlt).trans HG.out; obtain ⟨z0, q0⟩ : ∃ y, w2.cell? ⟨w.heap.size, k * 2, none⟩ = some y := ⟨_, Yh hg2 _ (by omega)⟩; obtain ⟨z1, q1⟩ : ∃ y, w2.cell? ⟨w.heap.size, k * 2 + 1, none⟩ = some y := ⟨_, Yh hg2 _ (by omega)⟩; have fz := Jp hg2; clear hg2; have HO := Lib.hid ho; clear ho; have HL := Lib.hid hL; clear hL; have HB2 := Lib.hid hb2; clear hb2)
      go_roundw
      case rel => exact ⟨k + 1, by omega, by go_num, by go_grown, by simp only [World.size_setCell]; omega, by
        have h := hP.out.step HB2.out hkl hk HX.out HO.out HL.out
        rw [show GoD.n Jr = 2 from rfl] at h
        simp only [World.setCells, Nat.add_assoc, Nat.reduceAdd] at h
        exact h⟩
      case measure => simp [intOf]; omega
    · obtain rfl : k = l.length := by omega
      go_wp2
      go_ret
      obtain ⟨L, hL, hLB⟩ := hP.out.done hlm
      exact ⟨_, L, rfl, hB, hL, hLB⟩
set_option maxHeartbeats 1000000 in
theorem toAttr_c (w : World) (ca : List Value) (a : Qdd) (ha : rd w ca a) (hsz : GoD.size a ≤ 1048576) : Calls Tryz.prog 171 #[.agg ca.toArray] w (RetA w a) := by
  obtain ⟨a1, a2⟩ := a
  obtain ⟨ac1, at1, rfl, ar1, ar2⟩ := ha
  obtain ⟨rfl, ar1⟩ := ar1
  obtain ⟨ax2_0, ax2_1, ax2_2, rfl⟩ := Qvj (show _ = 3 from GoD.rd_len ar2)
  dsimp only [List.cons_append, List.nil_append] at *
  replace hsz : (GoD.size a1 + GoD.size a2) ≤ 1048576 := hsz
  have AR1H := Lib.hid ar1; clear ar1
  have AR2H := Lib.hid ar2; clear ar2
  have tok1 : True := trivial
  go_enter Tryz.func171, Tryz.ntmps171
  go_wp2_with (first | (go_at_call 172; have tk := tok1; clear tok1; refine Qbn (w := w) (Qqk _ [ax2_0, ax2_1, ax2_2] a2 (Q3 AR2H.out (by go_grown)) (by omega)) (by go_grown) ?_; intro w1 cs1 L1 hB hb hz _ ho1 hL1; obtain rfl := Qj4 (GoD.own_rd ho1); have hz2 := hb.size; (repeat (first | rewrite [World.size_alloc] at hz2 | rewrite [World.size_setCell] at hz2 | rewrite [World.size_drew] at hz2)); (repeat (first | rewrite [World.size_alloc] at hL1 | rewrite [World.size_setCell] at hL1 | rewrite [World.size_drew] at hL1)); have hlt1 := GoD.own_lt ho1; have c1_0 := fun o => Z4 hb (w.heap.size) o (by go_size); have f1_0 := fun o => U4 hb (w.heap.size) o (by go_size); have c1_1 := fun o => Z4 hb (w.heap.size + 1) o (by go_size); have f1_1 := fun o => U4 hb (w.heap.size + 1) o (by go_size); have c1_2 := fun o => Z4 hb (w.heap.size + 1 + 1) o (by go_size); have f1_2 := fun o => U4 hb (w.heap.size + 1 + 1) o (by go_size); have HO1 := Lib.hid ho1; clear ho1; have HL1 := Lib.hid hL1; clear hL1; have HT1 := Lib.hid hlt1; clear hlt1; have HB1 := Lib.hid hb; clear hb) | ((with_reducible show bodyPost _ _ _ _ _ _); refine bodyPost_ret (v := .agg #[.string a1, .int .i64 a2.1, .int .i64 a2.2.1, .string a2.2.2]) (by simp [results, Tryz.results171, go_sem, c1_1]) rfl ⟨[.string a1, .int .i64 a2.1, .int .i64 a2.2.1, .string a2.2.2], ([] ++ L1), rfl, by go_grown, ?_, ?_⟩; (exact (Yx (Qhi _ AR1H.out) (show own L1 _ [.int .i64 a2.1, .int .i64 a2.2.1, .string a2.2.2] a2 by (repeat (first | (with_reducible exact HO1.out) | ((with_reducible refine Z2 ?_ ?_); rotate_left; exact (fun hm => by have := HL1.out _ hm; omega)) | (with_reducible refine K1 ?_) | (with_reducible refine Qbk ?_)))) (by simp))); intro x hx; (try simp only [List.mem_append, List.not_mem_nil, List.append_nil, List.nil_append, false_or, or_false] at hx); rcases hx with hx <;> first | (have := HL1.out x hx; omega)))
set_option maxRecDepth 100000 in
set_option maxHeartbeats 1000000 in
theorem toAttrS_c (w : World) (v : Value) (l : List Qdd) (ha : rd w [v] l) (hsz : GoD.size l ≤ 1048576) : Calls Tryz.prog 130 #[v] w (RetS w l) := by
  obtain ⟨oa, cap, e1, hl, hm, hel⟩ := ha
  obtain rfl : v = _ := by simpa using e1
  clear e1
  have HE := Lib.hid hel; clear hel
  have hn : l.length ≤ 1048576 := by have := Wv l; omega
  have HS := Lib.hid (fun i a (h : l[i]? = some a) => Ww h)
  have hlm : l.length ≤ maxLen := by omega
  go_enter Tryz.func130, Tryz.ntmps130
  go_wp2_with (at_make; refine Qfn w (.tmp 6) (.tmp 6) 146 221 4 l.length rfl rfl Tryz.underlying146 (by kernel_rfl) rfl rfl (by omega) (by go_grown) ?_; intro w1 cur hcur hcs hB1 hb1 hlt1)
  go_loopw [4] (fun i wr => ∃ k : Nat, k ≤ l.length ∧ i = .int .i64 k ∧ Below w.heap.size w wr ∧ w.heap.size < wr.heap.size ∧ Hid (Part wr w.heap.size l.length 221 l k)) (fun i _ => l.length - (intOf i).toNat)
  case atStart => exact ⟨0, Nat.zero_le _, rfl, hB1, hlt1, Part.start hcur hcs l⟩
  case round =>
    obtain ⟨k, hk, rfl, hB, hlt, hP⟩ := hrel
    clear hB1 hb1 hlt1 hcur hcs
    by_cases hkl : k < l.length
    · have hx := List.getElem?_eq_getElem hkl
      obtain ⟨eb, eo, ee, rfl, hcl, hcc, hxr⟩ := HE.out k _ hx
      have hxs := HS.out k _ hx
      have HX := Lib.hid hx; clear hx
      generalize l[k] = x at *
      obtain ⟨cur2, hg, hgs⟩ := hP.out.block
      have hgs2 : cur2.size = l.length * 4 := hgs
      have hroom := Nat.mul_le_mul_right 4 (show k + 1 ≤ l.length by omega)
      obtain ⟨x0, x1, x2, x3, rfl⟩ := len4 (show _ = 4 from hcl)
      have p0 : wr.cell? ⟨eb, eo + k * 4, none⟩ = some x0 := (hB.cell (World.block_lt_of_cell? w _ (hcc 0 _ rfl))).trans (hcc 0 _ rfl)
      have p1 : wr.cell? ⟨eb, eo + k * 4 + 1, none⟩ = some x1 := (hB.cell (World.block_lt_of_cell? w _ (hcc 1 _ rfl))).trans (hcc 1 _ rfl)
      have p2 : wr.cell? ⟨eb, eo + k * 4 + 2, none⟩ = some x2 := (hB.cell (World.block_lt_of_cell? w _ (hcc 2 _ rfl))).trans (hcc 2 _ rfl)
      have p3 : wr.cell? ⟨eb, eo + k * 4 + 3, none⟩ = some x3 := (hB.cell (World.block_lt_of_cell? w _ (hcc 3 _ rfl))).trans (hcc 3 _ rfl)
      have HXR := Lib.hid hxr; clear hxr hcc hcl
      have HG := Lib.hid hg; clear hg
      go_wp2_with (go_at_call 171; refine Qbn (w := w) (toAttr_c _ [x0, x1, x2, x3] x (Q3 HXR.out hB) (by omega)) (by go_grown) ?_; intro w2 cs L hB2 hb2 hz2 _ ho hL; obtain rfl := Quo (GoD.own_rd ho); have hg2 := (hb2.block _ hlt).trans HG.out; obtain ⟨z0, q0⟩ : ∃ y, w2.cell? ⟨w.heap.size, k * 4, none⟩ = some y := ⟨_, Yh hg2 _ (by omega)⟩; obtain ⟨z1, q1⟩ : ∃ y, w2.cell? ⟨w.heap.size, k * 4 + 1, none⟩ = some y := ⟨_, Yh hg2 _ (by omega)⟩; obtain ⟨z2, q2⟩ : ∃ y, w2.cell? ⟨w.heap.size, k * 4 + 2, none⟩ = some y := ⟨_, Yh hg2 _ (by omega)⟩; obtain ⟨z3, q3⟩ : ∃ y, w2.cell? ⟨w.heap.size, k * 4 + 3, none⟩ = some y := ⟨_, Yh hg2 _ (by omega)⟩; have fz := Jp hg2; clear hg2; have HO := Lib.hid ho; clear ho; have HL := Lib.hid hL; clear hL; have HB2 := Lib.hid hb2; clear hb2)
      go_roundw
      case rel => exact ⟨k + 1, by omega, by go_num, by go_grown, by simp only [World.size_setCell]; omega, by
        have h := hP.out.step HB2.out hkl hk HX.out HO.out HL.out
        rw [show GoD.n Qdd = 4 from rfl] at h
        simp only [World.setCells, Nat.add_assoc, Nat.reduceAdd] at h
        exact h⟩
      case measure => simp [intOf]; omega
    · obtain rfl : k = l.length := by omega
      go_wp2
      go_ret
      obtain ⟨L, hL, hLB⟩ := hP.out.done hlm
      exact ⟨_, L, rfl, hB, hL, hLB⟩
set_option maxHeartbeats 1000000 in
theorem toFile_c (w : World) (ca : List Value) (a : Yt) (ha : rd w ca a) (hsz : GoD.size a ≤ 1048576) : Calls Tryz.prog 91 #[.agg ca.toArray] w (RetA w a) := by
  obtain ⟨a1, a2, a3, a4, a5⟩ := a
  obtain ⟨ac1, at1, rfl, ar1, ac2, at2, rfl, ar2, ac3, at3, rfl, ar3, ac4, at4, rfl, ar4, ar5⟩ := ha
  obtain ⟨rfl, ar1⟩ := ar1
  obtain ⟨rfl, ar2⟩ := ar2
  obtain rfl := ar3
  obtain ⟨rfl, ar4⟩ := ar4
  obtain ⟨ax5_0, rfl⟩ := U6 (show _ = 1 from GoD.rd_len ar5)
  dsimp only [List.cons_append, List.nil_append] at *
  replace hsz : (GoD.size a1 + (GoD.size a2 + (GoD.size a3 + (GoD.size a4 + GoD.size a5)))) ≤ 1048576 := hsz
  have AR1H := Lib.hid ar1; clear ar1
  have AR2H := Lib.hid ar2; clear ar2
  have AR4H := Lib.hid ar4; clear ar4
  have AR5H := Lib.hid ar5; clear ar5
  have tok1 : True := trivial
  go_enter Tryz.func91, Tryz.ntmps91
  go_wp2_with (first | (go_at_call 130; have tk := tok1; clear tok1; refine Qbo (w := w) (toAttrS_c _ ax5_0 a5 (Q3 AR5H.out (by go_grown)) (by omega)) (by go_grown) ?_; intro w1 v1 L1 hB hb hz _ ho1 hL1; obtain ⟨oa1, cp1, rfl⟩ := Zd ho1; have hz2 := hb.size; (repeat (first | rewrite [World.size_alloc] at hz2 | rewrite [World.size_setCell] at hz2 | rewrite [World.size_drew] at hz2)); (repeat (first | rewrite [World.size_alloc] at hL1 | rewrite [World.size_setCell] at hL1 | rewrite [World.size_drew] at hL1)); have hlt1 := GoD.own_lt ho1; have c1_0 := fun o => Z4 hb (w.heap.size) o (by go_size); have f1_0 := fun o => U4 hb (w.heap.size) o (by go_size); have c1_1 := fun o => Z4 hb (w.heap.size + 1) o (by go_size); have f1_1 := fun o => U4 hb (w.heap.size + 1) o (by go_size); have c1_2 := fun o => Z4 hb (w.heap.size + 1 + 1) o (by go_size); have f1_2 := fun o => U4 hb (w.heap.size + 1 + 1) o (by go_size); have HO1 := Lib.hid ho1; clear ho1; have HL1 := Lib.hid hL1; clear hL1; have HT1 := Lib.hid hlt1; clear hlt1; have HB1 := Lib.hid hb; clear hb) | ((with_reducible show bodyPost _ _ _ _ _ _); refine bodyPost_ret (v := .agg #[.int .i64 a1, .int .i64 a2, .bool a3, .int .i64 a4, .slice oa1 a5.length cp1]) (by simp [results, Tryz.results91, go_sem, c1_1]) rfl ⟨[.int .i64 a1, .int .i64 a2, .bool a3, .int .i64 a4, .slice oa1 a5.length cp1], ([] ++ ([] ++ ([] ++ ([] ++ L1)))), rfl, by go_grown, ?_, ?_⟩; (exact (Yx (Qa9 _ AR1H.out) (Yx (Qa9 _ AR2H.out) (Yx (own_b _ _) (Yx (Qa9 _ AR4H.out) (show own L1 _ [.slice oa1 a5.length cp1] a5 by (repeat (first | (with_reducible exact HO1.out) | ((with_reducible refine Z2 ?_ ?_); rotate_left; exact (fun hm => by have := HL1.out _ hm; omega)) | (with_reducible refine K1 ?_) | (with_reducible refine Qbk ?_)))) (by simp)) (by simp)) (by simp)) (by simp))); intro x hx; (try simp only [List.mem_append, List.not_mem_nil, List.append_nil, List.nil_append, false_or, or_false] at hx); rcases hx with hx <;> first | (have := HL1.out x hx; omega)))
set_option maxRecDepth 100000 in
set_option maxHeartbeats 1000000 in
theorem toFileS_c (w : World) (v : Value) (l : List Yt) (ha : rd w [v] l) (hsz : GoD.size l ≤ 1048576) : Calls Tryz.prog 40 #[v] w (RetS w l) := by
  obtain ⟨oa, cap, e1, hl, hm, hel⟩ := ha
  obtain rfl : v = _ := by simpa using e1
  clear e1
  have HE := Lib.hid hel; clear hel
  have hn : l.length ≤ 1048576 := by have := Wv l; omega
  have HS := Lib.hid (fun i a (h : l[i]? = some a) => Ww h)
  have hlm : l.length ≤ maxLen := by omega
  go_enter Tryz.func40, Tryz.ntmps40
  go_wp2_with (at_make; refine Qfn w (.tmp 6) (.tmp 6) 32 148 5 l.length rfl rfl Tryz.underlying32 (by kernel_rfl) rfl rfl (by omega) (by go_grown) ?_; intro w1 cur hcur hcs hB1 hb1 hlt1)
  go_loopw [4] (fun i wr => ∃ k : Nat, k ≤ l.length ∧ i = .int .i64 k ∧ Below w.heap.size w wr ∧ w.heap.size < wr.heap.size ∧ Hid (Part wr w.heap.size l.length 148 l k)) (fun i _ => l.length - (intOf i).toNat)
  case atStart => exact ⟨0, Nat.zero_le _, rfl, hB1, hlt1, Part.start hcur hcs l⟩
  case round =>
    obtain ⟨k, hk, rfl, hB, hlt, hP⟩ := hrel
    clear hB1 hb1 hlt1 hcur hcs
    by_cases hkl : k < l.length
    · have hx := List.getElem?_eq_getElem hkl
      obtain ⟨eb, eo, ee, rfl, hcl, hcc, hxr⟩ := HE.out k _ hx
      have hxs := HS.out k _ hx
      have HX := Lib.hid hx; clear hx
      generalize l[k] = x at *
      obtain ⟨cur2, hg, hgs⟩ := hP.out.block
      have hgs2 : cur2.size = l.length * 5 := hgs
      have hroom := Nat.mul_le_mul_right 5 (show k + 1 ≤ l.length by omega)
      obtain ⟨x0, x1, x2, x3, x4, rfl⟩ := len5 (show _ = 5 from hcl)
      have p0 : wr.cell? ⟨eb, eo + k * 5, none⟩ = some x0 := (hB.cell (World.block_lt_of_cell? w _ (hcc 0 _ rfl))).trans (hcc 0 _ rfl)
      have p1 : wr.cell? ⟨eb, eo + k * 5 + 1, none⟩ = some x1 := (hB.cell (World.block_lt_of_cell? w _ (hcc 1 _ rfl))).trans (hcc 1 _ rfl)
      have p2 : wr.cell? ⟨eb, eo + k * 5 + 2, none⟩ = some x2 := (hB.cell (World.block_lt_of_cell? w _ (hcc 2 _ rfl))).trans (hcc 2 _ rfl)
      have p3 : wr.cell? ⟨eb, eo + k * 5 + 3, none⟩ = some x3 := (hB.cell (World.block_lt_of_cell? w _ (hcc 3 _ rfl))).trans (hcc 3 _ rfl)
      have p4 : wr.cell? ⟨eb, eo + k * 5 + 4, none⟩ = some x4 := (hB.cell (World.block_lt_of_cell? w _ (hcc 4 _ rfl))).trans (hcc 4 _ rfl)
      have HXR := Lib.hid hxr; clear hxr hcc hcl
      have HG := Lib.hid hg; clear hg
      go_wp2_with (go_at_call 91; refine Qbn (w := w) (toFile_c _ [x0, x1, x2, x3, x4] x (Q3 HXR.out hB) (by omega)) (by go_grown) ?_; intro w2 cs L hB2 hb2 hz2 _ ho hL; obtain ⟨eoa1, ecp1, rfl⟩ := Qup (GoD.own_rd ho); have hg2 := (hb2.block _ hlt).trans HG.out; obtain ⟨z0, q0⟩ : ∃ y, w2.cell? ⟨w.heap.size, k * 5, none⟩ = some y := ⟨_, Yh hg2 _ (by omega)⟩; obtain ⟨z1, q1⟩ : ∃ y, w2.cell? ⟨w.heap.size, k * 5 + 1, none⟩ = some y := ⟨_, Yh hg2 _ (by omega)⟩; obtain ⟨z2, q2⟩ : ∃ y, w2.cell? ⟨w.heap.size, k * 5 + 2, none⟩ = some y := ⟨_, Yh hg2 _ (by omega)⟩; obtain ⟨z3, q3⟩ : ∃ y, w2.cell? ⟨w.heap.size, k * 5 + 3, none⟩ = some y := ⟨_, Yh hg2 _ (by omega)⟩; obtain ⟨z4, q4⟩ : ∃ y, w2.cell? ⟨w.heap.size, k * 5 + 4, none⟩ = some y := ⟨_, Yh hg2 _ (by omega)⟩; have fz := Jp hg2; clear hg2; have HO := Lib.hid ho; clear ho; have HL := Lib.hid hL; clear hL; have HB2 := Lib.hid hb2; clear hb2)
      go_roundw
      case rel => exact ⟨k + 1, by omega, by go_num, by go_grown, by simp only [World.size_setCell]; omega, by
        have h := hP.out.step HB2.out hkl hk HX.out HO.out HL.out
        rw [show GoD.n Yt = 5 from rfl] at h
        simp only [World.setCells, Nat.add_assoc, Nat.reduceAdd] at h
        exact h⟩
      case measure => simp [intOf]; omega
    · obtain rfl : k = l.length := by omega
      go_wp2
      go_ret
      obtain ⟨L, hL, hLB⟩ := hP.out.done hlm
      exact ⟨_, L, rfl, hB, hL, hLB⟩
set_option maxHeartbeats 1000000 in
theorem toStore_c (w : World) (ca : List Value) (a : X7) (ha : rd w ca a) (hsz : GoD.size a ≤ 1048576) : Calls Tryz.prog 10 #[.agg ca.toArray] w (RetA w a) := by
  obtain ⟨a1, a2, a3⟩ := a
  obtain ⟨ac1, at1, rfl, ar1, ac2, at2, rfl, ar2, ar3⟩ := ha
  obtain ⟨ax1_0, rfl⟩ := U6 (show _ = 1 from GoD.rd_len ar1)
  obtain ⟨ax2_0, rfl⟩ := U6 (show _ = 1 from GoD.rd_len ar2)
  obtain ⟨rfl, ar3⟩ := ar3
  dsimp only [List.cons_append, List.nil_append] at *
  replace hsz : (GoD.size a1 + (GoD.size a2 + GoD.size a3)) ≤ 1048576 := hsz
  have AR1H := Lib.hid ar1; clear ar1
  have AR2H := Lib.hid ar2; clear ar2
  have AR3H := Lib.hid ar3; clear ar3
  have tok1 : True := trivial
  have tok2 : True := trivial
  go_enter Tryz.func10, Tryz.ntmps10
  go_wp2_with (first | (go_at_call 39; have tk := tok1; clear tok1; refine Qbo (w := w) (Qvh _ ax1_0 a1 (Q3 AR1H.out (by go_grown)) (by omega)) (by go_grown) ?_; intro w1 v1 L1 hB hb hz _ ho1 hL1; obtain ⟨oa1, cp1, rfl⟩ := Zd ho1; have hz2 := hb.size; (repeat (first | rewrite [World.size_alloc] at hz2 | rewrite [World.size_setCell] at hz2 | rewrite [World.size_drew] at hz2)); (repeat (first | rewrite [World.size_alloc] at hL1 | rewrite [World.size_setCell] at hL1 | rewrite [World.size_drew] at hL1)); have hlt1 := GoD.own_lt ho1; have c1_0 := fun o => Z4 hb (w.heap.size) o (by go_size); have f1_0 := fun o => U4 hb (w.heap.size) o (by go_size); have c1_1 := fun o => Z4 hb (w.heap.size + 1) o (by go_size); have f1_1 := fun o => U4 hb (w.heap.size + 1) o (by go_size); have c1_2 := fun o => Z4 hb (w.heap.size + 1 + 1) o (by go_size); have f1_2 := fun o => U4 hb (w.heap.size + 1 + 1) o (by go_size); have HO1 := Lib.hid ho1; clear ho1; have HL1 := Lib.hid hL1; clear hL1; have HT1 := Lib.hid hlt1; clear hlt1; have HB1 := Lib.hid hb; clear hb) | (go_at_call 40; have tk := tok2; clear tok2; refine Qbo (w := w) (toFileS_c _ ax2_0 a2 (Q3 AR2H.out (by go_grown)) (by omega)) (by go_grown) ?_; intro w2 v2 L2 hB hb hz _ ho2 hL2; obtain ⟨oa2, cp2, rfl⟩ := Zd ho2; have hz2 := hb.size; (repeat (first | rewrite [World.size_alloc] at hz2 | rewrite [World.size_setCell] at hz2 | rewrite [World.size_drew] at hz2)); (repeat (first | rewrite [World.size_alloc] at hL2 | rewrite [World.size_setCell] at hL2 | rewrite [World.size_drew] at hL2)); have hlt2 := GoD.own_lt ho2; have c2_0 := fun o => Z4 hb (w.heap.size) o (by go_size); have f2_0 := fun o => U4 hb (w.heap.size) o (by go_size); have c2_1 := fun o => Z4 hb (w.heap.size + 1) o (by go_size); have f2_1 := fun o => U4 hb (w.heap.size + 1) o (by go_size); have c2_2 := fun o => Z4 hb (w.heap.size + 1 + 1) o (by go_size); have f2_2 := fun o => U4 hb (w.heap.size + 1 + 1) o (by go_size); have HO2 := Lib.hid ho2; clear ho2; have HL2 := Lib.hid hL2; clear hL2; have HT2 := Lib.hid hlt2; clear hlt2; have HB2 := Lib.hid hb; clear hb) | ((with_reducible show bodyPost _ _ _ _ _ _); refine bodyPost_ret (v := .agg #[.slice oa1 a1.length cp1, .slice oa2 a2.length cp2, .int .i64 a3]) (by simp [results, Tryz.results10, go_sem, c1_1, c2_1]) rfl ⟨[.slice oa1 a1.length cp1, .slice oa2 a2.length cp2, .int .i64 a3], (L1 ++ (L2 ++ [])), rfl, by go_grown, ?_, ?_⟩; (exact (Yx (show own L1 _ [.slice oa1 a1.length cp1] a1 by (repeat (first | (with_reducible exact HO1.out) | ((with_reducible refine Z2 ?_ ?_); rotate_left; exact (fun hm => by have := HL1.out _ hm; omega)) | (with_reducible refine K1 ?_) | (with_reducible refine Qbk ?_) | (with_reducible refine Qeb ?_ HB2.out)))) (Yx (show own L2 _ [.slice oa2 a2.length cp2] a2 by (repeat (first | (with_reducible exact HO2.out) | ((with_reducible refine Z2 ?_ ?_); rotate_left; exact (fun hm => by have := HL2.out _ hm; omega)) | (with_reducible refine K1 ?_) | (with_reducible refine Qbk ?_)))) (Qa9 _ AR3H.out) (by simp)) (fun x hx hy => by (try simp only [List.mem_append, List.not_mem_nil, List.append_nil, List.nil_append, false_or, or_false] at hy); have := HT1.out x hx; rcases hy with hy <;> (first | (have := HL2.out x hy; omega))))); intro x hx; (try simp only [List.mem_append, List.not_mem_nil, List.append_nil, List.nil_append, false_or, or_false] at hx); rcases hx with hx | hx <;> first | (have := HL1.out x hx; omega) | (have := HL2.out x hx; omega)))
open GoE (enc wide)
theorem szWatch_a (a : Jl) (left : Int) (h0 : 0 ≤ left) (h1 : left ≤ 1048576) : ACalls Tryz.prog 25 [Qo2 a, Qq6 left] (Qq6 (szI (GoD.size a) left)) := Qmj (by unfold Z7; kernel_rfl) h0 h1 fun w c hr => Qqi w c a left hr h0 h1
theorem szStore_a (a : X7) (left : Int) (h0 : 0 ≤ left) (h1 : left ≤ 1048576) : ACalls Tryz.prog 7 [Qo2 a, Qq6 left] (Qq6 (szI (GoD.size a) left)) := Qmj (by unfold Z7; kernel_rfl) h0 h1 fun w c hr => Qqh w c a left hr h0 h1
theorem szDirS_a (a : (List Zh)) (left : Int) (h0 : 0 ≤ left) (h1 : left ≤ 1048576) : ACalls Tryz.prog 8 [Qo3 a, Qq6 left] (Qq6 (szI (GoD.size a) left)) := Qu8 (by unfold Z7; kernel_rfl) h0 h1 fun w c hr => Qty w c a left hr h0 h1
theorem Qhe (a : Jl) (h : GoD.size a ≤ 1048576) : ACalls Tryz.prog 27 [Qo2 a] (resA a) := Qml (by unfold Z7; kernel_rfl) fun w c hr => toWatch_c w c a hr h
theorem Qhf (a : X7) (h : GoD.size a ≤ 1048576) : ACalls Tryz.prog 10 [Qo2 a] (resA a) := Qml (by unfold Z7; kernel_rfl) fun w c hr => toStore_c w c a hr h
theorem Qja (a : (List Zh)) (h : GoD.size a ≤ 1048576) : ACalls Tryz.prog 11 [Qo3 a] (resS a) := Qvb (by unfold Z7; kernel_rfl) fun w c hr => toDirS_c w c a hr h
theorem Qhg {a b : Jl} (h : a = b) : ACalls Tryz.prog 22 [Qo2 a, Qo2 b] (Qub true) := Qmk (by unfold Z7; kernel_rfl) h fun w c c2 h1 h2 => eqWatch_c w c c2 a b h1 h2
theorem eqStore_a {a b : X7} (h : a = b) : ACalls Tryz.prog 14 [Qo2 a, Qo2 b] (Qub true) := Qmk (by unfold Z7; kernel_rfl) h fun w c c2 h1 h2 => eqStore_c w c c2 a b h1 h2
theorem eqDirS_a {a b : (List Zh)} (h : a = b) : ACalls Tryz.prog 15 [Qo3 a, Qo3 b] (Qub true) := Qu9 (by unfold Z7; kernel_rfl) h fun w c c2 h1 h2 => eqDirS_c w c c2 a b h1 h2
theorem Qk3 (a : Jl) (K : Int) (k : Nat) (hK : K = k) (h1 : 1 ≤ k) (hk : k ≤ 1152921504606846976) (hs : GoD.size a ≤ 1073741824) : MarkA Tryz.prog 23 a K (GoD.markT a k) := ⟨(by unfold Z7; kernel_rfl), fun w L c ho => Qsc w c a L K k hK h1 (by have := bdT (a := a) (k := k) (by decide) hs; omega) ho⟩
theorem Qsg (a : X7) (K : Int) (k : Nat) (hK : K = k) (h1 : 1 ≤ k) (hk : k ≤ 1152921504606846976) (hs : GoD.size a ≤ 1073741824) : MarkA Tryz.prog 16 a K (GoD.markT a k) := ⟨(by unfold Z7; kernel_rfl), fun w L c ho => Qsa w c a L K k hK h1 (by have := bdT (a := a) (k := k) (by decide) hs; omega) ho⟩
theorem Qvi (a : (List Zh)) (K : Int) (k : Nat) (hK : K = k) (h1 : 1 ≤ k) (hk : k ≤ 1152921504606846976) (hs : GoD.size a ≤ 1073741824) : MarkS Tryz.prog 17 a K (Xe a k) := ⟨(by unfold Z7; kernel_rfl), fun w L c ho => Qu7 w c a L K k hK h1 (by have := bdS (l := a) (k := k) (by decide) hs; omega) ho⟩
theorem Qk4 (a : Jl) (hs : GoD.size a ≤ 1073741824) : ACalls Tryz.prog 24 [Qo2 (GoD.markT a 1).1, Qq6 1] (Qq6 ((GoD.markT a 1).2 : Nat)) := Qva (by unfold Z7; kernel_rfl) (by have := bdT (a := a) (k := 1) (by decide) hs; rw [Qbz]; unfold I64; omega) fun w c hr => Qsd w c a _ 1 1 rfl (by omega) (by have := bdT (a := a) (k := 1) (by decide) hs; omega) rfl hr
def K8 (aW : Jl) (aVersion : Int) (aS : X7) (aD : (List Zh)) : Bool := (bif decide ((szI (GoD.size aW) 1048576) < (0 : Int)) then true else (bif decide ((szI (GoD.size aS) (szI (GoD.size aW) 1048576)) < (0 : Int)) then true else (bif decide ((szI (GoD.size aD) (szI (GoD.size aS) (szI (GoD.size aW) 1048576))) < (0 : Int)) then true else true)))
theorem Qf5 (aW : Jl) (aVersion : Int) (aS : X7) (aD : (List Zh)) : ACalls Tryz.prog 5 [.a [.i aW.1, .s aW.2.1, .h aW.2.2.1, .h aW.2.2.2], .i aVersion, .a [.h aS.1, .h aS.2.1, .i aS.2.2], .h aD] (.b (K8 aW aVersion aS aD)) := by
 refine Qn (tt := tt) Qb Tryz.func5 (fn := Tryz.f5) rfl (by unfold Z7; kernel_rfl) (Nat.le_of_ble_eq_true rfl) fun w0 F0 => ?_
 refine Qa ?_
 refine rk Qb [(4, .p 4 0), (6, .p 6 0), (8, .b false)] [0, 2] [(4, [.i aW.1, .s aW.2.1, .h aW.2.2.1, .h aW.2.2.2]), (6, [.h aS.1, .h aS.2.1, .i aS.2.2])] [] [] (o0) ?_
 refine Qa ?_
 refine rk Qb [(9, .i 1048576)] [] [] [] [] (o0) ?_
 refine Qa ?_
 have hz1 := szI_bd (GoD.size aW) 1048576
 refine rk Qb [(9, .i (szI (GoD.size aW) 1048576))] [9] [] [] [(2, .val (.i (szI (GoD.size aW) 1048576)))] (o1 (Qe (szWatch_a aW 1048576 (by omega) (by omega)))) ?_
 refine Qa ?_
 refine Qa ?_
 refine rk Qb [(23, .b (decide ((szI (GoD.size aW) 1048576) < (0 : Int))))] [] [] [] [] (o0) ?_
 refine ck (decide ((szI (GoD.size aW) 1048576) < (0 : Int))) (fun h2 => ?_) (fun h2 => ?_)
 ·
  refine Qa ?_
  refine rk Qb [(8, .b true)] [8, 23] [] [] [] (o0) ?_
  refine Qi ?_
  exact Zb [] (congrArg (fun z => (.b z : AV)) (show K8 aW aVersion aS aD = true from Yf h2 (rfl)).symm)
 ·
  have h2d := of_decide_eq_false h2
  refine Qh ?_
  refine Qa ?_
  have hz3 := szI_bd (GoD.size aS) (szI (GoD.size aW) 1048576)
  refine rk Qb [(9, .i (szI (GoD.size aS) (szI (GoD.size aW) 1048576)))] [9, 23] [] [] [(2, .val (.i (szI (GoD.size aS) (szI (GoD.size aW) 1048576))))] (o1 (Qe (szStore_a aS (szI (GoD.size aW) 1048576) (by omega) (by omega)))) ?_
  refine Qa ?_
  refine Qa ?_
  refine rk Qb [(28, .b (decide ((szI (GoD.size aS) (szI (GoD.size aW) 1048576)) < (0 : Int))))] [] [] [] [] (o0) ?_
  refine ck (decide ((szI (GoD.size aS) (szI (GoD.size aW) 1048576)) < (0 : Int))) (fun h4 => ?_) (fun h4 => ?_)
  ·
   refine Qa ?_
   refine rk Qb [(8, .b true)] [8, 28] [] [] [] (o0) ?_
   refine Qi ?_
   exact Zb [] (congrArg (fun z => (.b z : AV)) (show K8 aW aVersion aS aD = true from Qv h2 (Yf h4 (rfl))).symm)
  ·
   have h4d := of_decide_eq_false h4
   refine Qh ?_
   refine Qa ?_
   have hz5 := szI_bd (GoD.size aD) (szI (GoD.size aS) (szI (GoD.size aW) 1048576))
   refine rk Qb [(9, .i (szI (GoD.size aD) (szI (GoD.size aS) (szI (GoD.size aW) 1048576))))] [9, 28] [] [] [(2, .val (.i (szI (GoD.size aD) (szI (GoD.size aS) (szI (GoD.size aW) 1048576)))))] (o1 (Qe (szDirS_a aD (szI (GoD.size aS) (szI (GoD.size aW) 1048576)) (by omega) (by omega)))) ?_
   refine Qa ?_
   refine Qa ?_
   refine rk Qb [(33, .b (decide ((szI (GoD.size aD) (szI (GoD.size aS) (szI (GoD.size aW) 1048576))) < (0 : Int))))] [9] [] [] [] (o0) ?_
   refine ck (decide ((szI (GoD.size aD) (szI (GoD.size aS) (szI (GoD.size aW) 1048576))) < (0 : Int))) (fun h6 => ?_) (fun h6 => ?_)
   ·
    refine Qa ?_
    refine rk Qb [(8, .b true)] [8, 33] [] [] [] (o0) ?_
    refine Qi ?_
    exact Zb [] (congrArg (fun z => (.b z : AV)) (show K8 aW aVersion aS aD = true from Qv h2 (Qv h4 (Yf h6 (rfl)))).symm)
   ·
    have h6d := of_decide_eq_false h6
    refine Qh ?_
    refine Qa ?_
    have hsz_aW : GoD.size aW ≤ 1048576 := by omega
    have hsz_aS : GoD.size aS ≤ 1048576 := by omega
    have hsz_aD : GoD.size aD ≤ 1048576 := by omega
    refine rd' Qb Zv [(10, .p 10 0)] [33] [(10, [.i ((Qo aW aVersion aS aD).1), .s ((Qo aW aVersion aS aD).2.1), .o 2624 ((Qo aW aVersion aS aD).2.2.1), .o 2625 ((Qo aW aVersion aS aD).2.2.2)])] [] [(1, .val (.a [.i aW.1, .s aW.2.1, .o 0 aW.2.2.1, .o 1 aW.2.2.2])), (4, .val (.a [.o 0 aS.1, .o 1 aS.2.1, .i aS.2.2])), (6, .val (.o 0 aD)), (7, .val (.a [.i ((Qo aW aVersion aS aD).1), .s ((Qo aW aVersion aS aD).2.1), .o 0 ((Qo aW aVersion aS aD).2.2.1), .o 1 ((Qo aW aVersion aS aD).2.2.2)]))] (o2 (Qe (Qhe aW hsz_aW)) (o2 (Qe (Qhf aS hsz_aS)) (o2 (Qe (Qja aD hsz_aD)) (o1 (Qe ((notify_eq aW aVersion aS aD (by have := hsz_aW; omega)) ▸ (Qqb aW aVersion aS aD (by have := hsz_aW; omega)))))))) ?_
    refine Qa ?_
    refine rk Qb [(11, .p 11 0)] [] [(11, [.i aW.1, .s aW.2.1, .o 2752 aW.2.2.1, .o 2753 aW.2.2.2])] [] [(1, .val (.a [.i aW.1, .s aW.2.1, .o 0 aW.2.2.1, .o 1 aW.2.2.2]))] (o1 (Qe (Qhe aW hsz_aW))) ?_
    refine Qa ?_
    refine rk Qb [(12, .p 12 0)] [] [(12, [.o 2880 aS.1, .o 2881 aS.2.1, .i aS.2.2])] [] [(1, .val (.a [.o 0 aS.1, .o 1 aS.2.1, .i aS.2.2]))] (o1 (Qe (Qhf aS hsz_aS))) ?_
    refine Qa ?_
    refine rk Qb [(13, .o 3008 aD)] [] [] [] [(1, .val (.o 0 aD))] (o1 (Qe (Qja aD hsz_aD))) ?_
    refine Qa ?_
    refine rk Qb [(14, .p 14 0)] [] [(14, [.i ((Qo aW aVersion aS aD).1), .s ((Qo aW aVersion aS aD).2.1), .o 3328 ((Qo aW aVersion aS aD).2.2.1), .o 3329 ((Qo aW aVersion aS aD).2.2.2)])] [] [(4, .val (.a [.i ((Qo aW aVersion aS aD).1), .s ((Qo aW aVersion aS aD).2.1), .o 0 ((Qo aW aVersion aS aD).2.2.1), .o 1 ((Qo aW aVersion aS aD).2.2.2)]))] (o1 (Qe (Qin aW aVersion aS aD (by have := hsz_aW; omega)))) ?_
    refine Qa ?_
    refine Qa ?_
    refine rk Qb [(56, .b false)] [] [] [] [(2, .val (.b true)), (3, .val (.b false))] (o2 (Qe (Qhg (a := Qo aW aVersion aS aD) (b := Qo aW aVersion aS aD) (rfl))) (o1 (Qf (show .b (!true) = .b false from rfl)))) ?_
    refine ckF ?_
    refine Qh ?_
    refine Qa ?_
    refine Qa ?_
    refine rd' Qb Zv [(61, .b false)] [56] [] [] [(2, .val (.a [.i aW.1, .s aW.2.1, .o 0 aW.2.2.1, .o 1 aW.2.2.2])), (3, .val (.b true)), (4, .val (.b false))] (o2 (Qe (Qhe aW hsz_aW)) (o2 (Qe (Qhg (a := aW) (b := aW) (rfl))) (o1 (Qf (show .b (!true) = .b false from rfl))))) ?_
    refine ckF ?_
    refine Qh ?_
    refine Qa ?_
    refine Qa ?_
    refine rd' Qb Zv [(66, .b false)] [61] [] [] [(2, .val (.a [.o 0 aS.1, .o 1 aS.2.1, .i aS.2.2])), (3, .val (.b true)), (4, .val (.b false))] (o2 (Qe (Qhf aS hsz_aS)) (o2 (Qe (eqStore_a (a := aS) (b := aS) (rfl))) (o1 (Qf (show .b (!true) = .b false from rfl))))) ?_
    refine ckF ?_
    refine Qh ?_
    refine Qa ?_
    refine Qa ?_
    refine rk Qb [(71, .b false)] [66] [] [] [(2, .val (.o 0 aD)), (3, .val (.b true)), (4, .val (.b false))] (o2 (Qe (Qja aD hsz_aD)) (o2 (Qe (eqDirS_a (a := aD) (b := aD) (rfl))) (o1 (Qf (show .b (!true) = .b false from rfl))))) ?_
    refine ckF ?_
    refine Qh ?_
    refine Qa ?_
    refine rk Qb [(15, .i 1)] [71] [] [] [] (o0) ?_
    refine Qa ?_
    have hm7 := bdT (a := aW) (k := 1) (by decide) (Nat.le_trans hsz_aW (by decide))
    have hm8 := GoD.mkT_le aW 1
    refine Qk2 Qb (Qk3 aW 1 1 rfl (by omega) (by omega) ((Nat.le_trans hsz_aW (by decide)))) (by rw [Qbz]; unfold I64; omega) GoM.mkT [2752, 2753] [1, 3, 4, 6, 8, 10, 12, 13, 14, 15] [4, 6, 10, 12, 14] (s' := ⟨[(1, .i aVersion), (3, .h aD), (4, .p 4 0), (6, .p 6 0), (8, .b false), (10, .p 10 0), (12, .p 12 0), (13, .o 3008 aD), (14, .p 14 0), (15, .i (((GoD.markT aW 1).2 : Nat) : Int))], [(4, [.i aW.1, .s aW.2.1, .h aW.2.2.1, .h aW.2.2.2]), (6, [.h aS.1, .h aS.2.1, .i aS.2.2]), (10, [.i ((Qo aW aVersion aS aD).1), .s ((Qo aW aVersion aS aD).2.1), .o 2624 ((Qo aW aVersion aS aD).2.2.1), .o 2625 ((Qo aW aVersion aS aD).2.2.2)]), (12, [.o 2880 aS.1, .o 2881 aS.2.1, .i aS.2.2]), (14, [.i ((Qo aW aVersion aS aD).1), .s ((Qo aW aVersion aS aD).2.1), .o 3328 ((Qo aW aVersion aS aD).2.2.1), .o 3329 ((Qo aW aVersion aS aD).2.2.2)])]⟩) rfl rfl rfl rfl rfl rfl rfl rfl rfl rfl rfl rfl (by kernel_rfl) rfl rfl (by kernel_rfl) rfl rfl (by kernel_rfl) (by kernel_rfl) rfl (by kernel_rfl) ?_
    refine Qa ?_
    have hm9 := bdT (a := aS) (k := (GoD.markT aW 1).2) (by decide) (Nat.le_trans hsz_aS (by decide))
    have hm10 := GoD.mkT_le aS ((GoD.markT aW 1).2)
    refine Qk2 Qb (Qsg aS (((GoD.markT aW 1).2 : Nat) : Int) ((GoD.markT aW 1).2) rfl (by omega) (by omega) ((Nat.le_trans hsz_aS (by decide)))) (by rw [Qbz]; unfold I64; omega) GoM.mkT [2880, 2881] [1, 3, 4, 6, 8, 10, 13, 14, 15] [4, 6, 10, 14] (s' := ⟨[(1, .i aVersion), (3, .h aD), (4, .p 4 0), (6, .p 6 0), (8, .b false), (10, .p 10 0), (13, .o 3008 aD), (14, .p 14 0), (15, .i (((GoD.markT aS ((GoD.markT aW 1).2)).2 : Nat) : Int))], [(4, [.i aW.1, .s aW.2.1, .h aW.2.2.1, .h aW.2.2.2]), (6, [.h aS.1, .h aS.2.1, .i aS.2.2]), (10, [.i ((Qo aW aVersion aS aD).1), .s ((Qo aW aVersion aS aD).2.1), .o 2624 ((Qo aW aVersion aS aD).2.2.1), .o 2625 ((Qo aW aVersion aS aD).2.2.2)]), (14, [.i ((Qo aW aVersion aS aD).1), .s ((Qo aW aVersion aS aD).2.1), .o 3328 ((Qo aW aVersion aS aD).2.2.1), .o 3329 ((Qo aW aVersion aS aD).2.2.2)])]⟩) rfl rfl rfl rfl rfl rfl rfl rfl rfl rfl rfl rfl (by kernel_rfl) rfl rfl (by kernel_rfl) rfl rfl (by kernel_rfl) (by kernel_rfl) rfl (by kernel_rfl) ?_
    refine Qa ?_
    have hm11 := bdS (l := aD) (k := (GoD.markT aS ((GoD.markT aW 1).2)).2) (by decide) (Nat.le_trans hsz_aD (by decide))
    have hm12 := Jo aD ((GoD.markT aS ((GoD.markT aW 1).2)).2)
    refine awp_markS (Qvi aD (((GoD.markT aS ((GoD.markT aW 1).2)).2 : Nat) : Int) ((GoD.markT aS ((GoD.markT aW 1).2)).2) rfl (by omega) (by omega) ((Nat.le_trans hsz_aD (by decide)))) (by rw [Qbz]; unfold I64; omega) GoM.mkT 3008 [1, 3, 4, 6, 8, 10, 14, 15] [4, 6, 10, 14] (s' := ⟨[(1, .i aVersion), (3, .h aD), (4, .p 4 0), (6, .p 6 0), (8, .b false), (10, .p 10 0), (14, .p 14 0), (15, .i (((Xe aD ((GoD.markT aS ((GoD.markT aW 1).2)).2)).2 : Nat) : Int))], [(4, [.i aW.1, .s aW.2.1, .h aW.2.2.1, .h aW.2.2.2]), (6, [.h aS.1, .h aS.2.1, .i aS.2.2]), (10, [.i ((Qo aW aVersion aS aD).1), .s ((Qo aW aVersion aS aD).2.1), .o 2624 ((Qo aW aVersion aS aD).2.2.1), .o 2625 ((Qo aW aVersion aS aD).2.2.2)]), (14, [.i ((Qo aW aVersion aS aD).1), .s ((Qo aW aVersion aS aD).2.1), .o 3328 ((Qo aW aVersion aS aD).2.2.1), .o 3329 ((Qo aW aVersion aS aD).2.2.2)])]⟩) rfl rfl rfl rfl rfl rfl rfl rfl rfl rfl rfl rfl (by kernel_rfl) (by kernel_rfl) rfl rfl (by kernel_rfl) ?_
    refine Qa ?_
    refine Qa ?_
    refine rk Qb [(88, .b false)] [15] [] [] [(1, .val (.b false)), (5, .val (.b true)), (6, .val (.b false))] (o2 (Qf (av_df (p := (((Xe aD ((GoD.markT aS ((GoD.markT aW 1).2)).2)).2 : Nat) : Int) < (0 : Int)) (by omega))) (o2 (Qe (Qhg (a := Qo aW aVersion aS aD) (b := Qo aW aVersion aS aD) (rfl))) (o1 (Qf (show .b (!true) = .b false from rfl))))) ?_
    refine ckF ?_
    refine Qh ?_
    refine Qa ?_
    refine rk Qb [(16, .i 1)] [88] [] [] [] (o0) ?_
    refine Qa ?_
    have hm13 := bdT (a := (Qo aW aVersion aS aD)) (k := 1) (by decide) (Nat.le_trans (Qd4 aW aVersion aS aD) (by omega))
    have hm14 := GoD.mkT_le (Qo aW aVersion aS aD) 1
    refine Qk2 Qb (Qk3 (Qo aW aVersion aS aD) 1 1 rfl (by omega) (by omega) ((Nat.le_trans (Qd4 aW aVersion aS aD) (by omega)))) (by rw [Qbz]; unfold I64; omega) GoM.mkT [3328, 3329] [1, 3, 4, 6, 8, 10, 14, 16] [4, 6, 10, 14] (s' := ⟨[(1, .i aVersion), (3, .h aD), (4, .p 4 0), (6, .p 6 0), (8, .b false), (10, .p 10 0), (14, .p 14 0), (16, .i (((GoD.markT (Qo aW aVersion aS aD) 1).2 : Nat) : Int))], [(4, [.i aW.1, .s aW.2.1, .h aW.2.2.1, .h aW.2.2.2]), (6, [.h aS.1, .h aS.2.1, .i aS.2.2]), (10, [.i ((Qo aW aVersion aS aD).1), .s ((Qo aW aVersion aS aD).2.1), .o 2624 ((Qo aW aVersion aS aD).2.2.1), .o 2625 ((Qo aW aVersion aS aD).2.2.2)]), (14, [.i (((GoD.markT (Qo aW aVersion aS aD) 1).1).1), .s (((GoD.markT (Qo aW aVersion aS aD) 1).1).2.1), .h (((GoD.markT (Qo aW aVersion aS aD) 1).1).2.2.1), .h (((GoD.markT (Qo aW aVersion aS aD) 1).1).2.2.2)])]⟩) rfl rfl rfl rfl rfl rfl rfl rfl rfl rfl rfl rfl (by kernel_rfl) rfl rfl (by kernel_rfl) rfl rfl (by kernel_rfl) (by kernel_rfl) rfl (by kernel_rfl) ?_
    refine Qa ?_
    refine rk Qb [(17, .i 1)] [] [] [] [] (o0) ?_
    refine Qa ?_
    refine rk Qb [(17, .i (((GoD.markT (Qo aW aVersion aS aD) 1).2 : Nat) : Int))] [17] [] [] [(2, .val (.i (((GoD.markT (Qo aW aVersion aS aD) 1).2 : Nat) : Int)))] (o1 (Qe (Qk4 (Qo aW aVersion aS aD) (Nat.le_trans (Qd4 aW aVersion aS aD) (by omega))))) ?_
    refine Qa ?_
    refine Qa ?_
    refine rk Qb [(96, .b false)] [] [] [] [(1, .val (.b false))] (o1 (Qf (av_df (p := (((GoD.markT (Qo aW aVersion aS aD) 1).2 : Nat) : Int) < (0 : Int)) (by omega)))) ?_
    refine ckF ?_
    refine Qh ?_
    refine Qa ?_
    refine Qa ?_
    refine rk Qb [(99, .b false)] [96] [] [] [(2, .val (.b false))] (o1 (Qf (show .b ((((GoD.markT (Qo aW aVersion aS aD) 1).2 : Nat) : Int) != (((GoD.markT (Qo aW aVersion aS aD) 1).2 : Nat) : Int)) = .b false from Qg (by simp)))) ?_
    refine ckF ?_
    refine Qh ?_
    refine Qa ?_
    refine rd' Qb Zv [(18, .p 18 0)] [1, 3, 4, 6, 99] [(18, [.i ((Qo aW aVersion aS aD).1), .s ((Qo aW aVersion aS aD).2.1), .o 6848 ((Qo aW aVersion aS aD).2.2.1), .o 6849 ((Qo aW aVersion aS aD).2.2.2)])] [4, 6] [(1, .val (.a [.i aW.1, .s aW.2.1, .o 0 aW.2.2.1, .o 1 aW.2.2.2])), (4, .val (.a [.o 0 aS.1, .o 1 aS.2.1, .i aS.2.2])), (6, .val (.o 0 aD)), (7, .val (.a [.i ((Qo aW aVersion aS aD).1), .s ((Qo aW aVersion aS aD).2.1), .o 0 ((Qo aW aVersion aS aD).2.2.1), .o 1 ((Qo aW aVersion aS aD).2.2.2)]))] (o2 (Qe (Qhe aW hsz_aW)) (o2 (Qe (Qhf aS hsz_aS)) (o2 (Qe (Qja aD hsz_aD)) (o1 (Qe (Qin aW aVersion aS aD (by have := hsz_aW; omega))))))) ?_
    refine Qa ?_
    refine Qa ?_
    refine rk Qb [(111, .b false)] [10, 18] [] [10, 18] [(2, .val (.b true)), (3, .val (.b false))] (o2 (Qe (Qhg (a := Qo aW aVersion aS aD) (b := Qo aW aVersion aS aD) (rfl))) (o1 (Qf (show .b (!true) = .b false from rfl)))) ?_
    refine ckF ?_
    refine Qh ?_
    refine Qa ?_
    refine rk Qb [(17, .i 1)] [17, 111] [] [] [] (o0) ?_
    refine Qa ?_
    refine rk Qb [(17, .i (((GoD.markT (Qo aW aVersion aS aD) 1).2 : Nat) : Int))] [14, 17] [] [14] [(2, .val (.i (((GoD.markT (Qo aW aVersion aS aD) 1).2 : Nat) : Int)))] (o1 (Qe (Qk4 (Qo aW aVersion aS aD) (Nat.le_trans (Qd4 aW aVersion aS aD) (by omega))))) ?_
    refine Qa ?_
    refine Qa ?_
    refine rk Qb [(116, .b false)] [] [] [] [(1, .val (.b false))] (o1 (Qf (av_df (p := (((GoD.markT (Qo aW aVersion aS aD) 1).2 : Nat) : Int) < (0 : Int)) (by omega)))) ?_
    refine ckF ?_
    refine Qh ?_
    refine Qa ?_
    refine Qa ?_
    refine rk Qb [(119, .b false)] [16, 17, 116] [] [] [(2, .val (.b false))] (o1 (Qf (show .b ((((GoD.markT (Qo aW aVersion aS aD) 1).2 : Nat) : Int) != (((GoD.markT (Qo aW aVersion aS aD) 1).2 : Nat) : Int)) = .b false from Qg (by simp)))) ?_
    refine ckF ?_
    refine Qh ?_
    refine Qa ?_
    refine rk Qb [(8, .b true)] [8, 119] [] [] [] (o0) ?_
    refine Qi ?_
    exact Zb [] (congrArg (fun z => (.b z : AV)) (show K8 aW aVersion aS aD = true from Qv h2 (Qv h4 (Qv h6 (rfl)))).symm)
end Go.Proofs.YtnhmnfmhnepjmaaGreat
namespace Go.Proofs.YtnhmnfmhnepjmaaGreat
open Go.RowKit
open GoD (rd own)
set_option maxRecDepth 100000 in
set_option maxHeartbeats 1000000 in
theorem bigNotify (w : World) (c0 : List Value) (a0 : Jl) (h0 : rd w c0 a0) (a1 : Int) (h1 : I64 a1) (c2 : List Value) (a2 : X7) (h2 : rd w c2 a2) (v3 : Value) (a3 : (List Zh)) (h3 : rd w [v3] a3) (hbig : ¬ (GoD.size a0 + GoD.size a2 + GoD.size a3 ≤ 1048576)) : Calls Tryz.prog 5 #[.agg c0.toArray, .int .i64 a1, .agg c2.toArray, v3] w (Ret w (.bool true)) := by
  obtain ⟨p0_oa1, p0_cp1, p0_oa2, p0_cp2, rfl⟩ := Qrf h0
  have HA0 := Lib.hid h0; clear h0
  have HA1 := Lib.hid h1; clear h1
  obtain ⟨p2_oa1, p2_cp1, p2_oa2, p2_cp2, rfl⟩ := Qrd h2
  have HA2 := Lib.hid h2; clear h2
  obtain ⟨p3_oa, p3_cp, rfl⟩ := Uj h3
  have hln3 := Qpa h3
  have HA3 := Lib.hid h3; clear h3
  have tok1 : True := trivial
  have tok2 : True := trivial
  have tok3 : True := trivial
  go_enter Tryz.func5, Tryz.ntmps5
  go_wp2_with (first | (go_at_call 25; have tk := tok1; clear tok1; refine Uk (w := w) (Qqi _ [.int .i64 a0.1, .string a0.2.1, .slice p0_oa1 a0.2.2.1.length p0_cp1, .slice p0_oa2 a0.2.2.2.length p0_cp2] a0 _ (Q3 HA0.out (by repeat (first | (with_reducible exact Below.refl _ _) | (with_reducible refine Below.alloc ?_ (by go_size) _) | (with_reducible refine Below.drew ?_)))) (by omega) (by omega)) (by repeat (first | (with_reducible exact Below.refl _ _) | (with_reducible refine Below.alloc ?_ (by go_size) _) | (with_reducible refine Below.drew ?_))) ?_; intro w1 r1 hB1 hb hz1 _ hr hs1; have HR1 := Lib.hid hr; clear hr; have hz2 := hb.size; (repeat (first | rewrite [World.size_alloc] at hz2 | rewrite [World.size_setCell] at hz2 | rewrite [World.size_drew] at hz2)); have c1_0 := fun o => Z4 hb (w.heap.size) o (by go_size); have c1_1 := fun o => Z4 hb (w.heap.size + 1) o (by go_size); have l1_0 : w.heap.size < w1.heap.size := (by go_size); have l1_1 : w.heap.size + 1 < w1.heap.size := (by go_size); have HB1 := Lib.hid hb; clear hb) | (go_at_call 7; have tk := tok2; clear tok2; refine Uk (w := w) (Qqh _ [.slice p2_oa1 a2.1.length p2_cp1, .slice p2_oa2 a2.2.1.length p2_cp2, .int .i64 a2.2.2] a2 _ (Q3 HA2.out (by repeat (first | (with_reducible exact Below.refl _ _) | (with_reducible refine Qcf ?_ HB1.out (by go_size)) | (with_reducible refine Below.alloc ?_ (by go_size) _) | (with_reducible refine Below.drew ?_)))) (by omega) (by omega)) (by repeat (first | (with_reducible exact Below.refl _ _) | (with_reducible refine Qcf ?_ HB1.out (by go_size)) | (with_reducible refine Below.alloc ?_ (by go_size) _) | (with_reducible refine Below.drew ?_))) ?_; intro w2 r2 hB2 hb hz2 _ hr hs2; have HR2 := Lib.hid hr; clear hr; have hz2 := hb.size; (repeat (first | rewrite [World.size_alloc] at hz2 | rewrite [World.size_setCell] at hz2 | rewrite [World.size_drew] at hz2)); have c2_0 := fun o => Z4 hb (w.heap.size) o (by go_size); have c2_1 := fun o => Z4 hb (w.heap.size + 1) o (by go_size); have l2_0 : w.heap.size < w2.heap.size := (by go_size); have l2_1 : w.heap.size + 1 < w2.heap.size := (by go_size); have HB2 := Lib.hid hb; clear hb) | (go_at_call 8; have tk := tok3; clear tok3; refine Uk (w := w) (Qty _ (.slice p3_oa a3.length p3_cp) a3 _ (Q3 HA3.out (by repeat (first | (with_reducible exact Below.refl _ _) | (with_reducible refine Qcf ?_ HB2.out (by go_size)) | (with_reducible refine Qcf ?_ HB1.out (by go_size)) | (with_reducible refine Below.alloc ?_ (by go_size) _) | (with_reducible refine Below.drew ?_)))) (by omega) (by omega)) (by repeat (first | (with_reducible exact Below.refl _ _) | (with_reducible refine Qcf ?_ HB2.out (by go_size)) | (with_reducible refine Qcf ?_ HB1.out (by go_size)) | (with_reducible refine Below.alloc ?_ (by go_size) _) | (with_reducible refine Below.drew ?_))) ?_; intro w3 r3 hB3 hb hz3 _ hr hs3; have HR3 := Lib.hid hr; clear hr; have hz2 := hb.size; (repeat (first | rewrite [World.size_alloc] at hz2 | rewrite [World.size_setCell] at hz2 | rewrite [World.size_drew] at hz2)); have c3_0 := fun o => Z4 hb (w.heap.size) o (by go_size); have c3_1 := fun o => Z4 hb (w.heap.size + 1) o (by go_size); have l3_0 : w.heap.size < w3.heap.size := (by go_size); have l3_1 : w.heap.size + 1 < w3.heap.size := (by go_size); have HB3 := Lib.hid hb; clear hb) | (exfalso; have q1 := HR1.out; have q2 := HR2.out; have q3 := HR3.out; apply hbig; unfold szq at *; omega))
  all_goals
    go_ret
    refine ⟨rfl, ?_⟩
    first | (with_reducible assumption) | go_grown
theorem Qea (a0 : Jl) (a1 : Int) (a2 : X7) (a3 : (List Zh)) : K8 a0 a1 a2 a3 = true := by
  unfold K8
  simp
theorem lawNotify (w : World) (c0 : List Value) (a0 : Jl) (h0 : rd w c0 a0) (a1 : Int) (h1 : I64 a1) (c2 : List Value) (a2 : X7) (h2 : rd w c2 a2) (v3 : Value) (a3 : (List Zh)) (h3 : rd w [v3] a3) : Calls Tryz.prog 5 #[.agg c0.toArray, .int .i64 a1, .agg c2.toArray, v3] w (Ret w (.bool true)) := by
  by_cases hbig : GoD.size a0 + GoD.size a2 + GoD.size a3 ≤ 1048576
  · have h := (Qf5 a0 a1 a2 a3).run (.cons (arg_agg h0 (GoE.wide_size (show GoD.size a0 ≤ 1073741824 by omega))) (.cons (arg_int h1) (.cons (arg_agg h2 (GoE.wide_size (show GoD.size a2 ≤ 1073741824 by omega))) (.cons (arg_sli h3 (GoE.wide_size (show GoD.size a3 ≤ 1073741824 by omega))) .nil))))
    rw [Qea] at h
    exact h.mono fun _ _ h => ret_bool h
  · exact bigNotify w c0 a0 h0 a1 h1 c2 a2 h2 v3 a3 h3 hbig
end Go.Proofs.YtnhmnfmhnepjmaaGreat
