/- The abstract machine's operations that turn no memory. No program in sight. -/
import Derived.Test.YtjkfmihbmkbjfaaGreatOq
namespace Go.Proofs.YtjkfmihbmkbjfaaGreat
open Go.RowKit

def evalP (tt : List (Nat × TI)) (orc : Orc) (bn : List (Nat × List C)) : Op → List AV → Option (AV × List Ob)
  | .move _, [v] => some (v, [])
  | .assign _, [v] => some (v, [])
  | .pick _ _ _, [.one (.bool c), a, b] => some (bif c then a else b, [])
  | .binOp op t _ _ _, [.one x, .one y] =>
    match binC op x y with
    | some (c, obs) => some (.one c, obs)
    | none => (match x, y with
      | .bool a, .bool b => (match binBool tt op t a b with
        | some (c, obs) => some (.one c, obs)
        | none => none)
      | _, _ => none)
  | .binOp op t _ _ _, [.agg xs, .agg ys] =>
    (match get tt t with
    | some ⟨_, _, _, l :: ls⟩ => (match op, cellsEq (l :: ls) xs ys with
      | .eql, some b => some (.one (.bool b), [])
      | .neq, some b => some (.one (.bool (!b)), [])
      | _, _ => none)
    | _ => none)
  | .unOp op _ _, [.one x] =>
    (match op, x with
    | .not, .bool b => some (.one (.bool (!b)), [])
    | .neg, .int k n => some (.one (.int k (k.wrap (0 - n))), [])
    | _, _ => none)
  | .field t _ f, [.agg cs] =>
    (match fieldAt? tt t f with
    | some (o, sz, true) => bif Nat.ble (o + sz) cs.length then some (.agg ((cs.drop o).take sz), []) else none
    | some (o, _, false) => (match cs[o]? with
      | some c => some (.one c, [])
      | none => none)
    | none => none)
  | .extract _ i, [.tup l] =>
    (match l[i]? with
    | some (true, cs) => some (.agg cs, [])
    | some (false, [c]) => some (.one c, [])
    | _ => none)
  | .fieldAddr t _ f, [.one (.ptr k off)] =>
    (match fieldAt? tt t f with
    | some (o, sz, _) => bif Nat.beq sz 0 then none else some (.one (.ptr k (off + o)), [])
    | none => none)
  | .fieldAddr t _ f, [.one (.rptr tok cs)] =>
    (match fieldAt? tt t f with
    | some (o, sz, _) => bif Nat.beq sz 0 then none else some (.one (.rptr tok (cs.drop o)), [])
    | none => none)
  | .nilCheck _, [.one (.ptr k off)] => some (.one (.ptr k off), [])
  | .nilCheck _, [.one (.rptr t cs)] => some (.one (.rptr t cs), [])
  | .build t ps, avs =>
    (match get tt t with
    | some ⟨.struct fs, _, zero, _⟩ => bif Nat.beq ps.size avs.length then (match fillC fs zero ((ps.toList.map (·.1)).zip avs) with
      | some cs => some (.agg cs, [])
      | none => none) else none
    | _ => none)
  | .makeFunc (.func f) first _, avs =>
    bif Nat.beq first.size 0 then (match ptrKeys avs with
      | some caps => some (.one (.fn f caps), [])
      | none => none) else none
  | .convert s d _, [.one (.int _ n)] =>
    (match get tt s, get tt d with
    | some _, some ⟨.int k, _, _, _⟩ => some (.one (.int k (k.wrap n)), [])
    | _, _ => none)
  | .call ⟨.builtin .len, _, tys⟩, [.one x] =>
    (match tys[0]? with
    | some t => (match get tt t, x with
      | some ⟨.sli _, _, _, _⟩, .slc _ _ l => some (.one (.int .i64 l.length), [])
      | some ⟨.str, _, _, _⟩, .str s => some (.one (.int .i64 s.size), [])
      | _, _ => none)
    | none => none)
  | .index t _ _, [.one (.str s), .one (.int _ i)] =>
    (match get tt t with
    | some ⟨.str, _, _, _⟩ => some (.one (.int .u8 (strAt s i)), [.idx i s.size])
    | _ => none)
  | .indexAddr t _ _, [.one (.slc tok n l), .one (.int _ i)] =>
    (match get tt t, orc, childTok tok with
    | some ⟨.sli e, _, _, _⟩, .row r, some tok' => (match get tt e with
      | some ei => bif Nat.beq ei.size n then some (.one (.rptr tok' r), [.elem l i r]) else none
      | none => none)
    | _, _, _ => none)
  | .slice t _ lo hi none, .one (.slc tok n l) :: r =>
    (match get tt t with
    | some ⟨.sli e, _, _, _⟩ => (match get tt e, optBound 0 lo r with
      | some ei, some (a, r1) => (match optBound l.length hi r1 with
        | some (b, []) => bif Nat.beq ei.size n then some (.one (.slc (subTok tok) n ((l.take b.toNat).drop a.toNat)), [.rng a b l.length]) else none
        | _ => none)
      | _, _ => none)
    | _ => none)
  | .slice t _ lo hi none, .one (.str s) :: r =>
    (match get tt t with
    | some ⟨.str, _, _, _⟩ => (match optBound 0 lo r with
      | some (a, r1) => (match optBound s.size hi r1 with
        | some (b, []) => some (.one (.str (s.extract a.toNat b.toNat)), [.rng a b s.size])
        | _ => none)
      | _ => none)
    | _ => none)
  | .load t _, [.one (.ptr k off)] =>
    (match get tt t, get bn k with
    | some ti, some cells => (match asVal ti ((cells.drop off).take ti.size) with
      | some v => some (v, [])
      | none => none)
    | _, _ => none)
  | .load t _, [.one (.rptr tok cs)] =>
    (match get tt t with
    | some ti => bif Nat.ble ti.size cs.length then (match asVal ti ((cs.take ti.size).map (liftC tok)) with
      | some v => some (v, [])
      | none => none) else none
    | none => none)
  | _, _ => none

def RowsLike (l : List (List PV)) : Prop := ∀ r, r ∈ l → ∀ p, p ∈ r → p.flat
def SlcLen (n : Nat) : Prop := n ≤ maxLen

/-! ### the table -/
structure TiOk (P : Program) (t : Nat) (i : TI) : Prop where
  und : ∃ d, P.underlying t = some d ∧ kindOk P d i.kind = true
  eqs : eqOk P t i = true
  info : ∃ inf z, P.info? t = some inf ∧ inf.size = i.size ∧ inf.bytes ≤ 1000 ∧ inf.zero = some z ∧ z.cells.size = i.size ∧ zerosOk z.cells.toList i.zero = true
theorem tiOk_spec {P : Program} {t : Nat} {i : TI} (h : tiOk P t i = true) : TiOk P t i := by
  unfold tiOk at h
  split at h
  · rename_i d inf hd hi
    simp only [Bool.and_eq_true] at h
    obtain ⟨⟨⟨⟨h1, h2⟩, h3⟩, h4⟩, h5⟩ := h
    split at h4
    · rename_i z hz
      simp only [Bool.and_eq_true] at h4
      exact ⟨⟨d, hd, h1⟩, h5, inf, z, hi, by simpa using h2, by simpa using h3, hz, by simpa using h4.1, h4.2⟩
    · cases h4
  · cases h
theorem ttOk_get {P : Program} : ∀ {tt : List (Nat × TI)} {t : Nat} {i : TI}, ttOk P tt = true → get tt t = some i → TiOk P t i
  | [], _, _, _, h => by cases h
  | (k, a) :: r, t, i, h, hg => by
    simp only [ttOk, Bool.and_eq_true] at h
    simp only [get] at hg
    split at hg
    · rename_i hk
      obtain rfl := Option.some.inj hg
      exact hk ▸ tiOk_spec h.1
    · exact ttOk_get h.2 hg
theorem TiOk.sli {P : Program} {q : List LK} {t e n : Nat} {z : List C} (h : TiOk P t ⟨.sli e, n, z, q⟩) : P.underlying t = some (.slice e) := by
  obtain ⟨d, hd, hk⟩ := h.und
  cases d <;> simp [kindOk] at hk
  rw [hd, hk]
theorem TiOk.str {P : Program} {q : List LK} {t n : Nat} {z : List C} (h : TiOk P t ⟨.str, n, z, q⟩) : P.underlying t = some .string := by
  obtain ⟨d, hd, hk⟩ := h.und
  cases d <;> simp [kindOk] at hk
  exact hd
theorem TiOk.bool {P : Program} {q : List LK} {t n : Nat} {z : List C} (h : TiOk P t ⟨.bool, n, z, q⟩) : P.underlying t = some .bool := by
  obtain ⟨d, hd, hk⟩ := h.und
  cases d <;> simp [kindOk] at hk
  exact hd
theorem TiOk.int {P : Program} {q : List LK} {t n : Nat} {k : IntKind} {z : List C} (h : TiOk P t ⟨.int k, n, z, q⟩) : P.underlying t = some (.int k) := by
  obtain ⟨d, hd, hk⟩ := h.und
  cases d <;> simp [kindOk] at hk
  rw [hd, hk]
theorem TiOk.struct {P : Program} {q : List LK} {t n : Nat} {fs : List (Nat × Nat × Bool)} {z : List C} (h : TiOk P t ⟨.struct fs, n, z, q⟩) : ∃ gs : Array Field, P.underlying t = some (.struct gs) ∧ fieldsOk P gs.toList fs = true := by
  obtain ⟨d, hd, hk⟩ := h.und
  cases d with
  | struct gs => exact ⟨gs, hd, by simpa [kindOk] using hk⟩
  | _ => simp [kindOk] at hk
theorem TiOk.agg {P : Program} {t : Nat} {i : TI} (h : TiOk P t i) : ∃ d, P.underlying t = some d ∧ aggOf d = i.agg := by
  obtain ⟨d, hd, hk⟩ := h.und
  refine ⟨d, hd, ?_⟩
  obtain ⟨kind, _, _, _⟩ := i
  cases d <;> cases kind <;> simp_all [kindOk, TI.agg, aggOf]
theorem run_isAgg_of {P : Program} {t : Nat} {d : TypeDesc} (h : P.underlying t = some d) (w : World) : (isAgg t).run P w = .ok (aggOf d) w := by
  unfold isAgg
  simp only [Sem.run_bind, run_underlying h, Result.andThen_ok]
  cases d <;> rfl
theorem field_of {P : Program} : ∀ {gs : List Field} {fs : List (Nat × Nat × Bool)} {f o sz : Nat} {ag : Bool}, fieldsOk P gs fs = true → fs[f]? = some (o, sz, ag) →
    ∃ g inf d, gs[f]? = some g ∧ g.offset = o ∧ P.info? g.type = some inf ∧ inf.size = sz ∧ P.underlying g.type = some d ∧ aggOf d = ag
  | [], [], _, _, _, _, _, h => by simp at h
  | [], _ :: _, _, _, _, _, h, _ => by simp [fieldsOk] at h
  | _ :: _, [], _, _, _, _, h, _ => by simp [fieldsOk] at h
  | g :: gs, (o', sz', ag') :: fs, f, o, sz, ag, h, hf => by
    simp only [fieldsOk, Bool.and_eq_true] at h
    obtain ⟨⟨⟨h1, h2⟩, h3⟩, h4⟩ := h
    cases f with
    | succ f =>
      obtain ⟨g', inf, d, k1, k2⟩ := field_of (gs := gs) (fs := fs) h4 (f := f) (by simpa using hf)
      exact ⟨g', inf, d, by simpa using k1, k2⟩
    | zero =>
      simp at hf
      obtain ⟨rfl, rfl, rfl⟩ := hf
      split at h2
      · rename_i inf hi
        split at h3
        · rename_i d hd
          refine ⟨g, inf, d, rfl, by simpa using h1, hi, by simpa using h2, hd, ?_⟩
          revert h3
          generalize aggOf d = x
          cases x <;> cases ag' <;> simp
        · cases h3
      · cases h2
end Go.Proofs.YtjkfmihbmkbjfaaGreat
