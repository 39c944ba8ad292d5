/- Texts of this proof, put together by a program: Inr, Ins, Df, Cgs, Cga, Cgb, Cgc, Gb, Cua, Cub, Cuc, Cud, Cue, Pla, Aea. -/
import Derived.Test.YtcnkkobgogmakaaGreatP5
import Derived.Laws.Externs
import Derived.Lib.AppendZerosOnto
import Derived.Deep.RegionLaw
import Derived.KernelRfl
set_option linter.unusedVariables false
set_option linter.unusedSimpArgs false
namespace Go.Proofs.YtcnkkobgogmakaaGreat
open Go.RowKit
section
variable {P : Program}
theorem copy_run (w : World) (dT sT ty elem : TypeId) (inf : TypeInfo) (b o dLen dCap : Nat) (a : Addr) (sLen sCap : Nat) (cs : List Value) (hu : P.underlying dT = some (.slice elem)) (hi : P.info? elem = some inf)
    (hn : cs.length = Nat.min sLen dLen * inf.size) (hsrc : ∀ j v, cs[j]? = some v → w.cell? (a.add j) = some v) {cur : Array Value} {e : TypeId} (hg : w.heap[b]? = some (.cells cur e (0, 0))) (hfit : o + cs.length ≤ cur.size) (h1 : ∀ v ∈ cs, v.oneCell' = true) :
    (Builtin.copy_ #[dT, sT] ty #[.slice (some ⟨b, o, none⟩) dLen dCap, .slice (some a) sLen sCap]).run P w = .ok (goInt (Nat.min sLen dLen)) (w.setCells b o cs) := by
  have hl := run_loadCells_list (P := P) w a cs hsrc
  have hc : ∀ j, j < cs.length → (w.cell? ⟨b, o + j, none⟩).isSome = true := fun j hj => by
    have : o + j < cur.size := by omega
    simp [World.cell?, hg, this]
  have hf : ∀ j, j < cs.length → w.frozen? ⟨b, o + j, none⟩ = false := fun j hj => by simp [World.frozen?, hg]
  have hst := run_storeCells_cells (P := P) b o cs 0 w (by simpa using hc) (by simpa using hf) h1
  simp [Builtin.copy_, run_underlying hu, Builtin.lenOf, Builtin.firstCells, sizeOf, typeInfo, hi, ← hn, hl, hst]
theorem overlaps_run (w : World) (tS tR e : TypeId) (ht : P.underlying tS = some (.slice e)) (size : Nat) (hz : ∀ w, (Go.sizeOf e).run P w = .ok size w) (a b : Addr) (la ca lb cb : Nat) (hne : a.block ≠ b.block)
    {arrA : Array Value} {tA : TypeId} {frA : Nat × Nat} (hA : w.heap[a.block]? = some (.cells arrA tA frA)) {arrB : Array Value} {tB : TypeId} (hB : w.heap[b.block]? = some (.cells arrB tB (0, 0))) (hpos : 0 < arrB.size) (hposA : 0 < arrA.size) :
    (Extern.SlicesOverlaps.overlaps #[tS, tS] #[tR] #[.slice (some a) la ca, .slice (some b) lb cb]).run P w = .ok (.bool false) w := by
  have hsa : w.shape? a.block = some (tA, arrA.size) := by simp [World.shape?, hA]
  have hsb : w.shape? b.block = some (tB, arrB.size) := by simp [World.shape?, hB]
  have hfb : ∀ o, w.frozen? ⟨b.block, o, none⟩ = false := fun o => by simp [World.frozen?, hB]
  have hfb' : w.frozen? b = false := by simp [World.frozen?, hB]
  have hnb : (a.block != b.block) = true := by simpa using hne
  have hnb' : (a.block == b.block) = false := by simpa using hne
  obtain ⟨kb, hkb⟩ : ∃ kb, arrB.size = kb + 1 := ⟨arrB.size - 1, by omega⟩
  rw [hkb] at hsb
  obtain ⟨ka, hka⟩ : ∃ ka, arrA.size = ka + 1 := ⟨arrA.size - 1, by omega⟩
  rw [hka] at hsa
  change Sem.run P (α := Value) (do
    let some t := (#[tS, tS] : Array TypeId)[0]? | stuck "slices.overlaps: no parameter types"
    let .slice elem ← underlying t | stuck "slices.overlaps: slice type expected"
    let size ← sizeOf elem
    match (some a : Option Addr), (some b : Option Addr) with
    | some a, some b =>
      if la = 0 ∨ lb = 0 ∨ size = 0 then pure (Value.bool false)
      else if a.block != b.block && (← frozen a) && (← frozen b) then unsupported .addressObserved
      else do
        if a.block != b.block then do
          noView a; noView b
          if ← mayBeOne a b then return Value.bool ((← choose (.extern "sameAddr.stringBytes" 2)) == 1)
        pure (Value.bool (a.block == b.block && a.off < b.off + lb * size && b.off < a.off + la * size))
    | _, _ => pure (Value.bool false)) w = _
  by_cases h0 : la = 0 ∨ lb = 0 ∨ size = 0
  · simp [run_underlying ht, hz, h0]
  · cases hfa : w.frozen? a with
    | true => simp [run_underlying ht, hz, h0, hnb, hnb', frozen, noView, viewAt, mayBeOne, stringish, shape, Sem.run, hsa, hsb, hfa, hfb, hfb']
    | false =>
      cases hfa2 : w.frozen? { block := a.block, off := ka + 1 } with
      | true => simp [run_underlying ht, hz, h0, hnb, hnb', frozen, noView, viewAt, mayBeOne, stringish, shape, Sem.run, hsa, hsb, hfa, hfb, hfb', hfa2]
      | false => simp [run_underlying ht, hz, h0, hnb, hnb', frozen, noView, viewAt, mayBeOne, stringish, shape, Sem.run, hsa, hsb, hfa, hfb, hfb', hfa2]
structure RowAt (w : World) (n : Nat) (oa : Option Addr) (m cap : Nat) (olds : List Value) : Prop where
  len : olds.length = m * n
  row : (oa = oa ∧ m = 0 ∧ cap = 0) ∨ ∃ g cur e, oa = some ⟨g, 0, none⟩ ∧ w.heap[g]? = some (.cells cur e (0, 0)) ∧ cur.size = cap * n ∧ cur.toList.take (m * n) = olds
  le : m ≤ cap
  cap : cap ≤ maxLen
  lim : m < 1073741824
  ones : ∀ u, u ∈ olds → u.oneCell' = true
structure Turned (w w' : World) (n : Nat) (oa : Option Addr) (cap : Nat) (u : Value) (m' : Nat) (news : List Value) : Prop where
  os : w'.os = w.os
  tape : w'.tape = w.tape
  output : w'.output = w.output
  size : w.heap.size ≤ w'.heap.size
  row : ∃ g' cap' cur' e', u = .slice (some ⟨g', 0, none⟩) m' cap' ∧ w'.heap[g']? = some (.cells cur' e' (0, 0)) ∧ cur'.size = cap' * n ∧ cur'.toList.take (m' * n) = news ∧ m' ≤ cap' ∧ cap' ≤ maxLen ∧
    ((oa = some ⟨g', 0, none⟩ ∧ 0 < cap ∧ ∀ b, b ≠ g' → w'.heap[b]? = w.heap[b]?) ∨ (w.heap.size ≤ g' ∧ g' < w'.heap.size ∧ ∀ b, b < w.heap.size → w'.heap[b]? = w.heap[b]?))
def InsTo (w : World) (n i : Nat) (oa : Option Addr) (m cap : Nat) (olds vs : List Value) (e : Ending) (w' : World) : Prop :=
  ∃ u, e = .returned u ∧ Turned w w' n oa cap u (m + 1) (olds.take (i * n) ++ vs ++ olds.drop (i * n))
structure OneAt (w : World) (n : Nat) (oa : Option Addr) (cap : Nat) (vb voff : Nat) (vs : List Value) : Prop where
  len : vs.length = n
  cells : ∀ j u, vs[j]? = some u → w.cell? ⟨vb, voff + j, none⟩ = some u
  ones : ∀ u, u ∈ vs → u.oneCell' = true
  ne : ∀ g, oa = some ⟨g, 0, none⟩ → 0 < cap → vb ≠ g
theorem rowTop {F : Nat → Prop} {L : List Nat} {w : World} {v : Value} {n : Nat} {l : List (List PV)} (h : OwnTop F L w v n l) (hl : l.length < 1073741824) :
    ∃ oa cap olds, v = .slice oa l.length cap ∧ RowAt w n oa l.length cap olds ∧ VR F w n olds l ∧ (0 < cap → ∃ g, oa = some ⟨g, 0, none⟩ ∧ L = [g]) := by
  rcases h with ⟨rfl, oa, rfl⟩ | ⟨g, cap, cur, e, rfl, rfl, hg, hs, hr, h1, h2⟩
  · exact ⟨oa, 0, [], rfl, ⟨by simp, .inl ⟨rfl, rfl, rfl⟩, Nat.le_refl _, Nat.zero_le _, by simp, by simp⟩, .nil n, fun h => by omega⟩
  · exact ⟨some ⟨g, 0, none⟩, cap, _, rfl, ⟨hr.length, .inr ⟨g, cur, e, rfl, hg, hs, rfl⟩, h1, h2.1, hl, hr.ones⟩, hr, fun _ => ⟨g, rfl, rfl⟩⟩
theorem Turned.ret {F G : Nat → Prop} {L : List Nat} {w w' : World} {n : Nat} {oa : Option Addr} {cap : Nat} {u : Value} {m' : Nat} {news : List Value} (h : Turned w w' n oa cap u m' news) (hF : ∀ b, F b → b < w.heap.size ∧ b ∉ L) (hL : 0 < cap → ∃ g, oa = some ⟨g, 0, none⟩ ∧ L = [g]) (hLs : ∀ b, b ∈ L → b < w.heap.size)
    {l' : List (List PV)} (hv : VR F w n news l') (hm : l'.length = m') (hlim : m' ≤ 1073741824) : TRet F L w n false l' (.returned u) w' := by
  obtain ⟨g', cap', cur', e', rfl, hg, hs, ht, h1, h2, h3⟩ := h.row
  have hsame : ∀ b, b < w.heap.size → b ∉ L → w'.heap[b]? = w.heap[b]? := fun b hb hn => by
    rcases h3 with ⟨h3, hc, h4⟩ | ⟨_, _, h4⟩
    · obtain ⟨g, h5, rfl⟩ := hL hc
      rw [h3] at h5
      obtain rfl : g' = g := by simpa using h5
      exact h4 b fun e => hn (by simp [e])
    · exact h4 b hb
  refine ⟨_, rfl, fun m hm hmL => ⟨h.os, h.tape, h.output, h.size, fun b hb => hsame b (by omega) fun hx => by have := hmL b hx; omega⟩, hsame, [g'], by simp, fun b hb => ?_, ?_⟩
  · obtain rfl := List.mem_singleton.1 hb
    refine ⟨Xk hg, ?_⟩
    rcases h3 with ⟨h3, hc, _⟩ | ⟨h3, _, _⟩
    · obtain ⟨g, h5, rfl⟩ := hL hc
      rw [h3] at h5
      obtain rfl : b = g := by simpa using h5
      exact .inr (by simp)
    · exact .inl h3
  · refine .inr ⟨g', cap', cur', e', rfl, by rw [hm], hg, hs, ?_, by rw [hm]; exact h1, h2, by rw [hm]; exact hlim⟩
    rw [hm, ht]
    exact hv.keep fun b hb => ⟨.inl hb, hsame b (hF b hb).1 (hF b hb).2⟩
theorem atake_ins {f n : Nat} (hok : FnOk P f) (h0 : 0 < n)
    (hrun : ∀ w oa m cap olds i vb voff vc vs, RowAt w n oa m cap olds → OneAt w n oa cap vb voff vs → i ≤ m → Calls P f #[.slice oa m cap, .int .i64 (i : Int), .slice (some ⟨vb, voff, none⟩) 1 vc] w (InsTo w n i oa m cap olds vs))
    {l : List (List PV)} {x : List PV} {i : Int} {j : Nat} (hij : i = (j : Int)) (hj : j ≤ l.length) (hl : l.length < 1073741824) : ATake P f n l [.one (.int .i64 i), .one (.slc .sh n [x])] true false (l.take j ++ [x] ++ l.drop j) := by
  subst hij
  refine ⟨hok, fun w F G L v vals _ hFG hGF hGs hnd hLG hrow hargs => ?_⟩
  have hGF := hGF rfl
  cases hargs with
  | cons a1 ha =>
  cases ha with
  | cons a2 ha =>
  cases ha
  obtain ⟨rfl, _⟩ : _ = Value.int .i64 (j : Int) ∧ InR .i64 (j : Int) := a1
  have a2 : VV G w _ (.slc n [x]) := a2
  obtain ⟨oa, cap, olds, rfl, hR, hV, hL⟩ := rowTop hrow hl
  generalize hp : PV.slc n [x] = p at a2
  cases a2 with
  | int | bool | str => cases hp
  | emp => cases hp
  | @slc vb voff vc n' cs l1 hb hc hr h1 h2 =>
    obtain ⟨rfl, rfl⟩ : n = n' ∧ [x] = l1 := by simpa using hp
    have hcl : cs.length = n := by rw [hr.length]; simp
    have hone : OneAt w n oa cap vb voff cs := ⟨hcl, hc, hr.ones, fun g hg hcap e => by
      obtain ⟨g', h5, rfl⟩ := hL hcap
      rw [hg] at h5
      obtain rfl : g = g' := by simpa using h5
      exact (hLG g (by simp)).2 (e ▸ hb)⟩
    refine (hrun w oa l.length cap olds j vb voff vc cs hR hone hj).mono ?_
    rintro e w' ⟨u, rfl, hT⟩
    refine hT.ret (G := G) (fun b hb => ⟨hGs b (hFG b hb), fun hm => (hLG b hm).2 (hFG b hb)⟩) hL (fun b hb => (hLG b hb).1) ?_ ?_ (by omega)
    · exact VR.append (hV.drop j) (VR.append (hr.keep fun b hb => ⟨hGF b hb, rfl⟩) (hV.take j))
    · simp; omega
def DelTo (w : World) (n i : Nat) (oa : Option Addr) (m cap : Nat) (olds : List Value) (e : Ending) (w' : World) : Prop :=
  ∃ u, e = .returned u ∧ Turned w w' n oa cap u (m - 1) (olds.take (i * n) ++ olds.drop ((i + 1) * n))
theorem atake_del {f n : Nat} (hok : FnOk P f)
    (hrun : ∀ w oa m cap olds i, RowAt w n oa m cap olds → i < m → Calls P f #[.slice oa m cap, .int .i64 (i : Int), .int .i64 ((i : Int) + 1)] w (DelTo w n i oa m cap olds))
    {l : List (List PV)} {i k : Int} {j : Nat} (hij : i = (j : Int)) (hk : k = (j : Int) + 1) (hj : j < l.length) (hl : l.length < 1073741824) : ATake P f n l [.one (.int .i64 i), .one (.int .i64 k)] true false (l.take j ++ l.drop (j + 1)) := by
  subst hij
  subst hk
  refine ⟨hok, fun w F G L v vals _ hFG hGF hGs hnd hLG hrow hargs => ?_⟩
  cases hargs with
  | cons a1 ha =>
  cases ha with
  | cons a2 ha =>
  cases ha
  obtain ⟨rfl, _⟩ : _ = Value.int .i64 (j : Int) ∧ InR .i64 (j : Int) := a1
  obtain ⟨rfl, _⟩ : _ = Value.int .i64 ((j : Int) + 1) ∧ InR .i64 ((j : Int) + 1) := a2
  obtain ⟨oa, cap, olds, rfl, hR, hV, hL⟩ := rowTop hrow hl
  refine (hrun w oa l.length cap olds j hR hj).mono ?_
  rintro e w' ⟨u, rfl, hT⟩
  refine hT.ret (G := G) (fun b hb => ⟨hGs b (hFG b hb), fun hm => (hLG b hm).2 (hFG b hb)⟩) hL (fun b hb => (hLG b hb).1) ?_ ?_ (by omega)
  · exact VR.append (hV.drop (j + 1)) (hV.take j)
  · simp; omega
end
end Go.Proofs.YtcnkkobgogmakaaGreat
namespace Go.Proofs.YtcnkkobgogmakaaGreat
open Go.RowKit
section
variable {P : Program} {t e : TypeId} {ei : TI} {w : World} {oa : Option Addr} {m cap i vb voff vc : Nat} {olds vs : List Value}
theorem goIdx {i m n : Nat} (hi : i < m) : (i + 1) * n = i * n + n ∧ i * n + n ≤ m * n ∧ (m - i) * n = m * n - i * n ∧ (m + 1) * n = m * n + n := by
  have h1 : (i + 1) * n ≤ m * n := Nat.mul_le_mul_right n (by omega)
  have h2 : (i + 1) * n = i * n + n := by rw [Nat.add_mul, Nat.one_mul]
  exact ⟨h2, by omega, Nat.sub_mul .., by rw [Nat.add_mul, Nat.one_mul]⟩
theorem OneAt.block {n : Nat} (h : OneAt w n oa cap vb voff vs) (h0 : 0 < n) : vb < w.heap.size ∧ ∃ arr tA fr, w.heap[vb]? = some (.cells arr tA fr) ∧ 0 < arr.size := by
  have hl : 0 < vs.length := by rw [h.len]; exact h0
  have hc := h.cells 0 vs[0] (List.getElem?_eq_getElem hl)
  unfold World.cell? at hc
  split at hc
  · rename_i arr tA fr hh
    refine ⟨Xk hh, arr, tA, fr, hh, ?_⟩
    have hc : arr[voff + 0]? = some vs[0] := by simpa using hc
    have := (Array.getElem?_eq_some_iff.1 hc).1
    omega
  · cases hc
theorem wpList_copy_rn {w : World} {ops : Array Oper} {rest : List Oper} {o : Oper} {a : Act} {Q : Exit → Act → World → Prop} (hgd : o.guard = none) (d s : Operand) (t t' : TypeId)
    (ho : o.op = .call { callee := .builtin .copy, args := #[d, s], argTypes := #[t, t'] }) (v u : Value) (hd : a.eval d = v) (hs : a.eval s = u) {v' : Value} {w' : World}
    (hr : (Builtin.copy_ #[t, t'] o.type #[v, u]).run P w = .ok v' w') (h : wpList P ops Q rest (a.put o.dst v') w') : wpList P ops Q (o :: rest) a w :=
  wpList_plain hgd fun K hK => by
    unfold Oper.wp execOp
    simp only [ho, resolve, invoke, builtin, Sem.run_bind, Sem.run_pure, Result.andThen_ok, List.map_toArray, List.map_cons, List.map_nil, hd, hs, hr]
    exact hK _ _ h
theorem step_copy_rn {w : World} {ops : Array Oper} {o : Oper} {a : Act} {K : Act → World → Prop} {Q : Exit → Act → World → Prop} {E : Prop}
    (hg : o.guard = none) (d x : Operand) (dT sT : TypeId) (hop : o.op = .call { callee := .builtin .copy, args := #[d, x], argTypes := #[dT, sT] })
    (v u : Value) (hd : a.eval d = v) (hx : a.eval x = u) {v' : Value} {w' : World} (hr : (Builtin.copy_ #[dT, sT] o.type #[v, u]).run P w = .ok v' w') (hK : K (a.put o.dst v') w') :
    if Region.wanted o (yielded ops a.tmps) = true then Oper.wp P o a w K Q else E := by
  rw [if_pos (by simp [Region.wanted, hg])]
  unfold Oper.wp execOp
  simp only [hop, resolve, invoke, builtin, Sem.run_bind, Sem.run_pure, Result.andThen_ok, List.map_toArray, List.map_cons, List.map_nil, hd, hx, hr]
  exact hK
theorem step_append_rn {w : World} {ops : Array Oper} {o : Oper} {a : Act} {K : Act → World → Prop} {Q : Exit → Act → World → Prop} {E : Prop}
    (hg : o.guard = none) (d x : Operand) (dT sT : TypeId) (hop : o.op = .call { callee := .builtin .append, args := #[d, x], argTypes := #[dT, sT] })
    (v u : Value) (hd : a.eval d = v) (hx : a.eval x = u) {v' : Value} {w' : World} (hr : (Builtin.append_ #[dT, sT] o.type #[v, u]).run P w = .ok v' w') (hK : K (a.put o.dst v') w') :
    if Region.wanted o (yielded ops a.tmps) = true then Oper.wp P o a w K Q else E := by
  rw [if_pos (by simp [Region.wanted, hg])]
  unfold Oper.wp execOp
  simp only [hop, resolve, invoke, builtin, Sem.run_bind, Sem.run_pure, Result.andThen_ok, List.map_toArray, List.map_cons, List.map_nil, hd, hx, hr]
  exact hK
theorem heap_drew_setCells (g : Nat) : ∀ (vs : List Value) (o : Nat) (w : World), (w.drew.setCells g o vs).heap = (w.setCells g o vs).heap
  | [], _, _ => rfl
  | v :: vs, o, w => heap_drew_setCells g vs (o + 1) (w.setCell ⟨g, o, none⟩ v)
theorem src_one (hu : P.underlying t = some (.slice e)) (hO : OneAt w ei.size oa cap vb voff vs) : Src P ei.size t (.slice (some ⟨vb, voff, none⟩) 1 vc) 1 vs w :=
  Src.ofSlice w hu _ _ _ _ (by rw [hO.len]; omega) (fun j u hj => by rw [Addr.add_lit]; exact hO.cells j u hj) hO.ones
theorem road_end (hu : P.underlying t = some (.slice e)) (hei : TiOk P e ei) (hn : 0 < ei.size) (hR : RowAt w ei.size oa m cap olds) (hO : OneAt w ei.size oa cap vb voff vs) :
    ∃ u w', (∀ ty, (Builtin.append_ #[t, t] ty #[.slice oa m cap, .slice (some ⟨vb, voff, none⟩) 1 vc]).run P w = .ok u w') ∧ InsTo w ei.size m oa m cap olds vs (.returned u) w' := by
  have hold : ∀ ad, oa = some ad → ∀ (j : Nat) (u : Value), olds[j]? = some u → w.cell? (ad.add j) = some u := fun ad had j u hj => by
    rcases hR.row with ⟨_, h0, _⟩ | ⟨g, cur, e0, h1, h2, h3, h4⟩
    · have := hR.len
      rw [h0, Nat.zero_mul] at this
      rw [List.length_eq_zero_iff.1 this] at hj
      simp at hj
    · rw [had] at h1
      obtain rfl := Option.some.inj h1
      rw [← h4] at hj
      exact row_reads h2 _ j u hj
  obtain ⟨g', cap', cur', e', w', hr, h1, h2, h3, h4, h5, h6, h7, h8, h9, h10⟩ := append_run (ty := 0) hu hei hn hR.len hold (fun h => by
      rcases hR.row with ⟨_, h0, _⟩ | ⟨g, cur, e0, h1, _⟩
      · exact h0
      · rw [h] at h1; cases h1) (hR.row.imp (fun h => h.2.2) fun h => h) hR.le (src_one (vc := vc) hu hO) (by have := hR.lim; omega) (fun _ => by omega) hR.cap
  refine ⟨_, w', fun ty => hr, _, rfl, ⟨h6, h7, h8, h9, g', cap', cur', e', rfl, h1, h2, ?_, h4, h5, ?_⟩⟩
  · rw [h3, List.take_of_length_le (by rw [hR.len]; omega), List.drop_of_length_le (by rw [hR.len]; omega), List.append_nil]
  · exact h10.imp (fun ⟨cur, e0, h1, h2, h3, h4⟩ => ⟨h1, by omega, h4⟩) fun ⟨h1, h2, h3⟩ => ⟨by omega, h2, h3⟩
variable {g : Nat} {cur : Array Value} {e0 : TypeId}
theorem olds_cell (hg : w.heap[g]? = some (.cells cur e0 (0, 0))) (htk : cur.toList.take (m * ei.size) = olds) {k : Nat} : ∀ (j : Nat) (u : Value), (olds.drop k)[j]? = some u → w.cell? ((⟨g, k, none⟩ : Addr).add j) = some u := fun j u hj => by
  rw [List.getElem?_drop, ← htk] at hj
  have := row_reads hg _ _ u hj
  rw [Addr.add_lit, Nat.zero_add] at this
  rw [Addr.add_lit]
  exact this
theorem heap_os_setCells (g : Nat) : ∀ (vs : List Value) (o : Nat) (w : World), (w.setCells g o vs).os = w.os ∧ (w.setCells g o vs).tape = w.tape ∧ (w.setCells g o vs).output = w.output
  | [], _, _ => ⟨rfl, rfl, rfl⟩
  | v :: vs, o, w => heap_os_setCells g vs (o + 1) (w.setCell ⟨g, o, none⟩ v)
theorem road_room (hu : P.underlying t = some (.slice e)) (hei : TiOk P e ei) (hn : 0 < ei.size) (hg : w.heap[g]? = some (.cells cur e0 (0, 0))) (hcs : cur.size = cap * ei.size) (htk : cur.toList.take (m * ei.size) = olds)
    (hR : RowAt w ei.size (some ⟨g, 0, none⟩) m cap olds) (hO : OneAt w ei.size (some ⟨g, 0, none⟩) cap vb voff vs) (hi : i < m) (hroom : m + 1 ≤ cap) :
    (∀ ty dc sc, (Builtin.copy_ #[t, t] ty #[.slice (some ⟨g, (i + 1) * ei.size, none⟩) (m + 1 - (i + 1)) dc, .slice (some ⟨g, i * ei.size, none⟩) (m + 1 - i) sc]).run P w = .ok (goInt (Nat.min (m + 1 - i) (m + 1 - (i + 1)))) (w.setCells g ((i + 1) * ei.size) (olds.drop (i * ei.size)))) ∧
    (∀ W : World, W.heap = (w.setCells g ((i + 1) * ei.size) (olds.drop (i * ei.size))).heap → ∀ ty dc, (Builtin.copy_ #[t, t] ty #[.slice (some ⟨g, i * ei.size, none⟩) (m + 1 - i) dc, .slice (some ⟨vb, voff, none⟩) 1 vc]).run P W = .ok (goInt (Nat.min 1 (m + 1 - i))) (W.setCells g (i * ei.size) vs)) ∧
    (∀ W : World, W.heap = (w.setCells g ((i + 1) * ei.size) (olds.drop (i * ei.size))).heap → W.os = w.os → W.tape = w.tape → W.output = w.output → InsTo w ei.size i (some ⟨g, 0, none⟩) m cap olds vs (.returned (.slice (some ⟨g, 0, none⟩) (m + 1) cap)) (W.setCells g (i * ei.size) vs)) := by
  obtain ⟨inf, z, hI, hsz, _⟩ := hei.info
  obtain ⟨k1, k2, k3, k4⟩ := goIdx (n := ei.size) hi
  have k5 : m * ei.size + ei.size ≤ cap * ei.size := by rw [← k4]; exact Nat.mul_le_mul_right _ hroom
  have hdl : (olds.drop (i * ei.size)).length = (m - i) * ei.size := by rw [List.length_drop, hR.len, k3]
  have hfit1 : (i + 1) * ei.size + (olds.drop (i * ei.size)).length ≤ cur.size := by rw [hdl]; omega
  have hmin : Nat.min (m + 1 - i) (m + 1 - (i + 1)) = m - i := by simp only [Nat.min_def]; split <;> omega
  have hmin1 : Nat.min 1 (m + 1 - i) = 1 := by simp only [Nat.min_def]; split <;> omega
  have hvb : vb ≠ g := hO.ne g rfl (by omega)
  have hg1 := heap_setCells_of g (olds.drop (i * ei.size)) ((i + 1) * ei.size) w hg
  have hfit2 : i * ei.size + vs.length ≤ (putCells cur ((i + 1) * ei.size) (olds.drop (i * ei.size))).size := by rw [size_putCells, hO.len]; omega
  refine ⟨fun ty dc sc => ?_, fun W hW ty dc => ?_, fun W hW ho ht hu' => ?_⟩
  · exact copy_run w t t ty e inf g _ _ dc ⟨g, i * ei.size, none⟩ _ sc _ hu hI (by rw [hmin, hdl, hsz]) (olds_cell hg htk) hg hfit1 fun v hv => hR.ones v (List.mem_of_mem_drop hv)
  · refine copy_run W t t ty e inf g _ _ dc ⟨vb, voff, none⟩ _ vc _ hu hI (by rw [hmin1, hO.len, hsz, Nat.one_mul]) (fun j v hj => ?_) (hW ▸ hg1) hfit2 hO.ones
    rw [Addr.add_lit, World.cell?_of_block (w := w) (by rw [hW]; exact heap_setCells_ne g hvb _ _ _)]
    exact hO.cells j v hj
  · obtain ⟨p1, p2, p3⟩ := heap_os_setCells g vs (i * ei.size) W
    have hg2 := heap_setCells_of g vs (i * ei.size) W (hW ▸ hg1)
    refine ⟨_, rfl, ⟨p1.trans ho, p2.trans ht, p3.trans hu', ?_, g, cap, _, e0, rfl, hg2, by rw [size_putCells, size_putCells]; exact hcs, ?_, hroom, hR.cap, .inl ⟨rfl, by omega, fun b hb => ?_⟩⟩⟩
    · rw [size_setCells, hW, size_setCells]; exact Nat.le_refl _
    · have hci : cur.toList.take (i * ei.size) = olds.take (i * ei.size) := by
        rw [← htk, List.take_take]; congr 1; omega
      have hA : ((cur.toList.take ((i + 1) * ei.size) ++ olds.drop (i * ei.size)) ++ cur.toList.drop ((i + 1) * ei.size + (olds.drop (i * ei.size)).length)).take (i * ei.size) = olds.take (i * ei.size) := by
        have hl : (cur.toList.take ((i + 1) * ei.size)).length = (i + 1) * ei.size := by rw [List.length_take, Array.length_toList]; omega
        rw [List.append_assoc, List.take_append_of_le_length (by rw [hl]; omega), List.take_take, ← hci]; congr 1; omega
      have hB : ((cur.toList.take ((i + 1) * ei.size) ++ olds.drop (i * ei.size)) ++ cur.toList.drop ((i + 1) * ei.size + (olds.drop (i * ei.size)).length)).drop (i * ei.size + vs.length) = olds.drop (i * ei.size) ++ cur.toList.drop ((i + 1) * ei.size + (olds.drop (i * ei.size)).length) := by
        have hl : (cur.toList.take ((i + 1) * ei.size)).length = i * ei.size + vs.length := by rw [List.length_take, Array.length_toList, hO.len]; omega
        rw [List.append_assoc, ← hl, List.drop_left]
      rw [putCells_list hfit2, putCells_list hfit1, hA, hB]
      have hl3 : (olds.take (i * ei.size) ++ vs ++ olds.drop (i * ei.size)).length = (m + 1) * ei.size := by
        rw [List.length_append, List.length_append, hdl, hO.len, List.length_take, hR.len, k3]; omega
      rw [← List.append_assoc, ← hl3, List.take_left]
    · rw [heap_setCells_ne g hb, hW, heap_setCells_ne g hb]
theorem road_grow {tn : TypeId} (hu : P.underlying t = some (.slice e)) (htn : P.underlying tn = some (.int .i64)) (hei : TiOk P e ei) (hn : 0 < ei.size) (hg : w.heap[g]? = some (.cells cur e0 (0, 0))) (hcs : cur.size = cap * ei.size) (htk : cur.toList.take (m * ei.size) = olds)
    (hR : RowAt w ei.size (some ⟨g, 0, none⟩) m cap olds) (hO : OneAt w ei.size (some ⟨g, 0, none⟩) cap vb voff vs) (hvw : vb < w.heap.size) (hi : i < m) (hroom : cap < m + 1) :
    ∃ G W1, m + 1 ≤ G ∧ G ≤ maxLen ∧ (∀ ty k, k = ((m + 1 - i : Nat) : Int) → (Builtin.append_ #[t, tn] ty #[.slice (some ⟨g, 0, none⟩) i cap, .int .i64 k]).run P w = .ok (.slice (some ⟨w.heap.size, 0, none⟩) (m + 1) G) W1) ∧
    (∀ W : World, W.heap = W1.heap → ∀ ty dc, (Builtin.copy_ #[t, t] ty #[.slice (some ⟨w.heap.size, i * ei.size, none⟩) (m + 1 - i) dc, .slice (some ⟨vb, voff, none⟩) 1 vc]).run P W = .ok (goInt (Nat.min 1 (m + 1 - i))) (W.setCells w.heap.size (i * ei.size) vs)) ∧
    (∀ W : World, W.heap = (W1.setCells w.heap.size (i * ei.size) vs).heap → ∀ ty dc sc, (Builtin.copy_ #[t, t] ty #[.slice (some ⟨w.heap.size, (i + 1) * ei.size, none⟩) (m + 1 - (i + 1)) dc, .slice (some ⟨g, i * ei.size, none⟩) (m - i) sc]).run P W = .ok (goInt (Nat.min (m - i) (m + 1 - (i + 1)))) (W.setCells w.heap.size ((i + 1) * ei.size) (olds.drop (i * ei.size)))) ∧
    (∀ W : World, W.heap = (W1.setCells w.heap.size (i * ei.size) vs).heap → W.os = w.os → W.tape = w.tape → W.output = w.output → InsTo w ei.size i (some ⟨g, 0, none⟩) m cap olds vs (.returned (.slice (some ⟨w.heap.size, 0, none⟩) (m + 1) G)) (W.setCells w.heap.size ((i + 1) * ei.size) (olds.drop (i * ei.size)))) ∧
    W1.os = w.os ∧ W1.tape = w.tape ∧ W1.output = w.output := by
  obtain ⟨inf, z, hI, hsz, hby, hz, hzs, _⟩ := hei.info
  obtain ⟨k1, k2, k3, k4⟩ := goIdx (n := ei.size) hi
  have hlim := hR.lim
  have hle := hR.le
  have hgw : g < w.heap.size := Xk hg
  have hdl : (olds.drop (i * ei.size)).length = (m - i) * ei.size := by rw [List.length_drop, hR.len, k3]
  have htl : (olds.take (i * ei.size)).length = i * ei.size := by rw [List.length_take, hR.len]; omega
  have hmin : Nat.min (m - i) (m + 1 - (i + 1)) = m - i := by simp only [Nat.min_def]; split <;> omega
  have hmin1 : Nat.min 1 (m + 1 - i) = 1 := by simp only [Nat.min_def]; split <;> omega
  have hold : (Builtin.firstCells inf.size i (.slice (some ⟨g, 0, none⟩) i cap)).run P w.drew = .ok (olds.take (i * ei.size)).toArray w.drew := by
    refine run_firstCells_some w.drew inf.size i ⟨g, 0, none⟩ i cap _ (by rw [htl, hsz]) fun j u hj => ?_
    rw [List.getElem?_take] at hj
    split at hj
    · rw [← htk] at hj
      exact row_reads hg _ j u hj
    · cases hj
  have hik : i + (m + 1 - i) = m + 1 := by omega
  have hbytes : ((m + 1) + (m + 1) / 4 + 192) * inf.bytes ≤ 281474976710656 := Nat.le_trans (Nat.mul_le_mul (show _ ≤ 1342177472 by omega) hby) (by decide)
  have hkb : (m + 1 - i) * inf.bytes ≤ 281474976710656 := Nat.le_trans (Nat.mul_le_mul_right _ (by omega)) hbytes
  have hap : ∀ ty, (Builtin.append_ #[t, tn] ty #[.slice (some ⟨g, 0, none⟩) i cap, .int .i64 ((m + 1 - i : Nat) : Int)]).run P w = _ := fun ty =>
    Lib.run_append_grow_zeros w t tn ty e inf z .i64 .i64 hu htn hI hz (some ⟨g, 0, none⟩) i cap (olds.take (i * ei.size)) hold (m + 1 - i) (by omega) (by omega) (by omega) (by omega) hkb (by rw [hik]; exact growslice_fits_wide hroom hbytes)
  rw [hik] at hap
  obtain ⟨G, hG⟩ : ∃ G, G = grownCap w (m + 1) cap e := ⟨_, rfl⟩
  have hGn : m + 1 ≤ G := by rw [hG]; exact grownCap_ge w _ _ _
  have hGm : G ≤ maxLen := by rw [hG]; exact grownCap_le_maxLen w _ _ _ (by unfold maxLen; omega)
  rw [← hG] at hap
  obtain ⟨ROW, hROW⟩ : ∃ ROW : Array Value, ROW = (olds.take (i * ei.size)).toArray ++ Builtin.zeroCells z.cells (m + 1 - i) ++ Builtin.zeroCells z.cells (G - (m + 1)) := ⟨_, rfl⟩
  rw [← hROW] at hap
  have hRs : ROW.size = G * ei.size := by
    rw [hROW]
    simp only [Array.size_append, List.size_toArray, size_zeroCells, hzs, htl, ← Nat.add_mul]
    congr 1
    omega
  have hRt : ROW.toList.take (i * ei.size) = olds.take (i * ei.size) := by
    rw [hROW, Array.toList_append, Array.toList_append, List.append_assoc]
    show (olds.take (i * ei.size) ++ _).take _ = _
    rw [List.take_append_of_le_length (by rw [htl]; omega), List.take_of_length_le (by rw [htl]; omega)]
  have hGe : (m + 1) * ei.size ≤ G * ei.size := Nat.mul_le_mul_right _ hGn
  obtain ⟨W1, hW1⟩ : ∃ W1, W1 = w.drew.alloc (.cells ROW e) := ⟨_, rfl⟩
  rw [← hW1] at hap
  have hn1 : W1.heap[w.heap.size]? = some (.cells ROW e (0, 0)) := by rw [hW1]; exact heap_alloc_new w.drew _
  have ho1 : ∀ b, b < w.heap.size → W1.heap[b]? = w.heap[b]? := fun b hb => by rw [hW1]; exact heap_alloc_old w.drew _ hb
  have hs1 : W1.heap.size = w.heap.size + 1 := by rw [hW1]; simp
  have hfitA : i * ei.size + vs.length ≤ ROW.size := by rw [hO.len, hRs]; omega
  have hg2 := heap_setCells_of w.heap.size vs (i * ei.size) W1 hn1
  have hfitB : (i + 1) * ei.size + (olds.drop (i * ei.size)).length ≤ (putCells ROW (i * ei.size) vs).size := by rw [size_putCells, hdl, hRs]; omega
  refine ⟨G, W1, hGn, hGm, fun ty k hk => by subst hk; exact hap ty, fun W hW ty dc => ?_, fun W hW ty dc sc => ?_, fun W hW ho ht hu' => ?_, by rw [hW1]; rfl, by rw [hW1]; rfl, by rw [hW1]; rfl⟩
  · refine copy_run W t t ty e inf _ _ _ dc ⟨vb, voff, none⟩ _ vc _ hu hI (by rw [hmin1, hO.len, hsz, Nat.one_mul]) (fun j v hj => ?_) (hW ▸ hn1) hfitA hO.ones
    rw [Addr.add_lit, World.cell?_of_block (w := w) (by rw [hW]; exact ho1 _ hvw)]
    exact hO.cells j v hj
  · refine copy_run W t t ty e inf _ _ _ dc ⟨g, i * ei.size, none⟩ _ sc _ hu hI (by rw [hmin, hdl, hsz]) (fun j v hj => ?_) (hW ▸ hg2) hfitB fun v hv => hR.ones v (List.mem_of_mem_drop hv)
    have := olds_cell hg htk j v hj
    rw [Addr.add_lit] at this ⊢
    rw [World.cell?_of_block (w := w) (by rw [hW]; exact (heap_setCells_ne w.heap.size (show g ≠ w.heap.size by omega) _ _ _).trans (ho1 _ hgw))]
    exact this
  · obtain ⟨p1, p2, p3⟩ := heap_os_setCells w.heap.size (olds.drop (i * ei.size)) ((i + 1) * ei.size) W
    have hg3 := heap_setCells_of w.heap.size (olds.drop (i * ei.size)) ((i + 1) * ei.size) W (hW ▸ hg2)
    have hsz3 : (W.setCells w.heap.size ((i + 1) * ei.size) (olds.drop (i * ei.size))).heap.size = w.heap.size + 1 := by rw [size_setCells, hW, size_setCells, hs1]
    refine ⟨_, rfl, ⟨p1.trans ho, p2.trans ht, p3.trans hu', by omega, w.heap.size, G, _, e, rfl, hg3, by rw [size_putCells, size_putCells]; exact hRs, ?_, hGn, hGm, .inr ⟨Nat.le_refl _, by omega, fun b hb => ?_⟩⟩⟩
    · rw [putCells_list hfitB, putCells_list hfitA, hRt]
      have hl : (olds.take (i * ei.size) ++ vs).length = (i + 1) * ei.size := by rw [List.length_append, htl, hO.len]; omega
      rw [show ((olds.take (i * ei.size) ++ vs ++ ROW.toList.drop (i * ei.size + vs.length)).take ((i + 1) * ei.size)) = olds.take (i * ei.size) ++ vs from by rw [← hl, List.take_left]]
      have hl3 : (olds.take (i * ei.size) ++ vs ++ olds.drop (i * ei.size)).length = (m + 1) * ei.size := by
        rw [List.length_append, List.length_append, hdl, hO.len, htl, k3]; omega
      rw [← hl3, List.take_left]
    · rw [heap_setCells_ne _ (show b ≠ w.heap.size by omega), hW, heap_setCells_ne _ (show b ≠ w.heap.size by omega)]
      exact ho1 b hb
theorem road_del {z1 : Nat} {z2 : List C} {z3 : List LK} {tt : List (Nat × TI)} (htt : ttOk P tt = true) (g1 : get tt t = some ⟨.sli e, z1, z2, z3⟩) (g2 : get tt e = some ei) (hn : 0 < ei.size) (hg : w.heap[g]? = some (.cells cur e0 (0, 0))) (hcs : cur.size = cap * ei.size) (htk : cur.toList.take (m * ei.size) = olds)
    (hR : RowAt w ei.size (some ⟨g, 0, none⟩) m cap olds) (hi : i < m) :
    ∃ W1, (∀ ty ad, (cap = i + 1 ∨ ad = ⟨g, (i + 1) * ei.size, none⟩) → (Builtin.append_ #[t, t] ty #[.slice (some ⟨g, 0, none⟩) i cap, .slice (some ad) (m - (i + 1)) (cap - (i + 1))]).run P w = .ok (.slice (some ⟨g, 0, none⟩) (m - 1) cap) W1) ∧ W1.os = w.os ∧ W1.tape = w.tape ∧ W1.output = w.output ∧
    ∀ W : World, W.heap = W1.heap → W.os = w.os → W.tape = w.tape → W.output = w.output → ∃ W2 : World, (∀ ty, (Builtin.clear_ #[t] ty #[.slice (some ⟨g, (m - 1) * ei.size, none⟩) (m - (m - 1)) (cap - (m - 1))]).run P W = .ok (.tuple #[]) W2) ∧
      ∀ W3 : World, W3.heap = W2.heap → W3.os = W2.os → W3.tape = W2.tape → W3.output = W2.output → DelTo w ei.size i (some ⟨g, 0, none⟩) m cap olds (.returned (.slice (some ⟨g, 0, none⟩) (m - 1) cap)) W3 := by
  have hei := Y3 htt g2
  have hu := (Y3 htt g1).sli
  obtain ⟨inf, z, hI, hsz, hby, hz, hzs, _⟩ := hei.info
  obtain ⟨k1, k2, k3, k4⟩ := goIdx (n := ei.size) hi
  have hle := hR.le
  have hlim := hR.lim
  have k6 : m * ei.size ≤ cap * ei.size := Nat.mul_le_mul_right _ hle
  have k7 : (m - 1) * ei.size = m * ei.size - ei.size := by rw [Nat.sub_mul, Nat.one_mul]
  have k8 : (m - (i + 1)) * ei.size = m * ei.size - (i + 1) * ei.size := Nat.sub_mul ..
  have hdl : (olds.drop ((i + 1) * ei.size)).length = (m - (i + 1)) * ei.size := by rw [List.length_drop, hR.len, k8]
  have hfit : i * ei.size + (olds.drop ((i + 1) * ei.size)).length ≤ cur.size := by rw [hdl, hcs]; omega
  have hg1 := heap_setCells_of g (olds.drop ((i + 1) * ei.size)) (i * ei.size) w hg
  have hcs1 : (putCells cur (i * ei.size) (olds.drop ((i + 1) * ei.size))).size = cap * ei.size := by rw [size_putCells]; exact hcs
  obtain ⟨q1, q2, q3⟩ := heap_os_setCells g (olds.drop ((i + 1) * ei.size)) (i * ei.size) w
  have hlist : (putCells cur (i * ei.size) (olds.drop ((i + 1) * ei.size))).toList.take ((m - 1) * ei.size) = olds.take (i * ei.size) ++ olds.drop ((i + 1) * ei.size) := by
    have hci : cur.toList.take (i * ei.size) = olds.take (i * ei.size) := by
      rw [← htk, List.take_take]; congr 1; omega
    have hl : (olds.take (i * ei.size) ++ olds.drop ((i + 1) * ei.size)).length = (m - 1) * ei.size := by
      rw [List.length_append, hdl, List.length_take, hR.len]; omega
    rw [putCells_list hfit, hci, ← hl, List.take_left]
  refine ⟨w.setCells g (i * ei.size) (olds.drop ((i + 1) * ei.size)), fun ty ad had => ?_, q1, q2, q3, fun W hW ho ht hu' => ?_⟩
  · have hs : Src P inf.size t (.slice (some ad) (m - (i + 1)) (cap - (i + 1))) (m - (i + 1)) (olds.drop ((i + 1) * ei.size)) w := by
      refine Src.ofSlice w hu _ _ _ _ (by rw [hdl, hsz]) (fun j u hj => ?_) fun u hu => hR.ones u (List.mem_of_mem_drop hu)
      rcases had with had | rfl
      · have : (olds.drop ((i + 1) * ei.size)).length = 0 := by rw [hdl, show m - (i + 1) = 0 by omega, Nat.zero_mul]
        rw [List.length_eq_zero_iff.1 this] at hj
        simp at hj
      · exact olds_cell hg htk j u hj
    have hr := run_append_room_src (P := P) w t t ty e inf hu hI g 0 i cap _ _ _ hs (by omega) (fun j hj => by
      rw [hsz]
      have : 0 + i * ei.size + j < cur.size := by omega
      simp only [World.cell?, hg, Array.getElem?_eq_getElem this]; rfl) (fun j hj => by simp [World.frozen?, hg])
    rw [hsz, Nat.zero_add, show i + (m - (i + 1)) = m - 1 by omega] at hr
    exact hr
  · obtain ⟨zs, ps, hzl, hpl, hzv, hrun⟩ := clear_run (P := P) (w := W) (m := m) (i := m - 1) htt g1 g2 rfl (hW ▸ hg1) hcs1 (by omega) hle 0
    refine ⟨_, fun ty => hrun, fun W3 h3 o3 t3 u3 => ?_⟩
    have hgw := setRow_heap W g _ ((putCells cur (i * ei.size) (olds.drop ((i + 1) * ei.size))).toList.take ((m - 1) * ei.size) ++ (List.replicate (m - (m - 1)) zs).flatten ++ (putCells cur (i * ei.size) (olds.drop ((i + 1) * ei.size))).toList.drop ((m - 1) * ei.size + (m - (m - 1)) * ei.size)).toArray e0 (0, 0) (hW ▸ hg1)
    rw [← h3] at hgw
    have hfl : ((List.replicate (m - (m - 1)) zs).flatten).length = (m - (m - 1)) * ei.size := by
      rw [List.length_flatten, List.map_replicate, hzl]; simp
    have h5 : (m - (m - 1)) * ei.size = ei.size := by rw [show m - (m - 1) = 1 by omega, Nat.one_mul]
    refine ⟨_, rfl, ⟨o3.trans ho, t3.trans ht, u3.trans hu', ?_, g, cap, _, e0, rfl, hgw, ?_, ?_, by omega, hR.cap, .inl ⟨rfl, by omega, fun b hb => ?_⟩⟩⟩
    · rw [h3]; simp only [World.setRow, Array.size_modify]; rw [hW, size_setCells]; exact Nat.le_refl _
    · simp only [List.size_toArray, List.length_append, hfl, List.length_take, List.length_drop, Array.length_toList, hcs1]
      omega
    · show ((_ : List Value) ++ _ ++ _).take _ = _
      have hl : ((putCells cur (i * ei.size) (olds.drop ((i + 1) * ei.size))).toList.take ((m - 1) * ei.size)).length = (m - 1) * ei.size := by
        rw [List.length_take, Array.length_toList, hcs1]; omega
      rw [List.append_assoc, List.take_append_of_le_length (by rw [hl]; omega), List.take_of_length_le (by rw [hl]; omega), hlist]
    · rw [h3, setRow_other W g b _ hb, hW, heap_setCells_ne g hb]
def insAt {α : Type} (l : List α) (j : Nat) (y : α) : List α := l.take j ++ [y] ++ l.drop j
def delAt {α : Type} (l : List α) (j : Nat) : List α := l.take j ++ l.drop (j + 1)
theorem atake_insT {α : Type} [GoE α] {f n : Nat} (hok : FnOk P f) (h0 : 0 < n)
    (hrun : ∀ w oa m cap olds i vb voff vc vs, RowAt w n oa m cap olds → OneAt w n oa cap vb voff vs → i ≤ m → Calls P f #[.slice oa m cap, .int .i64 (i : Int), .slice (some ⟨vb, voff, none⟩) 1 vc] w (InsTo w n i oa m cap olds vs))
    (l : List α) (y : α) {i : Int} (hi : 0 ≤ i) (hj : i ≤ l.length) (hl : l.length < 1073741824) : ATake P f n (eL l) [.one (.int .i64 i), .one (.slc .sh n (eL [y]))] true false (eL (insAt l i.toNat y)) := by
  have h := atake_ins hok h0 hrun (l := eL l) (x := GoE.enc y) (i := i) (j := i.toNat) (by omega) (by simp [eL]; omega) (by simpa [eL] using hl)
  rw [show eL (insAt l i.toNat y) = (eL l).take i.toNat ++ [GoE.enc y] ++ (eL l).drop i.toNat by simp [insAt, eL, List.map_take, List.map_drop]]
  exact h
theorem atake_delT {α : Type} [GoE α] {f n : Nat} (hok : FnOk P f)
    (hrun : ∀ w oa m cap olds i, RowAt w n oa m cap olds → i < m → Calls P f #[.slice oa m cap, .int .i64 (i : Int), .int .i64 ((i : Int) + 1)] w (DelTo w n i oa m cap olds))
    (l : List α) {i k : Int} (hi : 0 ≤ i) (hk : k = i + 1) (hj : i < l.length) (hl : l.length < 1073741824) : ATake P f n (eL l) [.one (.int .i64 i), .one (.int .i64 k)] true false (eL (delAt l i.toNat)) := by
  have h := atake_del hok hrun (l := eL l) (i := i) (k := k) (j := i.toNat) (by omega) (by omega) (by simp [eL]; omega) (by simpa [eL] using hl)
  rw [show eL (delAt l i.toNat) = (eL l).take i.toNat ++ (eL l).drop (i.toNat + 1) by simp [delAt, eL, List.map_take, List.map_drop]]
  exact h
end
end Go.Proofs.YtcnkkobgogmakaaGreat
namespace Go.Proofs.YtcnkkobgogmakaaGreat
open Go.RowKit
theorem atake_flat {P : Program} {f n : Nat} {l l' : List (List PV)} {args : List AV} (h : ATake P f n l args true false l') (hf : RowsLike l') : ATake P f n l args false false l' := by
  refine ⟨h.1, fun w F G L v vals hok hFG _ hGs hnd hLG hrow hargs => ?_⟩
  refine (h.2 w G G L v vals hok (fun _ h => h) (fun _ _ h => h) hGs hnd hLG (OwnTop.keep hrow (fun b hb => ⟨hFG b hb, rfl⟩) fun _ _ => rfl) hargs).mono ?_
  rintro e w' ⟨u, rfl, h1, h2, L', h3, h4, h5⟩
  refine ⟨u, rfl, h1, h2, L', h3, h4, ?_⟩
  rcases h5 with h5 | ⟨g, cap, cur, e, rfl, rfl, hg, hs, hr, h5, h6⟩
  · exact .inl h5
  · exact .inr ⟨g, cap, cur, e, rfl, rfl, hg, hs, OR.vr (VR.orr (w' := w') hr hf) fun b hb => (by simp at hb), h5, h6⟩
theorem rng_lc {n : Nat} {hi : Int} (h0 : 0 ≤ hi) (h1 : hi ≤ (n : Int)) : (0 : Int) ≤ 0 ∧ 0 ≤ hi ∧ hi ≤ (n : Int) := ⟨Int.le_refl _, h0, h1⟩
section
variable {α : Type} {p : α → Bool}
def ixF (p : α → Bool) : List α → Int
  | [] => -1
  | a :: l => bif p a then 0 else bif ixF p l == -1 then -1 else ixF p l + 1
theorem ixF_bd (p : α → Bool) : ∀ l : List α, -1 ≤ ixF p l ∧ ixF p l < l.length
  | [] => by simp [ixF]
  | a :: l => by
    have ih := ixF_bd p l
    simp only [ixF, List.length_cons]
    cases p a with
    | true => simp only [cond_true]; omega
    | false =>
      simp only [cond_false]
      cases h : (ixF p l == -1) with
      | true => simp only [cond_true]; omega
      | false => simp only [cond_false]; omega
theorem idx_go {f : Nat → α → Unit → Rd Int Unit Unit} {e : Nat → Unit → Unit} (hf : ∀ k a s, f k a s = bif p a then .ret ((k : Nat) : Int) else .next ()) : ∀ (l : List α) (k : Nat), Xg f e l k () = bif ixF p l == -1 then .brk () else .ret ((k : Int) + ixF p l)
  | [], k => rfl
  | a :: l, k => by
    simp only [Xg, hf, ixF]
    cases p a with
    | true => simp only [cond_true]; rw [show ((0 : Int) == -1) = false from rfl, cond_false, Int.add_zero]
    | false =>
      simp only [cond_false]
      rw [idx_go hf l (k + 1)]
      have hb := ixF_bd p l
      cases h : (ixF p l == -1) with
      | true => simp only [cond_true]; rfl
      | false =>
        have hne : ixF p l ≠ -1 := by simpa using h
        simp only [cond_false]
        rw [show (ixF p l + 1 == -1) = false by simp; omega, cond_false]
        congr 1; omega
theorem idx_eq {f : Nat → α → Unit → Rd Int Unit Unit} {e : Nat → Unit → Unit} (hf : ∀ k a s, f k a s = bif p a then .ret ((k : Nat) : Int) else .next ()) (l : List α) : Out.on (Xg f e l 0 ()) (fun _ => -1) = ixF p l := by
  rw [idx_go hf]
  cases h : (ixF p l == -1) with
  | true => simp only [cond_true, Out.on]; exact (by simpa using h : ixF p l = -1).symm
  | false => simp only [cond_false, Out.on]; omega
theorem ixF_none {l : List α} (h : ixF p l = -1) : ∀ a, a ∈ l → p a = false := by
  induction l with
  | nil => intro a ha; simp at ha
  | cons b l ih =>
    intro a ha
    have hb := ixF_bd p l
    simp only [ixF] at h
    cases hp : p b with
    | true => rw [hp] at h; simp at h
    | false =>
      rw [hp] at h
      simp only [cond_false] at h
      cases h2 : (ixF p l == -1) with
      | true => rcases List.mem_cons.1 ha with rfl | ha
                · exact hp
                · exact ih (by simpa using h2) a ha
      | false => rw [h2] at h; simp only [cond_false] at h; omega
theorem ixF_some {l : List α} {i : Nat} (h : ixF p l = (i : Int)) : (l.take i).filter (fun a => !p a) = l.take i ∧ ∃ a, l[i]? = some a ∧ p a = true := by
  induction l generalizing i with
  | nil => simp [ixF] at h
  | cons b l ih =>
    have hb := ixF_bd p l
    simp only [ixF] at h
    cases hp : p b with
    | true =>
      rw [hp] at h
      simp only [cond_true] at h
      obtain rfl : i = 0 := by omega
      exact ⟨rfl, b, rfl, hp⟩
    | false =>
      rw [hp] at h
      simp only [cond_false] at h
      cases h2 : (ixF p l == -1) with
      | true => rw [h2] at h; simp only [cond_true] at h; omega
      | false =>
        rw [h2] at h
        simp only [cond_false] at h
        have : ixF p l ≠ -1 := by simpa using h2
        obtain ⟨j, rfl⟩ : ∃ j, i = j + 1 := ⟨i - 1, by omega⟩
        obtain ⟨h3, a, h4, h5⟩ := ih (i := j) (by omega)
        exact ⟨by simp [hp, h3], a, by simpa using h4, h5⟩
theorem whl_more {R S T : Type} {f : S → Rd R S T} : ∀ {n m : Nat} {s : S} {x : Out R T}, whl f n s = some x → n ≤ m → whl f m s = some x
  | 0, _, _, _, h, _ => by simp [whl] at h
  | n + 1, 0, _, _, _, hm => absurd hm (Nat.not_succ_le_zero n)
  | n + 1, m + 1, s, x, h, hm => by
    simp only [whl] at h ⊢
    cases hf : f s with
    | brk t => rw [hf] at h; exact h
    | ret r => rw [hf] at h; exact h
    | next s' => rw [hf] at h; exact whl_more h (by omega)
variable [Inhabited α]
def DelStep {R : Type} (f : List α × Int × Int → Rd R (List α × Int × Int) (List α × Int)) (p : α → Bool) : Prop :=
  ∀ (s : List α) (i j : Nat), i < j → j ≤ 1073741824 → f (s, (i : Int), (j : Int)) = bif decide ((j : Int) < (s.length : Int)) then (bif p (nth s j) then .next (s, (i : Int), ((j + 1 : Nat) : Int)) else .next (s.set i (nth s j), ((i + 1 : Nat) : Int), ((j + 1 : Nat) : Int))) else .brk (s, (i : Int))
theorem del_run {R : Type} {f : List α × Int × Int → Rd R (List α × Int × Int) (List α × Int)} (hf : DelStep f p) (o : List α) (ho : o.length ≤ 1073741824) : ∀ (n : Nat) (s : List α) (i j : Nat), j + n = o.length → i < j → s.length = o.length → s.take i = (o.take j).filter (fun a => !p a) → s.drop j = o.drop j →
    ∃ s' i', whl f (n + 1) (s, (i : Int), (j : Int)) = some (.brk (s', ((i' : Nat) : Int))) ∧ s'.take i' = o.filter (fun a => !p a) ∧ i' < o.length ∧ s'.length = o.length
  | 0, s, i, j, hn, hij, hl, ht, hd => by
    refine ⟨s, i, ?_, ?_, by omega, hl⟩
    · simp only [whl, hf s i j hij (by omega)]
      rw [decide_eq_false (by omega)]
      rfl
    · rw [ht, List.take_of_length_le (by omega)]
  | n + 1, s, i, j, hn, hij, hl, ht, hd => by
    have hj : j < s.length := by omega
    have hjo : j < o.length := by omega
    have hx : nth s j = o[j] := by
      have h1 : s[j]? = o[j]? := by
        have := congrArg (fun l => l[0]?) hd
        simpa [List.getElem?_drop] using this
      rw [List.getElem?_eq_getElem hjo] at h1
      simp [nth, List.getD, h1]
    have htj : o.take (j + 1) = o.take j ++ [o[j]] := by rw [List.take_add_one, List.getElem?_eq_getElem hjo]; rfl
    have hd1 : ∀ s2 : List α, s2.drop (j + 1) = s.drop (j + 1) → s2.drop (j + 1) = o.drop (j + 1) := fun s2 h2 => by
      have := congrArg (List.drop 1) hd
      rw [List.drop_drop, List.drop_drop] at this
      exact h2.trans this
    have hst : f (s, (i : Int), (j : Int)) = _ := hf s i j hij (by omega)
    rw [decide_eq_true (by omega), hx] at hst
    simp only [cond_true] at hst
    cases hp : p o[j] with
    | true =>
      rw [hp] at hst
      simp only [whl, hst, cond_true]
      exact del_run hf o ho n s i (j + 1) (by omega) (by omega) hl (by rw [ht, htj, List.filter_append]; simp [hp]) (hd1 s rfl)
    | false =>
      rw [hp] at hst
      simp only [whl, hst, cond_false]
      refine del_run hf o ho n (s.set i o[j]) (i + 1) (j + 1) (by omega) (by omega) (by simpa using hl) ?_ (hd1 _ (List.drop_set_of_lt (by omega)))
      rw [htj, List.filter_append, ← ht]
      rw [List.take_add_one, List.take_set_of_le (Nat.le_refl i), List.getElem?_set_self (by omega)]
      simp [hp]
theorem del_main {R : Type} {f : List α × Int × Int → Rd R (List α × Int × Int) (List α × Int)} (hf : DelStep f p) {o : List α} (ho : o.length ≤ 1073741824) {ix : Int} (hix : ix = ixF p o) (hne : ix ≠ -1) :
    ∃ s' i', whl f (o.length + 1) (o, ix, ix + 1) = some (.brk (s', ((i' : Nat) : Int))) ∧ s'.take i' = o.filter (fun a => !p a) ∧ i' < o.length ∧ s'.length = o.length := by
  have hb := ixF_bd p o
  obtain ⟨i, hi⟩ : ∃ i : Nat, ix = (i : Int) := ⟨ix.toNat, by omega⟩
  obtain ⟨h1, a, h2, h3⟩ := ixF_some (p := p) (l := o) (i := i) (by omega)
  have hio : i < o.length := by omega
  obtain ⟨s', i', h4, h5⟩ := del_run hf o ho (o.length - (i + 1)) o i (i + 1) (by omega) (by omega) rfl (by
    rw [List.take_add_one, h2, List.filter_append, h1]; simp [h3]) rfl
  refine ⟨s', i', ?_, h5⟩
  subst hi
  exact whl_more h4 (by omega)
theorem del_some {R : Type} {f : List α × Int × Int → Rd R (List α × Int × Int) (List α × Int)} (hf : DelStep f p) {o : List α} (ho : o.length ≤ 1073741824) {ix : Int} (hix : ix = ixF p o) (hne : ix ≠ -1) : (whl f (o.length + 1) (o, ix, ix + 1)).isSome = true := by
  obtain ⟨s', i', h, _⟩ := del_main hf ho hix hne
  rw [h]; rfl
theorem del_eq {f : List α × Int × Int → Rd (List α) (List α × Int × Int) (List α × Int)} (hf : DelStep f p) {o : List α} (ho : o.length ≤ 1073741824) {ix : Int} (hix : ix = ixF p o) :
    (bif (ix == (-1 : Int)) then o else Out.on (whlD f (o.length + 1) (o, ix, ix + 1)) (fun y => List.take (Int.toNat y.2) y.1)) = o.filter (fun a => !p a) := by
  cases h : (ix == (-1 : Int)) with
  | true =>
    have h : ix = -1 := by simpa using h
    simp only [cond_true]
    exact (List.filter_eq_self.2 fun a ha => by simp [ixF_none (hix ▸ h) a ha]).symm
  | false =>
    obtain ⟨s', i', h1, h2, _⟩ := del_main hf ho hix (by simpa using h)
    simp only [cond_false, whlD, h1]
    simpa [Out.on] using h2
end
end Go.Proofs.YtcnkkobgogmakaaGreat
namespace Go.Proofs.YtcnkkobgogmakaaGreat
open Go.RowKit
theorem sortedOnce_p (l : List ByteArray) : ACalls Tryz.prog 254 [.h l] (.h (putAllS [] l)) := by
  have h := implsortedOnce_a l
  rw [show implsortedOnce l = putAllS [] l from once_put l] at h
  exact h
open GoE (enc wide)
set_option maxRecDepth 100000 in
set_option maxHeartbeats 4000000 in
theorem insAttr_run (w : World) (oa : Option Addr) (m cap : Nat) (olds : List Value) (i vb voff vc : Nat) (vs : List Value) (hR : RowAt w 4 oa m cap olds) (hO : OneAt w 4 oa cap vb voff vs) (hi : i ≤ m) : Calls Tryz.prog 231 #[.slice oa m cap, .int .i64 (i : Int), .slice (some ⟨vb, voff, none⟩) 1 vc] w (InsTo w 4 i oa m cap olds vs) := by
  have hei := Y3 Qc (t := 77) rfl
  have hu := (Y3 Qc (t := 38) rfl).sli
  have hui := run_underlying (P := Tryz.prog) hu
  have hsz : ∀ w, (Go.sizeOf 77).run Tryz.prog w = .ok 4 w := fun w => sizeOf_run (Y3 Qc (t := 77) rfl) w
  have hlim := hR.lim
  have hle := hR.le
  have hcm : cap ≤ 9223372036854775807 := by have := hR.cap; unfold maxLen at this; omega
  have mixed := Z4
  have hz1 : ¬ ((1 : Int) = 0) := by omega
  by_cases him : i = m
  · subst him
    obtain ⟨u, w', hrun, u', h1, hT⟩ := road_end (vc := vc) hu hei (by decide) hR hO
    cases h1
    have hc : Calls Tryz.prog 231 #[.slice oa i cap, .int .i64 (i : Int), .slice (some ⟨vb, voff, none⟩) 1 vc] w (fun e w2 => e = .returned u ∧ w2 = w') := by
      clear hT hR hO hei
      go_enter Tryz.func231, Tryz.ntmps231
      cases oa with
      | none =>
        go_wp2_with (at_builtin; refine Lib.wpList_append_run _ rfl _ _ _ _ rfl _ _ rfl rfl _ _ (hrun _) ?_)
        all_goals (go_ret; exact ⟨rfl, rfl⟩)
      | some a =>
        obtain ⟨ab, ao, asp⟩ := a
        go_wp2_with (at_builtin; refine Lib.wpList_append_run _ rfl _ _ _ _ rfl _ _ rfl rfl _ _ (hrun _) ?_)
        all_goals (go_ret; exact ⟨rfl, rfl⟩)
    exact hc.mono (by rintro e w2 ⟨rfl, rfl⟩; exact ⟨_, rfl, hT⟩)
  · rcases hR.row with ⟨_, h0, _⟩ | ⟨g, cur, e0, rfl, hg, hcs, htk⟩
    · omega
    have him2 : i < m := by omega
    have hz2 : ¬ ((i : Int) = (m : Int)) := by omega
    have hw1 : IntKind.i64.wrap ((m : Int) + 1) = (m : Int) + 1 := by rw [IntKind.wrap_i64]; omega
    have hw2 : IntKind.i64.wrap ((i : Int) + 1) = (i : Int) + 1 := by rw [IntKind.wrap_i64]; omega
    have htn : ((i : Int) + 1).toNat = i + 1 := by omega
    have htm : ((m : Int) + 1).toNat = m + 1 := by omega
    have hb1 : (0 : Int) ≤ (i : Int) + 1 := by omega
    have hb3 : (i : Int) ≤ (m : Int) + 1 := by omega
    have hbm : (0 : Int) ≤ (m : Int) + 1 := by omega
    have hin : i ≤ m := hi
    obtain ⟨hvw, arrA, tA, frA, hA, hposA⟩ := hO.block (by decide)
    have hcp : 0 < cap := by omega
    have hvg : vb ≠ g := hO.ne g rfl hcp
    have hov : ∀ o lb cb, (callFunc 261 #[.slice (some ⟨vb, voff, none⟩) 1 vc, .slice (some ⟨g, o, none⟩) lb cb]).run Tryz.prog w = .ok (.value (.bool false)) w := fun o lb cb => by
      rw [run_callFunc_extern Tryz.func261 (by kernel_rfl) (by kernel_rfl) (by kernel_rfl) (e := Extern.SlicesOverlaps.overlaps #[38, 38] #[4]) (by kernel_rfl), overlaps_run w 38 4 77 hu 4 hsz ⟨vb, voff, none⟩ ⟨g, o, none⟩ 1 vc lb cb hvg hA hg (by omega) hposA]
      rfl
    by_cases hroom : m + 1 ≤ cap
    · obtain ⟨q1, q2, q3⟩ := road_room (vc := vc) (w := w) hu hei (by decide) hg hcs htk hR hO him2 hroom
      have hb2 : ¬ (cap = i + 1) := by omega
      have hb4 : ¬ (cap = i) := by omega
      have hng : ¬ ((cap : Int) < (m : Int) + 1) := by omega
      have hmc : ((m : Int) + 1) ≤ (cap : Int) := by omega
      have hc : Calls Tryz.prog 231 #[.slice (some ⟨g, 0, none⟩) m cap, .int .i64 (i : Int), .slice (some ⟨vb, voff, none⟩) 1 vc] w (fun e w2 => e = .returned (.slice (some ⟨g, 0, none⟩) (m + 1) cap) ∧ w2 = (w.drew.setCells g ((i + 1) * 4) (olds.drop (i * 4))).setCells g (i * 4) vs) := by
        obtain ⟨q4, q5, q6⟩ := road_room (vc := vc) (w := w.drew) hu hei (by decide) hg hcs htk ⟨hR.len, hR.row, hR.le, hR.cap, hR.lim, hR.ones⟩ ⟨hO.len, hO.cells, hO.ones, hO.ne⟩ him2 hroom
        clear hR hO hei q1 q2 q3 q6 hg hA hcs htk
        go_enter Tryz.func231, Tryz.ntmps231
        go_wp2_with (simp only [hov])
        go_region_law (refine step_copy_rn rfl _ _ 38 38 rfl (.slice (some ⟨g, (i + 1) * 4, none⟩) (m + 1 - (i + 1)) (cap - (i + 1))) (.slice (some ⟨g, i * 4, none⟩) (m + 1 - i) (cap - i)) (by simp [Act.eval, Act.put]) (by simp [Act.eval, Act.put]) (q4 _ _ _) ?_)
        go_wp2_with (at_builtin; refine wpList_copy_rn rfl _ _ 38 38 rfl (.slice (some ⟨g, i * 4, none⟩) (m + 1 - i) (cap - i)) _ (by simp [Act.eval, Act.put]) rfl (q5 _ rfl _ _) ?_)
        go_ret
        exact ⟨rfl, rfl⟩
      refine hc.mono ?_
      rintro e w2 ⟨rfl, rfl⟩
      obtain ⟨p1, p2, p3⟩ := heap_os_setCells g (olds.drop (i * 4)) ((i + 1) * 4) w.drew
      exact q3 _ (heap_drew_setCells g _ _ w) p1 p2 p3
    · obtain ⟨G, W1, hG1, hG2, qa, qb, qc, qd, o1, o2, o3⟩ := road_grow (vc := vc) (tn := 3) hu (by kernel_rfl) hei (by decide) hg hcs htk hR hO hvw him2 (by omega)
      have hG63 : G ≤ 9223372036854775807 := by unfold maxLen at hG2; omega
      have hGi : ¬ (G = i) := by omega
      have hGim : ¬ (G = i + 1) := by omega
      have hci : ¬ (cap = i) := by omega
      have hlt : (cap : Int) < (m : Int) + 1 := by omega
      have hw3 : IntKind.i64.wrap ((m : Int) + 1 - (i : Int)) = (m : Int) + 1 - (i : Int) := by rw [IntKind.wrap_i64]; omega
      have hii : (i : Int) ≤ (m : Int) := by omega
      have hqa : ∀ ty, (Builtin.append_ #[38, 3] ty #[.slice (some ⟨g, 0, none⟩) i cap, .int .i64 ((m : Int) + 1 - (i : Int))]).run Tryz.prog w = .ok (.slice (some ⟨w.heap.size, 0, none⟩) (m + 1) G) W1 := fun ty => qa ty _ (by omega)
      have hqb := qb W1 rfl
      have hqc := qc (W1.setCells w.heap.size (i * 4) vs).drew rfl
      have hc : Calls Tryz.prog 231 #[.slice (some ⟨g, 0, none⟩) m cap, .int .i64 (i : Int), .slice (some ⟨vb, voff, none⟩) 1 vc] w (fun e w2 => e = .returned (.slice (some ⟨w.heap.size, 0, none⟩) (m + 1) G) ∧ w2 = (W1.setCells w.heap.size (i * 4) vs).drew.setCells w.heap.size ((i + 1) * 4) (olds.drop (i * 4))) := by
        clear hR hO hei qa qb qc qd hg hA hcs htk hov hG1 hG2
        go_enter Tryz.func231, Tryz.ntmps231
        go_wp2_with (first
          | (at_builtin; refine Lib.wpList_append_run _ rfl _ _ _ _ rfl _ _ rfl rfl _ _ (hqa _) ?_)
          | (at_builtin; refine wpList_copy_rn rfl _ _ 38 38 rfl (.slice (some ⟨w.heap.size, i * 4, none⟩) (m + 1 - i) (G - i)) _ (by simp [Act.eval, Act.put]) rfl (hqb _ _) ?_))
        go_region_law (refine step_copy_rn rfl _ _ 38 38 rfl (.slice (some ⟨w.heap.size, (i + 1) * 4, none⟩) (m + 1 - (i + 1)) (G - (i + 1))) (.slice (some ⟨g, i * 4, none⟩) (m - i) (cap - i)) (by simp [Act.eval, Act.put]) (by simp [Act.eval, Act.put]) (hqc _ _ _) ?_)
        go_wp2
        go_ret
        exact ⟨rfl, rfl⟩
      refine hc.mono ?_
      rintro e w2 ⟨rfl, rfl⟩
      obtain ⟨p1, p2, p3⟩ := heap_os_setCells w.heap.size vs (i * 4) W1
      exact qd _ rfl (p1.trans o1) (p2.trans o2) (p3.trans o3)
theorem insAttr_a (l : List Zk) (y : Zk) {i : Int} (hi : 0 ≤ i) (hj : i ≤ l.length) (hl : l.length < 1073741824) : ATake Tryz.prog 231 4 (eL l) [.one (.int .i64 i), .one (.slc .sh 4 (eL [y]))] true false (eL (insAt l i.toNat y)) :=
 atake_insT (by unfold FnOk; kernel_rfl) (by decide) (fun w oa m cap olds i vb voff vc vs => insAttr_run w oa m cap olds i vb voff vc vs) l y hi hj hl
set_option maxRecDepth 100000 in
set_option maxHeartbeats 4000000 in
theorem delAttr_run (w : World) (oa : Option Addr) (m cap : Nat) (olds : List Value) (i : Nat) (hR : RowAt w 4 oa m cap olds) (hi : i < m) : Calls Tryz.prog 131 #[.slice oa m cap, .int .i64 (i : Int), .int .i64 ((i : Int) + 1)] w (DelTo w 4 i oa m cap olds) := by
  have hu := (Y3 Qc (t := 38) rfl).sli
  have hui := run_underlying (P := Tryz.prog) hu
  have hsz : ∀ w, (Go.sizeOf 77).run Tryz.prog w = .ok 4 w := fun w => sizeOf_run (Y3 Qc (t := 77) rfl) w
  have hlim := hR.lim
  have hle := hR.le
  have hcm : cap ≤ 9223372036854775807 := by have := hR.cap; unfold maxLen at this; omega
  have mixed := Z4
  rcases hR.row with ⟨_, h0, _⟩ | ⟨g, cur, e0, rfl, hg, hcs, htk⟩
  · omega
  obtain ⟨W1, qa, o1, o2, o3, qw⟩ := road_del (w := w.drew) Qc (t := 38) (e := 77) rfl rfl (by decide) hg hcs htk ⟨hR.len, hR.row, hR.le, hR.cap, hR.lim, hR.ones⟩ hi
  obtain ⟨W2, hcl, qd⟩ := qw W1 rfl o1 o2 o3
  have hd : DelTo w 4 i (some ⟨g, 0, none⟩) m cap olds (.returned (.slice (some ⟨g, 0, none⟩) (m - 1) cap)) W2 := by
    obtain ⟨u, h1, h2⟩ := qd W2 rfl rfl rfl rfl
    exact ⟨u, h1, ⟨h2.os, h2.tape, h2.output, h2.size, h2.row⟩⟩
  have hz2 : ¬ ((i : Int) = (i : Int) + 1) := by omega
  have htn : ((i : Int) + 1).toNat = i + 1 := by omega
  have hb1 : (0 : Int) ≤ (i : Int) + 1 := by omega
  have hb2 : (i : Int) ≤ (i : Int) + 1 := by omega
  have hb3 : (i : Int) + 1 ≤ (m : Int) := by omega
  have hb4 : (i : Int) ≤ (cap : Int) := by omega
  have hb5 : (i : Int) + 1 ≤ (cap : Int) := by omega
  have hb6 : (m : Int) ≤ (cap : Int) := by omega
  have hm1 : ((m - 1 : Nat) : Int) = (m : Int) - 1 := by omega
  have hb7 : m - 1 ≤ m := by omega
  have hb8 : ((m - 1 : Nat) : Int) ≤ (m : Int) := by omega
  have hic : ¬ (cap = i) := by omega
  have hcm1 : ¬ (cap = m - 1) := by omega
  have hc : Calls Tryz.prog 131 #[.slice (some ⟨g, 0, none⟩) m cap, .int .i64 (i : Int), .int .i64 ((i : Int) + 1)] w (fun e w2 => e = .returned (.slice (some ⟨g, 0, none⟩) (m - 1) cap) ∧ w2 = W2) := by
    by_cases hc1 : cap = i + 1
    · have hqa : ∀ ty, _ := fun ty => qa ty ⟨g, 0, none⟩ (.inl hc1)
      clear hR hg hcs htk qa qw qd hd hm1
      subst hc1
      go_enter Tryz.func131, Tryz.ntmps131
      go_wp2_with fail
      go_region_law (refine step_append_rn rfl _ _ 38 38 rfl (.slice (some ⟨g, 0, none⟩) i (i + 1)) (.slice (some ⟨g, 0, none⟩) (m - (i + 1)) (i + 1 - (i + 1))) (by simp [Act.eval, Act.put]) (by first | (simp [Act.eval, Act.put]; done) | (simp [Act.eval, Act.put]; omega)) (hqa _) ?_)
      go_wp2
      go_ret
      exact ⟨rfl, rfl⟩
    · have hqa : ∀ ty, _ := fun ty => qa ty ⟨g, (i + 1) * 4, none⟩ (.inr rfl)
      clear hR hg hcs htk qa qw qd hd hm1
      go_enter Tryz.func131, Tryz.ntmps131
      go_wp2_with fail
      go_region_law (refine step_append_rn rfl _ _ 38 38 rfl (.slice (some ⟨g, 0, none⟩) i cap) (.slice (some ⟨g, (i + 1) * 4, none⟩) (m - (i + 1)) (cap - (i + 1))) (by simp [Act.eval, Act.put]) (by simp [Act.eval, Act.put, hc1]) (hqa _) ?_)
      go_wp2
      go_ret
      exact ⟨rfl, rfl⟩
  exact hc.mono (by rintro e w2 ⟨rfl, rfl⟩; exact hd)
theorem delAttr_a (l : List Zk) {i k : Int} (hi : 0 ≤ i) (hk : k = i + 1) (hj : i < l.length) (hl : l.length < 1073741824) : ATake Tryz.prog 131 4 (eL l) [.one (.int .i64 i), .one (.int .i64 k)] true false (eL (delAt l i.toNat)) :=
 atake_delT (by unfold FnOk; kernel_rfl) (fun w oa m cap olds i => delAttr_run w oa m cap olds i) l hi hk hj hl
def implwithout_1 (id : Int) (q0 : (List Int)) : Bool := (slicesContains_int q0 id)
theorem implwithout_1_a (id : Int) (q0 : (List Int)) : ACalls Tryz.prog 111 [.i id, .one (.rptr .sh [.h q0])] (.b (implwithout_1 id q0)) := by
 refine en Qc Tryz.func111 fun w0 F0 hG => ?_
 refine sn Qc [0, 1, 3] [] (p0) ?_
 refine tn Qc [3] [] (pc 2 (slicesContains_int_a q0 id) p0) ?_
 refine Qp ?_
 exact Ye [] (congrArg (fun z => (.b z : AV)) (show implwithout_1 id q0 = (slicesContains_int q0 id) from rfl).symm)
def Zu (c0 : (List Int)) (k0 : Nat) (a0 : Int) (_ : Unit) : Rd (Int) (Unit) (Unit) := (bif (implwithout_1 a0 c0) then (.ret ((k0 : Nat) : Int)) else (.next ()))
def Zv (_ : Nat) (_ : Unit) : Unit := ()
def Qw (s_ : (List Int)) (c0 : (List Int)) : Int := (Out.on (Xg (Zu c0) Zv s_ 0 ()) (fun _ => -1))
theorem slicesIndexFunc_int_implwithout_1_ix (s_ : (List Int)) (c0 : (List Int)) : Qw s_ c0 = ixF (fun a => implwithout_1 a c0) s_ := idx_eq (fun _ _ _ => rfl) s_
theorem slicesIndexFunc_int_implwithout_1_bd (s_ : (List Int)) (c0 : (List Int)) : -1 ≤ Qw s_ c0 ∧ Qw s_ c0 < (List.length s_ : Int) := by rw [slicesIndexFunc_int_implwithout_1_ix]; exact ixF_bd _ _
theorem slicesIndexFunc_int_implwithout_1_a (s_ : (List Int)) (c0 : (List Int)) : ACalls Tryz.prog 154 [.h s_, .one (.fnr 111 [[.h c0]])] (.i (Qw s_ c0)) := by
 refine en Qc Tryz.func154 fun w0 F0 hG => ?_
 refine sn Qc [0, 1, 4] [] (p0) ?_
 refine Qg ?_
 refine tn Qc [0, 1, 4, 7, 8] [] (pl 1 s_ p0) ?_
 refine mz [(4, .i 0), (7, .i (s_.length : Int)), (8, .i 0)] [] [] [] ?_
 refine wT 0 0 .sh s_ (fun hw1 hl2 => ?_)
 refine blk (fun (k0 : Nat) (s0 : Unit) => [(8, .i ((k0 : Nat) : Int))]) [8] (fun k0 s0 => []) [] (fun (y0 : Unit) => []) [0, 1, 7, 8] (fun y0 => []) [] (fun (k0 : Nat) (s0 : Unit) => (Xg (Zu c0) Zv s_ 0 ()) = Xg (Zu c0) Zv (List.drop k0 s_) k0 s0) (fun (y0 : Unit) => (Xg (Zu c0) Zv s_ 0 ()) = .brk y0) s_.length () (Qf (by kernel_rfl)) rfl (fun k0 s0 hk0 hI0 => ?_) (fun k0 s0 hk0 hI0 => ?_) (fun y0 hD0 => ?_)
 ·
  obtain ⟨a0, hx0⟩ := Xq (l := s_) (i := k0) hk0
  refine sn Qc [0, 1, 4, 7, 8, 9] [] (pe 0 (Q0 (decide_eq_true (p := ((k0 : Nat) : Int) < (s_.length : Int)) (by omega))) p0) ?_
  refine Qg ?_
  refine ckT ?_
  refine Qo ?_
  refine Qg ?_
  refine Q6 ?_
  refine tn Qc [0, 1, 4, 5, 7, 8] [] (p0) ?_
  refine tu Qc [(5, .i ((k0 : Nat) : Int)), (16, .b (implwithout_1 a0 c0))] [] [] [] (pn 3 hx0 (pc 5 (implwithout_1_a a0 c0) p0)) ?_
  refine ck (implwithout_1 a0 c0) (fun h3 => ?_) (fun h3 => ?_)
  ·
   refine sn Qc [0, 1, 4, 7, 8] [] (p0) ?_
   refine Qp ?_
   have hr4 : (Xg (Zu c0) Zv s_ 0 ()) = .ret ((k0 : Nat) : Int) := Zw hx0 (Xm h3 (rfl)) hI0
   exact Ye [] (congrArg (fun z => (.i z : AV)) (show Qw s_ c0 = _ from on_r hr4).symm)
  ·
   refine Qo ?_
   refine rn Qc [0, 1, 4, 7, 8] [] (pe 0 (av_i (Qy k0 (by omega))) p0) ?_
   exact Exists.intro _ (And.intro (Qf (by kernel_rfl)) (Q4 hx0 (Qz h3 (rfl)) hI0))
 ·
  refine sn Qc [0, 1, 4, 7, 8, 9] [] (pe 0 (Q0 (decide_eq_false (p := ((k0 : Nat) : Int) < (s_.length : Int)) (by omega))) p0) ?_
  refine Qg ?_
  refine ckF ?_
  refine Xc ?_
  exact Exists.intro _ (And.intro (Qf (by kernel_rfl)) (Xr hk0 (rfl) hI0))
 ·
  refine sn Qc [4] [] (p0) ?_
  refine Qp ?_
  exact Ye [] (congrArg (fun z => (.i z : AV)) (show Qw s_ c0 = _ from on_b hD0 (rfl)).symm)
def Yh (c0 : (List Int)) (s0 : (List Int) × Int × Int) : Rd ((List Int)) ((List Int) × Int × Int) ((List Int) × Int) := (bif decide (s0.2.2 < (s0.1.length : Int)) then (bif (!(implwithout_1 (nth s0.1 (Int.toNat s0.2.2)) c0)) then (.next (List.set s0.1 (Int.toNat s0.2.1) (nth s0.1 (Int.toNat s0.2.2)), (s0.2.1 + 1), (s0.2.2 + 1))) else (.next (s0.1, s0.2.1, (s0.2.2 + 1)))) else (.brk (s0.1, s0.2.1)))
def Xy (s_ : (List Int)) (c0 : (List Int)) : (List Int) := (bif ((Qw s_ c0) == (-1 : Int)) then s_ else (Out.on (whlD (Yh c0) (List.length s_ + 1) (s_, (Qw s_ c0), ((Qw s_ c0) + 1))) (fun y0 => List.take (Int.toNat y0.2) y0.1)))
theorem slicesDeleteFunc_int_implwithout_1_st (c0 : (List Int)) : DelStep (Yh c0) (fun a => implwithout_1 a c0) := by
 intro s i j hij hj
 unfold Yh
 by_cases h : (j : Int) < (s.length : Int) <;> cases hp : implwithout_1 (nth s j) c0 <;> simp [h, hp]
theorem slicesDeleteFunc_int_implwithout_1_w (s_ : (List Int)) (c0 : (List Int)) (hp : List.length s_ ≤ 1073741824) (h : Qw s_ c0 ≠ -1) : (whl (Yh c0) (List.length s_ + 1) (s_, Qw s_ c0, Qw s_ c0 + 1)).isSome = true := del_some (slicesDeleteFunc_int_implwithout_1_st c0) hp (slicesIndexFunc_int_implwithout_1_ix s_ c0) h
theorem slicesDeleteFunc_int_implwithout_1_eq (s_ : (List Int)) (c0 : (List Int)) (hp : List.length s_ ≤ 1073741824) : Xy s_ c0 = s_.filter (fun a => !(implwithout_1 a c0)) := by
 unfold Xy
 exact del_eq (slicesDeleteFunc_int_implwithout_1_st c0) hp (slicesIndexFunc_int_implwithout_1_ix s_ c0)
theorem slicesDeleteFunc_int_implwithout_1_le (s_ : (List Int)) (c0 : (List Int)) (hp : List.length s_ ≤ 1073741824) : List.length (Xy s_ c0) ≤ List.length s_ := by rw [slicesDeleteFunc_int_implwithout_1_eq _ _ hp]; exact List.length_filter_le _ _
theorem slicesDeleteFunc_int_implwithout_1_a (s_ : (List Int)) (c0 : (List Int)) : ATake Tryz.prog 110 1 (eL s_) [.one (.fnr 111 [[.h c0]])] true false (eL (Xy s_ c0)) := by
 refine atake_of (tt := tt) Qc Tryz.func110 (fn := Tryz.f110) rfl (by unfold FnOk; kernel_rfl) (Nat.le_of_ble_eq_true rfl) (by simp [AV.cells, C.key, C.bkeys]) (t := 4) rfl fun w0 F0 hG => ?_
 refine wT 0 0 (.own false 63) s_ (fun hw1 hl2 => ?_)
 have hix := slicesIndexFunc_int_implwithout_1_bd s_ c0
 refine sn Qc [0, 1, 4] [] (p0) ?_
 refine tn Qc [0, 1, 4, 5] [] (pc 2 (slicesIndexFunc_int_implwithout_1_a s_ c0) p0) ?_
 refine Qg ?_
 refine tu Qc [(4, .e 0), (5, .i (Qw s_ c0)), (12, .b ((Qw s_ c0) == (-1 : Int)))] [] [] [] (p0) ?_
 refine ck ((Qw s_ c0) == (-1 : Int)) (fun h3 => ?_) (fun h3 => ?_)
 ·
  refine sn Qc [0, 1, 4, 5] [] (p0) ?_
  refine Qp ?_
  have hE4 : Xy s_ c0 = s_ := Xm h3 (rfl)
  exact ⟨.inl rfl, 63, by rw [hE4]; kernel_rfl⟩
 ·
  have h3d := Zd h3
  refine Qo ?_
  refine Qg ?_
  refine sn Qc [0, 1, 4, 5, 6] [] (pe 1 (av_i (IntWalk.i64_in ((Qw s_ c0) + 1) (by omega))) p0) ?_
  refine mz [(6, .i ((Qw s_ c0) + 1))] [12] [] [] ?_
  refine blw (fun (s0 : (List Int) × Int × Int) => [(0, .q 63 s0.1), (5, .i s0.2.1), (6, .i s0.2.2)]) [0, 5, 6] (fun s0 => []) [] (fun (y0 : (List Int) × Int) => [(0, .q 63 y0.1), (5, .i y0.2)]) [0, 1, 5, 6] (fun y0 => []) [] (fun (k0 : Nat) (s0 : (List Int) × Int × Int) => whl (Yh c0) k0 s0 = some (whlD (Yh c0) (List.length s_ + 1) (s_, (Qw s_ c0), ((Qw s_ c0) + 1))) ∧ 0 ≤ s0.2.1 ∧ s0.2.1 < s0.2.2 ∧ s0.2.2 ≤ (List.length s0.1 : Int) ∧ List.length s0.1 = List.length s_) (fun (y0 : (List Int) × Int) => (whlD (Yh c0) (List.length s_ + 1) (s_, (Qw s_ c0), ((Qw s_ c0) + 1))) = .brk y0 ∧ 0 ≤ y0.2 ∧ y0.2 < (List.length y0.1 : Int) ∧ List.length y0.1 = List.length s_) (List.length s_ + 1) (s_, (Qw s_ c0), ((Qw s_ c0) + 1)) (Qf (by kernel_rfl)) ⟨whl_some (slicesDeleteFunc_int_implwithout_1_w s_ c0 hl2 h3d), (by first | omega | (dsimp only; omega) | rfl), (by first | omega | (dsimp only; omega) | rfl), (by first | omega | (dsimp only; omega) | rfl), (by first | omega | (dsimp only; omega) | rfl)⟩ (fun _ h => whl_zero h.1) (fun k0 s0 hI0 => ?_) (fun y0 hD0 => ?_)
  ·
   have hA0_0 := hI0.2.1
   have hA0_1 := hI0.2.2.1
   have hA0_2 := hI0.2.2.2.1
   have hA0_3 := hI0.2.2.2.2
   refine Qg ?_
   refine sn Qc [0, 1, 4, 5, 6, 19] [] (pl 2 s0.1 p0) ?_
   refine ck (decide (s0.2.2 < (s0.1.length : Int))) (fun h5 => ?_) (fun h5 => ?_)
   ·
    have h5d := of_decide_eq_true h5
    refine Qo ?_
    refine Qg ?_
    refine Q6 ?_
    refine wT 0 0 (.own false 63) s0.1 (fun hw7 hl8 => ?_)
    have hx6 : s0.1[(Int.toNat s0.2.2)]? = some (nth s0.1 (Int.toNat s0.2.2)) := Xv (by omega)
    refine tn Qc [0, 1, 4, 5, 6, 7] [] (pG 2 s0.2.2 hx6 p0) ?_
    refine tu Qc [(7, .i (nth s0.1 (Int.toNat s0.2.2))), (29, .b (!(implwithout_1 (nth s0.1 (Int.toNat s0.2.2)) c0)))] [] [] [] (pc 2 (implwithout_1_a (nth s0.1 (Int.toNat s0.2.2)) c0) p0) ?_
    refine ck (!(implwithout_1 (nth s0.1 (Int.toNat s0.2.2)) c0)) (fun h9 => ?_) (fun h9 => ?_)
    ·
     have hx10 : s0.1[(Int.toNat s0.2.1)]? = some (nth s0.1 (Int.toNat s0.2.1)) := Xv (by omega)
     refine su Qc [(0, .one (.slc (.own false 63) 1 (setRow (eL s0.1) (Int.toNat s0.2.1) 0 [.i (nth s0.1 (Int.toNat s0.2.2))])))] [0, 7, 29] [] [] (pG 3 s0.2.1 hx10 p0) ?_
     refine eqn [(0, .q 63 (List.set s0.1 (Int.toNat s0.2.1) (nth s0.1 (Int.toNat s0.2.2))))] [0] [] [] (by rw [setRow_eL (y := (nth s0.1 (Int.toNat s0.2.2))) hx10 rfl]; first | done | kernel_rfl) ?_
     refine rn Qc [0, 1, 4, 5, 6] [] (pe 1 (av_i (IntWalk.i64_in (s0.2.1 + 1) (by omega))) p0) ?_
     refine qn Qc [0, 1, 4, 5, 6] [] (pe 1 (av_i (IntWalk.i64_in (s0.2.2 + 1) (by omega))) p0) ?_
     exact Exists.intro (List.set s0.1 (Int.toNat s0.2.1) (nth s0.1 (Int.toNat s0.2.2)), (s0.2.1 + 1), (s0.2.2 + 1)) (And.intro (Qf (by kernel_rfl)) ⟨whl_next (Xm h5 (Xm h9 (rfl))) hI0.1, (by first | omega | (dsimp only; omega) | (simp only [List.length_set]; omega)), (by first | omega | (dsimp only; omega) | (simp only [List.length_set]; omega)), (by first | omega | (dsimp only; omega) | (simp only [List.length_set]; omega)), (by first | omega | (dsimp only; omega) | (simp only [List.length_set]; omega))⟩)
    ·
     refine Qo ?_
     refine rn Qc [0, 1, 4, 5, 6] [] (pe 1 (av_i (IntWalk.i64_in (s0.2.2 + 1) (by omega))) p0) ?_
     exact Exists.intro (s0.1, s0.2.1, (s0.2.2 + 1)) (And.intro (Qf (by kernel_rfl)) ⟨whl_next (Xm h5 (Qz h9 (rfl))) hI0.1, (by first | omega | (dsimp only; omega) | (simp only [List.length_set]; omega)), (by first | omega | (dsimp only; omega) | (simp only [List.length_set]; omega)), (by first | omega | (dsimp only; omega) | (simp only [List.length_set]; omega)), (by first | omega | (dsimp only; omega) | (simp only [List.length_set]; omega))⟩)
   ·
    have h5d := of_decide_eq_false h5
    refine Xc ?_
    exact Exists.intro (s0.1, s0.2.1) (And.intro (Qf (by kernel_rfl)) ⟨whl_brk (Qz h5 (rfl)) hI0.1, by first | omega | (simp only [List.length_set]; omega), by first | omega | (simp only [List.length_set]; omega), by first | omega | (simp only [List.length_set]; omega)⟩)
  ·
   have hD0_0 := hD0.2.1
   have hD0_1 := hD0.2.2.1
   have hD0_2 := hD0.2.2.2
   refine Qg ?_
   refine awp_clear Qc rfl (by kernel_rfl) rfl rfl rfl rfl rfl (by omega) (by rw [Zc]; omega) (fun lc11 hllc11 htlc11 => ?_)
   refine sn Qc [4] [] (po 2 (.cut (eL (List.take (Int.toNat y0.2) y0.1))) (px (ob_eq (show .one (.slc (.own false 0) 1 ((lc11.take (Int.toNat y0.2)).drop (Int.toNat 0))) = .q 0 (List.take (Int.toNat y0.2) y0.1) from (congrArg (fun z => AV.one (.slc (.own false 0) 1 (z.drop (Int.toNat 0)))) htlc11).trans (av_take (.own false 0) 1 (Int.toNat y0.2) y0.2 y0.1 rfl))) (px (ob_rng (lo := 0) (hi := y0.2) (n := (List.length lc11)) (rng_lc (by omega) (by rw [hllc11, Zc]; omega))) p0))) ?_
   refine Qp ?_
   have hE12 : Xy s_ c0 = List.take (Int.toNat y0.2) y0.1 := Qz h3 (on_b hD0.1 (rfl))
   exact ⟨.inl rfl, 0, by rw [hE12]; kernel_rfl⟩
def implwithout (a_ : (List Int)) (b : (List Int)) : (List Int) := Xy a_ b
theorem implwithout_a (a_ : (List Int)) (b : (List Int)) : ACalls Tryz.prog 70 [.h a_, .h b] (.o 0 (implwithout a_ b)) := by
 refine en Qc Tryz.func70 fun w0 F0 hG => ?_
 refine sn Qc [0, 3, 4] [3] (p0) ?_
 refine wT 0 0 .sh a_ (fun hw1 hl2 => ?_)
 have hq3 := slicesDeleteFunc_int_implwithout_1_le a_ b hl2
 refine tn Qc [4] [] (pc 1 (cloneInt_a a_) (po 3 (.take false false (eL (Xy a_ b))) (px (ob_take (atake_flat (slicesDeleteFunc_int_implwithout_1_a a_ b) (flat_eL _))) (px (ob_flat (flat_eL a_)) (px (ob_flat (flat_eL (Xy a_ b))) p0))))) ?_
 refine Qp ?_
 exact Ye [] (congrArg (fun z => (.o 0 z : AV)) (show implwithout a_ b = Xy a_ b from rfl).symm)
def Qa (s_ : Yl) (id : Int) : Xt × Bool := (bif decide ((Y9 s_ id) ≥ (0 : Int)) then ((Qr (nth s_.2.1 (Int.toNat (Y9 s_ id)))), true) else ((0, 0, false, 0, []), false))
theorem find_attrs {s : Yl} (h : Xf s = true) (id : Int) : List.length (Qa s id).1.2.2.2.2 ≤ 5 := by
  unfold Qa
  by_cases hc : Y9 s id ≥ (0 : Int)
  · rw [decide_eq_true hc, cond_true]
    have hl := fat_lt s id
    exact vstore_attrs h (List.mem_of_getElem? (Xv (l := s.2.1) (i := Int.toNat (Y9 s id)) (by omega)))
  · rw [decide_eq_false hc, cond_false]
    exact Nat.zero_le _
theorem implFindFile_a (s_ : Yl) (id : Int) : ACalls Tryz.prog 120 [.a [.h s_.1, .h s_.2.1, .i s_.2.2], .i id] (.tup [(true, [.i ((((Qa s_ id)).1).1), .i ((((Qa s_ id)).1).2.1), .b ((((Qa s_ id)).1).2.2.1), .i ((((Qa s_ id)).1).2.2.2.1), .o 0 ((((Qa s_ id)).1).2.2.2.2)]), (false, [.b (((Qa s_ id)).2)])]) := by
 refine en Qc Tryz.func120 fun w0 F0 hG => ?_
 refine sn Qc [1, 2, 4, 5] [2, 4] (p0) ?_
 refine Qg ?_
 refine tn Qc [2, 4, 5, 6] [2, 4] (pc 2 (implfileAt_a s_ id) p0) ?_
 refine tu Qc [(2, .p 2 0), (4, .p 4 0), (5, .b false), (6, .i (Y9 s_ id)), (11, .b (decide ((Y9 s_ id) ≥ (0 : Int))))] [0, 1] [(2, [.h s_.1, .h s_.2.1, .i s_.2.2]), (4, [.i 0, .i 0, .b false, .i 0, .e 4])] [] (p0) ?_
 refine ck (decide ((Y9 s_ id) ≥ (0 : Int))) (fun h1 => ?_) (fun h1 => ?_)
 ·
  have h1p := fat_lt s_ id
  have h1d := of_decide_eq_true h1
  refine wB 2 1 .sh s_.2.1 (fun hw3 hl4 => ?_)
  have hx2 : s_.2.1[(Int.toNat (Y9 s_ id))]? = some (nth s_.2.1 (Int.toNat (Y9 s_ id))) := Xv (by omega)
  refine sn Qc [4, 5] [4] (pg 3 (Y9 s_ id) hx2 (pc 5 (implcopyFile_a (nth s_.2.1 (Int.toNat (Y9 s_ id)))) p0)) ?_
  refine Qp ?_
  exact Ye [] (congrArg (fun z => (.tup [(true, [.i z.1.1, .i z.1.2.1, .b z.1.2.2.1, .i z.1.2.2.2.1, .o 0 z.1.2.2.2.2]), (false, [.b z.2])] : AV)) (show Qa s_ id = _ from Xm h1 (rfl)).symm)
 ·
  refine Qo ?_
  refine sn Qc [4, 5] [4] (p0) ?_
  refine opn [(true, 4, 4, true, 384000, 4)] ?_
  refine Qp ?_
  exact Ye [] (congrArg (fun z => (.tup [(true, [.i z.1.1, .i z.1.2.1, .b z.1.2.2.1, .i z.1.2.2.2.1, .o 0 z.1.2.2.2.2]), (false, [.b z.2])] : AV)) (show Qa s_ id = _ from Qz h1 (rfl)).symm)
def implcopyFiles_f0 (_ : Nat) (a0 : Xt) (s0 : (List Xt)) : Rd ((List Xt)) ((List Xt)) ((List Xt)) := (.next (s0 ++ [(Qr a0)]))
def implcopyFiles_e0 (_ : Nat) (s0 : (List Xt)) : (List Xt) := s0
def implcopyFiles (l : (List Xt)) : (List Xt) := (Out.on (Xg implcopyFiles_f0 implcopyFiles_e0 l 0 []) (fun y0 => y0))
theorem implcopyFiles_a (l : (List Xt)) : ACalls Tryz.prog 219 [.h l] (.o 0 (implcopyFiles l)) := by
 refine en Qc Tryz.func219 fun w0 F0 hG => ?_
 refine sn Qc [0, 2] [] (p0) ?_
 refine tn Qc [0, 2, 3] [] (p0) ?_
 refine Qg ?_
 refine tu Qc [(2, .e 0), (3, .one (.slc (.own true 384) 5 [])), (7, .h l), (8, .i (l.length : Int)), (9, .i 0)] [0] [] [] (pl 1 l p0) ?_
 refine wT 7 0 .sh l (fun hw1 hl2 => ?_)
 refine blk (fun (k0 : Nat) (s0 : (List Xt)) => [(3, .o 147201 s0), (9, .i ((k0 : Nat) : Int))]) [3, 9] (fun k0 s0 => []) [] (fun (y0 : (List Xt)) => [(3, .o 147351 y0)]) [3, 7, 8, 9] (fun y0 => []) [] (fun (k0 : Nat) (s0 : (List Xt)) => (Xg implcopyFiles_f0 implcopyFiles_e0 l 0 []) = Xg implcopyFiles_f0 implcopyFiles_e0 (List.drop k0 l) k0 s0 ∧ List.length s0 ≤ k0) (fun (y0 : (List Xt)) => (Xg implcopyFiles_f0 implcopyFiles_e0 l 0 []) = .brk y0) l.length [] (X2 [(384, 147201)] (by kernel_rfl)) ⟨rfl, (by simp)⟩ (fun k0 s0 hk0 hI0 => ?_) (fun k0 s0 hk0 hI0 => ?_) (fun y0 hD0 => ?_)
 ·
  have hA0_0 := hI0.2
  obtain ⟨a0, hx0⟩ := Xq (l := l) (i := k0) hk0
  refine sn Qc [2, 3, 7, 8, 9, 10] [] (pe 0 (Q0 (decide_eq_true (p := ((k0 : Nat) : Int) < (l.length : Int)) (by omega))) p0) ?_
  refine Qg ?_
  refine ckT ?_
  refine Qo ?_
  refine Qg ?_
  refine Q6 ?_
  refine tn Qc [2, 3, 5, 7, 8, 9] [5] (pn 0 hx0 p0) ?_
  refine wT 3 0 (.own true 147201) s0 (fun hw3 hl4 => ?_)
  refine qu Qc [(3, .one (.slc (.own true 1088) 5 ((eL s0) ++ [[.i ((Qr a0).1), .i ((Qr a0).2.1), .b ((Qr a0).2.2.1), .i ((Qr a0).2.2.2.1), .h ((Qr a0).2.2.2.2)]])))] [3] [] [] (pc 2 (implcopyFile_a a0) (pa s0 [(Qr a0)] p0)) ?_
  refine eqn [(3, .o 1088 (s0 ++ [(Qr a0)]))] [3] [] [] (by rw [show ((eL s0) ++ [[.i ((Qr a0).1), .i ((Qr a0).2.1), .b ((Qr a0).2.2.1), .i ((Qr a0).2.2.2.1), .h ((Qr a0).2.2.2.2)]]) = (eL (s0 ++ [(Qr a0)])) from app_eL (rfl) (rfl)]; first | done | kernel_rfl) ?_
  refine rn Qc [2, 3, 7, 8, 9] [] (pe 0 (av_i (Qy k0 (by omega))) p0) ?_
  exact Exists.intro (s0 ++ [(Qr a0)]) (And.intro (X2 [(1088, 147201)] (by kernel_rfl)) ⟨Q4 hx0 (rfl) hI0.1, by first | omega | (simp; omega) | simp⟩)
 ·
  have hA0_0 := hI0.2
  refine sn Qc [2, 3, 7, 8, 9, 10] [] (pe 0 (Q0 (decide_eq_false (p := ((k0 : Nat) : Int) < (l.length : Int)) (by omega))) p0) ?_
  refine Qg ?_
  refine ckF ?_
  refine Xc ?_
  exact Exists.intro _ (And.intro (X2 [(147201, 147351)] (by kernel_rfl)) (Xr hk0 (rfl) hI0.1))
 ·
  refine sn Qc [2] [] (p0) ?_
  refine Qp ?_
  exact Ye [] (congrArg (fun z => (.o 0 z : AV)) (show implcopyFiles l = _ from on_b hD0 (rfl)).symm)
def Yo (s_ : Yl) : Yl := (s_.1, (implcopyFiles s_.2.1), s_.2.2)
theorem copyFiles_id (l : List Xt) : implcopyFiles l = l := by
 unfold implcopyFiles
 rw [forL_map (f := implcopyFiles_f0) (e := implcopyFiles_e0) (g := id) (fun k a s => rfl) l 0 []]
 simp [Out.on, implcopyFiles_e0]
theorem copyStore_len (s_ : Yl) : (Yo s_).2.1.length = s_.2.1.length := by unfold Yo; rw [copyFiles_id]
theorem implcopyStore_a (s_ : Yl) : ACalls Tryz.prog 168 [.a [.h s_.1, .h s_.2.1, .i s_.2.2]] (.a [.o 0 ((Yo s_).1), .o 1 ((Yo s_).2.1), .i ((Yo s_).2.2)]) := by
 refine en Qc Tryz.func168 fun w0 F0 hG => ?_
 refine sn Qc [1, 2] [1, 2] (p0) ?_
 refine tN Qc Z4 [2] [2] (pc 2 (cloneField_a s_.1) (pc 5 (implcopyFiles_a s_.2.1) p0)) ?_
 refine Qp ?_
 exact Ye [] (congrArg (fun z => (.a [.o 0 z.1, .o 1 z.2.1, .i z.2.2] : AV)) (show Yo s_ = (s_.1, (implcopyFiles s_.2.1), s_.2.2) from rfl).symm)
def X8 (s_ : Yl) (f : Xt) : Yl × Bool := (bif ((!(Xf s_)) || (decide ((Y9 s_ f.1) < (0 : Int)) || (!(Y0 s_.1 f)))) then ((Yo s_), false) else (((Yo s_).1, List.set ((Yo s_).2.1) (Int.toNat (Y9 s_ f.1)) (Qr f), (Yo s_).2.2), true))
theorem replace_ok {s : Yl} {f : Xt} (h : (X8 s f).2 = true) : Xf s = true ∧ List.length f.2.2.2.2 ≤ 5 := by
 unfold X8 at h
 cases hv : Xf s with
 | false => rw [hv] at h; simp at h
 | true =>
  refine ⟨rfl, ?_⟩
  cases hf : Y0 s.1 f with
  | true => exact vfile_attrs hf
  | false =>
   rw [hv, hf] at h
   simp at h
theorem implReplaceFile_a (s_ : Yl) (f : Xt) : ACalls Tryz.prog 174 [.a [.h s_.1, .h s_.2.1, .i s_.2.2], .a [.i f.1, .i f.2.1, .b f.2.2.1, .i f.2.2.2.1, .h f.2.2.2.2]] (.tup [(true, [.o 0 ((((X8 s_ f)).1).1), .o 1 ((((X8 s_ f)).1).2.1), .i ((((X8 s_ f)).1).2.2)]), (false, [.b (((X8 s_ f)).2)])]) := by
 refine en Qc Tryz.func174 fun w0 F0 hG => ?_
 have hcl := copyStore_len s_
 refine sn Qc [2, 3, 4, 5] [2, 3, 4] (p0) ?_
 refine tn Qc [2, 3, 4, 5, 6] [2, 3, 4, 6] (pc 1 (implcopyStore_a s_) p0) ?_
 refine tu Qc [(2, .p 2 0), (3, .p 3 0), (4, .p 4 0), (5, .b false), (6, .p 6 0), (7, .i (Y9 s_ f.1))] [0, 1] [(2, [.h s_.1, .h s_.2.1, .i s_.2.2]), (3, [.i f.1, .i f.2.1, .b f.2.2.1, .i f.2.2.2.1, .h f.2.2.2.2]), (4, [.e 2, .e 5, .i 0]), (6, [.o 576 ((Yo s_).1), .o 577 ((Yo s_).2.1), .i ((Yo s_).2.2)])] [] (pc 3 (implfileAt_a s_ f.1) p0) ?_
 refine Qg ?_
 refine Qg ?_
 refine jn [(27, .b ((!(Xf s_)) || (decide ((Y9 s_ f.1) < (0 : Int)) || (!(Y0 s_.1 f)))))] [2] [] [2] (!(Xf s_)) (fun h1 => ?_) (fun h1 => ?_) ?_
 ·
  have h1n : (Xf s_) = false := bnot_t h1
  refine ru Qc [(27, .b true)] [2] [] [2] (pc 1 (cb h1n (implIsValidStore_a s_)) (pe 2 (show .b (!false) = .b true from rfl) p0)) ?_
  exact ⟨rfl, Qf (by rw [h1]; first | done | kernel_rfl)⟩
 ·
  have h1n : (Xf s_) = true := Jd h1
  have h1ns := store12 h1n
  refine Xw (decide ((Y9 s_ f.1) < (0 : Int))) (fun h2 => ?_) (fun h2 => ?_)
  ·
   refine ru Qc [(27, .b true)] [2] [] [2] (pc 1 (cb h1n (implIsValidStore_a s_)) (pe 2 (show .b (!true) = .b false from rfl) (pt 5 h2 p0))) ?_
   exact ⟨rfl, Qf (by rw [h1, h2]; first | done | kernel_rfl)⟩
  ·
   have h2p := fat_lt s_ f.1
   refine rn Qc [3, 4, 5, 6, 7, 27] [3, 4, 6] (pc 1 (cb h1n (implIsValidStore_a s_)) (pe 2 (show .b (!true) = .b false from rfl) (pf 5 h2 (pc 11 (implIsValidFile_a s_.1 f) p0)))) ?_
   exact ⟨rfl, Qf (by rw [h1, h2]; first | done | kernel_rfl)⟩
 refine ck ((!(Xf s_)) || (decide ((Y9 s_ f.1) < (0 : Int)) || (!(Y0 s_.1 f)))) (fun h3 => ?_) (fun h3 => ?_)
 ·
  refine sn Qc [3, 4, 5, 6, 7] [3, 4, 6] (p0) ?_
  refine Qp ?_
  exact Ye [] (congrArg (fun z => (.tup [(true, [.o 0 z.1.1, .o 1 z.1.2.1, .i z.1.2.2]), (false, [.b z.2])] : AV)) (show X8 s_ f = _ from Xm h3 (rfl)).symm)
 ·
  have h3l : ((!(Xf s_))) = false := or_l h3
  have h3ln : (Xf s_) = true := Jd h3l
  have h3lns := store12 h3ln
  have h3r : ((decide ((Y9 s_ f.1) < (0 : Int)) || (!(Y0 s_.1 f)))) = false := or_r h3
  have h3rl : (decide ((Y9 s_ f.1) < (0 : Int))) = false := or_l h3r
  have h3rlp := fat_lt s_ f.1
  have h3rld := of_decide_eq_false h3rl
  refine Qo ?_
  refine wB 6 1 (.own true 577) ((Yo s_).2.1) (fun hw5 hl6 => ?_)
  have hx4 : ((Yo s_).2.1)[(Int.toNat (Y9 s_ f.1))]? = some (nth ((Yo s_).2.1) (Int.toNat (Y9 s_ f.1))) := Xv (by omega)
  refine sU Qc Z4 [] [3, 7, 27] [(6, [.o 576 ((Yo s_).1), .slc (.own true 577) 5 (setRow (eL ((Yo s_).2.1)) (Int.toNat (Y9 s_ f.1)) 0 [.i ((Qr f).1), .i ((Qr f).2.1), .b ((Qr f).2.2.1), .i ((Qr f).2.2.2.1), .h ((Qr f).2.2.2.2)]), .i ((Yo s_).2.2)])] [3, 6] (pc 4 (implcopyFile_a f) (pG 5 (Y9 s_ f.1) hx4 p0)) ?_
  refine eqn [] [] [(6, [.o 576 ((Yo s_).1), .o 577 (List.set ((Yo s_).2.1) (Int.toNat (Y9 s_ f.1)) (Qr f)), .i ((Yo s_).2.2)])] [6] (by rw [setRow_eL (y := (Qr f)) hx4 rfl]; first | done | kernel_rfl) ?_
  refine sn Qc [4, 5] [4] (p0) ?_
  refine Qp ?_
  exact Ye [] (congrArg (fun z => (.tup [(true, [.o 0 z.1.1, .o 1 z.1.2.1, .i z.1.2.2]), (false, [.b z.2])] : AV)) (show X8 s_ f = _ from Qz h3 (rfl)).symm)
open GoE (enc wide)
def implQueryDirs_f0 (_ : Nat) (a0 : Xa) (s0 : (List ByteArray)) : Rd ((List ByteArray)) ((List ByteArray)) ((List ByteArray)) := (bif (implnamesDir a0) then (.next (s0 ++ [a0.2.2.2.1])) else (.next s0))
def implQueryDirs_e0 (_ : Nat) (s0 : (List ByteArray)) : (List ByteArray) := s0
def implQueryDirs (q : (List Xa)) : (List ByteArray) := (Out.on (Xg implQueryDirs_f0 implQueryDirs_e0 q 0 []) (fun y0 => (putAllS [] y0)))
theorem implQueryDirs_a (q : (List Xa)) : ACalls Tryz.prog 270 [.h q] (.h (implQueryDirs q)) := by
 refine en Qc Tryz.func270 fun w0 F0 hG => ?_
 refine sn Qc [0, 2] [] (p0) ?_
 refine tn Qc [0, 2, 3] [] (p0) ?_
 refine Qg ?_
 refine tu Qc [(2, .e 0), (3, .one (.slc (.own true 384) 1 [])), (7, .h q), (8, .i (q.length : Int)), (9, .i 0)] [0] [] [] (pl 1 q p0) ?_
 refine wT 7 0 .sh q (fun hw1 hl2 => ?_)
 refine blk (fun (k0 : Nat) (s0 : (List ByteArray)) => [(3, .o 147201 s0), (9, .i ((k0 : Nat) : Int))]) [3, 9] (fun k0 s0 => []) [] (fun (y0 : (List ByteArray)) => [(3, .o 147351 y0)]) [3, 7, 8, 9] (fun y0 => []) [] (fun (k0 : Nat) (s0 : (List ByteArray)) => (Xg implQueryDirs_f0 implQueryDirs_e0 q 0 []) = Xg implQueryDirs_f0 implQueryDirs_e0 (List.drop k0 q) k0 s0 ∧ List.length s0 ≤ k0) (fun (y0 : (List ByteArray)) => (Xg implQueryDirs_f0 implQueryDirs_e0 q 0 []) = .brk y0) q.length [] (X2 [(384, 147201)] (by kernel_rfl)) ⟨rfl, (by simp)⟩ (fun k0 s0 hk0 hI0 => ?_) (fun k0 s0 hk0 hI0 => ?_) (fun y0 hD0 => ?_)
 ·
  have hA0_0 := hI0.2
  obtain ⟨a0, hx0⟩ := Xq (l := q) (i := k0) hk0
  refine sn Qc [2, 3, 7, 8, 9, 10] [] (pe 0 (Q0 (decide_eq_true (p := ((k0 : Nat) : Int) < (q.length : Int)) (by omega))) p0) ?_
  refine Qg ?_
  refine ckT ?_
  refine Qo ?_
  refine Qg ?_
  refine Q6 ?_
  refine tn Qc [2, 3, 5, 7, 8, 9] [5] (pn 0 hx0 p0) ?_
  refine tu Qc [(5, .p 5 0), (14, .b (implnamesDir a0))] [] [(5, [.i a0.1, .i a0.2.1, .i a0.2.2.1, .s a0.2.2.2.1, .i a0.2.2.2.2.1, .i a0.2.2.2.2.2.1, .s a0.2.2.2.2.2.2])] [] (pc 1 (implnamesDir_a a0) p0) ?_
  refine ck (implnamesDir a0) (fun h3 => ?_) (fun h3 => ?_)
  ·
   refine wT 3 0 (.own true 147201) s0 (fun hw4 hl5 => ?_)
   refine ru Qc [(3, .one (.slc (.own true 1216) 1 ((eL s0) ++ [[.s a0.2.2.2.1]])))] [3, 5, 14] [] [5] (pa s0 [a0.2.2.2.1] p0) ?_
   refine eqn [(3, .o 1216 (s0 ++ [a0.2.2.2.1]))] [3] [] [] (by rw [show ((eL s0) ++ [[.s a0.2.2.2.1]]) = (eL (s0 ++ [a0.2.2.2.1])) from app_eL (rfl) (rfl)]; first | done | kernel_rfl) ?_
   refine rn Qc [2, 3, 7, 8, 9] [] (pe 0 (av_i (Qy k0 (by omega))) p0) ?_
   exact Exists.intro (s0 ++ [a0.2.2.2.1]) (And.intro (X2 [(1216, 147201)] (by kernel_rfl)) ⟨Q4 hx0 (Xm h3 (rfl)) hI0.1, by first | omega | (simp; omega) | simp⟩)
  ·
   refine Qo ?_
   refine rn Qc [2, 3, 7, 8, 9] [] (pe 0 (av_i (Qy k0 (by omega))) p0) ?_
   exact Exists.intro s0 (And.intro (Qf (by kernel_rfl)) ⟨Q4 hx0 (Qz h3 (rfl)) hI0.1, by first | omega | (simp; omega) | simp⟩)
 ·
  have hA0_0 := hI0.2
  refine sn Qc [2, 3, 7, 8, 9, 10] [] (pe 0 (Q0 (decide_eq_false (p := ((k0 : Nat) : Int) < (q.length : Int)) (by omega))) p0) ?_
  refine Qg ?_
  refine ckF ?_
  refine Xc ?_
  exact Exists.intro _ (And.intro (X2 [(147201, 147351)] (by kernel_rfl)) (Xr hk0 (rfl) hI0.1))
 ·
  refine sn Qc [2] [] (pc 1 (sortedOnce_p y0) p0) ?_
  refine Qp ?_
  exact Ye [] (congrArg (fun z => (.h z : AV)) (show implQueryDirs q = _ from on_b hD0 (rfl)).symm)
def implDependents_f0 (name : ByteArray) (_ : Nat) (a0 : X1) (s0 : (List ByteArray)) : Rd ((List ByteArray)) ((List ByteArray)) ((List ByteArray)) := (bif (Q7 (implQueryDirs a0.2) name) then (.next (s0 ++ [a0.1])) else (.next s0))
def implDependents_e0 (_ : Nat) (s0 : (List ByteArray)) : (List ByteArray) := s0
def Yy (d : (List X1)) (name : ByteArray) : (List ByteArray) := (Out.on (Xg (implDependents_f0 name) implDependents_e0 d 0 []) (fun y0 => y0))
theorem implDependents_a (d : (List X1)) (name : ByteArray) : ACalls Tryz.prog 253 [.h d, .s name] (.o 0 (Yy d name)) := by
 refine en Qc Tryz.func253 fun w0 F0 hG => ?_
 refine sn Qc [0, 1, 4] [] (p0) ?_
 refine tn Qc [0, 1, 4, 5] [] (p0) ?_
 refine Qg ?_
 refine tu Qc [(4, .e 0), (5, .one (.slc (.own true 512) 1 [])), (9, .h d), (10, .i (d.length : Int)), (11, .i 0)] [0] [] [] (pl 1 d p0) ?_
 refine wT 9 0 .sh d (fun hw1 hl2 => ?_)
 refine blk (fun (k0 : Nat) (s0 : (List ByteArray)) => [(5, .o 147202 s0), (11, .i ((k0 : Nat) : Int))]) [5, 11] (fun k0 s0 => []) [] (fun (y0 : (List ByteArray)) => [(5, .o 147352 y0)]) [1, 5, 9, 10, 11] (fun y0 => []) [] (fun (k0 : Nat) (s0 : (List ByteArray)) => (Xg (implDependents_f0 name) implDependents_e0 d 0 []) = Xg (implDependents_f0 name) implDependents_e0 (List.drop k0 d) k0 s0 ∧ List.length s0 ≤ k0) (fun (y0 : (List ByteArray)) => (Xg (implDependents_f0 name) implDependents_e0 d 0 []) = .brk y0) d.length [] (X2 [(512, 147202)] (by kernel_rfl)) ⟨rfl, (by simp)⟩ (fun k0 s0 hk0 hI0 => ?_) (fun k0 s0 hk0 hI0 => ?_) (fun y0 hD0 => ?_)
 ·
  have hA0_0 := hI0.2
  obtain ⟨a0, hx0⟩ := Xq (l := d) (i := k0) hk0
  refine su Qc [(12, .b true)] [] [] [] (pe 0 (Q0 (decide_eq_true (p := ((k0 : Nat) : Int) < (d.length : Int)) (by omega))) p0) ?_
  refine Qg ?_
  refine ckT ?_
  refine Qo ?_
  refine Qg ?_
  refine Q6 ?_
  refine sn Qc [1, 4, 5, 7, 9, 10, 11] [7] (pn 0 hx0 p0) ?_
  refine tn Qc [1, 4, 5, 7, 9, 10, 11, 19] [7] (pc 2 (implQueryDirs_a a0.2) (pc 4 (slicesContains_string_a (implQueryDirs a0.2) name) p0)) ?_
  refine ck (Q7 (implQueryDirs a0.2) name) (fun h3 => ?_) (fun h3 => ?_)
  ·
   refine wT 5 0 (.own true 147202) s0 (fun hw4 hl5 => ?_)
   refine qu Qc [(5, .one (.slc (.own true 1536) 1 ((eL s0) ++ [[.s a0.1]])))] [5, 12] [] [] (pa s0 [a0.1] p0) ?_
   refine eqn [(5, .o 1536 (s0 ++ [a0.1]))] [5] [] [] (by rw [show ((eL s0) ++ [[.s a0.1]]) = (eL (s0 ++ [a0.1])) from app_eL (rfl) (rfl)]; first | done | kernel_rfl) ?_
   refine rn Qc [1, 4, 5, 9, 10, 11] [] (pe 0 (av_i (Qy k0 (by omega))) p0) ?_
   exact Exists.intro (s0 ++ [a0.1]) (And.intro (X2 [(1536, 147202)] (by kernel_rfl)) ⟨Q4 hx0 (Xm h3 (rfl)) hI0.1, by first | omega | (simp; omega) | simp⟩)
  ·
   refine Qo ?_
   refine qu Qc [(11, .i ((k0 + 1 : Nat) : Int))] [11, 12] [] [] (pe 0 (av_i (Qy k0 (by omega))) p0) ?_
   exact Exists.intro s0 (And.intro (Qf (by kernel_rfl)) ⟨Q4 hx0 (Qz h3 (rfl)) hI0.1, by first | omega | (simp; omega) | simp⟩)
 ·
  have hA0_0 := hI0.2
  refine su Qc [(12, .b false)] [] [] [] (pe 0 (Q0 (decide_eq_false (p := ((k0 : Nat) : Int) < (d.length : Int)) (by omega))) p0) ?_
  refine Qg ?_
  refine ckF ?_
  refine Xc ?_
  exact Exists.intro _ (And.intro (X2 [(147202, 147352)] (by kernel_rfl)) (Xr hk0 (rfl) hI0.1))
 ·
  refine sn Qc [4] [] (p0) ?_
  refine Qp ?_
  exact Ye [] (congrArg (fun z => (.o 0 z : AV)) (show Yy d name = _ from on_b hD0 (rfl)).symm)
def Zz (_ : Nat) (a1 : ByteArray) (s1 : (List ByteArray)) : Rd (Rd ((List ByteArray)) ((List ByteArray) × Int) ((List ByteArray))) ((List ByteArray)) ((List ByteArray)) := (bif (!(Q7 s1 a1)) then (.next (s1 ++ [a1])) else (.next s1))
def implTransitiveDependents_e1 (_ : Nat) (s1 : (List ByteArray)) : (List ByteArray) := s1
def Z0 (d : (List X1)) (s0 : (List ByteArray) × Int) : Rd ((List ByteArray)) ((List ByteArray) × Int) ((List ByteArray)) := (bif decide (s0.2 < (s0.1.length : Int)) then (Out.on (Xg Zz implTransitiveDependents_e1 (Yy d (nth s0.1 (Int.toNat s0.2))) 0 s0.1) (fun y1 => (.next (y1, (s0.2 + 1))))) else (.brk s0.1))
def implTransitiveDependents (d : (List X1)) (names : (List ByteArray)) : (List ByteArray) := (Out.on (whlD (Z0 d) (List.length names + List.length d + 1) (names, 0)) (fun y0 => (putAllS [] y0)))
theorem implDependents_ok (nm : ByteArray) : ∀ (l : List X1) (k : Nat) (s : List ByteArray), ∃ s', Xg (implDependents_f0 nm) implDependents_e0 l k s = .brk s' ∧ s'.length ≤ s.length + l.length ∧ ∀ x, x ∈ s' → x ∈ s ∨ x ∈ l.map (·.1)
  | [], k, s => ⟨s, rfl, by simp, fun x hx => .inl hx⟩
  | a :: l, k, s => by
    simp only [Xg, implDependents_f0]
    cases Q7 (implQueryDirs a.2) nm with
    | true =>
      obtain ⟨s', h1, h2, h3⟩ := implDependents_ok nm l (k + 1) (s ++ [a.1])
      refine ⟨s', h1, by simp at h2 ⊢; omega, fun x hx => ?_⟩
      rcases h3 x hx with h | h
      · rcases List.mem_append.1 h with h | h
        · exact .inl h
        · exact .inr (by rw [List.mem_singleton.1 h]; simp)
      · exact .inr (List.mem_cons_of_mem _ h)
    | false =>
      obtain ⟨s', h1, h2, h3⟩ := implDependents_ok nm l (k + 1) s
      refine ⟨s', h1, by simp at h2 ⊢; omega, fun x hx => (h3 x hx).imp id fun h => List.mem_cons_of_mem _ h⟩
theorem implDependents_len (d : List X1) (nm : ByteArray) : List.length (Yy d nm) ≤ List.length d := by
 obtain ⟨s', h1, h2, _⟩ := implDependents_ok nm d 0 []
 unfold Yy
 rw [h1]
 exact (by simpa using h2 : s'.length ≤ d.length)
theorem implDependents_mem (d : List X1) (nm : ByteArray) : ∀ x, x ∈ Yy d nm → x ∈ d.map (·.1) := by
 obtain ⟨s', h1, _, h3⟩ := implDependents_ok nm d 0 []
 unfold Yy
 rw [h1]
 intro x hx
 exact (h3 x hx).resolve_left (by simp)
theorem implTransitiveDependents_in (N : List ByteArray) : ∀ (l : List ByteArray) (k : Nat) (s : List ByteArray), (∀ x, x ∈ l → x ∈ N) → ∃ s', Xg Zz implTransitiveDependents_e1 l k s = .brk s' ∧ Fresh N s s'
 | [], k, s, _ => ⟨s, rfl, Fresh.refl N s⟩
 | a :: l, k, s, h => by
  simp only [Xg, Zz]
  cases hc : Q7 s a with
  | true =>
   simp only [Bool.not_true, cond_false]
   exact implTransitiveDependents_in N l (k + 1) s fun x hx => h x (List.mem_cons_of_mem _ hx)
  | false =>
   simp only [Bool.not_false, cond_true]
   obtain ⟨s', h1, h2⟩ := implTransitiveDependents_in N l (k + 1) (s ++ [a]) fun x hx => h x (List.mem_cons_of_mem _ hx)
   exact ⟨s', h1, (Fresh.one (fun hm => by rw [(contains_iff a s).2 hm] at hc; cases hc) (h a (List.mem_cons_self ..))).trans h2⟩
theorem implTransitiveDependents_fr {d : List X1} {names out y : List ByteArray} {nm : ByteArray} (hF : Fresh (List.map (·.1) d) names out) (hD : Xg Zz implTransitiveDependents_e1 (Yy d nm) 0 out = .brk y) : Fresh (List.map (·.1) d) names y := by
 obtain ⟨s', h1, h2⟩ := implTransitiveDependents_in (List.map (·.1) d) (Yy d nm) 0 out (implDependents_mem d nm)
 rw [h1] at hD
 obtain rfl : s' = y := by simpa using hD
 exact hF.trans h2
theorem implTransitiveDependents_w (d : List X1) (names : List ByteArray) (hp : (List.length names : Int) + List.length d ≤ 1000000) : (whl (Z0 d) (List.length names + List.length d + 1) (names, 0)).isSome = true := by
  have h := work_some (N := List.map (·.1) d) (names := names) (f := Z0 d) (fun out i s' h0 hl hs => by
    rw [List.length_map] at hl
    unfold Z0 at hs
    by_cases hc : i < (out.length : Int)
    · simp only [decide_eq_true hc, cond_true] at hs
      obtain ⟨y, h1, h2⟩ := implTransitiveDependents_in (List.map (·.1) d) (Yy d (nth out (Int.toNat i))) 0 out (implDependents_mem d _)
      rw [h1] at hs
      simp only [Out.on] at hs
      have hs := Rd.next.inj hs
      rw [← hs]
      exact ⟨hc, by first | rfl | exact IntWalk.i64_in _ (by omega), h2⟩
    · simp only [decide_eq_false hc, cond_false] at hs
      cases hs)
  rwa [List.length_map] at h
theorem implTransitiveDependents_a (d : (List X1)) (names : (List ByteArray)) (hp : (List.length names : Int) + List.length d ≤ 1000000) : ACalls Tryz.prog 225 [.h d, .h names] (.h (implTransitiveDependents d names)) := by
 refine en Qc Tryz.func225 fun w0 F0 hG => ?_
 refine sn Qc [0, 1, 4] [] (p0) ?_
 refine tn Qc [0, 4, 5] [] (pc 1 (cloneString_a names) p0) ?_
 refine Qg ?_
 refine tu Qc [(4, .e 0), (5, .o 640 names), (6, .i 0)] [1] [] [] (p0) ?_
 refine blw (fun (s0 : (List ByteArray) × Int) => [(5, .o 147202 s0.1), (6, .i s0.2)]) [5, 6] (fun s0 => []) [] (fun (y0 : (List ByteArray)) => [(5, .o 147352 y0)]) [0, 5, 6] (fun y0 => []) [] (fun (k0 : Nat) (s0 : (List ByteArray) × Int) => whl (Z0 d) k0 s0 = some (whlD (Z0 d) (List.length names + List.length d + 1) (names, 0)) ∧ 0 ≤ s0.2 ∧ Fresh (List.map (·.1) d) names s0.1) (fun (y0 : (List ByteArray)) => (whlD (Z0 d) (List.length names + List.length d + 1) (names, 0)) = .brk y0 ∧ List.length y0 ≤ List.length names + List.length d) (List.length names + List.length d + 1) (names, 0) (X2 [(640, 147202)] (by kernel_rfl)) ⟨whl_some (implTransitiveDependents_w d names hp), (by first | exact Fresh.refl _ _ | omega), (by first | exact Fresh.refl _ _ | omega)⟩ (fun _ h => whl_zero h.1) (fun k0 s0 hI0 => ?_) (fun y0 hD0 => ?_)
 ·
  have hA0_0 := hI0.2.1
  have hA0_1 := hI0.2.2
  have hfl := fresh_len hA0_1; rw [List.length_map] at hfl
  have hdl := implDependents_len d (nth s0.1 (Int.toNat s0.2))
  refine Qg ?_
  refine sn Qc [0, 4, 5, 6, 14] [] (pl 2 s0.1 p0) ?_
  refine ck (decide (s0.2 < (s0.1.length : Int))) (fun h1 => ?_) (fun h1 => ?_)
  ·
   have h1d := of_decide_eq_true h1
   refine Qo ?_
   refine Qg ?_
   refine Q6 ?_
   refine wT 5 0 (.own true 147202) s0.1 (fun hw3 hl4 => ?_)
   have hx2 : s0.1[(Int.toNat s0.2)]? = some (nth s0.1 (Int.toNat s0.2)) := Xv (by omega)
   refine tn Qc [0, 4, 5, 6, 22, 23, 24] [] (pG 3 s0.2 hx2 (pc 5 (implDependents_a d (nth s0.1 (Int.toNat s0.2))) (pl 6 (Yy d (nth s0.1 (Int.toNat s0.2))) p0))) ?_
   refine mz [(22, .o 1408 (Yy d (nth s0.1 (Int.toNat s0.2)))), (23, .i ((Yy d (nth s0.1 (Int.toNat s0.2))).length : Int)), (24, .i 0)] [] [] [] ?_
   refine wT 22 0 (.own true 1408) (Yy d (nth s0.1 (Int.toNat s0.2))) (fun hw5 hl6 => ?_)
   refine blk (fun (k1 : Nat) (s1 : (List ByteArray)) => [(5, .o 166402 s1), (24, .i ((k1 : Nat) : Int))]) [5, 24] (fun k1 s1 => []) [] (fun (y1 : (List ByteArray)) => [(5, .o 166552 y1)]) [5, 22, 23, 24] (fun y1 => []) [] (fun (k1 : Nat) (s1 : (List ByteArray)) => (Xg Zz implTransitiveDependents_e1 (Yy d (nth s0.1 (Int.toNat s0.2))) 0 s0.1) = Xg Zz implTransitiveDependents_e1 (List.drop k1 (Yy d (nth s0.1 (Int.toNat s0.2)))) k1 s1 ∧ List.length s1 ≤ s0.1.length + k1) (fun (y1 : (List ByteArray)) => (Xg Zz implTransitiveDependents_e1 (Yy d (nth s0.1 (Int.toNat s0.2))) 0 s0.1) = .brk y1) ((Yy d (nth s0.1 (Int.toNat s0.2))).length) s0.1 (X2 [(147202, 166402)] (by kernel_rfl)) ⟨rfl, (by simp)⟩ (fun k1 s1 hk1 hI1 => ?_) (fun k1 s1 hk1 hI1 => ?_) (fun y1 hD1 => ?_)
   ·
    have hA1_0 := hI1.2
    obtain ⟨a1, hx1⟩ := Xq (l := Yy d (nth s0.1 (Int.toNat s0.2))) (i := k1) hk1
    refine su Qc [(25, .b true)] [] [] [] (pe 0 (Q0 (decide_eq_true (p := ((k1 : Nat) : Int) < ((Yy d (nth s0.1 (Int.toNat s0.2))).length : Int)) (by omega))) p0) ?_
    refine Qg ?_
    refine ckT ?_
    refine Qo ?_
    refine Qg ?_
    refine Q6 ?_
    refine su Qc [(8, .s a1)] [25] [] [] (pN 0 hx1 p0) ?_
    refine sn Qc [0, 4, 5, 6, 8, 22, 23, 24, 31] [] (pc 2 (slicesContains_string_a s1 a1) p0) ?_
    refine ck (!(Q7 s1 a1)) (fun h7 => ?_) (fun h7 => ?_)
    ·
     have h7n : (Q7 s1 a1) = false := bnot_t h7
     refine wT 5 0 (.own true 166402) s1 (fun hw8 hl9 => ?_)
     refine qu Qc [(5, .one (.slc (.own true 2240) 1 ((eL s1) ++ [[.s a1]])))] [5, 8] [] [] (pa s1 [a1] p0) ?_
     refine eqn [(5, .o 2240 (s1 ++ [a1]))] [5] [] [] (by rw [show ((eL s1) ++ [[.s a1]]) = (eL (s1 ++ [a1])) from app_eL (rfl) (rfl)]; first | done | kernel_rfl) ?_
     refine rn Qc [0, 4, 5, 6, 22, 23, 24] [] (pe 0 (av_i (Qy k1 (by omega))) p0) ?_
     exact Exists.intro (s1 ++ [a1]) (And.intro (X2 [(2240, 166402)] (by kernel_rfl)) ⟨Q4 hx1 (Xm h7 (rfl)) hI1.1, by first | omega | (simp; omega) | simp⟩)
    ·
     have h7n : (Q7 s1 a1) = true := Jd h7
     refine Qo ?_
     refine qn Qc [0, 4, 5, 6, 22, 23, 24] [] (pe 0 (av_i (Qy k1 (by omega))) p0) ?_
     exact Exists.intro s1 (And.intro (Qf (by kernel_rfl)) ⟨Q4 hx1 (Qz h7 (rfl)) hI1.1, by first | omega | (simp; omega) | simp⟩)
   ·
    have hA1_0 := hI1.2
    refine su Qc [(25, .b false)] [] [] [] (pe 0 (Q0 (decide_eq_false (p := ((k1 : Nat) : Int) < ((Yy d (nth s0.1 (Int.toNat s0.2))).length : Int)) (by omega))) p0) ?_
    refine Qg ?_
    refine ckF ?_
    refine Xc ?_
    exact Exists.intro _ (And.intro (X2 [(166402, 166552)] (by kernel_rfl)) (Xr hk1 (rfl) hI1.1))
   ·
    refine rn Qc [0, 4, 5, 6] [] (pe 1 (av_i (IntWalk.i64_in (s0.2 + 1) (by omega))) p0) ?_
    exact Exists.intro (y1, (s0.2 + 1)) (And.intro (X2 [(166552, 147202)] (by kernel_rfl)) ⟨whl_next (Xm h1 (on_b hD1 (rfl))) hI0.1, (by first | omega | exact implTransitiveDependents_fr (by assumption) hD1 | exact implTransitiveDependents_fr (by assumption) hD1.1), (by first | omega | exact implTransitiveDependents_fr (by assumption) hD1 | exact implTransitiveDependents_fr (by assumption) hD1.1)⟩)
  ·
   have h1d := of_decide_eq_false h1
   refine Xc ?_
   exact Exists.intro s0.1 (And.intro (X2 [(147202, 147352)] (by kernel_rfl)) ⟨whl_brk (Qz h1 (rfl)) hI0.1, by first | omega | (simp only [List.length_set]; omega)⟩)
 ·
  have hD0_0 := hD0.2
  refine sn Qc [4] [] (pc 1 (sortedOnce_p y0) p0) ?_
  refine Qp ?_
  exact Ye [] (congrArg (fun z => (.h z : AV)) (show implTransitiveDependents d names = _ from on_b hD0.1 (rfl)).symm)
def implAttrNames_f0 (_ : Nat) (a0 : Zk) (s0 : (List ByteArray)) : Rd ((List ByteArray)) ((List ByteArray)) ((List ByteArray)) := (.next (s0 ++ [a0.1]))
def implAttrNames_e0 (_ : Nat) (s0 : (List ByteArray)) : (List ByteArray) := s0
def Qq (f : Xt) : (List ByteArray) := (Out.on (Xg implAttrNames_f0 implAttrNames_e0 f.2.2.2.2 0 []) (fun y0 => y0))
theorem attrNames_len (f : Xt) : (Qq f).length = f.2.2.2.2.length := by
 unfold Qq
 rw [forL_map (f := implAttrNames_f0) (g := fun a : Zk => a.1) (fun _ _ _ => rfl)]
 simp [Out.on, implAttrNames_e0]
theorem implAttrNames_a (f : Xt) : ACalls Tryz.prog 273 [.a [.i f.1, .i f.2.1, .b f.2.2.1, .i f.2.2.2.1, .h f.2.2.2.2]] (.o 0 (Qq f)) := by
 refine en Qc Tryz.func273 fun w0 F0 hG => ?_
 refine sn Qc [1, 2] [1] (p0) ?_
 refine tn Qc [1, 2, 3] [1] (p0) ?_
 refine Qg ?_
 refine tu Qc [(2, .e 0), (3, .one (.slc (.own true 384) 1 [])), (8, .h f.2.2.2.2), (9, .i (f.2.2.2.2.length : Int)), (10, .i 0)] [0] [] [] (pl 2 f.2.2.2.2 p0) ?_
 refine wT 8 0 .sh f.2.2.2.2 (fun hw1 hl2 => ?_)
 refine blk (fun (k0 : Nat) (s0 : (List ByteArray)) => [(3, .o 147201 s0), (10, .i ((k0 : Nat) : Int))]) [3, 10] (fun k0 s0 => []) [] (fun (y0 : (List ByteArray)) => [(3, .o 147351 y0)]) [3, 8, 9, 10] (fun y0 => []) [] (fun (k0 : Nat) (s0 : (List ByteArray)) => (Xg implAttrNames_f0 implAttrNames_e0 f.2.2.2.2 0 []) = Xg implAttrNames_f0 implAttrNames_e0 (List.drop k0 f.2.2.2.2) k0 s0 ∧ List.length s0 ≤ k0) (fun (y0 : (List ByteArray)) => (Xg implAttrNames_f0 implAttrNames_e0 f.2.2.2.2 0 []) = .brk y0) f.2.2.2.2.length [] (X2 [(384, 147201)] (by kernel_rfl)) ⟨rfl, (by simp)⟩ (fun k0 s0 hk0 hI0 => ?_) (fun k0 s0 hk0 hI0 => ?_) (fun y0 hD0 => ?_)
 ·
  have hA0_0 := hI0.2
  obtain ⟨a0, hx0⟩ := Xq (l := f.2.2.2.2) (i := k0) hk0
  refine sn Qc [2, 3, 8, 9, 10, 11] [] (pe 0 (Q0 (decide_eq_true (p := ((k0 : Nat) : Int) < (f.2.2.2.2.length : Int)) (by omega))) p0) ?_
  refine Qg ?_
  refine ckT ?_
  refine Qo ?_
  refine Qg ?_
  refine Q6 ?_
  refine tn Qc [2, 3, 5, 8, 9, 10] [5] (pn 0 hx0 p0) ?_
  refine wT 3 0 (.own true 147201) s0 (fun hw3 hl4 => ?_)
  refine qu Qc [(3, .one (.slc (.own true 1152) 1 ((eL s0) ++ [[.s a0.1]])))] [3] [] [] (pa s0 [a0.1] p0) ?_
  refine eqn [(3, .o 1152 (s0 ++ [a0.1]))] [3] [] [] (by rw [show ((eL s0) ++ [[.s a0.1]]) = (eL (s0 ++ [a0.1])) from app_eL (rfl) (rfl)]; first | done | kernel_rfl) ?_
  refine rn Qc [2, 3, 8, 9, 10] [] (pe 0 (av_i (Qy k0 (by omega))) p0) ?_
  exact Exists.intro (s0 ++ [a0.1]) (And.intro (X2 [(1152, 147201)] (by kernel_rfl)) ⟨Q4 hx0 (rfl) hI0.1, by first | omega | (simp; omega) | simp⟩)
 ·
  have hA0_0 := hI0.2
  refine sn Qc [2, 3, 8, 9, 10, 11] [] (pe 0 (Q0 (decide_eq_false (p := ((k0 : Nat) : Int) < (f.2.2.2.2.length : Int)) (by omega))) p0) ?_
  refine Qg ?_
  refine ckF ?_
  refine Xc ?_
  exact Exists.intro _ (And.intro (X2 [(147201, 147351)] (by kernel_rfl)) (Xr hk0 (rfl) hI0.1))
 ·
  refine sn Qc [2] [] (p0) ?_
  refine Qp ?_
  exact Ye [] (congrArg (fun z => (.o 0 z : AV)) (show Qq f = _ from on_b hD0 (rfl)).symm)
def implChangedAttrs_f0 (a_ : Xt) (b : Xt) (k0 : Nat) (s0 : (List ByteArray)) : Rd ((List ByteArray)) ((List ByteArray)) ((List ByteArray)) := (bif (!(((Xn a_ (nth (Qq a_ ++ (Qq b)) k0)).1 == (Xn b (nth (Qq a_ ++ (Qq b)) k0)).1) && (((Xn a_ (nth (Qq a_ ++ (Qq b)) k0)).2.1 == (Xn b (nth (Qq a_ ++ (Qq b)) k0)).2.1) && ((((Xn a_ (nth (Qq a_ ++ (Qq b)) k0)).2.2).toList == ((Xn b (nth (Qq a_ ++ (Qq b)) k0)).2.2).toList) && true)))) then (.next (s0 ++ [(nth (Qq a_ ++ (Qq b)) k0)])) else (.next s0))
def implChangedAttrs_e0 (_ : Nat) (s0 : (List ByteArray)) : (List ByteArray) := s0
def implChangedAttrs (a_ : Xt) (b : Xt) : (List ByteArray) := (Out.on (forN (implChangedAttrs_f0 a_ b) implChangedAttrs_e0 (Int.toNat (((Qq a_).length + (Qq b).length) : Int)) 0 []) (fun y0 => (putAllS [] y0)))
theorem implChangedAttrs_a (a_ : Xt) (b : Xt) (hp : (List.length a_.2.2.2.2 : Int) + List.length b.2.2.2.2 ≤ 1073741000) : ACalls Tryz.prog 255 [.a [.i a_.1, .i a_.2.1, .b a_.2.2.1, .i a_.2.2.2.1, .h a_.2.2.2.2], .a [.i b.1, .i b.2.1, .b b.2.2.1, .i b.2.2.2.1, .h b.2.2.2.2]] (.h (implChangedAttrs a_ b)) := by
 refine en Qc Tryz.func255 fun w0 F0 hG => ?_
 have hn1 := attrNames_len a_
 have hn2 := attrNames_len b
 refine sn Qc [2, 3, 4] [2, 3] (p0) ?_
 refine tn Qc [2, 3, 4, 5] [2, 3] (p0) ?_
 refine Qg ?_
 refine tU Qc Z4 [(2, .p 2 0), (3, .p 3 0), (4, .e 0), (5, .one (.slc (.own true 512) 1 [])), (13, .one (.slc (.own true 832) 1 ((eL (Qq a_)) ++ (eL (Qq b))))), (14, .i (((Qq a_).length + (Qq b).length) : Int)), (15, .i 0)] [0, 1] [(2, [.i a_.1, .i a_.2.1, .b a_.2.2.1, .i a_.2.2.2.1, .h a_.2.2.2.2]), (3, [.i b.1, .i b.2.1, .b b.2.2.1, .i b.2.2.2.1, .h b.2.2.2.2])] [] (pc 1 (implAttrNames_a a_) (pc 3 (implAttrNames_a b) (pa (Qq a_) (Qq b) (pe 5 (show .i ((((eL (Qq a_)) ++ (eL (Qq b))) : List (List PV)).length : Int) = .i (((Qq a_).length + (Qq b).length) : Int) from by simp [Zc]) p0)))) ?_
 refine eqn [(13, .o 832 (Qq a_ ++ (Qq b)))] [13] [] [] (by rw [show ((eL (Qq a_)) ++ (eL (Qq b))) = (eL (Qq a_ ++ (Qq b))) from app_eL (rfl) (rfl)]; first | done | kernel_rfl) ?_
 refine blk (fun (k0 : Nat) (s0 : (List ByteArray)) => [(5, .o 147203 s0), (15, .i ((k0 : Nat) : Int))]) [5, 15] (fun k0 s0 => []) [] (fun (y0 : (List ByteArray)) => [(5, .o 147353 y0)]) [2, 3, 5, 13, 14, 15] (fun y0 => []) [2, 3] (fun (k0 : Nat) (s0 : (List ByteArray)) => (forN (implChangedAttrs_f0 a_ b) implChangedAttrs_e0 (Int.toNat (((Qq a_).length + (Qq b).length) : Int)) 0 []) = forN (implChangedAttrs_f0 a_ b) implChangedAttrs_e0 ((Int.toNat (((Qq a_).length + (Qq b).length) : Int)) - k0) k0 s0 ∧ List.length s0 ≤ k0) (fun (y0 : (List ByteArray)) => (forN (implChangedAttrs_f0 a_ b) implChangedAttrs_e0 (Int.toNat (((Qq a_).length + (Qq b).length) : Int)) 0 []) = .brk y0) (Int.toNat (((Qq a_).length + (Qq b).length) : Int)) [] (X2 [(512, 147203)] (by kernel_rfl)) ⟨rfl, (by simp)⟩ (fun k0 s0 hk0 hI0 => ?_) (fun k0 s0 hk0 hI0 => ?_) (fun y0 hD0 => ?_)
 ·
  have hA0_0 := hI0.2
  refine su Qc [(16, .b true)] [] [] [] (pe 0 (Q0 (decide_eq_true (p := ((k0 : Nat) : Int) < (((Qq a_).length + (Qq b).length) : Int)) (by omega))) p0) ?_
  refine Qg ?_
  refine ckT ?_
  refine Qo ?_
  refine Qg ?_
  refine Q6 ?_
  refine wT 13 0 (.own true 832) (Qq a_ ++ (Qq b)) (fun hw2 hl3 => ?_)
  have hx1 : (Qq a_ ++ (Qq b))[k0]? = some (nth (Qq a_ ++ (Qq b)) k0) := Xv (by first | omega | (rw [List.length_append]; omega))
  refine sn Qc [2, 3, 4, 5, 7, 13, 14, 15] [2, 3] (pN 0 hx1 p0) ?_
  refine tN Qc Z4 [2, 3, 4, 5, 7, 13, 14, 15, 25] [2, 3] (pc 2 (implGetAttr_a a_ (nth (Qq a_ ++ (Qq b)) k0)) (pc 5 (implGetAttr_a b (nth (Qq a_ ++ (Qq b)) k0)) p0)) ?_
  refine ck (!(((Xn a_ (nth (Qq a_ ++ (Qq b)) k0)).1 == (Xn b (nth (Qq a_ ++ (Qq b)) k0)).1) && (((Xn a_ (nth (Qq a_ ++ (Qq b)) k0)).2.1 == (Xn b (nth (Qq a_ ++ (Qq b)) k0)).2.1) && ((((Xn a_ (nth (Qq a_ ++ (Qq b)) k0)).2.2).toList == ((Xn b (nth (Qq a_ ++ (Qq b)) k0)).2.2).toList) && true)))) (fun h4 => ?_) (fun h4 => ?_)
  ·
   refine wT 5 0 (.own true 147203) s0 (fun hw5 hl6 => ?_)
   refine qu Qc [(5, .one (.slc (.own true 1856) 1 ((eL s0) ++ [[.s (nth (Qq a_ ++ (Qq b)) k0)]])))] [5, 16] [] [] (pa s0 [(nth (Qq a_ ++ (Qq b)) k0)] p0) ?_
   refine eqn [(5, .o 1856 (s0 ++ [(nth (Qq a_ ++ (Qq b)) k0)]))] [5] [] [] (by rw [show ((eL s0) ++ [[.s (nth (Qq a_ ++ (Qq b)) k0)]]) = (eL (s0 ++ [(nth (Qq a_ ++ (Qq b)) k0)])) from app_eL (rfl) (rfl)]; first | done | kernel_rfl) ?_
   refine rn Qc [2, 3, 4, 5, 13, 14, 15] [2, 3] (pe 0 (av_i (Qy k0 (by omega))) p0) ?_
   exact Exists.intro (s0 ++ [(nth (Qq a_ ++ (Qq b)) k0)]) (And.intro (X2 [(1856, 147203)] (by kernel_rfl)) ⟨forN_next hk0 (Xm h4 (rfl)) hI0.1, by first | omega | (simp; omega) | simp⟩)
  ·
   have h4n : (((Xn a_ (nth (Qq a_ ++ (Qq b)) k0)).1 == (Xn b (nth (Qq a_ ++ (Qq b)) k0)).1) && (((Xn a_ (nth (Qq a_ ++ (Qq b)) k0)).2.1 == (Xn b (nth (Qq a_ ++ (Qq b)) k0)).2.1) && ((((Xn a_ (nth (Qq a_ ++ (Qq b)) k0)).2.2).toList == ((Xn b (nth (Qq a_ ++ (Qq b)) k0)).2.2).toList) && true))) = true := Jd h4
   have h4nl : (((Xn a_ (nth (Qq a_ ++ (Qq b)) k0)).1 == (Xn b (nth (Qq a_ ++ (Qq b)) k0)).1)) = true := and_l h4n
   have h4nld := eq_of_beq h4nl
   have h4nr : ((((Xn a_ (nth (Qq a_ ++ (Qq b)) k0)).2.1 == (Xn b (nth (Qq a_ ++ (Qq b)) k0)).2.1) && ((((Xn a_ (nth (Qq a_ ++ (Qq b)) k0)).2.2).toList == ((Xn b (nth (Qq a_ ++ (Qq b)) k0)).2.2).toList) && true))) = true := and_r h4n
   have h4nrl : (((Xn a_ (nth (Qq a_ ++ (Qq b)) k0)).2.1 == (Xn b (nth (Qq a_ ++ (Qq b)) k0)).2.1)) = true := and_l h4nr
   have h4nrld := eq_of_beq h4nrl
   refine Qo ?_
   refine qu Qc [(15, .i ((k0 + 1 : Nat) : Int))] [15, 16] [] [] (pe 0 (av_i (Qy k0 (by omega))) p0) ?_
   exact Exists.intro s0 (And.intro (Qf (by kernel_rfl)) ⟨forN_next hk0 (Qz h4 (rfl)) hI0.1, by first | omega | (simp; omega) | simp⟩)
 ·
  have hA0_0 := hI0.2
  refine su Qc [(16, .b false)] [] [] [] (pe 0 (Q0 (decide_eq_false (p := ((k0 : Nat) : Int) < (((Qq a_).length + (Qq b).length) : Int)) (by omega))) p0) ?_
  refine Qg ?_
  refine ckF ?_
  refine Xc ?_
  exact Exists.intro _ (And.intro (X2 [(147203, 147353)] (by kernel_rfl)) (forN_end hk0 (rfl) hI0.1))
 ·
  refine sn Qc [4] [] (pc 1 (sortedOnce_p y0) p0) ?_
  refine Qp ?_
  exact Ye [] (congrArg (fun z => (.h z : AV)) (show implChangedAttrs a_ b = _ from on_b hD0 (rfl)).symm)
def implQueryAttrs_f0 (_ : Nat) (a0 : Xa) (s0 : (List ByteArray)) : Rd ((List ByteArray)) ((List ByteArray)) ((List ByteArray)) := (bif ((a0.1 == (2 : Int)) || ((a0.1 == (3 : Int)) || (a0.1 == (4 : Int)))) then (.next (s0 ++ [a0.2.2.2.1])) else (.next s0))
def implQueryAttrs_e0 (_ : Nat) (s0 : (List ByteArray)) : (List ByteArray) := s0
def implQueryAttrs (q : (List Xa)) : (List ByteArray) := (Out.on (Xg implQueryAttrs_f0 implQueryAttrs_e0 q 0 []) (fun y0 => (putAllS [] y0)))
theorem implQueryAttrs_a (q : (List Xa)) : ACalls Tryz.prog 256 [.h q] (.h (implQueryAttrs q)) := by
 refine en Qc Tryz.func256 fun w0 F0 hG => ?_
 refine sn Qc [0, 2] [] (p0) ?_
 refine tn Qc [0, 2, 3] [] (p0) ?_
 refine Qg ?_
 refine tu Qc [(2, .e 0), (3, .one (.slc (.own true 384) 1 [])), (7, .h q), (8, .i (q.length : Int)), (9, .i 0)] [0] [] [] (pl 1 q p0) ?_
 refine wT 7 0 .sh q (fun hw1 hl2 => ?_)
 refine blk (fun (k0 : Nat) (s0 : (List ByteArray)) => [(3, .o 147201 s0), (9, .i ((k0 : Nat) : Int))]) [3, 9] (fun k0 s0 => []) [] (fun (y0 : (List ByteArray)) => [(3, .o 147351 y0)]) [3, 7, 8, 9] (fun y0 => []) [] (fun (k0 : Nat) (s0 : (List ByteArray)) => (Xg implQueryAttrs_f0 implQueryAttrs_e0 q 0 []) = Xg implQueryAttrs_f0 implQueryAttrs_e0 (List.drop k0 q) k0 s0 ∧ List.length s0 ≤ k0) (fun (y0 : (List ByteArray)) => (Xg implQueryAttrs_f0 implQueryAttrs_e0 q 0 []) = .brk y0) q.length [] (X2 [(384, 147201)] (by kernel_rfl)) ⟨rfl, (by simp)⟩ (fun k0 s0 hk0 hI0 => ?_) (fun k0 s0 hk0 hI0 => ?_) (fun y0 hD0 => ?_)
 ·
  have hA0_0 := hI0.2
  obtain ⟨a0, hx0⟩ := Xq (l := q) (i := k0) hk0
  refine sn Qc [2, 3, 7, 8, 9, 10] [] (pe 0 (Q0 (decide_eq_true (p := ((k0 : Nat) : Int) < (q.length : Int)) (by omega))) p0) ?_
  refine Qg ?_
  refine ckT ?_
  refine Qo ?_
  refine Qg ?_
  refine Q6 ?_
  refine tn Qc [2, 3, 5, 7, 8, 9] [5] (pn 0 hx0 p0) ?_
  refine Qg ?_
  refine mz [(5, .p 5 0)] [] [(5, [.i a0.1, .i a0.2.1, .i a0.2.2.1, .s a0.2.2.2.1, .i a0.2.2.2.2.1, .i a0.2.2.2.2.2.1, .s a0.2.2.2.2.2.2])] [] ?_
  refine jn [(25, .b ((a0.1 == (2 : Int)) || ((a0.1 == (3 : Int)) || (a0.1 == (4 : Int)))))] [] [] [] (a0.1 == (2 : Int)) (fun h3 => ?_) (fun h3 => ?_) ?_
  ·
   refine ru Qc [(25, .b true)] [] [] [] (pt 2 h3 p0) ?_
   exact ⟨rfl, Qf (by rw [h3]; first | done | kernel_rfl)⟩
  ·
   refine Xw (a0.1 == (3 : Int)) (fun h4 => ?_) (fun h4 => ?_)
   ·
    refine ru Qc [(25, .b true)] [] [] [] (pf 2 h3 (pt 6 h4 p0)) ?_
    exact ⟨rfl, Qf (by rw [h3, h4]; first | done | kernel_rfl)⟩
   ·
    refine rn Qc [2, 3, 5, 7, 8, 9, 25] [5] (pf 2 h3 (pf 6 h4 p0)) ?_
    exact ⟨rfl, Qf (by rw [h3, h4]; first | done | kernel_rfl)⟩
  refine ck ((a0.1 == (2 : Int)) || ((a0.1 == (3 : Int)) || (a0.1 == (4 : Int)))) (fun h5 => ?_) (fun h5 => ?_)
  ·
   refine wT 3 0 (.own true 147201) s0 (fun hw6 hl7 => ?_)
   refine ru Qc [(3, .one (.slc (.own true 1920) 1 ((eL s0) ++ [[.s a0.2.2.2.1]])))] [3, 5, 25] [] [5] (pa s0 [a0.2.2.2.1] p0) ?_
   refine eqn [(3, .o 1920 (s0 ++ [a0.2.2.2.1]))] [3] [] [] (by rw [show ((eL s0) ++ [[.s a0.2.2.2.1]]) = (eL (s0 ++ [a0.2.2.2.1])) from app_eL (rfl) (rfl)]; first | done | kernel_rfl) ?_
   refine rn Qc [2, 3, 7, 8, 9] [] (pe 0 (av_i (Qy k0 (by omega))) p0) ?_
   exact Exists.intro (s0 ++ [a0.2.2.2.1]) (And.intro (X2 [(1920, 147201)] (by kernel_rfl)) ⟨Q4 hx0 (Xm h5 (rfl)) hI0.1, by first | omega | (simp; omega) | simp⟩)
  ·
   have h5l : ((a0.1 == (2 : Int))) = false := or_l h5
   have h5ld := Zd h5l
   have h5r : (((a0.1 == (3 : Int)) || (a0.1 == (4 : Int)))) = false := or_r h5
   have h5rl : ((a0.1 == (3 : Int))) = false := or_l h5r
   have h5rld := Zd h5rl
   have h5rr : ((a0.1 == (4 : Int))) = false := or_r h5r
   have h5rrd := Zd h5rr
   refine Qo ?_
   refine rn Qc [2, 3, 7, 8, 9] [] (pe 0 (av_i (Qy k0 (by omega))) p0) ?_
   exact Exists.intro s0 (And.intro (Qf (by kernel_rfl)) ⟨Q4 hx0 (Qz h5 (rfl)) hI0.1, by first | omega | (simp; omega) | simp⟩)
 ·
  have hA0_0 := hI0.2
  refine sn Qc [2, 3, 7, 8, 9, 10] [] (pe 0 (Q0 (decide_eq_false (p := ((k0 : Nat) : Int) < (q.length : Int)) (by omega))) p0) ?_
  refine Qg ?_
  refine ckF ?_
  refine Xc ?_
  exact Exists.intro _ (And.intro (X2 [(147201, 147351)] (by kernel_rfl)) (Xr hk0 (rfl) hI0.1))
 ·
  refine sn Qc [2] [] (pc 1 (sortedOnce_p y0) p0) ?_
  refine Qp ?_
  exact Ye [] (congrArg (fun z => (.h z : AV)) (show implQueryAttrs q = _ from on_b hD0 (rfl)).symm)
def implDirectlyAffected_1 (name : ByteArray) (q0 : (List ByteArray)) : Bool := (Q7 q0 name)
theorem implDirectlyAffected_1_a (name : ByteArray) (q0 : (List ByteArray)) : ACalls Tryz.prog 258 [.s name, .one (.rptr .sh [.h q0])] (.b (implDirectlyAffected_1 name q0)) := by
 refine en Qc Tryz.func258 fun w0 F0 hG => ?_
 refine sn Qc [0, 1, 3] [] (p0) ?_
 refine tn Qc [3] [] (pc 2 (slicesContains_string_a q0 name) p0) ?_
 refine Qp ?_
 exact Ye [] (congrArg (fun z => (.b z : AV)) (show implDirectlyAffected_1 name q0 = (Q7 q0 name) from rfl).symm)
def Yi (c0 : (List ByteArray)) (k0 : Nat) (a0 : ByteArray) (_ : Unit) : Rd (Int) (Unit) (Unit) := (bif (implDirectlyAffected_1 a0 c0) then (.ret ((k0 : Nat) : Int)) else (.next ()))
def Yj (_ : Nat) (_ : Unit) : Unit := ()
def Yu (s_ : (List ByteArray)) (c0 : (List ByteArray)) : Int := (Out.on (Xg (Yi c0) Yj s_ 0 ()) (fun _ => -1))
theorem slicesIndexFunc_string_implDirectlyAffected_1_a (s_ : (List ByteArray)) (c0 : (List ByteArray)) : ACalls Tryz.prog 274 [.h s_, .one (.fnr 258 [[.h c0]])] (.i (Yu s_ c0)) := by
 refine en Qc Tryz.func274 fun w0 F0 hG => ?_
 refine sn Qc [0, 1, 4] [] (p0) ?_
 refine Qg ?_
 refine tn Qc [0, 1, 4, 7, 8] [] (pl 1 s_ p0) ?_
 refine mz [(4, .i 0), (7, .i (s_.length : Int)), (8, .i 0)] [] [] [] ?_
 refine wT 0 0 .sh s_ (fun hw1 hl2 => ?_)
 refine blk (fun (k0 : Nat) (s0 : Unit) => [(8, .i ((k0 : Nat) : Int))]) [8] (fun k0 s0 => []) [] (fun (y0 : Unit) => []) [0, 1, 7, 8] (fun y0 => []) [] (fun (k0 : Nat) (s0 : Unit) => (Xg (Yi c0) Yj s_ 0 ()) = Xg (Yi c0) Yj (List.drop k0 s_) k0 s0) (fun (y0 : Unit) => (Xg (Yi c0) Yj s_ 0 ()) = .brk y0) s_.length () (Qf (by kernel_rfl)) rfl (fun k0 s0 hk0 hI0 => ?_) (fun k0 s0 hk0 hI0 => ?_) (fun y0 hD0 => ?_)
 ·
  obtain ⟨a0, hx0⟩ := Xq (l := s_) (i := k0) hk0
  refine sn Qc [0, 1, 4, 7, 8, 9] [] (pe 0 (Q0 (decide_eq_true (p := ((k0 : Nat) : Int) < (s_.length : Int)) (by omega))) p0) ?_
  refine Qg ?_
  refine ckT ?_
  refine Qo ?_
  refine Qg ?_
  refine Q6 ?_
  refine tn Qc [0, 1, 4, 5, 7, 8] [] (p0) ?_
  refine tu Qc [(5, .i ((k0 : Nat) : Int)), (16, .b (implDirectlyAffected_1 a0 c0))] [] [] [] (pn 3 hx0 (pc 5 (implDirectlyAffected_1_a a0 c0) p0)) ?_
  refine ck (implDirectlyAffected_1 a0 c0) (fun h3 => ?_) (fun h3 => ?_)
  ·
   refine sn Qc [0, 1, 4, 7, 8] [] (p0) ?_
   refine Qp ?_
   have hr4 : (Xg (Yi c0) Yj s_ 0 ()) = .ret ((k0 : Nat) : Int) := Zw hx0 (Xm h3 (rfl)) hI0
   exact Ye [] (congrArg (fun z => (.i z : AV)) (show Yu s_ c0 = _ from on_r hr4).symm)
  ·
   refine Qo ?_
   refine rn Qc [0, 1, 4, 7, 8] [] (pe 0 (av_i (Qy k0 (by omega))) p0) ?_
   exact Exists.intro _ (And.intro (Qf (by kernel_rfl)) (Q4 hx0 (Qz h3 (rfl)) hI0))
 ·
  refine sn Qc [0, 1, 4, 7, 8, 9] [] (pe 0 (Q0 (decide_eq_false (p := ((k0 : Nat) : Int) < (s_.length : Int)) (by omega))) p0) ?_
  refine Qg ?_
  refine ckF ?_
  refine Xc ?_
  exact Exists.intro _ (And.intro (Qf (by kernel_rfl)) (Xr hk0 (rfl) hI0))
 ·
  refine sn Qc [4] [] (p0) ?_
  refine Qp ?_
  exact Ye [] (congrArg (fun z => (.i z : AV)) (show Yu s_ c0 = _ from on_b hD0 (rfl)).symm)
def Xu (s_ : (List ByteArray)) (c0 : (List ByteArray)) : Bool := decide ((Yu s_ c0) ≥ (0 : Int))
theorem slicesContainsFunc_string_implDirectlyAffected_1_a (s_ : (List ByteArray)) (c0 : (List ByteArray)) : ACalls Tryz.prog 257 [.h s_, .one (.fnr 258 [[.h c0]])] (.b (Xu s_ c0)) := by
 refine en Qc Tryz.func257 fun w0 F0 hG => ?_
 refine sn Qc [0, 1, 4] [] (p0) ?_
 refine tn Qc [4] [] (pc 2 (slicesIndexFunc_string_implDirectlyAffected_1_a s_ c0) p0) ?_
 refine Qp ?_
 exact Ye [] (congrArg (fun z => (.b z : AV)) (show Xu s_ c0 = decide ((Yu s_ c0) ≥ (0 : Int)) from rfl).symm)
def implDirectlyAffected_2 (n : Xa) : Bool := (n.1 == (9 : Int))
theorem implDirectlyAffected_2_a (n : Xa) : ACalls Tryz.prog 260 [.a [.i n.1, .i n.2.1, .i n.2.2.1, .s n.2.2.2.1, .i n.2.2.2.2.1, .i n.2.2.2.2.2.1, .s n.2.2.2.2.2.2]] (.b (implDirectlyAffected_2 n)) := by
 refine en Qc Tryz.func260 fun w0 F0 hG => ?_
 refine sn Qc [1, 2] [1] (p0) ?_
 refine tn Qc [2] [] (p0) ?_
 refine Qp ?_
 exact Ye [] (congrArg (fun z => (.b z : AV)) (show implDirectlyAffected_2 n = (n.1 == (9 : Int)) from rfl).symm)
def Yp (k0 : Nat) (a0 : Xa) (_ : Unit) : Rd (Int) (Unit) (Unit) := (bif (implDirectlyAffected_2 a0) then (.ret ((k0 : Nat) : Int)) else (.next ()))
def Yq (_ : Nat) (_ : Unit) : Unit := ()
def Y2 (s_ : (List Xa)) : Int := (Out.on (Xg Yp Yq s_ 0 ()) (fun _ => -1))
theorem slicesIndexFunc_Node_implDirectlyAffected_2_a (s_ : (List Xa)) : ACalls Tryz.prog 275 [.h s_, .one (.fnr 260 [])] (.i (Y2 s_)) := by
 refine en Qc Tryz.func275 fun w0 F0 hG => ?_
 refine sn Qc [0, 1, 4] [] (p0) ?_
 refine Qg ?_
 refine tn Qc [0, 1, 4, 7, 8] [] (pl 1 s_ p0) ?_
 refine mz [(4, .i 0), (7, .i (s_.length : Int)), (8, .i 0)] [] [] [] ?_
 refine wT 0 0 .sh s_ (fun hw1 hl2 => ?_)
 refine blk (fun (k0 : Nat) (s0 : Unit) => [(8, .i ((k0 : Nat) : Int))]) [8] (fun k0 s0 => []) [] (fun (y0 : Unit) => []) [0, 1, 7, 8] (fun y0 => []) [] (fun (k0 : Nat) (s0 : Unit) => (Xg Yp Yq s_ 0 ()) = Xg Yp Yq (List.drop k0 s_) k0 s0) (fun (y0 : Unit) => (Xg Yp Yq s_ 0 ()) = .brk y0) s_.length () (Qf (by kernel_rfl)) rfl (fun k0 s0 hk0 hI0 => ?_) (fun k0 s0 hk0 hI0 => ?_) (fun y0 hD0 => ?_)
 ·
  obtain ⟨a0, hx0⟩ := Xq (l := s_) (i := k0) hk0
  refine sn Qc [0, 1, 4, 7, 8, 9] [] (pe 0 (Q0 (decide_eq_true (p := ((k0 : Nat) : Int) < (s_.length : Int)) (by omega))) p0) ?_
  refine Qg ?_
  refine ckT ?_
  refine Qo ?_
  refine Qg ?_
  refine Q6 ?_
  refine tn Qc [0, 1, 4, 5, 7, 8] [] (p0) ?_
  refine tu Qc [(5, .i ((k0 : Nat) : Int)), (16, .b (implDirectlyAffected_2 a0))] [] [] [] (pn 3 hx0 (pc 5 (implDirectlyAffected_2_a a0) p0)) ?_
  refine ck (implDirectlyAffected_2 a0) (fun h3 => ?_) (fun h3 => ?_)
  ·
   refine sn Qc [0, 1, 4, 7, 8] [] (p0) ?_
   refine Qp ?_
   have hr4 : (Xg Yp Yq s_ 0 ()) = .ret ((k0 : Nat) : Int) := Zw hx0 (Xm h3 (rfl)) hI0
   exact Ye [] (congrArg (fun z => (.i z : AV)) (show Y2 s_ = _ from on_r hr4).symm)
  ·
   refine Qo ?_
   refine rn Qc [0, 1, 4, 7, 8] [] (pe 0 (av_i (Qy k0 (by omega))) p0) ?_
   exact Exists.intro _ (And.intro (Qf (by kernel_rfl)) (Q4 hx0 (Qz h3 (rfl)) hI0))
 ·
  refine sn Qc [0, 1, 4, 7, 8, 9] [] (pe 0 (Q0 (decide_eq_false (p := ((k0 : Nat) : Int) < (s_.length : Int)) (by omega))) p0) ?_
  refine Qg ?_
  refine ckF ?_
  refine Xc ?_
  exact Exists.intro _ (And.intro (Qf (by kernel_rfl)) (Xr hk0 (rfl) hI0))
 ·
  refine sn Qc [4] [] (p0) ?_
  refine Qp ?_
  exact Ye [] (congrArg (fun z => (.i z : AV)) (show Y2 s_ = _ from on_b hD0 (rfl)).symm)
def Xx (s_ : (List Xa)) : Bool := decide ((Y2 s_) ≥ (0 : Int))
theorem slicesContainsFunc_Node_implDirectlyAffected_2_a (s_ : (List Xa)) : ACalls Tryz.prog 259 [.h s_, .one (.fnr 260 [])] (.b (Xx s_)) := by
 refine en Qc Tryz.func259 fun w0 F0 hG => ?_
 refine sn Qc [0, 1, 4] [] (p0) ?_
 refine tn Qc [4] [] (pc 2 (slicesIndexFunc_Node_implDirectlyAffected_2_a s_) p0) ?_
 refine Qp ?_
 exact Ye [] (congrArg (fun z => (.b z : AV)) (show Xx s_ = decide ((Y2 s_) ≥ (0 : Int)) from rfl).symm)
def implDirectlyAffected_f0 (before : Xt) (after : Xt) (_ : Nat) (a0 : X1) (s0 : (List ByteArray)) : Rd ((List ByteArray)) ((List ByteArray)) ((List ByteArray)) := (bif ((Xu (implChangedAttrs before after) (implQueryAttrs a0.2)) || ((Xx a0.2) && (before.2.2.2.1 != after.2.2.2.1))) then (.next (s0 ++ [a0.1])) else (.next s0))
def implDirectlyAffected_e0 (_ : Nat) (s0 : (List ByteArray)) : (List ByteArray) := s0
def implDirectlyAffected (d : (List X1)) (before : Xt) (after : Xt) : (List ByteArray) := (bif (before.1 != after.1) then (implDirNames d) else (Out.on (Xg (implDirectlyAffected_f0 before after) implDirectlyAffected_e0 d 0 []) (fun y0 => y0)))
theorem directly_go (a b : Xt) : ∀ (l : List X1) (k : Nat) (s : List ByteArray), ∃ s', Xg (implDirectlyAffected_f0 a b) implDirectlyAffected_e0 l k s = .brk s' ∧ s'.length ≤ s.length + l.length
 | [], k, s => ⟨s, rfl, by simp⟩
 | x :: l, k, s => by
  simp only [Xg, implDirectlyAffected_f0]
  generalize (_ || _ : Bool) = c
  cases c with
  | true => obtain ⟨s', h1, h2⟩ := directly_go a b l (k + 1) (s ++ [x.1]); exact ⟨s', h1, by simp at h2 ⊢; omega⟩
  | false => obtain ⟨s', h1, h2⟩ := directly_go a b l (k + 1) s; exact ⟨s', h1, by simp at h2 ⊢; omega⟩
theorem directly_len (d : List X1) (a b : Xt) : (implDirectlyAffected d a b).length ≤ d.length := by
 unfold implDirectlyAffected
 obtain ⟨s', h1, h2⟩ := directly_go a b d 0 []
 rw [h1, dirNames_eq]
 generalize (a.1 != b.1) = c
 cases c with
 | true => simp
 | false => exact (by simpa using h2 : s'.length ≤ d.length)
theorem implDirectlyAffected_a (d : (List X1)) (before : Xt) (after : Xt) (hp : (List.length before.2.2.2.2 : Int) + List.length after.2.2.2.2 ≤ 1073741000) : ACalls Tryz.prog 226 [.h d, .a [.i before.1, .i before.2.1, .b before.2.2.1, .i before.2.2.2.1, .h before.2.2.2.2], .a [.i after.1, .i after.2.1, .b after.2.2.1, .i after.2.2.2.1, .h after.2.2.2.2]] (.o 0 (implDirectlyAffected d before after)) := by
 refine en Qc Tryz.func226 fun w0 F0 hG => ?_
 refine sn Qc [0, 4, 5, 6] [4, 5] (p0) ?_
 refine Qg ?_
 refine tn Qc [0, 4, 5, 6, 18] [4, 5] (p0) ?_
 refine ck (before.1 != after.1) (fun h1 => ?_) (fun h1 => ?_)
 ·
  refine tu Qc [(4, .p 4 0), (5, .p 5 0), (6, .o 1280 (implDirNames d))] [1, 2] [(4, [.i before.1, .i before.2.1, .b before.2.2.1, .i before.2.2.2.1, .h before.2.2.2.2]), (5, [.i after.1, .i after.2.1, .b after.2.2.1, .i after.2.2.2.1, .h after.2.2.2.2])] [] (pc 1 (implDirNames_a d) p0) ?_
  refine Qp ?_
  exact Ye [] (congrArg (fun z => (.o 0 z : AV)) (show implDirectlyAffected d before after = _ from Xm h1 (rfl)).symm)
 ·
  have h1d := eq_of_bne h1
  refine Qo ?_
  refine tu Qc [(4, .p 4 0), (5, .p 5 0), (6, .e 0), (7, .h (implChangedAttrs before after))] [1, 2] [(4, [.i before.1, .i before.2.1, .b before.2.2.1, .i before.2.2.2.1, .h before.2.2.2.2]), (5, [.i after.1, .i after.2.1, .b after.2.2.1, .i after.2.2.2.1, .h after.2.2.2.2])] [] (pc 2 (implChangedAttrs_a before after (by first | omega | (simp; omega))) p0) ?_
  refine sn Qc [0, 4, 5, 6, 7, 8] [4, 5] (p0) ?_
  refine Qg ?_
  refine tn Qc [4, 5, 6, 7, 8, 25, 26, 27] [4, 5] (pl 1 d p0) ?_
  refine mz [(8, .one (.slc (.own true 1536) 1 [])), (25, .h d), (26, .i (d.length : Int)), (27, .i 0)] [0] [] [] ?_
  refine wT 25 0 .sh d (fun hw2 hl3 => ?_)
  refine blk (fun (k0 : Nat) (s0 : (List ByteArray)) => [(8, .o 147204 s0), (27, .i ((k0 : Nat) : Int))]) [8, 27] (fun k0 s0 => []) [] (fun (y0 : (List ByteArray)) => [(8, .o 147354 y0)]) [4, 5, 7, 8, 25, 26, 27] (fun y0 => []) [4, 5] (fun (k0 : Nat) (s0 : (List ByteArray)) => (Xg (implDirectlyAffected_f0 before after) implDirectlyAffected_e0 d 0 []) = Xg (implDirectlyAffected_f0 before after) implDirectlyAffected_e0 (List.drop k0 d) k0 s0 ∧ List.length s0 ≤ k0) (fun (y0 : (List ByteArray)) => (Xg (implDirectlyAffected_f0 before after) implDirectlyAffected_e0 d 0 []) = .brk y0) d.length [] (X2 [(1536, 147204)] (by kernel_rfl)) ⟨rfl, (by simp)⟩ (fun k0 s0 hk0 hI0 => ?_) (fun k0 s0 hk0 hI0 => ?_) (fun y0 hD0 => ?_)
  ·
   have hA0_0 := hI0.2
   obtain ⟨a0, hx0⟩ := Xq (l := d) (i := k0) hk0
   refine su Qc [(28, .b true)] [] [] [] (pe 0 (Q0 (decide_eq_true (p := ((k0 : Nat) : Int) < (d.length : Int)) (by omega))) p0) ?_
   refine Qg ?_
   refine ckT ?_
   refine Qo ?_
   refine Qg ?_
   refine Q6 ?_
   refine sn Qc [4, 5, 6, 7, 8, 10, 25, 26, 27] [4, 5, 10] (pn 0 hx0 p0) ?_
   refine tn Qc [4, 5, 6, 7, 8, 10, 11, 25, 26, 27] [4, 5, 10, 11] (pc 2 (implQueryAttrs_a a0.2) p0) ?_
   refine tu Qc [(10, .p 10 0), (12, .b (Xu (implChangedAttrs before after) (implQueryAttrs a0.2)))] [28] [(10, [.s a0.1, .h a0.2])] [] (pc 2 (slicesContainsFunc_string_implDirectlyAffected_1_a (implChangedAttrs before after) (implQueryAttrs a0.2)) p0) ?_
   refine sn Qc [4, 5, 6, 7, 8, 10, 12, 13, 25, 26, 27] [4, 5, 10] (pc 2 (slicesContainsFunc_Node_implDirectlyAffected_2_a a0.2) p0) ?_
   refine Qg ?_
   refine mz [(13, .b (Xx a0.2))] [] [] [] ?_
   refine jn [(50, .b ((Xu (implChangedAttrs before after) (implQueryAttrs a0.2)) || ((Xx a0.2) && (before.2.2.2.1 != after.2.2.2.1))))] [12, 13] [] [] (Xu (implChangedAttrs before after) (implQueryAttrs a0.2)) (fun h4 => ?_) (fun h4 => ?_) ?_
   ·
    refine ru Qc [(50, .b true)] [12, 13] [] [] (pt 0 h4 p0) ?_
    exact ⟨rfl, Qf (by rw [h4]; first | done | kernel_rfl)⟩
   ·
    refine Xw (Xx a0.2) (fun h5 => ?_) (fun h5 => ?_)
    ·
     refine rn Qc [4, 5, 6, 7, 8, 10, 25, 26, 27, 50] [4, 5, 10] (pf 0 h4 (pt 2 h5 p0)) ?_
     exact ⟨rfl, Qf (by rw [h4, h5]; first | done | kernel_rfl)⟩
    ·
     refine ru Qc [(50, .b false)] [12, 13] [] [] (pf 0 h4 (pf 2 h5 p0)) ?_
     exact ⟨rfl, Qf (by rw [h4, h5]; first | done | kernel_rfl)⟩
   refine ck ((Xu (implChangedAttrs before after) (implQueryAttrs a0.2)) || ((Xx a0.2) && (before.2.2.2.1 != after.2.2.2.1))) (fun h6 => ?_) (fun h6 => ?_)
   ·
    refine wT 8 0 (.own true 147204) s0 (fun hw7 hl8 => ?_)
    refine ru Qc [(8, .one (.slc (.own true 3520) 1 ((eL s0) ++ [[.s a0.1]])))] [8, 10, 50] [] [10] (pa s0 [a0.1] p0) ?_
    refine eqn [(8, .o 3520 (s0 ++ [a0.1]))] [8] [] [] (by rw [show ((eL s0) ++ [[.s a0.1]]) = (eL (s0 ++ [a0.1])) from app_eL (rfl) (rfl)]; first | done | kernel_rfl) ?_
    refine rn Qc [4, 5, 6, 7, 8, 25, 26, 27] [4, 5] (pe 0 (av_i (Qy k0 (by omega))) p0) ?_
    exact Exists.intro (s0 ++ [a0.1]) (And.intro (X2 [(3520, 147204)] (by kernel_rfl)) ⟨Q4 hx0 (Xm h6 (rfl)) hI0.1, by first | omega | (simp; omega) | simp⟩)
   ·
    refine Qo ?_
    refine rn Qc [4, 5, 6, 7, 8, 25, 26, 27] [4, 5] (pe 0 (av_i (Qy k0 (by omega))) p0) ?_
    exact Exists.intro s0 (And.intro (Qf (by kernel_rfl)) ⟨Q4 hx0 (Qz h6 (rfl)) hI0.1, by first | omega | (simp; omega) | simp⟩)
  ·
   have hA0_0 := hI0.2
   refine su Qc [(28, .b false)] [] [] [] (pe 0 (Q0 (decide_eq_false (p := ((k0 : Nat) : Int) < (d.length : Int)) (by omega))) p0) ?_
   refine Qg ?_
   refine ckF ?_
   refine Xc ?_
   exact Exists.intro _ (And.intro (X2 [(147204, 147354)] (by kernel_rfl)) (Xr hk0 (rfl) hI0.1))
  ·
   refine sn Qc [6] [] (p0) ?_
   refine Qp ?_
   exact Ye [] (congrArg (fun z => (.o 0 z : AV)) (show implDirectlyAffected d before after = _ from Qz h1 (on_b hD0 (rfl))).symm)
def implAffectedDirs (d : (List X1)) (before : Xt) (after : Xt) : (List ByteArray) := (implTransitiveDependents d (implDirectlyAffected d before after))
theorem implAffectedDirs_a (d : (List X1)) (before : Xt) (after : Xt) (hp : (List.length before.2.2.2.2 : Int) + List.length after.2.2.2.2 ≤ 1073741000) (hd : List.length d ≤ 1000) : ACalls Tryz.prog 176 [.h d, .a [.i before.1, .i before.2.1, .b before.2.2.1, .i before.2.2.2.1, .h before.2.2.2.2], .a [.i after.1, .i after.2.1, .b after.2.2.1, .i after.2.2.2.1, .h after.2.2.2.2]] (.h (implAffectedDirs d before after)) := by
 refine en Qc Tryz.func176 fun w0 F0 hG => ?_
 have hdl := directly_len d before after
 refine sn Qc [0, 4, 5, 6] [4, 5] (p0) ?_
 refine tn Qc [6] [] (pc 4 (implDirectlyAffected_a d before after (by first | omega | (simp; omega))) (pc 5 (implTransitiveDependents_a d (implDirectlyAffected d before after) (by first | omega | (simp; omega))) p0)) ?_
 refine Qp ?_
 exact Ye [] (congrArg (fun z => (.h z : AV)) (show implAffectedDirs d before after = (implTransitiveDependents d (implDirectlyAffected d before after)) from rfl).symm)
def Za (a_ : (List Int)) (b : (List Int)) : (List Int) × (List Int) := ((implwithout b a_), (implwithout a_ b))
theorem implDiffIDs_a (a_ : (List Int)) (b : (List Int)) : ACalls Tryz.prog 76 [.h a_, .h b] (.tup [(false, [.o 0 (((Za a_ b)).1)]), (false, [.o 1 (((Za a_ b)).2)])]) := by
 refine en Qc Tryz.func76 fun w0 F0 hG => ?_
 refine sn Qc [0, 1, 4, 5] [] (p0) ?_
 refine tn Qc [4, 5] [] (pc 2 (implwithout_a b a_) (pc 5 (implwithout_a a_ b) p0)) ?_
 refine Qp ?_
 exact Ye [] (congrArg (fun z => (.tup [(false, [.o 0 z.1]), (false, [.o 1 z.2])] : AV)) (show Za a_ b = ((implwithout b a_), (implwithout a_ b)) from rfl).symm)
def implDiffResults_f0 (a_ : (List Qs)) (_ : Nat) (a0 : Qs) (s0 : (List DiffD)) : Rd ((List DiffD)) ((List DiffD)) ((List DiffD)) := (bif decide (IntKind.i64.wrap (((((Za (Q9 a_ a0.1) a0.2)).1).length : Int) + ((((Za (Q9 a_ a0.1) a0.2)).2).length : Int)) > (0 : Int)) then (.next (s0 ++ [(a0.1, ((Za (Q9 a_ a0.1) a0.2)).1, ((Za (Q9 a_ a0.1) a0.2)).2)])) else (.next s0))
def implDiffResults_e0 (_ : Nat) (s0 : (List DiffD)) : (List DiffD) := s0
def implDiffResults (a_ : (List Qs)) (b : (List Qs)) : (List DiffD) := (Out.on (Xg (implDiffResults_f0 a_) implDiffResults_e0 b 0 []) (fun y0 => y0))
theorem implDiffResults_a (a_ : (List Qs)) (b : (List Qs)) : ACalls Tryz.prog 37 [.h a_, .h b] (.o 0 (implDiffResults a_ b)) := by
 refine en Qc Tryz.func37 fun w0 F0 hG => ?_
 refine sn Qc [0, 1, 4] [] (p0) ?_
 refine tn Qc [0, 1, 4, 5] [] (p0) ?_
 refine Qg ?_
 refine tu Qc [(4, .e 0), (5, .one (.slc (.own true 640) 3 [])), (11, .h b), (12, .i (b.length : Int)), (13, .i 0)] [1] [] [] (pl 1 b p0) ?_
 refine wT 11 0 .sh b (fun hw1 hl2 => ?_)
 refine blk (fun (k0 : Nat) (s0 : (List DiffD)) => [(5, .o 147202 s0), (13, .i ((k0 : Nat) : Int))]) [5, 13] (fun k0 s0 => []) [] (fun (y0 : (List DiffD)) => [(5, .o 147352 y0)]) [0, 5, 11, 12, 13] (fun y0 => []) [] (fun (k0 : Nat) (s0 : (List DiffD)) => (Xg (implDiffResults_f0 a_) implDiffResults_e0 b 0 []) = Xg (implDiffResults_f0 a_) implDiffResults_e0 (List.drop k0 b) k0 s0 ∧ List.length s0 ≤ k0) (fun (y0 : (List DiffD)) => (Xg (implDiffResults_f0 a_) implDiffResults_e0 b 0 []) = .brk y0) b.length [] (X2 [(640, 147202)] (by kernel_rfl)) ⟨rfl, (by simp)⟩ (fun k0 s0 hk0 hI0 => ?_) (fun k0 s0 hk0 hI0 => ?_) (fun y0 hD0 => ?_)
 ·
  have hA0_0 := hI0.2
  obtain ⟨a0, hx0⟩ := Xq (l := b) (i := k0) hk0
  refine su Qc [(14, .b true)] [] [] [] (pe 0 (Q0 (decide_eq_true (p := ((k0 : Nat) : Int) < (b.length : Int)) (by omega))) p0) ?_
  refine Qg ?_
  refine ckT ?_
  refine Qo ?_
  refine Qg ?_
  refine Q6 ?_
  refine sn Qc [0, 4, 5, 7, 11, 12, 13] [7] (pn 0 hx0 p0) ?_
  refine tN Qc Z4 [0, 4, 5, 7, 8, 9, 11, 12, 13] [7] (pc 3 (implResultIDs_a a_ a0.1) (pc 6 (implDiffIDs_a (Q9 a_ a0.1) a0.2) p0)) ?_
  refine tu Qc [(7, .p 7 0), (8, .o 1536 (((Za (Q9 a_ a0.1) a0.2)).1)), (9, .o 1537 (((Za (Q9 a_ a0.1) a0.2)).2)), (32, .b (decide (IntKind.i64.wrap (((((Za (Q9 a_ a0.1) a0.2)).1).length : Int) + ((((Za (Q9 a_ a0.1) a0.2)).2).length : Int)) > (0 : Int))))] [14] [(7, [.s a0.1, .h a0.2])] [] (pl 1 (((Za (Q9 a_ a0.1) a0.2)).1) (pl 3 (((Za (Q9 a_ a0.1) a0.2)).2) p0)) ?_
  refine ck (decide (IntKind.i64.wrap (((((Za (Q9 a_ a0.1) a0.2)).1).length : Int) + ((((Za (Q9 a_ a0.1) a0.2)).2).length : Int)) > (0 : Int))) (fun h3 => ?_) (fun h3 => ?_)
  ·
   have h3d := of_decide_eq_true h3
   refine wT 5 0 (.own true 147202) s0 (fun hw4 hl5 => ?_)
   refine ru Qc [(5, .one (.slc (.own true 2560) 3 ((eL s0) ++ [[.s a0.1, .h (((Za (Q9 a_ a0.1) a0.2)).1), .h (((Za (Q9 a_ a0.1) a0.2)).2)]])))] [5, 7, 8, 9, 32] [] [7] (pa s0 [(a0.1, ((Za (Q9 a_ a0.1) a0.2)).1, ((Za (Q9 a_ a0.1) a0.2)).2)] p0) ?_
   refine eqn [(5, .o 2560 (s0 ++ [(a0.1, ((Za (Q9 a_ a0.1) a0.2)).1, ((Za (Q9 a_ a0.1) a0.2)).2)]))] [5] [] [] (by rw [show ((eL s0) ++ [[.s a0.1, .h (((Za (Q9 a_ a0.1) a0.2)).1), .h (((Za (Q9 a_ a0.1) a0.2)).2)]]) = (eL (s0 ++ [(a0.1, ((Za (Q9 a_ a0.1) a0.2)).1, ((Za (Q9 a_ a0.1) a0.2)).2)])) from app_eL (rfl) (rfl)]; first | done | kernel_rfl) ?_
   refine rn Qc [0, 4, 5, 11, 12, 13] [] (pe 0 (av_i (Qy k0 (by omega))) p0) ?_
   exact Exists.intro (s0 ++ [(a0.1, ((Za (Q9 a_ a0.1) a0.2)).1, ((Za (Q9 a_ a0.1) a0.2)).2)]) (And.intro (X2 [(2560, 147202)] (by kernel_rfl)) ⟨Q4 hx0 (Xm h3 (rfl)) hI0.1, by first | omega | (simp; omega) | simp⟩)
  ·
   have h3d := of_decide_eq_false h3
   refine Qo ?_
   refine rn Qc [0, 4, 5, 11, 12, 13] [] (pe 0 (av_i (Qy k0 (by omega))) p0) ?_
   exact Exists.intro s0 (And.intro (Qf (by kernel_rfl)) ⟨Q4 hx0 (Qz h3 (rfl)) hI0.1, by first | omega | (simp; omega) | simp⟩)
 ·
  have hA0_0 := hI0.2
  refine su Qc [(14, .b false)] [] [] [] (pe 0 (Q0 (decide_eq_false (p := ((k0 : Nat) : Int) < (b.length : Int)) (by omega))) p0) ?_
  refine Qg ?_
  refine ckF ?_
  refine Xc ?_
  exact Exists.intro _ (And.intro (X2 [(147202, 147352)] (by kernel_rfl)) (Xr hk0 (rfl) hI0.1))
 ·
  refine sn Qc [4] [] (p0) ?_
  refine Qp ?_
  exact Ye [] (congrArg (fun z => (.o 0 z : AV)) (show implDiffResults a_ b = _ from on_b hD0 (rfl)).symm)
def implEqualResults_1 (x : Qs) (y_ : Qs) : Bool := ((x.1.toList == y_.1.toList) && (Zy x.2 y_.2))
theorem implEqualResults_1_a (x : Qs) (y_ : Qs) : ACalls Tryz.prog 218 [.a [.s x.1, .h x.2], .a [.s y_.1, .h y_.2]] (.b (implEqualResults_1 x y_)) := by
 refine en Qc Tryz.func218 fun w0 F0 hG => ?_
 refine sn Qc [2, 3, 4] [2, 3] (p0) ?_
 refine Qg ?_
 refine mz [(2, .p 2 0), (3, .p 3 0), (4, .b false)] [0, 1] [(2, [.s x.1, .h x.2]), (3, [.s y_.1, .h y_.2])] [] ?_
 refine jn [(4, .b ((x.1.toList == y_.1.toList) && (Zy x.2 y_.2)))] [2, 3, 4] [] [2, 3] (x.1.toList == y_.1.toList) (fun h1 => ?_) (fun h1 => ?_) ?_
 ·
  refine rn Qc [4] [] (pt 4 h1 (pc 10 (slicesEqual_int_a x.2 y_.2) p0)) ?_
  exact ⟨rfl, Qf (by rw [h1]; first | done | kernel_rfl)⟩
 ·
  refine rn Qc [4] [] (pf 4 h1 p0) ?_
  exact ⟨rfl, Qf (by rw [h1]; first | done | kernel_rfl)⟩
 refine Qp ?_
 exact Ye [] (congrArg (fun z => (.b z : AV)) (show implEqualResults_1 x y_ = ((x.1.toList == y_.1.toList) && (Zy x.2 y_.2)) from rfl).symm)
def Yw (s2_ : (List Qs)) (k0 : Nat) (a0 : Qs) (_ : Unit) : Rd (Bool) (Unit) (Unit) := (bif (!(implEqualResults_1 a0 (nth s2_ k0))) then (.ret false) else (.next ()))
def Yx (_ : Nat) (_ : Unit) : Unit := ()
def Yk (s1_ : (List Qs)) (s2_ : (List Qs)) : Bool := (bif ((s1_.length : Int) != (s2_.length : Int)) then false else (Out.on (Xg (Yw s2_) Yx s1_ 0 ()) (fun _ => true)))
theorem slicesEqualFunc_Result_implEqualResults_1_a (s1_ : (List Qs)) (s2_ : (List Qs)) : ACalls Tryz.prog 217 [.h s1_, .h s2_, .one (.fnr 218 [])] (.b (Yk s1_ s2_)) := by
 refine en Qc Tryz.func217 fun w0 F0 hG => ?_
 refine sn Qc [0, 1, 2, 6] [] (p0) ?_
 refine Qg ?_
 refine tn Qc [0, 1, 2, 6, 14] [] (pl 1 s1_ (pl 3 s2_ p0)) ?_
 refine ck ((s1_.length : Int) != (s2_.length : Int)) (fun h1 => ?_) (fun h1 => ?_)
 ·
  refine tu Qc [(6, .b false)] [] [] [] (p0) ?_
  refine Qp ?_
  exact Ye [] (congrArg (fun z => (.b z : AV)) (show Yk s1_ s2_ = _ from Xm h1 (rfl)).symm)
 ·
  have h1d := eq_of_bne h1
  refine Qo ?_
  refine Qg ?_
  refine tu Qc [(6, .b false), (15, .h s1_), (16, .i (s1_.length : Int)), (17, .i 0)] [0] [] [] (pl 1 s1_ p0) ?_
  refine wT 15 0 .sh s1_ (fun hw2 hl3 => ?_)
  refine blk (fun (k0 : Nat) (s0 : Unit) => [(17, .i ((k0 : Nat) : Int))]) [17] (fun k0 s0 => []) [] (fun (y0 : Unit) => []) [1, 2, 15, 16, 17] (fun y0 => []) [] (fun (k0 : Nat) (s0 : Unit) => (Xg (Yw s2_) Yx s1_ 0 ()) = Xg (Yw s2_) Yx (List.drop k0 s1_) k0 s0) (fun (y0 : Unit) => (Xg (Yw s2_) Yx s1_ 0 ()) = .brk y0) s1_.length () (Qf (by kernel_rfl)) rfl (fun k0 s0 hk0 hI0 => ?_) (fun k0 s0 hk0 hI0 => ?_) (fun y0 hD0 => ?_)
  ·
   obtain ⟨a0, hx0⟩ := Xq (l := s1_) (i := k0) hk0
   refine su Qc [(18, .b true)] [] [] [] (pe 0 (Q0 (decide_eq_true (p := ((k0 : Nat) : Int) < (s1_.length : Int)) (by omega))) p0) ?_
   refine Qg ?_
   refine ckT ?_
   refine Qo ?_
   refine Qg ?_
   refine Q6 ?_
   refine sn Qc [1, 2, 6, 7, 8, 15, 16, 17] [8] (pn 1 hx0 p0) ?_
   refine wT 1 0 .sh s2_ (fun hw5 hl6 => ?_)
   have hx4 : s2_[k0]? = some (nth s2_ k0) := Xv (by omega)
   refine tn Qc [1, 2, 6, 8, 9, 15, 16, 17] [8, 9] (pn 2 hx4 p0) ?_
   refine tu Qc [(30, .b (!(implEqualResults_1 a0 (nth s2_ k0))))] [18] [] [] (pc 3 (implEqualResults_1_a a0 (nth s2_ k0)) p0) ?_
   refine ck (!(implEqualResults_1 a0 (nth s2_ k0))) (fun h7 => ?_) (fun h7 => ?_)
   ·
    refine su Qc [] [30] [] [] (p0) ?_
    refine Qp ?_
    have hr8 : (Xg (Yw s2_) Yx s1_ 0 ()) = .ret false := Zw hx0 (Xm h7 (rfl)) hI0
    exact Ye [] (congrArg (fun z => (.b z : AV)) (show Yk s1_ s2_ = _ from Qz h1 (on_r hr8)).symm)
   ·
    refine Qo ?_
    refine rn Qc [1, 2, 6, 15, 16, 17] [] (pe 0 (av_i (Qy k0 (by omega))) p0) ?_
    exact Exists.intro _ (And.intro (Qf (by kernel_rfl)) (Q4 hx0 (Qz h7 (rfl)) hI0))
  ·
   refine su Qc [(18, .b false)] [] [] [] (pe 0 (Q0 (decide_eq_false (p := ((k0 : Nat) : Int) < (s1_.length : Int)) (by omega))) p0) ?_
   refine Qg ?_
   refine ckF ?_
   refine Xc ?_
   exact Exists.intro _ (And.intro (Qf (by kernel_rfl)) (Xr hk0 (rfl) hI0))
  ·
   refine sn Qc [6] [] (p0) ?_
   refine Qp ?_
   exact Ye [] (congrArg (fun z => (.b z : AV)) (show Yk s1_ s2_ = _ from Qz h1 (on_b hD0 (rfl))).symm)
def implEqualResults (a_ : (List Qs)) (b : (List Qs)) : Bool := (Yk a_ b)
theorem implEqualResults_a (a_ : (List Qs)) (b : (List Qs)) : ACalls Tryz.prog 167 [.h a_, .h b] (.b (implEqualResults a_ b)) := by
 refine en Qc Tryz.func167 fun w0 F0 hG => ?_
 refine sn Qc [0, 1, 4] [] (p0) ?_
 refine tn Qc [4] [] (pc 2 (slicesEqualFunc_Result_implEqualResults_1_a a_ b) p0) ?_
 refine Qp ?_
 exact Ye [] (congrArg (fun z => (.b z : AV)) (show implEqualResults a_ b = (Yk a_ b) from rfl).symm)
def Ja (c : CatalogD) : Bool := (((Z3 c.1 c.2.1)).2 && (implEqualResults (((Z3 c.1 c.2.1)).1) c.2.2))
theorem current_ok {c : CatalogD} (h : Ja c = true) : List.length c.2.1 ≤ 5 ∧ Xf c.1 = true := by
 unfold Ja at h
 cases he : (Z3 c.1 c.2.1).2 with
 | false => rw [he] at h; simp at h
 | true => obtain ⟨h1, h2, _⟩ := evaluate_ok he; exact ⟨h1, h2⟩
theorem implIsCurrent_a (c : CatalogD) : ACalls Tryz.prog 122 [.a [.h c.1.1, .h c.1.2.1, .i c.1.2.2, .h c.2.1, .h c.2.2]] (.b (Ja c)) := by
 refine en Qc Tryz.func122 fun w0 F0 hG => ?_
 refine sn Qc [1, 2] [1] (p0) ?_
 refine tn Qc [1, 2, 3, 4] [1] (pc 4 (implEvaluate_a c.1 c.2.1) p0) ?_
 refine Qg ?_
 refine mz [(1, .p 1 0), (2, .b false), (3, .o 640 (((Z3 c.1 c.2.1)).1)), (4, .b (((Z3 c.1 c.2.1)).2))] [0] [(1, [.h c.1.1, .h c.1.2.1, .i c.1.2.2, .h c.2.1, .h c.2.2])] [] ?_
 refine jn [(2, .b (((Z3 c.1 c.2.1)).2 && (implEqualResults (((Z3 c.1 c.2.1)).1) c.2.2)))] [1, 2, 3, 4] [] [1] (((Z3 c.1 c.2.1)).2) (fun h1 => ?_) (fun h1 => ?_) ?_
 ·
  refine rn Qc [2] [] (pt 0 h1 (pc 5 (implEqualResults_a (((Z3 c.1 c.2.1)).1) c.2.2) p0)) ?_
  exact ⟨rfl, Qf (by rw [h1]; first | done | kernel_rfl)⟩
 ·
  refine rn Qc [2] [] (pf 0 h1 p0) ?_
  exact ⟨rfl, Qf (by rw [h1]; first | done | kernel_rfl)⟩
 refine Qp ?_
 exact Ye [] (congrArg (fun z => (.b z : AV)) (show Ja c = (((Z3 c.1 c.2.1)).2 && (implEqualResults (((Z3 c.1 c.2.1)).1) c.2.2)) from rfl).symm)
open GoE (enc wide)
def implcopyDir (x : X1) : X1 := x
theorem implcopyDir_a (x : X1) : ACalls Tryz.prog 166 [.a [.s x.1, .h x.2]] (.a [.s ((implcopyDir x).1), .o 0 ((implcopyDir x).2)]) := by
 refine en Qc Tryz.func166 fun w0 F0 hG => ?_
 refine sn Qc [1, 2] [1, 2] (p0) ?_
 refine tn Qc [1, 2] [1, 2] (pc 2 (cloneNode_a x.2) p0) ?_
 refine tu Qc [(2, .p 2 0)] [0] [(2, [.s x.1, .o 320 x.2])] [] (p0) ?_
 refine Qp ?_
 exact Ye [] (congrArg (fun z => (.a [.s z.1, .o 0 z.2] : AV)) (show implcopyDir x = x from rfl).symm)
def implcopyDirs_f0 (_ : Nat) (a0 : X1) (s0 : (List X1)) : Rd ((List X1)) ((List X1)) ((List X1)) := (.next (s0 ++ [(implcopyDir a0)]))
def implcopyDirs_e0 (_ : Nat) (s0 : (List X1)) : (List X1) := s0
def implcopyDirs (d : (List X1)) : (List X1) := (Out.on (Xg implcopyDirs_f0 implcopyDirs_e0 d 0 []) (fun y0 => y0))
theorem implcopyDirs_a (d : (List X1)) : ACalls Tryz.prog 169 [.h d] (.o 0 (implcopyDirs d)) := by
 refine en Qc Tryz.func169 fun w0 F0 hG => ?_
 refine sn Qc [0, 2] [] (p0) ?_
 refine tn Qc [0, 2, 3] [] (p0) ?_
 refine Qg ?_
 refine tu Qc [(2, .e 0), (3, .one (.slc (.own true 384) 2 [])), (7, .h d), (8, .i (d.length : Int)), (9, .i 0)] [0] [] [] (pl 1 d p0) ?_
 refine wT 7 0 .sh d (fun hw1 hl2 => ?_)
 refine blk (fun (k0 : Nat) (s0 : (List X1)) => [(3, .o 147201 s0), (9, .i ((k0 : Nat) : Int))]) [3, 9] (fun k0 s0 => []) [] (fun (y0 : (List X1)) => [(3, .o 147351 y0)]) [3, 7, 8, 9] (fun y0 => []) [] (fun (k0 : Nat) (s0 : (List X1)) => (Xg implcopyDirs_f0 implcopyDirs_e0 d 0 []) = Xg implcopyDirs_f0 implcopyDirs_e0 (List.drop k0 d) k0 s0 ∧ List.length s0 ≤ k0) (fun (y0 : (List X1)) => (Xg implcopyDirs_f0 implcopyDirs_e0 d 0 []) = .brk y0) d.length [] (X2 [(384, 147201)] (by kernel_rfl)) ⟨rfl, (by simp)⟩ (fun k0 s0 hk0 hI0 => ?_) (fun k0 s0 hk0 hI0 => ?_) (fun y0 hD0 => ?_)
 ·
  have hA0_0 := hI0.2
  obtain ⟨a0, hx0⟩ := Xq (l := d) (i := k0) hk0
  refine sn Qc [2, 3, 7, 8, 9, 10] [] (pe 0 (Q0 (decide_eq_true (p := ((k0 : Nat) : Int) < (d.length : Int)) (by omega))) p0) ?_
  refine Qg ?_
  refine ckT ?_
  refine Qo ?_
  refine Qg ?_
  refine Q6 ?_
  refine tn Qc [2, 3, 5, 7, 8, 9] [5] (pn 0 hx0 p0) ?_
  refine wT 3 0 (.own true 147201) s0 (fun hw3 hl4 => ?_)
  refine qu Qc [(3, .one (.slc (.own true 1088) 2 ((eL s0) ++ [[.s ((implcopyDir a0).1), .h ((implcopyDir a0).2)]])))] [3] [] [] (pc 2 (implcopyDir_a a0) (pa s0 [(implcopyDir a0)] p0)) ?_
  refine eqn [(3, .o 1088 (s0 ++ [(implcopyDir a0)]))] [3] [] [] (by rw [show ((eL s0) ++ [[.s ((implcopyDir a0).1), .h ((implcopyDir a0).2)]]) = (eL (s0 ++ [(implcopyDir a0)])) from app_eL (rfl) (rfl)]; first | done | kernel_rfl) ?_
  refine rn Qc [2, 3, 7, 8, 9] [] (pe 0 (av_i (Qy k0 (by omega))) p0) ?_
  exact Exists.intro (s0 ++ [(implcopyDir a0)]) (And.intro (X2 [(1088, 147201)] (by kernel_rfl)) ⟨Q4 hx0 (rfl) hI0.1, by first | omega | (simp; omega) | simp⟩)
 ·
  have hA0_0 := hI0.2
  refine sn Qc [2, 3, 7, 8, 9, 10] [] (pe 0 (Q0 (decide_eq_false (p := ((k0 : Nat) : Int) < (d.length : Int)) (by omega))) p0) ?_
  refine Qg ?_
  refine ckF ?_
  refine Xc ?_
  exact Exists.intro _ (And.intro (X2 [(147201, 147351)] (by kernel_rfl)) (Xr hk0 (rfl) hI0.1))
 ·
  refine sn Qc [2] [] (p0) ?_
  refine Qp ?_
  exact Ye [] (congrArg (fun z => (.o 0 z : AV)) (show implcopyDirs d = _ from on_b hD0 (rfl)).symm)
def implcopyResults_f0 (_ : Nat) (a0 : Qs) (s0 : (List Qs)) : Rd ((List Qs)) ((List Qs)) ((List Qs)) := (.next (s0 ++ [a0]))
def implcopyResults_e0 (_ : Nat) (s0 : (List Qs)) : (List Qs) := s0
def implcopyResults (r : (List Qs)) : (List Qs) := (Out.on (Xg implcopyResults_f0 implcopyResults_e0 r 0 []) (fun y0 => y0))
theorem implcopyResults_a (r : (List Qs)) : ACalls Tryz.prog 89 [.h r] (.o 0 (implcopyResults r)) := by
 refine en Qc Tryz.func89 fun w0 F0 hG => ?_
 refine sn Qc [0, 2] [] (p0) ?_
 refine tn Qc [0, 2, 3] [] (p0) ?_
 refine Qg ?_
 refine tu Qc [(2, .e 0), (3, .one (.slc (.own true 384) 2 [])), (7, .h r), (8, .i (r.length : Int)), (9, .i 0)] [0] [] [] (pl 1 r p0) ?_
 refine wT 7 0 .sh r (fun hw1 hl2 => ?_)
 refine blk (fun (k0 : Nat) (s0 : (List Qs)) => [(3, .o 147201 s0), (9, .i ((k0 : Nat) : Int))]) [3, 9] (fun k0 s0 => []) [] (fun (y0 : (List Qs)) => [(3, .o 147351 y0)]) [3, 7, 8, 9] (fun y0 => []) [] (fun (k0 : Nat) (s0 : (List Qs)) => (Xg implcopyResults_f0 implcopyResults_e0 r 0 []) = Xg implcopyResults_f0 implcopyResults_e0 (List.drop k0 r) k0 s0 ∧ List.length s0 ≤ k0) (fun (y0 : (List Qs)) => (Xg implcopyResults_f0 implcopyResults_e0 r 0 []) = .brk y0) r.length [] (X2 [(384, 147201)] (by kernel_rfl)) ⟨rfl, (by simp)⟩ (fun k0 s0 hk0 hI0 => ?_) (fun k0 s0 hk0 hI0 => ?_) (fun y0 hD0 => ?_)
 ·
  have hA0_0 := hI0.2
  obtain ⟨a0, hx0⟩ := Xq (l := r) (i := k0) hk0
  refine sn Qc [2, 3, 7, 8, 9, 10] [] (pe 0 (Q0 (decide_eq_true (p := ((k0 : Nat) : Int) < (r.length : Int)) (by omega))) p0) ?_
  refine Qg ?_
  refine ckT ?_
  refine Qo ?_
  refine Qg ?_
  refine Q6 ?_
  refine tn Qc [2, 3, 5, 7, 8, 9] [5] (pn 0 hx0 p0) ?_
  refine wT 3 0 (.own true 147201) s0 (fun hw3 hl4 => ?_)
  refine qU Qc Z4 [(3, .one (.slc (.own true 1344) 2 ((eL s0) ++ [[.s a0.1, .h a0.2]])))] [3] [] [] (pc 5 (cloneInt_a a0.2) (pa s0 [a0] p0)) ?_
  refine eqn [(3, .o 1344 (s0 ++ [a0]))] [3] [] [] (by rw [show ((eL s0) ++ [[.s a0.1, .h a0.2]]) = (eL (s0 ++ [a0])) from app_eL (rfl) (rfl)]; first | done | kernel_rfl) ?_
  refine rn Qc [2, 3, 7, 8, 9] [] (pe 0 (av_i (Qy k0 (by omega))) p0) ?_
  exact Exists.intro (s0 ++ [a0]) (And.intro (X2 [(1344, 147201)] (by kernel_rfl)) ⟨Q4 hx0 (rfl) hI0.1, by first | omega | (simp; omega) | simp⟩)
 ·
  have hA0_0 := hI0.2
  refine sn Qc [2, 3, 7, 8, 9, 10] [] (pe 0 (Q0 (decide_eq_false (p := ((k0 : Nat) : Int) < (r.length : Int)) (by omega))) p0) ?_
  refine Qg ?_
  refine ckF ?_
  refine Xc ?_
  exact Exists.intro _ (And.intro (X2 [(147201, 147351)] (by kernel_rfl)) (Xr hk0 (rfl) hI0.1))
 ·
  refine sn Qc [2] [] (p0) ?_
  refine Qp ?_
  exact Ye [] (congrArg (fun z => (.o 0 z : AV)) (show implcopyResults r = _ from on_b hD0 (rfl)).symm)
def Z1 (c : CatalogD) : CatalogD := ((Yo c.1), (implcopyDirs c.2.1), (implcopyResults c.2.2))
theorem implcopyCatalog_a (c : CatalogD) : ACalls Tryz.prog 124 [.a [.h c.1.1, .h c.1.2.1, .i c.1.2.2, .h c.2.1, .h c.2.2]] (.a [.o 0 ((Z1 c).1.1), .o 1 ((Z1 c).1.2.1), .i ((Z1 c).1.2.2), .o 2 ((Z1 c).2.1), .o 3 ((Z1 c).2.2)]) := by
 refine en Qc Tryz.func124 fun w0 F0 hG => ?_
 refine sn Qc [1, 2] [1, 2] (p0) ?_
 refine tN Qc Z4 [2] [2] (pc 2 (implcopyStore_a c.1) (pc 5 (implcopyDirs_a c.2.1) (pc 8 (implcopyResults_a c.2.2) p0))) ?_
 refine Qp ?_
 exact Ye [] (congrArg (fun z => (.a [.o 0 z.1.1, .o 1 z.1.2.1, .i z.1.2.2, .o 2 z.2.1, .o 3 z.2.2] : AV)) (show Z1 c = ((Yo c.1), (implcopyDirs c.2.1), (implcopyResults c.2.2)) from rfl).symm)
def implReevaluate (s_ : Yl) (d : (List X1)) (r : (List Qs)) (names : (List ByteArray)) : (List Qs) × Bool := (((Y1 s_ d r names)).1, ((Y1 s_ d r names)).2.2)
theorem implReevaluate_a (s_ : Yl) (d : (List X1)) (r : (List Qs)) (names : (List ByteArray)) : ACalls Tryz.prog 224 [.a [.h s_.1, .h s_.2.1, .i s_.2.2], .h d, .h r, .h names] (.tup [(false, [.o 0 (((implReevaluate s_ d r names)).1)]), (false, [.b (((implReevaluate s_ d r names)).2)])]) := by
 refine en Qc Tryz.func224 fun w0 F0 hG => ?_
 refine sn Qc [1, 2, 3, 4, 8, 9] [4] (p0) ?_
 refine tn Qc [8, 9, 10, 12] [] (pc 4 (implevaluated_a s_ d r names) p0) ?_
 refine tu Qc [(8, .o 1152 (((Y1 s_ d r names)).1)), (9, .b (((Y1 s_ d r names)).2.2))] [0, 1, 2, 3] [] [] (p0) ?_
 refine Qp ?_
 exact Ye [] (congrArg (fun z => (.tup [(false, [.o 0 z.1]), (false, [.b z.2])] : AV)) (show implReevaluate s_ d r names = (((Y1 s_ d r names)).1, ((Y1 s_ d r names)).2.2) from rfl).symm)
def implchangedTo (c : CatalogD) (s_ : Yl) (d : (List X1)) (names : (List ByteArray)) : CatalogD × (List DiffD) × Bool := (bif (!(((implReevaluate s_ d c.2.2 names)).2)) then ((Z1 c), [], false) else (((Yo s_), (implcopyDirs d), ((implReevaluate s_ d c.2.2 names)).1), (implDiffResults c.2.2 (((implReevaluate s_ d c.2.2 names)).1)), true))
theorem implchangedTo_a (c : CatalogD) (s_ : Yl) (d : (List X1)) (names : (List ByteArray)) : ACalls Tryz.prog 175 [.a [.h c.1.1, .h c.1.2.1, .i c.1.2.2, .h c.2.1, .h c.2.2], .a [.h s_.1, .h s_.2.1, .i s_.2.2], .h d, .h names] (.tup [(true, [.o 0 ((((implchangedTo c s_ d names)).1).1.1), .o 1 ((((implchangedTo c s_ d names)).1).1.2.1), .i ((((implchangedTo c s_ d names)).1).1.2.2), .o 2 ((((implchangedTo c s_ d names)).1).2.1), .o 3 ((((implchangedTo c s_ d names)).1).2.2)]), (false, [.o 4 (((implchangedTo c s_ d names)).2.1)]), (false, [.b (((implchangedTo c s_ d names)).2.2)])]) := by
 refine en Qc Tryz.func175 fun w0 F0 hG => ?_
 refine sn Qc [2, 3, 4, 5, 8, 9, 10] [4, 5, 8] (p0) ?_
 refine tn Qc [2, 4, 5, 8, 9, 10, 11, 12] [4, 5, 8] (pc 5 (implReevaluate_a s_ d c.2.2 names) p0) ?_
 refine Qg ?_
 refine tu Qc [(4, .p 4 0), (5, .p 5 0), (8, .p 8 0), (9, .e 0), (10, .b false), (11, .o 1216 (((implReevaluate s_ d c.2.2 names)).1)), (23, .b (!(((implReevaluate s_ d c.2.2 names)).2)))] [0, 1, 3] [(4, [.h c.1.1, .h c.1.2.1, .i c.1.2.2, .h c.2.1, .h c.2.2]), (5, [.h s_.1, .h s_.2.1, .i s_.2.2]), (8, [.e 2, .e 5, .i 0, .e 2, .e 2])] [] (p0) ?_
 refine ck (!(((implReevaluate s_ d c.2.2 names)).2)) (fun h1 => ?_) (fun h1 => ?_)
 ·
  refine sn Qc [2, 4, 5, 8, 9, 10, 11] [4, 5, 8] (pc 1 (implcopyCatalog_a c) p0) ?_
  refine opn [(false, 9, 0, true, 384000, 3)] ?_
  refine Qp ?_
  exact Ye [] (congrArg (fun z => (.tup [(true, [.o 0 z.1.1.1, .o 1 z.1.1.2.1, .i z.1.1.2.2, .o 2 z.1.2.1, .o 3 z.1.2.2]), (false, [.o 4 z.2.1]), (false, [.b z.2.2])] : AV)) (show implchangedTo c s_ d names = _ from Xm h1 (rfl)).symm)
 ·
  refine Qo ?_
  refine sN Qc Z4 [8, 9, 10] [8] (pc 1 (implcopyStore_a s_) (pc 3 (implcopyDirs_a d) (pc 9 (implDiffResults_a c.2.2 (((implReevaluate s_ d c.2.2 names)).1)) p0))) ?_
  refine Qp ?_
  exact Ye [] (congrArg (fun z => (.tup [(true, [.o 0 z.1.1.1, .o 1 z.1.1.2.1, .i z.1.1.2.2, .o 2 z.1.2.1, .o 3 z.1.2.2]), (false, [.o 4 z.2.1]), (false, [.b z.2.2])] : AV)) (show implchangedTo c s_ d names = _ from Qz h1 (rfl)).symm)
def Qi (c : CatalogD) (f : Xt) : CatalogD × (List DiffD) × Bool := (bif ((!(((X8 c.1 f)).2)) || (!(Ja c))) then ((Z1 c), [], false) else ((((implchangedTo c (((X8 c.1 f)).1) c.2.1 (implAffectedDirs c.2.1 (((Qa c.1 f.1)).1) f))).1), ((implchangedTo c (((X8 c.1 f)).1) c.2.1 (implAffectedDirs c.2.1 (((Qa c.1 f.1)).1) f))).2.1, ((implchangedTo c (((X8 c.1 f)).1) c.2.1 (implAffectedDirs c.2.1 (((Qa c.1 f.1)).1) f))).2.2))
theorem implUpdateFile_a (c : CatalogD) (f : Xt) : ACalls Tryz.prog 128 [.a [.h c.1.1, .h c.1.2.1, .i c.1.2.2, .h c.2.1, .h c.2.2], .a [.i f.1, .i f.2.1, .b f.2.2.1, .i f.2.2.2.1, .h f.2.2.2.2]] (.tup [(true, [.o 0 ((((Qi c f)).1).1.1), .o 1 ((((Qi c f)).1).1.2.1), .i ((((Qi c f)).1).1.2.2), .o 2 ((((Qi c f)).1).2.1), .o 3 ((((Qi c f)).1).2.2)]), (false, [.o 4 (((Qi c f)).2.1)]), (false, [.b (((Qi c f)).2.2)])]) := by
 refine en Qc Tryz.func128 fun w0 F0 hG => ?_
 refine sn Qc [2, 3, 4, 5, 6] [2, 3, 4] (p0) ?_
 refine tn Qc [2, 3, 4, 5, 6, 7, 8] [2, 3, 4, 7] (pc 3 (implReplaceFile_a c.1 f) p0) ?_
 refine Qg ?_
 refine Qg ?_
 refine mz [(2, .p 2 0), (3, .p 3 0), (4, .p 4 0), (5, .e 0), (6, .b false), (7, .p 7 0), (8, .b (((X8 c.1 f)).2))] [0, 1] [(2, [.h c.1.1, .h c.1.2.1, .i c.1.2.2, .h c.2.1, .h c.2.2]), (3, [.i f.1, .i f.2.1, .b f.2.2.1, .i f.2.2.2.1, .h f.2.2.2.2]), (4, [.e 2, .e 5, .i 0, .e 2, .e 2]), (7, [.o 960 ((((X8 c.1 f)).1).1), .o 961 ((((X8 c.1 f)).1).2.1), .i ((((X8 c.1 f)).1).2.2)])] [] ?_
 refine jn [(24, .b ((!(((X8 c.1 f)).2)) || (!(Ja c))))] [8] [] [] (!(((X8 c.1 f)).2)) (fun h1 => ?_) (fun h1 => ?_) ?_
 ·
  have h1n : (((X8 c.1 f)).2) = false := bnot_t h1
  refine ru Qc [(24, .b true)] [8] [] [] (pf 0 h1n (pe 1 (show .b (!false) = .b true from rfl) p0)) ?_
  exact ⟨rfl, Qf (by rw [h1]; first | done | kernel_rfl)⟩
 ·
  have h1n : (((X8 c.1 f)).2) = true := Jd h1
  have h1nr := replace_ok h1n; have h1nf := find_attrs h1nr.1 f.1
  refine rn Qc [2, 3, 4, 5, 6, 7, 24] [2, 3, 4, 7] (pt 0 h1n (pe 1 (show .b (!true) = .b false from rfl) (pc 4 (implIsCurrent_a c) p0))) ?_
  exact ⟨rfl, Qf (by rw [h1]; first | done | kernel_rfl)⟩
 refine ck ((!(((X8 c.1 f)).2)) || (!(Ja c))) (fun h2 => ?_) (fun h2 => ?_)
 ·
  refine sn Qc [2, 3, 4, 5, 6, 7] [2, 3, 4, 7] (pc 1 (implcopyCatalog_a c) p0) ?_
  refine opn [(false, 5, 0, true, 384000, 3)] ?_
  refine Qp ?_
  exact Ye [] (congrArg (fun z => (.tup [(true, [.o 0 z.1.1.1, .o 1 z.1.1.2.1, .i z.1.1.2.2, .o 2 z.1.2.1, .o 3 z.1.2.2]), (false, [.o 4 z.2.1]), (false, [.b z.2.2])] : AV)) (show Qi c f = _ from Xm h2 (rfl)).symm)
 ·
  have h2l : ((!(((X8 c.1 f)).2))) = false := or_l h2
  have h2ln : (((X8 c.1 f)).2) = true := Jd h2l
  have h2lnr := replace_ok h2ln; have h2lnf := find_attrs h2lnr.1 f.1
  have h2r : ((!(Ja c))) = false := or_r h2
  have h2rn : (Ja c) = true := Jd h2r
  have h2rnc := current_ok h2rn
  refine Qo ?_
  refine sn Qc [2, 3, 4, 5, 6, 7, 9] [2, 3, 4, 7, 9] (pc 4 (implFindFile_a c.1 f.1) p0) ?_
  refine tN Qc Z4 [4, 5, 6] [4] (pc 8 (implAffectedDirs_a c.2.1 (((Qa c.1 f.1)).1) f (by omega) (by omega)) (pc 9 (implchangedTo_a c (((X8 c.1 f)).1) c.2.1 (implAffectedDirs c.2.1 (((Qa c.1 f.1)).1) f)) p0)) ?_
  refine Qp ?_
  exact Ye [] (congrArg (fun z => (.tup [(true, [.o 0 z.1.1.1, .o 1 z.1.1.2.1, .i z.1.1.2.2, .o 2 z.1.2.1, .o 3 z.1.2.2]), (false, [.o 4 z.2.1]), (false, [.b z.2.2])] : AV)) (show Qi c f = _ from Qz h2 (rfl)).symm)
end Go.Proofs.YtcnkkobgogmakaaGreat
namespace Go.Proofs.YtcnkkobgogmakaaGreat
open Go.RowKit
open GoD (rd own)
theorem inR_u8 (a : UInt8) : InR .u8 (a.toNat : Int) := by
  have h : a.toNat < 256 := a.toNat_lt
  constructor <;> simp [IntKind.min, IntKind.max, IntKind.bits, IntKind.signed] <;> omega
instance instGoEU8 : GoE UInt8 where
  enc a := [.int .u8 (a.toNat : Int)]
  enc_len _ := rfl
  n_pos := Nat.zero_lt_one
  wide _ := True
  wide_size _ := trivial
  vc_wide _ := trivial
  rd_vc {w cs a} h _ := by rw [show cs = _ from h]; exact .cons (.int (inR_u8 a)) .nil
  vc_rd h := by
    cases h with
    | cons h1 h2 => cases h2; cases h1; rfl
  own_oc h _ := by obtain ⟨rfl, h⟩ := h; rw [h]; exact OC.cons (L1 := []) (L2 := []) (.int (inR_u8 _)) .nil
  oc_own h _ := by
    cases h with
    | cons h1 h2 => cases h2; cases h1; exact ⟨rfl, rfl⟩
open GoE (enc wide)
def specl01New_f0 (k0 : Nat) (a0 : UInt8) (s0 : Int) : Rd (Nat × Int) (Int) (Int) := (bif decide (((k0 : Nat) : Int) < (4000 : Int)) then (.next (andI .i64 (IntKind.i64.wrap (IntKind.i64.wrap (IntKind.i64.wrap (s0 * 131) + IntKind.i64.wrap (UInt8.toNat a0 : Int)) + 7)) 1073741823)) else (.brk s0))
def specl01New_e0 (_ : Nat) (s0 : Int) : Int := s0
def specl01New (code : (List UInt8)) : Nat × Int := (Out.on (Xg specl01New_f0 specl01New_e0 code 0 (IntKind.i64.wrap (94701 + (code.length : Int)))) (fun y0 => (0, y0)))
set_option maxRecDepth 30000 in
theorem specl01New_a (code : (List UInt8)) : ANew Tryz.prog 49 [.h code] [.h code, .i (((specl01New code).1 : Nat) : Int), .i ((specl01New code).2)] := by
 refine anew_of Tryz.func49 (fn := Tryz.f49) rfl (by unfold FnOk; kernel_rfl) (Nat.le_of_ble_eq_true rfl) rfl fun w0 F0 hG => ?_
 refine sn Qc [0] [] (p0) ?_
 refine tn Qc [0, 3] [] (pl 1 code p0) ?_
 refine Qg ?_
 refine tu Qc [(3, .i (IntKind.i64.wrap (94701 + (code.length : Int)))), (4, .i 0)] [] [] [] (p0) ?_
 refine wT 0 0 .sh code (fun hw1 hl2 => ?_)
 refine blk (fun (k0 : Nat) (s0 : Int) => [(3, .i s0), (4, .i ((k0 : Nat) : Int))]) [3, 4] (fun k0 s0 => []) [] (fun (y0 : Int) => [(3, .i y0)]) [3, 4] (fun y0 => []) [] (fun (k0 : Nat) (s0 : Int) => (Xg specl01New_f0 specl01New_e0 code 0 (IntKind.i64.wrap (94701 + (code.length : Int)))) = Xg specl01New_f0 specl01New_e0 (List.drop k0 code) k0 s0) (fun (y0 : Int) => (Xg specl01New_f0 specl01New_e0 code 0 (IntKind.i64.wrap (94701 + (code.length : Int)))) = .brk y0) code.length (IntKind.i64.wrap (94701 + (code.length : Int))) (Qf (by kernel_rfl)) rfl (fun k0 s0 hk0 hI0 => ?_) (fun k0 s0 hk0 hI0 => ?_) (fun y0 hD0 => ?_)
 ·
  obtain ⟨a0, hx0⟩ := Xq (l := code) (i := k0) hk0
  refine Qg ?_
  refine sn Qc [0, 3, 4, 15] [] (pl 2 code (pe 3 (Q0 (decide_eq_true (p := ((k0 : Nat) : Int) < (code.length : Int)) (by omega))) p0)) ?_
  refine ck (decide (((k0 : Nat) : Int) < (4000 : Int))) (fun h3 => ?_) (fun h3 => ?_)
  ·
   have h3d := of_decide_eq_true h3
   refine Qo ?_
   refine Qg ?_
   refine Q6 ?_
   refine qn Qc [0, 3, 4] [] (pn 4 hx0 p0) ?_
   refine qu Qc [(3, .i (andI .i64 (IntKind.i64.wrap (IntKind.i64.wrap (IntKind.i64.wrap (s0 * 131) + IntKind.i64.wrap (UInt8.toNat a0 : Int)) + 7)) 1073741823)), (4, .i ((k0 + 1 : Nat) : Int))] [3, 4] [] [] (pe 1 (av_i (Qy k0 (by omega))) p0) ?_
   exact Exists.intro _ (And.intro (Qf (by kernel_rfl)) (Q4 hx0 (Xm h3 (rfl)) hI0))
  ·
   refine Xc ?_
   exact Exists.intro _ (And.intro (Qf (by kernel_rfl)) (forL_brk hx0 (Qz h3 (rfl)) hI0))
 ·
  refine Qg ?_
  refine sn Qc [0, 3, 4, 15] [] (pl 2 code (pe 3 (Q0 (decide_eq_false (p := ((k0 : Nat) : Int) < (code.length : Int)) (by omega))) p0)) ?_
  refine ckF ?_
  refine Xc ?_
  exact Exists.intro _ (And.intro (Qf (by kernel_rfl)) (Xr hk0 (rfl) hI0))
 ·
  refine sn Qc [2] [31] (p0) ?_
  refine Qp ?_
  exact nret [] 2 31 (congrArg (fun z => ([.h code, .i ((z.1 : Nat) : Int), .i z.2] : List C)) (show specl01New code = (0, y0) from on_b hD0 (rfl)).symm)
def Z5 (code : (List UInt8)) (ci : Nat) (ch : Int) : Int × Nat × Int := (bif decide (((ci : Nat) : Int) < (code.length : Int)) then (andI .i64 (IntKind.i64.wrap (andI .i64 (xorI .i64 (shrI .i64 (IntKind.i64.wrap (IntKind.i64.wrap (ch * 6364136223846793005) + 1442695040888963407)) 33) (shrI .i64 (IntKind.i64.wrap (IntKind.i64.wrap (ch * 6364136223846793005) + 1442695040888963407)) 45)) 255 + IntKind.i64.wrap (UInt8.toNat (nth code ci) : Int))) 255, ci + 1, IntKind.i64.wrap (IntKind.i64.wrap (ch * 6364136223846793005) + 1442695040888963407)) else (andI .i64 (xorI .i64 (shrI .i64 (IntKind.i64.wrap (IntKind.i64.wrap (ch * 6364136223846793005) + 1442695040888963407)) 33) (shrI .i64 (IntKind.i64.wrap (IntKind.i64.wrap (ch * 6364136223846793005) + 1442695040888963407)) 45)) 255, ci, IntKind.i64.wrap (IntKind.i64.wrap (ch * 6364136223846793005) + 1442695040888963407)))
theorem specl01Byte_a (code : (List UInt8)) (ci : Nat) (ch : Int) : AGive Tryz.prog 95 [.h code, .i ((ci : Nat) : Int), .i ch] [] (.i (((Z5 code ci ch)).1)) [.h code, .i ((((Z5 code ci ch)).2.1 : Nat) : Int), .i (((Z5 code ci ch)).2.2)] := by
 refine agive_of (tt := tt) Qc Tryz.func95 (fn := Tryz.f95) rfl (by unfold FnOk; kernel_rfl) (Nat.le_of_ble_eq_true rfl) (Nat.le_of_ble_eq_true rfl) rfl rfl fun w0 F0 hG => ?_
 refine sn Qc [0, 2] [60000] (p0) ?_
 refine tn Qc [0, 2] [60000] (p0) ?_
 refine tU Qc Z4 [(2, .i 0), (3, .i (andI .i64 (xorI .i64 (shrI .i64 (IntKind.i64.wrap (IntKind.i64.wrap (ch * 6364136223846793005) + 1442695040888963407)) 33) (shrI .i64 (IntKind.i64.wrap (IntKind.i64.wrap (ch * 6364136223846793005) + 1442695040888963407)) 45)) 255))] [] [(60000, [.h code, .i ((ci : Nat) : Int), .i (IntKind.i64.wrap (IntKind.i64.wrap (ch * 6364136223846793005) + 1442695040888963407))])] [60000] (p0) ?_
 refine Qg ?_
 refine sN Qc Z4 [0, 2, 3, 34] [60000] (pl 8 code p0) ?_
 refine ck (decide (((ci : Nat) : Int) < (code.length : Int))) (fun h1 => ?_) (fun h1 => ?_)
 ·
  have h1d := of_decide_eq_true h1
  refine wB 60000 0 .sh code (fun hw3 hl4 => ?_)
  have hx2 : code[ci]? = some (nth code ci) := Xv (by omega)
  refine tN Qc Z4 [0, 2, 3] [60000] (pn 9 hx2 p0) ?_
  refine qu Qc [(3, .i (andI .i64 (IntKind.i64.wrap (andI .i64 (xorI .i64 (shrI .i64 (IntKind.i64.wrap (IntKind.i64.wrap (ch * 6364136223846793005) + 1442695040888963407)) 33) (shrI .i64 (IntKind.i64.wrap (IntKind.i64.wrap (ch * 6364136223846793005) + 1442695040888963407)) 45)) 255 + IntKind.i64.wrap (UInt8.toNat (nth code ci) : Int))) 255))] [3] [(60000, [.h code, .i ((ci + 1 : Nat) : Int), .i (IntKind.i64.wrap (IntKind.i64.wrap (ch * 6364136223846793005) + 1442695040888963407))])] [60000] (pe 5 (av_i (Qy ci (by omega))) p0) ?_
  refine sn Qc [0, 2] [60000] (p0) ?_
  refine Qp ?_
  have hE5 : Z5 code ci ch = (andI .i64 (IntKind.i64.wrap (andI .i64 (xorI .i64 (shrI .i64 (IntKind.i64.wrap (IntKind.i64.wrap (ch * 6364136223846793005) + 1442695040888963407)) 33) (shrI .i64 (IntKind.i64.wrap (IntKind.i64.wrap (ch * 6364136223846793005) + 1442695040888963407)) 45)) 255 + IntKind.i64.wrap (UInt8.toNat (nth code ci) : Int))) 255, ci + 1, IntKind.i64.wrap (IntKind.i64.wrap (ch * 6364136223846793005) + 1442695040888963407)) := Xm h1 (rfl)
  exact gret [] (congrArg (fun z => (.i z.1 : AV)) hE5.symm) (congrArg (fun z => ([.h code, .i ((z.2.1 : Nat) : Int), .i z.2.2] : List C)) hE5.symm)
 ·
  refine Qo ?_
  refine tn Qc [0, 2] [60000] (p0) ?_
  refine Qp ?_
  have hE6 : Z5 code ci ch = (andI .i64 (xorI .i64 (shrI .i64 (IntKind.i64.wrap (IntKind.i64.wrap (ch * 6364136223846793005) + 1442695040888963407)) 33) (shrI .i64 (IntKind.i64.wrap (IntKind.i64.wrap (ch * 6364136223846793005) + 1442695040888963407)) 45)) 255, ci, IntKind.i64.wrap (IntKind.i64.wrap (ch * 6364136223846793005) + 1442695040888963407)) := Qz h1 (rfl)
  exact gret [] (congrArg (fun z => (.i z.1 : AV)) hE6.symm) (congrArg (fun z => ([.h code, .i ((z.2.1 : Nat) : Int), .i z.2.2] : List C)) hE6.symm)
end Go.Proofs.YtcnkkobgogmakaaGreat
namespace Go.Proofs.YtcnkkobgogmakaaGreat
open Go.RowKit
theorem and255 (a : Int) : 0 ≤ andI .i64 a 255 ∧ andI .i64 a 255 ≤ 255 := by
  have h : (BitVec.ofInt 64 a &&& BitVec.ofInt 64 255).toNat ≤ 255 := by
    rw [BitVec.toNat_and]
    exact Nat.le_trans Nat.and_le_right (by decide)
  have e : andI .i64 a 255 = IntKind.i64.wrap (BitVec.ofInt 64 a &&& BitVec.ofInt 64 255).toNat := rfl
  rw [e, IntWalk.i64_in _ (by omega)]
  omega
theorem specl01Byte_bd (code : List UInt8) (ci : Nat) (ch : Int) : 0 ≤ (Z5 code ci ch).1 ∧ (Z5 code ci ch).1 ≤ 255 := by
  unfold Z5
  cases decide (((ci : Nat) : Int) < (code.length : Int)) <;> exact and255 _
open GoE (enc wide)
def specl01Below (code : (List UInt8)) (ci : Nat) (ch : Int) (n : Int) : Int × Nat × Int := (bif decide (n ≤ (0 : Int)) then (0, ci, ch) else (bif decide (n ≤ (256 : Int)) then (lt (α := Int × Nat × Int) (Z5 code ci ch) (fun x4 => (Int.tmod x4.1 n, x4.2.1, x4.2.2))) else (lt (α := Int × Nat × Int) (Z5 code ci ch) (fun x6 => (lt (α := Int × Nat × Int) (Z5 code x6.2.1 x6.2.2) (fun x7 => (lt (α := Int × Nat × Int) (Z5 code x7.2.1 x7.2.2) (fun x8 => (lt (α := Int × Nat × Int) (Z5 code x8.2.1 x8.2.2) (fun x9 => (Int.tmod ((((x6.1 * 16777216) + (x7.1 * 65536)) + (x8.1 * 256)) + x9.1) n, x9.2.1, x9.2.2)))))))))))
theorem specl01Below_a (code : (List UInt8)) (ci : Nat) (ch : Int) (n : Int) : AGive Tryz.prog 50 [.h code, .i ((ci : Nat) : Int), .i ch] [.i n] (.i (((specl01Below code ci ch n)).1)) [.h code, .i ((((specl01Below code ci ch n)).2.1 : Nat) : Int), .i (((specl01Below code ci ch n)).2.2)] := by
 refine agive_of (tt := tt) Qc Tryz.func50 (fn := Tryz.f50) rfl (by unfold FnOk; kernel_rfl) (Nat.le_of_ble_eq_true rfl) (Nat.le_of_ble_eq_true rfl) rfl rfl fun w0 F0 hG => ?_
 refine sn Qc [0, 1, 4] [60000] (p0) ?_
 refine Qg ?_
 refine tn Qc [0, 1, 4, 10] [60000] (p0) ?_
 refine ck (decide (n ≤ (0 : Int))) (fun h1 => ?_) (fun h1 => ?_)
 ·
  refine tu Qc [(4, .i 0)] [] [] [] (p0) ?_
  refine Qp ?_
  have hE2 : specl01Below code ci ch n = (0, ci, ch) := Xm h1 (rfl)
  exact gret [] (congrArg (fun z => (.i z.1 : AV)) hE2.symm) (congrArg (fun z => ([.h code, .i ((z.2.1 : Nat) : Int), .i z.2.2] : List C)) hE2.symm)
 ·
  have h1d := of_decide_eq_false h1
  refine Qo ?_
  refine Qg ?_
  refine tu Qc [(4, .i 0), (12, .b (decide (n ≤ (256 : Int))))] [] [] [] (p0) ?_
  refine ck (decide (n ≤ (256 : Int))) (fun h3 => ?_) (fun h3 => ?_)
  ·
   have h3d := of_decide_eq_true h3
   obtain ⟨x4, hx4⟩ : ∃ z : Int × Nat × Int, Z5 code ci ch = z := ⟨_, rfl⟩
   have hbx4 := hx4 ▸ specl01Byte_bd code ci ch
   refine sn Qc [0, 1, 4] [60000] (po 1 (.give none (.i x4.1) [.h code, .i ((x4.2.1 : Nat) : Int), .i x4.2.2]) (px (ob_give (hx4 ▸ specl01Byte_a code ci ch)) (px (ob_nz (n := n) (by omega)) (px (ob_inr (k := .i64) (n := Int.tmod x4.1 n) (inr_rem0 (by omega))) p0)))) ?_
   refine Qp ?_
   have hE5 : specl01Below code ci ch n = (Int.tmod x4.1 n, x4.2.1, x4.2.2) := Qz h1 (Xm h3 (lt_b hx4 (rfl)))
   exact gret [] (congrArg (fun z => (.i z.1 : AV)) hE5.symm) (congrArg (fun z => ([.h code, .i ((z.2.1 : Nat) : Int), .i z.2.2] : List C)) hE5.symm)
  ·
   have h3d := of_decide_eq_false h3
   refine Qo ?_
   obtain ⟨x6, hx6⟩ : ∃ z : Int × Nat × Int, Z5 code ci ch = z := ⟨_, rfl⟩
   have hbx6 := hx6 ▸ specl01Byte_bd code ci ch
   refine sn Qc [0, 1, 4, 5] [60000] (po 1 (.give none (.i x6.1) [.h code, .i ((x6.2.1 : Nat) : Int), .i x6.2.2]) (px (ob_give (hx6 ▸ specl01Byte_a code ci ch)) p0)) ?_
   obtain ⟨x7, hx7⟩ : ∃ z : Int × Nat × Int, Z5 code x6.2.1 x6.2.2 = z := ⟨_, rfl⟩
   have hbx7 := hx7 ▸ specl01Byte_bd code x6.2.1 x6.2.2
   refine tn Qc [0, 1, 4, 5, 6] [60000] (po 1 (.give none (.i x7.1) [.h code, .i ((x7.2.1 : Nat) : Int), .i x7.2.2]) (px (ob_give (hx7 ▸ specl01Byte_a code x6.2.1 x6.2.2)) p0)) ?_
   obtain ⟨x8, hx8⟩ : ∃ z : Int × Nat × Int, Z5 code x7.2.1 x7.2.2 = z := ⟨_, rfl⟩
   have hbx8 := hx8 ▸ specl01Byte_bd code x7.2.1 x7.2.2
   refine tu Qc [(5, .i x6.1), (6, .i x7.1), (7, .i x8.1)] [12] [(60000, [.h code, .i ((x8.2.1 : Nat) : Int), .i x8.2.2])] [60000] (po 1 (.give none (.i x8.1) [.h code, .i ((x8.2.1 : Nat) : Int), .i x8.2.2]) (px (ob_give (hx8 ▸ specl01Byte_a code x7.2.1 x7.2.2)) p0)) ?_
   obtain ⟨x9, hx9⟩ : ∃ z : Int × Nat × Int, Z5 code x8.2.1 x8.2.2 = z := ⟨_, rfl⟩
   have hbx9 := hx9 ▸ specl01Byte_bd code x8.2.1 x8.2.2
   refine sn Qc [0, 1, 4, 5, 6, 7, 8] [60000] (po 1 (.give none (.i x9.1) [.h code, .i ((x9.2.1 : Nat) : Int), .i x9.2.2]) (px (ob_give (hx9 ▸ specl01Byte_a code x8.2.1 x8.2.2)) p0)) ?_
   refine tn Qc [0, 4] [60000] (pe 1 (av_i (IntWalk.i64_in (x6.1 * 16777216) (by omega))) (pe 3 (av_i (IntWalk.i64_in (x7.1 * 65536) (by omega))) (pe 4 (av_i (IntWalk.i64_in ((x6.1 * 16777216) + (x7.1 * 65536)) (by omega))) (pe 6 (av_i (IntWalk.i64_in (x8.1 * 256) (by omega))) (pe 7 (av_i (IntWalk.i64_in (((x6.1 * 16777216) + (x7.1 * 65536)) + (x8.1 * 256)) (by omega))) (pe 9 (av_i (IntWalk.i64_in ((((x6.1 * 16777216) + (x7.1 * 65536)) + (x8.1 * 256)) + x9.1) (by omega))) (px (ob_nz (n := n) (by omega)) (px (ob_inr (k := .i64) (n := Int.tmod ((((x6.1 * 16777216) + (x7.1 * 65536)) + (x8.1 * 256)) + x9.1) n) (inr_rem0 (by omega))) p0)))))))) ?_
   refine Qp ?_
   have hE10 : specl01Below code ci ch n = (Int.tmod ((((x6.1 * 16777216) + (x7.1 * 65536)) + (x8.1 * 256)) + x9.1) n, x9.2.1, x9.2.2) := Qz h1 (Qz h3 (lt_b hx6 (lt_b hx7 (lt_b hx8 (lt_b hx9 (rfl))))))
   exact gret [] (congrArg (fun z => (.i z.1 : AV)) hE10.symm) (congrArg (fun z => ([.h code, .i ((z.2.1 : Nat) : Int), .i z.2.2] : List C)) hE10.symm)
end Go.Proofs.YtcnkkobgogmakaaGreat
namespace Go.Proofs.YtcnkkobgogmakaaGreat
open Go.RowKit
theorem specl01Below_bd (code : List UInt8) (ci : Nat) (ch n : Int) : 0 ≤ (specl01Below code ci ch n).1 ∧ (0 < n → (specl01Below code ci ch n).1 < n) ∧ (n ≤ 0 → (specl01Below code ci ch n).1 = 0) := by
  unfold specl01Below lt
  by_cases h0 : n ≤ 0
  · rw [decide_eq_true h0]
    exact ⟨Int.le_refl _, fun h => by omega, fun _ => rfl⟩
  · rw [decide_eq_false h0]
    have hn : 0 < n := by omega
    cases decide (n ≤ (256 : Int)) with
    | true =>
      have := specl01Byte_bd code ci ch
      exact ⟨Int.tmod_nonneg _ this.1, fun _ => Int.tmod_lt_of_pos _ hn, fun h => by omega⟩
    | false =>
      simp only [cond_false]
      generalize hx6 : Z5 code ci ch = x6
      generalize hx7 : Z5 code x6.2.1 x6.2.2 = x7
      generalize hx8 : Z5 code x7.2.1 x7.2.2 = x8
      generalize hx9 : Z5 code x8.2.1 x8.2.2 = x9
      have h6 := hx6 ▸ specl01Byte_bd code ci ch
      have h7 := hx7 ▸ specl01Byte_bd code x6.2.1 x6.2.2
      have h8 := hx8 ▸ specl01Byte_bd code x7.2.1 x7.2.2
      have h9 := hx9 ▸ specl01Byte_bd code x8.2.1 x8.2.2
      exact ⟨Int.tmod_nonneg _ (by omega), fun _ => Int.tmod_lt_of_pos _ hn, fun h => by omega⟩
open GoE (enc wide)
def specDrawPlaces_f0 (code : (List UInt8)) (_ : Nat) (s0 : (List Int) × Nat × Int) : Rd ((List Int)) ((List Int) × Nat × Int) ((List Int)) := (lt (α := Int × Nat × Int) (specl01Below code s0.2.1 s0.2.2 10000) (fun x2 => (.next (s0.1 ++ [x2.1], x2.2.1, x2.2.2))))
def specDrawPlaces_e0 (_ : Nat) (s0 : (List Int) × Nat × Int) : (List Int) := s0.1
def Qe (code : (List UInt8)) : (List Int) := (lt (α := Nat × Int) (specl01New code) (fun x1 => (Out.on (forN (specDrawPlaces_f0 code) specDrawPlaces_e0 (Int.toNat (12 : Int)) 0 ([], x1.1, x1.2)) (fun y0 => y0))))
theorem specDrawPlaces_a (code : (List UInt8)) : ACalls Tryz.prog 9 [.h code] (.o 0 (Qe code)) := by
 refine en Qc Tryz.func9 fun w0 F0 hG => ?_
 refine sn Qc [0, 2] [] (p0) ?_
 obtain ⟨x1, hx1⟩ : ∃ z : Nat × Int, specl01New code = z := ⟨_, rfl⟩
 refine tn Qc [2, 3] [7] (po 1 (.new [.h code, .i ((x1.1 : Nat) : Int), .i x1.2]) (px (ob_new (hx1 ▸ specl01New_a code)) p0)) ?_
 refine tu Qc [(2, .e 0), (3, .p 7 0), (4, .one (.slc (.own true 512) 1 []))] [0] [(7, [.h code, .i ((x1.1 : Nat) : Int), .i x1.2])] [] (p0) ?_
 refine Qg ?_
 refine sn Qc [2, 3, 4, 5] [7] (p0) ?_
 refine mz [(5, .i 0)] [] [] [] ?_
 refine blk (fun (k0 : Nat) (s0 : (List Int) × Nat × Int) => [(4, .o 147202 s0.1), (5, .i ((k0 : Nat) : Int))]) [4, 5] (fun k0 s0 => [(7, [.h code, .i ((s0.2.1 : Nat) : Int), .i s0.2.2])]) [7] (fun (y0 : (List Int)) => [(4, .o 147352 y0)]) [3, 4, 5] (fun y0 => []) [7] (fun (k0 : Nat) (s0 : (List Int) × Nat × Int) => (forN (specDrawPlaces_f0 code) specDrawPlaces_e0 (Int.toNat (12 : Int)) 0 ([], x1.1, x1.2)) = forN (specDrawPlaces_f0 code) specDrawPlaces_e0 ((Int.toNat (12 : Int)) - k0) k0 s0 ∧ List.length s0.1 ≤ k0) (fun (y0 : (List Int)) => (forN (specDrawPlaces_f0 code) specDrawPlaces_e0 (Int.toNat (12 : Int)) 0 ([], x1.1, x1.2)) = .brk y0) (Int.toNat (12 : Int)) ([], x1.1, x1.2) (X2 [(512, 147202)] (by kernel_rfl)) ⟨rfl, (by simp)⟩ (fun k0 s0 hk0 hI0 => ?_) (fun k0 s0 hk0 hI0 => ?_) (fun y0 hD0 => ?_)
 ·
  have hA0_0 := hI0.2
  refine Qg ?_
  refine sn Qc [2, 3, 4, 5, 10] [7] (pe 1 (Q0 (decide_eq_true (p := ((k0 : Nat) : Int) < (12 : Int)) (by omega))) p0) ?_
  refine ckT ?_
  refine Qo ?_
  refine Qg ?_
  refine Q6 ?_
  obtain ⟨x2, hx2⟩ : ∃ z : Int × Nat × Int, specl01Below code s0.2.1 s0.2.2 10000 = z := ⟨_, rfl⟩
  have hbx2 := hx2 ▸ specl01Below_bd code s0.2.1 s0.2.2 10000
  refine wT 4 0 (.own true 147202) s0.1 (fun hw3 hl4 => ?_)
  refine qu Qc [(4, .one (.slc (.own true 1088) 1 ((eL s0.1) ++ [[.i x2.1]])))] [4] [(7, [.h code, .i ((x2.2.1 : Nat) : Int), .i x2.2.2])] [7] (po 2 (.give none (.i x2.1) [.h code, .i ((x2.2.1 : Nat) : Int), .i x2.2.2]) (px (ob_give (hx2 ▸ specl01Below_a code s0.2.1 s0.2.2 10000)) (pa s0.1 [x2.1] p0))) ?_
  refine eqn [(4, .o 1088 (s0.1 ++ [x2.1]))] [4] [] [] (by rw [show ((eL s0.1) ++ [[.i x2.1]]) = (eL (s0.1 ++ [x2.1])) from app_eL (rfl) (rfl)]; first | done | kernel_rfl) ?_
  refine rn Qc [2, 3, 4, 5] [7] (pe 1 (av_i (Qy k0 (by omega))) p0) ?_
  exact Exists.intro (s0.1 ++ [x2.1], x2.2.1, x2.2.2) (And.intro (X2 [(1088, 147202)] (by kernel_rfl)) ⟨forN_next hk0 (lt_b hx2 (rfl)) hI0.1, by first | omega | (simp; omega) | simp⟩)
 ·
  have hA0_0 := hI0.2
  refine Qg ?_
  refine sn Qc [2, 3, 4, 5, 10] [7] (pe 1 (Q0 (decide_eq_false (p := ((k0 : Nat) : Int) < (12 : Int)) (by omega))) p0) ?_
  refine ckF ?_
  refine Xc ?_
  exact Exists.intro _ (And.intro (X2 [(147202, 147352)] (by kernel_rfl)) (forN_end hk0 (rfl) hI0.1))
 ·
  refine sn Qc [2] [] (p0) ?_
  refine Qp ?_
  exact Ye [] (congrArg (fun z => (.o 0 z : AV)) (show Qe code = _ from lt_b hx1 (on_b hD0 (rfl))).symm)
end Go.Proofs.YtcnkkobgogmakaaGreat
namespace Go.Proofs.YtcnkkobgogmakaaGreat
open Go.RowKit
theorem places_go (code : List UInt8) : ∀ (n k : Nat) (s : List Int × Nat × Int), s.1.length = k → (∀ x, x ∈ s.1 → 0 ≤ x ∧ x < 10000) → ∃ t, forN (specDrawPlaces_f0 code) specDrawPlaces_e0 n k s = .brk t ∧ t.length = k + n ∧ ∀ x, x ∈ t → 0 ≤ x ∧ x < 10000
  | 0, k, s, h, hb => ⟨s.1, rfl, h, hb⟩
  | n + 1, k, s, h, hb => by
    simp only [forN, specDrawPlaces_f0, lt]
    have hd := specl01Below_bd code s.2.1 s.2.2 10000
    obtain ⟨t, h1, h2, h3⟩ := places_go code n (k + 1) (s.1 ++ [(specl01Below code s.2.1 s.2.2 10000).1], (specl01Below code s.2.1 s.2.2 10000).2.1, (specl01Below code s.2.1 s.2.2 10000).2.2) (by simp [h]) (fun x hx => by
      rcases List.mem_append.1 hx with hx | hx
      · exact hb x hx
      · obtain rfl := List.mem_singleton.1 hx
        exact ⟨hd.1, hd.2.1 (by decide)⟩)
    exact ⟨t, h1, by omega, h3⟩
theorem places_ok (code : List UInt8) : (Qe code).length = 12 ∧ ∀ x, x ∈ Qe code → 0 ≤ x ∧ x < 10000 := by
  unfold Qe lt
  obtain ⟨t, h1, h2, h3⟩ := places_go code (Int.toNat (12 : Int)) 0 ([], (specl01New code).1, (specl01New code).2) rfl (fun x hx => by simp at hx)
  simp only [h1, Out.on]
  exact ⟨by simpa using h2, h3⟩
theorem places_len (code : List UInt8) : (Qe code).length = 12 := (places_ok code).1
theorem places_bd (code : List UInt8) : ∀ x, x ∈ Qe code → 0 ≤ x ∧ x < 10000 := (places_ok code).2
theorem place_mod (code : List UInt8) (i : Nat) (hi : i < 12) {m : Int} (hm : 0 < m) : (0 ≤ nth (Qe code) i ∧ nth (Qe code) i < 10000) ∧ 0 ≤ Int.tmod (nth (Qe code) i) m ∧ Int.tmod (nth (Qe code) i) m < m := by
  have h := places_bd code _ (List.mem_of_getElem? (Xv (l := Qe code) (i := i) (by rw [places_len]; exact hi)))
  exact ⟨h, Int.tmod_nonneg _ h.1, Int.tmod_lt_of_pos _ hm⟩
open GoE (enc wide)
def implMergeEdits_1 (y_ : Zk) (q0 : Zk) : Bool := (!(Op.bytesLess y_.1.toList q0.1.toList))
theorem implMergeEdits_1_a (y_ : Zk) (q0 : Zk) : ACalls Tryz.prog 251 [.a [.s y_.1, .i y_.2.1, .i y_.2.2.1, .s y_.2.2.2], .one (.rptr .sh [.s q0.1, .i q0.2.1, .i q0.2.2.1, .s q0.2.2.2])] (.b (implMergeEdits_1 y_ q0)) := by
 refine en Qc Tryz.func251 fun w0 F0 hG => ?_
 refine sn Qc [1, 2, 3] [2] (p0) ?_
 refine tn Qc [3] [] (p0) ?_
 refine Qp ?_
 exact Ye [] (congrArg (fun z => (.b z : AV)) (show implMergeEdits_1 y_ q0 = (!(Op.bytesLess y_.1.toList q0.1.toList)) from rfl).symm)
def Ze (c0 : Zk) (k0 : Nat) (a0 : Zk) (_ : Unit) : Rd (Int) (Unit) (Unit) := (bif (implMergeEdits_1 a0 c0) then (.ret ((k0 : Nat) : Int)) else (.next ()))
def Zf (_ : Nat) (_ : Unit) : Unit := ()
def Q8 (s_ : (List Zk)) (c0 : Zk) : Int := (Out.on (Xg (Ze c0) Zf s_ 0 ()) (fun _ => -1))
theorem slicesIndexFunc_Attr_implMergeEdits_1_ix (s_ : (List Zk)) (c0 : Zk) : Q8 s_ c0 = ixF (fun a => implMergeEdits_1 a c0) s_ := idx_eq (fun _ _ _ => rfl) s_
theorem slicesIndexFunc_Attr_implMergeEdits_1_bd (s_ : (List Zk)) (c0 : Zk) : -1 ≤ Q8 s_ c0 ∧ Q8 s_ c0 < (List.length s_ : Int) := by rw [slicesIndexFunc_Attr_implMergeEdits_1_ix]; exact ixF_bd _ _
theorem slicesIndexFunc_Attr_implMergeEdits_1_a (s_ : (List Zk)) (c0 : Zk) : ACalls Tryz.prog 229 [.h s_, .one (.fnr 251 [[.s c0.1, .i c0.2.1, .i c0.2.2.1, .s c0.2.2.2]])] (.i (Q8 s_ c0)) := by
 refine en Qc Tryz.func229 fun w0 F0 hG => ?_
 refine sn Qc [0, 1, 4] [] (p0) ?_
 refine Qg ?_
 refine tn Qc [0, 1, 4, 7, 8] [] (pl 1 s_ p0) ?_
 refine mz [(4, .i 0), (7, .i (s_.length : Int)), (8, .i 0)] [] [] [] ?_
 refine wT 0 0 .sh s_ (fun hw1 hl2 => ?_)
 refine blk (fun (k0 : Nat) (s0 : Unit) => [(8, .i ((k0 : Nat) : Int))]) [8] (fun k0 s0 => []) [] (fun (y0 : Unit) => []) [0, 1, 7, 8] (fun y0 => []) [] (fun (k0 : Nat) (s0 : Unit) => (Xg (Ze c0) Zf s_ 0 ()) = Xg (Ze c0) Zf (List.drop k0 s_) k0 s0) (fun (y0 : Unit) => (Xg (Ze c0) Zf s_ 0 ()) = .brk y0) s_.length () (Qf (by kernel_rfl)) rfl (fun k0 s0 hk0 hI0 => ?_) (fun k0 s0 hk0 hI0 => ?_) (fun y0 hD0 => ?_)
 ·
  obtain ⟨a0, hx0⟩ := Xq (l := s_) (i := k0) hk0
  refine sn Qc [0, 1, 4, 7, 8, 9] [] (pe 0 (Q0 (decide_eq_true (p := ((k0 : Nat) : Int) < (s_.length : Int)) (by omega))) p0) ?_
  refine Qg ?_
  refine ckT ?_
  refine Qo ?_
  refine Qg ?_
  refine Q6 ?_
  refine tn Qc [0, 1, 4, 5, 7, 8] [] (p0) ?_
  refine tu Qc [(5, .i ((k0 : Nat) : Int)), (16, .b (implMergeEdits_1 a0 c0))] [] [] [] (pn 3 hx0 (pc 5 (implMergeEdits_1_a a0 c0) p0)) ?_
  refine ck (implMergeEdits_1 a0 c0) (fun h3 => ?_) (fun h3 => ?_)
  ·
   refine sn Qc [0, 1, 4, 7, 8] [] (p0) ?_
   refine Qp ?_
   have hr4 : (Xg (Ze c0) Zf s_ 0 ()) = .ret ((k0 : Nat) : Int) := Zw hx0 (Xm h3 (rfl)) hI0
   exact Ye [] (congrArg (fun z => (.i z : AV)) (show Q8 s_ c0 = _ from on_r hr4).symm)
  ·
   refine Qo ?_
   refine rn Qc [0, 1, 4, 7, 8] [] (pe 0 (av_i (Qy k0 (by omega))) p0) ?_
   exact Exists.intro _ (And.intro (Qf (by kernel_rfl)) (Q4 hx0 (Qz h3 (rfl)) hI0))
 ·
  refine sn Qc [0, 1, 4, 7, 8, 9] [] (pe 0 (Q0 (decide_eq_false (p := ((k0 : Nat) : Int) < (s_.length : Int)) (by omega))) p0) ?_
  refine Qg ?_
  refine ckF ?_
  refine Xc ?_
  exact Exists.intro _ (And.intro (Qf (by kernel_rfl)) (Xr hk0 (rfl) hI0))
 ·
  refine sn Qc [4] [] (p0) ?_
  refine Qp ?_
  exact Ye [] (congrArg (fun z => (.i z : AV)) (show Q8 s_ c0 = _ from on_b hD0 (rfl)).symm)
def implMergeEdits_f1 (a0 : Zk) (_ : Nat) (a1 : Zk) (s1 : Bool) : Rd (Rd (EditD) ((List Zk)) ((List Zk))) (Bool) (Bool) := (bif ((a1.1.toList == a0.1.toList) && (!((a1.2.1 == a0.2.1) && ((a1.2.2.1 == a0.2.2.1) && ((a1.2.2.2.toList == a0.2.2.2.toList) && true))))) then (.ret (.ret (false, []))) else (.next (s1 || (a1.1.toList == a0.1.toList))))
def implMergeEdits_e1 (_ : Nat) (s1 : Bool) : Bool := s1
def implMergeEdits_f0 (a_ : EditD) (_ : Nat) (a0 : Zk) (s0 : (List Zk)) : Rd (EditD) ((List Zk)) ((List Zk)) := (Out.on (Xg (implMergeEdits_f1 a0) implMergeEdits_e1 a_.2 0 false) (fun y1 => (bif y1 then (.next s0) else (bif decide ((Q8 s0 a0) < (0 : Int)) then (.next (insAt s0 (Int.toNat (s0.length : Int)) a0)) else (.next (insAt s0 (Int.toNat (Q8 s0 a0)) a0))))))
def implMergeEdits_e0 (_ : Nat) (s0 : (List Zk)) : (List Zk) := s0
def implMergeEdits (a_ : EditD) (b : EditD) : EditD := (bif ((!a_.1) || (!b.1)) then (false, []) else (Out.on (Xg (implMergeEdits_f0 a_) implMergeEdits_e0 b.2 0 a_.2) (fun y0 => (true, y0))))
theorem insAt_len2 {α : Type} (l : List α) (j : Nat) (y : α) : (insAt l j y).length = l.length + 1 := by simp [insAt]; omega
theorem delAt_le {α : Type} (l : List α) (j : Nat) : (delAt l j).length ≤ l.length := by simp [delAt]; omega
theorem merge_ret (a0 : Zk) : ∀ (l : List Zk) (k : Nat) (s : Bool) (r : Rd EditD (List Zk) (List Zk)), Xg (implMergeEdits_f1 a0) implMergeEdits_e1 l k s = .ret r → r = .ret (false, [])
 | [], k, s, r, h => by simp [Xg] at h
 | a :: l, k, s, r, h => by
  simp only [Xg, implMergeEdits_f1] at h
  revert h
  generalize ((a.1.toList == a0.1.toList) && _ : Bool) = c
  intro h
  cases c with
  | true => exact (by simpa using h : Rd.ret (false, []) = r).symm
  | false => exact merge_ret a0 l (k + 1) _ r h
theorem merge_go (a : EditD) : ∀ (l : List Zk) (k : Nat) (s : List Zk), (∃ s', Xg (implMergeEdits_f0 a) implMergeEdits_e0 l k s = .brk s' ∧ s'.length ≤ s.length + l.length) ∨ Xg (implMergeEdits_f0 a) implMergeEdits_e0 l k s = .ret (false, [])
  | [], k, s => .inl ⟨s, rfl, by simp⟩
  | x :: l, k, s => by
    simp only [Xg, implMergeEdits_f0]
    cases hin : Xg (implMergeEdits_f1 x) implMergeEdits_e1 a.2 0 false with
    | ret r =>
      obtain rfl := merge_ret x _ _ _ _ hin
      exact .inr rfl
    | brk y =>
      simp only [Out.on]
      have hn : ∀ s2 : List Zk, s2.length ≤ s.length + 1 → (∃ s', Xg (implMergeEdits_f0 a) implMergeEdits_e0 l (k + 1) s2 = .brk s' ∧ s'.length ≤ s.length + (x :: l).length) ∨ Xg (implMergeEdits_f0 a) implMergeEdits_e0 l (k + 1) s2 = .ret (false, []) := fun s2 h2 => by
        rcases merge_go a l (k + 1) s2 with ⟨s', h3, h4⟩ | h3
        · exact .inl ⟨s', h3, by rw [List.length_cons]; omega⟩
        · exact .inr h3
      cases y with
      | true => exact hn s (by omega)
      | false =>
        simp only [cond_false]
        generalize decide (Q8 s x < (0 : Int)) = c
        cases c with
        | true => exact hn _ (by rw [insAt_len2]; exact Nat.le_refl _)
        | false => exact hn _ (by rw [insAt_len2]; exact Nat.le_refl _)
theorem merge_len (a b : EditD) : (implMergeEdits a b).2.length ≤ a.2.length + b.2.length := by
  unfold implMergeEdits
  generalize ((!a.1) || (!b.1)) = c
  cases c with
  | true => exact Nat.zero_le _
  | false =>
    simp only [cond_false]
    rcases merge_go a b.2 0 a.2 with ⟨s', h1, h2⟩ | h1
    · rw [h1]; exact h2
    · rw [h1]; exact Nat.zero_le _
theorem bifL {c : Bool} {x y : EditD} {N : Nat} (hx : c = true → x.2.length ≤ N) (hy : c = false → y.2.length ≤ N) : (bif c then x else y).2.length ≤ N := by
 cases c with
 | true => exact hx rfl
 | false => exact hy rfl
theorem implMergeEdits_a (a_ : EditD) (b : EditD) (hp : (List.length a_.2 : Int) + List.length b.2 ≤ 1000000) : ACalls Tryz.prog 223 [.a [.b a_.1, .h a_.2], .a [.b b.1, .h b.2]] (.a [.b ((implMergeEdits a_ b).1), .o 0 ((implMergeEdits a_ b).2)]) := by
 refine en Qc Tryz.func223 fun w0 F0 hG => ?_
 refine sn Qc [2, 3, 4] [2, 3, 4] (p0) ?_
 refine Qg ?_
 refine Qg ?_
 refine mz [(2, .p 2 0), (3, .p 3 0), (4, .p 4 0)] [0, 1] [(2, [.b a_.1, .h a_.2]), (3, [.b b.1, .h b.2]), (4, [.b false, .e 4])] [] ?_
 refine jn [(19, .b ((!a_.1) || (!b.1)))] [] [] [] (!a_.1) (fun h1 => ?_) (fun h1 => ?_) ?_
 ·
  have h1n : (a_.1) = false := bnot_t h1
  refine rn Qc [2, 3, 4, 19] [2, 3, 4] (pf 1 h1n (pe 2 (show .b (!false) = .b true from rfl) p0)) ?_
  exact ⟨rfl, Qf (by rw [h1]; first | done | kernel_rfl)⟩
 ·
  have h1n : (a_.1) = true := Jd h1
  refine rn Qc [2, 3, 4, 19] [2, 3, 4] (pt 1 h1n (pe 2 (show .b (!true) = .b false from rfl) p0)) ?_
  exact ⟨rfl, Qf (by rw [h1]; first | done | kernel_rfl)⟩
 refine ck ((!a_.1) || (!b.1)) (fun h2 => ?_) (fun h2 => ?_)
 ·
  refine su Qc [] [19] [] [] (p0) ?_
  refine opn [(true, 4, 1, true, 384000, 4)] ?_
  refine Qp ?_
  exact Ye [] (congrArg (fun z => (.a [.b z.1, .o 0 z.2] : AV)) (show implMergeEdits a_ b = _ from Xm h2 (rfl)).symm)
 ·
  refine Qo ?_
  refine sn Qc [2, 3, 4, 5] [2, 3, 4, 5] (pc 2 (cloneAttr_a a_.2) p0) ?_
  refine Qg ?_
  refine tn Qc [2, 4, 5, 26, 27, 28] [2, 4, 5] (pl 2 b.2 p0) ?_
  refine mz [(5, .p 5 0), (26, .h b.2), (27, .i (b.2.length : Int)), (28, .i 0)] [3, 19] [(5, [.b true, .o 1472 a_.2])] [3] ?_
  refine wT 26 0 .sh b.2 (fun hw3 hl4 => ?_)
  refine blk (fun (k0 : Nat) (s0 : (List Zk)) => [(28, .i ((k0 : Nat) : Int))]) [28] (fun k0 s0 => [(5, [.b true, .o 147211 s0])]) [5] (fun (y0 : (List Zk)) => []) [2, 26, 27, 28] (fun y0 => [(5, [.b true, .o 147361 y0])]) [2, 5] (fun (k0 : Nat) (s0 : (List Zk)) => (Xg (implMergeEdits_f0 a_) implMergeEdits_e0 b.2 0 a_.2) = Xg (implMergeEdits_f0 a_) implMergeEdits_e0 (List.drop k0 b.2) k0 s0 ∧ List.length s0 ≤ List.length a_.2 + k0) (fun (y0 : (List Zk)) => (Xg (implMergeEdits_f0 a_) implMergeEdits_e0 b.2 0 a_.2) = .brk y0) b.2.length a_.2 (X2 [(1472, 147211)] (by kernel_rfl)) ⟨rfl, (by first | omega | simp)⟩ (fun k0 s0 hk0 hI0 => ?_) (fun k0 s0 hk0 hI0 => ?_) (fun y0 hD0 => ?_)
  ·
   have hA0_0 := hI0.2
   obtain ⟨a0, hx0⟩ := Xq (l := b.2) (i := k0) hk0
   have hbd := slicesIndexFunc_Attr_implMergeEdits_1_bd s0 a0
   refine su Qc [(29, .b true)] [] [] [] (pe 0 (Q0 (decide_eq_true (p := ((k0 : Nat) : Int) < (b.2.length : Int)) (by omega))) p0) ?_
   refine Qg ?_
   refine ckT ?_
   refine Qo ?_
   refine Qg ?_
   refine Q6 ?_
   refine sn Qc [2, 4, 5, 7, 26, 27, 28] [2, 4, 5, 7] (pn 0 hx0 p0) ?_
   refine tn Qc [2, 4, 5, 7, 8, 26, 27, 28] [2, 4, 5, 7] (p0) ?_
   refine Qg ?_
   refine tu Qc [(7, .p 7 0), (8, .b false), (33, .h a_.2), (34, .i (a_.2.length : Int)), (35, .i 0)] [29] [(7, [.s a0.1, .i a0.2.1, .i a0.2.2.1, .s a0.2.2.2])] [] (pl 2 a_.2 p0) ?_
   refine wT 33 0 .sh a_.2 (fun hw5 hl6 => ?_)
   refine blk (fun (k1 : Nat) (s1 : Bool) => [(8, .b s1), (35, .i ((k1 : Nat) : Int))]) [8, 35] (fun k1 s1 => []) [] (fun (y1 : Bool) => [(8, .b y1)]) [8, 33, 34, 35] (fun y1 => []) [] (fun (k1 : Nat) (s1 : Bool) => (Xg (implMergeEdits_f1 a0) implMergeEdits_e1 a_.2 0 false) = Xg (implMergeEdits_f1 a0) implMergeEdits_e1 (List.drop k1 a_.2) k1 s1) (fun (y1 : Bool) => (Xg (implMergeEdits_f1 a0) implMergeEdits_e1 a_.2 0 false) = .brk y1) a_.2.length false (Qf (by kernel_rfl)) rfl (fun k1 s1 hk1 hI1 => ?_) (fun k1 s1 hk1 hI1 => ?_) (fun y1 hD1 => ?_)
   ·
    obtain ⟨a1, hx1⟩ := Xq (l := a_.2) (i := k1) hk1
    refine su Qc [(36, .b true)] [] [] [] (pe 0 (Q0 (decide_eq_true (p := ((k1 : Nat) : Int) < (a_.2.length : Int)) (by omega))) p0) ?_
    refine Qg ?_
    refine ckT ?_
    refine Qo ?_
    refine Qg ?_
    refine Q6 ?_
    refine sn Qc [2, 4, 5, 7, 8, 10, 26, 27, 28, 33, 34, 35] [2, 4, 5, 7, 10] (pn 0 hx1 p0) ?_
    refine Qg ?_
    refine Qg ?_
    refine mz [(10, .p 10 0)] [36] [(10, [.s a1.1, .i a1.2.1, .i a1.2.2.1, .s a1.2.2.2])] [] ?_
    refine jn [(50, .b ((a1.1.toList == a0.1.toList) && (!((a1.2.1 == a0.2.1) && ((a1.2.2.1 == a0.2.2.1) && ((a1.2.2.2.toList == a0.2.2.2.toList) && true))))))] [] [] [] (a1.1.toList == a0.1.toList) (fun h7 => ?_) (fun h7 => ?_) ?_
    ·
     refine rn Qc [2, 4, 5, 7, 8, 10, 26, 27, 28, 33, 34, 35, 50] [2, 4, 5, 7, 10] (pt 4 h7 p0) ?_
     exact ⟨rfl, Qf (by rw [h7]; first | done | kernel_rfl)⟩
    ·
     refine ru Qc [(50, .b false)] [] [] [] (pf 4 h7 p0) ?_
     exact ⟨rfl, Qf (by rw [h7]; first | done | kernel_rfl)⟩
    refine ck ((a1.1.toList == a0.1.toList) && (!((a1.2.1 == a0.2.1) && ((a1.2.2.1 == a0.2.2.1) && ((a1.2.2.2.toList == a0.2.2.2.toList) && true))))) (fun h8 => ?_) (fun h8 => ?_)
    ·
     refine su Qc [] [50] [] [] (p0) ?_
     refine opn [(true, 4, 1, true, 384000, 4)] ?_
     refine Qp ?_
     have hr9 : (Xg (implMergeEdits_f1 a0) implMergeEdits_e1 a_.2 0 false) = .ret (.ret (false, [])) := Zw hx1 (Xm h8 (rfl)) hI1
     have hr10 : (Xg (implMergeEdits_f0 a_) implMergeEdits_e0 b.2 0 a_.2) = .ret (false, []) := Zw hx0 (on_r hr9) hI0.1
     exact Ye [] (congrArg (fun z => (.a [.b z.1, .o 0 z.2] : AV)) (show implMergeEdits a_ b = _ from Qz h2 (on_r hr10)).symm)
    ·
     refine Qo ?_
     refine jn [(8, .b (s1 || (a1.1.toList == a0.1.toList)))] [8, 10, 50] [] [10] s1 (fun h11 => ?_) (fun h11 => ?_) ?_
     ·
      refine ru Qc [(8, .b true)] [8, 10, 50] [] [10] (pt 0 h11 p0) ?_
      exact ⟨rfl, Qf (by rw [h11]; first | done | kernel_rfl)⟩
     ·
      refine rn Qc [2, 4, 5, 7, 8, 26, 27, 28, 33, 34, 35] [2, 4, 5, 7] (pf 0 h11 p0) ?_
      exact ⟨rfl, Qf (by rw [h11]; first | done | kernel_rfl)⟩
     refine ru Qc [(35, .i ((k1 + 1 : Nat) : Int))] [35] [] [] (pe 0 (av_i (Qy k1 (by omega))) p0) ?_
     exact Exists.intro _ (And.intro (Qf (by kernel_rfl)) (Q4 hx1 (Qz h8 (rfl)) hI1))
   ·
    refine su Qc [(36, .b false)] [] [] [] (pe 0 (Q0 (decide_eq_false (p := ((k1 : Nat) : Int) < (a_.2.length : Int)) (by omega))) p0) ?_
    refine Qg ?_
    refine ckF ?_
    refine Xc ?_
    exact Exists.intro _ (And.intro (Qf (by kernel_rfl)) (Xr hk1 (rfl) hI1))
   ·
    refine Qg ?_
    refine su Qc [(61, .b y1)] [8] [] [] (p0) ?_
    refine ck y1 (fun h12 => ?_) (fun h12 => ?_)
    ·
     refine Xc ?_
     refine rn Qc [2, 4, 5, 26, 27, 28] [2, 4, 5] (pe 0 (av_i (Qy k0 (by omega))) p0) ?_
     exact Exists.intro s0 (And.intro (Qf (by kernel_rfl)) ⟨Q4 hx0 (on_b hD1 (Xm h12 (rfl))) hI0.1, (by first | omega | (rw [insAt_len2]; omega))⟩)
    ·
     refine Qo ?_
     refine sn Qc [2, 4, 5, 7, 11, 26, 27, 28] [2, 4, 5, 7] (pc 3 (slicesIndexFunc_Attr_implMergeEdits_1_a s0 a0) p0) ?_
     refine Qg ?_
     refine tn Qc [2, 4, 5, 7, 11, 26, 27, 28, 67] [2, 4, 5, 7] (p0) ?_
     refine ck (decide ((Q8 s0 a0) < (0 : Int))) (fun h13 => ?_) (fun h13 => ?_)
     ·
      have h13d := of_decide_eq_true h13
      refine qu Qc [(11, .i (s0.length : Int))] [61] [] [] (pl 2 s0 p0) ?_
      refine wB 5 1 (.own true 147211) s0 (fun hw14 hl15 => ?_)
      refine rn Qc [2, 4, 5, 26, 27, 28] [2, 4, 5] (po 5 (.take true false (eL (insAt s0 (Int.toNat (s0.length : Int)) a0))) (px (ob_take (insAttr_a s0 a0 (i := (s0.length : Int)) (by omega) (by omega) (by omega))) (px (ob_flat (flat_eL s0)) (px (ob_flat (flat_eL (insAt s0 (Int.toNat (s0.length : Int)) a0))) p0)))) ?_
      refine qn Qc [2, 4, 5, 26, 27, 28] [2, 4, 5] (pe 0 (av_i (Qy k0 (by omega))) p0) ?_
      exact Exists.intro (insAt s0 (Int.toNat (s0.length : Int)) a0) (And.intro (X2 [(4864, 147211)] (by kernel_rfl)) ⟨Q4 hx0 (on_b hD1 (Qz h12 (Xm h13 (rfl)))) hI0.1, (by first | omega | (rw [insAt_len2]; omega))⟩)
     ·
      have h13d := of_decide_eq_false h13
      refine Qo ?_
      refine wB 5 1 (.own true 147211) s0 (fun hw16 hl17 => ?_)
      refine qu Qc [] [7, 61] [(5, [.b true, .o 4864 (insAt s0 (Int.toNat (Q8 s0 a0)) a0)])] [5, 7] (po 5 (.take true false (eL (insAt s0 (Int.toNat (Q8 s0 a0)) a0))) (px (ob_take (insAttr_a s0 a0 (i := (Q8 s0 a0)) (by omega) (by omega) (by omega))) (px (ob_flat (flat_eL s0)) (px (ob_flat (flat_eL (insAt s0 (Int.toNat (Q8 s0 a0)) a0))) p0)))) ?_
      refine rn Qc [2, 4, 5, 26, 27, 28] [2, 4, 5] (pe 0 (av_i (Qy k0 (by omega))) p0) ?_
      exact Exists.intro (insAt s0 (Int.toNat (Q8 s0 a0)) a0) (And.intro (X2 [(4864, 147211)] (by kernel_rfl)) ⟨Q4 hx0 (on_b hD1 (Qz h12 (Qz h13 (rfl)))) hI0.1, (by first | omega | (rw [insAt_len2]; omega))⟩)
  ·
   have hA0_0 := hI0.2
   refine su Qc [(29, .b false)] [] [] [] (pe 0 (Q0 (decide_eq_false (p := ((k0 : Nat) : Int) < (b.2.length : Int)) (by omega))) p0) ?_
   refine Qg ?_
   refine ckF ?_
   refine Xc ?_
   exact Exists.intro _ (And.intro (X2 [(147211, 147361)] (by kernel_rfl)) (Xr hk0 (rfl) hI0.1))
  ·
   refine sn Qc [4] [4] (p0) ?_
   refine Qp ?_
   exact Ye [] (congrArg (fun z => (.a [.b z.1, .o 0 z.2] : AV)) (show implMergeEdits a_ b = _ from Qz h2 (on_b hD0 (rfl))).symm)
def Xi (n_ : Nat) (q : (List Xa)) (at_ : Int) (f : Xt) (r : (List Qs)) (match_ : Bool) : EditD := match n_ with
 | 0 => default
 | n_ + 1 => (bif ((Xl (List.length q) q at_ f r) == match_) then (true, []) else (bif ((nth q (Int.toNat at_)).1 == (3 : Int)) then (bif match_ then (true, [((nth q (Int.toNat at_)).2.2.2.1, ((nth q (Int.toNat at_)).2.2.2.2.1, (nth q (Int.toNat at_)).2.2.2.2.2.1, (nth q (Int.toNat at_)).2.2.2.2.2.2))]) else (false, [])) else (bif ((nth q (Int.toNat at_)).1 == (2 : Int)) then (bif (!match_) then (true, [(((nth q (Int.toNat at_)).2.2.2.1, (0, 0, ⟨#[]⟩)) : Zk)]) else (false, [])) else (bif ((nth q (Int.toNat at_)).1 == (5 : Int)) then (Xi n_ q ((nth q (Int.toNat at_)).2.1) f r (!match_)) else (bif (((nth q (Int.toNat at_)).1 == (6 : Int)) || ((nth q (Int.toNat at_)).1 == (7 : Int))) then (bif (((nth q (Int.toNat at_)).1 == (6 : Int)) == match_) then (implMergeEdits (Xi n_ q ((nth q (Int.toNat at_)).2.1) f r match_) (Xi n_ q ((nth q (Int.toNat at_)).2.2.1) f r match_)) else (bif ((Xi n_ q ((nth q (Int.toNat at_)).2.1) f r match_).1 && (!((Xi n_ q ((nth q (Int.toNat at_)).2.2.1) f r match_).1))) then (Xi n_ q ((nth q (Int.toNat at_)).2.1) f r match_) else (bif ((Xi n_ q ((nth q (Int.toNat at_)).2.2.1) f r match_).1 && (!((Xi n_ q ((nth q (Int.toNat at_)).2.1) f r match_).1))) then (Xi n_ q ((nth q (Int.toNat at_)).2.2.1) f r match_) else (false, [])))) else (false, []))))))
theorem editAt_len {q : List Xa} (hv : Qx q = true) (f : Xt) (r : List Qs) : ∀ (n : Nat) (k : Nat) (m : Bool), k < q.length → (Xi n q (k : Int) f r m).2.length ≤ 2 ^ (k + 1)
  | 0, k, m, _ => Nat.zero_le _
  | n + 1, k, m, hk => by
    obtain ⟨hl, hr⟩ := vq_kids hv (k := (k : Int)) (by omega) (by omega)
    rw [Int.toNat_natCast] at hl hr
    unfold Xi
    simp only [Int.toNat_natCast]
    have e : 2 ^ (k + 1) = 2 ^ k + 2 ^ k := by rw [Nat.pow_succ]; omega
    have h1 : 1 ≤ 2 ^ k := Nat.one_le_two_pow
    have key : ∀ l : Int, 0 ≤ l → l < (k : Int) → ∀ m, (Xi n q l f r m).2.length ≤ 2 ^ k := fun l h0 h2 m => by
      have := editAt_len hv f r n l.toNat m (by omega)
      rw [Int.toNat_of_nonneg h0] at this
      exact Nat.le_trans this (Nat.pow_le_pow_right (by decide) (by omega))
    refine bifL (fun _ => Nat.zero_le _) fun _ => bifL (fun _ => bifL (fun _ => (by rw [e]; simp; omega)) fun _ => Nat.zero_le _) fun _ => bifL (fun _ => bifL (fun _ => (by rw [e]; simp; omega)) fun _ => Nat.zero_le _) fun _ => bifL (fun h5 => ?_) fun _ => bifL (fun h67 => ?_) fun _ => Nat.zero_le _
    · have h5 := eq_of_beq h5
      exact Nat.le_trans (key _ (hl (.inl h5)).1 (hl (.inl h5)).2 _) (by omega)
    · have h6 : (nth q k).1 = 6 ∨ (nth q k).1 = 7 := by simpa using h67
      have L := key _ (hl (.inr h6)).1 (hl (.inr h6)).2
      have R := key _ (hr h6).1 (hr h6).2
      refine bifL (fun _ => Nat.le_trans (merge_len _ _) (by have := L m; have := R m; omega)) fun _ => bifL (fun _ => Nat.le_trans (L _) (by omega)) fun _ => bifL (fun _ => Nat.le_trans (R _) (by omega)) fun _ => Nat.zero_le _
theorem editAt_512 {q : List Xa} (hv : Qx q = true) (f : Xt) (r : List Qs) (n : Nat) (m : Bool) {l : Int} (h0 : 0 ≤ l) (h1 : l < (q.length : Int)) : (Xi n q l f r m).2.length ≤ 512 := by
 have := editAt_len hv f r n l.toNat m (by omega)
 rw [Int.toNat_of_nonneg h0] at this
 have h9 := vq_len hv
 exact Nat.le_trans this (Nat.le_trans (Nat.pow_le_pow_right (by decide) (show l.toNat + 1 ≤ 9 by omega)) (by decide))
theorem impleditAt_a : ∀ (n_ : Nat) (q : (List Xa)) (at_ : Int) (f : Xt) (r : (List Qs)) (match_ : Bool) (hv : Qx q = true) (ha : 0 ≤ at_) (hb : at_ < (q.length : Int)) (hn : at_ < ((n_ : Nat) : Int)), ACalls Tryz.prog 173 [.h q, .i at_, .a [.i f.1, .i f.2.1, .b f.2.2.1, .i f.2.2.2.1, .h f.2.2.2.2], .h r, .b match_] (.a [.b ((Xi n_ q at_ f r match_).1), .o 0 ((Xi n_ q at_ f r match_).2)]) := by
 intro n_
 induction n_ with
 | zero => intro q at_ f r match_ hv ha hb hn; exact (by omega : False).elim
 | succ n_ ih =>
  intro q at_ f r match_ hv ha hb hn
  refine en Qc Tryz.func173 fun w0 F0 hG => ?_
  refine sn Qc [0, 1, 3, 4, 7, 10] [7, 10] (p0) ?_
  refine wT 0 0 .sh q (fun hw2 hl3 => ?_)
  have hx1 : q[(Int.toNat at_)]? = some (nth q (Int.toNat at_)) := Xv (by omega)
  refine tn Qc [0, 1, 3, 4, 7, 10, 11] [7, 10, 11] (pg 2 at_ hx1 p0) ?_
  refine Qg ?_
  refine tu Qc [(7, .p 7 0), (10, .p 10 0), (11, .p 11 0), (24, .b ((Xl (List.length q) q at_ f r) == match_))] [1, 2] [(7, [.i f.1, .i f.2.1, .b f.2.2.1, .i f.2.2.2.1, .h f.2.2.2.2]), (10, [.b false, .e 4]), (11, [.i ((nth q (Int.toNat at_)).1), .i ((nth q (Int.toNat at_)).2.1), .i ((nth q (Int.toNat at_)).2.2.1), .s ((nth q (Int.toNat at_)).2.2.2.1), .i ((nth q (Int.toNat at_)).2.2.2.2.1), .i ((nth q (Int.toNat at_)).2.2.2.2.2.1), .s ((nth q (Int.toNat at_)).2.2.2.2.2.2)])] [] (pc 4 (implmatchesAt_a (List.length q) q at_ f r hv ha hb (by omega)) p0) ?_
  refine ck ((Xl (List.length q) q at_ f r) == match_) (fun h4 => ?_) (fun h4 => ?_)
  ·
   refine sn Qc [0, 3, 4, 7, 10, 11] [7, 10, 11] (p0) ?_
   refine opn [(true, 10, 1, true, 384000, 4)] ?_
   refine Qp ?_
   exact Ye [] (congrArg (fun z => (.a [.b z.1, .o 0 z.2] : AV)) (show Xi (n_ + 1) q at_ f r match_ = _ from Xm h4 (rfl)).symm)
  ·
   have h4d := Zd h4
   refine Qo ?_
   refine Qg ?_
   refine sn Qc [0, 3, 4, 7, 10, 11, 27] [7, 10, 11] (p0) ?_
   refine Q6 ?_
   refine tn Qc [0, 3, 4, 7, 10, 11, 27, 28] [7, 10, 11] (p0) ?_
   refine ck ((nth q (Int.toNat at_)).1 == (3 : Int)) (fun h5 => ?_) (fun h5 => ?_)
   ·
    refine tu Qc [(30, .b match_)] [0, 3, 4, 7, 24] [] [7] (p0) ?_
    refine ck match_ (fun h6 => ?_) (fun h6 => ?_)
    ·
     refine sn Qc [10] [10] (p0) ?_
     refine Qp ?_
     exact Ye [] (congrArg (fun z => (.a [.b z.1, .o 0 z.2] : AV)) (show Xi (n_ + 1) q at_ f r match_ = _ from Qz h4 (Xm h5 (Xm h6 (rfl)))).symm)
    ·
     refine Qo ?_
     refine sn Qc [10] [10] (p0) ?_
     refine opn [(true, 10, 1, true, 384000, 4)] ?_
     refine Qp ?_
     exact Ye [] (congrArg (fun z => (.a [.b z.1, .o 0 z.2] : AV)) (show Xi (n_ + 1) q at_ f r match_ = _ from Qz h4 (Xm h5 (Qz h6 (rfl)))).symm)
   ·
    have h5d := Zd h5
    refine tu Qc [(27, .i ((nth q (Int.toNat at_)).1)), (38, .b ((nth q (Int.toNat at_)).1 == (2 : Int)))] [24] [] [] (p0) ?_
    refine ck ((nth q (Int.toNat at_)).1 == (2 : Int)) (fun h7 => ?_) (fun h7 => ?_)
    ·
     refine sn Qc [10, 11, 41] [10, 11] (p0) ?_
     refine ck (!match_) (fun h8 => ?_) (fun h8 => ?_)
     ·
      refine tn Qc [10] [10] (p0) ?_
      refine Qp ?_
      exact Ye [] (congrArg (fun z => (.a [.b z.1, .o 0 z.2] : AV)) (show Xi (n_ + 1) q at_ f r match_ = _ from Qz h4 (Qz h5 (Xm h7 (Xm h8 (rfl))))).symm)
     ·
      refine Qo ?_
      refine tn Qc [10] [10] (p0) ?_
      refine opn [(true, 10, 1, true, 384000, 4)] ?_
      refine Qp ?_
      exact Ye [] (congrArg (fun z => (.a [.b z.1, .o 0 z.2] : AV)) (show Xi (n_ + 1) q at_ f r match_ = _ from Qz h4 (Qz h5 (Xm h7 (Qz h8 (rfl))))).symm)
    ·
     have h7d := Zd h7
     refine sn Qc [0, 3, 4, 7, 10, 11, 27, 47] [7, 10, 11] (p0) ?_
     refine ck ((nth q (Int.toNat at_)).1 == (5 : Int)) (fun h9 => ?_) (fun h9 => ?_)
     ·
      have h9d := eq_of_beq h9
      refine tn Qc [10] [10] (pc 7 (ih q ((nth q (Int.toNat at_)).2.1) f r (!match_) hv (by have hz := ql_a hv ha hb h9; omega) (by have hz := ql_a hv ha hb h9; omega) (by have hz := ql_a hv ha hb h9; omega)) p0) ?_
      refine Qp ?_
      exact Ye [] (congrArg (fun z => (.a [.b z.1, .o 0 z.2] : AV)) (show Xi (n_ + 1) q at_ f r match_ = _ from Qz h4 (Qz h5 (Qz h7 (Xm h9 (rfl))))).symm)
     ·
      have h9d := Zd h9
      refine Qg ?_
      refine tn Qc [0, 3, 4, 7, 10, 11, 27, 57] [7, 10, 11] (p0) ?_
      refine mz [(57, .b ((nth q (Int.toNat at_)).1 == (6 : Int)))] [38] [] [] ?_
      refine jn [(57, .b (((nth q (Int.toNat at_)).1 == (6 : Int)) || ((nth q (Int.toNat at_)).1 == (7 : Int))))] [27, 57] [] [] ((nth q (Int.toNat at_)).1 == (6 : Int)) (fun h10 => ?_) (fun h10 => ?_) ?_
      ·
       refine ckt h10 ?_
       refine Qo ?_
       exact ⟨rfl, Qf (by rw [h10]; first | done | kernel_rfl)⟩
      ·
       refine ckf h10 ?_
       refine rn Qc [0, 3, 4, 7, 10, 11, 57] [7, 10, 11] (p0) ?_
       exact ⟨rfl, Qf (by rw [h10]; first | done | kernel_rfl)⟩
      refine ck (((nth q (Int.toNat at_)).1 == (6 : Int)) || ((nth q (Int.toNat at_)).1 == (7 : Int))) (fun h11 => ?_) (fun h11 => ?_)
      ·
       refine sN Qc Z4 [4, 10, 11, 12, 13] [10, 11, 12, 13] (pc 6 (ih q ((nth q (Int.toNat at_)).2.1) f r match_ hv (by have hz := (qlr_bc hv ha hb h11).1; omega) (by have hz := (qlr_bc hv ha hb h11).1; omega) (by have hz := (qlr_bc hv ha hb h11).1; omega)) (pc 13 (ih q ((nth q (Int.toNat at_)).2.2.1) f r match_ hv (by have hz := (qlr_bc hv ha hb h11).2; omega) (by have hz := (qlr_bc hv ha hb h11).2; omega) (by have hz := (qlr_bc hv ha hb h11).2; omega)) p0)) ?_
       refine Qg ?_
       refine tn Qc [10, 12, 13, 78] [10, 12, 13] (p0) ?_
       refine ck (((nth q (Int.toNat at_)).1 == (6 : Int)) == match_) (fun h12 => ?_) (fun h12 => ?_)
       ·
        have h12d := eq_of_beq h12
        refine tu Qc [(12, .p 12 0), (13, .p 13 0)] [0, 3, 4, 7, 11, 57] [(10, [.b ((implMergeEdits (Xi n_ q ((nth q (Int.toNat at_)).2.1) f r match_) (Xi n_ q ((nth q (Int.toNat at_)).2.2.1) f r match_)).1), .o 5184 ((implMergeEdits (Xi n_ q ((nth q (Int.toNat at_)).2.1) f r match_) (Xi n_ q ((nth q (Int.toNat at_)).2.2.1) f r match_)).2)]), (12, [.b ((Xi n_ q ((nth q (Int.toNat at_)).2.1) f r match_).1), .o 4224 ((Xi n_ q ((nth q (Int.toNat at_)).2.1) f r match_).2)]), (13, [.b ((Xi n_ q ((nth q (Int.toNat at_)).2.2.1) f r match_).1), .o 4672 ((Xi n_ q ((nth q (Int.toNat at_)).2.2.1) f r match_).2)])] [7, 10, 11] (pc 2 (implMergeEdits_a (Xi n_ q ((nth q (Int.toNat at_)).2.1) f r match_) (Xi n_ q ((nth q (Int.toNat at_)).2.2.1) f r match_) (by have hz := qlr_bc hv ha hb h11; have hq1 := editAt_512 hv f r n_ match_ (l := (nth q (Int.toNat at_)).2.1) (by omega) (by omega); have hq2 := editAt_512 hv f r n_ match_ (l := (nth q (Int.toNat at_)).2.2.1) (by omega) (by omega); omega)) p0) ?_
        refine Qp ?_
        exact Ye [] (congrArg (fun z => (.a [.b z.1, .o 0 z.2] : AV)) (show Xi (n_ + 1) q at_ f r match_ = _ from Qz h4 (Qz h5 (Qz h7 (Qz h9 (Xm h11 (Xm h12 (rfl))))))).symm)
       ·
        refine Qo ?_
        refine Q6 ?_
        refine Qg ?_
        refine mz [(12, .p 12 0), (13, .p 13 0), (78, .b (((nth q (Int.toNat at_)).1 == (6 : Int)) == match_))] [0, 3, 4, 7, 11, 57] [(12, [.b ((Xi n_ q ((nth q (Int.toNat at_)).2.1) f r match_).1), .o 4224 ((Xi n_ q ((nth q (Int.toNat at_)).2.1) f r match_).2)]), (13, [.b ((Xi n_ q ((nth q (Int.toNat at_)).2.2.1) f r match_).1), .o 4672 ((Xi n_ q ((nth q (Int.toNat at_)).2.2.1) f r match_).2)])] [7, 11] ?_
        refine jn [(82, .b ((Xi n_ q ((nth q (Int.toNat at_)).2.1) f r match_).1 && (!((Xi n_ q ((nth q (Int.toNat at_)).2.2.1) f r match_).1))))] [78] [] [] ((Xi n_ q ((nth q (Int.toNat at_)).2.1) f r match_).1) (fun h13 => ?_) (fun h13 => ?_) ?_
        ·
         refine rn Qc [10, 12, 13, 82] [10, 12, 13] (pt 1 h13 p0) ?_
         exact ⟨rfl, Qf (by rw [h13]; first | done | kernel_rfl)⟩
        ·
         refine ru Qc [(82, .b false)] [78] [] [] (pf 1 h13 p0) ?_
         exact ⟨rfl, Qf (by rw [h13]; first | done | kernel_rfl)⟩
        refine ck ((Xi n_ q ((nth q (Int.toNat at_)).2.1) f r match_).1 && (!((Xi n_ q ((nth q (Int.toNat at_)).2.2.1) f r match_).1))) (fun h14 => ?_) (fun h14 => ?_)
        ·
         refine sn Qc [10] [10] (p0) ?_
         refine Qp ?_
         exact Ye [] (congrArg (fun z => (.a [.b z.1, .o 0 z.2] : AV)) (show Xi (n_ + 1) q at_ f r match_ = _ from Qz h4 (Qz h5 (Qz h7 (Qz h9 (Xm h11 (Qz h12 (Xm h14 (rfl)))))))).symm)
        ·
         refine Qg ?_
         refine jn [(91, .b ((Xi n_ q ((nth q (Int.toNat at_)).2.2.1) f r match_).1 && (!((Xi n_ q ((nth q (Int.toNat at_)).2.1) f r match_).1))))] [12, 82] [] [12] ((Xi n_ q ((nth q (Int.toNat at_)).2.2.1) f r match_).1) (fun h15 => ?_) (fun h15 => ?_) ?_
         ·
          refine rn Qc [10, 13, 91] [10, 13] (pt 1 h15 p0) ?_
          exact ⟨rfl, Qf (by rw [h15]; first | done | kernel_rfl)⟩
         ·
          refine rn Qc [10, 13, 91] [10, 13] (pf 1 h15 p0) ?_
          exact ⟨rfl, Qf (by rw [h15]; first | done | kernel_rfl)⟩
         refine ck ((Xi n_ q ((nth q (Int.toNat at_)).2.2.1) f r match_).1 && (!((Xi n_ q ((nth q (Int.toNat at_)).2.1) f r match_).1))) (fun h16 => ?_) (fun h16 => ?_)
         ·
          refine sn Qc [10] [10] (p0) ?_
          refine Qp ?_
          exact Ye [] (congrArg (fun z => (.a [.b z.1, .o 0 z.2] : AV)) (show Xi (n_ + 1) q at_ f r match_ = _ from Qz h4 (Qz h5 (Qz h7 (Qz h9 (Xm h11 (Qz h12 (Qz h14 (Xm h16 (rfl))))))))).symm)
         ·
          refine Qo ?_
          refine sn Qc [10] [10] (p0) ?_
          refine opn [(true, 10, 1, true, 384000, 4)] ?_
          refine Qp ?_
          exact Ye [] (congrArg (fun z => (.a [.b z.1, .o 0 z.2] : AV)) (show Xi (n_ + 1) q at_ f r match_ = _ from Qz h4 (Qz h5 (Qz h7 (Qz h9 (Xm h11 (Qz h12 (Qz h14 (Qz h16 (rfl))))))))).symm)
      ·
       refine Qo ?_
       refine sn Qc [10] [10] (p0) ?_
       refine opn [(true, 10, 1, true, 384000, 4)] ?_
       refine Qp ?_
       exact Ye [] (congrArg (fun z => (.a [.b z.1, .o 0 z.2] : AV)) (show Xi (n_ + 1) q at_ f r match_ = _ from Qz h4 (Qz h5 (Qz h7 (Qz h9 (Qz h11 (rfl)))))).symm)
def Qm (q : (List Xa)) (f : Xt) (r : (List Qs)) : EditD := (bif (!(Qx q)) then (false, []) else (Xi (List.length q) q ((q.length : Int) - 1) f r true))
theorem editM_len {q : List Xa} {f : Xt} {r : List Qs} : (Qm q f r).2.length ≤ 512 := by
 unfold Qm
 cases hv : Qx q with
 | false => exact Nat.zero_le _
 | true => have := vq_len hv; exact editAt_512 hv f r _ _ (by omega) (by omega)
theorem implEditToMatch_a (q : (List Xa)) (f : Xt) (r : (List Qs)) : ACalls Tryz.prog 127 [.h q, .a [.i f.1, .i f.2.1, .b f.2.2.1, .i f.2.2.2.1, .h f.2.2.2.2], .h r] (.a [.b ((Qm q f r).1), .o 0 ((Qm q f r).2)]) := by
 refine en Qc Tryz.func127 fun w0 F0 hG => ?_
 refine sn Qc [0, 2, 4, 6] [4, 6] (p0) ?_
 refine Qg ?_
 refine tn Qc [0, 2, 4, 6, 9] [4, 6] (pc 1 (implIsValidQuery_a q) p0) ?_
 refine ck (!(Qx q)) (fun h1 => ?_) (fun h1 => ?_)
 ·
  refine tu Qc [(4, .p 4 0), (6, .p 6 0)] [1] [(4, [.i f.1, .i f.2.1, .b f.2.2.1, .i f.2.2.2.1, .h f.2.2.2.2]), (6, [.b false, .e 4])] [] (p0) ?_
  refine opn [(true, 6, 1, true, 384000, 4)] ?_
  refine Qp ?_
  exact Ye [] (congrArg (fun z => (.a [.b z.1, .o 0 z.2] : AV)) (show Qm q f r = _ from Xm h1 (rfl)).symm)
 ·
  have h1n : (Qx q) = true := Jd h1
  refine Qo ?_
  refine wT 0 0 .sh q (fun hw2 hl3 => ?_)
  refine tu Qc [(6, .p 6 0)] [0, 1, 2] [(6, [.b ((Xi (List.length q) q ((q.length : Int) - 1) f r true).1), .o 1088 ((Xi (List.length q) q ((q.length : Int) - 1) f r true).2)])] [] (pl 2 q (pe 3 (av_i (IntWalk.i64_in ((q.length : Int) - 1) (by omega))) (pc 6 (impleditAt_a (List.length q) q ((q.length : Int) - 1) f r true h1n (by have := vq_len h1n; omega) (by omega) (by omega)) p0))) ?_
  refine Qp ?_
  exact Ye [] (congrArg (fun z => (.a [.b z.1, .o 0 z.2] : AV)) (show Qm q f r = _ from Qz h1 (rfl)).symm)
def Qk (q : (List Xa)) (f : Xt) (r : (List Qs)) : EditD := (bif (!(Qx q)) then (false, []) else (Xi (List.length q) q ((q.length : Int) - 1) f r false))
theorem editU_len {q : List Xa} {f : Xt} {r : List Qs} : (Qk q f r).2.length ≤ 512 := by
 unfold Qk
 cases hv : Qx q with
 | false => exact Nat.zero_le _
 | true => have := vq_len hv; exact editAt_512 hv f r _ _ (by omega) (by omega)
theorem implEditToUnmatch_a (q : (List Xa)) (f : Xt) (r : (List Qs)) : ACalls Tryz.prog 126 [.h q, .a [.i f.1, .i f.2.1, .b f.2.2.1, .i f.2.2.2.1, .h f.2.2.2.2], .h r] (.a [.b ((Qk q f r).1), .o 0 ((Qk q f r).2)]) := by
 refine en Qc Tryz.func126 fun w0 F0 hG => ?_
 refine sn Qc [0, 2, 4, 6] [4, 6] (p0) ?_
 refine Qg ?_
 refine tn Qc [0, 2, 4, 6, 9] [4, 6] (pc 1 (implIsValidQuery_a q) p0) ?_
 refine ck (!(Qx q)) (fun h1 => ?_) (fun h1 => ?_)
 ·
  refine tu Qc [(4, .p 4 0), (6, .p 6 0)] [1] [(4, [.i f.1, .i f.2.1, .b f.2.2.1, .i f.2.2.2.1, .h f.2.2.2.2]), (6, [.b false, .e 4])] [] (p0) ?_
  refine opn [(true, 6, 1, true, 384000, 4)] ?_
  refine Qp ?_
  exact Ye [] (congrArg (fun z => (.a [.b z.1, .o 0 z.2] : AV)) (show Qk q f r = _ from Xm h1 (rfl)).symm)
 ·
  have h1n : (Qx q) = true := Jd h1
  refine Qo ?_
  refine wT 0 0 .sh q (fun hw2 hl3 => ?_)
  refine tu Qc [(6, .p 6 0)] [0, 1, 2] [(6, [.b ((Xi (List.length q) q ((q.length : Int) - 1) f r false).1), .o 1088 ((Xi (List.length q) q ((q.length : Int) - 1) f r false).2)])] [] (pl 2 q (pe 3 (av_i (IntWalk.i64_in ((q.length : Int) - 1) (by omega))) (pc 6 (impleditAt_a (List.length q) q ((q.length : Int) - 1) f r false h1n (by have := vq_len h1n; omega) (by omega) (by omega)) p0))) ?_
  refine Qp ?_
  exact Ye [] (congrArg (fun z => (.a [.b z.1, .o 0 z.2] : AV)) (show Qk q f r = _ from Qz h1 (rfl)).symm)
def implSetAttr_1 (a_ : Zk) (q0 : ByteArray) : Bool := (a_.1.toList == q0.toList)
theorem implSetAttr_1_a (a_ : Zk) (q0 : ByteArray) : ACalls Tryz.prog 228 [.a [.s a_.1, .i a_.2.1, .i a_.2.2.1, .s a_.2.2.2], .one (.rptr .sh [.s q0])] (.b (implSetAttr_1 a_ q0)) := by
 refine en Qc Tryz.func228 fun w0 F0 hG => ?_
 refine sn Qc [1, 2, 3] [2] (p0) ?_
 refine tn Qc [3] [] (p0) ?_
 refine Qp ?_
 exact Ye [] (congrArg (fun z => (.b z : AV)) (show implSetAttr_1 a_ q0 = (a_.1.toList == q0.toList) from rfl).symm)
def Zq (c0 : ByteArray) (k0 : Nat) (a0 : Zk) (_ : Unit) : Rd (Int) (Unit) (Unit) := (bif (implSetAttr_1 a0 c0) then (.ret ((k0 : Nat) : Int)) else (.next ()))
def Zr (_ : Nat) (_ : Unit) : Unit := ()
def Qv (s_ : (List Zk)) (c0 : ByteArray) : Int := (Out.on (Xg (Zq c0) Zr s_ 0 ()) (fun _ => -1))
theorem slicesIndexFunc_Attr_implSetAttr_1_ix (s_ : (List Zk)) (c0 : ByteArray) : Qv s_ c0 = ixF (fun a => implSetAttr_1 a c0) s_ := idx_eq (fun _ _ _ => rfl) s_
theorem slicesIndexFunc_Attr_implSetAttr_1_bd (s_ : (List Zk)) (c0 : ByteArray) : -1 ≤ Qv s_ c0 ∧ Qv s_ c0 < (List.length s_ : Int) := by rw [slicesIndexFunc_Attr_implSetAttr_1_ix]; exact ixF_bd _ _
theorem slicesIndexFunc_Attr_implSetAttr_1_a (s_ : (List Zk)) (c0 : ByteArray) : ACalls Tryz.prog 229 [.h s_, .one (.fnr 228 [[.s c0]])] (.i (Qv s_ c0)) := by
 refine en Qc Tryz.func229 fun w0 F0 hG => ?_
 refine sn Qc [0, 1, 4] [] (p0) ?_
 refine Qg ?_
 refine tn Qc [0, 1, 4, 7, 8] [] (pl 1 s_ p0) ?_
 refine mz [(4, .i 0), (7, .i (s_.length : Int)), (8, .i 0)] [] [] [] ?_
 refine wT 0 0 .sh s_ (fun hw1 hl2 => ?_)
 refine blk (fun (k0 : Nat) (s0 : Unit) => [(8, .i ((k0 : Nat) : Int))]) [8] (fun k0 s0 => []) [] (fun (y0 : Unit) => []) [0, 1, 7, 8] (fun y0 => []) [] (fun (k0 : Nat) (s0 : Unit) => (Xg (Zq c0) Zr s_ 0 ()) = Xg (Zq c0) Zr (List.drop k0 s_) k0 s0) (fun (y0 : Unit) => (Xg (Zq c0) Zr s_ 0 ()) = .brk y0) s_.length () (Qf (by kernel_rfl)) rfl (fun k0 s0 hk0 hI0 => ?_) (fun k0 s0 hk0 hI0 => ?_) (fun y0 hD0 => ?_)
 ·
  obtain ⟨a0, hx0⟩ := Xq (l := s_) (i := k0) hk0
  refine sn Qc [0, 1, 4, 7, 8, 9] [] (pe 0 (Q0 (decide_eq_true (p := ((k0 : Nat) : Int) < (s_.length : Int)) (by omega))) p0) ?_
  refine Qg ?_
  refine ckT ?_
  refine Qo ?_
  refine Qg ?_
  refine Q6 ?_
  refine tn Qc [0, 1, 4, 5, 7, 8] [] (p0) ?_
  refine tu Qc [(5, .i ((k0 : Nat) : Int)), (16, .b (implSetAttr_1 a0 c0))] [] [] [] (pn 3 hx0 (pc 5 (implSetAttr_1_a a0 c0) p0)) ?_
  refine ck (implSetAttr_1 a0 c0) (fun h3 => ?_) (fun h3 => ?_)
  ·
   refine sn Qc [0, 1, 4, 7, 8] [] (p0) ?_
   refine Qp ?_
   have hr4 : (Xg (Zq c0) Zr s_ 0 ()) = .ret ((k0 : Nat) : Int) := Zw hx0 (Xm h3 (rfl)) hI0
   exact Ye [] (congrArg (fun z => (.i z : AV)) (show Qv s_ c0 = _ from on_r hr4).symm)
  ·
   refine Qo ?_
   refine rn Qc [0, 1, 4, 7, 8] [] (pe 0 (av_i (Qy k0 (by omega))) p0) ?_
   exact Exists.intro _ (And.intro (Qf (by kernel_rfl)) (Q4 hx0 (Qz h3 (rfl)) hI0))
 ·
  refine sn Qc [0, 1, 4, 7, 8, 9] [] (pe 0 (Q0 (decide_eq_false (p := ((k0 : Nat) : Int) < (s_.length : Int)) (by omega))) p0) ?_
  refine Qg ?_
  refine ckF ?_
  refine Xc ?_
  exact Exists.intro _ (And.intro (Qf (by kernel_rfl)) (Xr hk0 (rfl) hI0))
 ·
  refine sn Qc [4] [] (p0) ?_
  refine Qp ?_
  exact Ye [] (congrArg (fun z => (.i z : AV)) (show Qv s_ c0 = _ from on_b hD0 (rfl)).symm)
def Yd (c0 : ByteArray) (s0 : (List Zk) × Int × Int) : Rd ((List Zk)) ((List Zk) × Int × Int) ((List Zk) × Int) := (bif decide (s0.2.2 < (s0.1.length : Int)) then (bif (!(implSetAttr_1 (nth s0.1 (Int.toNat s0.2.2)) c0)) then (.next (List.set s0.1 (Int.toNat s0.2.1) (nth s0.1 (Int.toNat s0.2.2)), (s0.2.1 + 1), (s0.2.2 + 1))) else (.next (s0.1, s0.2.1, (s0.2.2 + 1)))) else (.brk (s0.1, s0.2.1)))
def Ql (s_ : (List Zk)) (c0 : ByteArray) : (List Zk) := (bif ((Qv s_ c0) == (-1 : Int)) then s_ else (Out.on (whlD (Yd c0) (List.length s_ + 1) (s_, (Qv s_ c0), ((Qv s_ c0) + 1))) (fun y0 => List.take (Int.toNat y0.2) y0.1)))
theorem slicesDeleteFunc_Attr_implSetAttr_1_st (c0 : ByteArray) : DelStep (Yd c0) (fun a => implSetAttr_1 a c0) := by
 intro s i j hij hj
 unfold Yd
 by_cases h : (j : Int) < (s.length : Int) <;> cases hp : implSetAttr_1 (nth s j) c0 <;> simp [h, hp]
theorem slicesDeleteFunc_Attr_implSetAttr_1_w (s_ : (List Zk)) (c0 : ByteArray) (hp : List.length s_ ≤ 1073741824) (h : Qv s_ c0 ≠ -1) : (whl (Yd c0) (List.length s_ + 1) (s_, Qv s_ c0, Qv s_ c0 + 1)).isSome = true := del_some (slicesDeleteFunc_Attr_implSetAttr_1_st c0) hp (slicesIndexFunc_Attr_implSetAttr_1_ix s_ c0) h
theorem slicesDeleteFunc_Attr_implSetAttr_1_eq (s_ : (List Zk)) (c0 : ByteArray) (hp : List.length s_ ≤ 1073741824) : Ql s_ c0 = s_.filter (fun a => !(implSetAttr_1 a c0)) := by
 unfold Ql
 exact del_eq (slicesDeleteFunc_Attr_implSetAttr_1_st c0) hp (slicesIndexFunc_Attr_implSetAttr_1_ix s_ c0)
theorem slicesDeleteFunc_Attr_implSetAttr_1_le (s_ : (List Zk)) (c0 : ByteArray) (hp : List.length s_ ≤ 1073741824) : List.length (Ql s_ c0) ≤ List.length s_ := by rw [slicesDeleteFunc_Attr_implSetAttr_1_eq _ _ hp]; exact List.length_filter_le _ _
theorem slicesDeleteFunc_Attr_implSetAttr_1_a (s_ : (List Zk)) (c0 : ByteArray) : ATake Tryz.prog 227 4 (eL s_) [.one (.fnr 228 [[.s c0]])] true false (eL (Ql s_ c0)) := by
 refine atake_of (tt := tt) Qc Tryz.func227 (fn := Tryz.f227) rfl (by unfold FnOk; kernel_rfl) (Nat.le_of_ble_eq_true rfl) (by simp [AV.cells, C.key, C.bkeys]) (t := 4) rfl fun w0 F0 hG => ?_
 refine wT 0 0 (.own false 63) s_ (fun hw1 hl2 => ?_)
 have hix := slicesIndexFunc_Attr_implSetAttr_1_bd s_ c0
 refine sn Qc [0, 1, 4] [] (p0) ?_
 refine tn Qc [0, 1, 4, 5] [] (pc 2 (slicesIndexFunc_Attr_implSetAttr_1_a s_ c0) p0) ?_
 refine Qg ?_
 refine tu Qc [(4, .e 0), (5, .i (Qv s_ c0)), (12, .b ((Qv s_ c0) == (-1 : Int)))] [] [] [] (p0) ?_
 refine ck ((Qv s_ c0) == (-1 : Int)) (fun h3 => ?_) (fun h3 => ?_)
 ·
  refine sn Qc [0, 1, 4, 5] [] (p0) ?_
  refine Qp ?_
  have hE4 : Ql s_ c0 = s_ := Xm h3 (rfl)
  exact ⟨.inl rfl, 63, by rw [hE4]; kernel_rfl⟩
 ·
  have h3d := Zd h3
  refine Qo ?_
  refine Qg ?_
  refine sn Qc [0, 1, 4, 5, 6] [] (pe 1 (av_i (IntWalk.i64_in ((Qv s_ c0) + 1) (by omega))) p0) ?_
  refine mz [(6, .i ((Qv s_ c0) + 1))] [12] [] [] ?_
  refine blw (fun (s0 : (List Zk) × Int × Int) => [(0, .q 63 s0.1), (5, .i s0.2.1), (6, .i s0.2.2)]) [0, 5, 6] (fun s0 => []) [] (fun (y0 : (List Zk) × Int) => [(0, .q 63 y0.1), (5, .i y0.2)]) [0, 1, 5, 6] (fun y0 => []) [] (fun (k0 : Nat) (s0 : (List Zk) × Int × Int) => whl (Yd c0) k0 s0 = some (whlD (Yd c0) (List.length s_ + 1) (s_, (Qv s_ c0), ((Qv s_ c0) + 1))) ∧ 0 ≤ s0.2.1 ∧ s0.2.1 < s0.2.2 ∧ s0.2.2 ≤ (List.length s0.1 : Int) ∧ List.length s0.1 = List.length s_) (fun (y0 : (List Zk) × Int) => (whlD (Yd c0) (List.length s_ + 1) (s_, (Qv s_ c0), ((Qv s_ c0) + 1))) = .brk y0 ∧ 0 ≤ y0.2 ∧ y0.2 < (List.length y0.1 : Int) ∧ List.length y0.1 = List.length s_) (List.length s_ + 1) (s_, (Qv s_ c0), ((Qv s_ c0) + 1)) (Qf (by kernel_rfl)) ⟨whl_some (slicesDeleteFunc_Attr_implSetAttr_1_w s_ c0 hl2 h3d), (by first | omega | (dsimp only; omega) | rfl), (by first | omega | (dsimp only; omega) | rfl), (by first | omega | (dsimp only; omega) | rfl), (by first | omega | (dsimp only; omega) | rfl)⟩ (fun _ h => whl_zero h.1) (fun k0 s0 hI0 => ?_) (fun y0 hD0 => ?_)
  ·
   have hA0_0 := hI0.2.1
   have hA0_1 := hI0.2.2.1
   have hA0_2 := hI0.2.2.2.1
   have hA0_3 := hI0.2.2.2.2
   refine Qg ?_
   refine sn Qc [0, 1, 4, 5, 6, 19] [] (pl 2 s0.1 p0) ?_
   refine ck (decide (s0.2.2 < (s0.1.length : Int))) (fun h5 => ?_) (fun h5 => ?_)
   ·
    have h5d := of_decide_eq_true h5
    refine Qo ?_
    refine Qg ?_
    refine Q6 ?_
    refine wT 0 0 (.own false 63) s0.1 (fun hw7 hl8 => ?_)
    have hx6 : s0.1[(Int.toNat s0.2.2)]? = some (nth s0.1 (Int.toNat s0.2.2)) := Xv (by omega)
    refine tn Qc [0, 1, 4, 5, 6, 7] [7] (pG 2 s0.2.2 hx6 p0) ?_
    refine tu Qc [(7, .p 7 0), (29, .b (!(implSetAttr_1 (nth s0.1 (Int.toNat s0.2.2)) c0)))] [] [(7, [.s ((nth s0.1 (Int.toNat s0.2.2)).1), .i ((nth s0.1 (Int.toNat s0.2.2)).2.1), .i ((nth s0.1 (Int.toNat s0.2.2)).2.2.1), .s ((nth s0.1 (Int.toNat s0.2.2)).2.2.2)])] [] (pc 2 (implSetAttr_1_a (nth s0.1 (Int.toNat s0.2.2)) c0) p0) ?_
    refine ck (!(implSetAttr_1 (nth s0.1 (Int.toNat s0.2.2)) c0)) (fun h9 => ?_) (fun h9 => ?_)
    ·
     have hx10 : s0.1[(Int.toNat s0.2.1)]? = some (nth s0.1 (Int.toNat s0.2.1)) := Xv (by omega)
     refine su Qc [(0, .one (.slc (.own false 63) 4 (setRow (eL s0.1) (Int.toNat s0.2.1) 0 [.s ((nth s0.1 (Int.toNat s0.2.2)).1), .i ((nth s0.1 (Int.toNat s0.2.2)).2.1), .i ((nth s0.1 (Int.toNat s0.2.2)).2.2.1), .s ((nth s0.1 (Int.toNat s0.2.2)).2.2.2)])))] [0, 7, 29] [] [7] (pG 3 s0.2.1 hx10 p0) ?_
     refine eqn [(0, .q 63 (List.set s0.1 (Int.toNat s0.2.1) (nth s0.1 (Int.toNat s0.2.2))))] [0] [] [] (by rw [setRow_eL (y := (nth s0.1 (Int.toNat s0.2.2))) hx10 rfl]; first | done | kernel_rfl) ?_
     refine rn Qc [0, 1, 4, 5, 6] [] (pe 1 (av_i (IntWalk.i64_in (s0.2.1 + 1) (by omega))) p0) ?_
     refine qn Qc [0, 1, 4, 5, 6] [] (pe 1 (av_i (IntWalk.i64_in (s0.2.2 + 1) (by omega))) p0) ?_
     exact Exists.intro (List.set s0.1 (Int.toNat s0.2.1) (nth s0.1 (Int.toNat s0.2.2)), (s0.2.1 + 1), (s0.2.2 + 1)) (And.intro (Qf (by kernel_rfl)) ⟨whl_next (Xm h5 (Xm h9 (rfl))) hI0.1, (by first | omega | (dsimp only; omega) | (simp only [List.length_set]; omega)), (by first | omega | (dsimp only; omega) | (simp only [List.length_set]; omega)), (by first | omega | (dsimp only; omega) | (simp only [List.length_set]; omega)), (by first | omega | (dsimp only; omega) | (simp only [List.length_set]; omega))⟩)
    ·
     refine Qo ?_
     refine rn Qc [0, 1, 4, 5, 6] [] (pe 1 (av_i (IntWalk.i64_in (s0.2.2 + 1) (by omega))) p0) ?_
     exact Exists.intro (s0.1, s0.2.1, (s0.2.2 + 1)) (And.intro (Qf (by kernel_rfl)) ⟨whl_next (Xm h5 (Qz h9 (rfl))) hI0.1, (by first | omega | (dsimp only; omega) | (simp only [List.length_set]; omega)), (by first | omega | (dsimp only; omega) | (simp only [List.length_set]; omega)), (by first | omega | (dsimp only; omega) | (simp only [List.length_set]; omega)), (by first | omega | (dsimp only; omega) | (simp only [List.length_set]; omega))⟩)
   ·
    have h5d := of_decide_eq_false h5
    refine Xc ?_
    exact Exists.intro (s0.1, s0.2.1) (And.intro (Qf (by kernel_rfl)) ⟨whl_brk (Qz h5 (rfl)) hI0.1, by first | omega | (simp only [List.length_set]; omega), by first | omega | (simp only [List.length_set]; omega), by first | omega | (simp only [List.length_set]; omega)⟩)
  ·
   have hD0_0 := hD0.2.1
   have hD0_1 := hD0.2.2.1
   have hD0_2 := hD0.2.2.2
   refine Qg ?_
   refine awp_clear Qc rfl (by kernel_rfl) rfl rfl rfl rfl rfl (by omega) (by rw [Zc]; omega) (fun lc11 hllc11 htlc11 => ?_)
   refine sn Qc [4] [] (po 2 (.cut (eL (List.take (Int.toNat y0.2) y0.1))) (px (ob_eq (show .one (.slc (.own false 0) 4 ((lc11.take (Int.toNat y0.2)).drop (Int.toNat 0))) = .q 0 (List.take (Int.toNat y0.2) y0.1) from (congrArg (fun z => AV.one (.slc (.own false 0) 4 (z.drop (Int.toNat 0)))) htlc11).trans (av_take (.own false 0) 4 (Int.toNat y0.2) y0.2 y0.1 rfl))) (px (ob_rng (lo := 0) (hi := y0.2) (n := (List.length lc11)) (rng_lc (by omega) (by rw [hllc11, Zc]; omega))) p0))) ?_
   refine Qp ?_
   have hE12 : Ql s_ c0 = List.take (Int.toNat y0.2) y0.1 := Qz h3 (on_b hD0.1 (rfl))
   exact ⟨.inl rfl, 0, by rw [hE12]; kernel_rfl⟩
def implSetAttr_2 (a_ : Zk) (q0 : ByteArray) : Bool := (!(Op.bytesLess a_.1.toList q0.toList || a_.1.toList == q0.toList))
theorem implSetAttr_2_a (a_ : Zk) (q0 : ByteArray) : ACalls Tryz.prog 230 [.a [.s a_.1, .i a_.2.1, .i a_.2.2.1, .s a_.2.2.2], .one (.rptr .sh [.s q0])] (.b (implSetAttr_2 a_ q0)) := by
 refine en Qc Tryz.func230 fun w0 F0 hG => ?_
 refine sn Qc [1, 2, 3] [2] (p0) ?_
 refine tn Qc [3] [] (p0) ?_
 refine Qp ?_
 exact Ye [] (congrArg (fun z => (.b z : AV)) (show implSetAttr_2 a_ q0 = (!(Op.bytesLess a_.1.toList q0.toList || a_.1.toList == q0.toList)) from rfl).symm)
def Zs (c0 : ByteArray) (k0 : Nat) (a0 : Zk) (_ : Unit) : Rd (Int) (Unit) (Unit) := (bif (implSetAttr_2 a0 c0) then (.ret ((k0 : Nat) : Int)) else (.next ()))
def Zt (_ : Nat) (_ : Unit) : Unit := ()
def Xb (s_ : (List Zk)) (c0 : ByteArray) : Int := (Out.on (Xg (Zs c0) Zt s_ 0 ()) (fun _ => -1))
theorem slicesIndexFunc_Attr_implSetAttr_2_ix (s_ : (List Zk)) (c0 : ByteArray) : Xb s_ c0 = ixF (fun a => implSetAttr_2 a c0) s_ := idx_eq (fun _ _ _ => rfl) s_
theorem slicesIndexFunc_Attr_implSetAttr_2_bd (s_ : (List Zk)) (c0 : ByteArray) : -1 ≤ Xb s_ c0 ∧ Xb s_ c0 < (List.length s_ : Int) := by rw [slicesIndexFunc_Attr_implSetAttr_2_ix]; exact ixF_bd _ _
theorem slicesIndexFunc_Attr_implSetAttr_2_a (s_ : (List Zk)) (c0 : ByteArray) : ACalls Tryz.prog 229 [.h s_, .one (.fnr 230 [[.s c0]])] (.i (Xb s_ c0)) := by
 refine en Qc Tryz.func229 fun w0 F0 hG => ?_
 refine sn Qc [0, 1, 4] [] (p0) ?_
 refine Qg ?_
 refine tn Qc [0, 1, 4, 7, 8] [] (pl 1 s_ p0) ?_
 refine mz [(4, .i 0), (7, .i (s_.length : Int)), (8, .i 0)] [] [] [] ?_
 refine wT 0 0 .sh s_ (fun hw1 hl2 => ?_)
 refine blk (fun (k0 : Nat) (s0 : Unit) => [(8, .i ((k0 : Nat) : Int))]) [8] (fun k0 s0 => []) [] (fun (y0 : Unit) => []) [0, 1, 7, 8] (fun y0 => []) [] (fun (k0 : Nat) (s0 : Unit) => (Xg (Zs c0) Zt s_ 0 ()) = Xg (Zs c0) Zt (List.drop k0 s_) k0 s0) (fun (y0 : Unit) => (Xg (Zs c0) Zt s_ 0 ()) = .brk y0) s_.length () (Qf (by kernel_rfl)) rfl (fun k0 s0 hk0 hI0 => ?_) (fun k0 s0 hk0 hI0 => ?_) (fun y0 hD0 => ?_)
 ·
  obtain ⟨a0, hx0⟩ := Xq (l := s_) (i := k0) hk0
  refine sn Qc [0, 1, 4, 7, 8, 9] [] (pe 0 (Q0 (decide_eq_true (p := ((k0 : Nat) : Int) < (s_.length : Int)) (by omega))) p0) ?_
  refine Qg ?_
  refine ckT ?_
  refine Qo ?_
  refine Qg ?_
  refine Q6 ?_
  refine tn Qc [0, 1, 4, 5, 7, 8] [] (p0) ?_
  refine tu Qc [(5, .i ((k0 : Nat) : Int)), (16, .b (implSetAttr_2 a0 c0))] [] [] [] (pn 3 hx0 (pc 5 (implSetAttr_2_a a0 c0) p0)) ?_
  refine ck (implSetAttr_2 a0 c0) (fun h3 => ?_) (fun h3 => ?_)
  ·
   refine sn Qc [0, 1, 4, 7, 8] [] (p0) ?_
   refine Qp ?_
   have hr4 : (Xg (Zs c0) Zt s_ 0 ()) = .ret ((k0 : Nat) : Int) := Zw hx0 (Xm h3 (rfl)) hI0
   exact Ye [] (congrArg (fun z => (.i z : AV)) (show Xb s_ c0 = _ from on_r hr4).symm)
  ·
   refine Qo ?_
   refine rn Qc [0, 1, 4, 7, 8] [] (pe 0 (av_i (Qy k0 (by omega))) p0) ?_
   exact Exists.intro _ (And.intro (Qf (by kernel_rfl)) (Q4 hx0 (Qz h3 (rfl)) hI0))
 ·
  refine sn Qc [0, 1, 4, 7, 8, 9] [] (pe 0 (Q0 (decide_eq_false (p := ((k0 : Nat) : Int) < (s_.length : Int)) (by omega))) p0) ?_
  refine Qg ?_
  refine ckF ?_
  refine Xc ?_
  exact Exists.intro _ (And.intro (Qf (by kernel_rfl)) (Xr hk0 (rfl) hI0))
 ·
  refine sn Qc [4] [] (p0) ?_
  refine Qp ?_
  exact Ye [] (congrArg (fun z => (.i z : AV)) (show Xb s_ c0 = _ from on_b hD0 (rfl)).symm)
def implSetAttr (f : Xt) (name : ByteArray) (v : ValueD) : Xt := (bif (v.1 == (0 : Int)) then ((Qr f).1, (Qr f).2.1, (Qr f).2.2.1, (Qr f).2.2.2.1, Ql ((Qr f).2.2.2.2) name) else (bif decide ((Xb (Ql ((Qr f).2.2.2.2) name) name) < (0 : Int)) then ((Qr f).1, (Qr f).2.1, (Qr f).2.2.1, (Qr f).2.2.2.1, insAt (Ql ((Qr f).2.2.2.2) name) (Int.toNat ((Ql ((Qr f).2.2.2.2) name).length : Int)) (name, v)) else ((Qr f).1, (Qr f).2.1, (Qr f).2.2.1, (Qr f).2.2.2.1, insAt (Ql ((Qr f).2.2.2.2) name) (Int.toNat (Xb (Ql ((Qr f).2.2.2.2) name) name)) (name, v))))
theorem setAttr_len (f : Xt) (name : ByteArray) (v : ValueD) (hp : List.length f.2.2.2.2 ≤ 1073741000) : List.length (implSetAttr f name v).2.2.2.2 ≤ List.length f.2.2.2.2 + 1 := by
 have hdl : List.length (Ql ((Qr f).2.2.2.2) name) ≤ List.length f.2.2.2.2 := by rw [slicesDeleteFunc_Attr_implSetAttr_1_eq (Qr f).2.2.2.2 name (Nat.le_trans hp (by decide))]; exact List.length_filter_le _ _
 unfold implSetAttr
 cases (v.1 == (0 : Int)) with
 | true => exact Nat.le_trans hdl (Nat.le_succ _)
 | false =>
  simp only [cond_false]
  cases decide ((Xb (Ql ((Qr f).2.2.2.2) name) name) < (0 : Int)) with
  | true => simp only [cond_true]; rw [insAt_len2]; omega
  | false => simp only [cond_false]; rw [insAt_len2]; omega
theorem implSetAttr_a (f : Xt) (name : ByteArray) (v : ValueD) (hp : List.length f.2.2.2.2 ≤ 1073741000) : ACalls Tryz.prog 177 [.a [.i f.1, .i f.2.1, .b f.2.2.1, .i f.2.2.2.1, .h f.2.2.2.2], .s name, .a [.i v.1, .i v.2.1, .s v.2.2]] (.a [.i ((implSetAttr f name v).1), .i ((implSetAttr f name v).2.1), .b ((implSetAttr f name v).2.2.1), .i ((implSetAttr f name v).2.2.2.1), .o 0 ((implSetAttr f name v).2.2.2.2)]) := by
 refine en Qc Tryz.func177 fun w0 F0 hG => ?_
 have hdl : List.length (Ql ((Qr f).2.2.2.2) name) ≤ 1073741000 := by rw [slicesDeleteFunc_Attr_implSetAttr_1_eq (Qr f).2.2.2.2 name (Nat.le_trans hp (by decide))]; exact Nat.le_trans (List.length_filter_le _ _) hp
 have hbd := slicesIndexFunc_Attr_implSetAttr_2_bd (Ql ((Qr f).2.2.2.2) name) name
 refine sn Qc [3, 4, 5, 6] [3, 4, 5, 6] (p0) ?_
 refine tn Qc [4, 5, 6, 7] [4, 5, 6, 7] (pc 1 (implcopyFile_a f) p0) ?_
 refine wB 7 4 (.own true 640) ((Qr f).2.2.2.2) (fun hw1 hl2 => ?_)
 have hq3 := slicesDeleteFunc_Attr_implSetAttr_1_le ((Qr f).2.2.2.2) name hl2
 refine tu Qc [(4, .p 4 0), (5, .p 5 0), (6, .p 6 0), (7, .p 7 0)] [0, 1, 2] [(4, [.s name]), (5, [.i v.1, .i v.2.1, .s v.2.2]), (6, [.i 0, .i 0, .b false, .i 0, .e 4]), (7, [.i ((Qr f).1), .i ((Qr f).2.1), .b ((Qr f).2.2.1), .i ((Qr f).2.2.2.1), .o 896 (Ql ((Qr f).2.2.2.2) name)])] [] (po 3 (.take false false (eL (Ql ((Qr f).2.2.2.2) name))) (px (ob_take (atake_flat (slicesDeleteFunc_Attr_implSetAttr_1_a ((Qr f).2.2.2.2) name) (flat_eL _))) (px (ob_flat (flat_eL ((Qr f).2.2.2.2))) (px (ob_flat (flat_eL (Ql ((Qr f).2.2.2.2) name))) p0)))) ?_
 refine Qg ?_
 refine sn Qc [4, 5, 6, 7, 18] [4, 5, 6, 7] (p0) ?_
 refine ck (v.1 == (0 : Int)) (fun h4 => ?_) (fun h4 => ?_)
 ·
  refine tn Qc [4, 5, 6, 7] [4, 5, 6, 7] (p0) ?_
  refine Qp ?_
  exact Ye [] (congrArg (fun z => (.a [.i z.1, .i z.2.1, .b z.2.2.1, .i z.2.2.2.1, .o 0 z.2.2.2.2] : AV)) (show implSetAttr f name v = _ from Xm h4 (rfl)).symm)
 ·
  have h4d := Zd h4
  refine Qo ?_
  refine tn Qc [4, 5, 6, 7, 8] [4, 5, 6, 7] (pc 3 (slicesIndexFunc_Attr_implSetAttr_2_a (Ql ((Qr f).2.2.2.2) name) name) p0) ?_
  refine Qg ?_
  refine tu Qc [(8, .i (Xb (Ql ((Qr f).2.2.2.2) name) name)), (25, .b (decide ((Xb (Ql ((Qr f).2.2.2.2) name) name) < (0 : Int))))] [] [] [] (p0) ?_
  refine ck (decide ((Xb (Ql ((Qr f).2.2.2.2) name) name) < (0 : Int))) (fun h5 => ?_) (fun h5 => ?_)
  ·
   have h5d := of_decide_eq_true h5
   refine rn Qc [4, 5, 6, 7, 8] [4, 5, 6, 7] (pl 2 (Ql ((Qr f).2.2.2.2) name) p0) ?_
   refine wB 7 4 (.own true 896) (Ql ((Qr f).2.2.2.2) name) (fun hw6 hl7 => ?_)
   refine tn Qc [6, 7] [6, 7] (po 7 (.take true false (eL (insAt (Ql ((Qr f).2.2.2.2) name) (Int.toNat ((Ql ((Qr f).2.2.2.2) name).length : Int)) (name, v)))) (px (ob_take (insAttr_a (Ql ((Qr f).2.2.2.2) name) (name, v) (i := ((Ql ((Qr f).2.2.2.2) name).length : Int)) (by omega) (by omega) (by omega))) (px (ob_flat (flat_eL (Ql ((Qr f).2.2.2.2) name))) (px (ob_flat (flat_eL (insAt (Ql ((Qr f).2.2.2.2) name) (Int.toNat ((Ql ((Qr f).2.2.2.2) name).length : Int)) (name, v)))) p0)))) ?_
   refine tu Qc [] [4, 5, 7, 8, 25] [(6, [.i ((Qr f).1), .i ((Qr f).2.1), .b ((Qr f).2.2.1), .i ((Qr f).2.2.2.1), .o 2304 (insAt (Ql ((Qr f).2.2.2.2) name) (Int.toNat ((Ql ((Qr f).2.2.2.2) name).length : Int)) (name, v))])] [4, 5, 6, 7] (p0) ?_
   refine Qp ?_
   exact Ye [] (congrArg (fun z => (.a [.i z.1, .i z.2.1, .b z.2.2.1, .i z.2.2.2.1, .o 0 z.2.2.2.2] : AV)) (show implSetAttr f name v = _ from Qz h4 (Xm h5 (rfl))).symm)
  ·
   have h5d := of_decide_eq_false h5
   refine Qo ?_
   refine wB 7 4 (.own true 896) (Ql ((Qr f).2.2.2.2) name) (fun hw8 hl9 => ?_)
   refine sn Qc [6, 7] [6, 7] (po 7 (.take true false (eL (insAt (Ql ((Qr f).2.2.2.2) name) (Int.toNat (Xb (Ql ((Qr f).2.2.2.2) name) name)) (name, v)))) (px (ob_take (insAttr_a (Ql ((Qr f).2.2.2.2) name) (name, v) (i := (Xb (Ql ((Qr f).2.2.2.2) name) name)) (by omega) (by omega) (by omega))) (px (ob_flat (flat_eL (Ql ((Qr f).2.2.2.2) name))) (px (ob_flat (flat_eL (insAt (Ql ((Qr f).2.2.2.2) name) (Int.toNat (Xb (Ql ((Qr f).2.2.2.2) name) name)) (name, v)))) p0)))) ?_
   refine tn Qc [6] [6] (p0) ?_
   refine Qp ?_
   exact Ye [] (congrArg (fun z => (.a [.i z.1, .i z.2.1, .b z.2.2.1, .i z.2.2.2.1, .o 0 z.2.2.2.2] : AV)) (show implSetAttr f name v = _ from Qz h4 (Qz h5 (rfl))).symm)
def implApplyEdit_f0 (_ : Nat) (a0 : Zk) (s0 : Xt) : Rd (Xt) (Xt) (Xt) := (.next (implSetAttr s0 a0.1 a0.2))
def implApplyEdit_e0 (_ : Nat) (s0 : Xt) : Xt := s0
def Qj (f : Xt) (e_ : EditD) : Xt := (Out.on (Xg implApplyEdit_f0 implApplyEdit_e0 e_.2 0 (Qr f)) (fun y0 => y0))
theorem applyHp {a b : Nat} (h1 : a ≤ 5) (h2 : b ≤ 512) : (a : Int) + b ≤ 1000000 := by omega
theorem implApplyEdit_a (f : Xt) (e_ : EditD) (hp : (List.length f.2.2.2.2 : Int) + List.length e_.2 ≤ 1000000) : ACalls Tryz.prog 129 [.a [.i f.1, .i f.2.1, .b f.2.2.1, .i f.2.2.2.1, .h f.2.2.2.2], .a [.b e_.1, .h e_.2]] (.a [.i ((Qj f e_).1), .i ((Qj f e_).2.1), .b ((Qj f e_).2.2.1), .i ((Qj f e_).2.2.2.1), .o 0 ((Qj f e_).2.2.2.2)]) := by
 refine en Qc Tryz.func129 fun w0 F0 hG => ?_
 refine sn Qc [2, 3, 4] [2, 3, 4] (p0) ?_
 refine tn Qc [3, 4, 5] [3, 4, 5] (pc 1 (implcopyFile_a f) p0) ?_
 refine Qg ?_
 refine tu Qc [(4, .p 4 0), (5, .p 5 0), (11, .h e_.2), (12, .i (e_.2.length : Int)), (13, .i 0)] [0, 1] [(4, [.i 0, .i 0, .b false, .i 0, .e 4]), (5, [.i ((Qr f).1), .i ((Qr f).2.1), .b ((Qr f).2.2.1), .i ((Qr f).2.2.2.1), .o 576 ((Qr f).2.2.2.2)])] [] (pl 2 e_.2 p0) ?_
 refine wT 11 0 .sh e_.2 (fun hw1 hl2 => ?_)
 refine blk (fun (k0 : Nat) (s0 : Xt) => [(13, .i ((k0 : Nat) : Int))]) [13] (fun k0 s0 => [(5, [.i s0.1, .i s0.2.1, .b s0.2.2.1, .i s0.2.2.2.1, .o 147214 s0.2.2.2.2])]) [5] (fun (y0 : Xt) => []) [11, 12, 13] (fun y0 => [(5, [.i y0.1, .i y0.2.1, .b y0.2.2.1, .i y0.2.2.2.1, .o 147364 y0.2.2.2.2])]) [5] (fun (k0 : Nat) (s0 : Xt) => (Xg implApplyEdit_f0 implApplyEdit_e0 e_.2 0 (Qr f)) = Xg implApplyEdit_f0 implApplyEdit_e0 (List.drop k0 e_.2) k0 s0 ∧ List.length s0.2.2.2.2 ≤ List.length f.2.2.2.2 + k0) (fun (y0 : Xt) => (Xg implApplyEdit_f0 implApplyEdit_e0 e_.2 0 (Qr f)) = .brk y0) e_.2.length (Qr f) (X2 [(576, 147214)] (by kernel_rfl)) ⟨rfl, (by first | exact Nat.le_refl _ | simp)⟩ (fun k0 s0 hk0 hI0 => ?_) (fun k0 s0 hk0 hI0 => ?_) (fun y0 hD0 => ?_)
 ·
  have hA0_0 := hI0.2
  obtain ⟨a0, hx0⟩ := Xq (l := e_.2) (i := k0) hk0
  refine su Qc [(14, .b true)] [] [] [] (pe 0 (Q0 (decide_eq_true (p := ((k0 : Nat) : Int) < (e_.2.length : Int)) (by omega))) p0) ?_
  refine Qg ?_
  refine ckT ?_
  refine Qo ?_
  refine Qg ?_
  refine Q6 ?_
  refine sn Qc [4, 5, 7, 11, 12, 13] [4, 5, 7] (pn 0 hx0 p0) ?_
  refine qn Qc [4, 5, 11, 12, 13] [4, 5] (pc 5 (implSetAttr_a s0 a0.1 a0.2 (by omega)) p0) ?_
  refine qu Qc [(13, .i ((k0 + 1 : Nat) : Int))] [13, 14] [(5, [.i ((implSetAttr s0 a0.1 a0.2).1), .i ((implSetAttr s0 a0.1 a0.2).2.1), .b ((implSetAttr s0 a0.1 a0.2).2.2.1), .i ((implSetAttr s0 a0.1 a0.2).2.2.2.1), .o 1408 ((implSetAttr s0 a0.1 a0.2).2.2.2.2)])] [5] (pe 0 (av_i (Qy k0 (by omega))) p0) ?_
  exact Exists.intro (implSetAttr s0 a0.1 a0.2) (And.intro (X2 [(1408, 147214)] (by kernel_rfl)) ⟨Q4 hx0 (rfl) hI0.1, (by have hz := setAttr_len s0 a0.1 a0.2 (by omega); omega)⟩)
 ·
  have hA0_0 := hI0.2
  refine su Qc [(14, .b false)] [] [] [] (pe 0 (Q0 (decide_eq_false (p := ((k0 : Nat) : Int) < (e_.2.length : Int)) (by omega))) p0) ?_
  refine Qg ?_
  refine ckF ?_
  refine Xc ?_
  exact Exists.intro _ (And.intro (X2 [(147214, 147364)] (by kernel_rfl)) (Xr hk0 (rfl) hI0.1))
 ·
  refine sn Qc [4] [4] (p0) ?_
  refine Qp ?_
  exact Ye [] (congrArg (fun z => (.a [.i z.1, .i z.2.1, .b z.2.2.1, .i z.2.2.2.1, .o 0 z.2.2.2.2] : AV)) (show Qj f e_ = _ from on_b hD0 (rfl)).symm)
end Go.Proofs.YtcnkkobgogmakaaGreat
