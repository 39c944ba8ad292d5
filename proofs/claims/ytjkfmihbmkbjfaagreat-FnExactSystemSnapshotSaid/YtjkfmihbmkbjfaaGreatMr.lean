/- Append does what the machine does. No program in sight. -/
import Derived.Test.YtjkfmihbmkbjfaaGreatMq
import Derived.Deep.AppendSrc
import Derived.Deep.DeepAppendWide
namespace Go.Proofs.YtjkfmihbmkbjfaaGreat
open Go.RowKit

def nOk (t : Tok) (n n' : Nat) : Bool := match t with
  | .emp => true
  | _ => Nat.beq n n'
def destOf : Tok → Option (List Nat × Bool)
  | .emp => some ([], true)
  | .own d k => some ([k], d)
  | _ => none
def srcOf (flat : Bool) : Tok → List Nat × Bool
  | .emp => ([], true)
  | .sh => ([], flat)
  | .own d k => bif flat then ([], true) else ([k], d)
  | .vw k => bif flat then ([], true) else ([k], false)
  | .put _ _ _ _ _ => ([], false)
def isFlat : Orc → Bool
  | .flat => true
  | _ => false
def evalA (tt : List (Nat × TI)) (orc : Orc) (dst : Option Nat) : Op → List AV → Option (Res × List Ob)
  | .call ⟨.builtin .append, _, tys⟩, [.one (.slc t1 n1 l1), .one (.slc t2 n2 l2)] =>
    (match tys.toList with
    | [t, t'] => (match dst, get tt t, destOf t1 with
    | some d, some ⟨.sli e, _, _, _⟩, some (g1, d1) => (match get tt e with
      | some ei => bif Nat.beq t t' && Nat.blt 0 ei.size && nOk t1 n1 ei.size && nOk t2 n2 ei.size && !(memN (64 * d) (g1 ++ (srcOf (isFlat orc) t2).1)) && nodupN (g1 ++ (srcOf (isFlat orc) t2).1) then
          some (⟨.one (.slc (.own (d1 && (srcOf (isFlat orc) t2).2) (64 * d)) ei.size (l1 ++ l2)), (64 * d, none) :: (killAll g1 ++ (bif d1 && (srcOf (isFlat orc) t2).2 then killAll (srcOf (isFlat orc) t2).1 else freezeAll (srcOf (isFlat orc) t2).1)), none, none⟩,
            .len (l1.length + l2.length) :: (bif isFlat orc then [.flat l2] else []))
        else none
      | none => none)
    | _, _, _ => none)
    | _ => none)
  | _, _ => none

section
variable {P : Program} {N : Nat} {w0 : World} {F0 : Nat → Prop} {J : Inj} {a : Act} {w : World} {s : St}

theorem append_run {t e ty : TypeId} {ei : TI} (hu : P.underlying t = some (.slice e)) (hei : TiOk P e ei) (hn : 0 < ei.size) {oa : Option Addr} {cap len1 : Nat} {olds : List Value} (hol : olds.length = len1 * ei.size)
    (hold : ∀ ad, oa = some ad → ∀ (j : Nat) (u : Value), olds[j]? = some u → w.cell? (ad.add j) = some u) (hnone : oa = none → len1 = 0)
    (hrow : cap = 0 ∨ ∃ g cur e0, oa = some ⟨g, 0, none⟩ ∧ w.heap[g]? = some (.cells cur e0 (0, 0)) ∧ cur.size = cap * ei.size ∧ cur.toList.take (len1 * ei.size) = olds) (hlc : len1 ≤ cap)
    {v2 : Value} {len2 : Nat} {news : List Value} (hs : Src P ei.size t v2 len2 news w) (hlim : len1 + len2 ≤ 1073741824) (hpos : cap = 0 → 0 < len2) (hcm : cap ≤ maxLen) :
    ∃ g' cap' cur' e' w', (Builtin.append_ #[t, t] ty #[.slice oa len1 cap, v2]).run P w = .ok (.slice (some ⟨g', 0, none⟩) (len1 + len2) cap') w' ∧ w'.heap[g']? = some (.cells cur' e' (0, 0)) ∧ cur'.size = cap' * ei.size ∧
      cur'.toList.take ((len1 + len2) * ei.size) = olds ++ news ∧ len1 + len2 ≤ cap' ∧ cap' ≤ maxLen ∧ w'.os = w.os ∧ w'.tape = w.tape ∧ w'.output = w.output ∧ w.heap.size ≤ w'.heap.size ∧
      ((∃ cur e0, oa = some ⟨g', 0, none⟩ ∧ w.heap[g']? = some (.cells cur e0 (0, 0)) ∧ cap ≠ 0 ∧ ∀ b, b ≠ g' → w'.heap[b]? = w.heap[b]?) ∨ (g' = w.heap.size ∧ g' < w'.heap.size ∧ ∀ b, b < w.heap.size → w'.heap[b]? = w.heap[b]?)) := by
  obtain ⟨inf, z, hi, hsz, hby, hz, hzs, _⟩ := hei.info
  have hsum : (olds ++ news).length = (len1 + len2) * ei.size := by rw [List.length_append, hol, hs.newsLen, Nat.add_mul]
  by_cases hroom : len1 + len2 ≤ cap
  · rcases hrow with h0 | ⟨g, cur, e0, rfl, hg, hcs, htk⟩
    · have := hpos h0; omega
    have hfit : ∀ j, j < news.length → len1 * ei.size + j < cur.size := fun j hj => by
      have := Nat.mul_le_mul_right ei.size hroom
      rw [Nat.add_mul, ← hs.newsLen] at this
      omega
    have hr := run_append_room_src (P := P) w t t ty e inf hu hi g 0 len1 cap v2 len2 news (by rw [hsz]; exact hs) hroom (fun j hj => by
      rw [hsz]
      simp [World.cell?, hg, hfit j hj]) (fun j hj => by simp [World.frozen?, hg])
    rw [hsz, Nat.zero_add] at hr
    refine ⟨g, cap, putCells cur (len1 * ei.size) news, e0, _, hr, heap_setCells_of g news _ w hg, by rw [size_putCells]; exact hcs, ?_, hroom, hcm, ?_, ?_, ?_, by rw [size_setCells]; exact Nat.le_refl _, .inl ⟨cur, e0, rfl, hg, ?_, fun b hb => heap_setCells_ne g hb news _ w⟩⟩
    · have hfit2 : len1 * ei.size + news.length ≤ cur.size := by
        have := Nat.mul_le_mul_right ei.size hroom
        rw [Nat.add_mul, ← hs.newsLen] at this
        omega
      rw [putCells_list hfit2, htk, ← hsum, List.take_left]
    · exact (below_setCells' g news _ w).1
    · exact (below_setCells' g news _ w).2.1
    · exact (below_setCells' g news _ w).2.2
    · intro e; have := hpos e; omega
  · have hgs : cap < len1 + len2 := by omega
    have hfirst : (Builtin.firstCells inf.size len1 (.slice oa len1 cap)).run P w.drew = .ok olds.toArray w.drew := by
      cases oa with
      | none =>
        have h0 := hnone rfl
        subst h0
        have : olds = [] := List.eq_nil_of_length_eq_zero (by rw [hol]; simp)
        subst this
        exact run_firstCells_none w.drew inf.size 0 0 cap
      | some ad => exact run_firstCells_some w.drew inf.size len1 ad len1 cap olds (by rw [hsz]; exact hol) (by simpa using hold ad rfl)
    have hbytes : ((len1 + len2) + (len1 + len2) / 4 + 192) * inf.bytes ≤ 281474976710656 := Nat.le_trans (Nat.mul_le_mul (show _ ≤ 1342177472 by omega) hby) (by decide)
    have hr := run_append_grow_src (P := P) w t t ty e inf z hu hi hz oa len1 cap olds hfirst v2 len2 news (by rw [hsz]; exact hs) hgs (by omega) (growslice_fits_wide hgs hbytes)
    have hge := grownCap_ge w (len1 + len2) cap e
    have hcap' := grownCap_le_maxLen w (len1 + len2) cap e (by unfold maxLen; omega)
    refine ⟨w.heap.size, _, _, e, _, hr, heap_alloc_new w.drew _, ?_, ?_, hge, hcap', rfl, rfl, rfl, by simp, .inr ⟨rfl, by simp, fun b hb => heap_alloc_old w.drew _ hb⟩⟩
    · simp only [Array.size_append, List.size_toArray, size_zeroCells, hzs, hsum, ← Nat.add_mul]
      congr 1
      omega
    · simp only [Array.toList_append]
      rw [← hsum, List.take_append_of_le_length (by simp), List.take_of_length_le (by simp)]
where
  below_setCells' (g : Nat) : ∀ (vs : List Value) (o : Nat) (w : World), (w.setCells g o vs).os = w.os ∧ (w.setCells g o vs).tape = w.tape ∧ (w.setCells g o vs).output = w.output
    | [], _, _ => ⟨rfl, rfl, rfl⟩
    | v :: vs, o, w => by
      have := below_setCells' g vs (o + 1) (w.setCell ⟨g, o, none⟩ v)
      exact this
end
end Go.Proofs.YtjkfmihbmkbjfaaGreat
