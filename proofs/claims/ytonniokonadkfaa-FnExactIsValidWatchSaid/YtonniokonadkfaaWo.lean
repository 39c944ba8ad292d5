/- The library's functions on rows of integers that are owned; impl.without, impl.replayed. -/
import Derived.Test.YtonniokonadkfaaSh
import Derived.Test.YtonniokonadkfaaIs
namespace Go.Proofs.Ytonniokonadkfaa
open Go.RowKit
open GoD (rd own)

theorem compact_mem {l : List Int} {x : Int} (h : x ∈ Lib.compact l) : x ∈ l := by
  unfold Lib.compact Lib.compactUpTo at h
  simp only [List.mem_map, List.mem_filter, List.mem_range] at h
  obtain ⟨j, ⟨hj, _⟩, e⟩ := h
  have e1 : l.toArray[j]! = l[j] := by rw [getElem!_pos l.toArray j (by simpa using hj)]; simp
  rw [e1] at e
  exact e ▸ List.getElem_mem hj

theorem compact_len (l : List Int) : (Lib.compact l).length ≤ l.length := by
  unfold Lib.compact Lib.compactUpTo
  rw [List.length_map]
  exact Nat.le_trans (List.length_filter_le _ _) (by rw [List.length_range]; exact Nat.le_refl _)

theorem sortI_c {e : TypeId} {B : Nat} (w : World) (v : Value) (l : List Int) (h : IRow e B w v l) (hsz : l.length ≤ 1073741824) :
    Calls Try.prog 41 #[v] w fun e' w' => e' = .returned (.tuple #[]) ∧ IRow e B w' v (l.mergeSort fun x y => decide (x ≤ y)) ∧ Chg v.ownBlock.toList w w' := by
  obtain ⟨hi, h2⟩ := h
  rcases h2 with ⟨rfl, rfl⟩ | ⟨g, cap, cur, rfl, hB, hg, h1, hm, h3, h4⟩
  · refine (Sh.slices_Sort_int_none none 0 w).mono ?_
    rintro e' w' ⟨rfl, rfl⟩
    exact ⟨rfl, ⟨by simp, .inl ⟨rfl, by simp⟩⟩, Chg.refl _ _⟩
  · refine (Sh.slices_Sort_int g 0 cap l w (IRow.holds hg h4) (block_lt_of_heap hg) (by omega)).mono ?_
    rintro e' w' ⟨rfl, n, os, rfl⟩
    have hlen : (l.mergeSort fun x y => decide (x ≤ y)).length = l.length := List.length_mergeSort _
    refine ⟨rfl, ?_, chg_putRow w g n _ os⟩
    have := IRow.put hB hg hm h3 n (l.mergeSort fun x y => decide (x ≤ y)).toArray os (by simp [hlen]; omega) (l.mergeSort fun x y => decide (x ≤ y)) List.take_length.symm (fun x hx => hi x ((List.mergeSort_perm l _).mem_iff.1 hx))
    rw [hlen] at this
    exact this

theorem compactI_c {e : TypeId} {B : Nat} (w : World) (v : Value) (l : List Int) (h : IRow e B w v l) (hsz : l.length ≤ 1073741824) :
    Calls Try.prog 42 #[v] w fun e' w' => ∃ v', e' = .returned v' ∧ IRow e B w' v' (Lib.compact l) ∧ Chg v.ownBlock.toList w w' := by
  obtain ⟨hi, h2⟩ := h
  rcases h2 with ⟨rfl, rfl⟩ | ⟨g, cap, cur, rfl, hB, hg, h1, hm, h3, h4⟩
  · refine (Sh.slices_Compact_int_empty none 0 w).mono ?_
    rintro e' w' ⟨rfl, rfl⟩
    exact ⟨_, rfl, ⟨by simp [Lib.compact, Lib.compactUpTo], .inl ⟨rfl, rfl⟩⟩, Chg.refl _ _⟩
  · refine (Sh.slices_Compact_int g 0 cap l w (IRow.holds hg h4) (by omega) h1).mono ?_
    rintro e' w' ⟨rfl, q, rfl⟩
    have hle : (Lib.compact l).length ≤ l.length := compact_len l
    have hc := chg_putRow w g q (Lib.compact l ++ List.replicate (l.length - (Lib.compact l).length) 0).toArray #[]
    have hp := IRow.put hB hg hm h3 q (Lib.compact l ++ List.replicate (l.length - (Lib.compact l).length) 0).toArray #[] (by simp; omega) (Lib.compact l) (by simp) (fun x hx => hi x (compact_mem hx))
    rw [Go.Sort.grow_empty] at hc hp
    exact ⟨_, rfl, hp, hc⟩

theorem deleteI_c {e : TypeId} {B : Nat} (w : World) (v : Value) (l : List Int) (h : IRow e B w v l) (hsz : l.length ≤ 1073741824) (p : Int → Bool) (g : Nat) (lb : Array Value)
    (eg : ∀ args w, (callFunc g args).run Try.prog w = .ok (.enter g args) w) (hp : ∀ W x, Chg v.ownBlock.toList w W → FnGives Try.prog g lb #[.int .i64 x] (.bool (p x)) W) :
    Calls Try.prog 44 #[v, .func (.func g) #[] lb] w fun e' w' => ∃ v', e' = .returned v' ∧ IRow e B w' v' (l.filter fun x => !p x) ∧ Chg v.ownBlock.toList w w' := by
  obtain ⟨hi, h2⟩ := h
  rcases h2 with ⟨rfl, rfl⟩ | ⟨b, cap, cur, rfl, hB, hg, h1, hm, h3, h4⟩
  · clear hp eg
    go_enter Try.func44, Try.ntmps44
    go_wp2_with (go_at_call 49; refine (Sh.slices_IndexFunc_empty (α := Int) none 0 _ _).mono ?_; rintro e' w' ⟨rfl, rfl⟩)
    go_ret
    exact ⟨_, rfl, ⟨by simp, .inl ⟨rfl, rfl⟩⟩, Chg.refl _ _⟩
  · have hl : l = l.toArray.toList := by simp
    have hs : l.toArray.size = l.length := by simp
    have hcon := Sh.slices_DeleteFunc (Value.int .i64) (fun _ => rfl) p g lb eg 0 Try.zeroValue3 b 0 cap l.toArray w (fun W x hb => hp W x (Chg.of_below hb)) (fun n os dk x _ => hp _ x (chg_putRow w b n dk os)) (IRow.holds hg h4) (by rw [hs]; omega) (by rw [hs]; exact h1)
    rw [hs] at hcon
    refine hcon.mono ?_
    rintro e' w' ⟨rfl, q, rfl⟩
    have hle : (l.filter fun x => !p x).length ≤ l.length := List.length_filter_le _ _
    have hc := chg_putRow w b q ((l.filter fun x => !p x) ++ List.replicate (l.length - (l.filter fun x => !p x).length) 0).toArray #[]
    have hp := IRow.put hB hg hm h3 q ((l.filter fun x => !p x) ++ List.replicate (l.length - (l.filter fun x => !p x).length) 0).toArray #[] (by simp only [List.size_toArray, List.length_append, List.length_replicate]; omega) (l.filter fun x => !p x) (by simp) (fun x hx => hi x (List.mem_filter.1 hx).1)
    rw [Go.Sort.grow_empty] at hc hp
    exact ⟨_, rfl, hp, hc⟩

theorem cloneI_c (w : World) (v : Value) (l : List Int) (ha : rd w [v] l) (hl : l.length ≤ 1073741824) : Calls Try.prog 30 #[v] w fun e' w' => ∃ v', e' = .returned v' ∧ IRow 3 w.heap.size w' v' l ∧ Below w.heap.size w w' := by
  have HA := Lib.hid ha
  obtain ⟨oa, cap, rfl⟩ := slice_of_rd ha
  have hcs := rd_ints ha
  clear ha
  have q22 : ∀ (w : World) (a : Option Addr) (n c n' c' : Nat), (binOp .eql 22 (.slice a n c) (.slice none n' c')).run Try.prog w = .ok (.bool a.isNone) w := fun w a n c n' c' => Lib.run_eql_slice_nil w _ _ a n c n' c' Try.underlying22
  cases oa with
  | none =>
    have hnil : l = [] := by
      rcases hcs with rfl | ⟨b, off, h, _⟩
      · rfl
      · cases h
    clear hcs
    subst hnil
    go_enter Try.func30, Try.ntmps30
    go_wp2
    go_ret
    all_goals exact ⟨_, rfl, IRow.nil _, Below.refl _ _⟩
  | some ad =>
    clear hcs
    go_enter Try.func30, Try.ntmps30
    go_wp2_with (at_builtin; refine wpList_appInts _ _ 22 3 w.heap.size (l := []) (l2 := l) (IRow.fresh w (Nat.le_refl _)) (rd_below HA.out (by go_grown)) (by (try simp only [List.length_nil]); omega) (by go_size) rfl rfl Try.underlying22 (by kernel_rfl) rfl rfl ?_; intro v2 w2 h2 c2 _; rw [List.nil_append] at h2; have H2 := Lib.hid h2; clear h2; have C2 := Lib.hid c2; clear c2)
    go_ret
    exact ⟨v2, rfl, H2.out, (show Below w.heap.size w _ by go_grown).trans C2.out⟩

theorem withoutFn_c (W : World) (C : Nat) (vb : Value) (bl : List Int) (x : Int) (hc : W.cell? ⟨C, 0, none⟩ = some vb) (hr : rd W [vb] bl) : FnGives Try.prog 45 #[.pointer (some ⟨C, 0, none⟩)] #[.int .i64 x] (.bool (bl.contains x)) W := by
  show Calls Try.prog 45 #[.int .i64 x, .pointer (some ⟨C, 0, none⟩)] W _
  obtain ⟨oa, cap, rfl⟩ := slice_of_rd hr
  have hn := len_of_rd hr
  have hcon : Calls Try.prog 46 #[.slice oa bl.length cap, .int .i64 x] W fun e w' => e = .returned (.bool (bl.contains x)) ∧ w' = W := by
    rcases rd_ints hr with rfl | ⟨b, off, rfl, hcs⟩
    · exact Sh.slices_Contains_int_empty oa cap x W
    · have := Sh.slices_Contains_int b off bl.length cap bl x W (Nat.le_refl _) hn hcs
      rw [List.take_length] at this
      exact this
  generalize bl.contains x = r at hcon ⊢
  clear hr
  go_enter Try.func45, Try.ntmps45
  go_wp2_with (go_at_call 46; refine hcon.mono ?_; rintro e w' ⟨rfl, rfl⟩)
  go_ret
  exact ⟨rfl, 0, rfl⟩

theorem own_lt_of_row {e : TypeId} {B : Nat} {w : World} {v : Value} {l : List Int} (h : IRow e B w v l) : ∀ b, b ∈ v.ownBlock.toList → B ≤ b ∧ b < w.heap.size := by
  obtain ⟨L, _, h1, rfl⟩ := h.own
  exact h1

theorem pred_ok {w w0 w1 : World} {v1 : Value} {oa : Option Addr} {cap : Nat} {a bl : List Int} (hw : w0 = w.alloc (.cells #[.slice oa bl.length cap] 22))
    (H1 : IRow 3 (w.alloc (.cells #[.slice oa bl.length cap] 22)).heap.size w1 v1 a) (C1 : Below (w.alloc (.cells #[.slice oa bl.length cap] 22)).heap.size (w.alloc (.cells #[.slice oa bl.length cap] 22)) w1)
    (HB : rd w [.slice oa bl.length cap] bl) (HZ : w0.cell? ⟨w.heap.size, 0, none⟩ = some (.slice oa bl.length cap)) {W : World} {x : Int} (hch : Chg v1.ownBlock.toList w1 W) :
    FnGives Try.prog 45 #[.pointer (some ⟨w.heap.size, 0, none⟩)] #[.int .i64 x] (.bool (bl.contains x)) W := by
  rw [← hw] at H1 C1
  have hs : w0.heap.size = w.heap.size + 1 := by rw [hw]; simp
  have h1 : Below w0.heap.size w0 W := C1.trans (hch.below C1.size (fun b hb => (own_lt_of_row H1 b hb).1))
  have h0 : Below w.heap.size w w0 := by rw [hw]; go_grown
  exact withoutFn_c W w.heap.size _ bl x ((h1.cell (p := ⟨w.heap.size, 0, none⟩) (show w.heap.size < w0.heap.size by omega)).trans HZ) (rd_below HB (h0.trans (h1.mono (by omega))))

theorem without_c (w : World) (va vb : Value) (a bl : List Int) (ha : rd w [va] a) (hb : rd w [vb] bl) (hl : a.length ≤ 1073741824) :
    Calls Try.prog 39 #[va, vb] w fun e' w' => ∃ v', e' = .returned v' ∧ IRow 3 w.heap.size w' v' (less a bl) ∧ Below w.heap.size w w' := by
  have HA := Lib.hid ha; clear ha
  obtain ⟨oa, cap, rfl⟩ := slice_of_rd hb
  have HB := Lib.hid hb; clear hb
  obtain ⟨w0, hw0⟩ : ∃ w0, w0 = w.alloc (.cells #[.slice oa bl.length cap] 22) := ⟨_, rfl⟩
  have hB0 : Below w.heap.size w w0 := by rw [hw0]; go_grown
  have hs0 : w0.heap.size = w.heap.size + 1 := by rw [hw0]; simp
  have z0 : w0.cell? ⟨w.heap.size, 0, none⟩ = some (.slice oa bl.length cap) := by rw [hw0]; simp [go_sem]
  have HZ := Lib.hid z0; clear z0
  have HW := Lib.hid hw0; clear hw0
  have hmf : ∀ (fn : Fn) (first cap : Array Value) (w : World), (Instr.makeFunc fn first cap).run Try.prog w = .ok (.func fn first cap) w := fun _ _ _ _ => rfl
  have eg : ∀ args w, (callFunc 45 args).run Try.prog w = .ok (.enter 45 args) w := enters_of Try.func45 (by kernel_rfl) rfl
  go_enter Try.func39, Try.ntmps39
  go_wp2_with (first
    | (go_at_call 30; refine (cloneI_c _ _ a (rd_below HA.out (by go_grown)) hl).mono ?_; rintro e1 w1 ⟨v1, rfl, h1, c1⟩; have H1 := Lib.hid h1; clear h1; have C1 := Lib.hid c1; clear c1)
    | (go_at_call 44; have hpred : ∀ (W : World) (x : Int), Chg v1.ownBlock.toList w1 W → FnGives Try.prog 45 #[.pointer (some ⟨w.heap.size, 0, none⟩)] #[.int .i64 x] (.bool (bl.contains x)) W := (fun W x hch => pred_ok HW.out H1.out C1.out HB.out HZ.out hch); refine (deleteI_c (e := 3) (B := w.heap.size) w1 v1 a (H1.out.mono (by go_size)) hl (fun x => bl.contains x) 45 #[.pointer (some ⟨w.heap.size, 0, none⟩)] eg hpred).mono ?_; rintro e2 w2 ⟨v2, rfl, h2, c2⟩; have C2 : Below w.heap.size w1 w2 := (c2.below (by have := C1.out.size; simp at this; omega) (fun b hb => by have := (own_lt_of_row H1.out b hb).1; simp at this; omega)); have H2 := Lib.hid h2; clear h2 c2 hpred; have C2h := Lib.hid C2; clear C2))
  go_ret
  exact ⟨v2, rfl, H2.out, ((show Below w.heap.size w _ by go_grown).trans (C1.out.mono (by simp))).trans C2h.out⟩
end Go.Proofs.Ytonniokonadkfaa
