/- Decimal numerals; small numbers as strings of letters. -/
import Derived.Test.YtjkanhbnialmmaaDoorIn
import Derived.Test.YtjkanhbnialmmaaDoorOwn
import Derived.Test.YtjkanhbnialmmaaDoorSh
import Derived.Laws.IdiomStrings
import Derived.Lib.ItoaNum
import Derived.Lib.ConvBytes
import Derived.Lib.SlBytesRow
import Derived.Lib.SmallJoins
namespace Go.Proofs.YtjkanhbnialmmaaDoor
open Go.RowKit
open GoD (rd own)
theorem below_gd (w : World) (k : Nat) (os : Array Obj) : Below w.heap.size w (Go.Sort.grow (w.drewN k) os) :=
  ⟨rfl, rfl, rfl, by rw [Go.Sort.size_grow]; exact Nat.le_add_right _ _, fun j hj => by
    unfold Go.Sort.grow
    rw [Array.getElem?_append, if_pos (by exact hj)]
    rfl⟩
theorem figure_c (w : World) (d : Nat) (hd : d < 10) : Calls Tryd.prog 35 #[.int .i64 d] w (Ret w (.int .u8 (48 + (d : Int)))) := by
  have h1 : (d : Int) < 10 := by omega
  have h2 : IntKind.i64.wrap (48 + (d : Int)) = 48 + (d : Int) := by rw [IntKind.wrap_i64]; omega
  go_enter Tryd.func35, Tryd.ntmps35
  go_wp2
  go_ret
  exact ⟨rfl, Below.refl _ _⟩

def tabOk (w : World) : Prop := Lib.TabIs Tryd.prog w "internal/strconv.uint64pow10" .u64 Lib.pow10Tab
theorem gTab : Tryd.prog.globalNamed "internal/strconv.uint64pow10" = some 2 := by kernel_rfl
theorem tabOk.keep {w w' : World} (h : tabOk w) (hb : Below w.heap.size w w') : tabOk w' := Go.Joins.tab_stays gTab h hb (Nat.le_refl _)

/-- the numeral of n -/
def numeral (n : Int) : ByteArray := ⟨(Lib.itoa n).toArray⟩
theorem implFormatInt_c (w : World) (n : Int) (hn : I64 n) (ht : tabOk w) : Calls Tryd.prog 22 #[.int .i64 n] w (Ret w (.string (numeral n))) := by
  have hcon := Sh.strconv_Itoa n hn.1 hn.2 w ht
  rw [show (⟨(Lib.itoa n).toArray⟩ : ByteArray) = numeral n from rfl] at hcon
  generalize numeral n = s at *
  clear ht hn
  go_enter Tryd.func22, Tryd.ntmps22
  go_wp2_with (go_at_call 36; refine hcon.mono ?_; rintro e w' ⟨rfl, k, os, rfl⟩; have hb := below_gd w k os; generalize Go.Sort.grow (w.drewN k) os = w9 at *)
  go_ret
  exact ⟨rfl, hb⟩

/-- the bytes of s, the first k of them moved on by 49 -/
def shift (s : ByteArray) (k : Nat) : ByteArray := ⟨s.data.mapIdx (fun i x => if i < k then x + 49 else x)⟩
theorem shift_size (s : ByteArray) (k : Nat) : (shift s k).size = s.size := Array.size_mapIdx
theorem shift_zero (s : ByteArray) : shift s 0 = s := by
  unfold shift
  congr 1
  apply Array.ext
  · simp
  · intro i h1 h2; simp
theorem shift_at (s : ByteArray) (k i : Nat) (h : i < (shift s k).size) : (shift s k)[i] = if i < k then s[i]'(by rw [shift_size] at h; exact h) + 49 else s[i]'(by rw [shift_size] at h; exact h) := by
  have h1 : i < (s.data.mapIdx (fun i x => if i < k then x + 49 else x)).size := h
  exact (Array.getElem_mapIdx h1)
theorem plus49 (x : UInt8) : ((x + 49).toNat : Int) = IntKind.u8.wrap ((x.toNat : Int) + 49) := by
  have h49 : (49 : UInt8).toNat = 49 := rfl
  rw [IntKind.wrap_u8, UInt8.toNat_add, h49]
  omega
theorem plus49' (x : UInt8) : IntKind.u8.wrap (IntKind.u8.wrap ((x.toNat : Int) - 48) + 97) = IntKind.u8.wrap ((x.toNat : Int) + 49) := by
  rw [IntKind.wrap_u8, IntKind.wrap_u8, IntKind.wrap_u8]
  omega
theorem bytes_set {w : World} {g : Nat} {s : ByteArray} {k : Nat} (h : Lib.Bytes w g 0 (shift s k)) (hk : k < s.size) (v : Int) (hv : v = IntKind.u8.wrap ((s[k].toNat : Int) + 49)) : Lib.Bytes (w.setCell ⟨g, k, none⟩ (.int .u8 v)) g 0 (shift s (k + 1)) := by
  intro i hi
  rw [shift_at]
  have hi' : i < s.size := by rw [shift_size] at hi; exact hi
  have h0 := h i (by rw [shift_size]; exact hi')
  rw [shift_at] at h0
  rw [Nat.zero_add] at h0 ⊢
  by_cases e : i = k
  · subst e
    rw [World.cell?_setCell_same _ _ _ h0, if_pos (Nat.lt_succ_self _), plus49, hv]
  · rw [World.cell?_setCell_other _ _ _ _ (fun h1 : (⟨g, k, none⟩ : Addr) = ⟨g, i, none⟩ => e (by injection h1 with _ h2 _; exact h2.symm)), h0]
    congr 3
    by_cases hlt : i < k
    · rw [if_pos hlt, if_pos (by omega)]
    · rw [if_neg hlt, if_neg (by omega)]
theorem bytes_start (w : World) (s : ByteArray) : Lib.Bytes (Lib.bytesWorld w 5 s) w.heap.size 0 (shift s 0) := by
  rw [shift_zero]
  intro i hi
  rw [Nat.zero_add, Lib.bytesWorld_cell w _ s i hi]
  have e : s.data.toList.getD i 0 = s[i] := by
    rw [List.getD_eq_getElem?_getD, Array.getElem?_toList, Array.getElem?_eq_getElem (show i < s.data.size from hi)]
    rfl
  rw [e]
theorem frozen_start (w : World) (e : TypeId) (s : ByteArray) (j : Nat) (hj : j < s.size) : (Lib.bytesWorld w e s).frozen? ⟨w.heap.size, j, none⟩ = false := by
  have h1 := Lib.bytesWorld_at_new w e s
  have h2 : s.size ≤ (Lib.bytesCells w e s).size := by
    have h3 := Lib.bytesWorld_cell w e s j hj
    unfold Lib.bytesCells
    simp
    try omega
  simp only [World.frozen?, h1]
  simp
  omega
noncomputable def encodeInt (n : Int) : ByteArray := if inR n 0 999 then shift (numeral n) (numeral n).size else ⟨#[]⟩
theorem encode_no {n : Int} (h : inR n 0 999 = false) : encodeInt n = ⟨#[]⟩ := by unfold encodeInt; rw [h]; rfl
theorem encode_yes {n : Int} (h : inR n 0 999 = true) : encodeInt n = shift (numeral n) (numeral n).size := by unfold encodeInt; rw [h]; rfl
theorem dig_len : ∀ (u : Nat), u < 1000 → (Lib.decDigits u).length ≤ 3 := by
  intro u hu
  rw [Lib.decDigits]
  split
  · simp
  · rw [Lib.decDigits]
    split
    · simp
    · rw [Lib.decDigits]
      split
      · simp
      · omega
theorem numeral_size {n : Int} (h : inR n 0 999 = true) : (numeral n).size ≤ 20 := by
  unfold inR at h
  simp only [Bool.and_eq_true, decide_eq_true_eq] at h
  have h1 := dig_len n.toNat (by omega)
  unfold numeral Lib.itoa
  rw [if_neg (by omega)]
  show (Lib.decDigits n.toNat).toArray.size ≤ 20
  simp only [List.size_toArray]
  omega
theorem below_set {B : Nat} {w w' : World} {g k : Nat} {v : Value} (h : Below B w w') (hg : B ≤ g) : Below B w (w'.setCell ⟨g, k, none⟩ v) :=
  ⟨h.os, h.tape, h.output, by rw [World.size_setCell]; exact h.size, fun j hj => by
    rw [← h.block j hj]
    unfold World.setCell
    simp only [Array.getElem?_modify]
    rw [if_neg (by omega)]⟩
theorem wpList_conv {P : Program} {w : World} {ops : Array Oper} {rest : List Oper} {o : Oper} {a : Act} {Q : Exit → Act → World → Prop} {x : Operand} {src dst e : TypeId} {s : ByteArray} {u : TypeDesc}
    (hgd : o.guard = none) (ho : o.op = .convert src dst x) (hs : P.underlying src = some u) (hd : P.underlying dst = some (.slice e)) (he : P.underlying e = some (.int .u8)) (hx : a.eval x = .string s)
    (k : wpList P ops Q rest (a.put o.dst (.slice (some ⟨w.heap.size, 0, none⟩) s.size (grownCap w s.size 0 e))) (Lib.bytesWorld w e s)) : wpList P ops Q (o :: rest) a w := by
  refine wpList_plain hgd fun _ hK => ?_
  have hr := Lib.run_convert_string_bytes (P := P) w src dst e s hs hd he
  unfold Oper.wp execOp
  simp only [ho, Sem.run_bind, Sem.run_pure, Result.andThen_ok, hx, hr]
  exact hK _ _ k
theorem dig_step {n : Nat} (h : ¬ n < 10) : Lib.decDigits n = Lib.decDigits (n / 10) ++ [UInt8.ofNat (48 + n % 10)] := by rw [Lib.decDigits, dif_neg h]
theorem dig_small {n : Nat} (h : n < 10) : Lib.decDigits n = [UInt8.ofNat (48 + n)] := by rw [Lib.decDigits, dif_pos h]
/-- what is still to come, and what is there -/
def restDig (n : Nat) : List UInt8 := if n = 0 then [] else Lib.decDigits n
theorem rest_step {n : Nat} (h : n ≠ 0) (t : List UInt8) : restDig (n / 10) ++ (UInt8.ofNat (48 + n % 10) :: t) = restDig n ++ t := by
  unfold restDig
  rw [if_neg h]
  by_cases h10 : n < 10
  · rw [if_pos (by omega), dig_small h10, show n % 10 = n by omega]; rfl
  · rw [if_neg (by omega), dig_step h10]; simp
theorem one_byte (d : Nat) (hd : d < 10) (s : ByteArray) : (⟨#[UInt8.ofNat (48 + d)]⟩ : ByteArray) ++ s = ⟨(UInt8.ofNat (48 + d) :: s.data.toList).toArray⟩ := by
  apply ByteArray.ext
  rw [ByteArray.data_append]
  apply Array.toList_inj.1
  simp
set_option maxRecDepth 20000 in
theorem specFormatInt_c (w : World) (n : Int) (hn : I64 n) (hr : inR n 0 999 = true) : Calls Tryd.prog 20 #[.int .i64 n] w (Ret w (.string (numeral n))) := by
  unfold inR at hr
  simp only [Bool.and_eq_true, decide_eq_true_eq] at hr
  obtain ⟨m, rfl⟩ : ∃ m : Nat, n = m := ⟨n.toNat, by omega⟩
  have hm : m < 1000 := by omega
  clear hr hn
  have hnum : numeral (m : Int) = ⟨(Lib.decDigits m).toArray⟩ := by
    unfold numeral Lib.itoa
    rw [if_neg (by omega)]
    rfl
  generalize numeral (m : Int) = res at *
  have HRES := Lib.hid hnum; clear hnum
  by_cases h0 : m = 0
  · subst h0
    have hr : res = ⟨#[48]⟩ := by rw [HRES.out, dig_small (by omega)]; rfl
    subst hr
    clear HRES
    go_enter Tryd.func20, Tryd.ntmps20
    go_wp2
    go_ret
    exact ⟨rfl, Below.refl _ _⟩
  · have hm0 : ¬ ((m : Int) = 0) := by omega
    have hm1 : ¬ ((m : Int) < 0) := by omega
    go_enter Tryd.func20, Tryd.ntmps20
    go_wp2
    go_loopw [0, 4] (fun i s wr => ∃ (k : Nat) (t : ByteArray), k < 1000 ∧ i = .int .i64 k ∧ s = .string t ∧ t.size ≤ 1000 - k ∧ Below w.heap.size w wr ∧ Hid (restDig k ++ t.data.toList = Lib.decDigits m)) (fun i _ _ => (intOf i).toNat)
    case atStart => exact ⟨m, ⟨#[]⟩, hm, rfl, rfl, by simp [ByteArray.size], Below.refl _ _, Lib.hid (by unfold restDig; rw [if_neg h0]; simp)⟩
    case round =>
      obtain ⟨k, t, hk, rfl, rfl, hts, hB, hd⟩ := hrel
      by_cases hk0 : k = 0
      · subst hk0
        have hrt : res = t := by
          have h1 := hd.out
          unfold restDig at h1
          rw [if_pos rfl, List.nil_append] at h1
          rw [HRES.out, ← h1]
        subst hrt
        clear HRES hd
        go_wp2
        go_ret
        exact ⟨rfl, hB⟩
      · have hk1 : ¬ ((k : Int) = 0) := by omega
        have hd10 : k % 10 < 10 := Nat.mod_lt _ (by decide)
        have hd0 : ¬ ((k : Int) % 10 < 0) := by omega
        have hcv : ∀ g : World, (convert 36 9 (.slice (some ⟨g.heap.size, 0, none⟩) 1 1)).run Tryd.prog (g.alloc (.cells #[.int .u8 (48 + (k : Int) % 10)] 5)) = .ok (.string ⟨#[UInt8.ofNat (48 + k % 10)]⟩) (g.alloc (.cells #[.int .u8 (48 + (k : Int) % 10)] 5)) := fun g => by
          have h := Lib.run_convert_whole (P := Tryd.prog) (g.alloc (.cells #[.int .u8 (48 + (k : Int) % 10)] 5)) 36 5 9 Tryd.underlying36 Tryd.underlying5 Tryd.underlying9 g.heap.size 0 ⟨#[UInt8.ofNat (48 + k % 10)]⟩ (fun i hi => by
            have hi0 : i = 0 := by have : i < 1 := hi; omega
            subst hi0
            have he : (48 + (k : Int) % 10) = ((UInt8.ofNat (48 + k % 10)).toNat : Int) := by rw [UInt8.toNat_ofNat']; omega
            show (g.alloc _).cell? ⟨g.heap.size, 0 + 0, none⟩ = some (.int .u8 ((UInt8.ofNat (48 + k % 10)).toNat : Int))
            rw [← he]
            simp [go_sem]) 1
          exact h
        go_wp2_with (go_at_call 35; have hfg := (fun w1 => figure_c w1 (k % 10) hd10); rw [show (((k % 10 : Nat)) : Int) = (k : Int) % 10 by omega] at hfg; refine call_ret (w := w) (hfg _) (by go_grown) ?_; clear hfg; intro g1 hG1 hb hz1 hz2; clear hb)
        go_roundw
        case rel => exact ⟨k / 10, ⟨#[UInt8.ofNat (48 + k % 10)]⟩ ++ t, by omega, by first | rfl | go_num, by rw [UInt8.ofNat_add]; rfl, by rw [ByteArray.size_append]; have : (⟨#[UInt8.ofNat (48 + k % 10)]⟩ : ByteArray).size = 1 := rfl; omega, by go_grown, Lib.hid (by rw [one_byte _ hd10]; show restDig (k / 10) ++ (UInt8.ofNat (48 + k % 10) :: t.data.toList) = _; rw [rest_step hk0]; exact hd.out)⟩
        case measure => simp [intOf]; omega


set_option maxRecDepth 20000 in
set_option maxHeartbeats 2000000 in
theorem implEncode_c (w : World) (n : Int) (hn : I64 n) (ht : tabOk w) : Calls Tryd.prog 8 #[.int .i64 n] w (Ret w (.string (encodeInt n))) := by
  have HN := Lib.hid hn; clear hn
  have HT := Lib.hid ht; clear ht
  have he : inR n 0 999 = false → encodeInt n = ⟨#[]⟩ := encode_no
  have he2 : inR n 0 999 = true → encodeInt n = shift (numeral n) (numeral n).size := encode_yes
  generalize encodeInt n = res at *
  cases h : inR n 0 999
  · obtain rfl := he h
    have HR := Lib.hid h; clear h he he2
    go_enter Tryd.func8, Tryd.ntmps8
    go_wp2_with (first | (go_at_call 21; refine call_ret (w := w) (within_b _ n 0 999 false HR.out) (by go_grown) ?_; intro g1 hG1 hb hz1 hz2; clear hb hz2))
    go_ret
    exact ⟨rfl, by go_grown⟩
  · have HR := Lib.hid h; clear h
    have hres := he2 HR.out
    clear he he2
    generalize hs : numeral n = s at *
    have hsz : s.size ≤ 20 := by rw [← hs]; exact numeral_size HR.out
    have HS := Lib.hid hs; clear hs
    have HRES := Lib.hid hres; clear hres
    go_enter Tryd.func8, Tryd.ntmps8
    have hconv : ∀ w, (convert 9 36 (.string s)).run Tryd.prog w = .ok (.slice (some ⟨w.heap.size, 0, none⟩) s.size (grownCap w s.size 0 5)) (Lib.bytesWorld w 5 s) := fun w => Lib.run_convert_string_bytes w 9 36 5 s Tryd.underlying9 Tryd.underlying36 Tryd.underlying5
    go_wp2_with (first | (go_at_call 21; refine call_ret (w := w) (within_b _ n 0 999 true HR.out) (by go_grown) ?_; intro g1 hG1 hb hz1 hz2; clear hb hz2) | (go_at_call 22; have hcon := (fun w1 h => implFormatInt_c w1 n HN.out h); rw [HS.out] at hcon; refine call_ret (w := w) (hcon _ (HT.out.keep (by go_grown))) (by go_grown) ?_; clear hcon; intro g2 hG2 hb2 hz3 hz4; clear hb2 hz4; have HG2 := Lib.hid hG2))
    clear hconv
    have hB3 := (Lib.hid (Below.trans HG2.out (Go.Joins.below_bytesWorld w.heap.size g2 5 s (by omega))))
    have hs3 := Lib.bytesWorld_size g2 5 s
    have HST := Lib.hid (bytes_start g2 s)
    have HFZ := Lib.hid (frozen_start g2 5 s)
    generalize hcap : grownCap g2 s.size 0 5 = cap
    clear hcap
    generalize hw3 : Lib.bytesWorld g2 5 s = w3 at *
    clear hw3
    go_loopw [13] (fun i wr => ∃ k : Nat, k ≤ s.size ∧ i = .int .i64 k ∧ Below w.heap.size w wr ∧ g2.heap.size < wr.heap.size ∧ Hid (Lib.Bytes wr g2.heap.size 0 (shift s k)) ∧ Hid (∀ j, j < s.size → wr.frozen? ⟨g2.heap.size, j, none⟩ = false)) (fun i _ => s.size - (intOf i).toNat)
    case atStart => exact ⟨0, Nat.zero_le _, rfl, hB3.out, by omega, HST, HFZ⟩
    case round =>
      clear hB3 HST HFZ hs3
      obtain ⟨k, hk, rfl, hB, hlt, hby, hfz⟩ := hrel
      by_cases hkl : k < s.size
      · have hc := hby.out k (by rw [shift_size]; exact hkl)
        rw [shift_at, if_neg (Nat.lt_irrefl _), Nat.zero_add] at hc
        have hf := hfz.out k hkl
        have hx : ∃ x, s[k] = x := ⟨_, rfl⟩
        obtain ⟨x, hx⟩ := hx
        rw [hx] at hc
        have HX := Lib.hid hx; clear hx
        have hv := plus49' x
        go_wp2
        go_roundw
        case rel => exact ⟨k + 1, by omega, by go_num, below_set hB (by omega), by rw [World.size_setCell]; exact hlt, Lib.hid (bytes_set hby.out hkl _ (by first | (rw [HX.out, IntKind.wrap_u8]; done) | (rw [HX.out, IntKind.wrap_u8]; omega))), Lib.hid (fun j hj => by rw [World.frozen?_setCell]; exact hfz.out j hj)⟩
        case measure => simp [intOf]; omega
      · obtain rfl : k = s.size := by omega
        obtain rfl := HRES.out
        have hcv := Lib.run_convert_whole (P := Tryd.prog) wr 36 5 9 Tryd.underlying36 Tryd.underlying5 Tryd.underlying9 g2.heap.size 0 (shift s s.size) hby.out
        rw [shift_size] at hcv
        go_wp2
        go_ret
        exact ⟨rfl, hB⟩
set_option maxRecDepth 20000 in
set_option maxHeartbeats 2000000 in
theorem specEncode_c (w : World) (n : Int) (hn : I64 n) : Calls Tryd.prog 7 #[.int .i64 n] w (Ret w (.string (encodeInt n))) := by
  have HN := Lib.hid hn; clear hn
  have he : inR n 0 999 = false → encodeInt n = ⟨#[]⟩ := encode_no
  have he2 : inR n 0 999 = true → encodeInt n = shift (numeral n) (numeral n).size := encode_yes
  generalize encodeInt n = res at *
  cases h : inR n 0 999
  · obtain rfl := he h
    have HR := Lib.hid h; clear h he he2
    go_enter Tryd.func7, Tryd.ntmps7
    go_wp2_with (first | (go_at_call 19; refine call_ret (w := w) (l01In_b _ n 0 999 false HR.out) (by go_grown) ?_; intro g1 hG1 hb hz1 hz2; clear hb hz2))
    go_ret
    exact ⟨rfl, by go_grown⟩
  · have HR := Lib.hid h; clear h
    have hres := he2 HR.out
    clear he he2
    generalize hs : numeral n = s at *
    have hsz : s.size ≤ 20 := by rw [← hs]; exact numeral_size HR.out
    have HS := Lib.hid hs; clear hs
    have HRES := Lib.hid hres; clear hres
    go_enter Tryd.func7, Tryd.ntmps7
    have hconv : ∀ w, (convert 9 36 (.string s)).run Tryd.prog w = .ok (.slice (some ⟨w.heap.size, 0, none⟩) s.size (grownCap w s.size 0 5)) (Lib.bytesWorld w 5 s) := fun w => Lib.run_convert_string_bytes w 9 36 5 s Tryd.underlying9 Tryd.underlying36 Tryd.underlying5
    go_wp2_with (first | (go_at_call 19; refine call_ret (w := w) (l01In_b _ n 0 999 true HR.out) (by go_grown) ?_; intro g1 hG1 hb hz1 hz2; clear hb hz2) | (go_at_call 20; have hcon := (fun w1 => specFormatInt_c w1 n HN.out HR.out); rw [HS.out] at hcon; refine call_ret (w := w) (hcon _) (by go_grown) ?_; clear hcon; intro g2 hG2 hb2 hz3 hz4; clear hb2 hz4; have HG2 := Lib.hid hG2))
    clear hconv
    have hB3 := (Lib.hid (Below.trans HG2.out (Go.Joins.below_bytesWorld w.heap.size g2 5 s (by omega))))
    have hs3 := Lib.bytesWorld_size g2 5 s
    have HST := Lib.hid (bytes_start g2 s)
    have HFZ := Lib.hid (frozen_start g2 5 s)
    generalize hcap : grownCap g2 s.size 0 5 = cap
    clear hcap
    generalize hw3 : Lib.bytesWorld g2 5 s = w3 at *
    clear hw3
    go_loopw [4] (fun i wr => ∃ k : Nat, k ≤ s.size ∧ i = .int .i64 k ∧ Below w.heap.size w wr ∧ g2.heap.size < wr.heap.size ∧ Hid (Lib.Bytes wr g2.heap.size 0 (shift s k)) ∧ Hid (∀ j, j < s.size → wr.frozen? ⟨g2.heap.size, j, none⟩ = false)) (fun i _ => s.size - (intOf i).toNat)
    case atStart => exact ⟨0, Nat.zero_le _, rfl, hB3.out, by omega, HST, HFZ⟩
    case round =>
      clear hB3 HST HFZ hs3
      obtain ⟨k, hk, rfl, hB, hlt, hby, hfz⟩ := hrel
      by_cases hkl : k < s.size
      · have hc := hby.out k (by rw [shift_size]; exact hkl)
        rw [shift_at, if_neg (Nat.lt_irrefl _), Nat.zero_add] at hc
        have hf := hfz.out k hkl
        have hx : ∃ x, s[k] = x := ⟨_, rfl⟩
        obtain ⟨x, hx⟩ := hx
        rw [hx] at hc
        have HX := Lib.hid hx; clear hx
        have hv := plus49' x
        go_wp2
        go_roundw
        case rel => exact ⟨k + 1, by omega, by go_num, below_set hB (by omega), by rw [World.size_setCell]; exact hlt, Lib.hid (bytes_set hby.out hkl _ (by first | (rw [HX.out, IntKind.wrap_u8]; done) | (rw [HX.out, IntKind.wrap_u8]; omega))), Lib.hid (fun j hj => by rw [World.frozen?_setCell]; exact hfz.out j hj)⟩
        case measure => simp [intOf]; omega
      · obtain rfl : k = s.size := by omega
        obtain rfl := HRES.out
        have hcv := Lib.run_convert_whole (P := Tryd.prog) wr 36 5 9 Tryd.underlying36 Tryd.underlying5 Tryd.underlying9 g2.heap.size 0 (shift s s.size) hby.out
        rw [shift_size] at hcv
        go_wp2
        go_ret
        exact ⟨rfl, hB⟩
end Go.Proofs.YtjkanhbnialmmaaDoor
