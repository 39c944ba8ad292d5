/- FormatInt on both sides, as contracts of the machine. -/
import Derived.Test.YtceekipigpcilaaDoorIn
import Derived.Test.YtceekipigpcilaaDoorZa
import Derived.Test.YtceekipigpcilaaDoorSh
import Derived.Test.YtceekipigpcilaaDoorZc
import Derived.Laws.IdiomStrings
import Derived.Lib.ItoaNum
import Derived.Lib.ConvBytes
import Derived.Lib.SlBytesRow
import Derived.Lib.SmallJoins
set_option linter.unusedVariables false
set_option linter.unusedSimpArgs false
namespace Go.Proofs.YtceekipigpcilaaDoor
open Go.RowKit
open GoD (rd own)
theorem below_gd (w : World) (k : Nat) (os : Array Obj) : Below w.heap.size w (Go.Sort.grow (w.drewN k) os) :=
  ⟨rfl, rfl, rfl, by rw [Go.Sort.size_grow]; exact Nat.le_add_right _ _, fun j hj => by
    unfold Go.Sort.grow
    rw [Array.getElem?_append, if_pos (by exact hj)]
    rfl⟩
def tabOk (w : World) : Prop := Lib.TabIs Tryd.prog w "internal/strconv.uint64pow10" .u64 Lib.pow10Tab
theorem gTab : Tryd.prog.globalNamed "internal/strconv.uint64pow10" = some 1 := by kernel_rfl
theorem tabOk.keep {w w' : World} (h : tabOk w) (hb : Below w.heap.size w w') : tabOk w' := Go.Joins.tab_stays gTab h hb (Nat.le_refl _)
def numeral (n : Int) : ByteArray := ⟨(Lib.itoa n).toArray⟩
theorem implFormatInt_c (w : World) (n : Int) (hn : I64 n) (ht : tabOk w) : Calls Tryd.prog 25 #[.int .i64 n] w (Ret w (.string (numeral n))) := by
  have hcon := Sh.strconv_Itoa n hn.1 hn.2 w ht
  rw [show (⟨(Lib.itoa n).toArray⟩ : ByteArray) = numeral n from rfl] at hcon
  generalize numeral n = s at *
  clear ht hn
  go_enter Tryd.func25, Tryd.ntmps25
  go_wp2_with (go_at_call 35; refine hcon.mono ?_; rintro e w' ⟨rfl, k, os, rfl⟩; have hb := below_gd w k os; generalize Go.Sort.grow (w.drewN k) os = w9 at *)
  go_ret
  exact ⟨rfl, hb⟩
theorem dig_len : ∀ (u : Nat), u < 1000 → (Lib.decDigits u).length ≤ 3 := by
  intro u hu
  rw [Lib.decDigits]
  split
  · simp
  · rw [Lib.decDigits]
    split
    · simp
    · rw [Lib.decDigits]
      split
      · simp
      · omega
theorem numeral_size {n : Int} (h : inR n 0 999 = true) : (numeral n).size ≤ 20 := by
  unfold inR at h
  simp only [Bool.and_eq_true, decide_eq_true_eq] at h
  have h1 := dig_len n.toNat (by omega)
  unfold numeral Lib.itoa
  rw [if_neg (by omega)]
  show (Lib.decDigits n.toNat).toArray.size ≤ 20
  simp only [List.size_toArray]
  omega
theorem dig_step {n : Nat} (h : ¬ n < 10) : Lib.decDigits n = Lib.decDigits (n / 10) ++ [UInt8.ofNat (48 + n % 10)] := by rw [Lib.decDigits, dif_neg h]
theorem dig_small {n : Nat} (h : n < 10) : Lib.decDigits n = [UInt8.ofNat (48 + n)] := by rw [Lib.decDigits, dif_pos h]
def restDig (n : Nat) : List UInt8 := if n = 0 then [] else Lib.decDigits n
theorem rest_step {n : Nat} (h : n ≠ 0) (t : List UInt8) : restDig (n / 10) ++ (UInt8.ofNat (48 + n % 10) :: t) = restDig n ++ t := by
  unfold restDig
  rw [if_neg h]
  by_cases h10 : n < 10
  · rw [if_pos (by omega), dig_small h10, show n % 10 = n by omega]; rfl
  · rw [if_neg (by omega), dig_step h10]; simp
theorem one_byte (d : Nat) (hd : d < 10) (s : ByteArray) : (⟨#[UInt8.ofNat (48 + d)]⟩ : ByteArray) ++ s = ⟨(UInt8.ofNat (48 + d) :: s.data.toList).toArray⟩ := by
  apply ByteArray.ext
  rw [ByteArray.data_append]
  apply Array.toList_inj.1
  simp
section
variable {P : Program}
theorem acalls_int_str {f : Nat} (hok : FnOk P f) {n : Int} {s : ByteArray} (hs : s.size ≤ maxLen) (h : ∀ w, Good P w → I64 n → Calls P f #[.int .i64 n] w (Ret w (.string s))) : ACalls P f [.i n] (.s s) := by
  refine ⟨hok, fun w hg F vals hF hall => ?_⟩
  cases hall with
  | cons h1 h2 =>
    cases h2
    obtain ⟨rfl, hi⟩ := h1
    refine (h w hg ((inR_i64 n).1 hi)).mono ?_
    rintro e w' ⟨rfl, hb⟩
    exact ⟨_, fun _ => [], rfl, hb, fun _ => List.nodup_nil, fun k b hm => by simp at hm, fun k k' b hm => by simp at hm, rfl, hs⟩
end
theorem numeral_le {n : Int} (h : 0 ≤ n ∧ n ≤ 999) : (numeral n).size ≤ 20 := numeral_size (inR_true h.1 h.2)
theorem implFormatInt_a (n : Int) (h : 0 ≤ n ∧ n ≤ 999) : ACalls Tryd.prog 25 [.i n] (.s (numeral n)) := acalls_int_str (by unfold FnOk; kernel_rfl) (by have := numeral_le h; unfold maxLen; omega) fun w hg hn => implFormatInt_c w n hn (hg.tab _ gTab)
end Go.Proofs.YtceekipigpcilaaDoor
