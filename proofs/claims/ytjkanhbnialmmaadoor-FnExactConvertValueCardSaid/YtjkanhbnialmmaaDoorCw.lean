/- The walk of the law on values turned to another kind. -/
import Derived.Test.YtjkanhbnialmmaaDoorCv
import Derived.Test.YtjkanhbnialmmaaDoorSz
import Derived.Test.YtjkanhbnialmmaaDoorEq
import Derived.Test.YtjkanhbnialmmaaDoorTo
import Derived.Test.YtjkanhbnialmmaaDoorMk
import Derived.Outline
namespace Go.Proofs.YtjkanhbnialmmaaDoor
open Go.RowKit
open GoD (rd own)
theorem decD_le {s : ByteArray} {n : Nat} (h : decD s = some n) : n ≤ 999 := by
  by_cases hex : ∃ n : Nat, n ≤ 999 ∧ encodeInt (n : Int) = s
  · unfold decD at h
    rw [dif_pos hex] at h
    have := hex.choose_spec
    rw [Option.some.inj h] at this
    exact this.1
  · unfold decD at h
    rw [dif_neg hex] at h
    cases h
def cellsV (v : ValueD) : List Value := [.int .i64 v.1, .int .i64 v.2.1, .string v.2.2]
theorem rd_val {v : ValueD} (h1 : I64 v.1) (h2 : I64 v.2.1) (h3 : v.2.2.size ≤ maxLen) (w : World) : rd w [.int .i64 v.1, .int .i64 v.2.1, .string v.2.2] v :=
  ⟨[.int .i64 v.1], [.int .i64 v.2.1, .string v.2.2], rfl, ⟨rfl, h1⟩, [.int .i64 v.2.1], [.string v.2.2], rfl, ⟨rfl, h2⟩, ⟨rfl, h3⟩⟩
theorem val_rd {w : World} {v : ValueD} {x y z : Value} (h : rd w [x, y, z] v) : I64 v.1 ∧ I64 v.2.1 ∧ v.2.2.size ≤ maxLen := by
  obtain ⟨c1, c2, e1, h1, c3, c4, e2, h2, h3⟩ := h
  exact ⟨h1.2, h2.2, h3.2⟩
theorem i64_zero : I64 0 := ⟨by decide, by decide⟩
theorem i64_one : I64 1 := ⟨by decide, by decide⟩
theorem i64_two : I64 2 := ⟨by decide, by decide⟩
theorem conv_ok {v : ValueD} {k : Int} (h1 : I64 v.1) (h2 : I64 v.2.1) (h3 : v.2.2.size ≤ maxLen) : I64 (convV v k).1.1 ∧ I64 (convV v k).1.2.1 ∧ (convV v k).1.2.2.size ≤ maxLen := by
  have hz : I64 zeroV.1 ∧ I64 zeroV.2.1 ∧ zeroV.2.2.size ≤ maxLen := ⟨⟨by decide, by decide⟩, ⟨by decide, by decide⟩, Nat.zero_le _⟩
  unfold convV
  split
  · exact hz
  · split
    · exact ⟨h1, h2, h3⟩
    · split
      · refine ⟨i64_two, i64_zero, ?_⟩
        show (encodeInt v.2.1).size ≤ maxLen
        unfold encodeInt maxLen
        split
        · rename_i h
          have := numeral_size h
          rw [shift_size]
          omega
        · exact Nat.zero_le _
      · split
        · rename_i n hn
          have hle : n ≤ 999 := decD_le hn
          exact ⟨i64_one, ⟨by show (-9223372036854775808 : Int) ≤ (n : Int); omega, by show (n : Int) ≤ 9223372036854775807; omega⟩, Nat.zero_le _⟩
        · exact hz
theorem specConvert_b (w : World) (v : ValueD) (k : Int) (p : ValueD × Bool) (hp : convV v k = p) (h1 : I64 v.1) (h2 : I64 v.2.1) (h3 : v.2.2.size ≤ maxLen) (hk : I64 k) : Calls Tryd.prog 12 #[.agg #[.int .i64 v.1, .int .i64 v.2.1, .string v.2.2], .int .i64 k] w (Ret w (.tuple #[.agg #[.int .i64 p.1.1, .int .i64 p.1.2.1, .string p.1.2.2], .bool p.2])) :=
  hp ▸ specConvert_c w v.1 v.2.1 v.2.2 k h1 h2 h3 hk
theorem implConvert_b (w : World) (v : ValueD) (k : Int) (p : ValueD × Bool) (hp : convV v k = p) (h1 : I64 v.1) (h2 : I64 v.2.1) (h3 : v.2.2.size ≤ maxLen) (hk : I64 k) (ht : tabOk w) (he : errOk w) : Calls Tryd.prog 14 #[.agg #[.int .i64 v.1, .int .i64 v.2.1, .string v.2.2], .int .i64 k] w (Ret w (.tuple #[.agg #[.int .i64 p.1.1, .int .i64 p.1.2.1, .string p.1.2.2], .bool p.2])) :=
  hp ▸ implConvert_c w v.1 v.2.1 v.2.2 k h1 h2 h3 hk ht he
set_option maxHeartbeats 1000000 in
theorem lawConvertValue (w : World) (c0 : List Value) (a0 : ValueD) (h0 : rd w c0 a0) (a1 : Int) (h1 : I64 a1) (ht : tabOk w) (he : errOk w) : Calls Tryd.prog 5 #[.agg c0.toArray, .int .i64 a1] w (Ret w (.bool true)) := by
  obtain rfl := cells_Value h0
  obtain ⟨q1, q2, q3⟩ := val_rd h0
  have hok := conv_ok (k := a1) q1 q2 q3
  have HA0 := Lib.hid h0; clear h0
  generalize hp : convV a0 a1 = p at *
  have HP := Lib.hid hp; clear hp
  have HRP := Lib.hid (rd_val hok.1 hok.2.1 hok.2.2); clear hok
  have Q1 := Lib.hid q1; clear q1
  have Q2 := Lib.hid q2; clear q2
  have Q3 := Lib.hid q3; clear q3
  have HK := Lib.hid h1; clear h1
  have HT := Lib.hid ht; clear ht
  have HE := Lib.hid he; clear he
  have herR := eqb_refl p.1
  have tok1 : True := trivial
  have tok2 : True := trivial
  have tok3 : True := trivial
  have tok4 : True := trivial
  have tok5 : True := trivial
  have tok6 : True := trivial
  go_enter Tryd.func5, Tryd.ntmps5
  go_wp2_with (first | (go_at_call 11; have tk := tok1; clear tok1; refine call_sz (w := w) (szValue_c _ [.int .i64 a0.1, .int .i64 a0.2.1, .string a0.2.2] a0 _ (rd_below HA0.out (by repeat (first | (with_reducible exact Below.refl _ _) | (with_reducible refine Below.alloc ?_ (by go_size) _) | (with_reducible refine Below.drew ?_)))) (by omega) (by omega)) (by repeat (first | (with_reducible exact Below.refl _ _) | (with_reducible refine Below.alloc ?_ (by go_size) _) | (with_reducible refine Below.drew ?_))) ?_; intro w1 r1 hB1 hb hz1 _ hr hs1; have HR1 := Lib.hid hr; clear hr; have hz2 := hb.size; (repeat (first | rewrite [World.size_alloc] at hz2 | rewrite [World.size_setCell] at hz2 | rewrite [World.size_drew] at hz2)); have c1_0 := fun o => bcell hb (w.heap.size) o (by go_size); have l1_0 : w.heap.size < w1.heap.size := (by go_size); have HB1 := Lib.hid hb; clear hb) | (go_at_call 13; have tk := tok2; clear tok2; refine call_retA (w := w) (toValue_c _ [.int .i64 a0.1, .int .i64 a0.2.1, .string a0.2.2] a0 (rd_below HA0.out (by repeat (first | (with_reducible exact Below.refl _ _) | (with_reducible refine below_call ?_ HB1.out (by go_size)) | (with_reducible refine Below.alloc ?_ (by go_size) _) | (with_reducible refine Below.drew ?_)))) (show GoD.size a0 ≤ 1048576 by have q1 := HR1.out; unfold szq at *; omega)) (by repeat (first | (with_reducible exact Below.refl _ _) | (with_reducible refine below_call ?_ HB1.out (by go_size)) | (with_reducible refine Below.alloc ?_ (by go_size) _) | (with_reducible refine Below.drew ?_))) ?_; intro w2 cs2 L2 hB2 hb hz2 _ ho2 hL2; obtain rfl := cells_Value (GoD.own_rd ho2); (repeat (first | rewrite [World.size_alloc] at hL2 | rewrite [World.size_setCell] at hL2 | rewrite [World.size_drew] at hL2)); have hlt := GoD.own_lt ho2; have HO2 := Lib.hid ho2; clear ho2; have HL2 := Lib.hid hL2; clear hL2; have HT2 := Lib.hid hlt; clear hlt; have hz2 := hb.size; (repeat (first | rewrite [World.size_alloc] at hz2 | rewrite [World.size_setCell] at hz2 | rewrite [World.size_drew] at hz2)); have c2_0 := fun o => bcell hb (w.heap.size) o (by go_size); have l2_0 : w.heap.size < w2.heap.size := (by go_size); have HB2 := Lib.hid hb; clear hb) | (go_at_call 12; have tk := tok3; clear tok3; refine call_ret (w := w) (specConvert_b _ a0 a1 p HP.out Q1.out Q2.out Q3.out HK.out) (by repeat (first | (with_reducible exact Below.refl _ _) | (with_reducible refine below_call ?_ HB2.out (by go_size)) | (with_reducible refine below_call ?_ HB1.out (by go_size)) | (with_reducible refine Below.alloc ?_ (by go_size) _) | (with_reducible refine Below.drew ?_))) ?_; intro w3 hB3 hb hz3 _; have hz2 := hb.size; (repeat (first | rewrite [World.size_alloc] at hz2 | rewrite [World.size_setCell] at hz2 | rewrite [World.size_drew] at hz2)); have c3_0 := fun o => bcell hb (w.heap.size) o (by go_size); have l3_0 : w.heap.size < w3.heap.size := (by go_size); have HB3 := Lib.hid hb; clear hb) | (go_at_call 13; have tk := tok4; clear tok4; refine call_retA (w := w) (toValue_c _ [.int .i64 a0.1, .int .i64 a0.2.1, .string a0.2.2] a0 (rd_below HA0.out (by repeat (first | (with_reducible exact Below.refl _ _) | (with_reducible refine below_call ?_ HB3.out (by go_size)) | (with_reducible refine below_call ?_ HB2.out (by go_size)) | (with_reducible refine below_call ?_ HB1.out (by go_size)) | (with_reducible refine Below.alloc ?_ (by go_size) _) | (with_reducible refine Below.drew ?_)))) (show GoD.size a0 ≤ 1048576 by have q1 := HR1.out; unfold szq at *; omega)) (by repeat (first | (with_reducible exact Below.refl _ _) | (with_reducible refine below_call ?_ HB3.out (by go_size)) | (with_reducible refine below_call ?_ HB2.out (by go_size)) | (with_reducible refine below_call ?_ HB1.out (by go_size)) | (with_reducible refine Below.alloc ?_ (by go_size) _) | (with_reducible refine Below.drew ?_))) ?_; intro w4 cs4 L4 hB4 hb hz4 _ ho4 hL4; obtain rfl := cells_Value (GoD.own_rd ho4); (repeat (first | rewrite [World.size_alloc] at hL4 | rewrite [World.size_setCell] at hL4 | rewrite [World.size_drew] at hL4)); have hlt := GoD.own_lt ho4; have HO4 := Lib.hid ho4; clear ho4; have HL4 := Lib.hid hL4; clear hL4; have HT4 := Lib.hid hlt; clear hlt; have hz2 := hb.size; (repeat (first | rewrite [World.size_alloc] at hz2 | rewrite [World.size_setCell] at hz2 | rewrite [World.size_drew] at hz2)); have c4_0 := fun o => bcell hb (w.heap.size) o (by go_size); have c4_1 := fun o => bcell hb (w3.heap.size) o (by go_size); have l4_0 : w.heap.size < w4.heap.size := (by go_size); have l4_1 : w3.heap.size < w4.heap.size := (by go_size); have HB4 := Lib.hid hb; clear hb) | (go_at_call 14; have tk := tok5; clear tok5; refine call_ret (w := w) (implConvert_b _ a0 a1 p HP.out Q1.out Q2.out Q3.out HK.out (HT.out.keep (by repeat (first | (with_reducible exact Below.refl _ _) | (with_reducible refine below_call ?_ HB4.out (by go_size)) | (with_reducible refine below_call ?_ HB3.out (by go_size)) | (with_reducible refine below_call ?_ HB2.out (by go_size)) | (with_reducible refine below_call ?_ HB1.out (by go_size)) | (with_reducible refine Below.alloc ?_ (by go_size) _) | (with_reducible refine Below.drew ?_)))) (HE.out.keep (by repeat (first | (with_reducible exact Below.refl _ _) | (with_reducible refine below_call ?_ HB4.out (by go_size)) | (with_reducible refine below_call ?_ HB3.out (by go_size)) | (with_reducible refine below_call ?_ HB2.out (by go_size)) | (with_reducible refine below_call ?_ HB1.out (by go_size)) | (with_reducible refine Below.alloc ?_ (by go_size) _) | (with_reducible refine Below.drew ?_))))) (by repeat (first | (with_reducible exact Below.refl _ _) | (with_reducible refine below_call ?_ HB4.out (by go_size)) | (with_reducible refine below_call ?_ HB3.out (by go_size)) | (with_reducible refine below_call ?_ HB2.out (by go_size)) | (with_reducible refine below_call ?_ HB1.out (by go_size)) | (with_reducible refine Below.alloc ?_ (by go_size) _) | (with_reducible refine Below.drew ?_))) ?_; intro w5 hB5 hb hz5 _; have hz2 := hb.size; (repeat (first | rewrite [World.size_alloc] at hz2 | rewrite [World.size_setCell] at hz2 | rewrite [World.size_drew] at hz2)); have c5_0 := fun o => bcell hb (w.heap.size) o (by go_size); have c5_1 := fun o => bcell hb (w3.heap.size) o (by go_size); have l5_0 : w.heap.size < w5.heap.size := (by go_size); have l5_1 : w3.heap.size < w5.heap.size := (by go_size); have HB5 := Lib.hid hb; clear hb) | (go_at_call 15; have tk := tok6; clear tok6; refine call_ret (w := w) (eqValue_c _ [.int .i64 p.1.1, .int .i64 p.1.2.1, .string p.1.2.2] [.int .i64 p.1.1, .int .i64 p.1.2.1, .string p.1.2.2] p.1 p.1 (HRP.out _) (HRP.out _)) (by repeat (first | (with_reducible exact Below.refl _ _) | (with_reducible refine below_call ?_ HB5.out (by go_size)) | (with_reducible refine below_call ?_ HB4.out (by go_size)) | (with_reducible refine below_call ?_ HB3.out (by go_size)) | (with_reducible refine below_call ?_ HB2.out (by go_size)) | (with_reducible refine below_call ?_ HB1.out (by go_size)) | (with_reducible refine Below.alloc ?_ (by go_size) _) | (with_reducible refine Below.drew ?_))) ?_; intro w6 hB6 hb hz6 _; have hz2 := hb.size; (repeat (first | rewrite [World.size_alloc] at hz2 | rewrite [World.size_setCell] at hz2 | rewrite [World.size_drew] at hz2)); have c6_0 := fun o => bcell hb (w.heap.size) o (by go_size); have c6_1 := fun o => bcell hb (w3.heap.size) o (by go_size); have c6_2 := fun o => bcell hb (w5.heap.size) o (by go_size); have l6_0 : w.heap.size < w6.heap.size := (by go_size); have l6_1 : w3.heap.size < w6.heap.size := (by go_size); have l6_2 : w5.heap.size < w6.heap.size := (by go_size); have HB6 := Lib.hid hb; clear hb))
  all_goals
    go_ret
    refine ⟨rfl, ?_⟩
    first | (with_reducible assumption) | go_grown
end Go.Proofs.YtjkanhbnialmmaaDoor
