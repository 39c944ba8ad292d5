/- The walk of the law on strings as small numbers. -/
import Derived.Test.YtjkanhbnialmmaaDoorFe
import Derived.Outline
namespace Go.Proofs.YtjkanhbnialmmaaDoor
open Go.RowKit
open GoD (rd own)
set_option maxRecDepth 20000 in
theorem lawDecode (w : World) (s : ByteArray) (hs : s.size ≤ maxLen) (ht : tabOk w) (he : errOk w) : Calls Tryd.prog 4 #[.string s] w (Ret w (.bool true)) := by
  have HS := Lib.hid hs
  unfold maxLen at hs
  have HT := Lib.hid ht; clear ht
  have HE := Lib.hid he; clear he
  cases hd : decD s with
  | none =>
    have ho : optV none = .tuple #[.int .i64 0, .bool false] := rfl
    have HD := Lib.hid hd; clear hd
    go_enter Tryd.func4, Tryd.ntmps4
    go_wp2_with (first | (go_at_call 9; have hcon := (fun w1 => specDecode_c w1 s HS.out); rw [HD.out, ho] at hcon; refine call_ret (w := w) (hcon _) (by go_grown) ?_; clear hcon; intro g1 hG1 hb hz1 hz2; clear hb hz2) | (go_at_call 10; have hcon := (fun w1 h1 h2 => implDecode_c w1 s HS.out h1 h2); rw [HD.out, ho] at hcon; refine call_ret (w := w) (hcon _ (HT.out.keep (by go_grown)) (HE.out.keep (by go_grown))) (by go_grown) ?_; clear hcon; intro g2 hG2 hb hz3 hz4; clear hb hz4))
    all_goals go_ret
    all_goals exact ⟨rfl, by go_grown⟩
  | some n =>
    have ho : optV (some n) = .tuple #[.int .i64 n, .bool true] := rfl
    have HD := Lib.hid hd; clear hd
    go_enter Tryd.func4, Tryd.ntmps4
    go_wp2_with (first | (go_at_call 9; have hcon := (fun w1 => specDecode_c w1 s HS.out); rw [HD.out, ho] at hcon; refine call_ret (w := w) (hcon _) (by go_grown) ?_; clear hcon; intro g1 hG1 hb hz1 hz2; clear hb hz2) | (go_at_call 10; have hcon := (fun w1 h1 h2 => implDecode_c w1 s HS.out h1 h2); rw [HD.out, ho] at hcon; refine call_ret (w := w) (hcon _ (HT.out.keep (by go_grown)) (HE.out.keep (by go_grown))) (by go_grown) ?_; clear hcon; intro g2 hG2 hb hz3 hz4; clear hb hz4))
    all_goals go_ret
    all_goals exact ⟨rfl, by go_grown⟩
end Go.Proofs.YtjkanhbnialmmaaDoor
