/- The walk of the law on small numbers as strings. -/
import Derived.Test.YtjkanhbnialmmaaDoorFi
import Derived.Outline
namespace Go.Proofs.YtjkanhbnialmmaaDoor
open Go.RowKit
open GoD (rd own)
set_option maxRecDepth 20000 in
theorem lawEncode (w : World) (n : Int) (hn : I64 n) (ht : tabOk w) : Calls Tryd.prog 3 #[.int .i64 n] w (Ret w (.bool true)) := by
  have HN := Lib.hid hn; clear hn
  have HT := Lib.hid ht; clear ht
  generalize hs : encodeInt n = s
  have HS := Lib.hid hs; clear hs
  go_enter Tryd.func3, Tryd.ntmps3
  go_wp2_with (first | (go_at_call 7; have hcon := (fun w1 => specEncode_c w1 n HN.out); rw [HS.out] at hcon; refine call_ret (w := w) (hcon _) (by go_grown) ?_; clear hcon; intro g1 hG1 hb hz1 hz2; clear hb hz2) | (go_at_call 8; have hcon := (fun w1 h => implEncode_c w1 n HN.out h); rw [HS.out] at hcon; refine call_ret (w := w) (hcon _ (HT.out.keep (by go_grown))) (by go_grown) ?_; clear hcon; intro g2 hG2 hb hz3 hz4; clear hb hz4))
  all_goals go_ret
  all_goals exact ⟨rfl, by go_grown⟩
end Go.Proofs.YtjkanhbnialmmaaDoor
