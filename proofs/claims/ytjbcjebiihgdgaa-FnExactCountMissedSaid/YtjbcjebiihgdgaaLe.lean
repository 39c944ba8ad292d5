/- spec.l29Events. -/
import Derived.Test.YtjbcjebiihgdgaaCe
import Derived.Test.YtjbcjebiihgdgaaFk
import Derived.Outline
namespace Go.Proofs.Ytjbcjebiihgdgaa
open Go.RowKit
open GoD (rd own)
set_option maxHeartbeats 4000000 in
theorem l29Events_c (w : World) (v : Value) (l : List EventD) (ha : rd w [v] l) (hsz : GoD.size l ≤ 1048576) : Calls Try.prog 60 #[v] w (RetS w l) := by
  obtain ⟨Poa, Pcap, Pe, Phl, Phm, Phel⟩ := ha
  obtain rfl : v = _ := by simpa using Pe
  clear Pe
  have PE := Lib.hid Phel; clear Phel
  have hn : l.length ≤ 1048576 := by have := size_list_len l; omega
  go_enter Try.func60, Try.ntmps60
  go_wp2
  go_loopw [3, 4] (fun out i wr => ∃ k : Nat, ∃ L, k ≤ l.length ∧ i = .int .i64 k ∧ Below w.heap.size w wr ∧ Hid (App 94 w wr L out (l.take k))) (fun _ i _ => l.length - (intOf i).toNat)
  case atStart => exact ⟨0, [w.heap.size], Nat.zero_le _, rfl, by go_grown, Lib.hid (App.fresh rfl (Nat.le_refl _))⟩
  case round =>
    obtain ⟨k, L, hk, rfl, hB, hA⟩ := hrel
    have hsz2 := hB.size
    obtain ⟨ooa, ocp, rfl⟩ := hA.out.slice
    have hlen : (l.take k).length ≤ k := List.length_take_le k l
    by_cases hkl : k < l.length
    · have hxx := List.getElem?_eq_getElem hkl
      obtain ⟨xb, xo, xce, rfl, xhcl, xhcc, xhxr⟩ := PE.out k _ hxx
      have HXx := Lib.hid hxx; clear hxx
      generalize l[k] = x at *
      obtain ⟨xv0, xv1, xv2, rfl⟩ := len3 (show _ = 3 from xhcl)
      have RXx := Lib.hid xhxr
      have hcsx := cells_Event xhxr; clear xhxr
      obtain ⟨xsoa1, xscp1, xsoa2, xscp2, hcsx⟩ := hcsx
      simp only [List.cons.injEq, and_true] at hcsx
      obtain ⟨rfl, rfl, rfl⟩ := hcsx
      have xc0 : wr.cell? ⟨xb, xo + k * 3, none⟩ = some (.int .i64 x.1) := (hB.cell (World.block_lt_of_cell? w _ (xhcc 0 _ rfl))).trans (xhcc 0 _ rfl)
      have xc1 : wr.cell? ⟨xb, xo + k * 3 + 1, none⟩ = some (.slice xsoa1 x.2.1.length xscp1) := (hB.cell (World.block_lt_of_cell? w _ (xhcc 1 _ rfl))).trans (xhcc 1 _ rfl)
      have xc2 : wr.cell? ⟨xb, xo + k * 3 + 2, none⟩ = some (.slice xsoa2 x.2.2.length xscp2) := (hB.cell (World.block_lt_of_cell? w _ (xhcc 2 _ rfl))).trans (xhcc 2 _ rfl)
      have xlt : xb < wr.heap.size := World.block_lt_of_cell? wr _ xc0
      clear xhcc xhcl
      have hxs : GoD.size x ≤ 1048576 := Nat.le_trans (size_list_get HXx.out) hsz
      have hxt : l.take (k + 1) = l.take k ++ [x] := by rw [List.take_add_one, HXx.out]; rfl
      have HT := Lib.hid hxt; clear hxt
      generalize l.take k = lk at *
      obtain ⟨x1, x2, x3⟩ := x
      dsimp only at *
      have hsx : GoD.size x1 + (GoD.size x2 + GoD.size x3) ≤ 1048576 := hxs
      have hx2 : x2.length ≤ 1048576 := by have := size_list_len x2; omega
      have hx3 : x3.length ≤ 1048576 := by have := size_list_len x3; omega
      clear hxs hsx
      obtain ⟨rr1, rr2, rr3⟩ : I64 x1 ∧ rd w [.slice xsoa1 x2.length xscp1] x2 ∧ rd w [.slice xsoa2 x3.length xscp2] x3 := by obtain ⟨c1, c2, e1, h1, c3, c4, e2, h2, h3⟩ := RXx.out; obtain ⟨n1, rfl⟩ := len1 (show c1.length = 1 from GoD.rd_len h1); obtain ⟨n2, rfl⟩ := len1 (show c3.length = 1 from GoD.rd_len h2); obtain ⟨n3, rfl⟩ := len1 (show c4.length = 1 from GoD.rd_len h3); subst e2; simp only [List.singleton_append, List.cons.injEq, and_true] at e1; obtain ⟨rfl, rfl, rfl⟩ := e1; exact ⟨h1.2, h2, h3⟩
      have RR1 := Lib.hid rr1; clear rr1
      have RR2 := Lib.hid rr2; clear rr2
      have RR3 := Lib.hid rr3; clear rr3
      clear RXx
      go_wp2_with (first | (skip; fail) | ((with_reducible refine wp_region_pl [.look 0, .look 1, .look 2, .look 3, .look 4, .look 5, .look 7, .look 8, .look 9, .look 10, .look 11, .look 14, .look 15, .look 16, .look 17, .look 18, .fork [6, 12, 13, 19], .step 20, .step 21, .free 22, .free 23] (by kernel_rfl) (by kernel_rfl) ?_); refine wpMix_look rfl rfl (fun _ _ _ _ h => h) (fun K hK hcell => ?_); have g0 := hcell xb (by go_size); clear hcell; go_simp; refine hK _ ?_; clear hK K g0; refine wpMix_look rfl rfl (fun _ _ _ _ h => h) (fun K hK hcell => ?_); have g0 := hcell xb (by go_size); clear hcell; go_simp; refine hK _ ?_; clear hK K g0; refine wpMix_look rfl rfl (fun _ _ _ _ h => h) (fun K hK hcell => ?_); have g0 := hcell xb (by go_size); clear hcell; go_simp; refine hK _ ?_; clear hK K g0; refine wpMix_look rfl rfl (fun _ _ _ _ h => h) (fun K hK hcell => ?_); have g0 := hcell xb (by go_size); clear hcell; go_simp; refine hK _ ?_; clear hK K g0; refine wpMix_look rfl rfl (fun _ _ _ _ h => h) (fun K hK hcell => ?_); have g0 := hcell xb (by go_size); clear hcell; go_simp; refine hK _ ?_; clear hK K g0; refine wpMix_look rfl rfl (fun _ _ _ _ h => h) (fun K hK hcell => ?_); have g0 := hcell xb (by go_size); clear hcell; go_simp; refine hK _ ?_; clear hK K g0; refine wpMix_look rfl rfl (fun _ _ _ _ h => h) (fun K hK hcell => ?_); have g0 := hcell xb (by go_size); clear hcell; go_simp; refine hK _ ?_; clear hK K g0; refine wpMix_look rfl rfl (fun _ _ _ _ h => h) (fun K hK hcell => ?_); have g0 := hcell xb (by go_size); clear hcell; go_simp; refine hK _ ?_; clear hK K g0; refine wpMix_look rfl rfl (fun _ _ _ _ h => h) (fun K hK hcell => ?_); have g0 := hcell xb (by go_size); clear hcell; go_simp; refine hK _ ?_; clear hK K g0; refine wpMix_look rfl rfl (fun _ _ _ _ h => h) (fun K hK hcell => ?_); have g0 := hcell xb (by go_size); clear hcell; go_simp; refine hK _ ?_; clear hK K g0; refine wpMix_look rfl rfl (fun _ _ _ _ h => h) (fun K hK hcell => ?_); have g0 := hcell xb (by go_size); clear hcell; go_simp; refine hK _ ?_; clear hK K g0; refine wpMix_look rfl rfl (fun _ _ _ _ h => h) (fun K hK hcell => ?_); have g0 := hcell xb (by go_size); clear hcell; go_simp; refine hK _ ?_; clear hK K g0; refine wpMix_look rfl rfl (fun _ _ _ _ h => h) (fun K hK hcell => ?_); have g0 := hcell xb (by go_size); clear hcell; go_simp; refine hK _ ?_; clear hK K g0; refine wpMix_look rfl rfl (fun _ _ _ _ h => h) (fun K hK hcell => ?_); have g0 := hcell xb (by go_size); clear hcell; go_simp; refine hK _ ?_; clear hK K g0; refine wpMix_look rfl rfl (fun _ _ _ _ h => h) (fun K hK hcell => ?_); have g0 := hcell xb (by go_size); clear hcell; go_simp; refine hK _ ?_; clear hK K g0; refine wpMix_look rfl rfl (fun _ _ _ _ h => h) (fun K hK hcell => ?_); have g0 := hcell xb (by go_size); clear hcell; go_simp; refine hK _ ?_; clear hK K g0; refine ⟨fun i => if i = 6 then 18 else if i = 12 then 24 else if i = 13 then 25 else 31, fun i => if i = 12 then [6] else if i = 19 then [13] else [], fun i v L w => if i = 6 then New0 3 v L w else if i = 12 then own L w [v] x2 else if i = 13 then New0 3 v L w else own L w [v] x3, ⟨by decide, by intro i hi; simp only [List.mem_cons, List.not_mem_nil, or_false] at hi; rcases hi with rfl | rfl | rfl | rfl <;> simp, ?dep, ?st, ?run⟩, fun vs Ls w2 hx hR hdis => ?fin⟩; (case dep => (intro i hi j hj; simp only [List.mem_cons, List.not_mem_nil, or_false] at hi; rcases hi with rfl | rfl | rfl | rfl; (simp at hj); (have e : j = 6 := by simpa using hj); subst e; exact ⟨by simp, _, _, rfl, by simp; exact .inl rfl, rfl, rfl⟩; (simp at hj); (have e : j = 13 := by simpa using hj); subst e; exact ⟨by simp, _, _, rfl, by simp; exact .inl rfl, rfl, rfl⟩)); (case st => (intro i hi v L w1 w2 h hx; simp only [List.mem_cons, List.not_mem_nil, or_false] at hi; rcases hi with rfl | rfl | rfl | rfl; exact New0.keep h hx; exact own_below h hx; exact New0.keep h hx; exact own_below h hx)); (case run => (intro i hi; simp only [List.mem_cons, List.not_mem_nil, or_false] at hi; rcases hi with rfl | rfl | rfl | rfl; refine run_new0 (i := 6) (dst := fun i => if i = 6 then 18 else if i = 12 then 24 else if i = 13 then 25 else 31) (o := ?o6) (n := 1) ?_ ?_ ?_ ?_ Try.underlying29 ?_; rotate_left; (exact rfl); (exact rfl); (exact rfl); (exact rfl); kernel_rfl; refine run_appW (i := 12) (dst := fun i => if i = 6 then 18 else if i = 12 then 24 else if i = 13 then 25 else 31) (o := ?o12) (β := Int) 6 (s := 18) (x := 23) (y := (.slice xsoa1 x2.length xscp1)) (l := x2) plain_int ?_ ?_ ?_ ?_ Try.underlying29 ?_ ?_ ?_ ?_ (rd_below RR2.out (below_via hB (by go_grown))) (by omega) (fun a' w' h => h 6 (by simp)); rotate_left; (exact rfl); (exact rfl); (exact rfl); (exact rfl); kernel_rfl; (exact rfl); (decide); (exact rfl); refine run_new0 (i := 13) (dst := fun i => if i = 6 then 18 else if i = 12 then 24 else if i = 13 then 25 else 31) (o := ?o13) (n := 1) ?_ ?_ ?_ ?_ Try.underlying29 ?_; rotate_left; (exact rfl); (exact rfl); (exact rfl); (exact rfl); kernel_rfl; refine run_appW (i := 19) (dst := fun i => if i = 6 then 18 else if i = 12 then 24 else if i = 13 then 25 else 31) (o := ?o19) (β := Int) 13 (s := 25) (x := 30) (y := (.slice xsoa2 x3.length xscp2)) (l := x3) plain_int ?_ ?_ ?_ ?_ Try.underlying29 ?_ ?_ ?_ ?_ (rd_below RR3.out (below_via hB (by go_grown))) (by omega) (fun a' w' h => h 13 (by simp)); rotate_left; (exact rfl); (exact rfl); (exact rfl); (exact rfl); kernel_rfl; (exact rfl); (decide); (exact rfl))); have q12 := hR 12 (by simp); have q19 := hR 19 (by simp); have hd12 := hdis 12 (by simp) 19 (by simp) (by decide); clear hR hdis; have o12 : own (Ls 12) w2 [vs 12] x2 := q12.1; have o19 : own (Ls 19) w2 [vs 19] x3 := q19.1; have b12 := q12.2; have b19 := q19.2; clear q12 q19; simp only [List.foldl_cons, List.foldl_nil]; generalize vs 6 = v6 at *; generalize vs 12 = v12 at *; generalize vs 13 = v13 at *; generalize vs 19 = v19 at *; generalize Ls 12 = L12 at *; generalize Ls 19 = L19 at *; obtain ⟨oa12, cp12, rfl⟩ := slice_of_own o12; obtain ⟨oa19, cp19, rfl⟩ := slice_of_own o19; have O12 := Lib.hid o12; clear o12; have O19 := Lib.hid o19; clear o19; have D12 := Lib.hid hd12; clear hd12; have B12 := Lib.hid b12; clear b12; have B19 := Lib.hid b19; clear b19; have hzx := hx.size; have HX := Lib.hid hx; clear hx; go_simp; refine wpMix_call rfl (fun K hK => ?_); go_simp; refine hK _ _ (by go_grown) ?_; clear hK K; refine wpMix_call rfl (fun K hK => ?_); go_simp; refine hK _ _ (by go_grown) ?_; clear hK K; refine wpMix_free rfl (fun K hK => ?_); rw [if_pos (wanted_none rfl _)]; refine wp_App (w0 := w) (L := L) (La := [] ++ (L12 ++ L19)) (v := .slice ooa lk.length ocp) (l := lk) (y := (x1, x2, x3)) _ _ 47 94 ⟨w2.heap.size, 0, none⟩ 1 (news := [.int .i64 x1, .slice oa12 x2.length cp12, .slice oa19 x3.length cp19]) (App.keep (App.keep (App.keep hA.out (by go_grown)) HX.out) (by go_grown)) (own_alloc (own_pair (own_i _ RR1.out) (own_pair O12.out O19.out D12.out) (by simp))) ?hd ?hla (below_via (below_via (below_via hB (by go_grown)) HX.out) (by go_grown)) rfl Try.underlying47 (by kernel_rfl) (by decide) rfl rfl (cells_new _ [.int .i64 x1, .slice oa12 x2.length cp12, .slice oa19 x3.length cp19] _) (by simp [Value.oneCell']) (by omega) ?kk; (case hd => (intro b hb hm; have h1 := hA.out.lt b hb; simp only [List.nil_append, List.mem_append] at hm; rcases hm with hm | hm; (have h2 := (B12.out b hm).1; simp only [World.size_drew] at h2; omega); (have h2 := (B19.out b hm).1; simp only [World.size_drew] at h2; omega))); (case hla => (intro b hm; simp only [List.nil_append, List.mem_append] at hm; rcases hm with hm | hm; (have h2 := (B12.out b hm).1; simp only [World.size_drew] at h2; omega); (have h2 := (B19.out b hm).1; simp only [World.size_drew] at h2; omega))); (intro v3 w3 L3 hA3 hB3 hz3 hL3 hfr; obtain ⟨oo3, oc3, rfl⟩ := hA3.slice; have HA3 := Lib.hid hA3; clear hA3 hfr hL3; refine hK _ _ ?_; clear hK K; refine wpMix_free rfl (fun K hK => ?_); go_simp; refine hK _ _ ?_; clear hK K; refine wpMix_nil ?_)))
      go_roundw
      case rel => exact ⟨k + 1, L3, by omega, by go_num, by go_grown, by rw [HT.out]; have h := HA3.out; simp only [List.length_append, List.length_singleton] at h; exact Lib.hid h⟩
      case measure => simp [intOf]; omega
    · obtain rfl : k = l.length := by omega
      go_wp2
      go_ret
      exact ⟨.slice ooa (l.take l.length).length ocp, L, rfl, hB, by have h := hA.out.done; simp only [List.take_length] at h ⊢; exact h, fun b hb => hA.out.ge b hb⟩
end Go.Proofs.Ytjbcjebiihgdgaa
