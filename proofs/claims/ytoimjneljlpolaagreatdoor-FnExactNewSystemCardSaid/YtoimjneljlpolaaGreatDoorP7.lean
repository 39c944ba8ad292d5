/- Texts of this proof, put together by a program: LYns, MYns. -/
import Derived.Test.YtoimjneljlpolaaGreatDoorP6
import Derived.KernelRfl
import Derived.Outline
set_option linter.unusedVariables false
set_option linter.unusedSimpArgs false
namespace Go.Proofs.YtoimjneljlpolaaGreatDoor
open Go.RowKit
open GoE (enc wide)
theorem szFieldS_a (a : (List X4)) (left : Int) (h0 : 0 ≤ left) (h1 : left ≤ 1048576) : ACalls Tryz.prog 4 [argS a, intA left] (intA (szI (GoD.size a) left)) := acalls_szS (by unfold FnOk; kernel_rfl) h0 h1 fun w c hr => szFieldS_c w c a left hr h0 h1
def lawstoField (a_ : X4) : X4 := a_
theorem lawstoField_a (a_ : X4) : ACalls Tryz.prog 22 [.a [.s a_.1, .i a_.2]] (.a [.s ((lawstoField a_).1), .i ((lawstoField a_).2)]) := by
 refine en Qa Tryz.func22 fun w0 F0 hG => ?_
 refine sn Qa [1, 2] [1, 2] (p0) ?_
 refine tn Qa [1, 2, 3] [1, 2, 3] (p0) ?_
 refine tu Qa [(1, .p 1 0), (2, .p 2 0), (3, .p 3 0)] [0] [(1, [.s a_.1, .i a_.2]), (2, [.s ⟨#[]⟩, .i 0]), (3, [.s a_.1, .i 0])] [] (p0) ?_
 refine sn Qa [2, 3] [2, 3] (p0) ?_
 refine tn Qa [2] [2] (p0) ?_
 refine Qf ?_
 exact pz [] (show lawstoField a_ = a_ from rfl) (fun z => .a [.s z.1, .i z.2])
theorem toField_d (a : X4) : ACalls Tryz.prog 22 [argA a] (resA a) := lawstoField_a a
theorem toFieldS_d (l : (List X4)) : ACalls Tryz.prog 6 [.h l] (resS l) := toS default Qa Tryz.func6 7 (fun a => [(6, .val (resA a))]) (fun a => [.call 22 [argA a] (resA a)]) (fun _ _ a _ _ => pc 6 (toField_d a)) l
theorem toFieldS_a (a : (List X4)) (h : GoD.size a ≤ 1048576) : ACalls Tryz.prog 6 [argS a] (resS a) := toFieldS_d a
theorem toIntS_d (l : (List Int)) : ACalls Tryz.prog 7 [.h l] (resS l) := toS default Qa Tryz.func7 6 (fun _ => []) (fun _ => []) (fun _ _ _ _ _ h => h) l
theorem toIntS_a (a : (List Int)) (h : GoD.size a ≤ 1048576) : ACalls Tryz.prog 7 [argS a] (resS a) := toIntS_d a
theorem eqField_d (a : X4) : ACalls Tryz.prog 34 [argA a, argA a] (.b true) := eqA Qa Tryz.func34 a fun _ _ _ => eqT Qa a.1 <| eqI Qa a.2 <| eqE Qa
theorem eqFieldS_d (l : (List X4)) : ACalls Tryz.prog 10 [.h l, .h l] (.b true) := eqS Qa Y2 Tryz.func10 true (fun a => .call 34 [argA a, argA a] (.b true)) (fun _ _ a => ob_call (eqField_d a)) l
theorem eqValue_d (a : ValueD) : ACalls Tryz.prog 195 [argA a, argA a] (.b true) := eqA Qa Tryz.func195 a fun _ _ _ => eqI Qa a.1 <| eqI Qa a.2.1 <| eqT Qa a.2.2 <| eqE Qa
theorem eqAttr_d (a : AttrD) : ACalls Tryz.prog 194 [argA a, argA a] (.b true) := eqA Qa Tryz.func194 a fun _ _ _ => eqT Qa a.1 <| eqG Qa (eqValue_d a.2) <| eqE Qa
theorem eqAttrS_d (l : (List AttrD)) : ACalls Tryz.prog 160 [.h l, .h l] (.b true) := eqS Qa Y2 Tryz.func160 true (fun a => .call 194 [argA a, argA a] (.b true)) (fun _ _ a => ob_call (eqAttr_d a)) l
theorem eqFile_d (a : Zr) : ACalls Tryz.prog 129 [argA a, argA a] (.b true) := eqA Qa Tryz.func129 a fun _ _ _ => eqI Qa a.1 <| eqI Qa a.2.1 <| eqB Qa a.2.2.1 <| eqI Qa a.2.2.2.1 <| eqG Qa (eqAttrS_d a.2.2.2.2) <| eqE Qa
theorem eqFileS_d (l : (List Zr)) : ACalls Tryz.prog 93 [.h l, .h l] (.b true) := eqS Qa Y2 Tryz.func93 true (fun a => .call 129 [argA a, argA a] (.b true)) (fun _ _ a => ob_call (eqFile_d a)) l
theorem eqStore_d (a : Yv) : ACalls Tryz.prog 63 [argA a, argA a] (.b true) := eqA Qa Tryz.func63 a fun _ _ _ => eqG Qa (eqFieldS_d a.1) <| eqG Qa (eqFileS_d a.2.1) <| eqI Qa a.2.2 <| eqE Qa
theorem eqNode_d (a : Yi) : ACalls Tryz.prog 161 [argA a, argA a] (.b true) := eqA Qa Tryz.func161 a fun _ _ _ => eqI Qa a.1 <| eqI Qa a.2.1 <| eqI Qa a.2.2.1 <| eqT Qa a.2.2.2.1 <| eqG Qa (eqValue_d a.2.2.2.2) <| eqE Qa
theorem eqNodeS_d (l : (List Yi)) : ACalls Tryz.prog 130 [.h l, .h l] (.b true) := eqS Qa Y2 Tryz.func130 true (fun a => .call 161 [argA a, argA a] (.b true)) (fun _ _ a => ob_call (eqNode_d a)) l
theorem eqDir_d (a : Y7) : ACalls Tryz.prog 94 [argA a, argA a] (.b true) := eqA Qa Tryz.func94 a fun _ _ _ => eqT Qa a.1 <| eqG Qa (eqNodeS_d a.2) <| eqE Qa
theorem eqDirS_d (l : (List Y7)) : ACalls Tryz.prog 64 [.h l, .h l] (.b true) := eqS Qa Y2 Tryz.func64 true (fun a => .call 94 [argA a, argA a] (.b true)) (fun _ _ a => ob_call (eqDir_d a)) l
theorem eqIntS_d (l : (List Int)) : ACalls Tryz.prog 11 [.h l, .h l] (.b true) := eqS Qa Y2 Tryz.func11 false (fun a => .eq (.b (a != a)) (.b false)) (fun _ _ a => Qk (by simp)) l
theorem eqResult_d (a : Qh) : ACalls Tryz.prog 95 [argA a, argA a] (.b true) := eqA Qa Tryz.func95 a fun _ _ _ => eqT Qa a.1 <| eqG Qa (eqIntS_d a.2) <| eqE Qa
theorem eqResultS_d (l : (List Qh)) : ACalls Tryz.prog 65 [.h l, .h l] (.b true) := eqS Qa Y2 Tryz.func65 true (fun a => .call 95 [argA a, argA a] (.b true)) (fun _ _ a => ob_call (eqResult_d a)) l
theorem eqCatalog_d (a : CatalogD) : ACalls Tryz.prog 30 [argA a, argA a] (.b true) := eqA Qa Tryz.func30 a fun _ _ _ => eqG Qa (eqStore_d a.1) <| eqG Qa (eqDirS_d a.2.1) <| eqG Qa (eqResultS_d a.2.2) <| eqE Qa
theorem eqDisk_d (a : DiskD) : ACalls Tryz.prog 31 [argA a, argA a] (.b true) := eqA Qa Tryz.func31 a fun _ _ _ => eqT Qa a.1 <| eqT Qa a.2 <| eqE Qa
theorem eqSnapshot_d (a : Xq) : ACalls Tryz.prog 96 [argA a, argA a] (.b true) := eqA Qa Tryz.func96 a fun _ _ _ => eqG Qa (eqStore_d a.1) <| eqG Qa (eqDirS_d a.2) <| eqE Qa
theorem eqVersion_d (a : Yg) : ACalls Tryz.prog 66 [argA a, argA a] (.b true) := eqA Qa Tryz.func66 a fun _ _ _ => eqI Qa a.1 <| eqG Qa (eqSnapshot_d a.2.1) <| eqI Qa a.2.2 <| eqE Qa
theorem eqVersionS_d (l : (List Yg)) : ACalls Tryz.prog 32 [.h l, .h l] (.b true) := eqS Qa Y2 Tryz.func32 true (fun a => .call 66 [argA a, argA a] (.b true)) (fun _ _ a => ob_call (eqVersion_d a)) l
theorem eqEvent_d (a : EventD) : ACalls Tryz.prog 131 [argA a, argA a] (.b true) := eqA Qa Tryz.func131 a fun _ _ _ => eqI Qa a.1 <| eqG Qa (eqIntS_d a.2.1) <| eqG Qa (eqIntS_d a.2.2) <| eqE Qa
theorem eqEventS_d (l : (List EventD)) : ACalls Tryz.prog 97 [.h l, .h l] (.b true) := eqS Qa Y2 Tryz.func97 true (fun a => .call 131 [argA a, argA a] (.b true)) (fun _ _ a => ob_call (eqEvent_d a)) l
theorem eqWatch_d (a : WatchD) : ACalls Tryz.prog 67 [argA a, argA a] (.b true) := eqA Qa Tryz.func67 a fun _ _ _ => eqI Qa a.1 <| eqT Qa a.2.1 <| eqG Qa (eqIntS_d a.2.2.1) <| eqG Qa (eqEventS_d a.2.2.2) <| eqE Qa
theorem eqWatchS_d (l : (List WatchD)) : ACalls Tryz.prog 33 [.h l, .h l] (.b true) := eqS Qa Y2 Tryz.func33 true (fun a => .call 67 [argA a, argA a] (.b true)) (fun _ _ a => ob_call (eqWatch_d a)) l
theorem eqSystem_d (a : SystemD) : ACalls Tryz.prog 9 [argA a, argA a] (.b true) := eqA Qa Tryz.func9 a fun _ _ _ => eqG Qa (eqCatalog_d a.1) <| eqG Qa (eqDisk_d a.2.1) <| eqI Qa a.2.2.1 <| eqG Qa (eqVersionS_d a.2.2.2.1) <| eqG Qa (eqWatchS_d a.2.2.2.2.1) <| eqG Qa (eqIntS_d a.2.2.2.2.2) <| eqE Qa
theorem eqSystem_a {a b : SystemD} (h : a = b) : ACalls Tryz.prog 9 [argA a, argA b] (boolA true) := h ▸ eqSystem_d a
theorem eqFieldS_a {a b : (List X4)} (h : a = b) : ACalls Tryz.prog 10 [argS a, argS b] (boolA true) := h ▸ eqFieldS_d a
theorem eqIntS_a {a b : (List Int)} (h : a = b) : ACalls Tryz.prog 11 [argS a, argS b] (boolA true) := h ▸ eqIntS_d a
theorem markFieldS_m (a : (List X4)) (K : Int) (k : Nat) (hK : K = k) (h1 : 1 ≤ k) (hk : k ≤ 1152921504606846976) (hs : GoD.size a ≤ 1073741824) : MarkS Tryz.prog 12 a K (Qe a k) := ⟨(by unfold FnOk; kernel_rfl), fun w L c ho => markFieldS_c w c a L K k hK h1 (by have := bdS (l := a) (k := k) (by decide) hs; omega) ho⟩
theorem markIntS_m (a : (List Int)) (K : Int) (k : Nat) (hK : K = k) (h1 : 1 ≤ k) (hk : k ≤ 1152921504606846976) (hs : GoD.size a ≤ 1073741824) : MarkS Tryz.prog 13 a K (Qe a k) := ⟨(by unfold FnOk; kernel_rfl), fun w L c ho => markIntS_c w c a L K k hK h1 (by have := bdS (l := a) (k := k) (by decide) hs; omega) ho⟩
theorem markSystem_m (a : SystemD) (K : Int) (k : Nat) (hK : K = k) (h1 : 1 ≤ k) (hk : k ≤ 1152921504606846976) (hs : GoD.size a ≤ 1073741824) : MarkA Tryz.prog 14 a K (GoD.markT a k) := ⟨(by unfold FnOk; kernel_rfl), fun w L c ho => markSystem_c w c a L K k hK h1 (by have := bdT (a := a) (k := k) (by decide) hs; omega) ho⟩
theorem heldSystem_a (a : SystemD) (hs : GoD.size a ≤ 1073741824) : ACalls Tryz.prog 15 [argA (GoD.markT a 1).1, intA 1] (intA ((GoD.markT a 1).2 : Nat)) := acalls_heA (by unfold FnOk; kernel_rfl) (by have := bdT (a := a) (k := 1) (by decide) hs; rw [inR_i64]; unfold I64; omega) fun w c hr => heldSystem_c w c a _ 1 1 rfl (by omega) (by have := bdT (a := a) (k := 1) (by decide) hs; omega) rfl hr
def lawsFnExactNewSystem (aS : (List X4)) (aQuota : (List Int)) : Bool := (bif decide ((aQuota.length : Int) > (1048576 : Int)) then true else (bif decide ((szI (GoD.size aS) 1048576) < (0 : Int)) then true else true))
theorem lawsFnExactNewSystem_a (aS : (List X4)) (aQuota : (List Int)) : ACalls Tryz.prog 3 [.h aS, .h aQuota] (.b (lawsFnExactNewSystem aS aQuota)) := by
 refine en Qa Tryz.func3 fun w0 F0 hG => ?_
 refine sn Qa [0, 1, 4] [] (p0) ?_
 refine Qb ?_
 refine tn Qa [0, 1, 4, 19] [] (pl 1 aQuota p0) ?_
 refine ck (decide ((aQuota.length : Int) > (1048576 : Int))) (fun h1 => ?_) (fun h1 => ?_)
 ·
  refine tu Qa [(4, .b true)] [] [] [] (p0) ?_
  refine Qf ?_
  exact pb [] (Xw h1 (rfl))
 have h1d := of_decide_eq_false h1
 refine Qg ?_
 refine tu Qa [(4, .b false), (5, .i 1048576)] [] [] [] (p0) ?_
 have hz2 := szI_bd (GoD.size aS) 1048576
 refine sn Qa [0, 1, 4, 5] [] (pc 2 (szFieldS_a aS 1048576 (by omega) (by omega)) p0) ?_
 refine Qb ?_
 refine tn Qa [0, 1, 4, 24] [] (p0) ?_
 refine ck (decide ((szI (GoD.size aS) 1048576) < (0 : Int))) (fun h3 => ?_) (fun h3 => ?_)
 ·
  refine tu Qa [(4, .b true)] [4, 5] [] [] (p0) ?_
  refine Qf ?_
  exact pb [] (Qm h1 (Xw h3 (rfl)))
 have h3d := of_decide_eq_false h3
 refine Qg ?_
 have hsz_aS : GoD.size aS ≤ 1048576 := by omega
 have hsz_aQuota : GoD.size aQuota ≤ 1048576 := by rw [size_plain (fun _ => rfl)]; omega
 refine tu Qa [(6, .p 6 0), (7, .b (((Qc aS aQuota)).2))] [5] [(6, [.o 1920 ((((Qc aS aQuota)).1).1.1.1), .o 1921 ((((Qc aS aQuota)).1).1.1.2.1), .i ((((Qc aS aQuota)).1).1.1.2.2), .o 1922 ((((Qc aS aQuota)).1).1.2.1), .o 1923 ((((Qc aS aQuota)).1).1.2.2), .s ((((Qc aS aQuota)).1).2.1.1), .s ((((Qc aS aQuota)).1).2.1.2), .i ((((Qc aS aQuota)).1).2.2.1), .o 1924 ((((Qc aS aQuota)).1).2.2.2.1), .o 1925 ((((Qc aS aQuota)).1).2.2.2.2.1), .o 1926 ((((Qc aS aQuota)).1).2.2.2.2.2)])] [] (pc 1 (toFieldS_a aS hsz_aS) (pc 3 (toIntS_a aQuota hsz_aQuota) (pc 4 ((newSystem_eq aS aQuota) ▸ (specNewSystem_a aS aQuota)) p0))) ?_
 refine sn Qa [0, 1, 4, 6, 7, 8] [6] (pc 1 (toFieldS_a aS hsz_aS) p0) ?_
 refine tn Qa [0, 1, 4, 6, 7, 8, 9] [6] (pc 1 (toIntS_a aQuota hsz_aQuota) p0) ?_
 refine tu Qa [(8, .o 2176 aS), (9, .o 2304 aQuota), (10, .p 10 0), (11, .b (((Qc aS aQuota)).2))] [] [(10, [.o 2560 ((((Qc aS aQuota)).1).1.1.1), .o 2561 ((((Qc aS aQuota)).1).1.1.2.1), .i ((((Qc aS aQuota)).1).1.1.2.2), .o 2562 ((((Qc aS aQuota)).1).1.2.1), .o 2563 ((((Qc aS aQuota)).1).1.2.2), .s ((((Qc aS aQuota)).1).2.1.1), .s ((((Qc aS aQuota)).1).2.1.2), .i ((((Qc aS aQuota)).1).2.2.1), .o 2564 ((((Qc aS aQuota)).1).2.2.2.1), .o 2565 ((((Qc aS aQuota)).1).2.2.2.2.1), .o 2566 ((((Qc aS aQuota)).1).2.2.2.2.2)])] [] (pc 2 (implNewSystem_a aS aQuota) p0) ?_
 refine Qb ?_
 refine su Qa [(51, .b false)] [] [] [] (pc 2 (eqSystem_a (a := ((Qc aS aQuota)).1) (b := ((Qc aS aQuota)).1) (rfl)) (pe 3 (show .b (!true) = .b false from rfl) (pe 7 (show .b (!((((Qc aS aQuota)).2) == (((Qc aS aQuota)).2))) = .b false from Qk (by simp)) p0))) ?_
 refine ckF ?_
 refine Qg ?_
 refine Qb ?_
 refine su Qa [(56, .b false)] [51] [] [] (pc 2 (toFieldS_a aS hsz_aS) (pc 3 (eqFieldS_a (a := aS) (b := aS) (rfl)) (pe 4 (show .b (!true) = .b false from rfl) p0))) ?_
 refine ckF ?_
 refine Qg ?_
 refine Qb ?_
 refine su Qa [(61, .b false)] [56] [] [] (pc 2 (toIntS_a aQuota hsz_aQuota) (pc 3 (eqIntS_a (a := aQuota) (b := aQuota) (rfl)) (pe 4 (show .b (!true) = .b false from rfl) p0))) ?_
 refine ckF ?_
 refine Qg ?_
 refine su Qa [(12, .i 1)] [61] [] [] (p0) ?_
 refine Qb ?_
 have hm4 := bdS (l := aS) (k := 1) (by decide) (Nat.le_trans hsz_aS (by decide))
 have hm5 := Xp aS 1
 refine awp_markS (markFieldS_m aS 1 1 rfl (by omega) (by omega) ((Nat.le_trans hsz_aS (by decide)))) (by rw [inR_i64]; unfold I64; omega) GoM.mkT 2176 [0, 1, 4, 6, 7, 9, 10, 11, 12] [6, 10] (s' := ⟨[(0, .h aS), (1, .h aQuota), (4, .b false), (6, .p 6 0), (7, .b (((Qc aS aQuota)).2)), (9, .o 2304 aQuota), (10, .p 10 0), (11, .b (((Qc aS aQuota)).2)), (12, .i (((Qe aS 1).2 : Nat) : Int))], [(6, [.o 1920 ((((Qc aS aQuota)).1).1.1.1), .o 1921 ((((Qc aS aQuota)).1).1.1.2.1), .i ((((Qc aS aQuota)).1).1.1.2.2), .o 1922 ((((Qc aS aQuota)).1).1.2.1), .o 1923 ((((Qc aS aQuota)).1).1.2.2), .s ((((Qc aS aQuota)).1).2.1.1), .s ((((Qc aS aQuota)).1).2.1.2), .i ((((Qc aS aQuota)).1).2.2.1), .o 1924 ((((Qc aS aQuota)).1).2.2.2.1), .o 1925 ((((Qc aS aQuota)).1).2.2.2.2.1), .o 1926 ((((Qc aS aQuota)).1).2.2.2.2.2)]), (10, [.o 2560 ((((Qc aS aQuota)).1).1.1.1), .o 2561 ((((Qc aS aQuota)).1).1.1.2.1), .i ((((Qc aS aQuota)).1).1.1.2.2), .o 2562 ((((Qc aS aQuota)).1).1.2.1), .o 2563 ((((Qc aS aQuota)).1).1.2.2), .s ((((Qc aS aQuota)).1).2.1.1), .s ((((Qc aS aQuota)).1).2.1.2), .i ((((Qc aS aQuota)).1).2.2.1), .o 2564 ((((Qc aS aQuota)).1).2.2.2.1), .o 2565 ((((Qc aS aQuota)).1).2.2.2.2.1), .o 2566 ((((Qc aS aQuota)).1).2.2.2.2.2)])]⟩) rfl rfl rfl rfl rfl rfl rfl rfl rfl rfl rfl rfl (by kernel_rfl) (by kernel_rfl) rfl rfl (by kernel_rfl) ?_
 refine Qb ?_
 have hm6 := bdS (l := aQuota) (k := (Qe aS 1).2) (by decide) (Nat.le_trans hsz_aQuota (by decide))
 have hm7 := Xp aQuota ((Qe aS 1).2)
 refine awp_markS (markIntS_m aQuota (((Qe aS 1).2 : Nat) : Int) ((Qe aS 1).2) rfl (by omega) (by omega) ((Nat.le_trans hsz_aQuota (by decide)))) (by rw [inR_i64]; unfold I64; omega) GoM.mkT 2304 [0, 1, 4, 6, 7, 10, 11, 12] [6, 10] (s' := ⟨[(0, .h aS), (1, .h aQuota), (4, .b false), (6, .p 6 0), (7, .b (((Qc aS aQuota)).2)), (10, .p 10 0), (11, .b (((Qc aS aQuota)).2)), (12, .i (((Qe aQuota ((Qe aS 1).2)).2 : Nat) : Int))], [(6, [.o 1920 ((((Qc aS aQuota)).1).1.1.1), .o 1921 ((((Qc aS aQuota)).1).1.1.2.1), .i ((((Qc aS aQuota)).1).1.1.2.2), .o 1922 ((((Qc aS aQuota)).1).1.2.1), .o 1923 ((((Qc aS aQuota)).1).1.2.2), .s ((((Qc aS aQuota)).1).2.1.1), .s ((((Qc aS aQuota)).1).2.1.2), .i ((((Qc aS aQuota)).1).2.2.1), .o 1924 ((((Qc aS aQuota)).1).2.2.2.1), .o 1925 ((((Qc aS aQuota)).1).2.2.2.2.1), .o 1926 ((((Qc aS aQuota)).1).2.2.2.2.2)]), (10, [.o 2560 ((((Qc aS aQuota)).1).1.1.1), .o 2561 ((((Qc aS aQuota)).1).1.1.2.1), .i ((((Qc aS aQuota)).1).1.1.2.2), .o 2562 ((((Qc aS aQuota)).1).1.2.1), .o 2563 ((((Qc aS aQuota)).1).1.2.2), .s ((((Qc aS aQuota)).1).2.1.1), .s ((((Qc aS aQuota)).1).2.1.2), .i ((((Qc aS aQuota)).1).2.2.1), .o 2564 ((((Qc aS aQuota)).1).2.2.2.1), .o 2565 ((((Qc aS aQuota)).1).2.2.2.2.1), .o 2566 ((((Qc aS aQuota)).1).2.2.2.2.2)])]⟩) rfl rfl rfl rfl rfl rfl rfl rfl rfl rfl rfl rfl (by kernel_rfl) (by kernel_rfl) rfl rfl (by kernel_rfl) ?_
 refine Qb ?_
 refine su Qa [(80, .b false)] [11, 12] [] [] (pe 1 (av_df (p := (((Qe aQuota ((Qe aS 1).2)).2 : Nat) : Int) < (0 : Int)) (by omega)) (pc 5 (eqSystem_a (a := ((Qc aS aQuota)).1) (b := ((Qc aS aQuota)).1) (rfl)) (pe 6 (show .b (!true) = .b false from rfl) (pe 11 (show .b (!((((Qc aS aQuota)).2) == (((Qc aS aQuota)).2))) = .b false from Qk (by simp)) p0)))) ?_
 refine ckF ?_
 refine Qg ?_
 refine su Qa [(13, .i 1)] [80] [] [] (p0) ?_
 refine Qb ?_
 have hm8 := bdT (a := (((Qc aS aQuota)).1)) (k := 1) (by decide) (newSystem_size aS aQuota ⟨by omega, by omega⟩)
 have hm9 := GoD.mkT_le (((Qc aS aQuota)).1) 1
 refine awp_markA Qa (markSystem_m (((Qc aS aQuota)).1) 1 1 rfl (by omega) (by omega) ((newSystem_size aS aQuota ⟨by omega, by omega⟩))) (by rw [inR_i64]; unfold I64; omega) GoM.mkT [2560, 2561, 2562, 2563, 2564, 2565, 2566] [0, 1, 4, 6, 7, 10, 13] [6, 10] (s' := ⟨[(0, .h aS), (1, .h aQuota), (4, .b false), (6, .p 6 0), (7, .b (((Qc aS aQuota)).2)), (10, .p 10 0), (13, .i (((GoD.markT (((Qc aS aQuota)).1) 1).2 : Nat) : Int))], [(6, [.o 1920 ((((Qc aS aQuota)).1).1.1.1), .o 1921 ((((Qc aS aQuota)).1).1.1.2.1), .i ((((Qc aS aQuota)).1).1.1.2.2), .o 1922 ((((Qc aS aQuota)).1).1.2.1), .o 1923 ((((Qc aS aQuota)).1).1.2.2), .s ((((Qc aS aQuota)).1).2.1.1), .s ((((Qc aS aQuota)).1).2.1.2), .i ((((Qc aS aQuota)).1).2.2.1), .o 1924 ((((Qc aS aQuota)).1).2.2.2.1), .o 1925 ((((Qc aS aQuota)).1).2.2.2.2.1), .o 1926 ((((Qc aS aQuota)).1).2.2.2.2.2)]), (10, [.h (((GoD.markT (((Qc aS aQuota)).1) 1).1).1.1.1), .h (((GoD.markT (((Qc aS aQuota)).1) 1).1).1.1.2.1), .i (((GoD.markT (((Qc aS aQuota)).1) 1).1).1.1.2.2), .h (((GoD.markT (((Qc aS aQuota)).1) 1).1).1.2.1), .h (((GoD.markT (((Qc aS aQuota)).1) 1).1).1.2.2), .s (((GoD.markT (((Qc aS aQuota)).1) 1).1).2.1.1), .s (((GoD.markT (((Qc aS aQuota)).1) 1).1).2.1.2), .i (((GoD.markT (((Qc aS aQuota)).1) 1).1).2.2.1), .h (((GoD.markT (((Qc aS aQuota)).1) 1).1).2.2.2.1), .h (((GoD.markT (((Qc aS aQuota)).1) 1).1).2.2.2.2.1), .h (((GoD.markT (((Qc aS aQuota)).1) 1).1).2.2.2.2.2)])]⟩) rfl rfl rfl rfl rfl rfl rfl rfl rfl rfl rfl rfl (by kernel_rfl) rfl rfl (by kernel_rfl) rfl rfl (by kernel_rfl) (by kernel_rfl) rfl (by kernel_rfl) ?_
 refine su Qa [(14, .i 1)] [] [] [] (p0) ?_
 refine sn Qa [0, 1, 4, 6, 7, 10, 13, 14] [6, 10] (pc 2 (heldSystem_a (((Qc aS aQuota)).1) (newSystem_size aS aQuota ⟨by omega, by omega⟩)) p0) ?_
 refine Qb ?_
 refine tn Qa [0, 1, 4, 6, 7, 10, 13, 14, 88] [6, 10] (pe 1 (av_df (p := (((GoD.markT (((Qc aS aQuota)).1) 1).2 : Nat) : Int) < (0 : Int)) (by omega)) p0) ?_
 refine ckF ?_
 refine Qg ?_
 refine Qb ?_
 refine tu Qa [(14, .i (((GoD.markT (((Qc aS aQuota)).1) 1).2 : Nat) : Int)), (91, .b false)] [14] [] [] (pe 2 (show .b ((((GoD.markT (((Qc aS aQuota)).1) 1).2 : Nat) : Int) != (((GoD.markT (((Qc aS aQuota)).1) 1).2 : Nat) : Int)) = .b false from Qk (by simp)) p0) ?_
 refine ckF ?_
 refine Qg ?_
 refine sn Qa [4, 6, 7, 10, 13, 14, 15, 16] [6, 10, 15] (pc 1 (toFieldS_a aS hsz_aS) (pc 3 (toIntS_a aQuota hsz_aQuota) (pc 4 (implNewSystem_a aS aQuota) p0))) ?_
 refine Qb ?_
 refine tn Qa [4, 10, 13, 14, 108] [10] (pc 2 (eqSystem_a (a := ((Qc aS aQuota)).1) (b := ((Qc aS aQuota)).1) (rfl)) (pe 3 (show .b (!true) = .b false from rfl) (pe 7 (show .b (!((((Qc aS aQuota)).2) == (((Qc aS aQuota)).2))) = .b false from Qk (by simp)) p0))) ?_
 refine ckF ?_
 refine Qg ?_
 refine tu Qa [(14, .i 1)] [0, 1, 6, 7, 14, 91] [] [6] (p0) ?_
 refine sn Qa [4, 13, 14] [] (pc 2 (heldSystem_a (((Qc aS aQuota)).1) (newSystem_size aS aQuota ⟨by omega, by omega⟩)) p0) ?_
 refine Qb ?_
 refine tn Qa [4, 13, 14, 113] [] (pe 1 (av_df (p := (((GoD.markT (((Qc aS aQuota)).1) 1).2 : Nat) : Int) < (0 : Int)) (by omega)) p0) ?_
 refine ckF ?_
 refine Qg ?_
 refine Qb ?_
 refine tu Qa [(116, .b false)] [10, 13, 14] [] [10] (pe 2 (show .b ((((GoD.markT (((Qc aS aQuota)).1) 1).2 : Nat) : Int) != (((GoD.markT (((Qc aS aQuota)).1) 1).2 : Nat) : Int)) = .b false from Qk (by simp)) p0) ?_
 refine ckF ?_
 refine Qg ?_
 refine sn Qa [4] [] (p0) ?_
 refine Qf ?_
 exact pb [] (Qm h1 (Qm h3 (rfl)))
open GoD (rd own)
set_option maxRecDepth 100000 in
set_option maxHeartbeats 1000000 in
theorem bigNewSystem (w : World) (v0 : Value) (a0 : (List X4)) (h0 : rd w [v0] a0) (v1 : Value) (a1 : (List Int)) (h1 : rd w [v1] a1) (hbig : ¬ (GoD.size a0 ≤ 1048576 ∧ a1.length ≤ 1048576)) : Calls Tryz.prog 3 #[v0, v1] w (Ret w (.bool true)) := by
  obtain ⟨p0_oa, p0_cp, rfl⟩ := Jq h0
  have hln0 := len_of_rd h0
  have HA0 := Lib.hid h0; clear h0
  obtain ⟨p1_oa, p1_cp, rfl⟩ := Jq h1
  have hln1 := len_of_rd h1
  have HA1 := Lib.hid h1; clear h1
  have tok1 : True := trivial
  go_enter Tryz.func3, Tryz.ntmps3
  go_wp2_with (first | (go_at_call 4; have tk := tok1; clear tok1; refine call_sz (w := w) (szFieldS_c _ (.slice p0_oa a0.length p0_cp) a0 _ (Z9 HA0.out (by repeat (first | (with_reducible exact Below.refl _ _) | (with_reducible refine Below.alloc ?_ (by go_size) _) | (with_reducible refine Below.drew ?_)))) (by omega) (by omega)) (by repeat (first | (with_reducible exact Below.refl _ _) | (with_reducible refine Below.alloc ?_ (by go_size) _) | (with_reducible refine Below.drew ?_))) ?_; intro w1 r1 hB1 hb hz1 _ hr hs1; have HR1 := Lib.hid hr; clear hr; have hz2 := hb.size; (repeat (first | rewrite [World.size_alloc] at hz2 | rewrite [World.size_setCell] at hz2 | rewrite [World.size_drew] at hz2)); have HB1 := Lib.hid hb; clear hb) | (exfalso; have q1 := HR1.out; apply hbig; unfold szq at *; omega))
  all_goals
    go_ret
    refine ⟨rfl, ?_⟩
    first | (with_reducible assumption) | go_grown
theorem lawsFnExactNewSystem_true (a0 : (List X4)) (a1 : (List Int)) : lawsFnExactNewSystem a0 a1 = true := by
  unfold lawsFnExactNewSystem
  simp
theorem lawNewSystem (w : World) (v0 : Value) (a0 : (List X4)) (h0 : rd w [v0] a0) (v1 : Value) (a1 : (List Int)) (h1 : rd w [v1] a1) (hG : Good Tryz.prog w) : Calls Tryz.prog 3 #[v0, v1] w (Ret w (.bool true)) := by
  by_cases hbig : GoD.size a0 ≤ 1048576 ∧ a1.length ≤ 1048576
  · haveI : Good Tryz.prog w := hG
    have h := (lawsFnExactNewSystem_a a0 a1).run (.cons (arg_sli h0 (GoE.wide_size (show GoD.size a0 ≤ 1073741824 by omega))) (.cons (arg_sli h1 (GoE.wide_size (show GoD.size a1 ≤ 1073741824 by rw [size_plain (fun _ => rfl)]; omega))) .nil))
    rw [lawsFnExactNewSystem_true] at h
    exact h.mono fun _ _ h => ret_bool h
  exact bigNewSystem w v0 a0 h0 v1 a1 h1 hbig
end Go.Proofs.YtoimjneljlpolaaGreatDoor
