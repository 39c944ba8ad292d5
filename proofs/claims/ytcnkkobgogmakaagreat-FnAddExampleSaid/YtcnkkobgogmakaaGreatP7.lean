/- Texts of this proof, put together by a program: Aeb, LAe, Ael, MAe. -/
import Derived.Test.YtcnkkobgogmakaaGreatP6
import Derived.KernelRfl
import Derived.Outline
set_option linter.unusedVariables false
set_option linter.unusedSimpArgs false
namespace Go.Proofs.YtcnkkobgogmakaaGreat
open Go.RowKit
open GoE (enc wide)
def Qh (d : (List X1)) (name : ByteArray) : X1 × Bool := (bif decide ((Xj d name) ≥ (0 : Int)) then ((implcopyDir (nth d (Int.toNat (Xj d name)))), true) else ((⟨#[]⟩, []), false))
theorem implFindDir_a (d : (List X1)) (name : ByteArray) : ACalls Tryz.prog 121 [.h d, .s name] (.tup [(true, [.s ((((Qh d name)).1).1), .o 0 ((((Qh d name)).1).2)]), (false, [.b (((Qh d name)).2)])]) := by
 refine en Qc Tryz.func121 fun w0 F0 hG => ?_
 refine sn Qc [0, 1, 4, 5] [4] (p0) ?_
 refine Qg ?_
 refine tn Qc [0, 4, 5, 6] [4] (pc 2 (impldirAt_a d name) p0) ?_
 refine tu Qc [(4, .p 4 0), (5, .b false), (6, .i (Xj d name)), (11, .b (decide ((Xj d name) ≥ (0 : Int))))] [1] [(4, [.s ⟨#[]⟩, .e 7])] [] (p0) ?_
 refine ck (decide ((Xj d name) ≥ (0 : Int))) (fun h1 => ?_) (fun h1 => ?_)
 ·
  have h1p := place_lt d name
  have h1d := of_decide_eq_true h1
  refine wT 0 0 .sh d (fun hw3 hl4 => ?_)
  have hx2 : d[(Int.toNat (Xj d name))]? = some (nth d (Int.toNat (Xj d name))) := Xv (by omega)
  refine sn Qc [4, 5] [4] (pg 2 (Xj d name) hx2 (pc 4 (implcopyDir_a (nth d (Int.toNat (Xj d name)))) p0)) ?_
  refine Qp ?_
  exact Ye [] (congrArg (fun z => (.tup [(true, [.s z.1.1, .o 0 z.1.2]), (false, [.b z.2])] : AV)) (show Qh d name = _ from Xm h1 (rfl)).symm)
 ·
  refine Qo ?_
  refine sn Qc [4, 5] [4] (p0) ?_
  refine opn [(true, 4, 1, true, 384000, 7)] ?_
  refine Qp ?_
  exact Ye [] (congrArg (fun z => (.tup [(true, [.s z.1.1, .o 0 z.1.2]), (false, [.b z.2])] : AV)) (show Qh d name = _ from Qz h1 (rfl)).symm)
def implCanWrite (f : Xt) (user : Int) : Bool := ((implisUser user) && (f.2.1 == user))
theorem implCanWrite_a (f : Xt) (user : Int) : ACalls Tryz.prog 123 [.a [.i f.1, .i f.2.1, .b f.2.2.1, .i f.2.2.2.1, .h f.2.2.2.2], .i user] (.b (implCanWrite f user)) := by
 refine en Qc Tryz.func123 fun w0 F0 hG => ?_
 refine sn Qc [1, 2, 4] [2] (p0) ?_
 refine Qg ?_
 refine mz [(2, .p 2 0), (4, .b false)] [0] [(2, [.i f.1, .i f.2.1, .b f.2.2.1, .i f.2.2.2.1, .h f.2.2.2.2])] [] ?_
 refine jn [(4, .b ((implisUser user) && (f.2.1 == user)))] [1, 2, 4] [] [2] (implisUser user) (fun h1 => ?_) (fun h1 => ?_) ?_
 ·
  refine rn Qc [4] [] (pc 1 (cb h1 (implisUser_a user)) p0) ?_
  exact ⟨rfl, Qf (by rw [h1]; first | done | kernel_rfl)⟩
 ·
  refine rn Qc [4] [] (pc 1 (cb h1 (implisUser_a user)) p0) ?_
  exact ⟨rfl, Qf (by rw [h1]; first | done | kernel_rfl)⟩
 refine Qp ?_
 exact Ye [] (congrArg (fun z => (.b z : AV)) (show implCanWrite f user = ((implisUser user) && (f.2.1 == user)) from rfl).symm)
def Zo (s_ : Yl) (d : (List X1)) (user : Int) (name : ByteArray) (id : Int) : Bool := (implContainsID (implListDir s_ d user name) id)
theorem implIsListed_a (s_ : Yl) (d : (List X1)) (user : Int) (name : ByteArray) (id : Int) : ACalls Tryz.prog 130 [.a [.h s_.1, .h s_.2.1, .i s_.2.2], .h d, .i user, .s name, .i id] (.b (Zo s_ d user name id)) := by
 refine en Qc Tryz.func130 fun w0 F0 hG => ?_
 refine sn Qc [1, 2, 3, 4, 5, 10] [5] (p0) ?_
 refine tn Qc [10] [] (pc 4 (implListDir_a s_ d user name) (pc 6 (implContainsID_a (implListDir s_ d user name) id) p0)) ?_
 refine Qp ?_
 exact Ye [] (congrArg (fun z => (.b z : AV)) (show Zo s_ d user name id = (implContainsID (implListDir s_ d user name) id) from rfl).symm)
def implwriteThrough_f0 (c : CatalogD) (user : Int) (name : ByteArray) (id : Int) (k0 : Nat) (_ : Zk) (_ : Unit) : Rd (CatalogD × (List Zk) × Bool) (Unit) (Unit) := (bif ((!(((Qi c (Qj (((Qa c.1 id)).1) (true, delAt ((Qm ((((Qh c.2.1 name)).1).2) (((Qa (Qd c.1 user) id)).1) (((Qb c.1 c.2.1 user)).1)).2) k0)))).2.2)) || ((Zo ((((Qi c (Qj (((Qa c.1 id)).1) (true, delAt ((Qm ((((Qh c.2.1 name)).1).2) (((Qa (Qd c.1 user) id)).1) (((Qb c.1 c.2.1 user)).1)).2) k0)))).1).1.1, (((Qi c (Qj (((Qa c.1 id)).1) (true, delAt ((Qm ((((Qh c.2.1 name)).1).2) (((Qa (Qd c.1 user) id)).1) (((Qb c.1 c.2.1 user)).1)).2) k0)))).1).1.2.1, (((Qi c (Qj (((Qa c.1 id)).1) (true, delAt ((Qm ((((Qh c.2.1 name)).1).2) (((Qa (Qd c.1 user) id)).1) (((Qb c.1 c.2.1 user)).1)).2) k0)))).1).1.2.2) ((((Qi c (Qj (((Qa c.1 id)).1) (true, delAt ((Qm ((((Qh c.2.1 name)).1).2) (((Qa (Qd c.1 user) id)).1) (((Qb c.1 c.2.1 user)).1)).2) k0)))).1).2.1) user name id) == true)) then (.ret ((Z1 c), [], false)) else (.next ()))
def implwriteThrough_e0 (_ : Nat) (_ : Unit) : Unit := ()
def implwriteThrough_f1 (c : CatalogD) (user : Int) (name : ByteArray) (id : Int) (k1 : Nat) (_ : Zk) (_ : Unit) : Rd (CatalogD × (List Zk) × Bool) (Unit) (Unit) := (bif ((!(((Qi c (Qj (((Qa c.1 id)).1) (true, delAt ((Qk ((((Qh c.2.1 name)).1).2) (((Qa (Qd c.1 user) id)).1) (((Qb c.1 c.2.1 user)).1)).2) k1)))).2.2)) || ((Zo ((((Qi c (Qj (((Qa c.1 id)).1) (true, delAt ((Qk ((((Qh c.2.1 name)).1).2) (((Qa (Qd c.1 user) id)).1) (((Qb c.1 c.2.1 user)).1)).2) k1)))).1).1.1, (((Qi c (Qj (((Qa c.1 id)).1) (true, delAt ((Qk ((((Qh c.2.1 name)).1).2) (((Qa (Qd c.1 user) id)).1) (((Qb c.1 c.2.1 user)).1)).2) k1)))).1).1.2.1, (((Qi c (Qj (((Qa c.1 id)).1) (true, delAt ((Qk ((((Qh c.2.1 name)).1).2) (((Qa (Qd c.1 user) id)).1) (((Qb c.1 c.2.1 user)).1)).2) k1)))).1).1.2.2) ((((Qi c (Qj (((Qa c.1 id)).1) (true, delAt ((Qk ((((Qh c.2.1 name)).1).2) (((Qa (Qd c.1 user) id)).1) (((Qb c.1 c.2.1 user)).1)).2) k1)))).1).2.1) user name id) == false)) then (.ret ((Z1 c), [], false)) else (.next ()))
def implwriteThrough_e1 (_ : Nat) (_ : Unit) : Unit := ()
def Yg (c : CatalogD) (user : Int) (name : ByteArray) (id : Int) (listed : Bool) : CatalogD × (List Zk) × Bool := (bif ((!(Ja c)) || ((!(((Qa c.1 id)).2)) || ((!(implCanWrite (((Qa c.1 id)).1) user)) || (!(((Qh c.2.1 name)).2))))) then ((Z1 c), [], false) else (bif listed then (bif ((!((Qm ((((Qh c.2.1 name)).1).2) (((Qa (Qd c.1 user) id)).1) (((Qb c.1 c.2.1 user)).1)).1)) || ((!(((Qi c (Qj (((Qa c.1 id)).1) (Qm ((((Qh c.2.1 name)).1).2) (((Qa (Qd c.1 user) id)).1) (((Qb c.1 c.2.1 user)).1))))).2.2)) || (!((Zo ((((Qi c (Qj (((Qa c.1 id)).1) (Qm ((((Qh c.2.1 name)).1).2) (((Qa (Qd c.1 user) id)).1) (((Qb c.1 c.2.1 user)).1))))).1).1.1, (((Qi c (Qj (((Qa c.1 id)).1) (Qm ((((Qh c.2.1 name)).1).2) (((Qa (Qd c.1 user) id)).1) (((Qb c.1 c.2.1 user)).1))))).1).1.2.1, (((Qi c (Qj (((Qa c.1 id)).1) (Qm ((((Qh c.2.1 name)).1).2) (((Qa (Qd c.1 user) id)).1) (((Qb c.1 c.2.1 user)).1))))).1).1.2.2) ((((Qi c (Qj (((Qa c.1 id)).1) (Qm ((((Qh c.2.1 name)).1).2) (((Qa (Qd c.1 user) id)).1) (((Qb c.1 c.2.1 user)).1))))).1).2.1) user name id) == true)))) then ((Z1 c), [], false) else (Out.on (Xg (implwriteThrough_f0 c user name id) implwriteThrough_e0 ((Qm ((((Qh c.2.1 name)).1).2) (((Qa (Qd c.1 user) id)).1) (((Qb c.1 c.2.1 user)).1)).2) 0 ()) (fun _ => ((((Qi c (Qj (((Qa c.1 id)).1) (Qm ((((Qh c.2.1 name)).1).2) (((Qa (Qd c.1 user) id)).1) (((Qb c.1 c.2.1 user)).1))))).1), (Qm ((((Qh c.2.1 name)).1).2) (((Qa (Qd c.1 user) id)).1) (((Qb c.1 c.2.1 user)).1)).2, true)))) else (bif ((!((Qk ((((Qh c.2.1 name)).1).2) (((Qa (Qd c.1 user) id)).1) (((Qb c.1 c.2.1 user)).1)).1)) || ((!(((Qi c (Qj (((Qa c.1 id)).1) (Qk ((((Qh c.2.1 name)).1).2) (((Qa (Qd c.1 user) id)).1) (((Qb c.1 c.2.1 user)).1))))).2.2)) || (!((Zo ((((Qi c (Qj (((Qa c.1 id)).1) (Qk ((((Qh c.2.1 name)).1).2) (((Qa (Qd c.1 user) id)).1) (((Qb c.1 c.2.1 user)).1))))).1).1.1, (((Qi c (Qj (((Qa c.1 id)).1) (Qk ((((Qh c.2.1 name)).1).2) (((Qa (Qd c.1 user) id)).1) (((Qb c.1 c.2.1 user)).1))))).1).1.2.1, (((Qi c (Qj (((Qa c.1 id)).1) (Qk ((((Qh c.2.1 name)).1).2) (((Qa (Qd c.1 user) id)).1) (((Qb c.1 c.2.1 user)).1))))).1).1.2.2) ((((Qi c (Qj (((Qa c.1 id)).1) (Qk ((((Qh c.2.1 name)).1).2) (((Qa (Qd c.1 user) id)).1) (((Qb c.1 c.2.1 user)).1))))).1).2.1) user name id) == false)))) then ((Z1 c), [], false) else (Out.on (Xg (implwriteThrough_f1 c user name id) implwriteThrough_e1 ((Qk ((((Qh c.2.1 name)).1).2) (((Qa (Qd c.1 user) id)).1) (((Qb c.1 c.2.1 user)).1)).2) 0 ()) (fun _ => ((((Qi c (Qj (((Qa c.1 id)).1) (Qk ((((Qh c.2.1 name)).1).2) (((Qa (Qd c.1 user) id)).1) (((Qb c.1 c.2.1 user)).1))))).1), (Qk ((((Qh c.2.1 name)).1).2) (((Qa (Qd c.1 user) id)).1) (((Qb c.1 c.2.1 user)).1)).2, true))))))
theorem implwriteThrough_a (c : CatalogD) (user : Int) (name : ByteArray) (id : Int) (listed : Bool) : ACalls Tryz.prog 83 [.a [.h c.1.1, .h c.1.2.1, .i c.1.2.2, .h c.2.1, .h c.2.2], .i user, .s name, .i id, .b listed] (.tup [(true, [.o 0 ((((Yg c user name id listed)).1).1.1), .o 1 ((((Yg c user name id listed)).1).1.2.1), .i ((((Yg c user name id listed)).1).1.2.2), .o 2 ((((Yg c user name id listed)).1).2.1), .o 3 ((((Yg c user name id listed)).1).2.2)]), (false, [.o 4 (((Yg c user name id listed)).2.1)]), (false, [.b (((Yg c user name id listed)).2.2)])]) := by
 refine en Qc Tryz.func83 fun w0 F0 hG => ?_
 refine sn Qc [1, 2, 3, 4, 5, 10, 11, 12] [5, 10] (p0) ?_
 refine tn Qc [1, 2, 3, 4, 5, 10, 11, 12, 13, 14] [5, 10, 13] (pc 3 (implFindFile_a c.1 id) p0) ?_
 refine tu Qc [(5, .p 5 0), (10, .p 10 0), (11, .e 0), (12, .b false), (13, .p 13 0), (14, .b (((Qa c.1 id)).2)), (15, .p 15 0), (16, .b (((Qh c.2.1 name)).2))] [0] [(5, [.h c.1.1, .h c.1.2.1, .i c.1.2.2, .h c.2.1, .h c.2.2]), (10, [.e 2, .e 5, .i 0, .e 2, .e 2]), (13, [.i ((((Qa c.1 id)).1).1), .i ((((Qa c.1 id)).1).2.1), .b ((((Qa c.1 id)).1).2.2.1), .i ((((Qa c.1 id)).1).2.2.2.1), .o 2176 ((((Qa c.1 id)).1).2.2.2.2)]), (15, [.s ((((Qh c.2.1 name)).1).1), .o 2624 ((((Qh c.2.1 name)).1).2)])] [] (pc 3 (implFindDir_a c.2.1 name) p0) ?_
 refine Qg ?_
 refine Qg ?_
 refine jn [(60, .b ((!(Ja c)) || ((!(((Qa c.1 id)).2)) || ((!(implCanWrite (((Qa c.1 id)).1) user)) || (!(((Qh c.2.1 name)).2))))))] [14, 16] [] [] (!(Ja c)) (fun h1 => ?_) (fun h1 => ?_) ?_
 ·
  have h1n : (Ja c) = false := bnot_t h1
  refine ru Qc [(60, .b true)] [14, 16] [] [] (pc 1 (cb h1n (implIsCurrent_a c)) (pe 2 (show .b (!false) = .b true from rfl) p0)) ?_
  exact ⟨rfl, Qf (by rw [h1]; first | done | kernel_rfl)⟩
 ·
  have h1n : (Ja c) = true := Jd h1
  have h1nc := current_ok h1n
  have hfa := find_attrs h1nc.2 id
  refine Xw (!(((Qa c.1 id)).2)) (fun h2 => ?_) (fun h2 => ?_)
  ·
   have h2n : (((Qa c.1 id)).2) = false := bnot_t h2
   refine ru Qc [(60, .b true)] [14, 16] [] [] (pc 1 (cb h1n (implIsCurrent_a c)) (pe 2 (show .b (!true) = .b false from rfl) (pf 4 h2n (pe 5 (show .b (!false) = .b true from rfl) p0)))) ?_
   exact ⟨rfl, Qf (by rw [h1, h2]; first | done | kernel_rfl)⟩
  ·
   have h2n : (((Qa c.1 id)).2) = true := Jd h2
   refine Xw (!(implCanWrite (((Qa c.1 id)).1) user)) (fun h3 => ?_) (fun h3 => ?_)
   ·
    have h3n : (implCanWrite (((Qa c.1 id)).1) user) = false := bnot_t h3
    refine ru Qc [(60, .b true)] [14, 16] [] [] (pc 1 (cb h1n (implIsCurrent_a c)) (pe 2 (show .b (!true) = .b false from rfl) (pt 4 h2n (pe 5 (show .b (!true) = .b false from rfl) (pc 10 (cb h3n (implCanWrite_a (((Qa c.1 id)).1) user)) (pe 11 (show .b (!false) = .b true from rfl) p0)))))) ?_
    exact ⟨rfl, Qf (by rw [h1, h2, h3]; first | done | kernel_rfl)⟩
   ·
    have h3n : (implCanWrite (((Qa c.1 id)).1) user) = true := Jd h3
    refine rn Qc [1, 2, 3, 4, 5, 10, 11, 12, 13, 15, 60] [5, 10, 13, 15] (pc 1 (cb h1n (implIsCurrent_a c)) (pe 2 (show .b (!true) = .b false from rfl) (pt 4 h2n (pe 5 (show .b (!true) = .b false from rfl) (pc 10 (cb h3n (implCanWrite_a (((Qa c.1 id)).1) user)) (pe 11 (show .b (!true) = .b false from rfl) p0)))))) ?_
    exact ⟨rfl, Qf (by rw [h1, h2, h3]; first | done | kernel_rfl)⟩
 refine ck ((!(Ja c)) || ((!(((Qa c.1 id)).2)) || ((!(implCanWrite (((Qa c.1 id)).1) user)) || (!(((Qh c.2.1 name)).2))))) (fun h4 => ?_) (fun h4 => ?_)
 ·
  refine sn Qc [1, 2, 3, 4, 5, 10, 11, 12, 13, 15] [5, 10, 13, 15] (pc 1 (implcopyCatalog_a c) p0) ?_
  refine opn [(false, 11, 0, true, 384000, 4)] ?_
  refine Qp ?_
  exact Ye [] (congrArg (fun z => (.tup [(true, [.o 0 z.1.1.1, .o 1 z.1.1.2.1, .i z.1.1.2.2, .o 2 z.1.2.1, .o 3 z.1.2.2]), (false, [.o 4 z.2.1]), (false, [.b z.2.2])] : AV)) (show Yg c user name id listed = _ from Xm h4 (rfl)).symm)
 ·
  have h4l : ((!(Ja c))) = false := or_l h4
  have h4ln : (Ja c) = true := Jd h4l
  have h4lnc := current_ok h4ln
  have hfa := find_attrs h4lnc.2 id
  refine Qo ?_
  refine sn Qc [1, 2, 3, 4, 5, 10, 11, 12, 13, 15, 17] [5, 10, 13, 15, 17] (pc 3 (implVisibleStore_a c.1 user) (pc 5 (implFindFile_a (Qd c.1 user) id) p0)) ?_
  refine tn Qc [1, 2, 3, 4, 5, 10, 11, 12, 13, 15, 17, 19] [5, 10, 13, 15, 17] (pc 5 (implEvaluateForUser_a c.1 c.2.1 user) p0) ?_
  refine tu Qc [(17, .p 17 0), (19, .o 4992 (((Qb c.1 c.2.1 user)).1)), (21, .p 21 0)] [60] [(17, [.i ((((Qa (Qd c.1 user) id)).1).1), .i ((((Qa (Qd c.1 user) id)).1).2.1), .b ((((Qa (Qd c.1 user) id)).1).2.2.1), .i ((((Qa (Qd c.1 user) id)).1).2.2.2.1), .o 4416 ((((Qa (Qd c.1 user) id)).1).2.2.2.2)]), (21, [.b ((Qk ((((Qh c.2.1 name)).1).2) (((Qa (Qd c.1 user) id)).1) (((Qb c.1 c.2.1 user)).1)).1), .o 5440 ((Qk ((((Qh c.2.1 name)).1).2) (((Qa (Qd c.1 user) id)).1) (((Qb c.1 c.2.1 user)).1)).2)])] [] (pc 4 (implEditToUnmatch_a ((((Qh c.2.1 name)).1).2) (((Qa (Qd c.1 user) id)).1) (((Qb c.1 c.2.1 user)).1)) p0) ?_
  refine Qg ?_
  refine su Qc [(86, .b listed)] [] [] [] (p0) ?_
  refine ck listed (fun h5 => ?_) (fun h5 => ?_)
  ·
   refine rn Qc [1, 2, 3, 4, 5, 10, 11, 12, 13, 21] [5, 10, 13, 21] (pc 4 (implEditToMatch_a ((((Qh c.2.1 name)).1).2) (((Qa (Qd c.1 user) id)).1) (((Qb c.1 c.2.1 user)).1)) p0) ?_
   refine tN Qc Z4 [1, 2, 3, 4, 5, 10, 11, 12, 13, 21, 22, 24] [5, 10, 13, 21, 22] (pc 3 (implApplyEdit_a (((Qa c.1 id)).1) (Qm ((((Qh c.2.1 name)).1).2) (((Qa (Qd c.1 user) id)).1) (((Qb c.1 c.2.1 user)).1)) (applyHp hfa editM_len)) (pc 4 (implUpdateFile_a c (Qj (((Qa c.1 id)).1) (Qm ((((Qh c.2.1 name)).1).2) (((Qa (Qd c.1 user) id)).1) (((Qb c.1 c.2.1 user)).1)))) p0)) ?_
   refine Qg ?_
   refine Qg ?_
   refine mz [(22, .p 22 0), (24, .b (((Qi c (Qj (((Qa c.1 id)).1) (Qm ((((Qh c.2.1 name)).1).2) (((Qa (Qd c.1 user) id)).1) (((Qb c.1 c.2.1 user)).1))))).2.2))] [15, 17, 19, 86] [(21, [.b ((Qm ((((Qh c.2.1 name)).1).2) (((Qa (Qd c.1 user) id)).1) (((Qb c.1 c.2.1 user)).1)).1), .o 5824 ((Qm ((((Qh c.2.1 name)).1).2) (((Qa (Qd c.1 user) id)).1) (((Qb c.1 c.2.1 user)).1)).2)]), (22, [.o 6208 ((((Qi c (Qj (((Qa c.1 id)).1) (Qm ((((Qh c.2.1 name)).1).2) (((Qa (Qd c.1 user) id)).1) (((Qb c.1 c.2.1 user)).1))))).1).1.1), .o 6209 ((((Qi c (Qj (((Qa c.1 id)).1) (Qm ((((Qh c.2.1 name)).1).2) (((Qa (Qd c.1 user) id)).1) (((Qb c.1 c.2.1 user)).1))))).1).1.2.1), .i ((((Qi c (Qj (((Qa c.1 id)).1) (Qm ((((Qh c.2.1 name)).1).2) (((Qa (Qd c.1 user) id)).1) (((Qb c.1 c.2.1 user)).1))))).1).1.2.2), .o 6210 ((((Qi c (Qj (((Qa c.1 id)).1) (Qm ((((Qh c.2.1 name)).1).2) (((Qa (Qd c.1 user) id)).1) (((Qb c.1 c.2.1 user)).1))))).1).2.1), .o 6211 ((((Qi c (Qj (((Qa c.1 id)).1) (Qm ((((Qh c.2.1 name)).1).2) (((Qa (Qd c.1 user) id)).1) (((Qb c.1 c.2.1 user)).1))))).1).2.2)])] [15, 17, 21] ?_
   refine jn [(119, .b ((!((Qm ((((Qh c.2.1 name)).1).2) (((Qa (Qd c.1 user) id)).1) (((Qb c.1 c.2.1 user)).1)).1)) || ((!(((Qi c (Qj (((Qa c.1 id)).1) (Qm ((((Qh c.2.1 name)).1).2) (((Qa (Qd c.1 user) id)).1) (((Qb c.1 c.2.1 user)).1))))).2.2)) || (!((Zo ((((Qi c (Qj (((Qa c.1 id)).1) (Qm ((((Qh c.2.1 name)).1).2) (((Qa (Qd c.1 user) id)).1) (((Qb c.1 c.2.1 user)).1))))).1).1.1, (((Qi c (Qj (((Qa c.1 id)).1) (Qm ((((Qh c.2.1 name)).1).2) (((Qa (Qd c.1 user) id)).1) (((Qb c.1 c.2.1 user)).1))))).1).1.2.1, (((Qi c (Qj (((Qa c.1 id)).1) (Qm ((((Qh c.2.1 name)).1).2) (((Qa (Qd c.1 user) id)).1) (((Qb c.1 c.2.1 user)).1))))).1).1.2.2) ((((Qi c (Qj (((Qa c.1 id)).1) (Qm ((((Qh c.2.1 name)).1).2) (((Qa (Qd c.1 user) id)).1) (((Qb c.1 c.2.1 user)).1))))).1).2.1) user name id) == true)))))] [24] [] [] (!((Qm ((((Qh c.2.1 name)).1).2) (((Qa (Qd c.1 user) id)).1) (((Qb c.1 c.2.1 user)).1)).1)) (fun h6 => ?_) (fun h6 => ?_) ?_
   ·
    have h6n : ((Qm ((((Qh c.2.1 name)).1).2) (((Qa (Qd c.1 user) id)).1) (((Qb c.1 c.2.1 user)).1)).1) = false := bnot_t h6
    refine ru Qc [(119, .b true)] [24] [] [] (pf 1 h6n (pe 2 (show .b (!false) = .b true from rfl) p0)) ?_
    exact ⟨rfl, Qf (by rw [h6]; first | done | kernel_rfl)⟩
   ·
    have h6n : ((Qm ((((Qh c.2.1 name)).1).2) (((Qa (Qd c.1 user) id)).1) (((Qb c.1 c.2.1 user)).1)).1) = true := Jd h6
    refine Xw (!(((Qi c (Qj (((Qa c.1 id)).1) (Qm ((((Qh c.2.1 name)).1).2) (((Qa (Qd c.1 user) id)).1) (((Qb c.1 c.2.1 user)).1))))).2.2)) (fun h7 => ?_) (fun h7 => ?_)
    ·
     have h7n : (((Qi c (Qj (((Qa c.1 id)).1) (Qm ((((Qh c.2.1 name)).1).2) (((Qa (Qd c.1 user) id)).1) (((Qb c.1 c.2.1 user)).1))))).2.2) = false := bnot_t h7
     refine ru Qc [(119, .b true)] [24] [] [] (pt 1 h6n (pe 2 (show .b (!true) = .b false from rfl) (pf 4 h7n (pe 5 (show .b (!false) = .b true from rfl) p0)))) ?_
     exact ⟨rfl, Qf (by rw [h6, h7]; first | done | kernel_rfl)⟩
    ·
     have h7n : (((Qi c (Qj (((Qa c.1 id)).1) (Qm ((((Qh c.2.1 name)).1).2) (((Qa (Qd c.1 user) id)).1) (((Qb c.1 c.2.1 user)).1))))).2.2) = true := Jd h7
     refine rn Qc [1, 2, 3, 4, 5, 10, 11, 12, 13, 21, 22, 119] [5, 10, 13, 21, 22] (pt 1 h6n (pe 2 (show .b (!true) = .b false from rfl) (pt 4 h7n (pe 5 (show .b (!true) = .b false from rfl) (pc 15 (implIsListed_a ((((Qi c (Qj (((Qa c.1 id)).1) (Qm ((((Qh c.2.1 name)).1).2) (((Qa (Qd c.1 user) id)).1) (((Qb c.1 c.2.1 user)).1))))).1).1.1, (((Qi c (Qj (((Qa c.1 id)).1) (Qm ((((Qh c.2.1 name)).1).2) (((Qa (Qd c.1 user) id)).1) (((Qb c.1 c.2.1 user)).1))))).1).1.2.1, (((Qi c (Qj (((Qa c.1 id)).1) (Qm ((((Qh c.2.1 name)).1).2) (((Qa (Qd c.1 user) id)).1) (((Qb c.1 c.2.1 user)).1))))).1).1.2.2) ((((Qi c (Qj (((Qa c.1 id)).1) (Qm ((((Qh c.2.1 name)).1).2) (((Qa (Qd c.1 user) id)).1) (((Qb c.1 c.2.1 user)).1))))).1).2.1) user name id) (pt 16 h5 p0)))))) ?_
     exact ⟨rfl, Qf (by rw [h6, h7]; first | done | kernel_rfl)⟩
   refine ck ((!((Qm ((((Qh c.2.1 name)).1).2) (((Qa (Qd c.1 user) id)).1) (((Qb c.1 c.2.1 user)).1)).1)) || ((!(((Qi c (Qj (((Qa c.1 id)).1) (Qm ((((Qh c.2.1 name)).1).2) (((Qa (Qd c.1 user) id)).1) (((Qb c.1 c.2.1 user)).1))))).2.2)) || (!((Zo ((((Qi c (Qj (((Qa c.1 id)).1) (Qm ((((Qh c.2.1 name)).1).2) (((Qa (Qd c.1 user) id)).1) (((Qb c.1 c.2.1 user)).1))))).1).1.1, (((Qi c (Qj (((Qa c.1 id)).1) (Qm ((((Qh c.2.1 name)).1).2) (((Qa (Qd c.1 user) id)).1) (((Qb c.1 c.2.1 user)).1))))).1).1.2.1, (((Qi c (Qj (((Qa c.1 id)).1) (Qm ((((Qh c.2.1 name)).1).2) (((Qa (Qd c.1 user) id)).1) (((Qb c.1 c.2.1 user)).1))))).1).1.2.2) ((((Qi c (Qj (((Qa c.1 id)).1) (Qm ((((Qh c.2.1 name)).1).2) (((Qa (Qd c.1 user) id)).1) (((Qb c.1 c.2.1 user)).1))))).1).2.1) user name id) == true)))) (fun h8 => ?_) (fun h8 => ?_)
   ·
    refine sn Qc [1, 2, 3, 4, 5, 10, 11, 12, 13, 21, 22] [5, 10, 13, 21, 22] (pc 1 (implcopyCatalog_a c) p0) ?_
    refine opn [(false, 11, 0, true, 384000, 4)] ?_
    refine Qp ?_
    exact Ye [] (congrArg (fun z => (.tup [(true, [.o 0 z.1.1.1, .o 1 z.1.1.2.1, .i z.1.1.2.2, .o 2 z.1.2.1, .o 3 z.1.2.2]), (false, [.o 4 z.2.1]), (false, [.b z.2.2])] : AV)) (show Yg c user name id listed = _ from Qz h4 (Xm h5 (Xm h8 (rfl)))).symm)
   ·
    have h8r : (((!(((Qi c (Qj (((Qa c.1 id)).1) (Qm ((((Qh c.2.1 name)).1).2) (((Qa (Qd c.1 user) id)).1) (((Qb c.1 c.2.1 user)).1))))).2.2)) || (!((Zo ((((Qi c (Qj (((Qa c.1 id)).1) (Qm ((((Qh c.2.1 name)).1).2) (((Qa (Qd c.1 user) id)).1) (((Qb c.1 c.2.1 user)).1))))).1).1.1, (((Qi c (Qj (((Qa c.1 id)).1) (Qm ((((Qh c.2.1 name)).1).2) (((Qa (Qd c.1 user) id)).1) (((Qb c.1 c.2.1 user)).1))))).1).1.2.1, (((Qi c (Qj (((Qa c.1 id)).1) (Qm ((((Qh c.2.1 name)).1).2) (((Qa (Qd c.1 user) id)).1) (((Qb c.1 c.2.1 user)).1))))).1).1.2.2) ((((Qi c (Qj (((Qa c.1 id)).1) (Qm ((((Qh c.2.1 name)).1).2) (((Qa (Qd c.1 user) id)).1) (((Qb c.1 c.2.1 user)).1))))).1).2.1) user name id) == true)))) = false := or_r h8
    have h8rr : ((!((Zo ((((Qi c (Qj (((Qa c.1 id)).1) (Qm ((((Qh c.2.1 name)).1).2) (((Qa (Qd c.1 user) id)).1) (((Qb c.1 c.2.1 user)).1))))).1).1.1, (((Qi c (Qj (((Qa c.1 id)).1) (Qm ((((Qh c.2.1 name)).1).2) (((Qa (Qd c.1 user) id)).1) (((Qb c.1 c.2.1 user)).1))))).1).1.2.1, (((Qi c (Qj (((Qa c.1 id)).1) (Qm ((((Qh c.2.1 name)).1).2) (((Qa (Qd c.1 user) id)).1) (((Qb c.1 c.2.1 user)).1))))).1).1.2.2) ((((Qi c (Qj (((Qa c.1 id)).1) (Qm ((((Qh c.2.1 name)).1).2) (((Qa (Qd c.1 user) id)).1) (((Qb c.1 c.2.1 user)).1))))).1).2.1) user name id) == true))) = false := or_r h8r
    have h8rrn : ((Zo ((((Qi c (Qj (((Qa c.1 id)).1) (Qm ((((Qh c.2.1 name)).1).2) (((Qa (Qd c.1 user) id)).1) (((Qb c.1 c.2.1 user)).1))))).1).1.1, (((Qi c (Qj (((Qa c.1 id)).1) (Qm ((((Qh c.2.1 name)).1).2) (((Qa (Qd c.1 user) id)).1) (((Qb c.1 c.2.1 user)).1))))).1).1.2.1, (((Qi c (Qj (((Qa c.1 id)).1) (Qm ((((Qh c.2.1 name)).1).2) (((Qa (Qd c.1 user) id)).1) (((Qb c.1 c.2.1 user)).1))))).1).1.2.2) ((((Qi c (Qj (((Qa c.1 id)).1) (Qm ((((Qh c.2.1 name)).1).2) (((Qa (Qd c.1 user) id)).1) (((Qb c.1 c.2.1 user)).1))))).1).2.1) user name id) == true) = true := Jd h8rr
    have h8rrnd := eq_of_beq h8rrn
    refine Qo ?_
    refine Qg ?_
    refine sn Qc [1, 2, 3, 4, 5, 10, 11, 12, 13, 21, 22, 124, 125] [5, 10, 13, 21, 22] (pl 2 ((Qm ((((Qh c.2.1 name)).1).2) (((Qa (Qd c.1 user) id)).1) (((Qb c.1 c.2.1 user)).1)).2) p0) ?_
    refine mz [(124, .i (((Qm ((((Qh c.2.1 name)).1).2) (((Qa (Qd c.1 user) id)).1) (((Qb c.1 c.2.1 user)).1)).2).length : Int)), (125, .i 0)] [119] [] [] ?_
    refine wB 21 1 (.own true 5824) ((Qm ((((Qh c.2.1 name)).1).2) (((Qa (Qd c.1 user) id)).1) (((Qb c.1 c.2.1 user)).1)).2) (fun hw9 hl10 => ?_)
    refine blk (fun (k0 : Nat) (s0 : Unit) => [(125, .i ((k0 : Nat) : Int))]) [125] (fun k0 s0 => []) [] (fun (y0 : Unit) => []) [1, 2, 3, 4, 5, 13, 124, 125] (fun y0 => []) [5, 13] (fun (k0 : Nat) (s0 : Unit) => (Xg (implwriteThrough_f0 c user name id) implwriteThrough_e0 ((Qm ((((Qh c.2.1 name)).1).2) (((Qa (Qd c.1 user) id)).1) (((Qb c.1 c.2.1 user)).1)).2) 0 ()) = Xg (implwriteThrough_f0 c user name id) implwriteThrough_e0 (List.drop k0 ((Qm ((((Qh c.2.1 name)).1).2) (((Qa (Qd c.1 user) id)).1) (((Qb c.1 c.2.1 user)).1)).2)) k0 s0) (fun (y0 : Unit) => (Xg (implwriteThrough_f0 c user name id) implwriteThrough_e0 ((Qm ((((Qh c.2.1 name)).1).2) (((Qa (Qd c.1 user) id)).1) (((Qb c.1 c.2.1 user)).1)).2) 0 ()) = .brk y0) (((Qm ((((Qh c.2.1 name)).1).2) (((Qa (Qd c.1 user) id)).1) (((Qb c.1 c.2.1 user)).1)).2).length) () (Qf (by kernel_rfl)) rfl (fun k0 s0 hk0 hI0 => ?_) (fun k0 s0 hk0 hI0 => ?_) (fun y0 hD0 => ?_)
    ·
     obtain ⟨a0, hx0⟩ := Xq (l := (Qm ((((Qh c.2.1 name)).1).2) (((Qa (Qd c.1 user) id)).1) (((Qb c.1 c.2.1 user)).1)).2) (i := k0) hk0
     refine su Qc [(126, .b true)] [] [] [] (pe 0 (Q0 (decide_eq_true (p := ((k0 : Nat) : Int) < (((Qm ((((Qh c.2.1 name)).1).2) (((Qa (Qd c.1 user) id)).1) (((Qb c.1 c.2.1 user)).1)).2).length : Int)) (by omega))) p0) ?_
     refine Qg ?_
     refine ckT ?_
     refine Qo ?_
     refine Qg ?_
     refine Q6 ?_
     refine su Qc [(25, .i ((k0 : Nat) : Int))] [126] [] [] (p0) ?_
     have hq11 : List.length ((Qm ((((Qh c.2.1 name)).1).2) (((Qa (Qd c.1 user) id)).1) (((Qb c.1 c.2.1 user)).1)).2) ≤ 512 := editM_len
     refine sn Qc [1, 2, 3, 4, 5, 10, 11, 12, 13, 21, 22, 26, 124, 125] [5, 10, 13, 21, 22, 26] (pc 2 (cloneAttr_a ((Qm ((((Qh c.2.1 name)).1).2) (((Qa (Qd c.1 user) id)).1) (((Qb c.1 c.2.1 user)).1)).2)) (pe 5 (av_i (Qy k0 (by omega))) (po 6 (.take true false (eL (delAt ((Qm ((((Qh c.2.1 name)).1).2) (((Qa (Qd c.1 user) id)).1) (((Qb c.1 c.2.1 user)).1)).2) k0))) (px (ob_take (delAttr_a ((Qm ((((Qh c.2.1 name)).1).2) (((Qa (Qd c.1 user) id)).1) (((Qb c.1 c.2.1 user)).1)).2) (i := ((k0 : Nat) : Int)) (k := ((k0 + 1 : Nat) : Int)) (by omega) (by first | omega | exact IntWalk.i64_in _ (by omega)) (by omega) (by omega))) (px (ob_flat (flat_eL ((Qm ((((Qh c.2.1 name)).1).2) (((Qa (Qd c.1 user) id)).1) (((Qb c.1 c.2.1 user)).1)).2))) (px (ob_flat (flat_eL (delAt ((Qm ((((Qh c.2.1 name)).1).2) (((Qa (Qd c.1 user) id)).1) (((Qb c.1 c.2.1 user)).1)).2) k0))) p0)))))) ?_
     refine tN Qc Z4 [1, 2, 3, 4, 5, 10, 11, 12, 13, 21, 22, 27, 29, 124, 125] [5, 10, 13, 21, 22, 27] (pc 3 (implApplyEdit_a (((Qa c.1 id)).1) (true, delAt ((Qm ((((Qh c.2.1 name)).1).2) (((Qa (Qd c.1 user) id)).1) (((Qb c.1 c.2.1 user)).1)).2) k0) (applyHp hfa (Nat.le_trans (delAt_le _ _) editM_len))) (pc 4 (implUpdateFile_a c (Qj (((Qa c.1 id)).1) (true, delAt ((Qm ((((Qh c.2.1 name)).1).2) (((Qa (Qd c.1 user) id)).1) (((Qb c.1 c.2.1 user)).1)).2) k0))) p0)) ?_
     refine Qg ?_
     refine mz [(27, .p 27 0), (29, .b (((Qi c (Qj (((Qa c.1 id)).1) (true, delAt ((Qm ((((Qh c.2.1 name)).1).2) (((Qa (Qd c.1 user) id)).1) (((Qb c.1 c.2.1 user)).1)).2) k0)))).2.2))] [25] [(27, [.o 9024 ((((Qi c (Qj (((Qa c.1 id)).1) (true, delAt ((Qm ((((Qh c.2.1 name)).1).2) (((Qa (Qd c.1 user) id)).1) (((Qb c.1 c.2.1 user)).1)).2) k0)))).1).1.1), .o 9025 ((((Qi c (Qj (((Qa c.1 id)).1) (true, delAt ((Qm ((((Qh c.2.1 name)).1).2) (((Qa (Qd c.1 user) id)).1) (((Qb c.1 c.2.1 user)).1)).2) k0)))).1).1.2.1), .i ((((Qi c (Qj (((Qa c.1 id)).1) (true, delAt ((Qm ((((Qh c.2.1 name)).1).2) (((Qa (Qd c.1 user) id)).1) (((Qb c.1 c.2.1 user)).1)).2) k0)))).1).1.2.2), .o 9026 ((((Qi c (Qj (((Qa c.1 id)).1) (true, delAt ((Qm ((((Qh c.2.1 name)).1).2) (((Qa (Qd c.1 user) id)).1) (((Qb c.1 c.2.1 user)).1)).2) k0)))).1).2.1), .o 9027 ((((Qi c (Qj (((Qa c.1 id)).1) (true, delAt ((Qm ((((Qh c.2.1 name)).1).2) (((Qa (Qd c.1 user) id)).1) (((Qb c.1 c.2.1 user)).1)).2) k0)))).1).2.2)])] [] ?_
     refine jn [(158, .b ((!(((Qi c (Qj (((Qa c.1 id)).1) (true, delAt ((Qm ((((Qh c.2.1 name)).1).2) (((Qa (Qd c.1 user) id)).1) (((Qb c.1 c.2.1 user)).1)).2) k0)))).2.2)) || ((Zo ((((Qi c (Qj (((Qa c.1 id)).1) (true, delAt ((Qm ((((Qh c.2.1 name)).1).2) (((Qa (Qd c.1 user) id)).1) (((Qb c.1 c.2.1 user)).1)).2) k0)))).1).1.1, (((Qi c (Qj (((Qa c.1 id)).1) (true, delAt ((Qm ((((Qh c.2.1 name)).1).2) (((Qa (Qd c.1 user) id)).1) (((Qb c.1 c.2.1 user)).1)).2) k0)))).1).1.2.1, (((Qi c (Qj (((Qa c.1 id)).1) (true, delAt ((Qm ((((Qh c.2.1 name)).1).2) (((Qa (Qd c.1 user) id)).1) (((Qb c.1 c.2.1 user)).1)).2) k0)))).1).1.2.2) ((((Qi c (Qj (((Qa c.1 id)).1) (true, delAt ((Qm ((((Qh c.2.1 name)).1).2) (((Qa (Qd c.1 user) id)).1) (((Qb c.1 c.2.1 user)).1)).2) k0)))).1).2.1) user name id) == true)))] [27, 29] [] [27] (!(((Qi c (Qj (((Qa c.1 id)).1) (true, delAt ((Qm ((((Qh c.2.1 name)).1).2) (((Qa (Qd c.1 user) id)).1) (((Qb c.1 c.2.1 user)).1)).2) k0)))).2.2)) (fun h12 => ?_) (fun h12 => ?_) ?_
     ·
      have h12n : (((Qi c (Qj (((Qa c.1 id)).1) (true, delAt ((Qm ((((Qh c.2.1 name)).1).2) (((Qa (Qd c.1 user) id)).1) (((Qb c.1 c.2.1 user)).1)).2) k0)))).2.2) = false := bnot_t h12
      refine ru Qc [(158, .b true)] [27, 29] [] [27] (pf 0 h12n (pe 1 (show .b (!false) = .b true from rfl) p0)) ?_
      exact ⟨rfl, Qf (by rw [h12]; first | done | kernel_rfl)⟩
     ·
      have h12n : (((Qi c (Qj (((Qa c.1 id)).1) (true, delAt ((Qm ((((Qh c.2.1 name)).1).2) (((Qa (Qd c.1 user) id)).1) (((Qb c.1 c.2.1 user)).1)).2) k0)))).2.2) = true := Jd h12
      refine rn Qc [1, 2, 3, 4, 5, 10, 11, 12, 13, 21, 22, 124, 125, 158] [5, 10, 13, 21, 22] (pt 0 h12n (pe 1 (show .b (!true) = .b false from rfl) (pc 10 (implIsListed_a ((((Qi c (Qj (((Qa c.1 id)).1) (true, delAt ((Qm ((((Qh c.2.1 name)).1).2) (((Qa (Qd c.1 user) id)).1) (((Qb c.1 c.2.1 user)).1)).2) k0)))).1).1.1, (((Qi c (Qj (((Qa c.1 id)).1) (true, delAt ((Qm ((((Qh c.2.1 name)).1).2) (((Qa (Qd c.1 user) id)).1) (((Qb c.1 c.2.1 user)).1)).2) k0)))).1).1.2.1, (((Qi c (Qj (((Qa c.1 id)).1) (true, delAt ((Qm ((((Qh c.2.1 name)).1).2) (((Qa (Qd c.1 user) id)).1) (((Qb c.1 c.2.1 user)).1)).2) k0)))).1).1.2.2) ((((Qi c (Qj (((Qa c.1 id)).1) (true, delAt ((Qm ((((Qh c.2.1 name)).1).2) (((Qa (Qd c.1 user) id)).1) (((Qb c.1 c.2.1 user)).1)).2) k0)))).1).2.1) user name id) (pt 11 h5 p0)))) ?_
      exact ⟨rfl, Qf (by rw [h12]; first | done | kernel_rfl)⟩
     refine ck ((!(((Qi c (Qj (((Qa c.1 id)).1) (true, delAt ((Qm ((((Qh c.2.1 name)).1).2) (((Qa (Qd c.1 user) id)).1) (((Qb c.1 c.2.1 user)).1)).2) k0)))).2.2)) || ((Zo ((((Qi c (Qj (((Qa c.1 id)).1) (true, delAt ((Qm ((((Qh c.2.1 name)).1).2) (((Qa (Qd c.1 user) id)).1) (((Qb c.1 c.2.1 user)).1)).2) k0)))).1).1.1, (((Qi c (Qj (((Qa c.1 id)).1) (true, delAt ((Qm ((((Qh c.2.1 name)).1).2) (((Qa (Qd c.1 user) id)).1) (((Qb c.1 c.2.1 user)).1)).2) k0)))).1).1.2.1, (((Qi c (Qj (((Qa c.1 id)).1) (true, delAt ((Qm ((((Qh c.2.1 name)).1).2) (((Qa (Qd c.1 user) id)).1) (((Qb c.1 c.2.1 user)).1)).2) k0)))).1).1.2.2) ((((Qi c (Qj (((Qa c.1 id)).1) (true, delAt ((Qm ((((Qh c.2.1 name)).1).2) (((Qa (Qd c.1 user) id)).1) (((Qb c.1 c.2.1 user)).1)).2) k0)))).1).2.1) user name id) == true)) (fun h13 => ?_) (fun h13 => ?_)
     ·
      refine sn Qc [1, 2, 3, 4, 5, 10, 11, 12, 13, 21, 22, 124, 125] [5, 10, 13, 21, 22] (pc 1 (implcopyCatalog_a c) p0) ?_
      refine opn [(false, 11, 0, true, 384000, 4)] ?_
      refine Qp ?_
      have hr14 : (Xg (implwriteThrough_f0 c user name id) implwriteThrough_e0 ((Qm ((((Qh c.2.1 name)).1).2) (((Qa (Qd c.1 user) id)).1) (((Qb c.1 c.2.1 user)).1)).2) 0 ()) = .ret ((Z1 c), [], false) := Zw hx0 (Xm h13 (rfl)) hI0
      exact Ye [] (congrArg (fun z => (.tup [(true, [.o 0 z.1.1.1, .o 1 z.1.1.2.1, .i z.1.1.2.2, .o 2 z.1.2.1, .o 3 z.1.2.2]), (false, [.o 4 z.2.1]), (false, [.b z.2.2])] : AV)) (show Yg c user name id listed = _ from Qz h4 (Xm h5 (Qz h8 (on_r hr14)))).symm)
     ·
      have h13r : (((Zo ((((Qi c (Qj (((Qa c.1 id)).1) (true, delAt ((Qm ((((Qh c.2.1 name)).1).2) (((Qa (Qd c.1 user) id)).1) (((Qb c.1 c.2.1 user)).1)).2) k0)))).1).1.1, (((Qi c (Qj (((Qa c.1 id)).1) (true, delAt ((Qm ((((Qh c.2.1 name)).1).2) (((Qa (Qd c.1 user) id)).1) (((Qb c.1 c.2.1 user)).1)).2) k0)))).1).1.2.1, (((Qi c (Qj (((Qa c.1 id)).1) (true, delAt ((Qm ((((Qh c.2.1 name)).1).2) (((Qa (Qd c.1 user) id)).1) (((Qb c.1 c.2.1 user)).1)).2) k0)))).1).1.2.2) ((((Qi c (Qj (((Qa c.1 id)).1) (true, delAt ((Qm ((((Qh c.2.1 name)).1).2) (((Qa (Qd c.1 user) id)).1) (((Qb c.1 c.2.1 user)).1)).2) k0)))).1).2.1) user name id) == true)) = false := or_r h13
      have h13rd := Zd h13r
      refine Qo ?_
      refine ru Qc [(125, .i ((k0 + 1 : Nat) : Int))] [125, 158] [] [] (pe 0 (av_i (Qy k0 (by omega))) p0) ?_
      exact Exists.intro _ (And.intro (Qf (by kernel_rfl)) (Q4 hx0 (Qz h13 (rfl)) hI0))
    ·
     refine su Qc [(126, .b false)] [] [] [] (pe 0 (Q0 (decide_eq_false (p := ((k0 : Nat) : Int) < (((Qm ((((Qh c.2.1 name)).1).2) (((Qa (Qd c.1 user) id)).1) (((Qb c.1 c.2.1 user)).1)).2).length : Int)) (by omega))) p0) ?_
     refine Qg ?_
     refine ckF ?_
     refine Xc ?_
     exact Exists.intro _ (And.intro (Qf (by kernel_rfl)) (Xr hk0 (rfl) hI0))
    ·
     refine sN Qc Z4 [10, 11, 12] [10] (p0) ?_
     refine Qp ?_
     exact Ye [] (congrArg (fun z => (.tup [(true, [.o 0 z.1.1.1, .o 1 z.1.1.2.1, .i z.1.1.2.2, .o 2 z.1.2.1, .o 3 z.1.2.2]), (false, [.o 4 z.2.1]), (false, [.b z.2.2])] : AV)) (show Yg c user name id listed = _ from Qz h4 (Xm h5 (Qz h8 (on_b hD0 (rfl))))).symm)
  ·
   refine Qo ?_
   refine sN Qc Z4 [1, 2, 3, 4, 5, 10, 11, 12, 13, 21, 22, 24] [5, 10, 13, 21, 22] (pc 3 (implApplyEdit_a (((Qa c.1 id)).1) (Qk ((((Qh c.2.1 name)).1).2) (((Qa (Qd c.1 user) id)).1) (((Qb c.1 c.2.1 user)).1)) (applyHp hfa editU_len)) (pc 4 (implUpdateFile_a c (Qj (((Qa c.1 id)).1) (Qk ((((Qh c.2.1 name)).1).2) (((Qa (Qd c.1 user) id)).1) (((Qb c.1 c.2.1 user)).1)))) p0)) ?_
   refine Qg ?_
   refine Qg ?_
   refine mz [(22, .p 22 0), (24, .b (((Qi c (Qj (((Qa c.1 id)).1) (Qk ((((Qh c.2.1 name)).1).2) (((Qa (Qd c.1 user) id)).1) (((Qb c.1 c.2.1 user)).1))))).2.2))] [15, 17, 19, 86] [(22, [.o 6208 ((((Qi c (Qj (((Qa c.1 id)).1) (Qk ((((Qh c.2.1 name)).1).2) (((Qa (Qd c.1 user) id)).1) (((Qb c.1 c.2.1 user)).1))))).1).1.1), .o 6209 ((((Qi c (Qj (((Qa c.1 id)).1) (Qk ((((Qh c.2.1 name)).1).2) (((Qa (Qd c.1 user) id)).1) (((Qb c.1 c.2.1 user)).1))))).1).1.2.1), .i ((((Qi c (Qj (((Qa c.1 id)).1) (Qk ((((Qh c.2.1 name)).1).2) (((Qa (Qd c.1 user) id)).1) (((Qb c.1 c.2.1 user)).1))))).1).1.2.2), .o 6210 ((((Qi c (Qj (((Qa c.1 id)).1) (Qk ((((Qh c.2.1 name)).1).2) (((Qa (Qd c.1 user) id)).1) (((Qb c.1 c.2.1 user)).1))))).1).2.1), .o 6211 ((((Qi c (Qj (((Qa c.1 id)).1) (Qk ((((Qh c.2.1 name)).1).2) (((Qa (Qd c.1 user) id)).1) (((Qb c.1 c.2.1 user)).1))))).1).2.2)])] [15, 17] ?_
   refine jn [(119, .b ((!((Qk ((((Qh c.2.1 name)).1).2) (((Qa (Qd c.1 user) id)).1) (((Qb c.1 c.2.1 user)).1)).1)) || ((!(((Qi c (Qj (((Qa c.1 id)).1) (Qk ((((Qh c.2.1 name)).1).2) (((Qa (Qd c.1 user) id)).1) (((Qb c.1 c.2.1 user)).1))))).2.2)) || (!((Zo ((((Qi c (Qj (((Qa c.1 id)).1) (Qk ((((Qh c.2.1 name)).1).2) (((Qa (Qd c.1 user) id)).1) (((Qb c.1 c.2.1 user)).1))))).1).1.1, (((Qi c (Qj (((Qa c.1 id)).1) (Qk ((((Qh c.2.1 name)).1).2) (((Qa (Qd c.1 user) id)).1) (((Qb c.1 c.2.1 user)).1))))).1).1.2.1, (((Qi c (Qj (((Qa c.1 id)).1) (Qk ((((Qh c.2.1 name)).1).2) (((Qa (Qd c.1 user) id)).1) (((Qb c.1 c.2.1 user)).1))))).1).1.2.2) ((((Qi c (Qj (((Qa c.1 id)).1) (Qk ((((Qh c.2.1 name)).1).2) (((Qa (Qd c.1 user) id)).1) (((Qb c.1 c.2.1 user)).1))))).1).2.1) user name id) == false)))))] [24] [] [] (!((Qk ((((Qh c.2.1 name)).1).2) (((Qa (Qd c.1 user) id)).1) (((Qb c.1 c.2.1 user)).1)).1)) (fun h15 => ?_) (fun h15 => ?_) ?_
   ·
    have h15n : ((Qk ((((Qh c.2.1 name)).1).2) (((Qa (Qd c.1 user) id)).1) (((Qb c.1 c.2.1 user)).1)).1) = false := bnot_t h15
    refine ru Qc [(119, .b true)] [24] [] [] (pf 1 h15n (pe 2 (show .b (!false) = .b true from rfl) p0)) ?_
    exact ⟨rfl, Qf (by rw [h15]; first | done | kernel_rfl)⟩
   ·
    have h15n : ((Qk ((((Qh c.2.1 name)).1).2) (((Qa (Qd c.1 user) id)).1) (((Qb c.1 c.2.1 user)).1)).1) = true := Jd h15
    refine Xw (!(((Qi c (Qj (((Qa c.1 id)).1) (Qk ((((Qh c.2.1 name)).1).2) (((Qa (Qd c.1 user) id)).1) (((Qb c.1 c.2.1 user)).1))))).2.2)) (fun h16 => ?_) (fun h16 => ?_)
    ·
     have h16n : (((Qi c (Qj (((Qa c.1 id)).1) (Qk ((((Qh c.2.1 name)).1).2) (((Qa (Qd c.1 user) id)).1) (((Qb c.1 c.2.1 user)).1))))).2.2) = false := bnot_t h16
     refine ru Qc [(119, .b true)] [24] [] [] (pt 1 h15n (pe 2 (show .b (!true) = .b false from rfl) (pf 4 h16n (pe 5 (show .b (!false) = .b true from rfl) p0)))) ?_
     exact ⟨rfl, Qf (by rw [h15, h16]; first | done | kernel_rfl)⟩
    ·
     have h16n : (((Qi c (Qj (((Qa c.1 id)).1) (Qk ((((Qh c.2.1 name)).1).2) (((Qa (Qd c.1 user) id)).1) (((Qb c.1 c.2.1 user)).1))))).2.2) = true := Jd h16
     refine rn Qc [1, 2, 3, 4, 5, 10, 11, 12, 13, 21, 22, 119] [5, 10, 13, 21, 22] (pt 1 h15n (pe 2 (show .b (!true) = .b false from rfl) (pt 4 h16n (pe 5 (show .b (!true) = .b false from rfl) (pc 15 (implIsListed_a ((((Qi c (Qj (((Qa c.1 id)).1) (Qk ((((Qh c.2.1 name)).1).2) (((Qa (Qd c.1 user) id)).1) (((Qb c.1 c.2.1 user)).1))))).1).1.1, (((Qi c (Qj (((Qa c.1 id)).1) (Qk ((((Qh c.2.1 name)).1).2) (((Qa (Qd c.1 user) id)).1) (((Qb c.1 c.2.1 user)).1))))).1).1.2.1, (((Qi c (Qj (((Qa c.1 id)).1) (Qk ((((Qh c.2.1 name)).1).2) (((Qa (Qd c.1 user) id)).1) (((Qb c.1 c.2.1 user)).1))))).1).1.2.2) ((((Qi c (Qj (((Qa c.1 id)).1) (Qk ((((Qh c.2.1 name)).1).2) (((Qa (Qd c.1 user) id)).1) (((Qb c.1 c.2.1 user)).1))))).1).2.1) user name id) (pf 16 h5 p0)))))) ?_
     exact ⟨rfl, Qf (by rw [h15, h16]; first | done | kernel_rfl)⟩
   refine ck ((!((Qk ((((Qh c.2.1 name)).1).2) (((Qa (Qd c.1 user) id)).1) (((Qb c.1 c.2.1 user)).1)).1)) || ((!(((Qi c (Qj (((Qa c.1 id)).1) (Qk ((((Qh c.2.1 name)).1).2) (((Qa (Qd c.1 user) id)).1) (((Qb c.1 c.2.1 user)).1))))).2.2)) || (!((Zo ((((Qi c (Qj (((Qa c.1 id)).1) (Qk ((((Qh c.2.1 name)).1).2) (((Qa (Qd c.1 user) id)).1) (((Qb c.1 c.2.1 user)).1))))).1).1.1, (((Qi c (Qj (((Qa c.1 id)).1) (Qk ((((Qh c.2.1 name)).1).2) (((Qa (Qd c.1 user) id)).1) (((Qb c.1 c.2.1 user)).1))))).1).1.2.1, (((Qi c (Qj (((Qa c.1 id)).1) (Qk ((((Qh c.2.1 name)).1).2) (((Qa (Qd c.1 user) id)).1) (((Qb c.1 c.2.1 user)).1))))).1).1.2.2) ((((Qi c (Qj (((Qa c.1 id)).1) (Qk ((((Qh c.2.1 name)).1).2) (((Qa (Qd c.1 user) id)).1) (((Qb c.1 c.2.1 user)).1))))).1).2.1) user name id) == false)))) (fun h17 => ?_) (fun h17 => ?_)
   ·
    refine sn Qc [1, 2, 3, 4, 5, 10, 11, 12, 13, 21, 22] [5, 10, 13, 21, 22] (pc 1 (implcopyCatalog_a c) p0) ?_
    refine opn [(false, 11, 0, true, 384000, 4)] ?_
    refine Qp ?_
    exact Ye [] (congrArg (fun z => (.tup [(true, [.o 0 z.1.1.1, .o 1 z.1.1.2.1, .i z.1.1.2.2, .o 2 z.1.2.1, .o 3 z.1.2.2]), (false, [.o 4 z.2.1]), (false, [.b z.2.2])] : AV)) (show Yg c user name id listed = _ from Qz h4 (Qz h5 (Xm h17 (rfl)))).symm)
   ·
    have h17r : (((!(((Qi c (Qj (((Qa c.1 id)).1) (Qk ((((Qh c.2.1 name)).1).2) (((Qa (Qd c.1 user) id)).1) (((Qb c.1 c.2.1 user)).1))))).2.2)) || (!((Zo ((((Qi c (Qj (((Qa c.1 id)).1) (Qk ((((Qh c.2.1 name)).1).2) (((Qa (Qd c.1 user) id)).1) (((Qb c.1 c.2.1 user)).1))))).1).1.1, (((Qi c (Qj (((Qa c.1 id)).1) (Qk ((((Qh c.2.1 name)).1).2) (((Qa (Qd c.1 user) id)).1) (((Qb c.1 c.2.1 user)).1))))).1).1.2.1, (((Qi c (Qj (((Qa c.1 id)).1) (Qk ((((Qh c.2.1 name)).1).2) (((Qa (Qd c.1 user) id)).1) (((Qb c.1 c.2.1 user)).1))))).1).1.2.2) ((((Qi c (Qj (((Qa c.1 id)).1) (Qk ((((Qh c.2.1 name)).1).2) (((Qa (Qd c.1 user) id)).1) (((Qb c.1 c.2.1 user)).1))))).1).2.1) user name id) == false)))) = false := or_r h17
    have h17rr : ((!((Zo ((((Qi c (Qj (((Qa c.1 id)).1) (Qk ((((Qh c.2.1 name)).1).2) (((Qa (Qd c.1 user) id)).1) (((Qb c.1 c.2.1 user)).1))))).1).1.1, (((Qi c (Qj (((Qa c.1 id)).1) (Qk ((((Qh c.2.1 name)).1).2) (((Qa (Qd c.1 user) id)).1) (((Qb c.1 c.2.1 user)).1))))).1).1.2.1, (((Qi c (Qj (((Qa c.1 id)).1) (Qk ((((Qh c.2.1 name)).1).2) (((Qa (Qd c.1 user) id)).1) (((Qb c.1 c.2.1 user)).1))))).1).1.2.2) ((((Qi c (Qj (((Qa c.1 id)).1) (Qk ((((Qh c.2.1 name)).1).2) (((Qa (Qd c.1 user) id)).1) (((Qb c.1 c.2.1 user)).1))))).1).2.1) user name id) == false))) = false := or_r h17r
    have h17rrn : ((Zo ((((Qi c (Qj (((Qa c.1 id)).1) (Qk ((((Qh c.2.1 name)).1).2) (((Qa (Qd c.1 user) id)).1) (((Qb c.1 c.2.1 user)).1))))).1).1.1, (((Qi c (Qj (((Qa c.1 id)).1) (Qk ((((Qh c.2.1 name)).1).2) (((Qa (Qd c.1 user) id)).1) (((Qb c.1 c.2.1 user)).1))))).1).1.2.1, (((Qi c (Qj (((Qa c.1 id)).1) (Qk ((((Qh c.2.1 name)).1).2) (((Qa (Qd c.1 user) id)).1) (((Qb c.1 c.2.1 user)).1))))).1).1.2.2) ((((Qi c (Qj (((Qa c.1 id)).1) (Qk ((((Qh c.2.1 name)).1).2) (((Qa (Qd c.1 user) id)).1) (((Qb c.1 c.2.1 user)).1))))).1).2.1) user name id) == false) = true := Jd h17rr
    have h17rrnd := eq_of_beq h17rrn
    refine Qo ?_
    refine Qg ?_
    refine sn Qc [1, 2, 3, 4, 5, 10, 11, 12, 13, 21, 22, 124, 125] [5, 10, 13, 21, 22] (pl 2 ((Qk ((((Qh c.2.1 name)).1).2) (((Qa (Qd c.1 user) id)).1) (((Qb c.1 c.2.1 user)).1)).2) p0) ?_
    refine mz [(124, .i (((Qk ((((Qh c.2.1 name)).1).2) (((Qa (Qd c.1 user) id)).1) (((Qb c.1 c.2.1 user)).1)).2).length : Int)), (125, .i 0)] [119] [] [] ?_
    refine wB 21 1 (.own true 5440) ((Qk ((((Qh c.2.1 name)).1).2) (((Qa (Qd c.1 user) id)).1) (((Qb c.1 c.2.1 user)).1)).2) (fun hw18 hl19 => ?_)
    refine blk (fun (k1 : Nat) (s1 : Unit) => [(125, .i ((k1 : Nat) : Int))]) [125] (fun k1 s1 => []) [] (fun (y1 : Unit) => []) [1, 2, 3, 4, 5, 13, 124, 125] (fun y1 => []) [5, 13] (fun (k1 : Nat) (s1 : Unit) => (Xg (implwriteThrough_f1 c user name id) implwriteThrough_e1 ((Qk ((((Qh c.2.1 name)).1).2) (((Qa (Qd c.1 user) id)).1) (((Qb c.1 c.2.1 user)).1)).2) 0 ()) = Xg (implwriteThrough_f1 c user name id) implwriteThrough_e1 (List.drop k1 ((Qk ((((Qh c.2.1 name)).1).2) (((Qa (Qd c.1 user) id)).1) (((Qb c.1 c.2.1 user)).1)).2)) k1 s1) (fun (y1 : Unit) => (Xg (implwriteThrough_f1 c user name id) implwriteThrough_e1 ((Qk ((((Qh c.2.1 name)).1).2) (((Qa (Qd c.1 user) id)).1) (((Qb c.1 c.2.1 user)).1)).2) 0 ()) = .brk y1) (((Qk ((((Qh c.2.1 name)).1).2) (((Qa (Qd c.1 user) id)).1) (((Qb c.1 c.2.1 user)).1)).2).length) () (Qf (by kernel_rfl)) rfl (fun k1 s1 hk1 hI1 => ?_) (fun k1 s1 hk1 hI1 => ?_) (fun y1 hD1 => ?_)
    ·
     obtain ⟨a1, hx1⟩ := Xq (l := (Qk ((((Qh c.2.1 name)).1).2) (((Qa (Qd c.1 user) id)).1) (((Qb c.1 c.2.1 user)).1)).2) (i := k1) hk1
     refine su Qc [(126, .b true)] [] [] [] (pe 0 (Q0 (decide_eq_true (p := ((k1 : Nat) : Int) < (((Qk ((((Qh c.2.1 name)).1).2) (((Qa (Qd c.1 user) id)).1) (((Qb c.1 c.2.1 user)).1)).2).length : Int)) (by omega))) p0) ?_
     refine Qg ?_
     refine ckT ?_
     refine Qo ?_
     refine Qg ?_
     refine Q6 ?_
     refine su Qc [(25, .i ((k1 : Nat) : Int))] [126] [] [] (p0) ?_
     have hq20 : List.length ((Qk ((((Qh c.2.1 name)).1).2) (((Qa (Qd c.1 user) id)).1) (((Qb c.1 c.2.1 user)).1)).2) ≤ 512 := editU_len
     refine sn Qc [1, 2, 3, 4, 5, 10, 11, 12, 13, 21, 22, 26, 124, 125] [5, 10, 13, 21, 22, 26] (pc 2 (cloneAttr_a ((Qk ((((Qh c.2.1 name)).1).2) (((Qa (Qd c.1 user) id)).1) (((Qb c.1 c.2.1 user)).1)).2)) (pe 5 (av_i (Qy k1 (by omega))) (po 6 (.take true false (eL (delAt ((Qk ((((Qh c.2.1 name)).1).2) (((Qa (Qd c.1 user) id)).1) (((Qb c.1 c.2.1 user)).1)).2) k1))) (px (ob_take (delAttr_a ((Qk ((((Qh c.2.1 name)).1).2) (((Qa (Qd c.1 user) id)).1) (((Qb c.1 c.2.1 user)).1)).2) (i := ((k1 : Nat) : Int)) (k := ((k1 + 1 : Nat) : Int)) (by omega) (by first | omega | exact IntWalk.i64_in _ (by omega)) (by omega) (by omega))) (px (ob_flat (flat_eL ((Qk ((((Qh c.2.1 name)).1).2) (((Qa (Qd c.1 user) id)).1) (((Qb c.1 c.2.1 user)).1)).2))) (px (ob_flat (flat_eL (delAt ((Qk ((((Qh c.2.1 name)).1).2) (((Qa (Qd c.1 user) id)).1) (((Qb c.1 c.2.1 user)).1)).2) k1))) p0)))))) ?_
     refine tN Qc Z4 [1, 2, 3, 4, 5, 10, 11, 12, 13, 21, 22, 27, 29, 124, 125] [5, 10, 13, 21, 22, 27] (pc 3 (implApplyEdit_a (((Qa c.1 id)).1) (true, delAt ((Qk ((((Qh c.2.1 name)).1).2) (((Qa (Qd c.1 user) id)).1) (((Qb c.1 c.2.1 user)).1)).2) k1) (applyHp hfa (Nat.le_trans (delAt_le _ _) editU_len))) (pc 4 (implUpdateFile_a c (Qj (((Qa c.1 id)).1) (true, delAt ((Qk ((((Qh c.2.1 name)).1).2) (((Qa (Qd c.1 user) id)).1) (((Qb c.1 c.2.1 user)).1)).2) k1))) p0)) ?_
     refine Qg ?_
     refine mz [(27, .p 27 0), (29, .b (((Qi c (Qj (((Qa c.1 id)).1) (true, delAt ((Qk ((((Qh c.2.1 name)).1).2) (((Qa (Qd c.1 user) id)).1) (((Qb c.1 c.2.1 user)).1)).2) k1)))).2.2))] [25] [(27, [.o 9024 ((((Qi c (Qj (((Qa c.1 id)).1) (true, delAt ((Qk ((((Qh c.2.1 name)).1).2) (((Qa (Qd c.1 user) id)).1) (((Qb c.1 c.2.1 user)).1)).2) k1)))).1).1.1), .o 9025 ((((Qi c (Qj (((Qa c.1 id)).1) (true, delAt ((Qk ((((Qh c.2.1 name)).1).2) (((Qa (Qd c.1 user) id)).1) (((Qb c.1 c.2.1 user)).1)).2) k1)))).1).1.2.1), .i ((((Qi c (Qj (((Qa c.1 id)).1) (true, delAt ((Qk ((((Qh c.2.1 name)).1).2) (((Qa (Qd c.1 user) id)).1) (((Qb c.1 c.2.1 user)).1)).2) k1)))).1).1.2.2), .o 9026 ((((Qi c (Qj (((Qa c.1 id)).1) (true, delAt ((Qk ((((Qh c.2.1 name)).1).2) (((Qa (Qd c.1 user) id)).1) (((Qb c.1 c.2.1 user)).1)).2) k1)))).1).2.1), .o 9027 ((((Qi c (Qj (((Qa c.1 id)).1) (true, delAt ((Qk ((((Qh c.2.1 name)).1).2) (((Qa (Qd c.1 user) id)).1) (((Qb c.1 c.2.1 user)).1)).2) k1)))).1).2.2)])] [] ?_
     refine jn [(158, .b ((!(((Qi c (Qj (((Qa c.1 id)).1) (true, delAt ((Qk ((((Qh c.2.1 name)).1).2) (((Qa (Qd c.1 user) id)).1) (((Qb c.1 c.2.1 user)).1)).2) k1)))).2.2)) || ((Zo ((((Qi c (Qj (((Qa c.1 id)).1) (true, delAt ((Qk ((((Qh c.2.1 name)).1).2) (((Qa (Qd c.1 user) id)).1) (((Qb c.1 c.2.1 user)).1)).2) k1)))).1).1.1, (((Qi c (Qj (((Qa c.1 id)).1) (true, delAt ((Qk ((((Qh c.2.1 name)).1).2) (((Qa (Qd c.1 user) id)).1) (((Qb c.1 c.2.1 user)).1)).2) k1)))).1).1.2.1, (((Qi c (Qj (((Qa c.1 id)).1) (true, delAt ((Qk ((((Qh c.2.1 name)).1).2) (((Qa (Qd c.1 user) id)).1) (((Qb c.1 c.2.1 user)).1)).2) k1)))).1).1.2.2) ((((Qi c (Qj (((Qa c.1 id)).1) (true, delAt ((Qk ((((Qh c.2.1 name)).1).2) (((Qa (Qd c.1 user) id)).1) (((Qb c.1 c.2.1 user)).1)).2) k1)))).1).2.1) user name id) == false)))] [27, 29] [] [27] (!(((Qi c (Qj (((Qa c.1 id)).1) (true, delAt ((Qk ((((Qh c.2.1 name)).1).2) (((Qa (Qd c.1 user) id)).1) (((Qb c.1 c.2.1 user)).1)).2) k1)))).2.2)) (fun h21 => ?_) (fun h21 => ?_) ?_
     ·
      have h21n : (((Qi c (Qj (((Qa c.1 id)).1) (true, delAt ((Qk ((((Qh c.2.1 name)).1).2) (((Qa (Qd c.1 user) id)).1) (((Qb c.1 c.2.1 user)).1)).2) k1)))).2.2) = false := bnot_t h21
      refine ru Qc [(158, .b true)] [27, 29] [] [27] (pf 0 h21n (pe 1 (show .b (!false) = .b true from rfl) p0)) ?_
      exact ⟨rfl, Qf (by rw [h21]; first | done | kernel_rfl)⟩
     ·
      have h21n : (((Qi c (Qj (((Qa c.1 id)).1) (true, delAt ((Qk ((((Qh c.2.1 name)).1).2) (((Qa (Qd c.1 user) id)).1) (((Qb c.1 c.2.1 user)).1)).2) k1)))).2.2) = true := Jd h21
      refine rn Qc [1, 2, 3, 4, 5, 10, 11, 12, 13, 21, 22, 124, 125, 158] [5, 10, 13, 21, 22] (pt 0 h21n (pe 1 (show .b (!true) = .b false from rfl) (pc 10 (implIsListed_a ((((Qi c (Qj (((Qa c.1 id)).1) (true, delAt ((Qk ((((Qh c.2.1 name)).1).2) (((Qa (Qd c.1 user) id)).1) (((Qb c.1 c.2.1 user)).1)).2) k1)))).1).1.1, (((Qi c (Qj (((Qa c.1 id)).1) (true, delAt ((Qk ((((Qh c.2.1 name)).1).2) (((Qa (Qd c.1 user) id)).1) (((Qb c.1 c.2.1 user)).1)).2) k1)))).1).1.2.1, (((Qi c (Qj (((Qa c.1 id)).1) (true, delAt ((Qk ((((Qh c.2.1 name)).1).2) (((Qa (Qd c.1 user) id)).1) (((Qb c.1 c.2.1 user)).1)).2) k1)))).1).1.2.2) ((((Qi c (Qj (((Qa c.1 id)).1) (true, delAt ((Qk ((((Qh c.2.1 name)).1).2) (((Qa (Qd c.1 user) id)).1) (((Qb c.1 c.2.1 user)).1)).2) k1)))).1).2.1) user name id) (pf 11 h5 p0)))) ?_
      exact ⟨rfl, Qf (by rw [h21]; first | done | kernel_rfl)⟩
     refine ck ((!(((Qi c (Qj (((Qa c.1 id)).1) (true, delAt ((Qk ((((Qh c.2.1 name)).1).2) (((Qa (Qd c.1 user) id)).1) (((Qb c.1 c.2.1 user)).1)).2) k1)))).2.2)) || ((Zo ((((Qi c (Qj (((Qa c.1 id)).1) (true, delAt ((Qk ((((Qh c.2.1 name)).1).2) (((Qa (Qd c.1 user) id)).1) (((Qb c.1 c.2.1 user)).1)).2) k1)))).1).1.1, (((Qi c (Qj (((Qa c.1 id)).1) (true, delAt ((Qk ((((Qh c.2.1 name)).1).2) (((Qa (Qd c.1 user) id)).1) (((Qb c.1 c.2.1 user)).1)).2) k1)))).1).1.2.1, (((Qi c (Qj (((Qa c.1 id)).1) (true, delAt ((Qk ((((Qh c.2.1 name)).1).2) (((Qa (Qd c.1 user) id)).1) (((Qb c.1 c.2.1 user)).1)).2) k1)))).1).1.2.2) ((((Qi c (Qj (((Qa c.1 id)).1) (true, delAt ((Qk ((((Qh c.2.1 name)).1).2) (((Qa (Qd c.1 user) id)).1) (((Qb c.1 c.2.1 user)).1)).2) k1)))).1).2.1) user name id) == false)) (fun h22 => ?_) (fun h22 => ?_)
     ·
      refine sn Qc [1, 2, 3, 4, 5, 10, 11, 12, 13, 21, 22, 124, 125] [5, 10, 13, 21, 22] (pc 1 (implcopyCatalog_a c) p0) ?_
      refine opn [(false, 11, 0, true, 384000, 4)] ?_
      refine Qp ?_
      have hr23 : (Xg (implwriteThrough_f1 c user name id) implwriteThrough_e1 ((Qk ((((Qh c.2.1 name)).1).2) (((Qa (Qd c.1 user) id)).1) (((Qb c.1 c.2.1 user)).1)).2) 0 ()) = .ret ((Z1 c), [], false) := Zw hx1 (Xm h22 (rfl)) hI1
      exact Ye [] (congrArg (fun z => (.tup [(true, [.o 0 z.1.1.1, .o 1 z.1.1.2.1, .i z.1.1.2.2, .o 2 z.1.2.1, .o 3 z.1.2.2]), (false, [.o 4 z.2.1]), (false, [.b z.2.2])] : AV)) (show Yg c user name id listed = _ from Qz h4 (Qz h5 (Qz h17 (on_r hr23)))).symm)
     ·
      have h22r : (((Zo ((((Qi c (Qj (((Qa c.1 id)).1) (true, delAt ((Qk ((((Qh c.2.1 name)).1).2) (((Qa (Qd c.1 user) id)).1) (((Qb c.1 c.2.1 user)).1)).2) k1)))).1).1.1, (((Qi c (Qj (((Qa c.1 id)).1) (true, delAt ((Qk ((((Qh c.2.1 name)).1).2) (((Qa (Qd c.1 user) id)).1) (((Qb c.1 c.2.1 user)).1)).2) k1)))).1).1.2.1, (((Qi c (Qj (((Qa c.1 id)).1) (true, delAt ((Qk ((((Qh c.2.1 name)).1).2) (((Qa (Qd c.1 user) id)).1) (((Qb c.1 c.2.1 user)).1)).2) k1)))).1).1.2.2) ((((Qi c (Qj (((Qa c.1 id)).1) (true, delAt ((Qk ((((Qh c.2.1 name)).1).2) (((Qa (Qd c.1 user) id)).1) (((Qb c.1 c.2.1 user)).1)).2) k1)))).1).2.1) user name id) == false)) = false := or_r h22
      have h22rd := Zd h22r
      refine Qo ?_
      refine ru Qc [(125, .i ((k1 + 1 : Nat) : Int))] [125, 158] [] [] (pe 0 (av_i (Qy k1 (by omega))) p0) ?_
      exact Exists.intro _ (And.intro (Qf (by kernel_rfl)) (Q4 hx1 (Qz h22 (rfl)) hI1))
    ·
     refine su Qc [(126, .b false)] [] [] [] (pe 0 (Q0 (decide_eq_false (p := ((k1 : Nat) : Int) < (((Qk ((((Qh c.2.1 name)).1).2) (((Qa (Qd c.1 user) id)).1) (((Qb c.1 c.2.1 user)).1)).2).length : Int)) (by omega))) p0) ?_
     refine Qg ?_
     refine ckF ?_
     refine Xc ?_
     exact Exists.intro _ (And.intro (Qf (by kernel_rfl)) (Xr hk1 (rfl) hI1))
    ·
     refine sN Qc Z4 [10, 11, 12] [10] (p0) ?_
     refine Qp ?_
     exact Ye [] (congrArg (fun z => (.tup [(true, [.o 0 z.1.1.1, .o 1 z.1.1.2.1, .i z.1.1.2.2, .o 2 z.1.2.1, .o 3 z.1.2.2]), (false, [.o 4 z.2.1]), (false, [.b z.2.2])] : AV)) (show Yg c user name id listed = _ from Qz h4 (Qz h5 (Qz h17 (on_b hD1 (rfl))))).symm)
def Q2 (c : CatalogD) (user : Int) (name : ByteArray) (id : Int) : CatalogD × (List Zk) × Bool := ((((Yg c user name id true)).1), ((Yg c user name id true)).2.1, ((Yg c user name id true)).2.2)
theorem implAddToDir_a (c : CatalogD) (user : Int) (name : ByteArray) (id : Int) : ACalls Tryz.prog 33 [.a [.h c.1.1, .h c.1.2.1, .i c.1.2.2, .h c.2.1, .h c.2.2], .i user, .s name, .i id] (.tup [(true, [.o 0 ((((Q2 c user name id)).1).1.1), .o 1 ((((Q2 c user name id)).1).1.2.1), .i ((((Q2 c user name id)).1).1.2.2), .o 2 ((((Q2 c user name id)).1).2.1), .o 3 ((((Q2 c user name id)).1).2.2)]), (false, [.o 4 (((Q2 c user name id)).2.1)]), (false, [.b (((Q2 c user name id)).2.2)])]) := by
 refine en Qc Tryz.func33 fun w0 F0 hG => ?_
 refine sn Qc [1, 2, 3, 4, 8, 9, 10] [4, 8] (p0) ?_
 refine tn Qc [8, 9, 10] [8] (pc 4 (implwriteThrough_a c user name id true) p0) ?_
 refine Qp ?_
 exact Ye [] (congrArg (fun z => (.tup [(true, [.o 0 z.1.1.1, .o 1 z.1.1.2.1, .i z.1.1.2.2, .o 2 z.1.2.1, .o 3 z.1.2.2]), (false, [.o 4 z.2.1]), (false, [.b z.2.2])] : AV)) (show Q2 c user name id = ((((Yg c user name id true)).1), ((Yg c user name id true)).2.1, ((Yg c user name id true)).2.2) from rfl).symm)
def specl05Copy_f0 (_ : Nat) (a0 : Xt) (s0 : (List Xt)) : Rd (Yl) ((List Xt)) ((List Xt)) := (.next (s0 ++ [(Q3 a0)]))
def specl05Copy_e0 (_ : Nat) (s0 : (List Xt)) : (List Xt) := s0
def Xd (s_ : Yl) : Yl := (Out.on (Xg specl05Copy_f0 specl05Copy_e0 s_.2.1 0 []) (fun y0 => (s_.1, y0, s_.2.2)))
theorem specl05Copy_a (s_ : Yl) : ACalls Tryz.prog 52 [.a [.h s_.1, .h s_.2.1, .i s_.2.2]] (.a [.o 0 ((Xd s_).1), .o 1 ((Xd s_).2.1), .i ((Xd s_).2.2)]) := by
 refine en Qc Tryz.func52 fun w0 F0 hG => ?_
 refine sn Qc [1, 2] [1, 2] (p0) ?_
 refine wB 1 0 .sh s_.1 (fun hw1 hl2 => ?_)
 refine tN Qc Z4 [1, 2, 3] [1, 2, 3] (po 3 (.flat) (px (ob_len (n := (([] : List (List PV)).length + ((eL s_.1) : List (List PV)).length)) (len_of (rfl) (Zc s_.1) (by first | omega | (simp only [List.length_cons, List.length_nil]; omega) | (simp; omega) | simp))) (px (ob_flat (flat_eL s_.1)) p0))) ?_
 refine Qg ?_
 refine tu Qc [(1, .p 1 0), (2, .p 2 0), (3, .p 3 0), (4, .i 0)] [0] [(1, [.h s_.1, .h s_.2.1, .i s_.2.2]), (2, [.e 2, .e 5, .i 0]), (3, [.o 512 s_.1, .e 5, .i s_.2.2])] [] (p0) ?_
 refine wB 1 1 .sh s_.2.1 (fun hw3 hl4 => ?_)
 refine blk (fun (k0 : Nat) (s0 : (List Xt)) => [(4, .i ((k0 : Nat) : Int))]) [4] (fun k0 s0 => [(3, [.o 512 s_.1, .o 147211 s0, .i s_.2.2])]) [3] (fun (y0 : (List Xt)) => []) [1, 4] (fun y0 => [(3, [.o 512 s_.1, .o 147361 y0, .i s_.2.2])]) [1, 3] (fun (k0 : Nat) (s0 : (List Xt)) => (Xg specl05Copy_f0 specl05Copy_e0 s_.2.1 0 []) = Xg specl05Copy_f0 specl05Copy_e0 (List.drop k0 s_.2.1) k0 s0 ∧ List.length s0 ≤ k0) (fun (y0 : (List Xt)) => (Xg specl05Copy_f0 specl05Copy_e0 s_.2.1 0 []) = .brk y0) s_.2.1.length [] (weak_gf [(true, 3, 1, true, 320008, 5)] [] [] [(320008, 147211)] (by kernel_rfl)) ⟨rfl, (by simp)⟩ (fun k0 s0 hk0 hI0 => ?_) (fun k0 s0 hk0 hI0 => ?_) (fun y0 hD0 => ?_)
 ·
  have hA0_0 := hI0.2
  obtain ⟨a0, hx0⟩ := Xq (l := s_.2.1) (i := k0) hk0
  refine Qg ?_
  refine su Qc [(16, .b true)] [] [] [] (pl 3 s_.2.1 (pe 4 (Q0 (decide_eq_true (p := ((k0 : Nat) : Int) < (s_.2.1.length : Int)) (by omega))) p0)) ?_
  refine ckT ?_
  refine Qo ?_
  refine Qg ?_
  refine Q6 ?_
  refine wB 3 1 (.own true 147211) s0 (fun hw5 hl6 => ?_)
  refine rU Qc Z4 [] [16] [(3, [.o 512 s_.1, .slc (.own true 1792) 5 ((eL s0) ++ [[.i ((Q3 a0).1), .i ((Q3 a0).2.1), .b ((Q3 a0).2.2.1), .i ((Q3 a0).2.2.2.1), .h ((Q3 a0).2.2.2.2)]]), .i s_.2.2])] [3] (pn 5 hx0 (pc 7 (specl04Copy_a a0) (pa s0 [(Q3 a0)] p0))) ?_
  refine eqn [] [] [(3, [.o 512 s_.1, .o 1792 (s0 ++ [(Q3 a0)]), .i s_.2.2])] [3] (by rw [show ((eL s0) ++ [[.i ((Q3 a0).1), .i ((Q3 a0).2.1), .b ((Q3 a0).2.2.1), .i ((Q3 a0).2.2.2.1), .h ((Q3 a0).2.2.2.2)]]) = (eL (s0 ++ [(Q3 a0)])) from app_eL (rfl) (rfl)]; first | done | kernel_rfl) ?_
  refine rn Qc [1, 2, 3, 4] [1, 2, 3] (pe 1 (av_i (Qy k0 (by omega))) p0) ?_
  exact Exists.intro (s0 ++ [(Q3 a0)]) (And.intro (X2 [(1792, 147211)] (by kernel_rfl)) ⟨Q4 hx0 (rfl) hI0.1, by first | omega | (simp; omega) | simp⟩)
 ·
  have hA0_0 := hI0.2
  refine Qg ?_
  refine su Qc [(16, .b false)] [] [] [] (pl 3 s_.2.1 (pe 4 (Q0 (decide_eq_false (p := ((k0 : Nat) : Int) < (s_.2.1.length : Int)) (by omega))) p0)) ?_
  refine ckF ?_
  refine Xc ?_
  exact Exists.intro _ (And.intro (X2 [(147211, 147361)] (by kernel_rfl)) (Xr hk0 (rfl) hI0.1))
 ·
  refine sn Qc [2] [2] (p0) ?_
  refine Qp ?_
  exact Ye [] (congrArg (fun z => (.a [.o 0 z.1, .o 1 z.2.1, .i z.2.2] : AV)) (show Xd s_ = _ from on_b hD0 (rfl)).symm)
def specl11Copy_f0 (_ : Nat) (a0 : X1) (s0 : (List X1)) : Rd ((List X1)) ((List X1)) ((List X1)) := (.next (s0 ++ [a0]))
def specl11Copy_e0 (_ : Nat) (s0 : (List X1)) : (List X1) := s0
def specl11Copy (d : (List X1)) : (List X1) := (Out.on (Xg specl11Copy_f0 specl11Copy_e0 d 0 []) (fun y0 => y0))
theorem specl11Copy_a (d : (List X1)) : ACalls Tryz.prog 82 [.h d] (.o 0 (specl11Copy d)) := by
 refine en Qc Tryz.func82 fun w0 F0 hG => ?_
 refine sn Qc [0, 2] [] (p0) ?_
 refine tn Qc [0, 2, 3] [] (p0) ?_
 refine Qg ?_
 refine tu Qc [(2, .e 0), (3, .one (.slc (.own true 320) 2 [])), (4, .i 0)] [] [] [] (p0) ?_
 refine wT 0 0 .sh d (fun hw1 hl2 => ?_)
 refine blk (fun (k0 : Nat) (s0 : (List X1)) => [(3, .o 147202 s0), (4, .i ((k0 : Nat) : Int))]) [3, 4] (fun k0 s0 => []) [] (fun (y0 : (List X1)) => [(3, .o 147352 y0)]) [0, 3, 4] (fun y0 => []) [] (fun (k0 : Nat) (s0 : (List X1)) => (Xg specl11Copy_f0 specl11Copy_e0 d 0 []) = Xg specl11Copy_f0 specl11Copy_e0 (List.drop k0 d) k0 s0 ∧ List.length s0 ≤ k0) (fun (y0 : (List X1)) => (Xg specl11Copy_f0 specl11Copy_e0 d 0 []) = .brk y0) d.length [] (X2 [(320, 147202)] (by kernel_rfl)) ⟨rfl, (by simp)⟩ (fun k0 s0 hk0 hI0 => ?_) (fun k0 s0 hk0 hI0 => ?_) (fun y0 hD0 => ?_)
 ·
  have hA0_0 := hI0.2
  obtain ⟨a0, hx0⟩ := Xq (l := d) (i := k0) hk0
  refine Qg ?_
  refine sn Qc [0, 2, 3, 4, 9] [] (pl 2 d (pe 3 (Q0 (decide_eq_true (p := ((k0 : Nat) : Int) < (d.length : Int)) (by omega))) p0)) ?_
  refine ckT ?_
  refine Qo ?_
  refine Qg ?_
  refine Q6 ?_
  have hl3 : List.length a0.2 ≤ 1073741824 := wide_len (wide_snd (wide_get hx0 (hw1)))
  refine wT 3 0 (.own true 147202) s0 (fun hw4 hl5 => ?_)
  refine qU Qc Z4 [(3, .one (.slc (.own true 1728) 2 ((eL s0) ++ [[.s a0.1, .slc 7 ([] ++ (eL a0.2))]])))] [3] [] [] (pn 3 hx0 (pn 9 hx0 (po 12 (.flat) (px (ob_len (n := (([] : List (List PV)).length + ((eL a0.2) : List (List PV)).length)) (len_of (rfl) (Zc a0.2) (by first | omega | (simp only [List.length_cons, List.length_nil]; omega) | (simp; omega) | simp))) (px (ob_flat (flat_eL a0.2)) (px (ob_len (n := (((eL s0) : List (List PV)).length + ([[.s a0.1, .slc 7 ([] ++ (eL a0.2))]] : List (List PV)).length)) (len_of (Zc s0) (rfl) (by first | omega | (simp only [List.length_cons, List.length_nil]; omega) | (simp; omega) | simp))) p0)))))) ?_
  refine eqn [(3, .o 1728 (s0 ++ [a0]))] [3] [] [] (by rw [show ((eL s0) ++ [[.s a0.1, .slc 7 ([] ++ (eL a0.2))]]) = (eL (s0 ++ [a0])) from app_eL (rfl) (rfl)]; first | done | kernel_rfl) ?_
  refine rn Qc [0, 2, 3, 4] [] (pe 1 (av_i (Qy k0 (by omega))) p0) ?_
  exact Exists.intro (s0 ++ [a0]) (And.intro (X2 [(1728, 147202)] (by kernel_rfl)) ⟨Q4 hx0 (rfl) hI0.1, by first | omega | (simp; omega) | simp⟩)
 ·
  have hA0_0 := hI0.2
  refine Qg ?_
  refine sn Qc [0, 2, 3, 4, 9] [] (pl 2 d (pe 3 (Q0 (decide_eq_false (p := ((k0 : Nat) : Int) < (d.length : Int)) (by omega))) p0)) ?_
  refine ckF ?_
  refine Xc ?_
  exact Exists.intro _ (And.intro (X2 [(147202, 147352)] (by kernel_rfl)) (Xr hk0 (rfl) hI0.1))
 ·
  refine sn Qc [2] [] (p0) ?_
  refine Qp ?_
  exact Ye [] (congrArg (fun z => (.o 0 z : AV)) (show specl11Copy d = _ from on_b hD0 (rfl)).symm)
def Qu (s_ : Yl) (d : (List X1)) : CatalogD × Bool := (bif (!(((specEvaluate s_ d)).2)) then ((([], [], 0), [], []), false) else (((Xd s_), (specl11Copy d), ((specEvaluate s_ d)).1), true))
theorem specNewCatalog_a (s_ : Yl) (d : (List X1)) : ACalls Tryz.prog 31 [.a [.h s_.1, .h s_.2.1, .i s_.2.2], .h d] (.tup [(true, [.o 0 ((((Qu s_ d)).1).1.1), .o 1 ((((Qu s_ d)).1).1.2.1), .i ((((Qu s_ d)).1).1.2.2), .o 2 ((((Qu s_ d)).1).2.1), .o 3 ((((Qu s_ d)).1).2.2)]), (false, [.b (((Qu s_ d)).2)])]) := by
 refine en Qc Tryz.func31 fun w0 F0 hG => ?_
 refine sn Qc [1, 2, 4, 5] [2, 4] (p0) ?_
 refine tn Qc [1, 2, 4, 5, 6, 7] [2, 4] (pc 2 (specEvaluate_a s_ d) p0) ?_
 refine Qg ?_
 refine tu Qc [(2, .p 2 0), (4, .p 4 0), (5, .b false), (6, .o 704 (((specEvaluate s_ d)).1)), (15, .b (!(((specEvaluate s_ d)).2)))] [0] [(2, [.h s_.1, .h s_.2.1, .i s_.2.2]), (4, [.e 2, .e 5, .i 0, .e 2, .e 2])] [] (p0) ?_
 refine ck (!(((specEvaluate s_ d)).2)) (fun h1 => ?_) (fun h1 => ?_)
 ·
  refine su Qc [] [15] [] [] (p0) ?_
  refine opn [(true, 4, 0, true, 384000, 2), (true, 4, 1, true, 384001, 5), (true, 4, 3, true, 384002, 2), (true, 4, 4, true, 384003, 2)] ?_
  refine Qp ?_
  exact Ye [] (congrArg (fun z => (.tup [(true, [.o 0 z.1.1.1, .o 1 z.1.1.2.1, .i z.1.1.2.2, .o 2 z.1.2.1, .o 3 z.1.2.2]), (false, [.b z.2])] : AV)) (show Qu s_ d = _ from Xm h1 (rfl)).symm)
 ·
  refine Qo ?_
  refine sn Qc [4, 5] [4] (pc 1 (specl05Copy_a s_) (pc 3 (specl11Copy_a d) p0)) ?_
  refine Qp ?_
  exact Ye [] (congrArg (fun z => (.tup [(true, [.o 0 z.1.1.1, .o 1 z.1.1.2.1, .i z.1.1.2.2, .o 2 z.1.2.1, .o 3 z.1.2.2]), (false, [.b z.2])] : AV)) (show Qu s_ d = _ from Qz h1 (rfl)).symm)
def specNewStore (s_ : (List FieldD)) : Yl := (s_, [], 1)
theorem specNewStore_a (s_ : (List FieldD)) : ACalls Tryz.prog 11 [.h s_] (.a [.o 0 ((specNewStore s_).1), .o 1 ((specNewStore s_).2.1), .i ((specNewStore s_).2.2)]) := by
 refine en Qc Tryz.func11 fun w0 F0 hG => ?_
 refine sn Qc [0, 2] [2] (p0) ?_
 refine wT 0 0 .sh s_ (fun hw1 hl2 => ?_)
 refine tn Qc [2] [2] (po 2 (.flat) (px (ob_len (n := (([] : List (List PV)).length + ((eL s_) : List (List PV)).length)) (len_of (rfl) (Zc s_) (by first | omega | (simp only [List.length_cons, List.length_nil]; omega) | (simp; omega) | simp))) (px (ob_flat (flat_eL s_)) p0))) ?_
 refine opn [(true, 2, 1, true, 384000, 5)] ?_
 refine Qp ?_
 exact Ye [] (congrArg (fun z => (.a [.o 0 z.1, .o 1 z.2.1, .i z.2.2] : AV)) (show specNewStore s_ = (s_, [], 1) from rfl).symm)
def specl03Usual : (List FieldD) := [((⟨#[97]⟩, 1) : FieldD), ((⟨#[98]⟩, 1) : FieldD), ((⟨#[110]⟩, 2) : FieldD), ((⟨#[116]⟩, 2) : FieldD)]
theorem specl03Usual_a : ACalls Tryz.prog 51 [] (.o 0 specl03Usual) := by
 refine en Qc Tryz.func51 fun w0 F0 hG => ?_
 refine sn Qc [0] [] (p0) ?_
 refine tn Qc [0] [] (p0) ?_
 refine Qp ?_
 exact Ye [] (congrArg (fun z => (.o 0 z : AV)) (show specl03Usual = [((⟨#[97]⟩, 1) : FieldD), ((⟨#[98]⟩, 1) : FieldD), ((⟨#[110]⟩, 2) : FieldD), ((⟨#[116]⟩, 2) : FieldD)] from rfl).symm)
def specDefaultSchema : (List FieldD) := specl03Usual
theorem specDefaultSchema_a : ACalls Tryz.prog 12 [] (.o 0 specDefaultSchema) := by
 refine en Qc Tryz.func12 fun w0 F0 hG => ?_
 refine sn Qc [0] [] (p0) ?_
 refine tn Qc [0] [] (pc 0 (specl03Usual_a) p0) ?_
 refine Qp ?_
 exact Ye [] (congrArg (fun z => (.o 0 z : AV)) (show specDefaultSchema = specl03Usual from rfl).symm)
def Qn (n : Int) : ValueD := (1, n, ⟨#[]⟩)
theorem specIntValue_a (n : Int) : ACalls Tryz.prog 10 [.i n] (.a [.i ((Qn n).1), .i ((Qn n).2.1), .s ((Qn n).2.2)]) := by
 refine en Qc Tryz.func10 fun w0 F0 hG => ?_
 refine sn Qc [0, 2] [2] (p0) ?_
 refine tn Qc [2] [2] (p0) ?_
 refine Qp ?_
 exact Ye [] (congrArg (fun z => (.a [.i z.1, .i z.2.1, .s z.2.2] : AV)) (show Qn n = (1, n, ⟨#[]⟩) from rfl).symm)
def specSetAttr_f0 (name : ByteArray) (_ : Nat) (a0 : Zk) (s0 : (List Zk)) : Rd (Xt) ((List Zk)) ((List Zk)) := (bif (!(a0.1.toList == name.toList)) then (.next (s0 ++ [a0])) else (.next s0))
def specSetAttr_e0 (_ : Nat) (s0 : (List Zk)) : (List Zk) := s0
def specSetAttr_f1 (name : ByteArray) (k1 : Nat) (a1 : Zk) (_ : Unit) : Rd (Xt) (Unit) (Int) := (bif (Op.bytesLess a1.1.toList name.toList || a1.1.toList == name.toList) then (.next ()) else (.brk ((k1 : Nat) : Int)))
def specSetAttr_e1 (k1 : Nat) (_ : Unit) : Int := ((k1 : Nat) : Int)
def specSetAttr (f : Xt) (name : ByteArray) (v : ValueD) : Xt := (Out.on (Xg (specSetAttr_f0 name) specSetAttr_e0 f.2.2.2.2 0 []) (fun y0 => (bif (v.1 != (0 : Int)) then (Out.on (Xg (specSetAttr_f1 name) specSetAttr_e1 y0 0 ()) (fun y1 => (f.1, f.2.1, f.2.2.1, f.2.2.2.1, List.take (Int.toNat y1) y0 ++ [(name, v)] ++ (List.drop (Int.toNat y1) y0)))) else (f.1, f.2.1, f.2.2.1, f.2.2.2.1, y0))))
theorem specSetAttr_a (f : Xt) (name : ByteArray) (v : ValueD) (hp : List.length f.2.2.2.2 ≤ 1073741000) : ACalls Tryz.prog 13 [.a [.i f.1, .i f.2.1, .b f.2.2.1, .i f.2.2.2.1, .h f.2.2.2.2], .s name, .a [.i v.1, .i v.2.1, .s v.2.2]] (.a [.i ((specSetAttr f name v).1), .i ((specSetAttr f name v).2.1), .b ((specSetAttr f name v).2.2.1), .i ((specSetAttr f name v).2.2.2.1), .o 0 ((specSetAttr f name v).2.2.2.2)]) := by
 refine en Qc Tryz.func13 fun w0 F0 hG => ?_
 refine sn Qc [1, 3, 5, 6] [3, 5, 6] (p0) ?_
 refine tn Qc [1, 3, 5, 6, 7] [3, 5, 6] (p0) ?_
 refine Qg ?_
 refine tu Qc [(3, .p 3 0), (5, .p 5 0), (6, .p 6 0), (7, .one (.slc (.own true 704) 4 [])), (8, .i 0)] [0, 2] [(3, [.i f.1, .i f.2.1, .b f.2.2.1, .i f.2.2.2.1, .h f.2.2.2.2]), (5, [.i v.1, .i v.2.1, .s v.2.2]), (6, [.i 0, .i 0, .b false, .i 0, .e 4])] [] (p0) ?_
 refine wB 3 4 .sh f.2.2.2.2 (fun hw1 hl2 => ?_)
 refine blk (fun (k0 : Nat) (s0 : (List Zk)) => [(7, .o 147204 s0), (8, .i ((k0 : Nat) : Int))]) [7, 8] (fun k0 s0 => []) [] (fun (y0 : (List Zk)) => [(7, .o 147354 y0)]) [7, 8] (fun y0 => []) [] (fun (k0 : Nat) (s0 : (List Zk)) => (Xg (specSetAttr_f0 name) specSetAttr_e0 f.2.2.2.2 0 []) = Xg (specSetAttr_f0 name) specSetAttr_e0 (List.drop k0 f.2.2.2.2) k0 s0 ∧ List.length s0 ≤ k0) (fun (y0 : (List Zk)) => (Xg (specSetAttr_f0 name) specSetAttr_e0 f.2.2.2.2 0 []) = .brk y0 ∧ List.length y0 ≤ List.length f.2.2.2.2) f.2.2.2.2.length [] (X2 [(704, 147204)] (by kernel_rfl)) ⟨rfl, (by simp)⟩ (fun k0 s0 hk0 hI0 => ?_) (fun k0 s0 hk0 hI0 => ?_) (fun y0 hD0 => ?_)
 ·
  have hA0_0 := hI0.2
  obtain ⟨a0, hx0⟩ := Xq (l := f.2.2.2.2) (i := k0) hk0
  refine Qg ?_
  refine su Qc [(16, .b true)] [] [] [] (pl 3 f.2.2.2.2 (pe 4 (Q0 (decide_eq_true (p := ((k0 : Nat) : Int) < (f.2.2.2.2.length : Int)) (by omega))) p0)) ?_
  refine ckT ?_
  refine Qo ?_
  refine Qg ?_
  refine Q6 ?_
  refine sn Qc [1, 3, 5, 6, 7, 8, 26] [3, 5, 6] (pn 3 hx0 p0) ?_
  refine ck (!(a0.1.toList == name.toList)) (fun h3 => ?_) (fun h3 => ?_)
  ·
   refine wT 7 0 (.own true 147204) s0 (fun hw4 hl5 => ?_)
   refine qu Qc [(7, .one (.slc (.own true 2176) 4 ((eL s0) ++ [[.s a0.1, .i a0.2.1, .i a0.2.2.1, .s a0.2.2.2]])))] [7, 16] [] [] (pn 4 hx0 (pa s0 [a0] p0)) ?_
   refine eqn [(7, .o 2176 (s0 ++ [a0]))] [7] [] [] (by rw [show ((eL s0) ++ [[.s a0.1, .i a0.2.1, .i a0.2.2.1, .s a0.2.2.2]]) = (eL (s0 ++ [a0])) from app_eL (rfl) (rfl)]; first | done | kernel_rfl) ?_
   refine rn Qc [1, 3, 5, 6, 7, 8] [3, 5, 6] (pe 1 (av_i (Qy k0 (by omega))) p0) ?_
   exact Exists.intro (s0 ++ [a0]) (And.intro (X2 [(2176, 147204)] (by kernel_rfl)) ⟨Q4 hx0 (Xm h3 (rfl)) hI0.1, by first | omega | (simp; omega) | simp⟩)
  ·
   refine Qo ?_
   refine qn Qc [1, 3, 5, 6, 7, 8] [3, 5, 6] (pe 1 (av_i (Qy k0 (by omega))) p0) ?_
   exact Exists.intro s0 (And.intro (Qf (by kernel_rfl)) ⟨Q4 hx0 (Qz h3 (rfl)) hI0.1, by first | omega | (simp; omega) | simp⟩)
 ·
  have hA0_0 := hI0.2
  refine Qg ?_
  refine su Qc [(16, .b false)] [] [] [] (pl 3 f.2.2.2.2 (pe 4 (Q0 (decide_eq_false (p := ((k0 : Nat) : Int) < (f.2.2.2.2.length : Int)) (by omega))) p0)) ?_
  refine ckF ?_
  refine Xc ?_
  exact Exists.intro s0 (And.intro (X2 [(147204, 147354)] (by kernel_rfl)) ⟨Xr hk0 (rfl) hI0.1, by first | omega | (simp only [List.length_set]; omega)⟩)
 ·
  have hD0_0 := hD0.2
  refine Qg ?_
  refine sn Qc [1, 3, 5, 6, 7, 37] [3, 5, 6] (p0) ?_
  refine ck (v.1 != (0 : Int)) (fun h6 => ?_) (fun h6 => ?_)
  ·
   have h6d := ne_of_bne h6
   refine tu Qc [(9, .i 0)] [] [] [] (p0) ?_
   refine Qg ?_
   refine wT 7 0 (.own true 147354) y0 (fun hw7 hl8 => ?_)
   refine blk (fun (k1 : Nat) (s1 : Unit) => [(9, .i ((k1 : Nat) : Int))]) [9] (fun k1 s1 => []) [] (fun (y1 : Int) => [(9, .i y1)]) [9] (fun y1 => []) [] (fun (k1 : Nat) (s1 : Unit) => (Xg (specSetAttr_f1 name) specSetAttr_e1 y0 0 ()) = Xg (specSetAttr_f1 name) specSetAttr_e1 (List.drop k1 y0) k1 s1) (fun (y1 : Int) => (Xg (specSetAttr_f1 name) specSetAttr_e1 y0 0 ()) = .brk y1 ∧ 0 ≤ y1 ∧ y1 ≤ (y0.length : Int)) y0.length () (Qf (by kernel_rfl)) rfl (fun k1 s1 hk1 hI1 => ?_) (fun k1 s1 hk1 hI1 => ?_) (fun y1 hD1 => ?_)
   ·
    obtain ⟨a1, hx1⟩ := Xq (l := y0) (i := k1) hk1
    refine Qg ?_
    refine sn Qc [1, 3, 5, 6, 7, 9, 50] [3, 5, 6] (pl 2 y0 (pe 3 (Q0 (decide_eq_true (p := ((k1 : Nat) : Int) < (y0.length : Int)) (by omega))) (pN 7 hx1 p0))) ?_
    refine ck (Op.bytesLess a1.1.toList name.toList || a1.1.toList == name.toList) (fun h9 => ?_) (fun h9 => ?_)
    ·
     refine Qo ?_
     refine Q6 ?_
     refine qn Qc [1, 3, 5, 6, 7, 9] [3, 5, 6] (pe 1 (av_i (Qy k1 (by omega))) p0) ?_
     exact Exists.intro _ (And.intro (Qf (by kernel_rfl)) (Q4 hx1 (Xm h9 (rfl)) hI1))
    ·
     refine Xc ?_
     exact Exists.intro ((k1 : Nat) : Int) (And.intro (Qf (by kernel_rfl)) ⟨forL_brk hx1 (Qz h9 (rfl)) hI1, by first | omega | (simp only [List.length_set]; omega)⟩)
   ·
    refine Qg ?_
    refine su Qc [(50, .b false)] [] [] [] (pl 2 y0 (pe 3 (Q0 (decide_eq_false (p := ((k1 : Nat) : Int) < (y0.length : Int)) (by omega))) p0)) ?_
    refine ckF ?_
    refine Xc ?_
    exact Exists.intro ((k1 : Nat) : Int) (And.intro (Qf (by kernel_rfl)) ⟨Xr hk1 (rfl) hI1, by first | omega | (simp only [List.length_set]; omega)⟩)
   ·
    have hD1_0 := hD1.2
    have hl10 : List.length (List.take (Int.toNat y1) y0) ≤ 1073741824 := wide_len (wide_take (Int.toNat y1) (hw7))
    refine sU Qc Z4 [(10, .one (.slc (.own true 3968) 4 (([] ++ (eL (List.take (Int.toNat y1) y0))) ++ [[.s name, .i v.1, .i v.2.1, .s v.2.2]])))] [1, 5] [] [5] (pe 3 (av_take (.vw 147354) 4 (Int.toNat y1) y1 y0 rfl) (px (ob_rng (lo := 0) (hi := y1) (n := (List.length (eL y0))) (rng_of (by omega) (by omega) (by omega))) (po 4 (.flat) (px (ob_len (n := (([] : List (List PV)).length + ((eL (List.take (Int.toNat y1) y0)) : List (List PV)).length)) (len_of (rfl) (Zc (List.take (Int.toNat y1) y0)) (by first | omega | (simp only [List.length_cons, List.length_nil]; omega) | (simp; omega) | simp))) (px (ob_flat (flat_eL (List.take (Int.toNat y1) y0))) (px (ob_len (n := ((([] ++ (eL (List.take (Int.toNat y1) y0))) : List (List PV)).length + ([[.s name, .i v.1, .i v.2.1, .s v.2.2]] : List (List PV)).length)) (by simp [Zc]; omega)) p0)))))) ?_
    refine eqn [(10, .o 3968 (List.take (Int.toNat y1) y0 ++ [(name, v)]))] [10] [] [] (by rw [show (([] ++ (eL (List.take (Int.toNat y1) y0))) ++ [[.s name, .i v.1, .i v.2.1, .s v.2.2]]) = (eL (List.take (Int.toNat y1) y0 ++ [(name, v)])) from app_eL (rfl) (rfl)]; first | done | kernel_rfl) ?_
    refine wT 10 0 (.own true 3968) (List.take (Int.toNat y1) y0 ++ [(name, v)]) (fun hw11 hl12 => ?_)
    have hl13 : List.length (List.drop (Int.toNat y1) y0) ≤ 1073741824 := wide_len (wide_drop (Int.toNat y1) (hw7))
    refine ru Qc [(7, .one (.slc (.own true 4288) 4 ((eL (List.take (Int.toNat y1) y0 ++ [(name, v)])) ++ (eL (List.drop (Int.toNat y1) y0)))))] [7, 9, 10] [] [] (pe 3 (av_drop (.vw 147354) 4 (Int.toNat y1) y1 y0 rfl) (px (ob_rng (lo := y1) (hi := (((eL y0) : List (List PV)).length : Int)) (n := (List.length (eL y0))) (rng_all (by omega) (by omega))) (po 4 (.flat) (pa (List.take (Int.toNat y1) y0 ++ [(name, v)]) (List.drop (Int.toNat y1) y0) (px (ob_flat (flat_eL (List.drop (Int.toNat y1) y0))) p0))))) ?_
    refine eqn [(7, .o 4288 (List.take (Int.toNat y1) y0 ++ [(name, v)] ++ (List.drop (Int.toNat y1) y0)))] [7] [] [] (by rw [show ((eL (List.take (Int.toNat y1) y0 ++ [(name, v)])) ++ (eL (List.drop (Int.toNat y1) y0))) = (eL (List.take (Int.toNat y1) y0 ++ [(name, v)] ++ (List.drop (Int.toNat y1) y0))) from app_eL (rfl) (rfl)]; first | done | kernel_rfl) ?_
    refine sn Qc [3, 6] [3, 6] (p0) ?_
    refine tn Qc [6] [6] (p0) ?_
    refine Qp ?_
    exact Ye [] (congrArg (fun z => (.a [.i z.1, .i z.2.1, .b z.2.2.1, .i z.2.2.2.1, .o 0 z.2.2.2.2] : AV)) (show specSetAttr f name v = _ from on_b hD0.1 (Xm h6 (on_b hD1.1 (rfl)))).symm)
  ·
   refine Qo ?_
   refine tn Qc [3, 6] [3, 6] (p0) ?_
   refine tu Qc [] [1, 3, 5, 7] [(6, [.i f.1, .i f.2.1, .b f.2.2.1, .i f.2.2.2.1, .o 147354 y0])] [3, 5, 6] (p0) ?_
   refine Qp ?_
   exact Ye [] (congrArg (fun z => (.a [.i z.1, .i z.2.1, .b z.2.2.1, .i z.2.2.2.1, .o 0 z.2.2.2.2] : AV)) (show specSetAttr f name v = _ from on_b hD0.1 (Qz h6 (rfl))).symm)
def specCreateFile (s_ : Yl) (f : Xt) : Yl × Int × Bool := (bif ((!(Zx (Xd s_))) || (decide ((((Xd s_).2.1).length : Int) ≥ (12 : Int)) || (!(specIsValidFile ((Xd s_).1) ((Xd s_).2.2, (Q3 f).2.1, (Q3 f).2.2.1, (Q3 f).2.2.2.1, (Q3 f).2.2.2.2))))) then ((Xd s_), 0, false) else (((Xd s_).1, (Xd s_).2.1 ++ [((Xd s_).2.2, (Q3 f).2.1, (Q3 f).2.2.1, (Q3 f).2.2.2.1, (Q3 f).2.2.2.2)], IntKind.i64.wrap ((Xd s_).2.2 + 1)), (Xd s_).2.2, true))
theorem specCreateFile_a (s_ : Yl) (f : Xt) : ACalls Tryz.prog 14 [.a [.h s_.1, .h s_.2.1, .i s_.2.2], .a [.i f.1, .i f.2.1, .b f.2.2.1, .i f.2.2.2.1, .h f.2.2.2.2]] (.tup [(true, [.o 0 ((((specCreateFile s_ f)).1).1), .o 1 ((((specCreateFile s_ f)).1).2.1), .i ((((specCreateFile s_ f)).1).2.2)]), (false, [.i (((specCreateFile s_ f)).2.1)]), (false, [.b (((specCreateFile s_ f)).2.2)])]) := by
 refine en Qc Tryz.func14 fun w0 F0 hG => ?_
 refine sn Qc [2, 3, 4, 5, 6] [2, 3, 4] (p0) ?_
 refine tn Qc [2, 3, 4, 5, 6] [2, 3, 4] (pc 1 (specl05Copy_a s_) p0) ?_
 refine tu Qc [(2, .p 2 0), (3, .p 3 0), (4, .p 4 0), (5, .i 0), (6, .b false)] [0, 1] [(2, [.o 512 ((Xd s_).1), .o 513 ((Xd s_).2.1), .i ((Xd s_).2.2)]), (3, [.i ((Q3 f).1), .i ((Q3 f).2.1), .b ((Q3 f).2.2.1), .i ((Q3 f).2.2.2.1), .o 640 ((Q3 f).2.2.2.2)]), (4, [.e 2, .e 5, .i 0])] [] (pc 1 (specl04Copy_a f) p0) ?_
 refine sn Qc [2, 3, 4, 5, 6] [2, 3, 4] (p0) ?_
 refine Qg ?_
 refine Qg ?_
 refine mz [] [] [(3, [.i ((Xd s_).2.2), .i ((Q3 f).2.1), .b ((Q3 f).2.2.1), .i ((Q3 f).2.2.2.1), .o 640 ((Q3 f).2.2.2.2)])] [3] ?_
 refine jn [(29, .b ((!(Zx (Xd s_))) || (decide ((((Xd s_).2.1).length : Int) ≥ (12 : Int)) || (!(specIsValidFile ((Xd s_).1) ((Xd s_).2.2, (Q3 f).2.1, (Q3 f).2.2.1, (Q3 f).2.2.2.1, (Q3 f).2.2.2.2))))))] [] [] [] (!(Zx (Xd s_))) (fun h1 => ?_) (fun h1 => ?_) ?_
 ·
  have h1n : (Zx (Xd s_)) = false := bnot_t h1
  refine ru Qc [(29, .b true)] [] [] [] (pc 1 (cb h1n (specIsValidStore_a (Xd s_))) (pe 2 (show .b (!false) = .b true from rfl) p0)) ?_
  exact ⟨rfl, Qf (by rw [h1]; first | done | kernel_rfl)⟩
 ·
  have h1n : (Zx (Xd s_)) = true := Jd h1
  refine Xw (decide ((((Xd s_).2.1).length : Int) ≥ (12 : Int))) (fun h2 => ?_) (fun h2 => ?_)
  ·
   refine ru Qc [(29, .b true)] [] [] [] (pc 1 (cb h1n (specIsValidStore_a (Xd s_))) (pe 2 (show .b (!true) = .b false from rfl) (pl 6 ((Xd s_).2.1) (pt 7 h2 p0)))) ?_
   exact ⟨rfl, Qf (by rw [h1, h2]; first | done | kernel_rfl)⟩
  ·
   refine rn Qc [2, 3, 4, 5, 6, 29] [2, 3, 4] (pc 1 (cb h1n (specIsValidStore_a (Xd s_))) (pe 2 (show .b (!true) = .b false from rfl) (pl 6 ((Xd s_).2.1) (pf 7 h2 (pc 13 (specIsValidFile_a ((Xd s_).1) ((Xd s_).2.2, (Q3 f).2.1, (Q3 f).2.2.1, (Q3 f).2.2.2.1, (Q3 f).2.2.2.2)) p0))))) ?_
   exact ⟨rfl, Qf (by rw [h1, h2]; first | done | kernel_rfl)⟩
 refine ck ((!(Zx (Xd s_))) || (decide ((((Xd s_).2.1).length : Int) ≥ (12 : Int)) || (!(specIsValidFile ((Xd s_).1) ((Xd s_).2.2, (Q3 f).2.1, (Q3 f).2.2.1, (Q3 f).2.2.2.1, (Q3 f).2.2.2.2))))) (fun h3 => ?_) (fun h3 => ?_)
 ·
  refine sn Qc [2, 3, 4, 5, 6] [2, 3, 4] (p0) ?_
  refine Qp ?_
  exact Ye [] (congrArg (fun z => (.tup [(true, [.o 0 z.1.1, .o 1 z.1.2.1, .i z.1.2.2]), (false, [.i z.2.1]), (false, [.b z.2.2])] : AV)) (show specCreateFile s_ f = _ from Xm h3 (rfl)).symm)
 ·
  have h3r : ((decide ((((Xd s_).2.1).length : Int) ≥ (12 : Int)) || (!(specIsValidFile ((Xd s_).1) ((Xd s_).2.2, (Q3 f).2.1, (Q3 f).2.2.1, (Q3 f).2.2.2.1, (Q3 f).2.2.2.2))))) = false := or_r h3
  have h3rl : (decide ((((Xd s_).2.1).length : Int) ≥ (12 : Int))) = false := or_l h3r
  have h3rld := of_decide_eq_false h3rl
  refine Qo ?_
  refine wB 2 1 (.own true 513) ((Xd s_).2.1) (fun hw4 hl5 => ?_)
  refine su Qc [] [29] [(2, [.o 512 ((Xd s_).1), .slc (.own true 2240) 5 ((eL ((Xd s_).2.1)) ++ [[.i ((Xd s_).2.2), .i ((Q3 f).2.1), .b ((Q3 f).2.2.1), .i ((Q3 f).2.2.2.1), .h ((Q3 f).2.2.2.2)]]), .i ((Xd s_).2.2)]), (3, [.i ((Xd s_).2.2), .i ((Q3 f).2.1), .b ((Q3 f).2.2.1), .i ((Q3 f).2.2.2.1), .dead])] [2, 3] (pa ((Xd s_).2.1) [((Xd s_).2.2, (Q3 f).2.1, (Q3 f).2.2.1, (Q3 f).2.2.2.1, (Q3 f).2.2.2.2)] p0) ?_
  refine eqn [] [] [(2, [.o 512 ((Xd s_).1), .o 2240 ((Xd s_).2.1 ++ [((Xd s_).2.2, (Q3 f).2.1, (Q3 f).2.2.1, (Q3 f).2.2.2.1, (Q3 f).2.2.2.2)]), .i ((Xd s_).2.2)])] [2] (by rw [show ((eL ((Xd s_).2.1)) ++ [[.i ((Xd s_).2.2), .i ((Q3 f).2.1), .b ((Q3 f).2.2.1), .i ((Q3 f).2.2.2.1), .h ((Q3 f).2.2.2.2)]]) = (eL ((Xd s_).2.1 ++ [((Xd s_).2.2, (Q3 f).2.1, (Q3 f).2.2.1, (Q3 f).2.2.2.1, (Q3 f).2.2.2.2)])) from app_eL (rfl) (rfl)]; first | done | kernel_rfl) ?_
  refine sn Qc [2, 3, 4, 5, 6] [2, 3, 4] (p0) ?_
  refine tN Qc Z4 [4, 5, 6] [4] (p0) ?_
  refine Qp ?_
  exact Ye [] (congrArg (fun z => (.tup [(true, [.o 0 z.1.1, .o 1 z.1.2.1, .i z.1.2.2]), (false, [.i z.2.1]), (false, [.b z.2.2])] : AV)) (show specCreateFile s_ f = _ from Qz h3 (rfl)).symm)
def Qt (n : Int) : Yl := (((specCreateFile (specNewStore specDefaultSchema) (specSetAttr (0, 0, false, 0, []) ⟨#[97]⟩ (Qn n)))).1)
theorem lawssampleStore_a (n : Int) : ACalls Tryz.prog 32 [.i n] (.a [.o 0 ((Qt n).1), .o 1 ((Qt n).2.1), .i ((Qt n).2.2)]) := by
 refine en Qc Tryz.func32 fun w0 F0 hG => ?_
 refine sn Qc [0, 2] [2] (p0) ?_
 refine tn Qc [2, 3] [2, 3] (pc 0 (specDefaultSchema_a) (pc 1 (specNewStore_a specDefaultSchema) (pc 4 (specIntValue_a n) (pc 5 (specSetAttr_a (0, 0, false, 0, []) ⟨#[97]⟩ (Qn n) (by first | omega | (simp; done) | (simp; omega))) (pc 6 (specCreateFile_a (specNewStore specDefaultSchema) (specSetAttr (0, 0, false, 0, []) ⟨#[97]⟩ (Qn n))) p0))))) ?_
 refine tu Qc [(2, .p 2 0)] [0] [(2, [.o 832 ((((specCreateFile (specNewStore specDefaultSchema) (specSetAttr (0, 0, false, 0, []) ⟨#[97]⟩ (Qn n)))).1).1), .o 833 ((((specCreateFile (specNewStore specDefaultSchema) (specSetAttr (0, 0, false, 0, []) ⟨#[97]⟩ (Qn n)))).1).2.1), .i ((((specCreateFile (specNewStore specDefaultSchema) (specSetAttr (0, 0, false, 0, []) ⟨#[97]⟩ (Qn n)))).1).2.2)])] [] (p0) ?_
 refine Qp ?_
 exact Ye [] (congrArg (fun z => (.a [.o 0 z.1, .o 1 z.2.1, .i z.2.2] : AV)) (show Qt n = (((specCreateFile (specNewStore specDefaultSchema) (specSetAttr (0, 0, false, 0, []) ⟨#[97]⟩ (Qn n)))).1) from rfl).symm)
open GoE (enc wide)
def lawsbig (code : (List UInt8)) : Bool := decide ((code.length : Int) > (1048576 : Int))
theorem lawsbig_a (code : (List UInt8)) : ACalls Tryz.prog 8 [.h code] (.b (lawsbig code)) := by
 refine en Qc Tryz.func8 fun w0 F0 hG => ?_
 refine sn Qc [0, 2] [] (p0) ?_
 refine tn Qc [2] [] (pl 1 code p0) ?_
 refine Qp ?_
 exact Ye [] (congrArg (fun z => (.b z : AV)) (show lawsbig code = decide ((code.length : Int) > (1048576 : Int)) from rfl).symm)
def lawssameAttrs_f0 (b : (List Zk)) (k0 : Nat) (a0 : Zk) (_ : Unit) : Rd (Bool) (Unit) (Unit) := (bif (!((a0.1.toList == ((nth b k0).1).toList) && ((a0.2.1 == (nth b k0).2.1) && ((a0.2.2.1 == (nth b k0).2.2.1) && ((a0.2.2.2.toList == ((nth b k0).2.2.2).toList) && true))))) then (.ret false) else (.next ()))
def lawssameAttrs_e0 (_ : Nat) (_ : Unit) : Unit := ()
def lawssameAttrs (a_ : (List Zk)) (b : (List Zk)) : Bool := (bif ((a_.length : Int) != (b.length : Int)) then false else (Out.on (Xg (lawssameAttrs_f0 b) lawssameAttrs_e0 a_ 0 ()) (fun _ => true)))
theorem lawssameAttrs_a (a_ : (List Zk)) (b : (List Zk)) : ACalls Tryz.prog 34 [.h a_, .h b] (.b (lawssameAttrs a_ b)) := by
 refine en Qc Tryz.func34 fun w0 F0 hG => ?_
 refine sn Qc [0, 1, 4] [] (p0) ?_
 refine Qg ?_
 refine tn Qc [0, 1, 4, 10] [] (pl 1 a_ (pl 3 b p0)) ?_
 refine ck ((a_.length : Int) != (b.length : Int)) (fun h1 => ?_) (fun h1 => ?_)
 ·
  refine tu Qc [(4, .b false)] [] [] [] (p0) ?_
  refine Qp ?_
  exact Ye [] (congrArg (fun z => (.b z : AV)) (show lawssameAttrs a_ b = _ from Xm h1 (rfl)).symm)
 ·
  have h1d := eq_of_bne h1
  refine Qo ?_
  refine Qg ?_
  refine tu Qc [(4, .b false), (5, .i 0)] [] [] [] (p0) ?_
  refine wT 0 0 .sh a_ (fun hw2 hl3 => ?_)
  refine blk (fun (k0 : Nat) (s0 : Unit) => [(5, .i ((k0 : Nat) : Int))]) [5] (fun k0 s0 => []) [] (fun (y0 : Unit) => []) [0, 1, 5] (fun y0 => []) [] (fun (k0 : Nat) (s0 : Unit) => (Xg (lawssameAttrs_f0 b) lawssameAttrs_e0 a_ 0 ()) = Xg (lawssameAttrs_f0 b) lawssameAttrs_e0 (List.drop k0 a_) k0 s0) (fun (y0 : Unit) => (Xg (lawssameAttrs_f0 b) lawssameAttrs_e0 a_ 0 ()) = .brk y0) a_.length () (Qf (by kernel_rfl)) rfl (fun k0 s0 hk0 hI0 => ?_) (fun k0 s0 hk0 hI0 => ?_) (fun y0 hD0 => ?_)
  ·
   obtain ⟨a0, hx0⟩ := Xq (l := a_) (i := k0) hk0
   refine Qg ?_
   refine sn Qc [0, 1, 4, 5, 14] [] (pl 2 a_ (pe 3 (Q0 (decide_eq_true (p := ((k0 : Nat) : Int) < (a_.length : Int)) (by omega))) p0)) ?_
   refine ckT ?_
   refine Qo ?_
   refine Qg ?_
   refine Q6 ?_
   refine wT 1 0 .sh b (fun hw5 hl6 => ?_)
   have hx4 : b[k0]? = some (nth b k0) := Xv (by omega)
   refine tN Qc Z4 [0, 1, 4, 5, 25] [] (pn 2 hx0 (pn 6 hx4 p0)) ?_
   refine ck (!((a0.1.toList == ((nth b k0).1).toList) && ((a0.2.1 == (nth b k0).2.1) && ((a0.2.2.1 == (nth b k0).2.2.1) && ((a0.2.2.2.toList == ((nth b k0).2.2.2).toList) && true))))) (fun h7 => ?_) (fun h7 => ?_)
   ·
    refine tu Qc [] [] [] [] (p0) ?_
    refine Qp ?_
    have hr8 : (Xg (lawssameAttrs_f0 b) lawssameAttrs_e0 a_ 0 ()) = .ret false := Zw hx0 (Xm h7 (rfl)) hI0
    exact Ye [] (congrArg (fun z => (.b z : AV)) (show lawssameAttrs a_ b = _ from Qz h1 (on_r hr8)).symm)
   ·
    have h7n : ((a0.1.toList == ((nth b k0).1).toList) && ((a0.2.1 == (nth b k0).2.1) && ((a0.2.2.1 == (nth b k0).2.2.1) && ((a0.2.2.2.toList == ((nth b k0).2.2.2).toList) && true)))) = true := Jd h7
    have h7nr : (((a0.2.1 == (nth b k0).2.1) && ((a0.2.2.1 == (nth b k0).2.2.1) && ((a0.2.2.2.toList == ((nth b k0).2.2.2).toList) && true)))) = true := and_r h7n
    have h7nrl : ((a0.2.1 == (nth b k0).2.1)) = true := and_l h7nr
    have h7nrld := eq_of_beq h7nrl
    have h7nrr : (((a0.2.2.1 == (nth b k0).2.2.1) && ((a0.2.2.2.toList == ((nth b k0).2.2.2).toList) && true))) = true := and_r h7nr
    have h7nrrl : ((a0.2.2.1 == (nth b k0).2.2.1)) = true := and_l h7nrr
    have h7nrrld := eq_of_beq h7nrrl
    refine Qo ?_
    refine qu Qc [(5, .i ((k0 + 1 : Nat) : Int))] [5] [] [] (pe 1 (av_i (Qy k0 (by omega))) p0) ?_
    exact Exists.intro _ (And.intro (Qf (by kernel_rfl)) (Q4 hx0 (Qz h7 (rfl)) hI0))
  ·
   refine Qg ?_
   refine sn Qc [0, 1, 4, 5, 14] [] (pl 2 a_ (pe 3 (Q0 (decide_eq_false (p := ((k0 : Nat) : Int) < (a_.length : Int)) (by omega))) p0)) ?_
   refine ckF ?_
   refine Xc ?_
   exact Exists.intro _ (And.intro (Qf (by kernel_rfl)) (Xr hk0 (rfl) hI0))
  ·
   refine sn Qc [4] [] (p0) ?_
   refine Qp ?_
   exact Ye [] (congrArg (fun z => (.b z : AV)) (show lawssameAttrs a_ b = _ from Qz h1 (on_b hD0 (rfl))).symm)
def specFindFile (s_ : Yl) (id : Int) : Xt × Bool := (bif decide ((specl05Place s_ id) < (0 : Int)) then ((0, 0, false, 0, []), false) else ((Q3 (nth s_.2.1 (Int.toNat (specl05Place s_ id)))), true))
theorem specFindFile_a (s_ : Yl) (id : Int) : ACalls Tryz.prog 59 [.a [.h s_.1, .h s_.2.1, .i s_.2.2], .i id] (.tup [(true, [.i ((((specFindFile s_ id)).1).1), .i ((((specFindFile s_ id)).1).2.1), .b ((((specFindFile s_ id)).1).2.2.1), .i ((((specFindFile s_ id)).1).2.2.2.1), .o 0 ((((specFindFile s_ id)).1).2.2.2.2)]), (false, [.b (((specFindFile s_ id)).2)])]) := by
 refine en Qc Tryz.func59 fun w0 F0 hG => ?_
 refine sn Qc [1, 2, 4, 5] [2, 4] (p0) ?_
 refine tn Qc [2, 4, 5, 6] [2, 4] (pc 2 (specl05Place_a s_ id) p0) ?_
 refine Qg ?_
 refine tu Qc [(2, .p 2 0), (4, .p 4 0), (5, .b false), (6, .i (specl05Place s_ id)), (11, .b (decide ((specl05Place s_ id) < (0 : Int))))] [0, 1] [(2, [.h s_.1, .h s_.2.1, .i s_.2.2]), (4, [.i 0, .i 0, .b false, .i 0, .e 4])] [] (p0) ?_
 refine ck (decide ((specl05Place s_ id) < (0 : Int))) (fun h1 => ?_) (fun h1 => ?_)
 ·
  refine su Qc [] [11] [] [] (p0) ?_
  refine opn [(true, 4, 4, true, 384000, 4)] ?_
  refine Qp ?_
  exact Ye [] (congrArg (fun z => (.tup [(true, [.i z.1.1, .i z.1.2.1, .b z.1.2.2.1, .i z.1.2.2.2.1, .o 0 z.1.2.2.2.2]), (false, [.b z.2])] : AV)) (show specFindFile s_ id = _ from Xm h1 (rfl)).symm)
 ·
  have h1p := fat_ltS s_ id
  have h1d := of_decide_eq_false h1
  refine Qo ?_
  refine wB 2 1 .sh s_.2.1 (fun hw3 hl4 => ?_)
  have hx2 : s_.2.1[(Int.toNat (specl05Place s_ id))]? = some (nth s_.2.1 (Int.toNat (specl05Place s_ id))) := Xv (by omega)
  refine sn Qc [4, 5] [4] (pg 3 (specl05Place s_ id) hx2 (pc 5 (specl04Copy_a (nth s_.2.1 (Int.toNat (specl05Place s_ id)))) p0)) ?_
  refine Qp ?_
  exact Ye [] (congrArg (fun z => (.tup [(true, [.i z.1.1, .i z.1.2.1, .b z.1.2.2.1, .i z.1.2.2.2.1, .o 0 z.1.2.2.2.2]), (false, [.b z.2])] : AV)) (show specFindFile s_ id = _ from Qz h1 (rfl)).symm)
def lawsfileOf (s_ : Yl) (id : Int) : Xt := (((specFindFile s_ id)).1)
theorem lawsfileOf_a (s_ : Yl) (id : Int) : ACalls Tryz.prog 19 [.a [.h s_.1, .h s_.2.1, .i s_.2.2], .i id] (.a [.i ((lawsfileOf s_ id).1), .i ((lawsfileOf s_ id).2.1), .b ((lawsfileOf s_ id).2.2.1), .i ((lawsfileOf s_ id).2.2.2.1), .o 0 ((lawsfileOf s_ id).2.2.2.2)]) := by
 refine en Qc Tryz.func19 fun w0 F0 hG => ?_
 refine sn Qc [1, 2, 4] [2, 4] (p0) ?_
 refine tn Qc [4, 5] [4, 5] (pc 2 (specFindFile_a s_ id) p0) ?_
 refine tu Qc [(4, .p 4 0)] [0, 1] [(4, [.i ((((specFindFile s_ id)).1).1), .i ((((specFindFile s_ id)).1).2.1), .b ((((specFindFile s_ id)).1).2.2.1), .i ((((specFindFile s_ id)).1).2.2.2.1), .o 640 ((((specFindFile s_ id)).1).2.2.2.2)])] [] (p0) ?_
 refine Qp ?_
 exact Ye [] (congrArg (fun z => (.a [.i z.1, .i z.2.1, .b z.2.2.1, .i z.2.2.2.1, .o 0 z.2.2.2.2] : AV)) (show lawsfileOf s_ id = (((specFindFile s_ id)).1) from rfl).symm)
def lawsFnAddExample (code : (List UInt8)) : Bool := (bif (lawsbig code) then true else (((Q2 (((Qu (Qt (Int.tmod (nth (Qe code) 1) 9)) [((⟨#[100, 97]⟩, [((3, 0, 0, ⟨#[98]⟩, (Qn (IntKind.i64.wrap (1 + Int.tmod (nth (Qe code) 0) 9)))) : Xa)]) : X1), ((⟨#[100, 98]⟩, [((4, 0, 0, ⟨#[98]⟩, (Qn (IntKind.i64.wrap (1 + Int.tmod (nth (Qe code) 0) 9)))) : Xa)]) : X1)])).1) 0 ⟨#[100, 97]⟩ 1)).2.2 && ((!(((Q2 (((Qu (Qt (Int.tmod (nth (Qe code) 1) 9)) [((⟨#[100, 97]⟩, [((3, 0, 0, ⟨#[98]⟩, (Qn (IntKind.i64.wrap (1 + Int.tmod (nth (Qe code) 0) 9)))) : Xa)]) : X1), ((⟨#[100, 98]⟩, [((4, 0, 0, ⟨#[98]⟩, (Qn (IntKind.i64.wrap (1 + Int.tmod (nth (Qe code) 0) 9)))) : Xa)]) : X1)])).1) 1 ⟨#[100, 97]⟩ 1)).2.2)) && ((!(((Q2 (((Qu (Qt (Int.tmod (nth (Qe code) 1) 9)) [((⟨#[100, 97]⟩, [((3, 0, 0, ⟨#[98]⟩, (Qn (IntKind.i64.wrap (1 + Int.tmod (nth (Qe code) 0) 9)))) : Xa)]) : X1), ((⟨#[100, 98]⟩, [((4, 0, 0, ⟨#[98]⟩, (Qn (IntKind.i64.wrap (1 + Int.tmod (nth (Qe code) 0) 9)))) : Xa)]) : X1)])).1) 0 ⟨#[100, 98]⟩ 1)).2.2)) && ((lawssameAttrs (((Q2 (((Qu (Qt (Int.tmod (nth (Qe code) 1) 9)) [((⟨#[100, 97]⟩, [((3, 0, 0, ⟨#[98]⟩, (Qn (IntKind.i64.wrap (1 + Int.tmod (nth (Qe code) 0) 9)))) : Xa)]) : X1), ((⟨#[100, 98]⟩, [((4, 0, 0, ⟨#[98]⟩, (Qn (IntKind.i64.wrap (1 + Int.tmod (nth (Qe code) 0) 9)))) : Xa)]) : X1)])).1) 0 ⟨#[100, 97]⟩ 1)).2.1) [((⟨#[98]⟩, (Qn (IntKind.i64.wrap (1 + Int.tmod (nth (Qe code) 0) 9)))) : Zk)]) && (((Y5 (lawsfileOf ((((Q2 (((Qu (Qt (Int.tmod (nth (Qe code) 1) 9)) [((⟨#[100, 97]⟩, [((3, 0, 0, ⟨#[98]⟩, (Qn (IntKind.i64.wrap (1 + Int.tmod (nth (Qe code) 0) 9)))) : Xa)]) : X1), ((⟨#[100, 98]⟩, [((4, 0, 0, ⟨#[98]⟩, (Qn (IntKind.i64.wrap (1 + Int.tmod (nth (Qe code) 0) 9)))) : Xa)]) : X1)])).1) 0 ⟨#[100, 97]⟩ 1)).1).1.1, (((Q2 (((Qu (Qt (Int.tmod (nth (Qe code) 1) 9)) [((⟨#[100, 97]⟩, [((3, 0, 0, ⟨#[98]⟩, (Qn (IntKind.i64.wrap (1 + Int.tmod (nth (Qe code) 0) 9)))) : Xa)]) : X1), ((⟨#[100, 98]⟩, [((4, 0, 0, ⟨#[98]⟩, (Qn (IntKind.i64.wrap (1 + Int.tmod (nth (Qe code) 0) 9)))) : Xa)]) : X1)])).1) 0 ⟨#[100, 97]⟩ 1)).1).1.2.1, (((Q2 (((Qu (Qt (Int.tmod (nth (Qe code) 1) 9)) [((⟨#[100, 97]⟩, [((3, 0, 0, ⟨#[98]⟩, (Qn (IntKind.i64.wrap (1 + Int.tmod (nth (Qe code) 0) 9)))) : Xa)]) : X1), ((⟨#[100, 98]⟩, [((4, 0, 0, ⟨#[98]⟩, (Qn (IntKind.i64.wrap (1 + Int.tmod (nth (Qe code) 0) 9)))) : Xa)]) : X1)])).1) 0 ⟨#[100, 97]⟩ 1)).1).1.2.2) 1) ⟨#[98]⟩).1 == (Qn (IntKind.i64.wrap (1 + Int.tmod (nth (Qe code) 0) 9))).1) && (((Y5 (lawsfileOf ((((Q2 (((Qu (Qt (Int.tmod (nth (Qe code) 1) 9)) [((⟨#[100, 97]⟩, [((3, 0, 0, ⟨#[98]⟩, (Qn (IntKind.i64.wrap (1 + Int.tmod (nth (Qe code) 0) 9)))) : Xa)]) : X1), ((⟨#[100, 98]⟩, [((4, 0, 0, ⟨#[98]⟩, (Qn (IntKind.i64.wrap (1 + Int.tmod (nth (Qe code) 0) 9)))) : Xa)]) : X1)])).1) 0 ⟨#[100, 97]⟩ 1)).1).1.1, (((Q2 (((Qu (Qt (Int.tmod (nth (Qe code) 1) 9)) [((⟨#[100, 97]⟩, [((3, 0, 0, ⟨#[98]⟩, (Qn (IntKind.i64.wrap (1 + Int.tmod (nth (Qe code) 0) 9)))) : Xa)]) : X1), ((⟨#[100, 98]⟩, [((4, 0, 0, ⟨#[98]⟩, (Qn (IntKind.i64.wrap (1 + Int.tmod (nth (Qe code) 0) 9)))) : Xa)]) : X1)])).1) 0 ⟨#[100, 97]⟩ 1)).1).1.2.1, (((Q2 (((Qu (Qt (Int.tmod (nth (Qe code) 1) 9)) [((⟨#[100, 97]⟩, [((3, 0, 0, ⟨#[98]⟩, (Qn (IntKind.i64.wrap (1 + Int.tmod (nth (Qe code) 0) 9)))) : Xa)]) : X1), ((⟨#[100, 98]⟩, [((4, 0, 0, ⟨#[98]⟩, (Qn (IntKind.i64.wrap (1 + Int.tmod (nth (Qe code) 0) 9)))) : Xa)]) : X1)])).1) 0 ⟨#[100, 97]⟩ 1)).1).1.2.2) 1) ⟨#[98]⟩).2.1 == (Qn (IntKind.i64.wrap (1 + Int.tmod (nth (Qe code) 0) 9))).2.1) && ((((Y5 (lawsfileOf ((((Q2 (((Qu (Qt (Int.tmod (nth (Qe code) 1) 9)) [((⟨#[100, 97]⟩, [((3, 0, 0, ⟨#[98]⟩, (Qn (IntKind.i64.wrap (1 + Int.tmod (nth (Qe code) 0) 9)))) : Xa)]) : X1), ((⟨#[100, 98]⟩, [((4, 0, 0, ⟨#[98]⟩, (Qn (IntKind.i64.wrap (1 + Int.tmod (nth (Qe code) 0) 9)))) : Xa)]) : X1)])).1) 0 ⟨#[100, 97]⟩ 1)).1).1.1, (((Q2 (((Qu (Qt (Int.tmod (nth (Qe code) 1) 9)) [((⟨#[100, 97]⟩, [((3, 0, 0, ⟨#[98]⟩, (Qn (IntKind.i64.wrap (1 + Int.tmod (nth (Qe code) 0) 9)))) : Xa)]) : X1), ((⟨#[100, 98]⟩, [((4, 0, 0, ⟨#[98]⟩, (Qn (IntKind.i64.wrap (1 + Int.tmod (nth (Qe code) 0) 9)))) : Xa)]) : X1)])).1) 0 ⟨#[100, 97]⟩ 1)).1).1.2.1, (((Q2 (((Qu (Qt (Int.tmod (nth (Qe code) 1) 9)) [((⟨#[100, 97]⟩, [((3, 0, 0, ⟨#[98]⟩, (Qn (IntKind.i64.wrap (1 + Int.tmod (nth (Qe code) 0) 9)))) : Xa)]) : X1), ((⟨#[100, 98]⟩, [((4, 0, 0, ⟨#[98]⟩, (Qn (IntKind.i64.wrap (1 + Int.tmod (nth (Qe code) 0) 9)))) : Xa)]) : X1)])).1) 0 ⟨#[100, 97]⟩ 1)).1).1.2.2) 1) ⟨#[98]⟩).2.2).toList == ((Qn (IntKind.i64.wrap (1 + Int.tmod (nth (Qe code) 0) 9))).2.2).toList) && true))))))))
theorem lawsFnAddExample_a (code : (List UInt8)) : ACalls Tryz.prog 6 [.h code] (.b (lawsFnAddExample code)) := by
 refine en Qc Tryz.func6 fun w0 F0 hG => ?_
 have hpl := places_len code
 have hp0 := (place_mod code 0 (by decide) (m := 9) (by decide)).2
 have hp1 := (place_mod code 1 (by decide) (m := 9) (by decide)).2
 refine sn Qc [0, 2] [] (p0) ?_
 refine Qg ?_
 refine tn Qc [0, 2, 18] [] (pc 1 (lawsbig_a code) p0) ?_
 refine ck (lawsbig code) (fun h1 => ?_) (fun h1 => ?_)
 ·
  refine tu Qc [(2, .b true)] [] [] [] (p0) ?_
  refine Qp ?_
  exact Ye [] (congrArg (fun z => (.b z : AV)) (show lawsFnAddExample code = _ from Xm h1 (rfl)).symm)
 ·
  refine Qo ?_
  refine tu Qc [(2, .b false), (3, .o 1280 (Qe code))] [0] [] [] (pc 1 (specDrawPlaces_a code) p0) ?_
  refine wT 3 0 (.own true 1280) (Qe code) (fun hw3 hl4 => ?_)
  have hx2 : (Qe code)[0]? = some (nth (Qe code) 0) := Xv (by omega)
  have hx2b := places_bd code _ (List.mem_of_getElem? hx2)
  refine sn Qc [2, 3, 4] [] (pG 1 0 hx2 (px (ob_nz (n := 9) (by omega)) (px (ob_inr (k := .i64) (n := Int.tmod (nth (Qe code) 0) 9) (inr_rem0 (by omega))) p0))) ?_
  refine tn Qc [2, 3, 4, 5] [] (pc 1 (specIntValue_a (IntKind.i64.wrap (1 + Int.tmod (nth (Qe code) 0) 9))) (pc 6 (specIntValue_a (IntKind.i64.wrap (1 + Int.tmod (nth (Qe code) 0) 9))) p0)) ?_
  have hx5 : (Qe code)[1]? = some (nth (Qe code) 1) := Xv (by omega)
  have hx5b := places_bd code _ (List.mem_of_getElem? hx5)
  refine tu Qc [(4, .i (IntKind.i64.wrap (1 + Int.tmod (nth (Qe code) 0) 9))), (6, .p 6 0)] [3] [(6, [.o 2816 ((((Qu (Qt (Int.tmod (nth (Qe code) 1) 9)) [((⟨#[100, 97]⟩, [((3, 0, 0, ⟨#[98]⟩, (Qn (IntKind.i64.wrap (1 + Int.tmod (nth (Qe code) 0) 9)))) : Xa)]) : X1), ((⟨#[100, 98]⟩, [((4, 0, 0, ⟨#[98]⟩, (Qn (IntKind.i64.wrap (1 + Int.tmod (nth (Qe code) 0) 9)))) : Xa)]) : X1)])).1).1.1), .o 2817 ((((Qu (Qt (Int.tmod (nth (Qe code) 1) 9)) [((⟨#[100, 97]⟩, [((3, 0, 0, ⟨#[98]⟩, (Qn (IntKind.i64.wrap (1 + Int.tmod (nth (Qe code) 0) 9)))) : Xa)]) : X1), ((⟨#[100, 98]⟩, [((4, 0, 0, ⟨#[98]⟩, (Qn (IntKind.i64.wrap (1 + Int.tmod (nth (Qe code) 0) 9)))) : Xa)]) : X1)])).1).1.2.1), .i ((((Qu (Qt (Int.tmod (nth (Qe code) 1) 9)) [((⟨#[100, 97]⟩, [((3, 0, 0, ⟨#[98]⟩, (Qn (IntKind.i64.wrap (1 + Int.tmod (nth (Qe code) 0) 9)))) : Xa)]) : X1), ((⟨#[100, 98]⟩, [((4, 0, 0, ⟨#[98]⟩, (Qn (IntKind.i64.wrap (1 + Int.tmod (nth (Qe code) 0) 9)))) : Xa)]) : X1)])).1).1.2.2), .o 2818 ((((Qu (Qt (Int.tmod (nth (Qe code) 1) 9)) [((⟨#[100, 97]⟩, [((3, 0, 0, ⟨#[98]⟩, (Qn (IntKind.i64.wrap (1 + Int.tmod (nth (Qe code) 0) 9)))) : Xa)]) : X1), ((⟨#[100, 98]⟩, [((4, 0, 0, ⟨#[98]⟩, (Qn (IntKind.i64.wrap (1 + Int.tmod (nth (Qe code) 0) 9)))) : Xa)]) : X1)])).1).2.1), .o 2819 ((((Qu (Qt (Int.tmod (nth (Qe code) 1) 9)) [((⟨#[100, 97]⟩, [((3, 0, 0, ⟨#[98]⟩, (Qn (IntKind.i64.wrap (1 + Int.tmod (nth (Qe code) 0) 9)))) : Xa)]) : X1), ((⟨#[100, 98]⟩, [((4, 0, 0, ⟨#[98]⟩, (Qn (IntKind.i64.wrap (1 + Int.tmod (nth (Qe code) 0) 9)))) : Xa)]) : X1)])).1).2.2)])] [] (pG 1 1 hx5 (px (ob_nz (n := 9) (by omega)) (px (ob_inr (k := .i64) (n := Int.tmod (nth (Qe code) 1) 9) (inr_rem0 (by omega))) (pc 4 (lawssampleStore_a (Int.tmod (nth (Qe code) 1) 9)) (pc 6 (specNewCatalog_a (Qt (Int.tmod (nth (Qe code) 1) 9)) [((⟨#[100, 97]⟩, [((3, 0, 0, ⟨#[98]⟩, (Qn (IntKind.i64.wrap (1 + Int.tmod (nth (Qe code) 0) 9)))) : Xa)]) : X1), ((⟨#[100, 98]⟩, [((4, 0, 0, ⟨#[98]⟩, (Qn (IntKind.i64.wrap (1 + Int.tmod (nth (Qe code) 0) 9)))) : Xa)]) : X1)]) p0))))) ?_
  refine sn Qc [2, 4, 6, 8, 9, 10] [6, 8] (pc 1 (implAddToDir_a (((Qu (Qt (Int.tmod (nth (Qe code) 1) 9)) [((⟨#[100, 97]⟩, [((3, 0, 0, ⟨#[98]⟩, (Qn (IntKind.i64.wrap (1 + Int.tmod (nth (Qe code) 0) 9)))) : Xa)]) : X1), ((⟨#[100, 98]⟩, [((4, 0, 0, ⟨#[98]⟩, (Qn (IntKind.i64.wrap (1 + Int.tmod (nth (Qe code) 0) 9)))) : Xa)]) : X1)])).1) 0 ⟨#[100, 97]⟩ 1) p0) ?_
  refine tn Qc [2, 4, 6, 8, 9, 10, 13] [6, 8] (pc 1 (implAddToDir_a (((Qu (Qt (Int.tmod (nth (Qe code) 1) 9)) [((⟨#[100, 97]⟩, [((3, 0, 0, ⟨#[98]⟩, (Qn (IntKind.i64.wrap (1 + Int.tmod (nth (Qe code) 0) 9)))) : Xa)]) : X1), ((⟨#[100, 98]⟩, [((4, 0, 0, ⟨#[98]⟩, (Qn (IntKind.i64.wrap (1 + Int.tmod (nth (Qe code) 0) 9)))) : Xa)]) : X1)])).1) 1 ⟨#[100, 97]⟩ 1) p0) ?_
  refine tu Qc [(8, .p 8 0), (9, .o 3140 (((Q2 (((Qu (Qt (Int.tmod (nth (Qe code) 1) 9)) [((⟨#[100, 97]⟩, [((3, 0, 0, ⟨#[98]⟩, (Qn (IntKind.i64.wrap (1 + Int.tmod (nth (Qe code) 0) 9)))) : Xa)]) : X1), ((⟨#[100, 98]⟩, [((4, 0, 0, ⟨#[98]⟩, (Qn (IntKind.i64.wrap (1 + Int.tmod (nth (Qe code) 0) 9)))) : Xa)]) : X1)])).1) 0 ⟨#[100, 97]⟩ 1)).2.1)), (10, .b (((Q2 (((Qu (Qt (Int.tmod (nth (Qe code) 1) 9)) [((⟨#[100, 97]⟩, [((3, 0, 0, ⟨#[98]⟩, (Qn (IntKind.i64.wrap (1 + Int.tmod (nth (Qe code) 0) 9)))) : Xa)]) : X1), ((⟨#[100, 98]⟩, [((4, 0, 0, ⟨#[98]⟩, (Qn (IntKind.i64.wrap (1 + Int.tmod (nth (Qe code) 0) 9)))) : Xa)]) : X1)])).1) 0 ⟨#[100, 97]⟩ 1)).2.2)), (13, .b (((Q2 (((Qu (Qt (Int.tmod (nth (Qe code) 1) 9)) [((⟨#[100, 97]⟩, [((3, 0, 0, ⟨#[98]⟩, (Qn (IntKind.i64.wrap (1 + Int.tmod (nth (Qe code) 0) 9)))) : Xa)]) : X1), ((⟨#[100, 98]⟩, [((4, 0, 0, ⟨#[98]⟩, (Qn (IntKind.i64.wrap (1 + Int.tmod (nth (Qe code) 0) 9)))) : Xa)]) : X1)])).1) 1 ⟨#[100, 97]⟩ 1)).2.2)), (16, .b (((Q2 (((Qu (Qt (Int.tmod (nth (Qe code) 1) 9)) [((⟨#[100, 97]⟩, [((3, 0, 0, ⟨#[98]⟩, (Qn (IntKind.i64.wrap (1 + Int.tmod (nth (Qe code) 0) 9)))) : Xa)]) : X1), ((⟨#[100, 98]⟩, [((4, 0, 0, ⟨#[98]⟩, (Qn (IntKind.i64.wrap (1 + Int.tmod (nth (Qe code) 0) 9)))) : Xa)]) : X1)])).1) 0 ⟨#[100, 98]⟩ 1)).2.2))] [6] [(8, [.o 3136 ((((Q2 (((Qu (Qt (Int.tmod (nth (Qe code) 1) 9)) [((⟨#[100, 97]⟩, [((3, 0, 0, ⟨#[98]⟩, (Qn (IntKind.i64.wrap (1 + Int.tmod (nth (Qe code) 0) 9)))) : Xa)]) : X1), ((⟨#[100, 98]⟩, [((4, 0, 0, ⟨#[98]⟩, (Qn (IntKind.i64.wrap (1 + Int.tmod (nth (Qe code) 0) 9)))) : Xa)]) : X1)])).1) 0 ⟨#[100, 97]⟩ 1)).1).1.1), .o 3137 ((((Q2 (((Qu (Qt (Int.tmod (nth (Qe code) 1) 9)) [((⟨#[100, 97]⟩, [((3, 0, 0, ⟨#[98]⟩, (Qn (IntKind.i64.wrap (1 + Int.tmod (nth (Qe code) 0) 9)))) : Xa)]) : X1), ((⟨#[100, 98]⟩, [((4, 0, 0, ⟨#[98]⟩, (Qn (IntKind.i64.wrap (1 + Int.tmod (nth (Qe code) 0) 9)))) : Xa)]) : X1)])).1) 0 ⟨#[100, 97]⟩ 1)).1).1.2.1), .i ((((Q2 (((Qu (Qt (Int.tmod (nth (Qe code) 1) 9)) [((⟨#[100, 97]⟩, [((3, 0, 0, ⟨#[98]⟩, (Qn (IntKind.i64.wrap (1 + Int.tmod (nth (Qe code) 0) 9)))) : Xa)]) : X1), ((⟨#[100, 98]⟩, [((4, 0, 0, ⟨#[98]⟩, (Qn (IntKind.i64.wrap (1 + Int.tmod (nth (Qe code) 0) 9)))) : Xa)]) : X1)])).1) 0 ⟨#[100, 97]⟩ 1)).1).1.2.2), .o 3138 ((((Q2 (((Qu (Qt (Int.tmod (nth (Qe code) 1) 9)) [((⟨#[100, 97]⟩, [((3, 0, 0, ⟨#[98]⟩, (Qn (IntKind.i64.wrap (1 + Int.tmod (nth (Qe code) 0) 9)))) : Xa)]) : X1), ((⟨#[100, 98]⟩, [((4, 0, 0, ⟨#[98]⟩, (Qn (IntKind.i64.wrap (1 + Int.tmod (nth (Qe code) 0) 9)))) : Xa)]) : X1)])).1) 0 ⟨#[100, 97]⟩ 1)).1).2.1), .o 3139 ((((Q2 (((Qu (Qt (Int.tmod (nth (Qe code) 1) 9)) [((⟨#[100, 97]⟩, [((3, 0, 0, ⟨#[98]⟩, (Qn (IntKind.i64.wrap (1 + Int.tmod (nth (Qe code) 0) 9)))) : Xa)]) : X1), ((⟨#[100, 98]⟩, [((4, 0, 0, ⟨#[98]⟩, (Qn (IntKind.i64.wrap (1 + Int.tmod (nth (Qe code) 0) 9)))) : Xa)]) : X1)])).1) 0 ⟨#[100, 97]⟩ 1)).1).2.2)])] [6] (pc 1 (implAddToDir_a (((Qu (Qt (Int.tmod (nth (Qe code) 1) 9)) [((⟨#[100, 97]⟩, [((3, 0, 0, ⟨#[98]⟩, (Qn (IntKind.i64.wrap (1 + Int.tmod (nth (Qe code) 0) 9)))) : Xa)]) : X1), ((⟨#[100, 98]⟩, [((4, 0, 0, ⟨#[98]⟩, (Qn (IntKind.i64.wrap (1 + Int.tmod (nth (Qe code) 0) 9)))) : Xa)]) : X1)])).1) 0 ⟨#[100, 98]⟩ 1) p0) ?_
  refine Qg ?_
  refine jn [(2, .b (((Q2 (((Qu (Qt (Int.tmod (nth (Qe code) 1) 9)) [((⟨#[100, 97]⟩, [((3, 0, 0, ⟨#[98]⟩, (Qn (IntKind.i64.wrap (1 + Int.tmod (nth (Qe code) 0) 9)))) : Xa)]) : X1), ((⟨#[100, 98]⟩, [((4, 0, 0, ⟨#[98]⟩, (Qn (IntKind.i64.wrap (1 + Int.tmod (nth (Qe code) 0) 9)))) : Xa)]) : X1)])).1) 0 ⟨#[100, 97]⟩ 1)).2.2 && ((!(((Q2 (((Qu (Qt (Int.tmod (nth (Qe code) 1) 9)) [((⟨#[100, 97]⟩, [((3, 0, 0, ⟨#[98]⟩, (Qn (IntKind.i64.wrap (1 + Int.tmod (nth (Qe code) 0) 9)))) : Xa)]) : X1), ((⟨#[100, 98]⟩, [((4, 0, 0, ⟨#[98]⟩, (Qn (IntKind.i64.wrap (1 + Int.tmod (nth (Qe code) 0) 9)))) : Xa)]) : X1)])).1) 1 ⟨#[100, 97]⟩ 1)).2.2)) && ((!(((Q2 (((Qu (Qt (Int.tmod (nth (Qe code) 1) 9)) [((⟨#[100, 97]⟩, [((3, 0, 0, ⟨#[98]⟩, (Qn (IntKind.i64.wrap (1 + Int.tmod (nth (Qe code) 0) 9)))) : Xa)]) : X1), ((⟨#[100, 98]⟩, [((4, 0, 0, ⟨#[98]⟩, (Qn (IntKind.i64.wrap (1 + Int.tmod (nth (Qe code) 0) 9)))) : Xa)]) : X1)])).1) 0 ⟨#[100, 98]⟩ 1)).2.2)) && ((lawssameAttrs (((Q2 (((Qu (Qt (Int.tmod (nth (Qe code) 1) 9)) [((⟨#[100, 97]⟩, [((3, 0, 0, ⟨#[98]⟩, (Qn (IntKind.i64.wrap (1 + Int.tmod (nth (Qe code) 0) 9)))) : Xa)]) : X1), ((⟨#[100, 98]⟩, [((4, 0, 0, ⟨#[98]⟩, (Qn (IntKind.i64.wrap (1 + Int.tmod (nth (Qe code) 0) 9)))) : Xa)]) : X1)])).1) 0 ⟨#[100, 97]⟩ 1)).2.1) [((⟨#[98]⟩, (Qn (IntKind.i64.wrap (1 + Int.tmod (nth (Qe code) 0) 9)))) : Zk)]) && (((Y5 (lawsfileOf ((((Q2 (((Qu (Qt (Int.tmod (nth (Qe code) 1) 9)) [((⟨#[100, 97]⟩, [((3, 0, 0, ⟨#[98]⟩, (Qn (IntKind.i64.wrap (1 + Int.tmod (nth (Qe code) 0) 9)))) : Xa)]) : X1), ((⟨#[100, 98]⟩, [((4, 0, 0, ⟨#[98]⟩, (Qn (IntKind.i64.wrap (1 + Int.tmod (nth (Qe code) 0) 9)))) : Xa)]) : X1)])).1) 0 ⟨#[100, 97]⟩ 1)).1).1.1, (((Q2 (((Qu (Qt (Int.tmod (nth (Qe code) 1) 9)) [((⟨#[100, 97]⟩, [((3, 0, 0, ⟨#[98]⟩, (Qn (IntKind.i64.wrap (1 + Int.tmod (nth (Qe code) 0) 9)))) : Xa)]) : X1), ((⟨#[100, 98]⟩, [((4, 0, 0, ⟨#[98]⟩, (Qn (IntKind.i64.wrap (1 + Int.tmod (nth (Qe code) 0) 9)))) : Xa)]) : X1)])).1) 0 ⟨#[100, 97]⟩ 1)).1).1.2.1, (((Q2 (((Qu (Qt (Int.tmod (nth (Qe code) 1) 9)) [((⟨#[100, 97]⟩, [((3, 0, 0, ⟨#[98]⟩, (Qn (IntKind.i64.wrap (1 + Int.tmod (nth (Qe code) 0) 9)))) : Xa)]) : X1), ((⟨#[100, 98]⟩, [((4, 0, 0, ⟨#[98]⟩, (Qn (IntKind.i64.wrap (1 + Int.tmod (nth (Qe code) 0) 9)))) : Xa)]) : X1)])).1) 0 ⟨#[100, 97]⟩ 1)).1).1.2.2) 1) ⟨#[98]⟩).1 == (Qn (IntKind.i64.wrap (1 + Int.tmod (nth (Qe code) 0) 9))).1) && (((Y5 (lawsfileOf ((((Q2 (((Qu (Qt (Int.tmod (nth (Qe code) 1) 9)) [((⟨#[100, 97]⟩, [((3, 0, 0, ⟨#[98]⟩, (Qn (IntKind.i64.wrap (1 + Int.tmod (nth (Qe code) 0) 9)))) : Xa)]) : X1), ((⟨#[100, 98]⟩, [((4, 0, 0, ⟨#[98]⟩, (Qn (IntKind.i64.wrap (1 + Int.tmod (nth (Qe code) 0) 9)))) : Xa)]) : X1)])).1) 0 ⟨#[100, 97]⟩ 1)).1).1.1, (((Q2 (((Qu (Qt (Int.tmod (nth (Qe code) 1) 9)) [((⟨#[100, 97]⟩, [((3, 0, 0, ⟨#[98]⟩, (Qn (IntKind.i64.wrap (1 + Int.tmod (nth (Qe code) 0) 9)))) : Xa)]) : X1), ((⟨#[100, 98]⟩, [((4, 0, 0, ⟨#[98]⟩, (Qn (IntKind.i64.wrap (1 + Int.tmod (nth (Qe code) 0) 9)))) : Xa)]) : X1)])).1) 0 ⟨#[100, 97]⟩ 1)).1).1.2.1, (((Q2 (((Qu (Qt (Int.tmod (nth (Qe code) 1) 9)) [((⟨#[100, 97]⟩, [((3, 0, 0, ⟨#[98]⟩, (Qn (IntKind.i64.wrap (1 + Int.tmod (nth (Qe code) 0) 9)))) : Xa)]) : X1), ((⟨#[100, 98]⟩, [((4, 0, 0, ⟨#[98]⟩, (Qn (IntKind.i64.wrap (1 + Int.tmod (nth (Qe code) 0) 9)))) : Xa)]) : X1)])).1) 0 ⟨#[100, 97]⟩ 1)).1).1.2.2) 1) ⟨#[98]⟩).2.1 == (Qn (IntKind.i64.wrap (1 + Int.tmod (nth (Qe code) 0) 9))).2.1) && ((((Y5 (lawsfileOf ((((Q2 (((Qu (Qt (Int.tmod (nth (Qe code) 1) 9)) [((⟨#[100, 97]⟩, [((3, 0, 0, ⟨#[98]⟩, (Qn (IntKind.i64.wrap (1 + Int.tmod (nth (Qe code) 0) 9)))) : Xa)]) : X1), ((⟨#[100, 98]⟩, [((4, 0, 0, ⟨#[98]⟩, (Qn (IntKind.i64.wrap (1 + Int.tmod (nth (Qe code) 0) 9)))) : Xa)]) : X1)])).1) 0 ⟨#[100, 97]⟩ 1)).1).1.1, (((Q2 (((Qu (Qt (Int.tmod (nth (Qe code) 1) 9)) [((⟨#[100, 97]⟩, [((3, 0, 0, ⟨#[98]⟩, (Qn (IntKind.i64.wrap (1 + Int.tmod (nth (Qe code) 0) 9)))) : Xa)]) : X1), ((⟨#[100, 98]⟩, [((4, 0, 0, ⟨#[98]⟩, (Qn (IntKind.i64.wrap (1 + Int.tmod (nth (Qe code) 0) 9)))) : Xa)]) : X1)])).1) 0 ⟨#[100, 97]⟩ 1)).1).1.2.1, (((Q2 (((Qu (Qt (Int.tmod (nth (Qe code) 1) 9)) [((⟨#[100, 97]⟩, [((3, 0, 0, ⟨#[98]⟩, (Qn (IntKind.i64.wrap (1 + Int.tmod (nth (Qe code) 0) 9)))) : Xa)]) : X1), ((⟨#[100, 98]⟩, [((4, 0, 0, ⟨#[98]⟩, (Qn (IntKind.i64.wrap (1 + Int.tmod (nth (Qe code) 0) 9)))) : Xa)]) : X1)])).1) 0 ⟨#[100, 97]⟩ 1)).1).1.2.2) 1) ⟨#[98]⟩).2.2).toList == ((Qn (IntKind.i64.wrap (1 + Int.tmod (nth (Qe code) 0) 9))).2.2).toList) && true))))))))] [2, 4, 8, 9, 10, 13, 16] [] [8] (((Q2 (((Qu (Qt (Int.tmod (nth (Qe code) 1) 9)) [((⟨#[100, 97]⟩, [((3, 0, 0, ⟨#[98]⟩, (Qn (IntKind.i64.wrap (1 + Int.tmod (nth (Qe code) 0) 9)))) : Xa)]) : X1), ((⟨#[100, 98]⟩, [((4, 0, 0, ⟨#[98]⟩, (Qn (IntKind.i64.wrap (1 + Int.tmod (nth (Qe code) 0) 9)))) : Xa)]) : X1)])).1) 0 ⟨#[100, 97]⟩ 1)).2.2) (fun h6 => ?_) (fun h6 => ?_) ?_
  ·
   refine Xw (!(((Q2 (((Qu (Qt (Int.tmod (nth (Qe code) 1) 9)) [((⟨#[100, 97]⟩, [((3, 0, 0, ⟨#[98]⟩, (Qn (IntKind.i64.wrap (1 + Int.tmod (nth (Qe code) 0) 9)))) : Xa)]) : X1), ((⟨#[100, 98]⟩, [((4, 0, 0, ⟨#[98]⟩, (Qn (IntKind.i64.wrap (1 + Int.tmod (nth (Qe code) 0) 9)))) : Xa)]) : X1)])).1) 1 ⟨#[100, 97]⟩ 1)).2.2)) (fun h7 => ?_) (fun h7 => ?_)
   ·
    have h7n : (((Q2 (((Qu (Qt (Int.tmod (nth (Qe code) 1) 9)) [((⟨#[100, 97]⟩, [((3, 0, 0, ⟨#[98]⟩, (Qn (IntKind.i64.wrap (1 + Int.tmod (nth (Qe code) 0) 9)))) : Xa)]) : X1), ((⟨#[100, 98]⟩, [((4, 0, 0, ⟨#[98]⟩, (Qn (IntKind.i64.wrap (1 + Int.tmod (nth (Qe code) 0) 9)))) : Xa)]) : X1)])).1) 1 ⟨#[100, 97]⟩ 1)).2.2) = false := bnot_t h7
    refine Xw (!(((Q2 (((Qu (Qt (Int.tmod (nth (Qe code) 1) 9)) [((⟨#[100, 97]⟩, [((3, 0, 0, ⟨#[98]⟩, (Qn (IntKind.i64.wrap (1 + Int.tmod (nth (Qe code) 0) 9)))) : Xa)]) : X1), ((⟨#[100, 98]⟩, [((4, 0, 0, ⟨#[98]⟩, (Qn (IntKind.i64.wrap (1 + Int.tmod (nth (Qe code) 0) 9)))) : Xa)]) : X1)])).1) 0 ⟨#[100, 98]⟩ 1)).2.2)) (fun h8 => ?_) (fun h8 => ?_)
    ·
     have h8n : (((Q2 (((Qu (Qt (Int.tmod (nth (Qe code) 1) 9)) [((⟨#[100, 97]⟩, [((3, 0, 0, ⟨#[98]⟩, (Qn (IntKind.i64.wrap (1 + Int.tmod (nth (Qe code) 0) 9)))) : Xa)]) : X1), ((⟨#[100, 98]⟩, [((4, 0, 0, ⟨#[98]⟩, (Qn (IntKind.i64.wrap (1 + Int.tmod (nth (Qe code) 0) 9)))) : Xa)]) : X1)])).1) 0 ⟨#[100, 98]⟩ 1)).2.2) = false := bnot_t h8
     refine Xw (lawssameAttrs (((Q2 (((Qu (Qt (Int.tmod (nth (Qe code) 1) 9)) [((⟨#[100, 97]⟩, [((3, 0, 0, ⟨#[98]⟩, (Qn (IntKind.i64.wrap (1 + Int.tmod (nth (Qe code) 0) 9)))) : Xa)]) : X1), ((⟨#[100, 98]⟩, [((4, 0, 0, ⟨#[98]⟩, (Qn (IntKind.i64.wrap (1 + Int.tmod (nth (Qe code) 0) 9)))) : Xa)]) : X1)])).1) 0 ⟨#[100, 97]⟩ 1)).2.1) [((⟨#[98]⟩, (Qn (IntKind.i64.wrap (1 + Int.tmod (nth (Qe code) 0) 9)))) : Zk)]) (fun h9 => ?_) (fun h9 => ?_)
     ·
      refine rn Qc [2] [] (pt 0 h6 (pf 2 h7n (pe 3 (show .b (!false) = .b true from rfl) (pf 6 h8n (pe 7 (show .b (!false) = .b true from rfl) (pc 12 (specIntValue_a (IntKind.i64.wrap (1 + Int.tmod (nth (Qe code) 0) 9))) (pc 15 (cb h9 (lawssameAttrs_a (((Q2 (((Qu (Qt (Int.tmod (nth (Qe code) 1) 9)) [((⟨#[100, 97]⟩, [((3, 0, 0, ⟨#[98]⟩, (Qn (IntKind.i64.wrap (1 + Int.tmod (nth (Qe code) 0) 9)))) : Xa)]) : X1), ((⟨#[100, 98]⟩, [((4, 0, 0, ⟨#[98]⟩, (Qn (IntKind.i64.wrap (1 + Int.tmod (nth (Qe code) 0) 9)))) : Xa)]) : X1)])).1) 0 ⟨#[100, 97]⟩ 1)).2.1) [((⟨#[98]⟩, (Qn (IntKind.i64.wrap (1 + Int.tmod (nth (Qe code) 0) 9)))) : Zk)])) (pc 20 (lawsfileOf_a ((((Q2 (((Qu (Qt (Int.tmod (nth (Qe code) 1) 9)) [((⟨#[100, 97]⟩, [((3, 0, 0, ⟨#[98]⟩, (Qn (IntKind.i64.wrap (1 + Int.tmod (nth (Qe code) 0) 9)))) : Xa)]) : X1), ((⟨#[100, 98]⟩, [((4, 0, 0, ⟨#[98]⟩, (Qn (IntKind.i64.wrap (1 + Int.tmod (nth (Qe code) 0) 9)))) : Xa)]) : X1)])).1) 0 ⟨#[100, 97]⟩ 1)).1).1.1, (((Q2 (((Qu (Qt (Int.tmod (nth (Qe code) 1) 9)) [((⟨#[100, 97]⟩, [((3, 0, 0, ⟨#[98]⟩, (Qn (IntKind.i64.wrap (1 + Int.tmod (nth (Qe code) 0) 9)))) : Xa)]) : X1), ((⟨#[100, 98]⟩, [((4, 0, 0, ⟨#[98]⟩, (Qn (IntKind.i64.wrap (1 + Int.tmod (nth (Qe code) 0) 9)))) : Xa)]) : X1)])).1) 0 ⟨#[100, 97]⟩ 1)).1).1.2.1, (((Q2 (((Qu (Qt (Int.tmod (nth (Qe code) 1) 9)) [((⟨#[100, 97]⟩, [((3, 0, 0, ⟨#[98]⟩, (Qn (IntKind.i64.wrap (1 + Int.tmod (nth (Qe code) 0) 9)))) : Xa)]) : X1), ((⟨#[100, 98]⟩, [((4, 0, 0, ⟨#[98]⟩, (Qn (IntKind.i64.wrap (1 + Int.tmod (nth (Qe code) 0) 9)))) : Xa)]) : X1)])).1) 0 ⟨#[100, 97]⟩ 1)).1).1.2.2) 1) (pc 21 (specGetAttr_a (lawsfileOf ((((Q2 (((Qu (Qt (Int.tmod (nth (Qe code) 1) 9)) [((⟨#[100, 97]⟩, [((3, 0, 0, ⟨#[98]⟩, (Qn (IntKind.i64.wrap (1 + Int.tmod (nth (Qe code) 0) 9)))) : Xa)]) : X1), ((⟨#[100, 98]⟩, [((4, 0, 0, ⟨#[98]⟩, (Qn (IntKind.i64.wrap (1 + Int.tmod (nth (Qe code) 0) 9)))) : Xa)]) : X1)])).1) 0 ⟨#[100, 97]⟩ 1)).1).1.1, (((Q2 (((Qu (Qt (Int.tmod (nth (Qe code) 1) 9)) [((⟨#[100, 97]⟩, [((3, 0, 0, ⟨#[98]⟩, (Qn (IntKind.i64.wrap (1 + Int.tmod (nth (Qe code) 0) 9)))) : Xa)]) : X1), ((⟨#[100, 98]⟩, [((4, 0, 0, ⟨#[98]⟩, (Qn (IntKind.i64.wrap (1 + Int.tmod (nth (Qe code) 0) 9)))) : Xa)]) : X1)])).1) 0 ⟨#[100, 97]⟩ 1)).1).1.2.1, (((Q2 (((Qu (Qt (Int.tmod (nth (Qe code) 1) 9)) [((⟨#[100, 97]⟩, [((3, 0, 0, ⟨#[98]⟩, (Qn (IntKind.i64.wrap (1 + Int.tmod (nth (Qe code) 0) 9)))) : Xa)]) : X1), ((⟨#[100, 98]⟩, [((4, 0, 0, ⟨#[98]⟩, (Qn (IntKind.i64.wrap (1 + Int.tmod (nth (Qe code) 0) 9)))) : Xa)]) : X1)])).1) 0 ⟨#[100, 97]⟩ 1)).1).1.2.2) 1) ⟨#[98]⟩) (pc 23 (specIntValue_a (IntKind.i64.wrap (1 + Int.tmod (nth (Qe code) 0) 9))) p0)))))))))) ?_
      exact ⟨rfl, Qf (by rw [h6, h7, h8, h9]; first | done | kernel_rfl)⟩
     ·
      refine rn Qc [2] [] (pt 0 h6 (pf 2 h7n (pe 3 (show .b (!false) = .b true from rfl) (pf 6 h8n (pe 7 (show .b (!false) = .b true from rfl) (pc 12 (specIntValue_a (IntKind.i64.wrap (1 + Int.tmod (nth (Qe code) 0) 9))) (pc 15 (cb h9 (lawssameAttrs_a (((Q2 (((Qu (Qt (Int.tmod (nth (Qe code) 1) 9)) [((⟨#[100, 97]⟩, [((3, 0, 0, ⟨#[98]⟩, (Qn (IntKind.i64.wrap (1 + Int.tmod (nth (Qe code) 0) 9)))) : Xa)]) : X1), ((⟨#[100, 98]⟩, [((4, 0, 0, ⟨#[98]⟩, (Qn (IntKind.i64.wrap (1 + Int.tmod (nth (Qe code) 0) 9)))) : Xa)]) : X1)])).1) 0 ⟨#[100, 97]⟩ 1)).2.1) [((⟨#[98]⟩, (Qn (IntKind.i64.wrap (1 + Int.tmod (nth (Qe code) 0) 9)))) : Zk)])) p0))))))) ?_
      exact ⟨rfl, Qf (by rw [h6, h7, h8, h9]; first | done | kernel_rfl)⟩
    ·
     have h8n : (((Q2 (((Qu (Qt (Int.tmod (nth (Qe code) 1) 9)) [((⟨#[100, 97]⟩, [((3, 0, 0, ⟨#[98]⟩, (Qn (IntKind.i64.wrap (1 + Int.tmod (nth (Qe code) 0) 9)))) : Xa)]) : X1), ((⟨#[100, 98]⟩, [((4, 0, 0, ⟨#[98]⟩, (Qn (IntKind.i64.wrap (1 + Int.tmod (nth (Qe code) 0) 9)))) : Xa)]) : X1)])).1) 0 ⟨#[100, 98]⟩ 1)).2.2) = true := Jd h8
     refine rn Qc [2] [] (pt 0 h6 (pf 2 h7n (pe 3 (show .b (!false) = .b true from rfl) (pt 6 h8n (pe 7 (show .b (!true) = .b false from rfl) p0))))) ?_
     exact ⟨rfl, Qf (by rw [h6, h7, h8]; first | done | kernel_rfl)⟩
   ·
    have h7n : (((Q2 (((Qu (Qt (Int.tmod (nth (Qe code) 1) 9)) [((⟨#[100, 97]⟩, [((3, 0, 0, ⟨#[98]⟩, (Qn (IntKind.i64.wrap (1 + Int.tmod (nth (Qe code) 0) 9)))) : Xa)]) : X1), ((⟨#[100, 98]⟩, [((4, 0, 0, ⟨#[98]⟩, (Qn (IntKind.i64.wrap (1 + Int.tmod (nth (Qe code) 0) 9)))) : Xa)]) : X1)])).1) 1 ⟨#[100, 97]⟩ 1)).2.2) = true := Jd h7
    refine rn Qc [2] [] (pt 0 h6 (pt 2 h7n (pe 3 (show .b (!true) = .b false from rfl) p0))) ?_
    exact ⟨rfl, Qf (by rw [h6, h7]; first | done | kernel_rfl)⟩
  ·
   refine rn Qc [2] [] (pf 0 h6 p0) ?_
   exact ⟨rfl, Qf (by rw [h6]; first | done | kernel_rfl)⟩
  refine Qp ?_
  exact Ye [] (congrArg (fun z => (.b z : AV)) (show lawsFnAddExample code = _ from Qz h1 (rfl)).symm)
end Go.Proofs.YtcnkkobgogmakaaGreat
namespace Go.Proofs.YtcnkkobgogmakaaGreat
open Go.RowKit
def aeC (a b : Int) : CatalogD := (((Qu (Qt (a)) [((⟨#[100, 97]⟩, [((3, 0, 0, ⟨#[98]⟩, (Qn (IntKind.i64.wrap (1 + b)))) : Xa)]) : X1), ((⟨#[100, 98]⟩, [((4, 0, 0, ⟨#[98]⟩, (Qn (IntKind.i64.wrap (1 + b)))) : Xa)]) : X1)])).1)
def aeAll (a b : Int) : Bool := (((Q2 (aeC a b) 0 ⟨#[100, 97]⟩ 1)).2.2 && ((!(((Q2 (aeC a b) 1 ⟨#[100, 97]⟩ 1)).2.2)) && ((!(((Q2 (aeC a b) 0 ⟨#[100, 98]⟩ 1)).2.2)) && ((lawssameAttrs (((Q2 (aeC a b) 0 ⟨#[100, 97]⟩ 1)).2.1) [((⟨#[98]⟩, (Qn (IntKind.i64.wrap (1 + b)))) : Zk)]) && (((Y5 (lawsfileOf ((((Q2 (aeC a b) 0 ⟨#[100, 97]⟩ 1)).1).1.1, (((Q2 (aeC a b) 0 ⟨#[100, 97]⟩ 1)).1).1.2.1, (((Q2 (aeC a b) 0 ⟨#[100, 97]⟩ 1)).1).1.2.2) 1) ⟨#[98]⟩).1 == (Qn (IntKind.i64.wrap (1 + b))).1) && (((Y5 (lawsfileOf ((((Q2 (aeC a b) 0 ⟨#[100, 97]⟩ 1)).1).1.1, (((Q2 (aeC a b) 0 ⟨#[100, 97]⟩ 1)).1).1.2.1, (((Q2 (aeC a b) 0 ⟨#[100, 97]⟩ 1)).1).1.2.2) 1) ⟨#[98]⟩).2.1 == (Qn (IntKind.i64.wrap (1 + b))).2.1) && ((((Y5 (lawsfileOf ((((Q2 (aeC a b) 0 ⟨#[100, 97]⟩ 1)).1).1.1, (((Q2 (aeC a b) 0 ⟨#[100, 97]⟩ 1)).1).1.2.1, (((Q2 (aeC a b) 0 ⟨#[100, 97]⟩ 1)).1).1.2.2) 1) ⟨#[98]⟩).2.2).toList == ((Qn (IntKind.i64.wrap (1 + b))).2.2).toList) && true)))))))
theorem ae_0 : ((List.range 9).all fun b => aeAll (0 : Nat) (b : Int)) = true := by kernel_rfl
theorem ae_1 : ((List.range 9).all fun b => aeAll (1 : Nat) (b : Int)) = true := by kernel_rfl
theorem ae_2 : ((List.range 9).all fun b => aeAll (2 : Nat) (b : Int)) = true := by kernel_rfl
theorem ae_3 : ((List.range 9).all fun b => aeAll (3 : Nat) (b : Int)) = true := by kernel_rfl
theorem ae_4 : ((List.range 9).all fun b => aeAll (4 : Nat) (b : Int)) = true := by kernel_rfl
theorem ae_5 : ((List.range 9).all fun b => aeAll (5 : Nat) (b : Int)) = true := by kernel_rfl
theorem ae_6 : ((List.range 9).all fun b => aeAll (6 : Nat) (b : Int)) = true := by kernel_rfl
theorem ae_7 : ((List.range 9).all fun b => aeAll (7 : Nat) (b : Int)) = true := by kernel_rfl
theorem ae_8 : ((List.range 9).all fun b => aeAll (8 : Nat) (b : Int)) = true := by kernel_rfl
theorem ae_of {k : Nat} (h : ((List.range 9).all fun b => aeAll (k : Int) (b : Int)) = true) {a b : Int} (e : a = k) (h2 : 0 ≤ b) (h3 : b < 9) : aeAll a b = true := by
  have hb := List.all_eq_true.1 h b.toNat (by rw [List.mem_range]; omega)
  rw [Int.toNat_of_nonneg h2] at hb
  rw [e]; exact hb
theorem ae_all (a b : Int) (h0 : 0 ≤ a) (h1 : a < 9) (h2 : 0 ≤ b) (h3 : b < 9) : aeAll a b = true := by
  by_cases c0 : a = 0
  · exact ae_of ae_0 c0 h2 h3
  by_cases c1 : a = 1
  · exact ae_of ae_1 c1 h2 h3
  by_cases c2 : a = 2
  · exact ae_of ae_2 c2 h2 h3
  by_cases c3 : a = 3
  · exact ae_of ae_3 c3 h2 h3
  by_cases c4 : a = 4
  · exact ae_of ae_4 c4 h2 h3
  by_cases c5 : a = 5
  · exact ae_of ae_5 c5 h2 h3
  by_cases c6 : a = 6
  · exact ae_of ae_6 c6 h2 h3
  by_cases c7 : a = 7
  · exact ae_of ae_7 c7 h2 h3
  exact ae_of ae_8 (by omega) h2 h3
set_option maxRecDepth 100000 in
theorem lawsFnAddExample_true (code : List UInt8) : lawsFnAddExample code = true := by
  unfold lawsFnAddExample
  cases lawsbig code with
  | true => rfl
  | false =>
    obtain ⟨h0, h1⟩ := (place_mod code 1 (by decide) (m := 9) (by decide)).2
    obtain ⟨h2, h3⟩ := (place_mod code 0 (by decide) (m := 9) (by decide)).2
    have key := ae_all _ _ h0 h1 h2 h3
    revert key h0 h1 h2 h3
    generalize Int.tmod (nth (Qe code) 1) 9 = a
    generalize Int.tmod (nth (Qe code) 0) 9 = b
    intro _ _ _ _ key
    unfold aeAll aeC at key
    refine (cond_false _ _).trans ?_
    exact key
end Go.Proofs.YtcnkkobgogmakaaGreat
namespace Go.Proofs.YtcnkkobgogmakaaGreat
open Go.RowKit
open GoD (rd own)
theorem bigAddExample (w : World) (v : Value) (a : List UInt8) (h : rd w [v] a) (hbig : ¬ a.length ≤ 1048576) : Calls Tryz.prog 6 #[v] w (Ret w (.bool true)) := by
  obtain ⟨oa, cap, rfl⟩ := slice_of_rd h
  have hln := len_of_rd h
  clear h
  have hbi : 1048576 < (a.length : Int) := by omega
  go_enter Tryz.func6, Tryz.ntmps6
  go_wp2_with (first | (go_at_call 8; go_in))
  go_ret
  exact ⟨rfl, by go_grown⟩
theorem lawAddExample (w : World) (v : Value) (a : List UInt8) (h : rd w [v] a) : Calls Tryz.prog 6 #[v] w (Ret w (.bool true)) := by
  by_cases hbig : a.length ≤ 1048576
  · haveI : Good Tryz.prog w := Good.none (by kernel_rfl) w
    have hc := (lawsFnAddExample_a a).run (.cons (arg_sli h ⟨by omega, fun _ _ => trivial⟩) .nil)
    rw [lawsFnAddExample_true] at hc
    exact hc.mono fun _ _ h => ret_bool h
  · exact bigAddExample w v a h hbig
end Go.Proofs.YtcnkkobgogmakaaGreat
