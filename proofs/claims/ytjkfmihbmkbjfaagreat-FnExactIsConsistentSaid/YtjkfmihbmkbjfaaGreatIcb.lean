/- A consistent catalog: both sides alike. -/
import Derived.Test.YtjkfmihbmkbjfaaGreatIca
set_option linter.unusedVariables false
set_option linter.unusedSimpArgs false
namespace Go.Proofs.YtjkfmihbmkbjfaaGreat
open Go.RowKit
theorem names_go (c : CatalogD) (X : Bool) : ∀ (l : List DirD) (k : Nat), ((forL (specIsConsistent_f0 c) specIsConsistent_e0 l k ()).on fun _ => X) = (((forL (slicesEqualFunc_Result_implhasNames_1_f0 c.2.2) slicesEqualFunc_Result_implhasNames_1_e0 l k ()).on fun _ => true) && X)
  | [], k => by cases X <;> rfl
  | a :: l, k => by
    have h : ((nth c.2.2 k).1.toList == a.1.toList) = implhasNames_1 a (nth c.2.2 k) := by
      unfold implhasNames_1
      rw [Bool.eq_iff_iff]; simp only [beq_iff_eq]; exact eq_comm
    simp only [forL, specIsConsistent_f0, slicesEqualFunc_Result_implhasNames_1_f0, h]
    cases implhasNames_1 a (nth c.2.2 k) with
    | false => rfl
    | true => exact names_go c X l (k + 1)
theorem isConsistent_eq (c : CatalogD) : specIsConsistent c = implIsConsistent c := by
  unfold specIsConsistent implIsConsistent implhasNames slicesEqualFunc_Result_implhasNames_1
  rw [names_go, store_eq, stratified_eq, checkAll_eq]
  have h : ((c.2.2.length : Int) != (c.2.1.length : Int)) = ((c.2.1.length : Int) != (c.2.2.length : Int)) := by
    rw [Bool.eq_iff_iff]; simp only [bne_iff_ne, ne_eq]; exact not_congr eq_comm
  rw [h]
  generalize (Out.on _ _ : Bool) = x
  cases implIsValidStore c.1 <;> cases implIsStratified c.2.1 <;> cases ((c.2.1.length : Int) != (c.2.2.length : Int)) <;> cases x <;> rfl
end Go.Proofs.YtjkfmihbmkbjfaaGreat
