/- Texts held against one another the other way round: <=, >, >= by '<'. -/
import Derived.Laws.Cover1
import Derived.Sort.Walk0
namespace Go.Proofs.YtlelcmkbcejjkaaDoor.Less
open Go Go.Proofs
theorem bytes_total (x y : List UInt8) : (Op.bytesLess x y || x == y) = !Op.bytesLess y x := by
  rw [bytesLess_eq, bytesLess_eq]
  by_cases h1 : x < y
  · have h2 : ¬ y < x := List.lt_asymm h1
    simp [h1, h2]
  · by_cases h3 : x = y
    · subst h3; simp [h1]
    · by_cases h2 : y < x
      · simp [h1, h2, h3]
      · exact absurd (List.le_antisymm (List.not_lt.1 h2) (List.not_lt.1 h1)) h3
theorem str_leq (t : TypeId) (a b : ByteArray) : binOp .leq t (.string a) (.string b) = pure (.bool (!Op.bytesLess b.toList a.toList)) := by
  rw [binOp_string_leq, bytes_total]
theorem str_gtr (t : TypeId) (a b : ByteArray) : binOp .gtr t (.string a) (.string b) = pure (.bool (Op.bytesLess b.toList a.toList)) := by
  rw [binOp_string_gtr, bytes_total, Bool.not_not]
theorem str_geq (t : TypeId) (a b : ByteArray) : binOp .geq t (.string a) (.string b) = pure (.bool (!Op.bytesLess a.toList b.toList)) := binOp_string_geq t a b
/-- n bools: the bits of a number. -/
def bv (n N : Nat) : Array Bool := ((List.range n).map fun i => N.testBit i).toArray
theorem p1 {α : Type} (l : List α) (i : Nat) (a : α) : l.toArray.setIfInBounds i a = (l.set i a).toArray := List.setIfInBounds_toArray ..
theorem p2 {α : Type} (a b : α) (l : List α) : (a :: l).set 0 b = b :: l := List.set_cons_zero
theorem p3 {α : Type} (a b : α) (l : List α) (n : Nat) : (a :: l).set (n + 1) b = a :: l.set n b := List.set_cons_succ
end Go.Proofs.YtlelcmkbcejjkaaDoor.Less
