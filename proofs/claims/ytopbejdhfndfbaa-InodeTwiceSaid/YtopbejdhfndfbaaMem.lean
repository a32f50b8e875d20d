/- Texts as lists of bytes. No program. No condition. -/
import Derived.Test.YtopbejdhfndfbaaPlain
import Derived.Lib.Strings
namespace Go.Proofs.Ytopbejdhfndfbaa
def bAt (l : List ByteArray) (i : Nat) : ByteArray := l.getD i ByteArray.empty
/-- Its bytes. -/
def bl (x : ByteArray) : List UInt8 := x.data.toList
theorem bl_ext {x y : ByteArray} (h : bl x = bl y) : x = y := ByteArray.ext (by
  have : x.data.toList = y.data.toList := h
  exact Array.toList_inj.1 this)
theorem bl_length (x : ByteArray) : (bl x).length = x.size := by simp [bl]
theorem bl_append (x y : ByteArray) : bl (x ++ y) = bl x ++ bl y := by simp [bl, ByteArray.data_append]
theorem bl_extract (x : ByteArray) (a b : Nat) : bl (x.extract a b) = ((bl x).drop a).take (b - a) := Lib.extract_data x a b
theorem bl_mk (l : List UInt8) : bl ⟨l.toArray⟩ = l := by simp [bl]
def byteOf (x : ByteArray) (k : Nat) : UInt8 := (bl x).getD k 0
def setB (x : ByteArray) (k : Nat) (b : UInt8) : ByteArray := ⟨((bl x).set k b).toArray⟩
theorem bl_setB (x : ByteArray) (k : Nat) (b : UInt8) : bl (setB x k b) = (bl x).set k b := bl_mk _
theorem size_setB (x : ByteArray) (k : Nat) (b : UInt8) : (setB x k b).size = x.size := by
  rw [← bl_length, bl_setB, List.length_set, bl_length]
theorem bAt_set_same (l : List ByteArray) (f : Nat) (x : ByteArray) (h : f < l.length) : bAt (l.set f x) f = x := by simp [bAt, List.getD, h]
theorem bAt_set_other (l : List ByteArray) (f g : Nat) (x : ByteArray) (h : f ≠ g) : bAt (l.set f x) g = bAt l g := by simp [bAt, List.getD, h]
theorem byteOf_get (x : ByteArray) (k : Nat) (h : k < x.size) : x[k] = byteOf x k := by
  simp [byteOf, bl, List.getD, h]
  rfl
end Go.Proofs.Ytopbejdhfndfbaa
