/- Texts, as rows of bytes; the library's functions of texts that are used here. -/
import Derived.Test.YtgmcflbbdpbkeaaDoorBase
import Derived.Test.YtgmcflbbdpbkeaaDoorVXc
namespace Go.Proofs.YtgmcflbbdpbkeaaDoor
open Go Go.VX Go.RowKit
set_option linter.unusedVariables false
set_option linter.unusedSimpArgs false
set_option maxHeartbeats 20000000
set_option maxRecDepth 100000

abbrev bts (l : List Int) : List V := l.map (V.int .u8)
abbrev sB (l : List Int) : V := .fs l.length (bts l)
def byteL (l : List Int) : Prop := ∀ x ∈ l, 0 ≤ x ∧ x < 256
/-- A text's bytes. -/
def sL (s : ByteArray) : List Int := s.data.toList.map fun b => (b.toNat : Int)
theorem sL_len (s : ByteArray) : (sL s).length = s.size := by simp [sL]
theorem sL_byte (s : ByteArray) : byteL (sL s) := fun x hx => by
  simp only [sL, List.mem_map] at hx
  obtain ⟨b, _, rfl⟩ := hx
  have := b.toNat_lt
  omega
theorem sL_get {s : ByteArray} {j : Nat} {x : Int} (h : (sL s)[j]? = some x) : strAt s j = x := by
  simp only [sL, List.getElem?_map, Option.map_eq_some_iff] at h
  obtain ⟨b, hb, rfl⟩ := h
  have : s.data[j]? = some b := by rw [← Array.getElem?_toList]; exact hb
  simp [strAt, this]
theorem sL_inj {a b : ByteArray} (h : sL a = sL b) : a = b := by
  have hd : a.data.toList = b.data.toList := by
    refine (List.map_inj_right fun x y q => ?_).1 h
    have : x.toNat = y.toNat := by omega
    exact UInt8.toNat_inj.1 this
  cases a; cases b
  simp only at hd
  congr
  exact Array.ext' hd
theorem sL_extract (s : ByteArray) (i j : Nat) : sL (s.extract i j) = ((sL s).take j).drop i := by
  unfold sL
  have : (s.extract i j).data.toList = (s.data.toList.take j).drop i := by
    rw [ByteArray.data_extract]
    simp [List.drop_take]
  rw [this, List.map_drop, List.map_take]
theorem bytesV_sL (s : ByteArray) : bytesV s = bts (sL s) := by simp [bytesV, sL]
theorem sL_nil (s : ByteArray) : sL s = [] ↔ s = ⟨#[]⟩ := ⟨fun h => sL_inj (by rw [h]; rfl), fun h => by rw [h]; rfl⟩
theorem sL_strOfV {l : List Int} (h : byteL l) : sL (strOfV (bts l)) = l := by
  unfold sL strOfV
  simp only [List.map_map]
  refine (List.map_congr_left fun x hx => ?_).trans (List.map_id _)
  have := h x hx
  simp
  omega
theorem str_nil0 (s : ByteArray) : s.toList = [] ↔ s.size = 0 := by
  rw [ByteArray.toList_eq]
  exact ⟨fun h => by show s.data.size = 0; rw [← Array.length_toList, h]; rfl, fun h => List.length_eq_zero_iff.1 (by rw [Array.length_toList]; exact h)⟩
@[simp] theorem str_isEmpty (s : ByteArray) : s.toList.isEmpty = decide (s.size = 0) := by
  rw [Bool.eq_iff_iff, List.isEmpty_iff, decide_eq_true_eq, str_nil0]
@[simp] theorem str_eq_nil (s : ByteArray) : s.toList = [] ↔ s.size = 0 := str_nil0 s
@[simp] theorem str_beq (a b : ByteArray) : (a.toList == b.toList) = decide (a = b) := by
  rw [Bool.eq_iff_iff, beq_iff_eq, decide_eq_true_eq, ByteArray.toList_eq, ByteArray.toList_eq]
  exact ⟨fun h => by cases a; cases b; simp only at h; congr; exact Array.ext' h, fun h => by rw [h]⟩
end Go.Proofs.YtgmcflbbdpbkeaaDoor
