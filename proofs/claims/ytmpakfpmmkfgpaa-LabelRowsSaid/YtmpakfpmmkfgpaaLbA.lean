/- What a shipper sees: plain. -/
import Derived.Test.YtmpakfpmmkfgpaaBase
import Derived.Test.YtmpakfpmmkfgpaaVXc
import Derived.Test.YtmpakfpmmkfgpaaVXSortF
namespace Go.Proofs.Ytmpakfpmmkfgpaa
open Go Go.VX Go.RowKit
set_option linter.unusedVariables false
set_option linter.unusedSimpArgs false
set_option maxHeartbeats 20000000
set_option maxRecDepth 100000

abbrev srt (L : List Int) : List Int := L.mergeSort fun x y => decide (x ≤ y)
structure Stp where (oi ow tr et : Int)
structure Lft where (oi ow : Int)
structure Lin where (ow am ru : Int) (fe : Bool)
structure Rwx where (oi al pl et : Int)
instance : Inhabited Stp := ⟨⟨0, 0, 0, 0⟩⟩
deriving instance DecidableEq for Stp, Lft, Lin, Rwx

abbrev Stp.cells (x : Stp) : List V := [.int .i64 x.oi, .int .i64 x.ow, .int .i64 x.tr, .int .i64 x.et]
instance : Row Stp := ⟨Stp.cells, 4, fun _ => rfl, fun _ _ => rfl⟩
@[simp] theorem cellsStp (x : Stp) : Row.cells x = Stp.cells x := rfl
theorem lenStp (l : List Stp) : (rowsV l).length = l.length * 4 := rowsV_length l
theorem rowStp {l : List Stp} {i : Nat} {x : Stp} (h : l[i]? = some x) : List.take 4 (List.drop (i * 4) (rowsV l)) = Stp.cells x := rowsV_row h
theorem dropStp {l : List Stp} {i : Nat} {x : Stp} (h : l[i]? = some x) : List.drop (i * 4) (rowsV l) = Stp.cells x ++ rowsV (l.drop (i + 1)) := rowsV_drop h
theorem snocStp (l : List Stp) (x : Stp) : rowsV l ++ Stp.cells x = rowsV (l ++ [x]) := (rowsV_snoc l x).symm
theorem putStp {l : List Stp} {i : Nat} (h : i < l.length) (y : Stp) : List.take (i * 4) (rowsV l) ++ (Stp.cells y ++ List.drop (i * 4 + 4) (rowsV l)) = rowsV (l.set i y) := rowsV_put h y
theorem splStp {l : List Stp} {i : Nat} (h : i < l.length) (y : Stp) : spl (rowsV l) (i * 4) (Stp.cells y) = rowsV (l.set i y) := by
  rw [spl_eq (by rw [lenStp]; simp; omega), List.append_assoc]; exact putStp h y
theorem getStp {l : List Stp} {i : Nat} {x : Stp} (h : l[i]? = some x) : (rowsV l)[i * 4]? = some (.int .i64 x.oi) ∧ (rowsV l)[i * 4 + 1]? = some (.int .i64 x.ow) ∧ (rowsV l)[i * 4 + 2]? = some (.int .i64 x.tr) ∧ (rowsV l)[i * 4 + 3]? = some (.int .i64 x.et) :=
  ⟨rowsV_get (j := 0) h (by show 0 < 4; omega), rowsV_get (j := 1) h (by show 1 < 4; omega), rowsV_get (j := 2) h (by show 2 < 4; omega), rowsV_get (j := 3) h (by show 3 < 4; omega)⟩

abbrev Lft.cells (x : Lft) : List V := [.int .i64 x.oi, .int .i64 x.ow]
instance : Row Lft := ⟨Lft.cells, 2, fun _ => rfl, fun _ _ => rfl⟩
@[simp] theorem cellsLft (x : Lft) : Row.cells x = Lft.cells x := rfl
theorem lenLft (l : List Lft) : (rowsV l).length = l.length * 2 := rowsV_length l
theorem rowLft {l : List Lft} {i : Nat} {x : Lft} (h : l[i]? = some x) : List.take 2 (List.drop (i * 2) (rowsV l)) = Lft.cells x := rowsV_row h
theorem dropLft {l : List Lft} {i : Nat} {x : Lft} (h : l[i]? = some x) : List.drop (i * 2) (rowsV l) = Lft.cells x ++ rowsV (l.drop (i + 1)) := rowsV_drop h
theorem snocLft (l : List Lft) (x : Lft) : rowsV l ++ Lft.cells x = rowsV (l ++ [x]) := (rowsV_snoc l x).symm
theorem putLft {l : List Lft} {i : Nat} (h : i < l.length) (y : Lft) : List.take (i * 2) (rowsV l) ++ (Lft.cells y ++ List.drop (i * 2 + 2) (rowsV l)) = rowsV (l.set i y) := rowsV_put h y
theorem splLft {l : List Lft} {i : Nat} (h : i < l.length) (y : Lft) : spl (rowsV l) (i * 2) (Lft.cells y) = rowsV (l.set i y) := by
  rw [spl_eq (by rw [lenLft]; simp; omega), List.append_assoc]; exact putLft h y
theorem getLft {l : List Lft} {i : Nat} {x : Lft} (h : l[i]? = some x) : (rowsV l)[i * 2]? = some (.int .i64 x.oi) ∧ (rowsV l)[i * 2 + 1]? = some (.int .i64 x.ow) :=
  ⟨rowsV_get (j := 0) h (by show 0 < 2; omega), rowsV_get (j := 1) h (by show 1 < 2; omega)⟩

abbrev Lin.cells (x : Lin) : List V := [.int .i64 x.ow, .int .i64 x.am, .int .i64 x.ru, .bool x.fe]
instance : Row Lin := ⟨Lin.cells, 4, fun _ => rfl, fun _ _ => rfl⟩
@[simp] theorem cellsLin (x : Lin) : Row.cells x = Lin.cells x := rfl
theorem lenLin (l : List Lin) : (rowsV l).length = l.length * 4 := rowsV_length l
theorem rowLin {l : List Lin} {i : Nat} {x : Lin} (h : l[i]? = some x) : List.take 4 (List.drop (i * 4) (rowsV l)) = Lin.cells x := rowsV_row h
theorem dropLin {l : List Lin} {i : Nat} {x : Lin} (h : l[i]? = some x) : List.drop (i * 4) (rowsV l) = Lin.cells x ++ rowsV (l.drop (i + 1)) := rowsV_drop h
theorem snocLin (l : List Lin) (x : Lin) : rowsV l ++ Lin.cells x = rowsV (l ++ [x]) := (rowsV_snoc l x).symm
theorem putLin {l : List Lin} {i : Nat} (h : i < l.length) (y : Lin) : List.take (i * 4) (rowsV l) ++ (Lin.cells y ++ List.drop (i * 4 + 4) (rowsV l)) = rowsV (l.set i y) := rowsV_put h y
theorem splLin {l : List Lin} {i : Nat} (h : i < l.length) (y : Lin) : spl (rowsV l) (i * 4) (Lin.cells y) = rowsV (l.set i y) := by
  rw [spl_eq (by rw [lenLin]; simp; omega), List.append_assoc]; exact putLin h y
theorem getLin {l : List Lin} {i : Nat} {x : Lin} (h : l[i]? = some x) : (rowsV l)[i * 4]? = some (.int .i64 x.ow) ∧ (rowsV l)[i * 4 + 1]? = some (.int .i64 x.am) ∧ (rowsV l)[i * 4 + 2]? = some (.int .i64 x.ru) ∧ (rowsV l)[i * 4 + 3]? = some (.bool x.fe) :=
  ⟨rowsV_get (j := 0) h (by show 0 < 4; omega), rowsV_get (j := 1) h (by show 1 < 4; omega), rowsV_get (j := 2) h (by show 2 < 4; omega), rowsV_get (j := 3) h (by show 3 < 4; omega)⟩

abbrev Rwx.cells (x : Rwx) : List V := [.int .i64 x.oi, .int .i64 x.al, .int .i64 x.pl, .int .i64 x.et]
instance : Row Rwx := ⟨Rwx.cells, 4, fun _ => rfl, fun _ _ => rfl⟩
@[simp] theorem cellsRwx (x : Rwx) : Row.cells x = Rwx.cells x := rfl
theorem lenRwx (l : List Rwx) : (rowsV l).length = l.length * 4 := rowsV_length l
theorem rowRwx {l : List Rwx} {i : Nat} {x : Rwx} (h : l[i]? = some x) : List.take 4 (List.drop (i * 4) (rowsV l)) = Rwx.cells x := rowsV_row h
theorem dropRwx {l : List Rwx} {i : Nat} {x : Rwx} (h : l[i]? = some x) : List.drop (i * 4) (rowsV l) = Rwx.cells x ++ rowsV (l.drop (i + 1)) := rowsV_drop h
theorem snocRwx (l : List Rwx) (x : Rwx) : rowsV l ++ Rwx.cells x = rowsV (l ++ [x]) := (rowsV_snoc l x).symm
theorem putRwx {l : List Rwx} {i : Nat} (h : i < l.length) (y : Rwx) : List.take (i * 4) (rowsV l) ++ (Rwx.cells y ++ List.drop (i * 4 + 4) (rowsV l)) = rowsV (l.set i y) := rowsV_put h y
theorem splRwx {l : List Rwx} {i : Nat} (h : i < l.length) (y : Rwx) : spl (rowsV l) (i * 4) (Rwx.cells y) = rowsV (l.set i y) := by
  rw [spl_eq (by rw [lenRwx]; simp; omega), List.append_assoc]; exact putRwx h y
theorem getRwx {l : List Rwx} {i : Nat} {x : Rwx} (h : l[i]? = some x) : (rowsV l)[i * 4]? = some (.int .i64 x.oi) ∧ (rowsV l)[i * 4 + 1]? = some (.int .i64 x.al) ∧ (rowsV l)[i * 4 + 2]? = some (.int .i64 x.pl) ∧ (rowsV l)[i * 4 + 3]? = some (.int .i64 x.et) :=
  ⟨rowsV_get (j := 0) h (by show 0 < 4; omega), rowsV_get (j := 1) h (by show 1 < 4; omega), rowsV_get (j := 2) h (by show 2 < 4; omega), rowsV_get (j := 3) h (by show 3 < 4; omega)⟩

abbrev fsV {α : Type} [Row α] (l : List α) : V := .fs l.length (rowsV l)
structure Whl where (ss : List Stp) (fs : List Lft) (ls : List Lin) (co bo tk : Int)
structure Vw where (rs : List Rwx) (fs : List Int) (am ru : Int) (fe : Bool) (gs : List Int)
deriving instance DecidableEq for Vw
abbrev Whl.c (x : Whl) : List V := [fsV x.ss, fsV x.fs, fsV x.ls, .int .i64 x.co, .int .i64 x.bo, .int .i64 x.tk]
abbrev Vw.cells (x : Vw) : List V := [fsV x.rs, sI x.fs, .int .i64 x.am, .int .i64 x.ru, .bool x.fe, sI x.gs]
abbrev Vw.zero : Vw := ⟨[], [], 0, 0, false, []⟩
/-- The least order that stands on a truck. -/
def minL : List Int → Int
  | [] => 0
  | a :: l => l.foldl min a
def leastP (L : List Stp) (t : Int) : Int := minL ((L.filter fun y => y.tr == t).map (·.oi))
def lexB (a b : Stp) : Bool := decide (a.et < b.et) || (decide (a.et = b.et) && decide (a.oi < b.oi))
def aliasP (L : List Stp) (s : Stp) : Int := 1 + (L.countP fun y => !decide (y.tr = s.tr) && (decide (y.oi = leastP L y.tr) && decide (y.oi < leastP L s.tr)) : Nat)
def placeP (L : List Stp) (s : Stp) : Int := 1 + (L.countP fun y => decide (y.tr = s.tr) && lexB y s : Nat)
def rowP (L : List Stp) (s : Stp) : Rwx := ⟨s.oi, aliasP L s, placeP L s, s.et⟩
def ownS (x : Whl) (ow : Int) : List Stp := x.ss.filter fun s => s.ow == ow
def ownF (x : Whl) (ow : Int) : List Int := (x.fs.filter fun s => s.ow == ow).map (·.oi)
def idsP (x : Whl) : List Int := x.ss.map (·.oi) ++ x.fs.map (·.oi)
def leO (a b : Stp) : Bool := decide (a.oi ≤ b.oi)
def srtO (L : List Stp) : List Stp := L.mergeSort leO
def grantsP (x : Whl) (po : Int) : List Int :=
  (if po % 2 = 1 then [x.tk] else []) ++ (if po / 2 % 2 = 1 then [x.co] else []) ++ (if po / 4 % 2 = 1 then [x.bo] else []) ++ (if po / 8 % 2 = 1 then [(x.ss.length : Int)] else [])
def lineP (x : Whl) (ow : Int) : Lin := (x.ls.find? fun l => l.ow == ow).getD ⟨0, 0, 0, false⟩
def showP (x : Whl) (ow po : Int) : Vw × Int :=
  if po < 0 ∨ 15 < po then (Vw.zero, 1)
  else if ¬ (idsP x).Nodup then (Vw.zero, 6)
  else (⟨(srtO (ownS x ow)).map (rowP (ownS x ow)), srt (ownF x ow), (lineP x ow).am, (lineP x ow).ru, (lineP x ow).fe, grantsP x po⟩, 0)

theorem mkI (k : IntKind) {E : Env} {us : List Value} {r : List V} {n : Int} (h : VReps .cell E (.int k n :: r) us) : ∃ r', us = .int k n :: r' ∧ VReps .cell E r r' := by
  obtain ⟨u, r', h1, _, h2, h3⟩ := h
  simp only [VRep] at h2
  exact ⟨r', by rw [h1, h2], h3⟩
instance : Flat Stp where
  vals x := [.int .i64 x.oi, .int .i64 x.ow, .int .i64 x.tr, .int .i64 x.et]
  rep E a us h := by
    obtain ⟨r1, e1, h1⟩ := mkI .i64 h
    obtain ⟨r2, e2, h2⟩ := mkI .i64 h1
    obtain ⟨r3, e3, h3⟩ := mkI .i64 h2
    obtain ⟨r4, e4, h4⟩ := mkI .i64 h3
    simp only [VReps] at h4
    rw [e1, e2, e3, e4, h4]
  put E a := ⟨_, _, rfl, rfl, rfl, _, _, rfl, rfl, rfl, _, _, rfl, rfl, rfl, _, _, rfl, rfl, rfl, rfl⟩
  one a v hv := by
    simp at hv
    rcases hv with rfl | rfl | rfl | rfl <;> rfl
end Go.Proofs.Ytmpakfpmmkfgpaa
