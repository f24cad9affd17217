/- The walk's own rewriting. -/
import Derived.Test.YthjpaongoflgiaaVXStorm
namespace Go.VX
open Go.RowKit
attribute [simp] vbinE veqV veqFs vpart vnext vlookup vput vdel vmapKey keyT vrange ventry vstormB okd' dOf xOf chkAll chkW chk1 vcalmB vrunS vstepS quietOp quietR tstC eOf subC atC chainOf finC vmark V.noId byteQ vgo vgrp skips gslot dsts gateS vop evV getS setS putD vconst vconst1 okd thenQ inBlk vbin vbinI vbinS vun vopCall vlen vmin vmax vconv rdS rdV rdX vfieldAddr vindexAddr vindex vslice vadd vpartN vnil
  vbuild vfill structPlaces vappend vappendC vappendZ vcopy intOfV TK.isAgg V.known V.cells V.one V.flat0 V.notTup argSlots retV

section
variable {P : Program} {T : Nat → Option TI} {nt : Sh} {ops rest : List Oper} {Q K : St → Prop} {sl : List (Nat × V)} {ob : List Ob} {d : Option Nat} {o : Oper}
@[simp] theorem vcont_junk  : vcont K sl d .junk ob = K ⟨putD sl d .junk, ob⟩ := rfl
@[simp] theorem vcont_bool (b : Bool) : vcont K sl d (.bool b) ob = K ⟨putD sl d (.bool b), ob⟩ := rfl
@[simp] theorem vcont_int (k : IntKind) (n : Int) : vcont K sl d (.int k n) ob = K ⟨putD sl d (.int k n), ob⟩ := rfl
@[simp] theorem vcont_str (s : ByteArray) : vcont K sl d (.str s) ob = K ⟨putD sl d (.str s), ob⟩ := rfl
@[simp] theorem vcont_agg (cs : List V) : vcont K sl d (.agg cs) ob = K ⟨putD sl d (.agg cs), ob⟩ := rfl
@[simp] theorem vcont_tup (cs : List V) : vcont K sl d (.tup cs) ob = K ⟨putD sl d (.tup cs), ob⟩ := rfl
@[simp] theorem vcont_nilp  : vcont K sl d .nilp ob = K ⟨putD sl d .nilp, ob⟩ := rfl
@[simp] theorem vcont_nils  : vcont K sl d .nils ob = K ⟨putD sl d .nils, ob⟩ := rfl
@[simp] theorem vcont_nilf  : vcont K sl d .nilf ob = K ⟨putD sl d .nilf, ob⟩ := rfl
@[simp] theorem vcont_nilm  : vcont K sl d .nilm ob = K ⟨putD sl d .nilm, ob⟩ := rfl
@[simp] theorem vcont_nili  : vcont K sl d .nili ob = K ⟨putD sl d .nili, ob⟩ := rfl
@[simp] theorem vcont_fp (cs : List V) : vcont K sl d (.fp cs) ob = K ⟨putD sl d (.fp cs), ob⟩ := rfl
@[simp] theorem vcont_fs (n : Nat) (cs : List V) : vcont K sl d (.fs n cs) ob = K ⟨putD sl d (.fs n cs), ob⟩ := rfl
@[simp] theorem vcont_ptr (id tot off : Nat) : vcont K sl d (.ptr id tot off) ob = K ⟨putD sl d (.ptr id tot off), ob⟩ := rfl
@[simp] theorem vcont_sl (id tot esz off n : Nat) : vcont K sl d (.sl id tot esz off n) ob = K ⟨putD sl d (.sl id tot esz off n), ob⟩ := rfl
@[simp] theorem vcont_fn (f : FuncId) (cs : List V) : vcont K sl d (.fn f cs) ob = K ⟨putD sl d (.fn f cs), ob⟩ := rfl
@[simp] theorem vcont_mp (id : Nat) : vcont K sl d (.mp id) ob = K ⟨putD sl d (.mp id), ob⟩ := rfl
@[simp] theorem vrun_nil {k : Nat} : vrun P T nt ops k [] Q ⟨sl, ob⟩ = Q ⟨sl, ob⟩ := by simp only [vrun]
@[simp] theorem vrun_succ {k : Nat} : vrun P T nt ops (k + 1) (o :: rest) Q ⟨sl, ob⟩ = vrun P T nt ops k rest Q ⟨sl, ob⟩ := by simp only [vrun]
@[simp] theorem vrun_cons : vrun P T nt ops 0 (o :: rest) Q ⟨sl, ob⟩ = match o.guard with
    | none => vstep P T nt o ⟨sl, ob⟩ (vrun P T nt ops 0 rest Q)
    | some g => match gslot ops g with
      | some s => match getS sl s.1 with
        | .bool b => match vgrp T nt ops ⟨sl, ob⟩ s (o :: rest) with
          | some (p, sl', n) => p ∧ vrun P T nt ops n rest Q ⟨sl', ob⟩
          | none => if b = s.2 then vstep P T nt o ⟨setS sl s.1 (.bool s.2), ob⟩ (vrun P T nt ops 0 rest Q)
              else okd nt o.dst ∧ vrun P T nt ops 0 rest Q ⟨putD (setS sl s.1 (.bool (!s.2))) o.dst .junk, ob⟩
        | _ => False
      | none => False := by rw [vrun.eq_3]; rfl
@[simp] theorem vstep_mk : vstep P T nt o ⟨sl, ob⟩ K = match o.op with
  | .call ⟨.value f, args, _⟩ => match evV sl f with
    | .fn k caps => okd nt o.dst ∧ vcall P nt ⟨sl, ob⟩ k (args.toList.map (evV sl) ++ caps) (vcont K sl o.dst)
    | _ => False
  | .next x false => vnext nt o.dst ⟨sl, ob⟩ (evV sl x) K
  | op => match vop T sl ob op with
    | some (p, x, ob') => p ∧ okd nt o.dst ∧ K ⟨putD sl o.dst x, ob'⟩
    | none => False := rfl
end
section
variable {P : Program} {T : Nat → Option TI} {nt : Sh} {ob : List Ob} {sl0 : List (Nat × V)} {rest : List Oper} {o : Oper} {Q : List CE → Prop} {m : List CE} {e : CE}
@[simp] theorem vcalm_nil_nil : vcalm P T nt ob sl0 [] Q [] = Q [] := rfl
@[simp] theorem vcalm_nil_cons : vcalm P T nt ob sl0 [] Q (e :: m) = Q (e :: m) := rfl
@[simp] theorem vcalm_cons_nil : vcalm P T nt ob sl0 (o :: rest) Q [] = vcalmB P T nt ob sl0 o [] (vcalm P T nt ob sl0 rest Q) := rfl
@[simp] theorem vcalm_cons_cons : vcalm P T nt ob sl0 (o :: rest) Q (e :: m) = vcalmB P T nt ob sl0 o (e :: m) (vcalm P T nt ob sl0 rest Q) := rfl
end

section
variable {P : Program} {T : Nat → Option TI} {nt : Sh} {ob ob' : List Ob} {obs : List (List Ob)} {sl0 : List (Nat × V)} {rest : List Oper} {plan : List Pl} {pl : Pl} {o : Oper} {i : Nat} {Q G : List CE → List (List Ob) → List Ob → Prop} {m : List CE} {e : CE} {d : Nat} {ch : Ch}
@[simp] theorem kept2_junk  : shut2 G m obs d ch o .junk ob' = G (m ++ [⟨d, xOf o .junk, ch⟩]) (obs ++ [ob']) ob' := rfl
@[simp] theorem kept2_bool (b : Bool) : shut2 G m obs d ch o (.bool b) ob' = G (m ++ [⟨d, xOf o (.bool b), ch⟩]) (obs ++ [ob']) ob' := rfl
@[simp] theorem kept2_int (k : IntKind) (n : Int) : shut2 G m obs d ch o (.int k n) ob' = G (m ++ [⟨d, xOf o (.int k n), ch⟩]) (obs ++ [ob']) ob' := rfl
@[simp] theorem kept2_str (s : ByteArray) : shut2 G m obs d ch o (.str s) ob' = G (m ++ [⟨d, xOf o (.str s), ch⟩]) (obs ++ [ob']) ob' := rfl
@[simp] theorem kept2_agg (cs : List V) : shut2 G m obs d ch o (.agg cs) ob' = G (m ++ [⟨d, xOf o (.agg cs), ch⟩]) (obs ++ [ob']) ob' := rfl
@[simp] theorem kept2_tup (cs : List V) : shut2 G m obs d ch o (.tup cs) ob' = G (m ++ [⟨d, xOf o (.tup cs), ch⟩]) (obs ++ [ob']) ob' := rfl
@[simp] theorem kept2_nilp  : shut2 G m obs d ch o .nilp ob' = G (m ++ [⟨d, xOf o .nilp, ch⟩]) (obs ++ [ob']) ob' := rfl
@[simp] theorem kept2_nils  : shut2 G m obs d ch o .nils ob' = G (m ++ [⟨d, xOf o .nils, ch⟩]) (obs ++ [ob']) ob' := rfl
@[simp] theorem kept2_nilf  : shut2 G m obs d ch o .nilf ob' = G (m ++ [⟨d, xOf o .nilf, ch⟩]) (obs ++ [ob']) ob' := rfl
@[simp] theorem kept2_nilm  : shut2 G m obs d ch o .nilm ob' = G (m ++ [⟨d, xOf o .nilm, ch⟩]) (obs ++ [ob']) ob' := rfl
@[simp] theorem kept2_nili  : shut2 G m obs d ch o .nili ob' = G (m ++ [⟨d, xOf o .nili, ch⟩]) (obs ++ [ob']) ob' := rfl
@[simp] theorem kept2_fp (cs : List V) : shut2 G m obs d ch o (.fp cs) ob' = G (m ++ [⟨d, xOf o (.fp cs), ch⟩]) (obs ++ [ob']) ob' := rfl
@[simp] theorem kept2_fs (n : Nat) (cs : List V) : shut2 G m obs d ch o (.fs n cs) ob' = G (m ++ [⟨d, xOf o (.fs n cs), ch⟩]) (obs ++ [ob']) ob' := rfl
@[simp] theorem kept2_ptr (id tot off : Nat) : shut2 G m obs d ch o (.ptr id tot off) ob' = G (m ++ [⟨d, xOf o (.ptr id tot off), ch⟩]) (obs ++ [ob']) ob' := rfl
@[simp] theorem kept2_sl (id tot esz off n : Nat) : shut2 G m obs d ch o (.sl id tot esz off n) ob' = G (m ++ [⟨d, xOf o (.sl id tot esz off n), ch⟩]) (obs ++ [ob']) ob' := rfl
@[simp] theorem kept2_fn (f : FuncId) (cs : List V) : shut2 G m obs d ch o (.fn f cs) ob' = G (m ++ [⟨d, xOf o (.fn f cs), ch⟩]) (obs ++ [ob']) ob' := rfl
@[simp] theorem kept2_mp (id : Nat) : shut2 G m obs d ch o (.mp id) ob' = G (m ++ [⟨d, xOf o (.mp id), ch⟩]) (obs ++ [ob']) ob' := rfl
@[simp] theorem vstorm_nil_nil : vstorm P T nt sl0 [] [] i Q [] obs ob = Q [] obs ob := rfl
@[simp] theorem vstorm_nil_cons : vstorm P T nt sl0 [] [] i Q (e :: m) obs ob = Q (e :: m) obs ob := rfl
@[simp] theorem vstorm_cons_nil : vstorm P T nt sl0 (o :: rest) (pl :: plan) i Q [] obs ob = vstormB P T nt sl0 o pl i [] obs ob (vstorm P T nt sl0 rest plan (i + 1) Q) := rfl
@[simp] theorem vstorm_cons_cons : vstorm P T nt sl0 (o :: rest) (pl :: plan) i Q (e :: m) obs ob = vstormB P T nt sl0 o pl i (e :: m) obs ob (vstorm P T nt sl0 rest plan (i + 1) Q) := rfl
theorem vsub_lt {l h : Int} {x : V} (q : l < h) : vsub l h x = x := if_pos q
@[simp] theorem vsub_add {l c : Int} {x : V} (q : 0 < c) : vsub l (l + c) x = x := if_pos (by omega)
theorem vsub_ge {l h : Int} {x : V} (q : ¬ l < h) : vsub l h x = .fs 0 [] := if_neg q
theorem vsub_eq {l : Int} {x : V} : vsub l l x = .fs 0 [] := if_neg (by omega)
end
/-- A slot's value, picked by a test. -/
@[simp] theorem ite_bool (c : Prop) [Decidable c] (x y : Bool) : (if c then V.bool x else V.bool y) = V.bool (if c then x else y) := by split <;> rfl

section
variable (G : List CE → Prop) (m : List CE) (d : Nat) (ch : Ch)
@[simp] theorem kept_bool (b : Bool) : shut G m d ch (.bool b) = G (m ++ [⟨d, .bool b, ch⟩]) := rfl
@[simp] theorem kept_int (k : IntKind) (b : Int) : shut G m d ch (.int k b) = G (m ++ [⟨d, .int k b, ch⟩]) := rfl
@[simp] theorem kept_str (b : ByteArray) : shut G m d ch (.str b) = G (m ++ [⟨d, .str b, ch⟩]) := rfl
@[simp] theorem kept_agg (b : List V) : shut G m d ch (.agg b) = G (m ++ [⟨d, .agg b, ch⟩]) := rfl
@[simp] theorem kept_tup (b : List V) : shut G m d ch (.tup b) = G (m ++ [⟨d, .tup b, ch⟩]) := rfl
@[simp] theorem kept_fs (n : Nat) (b : List V) : shut G m d ch (.fs n b) = G (m ++ [⟨d, .fs n b, ch⟩]) := rfl
@[simp] theorem kept_nils : shut G m d ch .nils = G (m ++ [⟨d, .nils, ch⟩]) := rfl
@[simp] theorem kept_nilp : shut G m d ch .nilp = G (m ++ [⟨d, .nilp, ch⟩]) := rfl
@[simp] theorem kept_ptr (a b c : Nat) : shut G m d ch (.ptr a b c) = G (m ++ [⟨d, .ptr a b c, ch⟩]) := rfl
@[simp] theorem kept_sl (a b c e f : Nat) : shut G m d ch (.sl a b c e f) = G (m ++ [⟨d, .sl a b c e f, ch⟩]) := rfl
end

@[simp] theorem vpick_true (x y : V) : vpick true x y = x := rfl
@[simp] theorem vpick_false (x y : V) : vpick false x y = y := rfl
@[simp] theorem vpick_bool (c a b : Bool) : vpick c (.bool a) (.bool b) = .bool (if c = true then a else b) := by unfold vpick; split <;> rfl
@[simp] theorem vpick_or (c a b : Bool) : vpick c (.bool a) (gt c false (.bool b)) = .bool (if c = true then a else b) := by cases c <;> rfl
@[simp] theorem vpick_and (c a b : Bool) : vpick c (gt c true (.bool a)) (.bool b) = .bool (if c = true then a else b) := by cases c <;> rfl
@[simp] theorem gt_same (c : Bool) (x : V) : gt c c x = x := by simp [gt]
@[simp] theorem gt_tf (x : V) : gt true false x = .junk := rfl
@[simp] theorem gt_ft (x : V) : gt false true x = .junk := rfl

@[simp] theorem zerosV_one (z : V) (n : Nat) : zerosV [z] n = List.replicate n z := rfl
@[simp] theorem zerosV_rep (z : V) (m n : Nat) : zerosV (List.replicate m z) n = List.replicate (n * m) z := by rw [zerosV_eq]; simp

theorem w64 {x : Int} (h1 : -9223372036854775808 ≤ x) (h2 : x ≤ 9223372036854775807) : IntKind.i64.wrap x = x := by
  rw [IntKind.wrap_i64]; omega
theorem wu8 {x : Int} (h1 : 0 ≤ x) (h2 : x ≤ 255) : IntKind.u8.wrap x = x := by
  simp [IntKind.wrap, IntKind.bits, IntKind.signed]; omega

@[simp] theorem getD_drop {α : Type} (l : List α) (i n : Nat) (d : α) : (l.drop i).getD n d = l.getD (i + n) d := by
  simp [List.getD_eq_getElem?_getD]
end Go.VX
