/- All operations together. -/
import Derived.Test.YthjpaongoflgiaaVXNext
import Derived.Test.YthjpaongoflgiaaVXEq
namespace Go.VX
open Go.RowKit
set_option linter.unusedVariables false
set_option linter.unusedSimpArgs false

def vpick (c : Bool) (x y : V) : V := if c = true then x else y

def intOfV : V → Option Int
  | .int _ n => some n
  | _ => none

def vmin (x y : V) : Option V :=
  match x, y with
  | .int k a, .int k' b => if k = k' then some (.int k (if b < a then b else a)) else none
  | _, _ => none
def vmax (x y : V) : Option V :=
  match x, y with
  | .int k a, .int k' b => if k = k' then some (.int k (if b > a then b else a)) else none
  | _, _ => none

def vlen (T : Nat → Option TI) (ob : List Ob) (t : Nat) (x : V) : Option (Prop × V) :=
  match T t with
  | some ⟨.string, _, _, _⟩ => match x with
    | .str s => some (True, .int .i64 (s.size : Int))
    | _ => none
  | some ⟨.slice _, _, _, _⟩ => match rdS ob x with
    | some (p, n, _) => some (p, .int .i64 (n : Int))
    | none => none
  | some ⟨.array n _, _, _, _⟩ => some (True, .int .i64 (n : Int))
  | some ⟨.map _ _, _, _, _⟩ => match x with
    | .mp id => match ob[id]? with
      | some (.map es _ _) => some (True, .int .i64 (es.length : Int))
      | _ => none
    | _ => none
  | _ => none

def vconv (T : Nat → Option TI) (ob : List Ob) (src dst : Nat) (x : V) : Option (Prop × V) :=
  match T src, T dst with
  | some i, some j => match j.k, x with
    | .int k, .int _ n => some (True, .int k (k.wrap n))
    | .string, .str s => some (True, .str s)
    | .slice e, .str s => match i.k, T e with
      | .string, some ⟨.int .u8, _, _, _⟩ => some (True, .fs s.size (bytesV s))
      | _, _ => none
    | .string, x => match i.k with
      | .slice e => match T e, rdS ob x with
        | some ⟨.int .u8, _, _, _⟩, some (p, n, ys) => some (p ∧ ys.length = n ∧ ys.all byteQ = true, .str (strOfV ys))
        | _, _ => none
      | _ => none
    | _, _ => none
  | _, _ => none

def vopCall (T : Nat → Option TI) (sl : List (Nat × V)) (ob : List Ob) (b : Builtin) (args : List Operand) (ts : List Nat) : Option (Prop × V × List Ob) :=
  match b, args, ts with
  | .len, [x], [t] => match vlen T ob t (evV sl x) with
    | some (p, y) => some (p, y, ob)
    | none => none
  | .min, [x, y], _ => match vmin (evV sl x) (evV sl y) with
    | some z => some (True, z, ob)
    | none => none
  | .max, [x, y], _ => match vmax (evV sl x) (evV sl y) with
    | some z => some (True, z, ob)
    | none => none
  | .append, [x, y], [t, t2] => match T t2 with
    | some ⟨.slice _, _, _, _⟩ | some ⟨.string, _, _, _⟩ => vappend T ob t (evV sl x) (evV sl y)
    | some ⟨.int _, _, _, _⟩ => match evV sl y with
      | .int _ n => vappendZ T ob t (evV sl x) n
      | _ => none
    | _ => none
  | .copy, [x, y], [t, _] => vcopy T ob t (evV sl x) (evV sl y)
  | .delete, [x, k], [t, _] => match evV sl x with
    | .mp id => match ob[id]? with
      | some (.map es bs ck) => if vmapKey T t (evV sl k) = true then match vdel (evV sl k) es bs ck with
          | some o' => some (True, .tup [], ob.set id o')
          | none => none
        else none
      | _ => none
    | _ => none
  | _, _, _ => none

def vop (T : Nat → Option TI) (sl : List (Nat × V)) (ob : List Ob) : Op → Option (Prop × V × List Ob)
  | .move x => some (True, evV sl x, ob)
  | .assign x => some (True, evV sl x, ob)
  | .pick c a b => match evV sl c with
    | .bool c => some (True, vpick c (evV sl a) (evV sl b), ob)
    | _ => none
  | .alloc t => match T t with
    | some i => some (True, .ptr ob.length i.zero.cells.length 0, ob ++ [.live i.zero.cells])
    | none => none
  | .box _ x => if (evV sl x).known then some (True, .ptr ob.length (evV sl x).cells.length 0, ob ++ [.live (evV sl x).cells]) else none
  | .build t parts => match vbuild T t (parts.toList.map fun q => (q.1, evV sl q.2)) with
    | some (p, y) => some (p, y, ob)
    | none => none
  | .buildSlice t n parts => match T t with
    | some ⟨.slice e, _, _, _⟩ => match T e with
      | some ie => match vfill (fun i => some (i * ie.size, ie.size)) (zerosV ie.zero.cells n) (parts.toList.map fun q => (q.1, evV sl q.2)) with
        | some (p, cs) => some (p ∧ n * ie.size ≤ 16777216 ∧ cs.length = n * ie.size, .sl ob.length cs.length ie.size 0 n, ob ++ [.live cs])
        | none => none
      | none => none
    | _ => none
  | .load t x => match T t, rdV ob (evV sl x) with
    | some i, some (p, cs, off) => if i.k.isAgg then some (p ∧ off + i.size ≤ cs.length, .agg ((cs.drop off).take i.size), ob) else some (p ∧ off < cs.length, cs.getD off .junk, ob)
    | _, _ => none
  | .store t x y => match T t, evV sl x with
    | some i, .ptr id tot off => match ob[id]? with
      | some (.live cs) => if (evV sl y).known then
          some (cs.length = tot ∧ (evV sl y).cells.length = i.size ∧ 0 < i.size ∧ off + (evV sl y).cells.length ≤ cs.length, .junk, ob.set id (.live (spl cs off (evV sl y).cells)))
        else none
      | _ => none
    | _, _ => none
  | .nilCheck x => match evV sl x with
    | .fn f cs => some (True, .fn f cs, ob)
    | y => match vnil ob y with
      | some (p, false) => some (p, y, ob)
      | _ => none
  | .binOp op t x y _ => match vbinE T ob op t (evV sl x) (evV sl y) with
    | some (p, z) => some (p, z, ob)
    | none => none
  | .unOp op _ x => match vun op (evV sl x) with
    | some y => some (True, y, ob)
    | none => none
  | .convert src dst x => match vmark T ob src dst (evV sl x) with
    | some r => some r
    | none => match vconv T ob src dst (evV sl x) with
      | some (p, y) => some (p, y, ob)
      | none => none
  | .makeFunc (.func f) first caps => if first.isEmpty && (caps.toList.map (evV sl)).all V.flat0 then some (True, .fn f (caps.toList.map (evV sl)), ob) else none
  | .makeSlice t l c => match T t, evV sl l, evV sl c with
    | some ⟨.slice e, _, _, _⟩, .int _ l, .int _ c => match T e with
      | some ie => some (0 ≤ l ∧ l ≤ c ∧ (ie.bytes : Int) * c ≤ 140737488355328 ∧ c ≤ 140737488355328, .sl ob.length (zerosV ie.zero.cells l.toNat).length ie.size 0 l.toNat, ob ++ [.live (zerosV ie.zero.cells l.toNat)])
      | none => none
    | _, _, _ => none
  | .slice t x lo hi none => match (lo.map fun o => intOfV (evV sl o)), (hi.map fun o => intOfV (evV sl o)) with
    | some none, _ => none
    | _, some none => none
    | l, h => match vslice T ob t (evV sl x) (l.bind id) (h.bind id) with
      | some (p, y) => some (p, y, ob)
      | none => none
  | .fieldAddr t x f => match vfieldAddr T ob t (evV sl x) f with
    | some (p, y) => some (p, y, ob)
    | none => none
  | .field t x f => match T t, evV sl x with
    | some ⟨.struct fs, _, _, _⟩, .agg cs => match fs[f]? with
      | some (o, ft) => match vpartN T ft cs o with
        | some (p, y) => some (p, y, ob)
        | none => none
      | none => none
    | _, _ => none
  | .indexAddr t x i => match evV sl i with
    | .int _ i => match vindexAddr T ob t (evV sl x) i with
      | some (p, y) => some (p, y, ob)
      | none => none
    | _ => none
  | .index t x i => match evV sl i with
    | .int _ i => match vindex T t (evV sl x) i with
      | some (p, y) => some (p, y, ob)
      | none => none
    | _ => none
  | .extract x i => match evV sl x with
    | .tup cs => match cs[i]? with
      | some y => some (True, y, ob)
      | none => none
    | _ => none
  | .call c => match c.callee with
    | .builtin b => vopCall T sl ob b c.args.toList c.argTypes.toList
    | _ => none
  | .makeMap _ none => some (True, .mp ob.length, ob ++ [.map [] [] 0])
  | .lookup t x k ok => match vlookup T ob t (evV sl x) (evV sl k) ok with
    | some y => some (True, y, ob)
    | none => none
  | .mapUpdate t m k y => match evV sl m with
    | .mp id => match ob[id]? with
      | some (.map es bs ck) => if vmapKey T t (evV sl k) = true ∧ (evV sl y).notTup = true then match vput (evV sl k) (evV sl y) es bs ck with
          | some o' => some (True, .junk, ob.set id o')
          | none => none
        else none
      | _ => none
    | _ => none
  | .range t x => match vrange T ob t (evV sl x) with
    | some (y, ob') => some (True, y, ob')
    | none => none
  | .entry x => match ventry ob (evV sl x) with
    | some (p, y) => some (p, y, ob)
    | none => none
  | _ => none

section
variable {P : Program} {T : Nat → Option TI} {C : Ctx} {Φ : Nat → Prop} {H : Nat → Option Nat} {sl : List (Nat × V)} {ob : List Ob} {a : Act} {w : World}

theorem evals_rep (h : SimE C Φ H ⟨sl, ob⟩ a w) : ∀ (parts : List (Nat × Operand)), VReps .any (mkE Φ H ob w) (parts.map fun q => evV sl q.2) (parts.map fun q => a.eval q.2)
  | [] => by simp [VReps]
  | (i, x) :: r => ⟨_, _, rfl, trivial, h.eval x, evals_rep h r⟩
theorem evals_rep' (h : SimE C Φ H ⟨sl, ob⟩ a w) : ∀ (xs : List Operand), VReps .any (mkE Φ H ob w) (xs.map (evV sl)) (xs.map a.eval)
  | [] => by simp [VReps]
  | x :: r => ⟨_, _, rfl, trivial, h.eval x, evals_rep' h r⟩

theorem int_of_rep {x : V} {n : Int} {v : Value} (hx : VRep (mkE Φ H ob w) x v) (h : intOfV x = some n) : ∃ k, v = .int k n := by
  cases x <;> simp [intOfV] at h
  subst h
  exact ⟨_, hx⟩

theorem vlen_sound (hT : TabOK P T) (hs : HSim Φ H ob w) {t ty : Nat} {x y : V} {v : Value} (hx : VRep (mkE Φ H ob w) x v) {p : Prop} (h : vlen T ob t x = some (p, y)) (hp : p) :
    ∃ u, (Builtin.len_ #[t] ty #[v]).run P w = .ok u w ∧ VRep (mkE Φ H ob w) y u := by
  unfold vlen at h
  split at h
  · rename_i ht
    obtain ⟨info, d, z, e1, e2, e3, _⟩ := hT t _ ht
    obtain rfl := kindOf_string e3
    split at h
    case h_2 => cases h
    simp only [Option.some.injEq, Prod.mk.injEq] at h; obtain ⟨rfl, rfl⟩ := h
    simp only [VRep] at hx; subst hx
    exact ⟨_, by simp [Builtin.len_, run_underlying e2]; rfl, rfl⟩
  · rename_i ht
    obtain ⟨info, d, z, e1, e2, e3, _⟩ := hT t _ ht
    obtain rfl := kindOf_slice e3
    split at h
    case h_2 => cases h
    rename_i p' n cs hrd
    simp only [Option.some.injEq, Prod.mk.injEq] at h; obtain ⟨rfl, rfl⟩ := h
    obtain ⟨ad, cap, us, rfl, _⟩ := rdS_sound hs hx hrd hp
    exact ⟨_, by simp [Builtin.len_, run_underlying e2]; rfl, rfl⟩
  · rename_i ht
    obtain ⟨info, d, z, e1, e2, e3, _⟩ := hT t _ ht
    obtain rfl := kindOf_array e3
    simp only [Option.some.injEq, Prod.mk.injEq] at h; obtain ⟨rfl, rfl⟩ := h
    exact ⟨_, by simp [Builtin.len_, run_underlying e2]; rfl, rfl⟩
  · rename_i kk ee _ _ _ ht
    obtain ⟨info, d, z, e1, e2, e3, _⟩ := hT t _ ht
    obtain ⟨k', e', rfl⟩ : ∃ k e, d = .map k e := by cases d <;> simp_all [kindOf]
    split at h
    case h_2 => cases h
    rename_i id
    split at h
    case h_2 => cases h
    rename_i es bs ck ho
    simp only [Option.some.injEq, Prod.mk.injEq] at h; obtain ⟨rfl, rfl⟩ := h
    obtain ⟨_, h1, h2⟩ := hx
    obtain ⟨b, hb, rfl⟩ := h2 (by simp [mkE, Lof, ho, Ob.len])
    have hr := hs.rep id _ ho
    obtain ⟨_, b', arr, g1, g2, g3, g4, _⟩ := hr
    have hb' : H id = some b := hb
    obtain rfl : b = b' := by rw [hb'] at g1; exact Option.some.inj g1
    have g2' : w.heap[b]? = some (.map arr ck) := g2
    have hl := g4.length
    simp only [List.length_map, Array.length_toList] at hl
    refine ⟨_, ?_, rfl⟩
    simp [Builtin.len_, run_underlying e2, getObj, Sem.run, g2', goInt, hl]
  · cases h

theorem vop_sound (hT : TabOK P T) (s : SimE C Φ H ⟨sl, ob⟩ a w) {o : Oper} {p : Prop} {x : V} {ob' : List Ob} (h : vop T sl ob o.op = some (p, x, ob')) (hp : p) : OpOK P o a w Φ H ob x ob' := by
  have hs : HSim Φ H ob w := s.hs.sim
  obtain ⟨dst, op, ty, pos, aft, gd⟩ := o
  dsimp only at h
  cases op with
  | move y => simp only [vop, Option.some.injEq, Prod.mk.injEq] at h; obtain ⟨rfl, rfl, rfl⟩ := h; exact OpOK.pure hs rfl (s.eval y)
  | assign y => simp only [vop, Option.some.injEq, Prod.mk.injEq] at h; obtain ⟨rfl, rfl, rfl⟩ := h; exact OpOK.pure hs rfl (s.eval y)
  | pick c y z =>
    simp only [vop] at h
    split at h
    case h_2 => cases h
    rename_i b hc
    simp only [Option.some.injEq, Prod.mk.injEq] at h; obtain ⟨rfl, rfl, rfl⟩ := h
    have hb := s.eval c
    simp only [hc, VRep] at hb
    refine OpOK.pure hs (v := if b = true then a.eval y else a.eval z) (by simp [execOp, hb, asBool]) ?_
    unfold vpick
    split
    · exact s.eval y
    · exact s.eval z
  | alloc t =>
    simp only [vop] at h
    split at h
    case h_2 => cases h
    rename_i i ht
    simp only [Option.some.injEq, Prod.mk.injEq] at h; obtain ⟨rfl, rfl, rfl⟩ := h
    obtain ⟨u, w', H', h1, h2, h3⟩ := alloc_sound hT hs ht
    exact ⟨u, w', Φ, H', .inl (by simp [execOp, h1]), h2, h3⟩
  | box t y =>
    simp only [vop] at h
    split at h
    case isFalse => cases h
    rename_i hk
    simp only [Option.some.injEq, Prod.mk.injEq] at h; obtain ⟨rfl, rfl, rfl⟩ := h
    obtain ⟨u, w', H', h1, h2, h3⟩ := box_sound (P := P) (t := t) hs (s.eval y) hk
    exact ⟨u, w', Φ, H', .inl (by simp [execOp, h1]), h2, h3⟩
  | build t parts =>
    simp only [vop] at h
    split at h
    case h_2 => cases h
    rename_i p' y hb
    simp only [Option.some.injEq, Prod.mk.injEq] at h; obtain ⟨rfl, rfl, rfl⟩ := h
    obtain ⟨u, h1, h2⟩ := build_sound (P := P) hT (vals := parts.map fun (i, x) => (i, a.eval x)) (by simp) (by simpa [Function.comp_def] using evals_rep s parts.toList) hb hp
    exact OpOK.pure hs (by simp [execOp, h1]) h2
  | buildSlice t n parts =>
    simp only [vop] at h
    split at h
    case h_2 => cases h
    rename_i e _ _ _ ht
    split at h
    case h_2 => cases h
    rename_i ie he
    split at h
    case h_2 => cases h
    rename_i p' cs hf
    simp only [Option.some.injEq, Prod.mk.injEq] at h; obtain ⟨rfl, rfl, rfl⟩ := h
    obtain ⟨u, w', H', h1, h2, h3⟩ := buildSlice_sound (P := P) hT hs ht rfl he (n := n) (vals := parts.map fun (i, x) => (i, a.eval x)) (by simp) (by simpa [Function.comp_def] using evals_rep s parts.toList) hf hp.1 hp.2.1 hp.2.2
    exact ⟨u, w', Φ, H', .inl (by simp [execOp, h1]), h2, h3⟩
  | load t y =>
    simp only [vop] at h
    split at h
    case h_2 => cases h
    rename_i i p' cs off ht hr
    have hx := s.eval y
    split at h
    · rename_i ha
      simp only [Option.some.injEq, Prod.mk.injEq] at h; obtain ⟨rfl, rfl, rfl⟩ := h
      obtain ⟨u, h1, h2⟩ := (load_sound hT hs ht hx hr hp.1).1 ha hp.2
      exact OpOK.pure hs (by simp [execOp, h1]) h2
    · rename_i ha
      simp only [Option.some.injEq, Prod.mk.injEq] at h; obtain ⟨rfl, rfl, rfl⟩ := h
      obtain ⟨u, h1, h2, _⟩ := (load_sound hT hs ht hx hr hp.1).2 (by simpa using ha) (cs.getD off .junk) (by rw [List.getD_eq_getElem?_getD, List.getElem?_eq_getElem hp.2]; rfl)
      exact OpOK.pure hs (by simp [execOp, h1]) h2
  | store t y z =>
    simp only [vop] at h
    split at h
    case h_2 => cases h
    rename_i i id tot off ht hy
    split at h
    case h_2 => cases h
    rename_i cs ho
    split at h
    case isFalse => cases h
    rename_i hk
    simp only [Option.some.injEq, Prod.mk.injEq] at h; obtain ⟨rfl, rfl, rfl⟩ := h
    obtain ⟨q1, q2, q3, q4⟩ := hp
    have hx := s.eval y
    rw [hy] at hx
    obtain ⟨w', H', h1, h2⟩ := store_sound (P := P) hT hs ht hx ho q1 (s.eval z) hk q2 q4 (by rw [q2]; exact q3)
    exact ⟨undef, w', Φ, H', .inr ⟨by simp [execOp, h1], rfl⟩, h2, trivial⟩
  | nilCheck y =>
    simp only [vop] at h
    have hx := s.eval y
    split at h
    · rename_i f cs hf
      simp only [Option.some.injEq, Prod.mk.injEq] at h; obtain ⟨rfl, rfl, rfl⟩ := h
      have hx' := hx
      rw [hf] at hx'
      obtain ⟨arr, e0, e1, e2⟩ := hx'
      exact OpOK.pure hs (v := .func (.func f) #[] arr) (by simp [execOp, e1]) ⟨arr, e0, rfl, e2⟩
    · split at h
      case h_2 => cases h
      rename_i p' hn
      simp only [Option.some.injEq, Prod.mk.injEq] at h; obtain ⟨rfl, rfl, rfl⟩ := h
      rcases vnil_sound hx hn hp with ⟨q, _⟩ | ⟨_, ad, e⟩
      · cases q
      · exact OpOK.pure hs (v := a.eval y) (by simp [execOp, e]) hx
  | binOp op t y z t2 =>
    simp only [vop] at h
    split at h
    case h_2 => cases h
    rename_i p' r hb
    simp only [Option.some.injEq, Prod.mk.injEq] at h; obtain ⟨rfl, rfl, rfl⟩ := h
    obtain ⟨r, h1, h2⟩ := vbinE_run (P := P) hT hb hp (s.eval y) (s.eval z) y z
    refine OpOK.pure hs (v := r) ?_ h2
    simp only [execOp, Sem.run_bind] at h1 ⊢
    simp [h1]
  | unOp op t y =>
    simp only [vop] at h
    split at h
    case h_2 => cases h
    rename_i r hb
    simp only [Option.some.injEq, Prod.mk.injEq] at h; obtain ⟨rfl, rfl, rfl⟩ := h
    obtain ⟨r, h1, h2⟩ := vun_run (P := P) hb (s.eval y)
    exact OpOK.pure hs (by simp [execOp, h1]) h2
  | convert src dst' y =>
    simp only [vop] at h
    split at h
    · rename_i hmk
      simp only [Option.some.injEq] at h
      subst h
      obtain ⟨u, w', Φ', H', h1, h2, h3⟩ := mark_sound (P := P) hT hs (s.eval y) hmk hp
      exact ⟨u, w', Φ', H', .inl (by simp [execOp, h1]), h2, h3⟩
    split at h
    case h_2 => cases h
    rename_i p' r hb
    simp only [Option.some.injEq, Prod.mk.injEq] at h; obtain ⟨rfl, rfl, rfl⟩ := h
    have hx := s.eval y
    unfold vconv at hb
    split at hb
    case h_2 => cases hb
    rename_i i j hi hj
    obtain ⟨info, d, z, e1, e2, e3, _⟩ := hT dst' _ hj
    obtain ⟨info', d', z', f1, f2, f3, _⟩ := hT src _ hi
    split at hb
    · rename_i k k0 n hjk hey
      simp only [Option.some.injEq, Prod.mk.injEq] at hb; obtain ⟨rfl, rfl⟩ := hb
      obtain rfl := kindOf_int (e3.trans hjk)
      rw [hey] at hx
      simp only [VRep] at hx
      refine OpOK.pure hs (v := .int k (k.wrap n)) ?_ rfl
      simp [execOp, convert, run_underlying e2, run_underlying f2, hx, Conv.intToInt]
    · rename_i st hjk hey
      simp only [Option.some.injEq, Prod.mk.injEq] at hb; obtain ⟨rfl, rfl⟩ := hb
      obtain rfl := kindOf_string (e3.trans hjk)
      rw [hey] at hx
      simp only [VRep] at hx
      refine OpOK.pure hs (v := .string st) ?_ rfl
      simp [execOp, convert, run_underlying e2, run_underlying f2, hx]
    · rename_i e st hjk hey
      split at hb
      case h_2 => cases hb
      rename_i hik he
      simp only [Option.some.injEq, Prod.mk.injEq] at hb; obtain ⟨rfl, rfl⟩ := hb
      rw [hey] at hx
      simp only [VRep] at hx
      obtain ⟨u, w', Φ', h1, h2, h3⟩ := bytes_sound (P := P) hT hs hj hjk he rfl hi hik st
      exact ⟨u, w', Φ', H, .inl (by simp [execOp, hx, h1]), h2, h3⟩
    · rename_i hjk _
      split at hb
      case h_2 => cases hb
      rename_i e hik
      split at hb
      case h_2 => cases hb
      rename_i _ p'' n ys he hrd
      simp only [Option.some.injEq, Prod.mk.injEq] at hb; obtain ⟨rfl, rfl⟩ := hb
      obtain ⟨q1, q2, q3⟩ := hp
      have := str_sound (P := P) hT hs hi hik he rfl hj hjk hx hrd q1 q2 q3
      exact OpOK.pure hs (v := .string (strOfV ys)) (by simp [execOp, this]) rfl
    · cases hb
  | makeFunc fn first caps =>
    cases fn with
    | func f =>
      simp only [vop] at h
      split at h
      case isFalse => cases h
      rename_i hfe
      simp only [Option.some.injEq, Prod.mk.injEq] at h; obtain ⟨rfl, rfl, rfl⟩ := h
      simp only [Bool.and_eq_true] at hfe
      have hf0 : first = #[] := by simpa using hfe.1
      subst hf0
      refine OpOK.pure hs (v := .func (.func f) #[] (caps.map a.eval)) (by simp [execOp, Instr.makeFunc]) ⟨_, hfe.2, rfl, by simpa using evals_rep' s caps.toList⟩
    | _ => simp [vop] at h
  | makeSlice t l c =>
    simp only [vop] at h
    split at h
    case h_2 => cases h
    rename_i e _ _ _ kl l' kc c' ht hl hc
    split at h
    case h_2 => cases h
    rename_i ie he
    simp only [Option.some.injEq, Prod.mk.injEq] at h; obtain ⟨rfl, rfl, rfl⟩ := h
    obtain ⟨q1, q2, q3, q4⟩ := hp
    obtain ⟨u, w', H', h1, h2, h3⟩ := makeSlice_sound (P := P) hT hs ht rfl he (kl := kl) (kc := kc) q1 q2 q3 q4
    have hl' := s.eval l
    have hc' := s.eval c
    rw [hl] at hl'
    rw [hc] at hc'
    simp only [VRep] at hl' hc'
    exact ⟨u, w', Φ, H', .inl (by simp [execOp, hl', hc', h1]), h2, h3⟩
  | slice t y lo hi mx =>
    cases mx with
    | some m => simp [vop] at h
    | none =>
      simp only [vop] at h
      have key : ∀ (l h' : Option Int), (∀ o, lo = some o → ∃ k n, a.eval o = .int k n ∧ l = some n) → (lo = none → l = none) → (∀ o, hi = some o → ∃ k n, a.eval o = .int k n ∧ h' = some n) → (hi = none → h' = none) →
          ∀ {p' y'}, vslice T ob t (evV sl y) l h' = some (p', y') → p' → OpOK P ⟨dst, .slice t y lo hi none, ty, pos, aft, gd⟩ a w Φ H ob y' ob := by
        intro l h' hl1 hl2 hh1 hh2 p' y' hv hp'
        obtain ⟨kl, el⟩ : ∃ k, lo.map a.eval = l.map (Value.int k) := by
          cases lo with
          | none => exact ⟨.i64, by rw [hl2 rfl]; rfl⟩
          | some o => obtain ⟨k, n, q1, q2⟩ := hl1 o rfl; exact ⟨k, by rw [q2]; simp [q1]⟩
        obtain ⟨kh, eh⟩ : ∃ k, hi.map a.eval = h'.map (Value.int k) := by
          cases hi with
          | none => exact ⟨.i64, by rw [hh2 rfl]; rfl⟩
          | some o => obtain ⟨k, n, q1, q2⟩ := hh1 o rfl; exact ⟨k, by rw [q2]; simp [q1]⟩
        obtain ⟨u, h1, h2⟩ := vslice_sound (P := P) hT hs (s.eval y) (kl := kl) (kh := kh) hv hp'
        exact OpOK.pure hs (by simp [execOp, el, eh, h1]) h2
      have hint : ∀ o n, intOfV (evV sl o) = some n → ∃ k, a.eval o = .int k n := fun o n q => int_of_rep (s.eval o) q
      split at h
      · cases h
      · cases h
      · rename_i l0 h0 hn1 hn2
        split at h
        case h_2 => cases h
        rename_i p' y' hv
        simp only [Option.some.injEq, Prod.mk.injEq] at h; obtain ⟨rfl, rfl, rfl⟩ := h
        refine key _ _ (fun o e => ?_) (fun e => by simp [e]) (fun o e => ?_) (fun e => by simp [e]) hv hp
        · subst e
          cases q : intOfV (evV sl o) with
          | none => exact (hn1 (by simp [q])).elim
          | some n => obtain ⟨k, hk⟩ := hint o n q; exact ⟨k, n, hk, by simp [q]⟩
        · subst e
          cases q : intOfV (evV sl o) with
          | none => exact (hn2 (by simp [q])).elim
          | some n => obtain ⟨k, hk⟩ := hint o n q; exact ⟨k, n, hk, by simp [q]⟩
  | fieldAddr t y f =>
    simp only [vop] at h
    split at h
    case h_2 => cases h
    rename_i p' r hb
    simp only [Option.some.injEq, Prod.mk.injEq] at h; obtain ⟨rfl, rfl, rfl⟩ := h
    obtain ⟨u, h1, h2⟩ := vfieldAddr_sound (P := P) hT hs (s.eval y) hb hp
    exact OpOK.pure hs (by simp [execOp, h1]) h2
  | field t y f =>
    simp only [vop] at h
    split at h
    case h_2 => cases h
    rename_i fs _ _ _ cs ht hy
    split at h
    case h_2 => cases h
    rename_i o' ft hf
    split at h
    case h_2 => cases h
    rename_i p' r hb
    simp only [Option.some.injEq, Prod.mk.injEq] at h; obtain ⟨rfl, rfl, rfl⟩ := h
    have hx := s.eval y
    rw [hy] at hx
    obtain ⟨info, d, z, e1, e2, e3, _⟩ := hT t _ ht
    obtain ⟨arr', rfl, rfl⟩ := kindOf_struct e3
    obtain ⟨arr, e, hv⟩ := hx
    obtain ⟨u, h1, h2⟩ := vpartN_sound (P := P) hT hv hb hp
    simp only [List.getElem?_map, Option.map_eq_some_iff, Prod.mk.injEq] at hf
    obtain ⟨fld, hfl, rfl, rfl⟩ := hf
    have hfl' : arr'[f]? = some fld := by simpa using hfl
    exact OpOK.pure hs (by simp [execOp, Instr.field, run_underlying e2, hfl', e, asAgg, h1]) h2
  | indexAddr t y i =>
    simp only [vop] at h
    split at h
    case h_2 => cases h
    rename_i k n hi
    split at h
    case h_2 => cases h
    rename_i p' r hb
    simp only [Option.some.injEq, Prod.mk.injEq] at h; obtain ⟨rfl, rfl, rfl⟩ := h
    have hi' := s.eval i
    rw [hi] at hi'
    simp only [VRep] at hi'
    obtain ⟨u, h1, h2⟩ := vindexAddr_sound (P := P) hT hs (s.eval y) (k := k) hb hp
    exact OpOK.pure hs (by simp [execOp, hi', h1]) h2
  | index t y i =>
    simp only [vop] at h
    split at h
    case h_2 => cases h
    rename_i k n hi
    split at h
    case h_2 => cases h
    rename_i p' r hb
    simp only [Option.some.injEq, Prod.mk.injEq] at h; obtain ⟨rfl, rfl, rfl⟩ := h
    have hi' := s.eval i
    rw [hi] at hi'
    simp only [VRep] at hi'
    obtain ⟨u, h1, h2⟩ := vindex_sound (P := P) hT (s.eval y) (k := k) hb hp
    exact OpOK.pure hs (by simp [execOp, hi', h1]) h2
  | extract y i =>
    simp only [vop] at h
    split at h
    case h_2 => cases h
    rename_i cs hy
    split at h
    case h_2 => cases h
    rename_i r hb
    simp only [Option.some.injEq, Prod.mk.injEq] at h; obtain ⟨rfl, rfl, rfl⟩ := h
    have hx := s.eval y
    rw [hy] at hx
    obtain ⟨arr, _, e, hv⟩ := hx
    obtain ⟨u, hu, _, h2⟩ := hv.get i _ hb
    have hu' : arr[i]? = some u := by simpa using hu
    exact OpOK.pure hs (by simp [execOp, Instr.extract, e, hu']) h2
  | call c =>
    obtain ⟨callee, args, ts⟩ := c
    simp only [vop] at h
    split at h
    case h_2 => cases h
    rename_i b
    unfold vopCall at h
    split at h
    · rename_i y t e1 e2
      split at h
      case h_2 => cases h
      rename_i p' r hb
      simp only [Option.some.injEq, Prod.mk.injEq] at h; obtain ⟨rfl, rfl, rfl⟩ := h
      obtain rfl : args = #[y] := by apply Array.ext'; exact e1
      obtain rfl : ts = #[t] := by apply Array.ext'; exact e2
      obtain ⟨u, h1, h2⟩ := vlen_sound (P := P) hT hs (ty := ty) (s.eval y) hb hp
      exact OpOK.pure hs (by simp [execOp, resolve, invoke, builtin, h1]) h2
    · rename_i y z e1
      split at h
      case h_2 => cases h
      rename_i r hb
      simp only [Option.some.injEq, Prod.mk.injEq] at h; obtain ⟨rfl, rfl, rfl⟩ := h
      obtain rfl : args = #[y, z] := by apply Array.ext'; exact e1
      unfold vmin at hb
      split at hb
      case h_2 => cases hb
      rename_i k m k' n hy hz
      split at hb
      case isFalse => cases hb
      simp only [Option.some.injEq] at hb; subst hb
      have q1 := s.eval y; rw [hy] at q1
      have q2 := s.eval z; rw [hz] at q2
      simp only [VRep] at q1 q2
      refine OpOK.pure hs (v := .int k (if n < m then n else m)) ?_ rfl
      simp [execOp, resolve, invoke, builtin, q1, q2, run_min_int2]
    · rename_i y z e1
      split at h
      case h_2 => cases h
      rename_i r hb
      simp only [Option.some.injEq, Prod.mk.injEq] at h; obtain ⟨rfl, rfl, rfl⟩ := h
      obtain rfl : args = #[y, z] := by apply Array.ext'; exact e1
      unfold vmax at hb
      split at hb
      case h_2 => cases hb
      rename_i k m k' n hy hz
      split at hb
      case isFalse => cases hb
      simp only [Option.some.injEq] at hb; subst hb
      have q1 := s.eval y; rw [hy] at q1
      have q2 := s.eval z; rw [hz] at q2
      simp only [VRep] at q1 q2
      refine OpOK.pure hs (v := .int k (if n > m then n else m)) ?_ rfl
      simp [execOp, resolve, invoke, builtin, q1, q2, run_max_int2]
    · rename_i y z t t2 e1 e2
      obtain rfl : args = #[y, z] := by apply Array.ext'; exact e1
      obtain rfl : ts = #[t, t2] := by apply Array.ext'; exact e2
      have key : (∀ k, P.underlying t2 ≠ some (.int k)) → (P.underlying t2).isSome = true → vappend T ob t (evV sl y) (evV sl z) = some (p, x, ob') → OpOK P ⟨dst, .call ⟨.builtin .append, #[y, z], #[t, t2]⟩, ty, pos, aft, gd⟩ a w Φ H ob x ob' := by
        intro k1 k2 hv
        obtain ⟨q, w', H', h1, h2, h3⟩ := append_sound (P := P) hT hs (ty := ty) (s.eval y) (s.eval z) k1 k2 hv hp
        exact ⟨q, w', Φ, H', .inl (by simp [execOp, resolve, invoke, builtin, h1]), h2, h3⟩
      split at h
      · rename_i ht2
        obtain ⟨info, d, zz, e1, e2, e3, _⟩ := hT t2 _ ht2
        obtain rfl := kindOf_slice e3
        exact key (by rw [e2]; simp) (by rw [e2]; rfl) h
      · rename_i ht2
        obtain ⟨info, d, zz, e1, e2, e3, _⟩ := hT t2 _ ht2
        obtain rfl := kindOf_string e3
        exact key (by rw [e2]; simp) (by rw [e2]; rfl) h
      · rename_i ht2
        obtain ⟨info, d, zz, e1, e2, e3, _⟩ := hT t2 _ ht2
        obtain rfl := kindOf_int e3
        split at h
        case h_2 => cases h
        rename_i kk n hz
        have q2 := s.eval z; rw [hz] at q2
        simp only [VRep] at q2
        obtain ⟨q, w', H', h1, h2, h3⟩ := append_zero_sound (P := P) hT hs (ty := ty) (kk := kk) (s.eval y) e2 h hp
        exact ⟨q, w', Φ, H', .inl (by simp [execOp, resolve, invoke, builtin, q2, h1]), h2, h3⟩
      · cases h
    · rename_i y z t t2 e1 e2
      obtain rfl : args = #[y, z] := by apply Array.ext'; exact e1
      obtain rfl : ts = #[t, t2] := by apply Array.ext'; exact e2
      obtain ⟨q, w', H', h1, h2, h3⟩ := copy_sound (P := P) hT hs (t2 := t2) (ty := ty) (s.eval y) (s.eval z) h hp
      exact ⟨q, w', Φ, H', .inl (by simp [execOp, resolve, invoke, builtin, h1]), h2, h3⟩
    · rename_i y z t t2 e1 e2
      obtain rfl : args = #[y, z] := by apply Array.ext'; exact e1
      obtain rfl : ts = #[t, t2] := by apply Array.ext'; exact e2
      split at h
      case h_2 => cases h
      rename_i id hy
      split at h
      case h_2 => cases h
      rename_i es bs ck ho
      split at h
      case isFalse => cases h
      rename_i hk
      split at h
      case h_2 => cases h
      rename_i o' hv
      simp only [Option.some.injEq, Prod.mk.injEq] at h; obtain ⟨rfl, rfl, rfl⟩ := h
      have hx := s.eval y
      rw [hy] at hx
      obtain ⟨w', H', h1, h2⟩ := delete_sound (P := P) hT hs (t2 := t2) (ty := ty) hx (s.eval z) ho hk hv
      exact ⟨.tuple #[], w', Φ, H', .inl (by simp [execOp, resolve, invoke, builtin, h1]), h2, ⟨#[], rfl, rfl, rfl⟩⟩
    · cases h
  | makeMap t r =>
    cases r with
    | some r => simp [vop] at h
    | none =>
      simp only [vop, Option.some.injEq, Prod.mk.injEq] at h; obtain ⟨rfl, rfl, rfl⟩ := h
      refine ⟨.map (some w.heap.size), w.alloc (.map #[] 0), Φ, upd H ob.length (some w.heap.size), .inl (by simp [execOp, run_makeMap]), ?_, rfl, by simp [mkE], fun _ => ⟨w.heap.size, by simp [mkE], rfl⟩⟩
      refine HStep.ofPush hs rfl rfl rfl (fun k hk => Below.heap_alloc w _ k hk) (by simp) (fun b hb => by simp at hb; omega) fun E' hE hw' hΦ => ?_
      refine ⟨rfl, _, #[], rfl, by rw [hw']; exact heap_alloc_new w _, fun hp => ?_, rfl, rfl, rfl, by simp, by simp⟩
      rw [hΦ] at hp
      exact absurd (hs.phi _ hp) (by omega)
  | lookup t y k ok =>
    simp only [vop] at h
    split at h
    case h_2 => cases h
    rename_i z hv
    simp only [Option.some.injEq, Prod.mk.injEq] at h; obtain ⟨rfl, rfl, rfl⟩ := h
    obtain ⟨q, h1, h2⟩ := lookup_sound (P := P) hT hs (s.eval y) (s.eval k) hv
    exact OpOK.pure hs (by simp [execOp, h1]) h2
  | mapUpdate t m k y =>
    simp only [vop] at h
    split at h
    case h_2 => cases h
    rename_i id hy
    split at h
    case h_2 => cases h
    rename_i es bs ck ho
    split at h
    case isFalse => cases h
    rename_i hk
    split at h
    case h_2 => cases h
    rename_i o' hv
    simp only [Option.some.injEq, Prod.mk.injEq] at h; obtain ⟨rfl, rfl, rfl⟩ := h
    have hx := s.eval m
    rw [hy] at hx
    obtain ⟨w', H', h1, h2⟩ := mapUpdate_sound (P := P) hT hs hx (s.eval k) (s.eval y) hk.2 ho hk.1 hv
    exact ⟨undef, w', Φ, H', .inr ⟨by simp [execOp, h1], rfl⟩, h2, trivial⟩
  | range t y =>
    simp only [vop] at h
    split at h
    case h_2 => cases h
    rename_i z ob2 hv
    simp only [Option.some.injEq, Prod.mk.injEq] at h; obtain ⟨rfl, rfl, rfl⟩ := h
    obtain ⟨q, w', H', h1, h2, h3⟩ := range_sound (P := P) hT hs (s.eval y) hv
    exact ⟨q, w', Φ, H', .inl (by simp [execOp, h1]), h2, h3⟩
  | entry y =>
    simp only [vop] at h
    split at h
    case h_2 => cases h
    rename_i p' z hv
    simp only [Option.some.injEq, Prod.mk.injEq] at h; obtain ⟨rfl, rfl, rfl⟩ := h
    obtain ⟨q, h1, h2⟩ := entry_sound (P := P) hs (s.eval y) hv hp
    exact OpOK.pure hs (by simp [execOp, h1]) h2
  | _ => simp [vop] at h

end
end Go.VX
