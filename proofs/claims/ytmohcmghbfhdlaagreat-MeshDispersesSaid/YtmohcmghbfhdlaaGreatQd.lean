/- The small memory: a few blocks kept under new numbers; calls that read several blocks and make one. -/
/- The small memory: more operations. -/
import Derived.Test.YtmohcmghbfhdlaaGreatQc
import Init.Data.List.Lemmas
section
set_option linter.unusedSimpArgs false
set_option linter.unusedVariables false
section
namespace Go
open Go.RowKit
namespace Ab
def kσ (n0 : Nat) (js : List Nat) : Nat → Nat := fun b => if b < n0 then b else js.getD (b - n0) 0
def kOk (n0 : Nat) (js : List Nat) : Bool := js.all (fun j => decide (n0 ≤ j)) && decide js.Nodup
theorem kσ_id {n0 : Nat} {js : List Nat} {n e : Nat} (hE : e ≤ n0) (hl : n = n0 + js.length) : ∀ b, b < e → b < n ∧ kσ n0 js b = b := fun b hb => by
 refine ⟨by omega, ?_⟩
 unfold kσ
 rw [if_pos (by omega)]
theorem kσ_inj {n0 : Nat} {js : List Nat} {n : Nat} (hl : n = n0 + js.length) (hj : kOk n0 js = true) : ∀ b b', b < n → b' < n → kσ n0 js b = kσ n0 js b' → b = b' := by
 simp only [kOk, Bool.and_eq_true, decide_eq_true_eq, List.all_eq_true] at hj
 obtain ⟨h1, h2⟩ := hj
 intro b b' hb hb' he
 have hge : ∀ c, ¬ c < n0 → c < n → n0 ≤ js.getD (c - n0) 0 := fun c hc hcn => by
  have hi : c - n0 < js.length := by omega
  rw [List.getD_eq_getElem?_getD, List.getElem?_eq_getElem hi]
  exact h1 _ (List.getElem_mem hi)
 unfold kσ at he
 split at he <;> split at he
 ·exact he
 ·rename_i h3 h4
  have := hge b' h4 hb'
  omega
 ·rename_i h3 h4
  have := hge b h3 hb
  omega
 ·rename_i h3 h4
  have hi : b - n0 < js.length := by omega
  have hi' : b' - n0 < js.length := by omega
  rw [List.getD_eq_getElem?_getD, List.getD_eq_getElem?_getD, List.getElem?_eq_getElem hi, List.getElem?_eq_getElem hi'] at he
  have := (List.getElem_inj h2).1 he
  omega
theorem Wk.keep {E : Env} {t t' : T} {m m' : Mem} (n0 : Nat) (js : List Nat) (hE : E.n0 ≤ n0) (hl : m'.length = n0 + js.length) (hj : kOk n0 js = true)
  (ht : RenT (kσ n0 js) m'.length t' t) (hm : memRen (kσ n0 js) m'.length m 0 m') : Wk E t m t' m' :=
 Wk.ren _ ht hm (kσ_id hE hl) (kσ_inj hl hj)
theorem FinA.keep {P : Program} {E : Env} {fn : Func} {v : Value} {mE m' : Mem} {t : T} {e : Exit} {vs : List Value} (n0 : Nat) (js : List Nat) (he : e = .ret ∨ e = .normal) (hr : ResR P t m' fn.results.toList vs) (hv : rn3 (kσ n0 js) v = pack vs) (hk : ok3 mE.length v = true)
  (hE : E.n0 ≤ n0) (hl : mE.length = n0 + js.length) (hj : kOk n0 js = true) (hm : memRen (kσ n0 js) mE.length m' 0 mE) : FinA P E fn v mE e t m' :=
 ⟨he, vs, _, hr, hv, hk, hm, kσ_id hE hl, kσ_inj hl hj⟩
theorem rn1_all {τ : Nat → Nat} {cs : List Value} (h : cs.all scal = true) : cs.map (rn1 τ) = cs := by
 induction cs with
 | nil => rfl
 | cons v vs ih =>
  simp only [List.all_cons, Bool.and_eq_true] at h
  rw [List.map_cons, rn1_scal h.1, ih h.2]
end Ab
end Go
end
section
namespace Go
open Go.RowKit
namespace Ab
section
variable {P : Program} {t : T} {m : Mem} {dst : Option Tmp} {rt ty ty' : TypeId} {pos : String} {after : Array Edge} {guard : Option (Nat × Bool)} {x y : Operand}
end
end Ab
end Go
end
end
/- The small memory: rules for a walk that one repeated tactic makes. -/
section
set_option linter.unusedSimpArgs false
set_option linter.unusedVariables false
namespace Go
open Go.RowKit
namespace Ab
def setAll : Mem → List (Nat × Option Blk) → Mem
 | m, [] => m
 | m, u :: us => setAll (m.set u.1 u.2) us
theorem set_lit {t : T} {d : Nat} {c : Bool} (h : t.getD d undef = .bool c) : t.set d (.bool c) = t := by
 refine List.ext_getElem? fun i => ?_
 rw [List.getElem?_set]
 split
 ·rename_i hi
  subst hi
  rw [List.getD_eq_getElem?_getD] at h
  split
  ·rename_i hl
   rw [List.getElem?_eq_getElem hl] at h ⊢
   simp only [Option.getD_some] at h
   rw [h]
  ·rename_i hl
   rw [List.getElem?_eq_none (by omega)]
 ·rfl
section
variable {P : Program} {E : Env} {ops : Array Oper} {o : Oper} {rest : List Oper} {t : T} {m : Mem} {Q : Post} {c e : Code}
theorem AL.on {l : List Oper} (h : AL P E ops l t m Q) : AL P E ops l t m Q := h
theorem AL.gd (hg : o.guard.isSome = true) (h : AL P E ops (o :: rest) t m Q) : AL P E ops (o :: rest) t m Q := h
theorem AW.on (h : AW P E c t m Q) : AW P E c t m Q := h
theorem FinP.on {fn : Func} {v : Value} {x : Exit} {m' : Mem} (h : FinP P fn m v x t m') : FinP P fn m v x t m' := h
theorem FinA.on {fn : Func} {v : Value} {x : Exit} {m' : Mem} (h : FinA P E fn v m x t m') : FinA P E fn v m x t m' := h
theorem ex_on {α : Type} {p : α → Prop} (h : ∃ x, p x) : ∃ x, p x := h
theorem AW.conds {d : Nat} {b : Bool} (hx : t.getD d undef = .bool b) (h1 : b = true → AW P E c (t.set d (.bool true)) m Q) (h2 : b = false → AW P E e (t.set d (.bool false)) m Q) : AW P E (.cond (.tmp d) c e) t m Q := by
 refine AW.cond (x := .tmp d) (b := b) hx (fun h => ?_) (fun h => ?_)
 ·subst h; have := h1 rfl; rwa [set_lit hx] at this
 ·subst h; have := h2 rfl; rwa [set_lit hx] at this
theorem AL.gs1 {d : Nat} {c : Bool} (hg : gdt ops o = some (d, true)) (hc : t.getD d undef = .bool c)
  (h1 : c = true → AL P E ops ({ o with guard := none } :: rest) (t.set d (.bool true)) m Q) (h2 : c = false → AL P E ops rest (T.put (t.set d (.bool false)) o.dst undef) m Q) : AL P E ops (o :: rest) t m Q := by
 refine AL.gcase hg hc (fun h => ?_) (fun h => ?_)
 ·subst h; have := h1 rfl; rwa [set_lit hc] at this
 ·have h' : c = false := h
  subst h'; have := h2 rfl; rwa [set_lit hc] at this
theorem AL.gs0 {d : Nat} {c : Bool} (hg : gdt ops o = some (d, false)) (hc : t.getD d undef = .bool c)
  (h1 : c = false → AL P E ops ({ o with guard := none } :: rest) (t.set d (.bool false)) m Q) (h2 : c = true → AL P E ops rest (T.put (t.set d (.bool true)) o.dst undef) m Q) : AL P E ops (o :: rest) t m Q := by
 refine AL.gcase hg hc (fun h => ?_) (fun h => ?_)
 ·subst h; have := h1 rfl; rwa [set_lit hc] at this
 ·have h' : c = true := h
  subst h'; have := h2 rfl; rwa [set_lit hc] at this
variable {l : List Oper} {b : Array Nat} {n i : Nat} {news : List New} {os : List Oper}
variable {bits : Array Nat} {m0 : Mem} {sps : List Sp}
theorem AF.on (h : AF P E l bits n Q m0 os t m sps) : AF P E l bits n Q m0 os t m sps := h
theorem AF.gs1 {d : Nat} {c : Bool} (hg : gdt l.toArray o = some (d, true)) (hc : t.getD d undef = .bool c)
  (h1 : c = true → AF P E l bits n Q m0 (o :: os) (t.set d (.bool true)) m sps) (h2 : c = false → AF P E l bits n Q m0 (o :: os) (t.set d (.bool false)) m sps) : AF P E l bits n Q m0 (o :: os) t m sps := by
 refine AF.gcase hg hc (fun h => ?_) (fun h => ?_)
 ·subst h; have := h1 rfl; rwa [set_lit hc] at this
 ·have h' : c = false := h
  subst h'; have := h2 rfl; rwa [set_lit hc] at this
theorem AF.gs0 {d : Nat} {c : Bool} (hg : gdt l.toArray o = some (d, false)) (hc : t.getD d undef = .bool c)
  (h1 : c = false → AF P E l bits n Q m0 (o :: os) (t.set d (.bool false)) m sps) (h2 : c = true → AF P E l bits n Q m0 (o :: os) (t.set d (.bool true)) m sps) : AF P E l bits n Q m0 (o :: os) t m sps := by
 refine AF.gcase hg hc (fun h => ?_) (fun h => ?_)
 ·subst h; have := h1 rfl; rwa [set_lit hc] at this
 ·have h' : c = true := h
  subst h'; have := h2 rfl; rwa [set_lit hc] at this
theorem SW.no1 {E0 : Env} {d : Nat} {c : Bool} (hg : gdt ops o = some (d, true)) (hc : t.getD d undef = .bool c) (hcw : c = false) : SW P E0 ops o t m undef m := SW.no hg hc (by rw [hcw]; rfl)
theorem SW.no0 {E0 : Env} {d : Nat} {c : Bool} (hg : gdt ops o = some (d, false)) (hc : t.getD d undef = .bool c) (hcw : c = true) : SW P E0 ops o t m undef m := SW.no hg hc (by rw [hcw]; rfl)
end
section kinds
variable {P : Program} {E : Env} {ops : Array Oper} {rest : List Oper} {t : T} {m : Mem} {Q : Post} {dst : Option Tmp} {ty ty' rt : TypeId} {pos : String} {after : Array Edge} {guard : Option (Nat × Bool)} {x y z : Operand} {bo : BinOp} {uo : UnOp} {i : Nat}
theorem AL.k_move (h : AL P E ops (⟨dst, .move x, rt, pos, after, guard⟩ :: rest) t m Q) : AL P E ops (⟨dst, .move x, rt, pos, after, guard⟩ :: rest) t m Q := h
theorem AL.k_assign (h : AL P E ops (⟨dst, .assign x, rt, pos, after, guard⟩ :: rest) t m Q) : AL P E ops (⟨dst, .assign x, rt, pos, after, guard⟩ :: rest) t m Q := h
theorem AL.k_binOp (h : AL P E ops (⟨dst, .binOp bo ty x y ty', rt, pos, after, guard⟩ :: rest) t m Q) : AL P E ops (⟨dst, .binOp bo ty x y ty', rt, pos, after, guard⟩ :: rest) t m Q := h
theorem AL.k_unOp (h : AL P E ops (⟨dst, .unOp uo ty x, rt, pos, after, guard⟩ :: rest) t m Q) : AL P E ops (⟨dst, .unOp uo ty x, rt, pos, after, guard⟩ :: rest) t m Q := h
theorem AL.k_load (h : AL P E ops (⟨dst, .load ty x, rt, pos, after, guard⟩ :: rest) t m Q) : AL P E ops (⟨dst, .load ty x, rt, pos, after, guard⟩ :: rest) t m Q := h
theorem AL.k_field (h : AL P E ops (⟨dst, .field ty x i, rt, pos, after, guard⟩ :: rest) t m Q) : AL P E ops (⟨dst, .field ty x i, rt, pos, after, guard⟩ :: rest) t m Q := h
theorem AL.k_fieldAddr (h : AL P E ops (⟨dst, .fieldAddr ty x i, rt, pos, after, guard⟩ :: rest) t m Q) : AL P E ops (⟨dst, .fieldAddr ty x i, rt, pos, after, guard⟩ :: rest) t m Q := h
theorem AL.k_index (h : AL P E ops (⟨dst, .index ty x y, rt, pos, after, guard⟩ :: rest) t m Q) : AL P E ops (⟨dst, .index ty x y, rt, pos, after, guard⟩ :: rest) t m Q := h
theorem AL.k_indexAddr (h : AL P E ops (⟨dst, .indexAddr ty x y, rt, pos, after, guard⟩ :: rest) t m Q) : AL P E ops (⟨dst, .indexAddr ty x y, rt, pos, after, guard⟩ :: rest) t m Q := h
theorem AL.k_call {cl : Call} (h : AL P E ops (⟨dst, .call cl, rt, pos, after, guard⟩ :: rest) t m Q) : AL P E ops (⟨dst, .call cl, rt, pos, after, guard⟩ :: rest) t m Q := h
theorem AL.k_alloc (h : AL P E ops (⟨dst, .alloc ty, rt, pos, after, guard⟩ :: rest) t m Q) : AL P E ops (⟨dst, .alloc ty, rt, pos, after, guard⟩ :: rest) t m Q := h
theorem AL.k_box (h : AL P E ops (⟨dst, .box ty x, rt, pos, after, guard⟩ :: rest) t m Q) : AL P E ops (⟨dst, .box ty x, rt, pos, after, guard⟩ :: rest) t m Q := h
theorem AL.k_build {ps : Array (Nat × Operand)} (h : AL P E ops (⟨dst, .build ty ps, rt, pos, after, guard⟩ :: rest) t m Q) : AL P E ops (⟨dst, .build ty ps, rt, pos, after, guard⟩ :: rest) t m Q := h
theorem AL.k_buildSlice {ps : Array (Nat × Operand)} (h : AL P E ops (⟨dst, .buildSlice ty i ps, rt, pos, after, guard⟩ :: rest) t m Q) : AL P E ops (⟨dst, .buildSlice ty i ps, rt, pos, after, guard⟩ :: rest) t m Q := h
theorem AL.k_store (h : AL P E ops (⟨dst, .store ty x y, rt, pos, after, guard⟩ :: rest) t m Q) : AL P E ops (⟨dst, .store ty x y, rt, pos, after, guard⟩ :: rest) t m Q := h
theorem AL.k_pick (h : AL P E ops (⟨dst, .pick x y z, rt, pos, after, guard⟩ :: rest) t m Q) : AL P E ops (⟨dst, .pick x y z, rt, pos, after, guard⟩ :: rest) t m Q := h
theorem AL.k_extract (h : AL P E ops (⟨dst, .extract x i, rt, pos, after, guard⟩ :: rest) t m Q) : AL P E ops (⟨dst, .extract x i, rt, pos, after, guard⟩ :: rest) t m Q := h
variable {l : List Oper} {b : Array Nat} {n j : Nat} {news : List New} {m0 : Mem} {sps : List Sp}
theorem AF.k_move (h : AF P E l b n Q m0 (⟨dst, .move x, rt, pos, after, guard⟩ :: rest) t m sps) : AF P E l b n Q m0 (⟨dst, .move x, rt, pos, after, guard⟩ :: rest) t m sps := h
theorem AF.k_assign (h : AF P E l b n Q m0 (⟨dst, .assign x, rt, pos, after, guard⟩ :: rest) t m sps) : AF P E l b n Q m0 (⟨dst, .assign x, rt, pos, after, guard⟩ :: rest) t m sps := h
theorem AF.k_binOp (h : AF P E l b n Q m0 (⟨dst, .binOp bo ty x y ty', rt, pos, after, guard⟩ :: rest) t m sps) : AF P E l b n Q m0 (⟨dst, .binOp bo ty x y ty', rt, pos, after, guard⟩ :: rest) t m sps := h
theorem AF.k_load (h : AF P E l b n Q m0 (⟨dst, .load ty x, rt, pos, after, guard⟩ :: rest) t m sps) : AF P E l b n Q m0 (⟨dst, .load ty x, rt, pos, after, guard⟩ :: rest) t m sps := h
theorem AF.k_fieldAddr (h : AF P E l b n Q m0 (⟨dst, .fieldAddr ty x i, rt, pos, after, guard⟩ :: rest) t m sps) : AF P E l b n Q m0 (⟨dst, .fieldAddr ty x i, rt, pos, after, guard⟩ :: rest) t m sps := h
theorem AF.k_indexAddr (h : AF P E l b n Q m0 (⟨dst, .indexAddr ty x y, rt, pos, after, guard⟩ :: rest) t m sps) : AF P E l b n Q m0 (⟨dst, .indexAddr ty x y, rt, pos, after, guard⟩ :: rest) t m sps := h
theorem AF.k_call {cl : Call} (h : AF P E l b n Q m0 (⟨dst, .call cl, rt, pos, after, guard⟩ :: rest) t m sps) : AF P E l b n Q m0 (⟨dst, .call cl, rt, pos, after, guard⟩ :: rest) t m sps := h
theorem AF.k_alloc (h : AF P E l b n Q m0 (⟨dst, .alloc ty, rt, pos, after, guard⟩ :: rest) t m sps) : AF P E l b n Q m0 (⟨dst, .alloc ty, rt, pos, after, guard⟩ :: rest) t m sps := h
theorem AF.k_build {ps : Array (Nat × Operand)} (h : AF P E l b n Q m0 (⟨dst, .build ty ps, rt, pos, after, guard⟩ :: rest) t m sps) : AF P E l b n Q m0 (⟨dst, .build ty ps, rt, pos, after, guard⟩ :: rest) t m sps := h
theorem AF.k_buildSlice {ps : Array (Nat × Operand)} (h : AF P E l b n Q m0 (⟨dst, .buildSlice ty i ps, rt, pos, after, guard⟩ :: rest) t m sps) : AF P E l b n Q m0 (⟨dst, .buildSlice ty i ps, rt, pos, after, guard⟩ :: rest) t m sps := h
theorem AF.k_store (h : AF P E l b n Q m0 (⟨dst, .store ty x y, rt, pos, after, guard⟩ :: rest) t m sps) : AF P E l b n Q m0 (⟨dst, .store ty x y, rt, pos, after, guard⟩ :: rest) t m sps := h
theorem AF.k_pick (h : AF P E l b n Q m0 (⟨dst, .pick x y z, rt, pos, after, guard⟩ :: rest) t m sps) : AF P E l b n Q m0 (⟨dst, .pick x y z, rt, pos, after, guard⟩ :: rest) t m sps := h
end kinds
theorem nrm {α : Sort _} {x y : α} (h : x = y := by conv => lhs; simp only [T.put, T.ev, putAt, setsT, newBlks, fillL, List.map, List.set, List.append, List.cons_append, List.nil_append, List.length, List.getElem?_cons_zero, List.getElem?_cons_succ, Nat.reduceAdd, Nat.reduceMul, Nat.zero_add, Nat.add_zero, Nat.mul_one, Nat.zero_mul, List.drop, List.take, List.toList_toArray, Value.cells, Int.reduceToNat, Int.toNat_natCast, List.getD, Option.getD, Option.map, flat, flat1, scal, setAll, Int.reduceAdd, Int.reduceMul, if_true, ↓reduceIte]) : x = y := h
theorem nrmF {α : Sort _} {x y : α} (h : x = y := by conv => lhs; simp only [T.put, maskF_len, List.length_cons, List.length_nil, T.ev, putAt, setsT, newBlks, fillL, List.map, List.set, List.append, List.cons_append, List.nil_append, List.length, List.getElem?_cons_zero, List.getElem?_cons_succ, Nat.reduceAdd, Nat.reduceMul, Nat.zero_add, Nat.add_zero, Nat.mul_one, Nat.zero_mul, List.drop, List.take, List.toList_toArray, Value.cells, Int.reduceToNat, Int.toNat_natCast, List.getD, Option.getD, Option.map, flat, flat1, scal, setAll, Int.reduceAdd, Int.reduceMul, if_true, ↓reduceIte]) : x = y := h
end Ab
end Go
end
/- The small memory: calls that write some blocks of a greater memory; more operations. -/
section
set_option linter.unusedSimpArgs false
set_option linter.unusedVariables false
namespace Go
open Go.RowKit
namespace Ab
theorem ok1_scal {n : Nat} {v : Value} (h : scal v = true) : ok1 n v = true := by
 unfold ok1
 split <;> first | exact h | (simp [Ab.scal] at h)
def cR (κ : Nat → Nat) (n : Nat) (c c' : List Value) : Prop := (c' = c ∧ c.all scal = true) ∨ (c' = c.map (rn1 κ) ∧ c.all (ok1 n) = true)
theorem cR.ok {κ : Nat → Nat} {n : Nat} {c c' : List Value} (h : cR κ n c c') : c.all (ok1 n) = true := by
 rcases h with ⟨_, h⟩ | ⟨_, h⟩
 ·refine List.all_eq_true.2 fun v hv => ?_
  have := List.all_eq_true.1 h v hv
  unfold ok1
  split <;> first | exact this | (simp [Ab.scal] at this)
 ·exact h
theorem cR.map {κ : Nat → Nat} {n : Nat} {c c' : List Value} (h : cR κ n c c') : c' = c.map (rn1 κ) := by
 rcases h with ⟨rfl, h⟩ | ⟨h, _⟩
 ·rw [rn1_all h]
 ·exact h
theorem Ob.eq : ∀ {a b : Ob}, a.o = b.o → a = b
 | ⟨_⟩, ⟨_⟩, h => by cases h; rfl
theorem shp_ren {κ : Nat → Nat} {n : Nat} {x y : Blk} (h : y.shp = x.shpR κ n) : y.esz = x.esz ∧ y.obj = x.obj.ren κ := by
 unfold Blk.shp Blk.shpR at h
 have e : y.esz = x.esz ∧ y.obj.o = x.obj.o.map (OC.ren κ) := by
  match hx : x.obj.o with
  | none =>
   rw [hx] at h
   simp only [Option.some.injEq, Prod.mk.injEq] at h
   exact h
  | some (.map es k) =>
   rw [hx] at h
   simp only [Option.some.injEq, Prod.mk.injEq] at h
   exact h
  | some (.iter b q l t) =>
   rw [hx] at h
   simp only at h
   split at h
   ·simp only [Option.some.injEq, Prod.mk.injEq] at h
    exact h
   ·cases h
 exact ⟨e.1, Ob.eq e.2⟩
def bR (κ : Nat → Nat) (n : Nat) : Option Blk → Option Blk → Prop
 | some x, some y => y.own = true ∧ x.own = true ∧ y.shp = x.shpR κ n ∧ cR κ n x.cells y.cells
 | none, none => True
 | _, _ => False
theorem bR.map {κ : Nat → Nat} {n : Nat} {e e' : Option Blk} (h : bR κ n e e') : e' = e.map (rnB κ) ∧ ∀ b, e = some b → b.own = true ∧ b.cells.all (ok1 n) = true := by
 cases e with
 | none =>
  cases e' with
  | none => exact ⟨rfl, fun _ h => by cases h⟩
  | some y => exact h.elim
 | some x =>
  cases e' with
  | none => exact h.elim
  | some y =>
   obtain ⟨h1, h2, h3, h4⟩ := h
   refine ⟨?_, fun b hb => by cases hb; exact ⟨h2, h4.ok⟩⟩
   obtain ⟨h5, h6⟩ := shp_ren h3
   have h7 := h4.map
   obtain @⟨yc, yo, ye, yb⟩ := y
   simp only at h1 h5 h6 h7
   rw [h1, h5, h6, h7, Option.map_some]
   unfold rnB
   rw [h2]
def befS (τ : Nat → Nat) (n : Nat) (m : Mem) : List Nat → Mem → Prop
 | t :: ts, some x :: m0 => (∃ y, m.at t = some y ∧ y.shp = x.shpR τ n ∧ (x.own = true → y.own = true) ∧ cR τ n x.cells y.cells) ∧ befS τ n m ts m0
 | [], [] => True
 | _, _ => False
def memR (κ : Nat → Nat) (n : Nat) : Mem → Mem → Prop
 | e :: mE, e' :: ns => bR κ n e e' ∧ memR κ n mE ns
 | [], [] => True
 | _, _ => False
def aftS (κ : Nat → Nat) (n : Nat) : List Nat → Mem → Mem → List (Nat × Option Blk) → Mem → Prop
 | t :: ts, some x :: m0, e :: mE, us, ns => match x.own with
  | true => (match us with | u :: us' => u.1 = t ∧ bR κ n e u.2 ∧ aftS κ n ts m0 mE us' ns | [] => False)
  | false => (∃ y, e = some y ∧ y.own = false) ∧ aftS κ n ts m0 mE us ns
 | [], [], mE, [], ns => memR κ n mE ns
 | _, _, _, _, _ => False
theorem setAll_len : ∀ (us : List (Nat × Option Blk)) (m : Mem), (setAll m us).length = m.length
 | [], m => rfl
 | u :: us, m => by rw [setAll, setAll_len us]; simp
theorem setAll_at_far : ∀ (us : List (Nat × Option Blk)) (m : Mem) (b : Nat), (∀ u ∈ us, u.1 ≠ b) → (setAll m us).at b = m.at b
 | [], m, b, _ => rfl
 | u :: us, m, b, h => by
  rw [setAll, setAll_at_far us _ b fun u hu => h u (by simp [hu])]
  unfold Mem.at
  rw [List.getD_eq_getElem?_getD, List.getD_eq_getElem?_getD, List.getElem?_set_ne (h u (by simp))]
theorem setAll_at : ∀ (us : List (Nat × Option Blk)) (m : Mem) (u : Nat × Option Blk), u ∈ us → (us.map (·.1)).Nodup → u.1 < m.length → (setAll m us).at u.1 = u.2
 | [], _, _, h, _, _ => by simp at h
 | v :: us, m, u, h, hn, hl => by
  rw [List.map_cons, List.nodup_cons] at hn
  rw [setAll]
  rcases List.mem_cons.1 h with rfl | h
  ·rw [setAll_at_far us _ _ fun v hv e => hn.1 (List.mem_map.2 ⟨v, hv, e⟩)]
   unfold Mem.at
   rw [List.getD_eq_getElem?_getD, List.getElem?_set_self (by simpa using hl)]
   rfl
  ·exact setAll_at us _ u h hn.2 (by simpa using hl)
theorem befS_get {τ : Nat → Nat} {n : Nat} {m : Mem} : ∀ (ts : List Nat) (m0 : Mem), befS τ n m ts m0 → ts.length = m0.length ∧ ∀ b, b < m0.length → ∃ x y t, ts[b]? = some t ∧ m0.at b = some x ∧ m.at t = some y ∧ y.shp = x.shpR τ n ∧ (x.own = true → y.own = true) ∧ cR τ n x.cells y.cells
 | [], [], _ => ⟨rfl, fun b hb => by simp at hb⟩
 | [], _ :: _, h => h.elim
 | _ :: _, [], h => h.elim
 | _ :: _, none :: _, h => h.elim
 | t :: ts, some x :: m0, h => by
  obtain ⟨⟨y, h1, h2, h3, h4⟩, h5⟩ := h
  obtain ⟨g1, g2⟩ := befS_get ts m0 h5
  refine ⟨by simp [g1], fun b hb => ?_⟩
  cases b with
  | zero => exact ⟨x, y, t, rfl, rfl, h1, h2, h3, h4⟩
  | succ b =>
   obtain ⟨x', y', t', q⟩ := g2 b (by simpa using hb)
   exact ⟨x', y', t', q⟩
theorem memR_get {κ : Nat → Nat} {n : Nat} : ∀ (mE ns : Mem), memR κ n mE ns → mE.length = ns.length ∧ ∀ j, j < ns.length → bR κ n (mE.at j) (ns.at j)
 | [], [], _ => ⟨rfl, fun b hb => by simp at hb⟩
 | [], _ :: _, h => h.elim
 | _ :: _, [], h => h.elim
 | e :: mE, e' :: ns, h => by
  obtain ⟨g1, g2⟩ := memR_get mE ns h.2
  refine ⟨by simp [g1], fun b hb => ?_⟩
  cases b with
  | zero => exact h.1
  | succ b => exact g2 b (by simpa using hb)
theorem aftS_get {κ : Nat → Nat} {n : Nat} : ∀ (ts : List Nat) (m0 mE : Mem) (us : List (Nat × Option Blk)) (ns : Mem), aftS κ n ts m0 mE us ns →
  mE.length = m0.length + ns.length ∧ (∀ b x, m0.at b = some x → x.own = true → ∃ u, u ∈ us ∧ ts[b]? = some u.1 ∧ bR κ n (mE.at b) u.2) ∧ (∀ b x, m0.at b = some x → x.own = false → ∃ y, mE.at b = some y ∧ y.own = false) ∧
  (∀ u ∈ us, ∃ b x, m0.at b = some x ∧ x.own = true ∧ ts[b]? = some u.1) ∧ ∀ j, j < ns.length → bR κ n (mE.at (m0.length + j)) (ns.at j)
 | [], [], mE, [], ns, h => by
  obtain ⟨g1, g2⟩ := memR_get mE ns h
  refine ⟨by simp [g1], fun b x hb => by simp [Mem.at] at hb, fun b x hb => by simp [Mem.at] at hb, fun u hu => by simp at hu, fun j hj => ?_⟩
  simpa using g2 j hj
 | [], [], _, _ :: _, _, h => h.elim
 | [], _ :: _, _, _, _, h => h.elim
 | _ :: _, [], _, _, _, h => h.elim
 | _ :: _, none :: _, _, _, _, h => h.elim
 | _ :: _, some _ :: _, [], _, _, h => h.elim
 | t :: ts, some x :: m0, e :: mE, us, ns, h => by
  unfold aftS at h
  cases ho : x.own with
  | true =>
   rw [ho] at h
   cases us with
   | nil => exact h.elim
   | cons u us =>
    obtain ⟨rfl, h2, h3⟩ := h
    obtain ⟨g1, g2, g3, g4, g5⟩ := aftS_get ts m0 mE us ns h3
    refine ⟨by simp [g1]; omega, fun b z hb hz => ?_, fun b z hb hz => ?_, fun w hw => ?_, fun j hj => ?_⟩
    ·cases b with
     | zero => exact ⟨u, by simp, rfl, h2⟩
     | succ b =>
      obtain ⟨w, q1, q2, q3⟩ := g2 b z hb hz
      exact ⟨w, by simp [q1], q2, q3⟩
    ·cases b with
     | zero =>
      cases hb
      rw [ho] at hz; cases hz
     | succ b => exact g3 b z hb hz
    ·rcases List.mem_cons.1 hw with rfl | hw
     ·exact ⟨0, x, rfl, ho, rfl⟩
     ·obtain ⟨b, z, q⟩ := g4 w hw
      exact ⟨b + 1, z, q⟩
    ·rw [List.length_cons, show m0.length + 1 + j = m0.length + j + 1 by omega]
     exact g5 j hj
  | false =>
   rw [ho] at h
   obtain ⟨⟨y, rfl, hy⟩, h3⟩ := h
   obtain ⟨g1, g2, g3, g4, g5⟩ := aftS_get ts m0 mE us ns h3
   refine ⟨by simp [g1]; omega, fun b z hb hz => ?_, fun b z hb hz => ?_, fun w hw => ?_, fun j hj => ?_⟩
   ·cases b with
    | zero =>
     cases hb
     rw [ho] at hz; cases hz
    | succ b =>
     obtain ⟨w, q1, q2, q3⟩ := g2 b z hb hz
     exact ⟨w, q1, q2, q3⟩
   ·cases b with
    | zero => exact ⟨y, rfl, hy⟩
    | succ b => exact g3 b z hb hz
   ·obtain ⟨b, z, q⟩ := g4 w hw
    exact ⟨b + 1, z, q⟩
   ·rw [List.length_cons, show m0.length + 1 + j = m0.length + j + 1 by omega]
    exact g5 j hj
theorem at_app_left {m n : Mem} {b : Nat} (h : b < m.length) : (m ++ n).at b = m.at b := by
 unfold Mem.at
 rw [List.getD_eq_getElem?_getD, List.getD_eq_getElem?_getD, List.getElem?_append_left h]
theorem at_app_right {m n : Mem} {j : Nat} : (m ++ n).at (m.length + j) = n.at j := by
 unfold Mem.at
 rw [List.getD_eq_getElem?_getD, List.getD_eq_getElem?_getD, List.getElem?_append_right (by omega), Nat.add_sub_cancel_left]
theorem ACalls.viaS {P : Program} {f : FuncId} {args0 args : List Value} {m0 m mE : Mem} {v0 v : Value} (ts : List Nat) (us : List (Nat × Option Blk)) (ns : Mem) (h : ACalls P f args0 m0 v0 mE)
  (hb : befS (fun b => ts.getD b 0) m0.length m ts m0) (hn : ts.Nodup) (ha : aftS (τn (fun b => ts.getD b 0) m0.length m.length) mE.length ts m0 mE us ns)
  (hargs : args0.map (rn3 fun b => ts.getD b 0) = args) (hk : args0.all (ok3 m0.length) = true) (hv : rn3 (τn (fun b => ts.getD b 0) m0.length m.length) v0 = v) (hkv : ok3 mE.length v0 = true) : ACalls P f args m v (setAll m us ++ ns) := by
 obtain ⟨b1, b2⟩ := befS_get ts m0 hb
 obtain ⟨a1, a2, a3, a4, a5⟩ := aftS_get ts m0 mE us ns ha
 have hsl : (setAll m us).length = m.length := setAll_len us m
 have hget : ∀ b t, ts[b]? = some t → ts.getD b 0 = t := fun b t h => by rw [List.getD_eq_getElem?_getD, h]; rfl
 have hlt : ∀ b x, m0.at b = some x → b < m0.length := fun b x h => Mem.at_lt h
 have hus : (us.map (·.1)).Nodup := by
  -- us are, in order, those of ts that are owned
  have key : ∀ (ts : List Nat) (m0 mE : Mem) (us : List (Nat × Option Blk)), aftS (τn (fun b => ts.getD b 0) m0.length m.length) mE.length ts m0 mE us ns → True := fun _ _ _ _ _ => trivial
  have sub : ∀ (κ : Nat → Nat) (n : Nat) (ts : List Nat) (m0 mE : Mem) (us : List (Nat × Option Blk)) (ns : Mem), aftS κ n ts m0 mE us ns → (us.map (·.1)).Sublist ts := by
   intro κ n ts
   induction ts with
   | nil =>
    intro m0 mE us ns h
    cases m0 with
    | nil => cases us with
     | nil => exact List.Sublist.refl _
     | cons u us => exact h.elim
    | cons x m0 => exact h.elim
   | cons t ts ih =>
    intro m0 mE us ns h
    cases m0 with
    | nil => exact h.elim
    | cons x m0 =>
     cases x with
     | none => exact h.elim
     | some x =>
      cases mE with
      | nil => exact h.elim
      | cons e mE =>
       unfold aftS at h
       cases ho : x.own with
       | true =>
        rw [ho] at h
        cases us with
        | nil => exact h.elim
        | cons u us =>
         obtain ⟨rfl, _, h3⟩ := h
         exact (ih m0 mE us ns h3).cons_cons _
       | false =>
        rw [ho] at h
        exact (ih m0 mE us ns h.2).cons _
  exact (sub _ _ ts m0 mE us ns ha).nodup hn
 have hmlt : ∀ b, b < m0.length → ts.getD b 0 < m.length := fun b hbl => by
  obtain ⟨x, y, t, q1, q2, q3, _⟩ := b2 b hbl
  rw [hget b t q1]
  exact Mem.at_lt q3
 refine ACalls.via (k := ns.length) (fun b => ts.getD b 0) h ⟨fun b hb => ?_, fun b blk hb => ?_, fun b blk hb => ?_, fun b b' blk hb ho hb' he => ?_⟩ ⟨a1, by simp [hsl], fun b hb hno => ?_, fun c blk hc ho => ?_, fun c blk hc ho => ?_, fun j hj => ?_, fun c blk hc ho => ?_, fun c blk hc ho => ?_⟩ hargs hk hv hkv
 ·obtain ⟨x, y, t, q1, q2, _⟩ := b2 b hb
  exact ⟨x, q2⟩
 ·obtain ⟨x, y, t, q1, q2, q3, q4, q5, q6⟩ := b2 b (hlt b blk hb)
  rw [hb] at q2
  cases q2
  exact q6.ok
 ·obtain ⟨x, y, t, q1, q2, q3, q4, q5, q6⟩ := b2 b (hlt b blk hb)
  rw [hb] at q2
  cases q2
  refine ⟨y, by rw [hget b t q1]; exact q3, q4, q5, fun i v hv => ?_⟩
  rw [q6.map, List.getElem?_map, hv]
  rfl
 ·have e1 : b < ts.length := by rw [b1]; exact hlt b blk hb
  have e2 : b' < ts.length := by rw [b1]; exact hb'
  simp only [List.getD_eq_getElem?_getD, List.getElem?_eq_getElem e1, List.getElem?_eq_getElem e2, Option.getD_some] at he
  exact (List.getElem_inj hn).1 he
 ·rw [at_app_left (by rw [hsl]; exact hb)]
  refine setAll_at_far us m b fun u hu e => ?_
  obtain ⟨c, x, q1, q2, q3⟩ := a4 u hu
  exact hno c x q1 q2 ((hget c _ q3).trans e)
 ·obtain ⟨u, q1, q2, q3⟩ := a2 c blk hc ho
  have e : ts.getD c 0 = u.1 := hget c _ q2
  have hl := hmlt c (hlt c blk hc)
  rw [e] at hl ⊢
  rw [at_app_left (by rw [hsl]; exact hl), setAll_at us m u q1 hus hl]
  exact q3.map.1
 ·exact a3 c blk hc ho
 ·rw [show m.length + j = (setAll m us).length + j by rw [hsl], at_app_right]
  exact (a5 j hj).map.1
 ·by_cases hcl : c < m0.length
  ·obtain ⟨b0, q1, q2⟩ := ho hcl
   obtain ⟨u, _, _, q3⟩ := a2 c b0 q1 q2
   exact (q3.map.2 blk hc).1
  ·have hcE := Mem.at_lt hc
   obtain ⟨j, rfl⟩ : ∃ j, c = m0.length + j := ⟨c - m0.length, by omega⟩
   exact ((a5 j (by omega)).map.2 blk hc).1
 ·by_cases hcl : c < m0.length
  ·obtain ⟨x, y, t, q1, q2, _⟩ := b2 c hcl
   cases hx : x.own with
   | true =>
    obtain ⟨u, _, _, q3⟩ := a2 c x q2 hx
    exact (q3.map.2 blk hc).2
   | false =>
    obtain ⟨y', q3, q4⟩ := a3 c x q2 hx
    rw [q3] at hc
    cases hc
    rw [q4] at ho; cases ho
  ·have hcE := Mem.at_lt hc
   obtain ⟨j, rfl⟩ : ∃ j, c = m0.length + j := ⟨c - m0.length, by omega⟩
   exact ((a5 j (by omega)).map.2 blk hc).2
theorem PCalls.viaS {P : Program} {f : FuncId} {args0 args : List Value} {m0 m : Mem} {v0 v : Value} (ts : List Nat) (h : PCalls P f args0 m0 v0) (hro : ∀ b blk, m0.at b = some blk → blk.own = false)
  (hb : befS (fun b => ts.getD b 0) m0.length m ts m0) (hargs : args0.map (rn3 fun b => ts.getD b 0) = args) (hk : args0.all (ok3 m0.length) = true) (hv : rn3 (fun b => ts.getD b 0) v0 = v) (hkv : ok3 m0.length v0 = true) : PCalls P f args m v := by
 obtain ⟨b1, b2⟩ := befS_get ts m0 hb
 refine PCalls.via (fun b => ts.getD b 0) h (fun b blk hbk => ?_) hargs hk hv hkv
 obtain ⟨x, y, t, q1, q2, q3, q4, q5, q6⟩ := b2 b (Mem.at_lt hbk)
 rw [hbk] at q2
 cases q2
 refine ⟨hro b blk hbk, q6.ok, y, by show m.at (ts.getD b 0) = some y; rw [List.getD_eq_getElem?_getD, q1]; exact q3, q4, fun i v hv => ?_⟩
 rw [q6.map, List.getElem?_map, hv]
 rfl
section
variable {P : Program} {t : T} {m : Mem} {dst : Option Tmp} {rt ty ty' : TypeId} {pos : String} {after : Array Edge} {guard : Option (Nat × Bool)} {x y : Operand}
theorem OQ.nilCheck {b o : Nat} (hx : t.ev x = .pointer (some ⟨b, o, none⟩)) : OQ P ⟨dst, .nilCheck x, rt, pos, after, guard⟩ t m (.pointer (some ⟨b, o, none⟩)) := by
 intro ρ a w ht _
 obtain ⟨pl, hp, e⟩ := (hx ▸ ht.ev x).ptr_inv
 exact ⟨_, .ptr hp, fun w' _ => by simp [execOp, e, Sem.run_pure]⟩
theorem OW.appendL {s : Operand} {st e : TypeId} {z by' : Nat} {zs : List Value} {b n c bx ox k cx : Nat} {vs : List Value} {blk : Blk} (hs : t.ev s = .slice (some ⟨b, 0, none⟩) n c) (hx : t.ev x = .slice (some ⟨bx, ox, none⟩) k cx) (he : elemT P st = some e) (hz : szOf P e = some z) (h0 : zeroOf P e = some zs) (hzl : zs.length = z) (hby : bytesOf' P e = some by')
  (hk : 0 < k) (hb : m.at b = some blk) (ho : blk.own = true) (hesz : blk.esz = z) (hz0 : z ≠ 0) (hn : blk.cells.length = n * z) (hl : m.ld bx ox (k * z) = some vs) (h1 : vs.all one = true) (hsm : (n + k) * by' ≤ 140737488355328) (hsm' : n + k ≤ 4611686018427387904) (hpl0 : blk.obj.o = none := by rfl) :
  OW P ⟨dst, .call ⟨.builtin .append, #[s, x], #[st, st]⟩, rt, pos, after, guard⟩ t m (.slice (some ⟨m.length, 0, none⟩) (n + k) INF) (m.set b none ++ [some ⟨blk.cells ++ vs, true, z⟩]) := by
 have := OW.append (P := P) (dst := dst) (rt := rt) (pos := pos) (after := after) (guard := guard) hs hx he hz h0 hzl hby hk hb ho hesz hz0 (Nat.le_of_eq hn.symm) hl h1 hsm hsm' hpl0
 rwa [List.take_of_length_le (Nat.le_of_eq hn)] at this
end
end Ab
end Go
end
/- The small memory: calls whose memory nobody sees, some of whose results nobody asks for. -/
section
set_option linter.unusedSimpArgs false
set_option linter.unusedVariables false
namespace Go
open Go.RowKit
namespace Ab
def jle (v u : Value) : Prop := ∀ (ρ ρ' : Ren) (x : Value), VRel ρ u x → VRel ρ' v x
theorem jle_flat {v : Value} (h : flat v = true) : jle v v := fun ρ ρ' x hx => by
 rw [hx.of_flat h]
 exact .flat h
def FinJ (P : Program) (fn : Func) (v : Value) : Post := fun e t m' => (e = .ret ∨ e = .normal) ∧ ∃ vs, ResR P t m' fn.results.toList vs ∧ jle v (pack vs)
theorem FinJ.on {P : Program} {fn : Func} {v : Value} {x : Exit} {t : T} {m' : Mem} (h : FinJ P fn v x t m') : FinJ P fn v x t m' := h
theorem FinJ.ret {P : Program} {fn : Func} {v : Value} {t : T} {m' : Mem} {vs : List Value} (h : ResR P t m' fn.results.toList vs) (hj : jle v (pack vs)) : FinJ P fn v .ret t m' := ⟨.inl rfl, vs, h, hj⟩
theorem PCalls.enterJ {P : Program} {f : FuncId} {fn : Func} {c : Code} {args : List Value} {m : Mem} {v : Value} {t : T} (hf : P.funcs[f]? = some fn) (hb : fn.body = some c) (hro : m.ro) (ht : args ++ List.replicate (fn.ntmps - args.length) undef = t)
  (h : ∀ E : Env, E.n0 = m.length → AW P E c t m (FinJ P fn v)) : PCalls P f args m v := by
 subst ht
 intro ρ args' w hdom ha hm
 refine calls_of_wp hf hb ?_
 have hsz : args.length = args'.size := by
  obtain ⟨xs', e, h1, _⟩ := ha.tuple_inv
  cases e
  simpa using h1
 refine wp_mono (h ⟨w, fun _ => False, ρ, m.length, hdom⟩ rfl ρ _ w rfl ?_ ?_) ?_
 ·refine ⟨by simp [hsz], fun i u hu => ?_⟩
  obtain ⟨xs', e, h1, h2⟩ := ha.tuple_inv
  cases e
  simp only at hu ⊢
  rw [List.getElem?_append] at hu
  rw [Array.getElem?_append]
  split at hu
  ·rename_i hi
   rw [if_pos (by omega)]
   exact h2 i u (by simpa using hu)
  ·rename_i hi
   rw [if_neg (by omega)]
   rw [← hsz]
   rw [List.getElem?_replicate] at hu
   split at hu
   ·rename_i hi'
    cases Option.some.inj hu
    exact ⟨undef, by simp [hi'], .undef⟩
   ·cases hu
 ·exact ⟨rfl, rfl, ⟨rfl, Nat.le_refl _⟩, Nat.le_refl _, fun _ _ _ => rfl, fun _ _ => rfl, Nat.le_refl _, hdom, hm, fun b blk pl hb ho => by rw [hro b blk hb] at ho; cases ho⟩
 ·rintro e a w' ⟨hd, ρ', t', m', ⟨he, vs, hr, hj⟩, ht, hs⟩
  obtain ⟨v', hrun, hv⟩ := run_results (P := P) (w := w') ht hs.mem hr
  have hbelow : Grw w.heap.size w w' := ⟨hs.os, hs.tape, hs.output, hs.size, fun k hk => hs.same k hk (fun h => h)⟩
  rcases he with rfl | rfl
  ·exact bodyPost_ret hrun hd ⟨v', rfl, hj _ _ _ hv, hbelow⟩
  ·exact bodyPost_end hrun hd ⟨v', rfl, hj _ _ _ hv, hbelow⟩
end Ab
end Go
end
/- The drivers' tactics, written once. -/
section
set_option linter.unusedSimpArgs false
set_option linter.unusedVariables false
namespace Go
namespace Ab
open Go.RowKit
theorem wl {α : Sort _} {x y : α} (h : x = y := by conv => lhs; whnf) : x = y := h
theorem kr {α : Sort _} {x y : α} (h : x = y := by kernel_rfl) : x = y := h
theorem nc {p q : Prop} (h : p) (e : p = q := by conv => lhs; simp only [decide_eq_true_eq, decide_eq_false_iff_not, Bool.not_true, Bool.not_false, Bool.not_eq_true', Bool.not_eq_false', Int.not_lt, Int.not_le, Classical.not_not, ne_eq]) : q := e ▸ h
theorem AL.nm {P : Program} {E : Env} {ops : Array Oper} {l : List Oper} {t t' : T} {m : Mem} {Q : Post} (h : AL P E ops l t' m Q) (e : t = t' := by first | exact nrm | rfl) : AL P E ops l t m Q := e ▸ h
theorem AL.nM {P : Program} {E : Env} {ops : Array Oper} {l : List Oper} {t : T} {m m' : Mem} {Q : Post} (h : AL P E ops l t m' Q) (e : m = m' := by first | exact nrm | rfl) : AL P E ops l t m Q := e ▸ h
def fgk : Nat → List Nat → T → T
 | _, _, [] => []
 | i, ks, v :: t => (if ks.contains i then v else jk) :: fgk (i + 1) ks t
theorem fgk_eq : ∀ (t : T) (i : Nat) (ks : List Nat), fgk i ks t = fgt ((List.range' i t.length).map fun j => ks.contains j) t
 | [], _, _ => rfl
 | v :: t, i, ks => by
  show _ :: fgk (i + 1) ks t = fgt ((List.range' i (t.length + 1)).map fun j => ks.contains j) (v :: t)
  rw [List.range'_succ, List.map_cons, fgk_eq t (i + 1) ks]
  rfl
theorem Wk.fk {E : Env} {t : T} {m : Mem} (ks : List Nat) {t' : T} (h : fgk 0 ks t = t') : Wk E t m t' m := Wk.forget _ ((fgk_eq t 0 ks).symm.trans h)
theorem AW.fk {P : Program} {E : Env} {c : Code} {t t' : T} {m : Mem} {Q : Post} (ks : List Nat) (h : AW P E c t' m Q) (e : fgk 0 ks t = t' := by conv => lhs; simp only [fgk, List.contains_cons, List.contains_nil, Nat.reduceBEq, Nat.reduceAdd, Bool.or_false, Bool.false_or, Bool.or_true, Bool.true_or, Bool.false_eq_true, if_true, if_false]) : AW P E c t m Q := AW.wk (Wk.fk ks e) h
theorem PCalls.en {P : Program} {f : FuncId} {fn : Func} {c : Code} {args : List Value} {m : Mem} {v : Value} {t : T} (n : Nat) (hf : P.funcs[f]? = some fn) (hb : fn.body = some c) (hro : m.ro) (hn : fn.ntmps - args.length = n)
  (h : ∀ E, AW P E c t m (FinP P fn m v)) (e : args ++ List.replicate n undef = t := by conv => lhs; simp only [List.replicate_succ, List.replicate_zero, List.cons_append, List.nil_append]) : PCalls P f args m v := PCalls.enter hf hb hro (hn ▸ e) h
theorem ACalls.en {P : Program} {f : FuncId} {fn : Func} {c : Code} {args : List Value} {m : Mem} {v : Value} {mE : Mem} {t : T} (n : Nat) (hf : P.funcs[f]? = some fn) (hb : fn.body = some c) (hn : fn.ntmps - args.length = n)
  (h : ∀ E : Env, E.n0 = m.length → AW P E c t m (FinA P E fn v mE)) (e : args ++ List.replicate n undef = t := by conv => lhs; simp only [List.replicate_succ, List.replicate_zero, List.cons_append, List.nil_append]) : ACalls P f args m v mE := ACalls.enter hf hb (hn ▸ e) h
theorem PCalls.enJ {P : Program} {f : FuncId} {fn : Func} {c : Code} {args : List Value} {m : Mem} {v : Value} {t : T} (n : Nat) (hf : P.funcs[f]? = some fn) (hb : fn.body = some c) (hro : m.ro) (hn : fn.ntmps - args.length = n)
  (h : ∀ E : Env, E.n0 = m.length → AW P E c t m (FinJ P fn v)) (e : args ++ List.replicate n undef = t := by conv => lhs; simp only [List.replicate_succ, List.replicate_zero, List.cons_append, List.nil_append]) : PCalls P f args m v := PCalls.enterJ hf hb hro (hn ▸ e) h
def mtz : Nat → Nat → List (Nat × Value) → T
 | 0, _, _ => []
 | n + 1, _, [] => jk :: mtz n 0 []
 | n + 1, i, (j, v) :: l => if i == j then v :: mtz n (i + 1) l else jk :: mtz n (i + 1) ((j, v) :: l)
theorem AW.nT {P : Program} {E : Env} {c : Code} {t t' : T} {m : Mem} {Q : Post} (h : AW P E c t' m Q) (e : t = t' := by conv => lhs; simp only [mtz, Nat.reduceAdd, Nat.reduceBEq, Bool.false_eq_true, if_true, if_false]) : AW P E c t m Q := e ▸ h
section short
variable {P : Program} {E : Env} {ops : Array Oper} {rest : List Oper} {t : T} {m : Mem} {Q : Post} {dst : Option Tmp} {x y : Operand} {rt ty : TypeId} {pos : String} {after : Array Edge} {v : Value}
theorem AL.g {o : Oper} (h : OQ P o t m v) (hr : AL P E ops rest (t.put o.dst v) m Q) (hg : o.guard = none := by rfl) : AL P E ops (o :: rest) t m Q := AL.q hg h hr
theorem AL.mv (hr : AL P E ops rest (t.put dst v) m Q) (hx : t.ev x = v := by conv => lhs; whnf) : AL P E ops (⟨dst, .move x, rt, pos, after, none⟩ :: rest) t m Q := AL.q rfl (OQ.move hx) hr
theorem AL.as (hr : AL P E ops rest (t.put dst v) m Q) (hx : t.ev x = v := by conv => lhs; whnf) : AL P E ops (⟨dst, .assign x, rt, pos, after, none⟩ :: rest) t m Q := AL.q rfl (OQ.assign hx) hr
theorem AL.pT {z : Operand} {cc : Bool} (hr : AL P E ops rest (t.put dst v) m Q) (hx : t.ev x = .bool cc := by rfl) (h : cc = true := by with_reducible rfl) (hy : t.ev y = v := by conv => lhs; whnf) : AL P E ops (⟨dst, .pick x y z, rt, pos, after, none⟩ :: rest) t m Q := AL.q rfl (OQ.pickT hx h hy) hr
theorem AL.pF {z : Operand} {cc : Bool} (hr : AL P E ops rest (t.put dst v) m Q) (hx : t.ev x = .bool cc := by rfl) (h : cc = false := by with_reducible rfl) (hz : t.ev z = v := by conv => lhs; whnf) : AL P E ops (⟨dst, .pick x y z, rt, pos, after, none⟩ :: rest) t m Q := AL.q rfl (OQ.pickF hx h hz) hr
theorem AL.bx (hr : AL P E ops rest (t.put dst (.pointer (some ⟨m.length, 0, none⟩))) (m ++ [some ⟨v.cells.toList, true, 0⟩]) Q) (hx : t.ev x = v := by conv => lhs; whnf) (hj : ∀ r, v ≠ .chan r := by intro r h; cases h) : AL P E ops (⟨dst, .box ty x, rt, pos, after, none⟩ :: rest) t m Q := AL.w rfl (OW.box hx hj) hr
theorem AL.et {vs : Array Value} {i : Nat} (hr : AL P E ops rest (t.put dst v) m Q) (hx : t.ev x = .tuple vs := by rfl) (hv : vs[i]? = some v := by rfl) : AL P E ops (⟨dst, .extract x i, rt, pos, after, none⟩ :: rest) t m Q := AL.q rfl (OQ.extract hx hv) hr
end short
theorem AF.nm {P : Program} {E : Env} {l : List Oper} {bits : Array Nat} {n : Nat} {Q : Post} {m0 : Mem} {ops : List Oper} {t t' : T} {m : Mem} {sps sps' : List Sp} (h : AF P E l bits n Q m0 ops t' m sps') (e : t = t' := by first | exact nrmF | rfl) (e2 : sps = sps' := by first | (conv => lhs; simp only [List.nil_append, List.cons_append]) | rfl) : AF P E l bits n Q m0 ops t m sps := by
 subst e e2
 exact h
theorem AF.nl {P : Program} {E : Env} {l r : List Oper} {bits : Array Nat} {n : Nat} {Q : Post} {m0 : Mem} {t : T} {m : Mem} {sps : List Sp} (h : AL P E l.toArray r t m Q) (hk : chkAll bits m0.length (own0 m0) sps = true := by kernel_rfl) (e : l.drop n = r := by conv => lhs; simp only [List.drop_succ_cons, List.drop_zero, List.drop_nil]) : AF P E l bits n Q m0 [] t m sps := AF.nil (e ▸ h) hk
end Ab
end Go
end
/- Blocks told in brief. -/
section
set_option linter.unusedSimpArgs false
set_option linter.unusedVariables false
namespace Go
namespace Ab
open Go.RowKit
theorem bS {m : Mem} {t n e : Nat} {τ : Nat → Nat} {cs : List Value} {y : Blk} (h1 : m.at t = some y) (h2 : y.obj = Ob.plain) (h3 : y.cells = cs) (h4 : cs.all scal = true) (he : y.esz = e := by rfl) : ∃ y', m.at t = some y' ∧ y'.shp = (⟨cs, false, e⟩ : Blk).shpR τ n ∧ ((⟨cs, false, e⟩ : Blk).own = true → y'.own = true) ∧ cR τ n (⟨cs, false, e⟩ : Blk).cells y'.cells := by
 subst he
 exact ⟨y, h1, by unfold Blk.shp Blk.shpR; rw [h2]; rfl, (fun h => nomatch h), .inl ⟨h3, h4⟩⟩
theorem bI {m : Mem} {t n e : Nat} {τ : Nat → Nat} {cs : List Value} {y : Blk} (h1 : m.at t = some y) (h2 : y.obj = Ob.plain) (h3 : y.cells = cs.map (rn1 τ)) (h4 : cs.all (ok1 n) = true := by rfl) (he : y.esz = e := by rfl) : ∃ y', m.at t = some y' ∧ y'.shp = (⟨cs, false, e⟩ : Blk).shpR τ n ∧ ((⟨cs, false, e⟩ : Blk).own = true → y'.own = true) ∧ cR τ n (⟨cs, false, e⟩ : Blk).cells y'.cells := by
 subst he
 exact ⟨y, h1, by unfold Blk.shp Blk.shpR; rw [h2]; rfl, (fun h => nomatch h), .inr ⟨h3, h4⟩⟩
theorem kl {σ : Nat → Nat} {n j : Nat} {m : Mem} {x b : Blk} (h1 : m.at j = some b) (h : x.cells.all scal = true) (h5 : x.cells = b.cells := by rfl) (h2 : b.own = x.own := by rfl) (h3 : b.shp = x.shpR σ n := by rfl) : ∃ blk, m.at j = some blk ∧ blk.own = x.own ∧ blk.shp = x.shpR σ n ∧ cellsRen σ n x.cells blk.cells := ⟨b, h1, h2, h3, .inl ⟨h5, h⟩⟩
theorem ki {σ : Nat → Nat} {n j : Nat} {m : Mem} {x b : Blk} (h1 : m.at j = some b) (h5 : x.cells.map (rn1 σ) = b.cells := by rfl) (h : x.cells.all (ok1 n) = true := by rfl) (h2 : b.own = x.own := by rfl) (h3 : b.shp = x.shpR σ n := by rfl) : ∃ blk, m.at j = some blk ∧ blk.own = x.own ∧ blk.shp = x.shpR σ n ∧ cellsRen σ n x.cells blk.cells := ⟨b, h1, h2, h3, .inr ⟨h5, h⟩⟩
end Ab
end Go
end
/- Chapter 6 in plain Lean: hulls: the chain that is built along a line's order. -/
section
set_option linter.unusedSimpArgs false
set_option linter.unusedVariables false
namespace Go.Me
structure Pn where
 x : Int
 y : Int
 deriving DecidableEq
def cr (a b c : Pn) : Int := (b.x - a.x) * (c.y - a.y) - (b.y - a.y) * (c.x - a.x)
section
variable {A C : Int}
def ph (A C : Int) (p : Pn) : Int := A * p.x + C * p.y
theorem id1 (a b c p : Pn) : (ph A C c - ph A C b) * cr a b p = (ph A C b - ph A C a) * cr b c p + (ph A C p - ph A C b) * cr a b c := by unfold ph cr; grind
theorem id2 (a b p q : Pn) : (ph A C b - ph A C a) * cr b p q = (ph A C b - ph A C q) * cr a b p + (ph A C p - ph A C b) * cr a b q := by unfold ph cr; grind
theorem id3 (s t p q : Pn) : (ph A C t - ph A C s) * cr s p q = (ph A C p - ph A C s) * cr s t q - (ph A C q - ph A C s) * cr s t p := by unfold ph cr; grind
theorem nn_of {k n : Int} (hk : 0 < k) (h : 0 ≤ k * n) : 0 ≤ n := by
 apply Classical.byContradiction
 intro hn
 have := Int.mul_lt_mul_of_pos_left (show n < 0 by omega) hk
 omega
theorem ps_of {k n : Int} (hk : 0 < k) (h : 0 < k * n) : 0 < n := by
 apply Classical.byContradiction
 intro hn
 have := Int.mul_le_mul_of_nonneg_left (show n ≤ 0 by omega) (Int.le_of_lt hk)
 omega
theorem l1 {a b c p : Pn} (h1 : ph A C a < ph A C b) (h2 : ph A C b < ph A C c) (h3 : ph A C c < ph A C p) (h4 : 0 < cr a b c) (h5 : 0 < cr b c p) : 0 < cr a b p := by
 refine ps_of (k := ph A C c - ph A C b) (by omega) ?_
 rw [id1]
 have := Int.mul_pos (show 0 < ph A C b - ph A C a by omega) h5
 have := Int.mul_pos (show 0 < ph A C p - ph A C b by omega) h4
 omega
theorem l2 {a b p q : Pn} (h1 : ph A C a < ph A C b) (h2 : ph A C b < ph A C p) (h3 : ph A C q ≤ ph A C b) (h4 : 0 < cr a b p) (h5 : 0 ≤ cr a b q) : 0 ≤ cr b p q := by
 refine nn_of (k := ph A C b - ph A C a) (by omega) ?_
 rw [id2]
 have := Int.mul_nonneg (show 0 ≤ ph A C b - ph A C q by omega) (Int.le_of_lt h4)
 have := Int.mul_nonneg (show 0 ≤ ph A C p - ph A C b by omega) h5
 omega
theorem l3 {s t p q : Pn} (h1 : ph A C s < ph A C t) (h2 : ph A C s < ph A C p) (h3 : ph A C s ≤ ph A C q) (h4 : cr s t p ≤ 0) (h5 : 0 ≤ cr s t q) : 0 ≤ cr s p q := by
 refine nn_of (k := ph A C t - ph A C s) (by omega) ?_
 rw [id3]
 have := Int.mul_nonneg (show 0 ≤ ph A C p - ph A C s by omega) h5
 have := Int.mul_nonneg (show 0 ≤ ph A C q - ph A C s by omega) (show 0 ≤ -cr s t p by omega)
 rw [Int.mul_neg] at this
 omega
end
def pop (p : Pn) : List Pn → List Pn
 | b :: a :: r => if cr a b p ≤ 0 then pop p (a :: r) else b :: a :: r
 | s => s
def chain (ps : List Pn) : List Pn := ps.foldl (fun st p => p :: pop p st) []
def Good (A C : Int) (seen : List Pn) : List Pn → Prop
 | c :: b :: r => ph A C b < ph A C c ∧ (∀ q ∈ seen, 0 ≤ cr b c q) ∧ (∀ a r', r = a :: r' → 0 < cr a b c) ∧ Good A C seen (b :: r)
 | _ => True
theorem cr_self (b p : Pn) : cr b p p = 0 := by unfold cr; grind
theorem cr_base (b p : Pn) : cr b p b = 0 := by unfold cr; grind
theorem Good.add {A C : Int} {seen : List Pn} {p : Pn} : ∀ (st : List Pn) (c : Pn), (∀ q ∈ st.head?, 0 < cr q c p) → Good A C seen (c :: st) → ph A C c < ph A C p → Good A C (p :: seen) (c :: st)
 | [], c, _, _, _ => trivial
 | b :: r, c, h, hg, hp => by
  obtain ⟨g1, g2, g3, g4⟩ := hg
  have hb : 0 < cr b c p := h b (by simp)
  refine ⟨g1, fun q hq => ?_, g3, ?_⟩
  ·rcases List.mem_cons.1 hq with rfl | hq
   ·exact Int.le_of_lt hb
   ·exact g2 q hq
  ·refine Good.add r b (fun q hq => ?_) g4 (by omega)
   cases r with
   | nil => simp at hq
   | cons a r' =>
    simp only [List.head?_cons, Option.mem_def, Option.some.injEq] at hq
    subst hq
    exact l1 (A := A) (C := C) g4.1 g1 hp (g3 a r' rfl) hb
theorem pop_good {A C : Int} {seen : List Pn} {p : Pn} (hp : ∀ q ∈ seen, ph A C q < ph A C p) : ∀ (st : List Pn) (b : Pn), (∀ x ∈ b :: st, x ∈ seen) → (∀ x, (b :: st).getLast? = some x → ∀ q ∈ seen, ph A C x ≤ ph A C q) →
  (∀ q ∈ seen, ph A C b < ph A C q → 0 ≤ cr b p q) → (∀ q ∈ seen, ph A C q = ph A C b → q = b) → (∀ x ∈ st, ∀ q ∈ seen, ph A C q = ph A C x → q = x) → Good A C seen (b :: st) → Good A C (p :: seen) (p :: pop p (b :: st))
 | [], b, hin, hlast, hnew, hinj, _, hg => by
  show Good A C (p :: seen) [p, b]
  refine ⟨hp b (hin b (by simp)), fun q hq => ?_, fun a r' h => (nomatch h), trivial⟩
  rcases List.mem_cons.1 hq with rfl | hq
  ·rw [cr_self]; exact Int.le_refl _
  ·rcases Int.lt_or_eq_of_le (hlast b (by simp) q hq) with h | h
   ·exact hnew q hq h
   ·rw [hinj q hq h.symm, cr_base]; exact Int.le_refl _
 | a :: r, b, hin, hlast, hnew, hinj, hinj', hg => by
  obtain ⟨g1, g2, g3, g4⟩ := hg
  have hb := hp b (hin b (by simp))
  have ha := hp a (hin a (by simp))
  unfold pop
  by_cases hc : cr a b p ≤ 0
  ·rw [if_pos hc]
   refine pop_good hp r a (fun x hx => hin x (by simp at hx ⊢; right; exact hx)) (fun x hx => hlast x (by simpa [List.getLast?_cons_cons] using hx)) (fun q hq h => ?_) (hinj' a (by simp)) (fun x hx => hinj' x (by simp [hx])) g4
   exact l3 (A := A) (C := C) g1 ha (Int.le_of_lt h) hc (g2 q hq)
  ·rw [if_neg hc]
   have hc' : 0 < cr a b p := by omega
   refine ⟨hb, fun q hq => ?_, fun a' r' h => ?_, ?_⟩
   ·rcases List.mem_cons.1 hq with rfl | hq
    ·rw [cr_self]; exact Int.le_refl _
    ·by_cases h : ph A C b < ph A C q
     ·exact hnew q hq h
     ·exact l2 (A := A) (C := C) g1 hb (by omega) hc' (g2 q hq)
   ·cases h
    exact hc'
   ·exact Good.add (a :: r) b (fun q hq => by simp at hq; subst hq; exact hc') ⟨g1, g2, g3, g4⟩ hb
theorem pop_ne (p : Pn) : ∀ (st : List Pn) (b : Pn), ∃ c r, pop p (b :: st) = c :: r
 | [], b => ⟨b, [], rfl⟩
 | a :: r, b => by
  unfold pop
  split
  ·exact pop_ne p r a
  ·exact ⟨_, _, rfl⟩
theorem pop_sub (p : Pn) : ∀ (st : List Pn) (x : Pn), x ∈ pop p st → x ∈ st
 | [], x, h => h
 | [b], x, h => h
 | b :: a :: r, x, h => by
  unfold pop at h
  split at h
  ·exact List.mem_cons_of_mem _ (pop_sub p (a :: r) x h)
  ·exact h
theorem pop_last (p : Pn) : ∀ (st : List Pn), (pop p st).getLast? = st.getLast?
 | [] => rfl
 | [b] => rfl
 | b :: a :: r => by
  unfold pop
  split
  ·rw [pop_last p (a :: r), List.getLast?_cons_cons]
  ·rfl
theorem Good.mono {A C : Int} {s s' : List Pn} (h : ∀ q ∈ s', q ∈ s) : ∀ st : List Pn, Good A C s st → Good A C s' st
 | [], _ => trivial
 | [_], _ => trivial
 | c :: b :: r, hg => ⟨hg.1, fun q hq => hg.2.1 q (h q hq), hg.2.2.1, Good.mono h (b :: r) hg.2.2.2⟩
theorem chain_snoc (ps : List Pn) (p : Pn) : chain (ps ++ [p]) = p :: pop p (chain ps) := by unfold chain; rw [List.foldl_append]; rfl
structure Chained (A C : Int) (ps st : List Pn) : Prop where
 sub : ∀ x ∈ st, x ∈ ps
 top : st.head? = ps.getLast?
 low : ∀ x, st.getLast? = some x → ∀ q ∈ ps, ph A C x ≤ ph A C q
 good : Good A C ps st
theorem chained {A C : Int} (ps : List Pn) (h : ps.Pairwise fun a b => ph A C a < ph A C b) : Chained A C ps (chain ps) := by
 have key : ∀ n (ps : List Pn), ps.length = n → (ps.Pairwise fun a b => ph A C a < ph A C b) → Chained A C ps (chain ps) := by
  intro n
  induction n with
  | zero =>
   intro ps hl _
   obtain rfl := List.length_eq_zero_iff.1 hl
   exact ⟨fun x hx => hx, rfl, fun x hx => by simp [chain] at hx, trivial⟩
  | succ n ih =>
   intro ps hl hp
   have hne : ps ≠ [] := fun e => by rw [e] at hl; simp at hl
   obtain ⟨qs, p, rfl⟩ : ∃ qs p, ps = qs ++ [p] := ⟨ps.dropLast, ps.getLast hne, (List.dropLast_concat_getLast hne).symm⟩
   rw [List.pairwise_append] at hp
   obtain ⟨hp1, _, hp2⟩ := hp
   have hlt : ∀ q ∈ qs, ph A C q < ph A C p := fun q hq => hp2 q hq p (by simp)
   have hq := ih qs (by simpa using hl) hp1
   have hinj : ∀ x ∈ qs, ∀ q ∈ qs, ph A C q = ph A C x → q = x := by
    intro x hx q hq e
    have : ∀ (l : List Pn), (l.Pairwise fun a b => ph A C a < ph A C b) → x ∈ l → q ∈ l → q = x := by
     intro l
     induction l with
     | nil => intro _ h; simp at h
     | cons a l ihl =>
      intro hpw h1 h2
      rw [List.pairwise_cons] at hpw
      rcases List.mem_cons.1 h1 with e1 | k1
      ·rcases List.mem_cons.1 h2 with e2 | k2
       ·rw [e1, e2]
       ·have := hpw.1 q k2; rw [← e1] at this; omega
      ·rcases List.mem_cons.1 h2 with e2 | k2
       ·have := hpw.1 x k1; rw [← e2] at this; omega
       ·exact ihl hpw.2 k1 k2
    exact this qs hp1 hx hq
   rw [chain_snoc]
   have hmem : ∀ q ∈ qs ++ [p], q ∈ p :: qs := fun q hq => by simp at hq ⊢; rcases hq with h | h <;> simp [h]
   cases hst : chain qs with
   | nil =>
    have hqs : qs = [] := by
     have := hq.top
     rw [hst] at this
     simpa using this.symm
    subst hqs
    exact ⟨fun x hx => by simpa [pop] using hx, rfl, fun x hx q hq => by simp [pop] at hx hq; subst hx hq; exact Int.le_refl _, trivial⟩
   | cons b r =>
    have hbt : qs.getLast? = some b := by rw [← hq.top, hst]; rfl
    refine ⟨fun x hx => ?_, by simp, fun x hx q hqm => ?_, ?_⟩
    ·rcases List.mem_cons.1 hx with rfl | hx
     ·simp
     ·exact List.mem_append_left _ (hq.sub x (by rw [hst]; exact pop_sub p _ x hx))
    ·obtain ⟨c, r', hpop⟩ := pop_ne p r b
     have hx' : (chain qs).getLast? = some x := by
      rw [hst, ← pop_last p, hpop]
      rw [hpop, List.getLast?_cons_cons] at hx
      exact hx
     rcases List.mem_append.1 hqm with h | h
     ·exact hq.low x hx' q h
     ·have : q = p := by simpa using h
      subst this
      have := hlt x (hq.sub x (List.mem_of_getLast? hx'))
      omega
    ·refine Good.mono hmem _ (pop_good hlt r b (fun x hx => hq.sub x (by rw [hst]; exact hx)) (fun x hx => hq.low x (by rw [hst]; exact hx)) (fun q hqm hlt' => ?_) (fun q hqm e => hinj b (hq.sub b (by rw [hst]; simp)) q hqm e) (fun x hx q hqm e => hinj x (hq.sub x (by rw [hst]; simp [hx])) q hqm e) (by have := hq.good; rwa [hst] at this))
     -- no point lies behind the last one
     have : ph A C q ≤ ph A C b := by
      obtain ⟨ini, hini⟩ : ∃ ini, qs = ini ++ [b] := List.getLast?_eq_some_iff.1 hbt
      rw [hini] at hqm hp1
      rcases List.mem_append.1 hqm with h | h
      ·exact Int.le_of_lt ((List.pairwise_append.1 hp1).2.2 q h b (by simp))
      ·have : q = b := by simpa using h
       rw [this]
       exact Int.le_refl _
     omega
 exact key _ ps rfl h
def Bord (L : List Pn) (a b : Pn) : Prop := ∀ q ∈ L, 0 ≤ cr a b q
theorem cr_swap (a b c : Pn) : cr a c b = -cr a b c := by unfold cr; grind
theorem far_of {A C : Int} {L : List Pn} {a b : Pn} (ha : a ∈ L) (hb : b ∈ L) (h : Bord L a b) (hab : ph A C a < ph A C b) (hn : ∃ q ∈ L, cr a b q ≠ 0) (hinj : ∀ k ∈ L, ph A C k = ph A C a → k = a)
  (hnx : (∀ q ∈ L, ph A C q ≤ ph A C b) ∨ ∃ c ∈ L, ph A C b < ph A C c ∧ 0 < cr a b c ∧ Bord L b c) (k : Pn) (hk : k ∈ L) (hka : k ≠ a) (hkb : Bord L a k) : cr a b k = 0 ∧ ph A C a < ph A C k ∧ ph A C k ≤ ph A C b := by
 have h0 : cr a b k = 0 := by
  have h1 := h k hk
  have h2 := hkb b hb
  rw [cr_swap] at h2
  omega
 have hak : ph A C a < ph A C k := by
  apply Classical.byContradiction
  intro hlt
  have hne : ph A C k ≠ ph A C a := fun e => hka (hinj k hk e)
  obtain ⟨q, hq, hqn⟩ := hn
  have h1 := h q hq
  have h2 := hkb q hq
  have e := id3 (A := A) (C := C) a b k q
  rw [h0, Int.mul_zero, Int.sub_zero] at e
  have p1 := Int.mul_nonneg (show 0 ≤ ph A C b - ph A C a by omega) h2
  have p2 := Int.mul_neg_of_neg_of_pos (show ph A C k - ph A C a < 0 by omega) (show 0 < cr a b q by omega)
  omega
 refine ⟨h0, hak, ?_⟩
 rcases hnx with hm | ⟨c, hc, hbc, hcr, hB⟩
 ·exact hm k hk
 ·apply Classical.byContradiction
  intro hlt
  have e := id1 (A := A) (C := C) a b c k
  rw [h0, Int.mul_zero] at e
  have p1 := Int.mul_nonneg (show 0 ≤ ph A C b - ph A C a by omega) (hB k hk)
  have p2 := Int.mul_pos (show 0 < ph A C k - ph A C b by omega) hcr
  omega
theorem flat_of {a b : Pn} (hab : a ≠ b) {p q r : Pn} (hp : cr a b p = 0) (hq : cr a b q = 0) (hr : cr a b r = 0) : cr p q r = 0 := by
 have k1 : (b.x - a.x) * cr p q r = (q.x - p.x) * cr a b r - (r.x - p.x) * cr a b q + (r.x - q.x) * cr a b p := by unfold cr; grind
 have k2 : (b.y - a.y) * cr p q r = (q.y - p.y) * cr a b r - (r.y - p.y) * cr a b q + (r.y - q.y) * cr a b p := by unfold cr; grind
 rw [hp, hq, hr] at k1 k2
 simp only [Int.mul_zero, Int.sub_zero, Int.add_zero] at k1 k2
 rcases Int.mul_eq_zero.1 k1 with h1 | h1
 ·rcases Int.mul_eq_zero.1 k2 with h2 | h2
  ·refine absurd ?_ hab
   cases a
   cases b
   simp only [Pn.mk.injEq] at *
   omega
  ·exact h2
 ·exact h1
def OnSeg (k a b : Pn) : Prop := cr a b k = 0 ∧ (min a.x b.x ≤ k.x ∧ k.x ≤ max a.x b.x) ∧ (min a.y b.y ≤ k.y ∧ k.y ≤ max a.y b.y)
theorem between {D E u v : Int} (hD : 0 < D) (h0 : 0 ≤ E) (h1 : E ≤ D) (h : D * u = E * v) : (0 ≤ v → 0 ≤ u ∧ u ≤ v) ∧ (v ≤ 0 → v ≤ u ∧ u ≤ 0) := by
 refine ⟨fun hv => ?_, fun hv => ?_⟩
 ·have p1 := Int.mul_nonneg h0 hv
  have p2 := Int.mul_le_mul_of_nonneg_right h1 hv
  refine ⟨nn_of hD (by omega), ?_⟩
  have : 0 ≤ D * (v - u) := by rw [Int.mul_sub]; omega
  have := nn_of hD this
  omega
 ·have p1 := Int.mul_nonneg h0 (show 0 ≤ -v by omega)
  have p2 := Int.mul_le_mul_of_nonneg_right h1 (show 0 ≤ -v by omega)
  rw [Int.mul_neg] at p1
  rw [Int.mul_neg, Int.mul_neg] at p2
  refine ⟨?_, ?_⟩
  ·have : 0 ≤ D * (u - v) := by rw [Int.mul_sub]; omega
   have := nn_of hD this
   omega
  ·have : 0 ≤ D * (-u) := by rw [Int.mul_neg]; omega
   have := nn_of hD this
   omega
theorem seg_of {A C : Int} {a b k : Pn} (hab : ph A C a < ph A C b) (h0 : cr a b k = 0) (h1 : ph A C a ≤ ph A C k) (h2 : ph A C k ≤ ph A C b) : OnSeg k a b := by
 have kx : (ph A C b - ph A C a) * (k.x - a.x) = (ph A C k - ph A C a) * (b.x - a.x) := by
  have : (ph A C b - ph A C a) * (k.x - a.x) = (ph A C k - ph A C a) * (b.x - a.x) - C * cr a b k := by unfold ph cr; grind
  rw [this, h0]
  omega
 have ky : (ph A C b - ph A C a) * (k.y - a.y) = (ph A C k - ph A C a) * (b.y - a.y) := by
  have : (ph A C b - ph A C a) * (k.y - a.y) = (ph A C k - ph A C a) * (b.y - a.y) + A * cr a b k := by unfold ph cr; grind
  rw [this, h0]
  omega
 have bx := between (by omega) (by omega) (by omega) kx
 have hy := between (by omega) (by omega) (by omega) ky
 refine ⟨h0, ?_, ?_⟩
 ·rcases Int.le_total 0 (b.x - a.x) with h | h
  ·have := bx.1 h; omega
  ·have := bx.2 h; omega
 ·rcases Int.le_total 0 (b.y - a.y) with h | h
  ·have := hy.1 h; omega
  ·have := hy.2 h; omega
theorem OnSeg.anti {a b k : Pn} (h1 : OnSeg k a b) (h2 : OnSeg b a k) : k = b := by
 obtain ⟨_, ⟨p1, p2⟩, p3, p4⟩ := h1
 obtain ⟨_, ⟨q1, q2⟩, q3, q4⟩ := h2
 cases a; cases b; cases k
 simp only [Pn.mk.injEq] at *
 omega
structure Nx (L : List Pn) (a b : Pn) : Prop where
 mem : b ∈ L
 ne : b ≠ a
 bord : Bord L a b
 far : ∀ k ∈ L, k ≠ a → Bord L a k → OnSeg k a b
theorem Nx.uniq {L : List Pn} {a b b' : Pn} (h : Nx L a b) (h' : Nx L a b') : b = b' := (h.far b' h'.mem h'.ne h'.bord).anti (h'.far b h.mem h.ne h.bord) |>.symm
theorem chain_nx {A C : Int} {L : List Pn} (hinj : ∀ k ∈ L, ∀ q ∈ L, ph A C k = ph A C q → k = q) (hfl : ∃ p ∈ L, ∃ q ∈ L, ∃ r ∈ L, cr p q r ≠ 0) : ∀ (st : List Pn), Good A C L st → (∀ x ∈ st, x ∈ L) →
  ∀ (c : Pn), st.head? = some c → ((∀ q ∈ L, ph A C q ≤ ph A C c) ∨ ∃ d ∈ L, ph A C c < ph A C d ∧ (∀ b r, st = c :: b :: r → 0 < cr b c d) ∧ Bord L c d) →
  ∀ (i : Nat) (x y : Pn), st[i + 1]? = some x → st[i]? = some y → Nx L x y
 | [], _, _, _, h, _, _, _, _, _, _ => by simp at h
 | [c], _, _, _, _, _, i, x, y, hx, _ => by simp at hx
 | c :: b :: r, hg, hm, c', hc, hnx, i, x, y, hx, hy => by
  obtain rfl : c = c' := by simpa using hc
  obtain ⟨g1, g2, g3, g4⟩ := hg
  have hb : b ∈ L := hm b (by simp)
  have hcm : c ∈ L := hm c (by simp)
  cases i with
  | succ i =>
   exact chain_nx hinj hfl (b :: r) g4 (fun x hx => hm x (by simp at hx ⊢; right; exact hx)) b rfl (.inr ⟨c, hcm, g1, fun a r' e => by cases e; exact g3 a r' rfl, g2⟩) i x y (by simpa using hx) (by simpa using hy)
  | zero =>
   obtain rfl : b = x := by simpa using hx
   obtain rfl : c = y := by simpa using hy
   have hn : ∃ q ∈ L, cr b c q ≠ 0 := by
    apply Classical.byContradiction
    intro hno
    have hall : ∀ q ∈ L, cr b c q = 0 := fun q hq => Classical.byContradiction fun h => hno ⟨q, hq, h⟩
    obtain ⟨p, hp, q, hq, r, hr, h⟩ := hfl
    exact h (flat_of (a := b) (b := c) (fun e => by rw [e] at g1; omega) (hall p hp) (hall q hq) (hall r hr))
   refine ⟨hcm, fun e => by rw [e] at g1; omega, g2, fun k hk hkb hkB => ?_⟩
   have := far_of (A := A) (C := C) hb hcm g2 g1 hn (fun k hk e => hinj k hk b hb e) (by
    rcases hnx with h | ⟨d, hd, h1, h2, h3⟩
    ·exact .inl h
    ·exact .inr ⟨d, hd, h1, h2 b r rfl, h3⟩) k hk hkb hkB
   exact seg_of (A := A) (C := C) g1 this.1 (Int.le_of_lt this.2.1) this.2.2
end Go.Me
end
