/- The small memory: rules for a walk that one repeated tactic makes. -/
import Derived.Test.YtmghmmmfdbafoaaGreatDoorAbK
set_option linter.unusedSimpArgs false
set_option linter.unusedVariables false
namespace Go
open Go.RowKit
namespace Ab

/-- Several blocks written. -/
def setAll : Mem → List (Nat × Option Blk) → Mem
  | m, [] => m
  | m, u :: us => setAll (m.set u.1 u.2) us
theorem lit_no {p : Prop} (h : true = false) : p := by cases h
theorem set_lit {t : T} {d : Nat} {c : Bool} (h : t.getD d undef = .bool c) : t.set d (.bool c) = t := by
  refine List.ext_getElem? fun i => ?_
  rw [List.getElem?_set]
  split
  · rename_i hi
    subst hi
    rw [List.getD_eq_getElem?_getD] at h
    split
    · rename_i hl
      rw [List.getElem?_eq_getElem hl] at h ⊢
      simp only [Option.getD_some] at h
      rw [h]
    · rename_i hl
      rw [List.getElem?_eq_none (by omega)]
  · rfl

section
variable {P : Program} {E : Env} {ops : Array Oper} {o : Oper} {rest : List Oper} {t : T} {m : Mem} {Q : Post} {c e : Code}
theorem AL.on {l : List Oper} (h : AL P E ops l t m Q) : AL P E ops l t m Q := h
theorem AL.gd (hg : o.guard.isSome = true) (h : AL P E ops (o :: rest) t m Q) : AL P E ops (o :: rest) t m Q := h
theorem AW.on (h : AW P E c t m Q) : AW P E c t m Q := h
theorem FinP.on {fn : Func} {v : Value} {x : Exit} {m' : Mem} (h : FinP P fn m v x t m') : FinP P fn m v x t m' := h
theorem FinA.on {fn : Func} {v : Value} {x : Exit} {m' : Mem} (h : FinA P E fn v m x t m') : FinA P E fn v m x t m' := h
theorem ex_on {α : Type} {p : α → Prop} (h : ∃ x, p x) : ∃ x, p x := h
theorem AR.out (h : False) : AR P E c Q 0 t m := h

theorem AW.conds {d : Nat} {b : Bool} (hx : t.getD d undef = .bool b) (h1 : b = true → AW P E c (t.set d (.bool true)) m Q) (h2 : b = false → AW P E e (t.set d (.bool false)) m Q) : AW P E (.cond (.tmp d) c e) t m Q := by
  refine AW.cond (x := .tmp d) (b := b) hx (fun h => ?_) (fun h => ?_)
  · subst h; have := h1 rfl; rwa [set_lit hx] at this
  · subst h; have := h2 rfl; rwa [set_lit hx] at this
theorem AL.gs1 {d : Nat} {c : Bool} (hg : gdt ops o = some (d, true)) (hc : t.getD d undef = .bool c)
    (h1 : c = true → AL P E ops ({ o with guard := none } :: rest) (t.set d (.bool true)) m Q) (h2 : c = false → AL P E ops rest (T.put (t.set d (.bool false)) o.dst undef) m Q) : AL P E ops (o :: rest) t m Q := by
  refine AL.gcase hg hc (fun h => ?_) (fun h => ?_)
  · subst h; have := h1 rfl; rwa [set_lit hc] at this
  · have h' : c = false := h
    subst h'; have := h2 rfl; rwa [set_lit hc] at this
theorem AL.gs0 {d : Nat} {c : Bool} (hg : gdt ops o = some (d, false)) (hc : t.getD d undef = .bool c)
    (h1 : c = false → AL P E ops ({ o with guard := none } :: rest) (t.set d (.bool false)) m Q) (h2 : c = true → AL P E ops rest (T.put (t.set d (.bool true)) o.dst undef) m Q) : AL P E ops (o :: rest) t m Q := by
  refine AL.gcase hg hc (fun h => ?_) (fun h => ?_)
  · subst h; have := h1 rfl; rwa [set_lit hc] at this
  · have h' : c = true := h
    subst h'; have := h2 rfl; rwa [set_lit hc] at this
theorem AL.bs {dst : Option Tmp} {rt : TypeId} {pos : String} {after : Array Edge} {guard : Option (Nat × Bool)} {y z : Operand} {d : Nat} {c : Bool} (hc : t.getD d undef = .bool c) (h1 : c = true → AL P E ops (⟨dst, .pick (.tmp d) y z, rt, pos, after, guard⟩ :: rest) (t.set d (.bool true)) m Q) (h2 : c = false → AL P E ops (⟨dst, .pick (.tmp d) y z, rt, pos, after, guard⟩ :: rest) (t.set d (.bool false)) m Q) : AL P E ops (⟨dst, .pick (.tmp d) y z, rt, pos, after, guard⟩ :: rest) t m Q := by
  cases c
  · have := h2 rfl; rwa [set_lit hc] at this
  · have := h1 rfl; rwa [set_lit hc] at this
variable {l : List Oper} {b : Array Nat} {n i : Nat} {news : List New} {os : List Oper}
theorem AD.on (h : AD P E l b n m Q os i t news) : AD P E l b n m Q os i t news := h
theorem AD.gs1 {d : Nat} {c : Bool} (hg : gdt l.toArray o = some (d, true)) (hc : t.getD d undef = .bool c)
    (h1 : c = true → AD P E l b n m Q (o :: os) i (t.set d (.bool true)) news) (h2 : c = false → AD P E l b n m Q (o :: os) i (t.set d (.bool false)) news) : AD P E l b n m Q (o :: os) i t news := by
  refine AD.gcase hg hc (fun h => ?_) (fun h => ?_)
  · subst h; have := h1 rfl; rwa [set_lit hc] at this
  · have h' : c = false := h
    subst h'; have := h2 rfl; rwa [set_lit hc] at this
theorem AD.gs0 {d : Nat} {c : Bool} (hg : gdt l.toArray o = some (d, false)) (hc : t.getD d undef = .bool c)
    (h1 : c = false → AD P E l b n m Q (o :: os) i (t.set d (.bool false)) news) (h2 : c = true → AD P E l b n m Q (o :: os) i (t.set d (.bool true)) news) : AD P E l b n m Q (o :: os) i t news := by
  refine AD.gcase hg hc (fun h => ?_) (fun h => ?_)
  · subst h; have := h1 rfl; rwa [set_lit hc] at this
  · have h' : c = true := h
    subst h'; have := h2 rfl; rwa [set_lit hc] at this
theorem AD.gn1 {d : Nat} {c : Bool} (hg : gdt l.toArray o = some (d, true)) (hc : t.getD d undef = .bool c) (hcw : c = false) (hk : keepsNews o news = true)
    (hr : AD P E l b n m Q os (i + 1) (t.put o.dst undef) news) : AD P E l b n m Q (o :: os) i t news := AD.gnoc hg hc (by rw [hcw]; rfl) hk hr
theorem AD.gn0 {d : Nat} {c : Bool} (hg : gdt l.toArray o = some (d, false)) (hc : t.getD d undef = .bool c) (hcw : c = true) (hk : keepsNews o news = true)
    (hr : AD P E l b n m Q os (i + 1) (t.put o.dst undef) news) : AD P E l b n m Q (o :: os) i t news := AD.gnoc hg hc (by rw [hcw]; rfl) hk hr
theorem AD.bs {dst : Option Tmp} {rt : TypeId} {pos : String} {after : Array Edge} {guard : Option (Nat × Bool)} {y z : Operand} {d : Nat} {c : Bool} (hc : t.getD d undef = .bool c) (h1 : c = true → AD P E l b n m Q (⟨dst, .pick (.tmp d) y z, rt, pos, after, guard⟩ :: os) i (t.set d (.bool true)) news) (h2 : c = false → AD P E l b n m Q (⟨dst, .pick (.tmp d) y z, rt, pos, after, guard⟩ :: os) i (t.set d (.bool false)) news) : AD P E l b n m Q (⟨dst, .pick (.tmp d) y z, rt, pos, after, guard⟩ :: os) i t news := by
  cases c
  · have := h2 rfl; rwa [set_lit hc] at this
  · have := h1 rfl; rwa [set_lit hc] at this
variable {bits : Array Nat} {m0 : Mem} {sps : List Sp}
theorem AF.on (h : AF P E l bits n Q m0 os t m sps) : AF P E l bits n Q m0 os t m sps := h
end
section kinds
variable {P : Program} {E : Env} {ops : Array Oper} {rest : List Oper} {t : T} {m : Mem} {Q : Post} {dst : Option Tmp} {ty ty' rt : TypeId} {pos : String} {after : Array Edge} {guard : Option (Nat × Bool)} {x y z : Operand} {bo : BinOp} {uo : UnOp} {i : Nat}
theorem AL.k_move (h : AL P E ops (⟨dst, .move x, rt, pos, after, guard⟩ :: rest) t m Q) : AL P E ops (⟨dst, .move x, rt, pos, after, guard⟩ :: rest) t m Q := h
theorem AL.k_assign (h : AL P E ops (⟨dst, .assign x, rt, pos, after, guard⟩ :: rest) t m Q) : AL P E ops (⟨dst, .assign x, rt, pos, after, guard⟩ :: rest) t m Q := h
theorem AL.k_binOp (h : AL P E ops (⟨dst, .binOp bo ty x y ty', rt, pos, after, guard⟩ :: rest) t m Q) : AL P E ops (⟨dst, .binOp bo ty x y ty', rt, pos, after, guard⟩ :: rest) t m Q := h
theorem AL.k_unOp (h : AL P E ops (⟨dst, .unOp uo ty x, rt, pos, after, guard⟩ :: rest) t m Q) : AL P E ops (⟨dst, .unOp uo ty x, rt, pos, after, guard⟩ :: rest) t m Q := h
theorem AL.k_load (h : AL P E ops (⟨dst, .load ty x, rt, pos, after, guard⟩ :: rest) t m Q) : AL P E ops (⟨dst, .load ty x, rt, pos, after, guard⟩ :: rest) t m Q := h
theorem AL.k_fieldAddr (h : AL P E ops (⟨dst, .fieldAddr ty x i, rt, pos, after, guard⟩ :: rest) t m Q) : AL P E ops (⟨dst, .fieldAddr ty x i, rt, pos, after, guard⟩ :: rest) t m Q := h
theorem AL.k_index (h : AL P E ops (⟨dst, .index ty x y, rt, pos, after, guard⟩ :: rest) t m Q) : AL P E ops (⟨dst, .index ty x y, rt, pos, after, guard⟩ :: rest) t m Q := h
theorem AL.k_indexAddr (h : AL P E ops (⟨dst, .indexAddr ty x y, rt, pos, after, guard⟩ :: rest) t m Q) : AL P E ops (⟨dst, .indexAddr ty x y, rt, pos, after, guard⟩ :: rest) t m Q := h
theorem AL.k_call {cl : Call} (h : AL P E ops (⟨dst, .call cl, rt, pos, after, guard⟩ :: rest) t m Q) : AL P E ops (⟨dst, .call cl, rt, pos, after, guard⟩ :: rest) t m Q := h
theorem AL.k_alloc (h : AL P E ops (⟨dst, .alloc ty, rt, pos, after, guard⟩ :: rest) t m Q) : AL P E ops (⟨dst, .alloc ty, rt, pos, after, guard⟩ :: rest) t m Q := h
theorem AL.k_box (h : AL P E ops (⟨dst, .box ty x, rt, pos, after, guard⟩ :: rest) t m Q) : AL P E ops (⟨dst, .box ty x, rt, pos, after, guard⟩ :: rest) t m Q := h
theorem AL.k_build {ps : Array (Nat × Operand)} (h : AL P E ops (⟨dst, .build ty ps, rt, pos, after, guard⟩ :: rest) t m Q) : AL P E ops (⟨dst, .build ty ps, rt, pos, after, guard⟩ :: rest) t m Q := h
theorem AL.k_buildSlice {ps : Array (Nat × Operand)} (h : AL P E ops (⟨dst, .buildSlice ty i ps, rt, pos, after, guard⟩ :: rest) t m Q) : AL P E ops (⟨dst, .buildSlice ty i ps, rt, pos, after, guard⟩ :: rest) t m Q := h
theorem AL.k_store (h : AL P E ops (⟨dst, .store ty x y, rt, pos, after, guard⟩ :: rest) t m Q) : AL P E ops (⟨dst, .store ty x y, rt, pos, after, guard⟩ :: rest) t m Q := h
theorem AL.k_pick (h : AL P E ops (⟨dst, .pick x y z, rt, pos, after, guard⟩ :: rest) t m Q) : AL P E ops (⟨dst, .pick x y z, rt, pos, after, guard⟩ :: rest) t m Q := h
theorem AL.k_extract (h : AL P E ops (⟨dst, .extract x i, rt, pos, after, guard⟩ :: rest) t m Q) : AL P E ops (⟨dst, .extract x i, rt, pos, after, guard⟩ :: rest) t m Q := h
variable {l : List Oper} {b : Array Nat} {n j : Nat} {news : List New} {m0 : Mem} {sps : List Sp}
theorem AD.k_move (h : AD P E l b n m Q (⟨dst, .move x, rt, pos, after, guard⟩ :: rest) j t news) : AD P E l b n m Q (⟨dst, .move x, rt, pos, after, guard⟩ :: rest) j t news := h
theorem AF.k_move (h : AF P E l b n Q m0 (⟨dst, .move x, rt, pos, after, guard⟩ :: rest) t m sps) : AF P E l b n Q m0 (⟨dst, .move x, rt, pos, after, guard⟩ :: rest) t m sps := h
theorem AD.k_assign (h : AD P E l b n m Q (⟨dst, .assign x, rt, pos, after, guard⟩ :: rest) j t news) : AD P E l b n m Q (⟨dst, .assign x, rt, pos, after, guard⟩ :: rest) j t news := h
theorem AF.k_assign (h : AF P E l b n Q m0 (⟨dst, .assign x, rt, pos, after, guard⟩ :: rest) t m sps) : AF P E l b n Q m0 (⟨dst, .assign x, rt, pos, after, guard⟩ :: rest) t m sps := h
theorem AD.k_binOp (h : AD P E l b n m Q (⟨dst, .binOp bo ty x y ty', rt, pos, after, guard⟩ :: rest) j t news) : AD P E l b n m Q (⟨dst, .binOp bo ty x y ty', rt, pos, after, guard⟩ :: rest) j t news := h
theorem AF.k_binOp (h : AF P E l b n Q m0 (⟨dst, .binOp bo ty x y ty', rt, pos, after, guard⟩ :: rest) t m sps) : AF P E l b n Q m0 (⟨dst, .binOp bo ty x y ty', rt, pos, after, guard⟩ :: rest) t m sps := h
theorem AD.k_unOp (h : AD P E l b n m Q (⟨dst, .unOp uo ty x, rt, pos, after, guard⟩ :: rest) j t news) : AD P E l b n m Q (⟨dst, .unOp uo ty x, rt, pos, after, guard⟩ :: rest) j t news := h
theorem AD.k_load (h : AD P E l b n m Q (⟨dst, .load ty x, rt, pos, after, guard⟩ :: rest) j t news) : AD P E l b n m Q (⟨dst, .load ty x, rt, pos, after, guard⟩ :: rest) j t news := h
theorem AF.k_load (h : AF P E l b n Q m0 (⟨dst, .load ty x, rt, pos, after, guard⟩ :: rest) t m sps) : AF P E l b n Q m0 (⟨dst, .load ty x, rt, pos, after, guard⟩ :: rest) t m sps := h
theorem AD.k_fieldAddr (h : AD P E l b n m Q (⟨dst, .fieldAddr ty x i, rt, pos, after, guard⟩ :: rest) j t news) : AD P E l b n m Q (⟨dst, .fieldAddr ty x i, rt, pos, after, guard⟩ :: rest) j t news := h
theorem AF.k_fieldAddr (h : AF P E l b n Q m0 (⟨dst, .fieldAddr ty x i, rt, pos, after, guard⟩ :: rest) t m sps) : AF P E l b n Q m0 (⟨dst, .fieldAddr ty x i, rt, pos, after, guard⟩ :: rest) t m sps := h
theorem AD.k_indexAddr (h : AD P E l b n m Q (⟨dst, .indexAddr ty x y, rt, pos, after, guard⟩ :: rest) j t news) : AD P E l b n m Q (⟨dst, .indexAddr ty x y, rt, pos, after, guard⟩ :: rest) j t news := h
theorem AF.k_indexAddr (h : AF P E l b n Q m0 (⟨dst, .indexAddr ty x y, rt, pos, after, guard⟩ :: rest) t m sps) : AF P E l b n Q m0 (⟨dst, .indexAddr ty x y, rt, pos, after, guard⟩ :: rest) t m sps := h
theorem AD.k_call {cl : Call} (h : AD P E l b n m Q (⟨dst, .call cl, rt, pos, after, guard⟩ :: rest) j t news) : AD P E l b n m Q (⟨dst, .call cl, rt, pos, after, guard⟩ :: rest) j t news := h
theorem AF.k_call {cl : Call} (h : AF P E l b n Q m0 (⟨dst, .call cl, rt, pos, after, guard⟩ :: rest) t m sps) : AF P E l b n Q m0 (⟨dst, .call cl, rt, pos, after, guard⟩ :: rest) t m sps := h
theorem AD.k_alloc (h : AD P E l b n m Q (⟨dst, .alloc ty, rt, pos, after, guard⟩ :: rest) j t news) : AD P E l b n m Q (⟨dst, .alloc ty, rt, pos, after, guard⟩ :: rest) j t news := h
theorem AD.k_build {ps : Array (Nat × Operand)} (h : AD P E l b n m Q (⟨dst, .build ty ps, rt, pos, after, guard⟩ :: rest) j t news) : AD P E l b n m Q (⟨dst, .build ty ps, rt, pos, after, guard⟩ :: rest) j t news := h
theorem AF.k_build {ps : Array (Nat × Operand)} (h : AF P E l b n Q m0 (⟨dst, .build ty ps, rt, pos, after, guard⟩ :: rest) t m sps) : AF P E l b n Q m0 (⟨dst, .build ty ps, rt, pos, after, guard⟩ :: rest) t m sps := h
theorem AF.k_buildSlice {ps : Array (Nat × Operand)} (h : AF P E l b n Q m0 (⟨dst, .buildSlice ty i ps, rt, pos, after, guard⟩ :: rest) t m sps) : AF P E l b n Q m0 (⟨dst, .buildSlice ty i ps, rt, pos, after, guard⟩ :: rest) t m sps := h
theorem AD.k_store (h : AD P E l b n m Q (⟨dst, .store ty x y, rt, pos, after, guard⟩ :: rest) j t news) : AD P E l b n m Q (⟨dst, .store ty x y, rt, pos, after, guard⟩ :: rest) j t news := h
theorem AF.k_store (h : AF P E l b n Q m0 (⟨dst, .store ty x y, rt, pos, after, guard⟩ :: rest) t m sps) : AF P E l b n Q m0 (⟨dst, .store ty x y, rt, pos, after, guard⟩ :: rest) t m sps := h
theorem AD.k_pick (h : AD P E l b n m Q (⟨dst, .pick x y z, rt, pos, after, guard⟩ :: rest) j t news) : AD P E l b n m Q (⟨dst, .pick x y z, rt, pos, after, guard⟩ :: rest) j t news := h
theorem AD.k_extract (h : AD P E l b n m Q (⟨dst, .extract x i, rt, pos, after, guard⟩ :: rest) j t news) : AD P E l b n m Q (⟨dst, .extract x i, rt, pos, after, guard⟩ :: rest) j t news := h
theorem AF.k_extract (h : AF P E l b n Q m0 (⟨dst, .extract x i, rt, pos, after, guard⟩ :: rest) t m sps) : AF P E l b n Q m0 (⟨dst, .extract x i, rt, pos, after, guard⟩ :: rest) t m sps := h
end kinds
/-- What temporaries and memory come to: a tactic that is written once (drivers say 'exact nrm'). -/
theorem nrm {α : Sort _} {x y : α} (h : x = y := by conv => lhs; simp only [T.put, T.ev, putAt, setsT, newBlks, fillL, List.map, List.set, List.append, List.cons_append, List.nil_append, List.length, List.getElem?_cons_zero, List.getElem?_cons_succ, Nat.reduceAdd, Nat.reduceMul, Nat.zero_add, Nat.add_zero, Nat.mul_one, Nat.zero_mul, List.drop, List.take, List.toList_toArray, Value.cells, Int.reduceToNat, Int.toNat_natCast, List.getD, Option.getD, Option.map, flat, flat1, scal, setAll, Int.reduceAdd, Int.reduceMul, if_true, ↓reduceIte]) : x = y := h
theorem nrmF {α : Sort _} {x y : α} (h : x = y := by conv => lhs; simp only [T.put, maskF_len, List.length_cons, List.length_nil, T.ev, putAt, setsT, newBlks, fillL, List.map, List.set, List.append, List.cons_append, List.nil_append, List.length, List.getElem?_cons_zero, List.getElem?_cons_succ, Nat.reduceAdd, Nat.reduceMul, Nat.zero_add, Nat.add_zero, Nat.mul_one, Nat.zero_mul, List.drop, List.take, List.toList_toArray, Value.cells, Int.reduceToNat, Int.toNat_natCast, List.getD, Option.getD, Option.map, flat, flat1, scal, setAll, Int.reduceAdd, Int.reduceMul, if_true, ↓reduceIte]) : x = y := h
end Ab
end Go
