/- The small memory: a copy of the part of the memory that a walk reaches, counted from 0. -/
import Derived.Test.YtmohcmghbfhdlaaGreatQa
import Derived.Laws.Cells
import Derived.Deep.LoopGhost
import Derived.LoopN
import Derived.Laws.AppendOwn
section
set_option linter.unusedSimpArgs false
set_option linter.unusedVariables false
/- A second memory: small, counted from 0, its blocks named by their place; what holds of a walk in it holds of the machine's own walk. Part 1: values, memory, operations that only look. -/
namespace Go
open Go.RowKit
namespace Ab
abbrev T := List Value
structure Pl where
 blk : Nat
 sh : Nat
 esz : Nat
 tot : Nat
abbrev Ren := Nat → Option Pl
abbrev jk : Value := .chan (some 0)
def scal : Value → Bool
 | .bool _ | .int _ _ | .string _ | .nilFunc | .pointer none | .nilIface | .map none | .slice none 0 0 => true
 | _ => false
def flat1 : Value → Bool
 | .agg cs => cs.toList.all scal
 | v => scal v
def flat : Value → Bool
 | .tuple cs => cs.toList.all flat1
 | v => flat1 v
inductive VRel (ρ : Ren) : Value → Value → Prop
 | jk (v : Value) : VRel ρ (.chan (some 0)) v
 | scal {v : Value} (h : scal v = true) : VRel ρ v v
 | ptr {b o : Nat} {pl : Pl} (h : ρ b = some pl) : VRel ρ (.pointer (some ⟨b, o, none⟩)) (.pointer (some ⟨pl.blk, o + pl.sh, none⟩))
 | map {b : Nat} {pl : Pl} (h : ρ b = some pl) : VRel ρ (.map (some b)) (.map (some pl.blk))
 | slice {b o n c c' : Nat} {pl : Pl} (h : ρ b = some pl) (h1 : n ≤ c') (h2 : c < 9223372036854775808 → c' ≤ c) (h3 : pl.esz ≠ 0 → o + pl.sh + c' * pl.esz ≤ pl.tot) :
   VRel ρ (.slice (some ⟨b, o, none⟩) n c) (.slice (some ⟨pl.blk, o + pl.sh, none⟩) n c')
 | empty {a a' : Addr} {c : Nat} : VRel ρ (.slice (some a) 0 c) (.slice (some a') 0 0)
 | lost {b o sp c c' : Nat} {a' : Addr} : VRel ρ (.slice (some ⟨b, o, some sp⟩) 0 c) (.slice (some a') 0 c')
 | func {fn : Fn} {xs ys xs' ys' : Array Value} (h1 : xs.size = xs'.size) (h2 : ys.size = ys'.size)
   (h3 : ∀ (i : Nat) (h : i < xs.size) (h' : i < xs'.size), VRel ρ xs[i] xs'[i]) (h4 : ∀ (i : Nat) (h : i < ys.size) (h' : i < ys'.size), VRel ρ ys[i] ys'[i]) : VRel ρ (.func fn xs ys) (.func fn xs' ys')
 | agg {xs xs' : Array Value} (h1 : xs.size = xs'.size) (h3 : ∀ (i : Nat) (h : i < xs.size) (h' : i < xs'.size), VRel ρ xs[i] xs'[i]) : VRel ρ (.agg xs) (.agg xs')
 | tuple {xs xs' : Array Value} (h1 : xs.size = xs'.size) (h3 : ∀ (i : Nat) (h : i < xs.size) (h' : i < xs'.size), VRel ρ xs[i] xs'[i]) : VRel ρ (.tuple xs) (.tuple xs')
theorem VRel.flat1 {ρ : Ren} {v : Value} (h : flat1 v = true) : VRel ρ v v := by
 cases v <;> simp only [Ab.flat1] at h <;> first
  | exact .scal h
  | exact .agg rfl (fun i h1 _ => .scal (List.all_eq_true.1 h _ (by simp)))
theorem VRel.flat {ρ : Ren} {v : Value} (h : flat v = true) : VRel ρ v v := by
 cases v <;> simp only [Ab.flat] at h <;> first
  | exact .tuple rfl (fun i h1 _ => .flat1 (List.all_eq_true.1 h _ (by simp)))
  | exact .flat1 h
theorem VRel.of_scal {ρ : Ren} {v v' : Value} (h : VRel ρ v v') (hv : Ab.scal v = true) : v' = v := by
 cases h <;> first | rfl | (simp [Ab.scal] at hv)
theorem VRel.of_flat1 {ρ : Ren} {v v' : Value} (h : VRel ρ v v') (hv : Ab.flat1 v = true) : v' = v := by
 cases h with
 | agg h1 h3 =>
  simp only [Ab.flat1, List.all_eq_true] at hv
  congr 1
  refine Array.ext h1.symm fun i h h' => ?_
  exact (h3 i (by omega) h).of_scal (hv _ (by simp))
 | scal h => rfl
 | jk => simp [Ab.flat1, Ab.scal] at hv
 | ptr => simp [Ab.flat1, Ab.scal] at hv
 | map => simp [Ab.flat1, Ab.scal] at hv
 | slice => simp [Ab.flat1, Ab.scal] at hv
 | empty => simp [Ab.flat1, Ab.scal] at hv
 | lost => simp [Ab.flat1, Ab.scal] at hv
 | func => simp [Ab.flat1, Ab.scal] at hv
 | tuple => simp [Ab.flat1, Ab.scal] at hv
theorem VRel.of_flat {ρ : Ren} {v v' : Value} (h : VRel ρ v v') (hv : Ab.flat v = true) : v' = v := by
 cases h with
 | tuple h1 h3 =>
  simp only [Ab.flat, List.all_eq_true] at hv
  congr 1
  refine Array.ext h1.symm fun i h h' => ?_
  exact (h3 i (by omega) h).of_flat1 (hv _ (by simp))
 | agg h1 h3 => exact (VRel.agg h1 h3).of_flat1 hv
 | scal h => rfl
 | jk => simp [Ab.flat, Ab.flat1, Ab.scal] at hv
 | ptr => simp [Ab.flat, Ab.flat1, Ab.scal] at hv
 | map => simp [Ab.flat, Ab.flat1, Ab.scal] at hv
 | slice => simp [Ab.flat, Ab.flat1, Ab.scal] at hv
 | empty => simp [Ab.flat, Ab.flat1, Ab.scal] at hv
 | lost => simp [Ab.flat, Ab.flat1, Ab.scal] at hv
 | func => simp [Ab.flat, Ab.flat1, Ab.scal] at hv
theorem VRel.int {ρ : Ren} {k : IntKind} {n : Int} {v : Value} (h : VRel ρ (.int k n) v) : v = .int k n := h.of_scal rfl
theorem VRel.bool {ρ : Ren} {b : Bool} {v : Value} (h : VRel ρ (.bool b) v) : v = .bool b := h.of_scal rfl
def Ext (ρ ρ' : Ren) : Prop := ∀ b pl, ρ b = some pl → ρ' b = some pl
theorem Ext.refl (ρ : Ren) : Ext ρ ρ := fun _ _ h => h
theorem VRel.ext {ρ ρ' : Ren} (he : Ext ρ ρ') {v v' : Value} (h : VRel ρ v v') : VRel ρ' v v' := by
 induction h with
 | jk v => exact .jk v
 | scal h => exact .scal h
 | ptr h => exact .ptr (he _ _ h)
 | map h => exact .map (he _ _ h)
 | slice h h1 h2 h3 => exact .slice (he _ _ h) h1 h2 h3
 | empty => exact .empty
 | lost => exact .lost
 | func h1 h2 _ _ i3 i4 => exact .func h1 h2 i3 i4
 | agg h1 _ i3 => exact .agg h1 i3
 | tuple h1 _ i3 => exact .tuple h1 i3
inductive OC where
 | map (es : Array MapEntry) (clock : Nat)
 | iter (b : Nat) (since : Nat) (seen : Array Nat) (last : Nat)
class Ob where
 o : Option OC
instance Ob.plain : Ob := ⟨none⟩
def OC.ren (κ : Nat → Nat) : OC → OC
 | .map es c => .map es c
 | .iter b s l n => .iter (κ b) s l n
abbrev Ob.ren (κ : Nat → Nat) (x : Ob) : Ob := ⟨x.o.map (OC.ren κ)⟩
structure Blk where
 cells : List Value
 own : Bool
 esz : Nat
 [obj : Ob]
def IsRow (ρ : Ren) : Option OC → Obj → Array Value → TypeId → Nat × Nat → Prop
 | none, x, c, ty, fr => x = .cells c ty fr
 | some (.map es k), x, c, _, fr => x = .map es k ∧ c = #[] ∧ fr = (0, 0)
 | some (.iter b s l n), x, c, _, fr => (∃ pl, ρ b = some pl ∧ x = .mapIter (some pl.blk) s l n) ∧ c = #[] ∧ fr = (0, 0)
abbrev Mem := List (Option Blk)
def Mem.at (m : Mem) (b : Nat) : Option Blk := m.getD b none
def T.ev (t : T) : Operand → Value
 | .tmp i => t.getD i undef
 | .const v => if flat v = true then v else jk
 | .func f => .func (.func f) #[] #[]
 | .global _ => jk
def TRel (ρ : Ren) (t : T) (tmps : Array Value) : Prop := t.length = tmps.size ∧ ∀ (i : Nat) (v : Value), t[i]? = some v → ∃ v', tmps[i]? = some v' ∧ VRel ρ v v'
theorem VRel.undef {ρ : Ren} : VRel ρ undef undef := .tuple rfl (fun i h => by simp at h)
theorem TRel.get {ρ : Ren} {t : T} {tmps : Array Value} (h : TRel ρ t tmps) (i : Nat) : VRel ρ (t.getD i Go.undef) (tmps.getD i Go.undef) := by
 by_cases hi : i < t.length
 ·obtain ⟨v', h1, h2⟩ := h.2 i t[i] (by simp [hi])
  simpa [List.getD_eq_getElem?_getD, List.getElem?_eq_getElem hi, Array.getD_eq_getD_getElem?, h1] using h2
 ·have hi' : ¬ i < tmps.size := by rw [← h.1]; exact hi
  simpa [List.getD_eq_getElem?_getD, List.getElem?_eq_none (Nat.le_of_not_lt hi), Array.getD, hi'] using VRel.undef
theorem TRel.ev {ρ : Ren} {t : T} {a : Act} (h : TRel ρ t a.tmps) (x : Operand) : VRel ρ (t.ev x) (a.eval x) := by
 cases x with
 | tmp i => exact h.get i
 | const v =>
  simp only [T.ev, Act.eval]
  split
  ·rename_i hv; exact .flat hv
  ·exact .jk _
 | global g => exact .jk _
 | func f => exact .func rfl rfl (fun i h => by simp at h) (fun i h => by simp at h)
theorem TRel.ext {ρ ρ' : Ren} (he : Ext ρ ρ') {t : T} {tmps : Array Value} (h : TRel ρ t tmps) : TRel ρ' t tmps := ⟨h.1, fun i v hv => let ⟨v', h1, h2⟩ := h.2 i v hv; ⟨v', h1, h2.ext he⟩⟩
def T.put (t : T) (d : Option Tmp) (v : Value) : T :=
 match d with
 | some d => t.set d v
 | none => t
theorem TRel.put {ρ : Ren} {t : T} {a : Act} (h : TRel ρ t a.tmps) {v v' : Value} (hv : VRel ρ v v') (d : Option Tmp) : TRel ρ (t.put d v) (a.put d v').tmps := by
 cases d with
 | none => exact h
 | some d =>
  refine ⟨by simp [T.put, Act.put, h.1], fun i u hu => ?_⟩
  simp only [T.put, Act.put, List.getElem?_set, Array.getElem?_setIfInBounds] at hu ⊢
  by_cases hd : d = i
  ·subst hd
   by_cases hs : d < t.length
   ·simp only [hs, if_true, Option.some.injEq] at hu
    subst hu
    exact ⟨v', by simp [← h.1, hs], hv⟩
   ·simp [hs] at hu
  ·simp only [hd, if_false] at hu ⊢
   exact h.2 i u hu
def BRel (ρ : Ren) (blk : Blk) (pl : Pl) (w : World) : Prop :=
 ∃ x c ty fr, w.heap[pl.blk]? = some x ∧ IsRow ρ blk.obj.o x c ty fr ∧ blk.esz = pl.esz ∧ (∀ i v, blk.cells[i]? = some v → ∃ v', c[i + pl.sh]? = some v' ∧ VRel ρ v v') ∧
  (blk.own = true → pl.sh = 0 ∧ c.size = pl.tot ∧ fr = (0, 0))
theorem IsRow.full {ρ : Ren} {o : Option OC} {x : Obj} {c : Array Value} {ty : TypeId} {fr : Nat × Nat} (h : IsRow ρ o x c ty fr) {i : Nat} {v : Value} (hc : c[i]? = some v) : x = .cells c ty fr := by
 match o, h with
 | none, h => exact h
 | some (.map _ _), h => rw [h.2.1] at hc; simp at hc
 | some (.iter _ _ _ _), h => rw [h.2.1] at hc; simp at hc
theorem IsRow.ext {ρ ρ' : Ren} (he : Ext ρ ρ') {o : Option OC} {x : Obj} {c : Array Value} {ty : TypeId} {fr : Nat × Nat} (h : IsRow ρ o x c ty fr) : IsRow ρ' o x c ty fr := by
 match o, h with
 | none, h => exact h
 | some (.map _ _), h => exact h
 | some (.iter _ _ _ _), ⟨⟨pl, h1, h2⟩, h3⟩ => exact ⟨⟨pl, he _ _ h1, h2⟩, h3⟩
theorem IsRow.plain {ρ : Ren} {o : Option OC} {c c' : Array Value} {ty ty' : TypeId} {fr fr' : Nat × Nat} (h : IsRow ρ o (.cells c ty fr) c' ty' fr') : o = none ∧ c' = c ∧ ty' = ty ∧ fr' = fr := by
 match o, h with
 | none, h => cases h; exact ⟨rfl, rfl, rfl, rfl⟩
 | some (.map _ _), h => cases h.1
 | some (.iter _ _ _ _), ⟨⟨pl, _, h⟩, _⟩ => cases h
def Blk.shp (y : Blk) : Option (Nat × Option OC) := some (y.esz, y.obj.o)
def Blk.shpR (κ : Nat → Nat) (n : Nat) (x : Blk) : Option (Nat × Option OC) :=
 match x.obj.o with
 | some (.iter b s l t) => if b < n then some (x.esz, some (.iter (κ b) s l t)) else none
 | o => some (x.esz, o)
theorem shp_eq {κ : Nat → Nat} {n : Nat} {x y : Blk} (h : y.shp = x.shpR κ n) : y.esz = x.esz ∧ ∀ (ρ ρ' : Ren) (X : Obj) (c : Array Value) (ty : TypeId) (fr : Nat × Nat), (∀ b, b < n → ρ' b = ρ (κ b)) → IsRow ρ y.obj.o X c ty fr → IsRow ρ' x.obj.o X c ty fr := by
 unfold Blk.shp Blk.shpR at h
 match hx : x.obj.o with
 | none =>
  rw [hx] at h
  simp only [Option.some.injEq, Prod.mk.injEq] at h
  exact ⟨h.1, fun ρ ρ' X c ty fr hρ hr => by rw [h.2] at hr; exact hr⟩
 | some (.map es k) =>
  rw [hx] at h
  simp only [Option.some.injEq, Prod.mk.injEq] at h
  exact ⟨h.1, fun ρ ρ' X c ty fr hρ hr => by rw [h.2] at hr; exact hr⟩
 | some (.iter b q l t) =>
  rw [hx] at h
  simp only at h
  split at h
  ·rename_i hb
   simp only [Option.some.injEq, Prod.mk.injEq] at h
   refine ⟨h.1, fun ρ ρ' X c ty fr hρ hr => ?_⟩
   rw [h.2] at hr
   obtain ⟨⟨pl, h1, h2⟩, h3⟩ := hr
   exact ⟨⟨pl, (hρ b hb).trans h1, h2⟩, h3⟩
  ·cases h
theorem IsRow.map {κ : Nat → Nat} {ρ ρ' : Ren} {o : Option OC} {X : Obj} {c : Array Value} {ty : TypeId} {fr : Nat × Nat} (hρ : ∀ b pl, ρ b = some pl → ρ' (κ b) = some pl) (h : IsRow ρ o X c ty fr) : IsRow ρ' (o.map (OC.ren κ)) X c ty fr := by
 match o, h with
 | none, h => exact h
 | some (.map _ _), h => exact h
 | some (.iter _ _ _ _), ⟨⟨pl, h1, h2⟩, h3⟩ => exact ⟨⟨pl, hρ _ _ h1, h2⟩, h3⟩
theorem BRel.row {ρ : Ren} {blk : Blk} {pl : Pl} {w : World} (h : BRel ρ blk pl w) (hc : blk.obj.o = none ∨ ∃ (i : Nat) (v : Value), blk.cells[i]? = some v) :
  ∃ c ty fr, w.heap[pl.blk]? = some (.cells c ty fr) ∧ blk.esz = pl.esz ∧ (∀ i v, blk.cells[i]? = some v → ∃ v', c[i + pl.sh]? = some v' ∧ VRel ρ v v') ∧ (blk.own = true → pl.sh = 0 ∧ c.size = pl.tot ∧ fr = (0, 0)) := by
 obtain ⟨x, c, ty, fr, h1, h2, h3, h4, h5⟩ := h
 rcases hc with ho | ⟨i, v, hv⟩
 ·rw [ho] at h2
  exact ⟨c, ty, fr, h2 ▸ h1, h3, h4, h5⟩
 ·obtain ⟨v', h6, _⟩ := h4 i v hv
  exact ⟨c, ty, fr, h2.full h6 ▸ h1, h3, h4, h5⟩
def MRel (ρ : Ren) (m : Mem) (w : World) : Prop :=
 ∀ b blk, m.at b = some blk → ∃ pl, ρ b = some pl ∧ BRel ρ blk pl w ∧ (blk.own = true → ∀ b' blk' pl', b' ≠ b → m.at b' = some blk' → ρ b' = some pl' → pl'.blk ≠ pl.blk)
def Same (ρ : Ren) (m : Mem) (w w' : World) : Prop := ∀ b blk pl, m.at b = some blk → ρ b = some pl → w'.heap[pl.blk]? = w.heap[pl.blk]?
theorem Same.refl (ρ : Ren) (m : Mem) (w : World) : Same ρ m w w := fun _ _ _ _ _ => rfl
def OQ (P : Program) (o : Oper) (t : T) (m : Mem) (v : Value) : Prop :=
 ∀ (ρ : Ren) (a : Act) (w : World), TRel ρ t a.tmps → MRel ρ m w → ∃ v', VRel ρ v v' ∧ ∀ w', Same ρ m w w' → (execOp a.eval o).run P w' = .ok (.value v') w'
section ops
variable {P : Program} {t : T} {m : Mem} {dst : Option Tmp} {ty ty' rt : TypeId} {pos : String} {after : Array Edge} {guard : Option (Nat × Bool)} {x y z : Operand} {k : IntKind} {a b : Int}
theorem OQ.move {v : Value} (hx : t.ev x = v) : OQ P ⟨dst, .move x, rt, pos, after, guard⟩ t m v := fun ρ a w ht _ => ⟨a.eval x, hx ▸ ht.ev x, fun _ _ => rfl⟩
theorem OQ.assign {v : Value} (hx : t.ev x = v) : OQ P ⟨dst, .assign x, rt, pos, after, guard⟩ t m v := fun ρ a w ht _ => ⟨a.eval x, hx ▸ ht.ev x, fun _ _ => rfl⟩
theorem evi {ρ : Ren} {a' : Act} {n : Int} (ht : TRel ρ t a'.tmps) (hx : t.ev x = .int k n) : a'.eval x = .int k n := VRel.int (hx ▸ ht.ev x)
theorem evb {ρ : Ren} {a' : Act} {n : Bool} (ht : TRel ρ t a'.tmps) (hx : t.ev x = .bool n) : a'.eval x = .bool n := VRel.bool (hx ▸ ht.ev x)
theorem OQ.add (hx : t.ev x = .int k a) (hy : t.ev y = .int k b) : OQ P ⟨dst, .binOp .add ty x y ty', rt, pos, after, guard⟩ t m (.int k (k.wrap (a + b))) :=
 fun ρ a' w ht _ => ⟨_, .scal rfl, fun _ _ => by simp [execOp, evi ht hx, evi ht hy, eqGuard, binOp, Op.intArith, Sem.run_bind, Sem.run_pure]⟩
theorem OQ.sub (hx : t.ev x = .int k a) (hy : t.ev y = .int k b) : OQ P ⟨dst, .binOp .sub ty x y ty', rt, pos, after, guard⟩ t m (.int k (k.wrap (a - b))) :=
 fun ρ a' w ht _ => ⟨_, .scal rfl, fun _ _ => by simp [execOp, evi ht hx, evi ht hy, eqGuard, binOp, Op.intArith, Sem.run_bind, Sem.run_pure]⟩
theorem OQ.mul (hx : t.ev x = .int k a) (hy : t.ev y = .int k b) : OQ P ⟨dst, .binOp .mul ty x y ty', rt, pos, after, guard⟩ t m (.int k (k.wrap (a * b))) :=
 fun ρ a' w ht _ => ⟨_, .scal rfl, fun _ _ => by simp [execOp, evi ht hx, evi ht hy, eqGuard, binOp, Op.intArith, Sem.run_bind, Sem.run_pure]⟩
theorem OQ.quo (hx : t.ev x = .int k a) (hy : t.ev y = .int k b) (h0 : b ≠ 0) : OQ P ⟨dst, .binOp .quo ty x y ty', rt, pos, after, guard⟩ t m (.int k (k.wrap (a.tdiv b))) :=
 fun ρ a' w ht _ => ⟨_, .scal rfl, fun _ _ => by simp [execOp, evi ht hx, evi ht hy, eqGuard, binOp, Op.intDiv, h0, Sem.run_bind, Sem.run_pure]⟩
theorem OQ.rem (hx : t.ev x = .int k a) (hy : t.ev y = .int k b) (h0 : b ≠ 0) : OQ P ⟨dst, .binOp .rem ty x y ty', rt, pos, after, guard⟩ t m (.int k (a.tmod b)) :=
 fun ρ a' w ht _ => ⟨_, .scal rfl, fun _ _ => by simp [execOp, evi ht hx, evi ht hy, eqGuard, binOp, Op.intDiv, h0, Sem.run_bind, Sem.run_pure]⟩
theorem OQ.lss (hx : t.ev x = .int k a) (hy : t.ev y = .int k b) : OQ P ⟨dst, .binOp .lss ty x y ty', rt, pos, after, guard⟩ t m (.bool (decide (a < b))) :=
 fun ρ a' w ht _ => ⟨_, .scal rfl, fun _ _ => by simp [execOp, evi ht hx, evi ht hy, eqGuard, binOp, Op.intCmp, Sem.run_bind, Sem.run_pure]⟩
theorem OQ.leq (hx : t.ev x = .int k a) (hy : t.ev y = .int k b) : OQ P ⟨dst, .binOp .leq ty x y ty', rt, pos, after, guard⟩ t m (.bool (decide (a ≤ b))) :=
 fun ρ a' w ht _ => ⟨_, .scal rfl, fun _ _ => by simp [execOp, evi ht hx, evi ht hy, eqGuard, binOp, Op.intCmp, Sem.run_bind, Sem.run_pure]⟩
theorem OQ.gtr (hx : t.ev x = .int k a) (hy : t.ev y = .int k b) : OQ P ⟨dst, .binOp .gtr ty x y ty', rt, pos, after, guard⟩ t m (.bool (decide (b < a))) :=
 fun ρ a' w ht _ => ⟨_, .scal rfl, fun _ _ => by simp [execOp, evi ht hx, evi ht hy, eqGuard, binOp, Op.intCmp, Sem.run_bind, Sem.run_pure]⟩
theorem OQ.geq (hx : t.ev x = .int k a) (hy : t.ev y = .int k b) : OQ P ⟨dst, .binOp .geq ty x y ty', rt, pos, after, guard⟩ t m (.bool (decide (b ≤ a))) :=
 fun ρ a' w ht _ => ⟨_, .scal rfl, fun _ _ => by simp [execOp, evi ht hx, evi ht hy, eqGuard, binOp, Op.intCmp, Sem.run_bind, Sem.run_pure]⟩
theorem OQ.eql (hx : t.ev x = .int k a) (hy : t.ev y = .int k b) : OQ P ⟨dst, .binOp .eql ty x y ty', rt, pos, after, guard⟩ t m (.bool (decide (a = b))) :=
 fun ρ a' w ht _ => ⟨_, .scal rfl, fun _ _ => by simp [execOp, evi ht hx, evi ht hy, eqGuard, binOp, Op.intCmp, Sem.run_bind, Sem.run_pure]; rfl⟩
theorem OQ.neq (hx : t.ev x = .int k a) (hy : t.ev y = .int k b) : OQ P ⟨dst, .binOp .neq ty x y ty', rt, pos, after, guard⟩ t m (.bool (decide (a ≠ b))) :=
 fun ρ a' w ht _ => ⟨_, .scal rfl, fun _ _ => by simp [execOp, evi ht hx, evi ht hy, eqGuard, binOp, Op.intCmp, Sem.run_bind, Sem.run_pure]; rfl⟩
theorem OQ.neg (hx : t.ev x = .int k a) : OQ P ⟨dst, .unOp .neg ty x, rt, pos, after, guard⟩ t m (.int k (k.wrap (0 - a))) :=
 fun ρ a' w ht _ => ⟨_, .scal rfl, fun _ _ => by simp [execOp, evi ht hx, Op.unary, Op.intArith, Sem.run_bind, Sem.run_pure]⟩
theorem OQ.not {c : Bool} (hx : t.ev x = .bool c) : OQ P ⟨dst, .unOp .not ty x, rt, pos, after, guard⟩ t m (.bool (!c)) :=
 fun ρ a' w ht _ => ⟨_, .scal rfl, fun _ _ => by simp [execOp, evb ht hx, Op.unary, Sem.run_bind, Sem.run_pure]⟩
theorem OQ.pick {c : Bool} {v u : Value} (hx : t.ev x = .bool c) (hy : t.ev y = v) (hz : t.ev z = u) : OQ P ⟨dst, .pick x y z, rt, pos, after, guard⟩ t m (if c then v else u) :=
 fun ρ a' w ht _ => ⟨if c then a'.eval y else a'.eval z, by cases c <;> simp [← hy, ← hz, ht.ev], fun _ _ => by simp [execOp, evb ht hx, asBool, Sem.run_bind, Sem.run_pure]⟩
end ops
end Ab
end Go
/- The small memory, part 2: operations that look into memory, take values apart and build them. -/
namespace Go
open Go.RowKit
namespace Ab
def szOf (P : Program) (t : TypeId) : Option Nat := (P.info? t).map (·.size)
def aggOf (P : Program) (t : TypeId) : Option Bool := (P.underlying t).map fun d => match d with | .struct _ | .array _ _ => true | _ => false
def fieldOf (P : Program) (s : TypeId) (i : Nat) : Option (Nat × Nat × Bool) :=
 match P.underlying s with
 | some (.struct fs) => match fs[i]? with
  | some f => match szOf P f.type, aggOf P f.type with
   | some n, some b => some (f.offset, n, b)
   | _, _ => none
  | none => none
 | _ => none
def elemOf' (P : Program) (s : TypeId) : Option (Option Nat × Nat × Bool) :=
 match P.underlying s with
 | some (.slice e) => match szOf P e, aggOf P e with
   | some n, some b => some (none, n, b)
   | _, _ => none
 | some (.array k e) => match szOf P e, aggOf P e with
   | some n, some b => some (some k, n, b)
   | _, _ => none
 | _ => none
section runs
variable {P : Program} {w : World}
theorem run_und {t : TypeId} {d : TypeDesc} (h : P.underlying t = some d) : (underlying t).run P w = .ok d w := by
 simp [underlying, program, Sem.run_bind, Sem.run, h, Result.andThen_ok]
theorem run_size {t : TypeId} {n : Nat} (h : szOf P t = some n) : (sizeOf t).run P w = .ok n w := by
 unfold szOf at h
 cases hi : P.info? t with
 | none => rw [hi] at h; cases h
 | some i =>
  rw [hi] at h
  simp only [Option.map_some, Option.some.injEq] at h
  simp [sizeOf, typeInfo, hi, h, go_sem]
theorem run_agg {t : TypeId} {b : Bool} (h : aggOf P t = some b) : (isAgg t).run P w = .ok b w := by
 unfold aggOf at h
 cases hi : P.underlying t with
 | none => rw [hi] at h; cases h
 | some d =>
  rw [hi] at h
  simp only [Option.map_some, Option.some.injEq] at h
  unfold isAgg
  rw [Sem.run_bind, run_und hi]
  subst h
  cases d <;> rfl
theorem fieldOf_spec {s i off n : Nat} {b : Bool} (h : fieldOf P s i = some (off, n, b)) : ∃ fs f, P.underlying s = some (.struct fs) ∧ fs[i]? = some f ∧ f.offset = off ∧ szOf P f.type = some n ∧ aggOf P f.type = some b := by
 unfold fieldOf at h
 split at h
 ·rename_i fs hu
  split at h
  ·rename_i f hf
   split at h
   ·rename_i n' b' h1 h2
    simp only [Option.some.injEq, Prod.mk.injEq] at h
    obtain ⟨e1, e2, e3⟩ := h
    exact ⟨fs, f, hu, hf, e1, e2 ▸ h1, e3 ▸ h2⟩
   ·cases h
  ·cases h
 ·cases h
theorem elemOf_slice {s n : Nat} {b : Bool} (h : elemOf' P s = some (none, n, b)) : ∃ e, P.underlying s = some (.slice e) ∧ szOf P e = some n ∧ aggOf P e = some b := by
 unfold elemOf' at h
 split at h
 ·rename_i e hu
  split at h
  ·rename_i n' b' h1 h2
   simp only [Option.some.injEq, Prod.mk.injEq] at h
   obtain ⟨-, e2, e3⟩ := h
   exact ⟨e, hu, e2 ▸ h1, e3 ▸ h2⟩
  ·cases h
 ·rename_i e hu
  split at h
  ·simp at h
  ·cases h
 ·cases h
theorem elemOf_array {s n k : Nat} {b : Bool} (h : elemOf' P s = some (some k, n, b)) : ∃ e, P.underlying s = some (.array k e) ∧ szOf P e = some n ∧ aggOf P e = some b := by
 unfold elemOf' at h
 split at h
 ·rename_i e hu
  split at h
  ·simp at h
  ·cases h
 ·rename_i k' e hu
  split at h
  ·rename_i n' b' h1 h2
   simp only [Option.some.injEq, Prod.mk.injEq] at h
   obtain ⟨e1, e2, e3⟩ := h
   exact ⟨e, e1 ▸ hu, e2 ▸ h1, e3 ▸ h2⟩
  ·cases h
 ·cases h
end runs
section inv
variable {ρ : Ren} {v : Value}
theorem VRel.ptr_inv {b o : Nat} (h : VRel ρ (.pointer (some ⟨b, o, none⟩)) v) : ∃ pl, ρ b = some pl ∧ v = .pointer (some ⟨pl.blk, o + pl.sh, none⟩) := by
 cases h with
 | scal h => simp [Ab.scal] at h
 | ptr h => exact ⟨_, h, rfl⟩
theorem VRel.map_inv {b : Nat} (h : VRel ρ (.map (some b)) v) : ∃ pl, ρ b = some pl ∧ v = .map (some pl.blk) := by
 cases h with
 | scal h => simp [Ab.scal] at h
 | map h => exact ⟨_, h, rfl⟩
theorem VRel.slice_inv {b o n c : Nat} (h : VRel ρ (.slice (some ⟨b, o, none⟩) n c) v) :
  (∃ pl c', ρ b = some pl ∧ n ≤ c' ∧ (c < 9223372036854775808 → c' ≤ c) ∧ (pl.esz ≠ 0 → o + pl.sh + c' * pl.esz ≤ pl.tot) ∧ v = .slice (some ⟨pl.blk, o + pl.sh, none⟩) n c') ∨ (n = 0 ∧ ∃ a', v = .slice (some a') 0 0) := by
 cases h with
 | scal h => simp [Ab.scal] at h
 | slice h h1 h2 h3 => exact .inl ⟨_, _, h, h1, h2, h3, rfl⟩
 | empty => exact .inr ⟨rfl, _, rfl⟩
theorem VRel.nil_inv (h : VRel ρ (.slice none 0 0) v) : v = .slice none 0 0 := h.of_scal rfl
theorem VRel.agg_inv {xs : Array Value} (h : VRel ρ (.agg xs) v) : ∃ xs', v = .agg xs' ∧ xs.size = xs'.size ∧ ∀ (i : Nat) (u : Value), xs[i]? = some u → ∃ u', xs'[i]? = some u' ∧ VRel ρ u u' := by
 cases h with
 | scal h => simp [Ab.scal] at h
 | agg h1 h3 =>
  refine ⟨_, rfl, h1, fun i u hu => ?_⟩
  obtain ⟨hi, he⟩ := Array.getElem?_eq_some_iff.1 hu
  have hi' := hi
  rw [h1] at hi'
  exact ⟨_, by simp [hi'], he ▸ h3 i hi hi'⟩
theorem VRel.tuple_inv {xs : Array Value} (h : VRel ρ (.tuple xs) v) : ∃ xs', v = .tuple xs' ∧ xs.size = xs'.size ∧ ∀ (i : Nat) (u : Value), xs[i]? = some u → ∃ u', xs'[i]? = some u' ∧ VRel ρ u u' := by
 cases h with
 | scal h => simp [Ab.scal] at h
 | tuple h1 h3 =>
  refine ⟨_, rfl, h1, fun i u hu => ?_⟩
  obtain ⟨hi, he⟩ := Array.getElem?_eq_some_iff.1 hu
  have hi' := hi
  rw [h1] at hi'
  exact ⟨_, by simp [hi'], he ▸ h3 i hi hi'⟩
theorem VRel.func_inv {fn : Fn} {xs ys : Array Value} (h : VRel ρ (.func fn xs ys) v) : ∃ xs' ys', v = .func fn xs' ys' ∧ VRel ρ (.tuple xs) (.tuple xs') ∧ VRel ρ (.tuple ys) (.tuple ys') := by
 cases h with
 | scal h => simp [Ab.scal] at h
 | func h1 h2 h3 h4 => exact ⟨_, _, rfl, .tuple h1 h3, .tuple h2 h4⟩
theorem VRel.agg_mk {xs xs' : Array Value} (h1 : xs.size = xs'.size) (h : ∀ (i : Nat) (u : Value), xs[i]? = some u → ∃ u', xs'[i]? = some u' ∧ VRel ρ u u') : VRel ρ (.agg xs) (.agg xs') :=
 .agg h1 fun i hi hi' => by
  obtain ⟨u', e, r⟩ := h i xs[i] (by simp [hi])
  obtain ⟨_, e'⟩ := Array.getElem?_eq_some_iff.1 e
  exact e' ▸ r
theorem VRel.agg_part {xs xs' : Array Value} (h : VRel ρ (.agg xs) (.agg xs')) (o n : Nat) : VRel ρ (.agg (xs.extract o (o + n))) (.agg (xs'.extract o (o + n))) := by
 obtain ⟨ys, e, h1, h2⟩ := h.agg_inv
 cases e
 refine .agg_mk (by simp [h1]) fun i u hu => ?_
 rw [Array.getElem?_extract] at hu ⊢
 split at hu
 ·rename_i hi
  rw [if_pos (by omega)]
  exact h2 _ _ hu
 ·cases hu
end inv
def Mem.ld (m : Mem) (b o n : Nat) : Option (List Value) :=
 match m.at b with
 | some blk => if o + n ≤ blk.cells.length then some ((blk.cells.drop o).take n) else none
 | none => none
theorem MRel.cell {ρ : Ren} {m : Mem} {w w' : World} (h : MRel ρ m w) (hs : Same ρ m w w') {b : Nat} {blk : Blk} {pl : Pl} (hb : m.at b = some blk) (hp : ρ b = some pl) {i : Nat} {v : Value} (hv : blk.cells[i]? = some v) :
  ∃ v', (w'.cell? ⟨pl.blk, i + pl.sh, none⟩ = some v' ∧ w.cell? ⟨pl.blk, i + pl.sh, none⟩ = some v') ∧ VRel ρ v v' := by
 obtain ⟨pl', hp', hbr, _⟩ := h b blk hb
 obtain ⟨c, ty, fr, hc, _, hcell, _⟩ := hbr.row (.inr ⟨i, v, hv⟩)
 cases Option.some.inj (hp'.symm.trans hp)
 obtain ⟨v', h1, h2⟩ := hcell i v hv
 have := hs b blk pl hb hp
 exact ⟨v', ⟨by simp [World.cell?, this, hc, h1], by simp [World.cell?, hc, h1]⟩, h2⟩
theorem MRel.cells {P : Program} {ρ : Ren} {m : Mem} {w : World} (h : MRel ρ m w) {b o n : Nat} {pl : Pl} {vs : List Value} (hl : m.ld b o n = some vs) (hp : ρ b = some pl) :
  vs.length = n ∧ ∃ vs' : List Value, vs'.length = n ∧ (∀ (i : Nat) (u : Value), vs[i]? = some u → ∃ u', vs'[i]? = some u' ∧ VRel ρ u u') ∧ ∀ w', Same ρ m w w' → (loadCells ⟨pl.blk, o + pl.sh, none⟩ n).run P w' = .ok vs'.toArray w' := by
 unfold Mem.ld at hl
 cases hb : m.at b with
 | none => rw [hb] at hl; cases hl
 | some blk =>
  rw [hb] at hl
  simp only at hl
  split at hl
  ·rename_i hle
   obtain rfl := Option.some.inj hl
   have hlen : ((blk.cells.drop o).take n).length = n := by simp; omega
   have hget : ∀ i, i < n → ∃ v, blk.cells[o + i]? = some v := fun i hi => ⟨_, List.getElem?_eq_getElem (by omega)⟩
   have hx : ∀ i, i < n → ∃ v', w.cell? ⟨pl.blk, (o + i) + pl.sh, none⟩ = some v' := fun i hi => by
    obtain ⟨v, hv⟩ := hget i hi
    obtain ⟨v', ⟨_, h1⟩, _⟩ := h.cell (Same.refl ρ m w) hb hp hv
    exact ⟨v', h1⟩
   refine ⟨hlen, (List.range n).map fun i => (w.cell? ⟨pl.blk, (o + i) + pl.sh, none⟩).getD undef, by simp, fun i u hu => ?_, fun w' hs => ?_⟩
   ·have hi : i < n := by
     rcases Nat.lt_or_ge i n with h' | h'
     ·exact h'
     ·rw [List.getElem?_eq_none (by omega)] at hu; cases hu
    have hu' : blk.cells[o + i]? = some u := by
     rw [List.getElem?_take_of_lt hi, List.getElem?_drop] at hu
     exact hu
    obtain ⟨v', ⟨_, h1⟩, h2⟩ := h.cell (Same.refl ρ m w) hb hp hu'
    exact ⟨v', by simp [hi, h1], h2⟩
   ·have key := run_loadCells_list (P := P) (w := w') ⟨pl.blk, o + pl.sh, none⟩ ((List.range n).map fun i => (w.cell? ⟨pl.blk, (o + i) + pl.sh, none⟩).getD undef) (fun j v hj => by
     have hi : j < n := by
      rcases Nat.lt_or_ge j n with h' | h'
      ·exact h'
      ·rw [List.getElem?_eq_none (by simp; omega)] at hj; cases hj
     simp only [List.getElem?_map, List.getElem?_range hi, Option.map_some, Option.some.injEq] at hj
     subst hj
     obtain ⟨v, hv⟩ := hget j hi
     obtain ⟨v', ⟨h1, h0⟩, _⟩ := h.cell hs hb hp hv
     have e : (⟨pl.blk, o + pl.sh, none⟩ : Addr).add j = ⟨pl.blk, o + j + pl.sh, none⟩ := by
      unfold Addr.add
      split
      ·rename_i hj0; subst hj0; simp
      ·simp; omega
     rw [e, h1, h0]; rfl)
    simpa using key
  ·cases hl
section ops
variable {P : Program} {t : T} {m : Mem} {dst : Option Tmp} {ty ty' rt : TypeId} {pos : String} {after : Array Edge} {guard : Option (Nat × Bool)} {x y z : Operand} {k : IntKind} {a : Int} {b o n : Nat}
theorem OQ.load1 {v : Value} (hx : t.ev x = .pointer (some ⟨b, o, none⟩)) (ha : aggOf P ty = some false) (hl : (m.at b).bind (·.cells[o]?) = some v) : OQ P ⟨dst, .load ty x, rt, pos, after, guard⟩ t m v := by
 intro ρ a w ht hm
 obtain ⟨pl, hp, he⟩ := (hx ▸ ht.ev x).ptr_inv
 cases hb : m.at b with
 | none => rw [hb] at hl; cases hl
 | some blk =>
  rw [hb] at hl
  obtain ⟨v', ⟨_, h1⟩, h2⟩ := hm.cell (Same.refl ρ m w) hb hp (show blk.cells[o]? = some v from hl)
  refine ⟨v', h2, fun w' hs => ?_⟩
  obtain ⟨v'', ⟨h1', h1''⟩, _⟩ := hm.cell hs hb hp (show blk.cells[o]? = some v from hl)
  rw [h1] at h1''
  cases Option.some.inj h1''
  simp only [execOp, Instr.loadAt, he, Instr.sureAddr, loadVar, Sem.run_bind, Sem.run_pure, Result.andThen_ok, run_agg ha]
  simp [Sem.run, h1', load, go_sem]
theorem OQ.loadN {vs : List Value} (hx : t.ev x = .pointer (some ⟨b, o, none⟩)) (ha : aggOf P ty = some true) (hz : szOf P ty = some n) (hl : m.ld b o n = some vs) : OQ P ⟨dst, .load ty x, rt, pos, after, guard⟩ t m (.agg vs.toArray) := by
 intro ρ a w ht hm
 obtain ⟨pl, hp, he⟩ := (hx ▸ ht.ev x).ptr_inv
 obtain ⟨h1, vs', h2, h3, h4⟩ := hm.cells (P := P) hl hp
 refine ⟨.agg vs'.toArray, .agg_mk (by simp [h1, h2]) (fun i u hu => by simpa using h3 i u (by simpa using hu)), fun w' hs => ?_⟩
 simp only [execOp, Instr.loadAt, he, Instr.sureAddr, loadVar, Sem.run_bind, Sem.run_pure, Result.andThen_ok, run_agg ha, run_size hz]
 have h5 := h4 w' hs
 unfold loadCells at h5
 simp [h5, go_sem, run_size hz]
theorem OQ.fieldA {i off : Nat} {g : Bool} (hx : t.ev x = .pointer (some ⟨b, o, none⟩)) (hf : fieldOf P ty i = some (off, n, g)) (hn : n ≠ 0) : OQ P ⟨dst, .fieldAddr ty x i, rt, pos, after, guard⟩ t m (.pointer (some ⟨b, o + off, none⟩)) := by
 intro ρ a w ht hm
 obtain ⟨pl, hp, he⟩ := (hx ▸ ht.ev x).ptr_inv
 obtain ⟨fs, f, h1, h2, h3, h4, _⟩ := fieldOf_spec hf
 refine ⟨_, .ptr hp, fun w' _ => ?_⟩
 simp only [execOp, Instr.fieldAt, he, Instr.sureAddr, fieldPlace, Sem.run_bind, Sem.run_pure, Result.andThen_ok, run_und h1, h2, run_size h4, if_neg hn]
 simp only [h3, Addr.add]
 by_cases h0 : off = 0
 ·subst h0; simp [go_sem]
 ·simp [h0, go_sem, Nat.add_right_comm]
theorem OQ.field1 {i off : Nat} {cs : Array Value} {v : Value} (hx : t.ev x = .agg cs) (hf : fieldOf P ty i = some (off, n, false)) (hv : cs[off]? = some v) : OQ P ⟨dst, .field ty x i, rt, pos, after, guard⟩ t m v := by
 intro ρ a w ht hm
 obtain ⟨cs', he, _, hc⟩ := (hx ▸ ht.ev x).agg_inv
 obtain ⟨fs, f, h1, h2, h3, h4, h5⟩ := fieldOf_spec hf
 obtain ⟨v', h6, h7⟩ := hc off v hv
 refine ⟨v', h7, fun w' _ => ?_⟩
 simp only [execOp, Instr.field, he, asAgg, part, Sem.run_bind, Sem.run_pure, Result.andThen_ok, run_und h1, h2, run_agg h5]
 simp [h3, h6, go_sem]
theorem OQ.fieldN {i off : Nat} {cs : Array Value} (hx : t.ev x = .agg cs) (hf : fieldOf P ty i = some (off, n, true)) : OQ P ⟨dst, .field ty x i, rt, pos, after, guard⟩ t m (.agg (cs.extract off (off + n))) := by
 intro ρ a w ht hm
 have hr := hx ▸ ht.ev x
 obtain ⟨cs', he, _, hc⟩ := hr.agg_inv
 obtain ⟨fs, f, h1, h2, h3, h4, h5⟩ := fieldOf_spec hf
 refine ⟨_, (he ▸ hr).agg_part off n, fun w' _ => ?_⟩
 simp only [execOp, Instr.field, he, asAgg, part, Sem.run_bind, Sem.run_pure, Result.andThen_ok, run_und h1, h2, run_agg h5, run_size h4]
 simp [h3, run_size h4, go_sem]
theorem OQ.idxArr1 {l : Nat} {cs : Array Value} {v : Value} (hx : t.ev x = .agg cs) (hy : t.ev y = .int k a) (hf : elemOf' P ty = some (some l, n, false)) (h0 : 0 ≤ a) (h1 : a < l) (hv : cs[a.toNat * n]? = some v) : OQ P ⟨dst, .index ty x y, rt, pos, after, guard⟩ t m v := by
 intro ρ a' w ht hm
 obtain ⟨cs', he, _, hc⟩ := (hx ▸ ht.ev x).agg_inv
 obtain ⟨e, e1, e2, e3⟩ := elemOf_array hf
 obtain ⟨v', h6, h7⟩ := hc _ v hv
 refine ⟨v', h7, fun w' _ => ?_⟩
 simp only [execOp, Instr.index, he, evi ht hy, asIntOf, part, Sem.run_bind, Sem.run_pure, Result.andThen_ok, run_und e1]
 simp [h0, h1, h6, go_sem, run_size e2, run_agg e3]
theorem OQ.idxArrN {l : Nat} {cs : Array Value} (hx : t.ev x = .agg cs) (hy : t.ev y = .int k a) (hf : elemOf' P ty = some (some l, n, true)) (h0 : 0 ≤ a) (h1 : a < l) : OQ P ⟨dst, .index ty x y, rt, pos, after, guard⟩ t m (.agg (cs.extract (a.toNat * n) (a.toNat * n + n))) := by
 intro ρ a' w ht hm
 have hr := hx ▸ ht.ev x
 obtain ⟨cs', he, _, hc⟩ := hr.agg_inv
 obtain ⟨e, e1, e2, e3⟩ := elemOf_array hf
 refine ⟨_, (he ▸ hr).agg_part _ n, fun w' _ => ?_⟩
 simp only [execOp, Instr.index, he, evi ht hy, asIntOf, part, Sem.run_bind, Sem.run_pure, Result.andThen_ok, run_und e1]
 simp [h0, h1, go_sem, run_size e2, run_agg e3]
theorem OQ.idxAddr {c : Nat} {g : Bool} (hx : t.ev x = .slice (some ⟨b, o, none⟩) n c) (hy : t.ev y = .int k a) {z : Nat} (hf : elemOf' P ty = some (none, z, g)) (h0 : 0 ≤ a) (h1 : a < n) : OQ P ⟨dst, .indexAddr ty x y, rt, pos, after, guard⟩ t m (.pointer (some ⟨b, o + a.toNat * z, none⟩)) := by
 intro ρ a' w ht hm
 obtain ⟨e, e1, e2, e3⟩ := elemOf_slice hf
 rcases (hx ▸ ht.ev x).slice_inv with ⟨pl, c', hp, _, _, _, he⟩ | ⟨hn, _⟩
 ·refine ⟨_, .ptr hp, fun w' _ => ?_⟩
  simp only [execOp, Instr.indexAt, he, evi ht hy, asIntOf, Sem.run_bind, Sem.run_pure, Result.andThen_ok, run_und e1]
  simp only [h0, h1, and_self, if_true, go_sem, Sem.run_bind, Sem.run_pure, Result.andThen_ok, run_size e2, Addr.add]
  by_cases hz : a.toNat * z = 0
  ·simp [hz, go_sem]
  ·simp [hz, go_sem, Nat.add_right_comm]
 ·omega
theorem OQ.idxPtr {l : Nat} {g : Bool} (hx : t.ev x = .pointer (some ⟨b, o, none⟩)) (hy : t.ev y = .int k a) (hf : elemOf' P ty = some (some l, n, g)) (h0 : 0 ≤ a) (h1 : a < l) : OQ P ⟨dst, .indexAddr ty x y, rt, pos, after, guard⟩ t m (.pointer (some ⟨b, o + a.toNat * n, none⟩)) := by
 intro ρ a' w ht hm
 obtain ⟨e, e1, e2, e3⟩ := elemOf_array hf
 obtain ⟨pl, hp, he⟩ := (hx ▸ ht.ev x).ptr_inv
 refine ⟨_, .ptr hp, fun w' _ => ?_⟩
 simp only [execOp, Instr.indexAt, he, evi ht hy, asIntOf, Instr.sureAddr, Sem.run_bind, Sem.run_pure, Result.andThen_ok, run_und e1]
 simp only [h0, h1, and_self, if_true, go_sem, Sem.run_bind, Sem.run_pure, Result.andThen_ok, run_size e2, Addr.add]
 by_cases hz : a.toNat * n = 0
 ·simp [hz, go_sem]
 ·simp [hz, go_sem, Nat.add_right_comm]
theorem OQ.extract {vs : Array Value} {i : Nat} {v : Value} (hx : t.ev x = .tuple vs) (hv : vs[i]? = some v) : OQ P ⟨dst, .extract x i, rt, pos, after, guard⟩ t m v := by
 intro ρ a w ht hm
 obtain ⟨vs', he, _, hc⟩ := (hx ▸ ht.ev x).tuple_inv
 obtain ⟨v', h6, h7⟩ := hc _ v hv
 exact ⟨v', h7, fun w' _ => by simp [execOp, Instr.extract, he, h6, Sem.run_bind, Sem.run_pure]⟩
theorem OQ.conv {k' : IntKind} {d : TypeDesc} (hx : t.ev x = .int k' a) (hs : P.underlying ty = some d) (hd : P.underlying ty' = some (.int k)) : OQ P ⟨dst, .convert ty ty' x, rt, pos, after, guard⟩ t m (.int k (k.wrap a)) :=
 fun ρ a' w ht _ => ⟨_, .scal rfl, fun _ _ => by simp [execOp, convert, evi ht hx, Conv.intToInt, Sem.run_bind, Sem.run_pure, run_und hs, run_und hd]⟩
theorem OQ.closed {oo : Oper} {r : Value} (hs : ∀ cs b, oo.op ≠ .select cs b) (hops : ∀ x ∈ oo.op.operands, flat (t.ev x) = true) (he : ∀ w, (execOp t.ev oo).run P w = .ok (.value r) w) (hr : flat r = true) : OQ P oo t m r :=
 fun ρ a w ht _ => ⟨r, .flat hr, fun w' _ => by
  rw [execOp_congr oo hs (ρ := a.eval) (ρ' := t.ev) (fun x hx => (ht.ev x).of_flat (hops x hx))]
  exact he w'⟩
end ops
end Ab
end Go
/- The small memory, part 3: walks. A state, operations in a row, code, loops, calls. -/
namespace Go
open Go.RowKit
namespace Ab
structure Env where
 W : World
 S : Nat → Prop
 ρ0 : Ren
 n0 : Nat
 hdom : ∀ b pl, ρ0 b = some pl → b < n0
structure St (E : Env) (ρ : Ren) (m : Mem) (w : World) : Prop where
 os : w.os = E.W.os
 tape : w.tape = E.W.tape
 output : w.output = E.W.output ∧ E.W.drawn ≤ w.drawn
 size : E.W.heap.size ≤ w.heap.size
 same : ∀ k, k < E.W.heap.size → ¬ E.S k → w.heap[k]? = E.W.heap[k]?
 ext : ∀ b, b < E.n0 → ρ b = E.ρ0 b
 len : E.n0 ≤ m.length
 dom : ∀ b pl, ρ b = some pl → b < m.length
 mem : MRel ρ m w
 fresh : ∀ b blk pl, m.at b = some blk → blk.own = true → ρ b = some pl → E.W.heap.size ≤ pl.blk ∨ E.S pl.blk
def GW (N0 : Nat) (W0 w : World) : Prop := N0 ≤ w.heap.size ∧ ∀ x, x < N0 → w.heap[x]? = W0.heap[x]?
def EW (N0 : Nat) (W0 : World) (E : Env) : Prop := GW N0 W0 E.W ∧ ∀ x, x < N0 → ¬ E.S x
theorem St.extE {E : Env} {ρ : Ren} {m : Mem} {w : World} (h : St E ρ m w) : Ext E.ρ0 ρ := fun b pl hb => (h.ext b (E.hdom b pl hb)).trans hb
abbrev Post := Exit → T → Mem → Prop
def lift (E : Env) (Q : Post) : Exit → Act → World → Prop := fun e a w => a.defers = [] ∧ ∃ ρ t m, Q e t m ∧ TRel ρ t a.tmps ∧ St E ρ m w
def AL (P : Program) (E : Env) (ops : Array Oper) (l : List Oper) (t : T) (m : Mem) (Q : Post) : Prop :=
 ∀ ρ a w, a.defers = [] → TRel ρ t a.tmps → St E ρ m w → wpList P ops (lift E Q) l a w
def AW (P : Program) (E : Env) (c : Code) (t : T) (m : Mem) (Q : Post) : Prop :=
 ∀ ρ a w, a.defers = [] → TRel ρ t a.tmps → St E ρ m w → c.wp P (lift E Q) a w
def OW (P : Program) (o : Oper) (t : T) (m : Mem) (v : Value) (m' : Mem) : Prop :=
 ∀ (E : Env) (ρ : Ren) (a : Act) (w : World), TRel ρ t a.tmps → St E ρ m w → ∃ v' w' ρ', ((execOp a.eval o).run P w = .ok (.value v') w' ∨ ((execOp a.eval o).run P w = .ok .skip w' ∧ v' = undef)) ∧ Ext ρ ρ' ∧ VRel ρ' v v' ∧ St E ρ' m' w'
def PCalls (P : Program) (f : FuncId) (args : List Value) (m : Mem) (v : Value) : Prop :=
 ∀ (ρ : Ren) (args' : Array Value) (w : World), (∀ b pl, ρ b = some pl → b < m.length) → VRel ρ (.tuple args.toArray) (.tuple args') → MRel ρ m w →
  Calls P f args' w fun e w' => ∃ v', e = .returned v' ∧ VRel ρ v v' ∧ Grw w.heap.size w w'
def ACalls (P : Program) (f : FuncId) (args : List Value) (m : Mem) (v : Value) (m' : Mem) : Prop :=
 ∀ (E : Env) (ρ : Ren) (args' : Array Value) (w : World), VRel ρ (.tuple args.toArray) (.tuple args') → St E ρ m w →
  Calls P f args' w fun e w' => ∃ v' ρ', e = .returned v' ∧ Ext ρ ρ' ∧ VRel ρ' v v' ∧ St E ρ' m' w'
theorem St.below {E : Env} {ρ : Ren} {m : Mem} {w w' : World} (h : St E ρ m w) (hb : Grw w.heap.size w w') : St E ρ m w' := by
 refine ⟨hb.os.trans h.os, hb.tape.trans h.tape, ⟨hb.output.1.trans h.output.1, Nat.le_trans h.output.2 hb.output.2⟩, Nat.le_trans h.size hb.size, fun k hk hs => (hb.block k (Nat.lt_of_lt_of_le hk h.size)).trans (h.same k hk hs), h.ext, h.len, h.dom, ?_, h.fresh⟩
 intro b blk hbk
 obtain ⟨pl, hp, ⟨x, c, ty, fr, hc, hx, h1, h2, h3⟩, h4⟩ := h.mem b blk hbk
 have hlt : pl.blk < w.heap.size := (Array.getElem?_eq_some_iff.1 hc).1
 exact ⟨pl, hp, ⟨x, c, ty, fr, (hb.block _ hlt).trans hc, hx, h1, h2, h3⟩, h4⟩
theorem PCalls.acalls {P : Program} {f : FuncId} {args : List Value} {m : Mem} {v : Value} (h : PCalls P f args m v) : ACalls P f args m v m :=
 fun E ρ args' w ha hs => (h ρ args' w hs.dom ha hs.mem).mono fun e w' ⟨v', he, hv, hb⟩ => ⟨v', ρ, he, .refl _, hv, hs.below hb⟩
def gdt (ops : Array Oper) (o : Oper) : Option (Nat × Bool) :=
 match o.guard with
 | none => none
 | some (j, want) => match (ops[j]?).bind (·.dst) with
  | some d => some (d, want)
  | none => none
section lists
variable {P : Program} {E : Env} {ops : Array Oper} {o : Oper} {rest : List Oper} {t : T} {m : Mem} {Q : Post}
theorem AL.nil (h : Q .normal t m) : AL P E ops [] t m Q := fun ρ _ _ hd ht hs => ⟨hd, ρ, t, m, h, ht, hs⟩
theorem put_defers (a : Act) (d : Option Tmp) (v : Value) : (a.put d v).defers = a.defers := by cases d <;> rfl
theorem AL.q {v : Value} (hg : o.guard = none) (h : OQ P o t m v) (hr : AL P E ops rest (t.put o.dst v) m Q) : AL P E ops (o :: rest) t m Q := by
 intro ρ a w hd ht hs
 obtain ⟨v', hv, hrun⟩ := h ρ a w ht hs.mem
 unfold wpList
 rw [if_pos (by simp [Region.wanted, hg])]
 left
 unfold Oper.wp
 rw [hrun w (Same.refl _ _ _)]
 exact hr ρ _ w (by rw [put_defers]; exact hd) (ht.put hv _) hs
theorem AL.w {v : Value} {m' : Mem} (hg : o.guard = none) (h : OW P o t m v m') (hr : AL P E ops rest (t.put o.dst v) m' Q) : AL P E ops (o :: rest) t m Q := by
 intro ρ a w hd ht hs
 obtain ⟨v', w', ρ', hrun, he, hv, hs'⟩ := h E ρ a w ht hs
 unfold wpList
 rw [if_pos (by simp [Region.wanted, hg])]
 left
 unfold Oper.wp
 rcases hrun with hrun | ⟨hrun, rfl⟩
 ·rw [hrun]
  exact hr ρ' _ w' (by rw [put_defers]; exact hd) ((ht.ext he).put hv _) hs'
 ·rw [hrun]
  exact hr ρ' _ w' (by rw [put_defers]; exact hd) ((ht.ext he).put hv _) hs'
theorem wanted_iff {d : Nat} {want c : Bool} {tmps : Array Value} (hg : gdt ops o = some (d, want)) (hc : tmps.getD d undef = .bool c) : Region.wanted o (yielded ops tmps) = (c == want) := by
 unfold gdt at hg
 unfold Region.wanted
 split at hg
 ·cases hg
 ·rename_i j w' hgu
  rw [hgu]
  split at hg
  ·rename_i d' hd'
   simp only [Option.some.injEq, Prod.mk.injEq] at hg
   obtain ⟨rfl, rfl⟩ := hg
   unfold yielded
   simp only [hd', Option.bind_some]
   rw [Array.getD_eq_getD_getElem?] at hc
   cases ht : tmps[d']? with
   | none => rw [ht] at hc; cases hc
   | some v => rw [ht] at hc; simp only [Option.getD_some] at hc; subst hc; simp
  ·cases hg
theorem AL.gcase {d : Nat} {want c : Bool} (hg : gdt ops o = some (d, want)) (hc : t.getD d undef = .bool c)
  (h1 : c = want → AL P E ops ({ o with guard := none } :: rest) t m Q) (h2 : c = !want → AL P E ops rest (t.put o.dst undef) m Q) : AL P E ops (o :: rest) t m Q := by
 intro ρ a w hd ht hs
 have hw := wanted_iff hg (VRel.bool (hc ▸ ht.get d))
 unfold wpList
 rw [hw]
 by_cases hcw : c = want
 ·have := h1 hcw ρ a w hd ht hs
  unfold wpList at this
  rw [if_pos (by simp [Region.wanted])] at this
  rw [if_pos (by simp [hcw])]
  exact this
 ·rw [if_neg (by simp [hcw])]
  exact h2 (by cases c <;> cases want <;> simp_all) ρ _ w (by rw [put_defers]; exact hd) (ht.put .undef _) hs
theorem AL.gskip {d : Nat} {want : Bool} (hg : gdt ops o = some (d, want)) (hc : t.getD d undef = .tuple #[]) (h2 : AL P E ops rest (t.put o.dst undef) m Q) : AL P E ops (o :: rest) t m Q := by
 intro ρ a w hd ht hs
 have hu : a.tmps.getD d undef = .tuple #[] := by
  have := hc ▸ ht.get d
  obtain ⟨xs', e, h1, _⟩ := this.tuple_inv
  rw [e]
  simp at h1
  have : xs' = #[] := Array.eq_empty_of_size_eq_zero h1.symm
  rw [this]
 have hw : Region.wanted o (yielded ops a.tmps) = false := by
  unfold gdt at hg
  unfold Region.wanted
  split at hg
  ·cases hg
  ·rename_i j w' hgu
   rw [hgu]
   split at hg
   ·rename_i d' hd'
    simp only [Option.some.injEq, Prod.mk.injEq] at hg
    obtain ⟨rfl, rfl⟩ := hg
    unfold yielded
    simp only [hd', Option.bind_some]
    rw [Array.getD_eq_getD_getElem?] at hu
    cases ht : a.tmps[d']? with
    | none => simp
    | some v => rw [ht] at hu; simp only [Option.getD_some] at hu; subst hu; simp
   ·cases hg
 unfold wpList
 rw [hw, if_neg (by simp)]
 exact h2 ρ _ w (by rw [put_defers]; exact hd) (ht.put .undef _) hs
def enters (P : Program) (f : FuncId) : Bool :=
 match P.funcs[f]? with
 | some fn => fn.name != "runtime.NumGoroutine" && fn.body.isSome
 | none => false
theorem run_callFunc {f : FuncId} {args : Array Value} {w : World} (h : enters P f = true) : (callFunc f args).run P w = .ok (.enter f args) w := by
 unfold enters at h
 split at h
 ·rename_i fn hf
  simp only [Bool.and_eq_true, bne_iff_ne, ne_eq] at h
  obtain ⟨h1, h2⟩ := h
  have h3 : ¬ fn.body = none := by intro e; simp [e] at h2
  simp [callFunc, program, Sem.run_bind, Sem.run, hf, h1, h3, Result.andThen_ok]
 ·cases h
theorem VRel.tuple_append {ρ : Ren} {xs ys xs' ys' : Array Value} (h1 : VRel ρ (.tuple xs) (.tuple xs')) (h2 : VRel ρ (.tuple ys) (.tuple ys')) : VRel ρ (.tuple (xs ++ ys)) (.tuple (xs' ++ ys')) := by
 cases h1 with
 | scal h => simp [Ab.scal] at h
 | tuple s1 f1 =>
  cases h2 with
  | scal h => simp [Ab.scal] at h
  | tuple s2 f2 =>
   refine .tuple (by simp [s1, s2]) fun i h h' => ?_
   simp only [Array.getElem_append]
   split
   ·rw [dif_pos (by omega)]; exact f1 _ _ _
   ·rw [dif_neg (by omega)]
    simp only [← s1]
    exact f2 _ _ _
theorem TRel.args {ρ : Ren} {a : Act} (ht : TRel ρ t a.tmps) (xs : Array Operand) : VRel ρ (.tuple (xs.toList.map t.ev).toArray) (.tuple (xs.map a.eval)) := by
 refine .tuple (by simp) fun i h h' => ?_
 simp only [List.getElem_toArray, List.getElem_map, Array.getElem_map, Array.getElem_toList]
 exact ht.ev _
theorem run_call {ρ : Ren} {a : Act} {w : World} {fo : Operand} {xs : Array Operand} {ats : Array TypeId} {dst : Option Tmp} {ty : TypeId} {pos : String} {after : Array Edge} {guard : Option (Nat × Bool)} {g : FuncId} {first cap : Array Value}
  (ht : TRel ρ t a.tmps) (hf : t.ev fo = .func (.func g) first cap) (he : enters P g = true) :
  ∃ args', (execOp a.eval ⟨dst, .call ⟨.value fo, xs, ats⟩, ty, pos, after, guard⟩).run P w = .ok (.enter g args') w ∧ VRel ρ (.tuple (first ++ (xs.toList.map t.ev).toArray ++ cap)) (.tuple args') := by
 obtain ⟨f', c', e, r1, r2⟩ := (hf ▸ ht.ev fo).func_inv
 refine ⟨f' ++ xs.map a.eval ++ c', ?_, .tuple_append (.tuple_append r1 (ht.args xs)) r2⟩
 simp [execOp, resolve, e, Deferred.ofValue, invoke, Sem.run_bind, Sem.run_pure, run_callFunc he]
theorem AL.acall {dst : Option Tmp} {fo : Operand} {xs : Array Operand} {ats : Array TypeId} {ty : TypeId} {pos : String} {after : Array Edge} {g : FuncId} {first cap : Array Value} {args : List Value} {v : Value} {m' : Mem}
  (hf : t.ev fo = .func (.func g) first cap) (he : enters P g = true) (ha : first.toList ++ xs.toList.map t.ev ++ cap.toList = args) (h : ACalls P g args m v m')
  (hr : AL P E ops rest (t.put dst v) m' Q) : AL P E ops (⟨dst, .call ⟨.value fo, xs, ats⟩, ty, pos, after, none⟩ :: rest) t m Q := by
 intro ρ a w hd ht hs
 obtain ⟨args', hrun, hargs⟩ := run_call (P := P) (w := w) (dst := dst) (ats := ats) (ty := ty) (pos := pos) (after := after) (guard := none) (xs := xs) ht hf he
 unfold wpList
 rw [if_pos (by simp [Region.wanted])]
 left
 unfold Oper.wp
 rw [hrun]
 show Calls P g args' w _
 refine (h E ρ args' w (by rw [← ha, show (first.toList ++ xs.toList.map t.ev ++ cap.toList).toArray = first ++ (xs.toList.map t.ev).toArray ++ cap by simp]; exact hargs) hs).mono ?_
 rintro e w' ⟨v', ρ', rfl, hext, hv, hs'⟩
 exact hr ρ' _ w' (by rw [put_defers]; exact hd) ((ht.ext hext).put hv _) hs'
theorem AL.pcall {dst : Option Tmp} {fo : Operand} {xs : Array Operand} {ats : Array TypeId} {ty : TypeId} {pos : String} {after : Array Edge} {g : FuncId} {first cap : Array Value} {args : List Value} {v : Value}
  (hf : t.ev fo = .func (.func g) first cap) (he : enters P g = true) (ha : first.toList ++ xs.toList.map t.ev ++ cap.toList = args) (h : PCalls P g args m v)
  (hr : AL P E ops rest (t.put dst v) m Q) : AL P E ops (⟨dst, .call ⟨.value fo, xs, ats⟩, ty, pos, after, none⟩ :: rest) t m Q :=
 AL.acall hf he ha h.acalls hr
end lists
def Then (N : T → Mem → Prop) (Q : Post) : Post
 | .normal, t, m => N t m
 | e, t, m => Q e t m
def InB (id : Nat) (Q : Post) : Post
 | .exit i, t, m => if i = id then Q .normal t m else Q (.exit i) t m
 | e, t, m => Q e t m
def Wk (E : Env) (t : T) (m : Mem) (t' : T) (m' : Mem) : Prop :=
 ∀ ρ tmps w, TRel ρ t tmps → St E ρ m w → ∃ ρ', TRel ρ' t' tmps ∧ St E ρ' m' w
section code
variable {P : Program} {E : Env} {t : T} {m : Mem} {Q : Post} {c d : Code}
theorem AW.skip (h : Q .normal t m) : AW P E .skip t m Q := fun ρ _ _ hd ht hs => wp_skip ⟨hd, ρ, t, m, h, ht, hs⟩
theorem AW.exit {id : Nat} (h : Q (.exit id) t m) : AW P E (.exit id) t m Q := fun ρ _ _ hd ht hs => wp_exit ⟨hd, ρ, t, m, h, ht, hs⟩
theorem AW.ret (h : Q .ret t m) : AW P E .ret t m Q := fun ρ _ _ hd ht hs => wp_ret ⟨hd, ρ, t, m, h, ht, hs⟩
theorem AW.seq (h : AW P E c t m (Then (fun t m => AW P E d t m Q) Q)) : AW P E (.seq c d) t m Q := by
 intro ρ a w hd ht hs
 refine wp_seq (wp_mono (h ρ a w hd ht hs) ?_)
 rintro e a' w' ⟨hd', ρ', t', m', hq, ht', hs'⟩
 cases e with
 | normal => exact hq ρ' a' w' hd' ht' hs'
 | exit id => exact ⟨hd', ρ', t', m', hq, ht', hs'⟩
 | goto l => exact ⟨hd', ρ', t', m', hq, ht', hs'⟩
 | ret => exact ⟨hd', ρ', t', m', hq, ht', hs'⟩
 | panic ch => exact ⟨hd', ρ', t', m', hq, ht', hs'⟩
 | outgrown => exact ⟨hd', ρ', t', m', hq, ht', hs'⟩
theorem AW.cond {x : Operand} {b : Bool} (hx : t.ev x = .bool b) (h1 : b = true → AW P E c t m Q) (h2 : b = false → AW P E d t m Q) : AW P E (.cond x c d) t m Q :=
 fun ρ a w hd ht hs => wp_cond_split (evb ht hx) (fun e => h1 e ρ a w hd ht hs) (fun e => h2 e ρ a w hd ht hs)
theorem AW.block {id : Nat} (h : AW P E c t m (InB id Q)) : AW P E (.block id c) t m Q := by
 intro ρ a w hd ht hs
 refine wp_block (wp_mono (h ρ a w hd ht hs) ?_)
 rintro e a' w' ⟨hd', ρ', t', m', hq, ht', hs'⟩
 cases e with
 | exit i =>
  simp only [Exit.inBlock, InB] at hq ⊢
  split
  ·rename_i h'; rw [if_pos h'] at hq; exact ⟨hd', ρ', t', m', hq, ht', hs'⟩
  ·rename_i h'; rw [if_neg h'] at hq; exact ⟨hd', ρ', t', m', hq, ht', hs'⟩
 | normal => exact ⟨hd', ρ', t', m', hq, ht', hs'⟩
 | goto l => exact ⟨hd', ρ', t', m', hq, ht', hs'⟩
 | ret => exact ⟨hd', ρ', t', m', hq, ht', hs'⟩
 | panic ch => exact ⟨hd', ρ', t', m', hq, ht', hs'⟩
 | outgrown => exact ⟨hd', ρ', t', m', hq, ht', hs'⟩
theorem AW.loop (I : Nat → T → Mem → Prop) (n₀ : Nat) (h₀ : I n₀ t m)
  (round : ∀ n t m, I n t m → AW P E c t m (Then (fun t' m' => ∃ n' t'' m'', n' < n ∧ Wk E t' m' t'' m'' ∧ I n' t'' m'') Q)) : AW P E (.loop c) t m Q := by
 intro ρ a w hd ht hs
 refine wp_loop_ghost (fun n a w => a.defers = [] ∧ ∃ ρ t m, I n t m ∧ TRel ρ t a.tmps ∧ St E ρ m w) n₀ ⟨hd, ρ, t, m, h₀, ht, hs⟩ ?_
 rintro n a w ⟨hd, ρ, t, m, hI, ht, hs⟩
 refine wp_mono (round n t m hI ρ a w hd ht hs) ?_
 rintro e a' w' ⟨hd', ρ', t', m', hq, ht', hs'⟩
 cases e with
 | normal =>
  obtain ⟨n', t'', m'', hn, hwk, hI'⟩ := hq
  obtain ⟨ρ'', ht'', hs''⟩ := hwk ρ' _ _ ht' hs'
  exact ⟨n', hn, hd', ρ'', t'', m'', hI', ht'', hs''⟩
 | exit id => exact ⟨hd', ρ', t', m', hq, ht', hs'⟩
 | goto l => exact ⟨hd', ρ', t', m', hq, ht', hs'⟩
 | ret => exact ⟨hd', ρ', t', m', hq, ht', hs'⟩
 | panic ch => exact ⟨hd', ρ', t', m', hq, ht', hs'⟩
 | outgrown => exact ⟨hd', ρ', t', m', hq, ht', hs'⟩
theorem AW.region {id : Nat} {l : List Oper} (h : AL P E l.toArray l t m Q) : AW P E (.region id l.toArray false) t m Q :=
 fun ρ a w hd ht hs => wp_region_lit (h ρ a w hd ht hs)
theorem AW.wk {t' : T} {m' : Mem} (hk : Wk E t m t' m') (h : AW P E c t' m' Q) : AW P E c t m Q := fun ρ a w hd ht hs => let ⟨ρ', ht', hs'⟩ := hk ρ _ _ ht hs; h ρ' a w hd ht' hs'
end code
inductive ResR (P : Program) (t : T) (m : Mem) : List ResultVar → List Value → Prop
 | nil : ResR P t m [] []
 | tmp {d : Nat} {v : Value} {rs : List ResultVar} {vs : List Value} (h : t.getD d undef = v) (hr : ResR P t m rs vs) : ResR P t m (.tmp d :: rs) (v :: vs)
 | cellN {d b o n : Nat} {ty : TypeId} {us : List Value} {rs : List ResultVar} {vs : List Value} (h : t.getD d undef = .pointer (some ⟨b, o, none⟩)) (ha : aggOf P ty = some true) (hz : szOf P ty = some n) (hl : m.ld b o n = some us) (hr : ResR P t m rs vs) : ResR P t m (.cell d ty :: rs) (.agg us.toArray :: vs)
 | cell1 {d b o : Nat} {ty : TypeId} {v : Value} {rs : List ResultVar} {vs : List Value} (h : t.getD d undef = .pointer (some ⟨b, o, none⟩)) (ha : aggOf P ty = some false) (hl : (m.at b).bind (·.cells[o]?) = some v) (hr : ResR P t m rs vs) : ResR P t m (.cell d ty :: rs) (v :: vs)
def pack : List Value → Value
 | [v] => v
 | vs => .tuple vs.toArray
def oldv (m : Mem) : Value → Bool
 | .pointer (some ⟨b, _, none⟩) => (m.at b).isSome
 | .map (some b) => (m.at b).isSome
 | .slice (some ⟨b, _, none⟩) _ _ => (m.at b).isSome
 | .slice (some _) n _ => n == 0
 | v => scal v
def oldv2 (m : Mem) : Value → Bool
 | .agg xs => xs.toList.all (oldv m)
 | .tuple xs => xs.toList.all (oldv m)
 | v => oldv m v
def oldv3 (m : Mem) : Value → Bool
 | .tuple xs => xs.toList.all (oldv2 m)
 | v => oldv2 m v
section old
variable {ρ ρ' : Ren} {m : Mem} {w : World}
theorem oldv_spec (he : Ext ρ ρ') (hm : MRel ρ m w) {v v' : Value} (h : VRel ρ' v v') (hv : oldv m v = true) : VRel ρ v v' := by
 have key : ∀ b pl, (m.at b).isSome = true → ρ' b = some pl → ρ b = some pl := fun b pl hs hp => by
  obtain ⟨blk, hb⟩ := Option.isSome_iff_exists.1 hs
  obtain ⟨pl', hp', _⟩ := hm b blk hb
  rw [he b pl' hp'] at hp
  exact hp ▸ hp'
 cases h with
 | jk => simp [oldv, Ab.scal] at hv
 | scal h => exact .scal h
 | ptr h => exact .ptr (key _ _ (by simpa [oldv] using hv) h)
 | map h => exact .map (key _ _ (by simpa [oldv] using hv) h)
 | slice h h1 h2 h3 => exact .slice (key _ _ (by simpa [oldv] using hv) h) h1 h2 h3
 | empty => exact .empty
 | lost => exact .lost
 | func => simp [oldv, Ab.scal] at hv
 | agg => simp [oldv, Ab.scal] at hv
 | tuple => simp [oldv, Ab.scal] at hv
theorem oldv2_spec (he : Ext ρ ρ') (hm : MRel ρ m w) {v v' : Value} (h : VRel ρ' v v') (hv : oldv2 m v = true) : VRel ρ v v' := by
 cases h with
 | agg h1 h3 => exact .agg h1 fun i hi hi' => oldv_spec he hm (h3 i hi hi') (List.all_eq_true.1 (by simpa only [oldv2] using hv) _ (by simp))
 | tuple h1 h3 => exact .tuple h1 fun i hi hi' => oldv_spec he hm (h3 i hi hi') (List.all_eq_true.1 (by simpa only [oldv2] using hv) _ (by simp))
 | scal h => exact .scal h
 | empty => exact .empty
 | lost => exact .lost
 | jk => simp [oldv2, oldv, Ab.scal] at hv
 | ptr h => exact oldv_spec he hm (.ptr h) hv
 | map h => exact oldv_spec he hm (.map h) hv
 | slice h h1 h2 h3 => exact oldv_spec he hm (.slice h h1 h2 h3) hv
 | func => simp [oldv2, oldv, Ab.scal] at hv
theorem oldv3_spec (he : Ext ρ ρ') (hm : MRel ρ m w) {v v' : Value} (h : VRel ρ' v v') (hv : oldv3 m v = true) : VRel ρ v v' := by
 cases h with
 | tuple h1 h3 => exact .tuple h1 fun i hi hi' => oldv2_spec he hm (h3 i hi hi') (List.all_eq_true.1 (by simpa only [oldv3] using hv) _ (by simp))
 | agg h1 h3 => exact oldv2_spec he hm (.agg h1 h3) hv
 | scal h => exact .scal h
 | empty => exact .empty
 | lost => exact .lost
 | jk => simp [oldv3, oldv2, oldv, Ab.scal] at hv
 | ptr h => exact oldv_spec he hm (.ptr h) hv
 | map h => exact oldv_spec he hm (.map h) hv
 | slice h h1 h2 h3 => exact oldv_spec he hm (.slice h h1 h2 h3) hv
 | func => simp [oldv3, oldv2, oldv, Ab.scal] at hv
end old
theorem mapM_rel {ρ : Ren} {t : T} {a : Act} (ht : TRel ρ t a.tmps) {m : Mem} {w : World} (hm : MRel ρ m w) {P : Program} {rs : List ResultVar} {vs : List Value} (h : ResR P t m rs vs) :
  ∃ vs', (rs.mapM (m := Sem) (fun r => match r with | .tmp d => pure (a.tmps.getD d undef) | .cell b ty => do loadVar ty (← asAddr (a.tmps.getD b undef)))).run P w = .ok vs' w ∧ vs.length = vs'.length ∧ ∀ (i : Nat) (v : Value), vs[i]? = some v → ∃ v', vs'[i]? = some v' ∧ VRel ρ v v' := by
 induction h with
 | nil => exact ⟨[], rfl, rfl, fun i v h => by simp at h⟩
 | @tmp d v rs vs h _ ih =>
  obtain ⟨us', h1, h2, h3⟩ := ih
  refine ⟨a.tmps.getD d undef :: us', ?_, by simp [h2], fun i u hu => ?_⟩
  ·rw [List.mapM_cons]
   simp only [Sem.run_bind, Sem.run_pure, Result.andThen_ok, h1]
  ·cases i with
   | zero => simp only [List.getElem?_cons_zero, Option.some.injEq] at hu ⊢; exact ⟨_, rfl, hu ▸ h ▸ ht.get d⟩
   | succ i => exact h3 i u (by simpa using hu)
 | @cellN d b o n ty us rs vs h ha hz hl _ ih =>
  obtain ⟨us', h1, h2, h3⟩ := ih
  obtain ⟨pl, hp, he⟩ := (h ▸ ht.get d).ptr_inv
  obtain ⟨g1, ws, g2, g3, g4⟩ := hm.cells (P := P) hl hp
  have g5 := g4 w (Same.refl _ _ _)
  unfold loadCells at g5
  refine ⟨.agg ws.toArray :: us', ?_, by simp [h2], fun i u hu => ?_⟩
  ·rw [List.mapM_cons]
   have e0 : (do loadVar ty (← asAddr (a.tmps.getD d undef)) : Sem Value).run P w = .ok (.agg ws.toArray) w := by
    simp only [he, asAddr, loadVar, Sem.run_bind, Sem.run_pure, Result.andThen_ok, run_agg ha]
    simp [go_sem, run_size hz, g5]
   rw [Sem.run_bind]
   erw [e0]
   simp only [Result.andThen_ok, Sem.run_bind, Sem.run_pure, h1]
  ·cases i with
   | zero =>
    simp only [List.getElem?_cons_zero, Option.some.injEq] at hu ⊢
    exact ⟨_, rfl, hu ▸ .agg_mk (by simp [g1, g2]) (fun i u hu => by simpa using g3 i u (by simpa using hu))⟩
   | succ i => exact h3 i u (by simpa using hu)
 | @cell1 d b o ty v rs vs h ha hl _ ih =>
  obtain ⟨us', h1, h2, h3⟩ := ih
  obtain ⟨pl, hp, he⟩ := (h ▸ ht.get d).ptr_inv
  cases hb : m.at b with
  | none => rw [hb] at hl; cases hl
  | some blk =>
   rw [hb] at hl
   obtain ⟨v', ⟨_, k1⟩, k2⟩ := hm.cell (Same.refl ρ m w) hb hp (show blk.cells[o]? = some v from hl)
   refine ⟨v' :: us', ?_, by simp [h2], fun i u hu => ?_⟩
   ·rw [List.mapM_cons]
    have e0 : (do loadVar ty (← asAddr (a.tmps.getD d undef)) : Sem Value).run P w = .ok v' w := by
     simp only [he, asAddr, loadVar, Sem.run_bind, Sem.run_pure, Result.andThen_ok, run_agg ha]
     simp [Sem.run, k1, load, go_sem]
    rw [Sem.run_bind]
    erw [e0]
    simp only [Result.andThen_ok, Sem.run_bind, Sem.run_pure, h1]
   ·cases i with
    | zero => simp only [List.getElem?_cons_zero, Option.some.injEq] at hu ⊢; exact ⟨_, rfl, hu ▸ k2⟩
    | succ i => exact h3 i u (by simpa using hu)
theorem run_results {ρ : Ren} {t : T} {a : Act} {m : Mem} {w : World} {P : Program} {fn : Func} {vs : List Value} (ht : TRel ρ t a.tmps) (hmm : MRel ρ m w) (hr : ResR P t m fn.results.toList vs) : ∃ v', (results fn a.tmps).run P w = .ok v' w ∧ VRel ρ (pack vs) v' := by
 obtain ⟨vs', h1, h2, h3⟩ := mapM_rel ht hmm hr
 have hrun : (fn.results.mapM (m := Sem) (fun r => match r with | .tmp d => pure (a.tmps.getD d undef) | .cell b ty => do loadVar ty (← asAddr (a.tmps.getD b undef)))).run P w = .ok vs'.toArray w := by
  rw [Array.mapM_eq_mapM_toList]
  rw [show (List.toArray <$> fn.results.toList.mapM (m := Sem) (fun r => match r with | .tmp d => pure (a.tmps.getD d undef) | .cell b ty => do loadVar ty (← asAddr (a.tmps.getD b undef)))) = (do let x ← fn.results.toList.mapM (m := Sem) (fun r => match r with | .tmp d => pure (a.tmps.getD d undef) | .cell b ty => do loadVar ty (← asAddr (a.tmps.getD b undef))); pure x.toArray) from rfl]
  rw [Sem.run_bind, h1]
  rfl
 unfold results
 rw [Sem.run_bind]
 erw [hrun]
 simp only [Result.andThen_ok, Sem.run_pure]
 rcases vs with _ | ⟨y1, _ | ⟨y2, ys⟩⟩
 ·have : vs' = [] := List.eq_nil_of_length_eq_zero h2.symm
  subst this
  exact ⟨_, rfl, .tuple rfl fun i h => by simp at h⟩
 ·rcases vs' with _ | ⟨z1, _ | ⟨z2, zs⟩⟩
  ·simp at h2
  ·obtain ⟨u, e, r⟩ := h3 0 y1 rfl
   cases Option.some.inj e
   exact ⟨_, rfl, r⟩
  ·simp at h2
 ·refine ⟨.tuple vs'.toArray, ?_, ?_⟩
  ·rw [dif_neg (by simp at h2 ⊢; omega)]
  ·refine .tuple (by simpa using h2) fun i h h' => ?_
   obtain ⟨u, e, r⟩ := h3 i (y1 :: y2 :: ys)[i] (List.getElem?_eq_getElem (by simpa using h))
   rw [List.getElem?_eq_getElem (by simpa using h')] at e
   cases Option.some.inj e
   simpa using r
def FinP (P : Program) (fn : Func) (m : Mem) (v : Value) : Post := fun e t m' => (e = .ret ∨ e = .normal) ∧ (∃ vs, ResR P t m' fn.results.toList vs ∧ pack vs = v) ∧ oldv3 m v = true
def Mem.ro (m : Mem) : Prop := ∀ b blk, m.at b = some blk → blk.own = false
theorem PCalls.body {P : Program} {f : FuncId} {fn : Func} {c : Code} {args : List Value} {m : Mem} {v : Value} (hf : P.funcs[f]? = some fn) (hb : fn.body = some c) (hro : m.ro)
  (h : ∀ E, AW P E c (args ++ List.replicate (fn.ntmps - args.length) undef) m (FinP P fn m v)) : PCalls P f args m v := by
 intro ρ args' w hdom ha hm
 refine calls_of_wp hf hb ?_
 have hsz : args.length = args'.size := by
  obtain ⟨xs', e, h1, _⟩ := ha.tuple_inv
  cases e
  simpa using h1
 refine wp_mono (h ⟨w, fun _ => False, ρ, m.length, hdom⟩ ρ _ w rfl ?_ ?_) ?_
 ·refine ⟨by simp [hsz], fun i u hu => ?_⟩
  obtain ⟨xs', e, h1, h2⟩ := ha.tuple_inv
  cases e
  simp only at hu ⊢
  rw [List.getElem?_append] at hu
  rw [Array.getElem?_append]
  split at hu
  ·rename_i hi
   rw [if_pos (by omega)]
   exact h2 i u (by simpa using hu)
  ·rename_i hi
   rw [if_neg (by omega)]
   rw [← hsz]
   rw [List.getElem?_replicate] at hu
   split at hu
   ·rename_i hi'
    cases Option.some.inj hu
    exact ⟨undef, by simp [hi'], .undef⟩
   ·cases hu
 ·exact ⟨rfl, rfl, ⟨rfl, Nat.le_refl _⟩, Nat.le_refl _, fun _ _ _ => rfl, fun _ _ => rfl, Nat.le_refl _, hdom, hm, fun b blk pl hb ho => by rw [hro b blk hb] at ho; cases ho⟩
 ·rintro e a w' ⟨hd, ρ', t', m', ⟨he, ⟨vs, hr, rfl⟩, hold⟩, ht, hs⟩
  obtain ⟨v', hrun, hv⟩ := run_results (P := P) (w := w') ht hs.mem hr
  have hv' := oldv3_spec hs.extE hm hv hold
  have hbelow : Grw w.heap.size w w' := ⟨hs.os, hs.tape, hs.output, hs.size, fun k hk => hs.same k hk (fun h => h)⟩
  rcases he with rfl | rfl
  ·exact bodyPost_ret hrun hd ⟨v', rfl, hv', hbelow⟩
  ·exact bodyPost_end hrun hd ⟨v', rfl, hv', hbelow⟩
end Ab
end Go
/- The small memory, part 4: new variables, stores; a contract carried into a greater memory. -/
namespace Go
open Go.RowKit
namespace Ab
theorem World.alloc_get (w : World) (o : Obj) (k : Nat) : (w.alloc o).heap[k]? = if k = w.heap.size then some o else w.heap[k]? := by
 show (w.heap.push o)[k]? = _
 rw [Array.getElem?_push]
def Ren.new (ρ : Ren) (b : Nat) (pl : Pl) : Ren := fun k => if k = b then some pl else ρ k
theorem St.ext_new {E : Env} {ρ : Ren} {m : Mem} {w : World} (h : St E ρ m w) (pl : Pl) : Ext ρ (ρ.new m.length pl) := fun b pl' hb => by
 have := h.dom b pl' hb
 unfold Ren.new
 rw [if_neg (by omega)]
 exact hb
theorem St.ext_keep {E : Env} {ρ : Ren} {m : Mem} {w : World} (h : St E ρ m w) (pl : Pl) : ∀ b, b < E.n0 → (ρ.new m.length pl) b = E.ρ0 b := fun b hb => by
 have := h.len
 unfold Ren.new
 rw [if_neg (by omega)]
 exact h.ext b hb
theorem BRel.ext {ρ ρ' : Ren} {blk : Blk} {pl : Pl} {w w' : World} (he : Ext ρ ρ') (h : BRel ρ blk pl w) (hw : w'.heap[pl.blk]? = w.heap[pl.blk]?) : BRel ρ' blk pl w' := by
 obtain ⟨x, c, ty, fr, hc, hx, h1, h2, h3⟩ := h
 exact ⟨x, c, ty, fr, hw.trans hc, hx.ext he, h1, fun i v hv => let ⟨v', a, b⟩ := h2 i v hv; ⟨v', a, b.ext he⟩, h3⟩
theorem BRel.lt {ρ : Ren} {blk : Blk} {pl : Pl} {w : World} (h : BRel ρ blk pl w) : pl.blk < w.heap.size := by
 obtain ⟨x, c, ty, fr, hc, _⟩ := h
 exact (Array.getElem?_eq_some_iff.1 hc).1
theorem Mem.at_lt {m : Mem} {b : Nat} {blk : Blk} (h : m.at b = some blk) : b < m.length := by
 unfold Mem.at at h
 rcases Nat.lt_or_ge b m.length with h' | h'
 ·exact h'
 ·rw [List.getD_eq_getElem?_getD, List.getElem?_eq_none h'] at h; cases h
theorem Mem.at_snoc {m : Mem} {o : Option Blk} {b : Nat} : Mem.at (m ++ [o]) b = if b = m.length then o else m.at b := by
 unfold Mem.at
 rw [List.getD_eq_getElem?_getD, List.getD_eq_getElem?_getD, List.getElem?_append]
 by_cases h : b < m.length
 ·rw [if_pos h, if_neg (by omega)]
 ·rw [if_neg h]
  by_cases h' : b = m.length
  ·simp [h']
  ·rw [if_neg h', List.getElem?_eq_none (l := [o]) (by simp; omega), List.getElem?_eq_none (by omega)]
theorem St.new {E : Env} {ρ : Ren} {m : Mem} {w : World} (h : St E ρ m w) {c : Array Value} {ty : TypeId} {cells : List Value} {esz : Nat}
  (hc : ∀ (i : Nat) (v : Value), cells[i]? = some v → ∃ v', c[i]? = some v' ∧ VRel ρ v v') :
  St E (ρ.new m.length ⟨w.heap.size, 0, esz, c.size⟩) (m ++ [some ⟨cells, true, esz⟩]) (w.alloc (.cells c ty)) := by
 have he := h.ext_new ⟨w.heap.size, 0, esz, c.size⟩
 refine ⟨h.os, h.tape, h.output, Nat.le_trans h.size (by simp), fun k hk hs => ?_, h.ext_keep _, by have := h.len; simp; omega, fun b pl hb => ?_, ?_, ?_⟩
 ·rw [World.alloc_get, if_neg (by have := h.size; omega)]
  exact h.same k hk hs
 ·unfold Ren.new at hb
  split at hb
  ·simp; omega
  ·have := h.dom b pl hb
   simp; omega
 ·intro b blk hb
  rw [Mem.at_snoc] at hb
  split at hb
  ·rename_i hbm
   cases Option.some.inj hb
   refine ⟨⟨w.heap.size, 0, esz, c.size⟩, by simp [Ren.new, hbm], ⟨.cells c ty, c, ty, (0, 0), by rw [World.alloc_get]; simp, rfl, rfl, fun i v hv => ?_, fun _ => ⟨rfl, rfl, rfl⟩⟩, ?_⟩
   ·obtain ⟨v', h1, h2⟩ := hc i v hv
    exact ⟨v', by simpa using h1, h2.ext he⟩
   ·intro _ b' blk' pl' hne hb' hp'
    rw [Mem.at_snoc, if_neg (by omega)] at hb'
    obtain ⟨pl, hp, hbr, _⟩ := h.mem b' blk' hb'
    unfold Ren.new at hp'
    rw [if_neg (by omega), hp] at hp'
    cases Option.some.inj hp'
    have := hbr.lt
    simp only
    omega
  ·rename_i hbm
   obtain ⟨pl, hp, hbr, hown⟩ := h.mem b blk hb
   have hlt := hbr.lt
   refine ⟨pl, he b pl hp, hbr.ext he (by rw [World.alloc_get, if_neg (by omega)]), fun ho b' blk' pl' hne hb' hp' => ?_⟩
   rw [Mem.at_snoc] at hb'
   unfold Ren.new at hp'
   split at hb'
   ·rename_i hbm'
    rw [if_pos hbm'] at hp'
    cases Option.some.inj hp'
    simp only
    omega
   ·rename_i hbm'
    rw [if_neg hbm'] at hp'
    exact hown ho b' blk' pl' hne hb' hp'
 ·intro b blk pl hb ho hp
  rw [Mem.at_snoc] at hb
  unfold Ren.new at hp
  split at hb
  ·rename_i hbm
   rw [if_pos hbm] at hp
   cases Option.some.inj hp
   exact .inl h.size
  ·rename_i hbm
   rw [if_neg hbm] at hp
   exact h.fresh b blk pl hb ho hp
def zeroOf (P : Program) (ty : TypeId) : Option (List Value) := ((P.info? ty).bind fun i => i.zero.map (·.cells)).map (·.toList)
theorem run_zero {P : Program} {ty : TypeId} {z : List Value} {w : World} (h : zeroOf P ty = some z) : ∃ zv, (zeroValue ty).run P w = .ok zv w ∧ zv.cells = z.toArray := by
 unfold zeroOf at h
 cases hi : P.info? ty with
 | none => rw [hi] at h; cases h
 | some inf =>
  rw [hi] at h
  cases hz : inf.zero with
  | none => simp [hz] at h
  | some zv =>
   simp [hz] at h
   refine ⟨zv, ?_, by rw [← h]⟩
   simp [zeroValue, typeInfo, hi, hz, go_sem]
theorem VRel.cells {ρ : Ren} {v v' : Value} (h : VRel ρ v v') (hj : ∀ r, v ≠ .chan r) : v.cells.size = v'.cells.size ∧ ∀ (i : Nat) (u : Value), v.cells[i]? = some u → ∃ u', v'.cells[i]? = some u' ∧ VRel ρ u u' := by
 have single : v.cells = #[v] → v'.cells = #[v'] → v.cells.size = v'.cells.size ∧ ∀ (i : Nat) (u : Value), v.cells[i]? = some u → ∃ u', v'.cells[i]? = some u' ∧ VRel ρ u u' := by
  intro h1 h2
  rw [h1, h2]
  refine ⟨rfl, fun i u hu => ?_⟩
  obtain ⟨hi, he⟩ := Array.getElem?_eq_some_iff.1 hu
  simp at hi
  subst hi
  simp at he
  subst he
  exact ⟨v', rfl, h⟩
 cases h with
 | jk => exact absurd rfl (hj _)
 | agg h1 h3 =>
  refine ⟨h1, fun i u hu => ?_⟩
  simp only [Value.cells] at hu ⊢
  obtain ⟨hi, he⟩ := Array.getElem?_eq_some_iff.1 hu
  have hi' := hi
  rw [h1] at hi'
  exact ⟨_, by simp [hi'], he ▸ h3 i hi hi'⟩
 | scal hs => exact single (by cases v <;> first | rfl | (simp [Ab.scal] at hs)) (by cases v <;> first | rfl | (simp [Ab.scal] at hs))
 | ptr _ => exact single rfl rfl
 | map _ => exact single rfl rfl
 | slice _ _ _ _ => exact single rfl rfl
 | empty => exact single rfl rfl
 | lost => exact single rfl rfl
 | func _ _ _ _ => exact single rfl rfl
 | tuple _ _ => exact single rfl rfl
def one : Value → Bool
 | .agg _ | .tuple _ | .chan _ => false
 | _ => true
theorem VRel.one {ρ : Ren} {v v' : Value} (h : VRel ρ v v') (ho : Ab.one v = true) : v'.oneCell' = true := by
 cases h <;> first | rfl | (simp [Ab.one] at ho)
 rename_i hs
 cases v <;> first | rfl | (simp [Ab.one] at ho)
def putAt : List Value → Nat → List Value → List Value
 | cs, _, [] => cs
 | cs, o, v :: vs => putAt (cs.set o v) (o + 1) vs
theorem putAt_length : ∀ (vs cs : List Value) (o : Nat), (putAt cs o vs).length = cs.length
 | [], _, _ => rfl
 | v :: vs, cs, o => by rw [putAt, putAt_length vs]; simp
theorem putAt_get : ∀ (vs cs : List Value) (o i : Nat), (putAt cs o vs)[i]? = if o ≤ i ∧ i < o + vs.length ∧ i < cs.length then vs[i - o]? else cs[i]?
 | [], cs, o, i => by rw [putAt, if_neg (by simp; omega)]
 | v :: vs, cs, o, i => by
  rw [putAt, putAt_get vs]
  simp only [List.length_set, List.length_cons, List.getElem?_set]
  by_cases h0 : o = i
  ·subst h0
   by_cases h1 : o < cs.length
   ·rw [if_neg (by omega), if_pos rfl, if_pos h1, if_pos (by omega)]; simp
   ·rw [if_neg (by omega), if_pos rfl, if_neg h1, if_neg (by omega)]
    rw [List.getElem?_eq_none (by omega)]
  ·rw [if_neg h0]
   by_cases h1 : o + 1 ≤ i ∧ i < o + 1 + vs.length ∧ i < cs.length
   ·rw [if_pos h1, if_pos (by omega)]
    rw [show i - o = (i - (o + 1)) + 1 by omega]; simp
   ·rw [if_neg h1, if_neg (by omega)]
theorem run_stores {P : Program} (g o : Nat) (ty : TypeId) (fr : Nat × Nat) : ∀ (vs : List Value) (i : Nat) (c : Array Value) (w : World), w.heap[g]? = some (.cells c ty fr) → (∀ j, j < c.size → ¬ (fr.1 ≤ j ∧ j < fr.2)) → o + i + vs.length ≤ c.size → (∀ v ∈ vs, v.oneCell' = true) →
  ∃ w', (storeCells ⟨g, o, none⟩ vs i).run P w = .ok () w' ∧ w'.heap[g]? = some (.cells (putAt c.toList (o + i) vs).toArray ty fr) ∧ (∀ k, k ≠ g → w'.heap[k]? = w.heap[k]?) ∧ w'.heap.size = w.heap.size ∧ w'.os = w.os ∧ w'.tape = w.tape ∧ (w'.output = w.output ∧ w.drawn ≤ w'.drawn)
 | [], i, c, w, hg, _, _, _ => ⟨w, rfl, by simpa [putAt] using hg, fun _ _ => rfl, rfl, rfl, rfl, ⟨rfl, Nat.le_refl _⟩⟩
 | v :: vs, i, c, w, hg, hfr, hle, h1 => by
  have hi : o + i < c.size := by simp at hle; omega
  have hadd : (⟨g, o, none⟩ : Addr).add i = ⟨g, o + i, none⟩ := by
   unfold Addr.add
   split
   ·rename_i h0; subst h0; rfl
   ·rfl
  have hcell : w.cell? ⟨g, o + i, none⟩ = some c[o + i] := by simp [World.cell?, hg, hi]
  have hfz : w.frozen? ⟨g, o + i, none⟩ = false := by
   have := hfr (o + i) hi
   simp only [World.frozen?, hg]
   simpa using this
  have hset : (w.setCell ⟨g, o + i, none⟩ v).heap[g]? = some (.cells (c.setIfInBounds (o + i) v) ty fr) := by
   simp [World.setCell, Array.getElem?_modify, hg]
  obtain ⟨w', h2, h3, h4, h5, h6, h7, h8⟩ := run_stores (P := P) g o ty fr vs (i + 1) (c.setIfInBounds (o + i) v) (w.setCell ⟨g, o + i, none⟩ v) hset (by simpa using hfr) (by simp at hle ⊢; omega) (fun u hu => h1 u (by simp [hu]))
  refine ⟨w', ?_, ?_, fun k hk => (h4 k hk).trans ?_, h5.trans (by simp [World.setCell]), h6, h7, h8⟩
  ·unfold storeCells
   have hone := h1 v (by simp)
   rw [Sem.run_bind, hadd]
   have hst : (store ⟨g, o + i, none⟩ v).run P w = .ok () (w.setCell ⟨g, o + i, none⟩ v) := by
    unfold store
    cases v <;> first | (simp [Value.oneCell'] at hone; done) | simp [Sem.run, hcell, hfz]
   rw [hst]
   exact h2
  ·rw [h3]; simp [putAt, Nat.add_assoc]
  ·exact Below.heap_setCell _ _ _ _ hk
section ops
variable {P : Program} {t : T} {m : Mem} {dst : Option Tmp} {ty ty' rt : TypeId} {pos : String} {after : Array Edge} {guard : Option (Nat × Bool)} {x y : Operand}
theorem OW.alloc {z : List Value} (hz : zeroOf P ty = some z) (hs : z.all scal = true) : OW P ⟨dst, .alloc ty, rt, pos, after, guard⟩ t m (.pointer (some ⟨m.length, 0, none⟩)) (m ++ [some ⟨z, true, 0⟩]) := by
 intro E ρ a w ht hst
 obtain ⟨zv, h1, h2⟩ := run_zero (w := w) hz
 refine ⟨_, _, _, .inl ?_, hst.ext_new ⟨w.heap.size, 0, 0, z.toArray.size⟩, .ptr (b := m.length) (o := 0) (by simp [Ren.new]; rfl), hst.new (ty := ty) (c := z.toArray) fun i v hv => ⟨v, by simpa using hv, .scal (List.all_eq_true.1 hs v (List.mem_of_getElem? hv))⟩⟩
 simp only [execOp, Instr.alloc, Sem.run_bind, h1, Result.andThen_ok, newVar, newRow, h2]
 simp [go_sem]
theorem OW.box {v : Value} (hx : t.ev x = v) (hj : ∀ r, v ≠ .chan r) : OW P ⟨dst, .box ty x, rt, pos, after, guard⟩ t m (.pointer (some ⟨m.length, 0, none⟩)) (m ++ [some ⟨v.cells.toList, true, 0⟩]) := by
 intro E ρ a w ht hst
 obtain ⟨h1, h2⟩ := (hx ▸ ht.ev x).cells hj
 refine ⟨_, _, _, .inl ?_, hst.ext_new ⟨w.heap.size, 0, 0, (a.eval x).cells.size⟩, .ptr (b := m.length) (o := 0) (by simp [Ren.new]; rfl), hst.new (ty := ty) (c := (a.eval x).cells) fun i u hu => h2 i u (by simpa using hu)⟩
 simp only [execOp, Instr.box, newVar, newRow, Sem.run_bind]
 simp [go_sem]
theorem Mem.at_set {m : Mem} {o : Option Blk} {b k : Nat} (hb : b < m.length) : Mem.at (m.set b o) k = if k = b then o else m.at k := by
 unfold Mem.at
 rw [List.getD_eq_getElem?_getD, List.getD_eq_getElem?_getD, List.getElem?_set]
 by_cases h : b = k
 ·subst h; simp [hb]
 ·rw [if_neg h, if_neg (Ne.symm h)]
theorem St.store {E : Env} {ρ : Ren} {w w' : World} {b : Nat} {blk : Blk} {pl : Pl} {cs' : List Value} (h : St E ρ m w) (hb : m.at b = some blk) (ho : blk.own = true) (hp : ρ b = some pl)
  {c c' : Array Value} {ty : TypeId} {fr : Nat × Nat} (hc : w.heap[pl.blk]? = some (.cells c ty fr)) (hc' : w'.heap[pl.blk]? = some (.cells c' ty fr)) (hsz : c'.size = c.size)
  (hcell : ∀ (i : Nat) (v : Value), cs'[i]? = some v → ∃ v', c'[i + pl.sh]? = some v' ∧ VRel ρ v v')
  (hfar : ∀ k, k ≠ pl.blk → w'.heap[k]? = w.heap[k]?) (hs : w'.heap.size = w.heap.size) (h1 : w'.os = w.os) (h2 : w'.tape = w.tape) (h3 : w'.output = w.output ∧ w.drawn ≤ w'.drawn) :
  St E ρ (m.set b (some { blk with cells := cs' })) w' := by
 have hlt := Mem.at_lt hb
 refine ⟨h1.trans h.os, h2.trans h.tape, ⟨h3.1.trans h.output.1, Nat.le_trans h.output.2 h3.2⟩, by rw [hs]; exact h.size, fun k hk hks => ?_, h.ext, by simpa using h.len, fun b pl hb => by simpa using h.dom b pl hb, ?_, ?_⟩
 ·rw [hfar k ?_]
  ·exact h.same k hk hks
  ·rintro rfl
   rcases h.fresh b blk pl hb ho hp with hf | hf
   ·omega
   ·exact hks hf
 ·intro k bk hk
  rw [Mem.at_set hlt] at hk
  split at hk
  ·rename_i hkb
   subst hkb
   cases Option.some.inj hk
   obtain ⟨pl', hp', ⟨x0, c0, ty0, fr0, hc0, hx0, e1, e2, e3⟩, hown⟩ := h.mem k blk hb
   cases Option.some.inj (hp'.symm.trans hp)
   rw [hc] at hc0
   cases Option.some.inj hc0
   obtain ⟨ho0, rfl, rfl, rfl⟩ := hx0.plain
   refine ⟨pl, hp, ⟨_, c', _, _, hc', by show IsRow ρ blk.obj.o _ _ _ _; rw [ho0]; rfl, e1, hcell, fun ho => ?_⟩, fun ho b' blk' pl' hne hb' hp' => ?_⟩
   ·obtain ⟨g0, g1, g2⟩ := e3 ho
    exact ⟨g0, by rw [hsz]; exact g1, g2⟩
   ·rw [Mem.at_set hlt, if_neg hne] at hb'
    exact hown ho b' blk' pl' hne hb' hp'
  ·rename_i hkb
   obtain ⟨pl', hp', hbr, hown⟩ := h.mem k bk hk
   obtain ⟨pl0, hp0, _, hown0⟩ := h.mem b blk hb
   cases Option.some.inj (hp0.symm.trans hp)
   have hne : pl'.blk ≠ pl.blk := hown0 ho k bk pl' hkb hk hp'
   refine ⟨pl', hp', hbr.ext (.refl _) (hfar _ hne), fun ho' b' blk' pl'' hne' hb' hp'' => ?_⟩
   rw [Mem.at_set hlt] at hb'
   split at hb'
   ·rename_i hbb
    subst hbb
    rw [hp] at hp''
    cases Option.some.inj hp''
    exact Ne.symm hne
   ·exact hown ho' b' blk' pl'' hne' hb' hp''
 ·intro k bk pl' hk hko hkp
  rw [Mem.at_set hlt] at hk
  split at hk
  ·rename_i hkb
   subst hkb
   rw [hp] at hkp
   cases Option.some.inj hkp
   exact h.fresh k blk pl hb ho hp
  ·exact h.fresh k bk pl' hk hko hkp
theorem OW.store {b o n : Nat} {blk : Blk} {v : Value} {vs : List Value} (hx : t.ev x = .pointer (some ⟨b, o, none⟩)) (hy : t.ev y = v) (hb : m.at b = some blk) (ho : blk.own = true) (hz : szOf P ty = some n) (hv : v.cells.toList = vs)
  (hn : vs.length = n) (hn0 : n ≠ 0) (h1 : vs.all one = true) (hle : o + n ≤ blk.cells.length) (hj : ∀ r, v ≠ .chan r) :
  OW P ⟨dst, .store ty x y, rt, pos, after, guard⟩ t m undef (m.set b (some { blk with cells := putAt blk.cells o vs })) := by
 intro E ρ a w ht hst
 obtain ⟨pl, hp, he⟩ := (hx ▸ ht.ev x).ptr_inv
 obtain ⟨g1, g2⟩ := (hy ▸ ht.ev y).cells hj
 obtain ⟨pl', hp', hbr, _⟩ := hst.mem b blk hb
 obtain ⟨c, ty', fr, hc, e1, e2, e3⟩ := hbr.row (.inr ⟨o, _, List.getElem?_eq_getElem (show o < blk.cells.length by omega)⟩)
 cases Option.some.inj (hp'.symm.trans hp)
 obtain ⟨-, f1, f2⟩ := e3 ho
 subst f2
 have hsz : (a.eval y).cells.size = n := by rw [← g1, ← hn, ← hv]; simp
 have hroom : o + pl.sh + n ≤ c.size := by
  have h0 : 0 < n := Nat.pos_of_ne_zero hn0
  obtain ⟨v', hv', _⟩ := e2 (o + n - 1) _ (List.getElem?_eq_getElem (by omega))
  obtain ⟨hi, _⟩ := Array.getElem?_eq_some_iff.1 hv'
  omega
 have hones : ∀ u ∈ (a.eval y).cells.toList, u.oneCell' = true := by
  intro u hu
  obtain ⟨i, hi, hiu⟩ := List.mem_iff_getElem.1 hu
  have hi' : i < vs.length := by simp at hi; omega
  obtain ⟨u', h3, h4⟩ := g2 i vs[i] (by rw [← Array.getElem?_toList, hv]; simp [hi'])
  rw [Array.getElem?_eq_getElem (by simpa using hi)] at h3
  have := h4.one (List.all_eq_true.1 h1 _ (List.getElem_mem hi'))
  rw [← Option.some.inj h3] at this
  rw [← hiu]
  simpa using this
 obtain ⟨w', r1, r2, r3, r4, r5, r6, r7⟩ := run_stores (P := P) pl.blk (o + pl.sh) ty' (0, 0) (a.eval y).cells.toList 0 c w hc (fun j _ => by simp) (by simp; omega) hones
 refine ⟨undef, w', ρ, .inr ⟨?_, rfl⟩, .refl _, .undef, hst.store hb ho hp hc r2 (by simp [putAt_length]) ?_ r3 r4 r5 r6 r7⟩
 ·simp only [execOp, Instr.storeAt, he, Instr.sureAddr, storeVar, Sem.run_bind, Sem.run_pure, Result.andThen_ok, run_size hz]
  simp only [hsz, ne_eq, not_true_eq_false, if_false, Sem.run_bind, Sem.run_pure, Result.andThen_ok, r1]
 ·intro i u hu
  rw [putAt_get] at hu
  rw [List.getElem?_toArray, putAt_get]
  simp only [Nat.add_zero, Array.length_toList]
  by_cases hin : o ≤ i ∧ i < o + vs.length ∧ i < blk.cells.length
  ·rw [if_pos hin] at hu
   rw [if_pos (by omega), show i + pl.sh - (o + pl.sh) = i - o by omega]
   obtain ⟨u', h3, h4⟩ := g2 (i - o) u (by rw [← Array.getElem?_toList, hv]; exact hu)
   exact ⟨u', by simpa using h3, h4⟩
  ·rw [if_neg hin] at hu
   have hil : i < blk.cells.length := by
    rcases Nat.lt_or_ge i blk.cells.length with h' | h'
    ·exact h'
    ·rw [List.getElem?_eq_none h'] at hu; cases hu
   rw [if_neg (by simp; omega)]
   obtain ⟨u', h3, h4⟩ := e2 i u hu
   exact ⟨u', by simpa using h3, h4⟩
end ops
end Ab
end Go
/- The small memory, part 5: regions that draw their order. -/
namespace Go
open Go.RowKit
namespace Ab
def isJ : Value → Bool | .chan _ => true | _ => false
structure New where
 j : Nat
 d : Nat
 ty : TypeId
 z : List Value
 cells : List Value
 fresh : Bool
section
variable {P : Program} {E : Env} {l : List Oper} {b : Array Nat} {n : Nat} {m : Mem} {Q : Post} {o : Oper} {ops : List Oper} {i : Nat} {t : T} {news : List New}
def setsT (t : T) (k : Nat) : List New → T
 | [] => t
 | nw :: ns => setsT (t.set nw.d (.pointer (some ⟨k, 0, none⟩))) (k + 1) ns
def newBlks (news : List New) : Mem := news.map fun nw => some ⟨nw.cells, true, 0⟩
end
end Ab
end Go
/- The small memory, part 6: sums that keep within int; building, lengths, slices; contracts carried on. -/
namespace Go
open Go.RowKit
namespace Ab
theorem wrap_id {n : Int} (h : -9223372036854775808 ≤ n ∧ n ≤ 9223372036854775807) : IntKind.i64.wrap n = n := by
 obtain ⟨h1, h2⟩ := h
 have e1 : (2 ^ IntKind.i64.bits : Int) = 18446744073709551616 := rfl
 have e2 : (2 ^ (IntKind.i64.bits - 1) : Int) = 9223372036854775808 := rfl
 have e3 : IntKind.i64.signed = true := rfl
 unfold IntKind.wrap
 simp only [e1, e2, e3, Bool.true_and, decide_eq_true_eq]
 split <;> omega
section ops
variable {P : Program} {t : T} {m : Mem} {dst : Option Tmp} {ty ty' rt : TypeId} {pos : String} {after : Array Edge} {guard : Option (Nat × Bool)} {x y z : Operand} {k : IntKind} {a b c : Int}
theorem OQ.addi (hx : t.ev x = .int .i64 a) (hy : t.ev y = .int .i64 b) (h : -9223372036854775808 ≤ a + b ∧ a + b ≤ 9223372036854775807) : OQ P ⟨dst, .binOp .add ty x y ty', rt, pos, after, guard⟩ t m (.int .i64 (a + b)) := wrap_id h ▸ OQ.add hx hy
theorem OQ.subi (hx : t.ev x = .int .i64 a) (hy : t.ev y = .int .i64 b) (h : -9223372036854775808 ≤ a - b ∧ a - b ≤ 9223372036854775807) : OQ P ⟨dst, .binOp .sub ty x y ty', rt, pos, after, guard⟩ t m (.int .i64 (a - b)) := wrap_id h ▸ OQ.sub hx hy
theorem OQ.muli (hx : t.ev x = .int .i64 a) (hy : t.ev y = .int .i64 b) (h : -9223372036854775808 ≤ a * b ∧ a * b ≤ 9223372036854775807) : OQ P ⟨dst, .binOp .mul ty x y ty', rt, pos, after, guard⟩ t m (.int .i64 (a * b)) := wrap_id h ▸ OQ.mul hx hy
theorem OQ.quoi (hx : t.ev x = .int .i64 a) (hy : t.ev y = .int .i64 b) (h0 : b ≠ 0) (h : -9223372036854775808 ≤ a.tdiv b ∧ a.tdiv b ≤ 9223372036854775807) : OQ P ⟨dst, .binOp .quo ty x y ty', rt, pos, after, guard⟩ t m (.int .i64 (a.tdiv b)) := wrap_id h ▸ OQ.quo hx hy h0
theorem OQ.negi (hx : t.ev x = .int .i64 a) (h : -9223372036854775808 ≤ -a ∧ -a ≤ 9223372036854775807) : OQ P ⟨dst, .unOp .neg ty x, rt, pos, after, guard⟩ t m (.int .i64 (-a)) := by
 have := OQ.neg (P := P) (m := m) (dst := dst) (ty := ty) (rt := rt) (pos := pos) (after := after) (guard := guard) hx
 rw [show (0 : Int) - a = -a by omega, wrap_id h] at this
 exact this
theorem OQ.pickT {cc : Bool} {v : Value} (hx : t.ev x = .bool cc) (h : cc = true) (hy : t.ev y = v) : OQ P ⟨dst, .pick x y z, rt, pos, after, guard⟩ t m v := by subst h; exact OQ.pick hx hy rfl
theorem OQ.pickF {cc : Bool} {v : Value} (hx : t.ev x = .bool cc) (h : cc = false) (hz : t.ev z = v) : OQ P ⟨dst, .pick x y z, rt, pos, after, guard⟩ t m v := by subst h; exact OQ.pick hx rfl hz
theorem OQ.lenS {a : Option Addr} {n c : Nat} {r : Option Nat × Nat × Bool} {xt : TypeId} (hx : t.ev x = .slice a n c) (hs : elemOf' P xt = some (none, r.2)) : OQ P ⟨dst, .call ⟨.builtin .len, #[x], #[xt]⟩, rt, pos, after, guard⟩ t m (.int .i64 n) := by
 intro ρ a' w ht hm
 obtain ⟨e, e1, _⟩ := elemOf_slice (n := r.2.1) (b := r.2.2) hs
 have hr := hx ▸ ht.ev x
 have : ∃ b c', a'.eval x = .slice b n c' := by
  generalize a'.eval x = v at hr
  cases hr with
  | scal h => exact ⟨_, _, rfl⟩
  | slice => exact ⟨_, _, rfl⟩
  | empty => exact ⟨_, _, rfl⟩
  | lost => exact ⟨_, _, rfl⟩
 obtain ⟨b, c', he⟩ := this
 refine ⟨_, .scal rfl, fun w' _ => ?_⟩
 simp [execOp, resolve, invoke, builtin, Builtin.len_, he, Sem.run_bind, Sem.run_pure, run_und e1, goInt]
theorem OQ.max2 {ats : Array TypeId} (hx : t.ev x = .int k a) (hy : t.ev y = .int k b) : OQ P ⟨dst, .call ⟨.builtin .max, #[x, y], ats⟩, rt, pos, after, guard⟩ t m (.int k (if b > a then b else a)) :=
 fun ρ a' w ht _ => ⟨_, .scal rfl, fun w' _ => by simp [execOp, resolve, invoke, builtin, Builtin.max_, Builtin.max2, evi ht hx, evi ht hy, Sem.run_bind, Sem.run_pure]⟩
theorem OQ.min2 {ats : Array TypeId} (hx : t.ev x = .int k a) (hy : t.ev y = .int k b) : OQ P ⟨dst, .call ⟨.builtin .min, #[x, y], ats⟩, rt, pos, after, guard⟩ t m (.int k (if b < a then b else a)) :=
 fun ρ a' w ht _ => ⟨_, .scal rfl, fun w' _ => by simp [execOp, resolve, invoke, builtin, Builtin.min_, Builtin.min2, evi ht hx, evi ht hy, Sem.run_bind, Sem.run_pure]⟩
theorem OQ.mkfn {fn : Fn} {first cap : Array Operand} : OQ P ⟨dst, .makeFunc fn first cap, rt, pos, after, guard⟩ t m (.func fn (first.toList.map t.ev).toArray (cap.toList.map t.ev).toArray) := by
 intro ρ a w ht _
 refine ⟨.func fn (first.map a.eval) (cap.map a.eval), ?_, fun w' _ => by simp [execOp, Instr.makeFunc, Sem.run_bind, Sem.run_pure]⟩
 refine .func (by simp) (by simp) (fun i h h' => ?_) (fun i h h' => ?_)
 ·simp only [List.getElem_toArray, List.getElem_map, Array.getElem_map, Array.getElem_toList]; exact ht.ev _
 ·simp only [List.getElem_toArray, List.getElem_map, Array.getElem_map, Array.getElem_toList]; exact ht.ev _
def fillL (place : Nat → Option Nat) (cells : List Value) : List (Nat × Value) → Option (List Value)
 | [] => some cells
 | (i, v) :: rest =>
  match place i with
  | none => none
  | some off => if off + v.cells.toList.length ≤ cells.length then fillL place (putAt cells off v.cells.toList) rest else none
theorem zipFold (v : List Value) : ∀ (off k : Nat) (cells : Array Value), ((v.zipIdx k).foldl (fun cs (p : Value × Nat) => cs.setIfInBounds (off + p.2) p.1) cells) = (putAt cells.toList (off + k) v).toArray := by
 induction v with
 | nil => intro off k cells; simp [putAt]
 | cons u us ih =>
  intro off k cells
  simp only [List.zipIdx_cons, List.foldl_cons, putAt]
  rw [ih]
  simp [Nat.add_assoc]
theorem fill_rel {ρ : Ren} {place : Nat → Option (Nat × Nat)} {pl : Nat → Option Nat} : ∀ (parts : List (Nat × Value)) (parts' : List (Nat × Value)) (cells cells' : List Value),
  cells.length = cells'.length → (∀ (i : Nat) (v : Value), cells[i]? = some v → ∃ v', cells'[i]? = some v' ∧ VRel ρ v v') →
  (parts.length = parts'.length ∧ ∀ (i : Nat) (p : Nat × Value), parts[i]? = some p → ∃ v', parts'[i]? = some (p.1, v') ∧ VRel ρ p.2 v' ∧ (∀ r, p.2 ≠ .chan r) ∧ ∃ off, pl p.1 = some off ∧ place p.1 = some (off, p.2.cells.size)) →
  ∀ r, fillL pl cells parts = some r → ∃ r', Instr.fill place cells'.toArray parts' = some r' ∧ r.length = r'.size ∧ ∀ (i : Nat) (v : Value), r[i]? = some v → ∃ v', r'[i]? = some v' ∧ VRel ρ v v'
 | [], parts', cells, cells', hl, hc, hp, r, hr => by
  have : parts' = [] := List.eq_nil_of_length_eq_zero hp.1.symm
  subst this
  cases Option.some.inj hr
  exact ⟨cells'.toArray, rfl, by simpa using hl, fun i v hv => by simpa using hc i v hv⟩
 | (i, v) :: rest, parts', cells, cells', hl, hc, hp, r, hr => by
  obtain ⟨hp1, hp2⟩ := hp
  rcases parts' with _ | ⟨⟨i', v'⟩, rest'⟩
  ·simp at hp1
  obtain ⟨v0, e0, hv, hj, off, ho1, ho2⟩ := hp2 0 (i, v) rfl
  simp only [List.getElem?_cons_zero, Option.some.injEq, Prod.mk.injEq] at e0
  obtain ⟨rfl, rfl⟩ := e0
  obtain ⟨g1, g2⟩ := hv.cells hj
  simp only [fillL, ho1] at hr
  split at hr
  ·rename_i hle
   simp only [Array.length_toList] at hle
   simp only [Instr.fill, ho2]
   rw [if_neg (by simp [← g1, ← hl]; omega)]
   have hz := zipFold v'.cells.toList off 0 cells'.toArray
   have e : v'.cells.zipIdx.foldl (fun cs (x : Value × Nat) => match x with | (c, j) => cs.setIfInBounds (off + j) c) cells'.toArray = (putAt cells' off v'.cells.toList).toArray := by
    rw [← Array.foldl_toList, Array.toList_zipIdx]
    simpa using hz
   erw [e]
   refine fill_rel rest rest' _ _ (by simp [putAt_length, hl]) (fun j u hu => ?_) ⟨by simpa using hp1, fun j p hp => hp2 (j + 1) p (by simpa using hp)⟩ r hr
   rw [putAt_get] at hu ⊢
   simp only [Array.length_toList, ← g1, ← hl] at hu ⊢
   split at hu
   ·rename_i h1
    rw [if_pos h1]
    obtain ⟨u', q1, q2⟩ := g2 (j - off) u (by simpa using hu)
    exact ⟨u', by simpa using q1, q2⟩
   ·rename_i h1
    rw [if_neg h1]
    exact hc j u hu
  ·cases hr
end ops
def placesOf (P : Program) (s : TypeId) : Option (List (Nat × Nat)) :=
 match P.underlying s with
 | some (.struct fs) => fs.toList.mapM fun f => (szOf P f.type).map fun n => (f.offset, n)
 | _ => none
theorem run_places {P : Program} {w : World} : ∀ (fs : List Field) (pl : List (Nat × Nat)), fs.mapM (fun f => (szOf P f.type).map fun n => (f.offset, n)) = some pl →
  (fs.mapM (m := Sem) fun f => do pure (f.offset, ← sizeOf f.type)).run P w = .ok pl w
 | [], pl, h => by
  simp only [List.mapM_nil, Option.pure_def, Option.some.injEq] at h
  subst h; rfl
 | f :: fs, pl, h => by
  simp only [List.mapM_cons, Option.pure_def, Option.bind_eq_bind] at h
  cases hs : szOf P f.type with
  | none => rw [hs] at h; simp at h
  | some n =>
   rw [hs] at h
   simp only [Option.map_some, Option.bind_some] at h
   cases hr : fs.mapM (fun f => (szOf P f.type).map fun n => (f.offset, n)) with
   | none => rw [hr] at h; simp at h
   | some us =>
    rw [hr] at h
    simp only [Option.bind_some, Option.some.injEq] at h
    subst h
    rw [List.mapM_cons]
    simp only [Sem.run_bind, Sem.run_pure, Result.andThen_ok, run_size hs, run_places fs us hr]
section ops2
variable {P : Program} {t : T} {m : Mem} {dst : Option Tmp} {ty ty' rt : TypeId} {pos : String} {after : Array Edge} {guard : Option (Nat × Bool)}
def partsOk (pl : Nat → Option (Nat × Nat)) (parts : List (Nat × Value)) : Bool := parts.all fun p => !isJ p.2 && (match pl p.1 with | some (_, n) => n == p.2.cells.size | none => false)
theorem parts_rel {ρ : Ren} {a : Act} (ht : TRel ρ t a.tmps) {place : Nat → Option (Nat × Nat)} (ps : Array (Nat × Operand)) (hok : partsOk place (ps.toList.map fun p => (p.1, t.ev p.2)) = true) :
  (ps.toList.map fun p => (p.1, t.ev p.2)).length = (ps.map fun (i, x) => (i, a.eval x)).toList.length ∧ ∀ (i : Nat) (p : Nat × Value), (ps.toList.map fun p => (p.1, t.ev p.2))[i]? = some p →
   ∃ v', (ps.map fun (i, x) => (i, a.eval x)).toList[i]? = some (p.1, v') ∧ VRel ρ p.2 v' ∧ (∀ r, p.2 ≠ .chan r) ∧ ∃ off, (place p.1).map (·.1) = some off ∧ place p.1 = some (off, p.2.cells.size) := by
 refine ⟨by simp, fun i p hp => ?_⟩
 have hm := List.all_eq_true.1 hok p (List.mem_of_getElem? hp)
 simp only [List.getElem?_map, Array.getElem?_toList] at hp
 cases hi : ps[i]? with
 | none => rw [hi] at hp; cases hp
 | some q =>
  rw [hi] at hp
  simp only [Option.map_some, Option.some.injEq] at hp
  subst hp
  refine ⟨a.eval q.2, by simp [hi], ht.ev _, fun r e => ?_, ?_⟩
  ·have e' : t.ev q.2 = .chan r := e
   simp only [e', isJ] at hm
   cases hm
  ·simp only [Bool.and_eq_true] at hm
   have h2 := hm.2
   split at h2
   ·rename_i off n hpl
    rw [hpl]
    exact ⟨off, rfl, by rw [beq_iff_eq.1 h2]⟩
   ·cases h2
theorem OQ.buildS {parts : Array (Nat × Operand)} {zs : List Value} {pls : List (Nat × Nat)} {pv : List (Nat × Value)} {r : List Value} (hz : zeroOf P ty = some zs) (hs : zs.all scal = true) (hpl : placesOf P ty = some pls)
  (hpv : parts.toList.map (fun p => (p.1, t.ev p.2)) = pv) (hok : partsOk (fun i => pls[i]?) pv = true) (hr : fillL (fun i => (pls[i]?).map (·.1)) zs pv = some r) : OQ P ⟨dst, .build ty parts, rt, pos, after, guard⟩ t m (.agg r.toArray) := by
 intro ρ a w ht hm
 subst hpv
 have hp := parts_rel ht (place := fun i => pls[i]?) parts hok
 obtain ⟨r', h1, h2, h3⟩ := fill_rel _ _ zs zs rfl (fun i v hv => ⟨v, hv, .scal (List.all_eq_true.1 hs v (List.mem_of_getElem? hv))⟩) hp r hr
 refine ⟨.agg r', .agg_mk (by simpa using h2) (fun i u hu => h3 i u (by simpa using hu)), fun w' _ => ?_⟩
 unfold placesOf at hpl
 cases hu : P.underlying ty with
 | none => rw [hu] at hpl; cases hpl
 | some d =>
  rw [hu] at hpl
  cases d <;> try (cases hpl; done)
  rename_i fs
  simp only at hpl
  obtain ⟨zv, hz1, hz2⟩ := run_zero (w := w') hz
  have hrun : (fs.mapM (m := Sem) fun f => do pure (f.offset, ← sizeOf f.type)).run P w' = .ok pls.toArray w' := by
   rw [Array.mapM_eq_mapM_toList]
   rw [show (List.toArray <$> fs.toList.mapM (m := Sem) (fun f => do pure (f.offset, ← sizeOf f.type))) = (do let x ← fs.toList.mapM (m := Sem) (fun f => do pure (f.offset, ← sizeOf f.type)); pure x.toArray) from rfl]
   rw [Sem.run_bind, run_places _ _ hpl]
   rfl
  simp only [execOp, Instr.build, Sem.run_bind, hz1, Result.andThen_ok, hz2, run_und hu, hrun]
  have : (fun (i : Nat) => pls.toArray[i]?) = fun (i : Nat) => pls[i]? := by funext i; simp
  simp only [this, h1]
  simp [go_sem]
theorem OQ.buildA {parts : Array (Nat × Operand)} {zs : List Value} {n k : Nat} {g : Bool} {pv : List (Nat × Value)} {r : List Value} (hz : zeroOf P ty = some zs) (hs : zs.all scal = true) (hpl : elemOf' P ty = some (some k, n, g))
  (hpv : parts.toList.map (fun p => (p.1, t.ev p.2)) = pv) (hok : partsOk (fun i => some (i * n, n)) pv = true) (hr : fillL (fun i => some (i * n)) zs pv = some r) : OQ P ⟨dst, .build ty parts, rt, pos, after, guard⟩ t m (.agg r.toArray) := by
 intro ρ a w ht hm
 subst hpv
 have hp := parts_rel ht (place := fun i => some (i * n, n)) parts hok
 obtain ⟨r', h1, h2, h3⟩ := fill_rel (place := fun i => some (i * n, n)) (pl := fun i => Option.map (fun x => x.1) (some (i * n, n))) _ _ zs zs rfl (fun i v hv => ⟨v, hv, .scal (List.all_eq_true.1 hs v (List.mem_of_getElem? hv))⟩) hp r hr
 refine ⟨.agg r', .agg_mk (by simpa using h2) (fun i u hu => h3 i u (by simpa using hu)), fun w' _ => ?_⟩
 obtain ⟨e, e1, e2, e3⟩ := elemOf_array hpl
 obtain ⟨zv, hz1, hz2⟩ := run_zero (w := w') hz
 simp only [execOp, Instr.build, Sem.run_bind, hz1, Result.andThen_ok, hz2, run_und e1, run_size e2, h1]
 simp [go_sem]
theorem OW.buildSl {parts : Array (Nat × Operand)} {zs : List Value} {n len : Nat} {g : Bool} {pv : List (Nat × Value)} {r : List Value} (hpl : elemOf' P ty = some (none, n, g)) (hz : ((match P.underlying ty with | some (.slice e) => zeroOf P e | _ => none)) = some zs) (hs : zs.all scal = true)
  (hpv : parts.toList.map (fun p => (p.1, t.ev p.2)) = pv) (hok : partsOk (fun i => some (i * n, n)) pv = true) (hsm : len * n ≤ 16777216) (hn0 : len * n ≠ 0) (hzn : zs.length = n) (hr : fillL (fun i => some (i * n)) ((List.range (len * n)).map fun i => zs.getD (i % n) default) pv = some r) :
  OW P ⟨dst, .buildSlice ty len parts, rt, pos, after, guard⟩ t m (.slice (some ⟨m.length, 0, none⟩) len len) (m ++ [some ⟨r, true, n⟩]) := by
 intro E ρ a w ht hst
 subst hpv
 have hp := parts_rel ht (place := fun i => some (i * n, n)) parts hok
 have hn : n ≠ 0 := fun h => hn0 (by rw [h]; simp)
 have hscal : ∀ (i : Nat) (v : Value), ((List.range (len * n)).map fun i => zs.getD (i % n) default)[i]? = some v → ∃ v', ((List.range (len * n)).map fun i => zs.getD (i % n) default)[i]? = some v' ∧ VRel ρ v v' := by
  intro i v hv
  refine ⟨v, hv, .scal ?_⟩
  obtain ⟨j, hj, rfl⟩ := List.mem_map.1 (List.mem_of_getElem? hv)
  have hlt : j % n < zs.length := by rw [hzn]; exact Nat.mod_lt _ (Nat.pos_of_ne_zero hn)
  rw [List.getD_eq_getElem?_getD, List.getElem?_eq_getElem hlt]
  exact List.all_eq_true.1 hs _ (List.getElem_mem hlt)
 obtain ⟨r', h1, h2, h3⟩ := fill_rel (place := fun i => some (i * n, n)) (pl := fun i => Option.map (fun x => x.1) (some (i * n, n))) _ _ _ _ rfl hscal hp r hr
 have hsz : r'.size = len * n := by
  rw [← h2]
  have : ∀ (parts : List (Nat × Value)) (cells r : List Value), fillL (fun i => some (i * n)) cells parts = some r → r.length = cells.length := by
   intro parts
   induction parts with
   | nil => intro cells r h; cases Option.some.inj h; rfl
   | cons p ps ih =>
    intro cells r h
    simp only [fillL] at h
    split at h
    ·rw [ih _ _ h, putAt_length]
    ·cases h
  rw [this _ _ _ hr]; simp
 obtain ⟨e, e1, e2, e3⟩ := elemOf_slice hpl
 rw [e1] at hz
 obtain ⟨zv, hz1, hz2⟩ := run_zero (w := w) hz
 refine ⟨.slice (some ⟨w.heap.size, 0, none⟩) len len, _, _, .inl ?_, hst.ext_new ⟨w.heap.size, 0, n, r'.size⟩, ?_, hst.new (ty := e) (c := r') h3⟩
 ·have hcells : (Array.range (len * n)).map (fun x => zv.cells[x % zv.cells.size]!) = ((List.range (len * n)).map fun i => zs.getD (i % n) default).toArray := by
   rw [hz2]
   apply Array.ext
   ·simp
   ·intro i h h'
    simp only [Array.getElem_map, Array.getElem_range, List.getElem_toArray, List.getElem_map, List.getElem_range, List.size_toArray, hzn]
    have hlt : i % n < zs.length := by rw [hzn]; exact Nat.mod_lt _ (Nat.pos_of_ne_zero hn)
    simp [List.getD_eq_getElem?_getD, hlt]
  simp only [execOp, Instr.buildSlice, Sem.run_bind, run_und e1, Result.andThen_ok, run_size e2]
  rw [if_neg (by omega)]
  simp only [Sem.run_bind, Sem.run_pure, Result.andThen_ok, if_neg hn0, hz1]
  erw [hcells]
  simp only [h1, newRow]
  simp [go_sem]
 ·exact .slice (b := m.length) (o := 0) (pl := ⟨w.heap.size, 0, n, r'.size⟩) (by unfold Ren.new; rw [if_pos rfl]) (Nat.le_refl _) (fun _ => Nat.le_refl _) (fun _ => by simp [hsz])
theorem OW.buildSl0 {z : Option Nat × Nat × Bool} (hpl : elemOf' P ty = some (none, z.2)) : OW P ⟨dst, .buildSlice ty 0 #[], rt, pos, after, guard⟩ t m (.slice (some ⟨m.length, 0, none⟩) 0 0) (m ++ [some ⟨[], true, z.2.1⟩]) := by
 intro E ρ a w ht hst
 obtain ⟨e, e1, e2, e3⟩ := elemOf_slice (n := z.2.1) (b := z.2.2) hpl
 refine ⟨.slice (some ⟨w.heap.size, 0, none⟩) 0 0, _, _, .inl ?_, hst.ext_new ⟨w.heap.size, 0, z.2.1, (#[] : Array Value).size⟩, .slice (b := m.length) (o := 0) (pl := ⟨w.heap.size, 0, z.2.1, (#[] : Array Value).size⟩) (by unfold Ren.new; rw [if_pos rfl]) (Nat.le_refl _) (fun _ => Nat.le_refl _) (fun _ => by simp), hst.new (ty := e) (c := #[]) (fun i v hv => by simp at hv)⟩
 simp only [execOp, Instr.buildSlice, Sem.run_bind, run_und e1, Result.andThen_ok, run_size e2]
 simp [Instr.fill, newRow, go_sem]
end ops2
end Ab
end Go
/- The small memory, part 7: a contract proved in a memory of its own is carried into a greater one. -/
namespace Go
open Go.RowKit
namespace Ab
def rn1 (τ : Nat → Nat) : Value → Value
 | .pointer (some ⟨b, o, s⟩) => .pointer (some ⟨τ b, o, s⟩)
 | .slice (some ⟨b, o, s⟩) n c => .slice (some ⟨τ b, o, s⟩) n c
 | .map (some b) => .map (some (τ b))
 | v => v
def rn2 (τ : Nat → Nat) : Value → Value
 | .agg xs => .agg (xs.toList.map (rn1 τ)).toArray
 | v => rn1 τ v
def rn3 (τ : Nat → Nat) : Value → Value
 | .tuple xs => .tuple (xs.toList.map (rn2 τ)).toArray
 | .func fn xs ys => .func fn (xs.toList.map (rn2 τ)).toArray (ys.toList.map (rn2 τ)).toArray
 | v => rn2 τ v
def ok1 (n : Nat) : Value → Bool
 | .pointer (some ⟨b, _, none⟩) => decide (b < n)
 | .map (some b) => decide (b < n)
 | .slice (some ⟨b, _, none⟩) _ _ => decide (b < n)
 | .slice (some ⟨_, _, some _⟩) k _ => k == 0
 | v => scal v
def ok2 (n : Nat) : Value → Bool
 | .agg xs => xs.toList.all (ok1 n)
 | v => ok1 n v
def ok3 (n : Nat) : Value → Bool
 | .tuple xs => xs.toList.all (ok2 n)
 | .func _ xs ys => xs.toList.all (ok2 n) && ys.toList.all (ok2 n)
 | v => ok2 n v
def Ren.via (ρ : Ren) (n : Nat) (τ : Nat → Nat) : Ren := fun b => if b < n then ρ (τ b) else none
section
variable {ρ : Ren} {n : Nat} {τ : Nat → Nat} {v v' : Value}
theorem via_get {b : Nat} (h : b < n) : (ρ.via n τ) b = ρ (τ b) := if_pos h
theorem rn1_scal (h : scal v = true) : rn1 τ v = v := by
 match v, h with
 | .pointer none, _ => rfl
 | .slice none a b, _ => rfl
 | .bool _, _ => rfl
 | .int _ _, _ => rfl
 | .string _, _ => rfl
 | .nilFunc, _ => rfl
 | .nilIface, _ => rfl
 | .map none, _ => rfl
theorem ok1_cases (h : ok1 n v = true) : scal v = true ∨ (∃ b o, b < n ∧ v = .pointer (some ⟨b, o, none⟩)) ∨ (∃ b o k c, b < n ∧ v = .slice (some ⟨b, o, none⟩) k c) ∨ (∃ b o sp c, v = .slice (some ⟨b, o, some sp⟩) 0 c) ∨ ∃ b, b < n ∧ v = .map (some b) := by
 unfold ok1 at h
 split at h
 ·exact .inr (.inl ⟨_, _, of_decide_eq_true h, rfl⟩)
 ·exact .inr (.inr (.inr (.inr ⟨_, of_decide_eq_true h, rfl⟩)))
 ·exact .inr (.inr (.inl ⟨_, _, _, _, of_decide_eq_true h, rfl⟩))
 ·exact .inr (.inr (.inr (.inl ⟨_, _, _, _, by rw [beq_iff_eq.1 h]⟩)))
 ·exact .inl h
theorem rn1_to (h : VRel ρ (rn1 τ v) v') (hk : ok1 n v = true) : VRel (ρ.via n τ) v v' := by
 rcases ok1_cases hk with hs | ⟨b, o, hb, rfl⟩ | ⟨b, o, k, c, hb, rfl⟩ | ⟨b, o, sp, c, rfl⟩ | ⟨b, hb, rfl⟩
 ·rw [rn1_scal hs] at h
  rw [h.of_scal hs]
  exact .scal hs
 ·obtain ⟨pl, hp, rfl⟩ := VRel.ptr_inv h
  exact .ptr (by rw [via_get hb]; exact hp)
 ·rcases VRel.slice_inv h with ⟨pl, c', hp, h1, h2, h3, rfl⟩ | ⟨rfl, a', rfl⟩
  ·exact .slice (by rw [via_get hb]; exact hp) h1 h2 h3
  ·exact .empty
 ·simp only [rn1] at h
  cases h with
  | scal h => simp [Ab.scal] at h
  | empty => exact .empty
  | lost => exact .lost
 ·obtain ⟨pl, hp, rfl⟩ := VRel.map_inv h
  exact .map (by rw [via_get hb]; exact hp)
theorem rn1_of (h : VRel (ρ.via n τ) v v') (hk : ok1 n v = true) : VRel ρ (rn1 τ v) v' := by
 rcases ok1_cases hk with hs | ⟨b, o, hb, rfl⟩ | ⟨b, o, k, c, hb, rfl⟩ | ⟨b, o, sp, c, rfl⟩ | ⟨b, hb, rfl⟩
 ·rw [rn1_scal hs, h.of_scal hs]
  exact .scal hs
 ·obtain ⟨pl, hp, rfl⟩ := VRel.ptr_inv h
  rw [via_get hb] at hp
  exact .ptr hp
 ·rcases VRel.slice_inv h with ⟨pl, c', hp, h1, h2, h3, rfl⟩ | ⟨rfl, a', rfl⟩
  ·rw [via_get hb] at hp
   exact .slice hp h1 h2 h3
  ·exact .empty
 ·simp only [rn1]
  cases h with
  | scal h => simp [Ab.scal] at h
  | empty => exact .empty
  | lost => exact .lost
 ·obtain ⟨pl, hp, rfl⟩ := VRel.map_inv h
  rw [via_get hb] at hp
  exact .map hp
theorem mapRel {ρ' : Ren} {f : Value → Value} {g : Value → Bool} (hf : ∀ v v', VRel ρ (f v) v' → g v = true → VRel ρ' v v') {xs xs' : Array Value} (h1 : (xs.toList.map f).toArray.size = xs'.size)
  (h3 : ∀ (i : Nat) (h : i < (xs.toList.map f).toArray.size) (h' : i < xs'.size), VRel ρ (xs.toList.map f).toArray[i] xs'[i]) (hg : xs.toList.all g = true) : xs.size = xs'.size ∧ ∀ (i : Nat) (h : i < xs.size) (h' : i < xs'.size), VRel ρ' xs[i] xs'[i] := by
 refine ⟨by simpa using h1, fun i h h' => hf _ _ ?_ (List.all_eq_true.1 hg _ (by simp))⟩
 have := h3 i (by simpa using h) h'
 simp only [List.getElem_toArray, List.getElem_map, Array.getElem_toList] at this
 exact this
theorem mapRel' {ρ' : Ren} {f : Value → Value} {g : Value → Bool} (hf : ∀ v v', VRel ρ' v v' → g v = true → VRel ρ (f v) v') {xs xs' : Array Value} (h1 : xs.size = xs'.size)
  (h3 : ∀ (i : Nat) (h : i < xs.size) (h' : i < xs'.size), VRel ρ' xs[i] xs'[i]) (hg : xs.toList.all g = true) : (xs.toList.map f).toArray.size = xs'.size ∧ ∀ (i : Nat) (h : i < (xs.toList.map f).toArray.size) (h' : i < xs'.size), VRel ρ (xs.toList.map f).toArray[i] xs'[i] := by
 refine ⟨by simpa using h1, fun i h h' => ?_⟩
 have hi : i < xs.size := by simpa using h
 have := hf _ _ (h3 i hi h') (List.all_eq_true.1 hg _ (by simp))
 simp only [List.getElem_toArray, List.getElem_map, Array.getElem_toList]
 exact this
theorem rn2_to (h : VRel ρ (rn2 τ v) v') (hk : ok2 n v = true) : VRel (ρ.via n τ) v v' := by
 cases v with
 | agg xs =>
  simp only [rn2] at h
  simp only [ok2] at hk
  cases h with
  | scal h => simp [Ab.scal] at h
  | agg h1 h3 =>
   obtain ⟨a, b⟩ := mapRel (fun v v' h k => rn1_to h k) h1 h3 hk
   exact .agg a b
 | _ => exact rn1_to h hk
theorem rn2_of (h : VRel (ρ.via n τ) v v') (hk : ok2 n v = true) : VRel ρ (rn2 τ v) v' := by
 cases v with
 | agg xs =>
  simp only [ok2] at hk
  cases h with
  | scal h => simp [Ab.scal] at h
  | agg h1 h3 =>
   obtain ⟨a, b⟩ := mapRel' (fun v v' h k => rn1_of h k) h1 h3 hk
   exact .agg a b
 | _ => exact rn1_of h hk
theorem rn3_to (h : VRel ρ (rn3 τ v) v') (hk : ok3 n v = true) : VRel (ρ.via n τ) v v' := by
 cases v with
 | tuple xs =>
  simp only [rn3] at h
  simp only [ok3] at hk
  cases h with
  | scal h => simp [Ab.scal] at h
  | tuple h1 h3 =>
   obtain ⟨a, b⟩ := mapRel (fun v v' h k => rn2_to h k) h1 h3 hk
   exact .tuple a b
 | func fn xs ys =>
  simp only [rn3] at h
  simp only [ok3, Bool.and_eq_true] at hk
  cases h with
  | scal h => simp [Ab.scal] at h
  | func h1 h2 h3 h4 =>
   obtain ⟨a, b⟩ := mapRel (fun v v' h k => rn2_to h k) h1 h3 hk.1
   obtain ⟨c, d⟩ := mapRel (fun v v' h k => rn2_to h k) h2 h4 hk.2
   exact .func a c b d
 | _ => exact rn2_to h hk
theorem rn3_of (h : VRel (ρ.via n τ) v v') (hk : ok3 n v = true) : VRel ρ (rn3 τ v) v' := by
 cases v with
 | tuple xs =>
  simp only [ok3] at hk
  cases h with
  | scal h => simp [Ab.scal] at h
  | tuple h1 h3 =>
   obtain ⟨a, b⟩ := mapRel' (fun v v' h k => rn2_of h k) h1 h3 hk
   exact .tuple a b
 | func fn xs ys =>
  simp only [ok3, Bool.and_eq_true] at hk
  cases h with
  | scal h => simp [Ab.scal] at h
  | func h1 h2 h3 h4 =>
   obtain ⟨a, b⟩ := mapRel' (fun v v' h k => rn2_of h k) h1 h3 hk.1
   obtain ⟨c, d⟩ := mapRel' (fun v v' h k => rn2_of h k) h2 h4 hk.2
   exact .func a c b d
 | _ => exact rn2_of h hk
end
def Lies (m0 m : Mem) (τ : Nat → Nat) : Prop :=
 ∀ b blk, m0.at b = some blk → blk.own = false ∧ blk.cells.all (ok1 m0.length) = true ∧ ∃ blk', m.at (τ b) = some blk' ∧ blk'.shp = blk.shpR τ m0.length ∧ ∀ (i : Nat) v, blk.cells[i]? = some v → blk'.cells[i]? = some (rn1 τ v)
theorem PCalls.via {P : Program} {f : FuncId} {args0 args : List Value} {m0 m : Mem} {v0 v : Value} (τ : Nat → Nat) (h : PCalls P f args0 m0 v0) (hm : Lies m0 m τ)
  (ha : args0.map (rn3 τ) = args) (hk : args0.all (ok3 m0.length) = true) (hv : rn3 τ v0 = v) (hkv : ok3 m0.length v0 = true) : PCalls P f args m v := by
 intro ρ args' w hdom hargs hmr
 subst ha
 subst hv
 refine (h (ρ.via m0.length τ) args' w (fun b pl hb => ?_) ?_ ?_).mono ?_
 ·unfold Ren.via at hb
  split at hb
  ·assumption
  ·cases hb
 ·obtain ⟨xs', e, h1, h2⟩ := hargs.tuple_inv
  cases e
  refine .tuple (by simpa using h1) fun i hi hi' => ?_
  have hi0 : i < args0.length := by simpa using hi
  obtain ⟨u', e1, e2⟩ := h2 i (rn3 τ args0[i]) (by simp [hi0])
  have : u' = args'[i] := by
   rw [Array.getElem?_eq_getElem hi'] at e1
   exact (Option.some.inj e1).symm
  subst this
  simpa using rn3_to e2 (List.all_eq_true.1 hk _ (List.getElem_mem hi0))
 ·intro b blk hb
  obtain ⟨ho, hs, blk', hb', he, hc⟩ := hm b blk hb
  obtain ⟨pl, hp, ⟨x, c, ty, fr, g1, gx, g2, g3, g4⟩, g5⟩ := hmr _ _ hb'
  obtain ⟨he, hrow⟩ := shp_eq he
  refine ⟨pl, by rw [via_get (Mem.at_lt hb)]; exact hp, ⟨x, c, ty, fr, g1, hrow _ _ _ _ _ _ (fun b hb => via_get hb) gx, by rw [← he]; exact g2, fun i u hu => ?_, fun h => by rw [ho] at h; cases h⟩, fun h => by rw [ho] at h; cases h⟩
  obtain ⟨u', q1, q2⟩ := g3 i _ (hc i u hu)
  exact ⟨u', q1, rn1_to q2 (List.all_eq_true.1 hs u (List.mem_of_getElem? hu))⟩
 ·rintro e w' ⟨v', rfl, hv, hb⟩
  exact ⟨v', rfl, rn3_of hv hkv, hb⟩
theorem PCalls.any {P : Program} {f : FuncId} {args : List Value} {v : Value} (h : PCalls P f args [] v) (hk : args.all flat = true) (hkv : flat v = true) (m : Mem) : PCalls P f args m v := by
 intro ρ args' w hdom hargs hmr
 refine (h (fun _ => none) args' w (fun b pl hb => by cases hb) ?_ (fun b blk hb => by simp [Mem.at] at hb)).mono ?_
 ·obtain ⟨xs', e, h1, h2⟩ := hargs.tuple_inv
  cases e
  refine .tuple (by simpa using h1) fun i hi hi' => ?_
  have hi0 : i < args.length := by simpa using hi
  obtain ⟨u', e1, e2⟩ := h2 i args[i] (by simp [hi0])
  have : u' = args'[i] := by
   rw [Array.getElem?_eq_getElem hi'] at e1
   exact (Option.some.inj e1).symm
  subst this
  have hf := List.all_eq_true.1 hk _ (List.getElem_mem hi0)
  rw [e2.of_flat hf]
  simpa using VRel.flat hf
 ·rintro e w' ⟨v', rfl, hv, hb⟩
  exact ⟨v', rfl, by rw [hv.of_flat hkv]; exact .flat hkv, hb⟩
theorem ro_nil : Mem.ro [] := fun b blk h => by simp [Mem.at] at h
theorem Then.n {N : T → Mem → Prop} {Q : Post} {t : T} {m : Mem} (h : N t m) : Then N Q .normal t m := h
theorem Then.x {N : T → Mem → Prop} {Q : Post} {t : T} {m : Mem} {i : Nat} (h : Q (.exit i) t m) : Then N Q (.exit i) t m := h
theorem Then.r {N : T → Mem → Prop} {Q : Post} {t : T} {m : Mem} (h : Q .ret t m) : Then N Q .ret t m := h
theorem InB.n {id : Nat} {Q : Post} {t : T} {m : Mem} (h : Q .normal t m) : InB id Q .normal t m := h
theorem InB.r {id : Nat} {Q : Post} {t : T} {m : Mem} (h : Q .ret t m) : InB id Q .ret t m := h
theorem InB.hit {id : Nat} {Q : Post} {t : T} {m : Mem} (h : Q .normal t m) : InB id Q (.exit id) t m := by simp only [InB, if_true]; exact h
theorem FinP.ret {P : Program} {fn : Func} {m m' : Mem} {v : Value} {vs : List Value} {t : T} (h : ResR P t m' fn.results.toList vs) (e : pack vs = v) (ho : oldv3 m v = true) : FinP P fn m v .ret t m' := ⟨.inl rfl, ⟨vs, h, e⟩, ho⟩
theorem PCalls.enter {P : Program} {f : FuncId} {fn : Func} {c : Code} {args : List Value} {m : Mem} {v : Value} {t : T} (hf : P.funcs[f]? = some fn) (hb : fn.body = some c) (hro : m.ro) (ht : args ++ List.replicate (fn.ntmps - args.length) undef = t)
  (h : ∀ E, AW P E c t m (FinP P fn m v)) : PCalls P f args m v := PCalls.body hf hb hro (ht ▸ h)
end Ab
end Go
/- The small memory, part 8: small steps for walks that a program prints. -/
namespace Go
open Go.RowKit
namespace Ab
section
variable {P : Program} {E : Env} {ops : Array Oper} {o : Oper} {rest : List Oper} {t : T} {m : Mem} {Q : Post}
variable {l : List Oper} {b : Array Nat} {n i : Nat} {news : List New} {os : List Oper}
end
section
variable {P : Program} {t : T} {m : Mem} {dst : Option Tmp} {ty rt : TypeId} {pos : String} {after : Array Edge} {guard : Option (Nat × Bool)} {x y : Operand} {k : IntKind} {a : Int} {n : Nat}
theorem extract_list (cs : Array Value) (o n : Nat) : cs.extract o (o + n) = ((cs.toList.drop o).take n).toArray := by
 apply Array.ext'
 simp [List.take_drop]
theorem OQ.fieldL {i off : Nat} {cs : Array Value} {l : List Value} (hx : t.ev x = .agg cs) (hf : fieldOf P ty i = some (off, n, true)) (hl : cs.toList = l) : OQ P ⟨dst, .field ty x i, rt, pos, after, guard⟩ t m (.agg ((l.drop off).take n).toArray) := by
 subst hl
 rw [← extract_list]
 exact OQ.fieldN hx hf
theorem OQ.idxArrL {l : Nat} {cs : Array Value} {ls : List Value} (hx : t.ev x = .agg cs) (hy : t.ev y = .int k a) (hf : elemOf' P ty = some (some l, n, true)) (h0 : 0 ≤ a) (h1 : a < l) (hl : cs.toList = ls) : OQ P ⟨dst, .index ty x y, rt, pos, after, guard⟩ t m (.agg ((ls.drop (a.toNat * n)).take n).toArray) := by
 subst hl
 rw [← extract_list]
 exact OQ.idxArrN hx hy hf h0 h1
end
section
variable {P : Program} {E : Env} {t : T} {m : Mem} {Q : Post} {c d : Code}
def AR (P : Program) (E : Env) (c : Code) (Q : Post) : Nat → T → Mem → Prop
 | 0, _, _ => False
 | n + 1, t, m => AW P E c t m (Then (AR P E c Q n) Q)
theorem AR.s {n : Nat} (h : AW P E c t m (Then (AR P E c Q n) Q)) : AR P E c Q (n + 1) t m := h
theorem AR.rounds : ∀ (n : Nat) (t : T) (m : Mem), AR P E c Q n t m → ∀ ρ a w, a.defers = [] → TRel ρ t a.tmps → St E ρ m w → c.rounds P (lift E Q) n a w
 | 0, _, _, h, _, _, _, _, _, _ => h.elim
 | n + 1, t, m, h, ρ, a, w, hd, ht, hs => by
  rw [rounds_succ]
  refine wp_mono (h ρ a w hd ht hs) ?_
  rintro e a' w' ⟨hd', ρ', t', m', hq, ht', hs'⟩
  cases e with
  | normal => exact AR.rounds n t' m' hq ρ' a' w' hd' ht' hs'
  | exit id => exact ⟨hd', ρ', t', m', hq, ht', hs'⟩
  | goto l => exact ⟨hd', ρ', t', m', hq, ht', hs'⟩
  | ret => exact ⟨hd', ρ', t', m', hq, ht', hs'⟩
  | panic ch => exact ⟨hd', ρ', t', m', hq, ht', hs'⟩
  | outgrown => exact ⟨hd', ρ', t', m', hq, ht', hs'⟩
theorem AW.unroll (n : Nat) (h : AR P E c Q n t m) : AW P E (.loop c) t m Q := fun ρ a w hd ht hs => wp_loop_rounds n (AR.rounds n t m h ρ a w hd ht hs)
end
theorem PCalls.of_calls {P : Program} {f : FuncId} {args : List Value} {m : Mem} {v : Value} (hk : args.all flat = true) (hv : flat v = true)
  (h : ∀ w, Calls P f args.toArray w fun e w' => e = .returned v ∧ Grw w.heap.size w w') : PCalls P f args m v := by
 intro ρ args' w hdom hargs hm
 obtain ⟨xs', e, h1, h2⟩ := hargs.tuple_inv
 cases e
 have : args' = args.toArray := by
  refine Array.ext (by simpa using h1.symm) fun i hi hi' => ?_
  have hi0 : i < args.length := by simpa using hi'
  obtain ⟨u', e1, e2⟩ := h2 i args[i] (by simp [hi0])
  rw [Array.getElem?_eq_getElem hi] at e1
  rw [Option.some.inj e1, e2.of_flat (List.all_eq_true.1 hk _ (List.getElem_mem hi0))]
  simp
 subst this
 exact (h w).mono fun e w' ⟨he, hb⟩ => ⟨v, he, .flat hv, hb⟩
theorem PCalls.of_same {P : Program} {f : FuncId} {args : List Value} {m : Mem} {v : Value} (hk : args.all flat = true) (hv : flat v = true)
  (h : ∀ w, Calls P f args.toArray w fun e w' => e = .returned v ∧ w = w') : PCalls P f args m v := PCalls.of_calls hk hv fun w => Free.Calls.grow (h w)
end Ab
end Go
/- The small memory, part 9: parts of slices, appending, calls that make memory. -/
namespace Go
open Go.RowKit
namespace Ab
abbrev INF : Nat := 9223372036854775808
def bnd (t : T) (x : Option Operand) (d : Int) : Option Int :=
 match x with
 | none => some d
 | some x => match t.ev x with
  | .int _ i => some i
  | _ => none
section ops
variable {P : Program} {t : T} {m : Mem} {dst : Option Tmp} {ty ty' rt : TypeId} {pos : String} {after : Array Edge} {guard : Option (Nat × Bool)} {x : Operand} {lo hi mx : Option Operand} {l h u : Int}
theorem bnd_run {ρ : Ren} {a : Act} {w : World} (ht : TRel ρ t a.tmps) {y : Operand} {d : Int} (hb : bnd t (some y) d = some l) (h0 : 0 ≤ l) {k : Nat} (hk : l ≤ k) (code : BoundsCode) : (Instr.sliceBound (a.eval y) k code).run P w = .ok l.toNat w := by
 unfold bnd at hb
 simp only at hb
 cases hv : t.ev y with
 | int kk i =>
  rw [hv] at hb
  cases Option.some.inj hb
  simp [Instr.sliceBound, evi ht hv, asIntOf, h0, hk, Sem.run_bind, Sem.run_pure]
 | _ => rw [hv] at hb; cases hb
theorem run_bounds2 {ρ : Ren} {a : Act} {w : World} (ht : TRel ρ t a.tmps) {b : Bool} {n c : Nat} (hl : bnd t lo 0 = some l) (hh : bnd t hi n = some h) (h0 : 0 ≤ l) (h1 : l ≤ h) (h2 : h ≤ n) (hc : n ≤ c) :
  (Instr.sliceBounds b n c (lo.map a.eval) (hi.map a.eval) none).run P w = .ok (l.toNat, h.toNat, c) w := by
 have hl' : ∀ y, lo = some y → ∀ code, (Instr.sliceBound (a.eval y) h.toNat code).run P w = .ok l.toNat w := fun y e code => bnd_run ht (e ▸ hl) h0 (by omega) code
 have hh' : ∀ y, hi = some y → ∀ code, (Instr.sliceBound (a.eval y) c code).run P w = .ok h.toNat w := fun y e code => bnd_run ht (e ▸ hh) (by omega) (by omega) code
 unfold Instr.sliceBounds
 cases lo with
 | none =>
  simp only [bnd, Option.some.injEq] at hl
  subst hl
  cases hi with
  | none =>
   simp only [bnd, Option.some.injEq] at hh
   subst hh
   simp [Sem.run_bind, Sem.run_pure]
  | some y => simp [Sem.run_bind, Sem.run_pure, hh' y rfl]
 | some x =>
  cases hi with
  | none =>
   simp only [bnd, Option.some.injEq] at hh
   subst hh
   have := hl' x rfl
   simp only [Int.toNat_natCast] at this
   simp [Sem.run_bind, Sem.run_pure, this]
  | some y => simp [Sem.run_bind, Sem.run_pure, hh' y rfl, hl' x rfl]
theorem OQ.sliceS {b o n c z : Nat} {g : Bool} {blk : Blk} (hx : t.ev x = .slice (some ⟨b, o, none⟩) n c) (hf : elemOf' P ty = some (none, z, g)) (hb : m.at b = some blk) (hz : blk.esz = 0 ∨ blk.esz = z)
  (hl : bnd t lo 0 = some l) (hh : bnd t hi n = some h) (h0 : 0 ≤ l) (h1 : l ≤ h) (h2 : h ≤ n) : OQ P ⟨dst, .slice ty x lo hi none, rt, pos, after, guard⟩ t m (.slice (some ⟨b, o + l.toNat * z, none⟩) (h.toNat - l.toNat) c) := by
 intro ρ a w ht hm
 obtain ⟨e, e1, e2, e3⟩ := elemOf_slice hf
 obtain ⟨pl, hp', ⟨_, _, _, _, _, _, hesz, _⟩, _⟩ := hm b blk hb
 rcases (hx ▸ ht.ev x).slice_inv with ⟨pl2, c', hp, g1, g2, g3, he⟩ | ⟨rfl, a', he⟩
 ·cases Option.some.inj (hp'.symm.trans hp)
  refine ⟨.slice (if c' = l.toNat then some ⟨pl.blk, o + pl.sh, none⟩ else some ((⟨pl.blk, o + pl.sh, none⟩ : Addr).add (l.toNat * z))) (h.toNat - l.toNat) (c' - l.toNat), ?_, fun w' _ => ?_⟩
  ·by_cases hcl : c' = l.toNat
   ·rw [if_pos hcl, show h.toNat - l.toNat = 0 by omega, show c' - l.toNat = 0 by omega]
    exact .empty
   ·rw [if_neg hcl]
    have : (⟨pl.blk, o + pl.sh, none⟩ : Addr).add (l.toNat * z) = ⟨pl.blk, (o + l.toNat * z) + pl.sh, none⟩ := by
     unfold Addr.add
     split
     ·rename_i h; rw [h]; simp
     ·simp; omega
    rw [this]
    refine .slice hp (by omega) (fun hc => by have := g2 hc; omega) (fun hne => ?_)
    have := g3 hne
    have hzz : pl.esz = z := by
     rcases hz with hz | hz
     ·rw [← hesz, hz] at hne; exact absurd rfl hne
     ·rw [← hesz, hz]
    rw [hzz] at this ⊢
    have : (c' - l.toNat) * z + l.toNat * z = c' * z := by rw [← Nat.add_mul]; congr 1; omega
    omega
  ·simp only [execOp, Instr.sliceAt, he, Sem.run_bind, run_und e1, Result.andThen_ok, Instr.slice, Option.map_none, run_bounds2 ht hl hh h0 h1 h2 g1, run_size e2]
   simp only [Option.map_some, Sem.run_pure]
   split <;> simp [go_sem, *]
 ·have hl0 : l = 0 := by omega
  have hh0 : h = 0 := by omega
  subst hl0 hh0
  refine ⟨.slice (some a') 0 0, .empty, fun w' _ => ?_⟩
  simp only [execOp, Instr.sliceAt, he, Sem.run_bind, run_und e1, Result.andThen_ok, Instr.slice, Option.map_none, run_bounds2 ht hl hh h0 h1 h2 (Nat.le_refl 0), run_size e2]
  simp [go_sem]
theorem OQ.sliceA {b o n z : Nat} {g : Bool} {blk : Blk} (hx : t.ev x = .pointer (some ⟨b, o, none⟩)) (hf : elemOf' P ty = some (some n, z, g)) (hb : m.at b = some blk) (hz : blk.esz = 0)
  (hl : bnd t lo 0 = some l) (hh : bnd t hi n = some h) (h0 : 0 ≤ l) (h1 : l ≤ h) (h2 : h ≤ n) : OQ P ⟨dst, .slice ty x lo hi none, rt, pos, after, guard⟩ t m (.slice (some ⟨b, o + l.toNat * z, none⟩) (h.toNat - l.toNat) (n - l.toNat)) := by
 intro ρ a w ht hm
 obtain ⟨e, e1, e2, e3⟩ := elemOf_array hf
 obtain ⟨pl, hp', ⟨_, _, _, _, _, _, hesz, _⟩, _⟩ := hm b blk hb
 obtain ⟨pl2, hp, he⟩ := (hx ▸ ht.ev x).ptr_inv
 cases Option.some.inj (hp'.symm.trans hp)
 refine ⟨.slice (if n = l.toNat then some ⟨pl.blk, o + pl.sh, none⟩ else some ((⟨pl.blk, o + pl.sh, none⟩ : Addr).add (l.toNat * z))) (h.toNat - l.toNat) (n - l.toNat), ?_, fun w' _ => ?_⟩
 ·by_cases hcl : n = l.toNat
  ·rw [if_pos hcl, show h.toNat - l.toNat = 0 by omega, show n - l.toNat = 0 by omega]
   exact .empty
  ·rw [if_neg hcl]
   have : (⟨pl.blk, o + pl.sh, none⟩ : Addr).add (l.toNat * z) = ⟨pl.blk, (o + l.toNat * z) + pl.sh, none⟩ := by
    unfold Addr.add
    split
    ·rename_i h; rw [h]; simp
    ·simp; omega
   rw [this]
   exact .slice hp (by omega) (fun _ => Nat.le_refl _) (fun hne => by rw [← hesz, hz] at hne; exact absurd rfl hne)
 ·simp only [execOp, Instr.sliceAt, he, Sem.run_bind, run_und e1, Result.andThen_ok, Instr.sureAddr, Sem.run_pure, Option.map_none, run_bounds2 ht hl hh h0 h1 h2 (Nat.le_refl n), run_size e2]
  split <;> simp [go_sem, *]
end ops
def bytesOf' (P : Program) (t : TypeId) : Option Nat := (P.info? t).map (·.bytes)
def elemT (P : Program) (s : TypeId) : Option TypeId := match P.underlying s with | some (.slice e) => some e | _ => none
theorem St.drew {E : Env} {ρ : Ren} {m : Mem} {w : World} (h : St E ρ m w) : St E ρ m w.drew := ⟨h.os, h.tape, ⟨h.output.1, Nat.le_trans h.output.2 (Nat.le_succ _)⟩, h.size, h.same, h.ext, h.len, h.dom, h.mem, h.fresh⟩
theorem Mem.at_setnone {m : Mem} {b k : Nat} : Mem.at (m.set b none) k = if k = b then none else m.at k := by
 by_cases hb : b < m.length
 ·exact Mem.at_set hb
 ·rw [List.set_eq_of_length_le (by omega)]
  split
  ·rename_i h
   subst h
   unfold Mem.at
   rw [List.getD_eq_getElem?_getD, List.getElem?_eq_none (by omega)]
   rfl
  ·rfl
theorem St.forget {E : Env} {ρ : Ren} {m : Mem} {w : World} (h : St E ρ m w) (b : Nat) : St E ρ (m.set b none) w := by
 refine ⟨h.os, h.tape, h.output, h.size, h.same, h.ext, by simpa using h.len, fun b pl hb => by simpa using h.dom b pl hb, fun k bk hk => ?_, fun k bk pl hk ho hp => ?_⟩
 ·rw [Mem.at_setnone] at hk
  split at hk
  ·cases hk
  ·obtain ⟨pl, hp, hbr, hown⟩ := h.mem k bk hk
   refine ⟨pl, hp, hbr, fun ho b' blk' pl' hne hb' hp' => ?_⟩
   rw [Mem.at_setnone] at hb'
   split at hb'
   ·cases hb'
   ·exact hown ho b' blk' pl' hne hb' hp'
 ·rw [Mem.at_setnone] at hk
  split at hk
  ·cases hk
  ·exact h.fresh k bk pl hk ho hp
theorem St.renew {E : Env} {ρ : Ren} {m : Mem} {w w' : World} {b : Nat} {blk : Blk} {pl : Pl} {cs' : List Value} (h : St E ρ m w) (hb : m.at b = some blk) (ho : blk.own = true) (hp : ρ b = some pl)
  {c c' : Array Value} {ty : TypeId} {fr : Nat × Nat} (hc : w.heap[pl.blk]? = some (.cells c ty fr)) (hc' : w'.heap[pl.blk]? = some (.cells c' ty fr)) (hsz : c'.size = c.size)
  (hcell : ∀ (i : Nat) (v : Value), cs'[i]? = some v → ∃ v', c'[i]? = some v' ∧ VRel ρ v v')
  (hfar : ∀ k, k ≠ pl.blk → w'.heap[k]? = w.heap[k]?) (hs : w'.heap.size = w.heap.size) (h1 : w'.os = w.os) (h2 : w'.tape = w.tape) (h3 : w'.output = w.output ∧ w.drawn ≤ w'.drawn) :
  St E (ρ.new m.length pl) (m.set b none ++ [some ⟨cs', true, blk.esz⟩]) w' := by
 have hlt := Mem.at_lt hb
 have hlen : (m.set b none).length = m.length := by simp
 have he := h.ext_new pl
 obtain ⟨pl0, hp0, ⟨x0, c0, ty0, fr0, hc0, hx0, k1, k2, k3⟩, hown0⟩ := h.mem b blk hb
 cases Option.some.inj (hp0.symm.trans hp)
 rw [hc] at hc0
 cases hc0
 obtain ⟨ho0, rfl, rfl, rfl⟩ := hx0.plain
 obtain ⟨j0, j1, j2⟩ := k3 ho
 refine ⟨h1.trans h.os, h2.trans h.tape, ⟨h3.1.trans h.output.1, Nat.le_trans h.output.2 h3.2⟩, by rw [hs]; exact h.size, fun k hk hks => ?_, h.ext_keep _, by have := h.len; simp; omega, fun k pl' hk => ?_, ?_, ?_⟩
 ·rw [hfar k ?_]
  ·exact h.same k hk hks
  ·rintro rfl
   rcases h.fresh b blk pl hb ho hp with hf | hf
   ·omega
   ·exact hks hf
 ·unfold Ren.new at hk
  split at hk
  ·simp; omega
  ·have := h.dom k pl' hk
   simp; omega
 ·intro k bk hk
  rw [Mem.at_snoc, hlen, Mem.at_setnone] at hk
  split at hk
  ·rename_i hkm
   cases Option.some.inj hk
   refine ⟨pl, by simp [Ren.new, hkm], ⟨.cells c' _ _, c', _, _, hc', rfl, k1, fun i v hv => ?_, fun _ => ⟨j0, by rw [hsz]; exact j1, j2⟩⟩, fun _ b' blk' pl' hne hb' hp' => ?_⟩
   ·obtain ⟨v', q1, q2⟩ := hcell i v hv
    exact ⟨v', by rw [j0]; exact q1, q2.ext he⟩
   ·rw [Mem.at_snoc, hlen, if_neg (by omega), Mem.at_setnone] at hb'
    unfold Ren.new at hp'
    rw [if_neg (by omega)] at hp'
    split at hb'
    ·cases hb'
    ·rename_i hb'b
     exact hown0 ho b' blk' pl' hb'b hb' hp'
  ·rename_i hkm
   split at hk
   ·cases hk
   ·rename_i hkb
    obtain ⟨pl', hp', hbr, hown⟩ := h.mem k bk hk
    have hne : pl'.blk ≠ pl.blk := hown0 ho k bk pl' hkb hk hp'
    refine ⟨pl', he k pl' hp', hbr.ext he (hfar _ hne), fun ho' b' blk' pl'' hne' hb' hp'' => ?_⟩
    rw [Mem.at_snoc, hlen, Mem.at_setnone] at hb'
    unfold Ren.new at hp''
    split at hb'
    ·rename_i hbm
     rw [if_pos hbm] at hp''
     cases Option.some.inj hp''
     exact Ne.symm hne
    ·rename_i hbm
     rw [if_neg hbm] at hp''
     split at hb'
     ·cases hb'
     ·exact hown ho' b' blk' pl'' hne' hb' hp''
 ·intro k bk pl' hk hko hkp
  rw [Mem.at_snoc, hlen, Mem.at_setnone] at hk
  unfold Ren.new at hkp
  split at hk
  ·rename_i hkm
   rw [if_pos hkm] at hkp
   cases Option.some.inj hkp
   exact h.fresh b blk pl hb ho hp
  ·rename_i hkm
   rw [if_neg hkm] at hkp
   split at hk
   ·cases hk
   ·exact h.fresh k bk pl' hk hko hkp
section app
variable {P : Program} {t : T} {m : Mem} {dst : Option Tmp} {st rt e : TypeId} {pos : String} {after : Array Edge} {guard : Option (Nat × Bool)} {x s : Operand} {zs : List Value} {z by' : Nat}
theorem info_of (hz : szOf P e = some z) (h0 : zeroOf P e = some zs) (hb : bytesOf' P e = some by') : ∃ i zv, P.info? e = some i ∧ i.zero = some zv ∧ i.size = z ∧ i.bytes = by' ∧ zv.cells = zs.toArray := by
 unfold szOf at hz
 unfold bytesOf' at hb
 unfold zeroOf at h0
 cases hi : P.info? e with
 | none => rw [hi] at hz; cases hz
 | some i =>
  rw [hi] at hz hb h0
  cases hzv : i.zero with
  | none => simp [hzv] at h0
  | some zv =>
   simp [hzv] at h0
   simp only [Option.map_some, Option.some.injEq] at hz hb
   exact ⟨i, zv, rfl, hzv, hz, hb, by rw [← h0]⟩
theorem elemT_spec (h : elemT P st = some e) : P.underlying st = some (.slice e) := by
 unfold elemT at h
 split at h
 ·rename_i e' hu
  cases Option.some.inj h
  exact hu
 ·cases h
theorem all_one {ρ : Ren} {vs vs' : List Value} (h1 : vs.all one = true) (hl : vs.length = vs'.length) (hr : ∀ (i : Nat) (u : Value), vs[i]? = some u → ∃ u', vs'[i]? = some u' ∧ VRel ρ u u') : ∀ u ∈ vs', u.oneCell' = true := by
 intro u hu
 obtain ⟨i, hi, rfl⟩ := List.mem_iff_getElem.1 hu
 have hi' : i < vs.length := by omega
 obtain ⟨u', e1, e2⟩ := hr i vs[i] (List.getElem?_eq_getElem hi')
 rw [List.getElem?_eq_getElem hi] at e1
 cases Option.some.inj e1
 exact e2.one (List.all_eq_true.1 h1 _ (List.getElem_mem hi'))
theorem ld_some {b o n : Nat} {vs : List Value} (h : m.ld b o n = some vs) : ∃ blk, m.at b = some blk ∧ o + n ≤ blk.cells.length ∧ vs = (blk.cells.drop o).take n := by
 unfold Mem.ld at h
 cases hb : m.at b with
 | none => rw [hb] at h; cases h
 | some blk =>
  rw [hb] at h
  simp only at h
  split at h
  ·exact ⟨blk, rfl, by assumption, (Option.some.inj h).symm⟩
  ·cases h
theorem MRel.row {ρ : Ren} {w : World} (h : MRel ρ m w) {b o n : Nat} {pl : Pl} {vs : List Value} (hl : m.ld b o n = some vs) (hp : ρ b = some pl) :
  vs.length = n ∧ ∃ vs' : List Value, vs'.length = n ∧ (∀ (i : Nat) (u : Value), vs[i]? = some u → ∃ u', vs'[i]? = some u' ∧ VRel ρ u u') ∧ ∀ j v, vs'[j]? = some v → w.cell? ((⟨pl.blk, o + pl.sh, none⟩ : Addr).add j) = some v := by
 obtain ⟨blk, hb, hle, rfl⟩ := ld_some hl
 have hlen : ((blk.cells.drop o).take n).length = n := by simp; omega
 have hget : ∀ i, i < n → ∃ v, blk.cells[o + i]? = some v := fun i hi => ⟨_, List.getElem?_eq_getElem (by omega)⟩
 refine ⟨hlen, (List.range n).map fun i => (w.cell? ⟨pl.blk, (o + i) + pl.sh, none⟩).getD undef, by simp, fun i u hu => ?_, fun j v hj => ?_⟩
 ·have hi : i < n := by
   rcases Nat.lt_or_ge i n with h' | h'
   ·exact h'
   ·rw [List.getElem?_eq_none (by omega)] at hu; cases hu
  have hu' : blk.cells[o + i]? = some u := by
   rw [List.getElem?_take_of_lt hi, List.getElem?_drop] at hu
   exact hu
  obtain ⟨v', ⟨_, h1⟩, h2⟩ := h.cell (Same.refl ρ m w) hb hp hu'
  exact ⟨v', by simp [hi, h1], h2⟩
 ·have hi : j < n := by
   rcases Nat.lt_or_ge j n with h' | h'
   ·exact h'
   ·rw [List.getElem?_eq_none (by simp; omega)] at hj; cases hj
  simp only [List.getElem?_map, List.getElem?_range hi, Option.map_some, Option.some.injEq] at hj
  subst hj
  obtain ⟨v, hv⟩ := hget j hi
  obtain ⟨v', ⟨_, h0⟩, _⟩ := h.cell (Same.refl ρ m w) hb hp hv
  have e : (⟨pl.blk, o + pl.sh, none⟩ : Addr).add j = ⟨pl.blk, o + j + pl.sh, none⟩ := by
   unfold Addr.add
   split
   ·rename_i hj0; subst hj0; simp
   ·simp; omega
  rw [e, h0]; rfl
theorem zero_room {zv : Value} (h : zv.cells = zs.toArray) (hzl : zs.length = z) (k n : Nat) : (Builtin.zeroCells zv.cells n).size = n * z := by simp [Builtin.zeroCells, h, hzl]
theorem OW.appendNil {b o k c : Nat} {vs : List Value} (hs : t.ev s = .slice none 0 0) (hx : t.ev x = .slice (some ⟨b, o, none⟩) k c) (he : elemT P st = some e) (hz : szOf P e = some z) (h0 : zeroOf P e = some zs) (hzl : zs.length = z) (hb : bytesOf' P e = some by')
  (hk : 0 < k) (hl : m.ld b o (k * z) = some vs) (hsm : k * by' ≤ 140737488355328) (hsm' : k ≤ 4611686018427387904) :
  OW P ⟨dst, .call ⟨.builtin .append, #[s, x], #[st, st]⟩, rt, pos, after, guard⟩ t m (.slice (some ⟨m.length, 0, none⟩) k INF) (m ++ [some ⟨vs, true, z⟩]) := by
 intro E ρ a w ht hst
 obtain ⟨i, zv, i1, i2, i3, i4, i5⟩ := info_of hz h0 hb
 have e1 := (hs ▸ ht.ev s).nil_inv
 rcases (hx ▸ ht.ev x).slice_inv with ⟨pl, c', hp, g1, g2, g3, e2⟩ | ⟨h, _⟩
 ·obtain ⟨l1, vs', l2, l3, l4⟩ := hst.mem.row hl hp
  have hrun := run_append_nil (P := P) (w := w) st rt e i zv (elemT_spec he) i1 i2 ⟨pl.blk, o + pl.sh, none⟩ k c' vs' (by rw [l2, i3]) l4 hk (by omega) (by rw [i4]; omega)
  have hg := grownCap_ge w k 0 e
  refine ⟨.slice (some ⟨w.heap.size, 0, none⟩) k (grownCap w k 0 e), _, ρ.new m.length ⟨w.heap.size, 0, z, (vs'.toArray ++ Builtin.zeroCells zv.cells (grownCap w k 0 e - k)).size⟩, .inl ?_, ?_, ?_, (hst.drew).new (ty := e) (esz := z) (c := vs'.toArray ++ Builtin.zeroCells zv.cells (grownCap w k 0 e - k)) fun j v hv => ?_⟩
  ·simp only [execOp, resolve, invoke, builtin, e1, e2, Sem.run_bind, Sem.run_pure, Result.andThen_ok, List.map_toArray, List.map_cons, List.map_nil]
   erw [hrun]
   rfl
  ·exact hst.drew.ext_new _
  ·refine VRel.slice (ρ := ρ.new m.length ⟨w.heap.size, 0, z, (vs'.toArray ++ Builtin.zeroCells zv.cells (grownCap w k 0 e - k)).size⟩) (pl := ⟨w.heap.size, 0, z, (vs'.toArray ++ Builtin.zeroCells zv.cells (grownCap w k 0 e - k)).size⟩) (b := m.length) (o := 0) (c := INF) (by unfold Ren.new; rw [if_pos rfl]) hg (fun h => absurd h (by decide)) (fun _ => ?_)
   simp only [Array.size_append, List.size_toArray, l2, zero_room i5 hzl 0, Nat.zero_add]
   rw [← Nat.add_mul]
   exact Nat.mul_le_mul_right _ (by omega)
  ·obtain ⟨v', q1, q2⟩ := l3 j v hv
   refine ⟨v', ?_, q2⟩
   rw [Array.getElem?_append_left (by have := (List.getElem?_eq_some_iff.1 q1).1; simpa using this)]
   simpa using q1
 ·omega
theorem OQ.append0 {v : Value} {n c : Nat} {sa xa : Option Addr} {xc : Nat} (hs : t.ev s = .slice sa n c) (hx : t.ev x = .slice xa 0 xc) (he : elemT P st = some e) (hz : szOf P e = some z) :
  OQ P ⟨dst, .call ⟨.builtin .append, #[s, x], #[st, st]⟩, rt, pos, after, guard⟩ t m (.slice sa n c) := by
 intro ρ a w ht hm
 have hr := hs ▸ ht.ev s
 have h1 : ∃ a' c', a.eval s = .slice a' n c' ∧ n ≤ c' := by
  generalize a.eval s = v at hr
  cases hr with
  | scal h =>
   refine ⟨_, _, rfl, ?_⟩
   cases sa with
   | some _ => simp [Ab.scal] at h
   | none =>
    cases n with
    | zero => exact Nat.zero_le _
    | succ n => simp [Ab.scal] at h
  | slice _ g _ _ => exact ⟨_, _, rfl, g⟩
  | empty => exact ⟨_, _, rfl, Nat.le_refl _⟩
  | lost => exact ⟨_, _, rfl, Nat.zero_le _⟩
 have h2 : ∃ a' c', a.eval x = .slice a' 0 c' := by
  have hr := hx ▸ ht.ev x
  generalize a.eval x = v at hr
  cases hr with
  | scal h => exact ⟨_, _, rfl⟩
  | slice => exact ⟨_, _, rfl⟩
  | empty => exact ⟨_, _, rfl⟩
  | lost => exact ⟨_, _, rfl⟩
 obtain ⟨a1, c1, e1, hle⟩ := h1
 obtain ⟨a2, c2, e2⟩ := h2
 refine ⟨.slice a1 n c1, e1 ▸ hr, fun w' _ => ?_⟩
 have hsz := run_size (P := P) (w := w') hz
 have hf : (Builtin.firstCells z 0 (.slice a2 0 c2)).run P w' = .ok #[] w' := by
  cases a2 <;> simp [Builtin.firstCells, loadCells, loadCellsFrom, Sem.run_pure]
 simp only [execOp, resolve, invoke, builtin, e1, e2, Sem.run_bind, Sem.run_pure, Result.andThen_ok, List.map_toArray, List.map_cons, List.map_nil]
 have : (Builtin.append_ #[st, st] rt #[.slice a1 n c1, .slice a2 0 c2]).run P w' = .ok (.slice a1 n c1) w' := by
  cases a1 <;> simp [Builtin.append_, run_underlying (elemT_spec he), hsz, Builtin.lenOf, hle, hf, storeCells]
 erw [this]
 rfl
theorem OW.append {b n c bx ox k cx : Nat} {vs : List Value} {blk : Blk} (hs : t.ev s = .slice (some ⟨b, 0, none⟩) n c) (hx : t.ev x = .slice (some ⟨bx, ox, none⟩) k cx) (he : elemT P st = some e) (hz : szOf P e = some z) (h0 : zeroOf P e = some zs) (hzl : zs.length = z) (hby : bytesOf' P e = some by')
  (hk : 0 < k) (hb : m.at b = some blk) (ho : blk.own = true) (hesz : blk.esz = z) (hz0 : z ≠ 0) (hn : n * z ≤ blk.cells.length) (hl : m.ld bx ox (k * z) = some vs) (h1 : vs.all one = true) (hsm : (n + k) * by' ≤ 140737488355328) (hsm' : n + k ≤ 4611686018427387904) (hpl0 : blk.obj.o = none := by rfl) :
  OW P ⟨dst, .call ⟨.builtin .append, #[s, x], #[st, st]⟩, rt, pos, after, guard⟩ t m (.slice (some ⟨m.length, 0, none⟩) (n + k) INF) (m.set b none ++ [some ⟨blk.cells.take (n * z) ++ vs, true, z⟩]) := by
 intro E ρ a w ht hst
 obtain ⟨i, zv, i1, i2, i3, i4, i5⟩ := info_of hz h0 hby
 rcases (hx ▸ ht.ev x).slice_inv with ⟨plx, cx', hpx, _, _, _, e2⟩ | ⟨h, _⟩
 case inr => omega
 obtain ⟨l1, vs', l2, l3, l4⟩ := hst.mem.row hl hpx
 have hones := all_one h1 (by rw [l1, l2]) l3
 have hlo : m.ld b 0 (n * z) = some (blk.cells.take (n * z)) := by
  unfold Mem.ld
  rw [hb]
  simp [hn]
 have hlen : (m.set b none).length = m.length := by simp
 -- a new block
 have grow : ∀ (a' : Addr) (c' : Nat) (os' : List Value), a.eval s = .slice (some a') n c' → os'.length = n * z → (∀ (i : Nat) (u : Value), (blk.cells.take (n * z))[i]? = some u → ∃ u', os'[i]? = some u' ∧ VRel ρ u u') →
   (∀ j v, os'[j]? = some v → w.cell? (a'.add j) = some v) → c' < n + k →
   ∃ v' w' ρ', ((execOp a.eval ⟨dst, .call ⟨.builtin .append, #[s, x], #[st, st]⟩, rt, pos, after, guard⟩).run P w = .ok (.value v') w' ∨ ((execOp a.eval ⟨dst, .call ⟨.builtin .append, #[s, x], #[st, st]⟩, rt, pos, after, guard⟩).run P w = .ok .skip w' ∧ v' = undef)) ∧
    Ext ρ ρ' ∧ VRel ρ' (.slice (some ⟨m.length, 0, none⟩) (n + k) INF) v' ∧ St E ρ' (m.set b none ++ [some ⟨blk.cells.take (n * z) ++ vs, true, z⟩]) w' := by
  intro a' c' os' e1 o1 o2 o3 hlt
  have hrun := run_append_grow (P := P) (w := w) st rt e i zv (elemT_spec he) i1 i2 a' n c' os' (by rw [o1, i3]) o3 ⟨plx.blk, ox + plx.sh, none⟩ k cx' vs' (by rw [l2, i3]) l4 hlt (by omega) (by rw [i4]; exact growslice_fits hlt hsm)
  have hg := grownCap_ge w (n + k) c' e
  have hnew := ((hst.forget b).drew).new (ty := e) (esz := z) (c := os'.toArray ++ vs'.toArray ++ Builtin.zeroCells zv.cells (grownCap w (n + k) c' e - (n + k))) (cells := blk.cells.take (n * z) ++ vs) fun j v hv => by
   rw [List.getElem?_append] at hv
   have hl0 : (blk.cells.take (n * z)).length = n * z := by simp; omega
   split at hv
   ·rename_i hj
    obtain ⟨v', q1, q2⟩ := o2 j v hv
    refine ⟨v', ?_, q2⟩
    rw [Array.getElem?_append_left (by simp; omega), Array.getElem?_append_left (by simp; omega)]
    simpa using q1
   ·rename_i hj
    obtain ⟨v', q1, q2⟩ := l3 _ v hv
    have := (List.getElem?_eq_some_iff.1 q1).1
    refine ⟨v', ?_, q2⟩
    rw [Array.getElem?_append_left (by simp; omega), Array.getElem?_append_right (by simp; omega)]
    simpa [o1, hl0] using q1
  rw [hlen] at hnew
  refine ⟨.slice (some ⟨w.heap.size, 0, none⟩) (n + k) (grownCap w (n + k) c' e), _, ρ.new m.length ⟨w.heap.size, 0, z, (os'.toArray ++ vs'.toArray ++ Builtin.zeroCells zv.cells (grownCap w (n + k) c' e - (n + k))).size⟩, .inl ?_, ?_, ?_, hnew⟩
  ·simp only [execOp, resolve, invoke, builtin, e1, e2, Sem.run_bind, Sem.run_pure, Result.andThen_ok, List.map_toArray, List.map_cons, List.map_nil]
   erw [hrun]
   rfl
  ·have := (hst.forget b).drew.ext_new ⟨w.drew.heap.size, 0, z, (os'.toArray ++ vs'.toArray ++ Builtin.zeroCells zv.cells (grownCap w (n + k) c' e - (n + k))).size⟩
   rw [hlen] at this
   exact this
  ·refine VRel.slice (ρ := ρ.new m.length ⟨w.heap.size, 0, z, (os'.toArray ++ vs'.toArray ++ Builtin.zeroCells zv.cells (grownCap w (n + k) c' e - (n + k))).size⟩) (pl := ⟨w.heap.size, 0, z, (os'.toArray ++ vs'.toArray ++ Builtin.zeroCells zv.cells (grownCap w (n + k) c' e - (n + k))).size⟩) (b := m.length) (o := 0) (c := INF) (by unfold Ren.new; rw [if_pos rfl]) hg (fun h => absurd h (by decide)) (fun _ => ?_)
   simp only [Array.size_append, List.size_toArray, l2, o1, zero_room i5 hzl 0, Nat.zero_add]
   rw [← Nat.add_mul, ← Nat.add_mul]
   exact Nat.mul_le_mul_right _ (by omega)
 rcases (hs ▸ ht.ev s).slice_inv with ⟨pl, c', hp, g1, g2, g3, e1⟩ | ⟨rfl, a', e1⟩
 ·obtain ⟨pl0, hp0, hbr0, hown0⟩ := hst.mem b blk hb
  obtain ⟨c0, ty0, fr0, k0, k1, k2, k3⟩ := hbr0.row (.inl hpl0)
  cases Option.some.inj (hp0.symm.trans hp)
  obtain ⟨j0, j1, j2⟩ := k3 ho
  subst j2
  obtain ⟨m1, os', m2, m3, m4⟩ := hst.mem.row hlo hp
  by_cases hroom : n + k ≤ c'
  ·have hpe : pl.esz = z := by rw [← k1, hesz]
   have htot := g3 (by rw [hpe]; exact hz0)
   rw [hpe, j0, ← j1] at htot
   have hmul : (n + k) * z ≤ c' * z := Nat.mul_le_mul_right _ hroom
   rw [Nat.add_mul] at hmul
   obtain ⟨w', r1, r2, r3, r4, r5, r6, r7⟩ := run_stores (P := P) pl.blk (n * z) ty0 (0, 0) vs' 0 c0 w k0 (fun j _ => by simp) (by rw [l2]; omega) hones
   have hadd : (⟨pl.blk, 0, none⟩ : Addr).add (n * z) = ⟨pl.blk, n * z, none⟩ := by
    unfold Addr.add
    split
    ·rename_i h; rw [h]
    ·simp
   have hf := run_firstCells_some (P := P) w z k ⟨plx.blk, ox + plx.sh, none⟩ k cx' vs' l2 l4
   refine ⟨.slice (some ⟨pl.blk, 0, none⟩) (n + k) c', w', ρ.new m.length pl, .inl ?_, hst.ext_new pl, ?_, ?_⟩
   ·simp only [execOp, resolve, invoke, builtin, e1, e2, Sem.run_bind, Sem.run_pure, Result.andThen_ok, List.map_toArray, List.map_cons, List.map_nil]
    have : (Builtin.append_ #[st, st] rt #[.slice (some ⟨pl.blk, 0 + pl.sh, none⟩) n c', .slice (some ⟨plx.blk, ox + plx.sh, none⟩) k cx']).run P w = .ok (.slice (some ⟨pl.blk, 0, none⟩) (n + k) c') w' := by
     simp [Builtin.append_, run_underlying (elemT_spec he), run_size hz, Builtin.lenOf, hroom, hf, j0, hadd, r1]
    erw [this]
    rfl
   ·have := VRel.slice (ρ := ρ.new m.length pl) (b := m.length) (o := 0) (n := n + k) (c := INF) (c' := c') (pl := pl) (by unfold Ren.new; rw [if_pos rfl]) hroom (fun h => absurd h (by decide)) g3
    rw [j0] at this
    exact this
   ·rw [← hesz]
    refine hst.renew hb ho hp k0 r2 (by simp [putAt_length]) (fun q v hv => ?_) r3 r4 r5 r6 r7
    have hl0 : (blk.cells.take (n * z)).length = n * z := by simp; omega
    rw [List.getElem?_append] at hv
    rw [List.getElem?_toArray, putAt_get]
    simp only [Nat.add_zero, Array.length_toList]
    rw [hesz] at hv
    split at hv
    ·rename_i hq
     rw [if_neg (by omega)]
     have hv' : blk.cells[q]? = some v := by
      rw [List.getElem?_take_of_lt (by omega)] at hv
      exact hv
     obtain ⟨v', q1, q2⟩ := k2 q v hv'
     rw [j0] at q1
     exact ⟨v', by simpa using q1, q2⟩
    ·rename_i hq
     obtain ⟨v', q1, q2⟩ := l3 _ v hv
     have := (List.getElem?_eq_some_iff.1 q1).1
     rw [hl0] at q1 this hq
     rw [if_pos (by omega)]
     exact ⟨v', q1, q2⟩
  ·exact grow _ c' os' e1 m2 m3 m4 (by omega)
 ·exact grow a' 0 [] e1 (by simp) (fun i u hu => by simp at hu) (fun j v hv => by simp at hv) (by omega)
end app
end Ab
end Go
/- The small memory, part 10: what is forgotten at a loop's head and at a function's end; calls that make memory. -/
namespace Go
open Go.RowKit
namespace Ab
def fgt : List Bool → T → T
 | b :: bs, v :: t => (if b then v else jk) :: fgt bs t
 | [], t => t
 | _ :: _, [] => []
theorem fgt_length : ∀ (bs : List Bool) (t : T), (fgt bs t).length = t.length
 | [], t => rfl
 | b :: bs, [] => rfl
 | b :: bs, v :: t => by simp [fgt, fgt_length bs t]
theorem fgt_get : ∀ (bs : List Bool) (t : T) (i : Nat) (v : Value), (fgt bs t)[i]? = some v → v = jk ∨ t[i]? = some v
 | [], t, i, v, h => .inr h
 | b :: bs, [], i, v, h => by simp [fgt] at h
 | b :: bs, u :: t, i, v, h => by
  cases i with
  | zero =>
   simp only [fgt, List.getElem?_cons_zero, Option.some.injEq] at h ⊢
   cases b
   ·exact .inl h.symm
   ·exact .inr h
  | succ i => exact fgt_get bs t i v (by simpa [fgt] using h)
theorem Wk.forget {E : Env} {t : T} {m : Mem} (bs : List Bool) {t' : T} (h : fgt bs t = t') : Wk E t m t' m := by
 subst h
 intro ρ tmps w ht hs
 refine ⟨ρ, ⟨by rw [fgt_length]; exact ht.1, fun i v hv => ?_⟩, hs⟩
 rcases fgt_get bs t i v hv with rfl | hv
 ·have hi : i < (fgt bs t).length := (List.getElem?_eq_some_iff.1 hv).1
  rw [fgt_length, ht.1] at hi
  exact ⟨tmps[i], by simp [hi], .jk _⟩
 ·exact ht.2 i v hv
def cellsRen (σ : Nat → Nat) (n : Nat) (cs' cs : List Value) : Prop := (cs' = cs ∧ cs'.all scal = true) ∨ (cs'.map (rn1 σ) = cs ∧ cs'.all (ok1 n) = true)
def memRen (σ : Nat → Nat) (n : Nat) (m : Mem) : Nat → Mem → Prop
 | _, [] => True
 | k, none :: rest => memRen σ n m (k + 1) rest
 | k, some blk' :: rest => (∃ blk, m.at (σ k) = some blk ∧ blk.own = blk'.own ∧ blk.shp = blk'.shpR σ n ∧ cellsRen σ n blk'.cells blk.cells) ∧ memRen σ n m (k + 1) rest
theorem memRen_get {σ : Nat → Nat} {n : Nat} {m : Mem} : ∀ (m' : Mem) (k : Nat), memRen σ n m k m' → ∀ b blk', m'.at b = some blk' → ∃ blk, m.at (σ (k + b)) = some blk ∧ blk.own = blk'.own ∧ blk.shp = blk'.shpR σ n ∧ cellsRen σ n blk'.cells blk.cells
 | [], k, _, b, blk', hb => by simp [Mem.at] at hb
 | none :: rest, k, h, b, blk', hb => by
  cases b with
  | zero => simp [Mem.at] at hb
  | succ b =>
   have := memRen_get rest (k + 1) h b blk' (by simpa [Mem.at] using hb)
   rwa [show k + 1 + b = k + (b + 1) by omega] at this
 | some blk0 :: rest, k, h, b, blk', hb => by
  cases b with
  | zero =>
   simp [Mem.at] at hb
   subst hb
   exact h.1
  | succ b =>
   have := memRen_get rest (k + 1) h.2 b blk' (by simpa [Mem.at] using hb)
   rwa [show k + 1 + b = k + (b + 1) by omega] at this
theorem cellsRen_get {σ : Nat → Nat} {n : Nat} {cs' cs : List Value} (h : cellsRen σ n cs' cs) {i : Nat} {v : Value} (hv : cs'[i]? = some v) : cs[i]? = some (rn1 σ v) ∧ ok1 n v = true := by
 rcases h with ⟨rfl, hs⟩ | ⟨rfl, hs⟩
 ·have := List.all_eq_true.1 hs v (List.mem_of_getElem? hv)
  rw [rn1_scal this]
  refine ⟨hv, ?_⟩
  unfold ok1
  split <;> first | exact this | (simp [Ab.scal] at this)
 ·exact ⟨by simp [hv], List.all_eq_true.1 hs v (List.mem_of_getElem? hv)⟩
inductive RenT (σ : Nat → Nat) (n : Nat) : T → T → Prop
 | nil : RenT σ n [] []
 | jk {v : Value} {t' t : T} (h : RenT σ n t' t) : RenT σ n (jk :: t') (v :: t)
 | val {v v' : Value} {t' t : T} (h1 : rn3 σ v' = v) (h2 : ok3 n v' = true) (h : RenT σ n t' t) : RenT σ n (v' :: t') (v :: t)
theorem RenT.rel {σ : Nat → Nat} {n : Nat} {t' t : T} (h : RenT σ n t' t) : t'.length = t.length ∧ ∀ (i : Nat) (v' : Value), t'[i]? = some v' → v' = Ab.jk ∨ (t[i]? = some (rn3 σ v') ∧ ok3 n v' = true) := by
 induction h with
 | nil => exact ⟨rfl, fun i v h => by simp at h⟩
 | jk _ ih =>
  refine ⟨by simp [ih.1], fun i v' hv => ?_⟩
  cases i with
  | zero => simp at hv; exact .inl hv.symm
  | succ i => exact ih.2 i v' (by simpa using hv)
 | val h1 h2 _ ih =>
  refine ⟨by simp [ih.1], fun i v' hv => ?_⟩
  cases i with
  | zero => simp at hv; subst hv; exact .inr ⟨by simp [h1], h2⟩
  | succ i => exact ih.2 i v' (by simpa using hv)
theorem St.ren {E : Env} {ρ : Ren} {m m' : Mem} {w : World} (σ : Nat → Nat) (hm : memRen σ m'.length m 0 m') (hid : ∀ b, b < E.n0 → b < m'.length ∧ σ b = b)
  (hinj : ∀ b b', b < m'.length → b' < m'.length → σ b = σ b' → b = b') (h : St E ρ m w) : St E (ρ.via m'.length σ) m' w := by
 refine ⟨h.os, h.tape, h.output, h.size, h.same, fun b hb => ?_, Nat.le_of_not_lt fun hlt => absurd (hid _ hlt).1 (Nat.lt_irrefl _), fun b pl hb => ?_, fun b blk' hb => ?_, fun b blk' pl hb ho hp => ?_⟩
 ·obtain ⟨h1, h2⟩ := hid b hb
  rw [via_get h1, h2]
  exact h.ext b hb
 ·unfold Ren.via at hb
  split at hb
  ·assumption
  ·cases hb
 ·obtain ⟨blk, g1, g2, g3, g4⟩ := memRen_get m' 0 hm b blk' hb
  rw [Nat.zero_add] at g1
  obtain ⟨pl, hp, ⟨x, c, ty, fr, k0, kx, k1, k2, k3⟩, hown⟩ := h.mem _ blk g1
  have hlt := Mem.at_lt hb
  obtain ⟨g3, hrow⟩ := shp_eq g3
  refine ⟨pl, by rw [via_get hlt]; exact hp, ⟨x, c, ty, fr, k0, hrow _ _ _ _ _ _ (fun b hb => via_get hb) kx, g3 ▸ k1, fun i v hv => ?_, fun ho => k3 (g2.trans ho)⟩, fun ho b2 blk2 pl2 hne hb2 hp2 => ?_⟩
  ·obtain ⟨q1, q2⟩ := cellsRen_get g4 hv
   obtain ⟨v', q3, q4⟩ := k2 i _ q1
   exact ⟨v', q3, rn1_to q4 q2⟩
  ·obtain ⟨blk3, j1, j2, j3, j4⟩ := memRen_get m' 0 hm b2 blk2 hb2
   rw [Nat.zero_add] at j1
   have hlt2 := Mem.at_lt hb2
   rw [via_get hlt2] at hp2
   exact hown (g2.trans ho) (σ b2) blk3 pl2 (fun e => hne (hinj b2 b hlt2 hlt e)) j1 hp2
 ·obtain ⟨blk, g1, g2, g3, g4⟩ := memRen_get m' 0 hm b blk' hb
  rw [Nat.zero_add] at g1
  rw [via_get (Mem.at_lt hb)] at hp
  exact h.fresh _ blk pl g1 (g2.trans ho) hp
theorem Wk.ren {E : Env} {t t' : T} {m m' : Mem} (σ : Nat → Nat) (ht : RenT σ m'.length t' t) (hm : memRen σ m'.length m 0 m') (hid : ∀ b, b < E.n0 → b < m'.length ∧ σ b = b)
  (hinj : ∀ b b', b < m'.length → b' < m'.length → σ b = σ b' → b = b') : Wk E t m t' m' := by
 intro ρ tmps w htr hs
 refine ⟨ρ.via m'.length σ, ⟨ht.rel.1.trans htr.1, fun i v' hv => ?_⟩, hs.ren σ hm hid hinj⟩
 rcases ht.rel.2 i v' hv with rfl | ⟨h1, h2⟩
 ·have hi : i < t'.length := (List.getElem?_eq_some_iff.1 hv).1
  rw [ht.rel.1, htr.1] at hi
  exact ⟨tmps[i], by simp [hi], .jk _⟩
 ·obtain ⟨u, q1, q2⟩ := htr.2 i _ h1
  exact ⟨u, q1, rn3_to q2 h2⟩
def FinA (P : Program) (E : Env) (fn : Func) (v : Value) (mE : Mem) : Post := fun e t m' => (e = .ret ∨ e = .normal) ∧ ∃ vs σ, ResR P t m' fn.results.toList vs ∧ rn3 σ v = pack vs ∧ ok3 mE.length v = true ∧ memRen σ mE.length m' 0 mE ∧
 (∀ b, b < E.n0 → b < mE.length ∧ σ b = b) ∧ ∀ b b', b < mE.length → b' < mE.length → σ b = σ b' → b = b'
theorem ACalls.body {P : Program} {f : FuncId} {fn : Func} {c : Code} {args : List Value} {m : Mem} {v : Value} {mE : Mem} (hf : P.funcs[f]? = some fn) (hb : fn.body = some c)
  (h : ∀ E : Env, E.n0 = m.length → AW P E c (args ++ List.replicate (fn.ntmps - args.length) undef) m (FinA P E fn v mE)) : ACalls P f args m v mE := by
 intro E0 ρ args' w ha hst
 refine calls_of_wp hf hb ?_
 have hsz : args.length = args'.size := by
  obtain ⟨xs', e, h1, _⟩ := ha.tuple_inv
  cases e
  simpa using h1
 let E : Env := ⟨E0.W, E0.S, ρ, m.length, hst.dom⟩
 refine wp_mono (h E rfl ρ _ w rfl ?_ ?_) ?_
 ·refine ⟨by simp [hsz], fun i u hu => ?_⟩
  obtain ⟨xs', e, h1, h2⟩ := ha.tuple_inv
  cases e
  simp only at hu ⊢
  rw [List.getElem?_append] at hu
  rw [Array.getElem?_append]
  split at hu
  ·rename_i hi
   rw [if_pos (by omega)]
   exact h2 i u (by simpa using hu)
  ·rename_i hi
   rw [if_neg (by omega)]
   rw [← hsz]
   rw [List.getElem?_replicate] at hu
   split at hu
   ·rename_i hi'
    cases Option.some.inj hu
    exact ⟨undef, by simp [hi'], .undef⟩
   ·cases hu
 ·exact ⟨hst.os, hst.tape, hst.output, hst.size, hst.same, fun _ _ => rfl, Nat.le_refl _, hst.dom, hst.mem, hst.fresh⟩
 ·rintro e a w' ⟨hd, ρ', t', m', ⟨he, vs, σ, hr, hv, hok, hren, hid, hinj⟩, ht, hs⟩
  obtain ⟨v', hrun, hvr⟩ := run_results (P := P) (w := w') ht hs.mem hr
  rw [← hv] at hvr
  have hvr' := rn3_to hvr hok
  have hs' := hs.ren σ hren hid hinj
  have hst' : St E0 (ρ'.via mE.length σ) mE w' := ⟨hs'.os, hs'.tape, hs'.output, hs'.size, hs'.same, fun b hb => (hs'.ext b (Nat.lt_of_lt_of_le hb hst.len)).trans (hst.ext b hb), Nat.le_trans hst.len hs'.len, hs'.dom, hs'.mem, hs'.fresh⟩
  rcases he with rfl | rfl
  ·exact bodyPost_ret hrun hd ⟨v', _, rfl, hs'.extE, hvr', hst'⟩
  ·exact bodyPost_end hrun hd ⟨v', _, rfl, hs'.extE, hvr', hst'⟩
theorem ACalls.enter {P : Program} {f : FuncId} {fn : Func} {c : Code} {args : List Value} {m : Mem} {v : Value} {mE : Mem} {t : T} (hf : P.funcs[f]? = some fn) (hb : fn.body = some c) (ht : args ++ List.replicate (fn.ntmps - args.length) undef = t)
  (h : ∀ E : Env, E.n0 = m.length → AW P E c t m (FinA P E fn v mE)) : ACalls P f args m v mE := ACalls.body hf hb (ht ▸ h)
def τn (τ : Nat → Nat) (n0 n : Nat) : Nat → Nat := fun b => if b < n0 then τ b else n + (b - n0)
def rnB (κ : Nat → Nat) (b : Blk) : Blk := @Blk.mk (b.cells.map (rn1 κ)) b.own b.esz (b.obj.ren κ)
structure LiesA (m0 m : Mem) (τ : Nat → Nat) : Prop where
 here : ∀ b, b < m0.length → ∃ blk, m0.at b = some blk
 cells : ∀ b blk, m0.at b = some blk → blk.cells.all (ok1 m0.length) = true
 blk : ∀ b blk, m0.at b = some blk → ∃ blk', m.at (τ b) = some blk' ∧ blk'.shp = blk.shpR τ m0.length ∧ (blk.own = true → blk'.own = true) ∧ ∀ (i : Nat) v, blk.cells[i]? = some v → blk'.cells[i]? = some (rn1 τ v)
 inj : ∀ b b' blk, m0.at b = some blk → blk.own = true → b' < m0.length → τ b = τ b' → b = b'
structure After (m0 m : Mem) (τ : Nat → Nat) (mE m' : Mem) (k : Nat) : Prop where
 len : mE.length = m0.length + k
 len' : m'.length = m.length + k
 old : ∀ b, b < m.length → (∀ c blk, m0.at c = some blk → blk.own = true → τ c ≠ b) → m'.at b = m.at b
 own : ∀ c blk, m0.at c = some blk → blk.own = true → m'.at (τ c) = (mE.at c).map (rnB (τn τ m0.length m.length))
 ro : ∀ c blk, m0.at c = some blk → blk.own = false → ∃ blk', mE.at c = some blk' ∧ blk'.own = false
 new : ∀ j, j < k → m'.at (m.length + j) = (mE.at (m0.length + j)).map (rnB (τn τ m0.length m.length))
 nown : ∀ c blk, mE.at c = some blk → (c < m0.length → ∃ b0, m0.at c = some b0 ∧ b0.own = true) → blk.own = true
 ok : ∀ c blk, mE.at c = some blk → blk.own = true → blk.cells.all (ok1 mE.length) = true
theorem rn1_ext {ρ ρ' : Ren} {κ : Nat → Nat} {n : Nat} (h : ∀ b pl, ρ b = some pl → b < n ∧ ρ' (κ b) = some pl) : Ext ρ (ρ'.via n κ) := fun b pl hb => by
 obtain ⟨h1, h2⟩ := h b pl hb
 rw [via_get h1]
 exact h2
theorem ACalls.via {P : Program} {f : FuncId} {args0 args : List Value} {m0 m mE m' : Mem} {v0 v : Value} {k : Nat} (τ : Nat → Nat) (h : ACalls P f args0 m0 v0 mE) (hl : LiesA m0 m τ) (ha : After m0 m τ mE m' k)
  (hargs : args0.map (rn3 τ) = args) (hk : args0.all (ok3 m0.length) = true) (hv : rn3 (τn τ m0.length m.length) v0 = v) (hkv : ok3 mE.length v0 = true) : ACalls P f args m v m' := by
 intro E ρ args' w hrel hst
 subst hargs
 subst hv
 have hτ : ∀ b, b < m0.length → τ b < m.length := fun b hb => by
  obtain ⟨blk, hblk⟩ := hl.here b hb
  obtain ⟨blk', h1, _⟩ := hl.blk b blk hblk
  exact Mem.at_lt h1
 -- the small memory as it lies
 let E1 : Env := ⟨w, fun x => ∃ b blk pl, m0.at b = some blk ∧ blk.own = true ∧ ρ (τ b) = some pl ∧ pl.blk = x, ρ.via m0.length τ, m0.length, fun b pl hb => by
  unfold Ren.via at hb
  split at hb
  ·assumption
  ·cases hb⟩
 have hst1 : St E1 (ρ.via m0.length τ) m0 w := by
  refine ⟨rfl, rfl, ⟨rfl, Nat.le_refl _⟩, Nat.le_refl _, fun _ _ _ => rfl, fun _ _ => rfl, Nat.le_refl _, E1.hdom, fun b blk hb => ?_, fun b blk pl hb ho hp => ?_⟩
  ·obtain ⟨blk', h1, h2, h3, h4⟩ := hl.blk b blk hb
   obtain ⟨pl, hp, ⟨x, c, ty, fr, g1, gx, g2, g3, g4⟩, g5⟩ := hst.mem _ _ h1
   obtain ⟨h2, hrow⟩ := shp_eq h2
   refine ⟨pl, by rw [via_get (Mem.at_lt hb)]; exact hp, ⟨x, c, ty, fr, g1, hrow _ _ _ _ _ _ (fun b hb => via_get hb) gx, by rw [← h2]; exact g2, fun i u hu => ?_, fun ho => g4 (h3 ho)⟩, fun ho b2 blk2 pl2 hne hb2 hp2 => ?_⟩
   ·obtain ⟨u', q1, q2⟩ := g3 i _ (h4 i u hu)
    exact ⟨u', q1, rn1_to q2 (List.all_eq_true.1 (hl.cells b blk hb) u (List.mem_of_getElem? hu))⟩
   ·rw [via_get (Mem.at_lt hb2)] at hp2
    obtain ⟨blk3, j1, _⟩ := hl.blk b2 blk2 hb2
    exact g5 (h3 ho) (τ b2) blk3 pl2 (fun e => hne (hl.inj b b2 blk hb ho (Mem.at_lt hb2) e.symm).symm) j1 hp2
  ·rw [via_get (Mem.at_lt hb)] at hp
   exact .inr ⟨b, blk, pl, hb, ho, hp, rfl⟩
 have hargs1 : VRel (ρ.via m0.length τ) (.tuple args0.toArray) (.tuple args') := by
  obtain ⟨xs', e, h1, h2⟩ := hrel.tuple_inv
  cases e
  refine .tuple (by simpa using h1) fun i hi hi' => ?_
  have hi0 : i < args0.length := by simpa using hi
  obtain ⟨u', e1, e2⟩ := h2 i (rn3 τ args0[i]) (by simp [hi0])
  have : u' = args'[i] := by
   rw [Array.getElem?_eq_getElem hi'] at e1
   exact (Option.some.inj e1).symm
  subst this
  simpa using rn3_to e2 (List.all_eq_true.1 hk _ (List.getElem_mem hi0))
 refine (h E1 _ args' w hargs1 hst1).mono ?_
 rintro e w' ⟨v', ρ2, rfl, hext, hvr, hs2⟩
 let ρ' : Ren := fun b => if b < m.length then ρ b else ρ2 (m0.length + (b - m.length))
 have hρ : Ext ρ ρ' := fun b pl hb => by
  show (if b < m.length then ρ b else _) = _
  rw [if_pos (hst.dom b pl hb)]
  exact hb
 have hold : ∀ b pl, b < m0.length → ρ2 b = some pl → ρ (τ b) = some pl := fun b pl hb hp => by
  obtain ⟨blk, hblk⟩ := hl.here b hb
  obtain ⟨pl0, hp0, _⟩ := hst1.mem b blk hblk
  have := hext b pl0 hp0
  rw [hp] at this
  cases Option.some.inj this
  rw [via_get hb] at hp0
  exact hp0
 have hκ : ∀ b pl, ρ2 b = some pl → b < mE.length ∧ ρ' (τn τ m0.length m.length b) = some pl := fun b pl hp => by
  refine ⟨hs2.dom b pl hp, ?_⟩
  unfold τn
  by_cases hb : b < m0.length
  ·rw [if_pos hb]
   show (if τ b < m.length then ρ (τ b) else _) = _
   rw [if_pos (hτ b hb)]
   exact hold b pl hb hp
  ·rw [if_neg hb]
   show (if m.length + (b - m0.length) < m.length then _ else ρ2 (m0.length + (m.length + (b - m0.length) - m.length))) = _
   rw [if_neg (by omega), show m0.length + (m.length + (b - m0.length) - m.length) = b by omega]
   exact hp
 have hκe : Ext ρ2 (ρ'.via mE.length (τn τ m0.length m.length)) := rn1_ext hκ
 have hsize : w.heap.size ≤ w'.heap.size := hs2.size
 -- blocks of the greater memory that the call does not own
 have hfar : ∀ b blk pl, m.at b = some blk → ρ b = some pl → (∀ c blk0, m0.at c = some blk0 → blk0.own = true → τ c ≠ b) → w'.heap[pl.blk]? = w.heap[pl.blk]? := fun b blk pl hb hp hno => by
  obtain ⟨pl0, hp0, hbr, _⟩ := hst.mem b blk hb
  cases Option.some.inj (hp0.symm.trans hp)
  refine hs2.same _ hbr.lt ?_
  rintro ⟨c, blk0, pl1, hc, hco, hc1, hc2⟩
  obtain ⟨blk1, j1, j2, j3, _⟩ := hl.blk c blk0 hc
  obtain ⟨pl2, hp2, _, hown⟩ := hst.mem _ _ j1
  cases Option.some.inj (hp2.symm.trans hc1)
  exact hown (j3 hco) b blk pl (fun e => hno c blk0 hc hco e.symm) hb hp hc2.symm
 -- a block that the call owns, or has made, seen from the greater memory
 have hmine : ∀ c b blk pl, mE.at c = some blk → blk.own = true → ρ2 c = some pl → b = τn τ m0.length m.length c → BRel ρ' (rnB (τn τ m0.length m.length) blk) pl w' := by
  rintro c b blk pl hc ho hp rfl
  obtain ⟨pl0, hp0, ⟨x, cc, ty, fr, k0, kx, k1, k2, k3⟩, _⟩ := hs2.mem c blk hc
  cases Option.some.inj (hp0.symm.trans hp)
  refine ⟨x, cc, ty, fr, k0, kx.map (fun b pl hb => (hκ b pl hb).2), k1, fun i u hu => ?_, k3⟩
  simp only [rnB, List.getElem?_map] at hu
  cases hi : blk.cells[i]? with
  | none => rw [hi] at hu; cases hu
  | some u0 =>
   rw [hi] at hu
   simp only [Option.map_some, Option.some.injEq] at hu
   subst hu
   obtain ⟨u', q1, q2⟩ := k2 i u0 hi
   exact ⟨u', q1, rn1_of (q2.ext hκe) (List.all_eq_true.1 (ha.ok c blk hc ho) u0 (List.mem_of_getElem? hi))⟩
 -- where a block of the greater memory comes from
 have hfrom : ∀ b blk', m'.at b = some blk' → (m.at b = some blk' ∧ b < m.length ∧ ∀ c blk0, m0.at c = some blk0 → blk0.own = true → τ c ≠ b) ∨
   ∃ c blk, mE.at c = some blk ∧ blk.own = true ∧ blk' = rnB (τn τ m0.length m.length) blk ∧ b = τn τ m0.length m.length c := by
  intro b blk' hb
  by_cases hbm : b < m.length
  ·by_cases hex : ∃ c blk0, m0.at c = some blk0 ∧ blk0.own = true ∧ τ c = b
   ·obtain ⟨c, blk0, hc, hco, rfl⟩ := hex
    rw [ha.own c blk0 hc hco] at hb
    cases hcE : mE.at c with
    | none => rw [hcE] at hb; cases hb
    | some blk =>
     rw [hcE] at hb
     simp only [Option.map_some, Option.some.injEq] at hb
     exact .inr ⟨c, blk, hcE, ha.nown c blk hcE (fun _ => ⟨blk0, hc, hco⟩), hb.symm, by unfold τn; rw [if_pos (Mem.at_lt hc)]⟩
   ·have hno : ∀ c blk0, m0.at c = some blk0 → blk0.own = true → τ c ≠ b := fun c blk0 h1 h2 h3 => hex ⟨c, blk0, h1, h2, h3⟩
    rw [ha.old b hbm hno] at hb
    exact .inl ⟨hb, hbm, hno⟩
  ·have hlt := Mem.at_lt hb
   rw [ha.len'] at hlt
   obtain ⟨j, rfl⟩ : ∃ j, b = m.length + j := ⟨b - m.length, by omega⟩
   have hj : j < k := by omega
   rw [ha.new j hj] at hb
   cases hcE : mE.at (m0.length + j) with
   | none => rw [hcE] at hb; cases hb
   | some blk =>
    rw [hcE] at hb
    simp only [Option.map_some, Option.some.injEq] at hb
    exact .inr ⟨m0.length + j, blk, hcE, ha.nown _ blk hcE (fun h => by omega), hb.symm, by unfold τn; rw [if_neg (by omega)]; omega⟩
 have hpl : ∀ c pl, ρ2 c = some pl → ρ' (τn τ m0.length m.length c) = some pl := fun c pl hp => (hκ c pl hp).2
 refine ⟨v', ρ', rfl, hρ, rn3_of (hvr.ext hκe) hkv, ⟨hs2.os.trans hst.os, hs2.tape.trans hst.tape, ⟨hs2.output.1.trans hst.output.1, Nat.le_trans hst.output.2 hs2.output.2⟩, Nat.le_trans hst.size hsize, fun x hx hxs => ?_, fun b hb => (if_pos (Nat.lt_of_lt_of_le hb hst.len)).trans (hst.ext b hb), by have := hst.len; rw [ha.len']; omega, fun b pl hb => ?_, fun b blk' hb => ?_, fun b blk' pl hb ho hp => ?_⟩⟩
 ·rw [hs2.same x (Nat.lt_of_lt_of_le hx hst.size) ?_]
  ·exact hst.same x hx hxs
  ·rintro ⟨c, blk0, pl, hc, hco, hp, rfl⟩
   obtain ⟨blk1, j1, j2, j3, _⟩ := hl.blk c blk0 hc
   rcases hst.fresh _ _ _ j1 (j3 hco) hp with hf | hf
   ·omega
   ·exact hxs hf
 ·rw [ha.len']
  by_cases hbm : b < m.length
  ·omega
  ·have hb' : ρ2 (m0.length + (b - m.length)) = some pl := by
    have : (if b < m.length then ρ b else ρ2 (m0.length + (b - m.length))) = some pl := hb
    rwa [if_neg hbm] at this
   have := hs2.dom _ _ hb'
   rw [ha.len] at this
   omega
 ·rcases hfrom b blk' hb with ⟨hbm, hlt, hno⟩ | ⟨c, blk, hc, hco, rfl, rfl⟩
  ·obtain ⟨pl, hp, hbr, hown⟩ := hst.mem b blk' hbm
   refine ⟨pl, hρ b pl hp, hbr.ext hρ (hfar b blk' pl hbm hp hno), fun ho b2 blk2 pl2 hne hb2 hp2 => ?_⟩
   rcases hfrom b2 blk2 hb2 with ⟨hbm2, hlt2, hno2⟩ | ⟨c2, blk2', hc2, hco2, rfl, rfl⟩
   ·have : (if b2 < m.length then ρ b2 else ρ2 (m0.length + (b2 - m.length))) = some pl2 := hp2
    rw [if_pos hlt2] at this
    exact hown ho b2 blk2 pl2 hne hbm2 this
   ·obtain ⟨pl3, hp3, _, _⟩ := hs2.mem c2 blk2' hc2
    have e3 := hpl c2 pl3 hp3
    rw [hp2] at e3
    cases Option.some.inj e3
    rcases hs2.fresh c2 blk2' _ hc2 hco2 hp3 with hf | ⟨c4, blk4, pl4, h41, h42, h43, h44⟩
    ·have h1 := hbr.lt
     have h2 : w.heap.size ≤ pl2.blk := hf
     omega
    ·obtain ⟨blk5, j1, j2, j3, _⟩ := hl.blk c4 blk4 h41
     rw [← h44]
     exact hown ho (τ c4) blk5 pl4 (hno c4 blk4 h41 h42) j1 h43
  ·obtain ⟨pl, hp, _, hown⟩ := hs2.mem c blk hc
   refine ⟨pl, hpl c pl hp, hmine c _ blk pl hc hco hp rfl, fun _ b2 blk2 pl2 hne hb2 hp2 => ?_⟩
   rcases hfrom b2 blk2 hb2 with ⟨hbm2, hlt2, hno2⟩ | ⟨c2, blk2', hc2, hco2, rfl, rfl⟩
   ·have hp2' : ρ b2 = some pl2 := by
     have : (if b2 < m.length then ρ b2 else ρ2 (m0.length + (b2 - m.length))) = some pl2 := hp2
     rwa [if_pos hlt2] at this
    obtain ⟨pl6, hp6, hbr6, _⟩ := hst.mem b2 blk2 hbm2
    cases Option.some.inj (hp6.symm.trans hp2')
    rcases hs2.fresh c blk pl hc hco hp with hf | ⟨c4, blk4, pl4, h41, h42, h43, h44⟩
    ·have h1 := hbr6.lt
     have h2 : w.heap.size ≤ pl.blk := hf
     omega
    ·obtain ⟨blk5, j1, j2, j3, _⟩ := hl.blk c4 blk4 h41
     obtain ⟨pl7, hp7, _, hown7⟩ := hst.mem _ _ j1
     cases Option.some.inj (hp7.symm.trans h43)
     rw [← h44]
     exact hown7 (j3 h42) b2 blk2 pl2 (Ne.symm (hno2 c4 blk4 h41 h42)) hbm2 hp2'
   ·obtain ⟨pl3, hp3, _, _⟩ := hs2.mem c2 blk2' hc2
    have e3 := hpl c2 pl3 hp3
    rw [hp2] at e3
    cases Option.some.inj e3
    exact hown hco c2 blk2' pl2 (fun e => hne (by rw [e])) hc2 hp3
 ·rcases hfrom b blk' hb with ⟨hbm, hlt, hno⟩ | ⟨c, blk, hc, hco, rfl, rfl⟩
  ·have : (if b < m.length then ρ b else ρ2 (m0.length + (b - m.length))) = some pl := hp
   rw [if_pos hlt] at this
   exact hst.fresh b blk' pl hbm ho this
  ·obtain ⟨pl3, hp3, _, _⟩ := hs2.mem c blk hc
   have e3 := hpl c pl3 hp3
   rw [hp] at e3
   cases Option.some.inj e3
   rcases hs2.fresh c blk pl hc hco hp3 with hf | ⟨c4, blk4, pl4, h41, h42, h43, h44⟩
   ·exact .inl (Nat.le_trans hst.size hf)
   ·obtain ⟨blk5, j1, j2, j3, _⟩ := hl.blk c4 blk4 h41
    rw [← h44]
    exact hst.fresh _ _ _ j1 (j3 h42) h43
end Ab
end Go
end
