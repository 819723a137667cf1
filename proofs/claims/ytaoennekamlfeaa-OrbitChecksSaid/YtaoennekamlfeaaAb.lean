/- A second memory: small, counted from 0, its blocks named by their place; what holds of a walk in it holds of the machine's own walk. Part 1: values, memory, operations that only look. -/
import Derived.Test.YtaoennekamlfeaaFree
set_option linter.unusedSimpArgs false
set_option linter.unusedVariables false
namespace Go
open Go.RowKit
namespace Ab

abbrev T := List Value

/-- Where a block of the small memory lies: its block, the offset of its first cell there, the cells of an element (0: nothing is appended in place), the cells there are. -/
structure Pl where
  blk : Nat
  sh : Nat
  esz : Nat
  tot : Nat

abbrev Ren := Nat → Option Pl

/-- Stands for any value. -/
abbrev junk : Value := .chan (some 0)

def scal : Value → Bool
  | .bool _ | .int _ _ | .string _ | .nilFunc | .pointer none | .nilIface | .slice none 0 0 => true
  | _ => false

/-- Values without an address. -/
def flat1 : Value → Bool
  | .agg cs => cs.toList.all scal
  | v => scal v
def flat : Value → Bool
  | .tuple cs => cs.toList.all flat1
  | v => flat1 v

inductive VRel (ρ : Ren) : Value → Value → Prop
  | junk (v : Value) : VRel ρ (.chan (some 0)) v
  | scal {v : Value} (h : scal v = true) : VRel ρ v v
  | ptr {b o : Nat} {pl : Pl} (h : ρ b = some pl) : VRel ρ (.pointer (some ⟨b, o, none⟩)) (.pointer (some ⟨pl.blk, o + pl.sh, none⟩))
  | slice {b o n c c' : Nat} {pl : Pl} (h : ρ b = some pl) (h1 : n ≤ c') (h2 : c < 9223372036854775808 → c' ≤ c) (h3 : pl.esz ≠ 0 → o + pl.sh + c' * pl.esz ≤ pl.tot) :
      VRel ρ (.slice (some ⟨b, o, none⟩) n c) (.slice (some ⟨pl.blk, o + pl.sh, none⟩) n c')
  | empty {a a' : Addr} {c : Nat} : VRel ρ (.slice (some a) 0 c) (.slice (some a') 0 0)
  | func {fn : Fn} {xs ys xs' ys' : Array Value} (h1 : xs.size = xs'.size) (h2 : ys.size = ys'.size)
      (h3 : ∀ (i : Nat) (h : i < xs.size) (h' : i < xs'.size), VRel ρ xs[i] xs'[i]) (h4 : ∀ (i : Nat) (h : i < ys.size) (h' : i < ys'.size), VRel ρ ys[i] ys'[i]) : VRel ρ (.func fn xs ys) (.func fn xs' ys')
  | agg {xs xs' : Array Value} (h1 : xs.size = xs'.size) (h3 : ∀ (i : Nat) (h : i < xs.size) (h' : i < xs'.size), VRel ρ xs[i] xs'[i]) : VRel ρ (.agg xs) (.agg xs')
  | tuple {xs xs' : Array Value} (h1 : xs.size = xs'.size) (h3 : ∀ (i : Nat) (h : i < xs.size) (h' : i < xs'.size), VRel ρ xs[i] xs'[i]) : VRel ρ (.tuple xs) (.tuple xs')

theorem VRel.flat1 {ρ : Ren} {v : Value} (h : flat1 v = true) : VRel ρ v v := by
  cases v <;> simp only [Ab.flat1] at h <;> first
    | exact .scal h
    | exact .agg rfl (fun i h1 _ => .scal (List.all_eq_true.1 h _ (by simp)))
theorem VRel.flat {ρ : Ren} {v : Value} (h : flat v = true) : VRel ρ v v := by
  cases v <;> simp only [Ab.flat] at h <;> first
    | exact .tuple rfl (fun i h1 _ => .flat1 (List.all_eq_true.1 h _ (by simp)))
    | exact .flat1 h

theorem VRel.of_scal {ρ : Ren} {v v' : Value} (h : VRel ρ v v') (hv : Ab.scal v = true) : v' = v := by
  cases h <;> first | rfl | (simp [Ab.scal] at hv)

theorem VRel.of_flat1 {ρ : Ren} {v v' : Value} (h : VRel ρ v v') (hv : Ab.flat1 v = true) : v' = v := by
  cases h with
  | agg h1 h3 =>
    simp only [Ab.flat1, List.all_eq_true] at hv
    congr 1
    refine Array.ext h1.symm fun i h h' => ?_
    exact (h3 i (by omega) h).of_scal (hv _ (by simp))
  | scal h => rfl
  | junk => simp [Ab.flat1, Ab.scal] at hv
  | ptr => simp [Ab.flat1, Ab.scal] at hv
  | slice => simp [Ab.flat1, Ab.scal] at hv
  | empty => simp [Ab.flat1, Ab.scal] at hv
  | func => simp [Ab.flat1, Ab.scal] at hv
  | tuple => simp [Ab.flat1, Ab.scal] at hv
theorem VRel.of_flat {ρ : Ren} {v v' : Value} (h : VRel ρ v v') (hv : Ab.flat v = true) : v' = v := by
  cases h with
  | tuple h1 h3 =>
    simp only [Ab.flat, List.all_eq_true] at hv
    congr 1
    refine Array.ext h1.symm fun i h h' => ?_
    exact (h3 i (by omega) h).of_flat1 (hv _ (by simp))
  | agg h1 h3 => exact (VRel.agg h1 h3).of_flat1 hv
  | scal h => rfl
  | junk => simp [Ab.flat, Ab.flat1, Ab.scal] at hv
  | ptr => simp [Ab.flat, Ab.flat1, Ab.scal] at hv
  | slice => simp [Ab.flat, Ab.flat1, Ab.scal] at hv
  | empty => simp [Ab.flat, Ab.flat1, Ab.scal] at hv
  | func => simp [Ab.flat, Ab.flat1, Ab.scal] at hv

theorem VRel.int {ρ : Ren} {k : IntKind} {n : Int} {v : Value} (h : VRel ρ (.int k n) v) : v = .int k n := h.of_scal rfl
theorem VRel.bool {ρ : Ren} {b : Bool} {v : Value} (h : VRel ρ (.bool b) v) : v = .bool b := h.of_scal rfl
theorem VRel.string {ρ : Ren} {b : ByteArray} {v : Value} (h : VRel ρ (.string b) v) : v = .string b := h.of_scal rfl

/-- More blocks known. -/
def Ext (ρ ρ' : Ren) : Prop := ∀ b pl, ρ b = some pl → ρ' b = some pl
theorem Ext.refl (ρ : Ren) : Ext ρ ρ := fun _ _ h => h
theorem Ext.trans {a b c : Ren} (h : Ext a b) (k : Ext b c) : Ext a c := fun x y e => k x y (h x y e)

theorem VRel.ext {ρ ρ' : Ren} (he : Ext ρ ρ') {v v' : Value} (h : VRel ρ v v') : VRel ρ' v v' := by
  induction h with
  | junk v => exact .junk v
  | scal h => exact .scal h
  | ptr h => exact .ptr (he _ _ h)
  | slice h h1 h2 h3 => exact .slice (he _ _ h) h1 h2 h3
  | empty => exact .empty
  | func h1 h2 _ _ i3 i4 => exact .func h1 h2 i3 i4
  | agg h1 _ i3 => exact .agg h1 i3
  | tuple h1 _ i3 => exact .tuple h1 i3

structure Blk where
  cells : List Value
  own : Bool
  esz : Nat

abbrev Mem := List (Option Blk)
def Mem.at (m : Mem) (b : Nat) : Option Blk := m.getD b none

def T.ev (t : T) : Operand → Value
  | .tmp i => t.getD i undef
  | .const v => if flat v = true then v else junk
  | .func f => .func (.func f) #[] #[]
  | .global _ => junk

def TRel (ρ : Ren) (t : T) (tmps : Array Value) : Prop := t.length = tmps.size ∧ ∀ (i : Nat) (v : Value), t[i]? = some v → ∃ v', tmps[i]? = some v' ∧ VRel ρ v v'

theorem VRel.undef {ρ : Ren} : VRel ρ undef undef := .tuple rfl (fun i h => by simp at h)

theorem TRel.get {ρ : Ren} {t : T} {tmps : Array Value} (h : TRel ρ t tmps) (i : Nat) : VRel ρ (t.getD i Go.undef) (tmps.getD i Go.undef) := by
  by_cases hi : i < t.length
  · obtain ⟨v', h1, h2⟩ := h.2 i t[i] (by simp [hi])
    simpa [List.getD_eq_getElem?_getD, List.getElem?_eq_getElem hi, Array.getD_eq_getD_getElem?, h1] using h2
  · have hi' : ¬ i < tmps.size := by rw [← h.1]; exact hi
    simpa [List.getD_eq_getElem?_getD, List.getElem?_eq_none (Nat.le_of_not_lt hi), Array.getD, hi'] using VRel.undef

theorem TRel.ev {ρ : Ren} {t : T} {a : Act} (h : TRel ρ t a.tmps) (x : Operand) : VRel ρ (t.ev x) (a.eval x) := by
  cases x with
  | tmp i => exact h.get i
  | const v =>
    simp only [T.ev, Act.eval]
    split
    · rename_i hv; exact .flat hv
    · exact .junk _
  | global g => exact .junk _
  | func f => exact .func rfl rfl (fun i h => by simp at h) (fun i h => by simp at h)

theorem TRel.ext {ρ ρ' : Ren} (he : Ext ρ ρ') {t : T} {tmps : Array Value} (h : TRel ρ t tmps) : TRel ρ' t tmps := ⟨h.1, fun i v hv => let ⟨v', h1, h2⟩ := h.2 i v hv; ⟨v', h1, h2.ext he⟩⟩

def T.put (t : T) (d : Option Tmp) (v : Value) : T :=
  match d with
  | some d => t.set d v
  | none => t

theorem TRel.put {ρ : Ren} {t : T} {a : Act} (h : TRel ρ t a.tmps) {v v' : Value} (hv : VRel ρ v v') (d : Option Tmp) : TRel ρ (t.put d v) (a.put d v').tmps := by
  cases d with
  | none => exact h
  | some d =>
    refine ⟨by simp [T.put, Act.put, h.1], fun i u hu => ?_⟩
    simp only [T.put, Act.put, List.getElem?_set, Array.getElem?_setIfInBounds] at hu ⊢
    by_cases hd : d = i
    · subst hd
      by_cases hs : d < t.length
      · simp only [hs, if_true, Option.some.injEq] at hu
        subst hu
        exact ⟨v', by simp [← h.1, hs], hv⟩
      · simp [hs] at hu
    · simp only [hd, if_false] at hu ⊢
      exact h.2 i u hu

/-- A block as it lies. -/
def BRel (ρ : Ren) (blk : Blk) (pl : Pl) (w : World) : Prop :=
  ∃ c ty fr, w.heap[pl.blk]? = some (.cells c ty fr) ∧ blk.esz = pl.esz ∧ (∀ i v, blk.cells[i]? = some v → ∃ v', c[i + pl.sh]? = some v' ∧ VRel ρ v v') ∧
    (blk.own = true → pl.sh = 0 ∧ c.size = pl.tot ∧ fr = (0, 0))

def MRel (ρ : Ren) (m : Mem) (w : World) : Prop :=
  ∀ b blk, m.at b = some blk → ∃ pl, ρ b = some pl ∧ BRel ρ blk pl w ∧ (blk.own = true → ∀ b' blk' pl', b' ≠ b → m.at b' = some blk' → ρ b' = some pl' → pl'.blk ≠ pl.blk)

def Same (ρ : Ren) (m : Mem) (w w' : World) : Prop := ∀ b blk pl, m.at b = some blk → ρ b = some pl → w'.heap[pl.blk]? = w.heap[pl.blk]?

theorem Same.refl (ρ : Ren) (m : Mem) (w : World) : Same ρ m w w := fun _ _ _ _ _ => rfl

/-- An operation that only looks: one value, in every world in which the memory lies as it does. -/
def OQ (P : Program) (o : Oper) (t : T) (m : Mem) (v : Value) : Prop :=
  ∀ (ρ : Ren) (a : Act) (w : World), TRel ρ t a.tmps → MRel ρ m w → ∃ v', VRel ρ v v' ∧ ∀ w', Same ρ m w w' → (execOp a.eval o).run P w' = .ok (.value v') w'

section ops
variable {P : Program} {t : T} {m : Mem} {dst : Option Tmp} {ty ty' rt : TypeId} {pos : String} {after : Array Edge} {guard : Option (Nat × Bool)} {x y z : Operand} {k : IntKind} {a b : Int}

theorem OQ.move {v : Value} (hx : t.ev x = v) : OQ P ⟨dst, .move x, rt, pos, after, guard⟩ t m v := fun ρ a w ht _ => ⟨a.eval x, hx ▸ ht.ev x, fun _ _ => rfl⟩
theorem OQ.assign {v : Value} (hx : t.ev x = v) : OQ P ⟨dst, .assign x, rt, pos, after, guard⟩ t m v := fun ρ a w ht _ => ⟨a.eval x, hx ▸ ht.ev x, fun _ _ => rfl⟩

theorem evi {ρ : Ren} {a' : Act} {n : Int} (ht : TRel ρ t a'.tmps) (hx : t.ev x = .int k n) : a'.eval x = .int k n := VRel.int (hx ▸ ht.ev x)
theorem evb {ρ : Ren} {a' : Act} {n : Bool} (ht : TRel ρ t a'.tmps) (hx : t.ev x = .bool n) : a'.eval x = .bool n := VRel.bool (hx ▸ ht.ev x)
theorem evs {ρ : Ren} {a' : Act} {n : ByteArray} (ht : TRel ρ t a'.tmps) (hx : t.ev x = .string n) : a'.eval x = .string n := VRel.string (hx ▸ ht.ev x)

theorem OQ.add (hx : t.ev x = .int k a) (hy : t.ev y = .int k b) : OQ P ⟨dst, .binOp .add ty x y ty', rt, pos, after, guard⟩ t m (.int k (k.wrap (a + b))) :=
  fun ρ a' w ht _ => ⟨_, .scal rfl, fun _ _ => by simp [execOp, evi ht hx, evi ht hy, eqGuard, binOp, Op.intArith, Sem.run_bind, Sem.run_pure]⟩
theorem OQ.sub (hx : t.ev x = .int k a) (hy : t.ev y = .int k b) : OQ P ⟨dst, .binOp .sub ty x y ty', rt, pos, after, guard⟩ t m (.int k (k.wrap (a - b))) :=
  fun ρ a' w ht _ => ⟨_, .scal rfl, fun _ _ => by simp [execOp, evi ht hx, evi ht hy, eqGuard, binOp, Op.intArith, Sem.run_bind, Sem.run_pure]⟩
theorem OQ.mul (hx : t.ev x = .int k a) (hy : t.ev y = .int k b) : OQ P ⟨dst, .binOp .mul ty x y ty', rt, pos, after, guard⟩ t m (.int k (k.wrap (a * b))) :=
  fun ρ a' w ht _ => ⟨_, .scal rfl, fun _ _ => by simp [execOp, evi ht hx, evi ht hy, eqGuard, binOp, Op.intArith, Sem.run_bind, Sem.run_pure]⟩
theorem OQ.quo (hx : t.ev x = .int k a) (hy : t.ev y = .int k b) (h0 : b ≠ 0) : OQ P ⟨dst, .binOp .quo ty x y ty', rt, pos, after, guard⟩ t m (.int k (k.wrap (a.tdiv b))) :=
  fun ρ a' w ht _ => ⟨_, .scal rfl, fun _ _ => by simp [execOp, evi ht hx, evi ht hy, eqGuard, binOp, Op.intDiv, h0, Sem.run_bind, Sem.run_pure]⟩
theorem OQ.rem (hx : t.ev x = .int k a) (hy : t.ev y = .int k b) (h0 : b ≠ 0) : OQ P ⟨dst, .binOp .rem ty x y ty', rt, pos, after, guard⟩ t m (.int k (a.tmod b)) :=
  fun ρ a' w ht _ => ⟨_, .scal rfl, fun _ _ => by simp [execOp, evi ht hx, evi ht hy, eqGuard, binOp, Op.intDiv, h0, Sem.run_bind, Sem.run_pure]⟩
theorem OQ.lss (hx : t.ev x = .int k a) (hy : t.ev y = .int k b) : OQ P ⟨dst, .binOp .lss ty x y ty', rt, pos, after, guard⟩ t m (.bool (decide (a < b))) :=
  fun ρ a' w ht _ => ⟨_, .scal rfl, fun _ _ => by simp [execOp, evi ht hx, evi ht hy, eqGuard, binOp, Op.intCmp, Sem.run_bind, Sem.run_pure]⟩
theorem OQ.leq (hx : t.ev x = .int k a) (hy : t.ev y = .int k b) : OQ P ⟨dst, .binOp .leq ty x y ty', rt, pos, after, guard⟩ t m (.bool (decide (a ≤ b))) :=
  fun ρ a' w ht _ => ⟨_, .scal rfl, fun _ _ => by simp [execOp, evi ht hx, evi ht hy, eqGuard, binOp, Op.intCmp, Sem.run_bind, Sem.run_pure]⟩
theorem OQ.gtr (hx : t.ev x = .int k a) (hy : t.ev y = .int k b) : OQ P ⟨dst, .binOp .gtr ty x y ty', rt, pos, after, guard⟩ t m (.bool (decide (b < a))) :=
  fun ρ a' w ht _ => ⟨_, .scal rfl, fun _ _ => by simp [execOp, evi ht hx, evi ht hy, eqGuard, binOp, Op.intCmp, Sem.run_bind, Sem.run_pure]⟩
theorem OQ.geq (hx : t.ev x = .int k a) (hy : t.ev y = .int k b) : OQ P ⟨dst, .binOp .geq ty x y ty', rt, pos, after, guard⟩ t m (.bool (decide (b ≤ a))) :=
  fun ρ a' w ht _ => ⟨_, .scal rfl, fun _ _ => by simp [execOp, evi ht hx, evi ht hy, eqGuard, binOp, Op.intCmp, Sem.run_bind, Sem.run_pure]⟩
theorem OQ.eql (hx : t.ev x = .int k a) (hy : t.ev y = .int k b) : OQ P ⟨dst, .binOp .eql ty x y ty', rt, pos, after, guard⟩ t m (.bool (decide (a = b))) :=
  fun ρ a' w ht _ => ⟨_, .scal rfl, fun _ _ => by simp [execOp, evi ht hx, evi ht hy, eqGuard, binOp, Op.intCmp, Sem.run_bind, Sem.run_pure]; rfl⟩
theorem OQ.neq (hx : t.ev x = .int k a) (hy : t.ev y = .int k b) : OQ P ⟨dst, .binOp .neq ty x y ty', rt, pos, after, guard⟩ t m (.bool (decide (a ≠ b))) :=
  fun ρ a' w ht _ => ⟨_, .scal rfl, fun _ _ => by simp [execOp, evi ht hx, evi ht hy, eqGuard, binOp, Op.intCmp, Sem.run_bind, Sem.run_pure]; rfl⟩
theorem OQ.neg (hx : t.ev x = .int k a) : OQ P ⟨dst, .unOp .neg ty x, rt, pos, after, guard⟩ t m (.int k (k.wrap (0 - a))) :=
  fun ρ a' w ht _ => ⟨_, .scal rfl, fun _ _ => by simp [execOp, evi ht hx, Op.unary, Op.intArith, Sem.run_bind, Sem.run_pure]⟩
theorem OQ.not {c : Bool} (hx : t.ev x = .bool c) : OQ P ⟨dst, .unOp .not ty x, rt, pos, after, guard⟩ t m (.bool (!c)) :=
  fun ρ a' w ht _ => ⟨_, .scal rfl, fun _ _ => by simp [execOp, evb ht hx, Op.unary, Sem.run_bind, Sem.run_pure]⟩
theorem OQ.pick {c : Bool} {v u : Value} (hx : t.ev x = .bool c) (hy : t.ev y = v) (hz : t.ev z = u) : OQ P ⟨dst, .pick x y z, rt, pos, after, guard⟩ t m (if c then v else u) :=
  fun ρ a' w ht _ => ⟨if c then a'.eval y else a'.eval z, by cases c <;> simp [← hy, ← hz, ht.ev], fun _ _ => by simp [execOp, evb ht hx, asBool, Sem.run_bind, Sem.run_pure]⟩
theorem OQ.streq {s r : ByteArray} (hx : t.ev x = .string s) (hy : t.ev y = .string r) : OQ P ⟨dst, .binOp .eql ty x y ty', rt, pos, after, guard⟩ t m (.bool (s.toList == r.toList)) :=
  fun ρ a' w ht _ => ⟨_, .scal rfl, fun _ _ => by simp [execOp, evs ht hx, evs ht hy, eqGuard, binOp, Op.stringOp, Sem.run_bind, Sem.run_pure]⟩
theorem OQ.strne {s r : ByteArray} (hx : t.ev x = .string s) (hy : t.ev y = .string r) : OQ P ⟨dst, .binOp .neq ty x y ty', rt, pos, after, guard⟩ t m (.bool (!(s.toList == r.toList))) :=
  fun ρ a' w ht _ => ⟨_, .scal rfl, fun _ _ => by simp [execOp, evs ht hx, evs ht hy, eqGuard, binOp, Op.stringOp, Sem.run_bind, Sem.run_pure]⟩
end ops
end Ab
end Go
