/- The small memory, part 3: walks. A state, operations in a row, code, loops, calls. -/
import Derived.Test.YtaoennekamlfeaaAb2
import Derived.Deep.LoopGhost
set_option linter.unusedSimpArgs false
set_option linter.unusedVariables false
namespace Go
open Go.RowKit
namespace Ab

structure Env where
  W : World
  S : Nat → Prop
  ρ0 : Ren
  n0 : Nat
  hdom : ∀ b pl, ρ0 b = some pl → b < n0

structure St (E : Env) (ρ : Ren) (m : Mem) (w : World) : Prop where
  os : w.os = E.W.os
  tape : w.tape = E.W.tape
  output : w.output = E.W.output
  size : E.W.heap.size ≤ w.heap.size
  same : ∀ k, k < E.W.heap.size → ¬ E.S k → w.heap[k]? = E.W.heap[k]?
  ext : Ext E.ρ0 ρ
  dom : ∀ b pl, ρ b = some pl → b < m.length
  mem : MRel ρ m w
  fresh : ∀ b blk pl, m.at b = some blk → blk.own = true → ρ b = some pl → E.W.heap.size ≤ pl.blk ∨ E.S pl.blk

abbrev Post := Exit → T → Mem → Prop

def lift (E : Env) (Q : Post) : Exit → Act → World → Prop := fun e a w => a.defers = [] ∧ ∃ ρ t m, Q e t m ∧ TRel ρ t a.tmps ∧ St E ρ m w

def AL (P : Program) (E : Env) (ops : Array Oper) (l : List Oper) (t : T) (m : Mem) (Q : Post) : Prop :=
  ∀ ρ a w, a.defers = [] → TRel ρ t a.tmps → St E ρ m w → wpList P ops (lift E Q) l a w

def AW (P : Program) (E : Env) (c : Code) (t : T) (m : Mem) (Q : Post) : Prop :=
  ∀ ρ a w, a.defers = [] → TRel ρ t a.tmps → St E ρ m w → c.wp P (lift E Q) a w

/-- An operation that may write. -/
def OW (P : Program) (o : Oper) (t : T) (m : Mem) (v : Value) (m' : Mem) : Prop :=
  ∀ (E : Env) (ρ : Ren) (a : Act) (w : World), TRel ρ t a.tmps → St E ρ m w → ∃ v' w' ρ', ((execOp a.eval o).run P w = .ok (.value v') w' ∨ ((execOp a.eval o).run P w = .ok .skip w' ∧ v' = undef)) ∧ Ext ρ ρ' ∧ VRel ρ' v v' ∧ St E ρ' m' w'

/-- A call that writes nothing of what it is given, and gives back nothing new. -/
def PCalls (P : Program) (f : FuncId) (args : List Value) (m : Mem) (v : Value) : Prop :=
  ∀ (ρ : Ren) (args' : Array Value) (w : World), (∀ b pl, ρ b = some pl → b < m.length) → VRel ρ (.tuple args.toArray) (.tuple args') → MRel ρ m w →
    Calls P f args' w fun e w' => ∃ v', e = .returned v' ∧ VRel ρ v v' ∧ Below w.heap.size w w'

/-- A call that may write and make. -/
def ACalls (P : Program) (f : FuncId) (args : List Value) (m : Mem) (v : Value) (m' : Mem) : Prop :=
  ∀ (E : Env) (ρ : Ren) (args' : Array Value) (w : World), VRel ρ (.tuple args.toArray) (.tuple args') → St E ρ m w →
    Calls P f args' w fun e w' => ∃ v' ρ', e = .returned v' ∧ Ext ρ ρ' ∧ VRel ρ' v v' ∧ St E ρ' m' w'

theorem St.below {E : Env} {ρ : Ren} {m : Mem} {w w' : World} (h : St E ρ m w) (hb : Below w.heap.size w w') : St E ρ m w' := by
  refine ⟨hb.os.trans h.os, hb.tape.trans h.tape, hb.output.trans h.output, Nat.le_trans h.size hb.size, fun k hk hs => (hb.block k (Nat.lt_of_lt_of_le hk h.size)).trans (h.same k hk hs), h.ext, h.dom, ?_, h.fresh⟩
  intro b blk hbk
  obtain ⟨pl, hp, ⟨c, ty, fr, hc, h1, h2, h3⟩, h4⟩ := h.mem b blk hbk
  have hlt : pl.blk < w.heap.size := (Array.getElem?_eq_some_iff.1 hc).1
  exact ⟨pl, hp, ⟨c, ty, fr, (hb.block _ hlt).trans hc, h1, h2, h3⟩, h4⟩

theorem PCalls.acalls {P : Program} {f : FuncId} {args : List Value} {m : Mem} {v : Value} (h : PCalls P f args m v) : ACalls P f args m v m :=
  fun E ρ args' w ha hs => (h ρ args' w hs.dom ha hs.mem).mono fun e w' ⟨v', he, hv, hb⟩ => ⟨v', ρ, he, .refl _, hv, hs.below hb⟩

/-- The guard of an operation. -/
def gdt (ops : Array Oper) (o : Oper) : Option (Nat × Bool) :=
  match o.guard with
  | none => none
  | some (j, want) => match (ops[j]?).bind (·.dst) with
    | some d => some (d, want)
    | none => none

section lists
variable {P : Program} {E : Env} {ops : Array Oper} {o : Oper} {rest : List Oper} {t : T} {m : Mem} {Q : Post}

theorem AL.nil (h : Q .normal t m) : AL P E ops [] t m Q := fun ρ _ _ hd ht hs => ⟨hd, ρ, t, m, h, ht, hs⟩

theorem put_defers (a : Act) (d : Option Tmp) (v : Value) : (a.put d v).defers = a.defers := by cases d <;> rfl

theorem AL.q {v : Value} (hg : o.guard = none) (h : OQ P o t m v) (hr : AL P E ops rest (t.put o.dst v) m Q) : AL P E ops (o :: rest) t m Q := by
  intro ρ a w hd ht hs
  obtain ⟨v', hv, hrun⟩ := h ρ a w ht hs.mem
  unfold wpList
  rw [if_pos (by simp [Region.wanted, hg])]
  left
  unfold Oper.wp
  rw [hrun w (Same.refl _ _ _)]
  exact hr ρ _ w (by rw [put_defers]; exact hd) (ht.put hv _) hs

theorem AL.w {v : Value} {m' : Mem} (hg : o.guard = none) (h : OW P o t m v m') (hr : AL P E ops rest (t.put o.dst v) m' Q) : AL P E ops (o :: rest) t m Q := by
  intro ρ a w hd ht hs
  obtain ⟨v', w', ρ', hrun, he, hv, hs'⟩ := h E ρ a w ht hs
  unfold wpList
  rw [if_pos (by simp [Region.wanted, hg])]
  left
  unfold Oper.wp
  rcases hrun with hrun | ⟨hrun, rfl⟩
  · rw [hrun]
    exact hr ρ' _ w' (by rw [put_defers]; exact hd) ((ht.ext he).put hv _) hs'
  · rw [hrun]
    exact hr ρ' _ w' (by rw [put_defers]; exact hd) ((ht.ext he).put hv _) hs'

theorem wanted_iff {d : Nat} {want c : Bool} {tmps : Array Value} (hg : gdt ops o = some (d, want)) (hc : tmps.getD d undef = .bool c) : Region.wanted o (yielded ops tmps) = (c == want) := by
  unfold gdt at hg
  unfold Region.wanted
  split at hg
  · cases hg
  · rename_i j w' hgu
    rw [hgu]
    split at hg
    · rename_i d' hd'
      simp only [Option.some.injEq, Prod.mk.injEq] at hg
      obtain ⟨rfl, rfl⟩ := hg
      unfold yielded
      simp only [hd', Option.bind_some]
      rw [Array.getD_eq_getD_getElem?] at hc
      cases ht : tmps[d']? with
      | none => rw [ht] at hc; cases hc
      | some v => rw [ht] at hc; simp only [Option.getD_some] at hc; subst hc; simp
    · cases hg

theorem AL.gcase {d : Nat} {want c : Bool} (hg : gdt ops o = some (d, want)) (hc : t.getD d undef = .bool c)
    (h1 : c = want → AL P E ops ({ o with guard := none } :: rest) t m Q) (h2 : c = !want → AL P E ops rest (t.put o.dst undef) m Q) : AL P E ops (o :: rest) t m Q := by
  intro ρ a w hd ht hs
  have hw := wanted_iff hg (VRel.bool (hc ▸ ht.get d))
  unfold wpList
  rw [hw]
  by_cases hcw : c = want
  · have := h1 hcw ρ a w hd ht hs
    unfold wpList at this
    rw [if_pos (by simp [Region.wanted])] at this
    rw [if_pos (by simp [hcw])]
    exact this
  · rw [if_neg (by simp [hcw])]
    exact h2 (by cases c <;> cases want <;> simp_all) ρ _ w (by rw [put_defers]; exact hd) (ht.put .undef _) hs

/-- A guard whose own operation was passed over. -/
theorem AL.gskip {d : Nat} {want : Bool} (hg : gdt ops o = some (d, want)) (hc : t.getD d undef = .tuple #[]) (h2 : AL P E ops rest (t.put o.dst undef) m Q) : AL P E ops (o :: rest) t m Q := by
  intro ρ a w hd ht hs
  have hu : a.tmps.getD d undef = .tuple #[] := by
    have := hc ▸ ht.get d
    obtain ⟨xs', e, h1, _⟩ := this.tuple_inv
    rw [e]
    simp at h1
    have : xs' = #[] := Array.eq_empty_of_size_eq_zero h1.symm
    rw [this]
  have hw : Region.wanted o (yielded ops a.tmps) = false := by
    unfold gdt at hg
    unfold Region.wanted
    split at hg
    · cases hg
    · rename_i j w' hgu
      rw [hgu]
      split at hg
      · rename_i d' hd'
        simp only [Option.some.injEq, Prod.mk.injEq] at hg
        obtain ⟨rfl, rfl⟩ := hg
        unfold yielded
        simp only [hd', Option.bind_some]
        rw [Array.getD_eq_getD_getElem?] at hu
        cases ht : a.tmps[d']? with
        | none => simp
        | some v => rw [ht] at hu; simp only [Option.getD_some] at hu; subst hu; simp
      · cases hg
  unfold wpList
  rw [hw, if_neg (by simp)]
  exact h2 ρ _ w (by rw [put_defers]; exact hd) (ht.put .undef _) hs

/-- What enters when it is called. -/
def enters (P : Program) (f : FuncId) : Bool :=
  match P.funcs[f]? with
  | some fn => fn.name != "runtime.NumGoroutine" && fn.body.isSome
  | none => false

theorem run_callFunc {f : FuncId} {args : Array Value} {w : World} (h : enters P f = true) : (callFunc f args).run P w = .ok (.enter f args) w := by
  unfold enters at h
  split at h
  · rename_i fn hf
    simp only [Bool.and_eq_true, bne_iff_ne, ne_eq] at h
    obtain ⟨h1, h2⟩ := h
    have h3 : ¬ fn.body = none := by intro e; simp [e] at h2
    simp [callFunc, program, Sem.run_bind, Sem.run, hf, h1, h3, Result.andThen_ok]
  · cases h

theorem VRel.tuple_append {ρ : Ren} {xs ys xs' ys' : Array Value} (h1 : VRel ρ (.tuple xs) (.tuple xs')) (h2 : VRel ρ (.tuple ys) (.tuple ys')) : VRel ρ (.tuple (xs ++ ys)) (.tuple (xs' ++ ys')) := by
  cases h1 with
  | scal h => simp [Ab.scal] at h
  | tuple s1 f1 =>
    cases h2 with
    | scal h => simp [Ab.scal] at h
    | tuple s2 f2 =>
      refine .tuple (by simp [s1, s2]) fun i h h' => ?_
      simp only [Array.getElem_append]
      split
      · rw [dif_pos (by omega)]; exact f1 _ _ _
      · rw [dif_neg (by omega)]
        simp only [← s1]
        exact f2 _ _ _

theorem TRel.args {ρ : Ren} {a : Act} (ht : TRel ρ t a.tmps) (xs : Array Operand) : VRel ρ (.tuple (xs.toList.map t.ev).toArray) (.tuple (xs.map a.eval)) := by
  refine .tuple (by simp) fun i h h' => ?_
  simp only [List.getElem_toArray, List.getElem_map, Array.getElem_map, Array.getElem_toList]
  exact ht.ev _

theorem run_call {ρ : Ren} {a : Act} {w : World} {fo : Operand} {xs : Array Operand} {ats : Array TypeId} {dst : Option Tmp} {ty : TypeId} {pos : String} {after : Array Edge} {guard : Option (Nat × Bool)} {g : FuncId} {first cap : Array Value}
    (ht : TRel ρ t a.tmps) (hf : t.ev fo = .func (.func g) first cap) (he : enters P g = true) :
    ∃ args', (execOp a.eval ⟨dst, .call ⟨.value fo, xs, ats⟩, ty, pos, after, guard⟩).run P w = .ok (.enter g args') w ∧ VRel ρ (.tuple (first ++ (xs.toList.map t.ev).toArray ++ cap)) (.tuple args') := by
  obtain ⟨f', c', e, r1, r2⟩ := (hf ▸ ht.ev fo).func_inv
  refine ⟨f' ++ xs.map a.eval ++ c', ?_, .tuple_append (.tuple_append r1 (ht.args xs)) r2⟩
  simp [execOp, resolve, e, Deferred.ofValue, invoke, Sem.run_bind, Sem.run_pure, run_callFunc he]

theorem AL.acall {dst : Option Tmp} {fo : Operand} {xs : Array Operand} {ats : Array TypeId} {ty : TypeId} {pos : String} {after : Array Edge} {g : FuncId} {first cap : Array Value} {args : List Value} {v : Value} {m' : Mem}
    (hf : t.ev fo = .func (.func g) first cap) (he : enters P g = true) (ha : first.toList ++ xs.toList.map t.ev ++ cap.toList = args) (h : ACalls P g args m v m')
    (hr : AL P E ops rest (t.put dst v) m' Q) : AL P E ops (⟨dst, .call ⟨.value fo, xs, ats⟩, ty, pos, after, none⟩ :: rest) t m Q := by
  intro ρ a w hd ht hs
  obtain ⟨args', hrun, hargs⟩ := run_call (P := P) (w := w) (dst := dst) (ats := ats) (ty := ty) (pos := pos) (after := after) (guard := none) (xs := xs) ht hf he
  unfold wpList
  rw [if_pos (by simp [Region.wanted])]
  left
  unfold Oper.wp
  rw [hrun]
  show Calls P g args' w _
  refine (h E ρ args' w (by rw [← ha, show (first.toList ++ xs.toList.map t.ev ++ cap.toList).toArray = first ++ (xs.toList.map t.ev).toArray ++ cap by simp]; exact hargs) hs).mono ?_
  rintro e w' ⟨v', ρ', rfl, hext, hv, hs'⟩
  exact hr ρ' _ w' (by rw [put_defers]; exact hd) ((ht.ext hext).put hv _) hs'

theorem AL.pcall {dst : Option Tmp} {fo : Operand} {xs : Array Operand} {ats : Array TypeId} {ty : TypeId} {pos : String} {after : Array Edge} {g : FuncId} {first cap : Array Value} {args : List Value} {v : Value}
    (hf : t.ev fo = .func (.func g) first cap) (he : enters P g = true) (ha : first.toList ++ xs.toList.map t.ev ++ cap.toList = args) (h : PCalls P g args m v)
    (hr : AL P E ops rest (t.put dst v) m Q) : AL P E ops (⟨dst, .call ⟨.value fo, xs, ats⟩, ty, pos, after, none⟩ :: rest) t m Q :=
  AL.acall hf he ha h.acalls hr
end lists

def Then (N : T → Mem → Prop) (Q : Post) : Post
  | .normal, t, m => N t m
  | e, t, m => Q e t m
def InB (id : Nat) (Q : Post) : Post
  | .exit i, t, m => if i = id then Q .normal t m else Q (.exit i) t m
  | e, t, m => Q e t m

/-- Another state that says no more. -/
def Wk (E : Env) (t : T) (m : Mem) (t' : T) (m' : Mem) : Prop :=
  ∀ ρ tmps w, TRel ρ t tmps → St E ρ m w → ∃ ρ', TRel ρ' t' tmps ∧ St E ρ' m' w

theorem Wk.refl {E : Env} {t : T} {m : Mem} : Wk E t m t m := fun ρ _ _ ht hs => ⟨ρ, ht, hs⟩

section code
variable {P : Program} {E : Env} {t : T} {m : Mem} {Q : Post} {c d : Code}
theorem AW.skip (h : Q .normal t m) : AW P E .skip t m Q := fun ρ _ _ hd ht hs => wp_skip ⟨hd, ρ, t, m, h, ht, hs⟩
theorem AW.exit {id : Nat} (h : Q (.exit id) t m) : AW P E (.exit id) t m Q := fun ρ _ _ hd ht hs => wp_exit ⟨hd, ρ, t, m, h, ht, hs⟩
theorem AW.ret (h : Q .ret t m) : AW P E .ret t m Q := fun ρ _ _ hd ht hs => wp_ret ⟨hd, ρ, t, m, h, ht, hs⟩
theorem AW.seq (h : AW P E c t m (Then (fun t m => AW P E d t m Q) Q)) : AW P E (.seq c d) t m Q := by
  intro ρ a w hd ht hs
  refine wp_seq (wp_mono (h ρ a w hd ht hs) ?_)
  rintro e a' w' ⟨hd', ρ', t', m', hq, ht', hs'⟩
  cases e with
  | normal => exact hq ρ' a' w' hd' ht' hs'
  | exit id => exact ⟨hd', ρ', t', m', hq, ht', hs'⟩
  | goto l => exact ⟨hd', ρ', t', m', hq, ht', hs'⟩
  | ret => exact ⟨hd', ρ', t', m', hq, ht', hs'⟩
  | panic ch => exact ⟨hd', ρ', t', m', hq, ht', hs'⟩
  | outgrown => exact ⟨hd', ρ', t', m', hq, ht', hs'⟩
theorem AW.cond {x : Operand} {b : Bool} (hx : t.ev x = .bool b) (h1 : b = true → AW P E c t m Q) (h2 : b = false → AW P E d t m Q) : AW P E (.cond x c d) t m Q :=
  fun ρ a w hd ht hs => wp_cond_split (evb ht hx) (fun e => h1 e ρ a w hd ht hs) (fun e => h2 e ρ a w hd ht hs)
theorem AW.block {id : Nat} (h : AW P E c t m (InB id Q)) : AW P E (.block id c) t m Q := by
  intro ρ a w hd ht hs
  refine wp_block (wp_mono (h ρ a w hd ht hs) ?_)
  rintro e a' w' ⟨hd', ρ', t', m', hq, ht', hs'⟩
  cases e with
  | exit i =>
    simp only [Exit.inBlock, InB] at hq ⊢
    split
    · rename_i h'; rw [if_pos h'] at hq; exact ⟨hd', ρ', t', m', hq, ht', hs'⟩
    · rename_i h'; rw [if_neg h'] at hq; exact ⟨hd', ρ', t', m', hq, ht', hs'⟩
  | normal => exact ⟨hd', ρ', t', m', hq, ht', hs'⟩
  | goto l => exact ⟨hd', ρ', t', m', hq, ht', hs'⟩
  | ret => exact ⟨hd', ρ', t', m', hq, ht', hs'⟩
  | panic ch => exact ⟨hd', ρ', t', m', hq, ht', hs'⟩
  | outgrown => exact ⟨hd', ρ', t', m', hq, ht', hs'⟩
theorem AW.loop (I : Nat → T → Mem → Prop) (n₀ : Nat) (h₀ : I n₀ t m)
    (round : ∀ n t m, I n t m → AW P E c t m (Then (fun t' m' => ∃ n' t'' m'', n' < n ∧ Wk E t' m' t'' m'' ∧ I n' t'' m'') Q)) : AW P E (.loop c) t m Q := by
  intro ρ a w hd ht hs
  refine wp_loop_ghost (fun n a w => a.defers = [] ∧ ∃ ρ t m, I n t m ∧ TRel ρ t a.tmps ∧ St E ρ m w) n₀ ⟨hd, ρ, t, m, h₀, ht, hs⟩ ?_
  rintro n a w ⟨hd, ρ, t, m, hI, ht, hs⟩
  refine wp_mono (round n t m hI ρ a w hd ht hs) ?_
  rintro e a' w' ⟨hd', ρ', t', m', hq, ht', hs'⟩
  cases e with
  | normal =>
    obtain ⟨n', t'', m'', hn, hwk, hI'⟩ := hq
    obtain ⟨ρ'', ht'', hs''⟩ := hwk ρ' _ _ ht' hs'
    exact ⟨n', hn, hd', ρ'', t'', m'', hI', ht'', hs''⟩
  | exit id => exact ⟨hd', ρ', t', m', hq, ht', hs'⟩
  | goto l => exact ⟨hd', ρ', t', m', hq, ht', hs'⟩
  | ret => exact ⟨hd', ρ', t', m', hq, ht', hs'⟩
  | panic ch => exact ⟨hd', ρ', t', m', hq, ht', hs'⟩
  | outgrown => exact ⟨hd', ρ', t', m', hq, ht', hs'⟩
theorem AW.region {id : Nat} {l : List Oper} (h : AL P E l.toArray l t m Q) : AW P E (.region id l.toArray false) t m Q :=
  fun ρ a w hd ht hs => wp_region_lit (h ρ a w hd ht hs)
theorem AW.mono {Q' : Post} (h : AW P E c t m Q) (hq : ∀ e t m, Q e t m → Q' e t m) : AW P E c t m Q' :=
  fun ρ a w hd ht hs => wp_mono (h ρ a w hd ht hs) fun e a' w' ⟨hd', ρ', t', m', hq', ht', hs'⟩ => ⟨hd', ρ', t', m', hq _ _ _ hq', ht', hs'⟩
theorem AW.wk {t' : T} {m' : Mem} (hk : Wk E t m t' m') (h : AW P E c t' m' Q) : AW P E c t m Q := fun ρ a w hd ht hs => let ⟨ρ', ht', hs'⟩ := hk ρ _ _ ht hs; h ρ' a w hd ht' hs'
end code

/-- What a function gives back. -/
inductive ResR (P : Program) (t : T) (m : Mem) : List ResultVar → List Value → Prop
  | nil : ResR P t m [] []
  | tmp {d : Nat} {v : Value} {rs : List ResultVar} {vs : List Value} (h : t.getD d undef = v) (hr : ResR P t m rs vs) : ResR P t m (.tmp d :: rs) (v :: vs)
  | cellN {d b o n : Nat} {ty : TypeId} {us : List Value} {rs : List ResultVar} {vs : List Value} (h : t.getD d undef = .pointer (some ⟨b, o, none⟩)) (ha : aggOf P ty = some true) (hz : szOf P ty = some n) (hl : m.ld b o n = some us) (hr : ResR P t m rs vs) : ResR P t m (.cell d ty :: rs) (.agg us.toArray :: vs)
  | cell1 {d b o : Nat} {ty : TypeId} {v : Value} {rs : List ResultVar} {vs : List Value} (h : t.getD d undef = .pointer (some ⟨b, o, none⟩)) (ha : aggOf P ty = some false) (hl : (m.at b).bind (·.cells[o]?) = some v) (hr : ResR P t m rs vs) : ResR P t m (.cell d ty :: rs) (v :: vs)
def pack : List Value → Value
  | [v] => v
  | vs => .tuple vs.toArray

/-- The value's addresses lie in blocks that were there. -/
def oldv (m : Mem) : Value → Bool
  | .pointer (some ⟨b, _, none⟩) => (m.at b).isSome
  | .slice (some ⟨b, _, none⟩) _ _ => (m.at b).isSome
  | .slice (some _) n _ => n == 0
  | v => scal v
def oldv2 (m : Mem) : Value → Bool
  | .agg xs => xs.toList.all (oldv m)
  | .tuple xs => xs.toList.all (oldv m)
  | v => oldv m v
def oldv3 (m : Mem) : Value → Bool
  | .tuple xs => xs.toList.all (oldv2 m)
  | v => oldv2 m v

section old
variable {ρ ρ' : Ren} {m : Mem} {w : World}
theorem oldv_spec (he : Ext ρ ρ') (hm : MRel ρ m w) {v v' : Value} (h : VRel ρ' v v') (hv : oldv m v = true) : VRel ρ v v' := by
  have key : ∀ b pl, (m.at b).isSome = true → ρ' b = some pl → ρ b = some pl := fun b pl hs hp => by
    obtain ⟨blk, hb⟩ := Option.isSome_iff_exists.1 hs
    obtain ⟨pl', hp', _⟩ := hm b blk hb
    rw [he b pl' hp'] at hp
    exact hp ▸ hp'
  cases h with
  | junk => simp [oldv, Ab.scal] at hv
  | scal h => exact .scal h
  | ptr h => exact .ptr (key _ _ (by simpa [oldv] using hv) h)
  | slice h h1 h2 h3 => exact .slice (key _ _ (by simpa [oldv] using hv) h) h1 h2 h3
  | empty => exact .empty
  | func => simp [oldv, Ab.scal] at hv
  | agg => simp [oldv, Ab.scal] at hv
  | tuple => simp [oldv, Ab.scal] at hv
theorem oldv2_spec (he : Ext ρ ρ') (hm : MRel ρ m w) {v v' : Value} (h : VRel ρ' v v') (hv : oldv2 m v = true) : VRel ρ v v' := by
  cases h with
  | agg h1 h3 => exact .agg h1 fun i hi hi' => oldv_spec he hm (h3 i hi hi') (List.all_eq_true.1 (by simpa only [oldv2] using hv) _ (by simp))
  | tuple h1 h3 => exact .tuple h1 fun i hi hi' => oldv_spec he hm (h3 i hi hi') (List.all_eq_true.1 (by simpa only [oldv2] using hv) _ (by simp))
  | scal h => exact .scal h
  | empty => exact .empty
  | junk => simp [oldv2, oldv, Ab.scal] at hv
  | ptr h => exact oldv_spec he hm (.ptr h) hv
  | slice h h1 h2 h3 => exact oldv_spec he hm (.slice h h1 h2 h3) hv
  | func => simp [oldv2, oldv, Ab.scal] at hv
theorem oldv3_spec (he : Ext ρ ρ') (hm : MRel ρ m w) {v v' : Value} (h : VRel ρ' v v') (hv : oldv3 m v = true) : VRel ρ v v' := by
  cases h with
  | tuple h1 h3 => exact .tuple h1 fun i hi hi' => oldv2_spec he hm (h3 i hi hi') (List.all_eq_true.1 (by simpa only [oldv3] using hv) _ (by simp))
  | agg h1 h3 => exact oldv2_spec he hm (.agg h1 h3) hv
  | scal h => exact .scal h
  | empty => exact .empty
  | junk => simp [oldv3, oldv2, oldv, Ab.scal] at hv
  | ptr h => exact oldv_spec he hm (.ptr h) hv
  | slice h h1 h2 h3 => exact oldv_spec he hm (.slice h h1 h2 h3) hv
  | func => simp [oldv3, oldv2, oldv, Ab.scal] at hv
end old

theorem mapM_rel {ρ : Ren} {t : T} {a : Act} (ht : TRel ρ t a.tmps) {m : Mem} {w : World} (hm : MRel ρ m w) {P : Program} {rs : List ResultVar} {vs : List Value} (h : ResR P t m rs vs) :
    ∃ vs', (rs.mapM (m := Sem) (fun r => match r with | .tmp d => pure (a.tmps.getD d undef) | .cell b ty => do loadVar ty (← asAddr (a.tmps.getD b undef)))).run P w = .ok vs' w ∧ vs.length = vs'.length ∧ ∀ (i : Nat) (v : Value), vs[i]? = some v → ∃ v', vs'[i]? = some v' ∧ VRel ρ v v' := by
  induction h with
  | nil => exact ⟨[], rfl, rfl, fun i v h => by simp at h⟩
  | @tmp d v rs vs h _ ih =>
    obtain ⟨us', h1, h2, h3⟩ := ih
    refine ⟨a.tmps.getD d undef :: us', ?_, by simp [h2], fun i u hu => ?_⟩
    · rw [List.mapM_cons]
      simp only [Sem.run_bind, Sem.run_pure, Result.andThen_ok, h1]
    · cases i with
      | zero => simp only [List.getElem?_cons_zero, Option.some.injEq] at hu ⊢; exact ⟨_, rfl, hu ▸ h ▸ ht.get d⟩
      | succ i => exact h3 i u (by simpa using hu)
  | @cellN d b o n ty us rs vs h ha hz hl _ ih =>
    obtain ⟨us', h1, h2, h3⟩ := ih
    obtain ⟨pl, hp, he⟩ := (h ▸ ht.get d).ptr_inv
    obtain ⟨g1, ws, g2, g3, g4⟩ := hm.cells (P := P) hl hp
    have g5 := g4 w (Same.refl _ _ _)
    unfold loadCells at g5
    refine ⟨.agg ws.toArray :: us', ?_, by simp [h2], fun i u hu => ?_⟩
    · rw [List.mapM_cons]
      have e0 : (do loadVar ty (← asAddr (a.tmps.getD d undef)) : Sem Value).run P w = .ok (.agg ws.toArray) w := by
        simp only [he, asAddr, loadVar, Sem.run_bind, Sem.run_pure, Result.andThen_ok, run_agg ha]
        simp [go_sem, run_size hz, g5]
      rw [Sem.run_bind]
      erw [e0]
      simp only [Result.andThen_ok, Sem.run_bind, Sem.run_pure, h1]
    · cases i with
      | zero =>
        simp only [List.getElem?_cons_zero, Option.some.injEq] at hu ⊢
        exact ⟨_, rfl, hu ▸ .agg_mk (by simp [g1, g2]) (fun i u hu => by simpa using g3 i u (by simpa using hu))⟩
      | succ i => exact h3 i u (by simpa using hu)
  | @cell1 d b o ty v rs vs h ha hl _ ih =>
    obtain ⟨us', h1, h2, h3⟩ := ih
    obtain ⟨pl, hp, he⟩ := (h ▸ ht.get d).ptr_inv
    cases hb : m.at b with
    | none => rw [hb] at hl; cases hl
    | some blk =>
      rw [hb] at hl
      obtain ⟨v', ⟨_, k1⟩, k2⟩ := hm.cell (Same.refl ρ m w) hb hp (show blk.cells[o]? = some v from hl)
      refine ⟨v' :: us', ?_, by simp [h2], fun i u hu => ?_⟩
      · rw [List.mapM_cons]
        have e0 : (do loadVar ty (← asAddr (a.tmps.getD d undef)) : Sem Value).run P w = .ok v' w := by
          simp only [he, asAddr, loadVar, Sem.run_bind, Sem.run_pure, Result.andThen_ok, run_agg ha]
          simp [Sem.run, k1, load, go_sem]
        rw [Sem.run_bind]
        erw [e0]
        simp only [Result.andThen_ok, Sem.run_bind, Sem.run_pure, h1]
      · cases i with
        | zero => simp only [List.getElem?_cons_zero, Option.some.injEq] at hu ⊢; exact ⟨_, rfl, hu ▸ k2⟩
        | succ i => exact h3 i u (by simpa using hu)

theorem run_results {ρ : Ren} {t : T} {a : Act} {m : Mem} {w : World} {P : Program} {fn : Func} {vs : List Value} (ht : TRel ρ t a.tmps) (hmm : MRel ρ m w) (hr : ResR P t m fn.results.toList vs) : ∃ v', (results fn a.tmps).run P w = .ok v' w ∧ VRel ρ (pack vs) v' := by
  obtain ⟨vs', h1, h2, h3⟩ := mapM_rel ht hmm hr
  have hrun : (fn.results.mapM (m := Sem) (fun r => match r with | .tmp d => pure (a.tmps.getD d undef) | .cell b ty => do loadVar ty (← asAddr (a.tmps.getD b undef)))).run P w = .ok vs'.toArray w := by
    rw [Array.mapM_eq_mapM_toList]
    rw [show (List.toArray <$> fn.results.toList.mapM (m := Sem) (fun r => match r with | .tmp d => pure (a.tmps.getD d undef) | .cell b ty => do loadVar ty (← asAddr (a.tmps.getD b undef)))) = (do let x ← fn.results.toList.mapM (m := Sem) (fun r => match r with | .tmp d => pure (a.tmps.getD d undef) | .cell b ty => do loadVar ty (← asAddr (a.tmps.getD b undef))); pure x.toArray) from rfl]
    rw [Sem.run_bind, h1]
    rfl
  unfold results
  rw [Sem.run_bind]
  erw [hrun]
  simp only [Result.andThen_ok, Sem.run_pure]
  rcases vs with _ | ⟨y1, _ | ⟨y2, ys⟩⟩
  · have : vs' = [] := List.eq_nil_of_length_eq_zero h2.symm
    subst this
    exact ⟨_, rfl, .tuple rfl fun i h => by simp at h⟩
  · rcases vs' with _ | ⟨z1, _ | ⟨z2, zs⟩⟩
    · simp at h2
    · obtain ⟨u, e, r⟩ := h3 0 y1 rfl
      cases Option.some.inj e
      exact ⟨_, rfl, r⟩
    · simp at h2
  · refine ⟨.tuple vs'.toArray, ?_, ?_⟩
    · rw [dif_neg (by simp at h2 ⊢; omega)]
    · refine .tuple (by simpa using h2) fun i h h' => ?_
      obtain ⟨u, e, r⟩ := h3 i (y1 :: y2 :: ys)[i] (List.getElem?_eq_getElem (by simpa using h))
      rw [List.getElem?_eq_getElem (by simpa using h')] at e
      cases Option.some.inj e
      simpa using r

/-- The end of a function that makes nothing. -/
def FinP (P : Program) (fn : Func) (m : Mem) (v : Value) : Post := fun e t m' => (e = .ret ∨ e = .normal) ∧ (∃ vs, ResR P t m' fn.results.toList vs ∧ pack vs = v) ∧ oldv3 m v = true

/-- Memory that may only be read. -/
def Mem.ro (m : Mem) : Prop := ∀ b blk, m.at b = some blk → blk.own = false

theorem PCalls.body {P : Program} {f : FuncId} {fn : Func} {c : Code} {args : List Value} {m : Mem} {v : Value} (hf : P.funcs[f]? = some fn) (hb : fn.body = some c) (hro : m.ro)
    (h : ∀ E, AW P E c (args ++ List.replicate (fn.ntmps - args.length) undef) m (FinP P fn m v)) : PCalls P f args m v := by
  intro ρ args' w hdom ha hm
  refine calls_of_wp hf hb ?_
  have hsz : args.length = args'.size := by
    obtain ⟨xs', e, h1, _⟩ := ha.tuple_inv
    cases e
    simpa using h1
  refine wp_mono (h ⟨w, fun _ => False, ρ, m.length, hdom⟩ ρ _ w rfl ?_ ?_) ?_
  · refine ⟨by simp [hsz], fun i u hu => ?_⟩
    obtain ⟨xs', e, h1, h2⟩ := ha.tuple_inv
    cases e
    simp only at hu ⊢
    rw [List.getElem?_append] at hu
    rw [Array.getElem?_append]
    split at hu
    · rename_i hi
      rw [if_pos (by omega)]
      exact h2 i u (by simpa using hu)
    · rename_i hi
      rw [if_neg (by omega)]
      rw [← hsz]
      rw [List.getElem?_replicate] at hu
      split at hu
      · rename_i hi'
        cases Option.some.inj hu
        exact ⟨undef, by simp [hi'], .undef⟩
      · cases hu
  · exact ⟨rfl, rfl, rfl, Nat.le_refl _, fun _ _ _ => rfl, .refl _, hdom, hm, fun b blk pl hb ho => by rw [hro b blk hb] at ho; cases ho⟩
  · rintro e a w' ⟨hd, ρ', t', m', ⟨he, ⟨vs, hr, rfl⟩, hold⟩, ht, hs⟩
    obtain ⟨v', hrun, hv⟩ := run_results (P := P) (w := w') ht hs.mem hr
    have hv' := oldv3_spec hs.ext hm hv hold
    have hbelow : Below w.heap.size w w' := ⟨hs.os, hs.tape, hs.output, hs.size, fun k hk => hs.same k hk (fun h => h)⟩
    rcases he with rfl | rfl
    · exact bodyPost_ret hrun hd ⟨v', rfl, hv', hbelow⟩
    · exact bodyPost_end hrun hd ⟨v', rfl, hv', hbelow⟩
end Ab
end Go
