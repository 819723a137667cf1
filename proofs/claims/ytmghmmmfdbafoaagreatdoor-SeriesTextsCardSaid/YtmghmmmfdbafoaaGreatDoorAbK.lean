/- The small memory: a few blocks kept under new numbers; calls that read several blocks and make one. -/
/- The small memory: more operations. -/
import Derived.Test.YtmghmmmfdbafoaaGreatDoorAbF
set_option linter.unusedSimpArgs false
set_option linter.unusedVariables false
section
namespace Go
open Go.RowKit
namespace Ab

/-- The first n0 blocks as they are, behind them those of a list. -/
def kσ (n0 : Nat) (js : List Nat) : Nat → Nat := fun b => if b < n0 then b else js.getD (b - n0) 0
def kOk (n0 : Nat) (js : List Nat) : Bool := js.all (fun j => decide (n0 ≤ j)) && decide js.Nodup

theorem kσ_id {n0 : Nat} {js : List Nat} {n e : Nat} (hE : e ≤ n0) (hl : n = n0 + js.length) : ∀ b, b < e → b < n ∧ kσ n0 js b = b := fun b hb => by
  refine ⟨by omega, ?_⟩
  unfold kσ
  rw [if_pos (by omega)]
theorem kσ_inj {n0 : Nat} {js : List Nat} {n : Nat} (hl : n = n0 + js.length) (hj : kOk n0 js = true) : ∀ b b', b < n → b' < n → kσ n0 js b = kσ n0 js b' → b = b' := by
  simp only [kOk, Bool.and_eq_true, decide_eq_true_eq, List.all_eq_true] at hj
  obtain ⟨h1, h2⟩ := hj
  intro b b' hb hb' he
  have hge : ∀ c, ¬ c < n0 → c < n → n0 ≤ js.getD (c - n0) 0 := fun c hc hcn => by
    have hi : c - n0 < js.length := by omega
    rw [List.getD_eq_getElem?_getD, List.getElem?_eq_getElem hi]
    exact h1 _ (List.getElem_mem hi)
  unfold kσ at he
  split at he <;> split at he
  · exact he
  · rename_i h3 h4
    have := hge b' h4 hb'
    omega
  · rename_i h3 h4
    have := hge b h3 hb
    omega
  · rename_i h3 h4
    have hi : b - n0 < js.length := by omega
    have hi' : b' - n0 < js.length := by omega
    rw [List.getD_eq_getElem?_getD, List.getD_eq_getElem?_getD, List.getElem?_eq_getElem hi, List.getElem?_eq_getElem hi'] at he
    have := (List.getElem_inj h2).1 he
    omega

theorem Wk.keep {E : Env} {t t' : T} {m m' : Mem} (n0 : Nat) (js : List Nat) (hE : E.n0 ≤ n0) (hl : m'.length = n0 + js.length) (hj : kOk n0 js = true)
    (ht : RenT (kσ n0 js) m'.length t' t) (hm : memRen (kσ n0 js) m'.length m 0 m') : Wk E t m t' m' :=
  Wk.ren _ ht hm (kσ_id hE hl) (kσ_inj hl hj)

theorem FinA.keep {P : Program} {E : Env} {fn : Func} {v : Value} {mE m' : Mem} {t : T} {e : Exit} {vs : List Value} (n0 : Nat) (js : List Nat) (he : e = .ret ∨ e = .normal) (hr : ResR P t m' fn.results.toList vs) (hv : rn3 (kσ n0 js) v = pack vs) (hk : ok3 mE.length v = true)
    (hE : E.n0 ≤ n0) (hl : mE.length = n0 + js.length) (hj : kOk n0 js = true) (hm : memRen (kσ n0 js) mE.length m' 0 mE) : FinA P E fn v mE e t m' :=
  ⟨he, vs, _, hr, hv, hk, hm, kσ_id hE hl, kσ_inj hl hj⟩

theorem rn1_all {τ : Nat → Nat} {cs : List Value} (h : cs.all scal = true) : cs.map (rn1 τ) = cs := by
  induction cs with
  | nil => rfl
  | cons v vs ih =>
    simp only [List.all_cons, Bool.and_eq_true] at h
    rw [List.map_cons, rn1_scal h.1, ih h.2]

theorem rn1_idf (v : Value) : rn1 (fun b => b) v = v := by
  unfold rn1
  split <;> rfl
/-- A call that writes nothing, in a memory with more behind. -/
theorem PCalls.wide {P : Program} {f : FuncId} {args : List Value} {m0 m : Mem} {v : Value} (h : PCalls P f args m0 v) (hm : ∀ b blk, m0.at b = some blk → blk.own = false ∧ blk.cells.all (ok1 m0.length) = true ∧ ∃ blk', m.at b = some blk' ∧ blk'.esz = blk.esz ∧ blk'.cells = blk.cells)
    (ha : args.map (rn3 fun b => b) = args) (hk : args.all (ok3 m0.length) = true) (hv : rn3 (fun b => b) v = v) (hkv : ok3 m0.length v = true) : PCalls P f args m v := by
  refine PCalls.via (fun b => b) h (fun b blk hb => ?_) ha hk hv hkv
  obtain ⟨h1, h2, blk', h3, h4, h5⟩ := hm b blk hb
  refine ⟨h1, h2, blk', h3, h4, fun i u hu => ?_⟩
  rw [rn1_idf, h5]
  exact hu

/-- A function that reads some blocks and makes one, or none. -/
theorem ACalls.viaN {P : Program} {f : FuncId} {args0 args : List Value} {m0 m : Mem} {v0 v : Value} {x : Option Blk} (τ : Nat → Nat) (h : ACalls P f args0 m0 v0 (m0 ++ [x])) (hl : Lies m0 m τ) (hh : ∀ b, b < m0.length → ∃ blk, m0.at b = some blk)
    (hx : ∀ blk, x = some blk → blk.own = true ∧ blk.cells.all scal = true)
    (hargs : args0.map (rn3 τ) = args) (hk : args0.all (ok3 m0.length) = true) (hv : rn3 (τn τ m0.length m.length) v0 = v) (hkv : ok3 (m0.length + 1) v0 = true) : ACalls P f args m v (m ++ [x]) := by
  have hat : ∀ c blk, Mem.at (m0 ++ [x]) c = some blk → (c < m0.length ∧ m0.at c = some blk) ∨ (c = m0.length ∧ x = some blk) := fun c blk hc => by
    rw [Mem.at_snoc] at hc
    split at hc
    · exact .inr ⟨by assumption, hc⟩
    · exact .inl ⟨Mem.at_lt hc, hc⟩
  have hmap : x.map (rnB (τn τ m0.length m.length)) = x := by
    cases x with
    | none => rfl
    | some blk =>
      obtain ⟨_, h2⟩ := hx blk rfl
      show some (rnB _ blk) = some blk
      unfold rnB
      congr 1
      rw [rn1_all h2]
  refine ACalls.via (k := 1) τ h ⟨hh, fun b blk hb => (hl b blk hb).2.1, fun b blk hb => ?_, fun b b' blk hb ho => ?_⟩ ⟨by simp, by simp, fun b hb _ => ?_, fun c blk hc ho => ?_, fun c blk hc _ => ?_, fun j hj => ?_, fun c blk hc ho => ?_, fun c blk hc ho => ?_⟩ hargs hk hv (by simpa using hkv)
  · obtain ⟨ho, _, blk', h1, h2, h3⟩ := hl b blk hb
    exact ⟨blk', h1, h2, fun h' => absurd (ho.symm.trans h') (by decide), h3⟩
  · rw [(hl b blk hb).1] at ho; cases ho
  · rw [Mem.at_snoc, if_neg (by omega)]
  · rw [(hl c blk hc).1] at ho; cases ho
  · refine ⟨blk, ?_, (hl c blk hc).1⟩
    rw [Mem.at_snoc, if_neg (by have := Mem.at_lt hc; omega)]
    exact hc
  · obtain rfl : j = 0 := by omega
    rw [Nat.add_zero, Nat.add_zero, Mem.at_snoc, if_pos rfl, Mem.at_snoc, if_pos rfl, hmap]
  · rcases hat c blk hc with ⟨h1, h2⟩ | ⟨rfl, rfl⟩
    · obtain ⟨b0, h3, h4⟩ := ho h1
      rw [(hl c b0 h3).1] at h4
      cases h4
    · exact (hx blk rfl).1
  · rcases hat c blk hc with ⟨h1, h2⟩ | ⟨rfl, rfl⟩
    · rw [(hl c blk h2).1] at ho; cases ho
    · obtain ⟨_, h2⟩ := hx blk rfl
      refine List.all_eq_true.2 fun u hu => ?_
      have := List.all_eq_true.1 h2 u hu
      unfold ok1
      split <;> first | exact this | (simp [Ab.scal] at this)
end Ab
end Go
end

section
namespace Go
open Go.RowKit
namespace Ab
section
variable {P : Program} {t : T} {m : Mem} {dst : Option Tmp} {rt ty ty' : TypeId} {pos : String} {after : Array Edge} {guard : Option (Nat × Bool)} {x y : Operand}

theorem run_eqb (hs : P.underlying ty = some .bool) (d : Nat) (a b : Bool) (w : World) : (Op.equalIn (d + 1) ty (.bool a) (.bool b)).run P w = .ok (a == b) w := by
  unfold Op.equalIn
  simp [Sem.run_bind, Sem.run_pure, run_und hs]
theorem run_eqb' (hs : P.underlying ty = some .bool) (a b : Bool) (w : World) : (Op.equalIn 10000 ty (.bool a) (.bool b)).run P w = .ok (a == b) w := run_eqb hs 9999 a b w
theorem OQ.boolne {a b : Bool} (hx : t.ev x = .bool a) (hy : t.ev y = .bool b) (hs : P.underlying ty = some .bool) : OQ P ⟨dst, .binOp .neq ty x y ty', rt, pos, after, guard⟩ t m (.bool (!(a == b))) :=
  fun ρ a' w ht _ => ⟨_, .scal rfl, fun w' _ => by
    simp [execOp, eqGuard, evb ht hx, evb ht hy, Sem.run_bind, Sem.run_pure, Result.andThen_ok, binOp, Op.equal, Op.maxDepth, run_eqb' hs]⟩
/-- '[n]T(s)'. -/
theorem OQ.arrAt {b o n c k z : Nat} {g : Bool} (hx : t.ev x = .slice (some ⟨b, o, none⟩) n c) (hf : elemOf' P ty = some (some k, z, g)) (h0 : 0 < n) (h1 : k ≤ n) : OQ P ⟨dst, .sliceToArrayPointer ty x, rt, pos, after, guard⟩ t m (.pointer (some ⟨b, o, none⟩)) := by
  intro ρ a w ht hm
  obtain ⟨e, e1, e2, e3⟩ := elemOf_array hf
  rcases (hx ▸ ht.ev x).slice_inv with ⟨pl, c', hp, h2, _, _, e4⟩ | ⟨h, _⟩
  case inr => omega
  refine ⟨_, .ptr hp, fun w' _ => ?_⟩
  simp [execOp, Instr.arrayAt, e4, Sem.run_bind, Sem.run_pure, run_und e1, Nat.not_lt.2 h1]
end
end Ab
end Go
end
