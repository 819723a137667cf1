/- The small memory, part 7: a contract proved in a memory of its own is carried into a greater one. -/
import Derived.Test.YtaoennekamlfeaaAb6
set_option linter.unusedSimpArgs false
set_option linter.unusedVariables false
namespace Go
open Go.RowKit
namespace Ab

def rn1 (τ : Nat → Nat) : Value → Value
  | .pointer (some ⟨b, o, s⟩) => .pointer (some ⟨τ b, o, s⟩)
  | .slice (some ⟨b, o, s⟩) n c => .slice (some ⟨τ b, o, s⟩) n c
  | v => v
def rn2 (τ : Nat → Nat) : Value → Value
  | .agg xs => .agg (xs.toList.map (rn1 τ)).toArray
  | v => rn1 τ v
def rn3 (τ : Nat → Nat) : Value → Value
  | .tuple xs => .tuple (xs.toList.map (rn2 τ)).toArray
  | .func fn xs ys => .func fn (xs.toList.map (rn2 τ)).toArray (ys.toList.map (rn2 τ)).toArray
  | v => rn2 τ v
/-- Only such addresses as are renamed. -/
def ok1 (n : Nat) : Value → Bool
  | .pointer (some ⟨b, _, none⟩) => decide (b < n)
  | .slice (some ⟨b, _, none⟩) _ _ => decide (b < n)
  | v => scal v
def ok2 (n : Nat) : Value → Bool
  | .agg xs => xs.toList.all (ok1 n)
  | v => ok1 n v
def ok3 (n : Nat) : Value → Bool
  | .tuple xs => xs.toList.all (ok2 n)
  | .func _ xs ys => xs.toList.all (ok2 n) && ys.toList.all (ok2 n)
  | v => ok2 n v

def Ren.via (ρ : Ren) (n : Nat) (τ : Nat → Nat) : Ren := fun b => if b < n then ρ (τ b) else none

section
variable {ρ : Ren} {n : Nat} {τ : Nat → Nat} {v v' : Value}
theorem via_get {b : Nat} (h : b < n) : (ρ.via n τ) b = ρ (τ b) := if_pos h

theorem rn1_scal (h : scal v = true) : rn1 τ v = v := by
  match v, h with
  | .pointer none, _ => rfl
  | .slice none a b, _ => rfl
  | .bool _, _ => rfl
  | .int _ _, _ => rfl
  | .string _, _ => rfl
  | .nilFunc, _ => rfl
  | .nilIface, _ => rfl
theorem ok1_cases (h : ok1 n v = true) : scal v = true ∨ (∃ b o, b < n ∧ v = .pointer (some ⟨b, o, none⟩)) ∨ ∃ b o k c, b < n ∧ v = .slice (some ⟨b, o, none⟩) k c := by
  unfold ok1 at h
  split at h
  · exact .inr (.inl ⟨_, _, of_decide_eq_true h, rfl⟩)
  · exact .inr (.inr ⟨_, _, _, _, of_decide_eq_true h, rfl⟩)
  · exact .inl h

theorem rn1_to (h : VRel ρ (rn1 τ v) v') (hk : ok1 n v = true) : VRel (ρ.via n τ) v v' := by
  rcases ok1_cases hk with hs | ⟨b, o, hb, rfl⟩ | ⟨b, o, k, c, hb, rfl⟩
  · rw [rn1_scal hs] at h
    rw [h.of_scal hs]
    exact .scal hs
  · obtain ⟨pl, hp, rfl⟩ := VRel.ptr_inv h
    exact .ptr (by rw [via_get hb]; exact hp)
  · rcases VRel.slice_inv h with ⟨pl, c', hp, h1, h2, h3, rfl⟩ | ⟨rfl, a', rfl⟩
    · exact .slice (by rw [via_get hb]; exact hp) h1 h2 h3
    · exact .empty

theorem rn1_of (h : VRel (ρ.via n τ) v v') (hk : ok1 n v = true) : VRel ρ (rn1 τ v) v' := by
  rcases ok1_cases hk with hs | ⟨b, o, hb, rfl⟩ | ⟨b, o, k, c, hb, rfl⟩
  · rw [rn1_scal hs, h.of_scal hs]
    exact .scal hs
  · obtain ⟨pl, hp, rfl⟩ := VRel.ptr_inv h
    rw [via_get hb] at hp
    exact .ptr hp
  · rcases VRel.slice_inv h with ⟨pl, c', hp, h1, h2, h3, rfl⟩ | ⟨rfl, a', rfl⟩
    · rw [via_get hb] at hp
      exact .slice hp h1 h2 h3
    · exact .empty

theorem mapRel {ρ' : Ren} {f : Value → Value} {g : Value → Bool} (hf : ∀ v v', VRel ρ (f v) v' → g v = true → VRel ρ' v v') {xs xs' : Array Value} (h1 : (xs.toList.map f).toArray.size = xs'.size)
    (h3 : ∀ (i : Nat) (h : i < (xs.toList.map f).toArray.size) (h' : i < xs'.size), VRel ρ (xs.toList.map f).toArray[i] xs'[i]) (hg : xs.toList.all g = true) : xs.size = xs'.size ∧ ∀ (i : Nat) (h : i < xs.size) (h' : i < xs'.size), VRel ρ' xs[i] xs'[i] := by
  refine ⟨by simpa using h1, fun i h h' => hf _ _ ?_ (List.all_eq_true.1 hg _ (by simp))⟩
  have := h3 i (by simpa using h) h'
  simp only [List.getElem_toArray, List.getElem_map, Array.getElem_toList] at this
  exact this
theorem mapRel' {ρ' : Ren} {f : Value → Value} {g : Value → Bool} (hf : ∀ v v', VRel ρ' v v' → g v = true → VRel ρ (f v) v') {xs xs' : Array Value} (h1 : xs.size = xs'.size)
    (h3 : ∀ (i : Nat) (h : i < xs.size) (h' : i < xs'.size), VRel ρ' xs[i] xs'[i]) (hg : xs.toList.all g = true) : (xs.toList.map f).toArray.size = xs'.size ∧ ∀ (i : Nat) (h : i < (xs.toList.map f).toArray.size) (h' : i < xs'.size), VRel ρ (xs.toList.map f).toArray[i] xs'[i] := by
  refine ⟨by simpa using h1, fun i h h' => ?_⟩
  have hi : i < xs.size := by simpa using h
  have := hf _ _ (h3 i hi h') (List.all_eq_true.1 hg _ (by simp))
  simp only [List.getElem_toArray, List.getElem_map, Array.getElem_toList]
  exact this

theorem rn2_to (h : VRel ρ (rn2 τ v) v') (hk : ok2 n v = true) : VRel (ρ.via n τ) v v' := by
  cases v with
  | agg xs =>
    simp only [rn2] at h
    simp only [ok2] at hk
    cases h with
    | scal h => simp [Ab.scal] at h
    | agg h1 h3 =>
      obtain ⟨a, b⟩ := mapRel (fun v v' h k => rn1_to h k) h1 h3 hk
      exact .agg a b
  | _ => exact rn1_to h hk
theorem rn2_of (h : VRel (ρ.via n τ) v v') (hk : ok2 n v = true) : VRel ρ (rn2 τ v) v' := by
  cases v with
  | agg xs =>
    simp only [ok2] at hk
    cases h with
    | scal h => simp [Ab.scal] at h
    | agg h1 h3 =>
      obtain ⟨a, b⟩ := mapRel' (fun v v' h k => rn1_of h k) h1 h3 hk
      exact .agg a b
  | _ => exact rn1_of h hk
theorem rn3_to (h : VRel ρ (rn3 τ v) v') (hk : ok3 n v = true) : VRel (ρ.via n τ) v v' := by
  cases v with
  | tuple xs =>
    simp only [rn3] at h
    simp only [ok3] at hk
    cases h with
    | scal h => simp [Ab.scal] at h
    | tuple h1 h3 =>
      obtain ⟨a, b⟩ := mapRel (fun v v' h k => rn2_to h k) h1 h3 hk
      exact .tuple a b
  | func fn xs ys =>
    simp only [rn3] at h
    simp only [ok3, Bool.and_eq_true] at hk
    cases h with
    | scal h => simp [Ab.scal] at h
    | func h1 h2 h3 h4 =>
      obtain ⟨a, b⟩ := mapRel (fun v v' h k => rn2_to h k) h1 h3 hk.1
      obtain ⟨c, d⟩ := mapRel (fun v v' h k => rn2_to h k) h2 h4 hk.2
      exact .func a c b d
  | _ => exact rn2_to h hk
theorem rn3_of (h : VRel (ρ.via n τ) v v') (hk : ok3 n v = true) : VRel ρ (rn3 τ v) v' := by
  cases v with
  | tuple xs =>
    simp only [ok3] at hk
    cases h with
    | scal h => simp [Ab.scal] at h
    | tuple h1 h3 =>
      obtain ⟨a, b⟩ := mapRel' (fun v v' h k => rn2_of h k) h1 h3 hk
      exact .tuple a b
  | func fn xs ys =>
    simp only [ok3, Bool.and_eq_true] at hk
    cases h with
    | scal h => simp [Ab.scal] at h
    | func h1 h2 h3 h4 =>
      obtain ⟨a, b⟩ := mapRel' (fun v v' h k => rn2_of h k) h1 h3 hk.1
      obtain ⟨c, d⟩ := mapRel' (fun v v' h k => rn2_of h k) h2 h4 hk.2
      exact .func a c b d
  | _ => exact rn2_of h hk
end

/-- A block of the small memory, found in a greater one. -/
def Lies (m0 m : Mem) (τ : Nat → Nat) : Prop :=
  ∀ b blk, m0.at b = some blk → blk.own = false ∧ blk.cells.all (ok1 m0.length) = true ∧ ∃ blk', m.at (τ b) = some blk' ∧ blk'.esz = blk.esz ∧ ∀ (i : Nat) v, blk.cells[i]? = some v → blk'.cells[i]? = some (rn1 τ v)

theorem PCalls.via {P : Program} {f : FuncId} {args0 args : List Value} {m0 m : Mem} {v0 v : Value} (τ : Nat → Nat) (h : PCalls P f args0 m0 v0) (hm : Lies m0 m τ)
    (ha : args0.map (rn3 τ) = args) (hk : args0.all (ok3 m0.length) = true) (hv : rn3 τ v0 = v) (hkv : ok3 m0.length v0 = true) : PCalls P f args m v := by
  intro ρ args' w hdom hargs hmr
  subst ha
  subst hv
  refine (h (ρ.via m0.length τ) args' w (fun b pl hb => ?_) ?_ ?_).mono ?_
  · unfold Ren.via at hb
    split at hb
    · assumption
    · cases hb
  · obtain ⟨xs', e, h1, h2⟩ := hargs.tuple_inv
    cases e
    refine .tuple (by simpa using h1) fun i hi hi' => ?_
    have hi0 : i < args0.length := by simpa using hi
    obtain ⟨u', e1, e2⟩ := h2 i (rn3 τ args0[i]) (by simp [hi0])
    have : u' = args'[i] := by
      rw [Array.getElem?_eq_getElem hi'] at e1
      exact (Option.some.inj e1).symm
    subst this
    simpa using rn3_to e2 (List.all_eq_true.1 hk _ (List.getElem_mem hi0))
  · intro b blk hb
    obtain ⟨ho, hs, blk', hb', he, hc⟩ := hm b blk hb
    obtain ⟨pl, hp, ⟨c, ty, fr, g1, g2, g3, g4⟩, g5⟩ := hmr _ _ hb'
    refine ⟨pl, by rw [via_get (Mem.at_lt hb)]; exact hp, ⟨c, ty, fr, g1, by rw [← he]; exact g2, fun i u hu => ?_, fun h => by rw [ho] at h; cases h⟩, fun h => by rw [ho] at h; cases h⟩
    obtain ⟨u', q1, q2⟩ := g3 i _ (hc i u hu)
    exact ⟨u', q1, rn1_to q2 (List.all_eq_true.1 hs u (List.mem_of_getElem? hu))⟩
  · rintro e w' ⟨v', rfl, hv, hb⟩
    exact ⟨v', rfl, rn3_of hv hkv, hb⟩

/-- A function of values without addresses. -/
theorem PCalls.any {P : Program} {f : FuncId} {args : List Value} {v : Value} (h : PCalls P f args [] v) (hk : args.all flat = true) (hkv : flat v = true) (m : Mem) : PCalls P f args m v := by
  intro ρ args' w hdom hargs hmr
  refine (h (fun _ => none) args' w (fun b pl hb => by cases hb) ?_ (fun b blk hb => by simp [Mem.at] at hb)).mono ?_
  · obtain ⟨xs', e, h1, h2⟩ := hargs.tuple_inv
    cases e
    refine .tuple (by simpa using h1) fun i hi hi' => ?_
    have hi0 : i < args.length := by simpa using hi
    obtain ⟨u', e1, e2⟩ := h2 i args[i] (by simp [hi0])
    have : u' = args'[i] := by
      rw [Array.getElem?_eq_getElem hi'] at e1
      exact (Option.some.inj e1).symm
    subst this
    have hf := List.all_eq_true.1 hk _ (List.getElem_mem hi0)
    rw [e2.of_flat hf]
    simpa using VRel.flat hf
  · rintro e w' ⟨v', rfl, hv, hb⟩
    exact ⟨v', rfl, by rw [hv.of_flat hkv]; exact .flat hkv, hb⟩

theorem ro_nil : Mem.ro [] := fun b blk h => by simp [Mem.at] at h

theorem Then.n {N : T → Mem → Prop} {Q : Post} {t : T} {m : Mem} (h : N t m) : Then N Q .normal t m := h
theorem Then.x {N : T → Mem → Prop} {Q : Post} {t : T} {m : Mem} {i : Nat} (h : Q (.exit i) t m) : Then N Q (.exit i) t m := h
theorem Then.r {N : T → Mem → Prop} {Q : Post} {t : T} {m : Mem} (h : Q .ret t m) : Then N Q .ret t m := h
theorem InB.n {id : Nat} {Q : Post} {t : T} {m : Mem} (h : Q .normal t m) : InB id Q .normal t m := h
theorem InB.r {id : Nat} {Q : Post} {t : T} {m : Mem} (h : Q .ret t m) : InB id Q .ret t m := h
theorem InB.hit {id : Nat} {Q : Post} {t : T} {m : Mem} (h : Q .normal t m) : InB id Q (.exit id) t m := by simp only [InB, if_true]; exact h
theorem InB.miss {id i : Nat} {Q : Post} {t : T} {m : Mem} (hne : i ≠ id) (h : Q (.exit i) t m) : InB id Q (.exit i) t m := by simp only [InB, if_neg hne]; exact h
theorem FinP.ret {P : Program} {fn : Func} {m m' : Mem} {v : Value} {vs : List Value} {t : T} (h : ResR P t m' fn.results.toList vs) (e : pack vs = v) (ho : oldv3 m v = true) : FinP P fn m v .ret t m' := ⟨.inl rfl, ⟨vs, h, e⟩, ho⟩
theorem FinP.end {P : Program} {fn : Func} {m m' : Mem} {v : Value} {vs : List Value} {t : T} (h : ResR P t m' fn.results.toList vs) (e : pack vs = v) (ho : oldv3 m v = true) : FinP P fn m v .normal t m' := ⟨.inr rfl, ⟨vs, h, e⟩, ho⟩

theorem PCalls.enter {P : Program} {f : FuncId} {fn : Func} {c : Code} {args : List Value} {m : Mem} {v : Value} {t : T} (hf : P.funcs[f]? = some fn) (hb : fn.body = some c) (hro : m.ro) (ht : args ++ List.replicate (fn.ntmps - args.length) undef = t)
    (h : ∀ E, AW P E c t m (FinP P fn m v)) : PCalls P f args m v := PCalls.body hf hb hro (ht ▸ h)
end Ab
end Go
