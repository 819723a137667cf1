/- The small memory, part 10: what is forgotten at a loop's head and at a function's end; calls that make memory. -/
import Derived.Test.YtaoennekamlfeaaAb9
set_option linter.unusedSimpArgs false
set_option linter.unusedVariables false
namespace Go
open Go.RowKit
namespace Ab

/-- Temporaries forgotten, all but the marked ones. -/
def fgt : List Bool → T → T
  | b :: bs, v :: t => (if b then v else junk) :: fgt bs t
  | [], t => t
  | _ :: _, [] => []
theorem fgt_length : ∀ (bs : List Bool) (t : T), (fgt bs t).length = t.length
  | [], t => rfl
  | b :: bs, [] => rfl
  | b :: bs, v :: t => by simp [fgt, fgt_length bs t]
theorem fgt_get : ∀ (bs : List Bool) (t : T) (i : Nat) (v : Value), (fgt bs t)[i]? = some v → v = junk ∨ t[i]? = some v
  | [], t, i, v, h => .inr h
  | b :: bs, [], i, v, h => by simp [fgt] at h
  | b :: bs, u :: t, i, v, h => by
    cases i with
    | zero =>
      simp only [fgt, List.getElem?_cons_zero, Option.some.injEq] at h ⊢
      cases b
      · exact .inl h.symm
      · exact .inr h
    | succ i => exact fgt_get bs t i v (by simpa [fgt] using h)
theorem Wk.forget {E : Env} {t : T} {m : Mem} (bs : List Bool) {t' : T} (h : fgt bs t = t') : Wk E t m t' m := by
  subst h
  intro ρ tmps w ht hs
  refine ⟨ρ, ⟨by rw [fgt_length]; exact ht.1, fun i v hv => ?_⟩, hs⟩
  rcases fgt_get bs t i v hv with rfl | hv
  · have hi : i < (fgt bs t).length := (List.getElem?_eq_some_iff.1 hv).1
    rw [fgt_length, ht.1] at hi
    exact ⟨tmps[i], by simp [hi], .junk _⟩
  · exact ht.2 i v hv
theorem Wk.trans {E : Env} {t t' t'' : T} {m m' m'' : Mem} (h : Wk E t m t' m') (k : Wk E t' m' t'' m'') : Wk E t m t'' m'' := fun ρ tmps w ht hs =>
  let ⟨ρ', ht', hs'⟩ := h ρ tmps w ht hs
  k ρ' tmps w ht' hs'

/-- Cells of a block that is found again under another number. -/
def cellsRen (σ : Nat → Nat) (n : Nat) (cs' cs : List Value) : Prop := (cs' = cs ∧ cs'.all scal = true) ∨ (cs'.map (rn1 σ) = cs ∧ cs'.all (ok1 n) = true)
def memRen (σ : Nat → Nat) (n : Nat) (m : Mem) : Nat → Mem → Prop
  | _, [] => True
  | k, none :: rest => memRen σ n m (k + 1) rest
  | k, some blk' :: rest => (∃ blk, m.at (σ k) = some blk ∧ blk.own = blk'.own ∧ blk.esz = blk'.esz ∧ cellsRen σ n blk'.cells blk.cells) ∧ memRen σ n m (k + 1) rest
theorem memRen_get {σ : Nat → Nat} {n : Nat} {m : Mem} : ∀ (m' : Mem) (k : Nat), memRen σ n m k m' → ∀ b blk', m'.at b = some blk' → ∃ blk, m.at (σ (k + b)) = some blk ∧ blk.own = blk'.own ∧ blk.esz = blk'.esz ∧ cellsRen σ n blk'.cells blk.cells
  | [], k, _, b, blk', hb => by simp [Mem.at] at hb
  | none :: rest, k, h, b, blk', hb => by
    cases b with
    | zero => simp [Mem.at] at hb
    | succ b =>
      have := memRen_get rest (k + 1) h b blk' (by simpa [Mem.at] using hb)
      rwa [show k + 1 + b = k + (b + 1) by omega] at this
  | some blk0 :: rest, k, h, b, blk', hb => by
    cases b with
    | zero =>
      simp [Mem.at] at hb
      subst hb
      exact h.1
    | succ b =>
      have := memRen_get rest (k + 1) h.2 b blk' (by simpa [Mem.at] using hb)
      rwa [show k + 1 + b = k + (b + 1) by omega] at this
theorem cellsRen_get {σ : Nat → Nat} {n : Nat} {cs' cs : List Value} (h : cellsRen σ n cs' cs) {i : Nat} {v : Value} (hv : cs'[i]? = some v) : cs[i]? = some (rn1 σ v) ∧ ok1 n v = true := by
  rcases h with ⟨rfl, hs⟩ | ⟨rfl, hs⟩
  · have := List.all_eq_true.1 hs v (List.mem_of_getElem? hv)
    rw [rn1_scal this]
    refine ⟨hv, ?_⟩
    unfold ok1
    split <;> first | exact this | (simp [Ab.scal] at this)
  · exact ⟨by simp [hv], List.all_eq_true.1 hs v (List.mem_of_getElem? hv)⟩

inductive RenT (σ : Nat → Nat) (n : Nat) : T → T → Prop
  | nil : RenT σ n [] []
  | junk {v : Value} {t' t : T} (h : RenT σ n t' t) : RenT σ n (junk :: t') (v :: t)
  | val {v v' : Value} {t' t : T} (h1 : rn3 σ v' = v) (h2 : ok3 n v' = true) (h : RenT σ n t' t) : RenT σ n (v' :: t') (v :: t)
theorem RenT.rel {σ : Nat → Nat} {n : Nat} {t' t : T} (h : RenT σ n t' t) : t'.length = t.length ∧ ∀ (i : Nat) (v' : Value), t'[i]? = some v' → v' = Ab.junk ∨ (t[i]? = some (rn3 σ v') ∧ ok3 n v' = true) := by
  induction h with
  | nil => exact ⟨rfl, fun i v h => by simp at h⟩
  | junk _ ih =>
    refine ⟨by simp [ih.1], fun i v' hv => ?_⟩
    cases i with
    | zero => simp at hv; exact .inl hv.symm
    | succ i => exact ih.2 i v' (by simpa using hv)
  | val h1 h2 _ ih =>
    refine ⟨by simp [ih.1], fun i v' hv => ?_⟩
    cases i with
    | zero => simp at hv; subst hv; exact .inr ⟨by simp [h1], h2⟩
    | succ i => exact ih.2 i v' (by simpa using hv)

theorem St.ren {E : Env} {ρ : Ren} {m m' : Mem} {w : World} (σ : Nat → Nat) (hm : memRen σ m'.length m 0 m') (hid : ∀ b, b < E.n0 → b < m'.length ∧ σ b = b)
    (hinj : ∀ b b', b < m'.length → b' < m'.length → σ b = σ b' → b = b') (h : St E ρ m w) : St E (ρ.via m'.length σ) m' w := by
  refine ⟨h.os, h.tape, h.output, h.size, h.same, fun b pl hb => ?_, fun b pl hb => ?_, fun b blk' hb => ?_, fun b blk' pl hb ho hp => ?_⟩
  · obtain ⟨h1, h2⟩ := hid b (E.hdom b pl hb)
    rw [via_get h1, h2]
    exact h.ext b pl hb
  · unfold Ren.via at hb
    split at hb
    · assumption
    · cases hb
  · obtain ⟨blk, g1, g2, g3, g4⟩ := memRen_get m' 0 hm b blk' hb
    rw [Nat.zero_add] at g1
    obtain ⟨pl, hp, ⟨c, ty, fr, k0, k1, k2, k3⟩, hown⟩ := h.mem _ blk g1
    have hlt := Mem.at_lt hb
    refine ⟨pl, by rw [via_get hlt]; exact hp, ⟨c, ty, fr, k0, g3 ▸ k1, fun i v hv => ?_, fun ho => k3 (g2.trans ho)⟩, fun ho b2 blk2 pl2 hne hb2 hp2 => ?_⟩
    · obtain ⟨q1, q2⟩ := cellsRen_get g4 hv
      obtain ⟨v', q3, q4⟩ := k2 i _ q1
      exact ⟨v', q3, rn1_to q4 q2⟩
    · obtain ⟨blk3, j1, j2, j3, j4⟩ := memRen_get m' 0 hm b2 blk2 hb2
      rw [Nat.zero_add] at j1
      have hlt2 := Mem.at_lt hb2
      rw [via_get hlt2] at hp2
      exact hown (g2.trans ho) (σ b2) blk3 pl2 (fun e => hne (hinj b2 b hlt2 hlt e)) j1 hp2
  · obtain ⟨blk, g1, g2, g3, g4⟩ := memRen_get m' 0 hm b blk' hb
    rw [Nat.zero_add] at g1
    rw [via_get (Mem.at_lt hb)] at hp
    exact h.fresh _ blk pl g1 (g2.trans ho) hp

theorem Wk.ren {E : Env} {t t' : T} {m m' : Mem} (σ : Nat → Nat) (ht : RenT σ m'.length t' t) (hm : memRen σ m'.length m 0 m') (hid : ∀ b, b < E.n0 → b < m'.length ∧ σ b = b)
    (hinj : ∀ b b', b < m'.length → b' < m'.length → σ b = σ b' → b = b') : Wk E t m t' m' := by
  intro ρ tmps w htr hs
  refine ⟨ρ.via m'.length σ, ⟨ht.rel.1.trans htr.1, fun i v' hv => ?_⟩, hs.ren σ hm hid hinj⟩
  rcases ht.rel.2 i v' hv with rfl | ⟨h1, h2⟩
  · have hi : i < t'.length := (List.getElem?_eq_some_iff.1 hv).1
    rw [ht.rel.1, htr.1] at hi
    exact ⟨tmps[i], by simp [hi], .junk _⟩
  · obtain ⟨u, q1, q2⟩ := htr.2 i _ h1
    exact ⟨u, q1, rn3_to q2 h2⟩

/-- The end of a function: what is given back, and the memory, in other numbers. -/
def FinA (P : Program) (E : Env) (fn : Func) (v : Value) (mE : Mem) : Post := fun e t m' => (e = .ret ∨ e = .normal) ∧ ∃ vs σ, ResR P t m' fn.results.toList vs ∧ rn3 σ v = pack vs ∧ ok3 mE.length v = true ∧ memRen σ mE.length m' 0 mE ∧
  (∀ b, b < E.n0 → b < mE.length ∧ σ b = b) ∧ ∀ b b', b < mE.length → b' < mE.length → σ b = σ b' → b = b'

theorem ACalls.body {P : Program} {f : FuncId} {fn : Func} {c : Code} {args : List Value} {m : Mem} {v : Value} {mE : Mem} (hf : P.funcs[f]? = some fn) (hb : fn.body = some c)
    (h : ∀ E : Env, E.n0 = m.length → AW P E c (args ++ List.replicate (fn.ntmps - args.length) undef) m (FinA P E fn v mE)) : ACalls P f args m v mE := by
  intro E0 ρ args' w ha hst
  refine calls_of_wp hf hb ?_
  have hsz : args.length = args'.size := by
    obtain ⟨xs', e, h1, _⟩ := ha.tuple_inv
    cases e
    simpa using h1
  let E : Env := ⟨E0.W, E0.S, ρ, m.length, hst.dom⟩
  refine wp_mono (h E rfl ρ _ w rfl ?_ ?_) ?_
  · refine ⟨by simp [hsz], fun i u hu => ?_⟩
    obtain ⟨xs', e, h1, h2⟩ := ha.tuple_inv
    cases e
    simp only at hu ⊢
    rw [List.getElem?_append] at hu
    rw [Array.getElem?_append]
    split at hu
    · rename_i hi
      rw [if_pos (by omega)]
      exact h2 i u (by simpa using hu)
    · rename_i hi
      rw [if_neg (by omega)]
      rw [← hsz]
      rw [List.getElem?_replicate] at hu
      split at hu
      · rename_i hi'
        cases Option.some.inj hu
        exact ⟨undef, by simp [hi'], .undef⟩
      · cases hu
  · exact ⟨hst.os, hst.tape, hst.output, hst.size, hst.same, .refl _, hst.dom, hst.mem, hst.fresh⟩
  · rintro e a w' ⟨hd, ρ', t', m', ⟨he, vs, σ, hr, hv, hok, hren, hid, hinj⟩, ht, hs⟩
    obtain ⟨v', hrun, hvr⟩ := run_results (P := P) (w := w') ht hs.mem hr
    rw [← hv] at hvr
    have hvr' := rn3_to hvr hok
    have hs' := hs.ren σ hren hid hinj
    have hst' : St E0 (ρ'.via mE.length σ) mE w' := ⟨hs'.os, hs'.tape, hs'.output, hs'.size, hs'.same, hst.ext.trans hs'.ext, hs'.dom, hs'.mem, hs'.fresh⟩
    rcases he with rfl | rfl
    · exact bodyPost_ret hrun hd ⟨v', _, rfl, hs'.ext, hvr', hst'⟩
    · exact bodyPost_end hrun hd ⟨v', _, rfl, hs'.ext, hvr', hst'⟩

theorem ACalls.enter {P : Program} {f : FuncId} {fn : Func} {c : Code} {args : List Value} {m : Mem} {v : Value} {mE : Mem} {t : T} (hf : P.funcs[f]? = some fn) (hb : fn.body = some c) (ht : args ++ List.replicate (fn.ntmps - args.length) undef = t)
    (h : ∀ E : Env, E.n0 = m.length → AW P E c t m (FinA P E fn v mE)) : ACalls P f args m v mE := ACalls.body hf hb (ht ▸ h)

/-- What a call makes of a small memory it makes of a greater one. -/
def τn (τ : Nat → Nat) (n0 n : Nat) : Nat → Nat := fun b => if b < n0 then τ b else n + (b - n0)
def rnB (κ : Nat → Nat) (b : Blk) : Blk := ⟨b.cells.map (rn1 κ), b.own, b.esz⟩

/-- The small memory lies in the greater one. -/
structure LiesA (m0 m : Mem) (τ : Nat → Nat) : Prop where
  here : ∀ b, b < m0.length → ∃ blk, m0.at b = some blk
  cells : ∀ b blk, m0.at b = some blk → blk.cells.all (ok1 m0.length) = true
  blk : ∀ b blk, m0.at b = some blk → ∃ blk', m.at (τ b) = some blk' ∧ blk'.esz = blk.esz ∧ (blk.own = true → blk'.own = true) ∧ ∀ (i : Nat) v, blk.cells[i]? = some v → blk'.cells[i]? = some (rn1 τ v)
  inj : ∀ b b' blk, m0.at b = some blk → blk.own = true → b' < m0.length → τ b = τ b' → b = b'

/-- The greater memory behind the call: the walk's own blocks as they were left, the others as they were, the new ones behind. -/
structure After (m0 m : Mem) (τ : Nat → Nat) (mE m' : Mem) (k : Nat) : Prop where
  len : mE.length = m0.length + k
  len' : m'.length = m.length + k
  old : ∀ b, b < m.length → (∀ c blk, m0.at c = some blk → blk.own = true → τ c ≠ b) → m'.at b = m.at b
  own : ∀ c blk, m0.at c = some blk → blk.own = true → m'.at (τ c) = (mE.at c).map (rnB (τn τ m0.length m.length))
  ro : ∀ c blk, m0.at c = some blk → blk.own = false → ∃ blk', mE.at c = some blk' ∧ blk'.own = false
  new : ∀ j, j < k → m'.at (m.length + j) = (mE.at (m0.length + j)).map (rnB (τn τ m0.length m.length))
  nown : ∀ c blk, mE.at c = some blk → (c < m0.length → ∃ b0, m0.at c = some b0 ∧ b0.own = true) → blk.own = true
  ok : ∀ c blk, mE.at c = some blk → blk.own = true → blk.cells.all (ok1 mE.length) = true

theorem rn1_ext {ρ ρ' : Ren} {κ : Nat → Nat} {n : Nat} (h : ∀ b pl, ρ b = some pl → b < n ∧ ρ' (κ b) = some pl) : Ext ρ (ρ'.via n κ) := fun b pl hb => by
  obtain ⟨h1, h2⟩ := h b pl hb
  rw [via_get h1]
  exact h2

theorem ACalls.via {P : Program} {f : FuncId} {args0 args : List Value} {m0 m mE m' : Mem} {v0 v : Value} {k : Nat} (τ : Nat → Nat) (h : ACalls P f args0 m0 v0 mE) (hl : LiesA m0 m τ) (ha : After m0 m τ mE m' k)
    (hargs : args0.map (rn3 τ) = args) (hk : args0.all (ok3 m0.length) = true) (hv : rn3 (τn τ m0.length m.length) v0 = v) (hkv : ok3 mE.length v0 = true) : ACalls P f args m v m' := by
  intro E ρ args' w hrel hst
  subst hargs
  subst hv
  have hτ : ∀ b, b < m0.length → τ b < m.length := fun b hb => by
    obtain ⟨blk, hblk⟩ := hl.here b hb
    obtain ⟨blk', h1, _⟩ := hl.blk b blk hblk
    exact Mem.at_lt h1
  -- the small memory as it lies
  let E1 : Env := ⟨w, fun x => ∃ b blk pl, m0.at b = some blk ∧ blk.own = true ∧ ρ (τ b) = some pl ∧ pl.blk = x, ρ.via m0.length τ, m0.length, fun b pl hb => by
    unfold Ren.via at hb
    split at hb
    · assumption
    · cases hb⟩
  have hst1 : St E1 (ρ.via m0.length τ) m0 w := by
    refine ⟨rfl, rfl, rfl, Nat.le_refl _, fun _ _ _ => rfl, .refl _, E1.hdom, fun b blk hb => ?_, fun b blk pl hb ho hp => ?_⟩
    · obtain ⟨blk', h1, h2, h3, h4⟩ := hl.blk b blk hb
      obtain ⟨pl, hp, ⟨c, ty, fr, g1, g2, g3, g4⟩, g5⟩ := hst.mem _ _ h1
      refine ⟨pl, by rw [via_get (Mem.at_lt hb)]; exact hp, ⟨c, ty, fr, g1, by rw [← h2]; exact g2, fun i u hu => ?_, fun ho => g4 (h3 ho)⟩, fun ho b2 blk2 pl2 hne hb2 hp2 => ?_⟩
      · obtain ⟨u', q1, q2⟩ := g3 i _ (h4 i u hu)
        exact ⟨u', q1, rn1_to q2 (List.all_eq_true.1 (hl.cells b blk hb) u (List.mem_of_getElem? hu))⟩
      · rw [via_get (Mem.at_lt hb2)] at hp2
        obtain ⟨blk3, j1, _⟩ := hl.blk b2 blk2 hb2
        exact g5 (h3 ho) (τ b2) blk3 pl2 (fun e => hne (hl.inj b b2 blk hb ho (Mem.at_lt hb2) e.symm).symm) j1 hp2
    · rw [via_get (Mem.at_lt hb)] at hp
      exact .inr ⟨b, blk, pl, hb, ho, hp, rfl⟩
  have hargs1 : VRel (ρ.via m0.length τ) (.tuple args0.toArray) (.tuple args') := by
    obtain ⟨xs', e, h1, h2⟩ := hrel.tuple_inv
    cases e
    refine .tuple (by simpa using h1) fun i hi hi' => ?_
    have hi0 : i < args0.length := by simpa using hi
    obtain ⟨u', e1, e2⟩ := h2 i (rn3 τ args0[i]) (by simp [hi0])
    have : u' = args'[i] := by
      rw [Array.getElem?_eq_getElem hi'] at e1
      exact (Option.some.inj e1).symm
    subst this
    simpa using rn3_to e2 (List.all_eq_true.1 hk _ (List.getElem_mem hi0))
  refine (h E1 _ args' w hargs1 hst1).mono ?_
  rintro e w' ⟨v', ρ2, rfl, hext, hvr, hs2⟩
  let ρ' : Ren := fun b => if b < m.length then ρ b else ρ2 (m0.length + (b - m.length))
  have hρ : Ext ρ ρ' := fun b pl hb => by
    show (if b < m.length then ρ b else _) = _
    rw [if_pos (hst.dom b pl hb)]
    exact hb
  have hold : ∀ b pl, b < m0.length → ρ2 b = some pl → ρ (τ b) = some pl := fun b pl hb hp => by
    obtain ⟨blk, hblk⟩ := hl.here b hb
    obtain ⟨pl0, hp0, _⟩ := hst1.mem b blk hblk
    have := hext b pl0 hp0
    rw [hp] at this
    cases Option.some.inj this
    rw [via_get hb] at hp0
    exact hp0
  have hκ : ∀ b pl, ρ2 b = some pl → b < mE.length ∧ ρ' (τn τ m0.length m.length b) = some pl := fun b pl hp => by
    refine ⟨hs2.dom b pl hp, ?_⟩
    unfold τn
    by_cases hb : b < m0.length
    · rw [if_pos hb]
      show (if τ b < m.length then ρ (τ b) else _) = _
      rw [if_pos (hτ b hb)]
      exact hold b pl hb hp
    · rw [if_neg hb]
      show (if m.length + (b - m0.length) < m.length then _ else ρ2 (m0.length + (m.length + (b - m0.length) - m.length))) = _
      rw [if_neg (by omega), show m0.length + (m.length + (b - m0.length) - m.length) = b by omega]
      exact hp
  have hκe : Ext ρ2 (ρ'.via mE.length (τn τ m0.length m.length)) := rn1_ext hκ
  have hsize : w.heap.size ≤ w'.heap.size := hs2.size
  -- blocks of the greater memory that the call does not own
  have hfar : ∀ b blk pl, m.at b = some blk → ρ b = some pl → (∀ c blk0, m0.at c = some blk0 → blk0.own = true → τ c ≠ b) → w'.heap[pl.blk]? = w.heap[pl.blk]? := fun b blk pl hb hp hno => by
    obtain ⟨pl0, hp0, hbr, _⟩ := hst.mem b blk hb
    cases Option.some.inj (hp0.symm.trans hp)
    refine hs2.same _ hbr.lt ?_
    rintro ⟨c, blk0, pl1, hc, hco, hc1, hc2⟩
    obtain ⟨blk1, j1, j2, j3, _⟩ := hl.blk c blk0 hc
    obtain ⟨pl2, hp2, _, hown⟩ := hst.mem _ _ j1
    cases Option.some.inj (hp2.symm.trans hc1)
    exact hown (j3 hco) b blk pl (fun e => hno c blk0 hc hco e.symm) hb hp hc2.symm
  -- a block that the call owns, or has made, seen from the greater memory
  have hmine : ∀ c b blk pl, mE.at c = some blk → blk.own = true → ρ2 c = some pl → b = τn τ m0.length m.length c → BRel ρ' (rnB (τn τ m0.length m.length) blk) pl w' := by
    rintro c b blk pl hc ho hp rfl
    obtain ⟨pl0, hp0, ⟨cc, ty, fr, k0, k1, k2, k3⟩, _⟩ := hs2.mem c blk hc
    cases Option.some.inj (hp0.symm.trans hp)
    refine ⟨cc, ty, fr, k0, k1, fun i u hu => ?_, k3⟩
    simp only [rnB, List.getElem?_map] at hu
    cases hi : blk.cells[i]? with
    | none => rw [hi] at hu; cases hu
    | some u0 =>
      rw [hi] at hu
      simp only [Option.map_some, Option.some.injEq] at hu
      subst hu
      obtain ⟨u', q1, q2⟩ := k2 i u0 hi
      exact ⟨u', q1, rn1_of (q2.ext hκe) (List.all_eq_true.1 (ha.ok c blk hc ho) u0 (List.mem_of_getElem? hi))⟩
  -- where a block of the greater memory comes from
  have hfrom : ∀ b blk', m'.at b = some blk' → (m.at b = some blk' ∧ b < m.length ∧ ∀ c blk0, m0.at c = some blk0 → blk0.own = true → τ c ≠ b) ∨
      ∃ c blk, mE.at c = some blk ∧ blk.own = true ∧ blk' = rnB (τn τ m0.length m.length) blk ∧ b = τn τ m0.length m.length c := by
    intro b blk' hb
    by_cases hbm : b < m.length
    · by_cases hex : ∃ c blk0, m0.at c = some blk0 ∧ blk0.own = true ∧ τ c = b
      · obtain ⟨c, blk0, hc, hco, rfl⟩ := hex
        rw [ha.own c blk0 hc hco] at hb
        cases hcE : mE.at c with
        | none => rw [hcE] at hb; cases hb
        | some blk =>
          rw [hcE] at hb
          simp only [Option.map_some, Option.some.injEq] at hb
          exact .inr ⟨c, blk, hcE, ha.nown c blk hcE (fun _ => ⟨blk0, hc, hco⟩), hb.symm, by unfold τn; rw [if_pos (Mem.at_lt hc)]⟩
      · have hno : ∀ c blk0, m0.at c = some blk0 → blk0.own = true → τ c ≠ b := fun c blk0 h1 h2 h3 => hex ⟨c, blk0, h1, h2, h3⟩
        rw [ha.old b hbm hno] at hb
        exact .inl ⟨hb, hbm, hno⟩
    · have hlt := Mem.at_lt hb
      rw [ha.len'] at hlt
      obtain ⟨j, rfl⟩ : ∃ j, b = m.length + j := ⟨b - m.length, by omega⟩
      have hj : j < k := by omega
      rw [ha.new j hj] at hb
      cases hcE : mE.at (m0.length + j) with
      | none => rw [hcE] at hb; cases hb
      | some blk =>
        rw [hcE] at hb
        simp only [Option.map_some, Option.some.injEq] at hb
        exact .inr ⟨m0.length + j, blk, hcE, ha.nown _ blk hcE (fun h => by omega), hb.symm, by unfold τn; rw [if_neg (by omega)]; omega⟩
  have hpl : ∀ c pl, ρ2 c = some pl → ρ' (τn τ m0.length m.length c) = some pl := fun c pl hp => (hκ c pl hp).2
  refine ⟨v', ρ', rfl, hρ, rn3_of (hvr.ext hκe) hkv, ⟨hs2.os.trans hst.os, hs2.tape.trans hst.tape, hs2.output.trans hst.output, Nat.le_trans hst.size hsize, fun x hx hxs => ?_, hst.ext.trans hρ, fun b pl hb => ?_, fun b blk' hb => ?_, fun b blk' pl hb ho hp => ?_⟩⟩
  · rw [hs2.same x (Nat.lt_of_lt_of_le hx hst.size) ?_]
    · exact hst.same x hx hxs
    · rintro ⟨c, blk0, pl, hc, hco, hp, rfl⟩
      obtain ⟨blk1, j1, j2, j3, _⟩ := hl.blk c blk0 hc
      rcases hst.fresh _ _ _ j1 (j3 hco) hp with hf | hf
      · omega
      · exact hxs hf
  · rw [ha.len']
    by_cases hbm : b < m.length
    · omega
    · have hb' : ρ2 (m0.length + (b - m.length)) = some pl := by
        have : (if b < m.length then ρ b else ρ2 (m0.length + (b - m.length))) = some pl := hb
        rwa [if_neg hbm] at this
      have := hs2.dom _ _ hb'
      rw [ha.len] at this
      omega
  · rcases hfrom b blk' hb with ⟨hbm, hlt, hno⟩ | ⟨c, blk, hc, hco, rfl, rfl⟩
    · obtain ⟨pl, hp, hbr, hown⟩ := hst.mem b blk' hbm
      refine ⟨pl, hρ b pl hp, hbr.ext hρ (hfar b blk' pl hbm hp hno), fun ho b2 blk2 pl2 hne hb2 hp2 => ?_⟩
      rcases hfrom b2 blk2 hb2 with ⟨hbm2, hlt2, hno2⟩ | ⟨c2, blk2', hc2, hco2, rfl, rfl⟩
      · have : (if b2 < m.length then ρ b2 else ρ2 (m0.length + (b2 - m.length))) = some pl2 := hp2
        rw [if_pos hlt2] at this
        exact hown ho b2 blk2 pl2 hne hbm2 this
      · obtain ⟨pl3, hp3, _, _⟩ := hs2.mem c2 blk2' hc2
        have e3 := hpl c2 pl3 hp3
        rw [hp2] at e3
        cases Option.some.inj e3
        rcases hs2.fresh c2 blk2' _ hc2 hco2 hp3 with hf | ⟨c4, blk4, pl4, h41, h42, h43, h44⟩
        · have h1 := hbr.lt
          have h2 : w.heap.size ≤ pl2.blk := hf
          omega
        · obtain ⟨blk5, j1, j2, j3, _⟩ := hl.blk c4 blk4 h41
          rw [← h44]
          exact hown ho (τ c4) blk5 pl4 (hno c4 blk4 h41 h42) j1 h43
    · obtain ⟨pl, hp, _, hown⟩ := hs2.mem c blk hc
      refine ⟨pl, hpl c pl hp, hmine c _ blk pl hc hco hp rfl, fun _ b2 blk2 pl2 hne hb2 hp2 => ?_⟩
      rcases hfrom b2 blk2 hb2 with ⟨hbm2, hlt2, hno2⟩ | ⟨c2, blk2', hc2, hco2, rfl, rfl⟩
      · have hp2' : ρ b2 = some pl2 := by
          have : (if b2 < m.length then ρ b2 else ρ2 (m0.length + (b2 - m.length))) = some pl2 := hp2
          rwa [if_pos hlt2] at this
        obtain ⟨pl6, hp6, hbr6, _⟩ := hst.mem b2 blk2 hbm2
        cases Option.some.inj (hp6.symm.trans hp2')
        rcases hs2.fresh c blk pl hc hco hp with hf | ⟨c4, blk4, pl4, h41, h42, h43, h44⟩
        · have h1 := hbr6.lt
          have h2 : w.heap.size ≤ pl.blk := hf
          omega
        · obtain ⟨blk5, j1, j2, j3, _⟩ := hl.blk c4 blk4 h41
          obtain ⟨pl7, hp7, _, hown7⟩ := hst.mem _ _ j1
          cases Option.some.inj (hp7.symm.trans h43)
          rw [← h44]
          exact hown7 (j3 h42) b2 blk2 pl2 (Ne.symm (hno2 c4 blk4 h41 h42)) hbm2 hp2'
      · obtain ⟨pl3, hp3, _, _⟩ := hs2.mem c2 blk2' hc2
        have e3 := hpl c2 pl3 hp3
        rw [hp2] at e3
        cases Option.some.inj e3
        exact hown hco c2 blk2' pl2 (fun e => hne (by rw [e])) hc2 hp3
  · rcases hfrom b blk' hb with ⟨hbm, hlt, hno⟩ | ⟨c, blk, hc, hco, rfl, rfl⟩
    · have : (if b < m.length then ρ b else ρ2 (m0.length + (b - m.length))) = some pl := hp
      rw [if_pos hlt] at this
      exact hst.fresh b blk' pl hbm ho this
    · obtain ⟨pl3, hp3, _, _⟩ := hs2.mem c blk hc
      have e3 := hpl c pl3 hp3
      rw [hp] at e3
      cases Option.some.inj e3
      rcases hs2.fresh c blk pl hc hco hp3 with hf | ⟨c4, blk4, pl4, h41, h42, h43, h44⟩
      · exact .inl (Nat.le_trans hst.size hf)
      · obtain ⟨blk5, j1, j2, j3, _⟩ := hl.blk c4 blk4 h41
        rw [← h44]
        exact hst.fresh _ _ _ j1 (j3 h42) h43
end Ab
end Go
