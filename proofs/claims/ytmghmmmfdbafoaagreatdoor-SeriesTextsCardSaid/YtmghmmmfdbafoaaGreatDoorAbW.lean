/- The small memory: calls that hang on the first blocks of the world (package variables that the library reads): they lie as in the world W0. -/
import Derived.Test.YtmghmmmfdbafoaaGreatDoorAbK
import Derived.Test.YtmghmmmfdbafoaaGreatDoorAbJ
import Derived.Test.YtmghmmmfdbafoaaGreatDoorAbN
set_option linter.unusedSimpArgs false
set_option linter.unusedVariables false
namespace Go
open Go.RowKit
namespace Ab

/-- A call that may write and make, where the first blocks lie as in W0. -/
def ACallsW (N0 : Nat) (W0 : World) (P : Program) (f : FuncId) (args : List Value) (m : Mem) (v : Value) (m' : Mem) : Prop :=
  ∀ (E : Env) (ρ : Ren) (args' : Array Value) (w : World), EW N0 W0 E → VRel ρ (.tuple args.toArray) (.tuple args') → St E ρ m w →
    Calls P f args' w fun e w' => ∃ v' ρ', e = .returned v' ∧ Ext ρ ρ' ∧ VRel ρ' v v' ∧ St E ρ' m' w'
def PCallsW (N0 : Nat) (W0 : World) (P : Program) (f : FuncId) (args : List Value) (m : Mem) (v : Value) : Prop :=
  ∀ (ρ : Ren) (args' : Array Value) (w : World), GW N0 W0 w → (∀ b pl, ρ b = some pl → b < m.length) → VRel ρ (.tuple args.toArray) (.tuple args') → MRel ρ m w →
    Calls P f args' w fun e w' => ∃ v', e = .returned v' ∧ VRel ρ v v' ∧ Below w.heap.size w w'
theorem ACalls.w {N0 : Nat} {W0 : World} {P : Program} {f : FuncId} {args : List Value} {m m' : Mem} {v : Value} (h : ACalls P f args m v m') : ACallsW N0 W0 P f args m v m' := fun E ρ args' w _ => h E ρ args' w
theorem PCalls.w {N0 : Nat} {W0 : World} {P : Program} {f : FuncId} {args : List Value} {m : Mem} {v : Value} (h : PCalls P f args m v) : PCallsW N0 W0 P f args m v := fun ρ args' w _ => h ρ args' w
theorem ACallsW.via {P : Program} {f : FuncId} {args0 args : List Value} {m0 m mE m' : Mem} {v0 v : Value} {k : Nat} (τ : Nat → Nat) {N0 : Nat} {W0 : World} (h : ACallsW N0 W0 P f args0 m0 v0 mE) (hl : LiesA m0 m τ) (ha : After m0 m τ mE m' k)
    (hargs : args0.map (rn3 τ) = args) (hk : args0.all (ok3 m0.length) = true) (hv : rn3 (τn τ m0.length m.length) v0 = v) (hkv : ok3 mE.length v0 = true) : ACallsW N0 W0 P f args m v m' := by
  intro E ρ args' w hKW hrel hst
  subst hargs
  subst hv
  have hτ : ∀ b, b < m0.length → τ b < m.length := fun b hb => by
    obtain ⟨blk, hblk⟩ := hl.here b hb
    obtain ⟨blk', h1, _⟩ := hl.blk b blk hblk
    exact Mem.at_lt h1
  -- the small memory as it lies
  let E1 : Env := ⟨w, fun x => ∃ b blk pl, m0.at b = some blk ∧ blk.own = true ∧ ρ (τ b) = some pl ∧ pl.blk = x, ρ.via m0.length τ, m0.length, (fun b pl hb => by
    unfold Ren.via at hb
    split at hb
    · assumption
    · cases hb), []⟩
  have hst1 : St E1 (ρ.via m0.length τ) m0 w := by
    refine ⟨rfl, rfl, rfl, Nat.le_refl _, fun _ _ _ => rfl, fun _ _ => rfl, Nat.le_refl _, E1.hdom, fun b blk hb => ?_, fun b blk pl hb ho hp => ?_⟩
    · obtain ⟨blk', h1, h2, h3, h4⟩ := hl.blk b blk hb
      obtain ⟨pl, hp, ⟨c, ty, fr, g1, g2, g3, g4⟩, g5⟩ := hst.mem _ _ h1
      refine ⟨pl, by rw [via_get (Mem.at_lt hb)]; exact hp, ⟨c, ty, fr, g1, by rw [← h2]; exact g2, fun i u hu => ?_, fun ho => g4 (h3 ho)⟩, fun ho b2 blk2 pl2 hne hb2 hp2 => ?_⟩
      · obtain ⟨u', q1, q2⟩ := g3 i _ (h4 i u hu)
        exact ⟨u', q1, rn1_to q2 (List.all_eq_true.1 (hl.cells b blk hb) u (List.mem_of_getElem? hu))⟩
      · rw [via_get (Mem.at_lt hb2)] at hp2
        obtain ⟨blk3, j1, _⟩ := hl.blk b2 blk2 hb2
        exact g5 (h3 ho) (τ b2) blk3 pl2 (fun e => hne (hl.inj b b2 blk hb ho (Mem.at_lt hb2) e.symm).symm) j1 hp2
    · rw [via_get (Mem.at_lt hb)] at hp
      exact .inr ⟨b, blk, pl, hb, ho, hp, rfl⟩
  have hargs1 : VRel (ρ.via m0.length τ) (.tuple args0.toArray) (.tuple args') := by
    obtain ⟨xs', e, h1, h2⟩ := hrel.tuple_inv
    cases e
    refine .tuple (by simpa using h1) fun i hi hi' => ?_
    have hi0 : i < args0.length := by simpa using hi
    obtain ⟨u', e1, e2⟩ := h2 i (rn3 τ args0[i]) (by simp [hi0])
    have : u' = args'[i] := by
      rw [Array.getElem?_eq_getElem hi'] at e1
      exact (Option.some.inj e1).symm
    subst this
    simpa using rn3_to e2 (List.all_eq_true.1 hk _ (List.getElem_mem hi0))
  have hE1 : EW N0 W0 E1 := ⟨hKW.at hst, fun x hx ⟨b, blk, pl, hb, ho, hp, he⟩ => by
    obtain ⟨blk', j1, _, j3, _⟩ := hl.blk b blk hb
    subst he
    rcases hst.fresh _ _ _ j1 (j3 ho) hp with hf | hf
    · have := hKW.1.1; omega
    · exact hKW.2 _ hx hf⟩
  refine (h E1 _ args' w hE1 hargs1 hst1).mono ?_
  rintro e w' ⟨v', ρ2, rfl, hext, hvr, hs2⟩
  let ρ' : Ren := fun b => if b < m.length then ρ b else ρ2 (m0.length + (b - m.length))
  have hρ : Ext ρ ρ' := fun b pl hb => by
    show (if b < m.length then ρ b else _) = _
    rw [if_pos (hst.dom b pl hb)]
    exact hb
  have hold : ∀ b pl, b < m0.length → ρ2 b = some pl → ρ (τ b) = some pl := fun b pl hb hp => by
    obtain ⟨blk, hblk⟩ := hl.here b hb
    obtain ⟨pl0, hp0, _⟩ := hst1.mem b blk hblk
    have := hext b pl0 hp0
    rw [hp] at this
    cases Option.some.inj this
    rw [via_get hb] at hp0
    exact hp0
  have hκ : ∀ b pl, ρ2 b = some pl → b < mE.length ∧ ρ' (τn τ m0.length m.length b) = some pl := fun b pl hp => by
    refine ⟨hs2.dom b pl hp, ?_⟩
    unfold τn
    by_cases hb : b < m0.length
    · rw [if_pos hb]
      show (if τ b < m.length then ρ (τ b) else _) = _
      rw [if_pos (hτ b hb)]
      exact hold b pl hb hp
    · rw [if_neg hb]
      show (if m.length + (b - m0.length) < m.length then _ else ρ2 (m0.length + (m.length + (b - m0.length) - m.length))) = _
      rw [if_neg (by omega), show m0.length + (m.length + (b - m0.length) - m.length) = b by omega]
      exact hp
  have hκe : Ext ρ2 (ρ'.via mE.length (τn τ m0.length m.length)) := rn1_ext hκ
  have hsize : w.heap.size ≤ w'.heap.size := hs2.size
  -- blocks of the greater memory that the call does not own
  have hfar : ∀ b blk pl, m.at b = some blk → ρ b = some pl → (∀ c blk0, m0.at c = some blk0 → blk0.own = true → τ c ≠ b) → w'.heap[pl.blk]? = w.heap[pl.blk]? := fun b blk pl hb hp hno => by
    obtain ⟨pl0, hp0, hbr, _⟩ := hst.mem b blk hb
    cases Option.some.inj (hp0.symm.trans hp)
    refine hs2.same _ hbr.lt ?_
    rintro ⟨c, blk0, pl1, hc, hco, hc1, hc2⟩
    obtain ⟨blk1, j1, j2, j3, _⟩ := hl.blk c blk0 hc
    obtain ⟨pl2, hp2, _, hown⟩ := hst.mem _ _ j1
    cases Option.some.inj (hp2.symm.trans hc1)
    exact hown (j3 hco) b blk pl (fun e => hno c blk0 hc hco e.symm) hb hp hc2.symm
  -- a block that the call owns, or has made, seen from the greater memory
  have hmine : ∀ c b blk pl, mE.at c = some blk → blk.own = true → ρ2 c = some pl → b = τn τ m0.length m.length c → BRel ρ' (rnB (τn τ m0.length m.length) blk) pl w' := by
    rintro c b blk pl hc ho hp rfl
    obtain ⟨pl0, hp0, ⟨cc, ty, fr, k0, k1, k2, k3⟩, _⟩ := hs2.mem c blk hc
    cases Option.some.inj (hp0.symm.trans hp)
    refine ⟨cc, ty, fr, k0, k1, fun i u hu => ?_, k3⟩
    simp only [rnB, List.getElem?_map] at hu
    cases hi : blk.cells[i]? with
    | none => rw [hi] at hu; cases hu
    | some u0 =>
      rw [hi] at hu
      simp only [Option.map_some, Option.some.injEq] at hu
      subst hu
      obtain ⟨u', q1, q2⟩ := k2 i u0 hi
      exact ⟨u', q1, rn1_of (q2.ext hκe) (List.all_eq_true.1 (ha.ok c blk hc ho) u0 (List.mem_of_getElem? hi))⟩
  -- where a block of the greater memory comes from
  have hfrom : ∀ b blk', m'.at b = some blk' → (m.at b = some blk' ∧ b < m.length ∧ ∀ c blk0, m0.at c = some blk0 → blk0.own = true → τ c ≠ b) ∨
      ∃ c blk, mE.at c = some blk ∧ blk.own = true ∧ blk' = rnB (τn τ m0.length m.length) blk ∧ b = τn τ m0.length m.length c := by
    intro b blk' hb
    by_cases hbm : b < m.length
    · by_cases hex : ∃ c blk0, m0.at c = some blk0 ∧ blk0.own = true ∧ τ c = b
      · obtain ⟨c, blk0, hc, hco, rfl⟩ := hex
        rw [ha.own c blk0 hc hco] at hb
        cases hcE : mE.at c with
        | none => rw [hcE] at hb; cases hb
        | some blk =>
          rw [hcE] at hb
          simp only [Option.map_some, Option.some.injEq] at hb
          exact .inr ⟨c, blk, hcE, ha.nown c blk hcE (fun _ => ⟨blk0, hc, hco⟩), hb.symm, by unfold τn; rw [if_pos (Mem.at_lt hc)]⟩
      · have hno : ∀ c blk0, m0.at c = some blk0 → blk0.own = true → τ c ≠ b := fun c blk0 h1 h2 h3 => hex ⟨c, blk0, h1, h2, h3⟩
        rw [ha.old b hbm hno] at hb
        exact .inl ⟨hb, hbm, hno⟩
    · have hlt := Mem.at_lt hb
      rw [ha.len'] at hlt
      obtain ⟨j, rfl⟩ : ∃ j, b = m.length + j := ⟨b - m.length, by omega⟩
      have hj : j < k := by omega
      rw [ha.new j hj] at hb
      cases hcE : mE.at (m0.length + j) with
      | none => rw [hcE] at hb; cases hb
      | some blk =>
        rw [hcE] at hb
        simp only [Option.map_some, Option.some.injEq] at hb
        exact .inr ⟨m0.length + j, blk, hcE, ha.nown _ blk hcE (fun h => by omega), hb.symm, by unfold τn; rw [if_neg (by omega)]; omega⟩
  have hpl : ∀ c pl, ρ2 c = some pl → ρ' (τn τ m0.length m.length c) = some pl := fun c pl hp => (hκ c pl hp).2
  refine ⟨v', ρ', rfl, hρ, rn3_of (hvr.ext hκe) hkv, ⟨hs2.os.trans hst.os, hs2.tape.trans hst.tape, hs2.output.trans hst.output, Nat.le_trans hst.size hsize, fun x hx hxs => ?_, fun b hb => (if_pos (Nat.lt_of_lt_of_le hb hst.len)).trans (hst.ext b hb), by have := hst.len; rw [ha.len']; omega, fun b pl hb => ?_, fun b blk' hb => ?_, fun b blk' pl hb ho hp => ?_⟩⟩
  · rw [hs2.same x (Nat.lt_of_lt_of_le hx hst.size) ?_]
    · exact hst.same x hx hxs
    · rintro ⟨c, blk0, pl, hc, hco, hp, rfl⟩
      obtain ⟨blk1, j1, j2, j3, _⟩ := hl.blk c blk0 hc
      rcases hst.fresh _ _ _ j1 (j3 hco) hp with hf | hf
      · omega
      · exact hxs hf
  · rw [ha.len']
    by_cases hbm : b < m.length
    · omega
    · have hb' : ρ2 (m0.length + (b - m.length)) = some pl := by
        have : (if b < m.length then ρ b else ρ2 (m0.length + (b - m.length))) = some pl := hb
        rwa [if_neg hbm] at this
      have := hs2.dom _ _ hb'
      rw [ha.len] at this
      omega
  · rcases hfrom b blk' hb with ⟨hbm, hlt, hno⟩ | ⟨c, blk, hc, hco, rfl, rfl⟩
    · obtain ⟨pl, hp, hbr, hown⟩ := hst.mem b blk' hbm
      refine ⟨pl, hρ b pl hp, hbr.ext hρ (hfar b blk' pl hbm hp hno), fun ho b2 blk2 pl2 hne hb2 hp2 => ?_⟩
      rcases hfrom b2 blk2 hb2 with ⟨hbm2, hlt2, hno2⟩ | ⟨c2, blk2', hc2, hco2, rfl, rfl⟩
      · have : (if b2 < m.length then ρ b2 else ρ2 (m0.length + (b2 - m.length))) = some pl2 := hp2
        rw [if_pos hlt2] at this
        exact hown ho b2 blk2 pl2 hne hbm2 this
      · obtain ⟨pl3, hp3, _, _⟩ := hs2.mem c2 blk2' hc2
        have e3 := hpl c2 pl3 hp3
        rw [hp2] at e3
        cases Option.some.inj e3
        rcases hs2.fresh c2 blk2' _ hc2 hco2 hp3 with hf | ⟨c4, blk4, pl4, h41, h42, h43, h44⟩
        · have h1 := hbr.lt
          have h2 : w.heap.size ≤ pl2.blk := hf
          omega
        · obtain ⟨blk5, j1, j2, j3, _⟩ := hl.blk c4 blk4 h41
          rw [← h44]
          exact hown ho (τ c4) blk5 pl4 (hno c4 blk4 h41 h42) j1 h43
    · obtain ⟨pl, hp, _, hown⟩ := hs2.mem c blk hc
      refine ⟨pl, hpl c pl hp, hmine c _ blk pl hc hco hp rfl, fun _ b2 blk2 pl2 hne hb2 hp2 => ?_⟩
      rcases hfrom b2 blk2 hb2 with ⟨hbm2, hlt2, hno2⟩ | ⟨c2, blk2', hc2, hco2, rfl, rfl⟩
      · have hp2' : ρ b2 = some pl2 := by
          have : (if b2 < m.length then ρ b2 else ρ2 (m0.length + (b2 - m.length))) = some pl2 := hp2
          rwa [if_pos hlt2] at this
        obtain ⟨pl6, hp6, hbr6, _⟩ := hst.mem b2 blk2 hbm2
        cases Option.some.inj (hp6.symm.trans hp2')
        rcases hs2.fresh c blk pl hc hco hp with hf | ⟨c4, blk4, pl4, h41, h42, h43, h44⟩
        · have h1 := hbr6.lt
          have h2 : w.heap.size ≤ pl.blk := hf
          omega
        · obtain ⟨blk5, j1, j2, j3, _⟩ := hl.blk c4 blk4 h41
          obtain ⟨pl7, hp7, _, hown7⟩ := hst.mem _ _ j1
          cases Option.some.inj (hp7.symm.trans h43)
          rw [← h44]
          exact hown7 (j3 h42) b2 blk2 pl2 (Ne.symm (hno2 c4 blk4 h41 h42)) hbm2 hp2'
      · obtain ⟨pl3, hp3, _, _⟩ := hs2.mem c2 blk2' hc2
        have e3 := hpl c2 pl3 hp3
        rw [hp2] at e3
        cases Option.some.inj e3
        exact hown hco c2 blk2' pl2 (fun e => hne (by rw [e])) hc2 hp3
  · rcases hfrom b blk' hb with ⟨hbm, hlt, hno⟩ | ⟨c, blk, hc, hco, rfl, rfl⟩
    · have : (if b < m.length then ρ b else ρ2 (m0.length + (b - m.length))) = some pl := hp
      rw [if_pos hlt] at this
      exact hst.fresh b blk' pl hbm ho this
    · obtain ⟨pl3, hp3, _, _⟩ := hs2.mem c blk hc
      have e3 := hpl c pl3 hp3
      rw [hp] at e3
      cases Option.some.inj e3
      rcases hs2.fresh c blk pl hc hco hp3 with hf | ⟨c4, blk4, pl4, h41, h42, h43, h44⟩
      · exact .inl (Nat.le_trans hst.size hf)
      · obtain ⟨blk5, j1, j2, j3, _⟩ := hl.blk c4 blk4 h41
        rw [← h44]
        exact hst.fresh _ _ _ j1 (j3 h42) h43
theorem ACallsW.viaN {P : Program} {f : FuncId} {args0 args : List Value} {m0 m : Mem} {v0 v : Value} {x : Option Blk} (τ : Nat → Nat) {N0 : Nat} {W0 : World} (h : ACallsW N0 W0 P f args0 m0 v0 (m0 ++ [x])) (hl : Lies m0 m τ) (hh : ∀ b, b < m0.length → ∃ blk, m0.at b = some blk)
    (hx : ∀ blk, x = some blk → blk.own = true ∧ blk.cells.all scal = true)
    (hargs : args0.map (rn3 τ) = args) (hk : args0.all (ok3 m0.length) = true) (hv : rn3 (τn τ m0.length m.length) v0 = v) (hkv : ok3 (m0.length + 1) v0 = true) : ACallsW N0 W0 P f args m v (m ++ [x]) := by
  have hat : ∀ c blk, Mem.at (m0 ++ [x]) c = some blk → (c < m0.length ∧ m0.at c = some blk) ∨ (c = m0.length ∧ x = some blk) := fun c blk hc => by
    rw [Mem.at_snoc] at hc
    split at hc
    · exact .inr ⟨by assumption, hc⟩
    · exact .inl ⟨Mem.at_lt hc, hc⟩
  have hmap : x.map (rnB (τn τ m0.length m.length)) = x := by
    cases x with
    | none => rfl
    | some blk =>
      obtain ⟨_, h2⟩ := hx blk rfl
      show some (rnB _ blk) = some blk
      unfold rnB
      congr 1
      rw [rn1_all h2]
  refine ACallsW.via (k := 1) τ h ⟨hh, fun b blk hb => (hl b blk hb).2.1, fun b blk hb => ?_, fun b b' blk hb ho => ?_⟩ ⟨by simp, by simp, fun b hb _ => ?_, fun c blk hc ho => ?_, fun c blk hc _ => ?_, fun j hj => ?_, fun c blk hc ho => ?_, fun c blk hc ho => ?_⟩ hargs hk hv (by simpa using hkv)
  · obtain ⟨ho, _, blk', h1, h2, h3⟩ := hl b blk hb
    exact ⟨blk', h1, h2, fun h' => absurd (ho.symm.trans h') (by decide), h3⟩
  · rw [(hl b blk hb).1] at ho; cases ho
  · rw [Mem.at_snoc, if_neg (by omega)]
  · rw [(hl c blk hc).1] at ho; cases ho
  · refine ⟨blk, ?_, (hl c blk hc).1⟩
    rw [Mem.at_snoc, if_neg (by have := Mem.at_lt hc; omega)]
    exact hc
  · obtain rfl : j = 0 := by omega
    rw [Nat.add_zero, Nat.add_zero, Mem.at_snoc, if_pos rfl, Mem.at_snoc, if_pos rfl, hmap]
  · rcases hat c blk hc with ⟨h1, h2⟩ | ⟨rfl, rfl⟩
    · obtain ⟨b0, h3, h4⟩ := ho h1
      rw [(hl c b0 h3).1] at h4
      cases h4
    · exact (hx blk rfl).1
  · rcases hat c blk hc with ⟨h1, h2⟩ | ⟨rfl, rfl⟩
    · rw [(hl c blk h2).1] at ho; cases ho
    · obtain ⟨_, h2⟩ := hx blk rfl
      refine List.all_eq_true.2 fun u hu => ?_
      have := List.all_eq_true.1 h2 u hu
      unfold ok1
      split <;> first | exact this | (simp [Ab.scal] at this)
theorem ACallsW.viaS {N0 : Nat} {W0 : World} {P : Program} {f : FuncId} {args0 args : List Value} {m0 m mE : Mem} {v0 v : Value} (ts : List Nat) (us : List (Nat × Option Blk)) (ns : Mem) (h : ACallsW N0 W0 P f args0 m0 v0 mE)
    (hb : befS (fun b => ts.getD b 0) m0.length m ts m0) (hn : ts.Nodup) (ha : aftS (τn (fun b => ts.getD b 0) m0.length m.length) mE.length ts m0 mE us ns)
    (hargs : args0.map (rn3 fun b => ts.getD b 0) = args) (hk : args0.all (ok3 m0.length) = true) (hv : rn3 (τn (fun b => ts.getD b 0) m0.length m.length) v0 = v) (hkv : ok3 mE.length v0 = true) : ACallsW N0 W0 P f args m v (setAll m us ++ ns) := by
  obtain ⟨b1, b2⟩ := befS_get ts m0 hb
  obtain ⟨a1, a2, a3, a4, a5⟩ := aftS_get ts m0 mE us ns ha
  have hsl : (setAll m us).length = m.length := setAll_len us m
  have hget : ∀ b t, ts[b]? = some t → ts.getD b 0 = t := fun b t h => by rw [List.getD_eq_getElem?_getD, h]; rfl
  have hlt : ∀ b x, m0.at b = some x → b < m0.length := fun b x h => Mem.at_lt h
  have hus : (us.map (·.1)).Nodup := by
    -- us are, in order, those of ts that are owned
    have key : ∀ (ts : List Nat) (m0 mE : Mem) (us : List (Nat × Option Blk)), aftS (τn (fun b => ts.getD b 0) m0.length m.length) mE.length ts m0 mE us ns → True := fun _ _ _ _ _ => trivial
    have sub : ∀ (κ : Nat → Nat) (n : Nat) (ts : List Nat) (m0 mE : Mem) (us : List (Nat × Option Blk)) (ns : Mem), aftS κ n ts m0 mE us ns → (us.map (·.1)).Sublist ts := by
      intro κ n ts
      induction ts with
      | nil =>
        intro m0 mE us ns h
        cases m0 with
        | nil => cases us with
          | nil => exact List.Sublist.refl _
          | cons u us => exact h.elim
        | cons x m0 => exact h.elim
      | cons t ts ih =>
        intro m0 mE us ns h
        cases m0 with
        | nil => exact h.elim
        | cons x m0 =>
          cases x with
          | none => exact h.elim
          | some x =>
            cases mE with
            | nil => exact h.elim
            | cons e mE =>
              unfold aftS at h
              cases ho : x.own with
              | true =>
                rw [ho] at h
                cases us with
                | nil => exact h.elim
                | cons u us =>
                  obtain ⟨rfl, _, h3⟩ := h
                  exact (ih m0 mE us ns h3).cons_cons _
              | false =>
                rw [ho] at h
                exact (ih m0 mE us ns h.2).cons _
    exact (sub _ _ ts m0 mE us ns ha).nodup hn
  have hmlt : ∀ b, b < m0.length → ts.getD b 0 < m.length := fun b hbl => by
    obtain ⟨x, y, t, q1, q2, q3, _⟩ := b2 b hbl
    rw [hget b t q1]
    exact Mem.at_lt q3
  refine ACallsW.via (k := ns.length) (fun b => ts.getD b 0) h ⟨fun b hb => ?_, fun b blk hb => ?_, fun b blk hb => ?_, fun b b' blk hb ho hb' he => ?_⟩ ⟨a1, by simp [hsl], fun b hb hno => ?_, fun c blk hc ho => ?_, fun c blk hc ho => ?_, fun j hj => ?_, fun c blk hc ho => ?_, fun c blk hc ho => ?_⟩ hargs hk hv hkv
  · obtain ⟨x, y, t, q1, q2, _⟩ := b2 b hb
    exact ⟨x, q2⟩
  · obtain ⟨x, y, t, q1, q2, q3, q4, q5, q6⟩ := b2 b (hlt b blk hb)
    rw [hb] at q2
    cases q2
    exact q6.ok
  · obtain ⟨x, y, t, q1, q2, q3, q4, q5, q6⟩ := b2 b (hlt b blk hb)
    rw [hb] at q2
    cases q2
    refine ⟨y, by rw [hget b t q1]; exact q3, q4, q5, fun i v hv => ?_⟩
    rw [q6.map, List.getElem?_map, hv]
    rfl
  · have e1 : b < ts.length := by rw [b1]; exact hlt b blk hb
    have e2 : b' < ts.length := by rw [b1]; exact hb'
    simp only [List.getD_eq_getElem?_getD, List.getElem?_eq_getElem e1, List.getElem?_eq_getElem e2, Option.getD_some] at he
    exact (List.getElem_inj hn).1 he
  · rw [at_app_left (by rw [hsl]; exact hb)]
    refine setAll_at_far us m b fun u hu e => ?_
    obtain ⟨c, x, q1, q2, q3⟩ := a4 u hu
    exact hno c x q1 q2 ((hget c _ q3).trans e)
  · obtain ⟨u, q1, q2, q3⟩ := a2 c blk hc ho
    have e : ts.getD c 0 = u.1 := hget c _ q2
    have hl := hmlt c (hlt c blk hc)
    rw [e] at hl ⊢
    rw [at_app_left (by rw [hsl]; exact hl), setAll_at us m u q1 hus hl]
    exact q3.map.1
  · exact a3 c blk hc ho
  · rw [show m.length + j = (setAll m us).length + j by rw [hsl], at_app_right]
    exact (a5 j hj).map.1
  · by_cases hcl : c < m0.length
    · obtain ⟨b0, q1, q2⟩ := ho hcl
      obtain ⟨u, _, _, q3⟩ := a2 c b0 q1 q2
      exact (q3.map.2 blk hc).1
    · have hcE := Mem.at_lt hc
      obtain ⟨j, rfl⟩ : ∃ j, c = m0.length + j := ⟨c - m0.length, by omega⟩
      exact ((a5 j (by omega)).map.2 blk hc).1
  · by_cases hcl : c < m0.length
    · obtain ⟨x, y, t, q1, q2, _⟩ := b2 c hcl
      cases hx : x.own with
      | true =>
        obtain ⟨u, _, _, q3⟩ := a2 c x q2 hx
        exact (q3.map.2 blk hc).2
      | false =>
        obtain ⟨y', q3, q4⟩ := a3 c x q2 hx
        rw [q3] at hc
        cases hc
        rw [q4] at ho; cases ho
    · have hcE := Mem.at_lt hc
      obtain ⟨j, rfl⟩ : ∃ j, c = m0.length + j := ⟨c - m0.length, by omega⟩
      exact ((a5 j (by omega)).map.2 blk hc).2
theorem ACallsW.enter {P : Program} {f : FuncId} {fn : Func} {c : Code} {args : List Value} {m : Mem} {v : Value} {mE : Mem} {t : T} {N0 : Nat} {W0 : World} (hf : P.funcs[f]? = some fn) (hb : fn.body = some c)
    (ht : args ++ List.replicate (fn.ntmps - args.length) undef = t)
    (h : ∀ E : Env, E.n0 = m.length → EW N0 W0 E → AW P E c t m (FinA P E fn v mE)) : ACallsW N0 W0 P f args m v mE := by
  subst ht
  intro E0 ρ args' w hKW ha hst
  refine calls_of_wp hf hb ?_
  have hsz : args.length = args'.size := by
    obtain ⟨xs', e, h1, _⟩ := ha.tuple_inv
    cases e
    simpa using h1
  let E : Env := ⟨E0.W, E0.S, ρ, m.length, hst.dom, []⟩
  refine wp_mono (h E rfl hKW ρ _ w rfl ?_ ?_) ?_
  · refine ⟨by simp [hsz], fun i u hu => ?_⟩
    obtain ⟨xs', e, h1, h2⟩ := ha.tuple_inv
    cases e
    simp only at hu ⊢
    rw [List.getElem?_append] at hu
    rw [Array.getElem?_append]
    split at hu
    · rename_i hi
      rw [if_pos (by omega)]
      exact h2 i u (by simpa using hu)
    · rename_i hi
      rw [if_neg (by omega)]
      rw [← hsz]
      rw [List.getElem?_replicate] at hu
      split at hu
      · rename_i hi'
        cases Option.some.inj hu
        exact ⟨undef, by simp [hi'], .undef⟩
      · cases hu
  · exact ⟨hst.os, hst.tape, hst.output, hst.size, hst.same, fun _ _ => rfl, Nat.le_refl _, hst.dom, hst.mem, hst.fresh⟩
  · rintro e a w' ⟨hd, ρ', t', m', ⟨he, vs, σ, hr, hv, hok, hren, hid, hinj⟩, ht, hs⟩
    obtain ⟨v', hrun, hvr⟩ := run_results (P := P) (w := w') ht hs.mem hr
    rw [← hv] at hvr
    have hvr' := rn3_to hvr hok
    have hs' := hs.ren σ hren hid hinj
    have hst' : St E0 (ρ'.via mE.length σ) mE w' := ⟨hs'.os, hs'.tape, hs'.output, hs'.size, hs'.same, fun b hb => (hs'.ext b (Nat.lt_of_lt_of_le hb hst.len)).trans (hst.ext b hb), Nat.le_trans hst.len hs'.len, hs'.dom, hs'.mem, hs'.fresh⟩
    rcases he with rfl | rfl
    · exact bodyPost_ret hrun hd ⟨v', _, rfl, hs'.extE, hvr', hst'⟩
    · exact bodyPost_end hrun hd ⟨v', _, rfl, hs'.extE, hvr', hst'⟩

theorem PCallsW.enterJ {P : Program} {f : FuncId} {fn : Func} {c : Code} {args : List Value} {m : Mem} {v : Value} {t : T} {N0 : Nat} {W0 : World} (hf : P.funcs[f]? = some fn) (hb : fn.body = some c) (hro : m.ro) (ht : args ++ List.replicate (fn.ntmps - args.length) undef = t)
    (h : ∀ E : Env, E.n0 = m.length → EW N0 W0 E → AW P E c t m (FinJ P fn v)) : PCallsW N0 W0 P f args m v := by
  subst ht
  intro ρ args' w hKW hdom ha hm
  refine calls_of_wp hf hb ?_
  have hsz : args.length = args'.size := by
    obtain ⟨xs', e, h1, _⟩ := ha.tuple_inv
    cases e
    simpa using h1
  refine wp_mono (h ⟨w, fun _ => False, ρ, m.length, hdom, []⟩ rfl ⟨hKW, fun _ _ h => h⟩ ρ _ w rfl ?_ ?_) ?_
  · refine ⟨by simp [hsz], fun i u hu => ?_⟩
    obtain ⟨xs', e, h1, h2⟩ := ha.tuple_inv
    cases e
    simp only at hu ⊢
    rw [List.getElem?_append] at hu
    rw [Array.getElem?_append]
    split at hu
    · rename_i hi
      rw [if_pos (by omega)]
      exact h2 i u (by simpa using hu)
    · rename_i hi
      rw [if_neg (by omega)]
      rw [← hsz]
      rw [List.getElem?_replicate] at hu
      split at hu
      · rename_i hi'
        cases Option.some.inj hu
        exact ⟨undef, by simp [hi'], .undef⟩
      · cases hu
  · exact ⟨rfl, rfl, rfl, Nat.le_refl _, fun _ _ _ => rfl, fun _ _ => rfl, Nat.le_refl _, hdom, hm, fun b blk pl hb ho => by rw [hro b blk hb] at ho; cases ho⟩
  · rintro e a w' ⟨hd, ρ', t', m', ⟨he, vs, hr, hj⟩, ht, hs⟩
    obtain ⟨v', hrun, hv⟩ := run_results (P := P) (w := w') ht hs.mem hr
    have hbelow : Below w.heap.size w w' := ⟨hs.os, hs.tape, hs.output, hs.size, fun k hk => hs.same k hk (fun h => h)⟩
    rcases he with rfl | rfl
    · exact bodyPost_ret hrun hd ⟨v', rfl, hj _ _ _ hv, hbelow⟩
    · exact bodyPost_end hrun hd ⟨v', rfl, hj _ _ _ hv, hbelow⟩
theorem PCallsW.acalls {N0 : Nat} {W0 : World} {P : Program} {f : FuncId} {args : List Value} {m : Mem} {v : Value} (h : PCallsW N0 W0 P f args m v) : ACallsW N0 W0 P f args m v m :=
  fun E ρ args' w hK ha hs => (h ρ args' w (hK.at hs) hs.dom ha hs.mem).mono fun e w' ⟨v', he, hv, hb⟩ => ⟨v', ρ, he, .refl _, hv, hs.below hb⟩
theorem PCallsW.via {P : Program} {f : FuncId} {args0 args : List Value} {m0 m : Mem} {v0 v : Value} (τ : Nat → Nat) {N0 : Nat} {W0 : World} (h : PCallsW N0 W0 P f args0 m0 v0) (hm : Lies m0 m τ)
    (ha : args0.map (rn3 τ) = args) (hk : args0.all (ok3 m0.length) = true) (hv : rn3 τ v0 = v) (hkv : ok3 m0.length v0 = true) : PCallsW N0 W0 P f args m v := by
  intro ρ args' w hKW hdom hargs hmr
  subst ha
  subst hv
  refine (h (ρ.via m0.length τ) args' w hKW (fun b pl hb => ?_) ?_ ?_).mono ?_
  · unfold Ren.via at hb
    split at hb
    · assumption
    · cases hb
  · obtain ⟨xs', e, h1, h2⟩ := hargs.tuple_inv
    cases e
    refine .tuple (by simpa using h1) fun i hi hi' => ?_
    have hi0 : i < args0.length := by simpa using hi
    obtain ⟨u', e1, e2⟩ := h2 i (rn3 τ args0[i]) (by simp [hi0])
    have : u' = args'[i] := by
      rw [Array.getElem?_eq_getElem hi'] at e1
      exact (Option.some.inj e1).symm
    subst this
    simpa using rn3_to e2 (List.all_eq_true.1 hk _ (List.getElem_mem hi0))
  · intro b blk hb
    obtain ⟨ho, hs, blk', hb', he, hc⟩ := hm b blk hb
    obtain ⟨pl, hp, ⟨c, ty, fr, g1, g2, g3, g4⟩, g5⟩ := hmr _ _ hb'
    refine ⟨pl, by rw [via_get (Mem.at_lt hb)]; exact hp, ⟨c, ty, fr, g1, by rw [← he]; exact g2, fun i u hu => ?_, fun h => by rw [ho] at h; cases h⟩, fun h => by rw [ho] at h; cases h⟩
    obtain ⟨u', q1, q2⟩ := g3 i _ (hc i u hu)
    exact ⟨u', q1, rn1_to q2 (List.all_eq_true.1 hs u (List.mem_of_getElem? hu))⟩
  · rintro e w' ⟨v', rfl, hv, hb⟩
    exact ⟨v', rfl, rn3_of hv hkv, hb⟩

theorem PCallsW.viaS {N0 : Nat} {W0 : World} {P : Program} {f : FuncId} {args0 args : List Value} {m0 m : Mem} {v0 v : Value} (ts : List Nat) (h : PCallsW N0 W0 P f args0 m0 v0) (hro : ∀ b blk, m0.at b = some blk → blk.own = false)
    (hb : befS (fun b => ts.getD b 0) m0.length m ts m0) (hargs : args0.map (rn3 fun b => ts.getD b 0) = args) (hk : args0.all (ok3 m0.length) = true) (hv : rn3 (fun b => ts.getD b 0) v0 = v) (hkv : ok3 m0.length v0 = true) : PCallsW N0 W0 P f args m v := by
  obtain ⟨b1, b2⟩ := befS_get ts m0 hb
  refine PCallsW.via (fun b => ts.getD b 0) h (fun b blk hbk => ?_) hargs hk hv hkv
  obtain ⟨x, y, t, q1, q2, q3, q4, q5, q6⟩ := b2 b (Mem.at_lt hbk)
  rw [hbk] at q2
  cases q2
  refine ⟨hro b blk hbk, q6.ok, y, by show m.at (ts.getD b 0) = some y; rw [List.getD_eq_getElem?_getD, q1]; exact q3, q4, fun i v hv => ?_⟩
  rw [q6.map, List.getElem?_map, hv]
  rfl
section
variable {P : Program} {E : Env} {ops : Array Oper} {rest : List Oper} {t : T} {m : Mem} {Q : Post}
theorem AL.acallW {dst : Option Tmp} {fo : Operand} {xs : Array Operand} {ats : Array TypeId} {ty : TypeId} {pos : String} {after : Array Edge} {g : FuncId} {first cap : Array Value} {args : List Value} {v : Value} {m' : Mem}
    {N0 : Nat} {W0 : World} (hG : EW N0 W0 E) (hf : t.ev fo = .func (.func g) first cap) (he : enters P g = true) (ha : first.toList ++ xs.toList.map t.ev ++ cap.toList = args) (h : ACallsW N0 W0 P g args m v m')
    (hr : AL P E ops rest (t.put dst v) m' Q) : AL P E ops (⟨dst, .call ⟨.value fo, xs, ats⟩, ty, pos, after, none⟩ :: rest) t m Q := by
  intro ρ a w hd ht hs
  obtain ⟨args', hrun, hargs⟩ := run_call (P := P) (w := w) (dst := dst) (ats := ats) (ty := ty) (pos := pos) (after := after) (guard := none) (xs := xs) ht hf he
  unfold wpList
  rw [if_pos (by simp [Region.wanted])]
  left
  unfold Oper.wp
  rw [hrun]
  show Calls P g args' w _
  refine (h E ρ args' w hG (by rw [← ha, show (first.toList ++ xs.toList.map t.ev ++ cap.toList).toArray = first ++ (xs.toList.map t.ev).toArray ++ cap by simp]; exact hargs) hs).mono ?_
  rintro e w' ⟨v', ρ', rfl, hext, hv, hs'⟩
  exact hr ρ' _ w' (by rw [put_defers]; exact hd) ((ht.ext hext).put hv _) hs'

end
end Ab
end Go
