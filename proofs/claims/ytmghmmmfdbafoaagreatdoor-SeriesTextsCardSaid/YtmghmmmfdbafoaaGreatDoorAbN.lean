/- The small memory: calls that write some blocks of a greater memory; more operations. -/
import Derived.Test.YtmghmmmfdbafoaaGreatDoorAbD
set_option linter.unusedSimpArgs false
set_option linter.unusedVariables false
namespace Go
open Go.RowKit
namespace Ab

theorem ok1_scal {n : Nat} {v : Value} (h : scal v = true) : ok1 n v = true := by
  unfold ok1
  split <;> first | exact h | (simp [Ab.scal] at h)
theorem rn2_flat {τ : Nat → Nat} {v : Value} (h : flat1 v = true) : rn2 τ v = v := by
  cases v with
  | agg xs =>
    simp only [flat1] at h
    show Value.agg (xs.toList.map (rn1 τ)).toArray = _
    rw [rn1_all h]
  | _ => (simp only [flat1] at h); exact rn1_scal (τ := τ) h
theorem ok2_flat {n : Nat} {v : Value} (h : flat1 v = true) : ok2 n v = true := by
  cases v with
  | agg xs =>
    simp only [flat1] at h
    exact List.all_eq_true.2 fun u hu => ok1_scal (List.all_eq_true.1 h u hu)
  | _ => (simp only [flat1] at h); exact ok1_scal (n := n) h
theorem rn3_flat {τ : Nat → Nat} {v : Value} (h : flat v = true) : rn3 τ v = v := by
  cases v with
  | tuple xs =>
    simp only [flat] at h
    show Value.tuple (xs.toList.map (rn2 τ)).toArray = _
    have : xs.toList.map (rn2 τ) = xs.toList.map id := List.map_congr_left fun u hu => rn2_flat (List.all_eq_true.1 h u hu)
    rw [this, List.map_id]
  | func fn xs ys => simp [flat, flat1, Ab.scal] at h
  | _ => (simp only [flat] at h); exact rn2_flat (τ := τ) h
theorem ok3_flat {n : Nat} {v : Value} (h : flat v = true) : ok3 n v = true := by
  cases v with
  | tuple xs =>
    simp only [flat] at h
    exact List.all_eq_true.2 fun u hu => ok2_flat (List.all_eq_true.1 h u hu)
  | func fn xs ys => simp [flat, flat1, Ab.scal] at h
  | _ => (simp only [flat] at h); exact ok2_flat (n := n) h
/-- Cells under new numbers. -/
def cR (κ : Nat → Nat) (n : Nat) (c c' : List Value) : Prop := (c' = c ∧ c.all scal = true) ∨ (c' = c.map (rn1 κ) ∧ c.all (ok1 n) = true)
theorem cR.ok {κ : Nat → Nat} {n : Nat} {c c' : List Value} (h : cR κ n c c') : c.all (ok1 n) = true := by
  rcases h with ⟨_, h⟩ | ⟨_, h⟩
  · refine List.all_eq_true.2 fun v hv => ?_
    have := List.all_eq_true.1 h v hv
    unfold ok1
    split <;> first | exact this | (simp [Ab.scal] at this)
  · exact h
theorem cR.map {κ : Nat → Nat} {n : Nat} {c c' : List Value} (h : cR κ n c c') : c' = c.map (rn1 κ) := by
  rcases h with ⟨rfl, h⟩ | ⟨h, _⟩
  · rw [rn1_all h]
  · exact h
def bR (κ : Nat → Nat) (n : Nat) : Option Blk → Option Blk → Prop
  | some x, some y => y.own = true ∧ x.own = true ∧ y.esz = x.esz ∧ cR κ n x.cells y.cells
  | none, none => True
  | _, _ => False
theorem bR.map {κ : Nat → Nat} {n : Nat} {e e' : Option Blk} (h : bR κ n e e') : e' = e.map (rnB κ) ∧ ∀ b, e = some b → b.own = true ∧ b.cells.all (ok1 n) = true := by
  cases e with
  | none =>
    cases e' with
    | none => exact ⟨rfl, fun _ h => by cases h⟩
    | some y => exact h.elim
  | some x =>
    cases e' with
    | none => exact h.elim
    | some y =>
      obtain ⟨h1, h2, h3, h4⟩ := h
      refine ⟨?_, fun b hb => by cases hb; exact ⟨h2, h4.ok⟩⟩
      obtain ⟨yc, yo, ye⟩ := y
      simp only at h1 h3 h4
      rw [h1, h3, h4.map, Option.map_some]
      show _ = some (Blk.mk (x.cells.map (rn1 κ)) x.own x.esz)
      rw [h2]
/-- What the call needs lies there. -/
def befS (τ : Nat → Nat) (n : Nat) (m : Mem) : List Nat → Mem → Prop
  | t :: ts, some x :: m0 => (∃ y, m.at t = some y ∧ y.esz = x.esz ∧ (x.own = true → y.own = true) ∧ cR τ n x.cells y.cells) ∧ befS τ n m ts m0
  | [], [] => True
  | _, _ => False
def memR (κ : Nat → Nat) (n : Nat) : Mem → Mem → Prop
  | e :: mE, e' :: ns => bR κ n e e' ∧ memR κ n mE ns
  | [], [] => True
  | _, _ => False
def aftS (κ : Nat → Nat) (n : Nat) : List Nat → Mem → Mem → List (Nat × Option Blk) → Mem → Prop
  | t :: ts, some x :: m0, e :: mE, us, ns => match x.own with
    | true => (match us with | u :: us' => u.1 = t ∧ bR κ n e u.2 ∧ aftS κ n ts m0 mE us' ns | [] => False)
    | false => (∃ y, e = some y ∧ y.own = false) ∧ aftS κ n ts m0 mE us ns
  | [], [], mE, [], ns => memR κ n mE ns
  | _, _, _, _, _ => False
theorem setAll_len : ∀ (us : List (Nat × Option Blk)) (m : Mem), (setAll m us).length = m.length
  | [], m => rfl
  | u :: us, m => by rw [setAll, setAll_len us]; simp
theorem setAll_at_far : ∀ (us : List (Nat × Option Blk)) (m : Mem) (b : Nat), (∀ u ∈ us, u.1 ≠ b) → (setAll m us).at b = m.at b
  | [], m, b, _ => rfl
  | u :: us, m, b, h => by
    rw [setAll, setAll_at_far us _ b fun u hu => h u (by simp [hu])]
    unfold Mem.at
    rw [List.getD_eq_getElem?_getD, List.getD_eq_getElem?_getD, List.getElem?_set_ne (h u (by simp))]
theorem setAll_at : ∀ (us : List (Nat × Option Blk)) (m : Mem) (u : Nat × Option Blk), u ∈ us → (us.map (·.1)).Nodup → u.1 < m.length → (setAll m us).at u.1 = u.2
  | [], _, _, h, _, _ => by simp at h
  | v :: us, m, u, h, hn, hl => by
    rw [List.map_cons, List.nodup_cons] at hn
    rw [setAll]
    rcases List.mem_cons.1 h with rfl | h
    · rw [setAll_at_far us _ _ fun v hv e => hn.1 (List.mem_map.2 ⟨v, hv, e⟩)]
      unfold Mem.at
      rw [List.getD_eq_getElem?_getD, List.getElem?_set_self (by simpa using hl)]
      rfl
    · exact setAll_at us _ u h hn.2 (by simpa using hl)
theorem befS_get {τ : Nat → Nat} {n : Nat} {m : Mem} : ∀ (ts : List Nat) (m0 : Mem), befS τ n m ts m0 → ts.length = m0.length ∧ ∀ b, b < m0.length → ∃ x y t, ts[b]? = some t ∧ m0.at b = some x ∧ m.at t = some y ∧ y.esz = x.esz ∧ (x.own = true → y.own = true) ∧ cR τ n x.cells y.cells
  | [], [], _ => ⟨rfl, fun b hb => by simp at hb⟩
  | [], _ :: _, h => h.elim
  | _ :: _, [], h => h.elim
  | _ :: _, none :: _, h => h.elim
  | t :: ts, some x :: m0, h => by
    obtain ⟨⟨y, h1, h2, h3, h4⟩, h5⟩ := h
    obtain ⟨g1, g2⟩ := befS_get ts m0 h5
    refine ⟨by simp [g1], fun b hb => ?_⟩
    cases b with
    | zero => exact ⟨x, y, t, rfl, rfl, h1, h2, h3, h4⟩
    | succ b =>
      obtain ⟨x', y', t', q⟩ := g2 b (by simpa using hb)
      exact ⟨x', y', t', q⟩
theorem memR_get {κ : Nat → Nat} {n : Nat} : ∀ (mE ns : Mem), memR κ n mE ns → mE.length = ns.length ∧ ∀ j, j < ns.length → bR κ n (mE.at j) (ns.at j)
  | [], [], _ => ⟨rfl, fun b hb => by simp at hb⟩
  | [], _ :: _, h => h.elim
  | _ :: _, [], h => h.elim
  | e :: mE, e' :: ns, h => by
    obtain ⟨g1, g2⟩ := memR_get mE ns h.2
    refine ⟨by simp [g1], fun b hb => ?_⟩
    cases b with
    | zero => exact h.1
    | succ b => exact g2 b (by simpa using hb)
theorem aftS_get {κ : Nat → Nat} {n : Nat} : ∀ (ts : List Nat) (m0 mE : Mem) (us : List (Nat × Option Blk)) (ns : Mem), aftS κ n ts m0 mE us ns →
    mE.length = m0.length + ns.length ∧ (∀ b x, m0.at b = some x → x.own = true → ∃ u, u ∈ us ∧ ts[b]? = some u.1 ∧ bR κ n (mE.at b) u.2) ∧ (∀ b x, m0.at b = some x → x.own = false → ∃ y, mE.at b = some y ∧ y.own = false) ∧
    (∀ u ∈ us, ∃ b x, m0.at b = some x ∧ x.own = true ∧ ts[b]? = some u.1) ∧ ∀ j, j < ns.length → bR κ n (mE.at (m0.length + j)) (ns.at j)
  | [], [], mE, [], ns, h => by
    obtain ⟨g1, g2⟩ := memR_get mE ns h
    refine ⟨by simp [g1], fun b x hb => by simp [Mem.at] at hb, fun b x hb => by simp [Mem.at] at hb, fun u hu => by simp at hu, fun j hj => ?_⟩
    simpa using g2 j hj
  | [], [], _, _ :: _, _, h => h.elim
  | [], _ :: _, _, _, _, h => h.elim
  | _ :: _, [], _, _, _, h => h.elim
  | _ :: _, none :: _, _, _, _, h => h.elim
  | _ :: _, some _ :: _, [], _, _, h => h.elim
  | t :: ts, some x :: m0, e :: mE, us, ns, h => by
    unfold aftS at h
    cases ho : x.own with
    | true =>
      rw [ho] at h
      cases us with
      | nil => exact h.elim
      | cons u us =>
        obtain ⟨rfl, h2, h3⟩ := h
        obtain ⟨g1, g2, g3, g4, g5⟩ := aftS_get ts m0 mE us ns h3
        refine ⟨by simp [g1]; omega, fun b z hb hz => ?_, fun b z hb hz => ?_, fun w hw => ?_, fun j hj => ?_⟩
        · cases b with
          | zero => exact ⟨u, by simp, rfl, h2⟩
          | succ b =>
            obtain ⟨w, q1, q2, q3⟩ := g2 b z hb hz
            exact ⟨w, by simp [q1], q2, q3⟩
        · cases b with
          | zero =>
            cases hb
            rw [ho] at hz; cases hz
          | succ b => exact g3 b z hb hz
        · rcases List.mem_cons.1 hw with rfl | hw
          · exact ⟨0, x, rfl, ho, rfl⟩
          · obtain ⟨b, z, q⟩ := g4 w hw
            exact ⟨b + 1, z, q⟩
        · rw [List.length_cons, show m0.length + 1 + j = m0.length + j + 1 by omega]
          exact g5 j hj
    | false =>
      rw [ho] at h
      obtain ⟨⟨y, rfl, hy⟩, h3⟩ := h
      obtain ⟨g1, g2, g3, g4, g5⟩ := aftS_get ts m0 mE us ns h3
      refine ⟨by simp [g1]; omega, fun b z hb hz => ?_, fun b z hb hz => ?_, fun w hw => ?_, fun j hj => ?_⟩
      · cases b with
        | zero =>
          cases hb
          rw [ho] at hz; cases hz
        | succ b =>
          obtain ⟨w, q1, q2, q3⟩ := g2 b z hb hz
          exact ⟨w, q1, q2, q3⟩
      · cases b with
        | zero => exact ⟨y, rfl, hy⟩
        | succ b => exact g3 b z hb hz
      · obtain ⟨b, z, q⟩ := g4 w hw
        exact ⟨b + 1, z, q⟩
      · rw [List.length_cons, show m0.length + 1 + j = m0.length + j + 1 by omega]
        exact g5 j hj

theorem at_app_left {m n : Mem} {b : Nat} (h : b < m.length) : (m ++ n).at b = m.at b := by
  unfold Mem.at
  rw [List.getD_eq_getElem?_getD, List.getD_eq_getElem?_getD, List.getElem?_append_left h]
theorem at_app_right {m n : Mem} {j : Nat} : (m ++ n).at (m.length + j) = n.at j := by
  unfold Mem.at
  rw [List.getD_eq_getElem?_getD, List.getD_eq_getElem?_getD, List.getElem?_append_right (by omega), Nat.add_sub_cancel_left]

/-- A call that writes blocks of a greater memory: ts says where its blocks lie, us what becomes of those that it owns, ns what is new. -/
theorem ACalls.viaS {P : Program} {f : FuncId} {args0 args : List Value} {m0 m mE : Mem} {v0 v : Value} (ts : List Nat) (us : List (Nat × Option Blk)) (ns : Mem) (h : ACalls P f args0 m0 v0 mE)
    (hb : befS (fun b => ts.getD b 0) m0.length m ts m0) (hn : ts.Nodup) (ha : aftS (τn (fun b => ts.getD b 0) m0.length m.length) mE.length ts m0 mE us ns)
    (hargs : args0.map (rn3 fun b => ts.getD b 0) = args) (hk : args0.all (ok3 m0.length) = true) (hv : rn3 (τn (fun b => ts.getD b 0) m0.length m.length) v0 = v) (hkv : ok3 mE.length v0 = true) : ACalls P f args m v (setAll m us ++ ns) := by
  obtain ⟨b1, b2⟩ := befS_get ts m0 hb
  obtain ⟨a1, a2, a3, a4, a5⟩ := aftS_get ts m0 mE us ns ha
  have hsl : (setAll m us).length = m.length := setAll_len us m
  have hget : ∀ b t, ts[b]? = some t → ts.getD b 0 = t := fun b t h => by rw [List.getD_eq_getElem?_getD, h]; rfl
  have hlt : ∀ b x, m0.at b = some x → b < m0.length := fun b x h => Mem.at_lt h
  have hus : (us.map (·.1)).Nodup := by
    -- us are, in order, those of ts that are owned
    have key : ∀ (ts : List Nat) (m0 mE : Mem) (us : List (Nat × Option Blk)), aftS (τn (fun b => ts.getD b 0) m0.length m.length) mE.length ts m0 mE us ns → True := fun _ _ _ _ _ => trivial
    have sub : ∀ (κ : Nat → Nat) (n : Nat) (ts : List Nat) (m0 mE : Mem) (us : List (Nat × Option Blk)) (ns : Mem), aftS κ n ts m0 mE us ns → (us.map (·.1)).Sublist ts := by
      intro κ n ts
      induction ts with
      | nil =>
        intro m0 mE us ns h
        cases m0 with
        | nil => cases us with
          | nil => exact List.Sublist.refl _
          | cons u us => exact h.elim
        | cons x m0 => exact h.elim
      | cons t ts ih =>
        intro m0 mE us ns h
        cases m0 with
        | nil => exact h.elim
        | cons x m0 =>
          cases x with
          | none => exact h.elim
          | some x =>
            cases mE with
            | nil => exact h.elim
            | cons e mE =>
              unfold aftS at h
              cases ho : x.own with
              | true =>
                rw [ho] at h
                cases us with
                | nil => exact h.elim
                | cons u us =>
                  obtain ⟨rfl, _, h3⟩ := h
                  exact (ih m0 mE us ns h3).cons_cons _
              | false =>
                rw [ho] at h
                exact (ih m0 mE us ns h.2).cons _
    exact (sub _ _ ts m0 mE us ns ha).nodup hn
  have hmlt : ∀ b, b < m0.length → ts.getD b 0 < m.length := fun b hbl => by
    obtain ⟨x, y, t, q1, q2, q3, _⟩ := b2 b hbl
    rw [hget b t q1]
    exact Mem.at_lt q3
  refine ACalls.via (k := ns.length) (fun b => ts.getD b 0) h ⟨fun b hb => ?_, fun b blk hb => ?_, fun b blk hb => ?_, fun b b' blk hb ho hb' he => ?_⟩ ⟨a1, by simp [hsl], fun b hb hno => ?_, fun c blk hc ho => ?_, fun c blk hc ho => ?_, fun j hj => ?_, fun c blk hc ho => ?_, fun c blk hc ho => ?_⟩ hargs hk hv hkv
  · obtain ⟨x, y, t, q1, q2, _⟩ := b2 b hb
    exact ⟨x, q2⟩
  · obtain ⟨x, y, t, q1, q2, q3, q4, q5, q6⟩ := b2 b (hlt b blk hb)
    rw [hb] at q2
    cases q2
    exact q6.ok
  · obtain ⟨x, y, t, q1, q2, q3, q4, q5, q6⟩ := b2 b (hlt b blk hb)
    rw [hb] at q2
    cases q2
    refine ⟨y, by rw [hget b t q1]; exact q3, q4, q5, fun i v hv => ?_⟩
    rw [q6.map, List.getElem?_map, hv]
    rfl
  · have e1 : b < ts.length := by rw [b1]; exact hlt b blk hb
    have e2 : b' < ts.length := by rw [b1]; exact hb'
    simp only [List.getD_eq_getElem?_getD, List.getElem?_eq_getElem e1, List.getElem?_eq_getElem e2, Option.getD_some] at he
    exact (List.getElem_inj hn).1 he
  · rw [at_app_left (by rw [hsl]; exact hb)]
    refine setAll_at_far us m b fun u hu e => ?_
    obtain ⟨c, x, q1, q2, q3⟩ := a4 u hu
    exact hno c x q1 q2 ((hget c _ q3).trans e)
  · obtain ⟨u, q1, q2, q3⟩ := a2 c blk hc ho
    have e : ts.getD c 0 = u.1 := hget c _ q2
    have hl := hmlt c (hlt c blk hc)
    rw [e] at hl ⊢
    rw [at_app_left (by rw [hsl]; exact hl), setAll_at us m u q1 hus hl]
    exact q3.map.1
  · exact a3 c blk hc ho
  · rw [show m.length + j = (setAll m us).length + j by rw [hsl], at_app_right]
    exact (a5 j hj).map.1
  · by_cases hcl : c < m0.length
    · obtain ⟨b0, q1, q2⟩ := ho hcl
      obtain ⟨u, _, _, q3⟩ := a2 c b0 q1 q2
      exact (q3.map.2 blk hc).1
    · have hcE := Mem.at_lt hc
      obtain ⟨j, rfl⟩ : ∃ j, c = m0.length + j := ⟨c - m0.length, by omega⟩
      exact ((a5 j (by omega)).map.2 blk hc).1
  · by_cases hcl : c < m0.length
    · obtain ⟨x, y, t, q1, q2, _⟩ := b2 c hcl
      cases hx : x.own with
      | true =>
        obtain ⟨u, _, _, q3⟩ := a2 c x q2 hx
        exact (q3.map.2 blk hc).2
      | false =>
        obtain ⟨y', q3, q4⟩ := a3 c x q2 hx
        rw [q3] at hc
        cases hc
        rw [q4] at ho; cases ho
    · have hcE := Mem.at_lt hc
      obtain ⟨j, rfl⟩ : ∃ j, c = m0.length + j := ⟨c - m0.length, by omega⟩
      exact ((a5 j (by omega)).map.2 blk hc).2
/-- A call that makes memory that nobody sees. -/
theorem ACalls.still {P : Program} {f : FuncId} {args : List Value} {m m' : Mem} {v : Value} (h : ACalls P f args m v m') (hro : m.ro) (hv : flat v = true) : PCalls P f args m v := by
  intro ρ args' w hdom hargs hm
  refine (h ⟨w, fun _ => False, ρ, m.length, hdom, []⟩ ρ args' w hargs ⟨rfl, rfl, rfl, Nat.le_refl _, fun _ _ _ => rfl, fun _ _ => rfl, Nat.le_refl _, hdom, hm, fun b blk pl hb ho => by rw [hro b blk hb] at ho; cases ho⟩).mono ?_
  rintro e w' ⟨v', ρ', rfl, hx, hvr, hs⟩
  refine ⟨v', rfl, ?_, ⟨hs.os, hs.tape, hs.output, hs.size, fun k hk => hs.same k hk id⟩⟩
  rw [hvr.of_flat hv]
  exact .flat hv

/-- Passes in any memory: with a list, or with none. -/
theorem PCalls.viaS {P : Program} {f : FuncId} {args0 args : List Value} {m0 m : Mem} {v0 v : Value} (ts : List Nat) (h : PCalls P f args0 m0 v0) (hro : ∀ b blk, m0.at b = some blk → blk.own = false)
    (hb : befS (fun b => ts.getD b 0) m0.length m ts m0) (hargs : args0.map (rn3 fun b => ts.getD b 0) = args) (hk : args0.all (ok3 m0.length) = true) (hv : rn3 (fun b => ts.getD b 0) v0 = v) (hkv : ok3 m0.length v0 = true) : PCalls P f args m v := by
  obtain ⟨b1, b2⟩ := befS_get ts m0 hb
  refine PCalls.via (fun b => ts.getD b 0) h (fun b blk hbk => ?_) hargs hk hv hkv
  obtain ⟨x, y, t, q1, q2, q3, q4, q5, q6⟩ := b2 b (Mem.at_lt hbk)
  rw [hbk] at q2
  cases q2
  refine ⟨hro b blk hbk, q6.ok, y, by show m.at (ts.getD b 0) = some y; rw [List.getD_eq_getElem?_getD, q1]; exact q3, q4, fun i v hv => ?_⟩
  rw [q6.map, List.getElem?_map, hv]
  rfl
section
variable {P : Program} {t : T} {m : Mem} {dst : Option Tmp} {rt ty ty' : TypeId} {pos : String} {after : Array Edge} {guard : Option (Nat × Bool)} {x y : Operand}
theorem OQ.nilCheck {b o : Nat} (hx : t.ev x = .pointer (some ⟨b, o, none⟩)) : OQ P ⟨dst, .nilCheck x, rt, pos, after, guard⟩ t m (.pointer (some ⟨b, o, none⟩)) := by
  intro ρ a w ht _
  obtain ⟨pl, hp, e⟩ := (hx ▸ ht.ev x).ptr_inv
  exact ⟨_, .ptr hp, fun w' _ => by simp [execOp, e, Sem.run_pure]⟩
/-- 'append' where the slice is the whole of its block. -/
theorem OW.appendL {s : Operand} {st e : TypeId} {z by' : Nat} {zs : List Value} {b n c bx ox k cx : Nat} {vs : List Value} {blk : Blk} (hs : t.ev s = .slice (some ⟨b, 0, none⟩) n c) (hx : t.ev x = .slice (some ⟨bx, ox, none⟩) k cx) (he : elemT P st = some e) (hz : szOf P e = some z) (h0 : zeroOf P e = some zs) (hzl : zs.length = z) (hby : bytesOf' P e = some by')
    (hk : 0 < k) (hb : m.at b = some blk) (ho : blk.own = true) (hesz : blk.esz = z) (hz0 : z ≠ 0) (hn : blk.cells.length = n * z) (hl : m.ld bx ox (k * z) = some vs) (h1 : vs.all one = true) (hsm : (n + k) * by' ≤ 140737488355328) (hsm' : n + k ≤ 4611686018427387904) :
    OW P ⟨dst, .call ⟨.builtin .append, #[s, x], #[st, st]⟩, rt, pos, after, guard⟩ t m (.slice (some ⟨m.length, 0, none⟩) (n + k) INF) (m.set b none ++ [some ⟨blk.cells ++ vs, true, z⟩]) := by
  have := OW.append (P := P) (dst := dst) (rt := rt) (pos := pos) (after := after) (guard := guard) hs hx he hz h0 hzl hby hk hb ho hesz hz0 (Nat.le_of_eq hn.symm) hl h1 hsm hsm'
  rwa [List.take_of_length_le (Nat.le_of_eq hn)] at this
end
end Ab
end Go
