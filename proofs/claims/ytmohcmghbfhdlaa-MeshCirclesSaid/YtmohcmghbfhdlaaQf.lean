/- The small memory: maps: made, looked up, updated, their length; ranges over them. -/
import Derived.Test.YtmohcmghbfhdlaaQe
import Derived.MapKept
import Derived.WideKeyArr
import Derived.Laws.IdiomRangeMap
import Derived.Test.YtmohcmghbfhdlaaQc
import Derived.WideKeyPair
import Derived.Shelf.SlSortCmp.NoneTotal
import Derived.Test.YtmohcmghbfhdlaaProg
section
set_option linter.unusedSimpArgs false
set_option linter.unusedVariables false
namespace Go
open Go.RowKit
namespace Ab
open Go.WideMaps

abbrev mpB (es : Array MapEntry) (clock : Nat) : Blk := @Blk.mk [] true 0 ⟨some (.map es clock)⟩
abbrev itB (b since : Nat) (seen : Array Nat) (last : Nat) : Blk := @Blk.mk [] true 0 ⟨some (.iter b since seen last)⟩
theorem mpB_row {ρ : Ren} {es : Array MapEntry} {k : Nat} {own : Bool} {z : Nat} {cs : List Value} {pl : Pl} {w : World} (h : BRel ρ (@Blk.mk cs own z ⟨some (.map es k)⟩) pl w) : w.heap[pl.blk]? = some (.map es k) := by
  obtain ⟨x, c, ty, fr, h1, ⟨h2, _⟩, _⟩ := h
  rw [h1, h2]
theorem flat_two {v : Value} (h : flat1 v = true) (b : Bool) : flat (.tuple #[v, .bool b]) = true := by
  show (#[v, Value.bool b].toList.all flat1) = true
  rw [show #[v, Value.bool b].toList = [v, .bool b] from rfl, List.all_cons, h]
  rfl
structure MKey (P : Program) (kt : TypeId) (isk : Value → Prop) : Prop where
  check : ∀ (w : World) (em : Bool) (v : Value), isk v → (Instr.checkKey em 10000 kt v).run P w = .ok () w
  find : ∀ (w : World) (x : Value), isk x → ∀ es : List MapEntry, (∀ e ∈ es, isk e.key) →
    ((Instr.findKey kt x es).run P w = .ok none w ∧ ∀ e ∈ es, e.key ≠ x) ∨ ∃ j e, (Instr.findKey kt x es).run P w = .ok (some (j, e.val)) w ∧ es[j]? = some e ∧ e.key = x
  stays : ∀ (w : World) (v : Value), isk v → (Instr.keyThatStays v v).run P w = .ok v w
def isI (v : Value) : Prop := ∃ n, v = .int .i64 n
theorem MKey.int {P : Program} {kt : TypeId} (h : P.underlying kt = some (.int .i64)) : MKey P kt isI := by
  have key : ∀ v, isI v → MapKept.IsKey (.int .i64) v := fun v ⟨n, hn⟩ => by subst hn; rfl
  refine ⟨fun w em v hv => MapKept.run_checkKey h (key v hv) em 9999, fun w x hx es hes => ?_, fun w v hv => MapKept.run_keyThatStays (key v hv)⟩
  rcases MapKept.findNow_spec (key x hx) es 0 (fun e he => key _ (hes e he)) with ⟨h1, h2⟩ | ⟨j, e, h1, h2, h3⟩
  · exact .inl ⟨MapKept.run_findKey h h1, h2⟩
  · exact .inr ⟨j, e, by rw [Nat.zero_add] at h1; exact MapKept.run_findKey h h1, h2, h3⟩
theorem MKey.arr {P : Program} {kt e : TypeId} {n : Nat} (A : ArrKey P kt e n) : MKey P kt (fun v => ∃ l, keyOf P kt v = some l) := by
  have L := A.law
  exact ⟨fun w em v ⟨l, hl⟩ => L.check w em hl, fun w x ⟨l, hl⟩ es hes => L.find w hl es hes, fun w v ⟨l, hl⟩ => L.stays w hl⟩

section
variable {P : Program} {t : T} {m : Mem} {dst : Option Tmp} {ty rt kt et : TypeId} {pos : String} {after : Array Edge} {guard : Option (Nat × Bool)} {x y z : Operand} {b : Nat} {es : Array MapEntry} {clk : Nat} {own : Bool} {ez : Nat} {cs : List Value} {isk : Value → Prop} {kv v : Value}

theorem map_at {ρ : Ren} {a : Act} {w w' : World} (ht : TRel ρ t a.tmps) (hm : MRel ρ m w) (hs : Same ρ m w w') (hx : t.ev x = .map (some b)) (hb : m.at b = some (@Blk.mk cs own ez ⟨some (.map es clk)⟩)) :
    ∃ pl, ρ b = some pl ∧ a.eval x = .map (some pl.blk) ∧ w'.heap[pl.blk]? = some (.map es clk) := by
  obtain ⟨pl, hp, he⟩ := (hx ▸ ht.ev x).map_inv
  obtain ⟨pl', hp', hbr, _⟩ := hm b _ hb
  cases Option.some.inj (hp'.symm.trans hp)
  exact ⟨pl, hp, he, by rw [hs b _ pl hb hp]; exact mpB_row hbr⟩
theorem OQ.lookS (K : MKey P kt isk) (hx : t.ev x = .map (some b)) (hy : t.ev y = kv) (hu : P.underlying ty = some (.map kt et)) (hb : m.at b = some (@Blk.mk cs own ez ⟨some (.map es clk)⟩)) (hk : isk kv) (hks : ∀ e ∈ es.toList, isk e.key) (hkf : flat kv = true)
    (hin : ∃ e ∈ es.toList, e.key = kv) (hv : ∀ e ∈ es.toList, e.key = kv → e.val = v) (hvf : flat1 v = true) :
    OQ P ⟨dst, .lookup ty x y true, rt, pos, after, guard⟩ t m (.tuple #[v, .bool true]) ∧ OQ P ⟨dst, .lookup ty x y false, rt, pos, after, guard⟩ t m v := by
  have key : ∀ (ok : Bool) (ρ : Ren) (a : Act) (w : World), TRel ρ t a.tmps → MRel ρ m w → ∀ w', Same ρ m w w' → (execOp a.eval ⟨dst, .lookup ty x y ok, rt, pos, after, guard⟩).run P w' = .ok (.value (if ok then .tuple #[v, .bool true] else v)) w' := by
    intro ok ρ a w ht hm w' hs
    obtain ⟨pl, hp, he, hh⟩ := map_at ht hm hs hx hb
    have hye : a.eval y = kv := (hy ▸ ht.ev y).of_flat hkf
    rcases K.find w' kv hk es.toList hks with ⟨_, h2⟩ | ⟨j, e, h1, h2, h3⟩
    · obtain ⟨e, q1, q2⟩ := hin
      exact absurd q2 (h2 e q1)
    · have hev : e.val = v := hv e (List.mem_of_getElem? h2) h3
      simp only [execOp, Instr.lookup, he, hye, Sem.run_bind, run_und hu, Result.andThen_ok, MapKept.run_getObj_map hh, Sem.run_pure, K.check w' _ kv hk, h1, hev]
  exact ⟨fun ρ a w ht hm => ⟨_, .flat (flat_two hvf true), fun w' hs => key true ρ a w ht hm w' hs⟩, fun ρ a w ht hm => ⟨_, .flat1 hvf, fun w' hs => key false ρ a w ht hm w' hs⟩⟩
theorem OQ.lookN (K : MKey P kt isk) (hx : t.ev x = .map (some b)) (hy : t.ev y = kv) (hu : P.underlying ty = some (.map kt et)) (hb : m.at b = some (@Blk.mk cs own ez ⟨some (.map es clk)⟩)) (hk : isk kv) (hks : ∀ e ∈ es.toList, isk e.key) (hkf : flat kv = true)
    (hno : ∀ e ∈ es.toList, e.key ≠ kv) (hz : ∀ w, (zeroValue et).run P w = .ok v w) (hvf : flat1 v = true) :
    OQ P ⟨dst, .lookup ty x y true, rt, pos, after, guard⟩ t m (.tuple #[v, .bool false]) ∧ OQ P ⟨dst, .lookup ty x y false, rt, pos, after, guard⟩ t m v := by
  have key : ∀ (ok : Bool) (ρ : Ren) (a : Act) (w : World), TRel ρ t a.tmps → MRel ρ m w → ∀ w', Same ρ m w w' → (execOp a.eval ⟨dst, .lookup ty x y ok, rt, pos, after, guard⟩).run P w' = .ok (.value (if ok then .tuple #[v, .bool false] else v)) w' := by
    intro ok ρ a w ht hm w' hs
    obtain ⟨pl, hp, he, hh⟩ := map_at ht hm hs hx hb
    have hye : a.eval y = kv := (hy ▸ ht.ev y).of_flat hkf
    rcases K.find w' kv hk es.toList hks with ⟨h1, _⟩ | ⟨j, e, h1, h2, h3⟩
    · simp only [execOp, Instr.lookup, he, hye, Sem.run_bind, run_und hu, Result.andThen_ok, MapKept.run_getObj_map hh, Sem.run_pure, K.check w' _ kv hk, h1, hz]
    · exact absurd h3 (hno e (List.mem_of_getElem? h2))
  exact ⟨fun ρ a w ht hm => ⟨_, .flat (flat_two hvf false), fun w' hs => key true ρ a w ht hm w' hs⟩, fun ρ a w ht hm => ⟨_, .flat1 hvf, fun w' hs => key false ρ a w ht hm w' hs⟩⟩
theorem OQ.lenMap {xt : TypeId} (hx : t.ev x = .map (some b)) (hu : P.underlying xt = some (.map kt et)) (hb : m.at b = some (@Blk.mk cs own ez ⟨some (.map es clk)⟩)) : OQ P ⟨dst, .call ⟨.builtin .len, #[x], #[xt]⟩, rt, pos, after, guard⟩ t m (.int .i64 es.size) := by
  intro ρ a w ht hm
  refine ⟨_, .scal rfl, fun w' hs => ?_⟩
  obtain ⟨pl, hp, he, hh⟩ := map_at ht hm hs hx hb
  simp only [execOp, resolve, invoke, builtin, he, Sem.run_bind, Sem.run_pure, Result.andThen_ok, List.map_toArray, List.map_cons, List.map_nil]
  have : (Builtin.len_ #[xt] rt #[.map (some pl.blk)]).run P w' = .ok (.int .i64 es.size) w' := by
    simp [Builtin.len_, run_und hu, MapKept.run_getObj_map hh, Result.andThen, goInt]
  erw [this]
  rfl
end
theorem St.newO {E : Env} {ρ : Ren} {m : Mem} {w : World} (h : St E ρ m w) {oc : OC} {x : Obj} (hx : IsRow ρ (some oc) x #[] 0 (0, 0)) :
    St E (ρ.new m.length ⟨w.heap.size, 0, 0, 0⟩) (m ++ [some (@Blk.mk [] true 0 ⟨some oc⟩)]) (w.alloc x) := by
  have he := h.ext_new ⟨w.heap.size, 0, 0, 0⟩
  refine ⟨h.os, h.tape, h.output, Nat.le_trans h.size (by simp), fun k hk hs => ?_, h.ext_keep _, by have := h.len; simp; omega, fun b pl hb => ?_, ?_, ?_⟩
  · rw [World.alloc_get, if_neg (by have := h.size; omega)]
    exact h.same k hk hs
  · unfold Ren.new at hb
    split at hb
    · simp; omega
    · have := h.dom b pl hb
      simp; omega
  · intro b blk hb
    rw [Mem.at_snoc] at hb
    split at hb
    · rename_i hbm
      cases Option.some.inj hb
      refine ⟨⟨w.heap.size, 0, 0, 0⟩, by simp [Ren.new, hbm], ⟨x, #[], 0, (0, 0), by rw [World.alloc_get]; simp, hx.ext he, rfl, fun i v hv => by simp at hv, fun _ => ⟨rfl, rfl, rfl⟩⟩, ?_⟩
      · intro _ b' blk' pl' hne hb' hp'
        rw [Mem.at_snoc, if_neg (by omega)] at hb'
        obtain ⟨pl, hp, hbr, _⟩ := h.mem b' blk' hb'
        unfold Ren.new at hp'
        rw [if_neg (by omega), hp] at hp'
        cases Option.some.inj hp'
        have := hbr.lt
        simp only
        omega
    · rename_i hbm
      obtain ⟨pl, hp, hbr, hown⟩ := h.mem b blk hb
      have hlt := hbr.lt
      refine ⟨pl, he b pl hp, hbr.ext he (by rw [World.alloc_get, if_neg (by omega)]), fun ho b' blk' pl' hne hb' hp' => ?_⟩
      rw [Mem.at_snoc] at hb'
      unfold Ren.new at hp'
      split at hb'
      · rename_i hbm'
        rw [if_pos hbm'] at hp'
        cases Option.some.inj hp'
        simp only
        omega
      · rename_i hbm'
        rw [if_neg hbm'] at hp'
        exact hown ho b' blk' pl' hne hb' hp'
  · intro b blk pl hb ho hp
    rw [Mem.at_snoc] at hb
    unfold Ren.new at hp
    split at hb
    · rename_i hbm
      rw [if_pos hbm] at hp
      cases Option.some.inj hp
      exact .inl h.size
    · rename_i hbm
      rw [if_neg hbm] at hp
      exact h.fresh b blk pl hb ho hp
theorem St.setO {E : Env} {ρ : Ren} {m : Mem} {w w' : World} {b : Nat} {blk : Blk} {pl : Pl} {oc : OC} {x : Obj} (h : St E ρ m w) (hb : m.at b = some blk) (ho : blk.own = true) (hp : ρ b = some pl) (ho' : blk.obj.o ≠ none)
    (hx : IsRow ρ (some oc) x #[] 0 (0, 0)) (hc' : w'.heap[pl.blk]? = some x)
    (hfar : ∀ k, k ≠ pl.blk → w'.heap[k]? = w.heap[k]?) (hs : w'.heap.size = w.heap.size) (h1 : w'.os = w.os) (h2 : w'.tape = w.tape) (h3 : w'.output = w.output ∧ w.drawn ≤ w'.drawn) :
    St E ρ (m.set b (some (@Blk.mk [] true blk.esz ⟨some oc⟩))) w' := by
  have hlt := Mem.at_lt hb
  refine ⟨h1.trans h.os, h2.trans h.tape, ⟨h3.1.trans h.output.1, Nat.le_trans h.output.2 h3.2⟩, by rw [hs]; exact h.size, fun k hk hks => ?_, h.ext, by simpa using h.len, fun b pl hb => by simpa using h.dom b pl hb, ?_, ?_⟩
  · rw [hfar k ?_]
    · exact h.same k hk hks
    · rintro rfl
      rcases h.fresh b blk pl hb ho hp with hf | hf
      · omega
      · exact hks hf
  · intro k bk hk
    rw [Mem.at_set hlt] at hk
    split at hk
    · rename_i hkb
      subst hkb
      cases Option.some.inj hk
      obtain ⟨pl', hp', ⟨x0, c0, ty0, fr0, hc0, hx0, e1, e2, e3⟩, hown⟩ := h.mem k blk hb
      cases Option.some.inj (hp'.symm.trans hp)
      have hsz0 : c0 = #[] ∧ fr0 = (0, 0) := by
        match hq : blk.obj.o, hx0 with
        | none, _ => exact absurd hq ho'
        | some (.map _ _), hx0 => exact hx0.2
        | some (.iter _ _ _ _), hx0 => exact hx0.2
      refine ⟨pl, hp, ⟨x, #[], 0, (0, 0), hc', hx, e1, fun i v hv => by simp at hv, fun _ => ?_⟩, fun ho b' blk' pl' hne hb' hp' => ?_⟩
      · obtain ⟨g0, g1, g2⟩ := e3 ‹_›
        rw [hsz0.1] at g1
        exact ⟨g0, g1, rfl⟩
      · rw [Mem.at_set hlt, if_neg hne] at hb'
        exact hown ‹_› b' blk' pl' hne hb' hp'
    · rename_i hkb
      obtain ⟨pl', hp', hbr, hown⟩ := h.mem k bk hk
      obtain ⟨pl0, hp0, _, hown0⟩ := h.mem b blk hb
      cases Option.some.inj (hp0.symm.trans hp)
      have hne : pl'.blk ≠ pl.blk := hown0 ho k bk pl' hkb hk hp'
      refine ⟨pl', hp', hbr.ext (.refl _) (hfar _ hne), fun ho' b' blk' pl'' hne' hb' hp'' => ?_⟩
      rw [Mem.at_set hlt] at hb'
      split at hb'
      · rename_i hbb
        subst hbb
        rw [hp] at hp''
        cases Option.some.inj hp''
        exact Ne.symm hne
      · exact hown ho' b' blk' pl'' hne' hb' hp''
  · intro k bk pl' hk hko hkp
    rw [Mem.at_set hlt] at hk
    split at hk
    · rename_i hkb
      subst hkb
      rw [hp] at hkp
      cases Option.some.inj hkp
      exact h.fresh k blk pl hb ho hp
    · exact h.fresh k bk pl' hk hko hkp

section
variable {P : Program} {t : T} {m : Mem} {dst : Option Tmp} {ty rt kt et : TypeId} {pos : String} {after : Array Edge} {guard : Option (Nat × Bool)} {x y z : Operand} {b : Nat} {es : Array MapEntry} {clk : Nat} {ez : Nat} {cs : List Value} {isk : Value → Prop} {kv v : Value}
theorem OW.makeMap : OW P ⟨dst, .makeMap ty none, rt, pos, after, guard⟩ t m (.map (some m.length)) (m ++ [some (mpB #[] 0)]) := by
  intro E ρ a w ht hst
  refine ⟨_, _, _, .inl ?_, hst.ext_new ⟨w.heap.size, 0, 0, 0⟩, .map (b := m.length) (pl := ⟨w.heap.size, 0, 0, 0⟩) (by simp [Ren.new]), hst.newO (oc := .map #[] 0) ⟨rfl, rfl, rfl⟩⟩
  simp only [execOp, Instr.makeMap, Sem.run_bind]
  simp [go_sem]
theorem OW.updN (K : MKey P kt isk) (hx : t.ev x = .map (some b)) (hy : t.ev y = kv) (hz : t.ev z = v) (hu : P.underlying ty = some (.map kt et)) (hb : m.at b = some (@Blk.mk cs true ez ⟨some (.map es clk)⟩)) (hk : isk kv) (hks : ∀ e ∈ es.toList, isk e.key) (hkf : flat kv = true) (hvf : flat v = true)
    (hno : ∀ e ∈ es.toList, e.key ≠ kv) :
    OW P ⟨dst, .mapUpdate ty x y z, rt, pos, after, guard⟩ t m undef (m.set b (some (@Blk.mk [] true ez ⟨some (.map (es.push ⟨kv, v, clk⟩) (clk + 1))⟩))) := by
  intro E ρ a w ht hst
  obtain ⟨pl, hp, he, hh⟩ := map_at ht hst.mem (Same.refl _ _ _) hx hb
  have hye : a.eval y = kv := (hy ▸ ht.ev y).of_flat hkf
  have hze : a.eval z = v := (hz ▸ ht.ev z).of_flat hvf
  rcases K.find w kv hk es.toList hks with ⟨h1, _⟩ | ⟨j, e, h1, h2, h3⟩
  · obtain ⟨s1, s2⟩ := MapKept.heap_set (o' := .map (es.push ⟨kv, v, clk⟩) (clk + 1)) hh
    refine ⟨undef, { w with heap := w.heap.setIfInBounds pl.blk (.map (es.push ⟨kv, v, clk⟩) (clk + 1)) }, ρ, .inr ⟨?_, rfl⟩, .refl _, .undef, hst.setO (oc := .map (es.push ⟨kv, v, clk⟩) (clk + 1)) hb rfl hp (by simp) ⟨rfl, rfl, rfl⟩ s1 s2 (by simp) rfl rfl ⟨rfl, Nat.le_refl _⟩⟩
    simp only [execOp, Instr.mapUpdate, he, hye, hze, Sem.run_bind, run_und hu, Result.andThen_ok, MapKept.run_getObj_map hh, Sem.run_pure, K.check w _ kv hk, h1, MapKept.run_setObj_map _ hh]
  · exact absurd h3 (hno e (List.mem_of_getElem? h2))
theorem OW.updS (j0 : Nat) (K : MKey P kt isk) (hx : t.ev x = .map (some b)) (hy : t.ev y = kv) (hz : t.ev z = v) (hu : P.underlying ty = some (.map kt et)) (hb : m.at b = some (@Blk.mk cs true ez ⟨some (.map es clk)⟩)) (hk : isk kv) (hks : ∀ e ∈ es.toList, isk e.key) (hkf : flat kv = true) (hvf : flat v = true)
    (hin : ∃ e ∈ es.toList, e.key = kv) (hj : ∀ (j : Nat) e, es.toList[j]? = some e → e.key = kv → j = j0) :
    OW P ⟨dst, .mapUpdate ty x y z, rt, pos, after, guard⟩ t m undef (m.set b (some (@Blk.mk [] true ez ⟨some (.map (es.modify j0 fun e => { e with key := kv, val := v }) clk)⟩))) := by
  intro E ρ a w ht hst
  obtain ⟨pl, hp, he, hh⟩ := map_at ht hst.mem (Same.refl _ _ _) hx hb
  have hye : a.eval y = kv := (hy ▸ ht.ev y).of_flat hkf
  have hze : a.eval z = v := (hz ▸ ht.ev z).of_flat hvf
  rcases K.find w kv hk es.toList hks with ⟨_, h2⟩ | ⟨j, e, h1, h2, h3⟩
  · obtain ⟨e, q1, q2⟩ := hin
    exact absurd q2 (h2 e q1)
  · obtain rfl := hj j e h2 h3
    have hkey : ((es[j]?).map (·.key)).getD kv = kv := by
      rw [Array.getElem?_toList] at h2
      rw [h2]
      exact h3
    obtain ⟨s1, s2⟩ := MapKept.heap_set (o' := .map (es.modify j fun e => { e with key := kv, val := v }) clk) hh
    refine ⟨undef, { w with heap := w.heap.setIfInBounds pl.blk (.map (es.modify j fun e => { e with key := kv, val := v }) clk) }, ρ, .inr ⟨?_, rfl⟩, .refl _, .undef, hst.setO (oc := .map (es.modify j fun e => { e with key := kv, val := v }) clk) hb rfl hp (by simp) ⟨rfl, rfl, rfl⟩ s1 s2 (by simp) rfl rfl ⟨rfl, Nat.le_refl _⟩⟩
    simp only [execOp, Instr.mapUpdate, he, hye, hze, Sem.run_bind, run_und hu, Result.andThen_ok, MapKept.run_getObj_map hh, Sem.run_pure, K.check w _ kv hk, h1, hkey, K.stays w kv hk, MapKept.run_setObj_map _ hh]
end
end Ab
end Go
end
/- The small memory: ranges over maps. -/
section
set_option linter.unusedSimpArgs false
set_option linter.unusedVariables false
namespace Go
open Go.RowKit
namespace Ab
variable {P : Program}
theorem run_next_at (w : World) (ty : TypeId) (r bm since c0 : Nat) (seen : Array Nat) (es : Array MapEntry) (clock : Nat) (hr : w.heap[r]? = some (.mapIter (some bm) since seen c0)) (hb : w.heap[bm]? = some (.map es clock)) (hold : ∀ x ∈ es.toList, x.born < since) (hsc : since ≤ c0) :
    ((leftOf es seen).size = 0 ∧ (Instr.next (.pointer (some ⟨r, 0, none⟩)) false ty).run P w = .ok (.tuple #[.bool false]) w) ∨
    ∃ e ∈ (leftOf es seen).toList, ∃ w1 : World, (w1 = w ∨ w1 = w.drew) ∧ (Instr.next (.pointer (some ⟨r, 0, none⟩)) false ty).run P w = .ok (.tuple #[.bool true, e.key, e.val]) { w1 with heap := w1.heap.setIfInBounds r (.mapIter (some bm) since (seen.push e.born) clock) } := by
  simp only [Instr.next, getObj, Sem.run_bind, Sem.run, hr, hb, Result.andThen, next_test_false seen es since c0 hold hsc, Bool.false_eq_true, if_false]
  unfold leftOf
  have hmem : ∀ x ∈ (Array.filter (fun e => !seen.contains e.born) es).toList, x.born < since := fun x hx => hold x (by simp at hx ⊢; exact hx.1)
  generalize Array.filter (fun e => !seen.contains e.born) es = L at hmem ⊢
  have e1 : L.filter (fun x => decide (x.born < since)) = L := Array.filter_eq_self.2 (fun x hx => by simpa using hmem x (by simpa using hx))
  have e2 : L.filter (fun x => decide (x.born ≥ since)) = #[] := by
    rw [Array.filter_eq_empty_iff]
    intro x hx
    have := hmem x (by simpa using hx)
    simp
    omega
  simp only [e1, e2, Array.append_empty]
  by_cases h0 : L.size = 0
  · left
    have : L = #[] := Array.eq_empty_of_size_eq_zero h0
    subst this
    refine ⟨rfl, ?_⟩
    simp [choose, Sem.run, Question.forced]
  · right
    have hne : L.isEmpty = false := by simp [Array.isEmpty, h0]
    simp only [hne, Bool.false_eq_true, if_false, Array.empty_append, Array.size_map]
    have hch : ∃ (j : Nat) (w1 : World), j < L.size ∧ (w1 = w ∨ w1 = w.drew) ∧ (choose (Question.mapNext L.size)).run P w = .ok j w1 := by
      by_cases hf : L.size ≤ 1
      · exact ⟨0, w, by omega, .inl rfl, by simp [choose, Sem.run, Question.forced, hf]⟩
      · exact ⟨_, w.drew, Nat.mod_lt _ (by omega), .inr rfl, by
          simp only [choose, Sem.run, Question.forced, decide_eq_true_eq, hf, if_false, Question.cut]
          rfl⟩
    obtain ⟨j, w1, hj, hal, hrun⟩ := hch
    refine ⟨L[j], by simp, w1, hal, ?_⟩
    have hr1 : w1.heap[r]? = some (.mapIter (some bm) since seen c0) := by rcases hal with rfl | rfl <;> exact hr
    have hset : ∀ (o' : Obj), (setObj r o').run P w1 = .ok () { w1 with heap := w1.heap.setIfInBounds r o' } := fun o' => by
      simp [setObj, Sem.run, hr1]
    simp only [hrun, Array.getElem?_map, Array.getElem?_eq_getElem hj, Option.map_some, Sem.run_bind, hset, Result.andThen]
    rfl

section
variable {E : Env} {ops : Array Oper} {rest : List Oper} {Q : Post} {t : T} {m : Mem} {dst : Option Tmp} {ty rt kt et : TypeId} {pos : String} {after : Array Edge} {guard : Option (Nat × Bool)} {x : Operand} {b : Nat} {es : Array MapEntry} {clk : Nat} {own : Bool} {ez : Nat} {cs : List Value}
theorem OW.rangeMap (hx : t.ev x = .map (some b)) (hu : P.underlying ty = some (.map kt et)) (hb : m.at b = some (@Blk.mk cs own ez ⟨some (.map es clk)⟩)) :
    OW P ⟨dst, .range ty x, rt, pos, after, guard⟩ t m (.pointer (some ⟨m.length, 0, none⟩)) (m ++ [some (itB b clk #[] clk)]) := by
  intro E ρ a w ht hst
  obtain ⟨pl, hp, he, hh⟩ := map_at ht hst.mem (Same.refl _ _ _) hx hb
  refine ⟨_, _, _, .inl ?_, hst.ext_new ⟨w.heap.size, 0, 0, 0⟩, .ptr (b := m.length) (o := 0) (pl := ⟨w.heap.size, 0, 0, 0⟩) (by simp [Ren.new]), hst.newO (oc := .iter b clk #[] clk) ⟨⟨pl, hp, rfl⟩, rfl, rfl⟩⟩
  simp only [execOp, he, Sem.run_bind, run_range_map w ty kt et pl.blk es clk hu hh, Result.andThen_ok, Sem.run_pure]

theorem AL.next {bi since last : Nat} {seen : Array Nat} (hx : t.ev x = .pointer (some ⟨bi, 0, none⟩)) (hi : m.at bi = some (itB b since seen last)) (hb : m.at b = some (@Blk.mk cs own ez ⟨some (.map es clk)⟩))
    (hold : ∀ e ∈ es.toList, e.born < since) (hsc : since ≤ last) (hf : ∀ e ∈ es.toList, flat1 e.key = true ∧ flat1 e.val = true)
    (h0 : (leftOf es seen).size = 0 → AL P E ops rest (t.put dst (.tuple #[.bool false])) m Q)
    (h1 : ∀ e ∈ es.toList, seen.contains e.born = false → AL P E ops rest (t.put dst (.tuple #[.bool true, e.key, e.val])) (m.set bi (some (@Blk.mk [] true 0 ⟨some (.iter b since (seen.push e.born) clk)⟩))) Q) :
    AL P E ops (⟨dst, .next x false, rt, pos, after, none⟩ :: rest) t m Q := by
  intro ρ a w hd ht hs
  obtain ⟨pl, hp, he⟩ := (hx ▸ ht.ev x).ptr_inv
  obtain ⟨pl', hp', hbr, _⟩ := hs.mem bi _ hi
  cases Option.some.inj (hp'.symm.trans hp)
  obtain ⟨X, c, ty0, fr, g1, ⟨⟨plm, gm, rfl⟩, _, _⟩, _, _, g5⟩ := hbr
  have hsh : pl.sh = 0 := (g5 rfl).1
  obtain ⟨plm', hpm, hbrm, _⟩ := hs.mem b _ hb
  cases Option.some.inj (hpm.symm.trans gm)
  have hh := mpB_row hbrm
  rw [hsh, Nat.zero_add] at he
  unfold wpList
  rw [if_pos (by simp [Region.wanted])]
  left
  unfold Oper.wp
  rcases run_next_at (P := P) w rt pl.blk plm.blk since last seen es clk g1 hh hold hsc with ⟨q0, q1⟩ | ⟨e, q0, w1, q1, q2⟩
  · have hrun : (execOp a.eval ⟨dst, .next x false, rt, pos, after, none⟩).run P w = .ok (.value (.tuple #[.bool false])) w := by
      simp only [execOp, he, Sem.run_bind, q1, Result.andThen_ok, Sem.run_pure]
    rw [hrun]
    exact h0 q0 ρ _ w (by rw [put_defers]; exact hd) (ht.put (.flat rfl) _) hs
  · obtain ⟨m1, m2⟩ := mem_left q0
    obtain ⟨f1, f2⟩ := hf e m1
    have hrun : (execOp a.eval ⟨dst, .next x false, rt, pos, after, none⟩).run P w = .ok (.value (.tuple #[.bool true, e.key, e.val])) { w1 with heap := w1.heap.setIfInBounds pl.blk (.mapIter (some plm.blk) since (seen.push e.born) clk) } := by
      simp only [execOp, he, Sem.run_bind, q2, Result.andThen_ok, Sem.run_pure]
    rw [hrun]
    have hs1 : St E ρ m w1 := by rcases q1 with rfl | rfl; exact hs; exact hs.drew
    have g1' : w1.heap[pl.blk]? = some (.mapIter (some plm.blk) since seen last) := by rcases q1 with rfl | rfl <;> exact g1
    obtain ⟨s1, s2⟩ := MapKept.heap_set (o' := .mapIter (some plm.blk) since (seen.push e.born) clk) g1'
    refine h1 e m1 m2 ρ _ _ (by rw [put_defers]; exact hd) (ht.put (.flat ?_) _) (hs1.setO (oc := .iter b since (seen.push e.born) clk) hi rfl hp (by simp) ⟨⟨plm, gm, rfl⟩, rfl, rfl⟩ s1 s2 (by simp) rfl rfl ⟨rfl, Nat.le_refl _⟩)
    show (#[Value.bool true, e.key, e.val].toList.all flat1) = true
    rw [show #[Value.bool true, e.key, e.val].toList = [.bool true, e.key, e.val] from rfl, List.all_cons, List.all_cons, List.all_cons, f1, f2]
    rfl
end
end Ab
end Go
end
/- The small memory: maps that are never struck: lists of pairs, in the order in which the keys came. -/
section
set_option linter.unusedSimpArgs false
set_option linter.unusedVariables false
namespace Go
open Go.RowKit
namespace Ab
section
variable {κ : Type} (enc : κ → Value)
def mpE (l : List (κ × Value)) : Array MapEntry := (l.zipIdx.map fun p => (⟨enc p.1.1, p.1.2, p.2⟩ : MapEntry)).toArray
def mpL (l : List (κ × Value)) : Blk := mpB (mpE enc l) l.length
theorem mpE_size (l : List (κ × Value)) : (mpE enc l).size = l.length := by simp [mpE]
theorem mpE_get (l : List (κ × Value)) (j : Nat) : (mpE enc l).toList[j]? = (l[j]?).map fun p => (⟨enc p.1, p.2, j⟩ : MapEntry) := by
  simp only [mpE, List.toList_toArray, List.getElem?_map, List.getElem?_zipIdx, Nat.zero_add, Option.map_map]
  rfl
theorem mpE_mem {l : List (κ × Value)} {e : MapEntry} (h : e ∈ (mpE enc l).toList) : ∃ j p, l[j]? = some p ∧ e = ⟨enc p.1, p.2, j⟩ := by
  obtain ⟨j, hj⟩ := List.mem_iff_getElem?.1 h
  rw [mpE_get] at hj
  cases hl : l[j]? with
  | none => rw [hl] at hj; cases hj
  | some p => rw [hl] at hj; cases hj; exact ⟨j, p, hl, rfl⟩
theorem mpE_snoc (l : List (κ × Value)) (k : κ) (v : Value) : (mpE enc l).push ⟨enc k, v, l.length⟩ = mpE enc (l ++ [(k, v)]) := by
  apply Array.ext'
  simp [mpE, List.zipIdx_append]
theorem mpE_set (l : List (κ × Value)) (j : Nat) (k : κ) (v : Value) : (mpE enc l).modify j (fun e => { e with key := enc k, val := v }) = mpE enc (l.set j (k, v)) := by
  apply Array.ext_getElem?
  intro i
  rw [Array.getElem?_modify]
  have g1 := mpE_get enc l i
  have g2 := mpE_get enc (l.set j (k, v)) i
  rw [Array.getElem?_toList] at g1 g2
  rw [g1, g2, List.getElem?_set]
  by_cases hj : j = i
  · subst hj
    rw [if_pos rfl, if_pos rfl]
    by_cases hl : j < l.length
    · rw [if_pos hl, List.getElem?_eq_getElem hl]; rfl
    · rw [if_neg hl, List.getElem?_eq_none (by omega)]; rfl
  · rw [if_neg hj, if_neg hj]
structure KEnc (P : Program) (kt : TypeId) (ok : κ → Prop) : Prop where
  isk : ∃ q, MKey P kt q ∧ ∀ k, ok k → q (enc k)
  inj : ∀ a b, enc a = enc b → a = b
  fl : ∀ k, flat (enc k) = true
  fl1 : ∀ k, flat1 (enc k) = true
end
section
variable {κ : Type} {enc : κ → Value} {ok : κ → Prop} {P : Program} {t : T} {m : Mem} {dst : Option Tmp} {ty rt kt et : TypeId} {pos : String} {after : Array Edge} {guard : Option (Nat × Bool)} {x y z : Operand} {b : Nat} {l : List (κ × Value)} {k : κ} {v : Value}
theorem OQ.mlookS {cs : List Value} {own : Bool} {ez : Nat} (K : KEnc enc P kt ok) (hk0 : ok k) (hl0 : ∀ p ∈ l, ok p.1) (hx : t.ev x = .map (some b)) (hy : t.ev y = enc k) (hu : P.underlying ty = some (.map kt et)) (hb : m.at b = some (@Blk.mk cs own ez ⟨some (.map (mpE enc l) l.length)⟩)) (hn : (l.map (·.1)).Nodup) (hm : (k, v) ∈ l) (hvf : flat1 v = true) :
    OQ P ⟨dst, .lookup ty x y true, rt, pos, after, guard⟩ t m (.tuple #[v, .bool true]) ∧ OQ P ⟨dst, .lookup ty x y false, rt, pos, after, guard⟩ t m v := by
  obtain ⟨q, Kq, hq⟩ := K.isk
  obtain ⟨j, hj⟩ := List.mem_iff_getElem?.1 hm
  refine OQ.lookS Kq hx hy hu hb (hq k hk0) (fun e he => ?_) (K.fl k) ⟨⟨enc k, v, j⟩, List.mem_iff_getElem?.2 ⟨j, by rw [mpE_get, hj]; rfl⟩, rfl⟩ (fun e he hk => ?_) hvf
  · obtain ⟨i, p, hpm, rfl⟩ := mpE_mem enc he
    exact hq p.1 (hl0 p (List.mem_of_getElem? hpm))
  · obtain ⟨i, p, hp, rfl⟩ := mpE_mem enc he
    have hpk : p.1 = k := K.inj _ _ hk
    obtain rfl : i = j := by
      have hi' : (l.map (·.1))[i]? = some k := by rw [List.getElem?_map, hp, Option.map_some, hpk]
      have hj' : (l.map (·.1))[j]? = some k := by rw [List.getElem?_map, hj]; rfl
      exact (List.getElem?_inj (List.getElem?_eq_some_iff.1 hi').1 hn).1 (hi'.trans hj'.symm)
    rw [hp] at hj
    cases hj
    rfl
theorem OQ.mlookN {cs : List Value} {own : Bool} {ez : Nat} (K : KEnc enc P kt ok) (hk0 : ok k) (hl0 : ∀ p ∈ l, ok p.1) (hx : t.ev x = .map (some b)) (hy : t.ev y = enc k) (hu : P.underlying ty = some (.map kt et)) (hb : m.at b = some (@Blk.mk cs own ez ⟨some (.map (mpE enc l) l.length)⟩)) (hm : k ∉ l.map (·.1)) (hz : ∀ w, (zeroValue et).run P w = .ok v w) (hvf : flat1 v = true) :
    OQ P ⟨dst, .lookup ty x y true, rt, pos, after, guard⟩ t m (.tuple #[v, .bool false]) ∧ OQ P ⟨dst, .lookup ty x y false, rt, pos, after, guard⟩ t m v := by
  obtain ⟨q, Kq, hq⟩ := K.isk
  refine OQ.lookN Kq hx hy hu hb (hq k hk0) (fun e he => ?_) (K.fl k) (fun e he hk => ?_) hz hvf
  · obtain ⟨i, p, hpm, rfl⟩ := mpE_mem enc he
    exact hq p.1 (hl0 p (List.mem_of_getElem? hpm))
  · obtain ⟨i, p, hp, rfl⟩ := mpE_mem enc he
    exact hm (List.mem_map.2 ⟨p, List.mem_of_getElem? hp, K.inj _ _ hk⟩)
theorem OQ.mlen {xt : TypeId} {cs : List Value} {own : Bool} {ez : Nat} (hx : t.ev x = .map (some b)) (hu : P.underlying xt = some (.map kt et)) (hb : m.at b = some (@Blk.mk cs own ez ⟨some (.map (mpE enc l) l.length)⟩)) : OQ P ⟨dst, .call ⟨.builtin .len, #[x], #[xt]⟩, rt, pos, after, guard⟩ t m (.int .i64 l.length) := by
  have := OQ.lenMap (dst := dst) (rt := rt) (pos := pos) (after := after) (guard := guard) hx hu hb
  rwa [mpE_size] at this
theorem OW.mupdN (K : KEnc enc P kt ok) (hk0 : ok k) (hl0 : ∀ p ∈ l, ok p.1) (hx : t.ev x = .map (some b)) (hy : t.ev y = enc k) (hz : t.ev z = v) (hu : P.underlying ty = some (.map kt et)) (hb : m.at b = some (mpL enc l)) (hm : k ∉ l.map (·.1)) (hvf : flat v = true) :
    OW P ⟨dst, .mapUpdate ty x y z, rt, pos, after, guard⟩ t m undef (m.set b (some (mpL enc (l ++ [(k, v)])))) := by
  obtain ⟨q, Kq, hq⟩ := K.isk
  have := OW.updN (dst := dst) (rt := rt) (pos := pos) (after := after) (guard := guard) Kq hx hy hz hu hb (hq k hk0) (fun e he => by obtain ⟨i, p, hpm, rfl⟩ := mpE_mem enc he; exact hq p.1 (hl0 p (List.mem_of_getElem? hpm))) (K.fl k) hvf
    (fun e he hk => by obtain ⟨i, p, hp, rfl⟩ := mpE_mem enc he; exact hm (List.mem_map.2 ⟨p, List.mem_of_getElem? hp, K.inj _ _ hk⟩))
  rw [mpE_snoc] at this
  have e : l.length + 1 = (l ++ [(k, v)]).length := by simp
  rw [e] at this
  exact this
theorem OW.mupdS (j : Nat) {v0 : Value} (K : KEnc enc P kt ok) (hk0 : ok k) (hl0 : ∀ p ∈ l, ok p.1) (hx : t.ev x = .map (some b)) (hy : t.ev y = enc k) (hz : t.ev z = v) (hu : P.underlying ty = some (.map kt et)) (hb : m.at b = some (mpL enc l)) (hn : (l.map (·.1)).Nodup) (hj : l[j]? = some (k, v0)) (hvf : flat v = true) :
    OW P ⟨dst, .mapUpdate ty x y z, rt, pos, after, guard⟩ t m undef (m.set b (some (mpL enc (l.set j (k, v))))) := by
  obtain ⟨q, Kq, hq⟩ := K.isk
  have := OW.updS (dst := dst) (rt := rt) (pos := pos) (after := after) (guard := guard) j Kq hx hy hz hu hb (hq k hk0) (fun e he => by obtain ⟨i, p, hpm, rfl⟩ := mpE_mem enc he; exact hq p.1 (hl0 p (List.mem_of_getElem? hpm))) (K.fl k) hvf
    ⟨⟨enc k, v0, j⟩, List.mem_iff_getElem?.2 ⟨j, by rw [mpE_get, hj]; rfl⟩, rfl⟩
    (fun i e he hk => by
      rw [mpE_get] at he
      cases hp : l[i]? with
      | none => rw [hp] at he; cases he
      | some p =>
        rw [hp] at he
        cases he
        have hpk : p.1 = k := K.inj _ _ hk
        have hi' : (l.map (·.1))[i]? = some k := by rw [List.getElem?_map, hp, Option.map_some, hpk]
        have hj' : (l.map (·.1))[j]? = some k := by rw [List.getElem?_map, hj]; rfl
        exact (List.getElem?_inj (List.getElem?_eq_some_iff.1 hi').1 hn).1 (hi'.trans hj'.symm))
  rw [mpE_set] at this
  have e : l.length = (l.set j (k, v)).length := by simp
  rw [e] at this
  exact this
end
abbrev itL (b n : Nat) (seen : List Nat) : Blk := itB b n seen.toArray n
section
variable {κ : Type} {enc : κ → Value} {ok : κ → Prop} {P : Program} {E : Env} {ops : Array Oper} {rest : List Oper} {Q : Post} {t : T} {m : Mem} {dst : Option Tmp} {ty rt kt et : TypeId} {pos : String} {after : Array Edge} {guard : Option (Nat × Bool)} {x : Operand} {b : Nat} {l : List (κ × Value)}
theorem AL.mnext {bi : Nat} {seen : List Nat} (K : KEnc enc P kt ok) (hx : t.ev x = .pointer (some ⟨bi, 0, none⟩)) (hi : m.at bi = some (itL b l.length seen)) (hb : m.at b = some (mpL enc l)) (hf : ∀ p ∈ l, flat1 p.2 = true)
    (h0 : (∀ j, j < l.length → j ∈ seen) → AL P E ops rest (t.put dst (.tuple #[.bool false])) m Q)
    (h1 : ∀ j k v, l[j]? = some (k, v) → j ∉ seen → AL P E ops rest (t.put dst (.tuple #[.bool true, enc k, v])) (m.set bi (some (itL b l.length (seen ++ [j])))) Q) :
    AL P E ops (⟨dst, .next x false, rt, pos, after, none⟩ :: rest) t m Q := by
  refine AL.next hx hi hb (fun e he => ?_) (Nat.le_refl _) (fun e he => ?_) (fun hz => h0 fun j hj => ?_) (fun e he hs => ?_)
  · obtain ⟨j, p, hp, rfl⟩ := mpE_mem enc he
    exact (List.getElem?_eq_some_iff.1 hp).1
  · obtain ⟨j, p, hp, rfl⟩ := mpE_mem enc he
    exact ⟨K.fl1 _, hf p (List.mem_of_getElem? hp)⟩
  · have hg : (⟨enc l[j].1, l[j].2, j⟩ : MapEntry) ∈ (mpE enc l).toList := List.mem_iff_getElem?.2 ⟨j, by rw [mpE_get, List.getElem?_eq_getElem hj]; rfl⟩
    by_cases hc : j ∈ seen
    · exact hc
    · have : (⟨enc l[j].1, l[j].2, j⟩ : MapEntry) ∈ (leftOf (mpE enc l) seen.toArray).toList := by
        unfold leftOf
        simp only [Array.toList_filter, List.mem_filter]
        exact ⟨hg, by simpa using hc⟩
      have hz' : (leftOf (mpE enc l) seen.toArray).toList = [] := List.eq_nil_of_length_eq_zero (by simpa using hz)
      rw [hz'] at this
      exact absurd this (by simp)
  · obtain ⟨j, p, hp, rfl⟩ := mpE_mem enc he
    have := h1 j p.1 p.2 hp (by simpa using hs)
    show AL P E ops rest _ (m.set bi (some (itB b l.length (seen.toArray.push j) l.length))) Q
    rw [show seen.toArray.push j = (seen ++ [j]).toArray by simp]
    exact this
end
section
variable {κ : Type} {enc : κ → Value} {ok : κ → Prop} {P : Program} {t : T} {m : Mem} {dst : Option Tmp} {ty rt kt et : TypeId} {pos : String} {after : Array Edge} {guard : Option (Nat × Bool)} {x y z : Operand} {b : Nat}
theorem OQ.mentry {bi j : Nat} {seen : List Nat} {l : List (κ × Value)} {k : κ} {v : Value} (hx : t.ev x = .pointer (some ⟨bi, 0, none⟩)) (hi : m.at bi = some (itL b l.length (seen ++ [j]))) (hb : m.at b = some (mpL enc l)) (hj : l[j]? = some (k, v)) (hf1 : flat1 (enc k) = true) (hf2 : flat1 v = true) :
    OQ P ⟨dst, .entry x, rt, pos, after, guard⟩ t m (.tuple #[enc k, v]) := by
  intro ρ a w ht hm
  obtain ⟨pl, hp, he⟩ := (hx ▸ ht.ev x).ptr_inv
  obtain ⟨pl', hp', hbr, _⟩ := hm bi _ hi
  cases Option.some.inj (hp'.symm.trans hp)
  obtain ⟨X, c, ty0, fr, g1, ⟨⟨plm, gm, rfl⟩, _, _⟩, _, _, g5⟩ := hbr
  have hsh : pl.sh = 0 := (g5 rfl).1
  obtain ⟨plm', hpm, hbrm, _⟩ := hm b _ hb
  cases Option.some.inj (hpm.symm.trans gm)
  have hh := mpB_row hbrm
  rw [hsh, Nat.zero_add] at he
  refine ⟨.tuple #[enc k, v], .flat ?_, fun w' hs => ?_⟩
  · show (#[enc k, v].toList.all flat1) = true
    rw [show #[enc k, v].toList = [enc k, v] from rfl, List.all_cons, List.all_cons, hf1, hf2]
    rfl
  · have h1 : w'.heap[pl.blk]? = some (.mapIter (some plm.blk) l.length (seen ++ [j]).toArray l.length) := (hs bi _ pl hi hp).trans g1
    have h2 : w'.heap[plm.blk]? = some (.map (mpE enc l) l.length) := (hs b _ plm hb gm).trans hh
    have hf : (mpE enc l).find? (·.born == j) = some ⟨enc k, v, j⟩ := by
      rw [← Array.find?_toList]
      have hmem : (⟨enc k, v, j⟩ : MapEntry) ∈ (mpE enc l).toList := List.mem_iff_getElem?.2 ⟨j, by rw [mpE_get, hj]; rfl⟩
      refine find_born ⟨enc k, v, j⟩ _ ?_ hmem
      have : (mpE enc l).toList.map (·.born) = List.range l.length := by
        refine List.ext_getElem? fun i => ?_
        rw [List.getElem?_map, mpE_get]
        by_cases hi : i < l.length
        · rw [List.getElem?_eq_getElem hi, List.getElem?_range hi]; rfl
        · rw [List.getElem?_eq_none (by omega), List.getElem?_eq_none (by simpa using hi)]; rfl
      rw [this]
      exact List.nodup_range
    have hbk : (seen ++ [j]).toArray.back? = some j := by simp [Array.back?]
    simp only [execOp, he, Instr.entry, getObj, Sem.run_bind, Sem.run, h1, h2, Result.andThen, hbk, bne_self_eq_false, Bool.false_eq_true, if_false, hf]
    rfl
def insL [DecidableEq κ] (l : List κ) (k : κ) : List κ := if k ∈ l then l else l ++ [k]
theorem OW.mins [DecidableEq κ] {l : List κ} {k : κ} {v : Value} (K : KEnc enc P kt ok) (hk0 : ok k) (hl0 : ∀ x ∈ l, ok x) (hx : t.ev x = .map (some b)) (hy : t.ev y = enc k) (hz : t.ev z = v) (hu : P.underlying ty = some (.map kt et)) (hb : m.at b = some (mpL enc (l.map fun k => (k, v)))) (hn : l.Nodup) (hvf : flat v = true) :
    OW P ⟨dst, .mapUpdate ty x y z, rt, pos, after, guard⟩ t m undef (m.set b (some (mpL enc ((insL l k).map fun k => (k, v))))) := by
  have hl1 : ∀ p ∈ l.map (fun k => (k, v)), ok p.1 := fun p hp => by
    obtain ⟨x, hx, rfl⟩ := List.mem_map.1 hp
    exact hl0 x hx
  have e : (l.map fun k => (k, v)).map (·.1) = l := by rw [List.map_map]; exact List.map_id l
  unfold insL
  split
  · rename_i hk
    obtain ⟨j, hj⟩ := List.mem_iff_getElem?.1 hk
    have := OW.mupdS (dst := dst) (rt := rt) (pos := pos) (after := after) (guard := guard) j (v0 := v) K hk0 hl1 hx hy hz hu hb (by rw [e]; exact hn) (by rw [List.getElem?_map, hj]; rfl) hvf
    have e2 : (l.map fun k => (k, v)).set j (k, v) = l.map fun k => (k, v) := by
      refine List.ext_getElem? fun i => ?_
      rw [List.getElem?_set]
      split
      · rename_i hji
        subst hji
        have hjl : j < l.length := (List.getElem?_eq_some_iff.1 hj).1
        rw [if_pos (by simpa using hjl), List.getElem?_map, hj]
        rfl
      · rfl
    rw [e2] at this
    exact this
  · rename_i hk
    have := OW.mupdN (dst := dst) (rt := rt) (pos := pos) (after := after) (guard := guard) K hk0 hl1 hx hy hz hu hb (by rw [e]; exact hk) hvf
    rw [List.map_append]
    exact this
theorem insL_nodup [DecidableEq κ] {l : List κ} {k : κ} (h : l.Nodup) : (insL l k).Nodup := by
  unfold insL
  split
  · exact h
  · rename_i hk
    rw [List.nodup_append]
    refine ⟨h, by simp, fun a ha b hb => ?_⟩
    rw [List.mem_singleton] at hb
    subst hb
    exact fun e => hk (e ▸ ha)
end
section
variable {P : Program} {E : Env} {l : List Oper} {bits : Array Nat} {n : Nat} {Q : Post} {m0 : Mem} {ops : List Oper} {t : T} {m : Mem} {sps : List Sp} {v : Value}
end
abbrev mpR {κ : Type} (enc : κ → Value) (l : List (κ × Value)) : Blk := @Blk.mk [] false 0 ⟨some (.map (mpE enc l) l.length)⟩
def strip (b : Blk) : Blk := @Blk.mk b.cells false 0 b.obj
theorem strip_at (m : Mem) (b : Nat) : Mem.at (m.map (Option.map strip)) b = (m.at b).map strip := by
  unfold Mem.at
  rw [List.getD_eq_getElem?_getD, List.getD_eq_getElem?_getD, List.getElem?_map]
  cases m[b]? with
  | none => rfl
  | some o => rfl
theorem VRel.strip {ρ : Ren} {v v' : Value} (h : VRel ρ v v') : VRel (fun b => (ρ b).map fun pl => { pl with esz := 0 }) v v' := by
  induction h with
  | junk v => exact .junk v
  | scal h => exact .scal h
  | @ptr b o pl h => exact .ptr (pl := { pl with esz := 0 }) (by rw [h]; rfl)
  | @map b pl h => exact .map (pl := { pl with esz := 0 }) (by rw [h]; rfl)
  | @slice b o n c c' pl h h1 h2 h3 => exact .slice (pl := { pl with esz := 0 }) (by rw [h]; rfl) h1 h2 (fun h => absurd rfl h)
  | empty => exact .empty
  | lost => exact .lost
  | func h1 h2 _ _ i3 i4 => exact .func h1 h2 i3 i4
  | agg h1 _ i3 => exact .agg h1 i3
  | tuple h1 _ i3 => exact .tuple h1 i3
theorem PCalls.strip {P : Program} {f : FuncId} {args : List Value} {m : Mem} {v : Value} (h : PCalls P f args (m.map (Option.map strip)) v) (hf : flat v = true) : PCalls P f args m v := by
  intro ρ args' w hdom hargs hm
  refine (h _ args' w (fun b pl hb => ?_) hargs.strip (fun b blk hb => ?_)).mono ?_
  · cases hp : ρ b with
    | none => rw [hp] at hb; cases hb
    | some pl0 => rw [List.length_map]; exact hdom b pl0 hp
  · rw [strip_at] at hb
    cases hq : m.at b with
    | none => rw [hq] at hb; cases hb
    | some b0 =>
      rw [hq] at hb
      cases Option.some.inj hb
      obtain ⟨pl, hp, ⟨x, c, ty, fr, hc, hx, h1, h2, h3⟩, h4⟩ := hm b b0 hq
      refine ⟨{ pl with esz := 0 }, by simp [hp], ⟨x, c, ty, fr, hc, ?_, rfl, fun i v hv => ?_, fun ho => by cases ho⟩, fun ho => by cases ho⟩
      · show IsRow _ b0.obj.o x c ty fr
        match hob : b0.obj.o, hx with
        | none, hx => exact hx
        | some (.map _ _), hx => exact hx
        | some (.iter b' _ _ _), ⟨⟨pl', q1, q2⟩, q3⟩ => exact ⟨⟨{ pl' with esz := 0 }, by simp [q1], q2⟩, q3⟩
      · obtain ⟨v', q1, q2⟩ := h2 i v hv
        exact ⟨v', q1, q2.strip⟩
  · rintro e w' ⟨v', rfl, hv, hb⟩
    rw [hv.of_flat hf]
    exact ⟨v, rfl, .flat hf, hb⟩
end Ab
end Go
end
/- Chapter 6: an open net: how it lies; the triangle at the left of an edge. -/
section
set_option linter.unusedSimpArgs false
set_option linter.unusedVariables false
section
namespace Go.Me
open Go.Ab
abbrev T3 := Int × Int × Int
abbrev IE := Int × Int
def tcC (t : T3) : List Value := [.int .i64 t.1, .int .i64 t.2.1, .int .i64 t.2.2]
def flatT (ts : List T3) : List Value := ts.flatMap tcC
def tr (ts : List T3) (k : Nat) : T3 := ts.getD k (0, 0, 0)
theorem flatT_scal (ts : List T3) : (flatT ts).all Ab.scal = true := Ls.flat_scal tcC (fun _ => rfl) ts
theorem flatT_ld {m : Mem} {b : Nat} {blk : Blk} {ts : List T3} (hb : m.at b = some blk) (hc : blk.cells = flatT ts) (k : Nat) (hk : k < ts.length) : m.ld b (k * 3) 3 = some [.int .i64 (tr ts k).1, .int .i64 (tr ts k).2.1, .int .i64 (tr ts k).2.2] :=
  Ls.flat_ld tcC 3 (fun _ => rfl) (0, 0, 0) ts hb hc k hk
theorem flatT_get (ts : List T3) (k : Nat) (hk : k < ts.length) : (flatT ts)[k * 3]? = some (.int .i64 (tr ts k).1) ∧ (flatT ts)[k * 3 + 1]? = some (.int .i64 (tr ts k).2.1) ∧ (flatT ts)[k * 3 + 2]? = some (.int .i64 (tr ts k).2.2) :=
  ⟨Ls.flat_get tcC 3 (fun _ => rfl) (0, 0, 0) ts k 0 (by decide) hk, Ls.flat_get tcC 3 (fun _ => rfl) (0, 0, 0) ts k 1 (by decide) hk, Ls.flat_get tcC 3 (fun _ => rfl) (0, 0, 0) ts k 2 (by decide) hk⟩
def encE (e : IE) : Value := .agg #[.int .i64 e.1, .int .i64 e.2]
def encI (n : Int) : Value := .int .i64 n
def ed (t : T3) : List IE := [(t.1, t.2.1), (t.2.1, t.2.2), (t.2.2, t.1)]
def lfV (L : List (IE × Int)) : List (IE × Value) := L.map fun p => (p.1, .int .i64 p.2)
def lk : List (IE × Int) → IE → Int
  | [], _ => -1
  | p :: r, e => if p.1 = e then p.2 else lk r e
theorem lk_mem {e : IE} : ∀ {L : List (IE × Int)}, e ∈ L.map (·.1) → (e, lk L e) ∈ L
  | [], h => by simp at h
  | p :: r, h => by
    unfold lk
    by_cases he : p.1 = e
    · rw [if_pos he, ← he]
      exact List.mem_cons_self
    · rw [if_neg he]
      rw [List.map_cons, List.mem_cons] at h
      exact List.mem_cons_of_mem _ (lk_mem (h.resolve_left (fun h => he h.symm)))
theorem lk_not {e : IE} : ∀ {L : List (IE × Int)}, e ∉ L.map (·.1) → lk L e = -1
  | [], _ => rfl
  | p :: r, h => by
    rw [List.map_cons, List.mem_cons, not_or] at h
    unfold lk
    rw [if_neg (fun he => h.1 he.symm), lk_not h.2]
theorem lfV_keys (L : List (IE × Int)) : (lfV L).map (·.1) = L.map (·.1) := by
  unfold lfV
  rw [List.map_map]
  rfl
theorem lfV_mem {L : List (IE × Int)} {e : IE} (h : e ∈ L.map (·.1)) : (e, Value.int .i64 (lk L e)) ∈ lfV L :=
  List.mem_map.2 ⟨_, lk_mem h, rfl⟩
end Go.Me
namespace Go.Proofs.Ytmohcmghbfhdlaa
open Go Go.RowKit Go.Ab Go.Me Go.WideMaps
set_option maxRecDepth 100000
set_option maxHeartbeats 4000000
attribute [local irreducible] OQ OW AL AW AD AF SW
def okE (e : IE) : Prop := (0 ≤ e.1 ∧ e.1 ≤ 1000000) ∧ (0 ≤ e.2 ∧ e.2 ≤ 1000000)
theorem wf_ok {n : Int} (h : 0 ≤ n ∧ n ≤ 1000000) : (Lit.int .i64 n).wf = true := by
  have h1 : IntKind.i64.min = -9223372036854775808 := by decide
  have h2 : IntKind.i64.max = 9223372036854775807 := by decide
  show (decide (IntKind.i64.min ≤ n) && decide (n ≤ IntKind.i64.max)) = true
  rw [h1, h2, Bool.and_eq_true, decide_eq_true_iff, decide_eq_true_iff]
  omega
theorem KE : KEnc encE Try.prog 45 okE :=
  have A : ArrKey Try.prog 45 3 2 := ⟨Try.underlying45, by kernel_rfl, by kernel_rfl, by kernel_rfl⟩
  ⟨⟨_, MKey.arr A, fun k hk => ⟨_, keyOf_pair A Try.underlying3 ⟨_, rfl⟩ (wf_ok hk.1) (wf_ok hk.2)⟩⟩, fun a b h => by
    unfold encE at h
    simp only [Value.agg.injEq, Array.mk.injEq, List.cons.injEq, Value.int.injEq, true_and, and_true] at h
    exact Prod.ext h.1 h.2, fun _ => rfl, fun _ => rfl⟩
theorem KI : KEnc encI Try.prog 3 (fun _ => True) :=
  ⟨⟨_, MKey.int Try.underlying3, fun k _ => ⟨k, rfl⟩⟩, fun a b h => by
    unfold encI at h
    simpa using h, fun _ => rfl, fun _ => rfl⟩
def netC (n c k c2 : Nat) (ev : Value) : List Value := [.slice (some ⟨0, 0, none⟩) n c, .slice (some ⟨1, 0, none⟩) k c2, ev, .map (some 3)]
theorem ro4p (a b c d : Blk) (h1 : a.own = false) (h2 : b.own = false) (h3 : c.own = false) (h4 : d.own = false) : Mem.ro [some a, some b, some c, some d] := fun k blk hk => by
  match k, hk with
  | 0, hk => cases hk; exact h1
  | 1, hk => cases hk; exact h2
  | 2, hk => cases hk; exact h3
  | 3, hk => cases hk; exact h4
theorem at_0 (A B : Blk) (hA : A.own = false) (hB : B.own = false) (n c k c2 z : Nat) (ev : Value) (L : List (IE × Int)) (hn : (L.map (·.1)).Nodup) (hL : ∀ p ∈ L, okE p.1) (a b : Int) (hab : okE (a, b)) :
    PCalls Try.prog 59 [.pointer (some ⟨2, 0, none⟩), .int .i64 a, .int .i64 b] [some A, some B, some ⟨netC n c k c2 ev, false, z⟩, some (mpR encE (lfV L))] (.int .i64 (lk L (a, b))) := by
  have hk2 := lfV_keys L
  have hL2 : ∀ p ∈ lfV L, okE p.1 := fun p hp => by
    obtain ⟨x, hx, rfl⟩ := List.mem_map.1 hp
    exact hL x hx
  unfold netC
  by_cases he : (a, b) ∈ L.map (·.1)
  · have hm := lfV_mem he
    refine PCalls.enter (t := [.pointer (some ⟨2, 0, none⟩), .int .i64 a, .int .i64 b, undef, undef, undef, undef, undef, undef, undef, undef, undef, undef, undef, undef, undef, undef, undef, undef, undef, undef, undef]) Try.func59 rfl (ro4p _ _ _ _ hA hB rfl rfl) rfl fun E => ?_
    repeat' (first
      | with_reducible refine Then.n ?_
      | with_reducible refine Then.r ?_
      | with_reducible refine Then.x ?_
      | with_reducible refine InB.n ?_
      | with_reducible refine InB.r ?_
      | with_reducible refine InB.hit ?_
      | with_reducible refine InB.miss (by decide) ?_
      | ((with_reducible refine AL.on ?_); first
        | ((first | ((with_reducible refine AL.k_move ?_); first | (refine AL.q rfl (OQ.move wl) ?_)) | ((with_reducible refine AL.k_assign ?_); first | (refine AL.q rfl (OQ.assign wl) ?_)) | ((with_reducible refine AL.k_extract ?_); first | refine AL.q rfl (OQ.extract rfl rfl) ?_) | ((with_reducible refine AL.k_fieldAddr ?_); first | refine AL.q rfl (OQ.fieldA (ty := 74) (i := 2) (n := 1) (off := 3) (g := false) rfl kr (by decide)) ?_) | ((with_reducible refine AL.k_load ?_); first | (refine AL.q rfl (OQ.load1 (ty := 72) rfl kr wl) ?_)) | refine AL.q rfl (OQ.nilCheck rfl) ?_ | (refine AL.q rfl (OQ.mlookS (k := (a, b)) KE hab hL2 rfl rfl Try.underlying72 rfl (by rw [hk2]; exact hn) hm rfl).1 ?_)); (conv => (arg 5; try tactic => exact nrm)))
        | ((first | first | refine AL.q rfl (OQ.buildA (ty := 45) (zs := [.int .i64 0, .int .i64 0]) (n := 1) (k := 2) (g := false) kr rfl kr rfl rfl rfl) ?_); (conv => (arg 5; try tactic => exact nrm)))
        | refine AL.nil ?_)
      | ((with_reducible refine AW.on ?_); first
        | refine AW.seq ?_
        | refine AW.skip ?_
        | refine AW.exit ?_
        | refine AW.ret ?_
        | refine AW.block ?_
        | refine AW.region ?_
        | (refine AW.conds rfl (fun hc => ?_) (fun hc => ?_) <;> (try replace hc := nc hc) <;> first | (exfalso; first | contradiction | (first | omega | (simp at hc; done)); done) | skip))
      | ((with_reducible refine FinP.on ?_); (first | refine FinP.ret (.tmp wl .nil) ?_ rfl | refine FinP.end (.tmp wl .nil) ?_ rfl); (try simp only [pack, List.drop, List.take]); all_goals (rfl)))
  · have hl := lk_not he
    rw [hl]
    refine PCalls.enter (t := [.pointer (some ⟨2, 0, none⟩), .int .i64 a, .int .i64 b, undef, undef, undef, undef, undef, undef, undef, undef, undef, undef, undef, undef, undef, undef, undef, undef, undef, undef, undef]) Try.func59 rfl (ro4p _ _ _ _ hA hB rfl rfl) rfl fun E => ?_
    repeat' (first
      | with_reducible refine Then.n ?_
      | with_reducible refine Then.r ?_
      | with_reducible refine Then.x ?_
      | with_reducible refine InB.n ?_
      | with_reducible refine InB.r ?_
      | with_reducible refine InB.hit ?_
      | with_reducible refine InB.miss (by decide) ?_
      | ((with_reducible refine AL.on ?_); first
        | ((first | ((with_reducible refine AL.k_move ?_); first | (refine AL.q rfl (OQ.move wl) ?_)) | ((with_reducible refine AL.k_assign ?_); first | (refine AL.q rfl (OQ.assign wl) ?_)) | ((with_reducible refine AL.k_extract ?_); first | refine AL.q rfl (OQ.extract rfl rfl) ?_) | ((with_reducible refine AL.k_fieldAddr ?_); first | refine AL.q rfl (OQ.fieldA (ty := 74) (i := 2) (n := 1) (off := 3) (g := false) rfl kr (by decide)) ?_) | ((with_reducible refine AL.k_load ?_); first | (refine AL.q rfl (OQ.load1 (ty := 72) rfl kr wl) ?_)) | refine AL.q rfl (OQ.nilCheck rfl) ?_ | (refine AL.q rfl (OQ.mlookN (k := (a, b)) (v := .int .i64 0) KE hab hL2 rfl rfl Try.underlying72 rfl (by rw [hk2]; exact he) (fun w => by kernel_rfl) rfl).1 ?_)); (conv => (arg 5; try tactic => exact nrm)))
        | ((first | first | refine AL.q rfl (OQ.buildA (ty := 45) (zs := [.int .i64 0, .int .i64 0]) (n := 1) (k := 2) (g := false) kr rfl kr rfl rfl rfl) ?_); (conv => (arg 5; try tactic => exact nrm)))
        | refine AL.nil ?_)
      | ((with_reducible refine AW.on ?_); first
        | refine AW.seq ?_
        | refine AW.skip ?_
        | refine AW.exit ?_
        | refine AW.ret ?_
        | refine AW.block ?_
        | refine AW.region ?_
        | (refine AW.conds rfl (fun hc => ?_) (fun hc => ?_) <;> (try replace hc := nc hc) <;> first | (exfalso; first | contradiction | (first | omega | (simp at hc; done)); done) | skip))
      | ((with_reducible refine FinP.on ?_); (first | refine FinP.ret (.tmp wl .nil) ?_ rfl | refine FinP.end (.tmp wl .nil) ?_ rfl); (try simp only [pack, List.drop, List.take]); all_goals (rfl)))
end Go.Proofs.Ytmohcmghbfhdlaa
end
end
/- Chapter 6: triangles held against each other; the points beyond an edge. -/
section
set_option linter.unusedSimpArgs false
set_option linter.unusedVariables false
section
namespace Go.Me
open Go.Ab
def cmp3 (a b : T3) : Int := if Go.Proofs.Ytmohcmghbfhdlaa.cmpI a.1 b.1 ≠ 0 then Go.Proofs.Ytmohcmghbfhdlaa.cmpI a.1 b.1 else if Go.Proofs.Ytmohcmghbfhdlaa.cmpI a.2.1 b.2.1 ≠ 0 then Go.Proofs.Ytmohcmghbfhdlaa.cmpI a.2.1 b.2.1 else Go.Proofs.Ytmohcmghbfhdlaa.cmpI a.2.2 b.2.2
def rtI (l : List Pn) (a b : Nat) : Nat → Int
  | 0 => -1
  | k + 1 => if rtI l a b k ≠ -1 then rtI l a b k else if sgn (cr (pt l a) (pt l b) (pt l k)) < 0 then k else -1
theorem rtI_no {l : List Pn} {a b : Nat} : ∀ n : Nat, (∀ j, j < n → ¬ sgn (cr (pt l a) (pt l b) (pt l j)) < 0) → rtI l a b n = -1 := by
  intro n
  induction n with
  | zero => intro _; rfl
  | succ n ih =>
    intro h
    unfold rtI
    rw [if_neg (fun h2 => h2 (ih fun j hj => h j (by omega))), if_neg (h n (by omega))]
theorem rtI_yes {l : List Pn} {a b k : Nat} (hk : ∀ j, j < k → ¬ sgn (cr (pt l a) (pt l b) (pt l j)) < 0) (he : sgn (cr (pt l a) (pt l b) (pt l k)) < 0) : ∀ n : Nat, k < n → rtI l a b n = k := by
  intro n
  induction n with
  | zero => intro h; omega
  | succ n ih =>
    intro h
    rcases Nat.lt_or_eq_of_le (Nat.le_of_lt_succ h) with h | rfl
    · have := ih h
      unfold rtI
      rw [this, if_pos (by omega)]
    · unfold rtI
      rw [if_neg (fun h2 => h2 (rtI_no k hk)), if_pos he]
theorem rtI_bd {l : List Pn} {a b : Nat} : 0 ≤ rtI l a b l.length ↔ bdB l a b = false := by
  constructor
  · intro h
    apply Classical.byContradiction
    intro h2
    have h3 : bdB l a b = true := by simpa using h2
    unfold bdB at h3
    rw [decide_eq_true_iff] at h3
    rw [rtI_no l.length (fun j hj => by have := h3 j hj; omega)] at h
    omega
  · intro h
    unfold bdB at h
    rw [decide_eq_false_iff_not] at h
    apply Classical.byContradiction
    intro h2
    apply h
    intro n hn
    apply Classical.byContradiction
    intro h3
    have h4 : ∀ k, k < l.length → (∀ j, j < k → ¬ sgn (cr (pt l a) (pt l b) (pt l j)) < 0) := by
      intro k hk j hj hlt
      have : ∃ i, i < l.length ∧ sgn (cr (pt l a) (pt l b) (pt l i)) < 0 ∧ ∀ j, j < i → ¬ sgn (cr (pt l a) (pt l b) (pt l j)) < 0 := by
        induction j using Nat.strongRecOn with
        | ind j ih =>
          by_cases hex : ∃ i, i < j ∧ sgn (cr (pt l a) (pt l b) (pt l i)) < 0
          · obtain ⟨i, h5, h6⟩ := hex
            exact ih i h5 (by omega) h6
          · exact ⟨j, by omega, hlt, fun i hi h6 => hex ⟨i, hi, h6⟩⟩
      obtain ⟨i, h5, h6, h7⟩ := this
      rw [rtI_yes h7 h6 l.length h5] at h2
      omega
    have := rtI_yes (h4 n hn) (by omega) l.length hn
    omega
end Go.Me
namespace Go.Proofs.Ytmohcmghbfhdlaa
open Go Go.RowKit Go.Ab Go.Me
set_option maxRecDepth 100000
set_option maxHeartbeats 4000000
attribute [local irreducible] OQ OW AL AW AD AF SW
theorem Cmp3_0 (t : T3) (ts : List T3) (k c c2 z z2 : Nat) (hk : k < ts.length) (hl : ts.length ≤ 1000000) : PCalls Try.prog 78 [.slice (some ⟨0, 0, none⟩) 3 c, .slice (some ⟨1, k * 3, none⟩) 3 c2] [some ⟨[.int .i64 t.1, .int .i64 t.2.1, .int .i64 t.2.2], false, z⟩, some ⟨flatT ts, false, z2⟩] (.int .i64 (cmp3 t (tr ts k))) := by
  obtain ⟨g0, g1, g2⟩ := flatT_get ts k hk
  have hc2 := fun (a b : Int) (m : Mem) => Compare_q a b m
  generalize tr ts k = u at *
  have e1 : cmpI t.1 u.1 ≠ 0 → cmp3 t u = cmpI t.1 u.1 := fun h => if_pos h
  have e2 : cmpI t.1 u.1 = 0 → cmpI t.2.1 u.2.1 ≠ 0 → cmp3 t u = cmpI t.2.1 u.2.1 := fun h h2 => by unfold cmp3; rw [if_neg (fun h3 => h3 h), if_pos h2]
  have e3 : cmpI t.1 u.1 = 0 → cmpI t.2.1 u.2.1 = 0 → cmp3 t u = cmpI t.2.2 u.2.2 := fun h h2 => by unfold cmp3; rw [if_neg (fun h3 => h3 h), if_neg (fun h3 => h3 h2)]
  generalize cmp3 t u = C at *
  refine PCalls.enter (t := [.slice (some ⟨0, 0, none⟩) 3 c, .slice (some ⟨1, k * 3, none⟩) 3 c2, undef, undef, undef, undef, undef, undef, undef, undef, undef, undef, undef, undef, undef, undef, undef, undef, undef, undef, undef, undef, undef, undef, undef, undef, undef, undef, undef, undef, undef, undef, undef, undef, undef, undef]) Try.func78 rfl (ro2p _ _ rfl rfl) rfl fun E => ?_
  repeat' (first
    | with_reducible refine Then.n ?_
    | with_reducible refine Then.r ?_
    | with_reducible refine Then.x ?_
    | with_reducible refine InB.n ?_
    | with_reducible refine InB.r ?_
    | with_reducible refine InB.hit ?_
    | with_reducible refine InB.miss (by decide) ?_
    | ((with_reducible refine AL.on ?_); first
      | ((first | ((with_reducible refine AL.k_move ?_); first | (refine AL.q rfl (OQ.move wl) ?_)) | ((with_reducible refine AL.k_assign ?_); first | (refine AL.q rfl (OQ.assign wl) ?_)) | ((with_reducible refine AL.k_call ?_); first | refine AL.q rfl (OQ.lenS (xt := 29) (r := (none, 1, false)) rfl kr) ?_) | ((with_reducible refine AL.k_binOp ?_); first | refine AL.q rfl (OQ.lss rfl rfl) ?_ | refine AL.q rfl (OQ.geq rfl rfl) ?_ | refine AL.q rfl (OQ.neq rfl rfl) ?_ | refine AL.q rfl (OQ.addi rfl rfl (by omega)) ?_ | refine AL.q rfl (OQ.add rfl rfl) ?_) | ((with_reducible refine AL.k_load ?_); first | (refine AL.q rfl (OQ.load1 (ty := 3) rfl kr (by first | (first | exact g0 | exact g1 | exact g2) | (conv => lhs; whnf))) ?_))); (conv => (arg 5; try tactic => exact nrm)))
      | ((first | ((with_reducible refine AL.k_call ?_); first | refine AL.pcall (g := 77) rfl kr rfl (hc2 _ _ _) ?_) | ((with_reducible refine AL.k_indexAddr ?_); first | refine AL.q rfl (OQ.idxAddr (ty := 29) (z := 1) (g := false) rfl rfl kr (by omega) (by omega)) ?_)); (conv => (arg 5; try tactic => exact nrm)))
      | refine AL.nil ?_)
    | ((with_reducible refine AW.on ?_); first
      | refine AW.seq ?_
      | refine AW.skip ?_
      | refine AW.exit ?_
      | refine AW.ret ?_
      | (refine AW.block (id := 0) ?_; refine AW.unroll 4 ?_)
      | refine AW.block ?_
      | refine AW.region ?_
      | (refine AW.conds rfl (fun hc => ?_) (fun hc => ?_) <;> (try replace hc := nc hc) <;> first | (exfalso; first | contradiction | (first | omega | (simp at hc; done)); done) | skip))
    | with_reducible refine AR.s ?_
    | ((with_reducible refine AR.out ?_); first | omega | (simp at hc; done); done)
    | ((with_reducible refine FinP.on ?_); (first | refine FinP.ret (.tmp wl .nil) ?_ rfl | refine FinP.end (.tmp wl .nil) ?_ rfl); (try simp only [pack, List.drop, List.take]); all_goals (congr 1; first | exact (e1 ‹_›).symm | exact (e2 ‹_› ‹_›).symm | exact (e3 ‹_› ‹_›).symm | (rw [e3 ‹_› ‹_›]; omega))))
theorem beyond_0 (l : List Pn) (ts : List T3) (hok : ∀ k, k < l.length → (pt l k).Ok) (a b : Nat) (ha : a < l.length) (hb : b < l.length) (p : Pn) (hp : p.Ok) (c c2 z z1 z2 z3 : Nat) (hl : l.length ≤ 1000000) :
    PCalls Try.prog 61 [ptV p, .pointer (some ⟨2, 0, none⟩), .pointer (some ⟨3, 0, none⟩)] [some ⟨flatP l, false, z⟩, some ⟨flatT ts, false, z1⟩, some ⟨[.slice (some ⟨0, 0, none⟩) l.length c, .slice (some ⟨1, 0, none⟩) ts.length c2], false, z2⟩, some ⟨[.int .i64 a, .int .i64 b], false, z3⟩] (.bool (decide (sgn (cr (pt l a) (pt l b) p) < 0))) := by
  have hld := fun (k : Nat) (hk : k < l.length) (r : Mem) => flatP_ld (m := some ⟨flatP l, false, z⟩ :: r) (b := 0) (l := l) rfl rfl k hk
  have ht := fun (m : Mem) => turn_q (hok a ha) (hok b hb) hp m
  refine PCalls.enter (t := [ptV p, .pointer (some ⟨2, 0, none⟩), .pointer (some ⟨3, 0, none⟩), undef, undef, undef, undef, undef, undef, undef, undef, undef, undef, undef, undef, undef, undef, undef, undef, undef]) Try.func61 rfl (ro4p _ _ _ _ rfl rfl rfl rfl) rfl fun E => ?_
  repeat' (first
    | with_reducible refine Then.n ?_
    | with_reducible refine Then.r ?_
    | with_reducible refine Then.x ?_
    | with_reducible refine InB.n ?_
    | with_reducible refine InB.r ?_
    | with_reducible refine InB.hit ?_
    | with_reducible refine InB.miss (by decide) ?_
    | ((with_reducible refine AL.on ?_); first
      | ((first | ((with_reducible refine AL.k_assign ?_); first | (refine AL.q rfl (OQ.assign wl) ?_)) | ((with_reducible refine AL.k_binOp ?_); first | refine AL.q rfl (OQ.lss rfl rfl) ?_)); (conv => (arg 5; try tactic => exact nrm)))
      | ((first | first | refine AL.pcall (g := 37) rfl kr rfl (ht _) ?_); (conv => (arg 5; try tactic => exact nrm)))
      | ((first | first | (refine AL.w rfl (OW.box wl (by intro r h; cases h)) ?_)); (conv => (arg 5; try tactic => exact nrm)); (conv => (arg 6; try tactic => exact nrm)))
      | refine AL.nil ?_)
    | ((with_reducible refine AW.on ?_); first
      | refine AW.seq ?_
      | refine AW.skip ?_
      | refine AW.exit ?_
      | refine AW.ret ?_
      | refine AW.block ?_
      | (refine AW.drawF (id := 1) 13 #[0, 1, 0, 4, 15, 31, 0, 64, 0, 256, 960, 1984, 0, 8191, 16383, 32767] kr kr ?_; (conv => (arg 8; simp only [List.take_succ_cons, List.take_zero])))
      | refine AW.region ?_
      | (refine AW.conds rfl (fun hc => ?_) (fun hc => ?_) <;> (try replace hc := nc hc) <;> first | (exfalso; first | contradiction | (first | omega | (simp at hc; done)); done) | skip))
    | ((with_reducible refine AF.on ?_); first
      | ((first | ((with_reducible refine AF.k_load ?_); first | (refine AF.ql rfl (SW.q (OQ.load1 (ty := 22) rfl kr (by first | (exact hld _ (by omega) _) | (conv => lhs; whnf))) rfl) ?_) | (refine AF.ql rfl (SW.q (OQ.load1 (ty := 3) rfl kr (by first | (exact hld _ (by omega) _) | (conv => lhs; whnf))) rfl) ?_) | refine AF.ql rfl (SW.q (OQ.loadN (ty := 47) (n := 2) rfl kr kr (by first | (exact hld _ (by omega) _) | rfl)) rfl) ?_) | ((with_reducible refine AF.k_indexAddr ?_); first | refine AF.q 0 (SW.q (OQ.idxPtr (ty := 45) (n := 1) (l := 2) (g := false) rfl rfl kr (by omega) (by omega)) rfl) ?_ | refine AF.q 0 (SW.q (OQ.idxAddr (ty := 22) (z := 2) (g := true) rfl rfl kr (by omega) (by omega)) rfl) ?_) | ((with_reducible refine AF.k_fieldAddr ?_); first | refine AF.q 0 (SW.q (OQ.fieldA (ty := 38) (i := 0) (n := 1) (off := 0) (g := false) rfl kr (by decide)) rfl) ?_)); (conv => (arg 9; try tactic => exact nrmF)); (conv => (arg 11; try simp only [List.nil_append, List.cons_append])))
      | (refine AF.nil ?_ kr; (conv => (arg 4; simp only [List.drop_succ_cons, List.drop_zero, List.drop_nil]))))
    | ((with_reducible refine FinP.on ?_); (first | refine FinP.ret (.tmp wl .nil) ?_ rfl | refine FinP.end (.tmp wl .nil) ?_ rfl); (try simp only [pack, List.drop, List.take]); all_goals (rfl)))
theorem IndexF_0 (l : List Pn) (ts : List T3) (hok : ∀ k, k < l.length → (pt l k).Ok) (a b : Nat) (ha : a < l.length) (hb : b < l.length) (c c2 c3 z z1 z2 z3 : Nat) (hl : l.length ≤ 1000000) :
    PCalls Try.prog 79 [.slice (some ⟨0, 0, none⟩) l.length c3, .func (.func 61) #[] #[.pointer (some ⟨2, 0, none⟩), .pointer (some ⟨3, 0, none⟩)]] [some ⟨flatP l, false, z⟩, some ⟨flatT ts, false, z1⟩, some ⟨[.slice (some ⟨0, 0, none⟩) l.length c, .slice (some ⟨1, 0, none⟩) ts.length c2], false, z2⟩, some ⟨[.int .i64 a, .int .i64 b], false, z3⟩] (.int .i64 (rtI l a b l.length)) := by
  have hld := fun (k : Nat) (hk : k < l.length) (r : Mem) => flatP_ld (m := some ⟨flatP l, false, z⟩ :: r) (b := 0) (l := l) rfl rfl k hk
  have hcl := fun (k : Nat) (hk : k < l.length) => beyond_0 l ts hok a b ha hb (pt l k) (hok k hk) c c2 z z1 z2 z3 hl
  have hno := rtI_no (l := l) (a := a) (b := b) l.length
  have hyes := fun (k : Nat) (h1 : k < l.length) (hj : ∀ j, j < k → ¬ sgn (cr (pt l a) (pt l b) (pt l j)) < 0) (he : sgn (cr (pt l a) (pt l b) (pt l k)) < 0) => rtI_yes hj he l.length h1
  generalize rtI l a b l.length = E0 at *
  refine PCalls.enter (t := [.slice (some ⟨0, 0, none⟩) l.length c3, .func (.func 61) #[] #[.pointer (some ⟨2, 0, none⟩), .pointer (some ⟨3, 0, none⟩)], undef, undef, undef, undef, undef, undef, undef, undef, undef, undef, undef, undef, undef, undef, undef, undef, undef]) Try.func79 rfl (ro4p _ _ _ _ rfl rfl rfl rfl) rfl fun E => ?_
  repeat' (first
    | with_reducible refine Then.n ?_
    | with_reducible refine Then.r ?_
    | with_reducible refine Then.x ?_
    | with_reducible refine InB.n ?_
    | with_reducible refine InB.r ?_
    | with_reducible refine InB.hit ?_
    | with_reducible refine InB.miss (by decide) ?_
    | ((with_reducible refine AL.on ?_); first
      | ((first | ((with_reducible refine AL.k_move ?_); first | (refine AL.q rfl (OQ.move wl) ?_)) | ((with_reducible refine AL.k_assign ?_); first | (refine AL.q rfl (OQ.assign wl) ?_)) | ((with_reducible refine AL.k_call ?_); first | refine AL.q rfl (OQ.lenS (xt := 22) (r := (none, 2, true)) rfl kr) ?_) | ((with_reducible refine AL.k_binOp ?_); first | refine AL.q rfl (OQ.lss rfl rfl) ?_ | refine AL.q rfl (OQ.addi rfl rfl (by omega)) ?_ | refine AL.q rfl (OQ.add rfl rfl) ?_) | ((with_reducible refine AL.k_load ?_); first | refine AL.q rfl (OQ.loadN (ty := 47) (n := 2) rfl kr kr (by first | (exact hld _ (by omega) _) | rfl)) ?_)); (conv => (arg 5; try tactic => exact nrm)))
      | ((first | ((with_reducible refine AL.k_call ?_); first | refine AL.pcall rfl (by first | assumption | kernel_rfl) rfl ((by exact hcl k (by omega))) ?_) | ((with_reducible refine AL.k_indexAddr ?_); first | refine AL.q rfl (OQ.idxAddr (ty := 22) (z := 2) (g := true) rfl rfl kr (by omega) (by omega)) ?_)); (conv => (arg 5; try tactic => exact nrm)))
      | refine AL.nil ?_)
    | ((with_reducible refine AW.on ?_); first
      | refine AW.seq ?_
      | refine AW.skip ?_
      | refine AW.exit ?_
      | refine AW.ret ?_
      | ((refine AW.block (id := 0) ?_); (refine AW.wk (Wk.forget [true, true, false, false, false, false, false, true, true, false, false, false, false, false, false, false, false, false, false] rfl) ?_); (conv => (arg 4; simp only [fgt, if_true, if_false, Bool.false_eq_true])); (refine AW.loop (fun n' t' m => ∃ k : Nat, n' = l.length - k ∧ k ≤ l.length ∧ (∀ j, j < k → ¬ sgn (cr (pt l a) (pt l b) (pt l j)) < 0) ∧ t' = [.slice (some ⟨0, 0, none⟩) l.length c3, .func (.func 61) #[] #[.pointer (some ⟨2, 0, none⟩), .pointer (some ⟨3, 0, none⟩)], junk, junk, junk, junk, junk, .int .i64 (l.length), .int .i64 (k), junk, junk, junk, junk, junk, junk, junk, junk, junk, junk] ∧ m = [some ⟨flatP l, false, z⟩, some ⟨flatT ts, false, z1⟩, some ⟨[.slice (some ⟨0, 0, none⟩) l.length c, .slice (some ⟨1, 0, none⟩) ts.length c2], false, z2⟩, some ⟨[.int .i64 a, .int .i64 b], false, z3⟩]) (l.length) (by exact ⟨0, rfl, Nat.zero_le _, fun j h => absurd h (by omega), rfl, rfl⟩) ?_); (rintro n' t' m ⟨k, rfl, hk, hj, rfl, rfl⟩))
      | refine AW.block ?_
      | refine AW.region ?_
      | (refine AW.conds rfl (fun hc => ?_) (fun hc => ?_) <;> (try replace hc := nc hc) <;> first | (exfalso; first | contradiction | (first | omega | (simp at hc; done)); done) | skip))
    | ((with_reducible refine ex_on ?_); (refine ⟨l.length - (k + 1), _, _, by omega, ?_, k + 1, rfl, by omega, fun j h => (by rcases Nat.lt_or_eq_of_le (Nat.le_of_lt_succ h) with h | rfl; (exact hj j h); (first | assumption | omega)), rfl, rfl⟩; exact Wk.forget [true, true, false, false, false, false, false, true, true, false, false, false, false, false, false, false, false, false, false] rfl))
    | ((with_reducible refine FinP.on ?_); (first | refine FinP.ret (.tmp wl .nil) ?_ rfl | refine FinP.end (.tmp wl .nil) ?_ rfl); (try simp only [pack, List.drop, List.take]); all_goals (symm; first | (rw [hyes k (by omega) hj (by first | assumption | omega)]; done) | (obtain rfl : k = l.length := (by omega); rw [hno hj]))))
theorem ContainsF_0 (l : List Pn) (ts : List T3) (hok : ∀ k, k < l.length → (pt l k).Ok) (a b : Nat) (ha : a < l.length) (hb : b < l.length) (c c2 c3 z z1 z2 z3 : Nat) (hl : l.length ≤ 1000000) :
    PCalls Try.prog 60 [.slice (some ⟨0, 0, none⟩) l.length c3, .func (.func 61) #[] #[.pointer (some ⟨2, 0, none⟩), .pointer (some ⟨3, 0, none⟩)]] [some ⟨flatP l, false, z⟩, some ⟨flatT ts, false, z1⟩, some ⟨[.slice (some ⟨0, 0, none⟩) l.length c, .slice (some ⟨1, 0, none⟩) ts.length c2], false, z2⟩, some ⟨[.int .i64 a, .int .i64 b], false, z3⟩] (.bool (!bdB l a b)) := by
  have hi := IndexF_0 l ts hok a b ha hb c c2 c3 z z1 z2 z3 hl
  have hb2 := rtI_bd (l := l) (a := a) (b := b)
  have e : (!bdB l a b) = decide (0 ≤ rtI l a b l.length) := by
    cases h : bdB l a b with
    | true => rw [h] at hb2; symm; exact decide_eq_false (fun h2 => by have := hb2.1 h2; cases this)
    | false => symm; exact decide_eq_true (hb2.2 h)
  rw [e]
  generalize rtI l a b l.length = E0 at *
  refine PCalls.enter (t := [.slice (some ⟨0, 0, none⟩) l.length c3, .func (.func 61) #[] #[.pointer (some ⟨2, 0, none⟩), .pointer (some ⟨3, 0, none⟩)], undef, undef, undef, undef, undef, undef, undef]) Try.func60 rfl (ro4p _ _ _ _ rfl rfl rfl rfl) rfl fun E => ?_
  repeat' (first
    | with_reducible refine Then.n ?_
    | with_reducible refine Then.r ?_
    | with_reducible refine Then.x ?_
    | with_reducible refine InB.n ?_
    | with_reducible refine InB.r ?_
    | with_reducible refine InB.hit ?_
    | with_reducible refine InB.miss (by decide) ?_
    | ((with_reducible refine AL.on ?_); first
      | ((first | ((with_reducible refine AL.k_assign ?_); first | (refine AL.q rfl (OQ.assign wl) ?_)) | ((with_reducible refine AL.k_move ?_); first | (refine AL.q rfl (OQ.move wl) ?_)) | ((with_reducible refine AL.k_binOp ?_); first | refine AL.q rfl (OQ.geq rfl rfl) ?_)); (conv => (arg 5; try tactic => exact nrm)))
      | ((first | first | refine AL.pcall (g := 79) rfl kr rfl ((by exact hi)) ?_); (conv => (arg 5; try tactic => exact nrm)))
      | refine AL.nil ?_)
    | ((with_reducible refine AW.on ?_); first
      | refine AW.seq ?_
      | refine AW.skip ?_
      | refine AW.exit ?_
      | refine AW.ret ?_
      | refine AW.block ?_
      | refine AW.region ?_
      | (refine AW.conds rfl (fun hc => ?_) (fun hc => ?_) <;> (try replace hc := nc hc) <;> first | (exfalso; first | contradiction | (first | omega | (simp at hc; done)); done) | skip))
    | ((with_reducible refine FinP.on ?_); (first | refine FinP.ret (.tmp wl .nil) ?_ rfl | refine FinP.end (.tmp wl .nil) ?_ rfl); (try simp only [pack, List.drop, List.take]); all_goals (rfl)))
end Go.Proofs.Ytmohcmghbfhdlaa
end
end
/- Chapter 6: a triangle's error. -/
section
set_option linter.unusedSimpArgs false
set_option linter.unusedVariables false
section
namespace Go.Me
open Go.Ab
def inR (n : Nat) (t : T3) : Prop := (0 ≤ t.1 ∧ t.1 ≤ (n : Int) - 1) ∧ (0 ≤ t.2.1 ∧ t.2.1 ≤ (n : Int) - 1) ∧ (0 ≤ t.2.2 ∧ t.2.2 ≤ (n : Int) - 1)
instance (n : Nat) (t : T3) : Decidable (inR n t) := by unfold inR; infer_instance
def ordB (ts : List T3) (i : Nat) : Prop := (tr ts i).2.1 ≤ (tr ts i).1 ∨ (tr ts i).2.2 ≤ (tr ts i).1 ∨ (0 < i ∧ cmp3 (tr ts i) (tr ts (i - 1)) ≤ 0)
instance (ts : List T3) (i : Nat) : Decidable (ordB ts i) := by unfold ordB; infer_instance
def trS (l : List Pn) (t : T3) : Int := sgn (cr (pt l t.1.toNat) (pt l t.2.1.toNat) (pt l t.2.2.toNat))
def trE (l : List Pn) (ts : List T3) (L : List (IE × Int)) (i : Nat) : Int :=
  if inR l.length (tr ts i) then (if ordB ts i then 9 else if trS l (tr ts i) ≠ 1 then 13 else if lk L ((tr ts i).1, (tr ts i).2.1) ≠ -1 ∨ lk L ((tr ts i).2.1, (tr ts i).2.2) ≠ -1 ∨ lk L ((tr ts i).2.2, (tr ts i).1) ≠ -1 then 28 else 0) else 6
end Go.Me
namespace Go.Proofs.Ytmohcmghbfhdlaa
open Go Go.RowKit Go.Ab Go.Me
set_option maxRecDepth 100000
set_option maxHeartbeats 4000000
attribute [local irreducible] OQ OW AL AW AD AF SW
theorem Hid_mk {p : Prop} (h : p) : Hid p := h
theorem Cmp3_q {m : Mem} {b d k c c2 : Nat} {blk blk2 : Blk} (t : T3) (ts : List T3) (hk : k < ts.length) (hl : ts.length ≤ 1000000) (hb : m.at b = some blk) (hc : blk.cells = [.int .i64 t.1, .int .i64 t.2.1, .int .i64 t.2.2]) (hd : m.at d = some blk2) (hc2 : blk2.cells = flatT ts) (ho : blk.obj = Ob.plain := by rfl) (ho2 : blk2.obj = Ob.plain := by rfl) :
    PCalls Try.prog 78 [.slice (some ⟨b, 0, none⟩) 3 c, .slice (some ⟨d, k * 3, none⟩) 3 c2] m (.int .i64 (cmp3 t (tr ts k))) :=
  PCalls.viaS [b, d] (Cmp3_0 t ts k c c2 blk.esz blk2.esz hk hl) (ro2p _ _ rfl rfl) ⟨⟨_, hb, by unfold Blk.shp Blk.shpR; rw [ho]; rfl, (fun h => nomatch h), .inl ⟨hc, rfl⟩⟩, ⟨_, hd, by unfold Blk.shp Blk.shpR; rw [ho2]; rfl, (fun h => nomatch h), .inl ⟨hc2, flatT_scal _⟩⟩, trivial⟩ rfl rfl rfl rfl
abbrev mpX (L : List (IE × Int)) (own : Bool) (z : Nat) : Blk := @Blk.mk [] own z ⟨some (.map (mpE encE (lfV L)) (lfV L).length)⟩
theorem at_q {m : Mem} {bP bT bN bL n c k c2 : Nat} {A B N : Blk} {own : Bool} {z : Nat} (l : List Pn) (ts : List T3) (L : List (IE × Int)) (hn : (L.map (·.1)).Nodup) (hL : ∀ p ∈ L, okE p.1) (a b : Int) (hab : okE (a, b))
    (hP : m.at bP = some A) (hPc : A.cells = flatP l) (hT : m.at bT = some B) (hTc : B.cells = flatT ts) (hN : m.at bN = some N) (hNc : N.cells = [.slice (some ⟨bP, 0, none⟩) n c, .slice (some ⟨bT, 0, none⟩) k c2, .slice none 0 0, .map (some bL)])
    (hM : m.at bL = some (mpX L own z)) (hz : z = 0) (hPo : A.obj = Ob.plain := by rfl) (hTo : B.obj = Ob.plain := by rfl) (hNo : N.obj = Ob.plain := by rfl) :
    PCalls Try.prog 59 [.pointer (some ⟨bN, 0, none⟩), .int .i64 a, .int .i64 b] m (.int .i64 (lk L (a, b))) := by
  subst hz
  exact PCalls.viaS [bP, bT, bN, bL] (at_0 ⟨flatP l, false, A.esz⟩ ⟨flatT ts, false, B.esz⟩ rfl rfl n c k c2 N.esz (.slice none 0 0) L hn hL a b hab) (ro4p _ _ _ _ rfl rfl rfl rfl)
    ⟨⟨_, hP, by unfold Blk.shp Blk.shpR; rw [hPo]; rfl, (fun h => nomatch h), .inl ⟨hPc, flatP_scal _⟩⟩, ⟨_, hT, by unfold Blk.shp Blk.shpR; rw [hTo]; rfl, (fun h => nomatch h), .inl ⟨hTc, flatT_scal _⟩⟩, ⟨_, hN, by unfold Blk.shp Blk.shpR; rw [hNo]; rfl, (fun h => nomatch h), .inr ⟨hNc, rfl⟩⟩, ⟨_, hM, rfl, (fun h => nomatch h), .inl ⟨rfl, rfl⟩⟩, trivial⟩ rfl rfl rfl rfl
theorem triangleErr_0 (l : List Pn) (ts : List T3) (L : List (IE × Int)) (hok : ∀ k, k < l.length → (pt l k).Ok) (hl : l.length ≤ 1000) (hts : ts.length ≤ 1000) (hn : (L.map (·.1)).Nodup) (hL : ∀ p ∈ L, okE p.1) (i c c2 z z1 z2 : Nat) (hi : i < ts.length) :
    PCalls Try.prog 56 [.pointer (some ⟨2, 0, none⟩), .int .i64 i] [some ⟨flatP l, false, z⟩, some ⟨flatT ts, false, z1⟩, some ⟨[.slice (some ⟨0, 0, none⟩) l.length c, .slice (some ⟨1, 0, none⟩) ts.length c2, .slice none 0 0, .map (some 3)], false, z2⟩, some (mpX L false 0)] (.int .i64 (trE l ts L i)) := by
  refine PCalls.strip ?_ rfl
  show PCalls _ _ _ [some ⟨flatP l, false, 0⟩, some ⟨flatT ts, false, 0⟩, some ⟨[.slice (some ⟨0, 0, none⟩) l.length c, .slice (some ⟨1, 0, none⟩) ts.length c2, .slice none 0 0, .map (some 3)], false, 0⟩, some (mpX L false 0)] _
  have hld := fun (k : Nat) (hk : k < l.length) (r : Mem) => flatP_ld (m := some ⟨flatP l, false, 0⟩ :: r) (b := 0) (l := l) rfl rfl k hk
  have hldT := fun (k : Nat) (hk : k < ts.length) (a : Option Blk) (r : Mem) => flatT_ld (m := a :: some ⟨flatT ts, false, 0⟩ :: r) (b := 1) (ts := ts) rfl rfl k hk
  have hw := fun (x : Int) (m : Mem) => within_q x 0 ((l.length : Int) - 1) m
  have hrt : ∀ {x : Int}, rgB x 0 ((l.length : Int) - 1) = true → 0 ≤ x ∧ x ≤ (l.length : Int) - 1 := fun h => rgB_true.1 h
  have hrf : ∀ {x : Int}, rgB x 0 ((l.length : Int) - 1) = false → ¬ (0 ≤ x ∧ x ≤ (l.length : Int) - 1) := fun h h2 => by rw [rgB_true.2 h2] at h; cases h
  have hcm := fun (h0 : 0 < i) (m : Mem) (b d c c2 : Nat) (blk blk2 : Blk) (h1 : m.at b = some blk) (h2 : blk.cells = [.int .i64 (tr ts i).1, .int .i64 (tr ts i).2.1, .int .i64 (tr ts i).2.2]) (h3 : m.at d = some blk2) (h4 : blk2.cells = flatT ts) (o1 : blk.obj = Ob.plain) (o2 : blk2.obj = Ob.plain) => Cmp3_q (c := c) (c2 := c2) (k := ((i : Int) - 1).toNat) (tr ts i) ts (by omega) (by omega) h1 h2 h3 h4 o1 o2
  have hat := fun (a b : Int) (hab : okE (a, b)) (m : Mem) (A B N : Blk) (own : Bool) (h1 : m.at 0 = some A) (h2 : A.cells = flatP l) (h3 : m.at 1 = some B) (h4 : B.cells = flatT ts) (h5 : m.at 2 = some N) (h6 : N.cells = [.slice (some ⟨0, 0, none⟩) l.length c, .slice (some ⟨1, 0, none⟩) ts.length c2, .slice none 0 0, .map (some 3)]) (h7 : m.at 3 = some (mpX L own 0)) (o1 : A.obj = Ob.plain) (o2 : B.obj = Ob.plain) (o3 : N.obj = Ob.plain) => at_q l ts L hn hL a b hab h1 h2 h3 h4 h5 h6 h7 rfl o1 o2 o3
  have htn := fun (a b d : Int) (ha : 0 ≤ a ∧ a ≤ (l.length : Int) - 1) (hb : 0 ≤ b ∧ b ≤ (l.length : Int) - 1) (hd : 0 ≤ d ∧ d ≤ (l.length : Int) - 1) (m : Mem) => turn_q (hok a.toNat (by omega)) (hok b.toNat (by omega)) (hok d.toNat (by omega)) m
  have har := fun (a b d : Int) (m : Mem) => around_q a b d m
  have E6 : ¬ inR l.length (tr ts i) → trE l ts L i = 6 := fun h => if_neg h
  have E9 : inR l.length (tr ts i) → ordB ts i → trE l ts L i = 9 := fun h h2 => by unfold trE; rw [if_pos h, if_pos h2]
  have E13 : inR l.length (tr ts i) → ¬ ordB ts i → trS l (tr ts i) ≠ 1 → trE l ts L i = 13 := fun h h2 h3 => by unfold trE; rw [if_pos h, if_neg h2, if_pos h3]
  have E28 : inR l.length (tr ts i) → ¬ ordB ts i → trS l (tr ts i) = 1 → (lk L ((tr ts i).1, (tr ts i).2.1) ≠ -1 ∨ lk L ((tr ts i).2.1, (tr ts i).2.2) ≠ -1 ∨ lk L ((tr ts i).2.2, (tr ts i).1) ≠ -1) → trE l ts L i = 28 := fun h h2 h3 h4 => by unfold trE; rw [if_pos h, if_neg h2, if_neg (fun h5 => h5 h3), if_pos h4]
  have E0 : inR l.length (tr ts i) → ¬ ordB ts i → trS l (tr ts i) = 1 → ¬ (lk L ((tr ts i).1, (tr ts i).2.1) ≠ -1 ∨ lk L ((tr ts i).2.1, (tr ts i).2.2) ≠ -1 ∨ lk L ((tr ts i).2.2, (tr ts i).1) ≠ -1) → trE l ts L i = 0 := fun h h2 h3 h4 => by unfold trE; rw [if_pos h, if_neg h2, if_neg (fun h5 => h5 h3), if_neg h4]
  have ht1 : (((i : Nat) : Int) - 1).toNat = i - 1 := by omega
  simp only [inR, ordB, trS] at E6 E9 E13 E28 E0
  rw [← ht1] at E9 E13 E28 E0
  generalize trE l ts L i = V at *
  have HE := Hid_mk (And.intro E6 (And.intro E9 (And.intro E13 (And.intro E28 E0))))
  clear E6 E9 E13 E28 E0
  refine PCalls.enter (t := [.pointer (some ⟨2, 0, none⟩), .int .i64 i, undef, undef, undef, undef, undef, undef, undef, undef, undef, undef, undef, undef, undef, undef, undef, undef, undef, undef, undef, undef, undef, undef, undef, undef, undef, undef, undef, undef, undef, undef, undef, undef, undef, undef, undef, undef, undef, undef, undef, undef, undef, undef, undef, undef, undef, undef, undef, undef, undef, undef, undef, undef, undef, undef, undef, undef, undef, undef, undef, undef, undef, undef, undef, undef, undef, undef, undef, undef, undef, undef, undef, undef, undef, undef, undef, undef, undef, undef, undef, undef, undef, undef, undef, undef, undef, undef, undef, undef, undef, undef, undef, undef, undef, undef, undef, undef, undef, undef, undef, undef, undef, undef, undef, undef, undef]) Try.func56 rfl (ro4p _ _ _ _ rfl rfl rfl rfl) rfl fun E => ?_
  repeat' (first
    | with_reducible refine Then.n ?_
    | with_reducible refine Then.r ?_
    | with_reducible refine Then.x ?_
    | with_reducible refine InB.n ?_
    | with_reducible refine InB.r ?_
    | with_reducible refine InB.hit ?_
    | with_reducible refine InB.miss (by decide) ?_
    | ((with_reducible refine AL.on ?_); first
      | (refine AL.gd rfl ?_; first | (refine AL.gskip rfl rfl ?_; (conv => (arg 5; try tactic => exact nrm))) | (refine AL.gs1 rfl rfl (fun hc => ?_) (fun hc => ?_) <;> (try replace hc := nc hc) <;> first | (exfalso; first | contradiction | (first | omega | (simp at hc; done)); done) | (conv => (arg 5; try tactic => exact nrm))) | (refine AL.gs0 rfl rfl (fun hc => ?_) (fun hc => ?_) <;> (try replace hc := nc hc) <;> first | (exfalso; first | contradiction | (first | omega | (simp at hc; done)); done) | (conv => (arg 5; try tactic => exact nrm))))
      | ((first | ((with_reducible refine AL.k_load ?_); first | (refine AL.q rfl (OQ.load1 (ty := 36) rfl kr (by first | (first | exact hldT _ (by omega) _ _ | exact hld _ (by omega) _) | (conv => lhs; whnf))) ?_) | refine AL.q rfl (OQ.loadN (ty := 79) (n := 3) rfl kr kr (by first | (first | exact hldT _ (by omega) _ _ | exact hld _ (by omega) _) | rfl)) ?_ | (refine AL.q rfl (OQ.load1 (ty := 22) rfl kr (by first | (first | exact hldT _ (by omega) _ _ | exact hld _ (by omega) _) | (conv => lhs; whnf))) ?_) | (refine AL.q rfl (OQ.load1 (ty := 3) rfl kr (by first | (first | exact hldT _ (by omega) _ _ | exact hld _ (by omega) _) | (conv => lhs; whnf))) ?_)) | ((with_reducible refine AL.k_move ?_); first | (refine AL.q rfl (OQ.move wl) ?_)) | ((with_reducible refine AL.k_binOp ?_); first | refine AL.q rfl (OQ.lss rfl rfl) ?_ | refine AL.q rfl (OQ.subi rfl rfl (by omega)) ?_ | refine AL.q rfl (OQ.sub rfl rfl) ?_ | refine AL.q rfl (OQ.addi rfl rfl (by omega)) ?_ | refine AL.q rfl (OQ.add rfl rfl) ?_ | refine AL.q rfl (OQ.leq rfl rfl) ?_ | refine AL.q rfl (OQ.neq rfl rfl) ?_) | ((with_reducible refine AL.k_assign ?_); first | (refine AL.q rfl (OQ.assign wl) ?_)) | ((with_reducible refine AL.k_call ?_); first | refine AL.q rfl (OQ.lenS (xt := 22) (r := (none, 2, true)) rfl kr) ?_) | ((with_reducible refine AL.k_pick ?_); first | (refine AL.q rfl (OQ.pickT rfl (by with_reducible rfl) wl) ?_) | (refine AL.q rfl (OQ.pickF rfl (by with_reducible rfl) wl) ?_)) | ((with_reducible refine AL.k_index ?_); first | refine AL.q rfl (OQ.idxArr1 (ty := 79) (n := 1) (l := 3) rfl rfl kr (by first | omega | decide) (by first | omega | decide) rfl) ?_ | refine AL.q rfl (OQ.idxArrL (ty := 95) (n := 2) (l := 3) rfl rfl kr (by first | omega | decide) (by first | omega | decide) rfl) ?_) | ((with_reducible refine AL.k_unOp ?_); first | refine AL.q rfl (OQ.not rfl) ?_) | refine AL.q rfl (OQ.nilCheck rfl) ?_); (conv => (arg 5; try tactic => exact nrm)))
      | ((first | ((with_reducible refine AL.k_indexAddr ?_); first | refine AL.q rfl (OQ.idxAddr (ty := 36) (z := 3) (g := true) rfl rfl kr (by first | omega | decide) (by first | omega | decide)) ?_ | refine AL.q rfl (OQ.idxPtr (ty := 45) (n := 1) (l := 2) (g := false) rfl rfl kr (by first | omega | decide) (by first | omega | decide)) ?_) | ((with_reducible refine AL.k_fieldAddr ?_); first | refine AL.q rfl (OQ.fieldA (ty := 74) (i := 0) (n := 2) (off := 0) (g := true) rfl kr (by decide)) ?_ | refine AL.q rfl (OQ.fieldA (ty := 38) (i := 1) (n := 1) (off := 1) (g := false) rfl kr (by decide)) ?_ | refine AL.q rfl (OQ.fieldA (ty := 38) (i := 0) (n := 1) (off := 0) (g := false) rfl kr (by decide)) ?_) | ((with_reducible refine AL.k_call ?_); first | refine AL.pcall (g := 46) rfl kr rfl (hw _ _) ?_ | refine AL.pcall (g := 78) rfl kr rfl ((by exact hcm (by omega) _ _ _ _ _ _ _ rfl rfl rfl rfl rfl rfl)) ?_ | refine AL.pcall (g := 37) rfl kr rfl ((by exact htn _ _ _ (by omega) (by omega) (by omega) _)) ?_ | refine AL.pcall (g := 57) rfl kr rfl (har _ _ _ _) ?_ | refine AL.pcall (g := 59) rfl kr rfl ((by exact hat _ _ ⟨⟨by omega, by omega⟩, by omega, by omega⟩ _ _ _ _ _ rfl rfl rfl rfl rfl rfl rfl rfl rfl rfl)) ?_)); (conv => (arg 5; try tactic => exact nrm)))
      | ((first | ((with_reducible refine AL.k_alloc ?_); first | refine AL.w rfl (OW.alloc (ty := 79) (z := [.int .i64 0, .int .i64 0, .int .i64 0]) kr rfl) ?_ | refine AL.w rfl (OW.alloc (ty := 45) (z := [.int .i64 0, .int .i64 0]) kr rfl) ?_) | ((with_reducible refine AL.k_store ?_); first | (refine AL.w rfl (OW.store (ty := 79) (n := 3) rfl wl rfl rfl kr rfl rfl (by decide) rfl (Nat.le_of_ble_eq_true rfl) (by intro r h; cases h)) ?_) | (refine AL.w rfl (OW.store (ty := 45) (n := 2) rfl wl rfl rfl kr rfl rfl (by decide) rfl (Nat.le_of_ble_eq_true rfl) (by intro r h; cases h)) ?_))); (conv => (arg 5; try tactic => exact nrm)); (conv => (arg 6; try tactic => exact nrm)))
      | (refine AL.bs rfl (fun hc => ?_) (fun hc => ?_) <;> (fail_if_success (with_reducible exact lit_no hc)) <;> (try replace hc := nc hc) <;> first | (exfalso; first | contradiction | (first | omega | (simp at hc; done)); done) | (conv => (arg 5; try tactic => exact nrm)))
      | refine AL.nil ?_)
    | ((with_reducible refine AW.on ?_); first
      | refine AW.seq ?_
      | refine AW.skip ?_
      | refine AW.exit ?_
      | refine AW.ret ?_
      | (refine AW.block (id := 0) ?_; refine AW.unroll 4 ?_)
      | (refine AW.block (id := 3) ?_; refine AW.unroll 4 ?_)
      | refine AW.block ?_
      | (refine AW.drawF (id := 8) 26 #[0, 1, 0, 4, 15, 31, 63, 127, 63, 319, 1023, 2047, 4095, 8191, 16383, 32767, 65535, 65535, 196607, 458751, 983039, 2031615, 65535, 4259839, 16711679, 33488895, 67108863, 134217727, 268435455, 536870911, 1073741823] kr kr ?_; (conv => (arg 8; simp only [List.take_succ_cons, List.take_zero])); ((have q1 := hrt (x := (tr ts i).1) (by assumption); have q2 := hrt (x := (tr ts i).2.1) (by assumption); have q3 := hrt (x := (tr ts i).2.2) (by assumption))))
      | (refine AW.drawF (id := 10) 27 #[0, 1, 3, 7, 15, 0, 32, 127, 255, 0, 512, 1536, 3584, 7680, 0, 16384, 65024, 130560, 0, 262144, 786432, 1835008, 3932160, 0, 8388608, 33292288, 66846720, 134217727, 268435455, 536870911] kr kr ?_; (conv => (arg 8; simp only [List.take_succ_cons, List.take_zero])))
      | refine AW.region ?_
      | (refine AW.conds rfl (fun hc => ?_) (fun hc => ?_) <;> (try replace hc := nc hc) <;> first | (exfalso; first | contradiction | (first | omega | (simp at hc; done)); done) | skip))
    | ((with_reducible refine AF.on ?_); first
      | (refine AF.q 0 (SW.skip rfl rfl) ?_; (conv => (arg 9; try tactic => exact nrmF)); (conv => (arg 11; try simp only [List.nil_append, List.cons_append])))
      | ((first | refine AF.q 0 (SW.no1 rfl rfl (by with_reducible rfl)) ?_ | refine AF.q 0 (SW.no0 rfl rfl (by with_reducible rfl)) ?_); (conv => (arg 9; try tactic => exact nrmF)); (conv => (arg 11; try simp only [List.nil_append, List.cons_append])))
      | ((first | ((with_reducible refine AF.k_load ?_); first | (refine AF.ql rfl (SW.q (OQ.load1 (ty := 3) rfl kr (by first | (first | exact hldT _ (by omega) _ _ | exact hld _ (by omega) _) | (conv => lhs; whnf))) rfl) ?_) | (refine AF.ql rfl (SW.yes (SW.q (OQ.load1 (ty := 3) rfl kr (by first | (first | exact hldT _ (by omega) _ _ | exact hld _ (by omega) _) | (conv => lhs; whnf))) rfl) rfl rfl (by with_reducible rfl)) ?_) | (refine AF.ql rfl (SW.yes (SW.q (OQ.load1 (ty := 36) rfl kr (by first | (first | exact hldT _ (by omega) _ _ | exact hld _ (by omega) _) | (conv => lhs; whnf))) rfl) rfl rfl (by with_reducible rfl)) ?_) | (refine AF.ql rfl (SW.q (OQ.load1 (ty := 22) rfl kr (by first | (first | exact hldT _ (by omega) _ _ | exact hld _ (by omega) _) | (conv => lhs; whnf))) rfl) ?_) | refine AF.ql rfl (SW.q (OQ.loadN (ty := 47) (n := 2) rfl kr kr (by first | (first | exact hldT _ (by omega) _ _ | exact hld _ (by omega) _) | rfl)) rfl) ?_) | ((with_reducible refine AF.k_move ?_); first | (refine AF.q 0 (SW.q (OQ.move wl) rfl) ?_) | (refine AF.q 0 (SW.yes (SW.q (OQ.move wl) rfl) rfl rfl (by with_reducible rfl)) ?_)) | ((with_reducible refine AF.k_indexAddr ?_); first | refine AF.q 0 (SW.q (OQ.idxPtr (ty := 79) (n := 1) (l := 3) (g := false) rfl rfl kr (by first | omega | decide) (by first | omega | decide)) rfl) ?_ | refine AF.q 0 (SW.yes (SW.q (OQ.idxPtr (ty := 79) (n := 1) (l := 3) (g := false) rfl rfl kr (by first | omega | decide) (by first | omega | decide)) rfl) rfl rfl (by with_reducible rfl)) ?_ | refine AF.q 0 (SW.yes (SW.q (OQ.idxAddr (ty := 36) (z := 3) (g := true) rfl rfl kr (by first | omega | decide) (by first | omega | decide)) rfl) rfl rfl (by with_reducible rfl)) ?_ | refine AF.q 0 (SW.q (OQ.idxAddr (ty := 22) (z := 2) (g := true) rfl rfl kr (by first | omega | decide) (by first | omega | decide)) rfl) ?_) | ((with_reducible refine AF.k_binOp ?_); first | refine AF.q 0 (SW.q (OQ.geq rfl rfl) rfl) ?_ | refine AF.q 0 (SW.yes (SW.q (OQ.geq rfl rfl) rfl) rfl rfl (by with_reducible rfl)) ?_ | refine AF.q 0 (SW.yes (SW.q (OQ.gtr rfl rfl) rfl) rfl rfl (by with_reducible rfl)) ?_ | refine AF.q 0 (SW.yes (SW.q (OQ.subi rfl rfl (by omega)) rfl) rfl rfl (by with_reducible rfl)) ?_ | refine AF.q 0 (SW.yes (SW.q (OQ.sub rfl rfl) rfl) rfl rfl (by with_reducible rfl)) ?_) | ((with_reducible refine AF.k_fieldAddr ?_); first | refine AF.q 0 (SW.yes (SW.q (OQ.fieldA (ty := 74) (i := 0) (n := 2) (off := 0) (g := true) rfl kr (by decide)) rfl) rfl rfl (by with_reducible rfl)) ?_ | refine AF.q 0 (SW.yes (SW.q (OQ.fieldA (ty := 38) (i := 1) (n := 1) (off := 1) (g := false) rfl kr (by decide)) rfl) rfl rfl (by with_reducible rfl)) ?_ | refine AF.q 0 (SW.q (OQ.fieldA (ty := 74) (i := 0) (n := 2) (off := 0) (g := true) rfl kr (by decide)) rfl) ?_ | refine AF.q 0 (SW.q (OQ.fieldA (ty := 38) (i := 0) (n := 1) (off := 0) (g := false) rfl kr (by decide)) rfl) ?_) | ((with_reducible refine AF.k_pick ?_); first | (refine AF.q 0 (SW.q (OQ.pickT rfl (by with_reducible rfl) wl) rfl) ?_) | (refine AF.q 0 (SW.q (OQ.pickF rfl (by with_reducible rfl) wl) rfl) ?_)) | refine AF.q 2 (SW.yes (SW.q (by first | exact OQ.sliceA (ty := 79) (n := 3) (z := 1) (g := false) (l := 0) (h := 3) rfl kr rfl rfl rfl rfl (by decide) (by decide) (by decide)) rfl) rfl rfl (by with_reducible rfl)) ?_ | refine AF.q 2 (SW.yes (SW.q (OQ.nilCheck rfl) rfl) rfl rfl (by with_reducible rfl)) ?_ | refine AF.q 2 (SW.q (OQ.nilCheck rfl) rfl) ?_); (conv => (arg 9; try tactic => exact nrmF)); (conv => (arg 11; try simp only [List.nil_append, List.cons_append])))
      | (refine AF.bs rfl (fun hc => ?_) (fun hc => ?_) <;> (fail_if_success (with_reducible exact lit_no hc)) <;> (try replace hc := nc hc) <;> first | (exfalso; first | contradiction | (first | omega | (simp at hc; done)); done) | skip)
      | (refine AF.gs1 rfl rfl (fun hc => ?_) (fun hc => ?_) <;> (fail_if_success (with_reducible exact lit_no hc)) <;> (try replace hc := nc hc) <;> first | (exfalso; first | contradiction | (first | omega | (simp at hc; done)); done) | skip)
      | (refine AF.gs0 rfl rfl (fun hc => ?_) (fun hc => ?_) <;> (fail_if_success (with_reducible exact lit_no hc)) <;> (try replace hc := nc hc) <;> first | (exfalso; first | contradiction | (first | omega | (simp at hc; done)); done) | skip)
      | (refine AF.nil ?_ kr; (conv => (arg 4; simp only [List.drop_succ_cons, List.drop_zero, List.drop_nil]))))
    | with_reducible refine AR.s ?_
    | ((with_reducible refine AR.out ?_); first | omega | (simp at hc; done); done)
    | ((with_reducible refine FinP.on ?_); (first | refine FinP.ret (.tmp wl .nil) ?_ rfl | refine FinP.end (.tmp wl .nil) ?_ rfl); (try simp only [pack, List.drop, List.take]); all_goals (congr 1; first | (have q := hrf ‹rgB _ _ _ = false›; exact (HE.out.1 (by omega)).symm) | exact (HE.out.2.1 (by omega) (by omega)).symm | exact (HE.out.2.2.1 (by omega) (by omega) (by omega)).symm | exact (HE.out.2.2.2.1 (by omega) (by omega) (by omega) (by omega)).symm | exact (HE.out.2.2.2.2 (by omega) (by omega) (by omega) (by omega)).symm)))
end Go.Proofs.Ytmohcmghbfhdlaa
end
end
/- Chapter 6: what the opening of a net needs, in a greater memory; the plain words on nets. -/
section
set_option linter.unusedSimpArgs false
set_option linter.unusedVariables false
section
namespace Go.Me
open Go.Ab Go.Proofs.Ytmohcmghbfhdlaa
def lf (ts : List T3) : Nat → List (IE × Int)
  | 0 => []
  | k + 1 => lf ts k ++ [(((tr ts k).1, (tr ts k).2.1), (k : Int))] ++ [(((tr ts k).2.1, (tr ts k).2.2), (k : Int))] ++ [(((tr ts k).2.2, (tr ts k).1), (k : Int))]
def us (ts : List T3) : Nat → List Int
  | 0 => []
  | k + 1 => insL (insL (insL (us ts k) (tr ts k).1) (tr ts k).2.1) (tr ts k).2.2
def arT (l : List Pn) (ts : List T3) : Nat → Int
  | 0 => 0
  | k + 1 => arT l ts k + arS l [(tr ts k).1.toNat, (tr ts k).2.1.toNat, (tr ts k).2.2.toNat] 3
theorem us_nodup (ts : List T3) : ∀ k, (us ts k).Nodup
  | 0 => List.nodup_nil
  | k + 1 => insL_nodup (insL_nodup (insL_nodup (us_nodup ts k)))
def trK (l : List Pn) (ts : List T3) (k : Nat) : Int := trE l ts (lf ts k) k
theorem trK_0 {l : List Pn} {ts : List T3} {k : Nat} (h : trK l ts k = 0) : inR l.length (tr ts k) ∧ ¬ ordB ts k ∧ trS l (tr ts k) = 1 ∧ lk (lf ts k) ((tr ts k).1, (tr ts k).2.1) = -1 ∧ lk (lf ts k) ((tr ts k).2.1, (tr ts k).2.2) = -1 ∧ lk (lf ts k) ((tr ts k).2.2, (tr ts k).1) = -1 := by
  unfold trK trE at h
  by_cases h1 : inR l.length (tr ts k)
  · rw [if_pos h1] at h
    by_cases h2 : ordB ts k
    · rw [if_pos h2] at h; cases h
    · rw [if_neg h2] at h
      by_cases h3 : trS l (tr ts k) ≠ 1
      · rw [if_pos h3] at h; cases h
      · rw [if_neg h3] at h
        by_cases h4 : lk (lf ts k) ((tr ts k).1, (tr ts k).2.1) ≠ -1 ∨ lk (lf ts k) ((tr ts k).2.1, (tr ts k).2.2) ≠ -1 ∨ lk (lf ts k) ((tr ts k).2.2, (tr ts k).1) ≠ -1
        · rw [if_pos h4] at h; cases h
        · exact ⟨h1, h2, by omega, by omega, by omega, by omega⟩
  · rw [if_neg h1] at h; cases h
structure LfOk (n : Nat) (L : List (IE × Int)) : Prop where
  nd : (L.map (·.1)).Nodup
  rng : ∀ p ∈ L, (0 ≤ p.1.1 ∧ p.1.1 < n) ∧ (0 ≤ p.1.2 ∧ p.1.2 < n) ∧ 0 ≤ p.2
theorem lk_notin {L : List (IE × Int)} {e : IE} (h0 : ∀ p ∈ L, 0 ≤ p.2) (h : lk L e = -1) : e ∉ L.map (·.1) := fun hm => by
  have := h0 _ (lk_mem hm)
  simp only at this
  omega
theorem lf_step {l : List Pn} {ts : List T3} {k : Nat} (h : LfOk l.length (lf ts k)) (he : trK l ts k = 0) :
    (((tr ts k).1, (tr ts k).2.1) ∉ (lf ts k).map (·.1)) ∧ (((tr ts k).2.1, (tr ts k).2.2) ∉ (lf ts k ++ [(((tr ts k).1, (tr ts k).2.1), (k : Int))]).map (·.1)) ∧
    (((tr ts k).2.2, (tr ts k).1) ∉ (lf ts k ++ [(((tr ts k).1, (tr ts k).2.1), (k : Int))] ++ [(((tr ts k).2.1, (tr ts k).2.2), (k : Int))]).map (·.1)) ∧ LfOk l.length (lf ts (k + 1)) := by
  obtain ⟨h1, h2, h3, h4, h5, h6⟩ := trK_0 he
  have hn0 : ∀ p ∈ lf ts k, 0 ≤ p.2 := fun p hp => (h.rng p hp).2.2
  have n1 := lk_notin hn0 h4
  have n2 := lk_notin hn0 h5
  have n3 := lk_notin hn0 h6
  unfold inR at h1
  unfold ordB at h2
  generalize hT : tr ts k = t at *
  obtain ⟨a, b, c⟩ := t
  simp only at h1 h2 n1 n2 n3 ⊢
  have hab : a < b := by omega
  have hac : a < c := by omega
  have hbc : b ≠ c := fun e => by
    subst e
    unfold trS at h3
    simp only at h3
    rw [show cr (pt l a.toNat) (pt l b.toNat) (pt l b.toNat) = 0 from cr_self _ _] at h3
    cases h3
  have q2 : (b, c) ∉ (lf ts k ++ [((a, b), (k : Int))]).map (·.1) := by
    rw [List.map_append, List.mem_append, not_or]
    refine ⟨n2, ?_⟩
    simp only [List.map_cons, List.map_nil, List.mem_singleton, Prod.mk.injEq]
    omega
  have q3 : (c, a) ∉ (lf ts k ++ [((a, b), (k : Int))] ++ [((b, c), (k : Int))]).map (·.1) := by
    rw [List.map_append, List.map_append, List.mem_append, List.mem_append, not_or, not_or]
    refine ⟨⟨n3, ?_⟩, ?_⟩ <;> simp only [List.map_cons, List.map_nil, List.mem_singleton, Prod.mk.injEq] <;> omega
  refine ⟨n1, q2, q3, ?_, ?_⟩
  · unfold lf
    rw [hT, List.map_append, List.nodup_append]
    refine ⟨?_, by simp, fun x hx y hy e => ?_⟩
    · rw [List.map_append, List.nodup_append]
      refine ⟨?_, by simp, fun x hx y hy e => ?_⟩
      · rw [List.map_append, List.nodup_append]
        refine ⟨h.nd, by simp, fun x hx y hy e => ?_⟩
        simp only [List.map_cons, List.map_nil, List.mem_singleton] at hy
        subst hy; subst e
        exact n1 hx
      · simp only [List.map_cons, List.map_nil, List.mem_singleton] at hy
        subst hy; subst e
        exact q2 hx
    · simp only [List.map_cons, List.map_nil, List.mem_singleton] at hy
      subst hy; subst e
      exact q3 hx
  · unfold lf
    rw [hT]
    intro p hp
    simp only [List.mem_append, List.mem_singleton] at hp
    rcases hp with ((hp | rfl) | rfl) | rfl
    · exact h.rng p hp
    all_goals simp only; omega
theorem lf_ok {l : List Pn} {ts : List T3} : ∀ k, (∀ j, j < k → trK l ts j = 0) → LfOk l.length (lf ts k)
  | 0, _ => ⟨List.nodup_nil, fun p hp => by simp [lf] at hp⟩
  | k + 1, h => (lf_step (lf_ok k fun j hj => h j (by omega)) (h k (by omega))).2.2.2
theorem lfV_app (A B : List (IE × Int)) : lfV (A ++ B) = lfV A ++ lfV B := List.map_append
theorem LfOk.okE {n : Nat} {L : List (IE × Int)} (h : LfOk n L) (hn : n ≤ 1000) : ∀ p ∈ L, okE p.1 := fun p hp => by
  have := h.rng p hp
  unfold Go.Proofs.Ytmohcmghbfhdlaa.okE
  omega
theorem arS_3 (l : List Pn) (a b c : Nat) : arS l [a, b, c] 3 = cr (pt l a) (pt l b) (pt l c) := by
  simp [arS, ot]
  unfold cr
  grind
end Go.Me
namespace Go.Proofs.Ytmohcmghbfhdlaa
open Go Go.RowKit Go.Ab Go.Me
set_option maxRecDepth 100000
set_option maxHeartbeats 4000000
attribute [local irreducible] OQ OW AL AW AD AF SW
theorem area_q {m : Mem} {b d n k c c2 : Nat} {blk blk2 : Blk} (l : List Pn) (o : List Nat) (hok : ∀ k, k < l.length → (pt l k).Ok) (ho : ∀ k, k < o.length → ot o k < l.length) (hl : o.length ≤ 1000) (hb : m.at b = some blk) (hc : blk.cells = flatP l) (hn : l.length = n) (hd : m.at d = some blk2) (hc2 : blk2.cells = flatO o) (hk : o.length = k) (o1 : blk.obj = Ob.plain := by rfl) (o2 : blk2.obj = Ob.plain := by rfl) :
    PCalls Try.prog 58 [.slice (some ⟨b, 0, none⟩) n c, .slice (some ⟨d, 0, none⟩) k c2] m (.int .i64 (arS l o k)) := by
  subst hn hk
  exact PCalls.viaS [b, d] (area_0 l o hok ho c c2 blk.esz blk2.esz hl) (ro2p _ _ rfl rfl) ⟨⟨_, hb, by unfold Blk.shp Blk.shpR; rw [o1]; rfl, (fun h => nomatch h), .inl ⟨hc, flatP_scal _⟩⟩, ⟨_, hd, by unfold Blk.shp Blk.shpR; rw [o2]; rfl, (fun h => nomatch h), .inl ⟨hc2, flatO_scal _⟩⟩, trivial⟩ rfl rfl rfl rfl
theorem triangleErr_q {m : Mem} {bP bT bN bL i c c2 : Nat} {A B N : Blk} {own : Bool} (l : List Pn) (ts : List T3) (L : List (IE × Int)) (hok : ∀ k, k < l.length → (pt l k).Ok) (hl : l.length ≤ 1000) (hts : ts.length ≤ 1000) (hn : (L.map (·.1)).Nodup) (hL : ∀ p ∈ L, okE p.1) (hi : i < ts.length)
    (hP : m.at bP = some A) (hPc : A.cells = flatP l) (hT : m.at bT = some B) (hTc : B.cells = flatT ts) (hN : m.at bN = some N) (hNc : N.cells = [.slice (some ⟨bP, 0, none⟩) l.length c, .slice (some ⟨bT, 0, none⟩) ts.length c2, .slice none 0 0, .map (some bL)])
    (hM : m.at bL = some (mpX L own 0)) (hPo : A.obj = Ob.plain := by rfl) (hTo : B.obj = Ob.plain := by rfl) (hNo : N.obj = Ob.plain := by rfl) :
    PCalls Try.prog 56 [.pointer (some ⟨bN, 0, none⟩), .int .i64 i] m (.int .i64 (trE l ts L i)) :=
  PCalls.viaS [bP, bT, bN, bL] (triangleErr_0 l ts L hok hl hts hn hL i c c2 A.esz B.esz N.esz hi) (ro4p _ _ _ _ rfl rfl rfl rfl)
    ⟨⟨_, hP, by unfold Blk.shp Blk.shpR; rw [hPo]; rfl, (fun h => nomatch h), .inl ⟨hPc, flatP_scal _⟩⟩, ⟨_, hT, by unfold Blk.shp Blk.shpR; rw [hTo]; rfl, (fun h => nomatch h), .inl ⟨hTc, flatT_scal _⟩⟩, ⟨_, hN, by unfold Blk.shp Blk.shpR; rw [hNo]; rfl, (fun h => nomatch h), .inr ⟨hNc, rfl⟩⟩, ⟨_, hM, rfl, (fun h => nomatch h), .inl ⟨rfl, rfl⟩⟩, trivial⟩ rfl rfl rfl rfl
theorem ContainsF_q {m : Mem} {bP bT bX bE n k c c2 c3 : Nat} {A B X D : Blk} (l : List Pn) (ts : List T3) (hok : ∀ k, k < l.length → (pt l k).Ok) (hl : l.length ≤ 1000) (a b : Int) (ha : 0 ≤ a ∧ a < l.length) (hb : 0 ≤ b ∧ b < l.length) (hn : l.length = n) (hk : ts.length = k)
    (hP : m.at bP = some A) (hPc : A.cells = flatP l) (hT : m.at bT = some B) (hTc : B.cells = flatT ts) (hX : m.at bX = some X) (hXc : X.cells = [.slice (some ⟨bP, 0, none⟩) n c, .slice (some ⟨bT, 0, none⟩) k c2])
    (hD : m.at bE = some D) (hDc : D.cells = [.int .i64 a, .int .i64 b]) (hPo : A.obj = Ob.plain := by rfl) (hTo : B.obj = Ob.plain := by rfl) (hXo : X.obj = Ob.plain := by rfl) (hDo : D.obj = Ob.plain := by rfl) :
    PCalls Try.prog 60 [.slice (some ⟨bP, 0, none⟩) n c3, .func (.func 61) #[] #[.pointer (some ⟨bX, 0, none⟩), .pointer (some ⟨bE, 0, none⟩)]] m (.bool (!bdB l a.toNat b.toNat)) := by
  subst hn hk
  obtain ⟨a', rfl⟩ : ∃ a' : Nat, a = a' := ⟨a.toNat, by omega⟩
  obtain ⟨b', rfl⟩ : ∃ b' : Nat, b = b' := ⟨b.toNat, by omega⟩
  exact PCalls.viaS [bP, bT, bX, bE] (ContainsF_0 l ts hok a' b' (by omega) (by omega) c c2 c3 A.esz B.esz X.esz D.esz (by omega)) (ro4p _ _ _ _ rfl rfl rfl rfl)
    ⟨⟨_, hP, by unfold Blk.shp Blk.shpR; rw [hPo]; rfl, (fun h => nomatch h), .inl ⟨hPc, flatP_scal _⟩⟩, ⟨_, hT, by unfold Blk.shp Blk.shpR; rw [hTo]; rfl, (fun h => nomatch h), .inl ⟨hTc, flatT_scal _⟩⟩, ⟨_, hX, by unfold Blk.shp Blk.shpR; rw [hXo]; rfl, (fun h => nomatch h), .inr ⟨hXc, rfl⟩⟩, ⟨_, hD, by unfold Blk.shp Blk.shpR; rw [hDo]; rfl, (fun h => nomatch h), .inl ⟨hDc, rfl⟩⟩, trivial⟩ rfl rfl rfl rfl
end Go.Proofs.Ytmohcmghbfhdlaa
end
end
/- The library's sorts at this program (laid by the kit's own command, in plain words). -/
section
set_option linter.unusedSimpArgs false
set_option linter.unusedVariables false
namespace Go.Proofs
open Go.Shelf
def Try.laysF6_ren : Go.Shelf.Ren := ⟨fun | 6 => 74 | 15 => 81 | 14 => 84 | 28 => 94 | 29 => 95 | 20 => 96 | 21 => 97 | 22 => 98 | 23 => 99 | 24 => 100 | 25 => 101 | 26 => 102 | 27 => 103 | 46 => 109 | 47 => 105 | 48 => 106 | 49 => 110 | 50 => 111 | 57 => 113 | n => n, fun | 22 => 29 | 24 => 3 | 25 => 87 | 3 => 3 | 39 => 123 | 0 => 0 | 53 => 135 | 55 => 137 | 4 => 4 | 46 => 129 | 45 => 128 | 50 => 119 | 5 => 5 | 9 => 9 | 66 => 143 | 70 => 147 | 76 => 151 | 77 => 32 | n => n, fun | n => n⟩
theorem Try.laysF6 : Go.Proofs.SlLaysF.n6 Try.prog Try.laysF6_ren := {
  mixed := by kernel_rfl
  f6 := ⟨Try.f74.name, by decide, Try.func74.trans (congrArg some (by kernel_rfl))⟩
  f14 := ⟨Try.f84.name, by decide, Try.func84.trans (congrArg some (by kernel_rfl))⟩
  f15 := Try.func81.trans (congrArg some (by kernel_rfl))
  f20 := ⟨Try.f96.name, by decide, Try.func96.trans (congrArg some (by kernel_rfl))⟩
  f21 := ⟨Try.f97.name, by decide, Try.func97.trans (congrArg some (by kernel_rfl))⟩
  f22 := ⟨Try.f98.name, by decide, Try.func98.trans (congrArg some (by kernel_rfl))⟩
  f23 := ⟨Try.f99.name, by decide, Try.func99.trans (congrArg some (by kernel_rfl))⟩
  f24 := ⟨Try.f100.name, by decide, Try.func100.trans (congrArg some (by kernel_rfl))⟩
  f25 := ⟨Try.f101.name, by decide, Try.func101.trans (congrArg some (by kernel_rfl))⟩
  f26 := ⟨Try.f102.name, by decide, Try.func102.trans (congrArg some (by kernel_rfl))⟩
  f27 := ⟨Try.f103.name, by decide, Try.func103.trans (congrArg some (by kernel_rfl))⟩
  f28 := Try.func94.trans (congrArg some (by kernel_rfl))
  f29 := Try.func95.trans (congrArg some (by kernel_rfl))
  f46 := ⟨Try.f109.name, by decide, Try.func109.trans (congrArg some (by kernel_rfl))⟩
  f47 := Try.func105.trans (congrArg some (by kernel_rfl))
  f48 := Try.func106.trans (congrArg some (by kernel_rfl))
  f49 := ⟨Try.f110.name, by decide, Try.func110.trans (congrArg some (by kernel_rfl))⟩
  f50 := ⟨Try.f111.name, by decide, Try.func111.trans (congrArg some (by kernel_rfl))⟩
  f57 := ⟨Try.f113.name, by decide, Try.func113.trans (congrArg some (by kernel_rfl))⟩
  t0 := Try.underlying0
  a0 := Try.isAgg0
  z0 := Try.sizeOf0
  v0 := Try.zeroValue0
  t3 := Try.underlying3
  a3 := Try.isAgg3
  z3 := Try.sizeOf3
  v3 := Try.zeroValue3
  t4 := Try.underlying4
  a4 := Try.isAgg4
  z4 := Try.sizeOf4
  v4 := Try.zeroValue4
  t5 := Try.underlying5
  a5 := Try.isAgg5
  z5 := Try.sizeOf5
  v5 := Try.zeroValue5
  t9 := Try.underlying9
  a9 := Try.isAgg9
  z9 := Try.sizeOf9
  v9 := Try.zeroValue9
  t22 := Try.underlying29
  a22 := Try.isAgg29
  z22 := Try.sizeOf29
  v22 := Try.zeroValue29
  a24 := Try.isAgg3
  z24 := Try.sizeOf3
  t25 := Try.underlying87
  a25 := Try.isAgg87
  z25 := Try.sizeOf87
  v25 := Try.zeroValue87
  t39 := Try.underlying123
  a39 := Try.isAgg123
  z39 := Try.sizeOf123
  v39 := Try.zeroValue123
  t45 := Try.underlying128
  a45 := Try.isAgg128
  z45 := Try.sizeOf128
  v45 := Try.zeroValue128
  t46 := Try.underlying129
  a46 := Try.isAgg129
  z46 := Try.sizeOf129
  v46 := Try.zeroValue129
  t50 := Try.underlying119
  a50 := Try.isAgg119
  z50 := Try.sizeOf119
  v50 := Try.zeroValue119
  t53 := Try.underlying135
  a53 := Try.isAgg135
  z53 := Try.sizeOf135
  v53 := Try.zeroValue135
  t55 := Try.underlying137
  a55 := Try.isAgg137
  z55 := Try.sizeOf137
  v55 := Try.zeroValue137
  t66 := Try.underlying143
  a66 := Try.isAgg143
  z66 := Try.sizeOf143
  v66 := Try.zeroValue143
  t70 := Try.underlying147
  a70 := Try.isAgg147
  z70 := Try.sizeOf147
  v70 := Try.zeroValue147
  t76 := Try.underlying151
  a76 := Try.isAgg151
  z76 := Try.sizeOf151
  v76 := Try.zeroValue151
  t77 := Try.underlying32
  a77 := Try.isAgg32
  z77 := Try.sizeOf32
  v77 := Try.zeroValue32 }
def Try.laysK6_ren : Go.Shelf.Ren := ⟨fun | 6 => 62 | 15 => 81 | 14 => 80 | 28 => 94 | 29 => 95 | 20 => 86 | 21 => 87 | 22 => 88 | 23 => 89 | 24 => 90 | 25 => 91 | 26 => 92 | 27 => 93 | 46 => 104 | 47 => 105 | 48 => 106 | 49 => 107 | 50 => 108 | 57 => 112 | n => n, fun | 22 => 42 | 24 => 45 | 25 => 100 | 3 => 3 | 39 => 123 | 0 => 0 | 53 => 135 | 55 => 137 | 4 => 4 | 46 => 129 | 45 => 128 | 50 => 119 | 5 => 5 | 9 => 9 | 66 => 143 | 70 => 147 | 76 => 151 | 77 => 32 | n => n, fun | n => n⟩
theorem Try.laysK6 : Go.Proofs.SlLaysF0.n6 Try.prog Try.laysK6_ren := {
  mixed := by kernel_rfl
  f6 := ⟨Try.f62.name, by decide, Try.func62.trans (congrArg some (by kernel_rfl))⟩
  f14 := ⟨Try.f80.name, by decide, Try.func80.trans (congrArg some (by kernel_rfl))⟩
  f15 := Try.func81.trans (congrArg some (by kernel_rfl))
  f20 := ⟨Try.f86.name, by decide, Try.func86.trans (congrArg some (by kernel_rfl))⟩
  f21 := ⟨Try.f87.name, by decide, Try.func87.trans (congrArg some (by kernel_rfl))⟩
  f22 := ⟨Try.f88.name, by decide, Try.func88.trans (congrArg some (by kernel_rfl))⟩
  f23 := ⟨Try.f89.name, by decide, Try.func89.trans (congrArg some (by kernel_rfl))⟩
  f24 := ⟨Try.f90.name, by decide, Try.func90.trans (congrArg some (by kernel_rfl))⟩
  f25 := ⟨Try.f91.name, by decide, Try.func91.trans (congrArg some (by kernel_rfl))⟩
  f26 := ⟨Try.f92.name, by decide, Try.func92.trans (congrArg some (by kernel_rfl))⟩
  f27 := ⟨Try.f93.name, by decide, Try.func93.trans (congrArg some (by kernel_rfl))⟩
  f28 := Try.func94.trans (congrArg some (by kernel_rfl))
  f29 := Try.func95.trans (congrArg some (by kernel_rfl))
  f46 := ⟨Try.f104.name, by decide, Try.func104.trans (congrArg some (by kernel_rfl))⟩
  f47 := Try.func105.trans (congrArg some (by kernel_rfl))
  f48 := Try.func106.trans (congrArg some (by kernel_rfl))
  f49 := ⟨Try.f107.name, by decide, Try.func107.trans (congrArg some (by kernel_rfl))⟩
  f50 := ⟨Try.f108.name, by decide, Try.func108.trans (congrArg some (by kernel_rfl))⟩
  f57 := ⟨Try.f112.name, by decide, Try.func112.trans (congrArg some (by kernel_rfl))⟩
  t0 := Try.underlying0
  a0 := Try.isAgg0
  z0 := Try.sizeOf0
  v0 := Try.zeroValue0
  t3 := Try.underlying3
  a3 := Try.isAgg3
  z3 := Try.sizeOf3
  v3 := Try.zeroValue3
  t4 := Try.underlying4
  a4 := Try.isAgg4
  z4 := Try.sizeOf4
  v4 := Try.zeroValue4
  t5 := Try.underlying5
  a5 := Try.isAgg5
  z5 := Try.sizeOf5
  v5 := Try.zeroValue5
  t9 := Try.underlying9
  a9 := Try.isAgg9
  z9 := Try.sizeOf9
  v9 := Try.zeroValue9
  t22 := Try.underlying42
  a22 := Try.isAgg42
  z22 := Try.sizeOf42
  v22 := Try.zeroValue42
  t25 := Try.underlying100
  a25 := Try.isAgg100
  z25 := Try.sizeOf100
  v25 := Try.zeroValue100
  t39 := Try.underlying123
  a39 := Try.isAgg123
  z39 := Try.sizeOf123
  v39 := Try.zeroValue123
  t45 := Try.underlying128
  a45 := Try.isAgg128
  z45 := Try.sizeOf128
  v45 := Try.zeroValue128
  t46 := Try.underlying129
  a46 := Try.isAgg129
  z46 := Try.sizeOf129
  v46 := Try.zeroValue129
  t50 := Try.underlying119
  a50 := Try.isAgg119
  z50 := Try.sizeOf119
  v50 := Try.zeroValue119
  t53 := Try.underlying135
  a53 := Try.isAgg135
  z53 := Try.sizeOf135
  v53 := Try.zeroValue135
  t55 := Try.underlying137
  a55 := Try.isAgg137
  z55 := Try.sizeOf137
  v55 := Try.zeroValue137
  t66 := Try.underlying143
  a66 := Try.isAgg143
  z66 := Try.sizeOf143
  v66 := Try.zeroValue143
  t70 := Try.underlying147
  a70 := Try.isAgg147
  z70 := Try.sizeOf147
  v70 := Try.zeroValue147
  t76 := Try.underlying151
  a76 := Try.isAgg151
  z76 := Try.sizeOf151
  v76 := Try.zeroValue151
  t77 := Try.underlying32
  a77 := Try.isAgg32
  z77 := Try.sizeOf32
  v77 := Try.zeroValue32 }
end Go.Proofs
end
