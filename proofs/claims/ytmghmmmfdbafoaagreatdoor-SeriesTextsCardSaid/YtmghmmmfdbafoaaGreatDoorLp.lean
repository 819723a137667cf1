/- A range over the lines of a text, its body walked in the small memory. -/
import Derived.Test.YtmghmmmfdbafoaaGreatDoorAbZ
import Derived.Test.YtmghmmmfdbafoaaGreatDoorLn
set_option linter.unusedSimpArgs false
set_option linter.unusedVariables false
namespace Go.Proofs.YtmghmmmfdbafoaaGreatDoor
open Go Go.RowKit Go.Ab Go.Tx
theorem enters_lines (args : Array Value) (w : World) : (callFunc 50 args).run Tryz.prog w = .ok (.enter 50 args) w :=
  (enters_of Tryz.func50 (by kernel_rfl) rfl) args w
/-- The line that a round is handed. -/
def lnV (l : List UInt8) (k : Nat) : Value := .string ⟨((linesOf l).getD k []).toArray⟩
theorem wp_lines {E : Env} {g p d b z : Nat} {assign body : Code} {Q : Exit → Act → World → Prop} {a : Act} {w : World} {ρ : Ren} {t1 t0 : T} {m : Mem} {n1 : Nat} {l : List UInt8} (hl : l.length ≤ 1000000)
    (ht1 : TRel ρ t1 a.tmps) (hs : St E ρ m w) (hg : t1.getD g undef = .func (.func 50) #[] #[.pointer (some ⟨b, 0, none⟩)]) (hb : m.at b = some ⟨[.string ⟨l.toArray⟩], true, z⟩)
    (hn1 : E.n0 ≤ n1) (ht : TRel ρ t0 a.tmps) (hk : t0.all (okJ n1) = true)
    (M Mx : Nat → Mem → Prop) (hM : ∀ k m, M k m → n1 ≤ m.length ∧ ∀ b blk, m.at b = some blk → blk.own = true) (hMx : ∀ k m, Mx k m → ∀ b blk, m.at b = some blk → blk.own = true) (h0 : M 0 (m.set b none))
    (hassign : ∀ (lp k : Nat) (W : World) (K : Act → World → Prop), K (Free.setTo a p d (lnV l k)) W →
      assign.wpIn (Fence.wide.inRound lp) 6 Tryz.prog (Exit.then K fun _ _ _ => False) { tmps := a.tmps.setIfInBounds p (lnV l k), defers := [] } W)
    (hbody : ∀ (lp k : Nat) (m : Mem) (E' : Env), k < (linesOf l).length → M k m → E'.n0 = n1 → (∀ N0 W0, EW N0 W0 E → EW N0 W0 E') → AWR lp Tryz.prog E' body ((t0.set p (lnV l k)).set d (lnV l k)) m (RP E' (M (k + 1)) (Mx (k + 1))))
    (hdone : ∀ (B D : Nat) (W : World), w.heap.size ≤ D → Rnd E ρ n1 B w.heap.size M (linesOf l).length W → W.heap[D]? = some (.deferred (some [])) → Q .normal { a with defers := { target := .collected D, args := #[] } :: a.defers } W)
    (hret : ∀ (B D k : Nat) (W : World), w.heap.size ≤ D → k ≤ (linesOf l).length → Rnd E ρ n1 B w.heap.size Mx k W → W.heap[D]? = some (.deferred (some [])) → Q .ret { a with defers := { target := .collected D, args := #[] } :: a.defers } W) :
    (Code.rangeFunc (.tmp g) #[p] assign body).wp Tryz.prog Q a w := by
  obtain ⟨pl, hp, ⟨c, ty, fr, hc, h1, h2, h3⟩, h4⟩ := hs.mem b _ hb
  obtain ⟨hsh, _, rfl⟩ := h3 rfl
  obtain ⟨v', q1, q2⟩ := h2 0 _ rfl
  rw [q2.string, hsh] at q1
  have hB : pl.blk < w.heap.size := (Array.getElem?_eq_some_iff.1 hc).1
  have hge := ht1.ev (.tmp g)
  rw [show t1.ev (.tmp g) = t1.getD g undef from rfl, hg] at hge
  have hev : a.eval (.tmp g) = .func (.func 50) #[] #[.pointer (some ⟨pl.blk, 0, none⟩)] := by
    obtain ⟨xs', ys', e, r1, r2⟩ := hge.func_inv
    rw [e]
    obtain ⟨x1, e1, g1, _⟩ := r1.tuple_inv
    obtain ⟨y1, e2, g2, g3⟩ := r2.tuple_inv
    cases e1
    cases e2
    obtain ⟨u, f1, f2⟩ := g3 0 _ rfl
    obtain ⟨pl2, k1, rfl⟩ := f2.ptr_inv
    cases Option.some.inj (k1.symm.trans hp)
    have e3 : xs' = #[] := Array.eq_empty_of_size_eq_zero (by simpa using g1.symm)
    have e4 : ys' = #[.pointer (some ⟨pl.blk, 0 + pl.sh, none⟩)] := by
      refine Array.ext_getElem? fun i => ?_
      match i with
      | 0 => exact f1
      | i + 1 => rw [Array.getElem?_eq_none (by simp at g2; omega), Array.getElem?_eq_none (by simp)]
    rw [e3, e4, hsh]
  have hat : ∀ c blk, Mem.at (m.set b none) c = some blk → c ≠ b ∧ m.at c = some blk := fun c blk hc => by
    unfold Mem.at at hc ⊢
    rw [List.getD_eq_getElem?_getD, List.getElem?_set] at hc
    split at hc
    · split at hc <;> cases hc
    · rename_i hne
      refine ⟨fun e => hne e.symm, ?_⟩
      rw [List.getD_eq_getElem?_getD]
      exact hc
  have hown := (hM 0 _ h0).2
  refine wp_rounds hev enters_lines (v := lnV l) (lines_in 7 (by decide) l hl pl.blk ty w (w.heap.size + 2) hB c hc (by simpa using q1)) hB hn1 ht hk (hs.fresh b _ pl hb rfl hp) hs.size (fun k => rfl) M Mx hM hMx
    ⟨ρ, m.set b none, h0, hs.drop b, fun _ _ => rfl, fun b' blk' pl' hb' hp' => ?_⟩ hassign hbody (fun D W => hdone pl.blk D W) (fun D k W => hret pl.blk D k W)
  obtain ⟨hne, hb''⟩ := hat b' blk' hb'
  have hlt : pl'.blk < w.heap.size := by
    obtain ⟨pl2, k1, ⟨_, _, _, k2, _⟩, _⟩ := hs.mem b' blk' hb''
    cases Option.some.inj (k1.symm.trans hp')
    exact (Array.getElem?_eq_some_iff.1 k2).1
  exact ⟨h4 rfl b' blk' pl' hne hb'' hp', by omega, by omega⟩
/-- What a round is handed goes into its variable. -/
theorem assign_in {P : Program} {lp id p d n : Nat} {rt : TypeId} {pos : String} {after : Array Edge} {v : Value} {a : Act} {W : World} {K : Act → World → Prop} (hsz : a.tmps.size = n) (hp : p < n) (hK : K (Free.setTo a p d v) W) :
    (Code.region id #[⟨some d, .assign (.tmp p), rt, pos, after, none⟩] false).wpIn (Fence.wide.inRound lp) 6 P (Exit.then K fun _ _ _ => False) { tmps := a.tmps.setIfInBounds p v, defers := [] } W := by
  refine wpIn_region_lit (list_in (fun ⟨_, _, h⟩ => h) _ _ _ (by simp [Free.noDefer]) ?_)
  unfold wpList
  have hw : ∀ f, Region.wanted ⟨some d, .assign (.tmp p), rt, pos, after, none⟩ f = true := fun f => rfl
  rw [if_pos (hw _)]
  refine .inl ?_
  have he : (execOp (Act.eval { tmps := a.tmps.setIfInBounds p v, defers := [] }) ⟨some d, .assign (.tmp p), rt, pos, after, none⟩).run P W = .ok (.value v) W := by
    show Result.ok (Next.value (Act.eval { tmps := a.tmps.setIfInBounds p v, defers := [] } (.tmp p))) W = _
    congr 2
    show (a.tmps.setIfInBounds p v).getD p undef = v
    simp [Array.getD, hsz, hp]
  unfold Oper.wp
  rw [he, Oper.upon_value]
  exact hK
/-- A range over the lines of a text, to the function's end. -/
theorem AWX.lines {E : Env} {fn : Func} {v : Value} {mE : Mem} {g p d b z id : Nat} {assign body rest : Code} {t : T} {m : Mem} {n1 : Nat} {l : List UInt8} (hds : E.ds = []) (hl : l.length ≤ 1000000)
    (hg : t.getD g undef = .func (.func 50) #[] #[.pointer (some ⟨b, 0, none⟩)]) (hb : m.at b = some ⟨[.string ⟨l.toArray⟩], true, z⟩)
    (hn1 : E.n0 ≤ n1) (bs : List Bool) {t0 : T} (ht0 : fgt bs t = t0) (hk : t0.all (okJ n1) = true)
    (M Mx : Nat → Mem → Prop) (hM : ∀ k m, M k m → n1 ≤ m.length ∧ ∀ b blk, m.at b = some blk → blk.own = true) (hMx : ∀ k m, Mx k m → n1 ≤ m.length ∧ ∀ b blk, m.at b = some blk → blk.own = true) (h0 : M 0 (m.set b none))
    (hassign : ∀ (a : Act) (lp k : Nat) (W : World) (K : Act → World → Prop), a.tmps.size = t.length → K (Free.setTo a p d (lnV l k)) W →
      assign.wpIn (Fence.wide.inRound lp) 6 Tryz.prog (Exit.then K fun _ _ _ => False) { tmps := a.tmps.setIfInBounds p (lnV l k), defers := [] } W)
    (hbody : ∀ (lp k : Nat) (m : Mem) (E' : Env), k < (linesOf l).length → M k m → E'.n0 = n1 → (∀ N0 W0, EW N0 W0 E → EW N0 W0 E') → AWR lp Tryz.prog E' body ((t0.set p (lnV l k)).set d (lnV l k)) m (RP E' (M (k + 1)) (Mx (k + 1))))
    (hdone : ∀ (m : Mem) (E' : Env), M (linesOf l).length m → E'.n0 = n1 → (∀ N0 W0, EW N0 W0 E → EW N0 W0 E') → AW Tryz.prog E' rest t0 m (FinA Tryz.prog E fn v mE))
    (hret : ∀ (k : Nat) (m : Mem), Mx k m → FinA Tryz.prog E fn v mE .ret t0 m) : AWX Tryz.prog E fn v mE (.block id (.rangeFunc (.tmp g) #[p] assign body)) rest t m := by
  intro ρ a w hd ht hs
  have ht0' := fgt_rel bs ht0 ht
  refine wp_block (wp_lines hl ht hs hg hb hn1 ht0' hk M Mx hM (fun k m h => (hMx k m h).2) h0 (fun lp k W K hK => hassign a lp k W K ht.1.symm hK) hbody ?_ ?_)
  · intro B D W hwD ⟨ρ', m', h1, h2, h3, h4⟩ hDW
    exact behind h2 hn1 (hM _ _ h1).1 hDW (Nat.le_trans hs.size hwD) (h2.far hDW rfl) ht0' hk h3 (by simp [hd]) (fun E' hE' hW => hdone m' E' h1 hE' hW)
  · intro B D k W hwD hkl ⟨ρ', m', h1, h2, h3, h4⟩ hDW
    exact EndE.back h2 hn1 (hMx _ _ h1).1 hDW (Nat.le_trans hs.size hwD) (h2.far hDW rfl) ht0' hk h3 (by simp [hd]) (hret k m' h1)
end Go.Proofs.YtmghmmmfdbafoaaGreatDoor
