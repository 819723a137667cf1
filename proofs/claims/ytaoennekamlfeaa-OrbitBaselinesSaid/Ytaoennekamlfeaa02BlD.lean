/- OrbitBaselines: how its arguments read; the statement. -/
import Derived.Test.Ytaoennekamlfeaa02BlL
import Derived.Test.Ytaoennekamlfeaa02Claim
set_option linter.unusedSimpArgs false
set_option linter.unusedVariables false
namespace Go.Proofs.Ytaoennekamlfeaa.OrbitBaselines
open Go.ChangeShapes Go.WideShapes Go.ChangeAt Go Go.RowKit Go.Ob Go.Ab Go.Proofs.Ytaoennekamlfeaa
set_option maxRecDepth 100000

section
variable {H : Type} {enc : TypeId × Value → H} {w : World} {base : Nat} {spare : Nat → Bool} {held : Bool}
theorem cells_pr : Try.prog.cellsOf 95 = 6 := by kernel_rfl
theorem cells_bs : Try.prog.cellsOf 97 = 5 := by kernel_rfl
theorem ints_bs : intsT Try.prog 3 97 = true := by kernel_rfl

theorem open_sts2 {fuel : Nat} {v : Value} {x : DataW H × List MemPlace} (h : DataW.trod enc Try.prog w base spare held fuel 22 [v] = some x) :
    ∃ a l cap, v = .slice a l.length cap ∧ l.length ≤ cap ∧ cap ≤ maxLen ∧ SlSts w a l ∧ (a = none → cap = 0) := by
  rcases Go.Deep.open_slice Try.underlying22 h with ⟨h1, _⟩ | ⟨a, len, cap, m, n, D, Pl, hcs, hb, hl, hm, hmm, hx, hi⟩
  · simp only [List.cons.injEq, and_true] at h1
    subst h1
    exact ⟨none, [], 0, rfl, by simp, by simp [maxLen], ⟨fun k hk => by simp at hk, fun e => absurd rfl e⟩, fun _ => rfl⟩
  · obtain ⟨a', l, cap', e, h1, h2, h3⟩ := open_sts h
    refine ⟨a', l, cap', e, h1, h2, h3, fun ha => ?_⟩
    subst ha
    simp only [List.cons.injEq, and_true] at hcs
    rw [hcs] at e
    cases e

theorem open_orb {fuel : Nat} {c0 c1 c2 : Value} {x : DataW H × List MemPlace} (h : DataW.trod enc Try.prog w base spare held fuel 24 [c0, c1, c2] = some x) :
    ∃ nm bd a l cap, c0 = .string nm ∧ c1 = .int .i64 bd ∧ c2 = .slice a l.length cap ∧ nm.size ≤ maxLen ∧ l.length ≤ cap ∧ cap ≤ maxLen ∧ SlSts w a l ∧ (a = none → cap = 0) := by
  obtain ⟨xs', n', _, hx', _, hlen', hg'⟩ := DataW.trod_struct Try.underlying24 h
  match xs', hlen' with
  | [z0, z1, z2], _ =>
    have k0 : DataW.trod enc Try.prog w base spare held n' 9 [c0] = some z0 := hg' 0 _ rfl
    have k1 : DataW.trod enc Try.prog w base spare held n' 3 [c1] = some z1 := hg' 1 _ rfl
    have k2 : DataW.trod enc Try.prog w base spare held n' 22 [c2] = some z2 := hg' 2 _ rfl
    obtain ⟨s, e0, _, hs⟩ := DataW.trod_string Try.underlying9 k0
    obtain ⟨bd, e1, _, hw⟩ := DataW.trod_int Try.underlying3 k1
    obtain ⟨a, l, cap, rfl, hl, hc, hS, hz⟩ := open_sts2 k2
    simp only [List.cons.injEq, and_true] at e0 e1
    exact ⟨s, bd, a, l, cap, e0, e1, rfl, hs, hl, hc, hS, hz⟩

theorem open_pair {r : Reach} {b0 : Nat} {v : Value} {d : DataW H} {p : List MemPlace} (hv : Value.okWide Try.prog w r b0 95 v) (h : DataW.Trod enc Try.prog w base spare held 95 v d p) :
    ∃ nm bd a l cap nm' bd' a' l' cap', v = .agg #[.string nm, .int .i64 bd, .slice a (List.length (α := St) l) cap, .string nm', .int .i64 bd', .slice a' (List.length (α := St) l') cap'] ∧ nm.size ≤ maxLen ∧ l.length ≤ cap ∧ cap ≤ maxLen ∧ SlSts w a l ∧ (a = none → cap = 0) ∧
      nm'.size ≤ maxLen ∧ l'.length ≤ cap' ∧ cap' ≤ maxLen ∧ SlSts w a' l' ∧ (a' = none → cap' = 0) := by
  obtain ⟨cs, rfl, hsz⟩ := okWide_struct Try.underlying95 hv
  obtain ⟨l⟩ := cs
  match l, hsz.trans cells_pr with
  | [c0, c1, c2, c3, c4, c5], _ =>
    obtain ⟨fuel, hf⟩ := h
    obtain ⟨xs, n, _, hx, _, hlen, hg⟩ := DataW.trod_struct Try.underlying95 hf
    match xs, hlen with
    | [y0, y1], _ =>
      have g0 : DataW.trod enc Try.prog w base spare held n 24 [c0, c1, c2] = some y0 := hg 0 _ rfl
      have g1 : DataW.trod enc Try.prog w base spare held n 24 [c3, c4, c5] = some y1 := hg 1 _ rfl
      obtain ⟨nm, bd, a, l, cap, rfl, rfl, rfl, h1, h2, h3, h4, h5⟩ := open_orb g0
      obtain ⟨nm', bd', a', l', cap', rfl, rfl, rfl, k1, k2, k3, k4, k5⟩ := open_orb g1
      exact ⟨nm, bd, a, l, cap, nm', bd', a', l', cap', rfl, h1, h2, h3, h4, h5, k1, k2, k3, k4, k5⟩

theorem open_base {r : Reach} {b0 : Nat} {v : Value} {d : DataW H} {p : List MemPlace} (hv : Value.okWide Try.prog w r b0 97 v) (h : DataW.Trod enc Try.prog w base spare held 97 v d p) :
    ∃ f s x y z, v = askV f s x y z := by
  obtain ⟨cs, rfl, hsz⟩ := okWide_struct Try.underlying97 hv
  obtain ⟨l⟩ := cs
  obtain ⟨fuel, hf⟩ := h
  have hi := ints_of 3 _ _ _ _ ints_bs hf
  match l, hsz.trans cells_bs, hi with
  | [c0, c1, c2, c3, c4], _, hi =>
    obtain ⟨a, rfl, _⟩ := hi c0 (by simp [Value.cells])
    obtain ⟨b, rfl, _⟩ := hi c1 (by simp [Value.cells])
    obtain ⟨c, rfl, _⟩ := hi c2 (by simp [Value.cells])
    obtain ⟨d, rfl, _⟩ := hi c3 (by simp [Value.cells])
    obtain ⟨e, rfl, _⟩ := hi c4 (by simp [Value.cells])
    exact ⟨a, b, c, d, e, rfl⟩
end

/-- Where the states of an orbit lie. -/
def plO (a : Option Addr) (l : List St) : Option Pl := if l = [] then none else a.map fun x => ⟨x.block, x.off, 0, 0⟩
def renO (p0 p1 : Option Pl) : Ren := fun b => if b = 0 then p0 else if b = 1 then p1 else none

theorem va_rel {w : World} {ρ : Ren} {i : Nat} {a : Option Addr} {l : List St} {cap : Nat} (hS : SlSts w a l) (hc : l.length ≤ cap) (hz : a = none → cap = 0) (hρ : ρ i = plO a l) : VRel ρ (va i l a.isNone) (.slice a l.length cap) := by
  unfold va
  by_cases hl : l = []
  · rw [if_pos hl]
    subst hl
    cases a with
    | none => rw [hz rfl]; exact .scal rfl
    | some a => exact .lost
  · rw [if_neg hl]
    obtain ⟨b, off, rfl, hb, hm⟩ := hS.mem hl
    unfold plO at hρ
    rw [if_neg hl] at hρ
    have := VRel.slice (ρ := ρ) (b := i) (o := 0) (n := l.length) (c := INF) (c' := cap) hρ hc (fun h => absurd h (by decide)) (fun h => absurd rfl h)
    simpa using this

theorem bl_rel {w : World} {ρ : Ren} {i : Nat} {a : Option Addr} {l : List St} (hS : SlSts w a l) (hρ : ρ i = plO a l) {blk : Blk} (hb : bl l = some blk) : ∃ pl, ρ i = some pl ∧ BRel ρ blk pl w := by
  unfold bl at hb
  split at hb
  · cases hb
  · rename_i hl
    cases hb
    obtain ⟨b, off, rfl, hbw, hm⟩ := hS.mem hl
    unfold plO at hρ
    rw [if_neg hl] at hρ
    obtain ⟨pl, h1, ⟨c, ty, fr, k0, k1, k2, k3⟩, _⟩ := mrel1 hm hbw (by cases l <;> simp_all) 0 _ rfl
    cases h1
    exact ⟨_, hρ, ⟨c, ty, fr, k0, k1, fun j v hv => by
      obtain ⟨v', q1, q2⟩ := k2 j v hv
      have hsc := List.all_eq_true.1 (flatS_scal l) v (List.mem_of_getElem? hv)
      rw [q2.of_scal hsc] at q1
      exact ⟨v, q1, .scal hsc⟩, k3⟩⟩

theorem glue {f : FuncId} {nm1 nm2 : ByteArray} {bd1 bd2 : Int} {a1 a2 : Option Addr} {l1 l2 : List St} {cap1 cap2 : Nat} {u : Value} {w : World} (hu : flat u = true) (h1 : SlSts w a1 l1) (h2 : SlSts w a2 l2) (c1 : l1.length ≤ cap1) (c2 : l2.length ≤ cap2) (z1 : a1 = none → cap1 = 0) (z2 : a2 = none → cap2 = 0)
    (h : PCalls Try.prog f [prV nm1 bd1 (va 0 l1 a1.isNone) nm2 bd2 (va 1 l2 a2.isNone), u] [bl l1, bl l2] (.bool true)) :
    Calls Try.prog f #[.agg #[.string nm1, .int .i64 bd1, .slice a1 l1.length cap1, .string nm2, .int .i64 bd2, .slice a2 l2.length cap2], u] w fun e w' => e = .returned (.bool true) ∧ Below w.heap.size w w' := by
  refine (h (renO (plO a1 l1) (plO a2 l2)) _ w (fun b pl hb => ?_) ?_ (fun b blk hb => ?_)).mono fun e w' ⟨v', he, hr, hb⟩ => ⟨by rw [he, hr.bool], hb⟩
  · unfold renO at hb
    simp
    split at hb
    · omega
    · split at hb
      · omega
      · cases hb
  · refine .tuple rfl fun i h h' => ?_
    match i, h with
    | 0, _ =>
      refine .agg rfl fun j g g' => ?_
      match j, g with
      | 0, _ => exact .scal rfl
      | 1, _ => exact .scal rfl
      | 2, _ => exact va_rel h1 c1 z1 rfl
      | 3, _ => exact .scal rfl
      | 4, _ => exact .scal rfl
      | 5, _ => exact va_rel h2 c2 z2 rfl
    | 1, _ => exact .flat hu
  · have hlt := Mem.at_lt hb
    match b, hlt with
    | 0, _ =>
      obtain ⟨pl, k1, k2⟩ := bl_rel (ρ := renO (plO a1 l1) (plO a2 l2)) (i := 0) h1 rfl hb
      exact ⟨pl, k1, k2, fun ho => by rw [bl_ro l1 _ hb] at ho; cases ho⟩
    | 1, _ =>
      obtain ⟨pl, k1, k2⟩ := bl_rel (ρ := renO (plO a1 l1) (plO a2 l2)) (i := 1) h2 rfl hb
      exact ⟨pl, k1, k2, fun ho => by rw [bl_ro l2 _ hb] at ho; cases ho⟩
    | b + 2, h => simp at h; omega

theorem walk (nm1 nm2 : ByteArray) (bd1 bd2 : Int) (a1 a2 : Option Addr) (l1 l2 : List St) (cap1 cap2 : Nat) (f s x y z : Int) (w : World) (hn1 : nm1.size ≤ maxLen) (hc1 : l1.length ≤ cap1) (hm1 : cap1 ≤ maxLen) (hS1 : SlSts w a1 l1) (hz1 : a1 = none → cap1 = 0)
    (hn2 : nm2.size ≤ maxLen) (hc2 : l2.length ≤ cap2) (hm2 : cap2 ≤ maxLen) (hS2 : SlSts w a2 l2) (hz2 : a2 = none → cap2 = 0) :
    Calls Try.prog 12 #[.agg #[.string nm1, .int .i64 bd1, .slice a1 l1.length cap1, .string nm2, .int .i64 bd2, .slice a2 l2.length cap2], askV f s x y z] w fun e w' => e = .returned (.bool true) ∧ Below w.heap.size w w' := by
  simp only [maxLen] at hn1 hm1 hn2 hm2
  refine glue rfl hS1 hS2 hc1 hc2 hz1 hz2 ?_
  cases hf : (fewB nm1.size l1.length && fewB nm2.size l2.length) with
  | false => exact law_no f s x y z _ _ hS1.wf hS2.wf (by omega) (by omega) (by omega) (by omega) hf
  | true =>
    obtain ⟨hf1, hf2⟩ : fewB nm1.size l1.length = true ∧ fewB nm2.size l2.length = true := by simpa using hf
    obtain ⟨k1, k2⟩ := fewB_spec hf1
    obtain ⟨k3, k4⟩ := fewB_spec hf2
    have ho1 : Ors nm1 l1 := ⟨by omega, hS1.wf, by omega⟩
    have ho2 : Ors nm2 l2 := ⟨by omega, hS2.wf, by omega⟩
    by_cases he : firstE [(orbE nm1.data.toList bd1 l1).2, (orbE nm2.data.toList bd2 l2).2] = 0
    · have he1 : (orbE nm1.data.toList bd1 l1).2 = 0 := by
        unfold firstE at he
        split at he
        · assumption
        · contradiction
      have he2 : (orbE nm2.data.toList bd2 l2).2 = 0 := by
        unfold firstE firstE at he
        rw [if_pos he1] at he
        split at he
        · assumption
        · contradiction
      have hR1 := (orbE_right he1).1
      have hR2 := (orbE_right he2).1
      have hl1 : l1 ≠ [] := fun h => by have := hR1.n2; rw [h] at this; simp at this
      have hl2 : l2 ≠ [] := fun h => by have := hR2.n2; rw [h] at this; simp at this
      rw [show va 0 l1 a1.isNone = .slice (some ⟨0, 0, none⟩) l1.length INF by unfold va; rw [if_neg hl1], show va 1 l2 a2.isNone = .slice (some ⟨1, 0, none⟩) l2.length INF by unfold va; rw [if_neg hl2],
        show [bl l1, bl l2] = two l1 l2 0 0 by unfold bl; rw [if_neg hl1, if_neg hl2]]
      have m1 : nm1.size ≤ 1000 := by omega
      have m2 : nm2.size ≤ 1000 := by omega
      cases hh : (rngB f (frstT l1) (lastT l1) && rngB s (frstT l2) (lastT l2)) with
      | false =>
        exact law_c f s x y z 2 m1 m2 hR1 hR2 he1 he2 hf1 hf2 (by decide) (fun _ _ => Baseline_has f s x y z m1 m2 hR1 hR2 he1 he2 hh) (fun _ _ => BaseErr_2 f s x y z m1 m2 hR1 hR2 (by rw [hh]; rfl))
      | true =>
        obtain ⟨t1, t2⟩ : (frstT l1 ≤ f ∧ f ≤ lastT l1) ∧ (frstT l2 ≤ s ∧ s ≤ lastT l2) := by simpa [rngB] using hh
        by_cases hpl : placeE x y z = 0
        · by_cases hsm : (-1000000 ≤ (nom l2 s).x - (nom l1 f).x ∧ (nom l2 s).x - (nom l1 f).x ≤ 1000000) ∧ (-1000000 ≤ (nom l2 s).y - (nom l1 f).y ∧ (nom l2 s).y - (nom l1 f).y ≤ 1000000) ∧ (-1000000 ≤ (nom l2 s).z - (nom l1 f).z ∧ (nom l2 s).z - (nom l1 f).z ≤ 1000000)
          · by_cases hz : (x - (nom l1 f).x, y - (nom l1 f).y, z - (nom l1 f).z) = (0, 0, 0)
            · refine law_c f s x y z 11 m1 m2 hR1 hR2 he1 he2 hf1 hf2 (by decide) (fun _ _ => Baseline_zero f s x y z _ _ m1 m2 hR1 hR2 he1 he2 t1 t2 hpl rfl rfl _ _ _ _ _ _ rfl rfl rfl rfl rfl rfl hsm hz) (fun _ _ => BaseErr_0 f s x y z _ _ m1 m2 hR1 hR2 t1 t2 hpl rfl rfl _ _ _ rfl rfl rfl hsm 11 ?_)
              simp only [Prod.mk.injEq] at hz ⊢
              rw [if_pos (by omega)]
            · have hB := bs_of hsm.1 hsm.2.1 hsm.2.2 (s1 := x - (nom l1 f).x) (s2 := y - (nom l1 f).y) (s3 := z - (nom l1 f).z) (by have := (nom_bd hR1 t1.1 t1.2).1; have := (placeE_zero hpl).1; omega) (by have := (nom_bd hR1 t1.1 t1.2).2.1; have := (placeE_zero hpl).2.1; omega) (by have := (nom_bd hR1 t1.1 t1.2).2.2; have := (placeE_zero hpl).2.2; omega) hz rfl rfl rfl rfl rfl
              refine law_0 f s x y z _ _ _ _ m1 m2 hR1 hR2 he1 he2 hf1 hf2 ⟨hB.along.2.1, c_le hB.allb.2 hB.along⟩ (fun _ _ => Baseline_w f s x y z _ _ m1 m2 hR1 hR2 he1 he2 t1 t2 hpl rfl rfl _ _ _ _ _ _ rfl rfl rfl rfl rfl rfl _ _ _ _ _ rfl rfl rfl rfl rfl hsm hz) (fun _ _ => BaseErr_0 f s x y z _ _ m1 m2 hR1 hR2 t1 t2 hpl rfl rfl _ _ _ rfl rfl rfl hsm 0 ?_)
                (fun _ _ => rBaseline_q f s x y z _ _ m1 m2 hR1 hR2 t1 t2 hpl rfl rfl _ _ _ _ _ _ rfl rfl rfl rfl rfl rfl _ _ _ _ _ rfl rfl rfl rfl rfl hsm hz)
              simp only [Prod.mk.injEq] at hz ⊢
              rw [if_neg (by omega)]
          · exact law_c f s x y z 8 m1 m2 hR1 hR2 he1 he2 hf1 hf2 (by decide) (fun _ _ => Baseline_big f s x y z _ _ m1 m2 hR1 hR2 he1 he2 t1 t2 hpl rfl rfl _ _ _ _ _ _ rfl rfl rfl rfl rfl rfl hsm) (fun _ _ => BaseErr_8 f s x y z _ _ m1 m2 hR1 hR2 t1 t2 hpl rfl rfl _ _ _ rfl rfl rfl hsm)
        · have h2 : placeE x y z = 2 := by
            rcases bnd_or x (-100000000) 100000000 with h | h <;> rcases bnd_or y (-100000000) 100000000 with h' | h' <;> rcases bnd_or z (-100000000) 100000000 with h'' | h'' <;> simp [placeE, firstE, h, h', h''] at hpl ⊢
          exact law_c f s x y z 2 m1 m2 hR1 hR2 he1 he2 hf1 hf2 (by decide) (fun _ _ => h2 ▸ Baseline_pl f s x y z (nom l1 f) (nom l2 s) m1 m2 hR1 hR2 he1 he2 t1 t2 hpl) (fun _ _ => BaseErr_2 f s x y z m1 m2 hR1 hR2 (by rw [show plB x y z = false by simp [plB, hpl]]; simp))
    · exact law_e f s x y z _ _ ho1 ho2 _ _ rfl rfl hf1 hf2 ⟨by omega, by omega⟩ he

set_option maxRecDepth 100000 in
theorem lifted (os : Os) (started : os.Started) (H : Type) (enc : TypeId × Value → H) :
    ReturnsInHanded {} Try.checked os 12 .any (Rows.orbitBaselinesSpec.pre6 enc Try.prog Try.f12 Rows.orbitBaselinesRow.domain false) (Rows.orbitBaselinesSpec.post enc Try.prog Try.f12 false true false false) := by
  refine returnsInHanded_of_change (C := Try.checked) own started (by kernel_rfl) Try.func12
    (ChangeSpec.witness6 (enc := enc) (C := Try.checked) false ⟨#[], #[.agg #[.string ⟨#[]⟩, .int .i64 0, .slice none 0 0, .string ⟨#[]⟩, .int .i64 0, .slice none 0 0], .agg #[.int .i64 0, .int .i64 0, .int .i64 0, .int .i64 0, .int .i64 0]], []⟩ 8 (by kernel_rfl) (by kernel_rfl) (by kernel_rfl) (by kernel_rfl)) ?_
  intro W base args ds gs before hval0 hW hcnd _
  have hval : ∀ (j : Nat) t v, Try.f12.params[j]? = some t → args[j]? = some v → Value.okWide Try.prog W .any base t v := hval0
  have hW' := hW
  obtain ⟨p, q, hA0, hV, rfl, hfz, hnd⟩ := hW
  have hA : DataW.TrodAll enc Try.prog W 0 (fun _ => true) true Try.f12.params.toList args.toList ds p := hA0
  rw [Try.params12] at hA hval
  obtain ⟨v0, vs0, d0, ds0, p0, q0, hargs, rfl, rfl, h0, r0⟩ := trodAll_cons hA
  obtain ⟨v1, vs1, d1, ds1, p1, q1, rfl, rfl, rfl, h1, r1⟩ := trodAll_cons r0
  obtain ⟨rfl, rfl, rfl⟩ := trodAll_nil r1
  obtain rfl : args = #[v0, v1] := by cases args; simp_all
  obtain ⟨rfl, rfl⟩ := trodVars_none hV
  clear hA0 hval0
  have hlt := hW'.lt
  have g0 := h0
  have g1 := h1
  obtain ⟨nm0, bd0, a0, l0, cap0, nn0, be0, aa0, ll0, cc0, rfl, hnm0, hcap0, hcm0, hS0, hz0, hnn0, hcc0, hcn0, hT0, hy0⟩ := open_pair (hval 0 95 v0 rfl rfl) h0
  obtain ⟨f1, s1, x1, y1, z1, rfl⟩ := open_base (hval 1 97 v1 rfl rfl) h1
  simp only [List.append_nil] at hW' hlt ⊢
  refine (walk nm0 nn0 bd0 be0 a0 aa0 l0 ll0 cap0 cc0 f1 s1 x1 y1 z1 W hnm0 hcap0 hcm0 hS0 hz0 hnn0 hcc0 hcn0 hT0 hy0).mono fun e W' ⟨he, hb⟩ => ?_
  subst he
  have stay : ∀ (t : TypeId) v d ps (sp : Nat → Bool), Try.prog.readableRec t = true → t < Try.prog.types.size → DataW.Trod enc Try.prog W 0 (fun _ => true) true t v d ps → (∀ x ∈ ps, x.block < W.heap.size) → (∀ x ∈ ps, sp x.block = true) → DataW.Trod enc Try.prog W' 0 sp true t v d ps :=
    fun t v d ps sp hr ht h hx hs => Go.WideElems.Trod_stays laid hr ht h (fun x hxp => hb.same (hx x hxp)) hs
  exact ⟨_, rfl, post_below (pa := p0 ++ (p1 ++ [])) (pv := []) hW' (fun _ _ _ => trodAll_mk1 (shut_bool Try.underlying4 true)) (fun sp hs => (trodAll_cons_mk (stay 95 _ _ _ sp (by kernel_rfl) (of_decide_eq_true (by kernel_rfl)) g0 (fun x hx => hlt x (by simp [hx])) (fun x hx => hs x (by simp [hx]))) (trodAll_cons_mk (stay 97 _ _ _ sp (by kernel_rfl) (of_decide_eq_true (by kernel_rfl)) g1 (fun x hx => hlt x (by simp [hx])) (fun x hx => hs x (by simp [hx]))) (trodAll_mk0)))) (fun _ _ => rfl) (by simp)
    hb (ok_one (by kernel_rfl) rfl (okWide_bool_mk Try.underlying4 true))⟩

theorem over : Rows.orbitBaselinesRow.holds Try.pinned (OpenSpec.ofChange Rows.orbitBaselinesSpec) :=
  OpenClaim.holds_of_wide 12 Try.f12 rfl rfl rfl rfl rfl rfl rfl ⟨rfl, rfl, rfl, rfl, rfl⟩ rfl rfl rfl rfl rfl (by kernel_rfl) Try.func12 (by kernel_rfl)
    (of_decide_eq_true (by kernel_rfl)) (by unfold Func.isWrapper; first | (rw [if_pos (by decide +kernel)]; kernel_rfl) | (rw [if_neg (by decide +kernel)]; exact ⟨rfl, rfl⟩))
    (fun os started H enc _ => lifted os started H enc)

/-- The statement. -/
theorem proved : Rows.OrbitBaselinesSaid := over
#print axioms proved
end Go.Proofs.Ytaoennekamlfeaa.OrbitBaselines
