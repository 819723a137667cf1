/- OrbitSurely: joined. -/
import Derived.Test.Ytaoennekamlfeaa02V
import Derived.Test.Ytaoennekamlfeaa02W
set_option linter.unusedSimpArgs false
set_option linter.unusedVariables false
namespace Go.Proofs.Ytaoennekamlfeaa.OrbitSurely
open Go.ChangeShapes Go.WideShapes Go.ChangeAt Go.RowKit Go.Ob Go.Proofs.Ytaoennekamlfeaa

theorem walk (nm : ByteArray) (bd x y z lo hi wi : Int) (a a2 : Option Addr) (l : List St) (L : List P3) (cap cap2 : Nat) (w : World) (hnm : nm.size ≤ maxLen) (hcap : l.length ≤ cap) (hcm : cap ≤ maxLen) (hS : SlSts w a l) (hcap2 : L.length ≤ cap2) (hcm2 : cap2 ≤ maxLen)
    (hCH : L ≠ [] → ∃ b off, a2 = some ⟨b, off, none⟩ ∧ b < w.heap.size ∧ HasCh w b off L) :
    Calls Try.prog 7 #[flV nm bd a l.length cap a2 L.length cap2, v3 x y z, cnV lo hi wi] w fun e w' => e = .returned (.bool true) ∧ Below w.heap.size w w' := by
  simp only [maxLen] at hnm hcm hcm2
  cases hf : fewB nm.size l.length with
  | false => exact walk_no nm bd x y z lo hi wi a a2 l.length cap L.length cap2 w (fun w' _ => Brief_no nm bd a l.length cap w' (by omega) (by omega) hf)
  | true =>
    have hO : OrbIn w nm a cap l := ⟨by have := (fewB_spec hf).1; omega, hS, hcap, by omega⟩
    have HB := fun w' (h : Below w.heap.size w w') => Brief_yes nm bd a cap l w' (hO.below h) hf
    cases hbr : briefB nm.data.toList bd l with
    | false => rw [hbr] at HB; exact walk_no nm bd x y z lo hi wi a a2 l.length cap L.length cap2 w HB
    | true =>
      rw [hbr] at HB
      have h40 := (fewB_spec hf).2
      by_cases hE : (orbE nm.data.toList bd l).2 = 0
      · cases hp : plB x y z with
        | false => exact walk_out nm bd x y z lo hi wi a a2 cap L.length cap2 l w hO (by omega) HB (.inr (.inl ⟨hE, hp⟩))
        | true =>
          by_cases h0 : L.length = 0
          · exact walk_out nm bd x y z lo hi wi a a2 cap L.length cap2 l w hO (by omega) HB (.inr (.inr (.inl ⟨hE, hp, h0⟩)))
          · by_cases h250 : 250 < L.length
            · exact walk_out nm bd x y z lo hi wi a a2 cap L.length cap2 l w hO (by omega) HB (.inr (.inr (.inr ⟨hE, hp, h250⟩)))
            · have h : plE nm.data.toList bd l x y z = 0 := (firstE_two _ _).2 ⟨hE, of_decide_eq_true hp⟩
              by_cases hc : (cnR bd l x y z lo hi wi).2 = 0
              · obtain ⟨b, off, rfl, hb, hC⟩ := hCH (fun e => h0 (by rw [e]; rfl))
                exact walk_ok nm bd x y z lo hi wi a b off cap cap2 l L w hO h40 h0 (by omega) HB hb hC h hc
              · exact walk_err nm bd x y z lo hi wi a a2 cap L.length cap2 l w hO h40 h0 (by omega) HB h hc
      · exact walk_out nm bd x y z lo hi wi a a2 cap L.length cap2 l w hO (by omega) HB (.inl hE)

set_option maxRecDepth 100000 in
theorem lifted (os : Os) (started : os.Started) (H : Type) (enc : TypeId × Value → H) :
    ReturnsInHanded {} Try.checked os 7 .any (Rows.orbitSurelySpec.pre6 enc Try.prog Try.f7 Rows.orbitSurelyRow.domain false) (Rows.orbitSurelySpec.post enc Try.prog Try.f7 false true false false) := by
  refine returnsInHanded_of_change (C := Try.checked) own started (by kernel_rfl) Try.func7
    (ChangeSpec.witness6 (enc := enc) (C := Try.checked) false ⟨#[], #[.agg #[.string ⟨#[]⟩, .int .i64 0, .slice none 0 0, .slice none 0 0], .agg #[.int .i64 0, .int .i64 0, .int .i64 0], .agg #[.int .i64 0, .int .i64 0, .int .i64 0]], []⟩ 8 (by kernel_rfl) (by kernel_rfl) (by kernel_rfl) (by kernel_rfl)) ?_
  intro W base args ds gs before hval0 hW hcnd _
  have hval : ∀ (j : Nat) t v, Try.f7.params[j]? = some t → args[j]? = some v → Value.okWide Try.prog W .any base t v := hval0
  have hW' := hW
  obtain ⟨p, q, hA0, hV, rfl, hfz, hnd⟩ := hW
  have hA : DataW.TrodAll enc Try.prog W 0 (fun _ => true) true Try.f7.params.toList args.toList ds p := hA0
  rw [Try.params7] at hA hval
  obtain ⟨v0, vs0, d0, ds0, p0, q0, hargs, rfl, rfl, h0, r0⟩ := trodAll_cons hA
  obtain ⟨v1, vs1, d1, ds1, p1, q1, rfl, rfl, rfl, h1, r1⟩ := trodAll_cons r0
  obtain ⟨v2, vs2, d2, ds2, p2, q2, rfl, rfl, rfl, h2, r2⟩ := trodAll_cons r1
  obtain ⟨rfl, rfl, rfl⟩ := trodAll_nil r2
  obtain rfl : args = #[v0, v1, v2] := by cases args; simp_all
  obtain ⟨rfl, rfl⟩ := trodVars_none hV
  clear hA0 hval0
  have hlt := hW'.lt
  have g0 := h0
  have g1 := h1
  have g2 := h2
  obtain ⟨nm0, bd0, a0, l0, cap0, ax0, lx0, capx0, rfl, hnm0, hcap0, hcm0, hS0, hcapx0, hcmx0, hCH0⟩ := open_flight (hval 0 66 v0 rfl rfl) h0
  obtain ⟨px1, py1, pz1, rfl, hpx1, hpy1, hpz1⟩ := open_place (hval 1 26 v1 rfl rfl) h1
  obtain ⟨lo2, hi2, wi2, rfl, hlo2, hhi2, hwi2⟩ := open_near (hval 2 58 v2 rfl rfl) h2
  simp only [List.append_nil] at hW' hlt ⊢
  refine (walk nm0 bd0 px1 py1 pz1 lo2 hi2 wi2 a0 ax0 l0 lx0 cap0 capx0 W hnm0 hcap0 hcm0 hS0 hcapx0 hcmx0 hCH0).mono fun e W' ⟨he, hb⟩ => ?_
  subst he
  have stay : ∀ (t : TypeId) v d ps (sp : Nat → Bool), Try.prog.readableRec t = true → t < Try.prog.types.size → DataW.Trod enc Try.prog W 0 (fun _ => true) true t v d ps → (∀ x ∈ ps, x.block < W.heap.size) → (∀ x ∈ ps, sp x.block = true) → DataW.Trod enc Try.prog W' 0 sp true t v d ps :=
    fun t v d ps sp hr ht h hx hs => Go.WideElems.Trod_stays laid hr ht h (fun x hxp => hb.same (hx x hxp)) hs
  exact ⟨_, rfl, post_below (pa := p0 ++ (p1 ++ (p2 ++ []))) (pv := []) hW' (fun _ _ _ => trodAll_mk1 (shut_bool Try.underlying4 true)) (fun sp hs => (trodAll_cons_mk (stay 66 _ _ _ sp (by kernel_rfl) (of_decide_eq_true (by kernel_rfl)) g0 (fun x hx => hlt x (by simp [hx])) (fun x hx => hs x (by simp [hx]))) (trodAll_cons_mk (stay 26 _ _ _ sp (by kernel_rfl) (of_decide_eq_true (by kernel_rfl)) g1 (fun x hx => hlt x (by simp [hx])) (fun x hx => hs x (by simp [hx]))) (trodAll_cons_mk (stay 58 _ _ _ sp (by kernel_rfl) (of_decide_eq_true (by kernel_rfl)) g2 (fun x hx => hlt x (by simp [hx])) (fun x hx => hs x (by simp [hx]))) (trodAll_mk0))))) (fun _ _ => rfl) (by simp)
    hb (ok_one (by kernel_rfl) rfl (okWide_bool_mk Try.underlying4 true))⟩

theorem over : Rows.orbitSurelyRow.holds Try.pinned (OpenSpec.ofChange Rows.orbitSurelySpec) :=
  OpenClaim.holds_of_wide 7 Try.f7 rfl rfl rfl rfl rfl rfl rfl ⟨rfl, rfl, rfl, rfl, rfl⟩ rfl rfl rfl rfl rfl (by kernel_rfl) Try.func7 (by kernel_rfl)
    (of_decide_eq_true (by kernel_rfl)) (by unfold Func.isWrapper; first | (rw [if_pos (by decide +kernel)]; kernel_rfl) | (rw [if_neg (by decide +kernel)]; exact ⟨rfl, rfl⟩))
    (fun os started H enc _ => lifted os started H enc)

/-- The statement. -/
theorem proved : Rows.OrbitSurelySaid := over
#print axioms proved
end Go.Proofs.Ytaoennekamlfeaa.OrbitSurely
