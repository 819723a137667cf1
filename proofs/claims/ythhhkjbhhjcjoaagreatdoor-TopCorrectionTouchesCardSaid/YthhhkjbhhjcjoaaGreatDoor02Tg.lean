/- The variables of the library that lie as the text lays them; calls that hang on them. -/
/- TopCorrectionTouches: what a correction touches: the statement. -/
import Derived.Test.YthhhkjbhhjcjoaaGreatDoor02lb
import Derived.Test.YthhhkjbhhjcjoaaGreatDoor02Claim
import Derived.Test.YthhhkjbhhjcjoaaGreatDoorTie
import Derived.Test.YthhhkjbhhjcjoaaGreatDoorCards
import Derived.LaidLaws
import Derived.LaidMore
import Derived.Handed
import Derived.SevenTiedAt
import Derived.JoinedOf
import Derived.Test.YthhhkjbhhjcjoaaGreatDoor02Te
set_option linter.unusedSimpArgs false
set_option linter.unusedVariables false
section
section
namespace Go.Proofs.YthhhkjbhhjcjoaaGreatDoor
open Go.ChangeShapes Go.WideShapes Go.ChangeAt Go Go.RowKit Go.Ob Go.Ab Go.Lib Go.Tx
set_option maxRecDepth 100000
set_option maxHeartbeats 4000000
/-- The variables that the statement lists. -/
abbrev lst : List (String × DataW Unit) := Rows.orbitStatesRow.laid
theorem starE : "*" ++ "errors.errorString" = "*errors.errorString" := by decide
theorem row_err (u : TypeId) (h : Tryz.prog.typeName? 3 u = some "*errors.errorString") : u = 226 :=
  typeName_ptr_named (nm := "errors.errorString") (by rw [starE]; kernel_rfl) (by kernel_rfl) (by decide) u (by rw [starE]; exact h)
section
variable {W : World}
theorem lb_of (hL : laidMet Tryz.prog lst W) (hsh : W.ShapedOpen Tryz.prog) : Lb W.heap.size W := by
  have h2 := hL.tail.tail
  have h4 := h2.tail.tail
  have h5 := h4.tail
  have h6 := hL.tail
  have ht : Lib.TabIs Tryz.prog W _ .u64 Lib.pow10Tab := Lib.tabIs_of_head (g := 0) (t := 208) (e := 190) (n := 20) (by kernel_rfl) (by kernel_rfl) (by kernel_rfl) (by kernel_rfl) (by kernel_rfl) (by kernel_rfl) h2
  obtain ⟨a1, s1, hv1, _⟩ := laid_sentinel (g := 3) (ti := 96) (tp := 226) (te := 228) (ts := 9) h4 (by kernel_rfl) (by kernel_rfl) Tryz.underlying96 row_err Tryz.underlying226 Tryz.underlying228 rfl rfl Tryz.underlying9 (by kernel_rfl) (by kernel_rfl)
  obtain ⟨a2, s2, hv2, _⟩ := laid_sentinel (g := 2) (ti := 96) (tp := 226) (te := 228) (ts := 9) h5 (by kernel_rfl) (by kernel_rfl) Tryz.underlying96 row_err Tryz.underlying226 Tryz.underlying228 rfl rfl Tryz.underlying9 (by kernel_rfl) (by kernel_rfl)
  have hm := cell_of_shapedOpen_int (g := 1) (t := 3) (zero := #[.int .i64 0]) (k := .i64) hsh (of_decide_eq_true (by kernel_rfl)) (by kernel_rfl) rfl (by kernel_rfl) (by kernel_rfl) Tryz.underlying3
  refine ⟨?_, ?_, hm, ?_, ?_⟩
  · obtain ⟨_, ⟨g0, _, _, _, _, _, hg0, _, hv0, _⟩, _⟩ := h6
    obtain rfl := Option.some.inj ((show Tryz.prog.globalNamed _ = some 7 by kernel_rfl).symm.trans hg0)
    unfold World.var? at hv0
    rw [hg0] at hv0
    simp only [Option.bind_some] at hv0
    rcases Nat.lt_or_ge 7 W.heap.size with h | h
    · exact h
    · rw [Array.getElem?_eq_none h] at hv0
      cases hv0
  · unfold Lib.TabIs World.var? at ht
    rw [show Tryz.prog.globalNamed _ = some 0 by kernel_rfl] at ht
    simp only [Option.bind_some] at ht
    split at ht
    · rename_i cs ty fr he
      cases ht
      exact ⟨ty, fr, he⟩
    · cases ht
  · have := World.var?_cell (by kernel_rfl : Tryz.prog.globalNamed _ = some 2) hv2 0
    exact ⟨_, _, by simpa using this⟩
  · have := World.var?_cell (by kernel_rfl : Tryz.prog.globalNamed _ = some 3) hv1 0
    exact ⟨_, _, by simpa using this⟩
end
theorem okS5 {a b c d e : Int} (h0 : -9223372036854775808 ≤ a ∧ a ≤ 9223372036854775807) (h1 : -9223372036854775808 ≤ b ∧ b ≤ 9223372036854775807) (h2 : -9223372036854775808 ≤ c ∧ c ≤ 9223372036854775807) (h3 : -9223372036854775808 ≤ d ∧ d ≤ 9223372036854775807) (h4 : -9223372036854775808 ≤ e ∧ e ≤ 9223372036854775807) : okS ⟨a, b, c, d, e⟩ := fun n hn => by
  simp only [numsS, List.mem_cons, List.not_mem_nil, or_false] at hn
  rcases hn with rfl | rfl | rfl | rfl | rfl <;> assumption
/-- A world in which the variables lie as the text lays them. -/
noncomputable def laidWorld (os : Os) : World :=
  let w0 := World.doorLaid Tryz.prog 200 os
  { w0 with heap := w0.heap.modify 4 fun
      | .cells _ t frozen => .cells (Go.Pinned.utf8FirstZ.map fun (z : Nat) => Value.int .u8 (Int.ofNat z)).toArray t frozen
      | o => o }
theorem laid_met (os : Os) (args : Array Value) : laidMet Tryz.prog lst ((laidWorld os).forCall (fun _ _ => 0) ⟨#[], args, []⟩).memory :=
  laidMet_of_run' 8 (by kernel_rfl) (by kernel_rfl)
/-- From the small memory to the machine's. -/
theorem PCallsW.calls {N0 : Nat} {W0 w : World} {P : Program} {f : FuncId} {args : List Value} {v : Value} (h : PCallsW N0 W0 P f args [] v) (hk : args.all flat = true) (hv : flat v = true) (hW : GW N0 W0 w) : Calls P f args.toArray w fun e w' => e = .returned v ∧ Below w.heap.size w w' := by
  refine (h (fun _ => none) args.toArray w hW (fun b pl hb => by cases hb) (.tuple (by simp) fun i hi hi' => ?_) (fun b blk hb => by simp [Mem.at] at hb)).mono ?_
  · simp only [List.getElem_toArray]
    exact .flat (List.all_eq_true.1 hk _ (List.getElem_mem _))
  · rintro e w' ⟨v', rfl, hr, hb⟩
    exact ⟨by rw [hr.of_flat hv], hb⟩
end Go.Proofs.YthhhkjbhhjcjoaaGreatDoor
end
end

section
section
namespace Go.Proofs.YthhhkjbhhjcjoaaGreatDoor
open Go.ChangeShapes Go.WideShapes Go.ChangeAt Go Go.RowKit Go.Ob Go.Ab Go.Lib Go.Tx
set_option maxRecDepth 100000
set_option maxHeartbeats 4000000
theorem glue1W {N0 : Nat} {W0 : World} {f : FuncId} {nm : ByteArray} {bd : Int} {a : Option Addr} {l : List St} {cap : Nat} {us : List Value} {w : World} (hW : GW N0 W0 w) (hu : us.all flat = true) (hS : SlSts w a l) (hc : l.length ≤ cap) (hz : a = none → cap = 0)
    (h : PCallsW N0 W0 Tryz.prog f (obW nm bd (va 0 l a.isNone) :: us) [bl l] (.bool true)) :
    Calls Tryz.prog f (obV nm bd a l.length cap :: us).toArray w fun e w' => e = .returned (.bool true) ∧ Below w.heap.size w w' := by
  refine (h (fun b => if b = 0 then plO a l else none) _ w hW (fun b pl hb => ?_) ?_ (fun b blk hb => ?_)).mono fun e w' ⟨v', he, hr, hb⟩ => ⟨by rw [he, hr.bool], hb⟩
  · have hb' : (if b = 0 then plO a l else none) = some pl := hb
    split at hb'
    · simp; omega
    · cases hb'
  · refine .tuple (by simp) fun i h h' => ?_
    match i, h with
    | 0, _ =>
      refine .agg rfl fun j g g' => ?_
      match j, g with
      | 0, _ => exact .scal rfl
      | 1, _ => exact .scal rfl
      | 2, _ => exact va_rel hS hc hz rfl
    | i + 1, h =>
      have hi : i < us.length := by simpa using h
      have := List.all_eq_true.1 hu us[i] (List.getElem_mem hi)
      simpa using VRel.flat (ρ := fun b => if b = 0 then plO a l else none) this
  · have hlt := Mem.at_lt hb
    match b, hlt with
    | 0, _ =>
      obtain ⟨pl, k1, k2⟩ := bl_rel (ρ := fun b => if b = 0 then plO a l else none) (i := 0) hS rfl hb
      exact ⟨pl, k1, k2, fun ho => by rw [bl_ro l _ hb] at ho; cases ho⟩
    | b + 1, h => simp at h
theorem set_back {l : List St} {k : Nat} {s : St} (hk : k < l.length) : (l.set k s).set k (at_ l k) = l := by
  rw [List.set_set]
  unfold at_
  rw [List.getD_eq_getElem?_getD, List.getElem?_eq_getElem hk]
  exact List.set_getElem_self hk
theorem few_brief {nm : ByteArray} {bd : Int} {l : List St} (he : (orbE nm.data.toList bd l).2 = 0) (hf : (fewB nm.size l.length && briefB nm.data.toList bd l) = true) : lastT l - frstT l ≤ 200 := by
  rw [Bool.and_eq_true] at hf
  rcases of_decide_eq_true hf.2 with h | h
  · exact absurd he h
  · exact h
end Go.Proofs.YthhhkjbhhjcjoaaGreatDoor
namespace Go.Proofs.YthhhkjbhhjcjoaaGreatDoor.TopCorrectionTouches
open Go.ChangeShapes Go.WideShapes Go.ChangeAt Go Go.RowKit Go.Ob Go.Ab Go.Lib Go.Tx Go.Proofs.YthhhkjbhhjcjoaaGreatDoor
set_option maxRecDepth 100000
set_option maxHeartbeats 4000000
theorem walk {w : World} (LB : Lb w.heap.size w) (nm : ByteArray) (bd : Int) (a : Option Addr) (l : List St) (cap : Nat) (t : Int) (s : St) (hnm : nm.size ≤ maxLen) (hc : l.length ≤ cap) (hm : cap ≤ maxLen) (hS : SlSts w a l) (hz : a = none → cap = 0) (hs : okS s) :
    Calls Tryz.prog 5 #[obV nm bd a l.length cap, .int .i64 t, stV s] w fun e w' => e = .returned (.bool true) ∧ Below w.heap.size w w' := by
  simp only [maxLen] at hnm hm
  have hx : -9223372036854775808 ≤ s.t ∧ s.t ≤ 9223372036854775807 := hs s.t (by simp [numsS])
  cases hf : (fewB nm.size l.length && briefB nm.data.toList bd l) with
  | false => exact glue1 (us := [.int .i64 t, stV s]) rfl hS hc hz (TcL_no t s _ hS.wf (by omega) (by omega) hf)
  | true =>
    have hg := hf
    rw [Bool.and_eq_true] at hg
    obtain ⟨k1, k2⟩ := fewB_spec hg.1
    have ho : Ors nm l := ⟨by omega, hS.wf, by omega⟩
    by_cases he : (orbE nm.data.toList bd l).2 = 0
    · have hR := (orbE_right he).1
      have h2 := hR.n2
      have h40 := hR.n40
      have hl : l ≠ [] := fun h => by rw [h] at h2; simp at h2
      have ev : va 0 l a.isNone = .slice (some ⟨0, 0, none⟩) l.length INF := by unfold va; rw [if_neg hl]
      have eb : bl l = some ⟨flatS l, false, 0⟩ := by unfold bl; rw [if_neg hl]
      by_cases hk : rngB t 0 (l.length - 1) = false ∨ stE s ≠ 0
      · refine glue1 (us := [.int .i64 t, stV s]) rfl hS hc hz ?_
        rw [ev, eb]
        exact TcL_6 t s ho hR hf he hk
      · obtain ⟨hk0, hs0⟩ := not_or.1 hk
        have hk1 := rngB_true.1 (by simpa using hk0)
        have hs0 : stE s = 0 := by simpa using hs0
        obtain ⟨k, rfl⟩ : ∃ k : Nat, t = k := ⟨t.toNat, by omega⟩
        have hk' : k < l.length := by omega
        have L := lw_of LB
        refine glue1W (N0 := w.heap.size) (W0 := w) (us := [.int .i64 k, stV s]) ⟨Nat.le_refl _, fun x hx => rfl⟩ rfl hS hc hz ?_
        rw [ev, eb]
        have HF := PCallsW.any (FormatState_w L s hs) rfl rfl
        have HP : ∀ m, PCallsW w.heap.size w Tryz.prog 8 [.string (tx (fmtS s))] m (.tuple #[stV s, .int .i64 0]) := fun m => by
          have hp := ParseState_w L (fmtS s) (by have := fmt_len hs; omega)
          rw [prs_fmt hs0] at hp
          exact PCallsW.any hp rfl rfl m
        have hoa : Ors nm (l.set k s) := ors_set ho hx
        have hb := few_brief he hf
        by_cases hea : (orbE nm.data.toList bd (l.set k s)).2 = 0
        · have hRa := (orbE_right hea).1
          have hC := fun z => Corrected_0c l z hR ho he k hk' s hoa hea
          have hset := set_back (s := s) hk'
          cases hfa : (fewB nm.size (l.set k s).length && briefB nm.data.toList bd (l.set k s)) with
          | false => exact TcL_b k s hk' ho hoa hR hRa hf he hs0 HF HP hea hC hfa
          | true =>
            have hba := few_brief hea hfa
            have hC2 : ∀ z, ACalls Tryz.prog 23 [obI nm bd 0 (l.set k s), .int .i64 k, stV (at_ l k)] [some ⟨flatS (l.set k s), false, z⟩] (.tuple #[obI nm bd 1 l, .int .i64 0]) [some ⟨flatS (l.set k s), false, z⟩, some ⟨flatS l, true, 5⟩] := fun z => by
              have := Corrected_0c (l.set k s) z hRa hoa hea k (by rw [List.length_set]; exact hk') (at_ l k) (by rw [hset]; exact ho) (by rw [hset]; exact he)
              rwa [hset] at this
            have hfl := fl_le hR
            have hfa' := fl_le hRa
            have m1 : nm.size ≤ 1000 := by omega
            have hpl : placeE s.x s.y s.z = 0 := (firstE_0 (firstE_0 hs0).2).1
            have hsq : ∀ (l' : List St) (t : Int), (orbE nm.data.toList bd l').2 = 0 → frstT l' ≤ t → t ≤ lastT l' → sqE nm.data.toList bd l' t s.x s.y s.z = 0 := fun l' t h h0 h1 => by
              unfold sqE
              rw [atE_of h h0 h1, hpl]
              rfl
            have HD1 : ∀ m v t, SlB m v l → frstT l ≤ t → t ≤ lastT l → PCalls Tryz.prog 28 [obW nm bd v, .int .i64 t, v3 s.x s.y s.z] m (.tuple #[.agg #[.int .i64 (distOr nm.data.toList bd l t s.x s.y s.z).1, .int .i64 (distOr nm.data.toList bd l t s.x s.y s.z).2], .int .i64 0]) := fun m v t h h0 h1 => by
              have := DistanceAtX_q (bd := bd) h ho t s.x s.y s.z
              rwa [hsq l t he h0 h1] at this
            have HD2 := fun m v t (h : SlB m v (l.set k s)) => DistanceAtX_q (bd := bd) h hoa t s.x s.y s.z
            have hun : ∀ t, frstT l ≤ t → t ≤ lastT l → (∀ r ∈ tL bd l (l.set k s), ¬ (r.1 ≤ t ∧ t ≤ r.2)) → sqE nm.data.toList bd (l.set k s) t s.x s.y s.z = 0 ∧ distOr nm.data.toList bd (l.set k s) t s.x s.y s.z = distOr nm.data.toList bd l t s.x s.y s.z := fun t h0 h1 hn => by
              obtain ⟨⟨q0, q1⟩, q2⟩ := tL_not hfl.1 h0 h1 hn
              have e1 := hsq _ t hea q0 q1
              have e2 := hsq _ t he h0 h1
              refine ⟨e1, ?_⟩
              unfold distOr
              rw [e1, e2, q2]
            by_cases hT : tL bd l (l.set k s) = []
            · have hco := tL_nil hfl.1 hfa'.1 hT
              refine TcL_0 k s hk' ho hoa hR hRa hf he hs0 HF HP hea hC hfa hC2 (fun z1 z2 => Touched_0 z1 z2 m1 m1 hR hRa he hea hco hT) (fun z1 z2 => Touched_0 z1 z2 m1 m1 hRa hR hea he ⟨hco.2, hco.1⟩ ?_)
                (fun t => distOr nm.data.toList bd l t s.x s.y s.z) (fun t => distOr nm.data.toList bd (l.set k s) t s.x s.y s.z) (fun t => sqE nm.data.toList bd (l.set k s) t s.x s.y s.z) HD1 HD2 (fun t h0 h1 => hun t h0 h1 (by rw [hT]; simp))
              have := tL_swap bd (l.set k s) l
              rw [hT] at this
              exact this
            · have hT2 : tL bd (l.set k s) l ≠ [] := by rw [tL_swap]; exact hT
              refine TcL_y k s hk' ho hoa hR hRa hf he hs0 HF HP hea hC hfa hC2 (tL bd l (l.set k s)) hT (tL_len hb hba hfl.1 hfa'.1) (fun z1 z2 => Touched_anyC z1 z2 m1 m1 hR hRa he hea (by omega) hT) (fun z1 z2 => ?_)
                (fun t => distOr nm.data.toList bd l t s.x s.y s.z) (fun t => distOr nm.data.toList bd (l.set k s) t s.x s.y s.z) (fun t => sqE nm.data.toList bd (l.set k s) t s.x s.y s.z) HD1 HD2 (fun t h0 h1 hn => hun t h0 h1 (tcB_no hn))
              rw [tL_swap]
              exact Touched_anyC z1 z2 m1 m1 hRa hR hea he (by omega) hT2
        · exact TcL_a k s hk' ho hR hf he hs0 HF HP _ hea (fun z => Corrected_xc l z hR ho he k hk' s hoa _ rfl hea)
    · exact glue1 (us := [.int .i64 t, stV s]) rfl hS hc hz (TcL_e t s _ ho (by omega) hf he)
set_option maxRecDepth 100000 in
theorem lifted (os : Os) (started : os.Started) (H : Type) (enc : TypeId × Value → H) :
    ReturnsInHanded {} Tryz.checked os 5 .any (fun w args => (Rows.topCorrectionTouchesSpec.pre enc Tryz.prog Tryz.f5 Rows.topCorrectionTouchesRow.domain false w args ∧ laidMet Tryz.prog Rows.topCorrectionTouchesRow.laid w) ∧ sizedMet enc Tryz.prog Tryz.f5 (OpenSpec.ofChange Rows.topCorrectionTouchesSpec) false w args)
      (Rows.topCorrectionTouchesSpec.post enc Tryz.prog Tryz.f5 false true false false) := by
  refine ri_laid (C := Tryz.checked) (X := fun w _ => laidMet Tryz.prog Rows.topCorrectionTouchesRow.laid w) (fun _ _ _ hh h => h.of_heap hh) own started (by kernel_rfl) Tryz.func5
    (ChangeSpec.witness_shaped (enc := enc) (C := Tryz.checked) (os := os) (X := fun w _ => laidMet Tryz.prog Rows.topCorrectionTouchesRow.laid w) false (laidWorld os) #[.agg #[.string ⟨#[]⟩, .int .i64 0, .slice none 0 0], .int .i64 0, .agg #[.int .i64 0, .int .i64 0, .int .i64 0, .int .i64 0, .int .i64 0]] 8 rfl (World.shaped_of_RefB (by kernel_rfl) (by kernel_rfl)) (by kernel_rfl) (by kernel_rfl) (by kernel_rfl) (laid_met os _)) ?_
  intro W base args ds gs before hval0 hW hcnd hL hsh
  have hval : ∀ (j : Nat) t v, Tryz.f5.params[j]? = some t → args[j]? = some v → Value.okWide Tryz.prog W .any base t v := hval0
  have hW' := hW
  obtain ⟨p, q, hA0, hV, rfl, hfz, hnd⟩ := hW
  have hA : DataW.TrodAll enc Tryz.prog W 0 (fun _ => true) true Tryz.f5.params.toList args.toList ds p := hA0
  rw [Tryz.params5] at hA hval
  obtain ⟨v0, vs0, d0, ds0, p0, q0, hargs, rfl, rfl, h0, r0⟩ := trodAll_cons hA
  obtain ⟨v1, vs1, d1, ds1, p1, q1, rfl, rfl, rfl, h1, r1⟩ := trodAll_cons r0
  obtain ⟨v2, vs2, d2, ds2, p2, q2, rfl, rfl, rfl, h2, r2⟩ := trodAll_cons r1
  obtain ⟨rfl, rfl, rfl⟩ := trodAll_nil r2
  obtain rfl : args = #[v0, v1, v2] := by cases args; simp_all
  obtain ⟨rfl, rfl⟩ := trodVars_none hV
  clear hA0 hval0
  have hlt := hW'.lt
  have g0 := h0
  have g1 := h1
  have g2 := h2
  obtain ⟨nm0, bd0, a0, l0, cap0, rfl, hnm0, hcap0, hcm0, hS0, hz0⟩ := open_orbit2 (hval 0 37 v0 rfl rfl) h0
  obtain ⟨x1, rfl, -, -, wx1⟩ := open_int Tryz.underlying3 (hval 1 3 v1 rfl rfl) h1
  obtain ⟨x0_2, x1_2, x2_2, x3_2, x4_2, rfl, hx0_2, hx1_2, hx2_2, hx3_2, hx4_2⟩ := open_U (hval 2 25 v2 rfl rfl) h2
  simp only [List.append_nil] at hW' hlt ⊢
  refine (walk (lb_of hL hsh) nm0 bd0 a0 l0 cap0 x1 ⟨x0_2, x1_2, x2_2, x3_2, x4_2⟩ hnm0 hcap0 hcm0 hS0 hz0 (okS5 hx0_2 hx1_2 hx2_2 hx3_2 hx4_2)).mono fun e W' ⟨he, hb⟩ => ?_
  subst he
  have stay : ∀ (t : TypeId) v d ps (sp : Nat → Bool), Tryz.prog.readableRec t = true → t < Tryz.prog.types.size → DataW.Trod enc Tryz.prog W 0 (fun _ => true) true t v d ps → (∀ x ∈ ps, x.block < W.heap.size) → (∀ x ∈ ps, sp x.block = true) → DataW.Trod enc Tryz.prog W' 0 sp true t v d ps :=
    fun t v d ps sp hr ht h hx hs => Go.WideElems.Trod_stays laid hr ht h (fun x hxp => hb.same (hx x hxp)) hs
  exact ⟨_, rfl, post_below (pa := p0 ++ (p1 ++ (p2 ++ []))) (pv := []) hW' (fun _ _ _ => trodAll_mk1 (shut_bool Tryz.underlying4 true)) (fun sp hs => (trodAll_cons_mk (stay 37 _ _ _ sp (by kernel_rfl) (of_decide_eq_true (by kernel_rfl)) g0 (fun x hx => hlt x (by simp [hx])) (fun x hx => hs x (by simp [hx]))) (trodAll_cons_mk (stay 3 _ _ _ sp (by kernel_rfl) (of_decide_eq_true (by kernel_rfl)) g1 (fun x hx => hlt x (by simp [hx])) (fun x hx => hs x (by simp [hx]))) (trodAll_cons_mk (stay 25 _ _ _ sp (by kernel_rfl) (of_decide_eq_true (by kernel_rfl)) g2 (fun x hx => hlt x (by simp [hx])) (fun x hx => hs x (by simp [hx]))) (trodAll_mk0))))) (fun _ _ => rfl) (by simp)
    hb (ok_one (by kernel_rfl) rfl (okWide_bool_mk Tryz.underlying4 true))⟩

theorem over : Rows.topCorrectionTouchesRow.holds Tryz.pinned (OpenSpec.ofChange Rows.topCorrectionTouchesSpec) :=
  OpenClaim.holds_of_wide 5 Tryz.f5 rfl rfl rfl rfl rfl rfl rfl ⟨rfl, rfl, rfl, rfl, rfl⟩ rfl rfl rfl rfl rfl (by kernel_rfl) Tryz.func5 (by kernel_rfl)
    (of_decide_eq_true (by kernel_rfl)) (by unfold Func.isWrapper; first | (rw [if_pos (by decide +kernel)]; kernel_rfl) | (rw [if_neg (by decide +kernel)]; exact ⟨rfl, rfl⟩))
    (fun os started H enc _ => lifted os started H enc)

theorem plain_par (j : Nat) (t : TypeId) (ht : Tryz.f5.params[j]? = some t) : Tryz.prog.wantsStandIn t = false := by
  rw [Tryz.params5] at ht
  match j, ht with
  | 0, ht => cases ht; exact (show Tryz.prog.wantsStandIn _ = false by kernel_rfl)
  | 1, ht => cases ht; exact (show Tryz.prog.wantsStandIn _ = false by kernel_rfl)
  | 2, ht => cases ht; exact (show Tryz.prog.wantsStandIn _ = false by kernel_rfl)
  | j + 3, ht => simp at ht
/-- The statement: the tied card. -/
theorem proved : Rows.TopCorrectionTouchesCardSaid :=
  Claim7.holds_tied_plain_at .later [] [.data, .data, .data, .data, .sentinel, .sentinel, .pinned] true (true, "aa15a959c40d984798b0c7b1f12d25e5d1da24be744a3f885328d822e7a838a4") true
    over (fun _ h => by cases h) (by kernel_rfl) (fun _ h => by cases h) topCorrectionTouches_row_tie rfl ⟨rfl, rfl⟩ (by kernel_rfl) rfl
    (fun f fn hf hfn => by
      obtain rfl : f = 5 := Option.some.inj ((show Tryz.prog.funcNamed "swath/swathtop.TopCorrectionTouches" = some 5 by kernel_rfl).symm.trans hf) |>.symm
      obtain rfl : fn = Tryz.f5 := (Option.some.inj (Tryz.func5.symm.trans hfn)).symm
      exact ⟨by kernel_rfl, plain_par⟩)
    (by kernel_rfl)
#print axioms proved
end Go.Proofs.YthhhkjbhhjcjoaaGreatDoor.TopCorrectionTouches
end
end
