/- SeriesTexts: Print and Parse return what the document specifies, for all series and texts, or the errors; what is printed is read again. -/
import Derived.Test.YtmghmmmfdbafoaaGreatDoor08Ty
import Derived.Test.YtmghmmmfdbafoaaGreatDoorTie
import Derived.Test.YtmghmmmfdbafoaaGreatDoorCards
import Derived.LaidLaws
import Derived.LaidMore
import Derived.Handed
import Derived.SevenTiedAt
import Derived.JoinedOf
set_option linter.unusedSimpArgs false
set_option linter.unusedVariables false
section
namespace Go.Proofs.YtmghmmmfdbafoaaGreatDoor
open Go.ChangeShapes Go.WideShapes Go.ChangeAt Go Go.RowKit Go.Ab Go.Sr Go.Lib Go.Tx
set_option maxRecDepth 100000
set_option maxHeartbeats 4000000
/-- One series and flat values, in a world whose first blocks lie so. -/
theorem glueSW {N0 : Nat} {W0 : World} {f : FuncId} {nm : ByteArray} {a : Option Addr} {l : List Ep} {cap : Nat} {us : List Value} {w : World} (hW : GW N0 W0 w) (hu : us.all flat = true) (hS : SlX w a (flatE l)) (hc : l.length ≤ cap) (hz : a = none → cap = 0)
    (h : ∀ v m0, Sh l v m0 → PCallsW N0 W0 Tryz.prog f (srV nm v :: us) m0 (.bool true)) :
    Calls Tryz.prog f (Value.agg #[.string nm, .slice a l.length cap] :: us).toArray w fun e w' => e = .returned (.bool true) ∧ Below w.heap.size w w' := by
  have hsh : Sh l (vaX 0 l.length a.isNone) (if l = [] then [] else [some ⟨flatE l, false, 0⟩]) := by
    unfold vaX
    by_cases hl : l = []
    · subst hl
      cases a with
      | none => exact .inl ⟨rfl, rfl, rfl⟩
      | some a => exact .inr (.inl ⟨rfl, rfl, rfl⟩)
    · rw [if_neg hl, if_neg (fun h => hl (List.eq_nil_of_length_eq_zero h))]
      exact .inr (.inr ⟨0, rfl, rfl⟩)
  have hpl : l = [] → plX a (flatE l) = none := fun hl => by
    subst hl
    rfl
  refine (h _ _ hsh (fun b => if b = 0 then plX a (flatE l) else none) _ w hW (fun b pl hb => ?_) ?_ (fun b blk hb => ?_)).mono fun e w' ⟨v', he, hr, hb⟩ => ⟨by rw [he, hr.bool], hb⟩
  · have hb' : (if b = 0 then plX a (flatE l) else none) = some pl := hb
    by_cases hl : l = []
    · rw [hpl hl] at hb'
      split at hb' <;> cases hb'
    · split at hb'
      · rw [if_neg hl]; simp; omega
      · cases hb'
  · refine .tuple (by simp) fun i h h' => ?_
    match i, h with
    | 0, _ =>
      refine .agg rfl fun j g g' => ?_
      match j, g with
      | 0, _ => exact .scal rfl
      | 1, _ => exact vaX_rel hS (flatE_nil l) hc hz rfl
    | i + 1, h =>
      have hi : i < us.length := by simpa using h
      have := List.all_eq_true.1 hu us[i] (List.getElem_mem hi)
      simpa using VRel.flat (ρ := fun b => if b = 0 then plX a (flatE l) else none) this
  · have hlt := Mem.at_lt hb
    by_cases hl : l = []
    · rw [if_pos hl] at hlt
      simp at hlt
    · rw [if_neg hl] at hlt hb
      match b, hlt with
      | 0, _ =>
        have hbx : blX (flatE l) = some blk := by
          unfold blX
          rw [if_neg (fun h => hl (List.eq_nil_of_length_eq_zero ((flatE_nil l).1 h)))]
          exact hb
        obtain ⟨pl, k1, k2⟩ := blX_rel (ρ := fun b => if b = 0 then plX a (flatE l) else none) (i := 0) (flatE_scal l) hS rfl hbx
        exact ⟨pl, k1, k2, fun ho => by rw [blX_ro _ _ hbx] at ho; cases ho⟩
      | b + 1, h => simp at h
/-- The variables that the statement lists. -/
abbrev lst : List (String × DataW Unit) := Rows.seriesTextsRow.laid
theorem starE : "*" ++ "errors.errorString" = "*errors.errorString" := by decide
theorem row_err (u : TypeId) (h : Tryz.prog.typeName? 3 u = some "*errors.errorString") : u = 172 :=
  typeName_ptr_named (nm := "errors.errorString") (by rw [starE]; kernel_rfl) (by kernel_rfl) (by decide) u (by rw [starE]; exact h)
section
variable {W : World}
theorem lb_of (hL : laidMet Tryz.prog lst W) (hsh : W.ShapedOpen Tryz.prog) : Lb W.heap.size W := by
  have h2 := hL.tail.tail
  have h4 := h2.tail.tail
  have h5 := h4.tail
  have h6 := hL.tail
  have ht : Lib.TabIs Tryz.prog W _ .u64 Lib.pow10Tab := Lib.tabIs_of_head (g := 3) (t := 167) (e := 148) (n := 20) (by kernel_rfl) (by kernel_rfl) (by kernel_rfl) (by kernel_rfl) (by kernel_rfl) (by kernel_rfl) h2
  obtain ⟨a1, s1, hv1, _⟩ := laid_sentinel (g := 2) (ti := 115) (tp := 172) (te := 174) (ts := 9) h4 (by kernel_rfl) (by kernel_rfl) Tryz.underlying115 row_err Tryz.underlying172 Tryz.underlying174 rfl rfl Tryz.underlying9 (by kernel_rfl) (by kernel_rfl)
  obtain ⟨a2, s2, hv2, _⟩ := laid_sentinel (g := 1) (ti := 115) (tp := 172) (te := 174) (ts := 9) h5 (by kernel_rfl) (by kernel_rfl) Tryz.underlying115 row_err Tryz.underlying172 Tryz.underlying174 rfl rfl Tryz.underlying9 (by kernel_rfl) (by kernel_rfl)
  have hm := cell_of_shapedOpen_int (g := 0) (t := 3) (zero := #[.int .i64 0]) (k := .i64) hsh (of_decide_eq_true (by kernel_rfl)) (by kernel_rfl) rfl (by kernel_rfl) (by kernel_rfl) Tryz.underlying3
  refine ⟨?_, ?_, hm, ?_, ?_⟩
  · obtain ⟨_, ⟨g0, _, _, _, _, _, hg0, _, hv0, _⟩, _⟩ := h6
    obtain rfl := Option.some.inj ((show Tryz.prog.globalNamed _ = some 7 by kernel_rfl).symm.trans hg0)
    unfold World.var? at hv0
    rw [hg0] at hv0
    simp only [Option.bind_some] at hv0
    rcases Nat.lt_or_ge 7 W.heap.size with h | h
    · exact h
    · rw [Array.getElem?_eq_none h] at hv0
      cases hv0
  · unfold Lib.TabIs World.var? at ht
    rw [show Tryz.prog.globalNamed _ = some 3 by kernel_rfl] at ht
    simp only [Option.bind_some] at ht
    split at ht
    · rename_i cs ty fr he
      cases ht
      exact ⟨ty, fr, he⟩
    · cases ht
  · have := World.var?_cell (by kernel_rfl : Tryz.prog.globalNamed _ = some 1) hv2 0
    exact ⟨_, _, by simpa using this⟩
  · have := World.var?_cell (by kernel_rfl : Tryz.prog.globalNamed _ = some 2) hv1 0
    exact ⟨_, _, by simpa using this⟩
end
theorem open_str {H : Type} {enc : TypeId × Value → H} {w : World} {base : Nat} {spare : Nat → Bool} {held : Bool} {r : Reach} {b0 : Nat} {v : Value} {d : DataW H} {p : List MemPlace} (hv : Value.okWide Tryz.prog w r b0 9 v) (h : DataW.Trod enc Tryz.prog w base spare held 9 v d p) : ∃ s, v = .string s ∧ s.size ≤ maxLen := by
  obtain ⟨s, rfl⟩ := okWide_string Tryz.underlying9 hv
  obtain ⟨fuel, hf⟩ := h
  obtain ⟨s', e, _, hs⟩ := DataW.trod_string Tryz.underlying9 hf
  have e' : s = s' := by simpa [Value.cells] using e
  subst e'
  exact ⟨s, rfl, hs⟩
theorem walk {W : World} (LB : Lb W.heap.size W) (nm : ByteArray) (a : Option Addr) (l : List Ep) (cap : Nat) (t : ByteArray) (hnm : nm.size ≤ maxLen) (hcap : l.length ≤ cap) (hcm : cap ≤ maxLen) (hS : SlX W a (flatE l)) (hz : a = none → cap = 0) (_ht : t.size ≤ maxLen) :
    Calls Tryz.prog 3 #[.agg #[.string nm, .slice a l.length cap], .string t] W fun e w' => e = .returned (.bool true) ∧ Below W.heap.size W w' := by
  simp only [maxLen] at hnm hcm
  by_cases hx : fewS nm.size l.length = false ∨ (500 < t.size ∧ t.size ≤ 60000) ∨ 60050 < t.size
  · exact glueS (us := [.string t]) rfl hS hcap hz fun v m0 h => TxL_n nm t h (by omega) (by omega) hx
  · have hf : fewS nm.size l.length = true := by
      cases h : fewS nm.size l.length
      · exact absurd (.inl h) hx
      · rfl
    have ht : t.size ≤ 500 ∨ (60000 < t.size ∧ t.size ≤ 60050) := by omega
    have hb := of_decide_eq_true hf
    have L := lw_of LB
    obtain ⟨T, rfl⟩ : ∃ T, t = tx T := ⟨t.data.toList, (tx_data t).symm⟩
    obtain ⟨N, rfl⟩ : ∃ N, nm = tx N := ⟨nm.data.toList, (tx_data nm).symm⟩
    rw [tx_size] at hf hb
    have hts : (tx T).size = T.length := rfl
    have HT := rdT_of L T (by omega)
    refine glueSW (us := [.string (tx T)]) (N0 := W.heap.size) (W0 := W) ⟨Nat.le_refl _, fun x hx => rfl⟩ rfl hS hcap hz fun v m0 h => ?_
    by_cases hc : srE N l = 0
    · rcases h with ⟨_, _, h3⟩ | ⟨_, _, h3⟩ | ⟨z0, rfl, rfl⟩
      · rw [h3] at hc
        exact absurd hc srE_nil
      · rw [h3] at hc
        exact absurd hc srE_nil
      · exact TxL_y L N _ HT hf ht hc z0
    · exact TxL_e (tx N) _ HT h (by rw [tx_size]; omega) (by omega) hf ht _ rfl hc
/-- A world in which the variables lie as the text lays them. -/
noncomputable def laidWorld (os : Os) : World :=
  let w0 := World.doorLaid Tryz.prog 200 os
  { w0 with heap := w0.heap.modify 4 fun
      | .cells _ t frozen => .cells (Go.Pinned.utf8FirstZ.map fun (z : Nat) => Value.int .u8 (Int.ofNat z)).toArray t frozen
      | o => o }
end Go.Proofs.YtmghmmmfdbafoaaGreatDoor
namespace Go.Proofs.YtmghmmmfdbafoaaGreatDoor.SeriesTexts
open Go.ChangeShapes Go.WideShapes Go.ChangeAt Go Go.RowKit Go.Ab Go.Sr Go.Lib Go.Tx Go.Proofs.YtmghmmmfdbafoaaGreatDoor
set_option maxRecDepth 100000
theorem laid_met (os : Os) (args : Array Value) : laidMet Tryz.prog lst ((laidWorld os).forCall (fun _ _ => 0) ⟨#[], args, []⟩).memory :=
  laidMet_of_run' 8 (by kernel_rfl) (by kernel_rfl)
set_option maxRecDepth 100000 in
theorem lifted (os : Os) (started : os.Started) (H : Type) (enc : TypeId × Value → H) :
    ReturnsInHanded {} Tryz.checked os 3 .any (fun w args => (Rows.seriesTextsSpec.pre enc Tryz.prog Tryz.f3 Rows.seriesTextsRow.domain false w args ∧ laidMet Tryz.prog Rows.seriesTextsRow.laid w) ∧ sizedMet enc Tryz.prog Tryz.f3 (OpenSpec.ofChange Rows.seriesTextsSpec) false w args)
      (Rows.seriesTextsSpec.post enc Tryz.prog Tryz.f3 false true false false) := by
  refine ri_laid (C := Tryz.checked) (X := fun w _ => laidMet Tryz.prog Rows.seriesTextsRow.laid w) (fun _ _ _ hh h => h.of_heap hh) own started (by kernel_rfl) Tryz.func3
    (ChangeSpec.witness_shaped (enc := enc) (C := Tryz.checked) (os := os) (X := fun w _ => laidMet Tryz.prog Rows.seriesTextsRow.laid w) false (laidWorld os) #[.agg #[.string ⟨#[]⟩, .slice none 0 0], .string ⟨#[]⟩] 8 rfl (World.shaped_of_RefB (by kernel_rfl) (by kernel_rfl)) (by kernel_rfl) (by kernel_rfl) (by kernel_rfl) (laid_met os _)) ?_
  intro W base args ds gs before hval0 hW hcnd hL hsh
  have hval : ∀ (j : Nat) t v, Tryz.f3.params[j]? = some t → args[j]? = some v → Value.okWide Tryz.prog W .any base t v := hval0
  have hW' := hW
  obtain ⟨p, q, hA0, hV, rfl, hfz, hnd⟩ := hW
  have hA : DataW.TrodAll enc Tryz.prog W 0 (fun _ => true) true Tryz.f3.params.toList args.toList ds p := hA0
  rw [Tryz.params3] at hA hval
  obtain ⟨v0, vs0, d0, ds0, p0, q0, hargs, rfl, rfl, h0, r0⟩ := trodAll_cons hA
  obtain ⟨v1, vs1, d1, ds1, p1, q1, rfl, rfl, rfl, h1, r1⟩ := trodAll_cons r0
  obtain ⟨rfl, rfl, rfl⟩ := trodAll_nil r1
  obtain rfl : args = #[v0, v1] := by cases args; simp_all
  obtain ⟨rfl, rfl⟩ := trodVars_none hV
  clear hA0 hval0
  have hlt := hW'.lt
  have g0 := h0
  have g1 := h1
  obtain ⟨nm0, a0, l0, cap0, rfl, hnm0, hcap0, hcm0, hS0, hz0⟩ := open_S (hval 0 24 v0 rfl rfl) h0
  obtain ⟨tt1, rfl, htt1⟩ := open_str (hval 1 9 v1 rfl rfl) h1
  simp only [List.append_nil] at hW' hlt ⊢
  refine (walk (lb_of hL hsh) nm0 a0 l0 cap0 tt1 hnm0 hcap0 hcm0 hS0 hz0 htt1).mono fun e W' ⟨he, hb⟩ => ?_
  subst he
  have stay : ∀ (t : TypeId) v d ps (sp : Nat → Bool), Tryz.prog.readableRec t = true → t < Tryz.prog.types.size → DataW.Trod enc Tryz.prog W 0 (fun _ => true) true t v d ps → (∀ x ∈ ps, x.block < W.heap.size) → (∀ x ∈ ps, sp x.block = true) → DataW.Trod enc Tryz.prog W' 0 sp true t v d ps :=
    fun t v d ps sp hr ht h hx hs => Go.WideElems.Trod_stays laid hr ht h (fun x hxp => hb.same (hx x hxp)) hs
  exact ⟨_, rfl, post_below (pa := p0 ++ (p1 ++ [])) (pv := []) hW' (fun _ _ _ => trodAll_mk1 (shut_bool Tryz.underlying4 true)) (fun sp hs => (trodAll_cons_mk (stay 24 _ _ _ sp (by kernel_rfl) (of_decide_eq_true (by kernel_rfl)) g0 (fun x hx => hlt x (by simp [hx])) (fun x hx => hs x (by simp [hx]))) (trodAll_cons_mk (stay 9 _ _ _ sp (by kernel_rfl) (of_decide_eq_true (by kernel_rfl)) g1 (fun x hx => hlt x (by simp [hx])) (fun x hx => hs x (by simp [hx]))) (trodAll_mk0)))) (fun _ _ => rfl) (by simp)
    hb (ok_one (by kernel_rfl) rfl (okWide_bool_mk Tryz.underlying4 true))⟩

theorem over : Rows.seriesTextsRow.holds Tryz.pinned (OpenSpec.ofChange Rows.seriesTextsSpec) :=
  OpenClaim.holds_of_wide 3 Tryz.f3 rfl rfl rfl rfl rfl rfl rfl ⟨rfl, rfl, rfl, rfl, rfl⟩ rfl rfl rfl rfl rfl (by kernel_rfl) Tryz.func3 (by kernel_rfl)
    (of_decide_eq_true (by kernel_rfl)) (by unfold Func.isWrapper; first | (rw [if_pos (by decide +kernel)]; kernel_rfl) | (rw [if_neg (by decide +kernel)]; exact ⟨rfl, rfl⟩))
    (fun os started H enc _ => lifted os started H enc)

theorem plain_par (j : Nat) (t : TypeId) (ht : Tryz.f3.params[j]? = some t) : Tryz.prog.wantsStandIn t = false := by
  rw [Tryz.params3] at ht
  match j, ht with
  | 0, ht => cases ht; exact (show Tryz.prog.wantsStandIn _ = false by kernel_rfl)
  | 1, ht => cases ht; exact (show Tryz.prog.wantsStandIn _ = false by kernel_rfl)
  | j + 2, ht => simp at ht
/-- The statement: the tied card. -/
theorem proved : Rows.SeriesTextsCardSaid :=
  Claim7.holds_tied_plain_at .later [] [.data, .data, .data, .data, .sentinel, .sentinel, .pinned] true (true, "8a7380d09317a7ebba329b5a0ece2b20c9872399362db35308890d1b5e904dd3") true
    over (fun _ h => by cases h) (by kernel_rfl) (fun _ h => by cases h) seriesTexts_row_tie rfl ⟨rfl, rfl⟩ (by kernel_rfl) rfl
    (fun f fn hf hfn => by
      obtain rfl : f = 3 := Option.some.inj ((show Tryz.prog.funcNamed "swath/swathlaw08.SeriesTexts" = some 3 by kernel_rfl).symm.trans hf) |>.symm
      obtain rfl : fn = Tryz.f3 := (Option.some.inj (Tryz.func3.symm.trans hfn)).symm
      exact ⟨by kernel_rfl, plain_par⟩)
    (by kernel_rfl)
#print axioms proved
end Go.Proofs.YtmghmmmfdbafoaaGreatDoor.SeriesTexts
end
