/- How the arguments of the statements of chapter 8 read. -/
import Derived.Test.YtmghmmmfdbafoaaGreatDoorRows
import Derived.Test.YtmghmmmfdbafoaaGreatDoor08q
import Derived.ProofKit
import Derived.OpenShut
import Derived.Deep.Slices
set_option linter.unusedSimpArgs false
set_option linter.unusedVariables false
namespace Go.Proofs.YtmghmmmfdbafoaaGreatDoor
open Go.ChangeShapes Go.WideShapes Go.ChangeAt Go Go.RowKit Go.Ab Go.Sr

section
variable {H : Type} {enc : TypeId × Value → H} {P : Program}

/-- The row's last step where the walk leaves 'Below'. -/
theorem post_below {f : Func} {s : ChangeSpec} {apart fresh handsOn again : Bool} {W W' : World} {args : Array Value} {v : Value} {ds gs : List (DataW H)} {before pa pv : List MemPlace}
    (hW : DataW.Whole enc P f.params.toList s.vars apart W args.toList ds gs before)
    (hres : ∀ (b : Nat) (sp : Nat → Bool) (hd : Bool), DataW.TrodAll enc P W' b sp hd f.resultTypes.toList (v.resultList f.resultTypes.size) (s.fn H (ds ++ gs)).results [])
    (hargs : ∀ sp : Nat → Bool, (∀ p ∈ before, sp p.block = true) → DataW.TrodAll enc P W' 0 sp true f.params.toList args.toList (s.fn H (ds ++ gs)).args pa)
    (hvars : ∀ sp : Nat → Bool, (∀ p ∈ before, sp p.block = true) → DataW.TrodVars enc P W' sp s.vars (s.fn H (ds ++ gs)).vars pv)
    (hps : before = pa ++ pv) (hb : Below W.heap.size W W')
    (hok : ∀ (j : Nat) (t : TypeId) (r : Value), f.resultTypes[j]? = some t → (v.resultList f.resultTypes.size)[j]? = some r → Value.okWide P W' .any 0 t r) :
    s.post enc P f apart fresh handsOn again W args v W' := by
  have hlt : ∀ p ∈ before, p.block < W.heap.size := fun p hp => hW.lt p hp
  have hold : ∀ p ∈ before, (fun b => decide (b < W.heap.size)) p.block = true := fun p hp => by simpa using hlt p hp
  refine ⟨ds, gs, before, [], pa, pv, hW, hres _ _ _, hargs _ hold, hvars _ hold, World.keptBut_mono (fun p hp => ⟨hp, ?_⟩) (hb.frame (· ∈ before)), fun _ => ?_⟩
  · rw [hps, List.mem_append] at hp
    exact Or.inr hp
  · obtain ⟨_, _, _, _, _, hz, hn⟩ := hW
    refine ⟨hok, _, _, ([] ++ pa) ++ pv, ⟨[] ++ pa, pv, trodAll_append (hargs _ (fun _ _ => rfl)) (hres _ _ _), hvars _ (fun _ _ => rfl), rfl, ?_, ?_⟩, ?_⟩
    · intro b off hp
      have hin : MemPlace.cell b off ∈ before := by rw [hps]; simpa using hp
      rw [hb.frozen (hlt _ hin)]
      exact hz b off hin
    · intro ha
      have := hn ha
      rw [hps] at this
      simpa using this
    · intro p hp _
      rw [hps]
      simpa using hp

/-- A type of whole numbers of 64 bits alone. -/
def intsT (P : Program) : Nat → TypeId → Bool
  | 0, _ => false
  | d + 1, t => match P.underlying t with
    | some (.int .i64) => true
    | some (.struct fs) => (fs.all fun f => intsT P d f.type) && (List.range (P.cellsOf t)).all fun i => fs.any fun f => decide (f.offset ≤ i ∧ i < f.offset + P.cellsOf f.type)
    | some (.array n e) => intsT P d e && (P.cellsOf t == n * P.cellsOf e) && decide (0 < P.cellsOf e)
    | _ => false

theorem ints_of {w : World} {base : Nat} {spare : Nat → Bool} {held : Bool} : ∀ (d : Nat) (t : TypeId) (fuel : Nat) (cs : List Value) (x : DataW H × List MemPlace), intsT P d t = true → DataW.trod enc P w base spare held fuel t cs = some x → ∀ v ∈ cs, ∃ n, v = .int .i64 n ∧ (Lit.int .i64 n).wf = true
  | 0, _, _, _, _, h, _ => by simp [intsT] at h
  | d + 1, t, fuel, cs, x, h, ht => by
    unfold intsT at h
    cases hu : P.underlying t with
    | none => rw [hu] at h; cases h
    | some u =>
      rw [hu] at h
      cases u with
      | int k =>
        cases k <;> simp only at h <;> first | (cases h; done) | skip
        obtain ⟨n, rfl, _, hw⟩ := DataW.trod_int hu ht
        intro v hv
        rw [List.mem_singleton] at hv
        exact ⟨n, hv, hw⟩
      | struct fs =>
        simp only [Bool.and_eq_true] at h
        obtain ⟨xs, n, _, _, hlen, hxl, hf⟩ := DataW.trod_struct hu ht
        intro v hv
        obtain ⟨i, hi, rfl⟩ := List.getElem_of_mem hv
        have hc := List.all_eq_true.1 h.2 i (List.mem_range.2 (by rw [← hlen]; exact hi))
        obtain ⟨f, hfm, hfi⟩ := Array.any_eq_true'.1 hc
        simp only [decide_eq_true_eq] at hfi
        obtain ⟨j, hj⟩ := Array.getElem?_of_mem hfm
        have hft := Array.all_eq_true'.1 h.1 f hfm
        have hjl : j < fs.size := (Array.getElem?_eq_some_iff.1 hj).1
        have h1 := hf j f hj
        rw [List.getElem?_eq_getElem (by omega)] at h1
        refine ints_of d f.type n _ _ hft h1 _ ?_
        refine List.mem_iff_getElem?.2 ⟨i - f.offset, ?_⟩
        rw [List.getElem?_take, if_pos (by omega), List.getElem?_drop, show f.offset + (i - f.offset) = i by omega, List.getElem?_eq_getElem hi]
      | array n e =>
        simp only [Bool.and_eq_true, beq_iff_eq, decide_eq_true_eq] at h
        obtain ⟨⟨h1, h2⟩, h3⟩ := h
        cases fuel with
        | zero => simp [DataW.trod] at ht
        | succ m =>
          unfold DataW.trod at ht
          rw [hu] at ht
          simp only at ht
          split at ht
          · rename_i hlen
            simp only [Option.map_eq_some_iff] at ht
            obtain ⟨xs, hxs, _⟩ := ht
            intro v hv
            obtain ⟨i, hi, rfl⟩ := List.getElem_of_mem hv
            have hin : i / P.cellsOf e < n := by
              rw [hlen, h2] at hi
              exact Nat.div_lt_of_lt_mul (by rw [Nat.mul_comm]; exact hi)
            have hg := mapM_some_get hxs (i / P.cellsOf e) (i / P.cellsOf e) (by simp [hin])
            have hxl := mapM_some_length hxs
            rw [List.getElem?_eq_getElem (by rw [hxl]; simpa using hin)] at hg
            refine ints_of d e m _ _ h1 hg _ ?_
            refine List.mem_iff_getElem?.2 ⟨i % P.cellsOf e, ?_⟩
            have hmd := Nat.div_add_mod i (P.cellsOf e)
            rw [List.getElem?_take, if_pos (Nat.mod_lt _ h3), List.getElem?_drop, show i / P.cellsOf e * P.cellsOf e + i % P.cellsOf e = i by rw [Nat.mul_comm]; exact hmd, List.getElem?_eq_getElem hi]
          · cases ht
      | _ => simp at h
end

theorem wf_bd {n : Int} (h : (Lit.int .i64 n).wf = true) : -9223372036854775808 ≤ n ∧ n ≤ 9223372036854775807 := by
  exact bounds_i64 h

theorem laid : laidOutB Tryz.prog = true := by kernel_rfl
theorem own : ownKnob Tryz.prog.godebug = none := by kernel_rfl

end Go.Proofs.YtmghmmmfdbafoaaGreatDoor
