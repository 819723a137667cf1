/- How the arguments of the statements of chapter 2 read: orbits, places, numbers. -/
import Derived.Test.YthhhkjbhhjcjoaaGreatDoor02Own
import Derived.ProofKit
import Derived.OpenShut
import Derived.Deep.Slices
set_option linter.unusedSimpArgs false
set_option linter.unusedVariables false
namespace Go.Proofs.YthhhkjbhhjcjoaaGreatDoor
open Go.ChangeShapes Go.WideShapes Go.ChangeAt Go.RowKit Go.Ob

section
variable {H : Type} {enc : TypeId × Value → H} {P : Program}

/-- The row's last step where the walk leaves 'Below'. -/
theorem post_below {f : Func} {s : ChangeSpec} {apart fresh handsOn again : Bool} {W W' : World} {args : Array Value} {v : Value} {ds gs : List (DataW H)} {before pa pv : List MemPlace}
    (hW : DataW.Whole enc P f.params.toList s.vars apart W args.toList ds gs before)
    (hres : ∀ (b : Nat) (sp : Nat → Bool) (hd : Bool), DataW.TrodAll enc P W' b sp hd f.resultTypes.toList (v.resultList f.resultTypes.size) (s.fn H (ds ++ gs)).results [])
    (hargs : ∀ sp : Nat → Bool, (∀ p ∈ before, sp p.block = true) → DataW.TrodAll enc P W' 0 sp true f.params.toList args.toList (s.fn H (ds ++ gs)).args pa)
    (hvars : ∀ sp : Nat → Bool, (∀ p ∈ before, sp p.block = true) → DataW.TrodVars enc P W' sp s.vars (s.fn H (ds ++ gs)).vars pv)
    (hps : before = pa ++ pv) (hb : Below W.heap.size W W')
    (hok : ∀ (j : Nat) (t : TypeId) (r : Value), f.resultTypes[j]? = some t → (v.resultList f.resultTypes.size)[j]? = some r → Value.okWide P W' .any 0 t r) :
    s.post enc P f apart fresh handsOn again W args v W' := by
  have hlt : ∀ p ∈ before, p.block < W.heap.size := fun p hp => hW.lt p hp
  have hold : ∀ p ∈ before, (fun b => decide (b < W.heap.size)) p.block = true := fun p hp => by simpa using hlt p hp
  refine ⟨ds, gs, before, [], pa, pv, hW, hres _ _ _, hargs _ hold, hvars _ hold, World.keptBut_mono (fun p hp => ⟨hp, ?_⟩) (hb.frame (· ∈ before)), fun _ => ?_⟩
  · rw [hps, List.mem_append] at hp
    exact Or.inr hp
  · obtain ⟨_, _, _, _, _, hz, hn⟩ := hW
    refine ⟨hok, _, _, ([] ++ pa) ++ pv, ⟨[] ++ pa, pv, trodAll_append (hargs _ (fun _ _ => rfl)) (hres _ _ _), hvars _ (fun _ _ => rfl), rfl, ?_, ?_⟩, ?_⟩
    · intro b off hp
      have hin : MemPlace.cell b off ∈ before := by rw [hps]; simpa using hp
      rw [hb.frozen (hlt _ hin)]
      exact hz b off hin
    · intro ha
      have := hn ha
      rw [hps] at this
      simpa using this
    · intro p hp _
      rw [hps]
      simpa using hp

/-- A type of whole numbers of 64 bits alone. -/
def intsT (P : Program) : Nat → TypeId → Bool
  | 0, _ => false
  | d + 1, t => match P.underlying t with
    | some (.int .i64) => true
    | some (.struct fs) => (fs.all fun f => intsT P d f.type) && (List.range (P.cellsOf t)).all fun i => fs.any fun f => decide (f.offset ≤ i ∧ i < f.offset + P.cellsOf f.type)
    | some (.array n e) => intsT P d e && (P.cellsOf t == n * P.cellsOf e) && decide (0 < P.cellsOf e)
    | _ => false

theorem ints_of {w : World} {base : Nat} {spare : Nat → Bool} {held : Bool} : ∀ (d : Nat) (t : TypeId) (fuel : Nat) (cs : List Value) (x : DataW H × List MemPlace), intsT P d t = true → DataW.trod enc P w base spare held fuel t cs = some x → ∀ v ∈ cs, ∃ n, v = .int .i64 n ∧ (Lit.int .i64 n).wf = true
  | 0, _, _, _, _, h, _ => by simp [intsT] at h
  | d + 1, t, fuel, cs, x, h, ht => by
    unfold intsT at h
    cases hu : P.underlying t with
    | none => rw [hu] at h; cases h
    | some u =>
      rw [hu] at h
      cases u with
      | int k =>
        cases k <;> simp only at h <;> first | (cases h; done) | skip
        obtain ⟨n, rfl, _, hw⟩ := DataW.trod_int hu ht
        intro v hv
        rw [List.mem_singleton] at hv
        exact ⟨n, hv, hw⟩
      | struct fs =>
        simp only [Bool.and_eq_true] at h
        obtain ⟨xs, n, _, _, hlen, hxl, hf⟩ := DataW.trod_struct hu ht
        intro v hv
        obtain ⟨i, hi, rfl⟩ := List.getElem_of_mem hv
        have hc := List.all_eq_true.1 h.2 i (List.mem_range.2 (by rw [← hlen]; exact hi))
        obtain ⟨f, hfm, hfi⟩ := Array.any_eq_true'.1 hc
        simp only [decide_eq_true_eq] at hfi
        obtain ⟨j, hj⟩ := Array.getElem?_of_mem hfm
        have hft := Array.all_eq_true'.1 h.1 f hfm
        have hjl : j < fs.size := (Array.getElem?_eq_some_iff.1 hj).1
        have h1 := hf j f hj
        rw [List.getElem?_eq_getElem (by omega)] at h1
        refine ints_of d f.type n _ _ hft h1 _ ?_
        refine List.mem_iff_getElem?.2 ⟨i - f.offset, ?_⟩
        rw [List.getElem?_take, if_pos (by omega), List.getElem?_drop, show f.offset + (i - f.offset) = i by omega, List.getElem?_eq_getElem hi]
      | array n e =>
        simp only [Bool.and_eq_true, beq_iff_eq, decide_eq_true_eq] at h
        obtain ⟨⟨h1, h2⟩, h3⟩ := h
        cases fuel with
        | zero => simp [DataW.trod] at ht
        | succ m =>
          unfold DataW.trod at ht
          rw [hu] at ht
          simp only at ht
          split at ht
          · rename_i hlen
            simp only [Option.map_eq_some_iff] at ht
            obtain ⟨xs, hxs, _⟩ := ht
            intro v hv
            obtain ⟨i, hi, rfl⟩ := List.getElem_of_mem hv
            have hin : i / P.cellsOf e < n := by
              rw [hlen, h2] at hi
              exact Nat.div_lt_of_lt_mul (by rw [Nat.mul_comm]; exact hi)
            have hg := mapM_some_get hxs (i / P.cellsOf e) (i / P.cellsOf e) (by simp [hin])
            have hxl := mapM_some_length hxs
            rw [List.getElem?_eq_getElem (by rw [hxl]; simpa using hin)] at hg
            refine ints_of d e m _ _ h1 hg _ ?_
            refine List.mem_iff_getElem?.2 ⟨i % P.cellsOf e, ?_⟩
            have hmd := Nat.div_add_mod i (P.cellsOf e)
            rw [List.getElem?_take, if_pos (Nat.mod_lt _ h3), List.getElem?_drop, show i / P.cellsOf e * P.cellsOf e + i % P.cellsOf e = i by rw [Nat.mul_comm]; exact hmd, List.getElem?_eq_getElem hi]
          · cases ht
      | _ => simp at h
end

theorem wf_bd {n : Int} (h : (Lit.int .i64 n).wf = true) : -9223372036854775808 ≤ n ∧ n ≤ 9223372036854775807 := by
  exact bounds_i64 h

theorem laid : laidOutB Tryz.prog = true := by kernel_rfl
theorem own : ownKnob Tryz.prog.godebug = none := by kernel_rfl
theorem cells_st : Tryz.prog.cellsOf 25 = 5 := by kernel_rfl
theorem ints_st : intsT Tryz.prog 3 25 = true := by kernel_rfl
def rdI (w : World) (a : Addr) : Int := match w.cell? a with | some (.int .i64 n) => n | _ => 0
def rdSt (w : World) (a : Addr) : St := ⟨rdI w (a.add 0), rdI w (a.add 1), rdI w (a.add 2), rdI w (a.add 3), rdI w (a.add 4)⟩

section
variable {H : Type} {enc : TypeId × Value → H} {w : World} {base : Nat} {spare : Nat → Bool} {held : Bool}

theorem spot_none {w : World} {a : Addr} {v : Value} (h : w.cell? a = some v) : a.spot = none := by
  unfold World.cell? at h
  split at h
  · split at h
    · cases h
    · rename_i hs; simpa using hs
  · cases h

/-- A slice of states, read. -/
theorem open_sts {fuel : Nat} {v : Value} {x : DataW H × List MemPlace} (h : DataW.trod enc Tryz.prog w base spare held fuel 35 [v] = some x) :
    ∃ a l cap, v = .slice a l.length cap ∧ l.length ≤ cap ∧ cap ≤ maxLen ∧ SlSts w a l := by
  rcases Go.Deep.open_slice Tryz.underlying35 h with ⟨h1, _⟩ | ⟨a, len, cap, m, n, D, Pl, hcs, hb, hl, hm, hmm, hx, hi⟩
  · simp only [List.cons.injEq, and_true] at h1
    subst h1
    exact ⟨none, [], 0, rfl, by simp, by simp [maxLen], ⟨fun k hk => by simp at hk, fun e => absurd rfl e⟩⟩
  · simp only [List.cons.injEq, and_true] at hcs
    subst hcs
    have hlm : len ≤ m := by rw [hmm]; split <;> omega
    let L := (List.range len).map fun i => rdSt w (a.add (i * 5))
    have hL : L.length = len := by simp [L]
    have hcell : ∀ i, i < len → ∀ j, j < 5 → ∃ z, w.cell? ((a.add (i * 5)).add j) = some (.int .i64 z) ∧ -9223372036854775808 ≤ z ∧ z ≤ 9223372036854775807 := by
      intro i hil j hj
      obtain ⟨cs', hc, ht'⟩ := hi i (by omega)
      rw [cells_st] at hc
      obtain ⟨_, hcl, hat⟩ := World.cells?_some hc
      obtain ⟨z, hz, hw⟩ := ints_of 3 _ _ _ _ ints_st ht' (cs'[j]'(by omega)) (List.getElem_mem _)
      exact ⟨z, by rw [hat j hj, List.getElem?_eq_getElem (by omega), hz], wf_bd hw⟩
    have hat : ∀ i, i < len → at_ L i = rdSt w (a.add (i * 5)) := fun i hil => by simp [at_, L, hil]
    refine ⟨some a, L, cap, by rw [hL], by omega, hm, ⟨fun k hk => ?_, fun hne => ?_⟩⟩
    · rw [hL] at hk
      rw [hat k hk]
      obtain ⟨z, hz, hb0, hb1⟩ := hcell k hk 0 (by omega)
      simp only [rdSt, rdI, hz]
      exact ⟨hb0, hb1⟩
    · have hpos : 0 < len := by
        rcases Nat.eq_zero_or_pos len with h0 | h0
        · exact absurd (List.eq_nil_of_length_eq_zero (by rw [hL]; exact h0)) hne
        · exact h0
      obtain ⟨z0, hz0, _⟩ := hcell 0 hpos 0 (by omega)
      have hs : a.spot = none := by
        have := spot_none hz0
        simpa [Addr.add] using this
      obtain ⟨b, off, sp⟩ := a
      simp only at hs
      subst hs
      refine ⟨b, off, rfl, World.block_lt_of_cell? w _ (by simpa [Addr.add] using hz0), fun k hk => ?_⟩
      rw [hL] at hk
      rw [hat k hk]
      have e1 : ∀ j, ((⟨b, off, none⟩ : Addr).add (k * 5)).add j = ⟨b, off + k * 5 + j, none⟩ := fun j => by
        unfold Addr.add
        by_cases h1 : k * 5 = 0 <;> by_cases h2 : j = 0 <;> simp [h1, h2]
      obtain ⟨y0, g0, _⟩ := hcell k hk 0 (by omega)
      obtain ⟨y1, g1, _⟩ := hcell k hk 1 (by omega)
      obtain ⟨y2, g2, _⟩ := hcell k hk 2 (by omega)
      obtain ⟨y3, g3, _⟩ := hcell k hk 3 (by omega)
      obtain ⟨y4, g4, _⟩ := hcell k hk 4 (by omega)
      simp only [rdSt, rdI, g0, g1, g2, g3, g4]
      rw [e1] at g0 g1 g2 g3 g4
      exact ⟨g0, g1, g2, g3, g4⟩

end
end Go.Proofs.YthhhkjbhhjcjoaaGreatDoor
