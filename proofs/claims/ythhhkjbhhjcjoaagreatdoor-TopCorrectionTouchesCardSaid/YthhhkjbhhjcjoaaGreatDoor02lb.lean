/- A row that lists variables, whose walk also wants the world's shape: the contract is handed both. -/
/- The library's functions at the statement's world: Itoa, Atoi, Split, Join, TrimPrefix; 'number'. -/
import Derived.HandedShaped
import Derived.Handed
import Derived.LaidMore
import Derived.Lay
import Derived.SevenTiedAt
import Derived.ProofKit
import Derived.OpenShut
import Derived.Stop.Joined
import Derived.Stop.LaidErr
import Derived.Lib.LaidTab
import Derived.Test.YthhhkjbhhjcjoaaGreatDoorAbW
import Derived.Test.YthhhkjbhhjcjoaaGreatDoor02pa
import Derived.Test.YthhhkjbhhjcjoaaGreatDoor02sh
import Derived.Shelf.Vars
import Derived.Lib.AtoiErrMem
import Derived.WalkKit
import Derived.BigCall
set_option linter.unusedSimpArgs false
set_option linter.unusedVariables false
section
namespace Go
open Go.RowKit Go.ChangeShapes
theorem ri_laid {H : Type} {enc : TypeId × Value → H} {a : Assume} {C : Checked} {os : Os} {f : FuncId} {fn : Func} {s : ChangeSpec} {conds : List PathCond} {apart fresh handsOn again : Bool} {X : World → Array Value → Prop}
    (hX : ∀ (w w' : World) (args : Array Value), w.heap = w'.heap → X w args → X w' args)
    (own : ownKnob C.prog.godebug = none) (started : os.Started) (noInit : C.prog.inits.idxOf? f = none) (hfn : C.prog.funcs[f]? = some fn)
    (witness : ∃ (w : World) (tape : Tape) (i : Input), w.os = os ∧ (w.forCall tape i).Shaped C.prog ∧ i.vars = [] ∧ Input.okWide C.prog (w.forCall tape i) .any w.heap.size f i ∧
      ((s.pre enc C.prog fn conds apart (w.forCall tape i).memory i.args ∧ X (w.forCall tape i).memory i.args) ∧ sizedMet enc C.prog fn (OpenSpec.ofChange s) apart (w.forCall tape i).memory i.args) ∧ a.holds C.prog (lone (Frame.enter C.prog f i.args .normal) [] (w.forCall tape i)))
    (contract : ∀ (W : World) (base : Nat) (args : Array Value) (ds gs : List (DataW H)) (before : List MemPlace),
      (∀ (j : Nat) t v, fn.params[j]? = some t → args[j]? = some v → Value.okWide C.prog W .any base t v) →
      DataW.Whole enc C.prog fn.params.toList s.vars apart W args.toList ds gs before →
      conds.all (PathCond.test C.prog ⟨fn.params.toList, ds, s.plain.varTypes C.prog, gs⟩) = true →
      X W args → W.ShapedOpen C.prog →
      Calls C.prog f args W fun e W' => ∃ v, e = .returned v ∧ s.post enc C.prog fn apart fresh handsOn again W args v W') :
    ReturnsInHanded a C os f .any (fun w args => (s.pre enc C.prog fn conds apart w args ∧ X w args) ∧ sizedMet enc C.prog fn (OpenSpec.ofChange s) apart w args) (s.post enc C.prog fn apart fresh handsOn again) := by
  refine returnsInHanded_of_calls own started noInit witness ?_
  intro w tape i _ hsh _ hok hpre _
  obtain ⟨_, _, _, fn', hfn', _, _, _, _, hval⟩ := hok
  have e : fn' = fn := Option.some.inj (hfn'.symm.trans hfn)
  subst e
  obtain ⟨⟨⟨ds, gs, before, hw, hc⟩, hx⟩, _⟩ := hpre
  have hw' := DataW.Whole.of_heap (w' := w.forCall tape i) (by rfl) hw
  refine (contract (w.forCall tape i) w.heap.size i.args ds gs before hval hw' hc (hX _ _ _ (by rfl) hx) hsh).mono fun e W' ⟨v, he, hp⟩ => ?_
  subst he
  exact ChangeSpec.post_blind hp
namespace Ab
theorem GW.cell {N0 g o : Nat} {W0 w : World} {v : Value} (h : GW N0 W0 w) (hlt : g < N0) (hv : W0.cell? ⟨g, o, none⟩ = some v) : w.cell? ⟨g, o, none⟩ = some v := by
  unfold World.cell? at hv ⊢
  rw [h.2 g hlt]
  exact hv
theorem GW.below {N0 : Nat} {W0 w w' : World} (h : GW N0 W0 w) (hb : Below w.heap.size w w') : GW N0 W0 w' :=
  ⟨Nat.le_trans h.1 hb.size, fun x hx => (hb.block x (Nat.lt_of_lt_of_le hx h.1)).trans (h.2 x hx)⟩
end Ab
end Go
end

section
section
namespace Go.Proofs.YthhhkjbhhjcjoaaGreatDoor
open Go Go.RowKit Go.Ob Go.Ab Go.Lib Go.Tx Go.Shelf
set_option maxRecDepth 100000
set_option maxHeartbeats 2000000
/-- What the library's variables hold. -/
structure Lb (N0 : Nat) (W0 : World) : Prop where
  n : 8 ≤ N0
  tab : ∃ ty fr, W0.heap[0]? = some (.cells (Lib.pow10Tab.map fun z => Value.int .u64 z).toArray ty fr)
  mx : ∃ m, W0.cell? ⟨1, 0, none⟩ = some (.int .i64 m)
  es : ∃ te pe, W0.cell? ⟨2, 0, none⟩ = some (.iface te pe)
  er : ∃ te pe, W0.cell? ⟨3, 0, none⟩ = some (.iface te pe)
theorem tab_at {P : Program} {w : World} {nm : String} {ty : TypeId} {fr : Nat × Nat} (hg : P.globalNamed nm = some 0) (h : w.heap[0]? = some (.cells (Lib.pow10Tab.map fun z => Value.int .u64 z).toArray ty fr)) : Lib.TabIs P w nm .u64 Lib.pow10Tab := by
  unfold Lib.TabIs World.var?
  rw [hg]
  simp only [Option.bind_some, h]
section
variable {N0 : Nat} {W0 w : World}
theorem grow_bl (w : World) (k : Nat) (os : Array Obj) : Below w.heap.size w (Sort.grow (w.drewN k) os) :=
  ⟨rfl, rfl, rfl, by simp [Sort.grow], fun i hi => by
    show ((w.drewN k).heap ++ os)[i]? = _
    rw [Array.getElem?_append_left (by show i < w.heap.size; omega)]
    rfl⟩
theorem itoa_any (L : Lb N0 W0) (hG : GW N0 W0 w) (n : Int) (h0 : -9223372036854775808 ≤ n) (h1 : n ≤ 9223372036854775807) :
    Calls Tryz.prog 35 #[.int .i64 n] w fun e w' => e = .returned (.string (tx (Lib.itoa n))) ∧ Below w.heap.size w w' := by
  obtain ⟨ty, fr, ht⟩ := L.tab
  have hw : w.heap[0]? = _ := (hG.2 0 (by have := L.n; omega)).trans ht
  refine (Any.strconv_Itoa Tryz.laysM171 n h0 h1 w (tab_at (by kernel_rfl) hw)).mono ?_
  rintro e w' ⟨rfl, k, os, rfl⟩
  exact ⟨rfl, grow_bl w k os⟩
theorem trim_any (s p : ByteArray) (w : World) : Calls Tryz.prog 87 #[.string s, .string p] w fun e w' => e = .returned (.string (tx (Lib.trimPrefix s.data.toList p.data.toList))) ∧ w' = w :=
  Any.strings_TrimPrefix Tryz.lays101 s p w
theorem atoi_ok (s : ByteArray) (hmax : s.size ≤ 281474976710656) (v : Int) (h : Lib.atoiAll s.data.toList = .ok v) (w : World) : Calls Tryz.prog 86 #[.string s] w fun e w' => e = .returned (.tuple #[.int .i64 v, .nilIface]) ∧ Below w.heap.size w w' := by
  refine (Any.strconv_Atoi_ok Tryz.laysC172 s (by omega) v h w).mono ?_
  rintro e w' ⟨rfl, rfl | ⟨t, rfl⟩⟩
  · exact ⟨rfl, Below.refl _ _⟩
  · exact ⟨rfl, Lib.bytesWorld_below _ _ _⟩
theorem atoi_syn (L : Lb N0 W0) (hG : GW N0 W0 w) (s : ByteArray) (hmax : s.size ≤ 281474976710656) (hno : ∀ v, Lib.atoiAll s.data.toList ≠ .ok v) (hnr : Lib.atoiAll s.data.toList ≠ .range) :
    Calls Tryz.prog 86 #[.string s] w fun e w' => (∃ N, e = .returned (.tuple #[.int .i64 0, .iface 202 (.pointer (some ⟨N, 0, none⟩))])) ∧ Below w.heap.size w w' := by
  obtain ⟨te, pe, hv⟩ := L.es
  refine (Any.strconv_Atoi_syntax Tryz.laysC172 s hmax (by cases hh : Lib.atoiAll s.data.toList <;> first | rfl | exact absurd hh (hno _) | exact absurd hh hnr) _ w (hG.cell (Nat.lt_of_lt_of_le (by decide) L.n) hv) (.inr ⟨te, pe, rfl⟩)).mono ?_
  rintro e w' ⟨N, rfl, -, -, hb⟩
  exact ⟨⟨N, rfl⟩, hb⟩
theorem atoi_ran (L : Lb N0 W0) (hG : GW N0 W0 w) (s : ByteArray) (hmax : s.size ≤ 281474976710656) (h : Lib.atoiAll s.data.toList = .range) :
    Calls Tryz.prog 86 #[.string s] w fun e w' => (∃ N, e = .returned (.tuple #[.int .i64 (Lib.atoiSat s.data.toList), .iface 202 (.pointer (some ⟨N, 0, none⟩))])) ∧ Below w.heap.size w w' := by
  obtain ⟨te, pe, hv⟩ := L.er
  refine (Any.strconv_Atoi_range Tryz.laysC172 s hmax h _ w (hG.cell (Nat.lt_of_lt_of_le (by decide) L.n) hv) (.inr ⟨te, pe, rfl⟩)).mono ?_
  rintro e w' ⟨N, rfl, -, -, hb⟩
  exact ⟨⟨N, rfl⟩, hb⟩
theorem number_any (L : Lb N0 W0) (hG : GW N0 W0 w) (s : ByteArray) (hlim : s.size ≤ 281474976710656) :
    Calls Tryz.prog 38 #[.string s] w fun e w' => e = .returned (.tuple #[.int .i64 (numV s.data.toList), .bool (numP s.data.toList).isSome]) ∧ Below w.heap.size w w' := by
  cases h : Lib.atoiAll s.data.toList
  · rename_i v
    have hv : numV s.data.toList = v := by unfold numV; rw [h]
    obtain ⟨b0, b1⟩ := atoiAll_bounds h
    rw [hv, numP_ok h]
    go_enter Tryz.func38, Tryz.ntmps38
    go_wp2_with (go_at_call 86; refine (atoi_ok s hlim v h _).mono ?_; rintro e w1 ⟨rfl, hb1⟩)
    have hG1 := hG.below hb1
    by_cases hE : Lib.itoa v = s.data.toList
    · have hE' : (tx (Lib.itoa v)).toList = s.toList := by rw [ByteArray.toList_eq, ByteArray.toList_eq, tx_list, hE]
      have hT : ((tx (trimPrefix s.data.toList [45])).size : Int) = (trimPrefix s.data.toList [45]).length := rfl
      go_wp2_with (first | (go_at_call 35; refine (itoa_any L hG1 v b0 b1).mono ?_; rintro e w2 ⟨rfl, hb2⟩) | (go_at_call 87; refine (trim_any s ⟨#[45]⟩ _).mono ?_; rintro e w' ⟨rfl, rfl⟩))
      go_ret2
      refine ⟨?_, hb1.trans (hb2.mono hb1.size)⟩
      rw [decide_eq_true hE, Bool.true_and]
      simp only [hT]
      simp
      omega
    · have hE' : ¬ (tx (Lib.itoa v)).toList = s.toList := fun hx => hE (by rw [ByteArray.toList_eq, ByteArray.toList_eq, tx_list] at hx; exact hx)
      go_wp2_with (first | (go_at_call 35; refine (itoa_any L hG1 v b0 b1).mono ?_; rintro e w2 ⟨rfl, hb2⟩) | (go_at_call 87; refine (trim_any s ⟨#[45]⟩ _).mono ?_; rintro e w' ⟨rfl, rfl⟩))
      go_ret2
      refine ⟨?_, hb1.trans (hb2.mono hb1.size)⟩
      rw [decide_eq_false hE, Bool.false_and]
      rfl
  · have hno : ∀ v, Lib.atoiAll s.data.toList ≠ .ok v := fun v hv => by rw [h] at hv; cases hv
    have hnr : Lib.atoiAll s.data.toList ≠ .range := fun hv => by rw [h] at hv; cases hv
    have hv : numV s.data.toList = 0 := by unfold numV; rw [h]
    rw [hv, numP_syn hno]
    go_enter Tryz.func38, Tryz.ntmps38
    go_wp2_with (go_at_call 86; refine (atoi_syn L hG s hlim hno hnr).mono ?_; rintro e w1 ⟨⟨N, rfl⟩, hb1⟩)
    go_wp2
    go_ret2
    exact ⟨rfl, hb1⟩
  · have hv : numV s.data.toList = Lib.atoiSat s.data.toList := by unfold numV; rw [h]
    rw [hv, numP_ran h]
    go_enter Tryz.func38, Tryz.ntmps38
    go_wp2_with (go_at_call 86; refine (atoi_ran L hG s hlim h).mono ?_; rintro e w1 ⟨⟨N, rfl⟩, hb1⟩)
    go_wp2
    go_ret2
    exact ⟨rfl, hb1⟩
end

theorem tx_data (s : ByteArray) : tx s.data.toList = s := by cases s; rfl
theorem countB_cut (l : List UInt8) : Lib.countB (tx l) (tx [32]) + 1 = (cutAt 32 l).length ∧ (Lib.splitB (tx [32]) 0 (Lib.countB (tx l) (tx [32])) (tx l)).map Value.string = (cutAt 32 l).map fun p => Value.string (tx p) := by
  have hc : Lib.count l [32] = Lib.countB (tx l) (tx [32]) := rfl
  have hd := Lib.splitB_data (tx [32]) 0 (Lib.countB (tx l) (tx [32])) (tx l)
  rw [tx_list, tx_list, split_cut 32 l _ hc] at hd
  refine ⟨?_, ?_⟩
  · rw [cut_len, ← hc, count_one]
  · rw [← hd, List.map_map]
    refine List.map_congr_left fun x _ => ?_
    show Value.string x = Value.string (tx x.data.toList)
    rw [tx_data]
/-- All that the texts need of the library. -/
theorem lw_of {N0 : Nat} {W0 : World} (L : Lb N0 W0) : Lw N0 W0 where
  itoa n m h0 h1 := PCallsW.of_calls rfl rfl fun w hG => itoa_any L hG n h0 h1
  join m b c blk ls hb hc hne hlen hsz := by
    have e : ls.length = (ls.map tx).length := by rw [List.length_map]
    rw [e]
    have hj : (ls.map tx).map (fun x => x.data.toList) = ls := by
      rw [List.map_map]
      exact (List.map_congr_left fun x _ => tx_list x).trans (List.map_id ls)
    refine PCallsW.of_texts rfl hb (fun j s hs => ?_) (by simpa using hne) fun w bk o c hG hbk hcells hcap => ?_
    · rw [hc, Nat.zero_add, List.getElem?_map]
      rw [List.getElem?_map] at hs
      cases hl : ls[j]? with
      | none => rw [hl] at hs; cases hs
      | some l => rw [hl] at hs; cases hs; rfl
    · refine (Any.strings_Join Tryz.lays156 Tryz.Builder_Extra_156 bk o c (ls.map tx) (tx [32]) w hcells hbk (by rw [← e]; omega) hcap (by rw [hj]; show (Lib.join ls [32]).length ≤ _; omega)).mono ?_
      rintro e w' ⟨rfl, hb⟩
      rw [hj]
      exact ⟨rfl, hb⟩
  split m l hl := by
    obtain ⟨e1, e2⟩ := countB_cut l
    refine ACallsW.of_row (ty := 9) rfl (List.all_eq_true.2 fun v hv => by obtain ⟨p, _, rfl⟩ := List.mem_map.1 hv; rfl) (by rw [List.length_map, Nat.mul_one]) fun w hG => ?_
    obtain ⟨mv, hm⟩ := L.mx
    refine (Any.strings_Split Tryz.lays146 (by kernel_rfl) (tx l) (tx [32]) mv w (show l.length < _ by omega) (hG.cell (Nat.lt_of_lt_of_le (by decide) L.n) hm) (by decide)).mono ?_
    rintro e w' ⟨rfl, rfl⟩
    rw [e1, e2]
    exact ⟨rfl, rfl⟩
  number m l hl := PCallsW.of_calls rfl rfl fun w hG => number_any L hG (tx l) (show l.length ≤ _ by omega)
end Go.Proofs.YthhhkjbhhjcjoaaGreatDoor
end
end
