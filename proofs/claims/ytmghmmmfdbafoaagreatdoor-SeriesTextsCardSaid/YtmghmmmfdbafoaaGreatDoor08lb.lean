/- The library's functions at the statement's world: Itoa, Atoi, Split, Join, TrimPrefix, CutSuffix. -/
import Derived.HandedShaped
import Derived.Handed
import Derived.LaidMore
import Derived.Lay
import Derived.SevenTiedAt
import Derived.ProofKit
import Derived.OpenShut
import Derived.Stop.Joined
import Derived.Stop.LaidErr
import Derived.Lib.LaidTab
import Derived.Test.YtmghmmmfdbafoaaGreatDoorAbU
import Derived.Test.YtmghmmmfdbafoaaGreatDoorTr
import Derived.Test.YtmghmmmfdbafoaaGreatDoor08tw
import Derived.Test.YtmghmmmfdbafoaaGreatDoor02sh
import Derived.Shelf.Small.Wraps
import Derived.Shelf.Vars
import Derived.Lib.AtoiErrMem
import Derived.WalkKit
import Derived.BigCall
set_option linter.unusedSimpArgs false
set_option linter.unusedVariables false
section
namespace Go
open Go.RowKit Go.ChangeShapes
theorem ri_laid {H : Type} {enc : TypeId × Value → H} {a : Assume} {C : Checked} {os : Os} {f : FuncId} {fn : Func} {s : ChangeSpec} {conds : List PathCond} {apart fresh handsOn again : Bool} {X : World → Array Value → Prop}
    (hX : ∀ (w w' : World) (args : Array Value), w.heap = w'.heap → X w args → X w' args)
    (own : ownKnob C.prog.godebug = none) (started : os.Started) (noInit : C.prog.inits.idxOf? f = none) (hfn : C.prog.funcs[f]? = some fn)
    (witness : ∃ (w : World) (tape : Tape) (i : Input), w.os = os ∧ (w.forCall tape i).Shaped C.prog ∧ i.vars = [] ∧ Input.okWide C.prog (w.forCall tape i) .any w.heap.size f i ∧
      ((s.pre enc C.prog fn conds apart (w.forCall tape i).memory i.args ∧ X (w.forCall tape i).memory i.args) ∧ sizedMet enc C.prog fn (OpenSpec.ofChange s) apart (w.forCall tape i).memory i.args) ∧ a.holds C.prog (lone (Frame.enter C.prog f i.args .normal) [] (w.forCall tape i)))
    (contract : ∀ (W : World) (base : Nat) (args : Array Value) (ds gs : List (DataW H)) (before : List MemPlace),
      (∀ (j : Nat) t v, fn.params[j]? = some t → args[j]? = some v → Value.okWide C.prog W .any base t v) →
      DataW.Whole enc C.prog fn.params.toList s.vars apart W args.toList ds gs before →
      conds.all (PathCond.test C.prog ⟨fn.params.toList, ds, s.plain.varTypes C.prog, gs⟩) = true →
      X W args → W.ShapedOpen C.prog →
      Calls C.prog f args W fun e W' => ∃ v, e = .returned v ∧ s.post enc C.prog fn apart fresh handsOn again W args v W') :
    ReturnsInHanded a C os f .any (fun w args => (s.pre enc C.prog fn conds apart w args ∧ X w args) ∧ sizedMet enc C.prog fn (OpenSpec.ofChange s) apart w args) (s.post enc C.prog fn apart fresh handsOn again) := by
  refine returnsInHanded_of_calls own started noInit witness ?_
  intro w tape i _ hsh _ hok hpre _
  obtain ⟨_, _, _, fn', hfn', _, _, _, _, hval⟩ := hok
  have e : fn' = fn := Option.some.inj (hfn'.symm.trans hfn)
  subst e
  obtain ⟨⟨⟨ds, gs, before, hw, hc⟩, hx⟩, _⟩ := hpre
  have hw' := DataW.Whole.of_heap (w' := w.forCall tape i) (by rfl) hw
  refine (contract (w.forCall tape i) w.heap.size i.args ds gs before hval hw' hc (hX _ _ _ (by rfl) hx) hsh).mono fun e W' ⟨v, he, hp⟩ => ?_
  subst he
  exact ChangeSpec.post_blind hp
namespace Ab
/-- A cell of the first blocks. -/
theorem GW.cell {N0 g o : Nat} {W0 w : World} {v : Value} (h : GW N0 W0 w) (hlt : g < N0) (hv : W0.cell? ⟨g, o, none⟩ = some v) : w.cell? ⟨g, o, none⟩ = some v := by
  unfold World.cell? at hv ⊢
  rw [h.2 g hlt]
  exact hv
end Ab
end Go
end

section
namespace Go.Proofs.YtmghmmmfdbafoaaGreatDoor
open Go Go.RowKit Go.Ab Go.Lib Go.Tx Go.Shelf
set_option maxRecDepth 100000
set_option maxHeartbeats 2000000
/-- What the library's variables hold. -/
structure Lb (N0 : Nat) (W0 : World) : Prop where
  n : 8 ≤ N0
  tab : ∃ ty fr, W0.heap[3]? = some (.cells (Lib.pow10Tab.map fun z => Value.int .u64 z).toArray ty fr)
  mx : ∃ m, W0.cell? ⟨0, 0, none⟩ = some (.int .i64 m)
  es : ∃ te pe, W0.cell? ⟨1, 0, none⟩ = some (.iface te pe)
  er : ∃ te pe, W0.cell? ⟨2, 0, none⟩ = some (.iface te pe)
theorem tab_at {P : Program} {w : World} {nm : String} {ty : TypeId} {fr : Nat × Nat} (hg : P.globalNamed nm = some 3) (h : w.heap[3]? = some (.cells (Lib.pow10Tab.map fun z => Value.int .u64 z).toArray ty fr)) : Lib.TabIs P w nm .u64 Lib.pow10Tab := by
  unfold Lib.TabIs World.var?
  rw [hg]
  simp only [Option.bind_some, h]
/-- What the texts need of the library, in a world whose first blocks lie as in a given one. -/
structure Lw (N0 : Nat) (W0 : World) : Prop where
  itoa : ∀ (n : Int) (m : Mem), -9223372036854775808 ≤ n → n ≤ 9223372036854775807 → PCallsW N0 W0 Tryz.prog 48 [.int .i64 n] m (.string (tx (Lib.itoa n)))
  join : ∀ (m : Mem) (b c : Nat) (blk : Blk) (ls : List (List UInt8)), m.at b = some blk → blk.cells = ls.map (fun l => Value.string (tx l)) → ls ≠ [] → ls.length ≤ 1000 → (Lib.join ls [32]).length ≤ 1000000 →
    PCallsW N0 W0 Tryz.prog 49 [.slice (some ⟨b, 0, none⟩) ls.length c, .string (tx [32])] m (.string (tx (Lib.join ls [32])))
  split : ∀ (m : Mem) (l : List UInt8), l.length ≤ 1000000 → ACallsW N0 W0 Tryz.prog 53 [.string (tx l), .string (tx [32])] m (.slice (some ⟨m.length, 0, none⟩) (cutAt 32 l).length (cutAt 32 l).length) (m ++ [some ⟨(cutAt 32 l).map (fun l => Value.string (tx l)), true, 1⟩])
  atoiY : ∀ (m : Mem) (l : List UInt8) (v : Int), l.length ≤ 1000000 → atoiAll l = .ok v → PCallsW N0 W0 Tryz.prog 54 [.string (tx l)] m (.tuple #[.int .i64 v, .nilIface])
  atoiN : ∀ (l : List UInt8), l.length ≤ 1000000 → (∀ v, atoiAll l ≠ .ok v) → ∃ u : Int, ∀ m : Mem, PCallsW N0 W0 Tryz.prog 54 [.string (tx l)] m (.tuple #[.int .i64 u, .iface 143 junk])
  trim : ∀ (m : Mem) (l : List UInt8), PCalls Tryz.prog 55 [.string (tx l), .string (tx [45])] m (.string (tx (bodyOf l)))
  cutY : ∀ (m : Mem) (l : List UInt8), l.length ≤ 1000000 → PCalls Tryz.prog 26 [.string (tx (l ++ [10])), .string (tx [10])] m (.tuple #[.string (tx l), .bool true])
  cutN : ∀ (m : Mem) (l : List UInt8), l.length ≤ 1000000 → (10 : UInt8) ∉ l → PCalls Tryz.prog 26 [.string (tx l), .string (tx [10])] m (.tuple #[.string (tx l), .bool false])
section
variable {N0 : Nat} {W0 w : World}
theorem grow_bl (w : World) (k : Nat) (os : Array Obj) : Below w.heap.size w (Sort.grow (w.drewN k) os) :=
  ⟨rfl, rfl, rfl, by simp [Sort.grow], fun i hi => by
    show ((w.drewN k).heap ++ os)[i]? = _
    rw [Array.getElem?_append_left (by show i < w.heap.size; omega)]
    rfl⟩
theorem itoa_any (L : Lb N0 W0) (hG : GW N0 W0 w) (n : Int) (h0 : -9223372036854775808 ≤ n) (h1 : n ≤ 9223372036854775807) :
    Calls Tryz.prog 48 #[.int .i64 n] w fun e w' => e = .returned (.string (tx (Lib.itoa n))) ∧ Below w.heap.size w w' := by
  obtain ⟨ty, fr, ht⟩ := L.tab
  have hw : w.heap[3]? = _ := (hG.2 3 (by have := L.n; omega)).trans ht
  refine (Any.strconv_Itoa Tryz.laysM171 n h0 h1 w (tab_at (by kernel_rfl) hw)).mono ?_
  rintro e w' ⟨rfl, k, os, rfl⟩
  exact ⟨rfl, grow_bl w k os⟩
theorem atoi_ok (s : ByteArray) (hmax : s.size ≤ 281474976710656) (v : Int) (h : Lib.atoiAll s.data.toList = .ok v) (w : World) : Calls Tryz.prog 54 #[.string s] w fun e w' => e = .returned (.tuple #[.int .i64 v, .nilIface]) ∧ Below w.heap.size w w' := by
  refine (Any.strconv_Atoi_ok Tryz.laysC172 s (by omega) v h w).mono ?_
  rintro e w' ⟨rfl, rfl | ⟨t, rfl⟩⟩
  · exact ⟨rfl, Below.refl _ _⟩
  · exact ⟨rfl, Lib.bytesWorld_below _ _ _⟩
theorem atoi_syn (L : Lb N0 W0) (hG : GW N0 W0 w) (s : ByteArray) (hmax : s.size ≤ 281474976710656) (hno : ∀ v, Lib.atoiAll s.data.toList ≠ .ok v) (hnr : Lib.atoiAll s.data.toList ≠ .range) :
    Calls Tryz.prog 54 #[.string s] w fun e w' => (∃ p, e = .returned (.tuple #[.int .i64 0, .iface 143 p])) ∧ Below w.heap.size w w' := by
  obtain ⟨te, pe, hv⟩ := L.es
  refine (Any.strconv_Atoi_syntax Tryz.laysC172 s hmax (by cases hh : Lib.atoiAll s.data.toList <;> first | rfl | exact absurd hh (hno _) | exact absurd hh hnr) _ w (hG.cell (Nat.lt_of_lt_of_le (by decide) L.n) hv) (.inr ⟨te, pe, rfl⟩)).mono ?_
  rintro e w' ⟨N, rfl, -, -, hb⟩
  exact ⟨⟨_, rfl⟩, hb⟩
theorem atoi_ran (L : Lb N0 W0) (hG : GW N0 W0 w) (s : ByteArray) (hmax : s.size ≤ 281474976710656) (h : Lib.atoiAll s.data.toList = .range) :
    Calls Tryz.prog 54 #[.string s] w fun e w' => (∃ p, e = .returned (.tuple #[.int .i64 (Lib.atoiSat s.data.toList), .iface 143 p])) ∧ Below w.heap.size w w' := by
  obtain ⟨te, pe, hv⟩ := L.er
  refine (Any.strconv_Atoi_range Tryz.laysC172 s hmax h _ w (hG.cell (Nat.lt_of_lt_of_le (by decide) L.n) hv) (.inr ⟨te, pe, rfl⟩)).mono ?_
  rintro e w' ⟨N, rfl, -, -, hb⟩
  exact ⟨⟨_, rfl⟩, hb⟩
end
theorem tx_data (s : ByteArray) : tx s.data.toList = s := by cases s; rfl
theorem countB_cut (l : List UInt8) : Lib.countB (tx l) (tx [32]) + 1 = (cutAt 32 l).length ∧ (Lib.splitB (tx [32]) 0 (Lib.countB (tx l) (tx [32])) (tx l)).map Value.string = (cutAt 32 l).map fun p => Value.string (tx p) := by
  have hc : Lib.count l [32] = Lib.countB (tx l) (tx [32]) := rfl
  have hd := Lib.splitB_data (tx [32]) 0 (Lib.countB (tx l) (tx [32])) (tx l)
  rw [tx_list, tx_list, split_cut 32 l _ hc] at hd
  refine ⟨?_, ?_⟩
  · rw [cut_len, ← hc, count_one]
  · rw [← hd, List.map_map]
    refine List.map_congr_left fun x _ => ?_
    show Value.string x = Value.string (tx x.data.toList)
    rw [tx_data]
theorem suf_y (l : List UInt8) : Lib.hasSuffix (l ++ [10]) [10] = true ∧ Lib.trimSuffix (l ++ [10]) [10] = l := by
  have h : Lib.hasSuffix (l ++ [10]) [10] = true := by
    unfold Lib.hasSuffix
    simp [List.isSuffixOf]
  exact ⟨h, by unfold Lib.trimSuffix; rw [if_pos h]; simp⟩
theorem suf_n (l : List UInt8) (hl : (10 : UInt8) ∉ l) : Lib.hasSuffix l [10] = false ∧ Lib.trimSuffix l [10] = l := by
  have h : Lib.hasSuffix l [10] = false := by
    cases hh : Lib.hasSuffix l [10] with
    | false => rfl
    | true =>
      unfold Lib.hasSuffix at hh
      have := (List.isSuffixOf_iff_suffix).1 hh
      exact absurd (this.subset (by simp)) hl
  exact ⟨h, by unfold Lib.trimSuffix; rw [h]; rfl⟩
/-- All that the texts need of the library. -/
theorem lw_of {N0 : Nat} {W0 : World} (L : Lb N0 W0) : Lw N0 W0 where
  itoa n m h0 h1 := PCallsW.of_calls rfl rfl fun w hG => itoa_any L hG n h0 h1
  join m b c blk ls hb hc hne hlen hsz := by
    have e : ls.length = (ls.map tx).length := by rw [List.length_map]
    rw [e]
    have hj : (ls.map tx).map (fun x => x.data.toList) = ls := by
      rw [List.map_map]
      exact (List.map_congr_left fun x _ => tx_list x).trans (List.map_id ls)
    refine PCallsW.of_texts rfl hb (fun j s hs => ?_) (by simpa using hne) fun w bk o c hG hbk hcells hcap => ?_
    · rw [hc, Nat.zero_add, List.getElem?_map]
      rw [List.getElem?_map] at hs
      cases hl : ls[j]? with
      | none => rw [hl] at hs; cases hs
      | some l => rw [hl] at hs; cases hs; rfl
    · refine (Any.strings_Join Tryz.lays156 Tryz.Builder_Extra_156 bk o c (ls.map tx) (tx [32]) w hcells hbk (by rw [← e]; omega) hcap (by rw [hj]; show (Lib.join ls [32]).length ≤ _; omega)).mono ?_
      rintro e w' ⟨rfl, hb⟩
      rw [hj]
      exact ⟨rfl, hb⟩
  split m l hl := by
    obtain ⟨e1, e2⟩ := countB_cut l
    refine ACallsW.of_row (ty := 9) rfl (List.all_eq_true.2 fun v hv => by obtain ⟨p, _, rfl⟩ := List.mem_map.1 hv; rfl) (by rw [List.length_map, Nat.mul_one]) fun w hG => ?_
    obtain ⟨mv, hm⟩ := L.mx
    refine (Any.strings_Split Tryz.lays146 (by kernel_rfl) (tx l) (tx [32]) mv w (show l.length < _ by omega) (hG.cell (Nat.lt_of_lt_of_le (by decide) L.n) hm) (by decide)).mono ?_
    rintro e w' ⟨rfl, rfl⟩
    rw [e1, e2]
    exact ⟨rfl, rfl⟩
  atoiY m l v hl h := PCallsW.of_calls rfl rfl fun w _ => atoi_ok (tx l) (show l.length ≤ _ by omega) v h w
  atoiN l hl hno := by
    cases h : Lib.atoiAll l
    · exact absurd h (hno _)
    · exact ⟨0, fun m => PCallsW.of_err rfl rfl fun w hG => atoi_syn L hG (tx l) (show l.length ≤ _ by omega) hno (fun hv => by rw [tx_list, h] at hv; cases hv)⟩
    · exact ⟨Lib.atoiSat l, fun m => PCallsW.of_err rfl rfl fun w hG => atoi_ran L hG (tx l) (show l.length ≤ _ by omega) h⟩
  trim m l := PCalls.of_calls rfl rfl fun w => (Any.strings_TrimPrefix Tryz.lays101 (tx l) (tx [45]) w).mono fun e w' ⟨he, hw⟩ => ⟨by rw [he, tx_list, tx_list, trim_body]; rfl, hw ▸ Below.refl _ _⟩
  cutY m l hl := PCalls.of_calls rfl rfl fun w => (Any.strings_CutSuffix Tryz.lays104 (tx (l ++ [10])) (tx [10]) w (show (l ++ [10]).length ≤ _ by rw [List.length_append, List.length_singleton]; omega)).mono fun e w' ⟨he, hw⟩ => ⟨by rw [he, tx_list, tx_list, (suf_y l).1, (suf_y l).2]; rfl, hw ▸ Below.refl _ _⟩
  cutN m l hl hn := PCalls.of_calls rfl rfl fun w => (Any.strings_CutSuffix Tryz.lays104 (tx l) (tx [10]) w (show l.length ≤ _ by omega)).mono fun e w' ⟨he, hw⟩ => ⟨by rw [he, tx_list, tx_list, (suf_n l hn).1, (suf_n l hn).2]; rfl, hw ▸ Below.refl _ _⟩
end Go.Proofs.YtmghmmmfdbafoaaGreatDoor
end
