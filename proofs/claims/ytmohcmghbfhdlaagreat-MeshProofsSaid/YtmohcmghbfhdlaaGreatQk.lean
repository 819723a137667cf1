/- The small memory: slices.SortFunc. -/
import Derived.Test.YtmohcmghbfhdlaaGreatQh
import Derived.Test.YtmohcmghbfhdlaaGreatQe
import Derived.Shelf.SlSortCmp.NoneTotal
import Derived.Test.YtmohcmghbfhdlaaGreatQj
import Derived.Test.YtmohcmghbfhdlaaGreatQd
section
set_option linter.unusedSimpArgs false
set_option linter.unusedVariables false
namespace Go
open Go.RowKit
namespace Ab
open Go.Sort Go.Proofs Go.Shelf
theorem MRel.but {ρ : Ren} {m : Mem} {w W : World} {b : Nat} {blk : Blk} {pl : Pl} (hm : MRel ρ m w) (hb : m.at b = some blk) (ho : blk.own = true) (hp : ρ b = some pl) (hW : ∀ k, k < w.heap.size → k ≠ pl.blk → W.heap[k]? = w.heap[k]?) : MRel ρ (m.set b none) W := by
 intro k bk hk
 rw [Mem.at_setnone] at hk
 split at hk
 ·cases hk
 ·rename_i hkb
  obtain ⟨pl', hp', hbr, hown⟩ := hm k bk hk
  obtain ⟨pl0, hp0, _, hown0⟩ := hm b blk hb
  cases Option.some.inj (hp0.symm.trans hp)
  refine ⟨pl', hp', hbr.ext (.refl _) (hW _ hbr.lt (hown0 ho k bk pl' hkb hk hp')), fun ho' b' blk' pl'' hne' hb' hp'' => ?_⟩
  rw [Mem.at_setnone] at hb'
  split at hb'
  ·cases hb'
  ·exact hown ho' b' blk' pl'' hne' hb' hp''
section
variable {α : Type} [Inhabited α] {E : Env} {ρ : Ren} {m : Mem} {w : World} {b : Nat} {z : Nat} {pl : Pl} {cs : List Value}
theorem heap_putRow_other (enc : α → Value) (w : World) (x off : Nat) (d : Array α) {k : Nat} (h : k ≠ x) : (putRow enc w x off d).heap[k]? = w.heap[k]? := by
 unfold putRow mapBlock
 simp only [Array.getElem?_modify]
 rw [if_neg (Ne.symm h)]
theorem heap_sortWorld_other (enc : α → Value) (w : World) (x off n : Nat) (d : Array α) (os : Array Obj) {k : Nat} (h : k ≠ x) (hk : k < w.heap.size) : (sortWorld enc w x off n d os).heap[k]? = w.heap[k]? := by
 unfold sortWorld
 rw [heap_grow_old _ _ (by unfold putRow mapBlock; simpa using hk), heap_putRow_other enc _ x off d h]
 rfl
theorem St.sorted (enc : α → Value) (h : St E ρ m w) (hb : m.at b = some ⟨cs, true, z⟩) (hp : ρ b = some pl) (d : Array α) (hsc : ∀ x ∈ d.toList, Ab.scal (enc x) = true) (hlen : d.size = cs.length) (n : Nat) (os : Array Obj) :
  St E ρ (m.set b (some ⟨d.toList.map enc, true, z⟩)) (sortWorld enc w pl.blk 0 n d os) := by
 obtain ⟨pl', hp', ⟨x, c, ty, fr, hc, hx, e1, e2, e3⟩, _⟩ := h.mem b _ hb
 cases Option.some.inj (hp'.symm.trans hp)
 obtain ⟨g0, g1, g2⟩ := e3 rfl
 have hx' : x = .cells c ty fr := hx
 subst hx'
 have hcs : ∀ i, i < cs.length → i < c.size := fun i hi => by
  obtain ⟨v', q, _⟩ := e2 i cs[i] (List.getElem?_eq_getElem hi)
  rw [g0] at q
  exact (Array.getElem?_eq_some_iff.1 q).1
 have h1 : St E ρ (m.set b (some ⟨d.toList.map enc, true, z⟩)) (putRow enc w pl.blk 0 d) := by
  refine h.store (w' := putRow enc w pl.blk 0 d) (cs' := d.toList.map enc) (c' := putCells enc 0 d c) hb rfl hp hc ?_ (by unfold putCells; simp) (fun i v hv => ?_) (fun k hk => heap_putRow_other enc w _ 0 d hk) (by unfold putRow mapBlock; simp) rfl rfl ⟨rfl, Nat.le_refl _⟩
  ·unfold putRow mapBlock
   simp only [Array.getElem?_modify, if_true, hc]
   rfl
  ·rw [List.getElem?_map] at hv
   cases hi : d.toList[i]? with
   | none => rw [hi] at hv; cases hv
   | some y =>
    rw [hi] at hv
    cases Option.some.inj hv
    have hid : i < d.size := by simpa using (List.getElem?_eq_some_iff.1 hi).1
    have hic := hcs i (by omega)
    refine ⟨enc y, ?_, .scal (hsc y (List.mem_of_getElem? hi))⟩
    rw [g0]
    unfold putCells
    rw [Array.getElem?_mapIdx, Nat.add_zero, Array.getElem?_eq_getElem hic]
    simp only [Option.map_some, Nat.zero_le, true_and, Nat.zero_add, Nat.sub_zero, Nat.add_zero]
    rw [if_pos (by omega), getElem!_pos d i hid]
    rw [Array.getElem?_toList, Array.getElem?_eq_getElem hid] at hi
    rw [Option.some.inj hi]
 refine h1.below ⟨rfl, rfl, ⟨rfl, Nat.le_add_right _ _⟩, ?_, fun k hk => ?_⟩
 ·unfold sortWorld
  rw [size_grow]
  exact Nat.le_add_right _ _
 ·exact heap_grow_old (putRow enc (Sort.ahead w n) pl.blk 0 d) os hk
end
def CmpQ (P : Program) (g : FuncId) (capA : Array Value) (m : Mem) {α : Type} (args : α → α → Array Value) (cf : α → α → Int) : Prop :=
 ∀ (ρ : Ren) (cb : Array Value) (W : World), (∀ b pl, ρ b = some pl → b < m.length) → VRel ρ (.tuple capA) (.tuple cb) → MRel ρ m W → ∀ x y : α,
  Calls P g (args x y ++ cb) W fun e w' => e = .returned (.int .i64 (cf x y)) ∧ ∃ q os', w' = grow (W.drewN q) os'
theorem Grw.grow {W w' : World} (h : Grw W.heap.size W w') : ∃ q os', w' = grow (W.drewN q) os' := by
 refine ⟨w'.drawn - W.drawn, w'.heap.extract W.heap.size w'.heap.size, ?_⟩
 have h1 := h.os
 have h2 := h.tape
 have h3 := h.output.1
 have h4 : w'.drawn = W.drawn + (w'.drawn - W.drawn) := by have := h.output.2; omega
 have h5 : w'.heap = W.heap ++ w'.heap.extract W.heap.size w'.heap.size := by
  apply Array.ext_getElem?
  intro k
  rw [Array.getElem?_append]
  split
  ·exact h.block k (by assumption)
  ·rename_i hk
   rw [Array.getElem?_extract]
   by_cases hk2 : k < w'.heap.size
   ·rw [if_pos (by omega), show W.heap.size + (k - W.heap.size) = k by omega]
   ·rw [if_neg (by omega), Array.getElem?_eq_none (by omega)]
 obtain ⟨hp, tp, dr, os, out⟩ := w'
 simp only at h1 h2 h3 h4 h5
 unfold Sort.grow World.drewN
 rw [h1, h2, h3, ← h4, ← h5]
theorem CmpQ.of {P : Program} {g : FuncId} {capA : Array Value} {m : Mem} {α : Type} {args : α → α → Array Value} {cf : α → α → Int} (hf : ∀ x y, (args x y).toList.all flat = true)
  (h : ∀ x y, PCalls P g ((args x y).toList ++ capA.toList) m (.int .i64 (cf x y))) : CmpQ P g capA m args cf := by
 intro ρ cb W hdom hcap hm x y
 refine (h x y ρ (args x y ++ cb) W hdom ?_ hm).mono ?_
 ·have e : ((args x y).toList ++ capA.toList).toArray = args x y ++ capA := by simp
  rw [e]
  refine VRel.tuple_append (.tuple rfl fun i h1 h2 => .flat (List.all_eq_true.1 (hf x y) _ (by simp))) hcap
 ·rintro e w' ⟨v', rfl, hv, hb⟩
  cases hv.int
  exact ⟨rfl, Grw.grow hb⟩
theorem enters_calls {P : Program} {f : FuncId} (h : enters P f = true) : ∀ args w, (callFunc f args).run P w = .ok (.enter f args) w := fun _ _ => run_callFunc h
theorem sort_args {E : Env} {ρ : Ren} {m : Mem} {w : World} {b n c z : Nat} {cs : List Value} {g : FuncId} {capA : Array Value} {args' : Array Value}
  (ha : VRel ρ (.tuple [Value.slice (some ⟨b, 0, none⟩) n c, .func (.func g) #[] capA].toArray) (.tuple args')) (hst : St E ρ m w) (hb : m.at b = some ⟨cs, true, z⟩) (hn : 0 < n) :
  ∃ (pl : Pl) (c' : Nat) (cb : Array Value) (ty : TypeId) (cc : Array Value), ρ b = some pl ∧ args' = #[.slice (some ⟨pl.blk, 0, none⟩) n c', .func (.func g) #[] cb] ∧ VRel ρ (.tuple capA) (.tuple cb) ∧ w.heap[pl.blk]? = some (.cells cc ty (0, 0)) ∧ ∀ (i : Nat) (v : Value), cs[i]? = some v → ∃ v', cc[i]? = some v' ∧ VRel ρ v v' := by
 obtain ⟨xs', e, h1, h2⟩ := ha.tuple_inv
 cases e
 have hsz : args'.size = 2 := by simpa using h1.symm
 obtain ⟨u0, q0, r0⟩ := h2 0 _ rfl
 obtain ⟨u1, q1, r1⟩ := h2 1 _ rfl
 obtain ⟨f', cb, rfl, s1, s2⟩ := r1.func_inv
 rcases r0.slice_inv with ⟨pl, c', hp, _, _, _, rfl⟩ | ⟨h, _⟩
 ·obtain ⟨pl', hp', ⟨x, cc, ty, fr, hc, hx, _, e2, e3⟩, _⟩ := hst.mem b _ hb
  cases Option.some.inj (hp'.symm.trans hp)
  obtain ⟨g0, _, g2⟩ := e3 rfl
  have hx' : x = .cells cc ty fr := hx
  subst hx'
  subst g2
  have hf : f' = #[] := by
   obtain ⟨ys, e, h3, _⟩ := s1.tuple_inv
   cases e
   exact Array.eq_empty_of_size_eq_zero (by simpa using h3.symm)
  subst hf
  refine ⟨pl, c', cb, ty, cc, hp, ?_, s2, hc, fun i v hv => ?_⟩
  ·rw [g0] at q0
   refine Array.ext (by simpa using hsz) fun i hi hi' => ?_
   have hi2 : i < 2 := by rw [← hsz]; exact hi
   match i, hi2 with
   | 0, _ => rw [Array.getElem?_eq_getElem hi] at q0; exact Option.some.inj q0
   | 1, _ => rw [Array.getElem?_eq_getElem hi] at q1; exact Option.some.inj q1
  ·obtain ⟨v', k1, k2⟩ := e2 i v hv
   rw [g0] at k1
   exact ⟨v', k1, k2⟩
 ·omega
theorem holds_of {α : Type} [Inhabited α] (enc : α → Value) (hsc : ∀ x, Ab.scal (enc x) = true) {ρ : Ren} {w : World} {x : Nat} {ty : TypeId} {cc : Array Value} (d : Array α) (hc : w.heap[x]? = some (.cells cc ty (0, 0)))
  (h : ∀ (i : Nat) (v : Value), (d.toList.map enc)[i]? = some v → ∃ v', cc[i]? = some v' ∧ VRel ρ v v') : Holds enc w x 0 d := fun j hj => by
 obtain ⟨v', q1, q2⟩ := h j (enc d[j]) (by simp [hj])
 refine ⟨?_, ?_⟩
 ·unfold World.cell?
  rw [hc]
  show cc[0 + j]? = _
  rw [Nat.zero_add, q1, q2.of_scal (hsc _), getElem!_pos d j hj]
 ·unfold World.frozen?
  rw [hc]
  simp
theorem ACalls.sort1 {P : Program} {σ : Go.Shelf.Ren} {α : Type} [Inhabited α] (L : SlLaysF.n6 P σ) (enc : α → Value) (h1 : OneCell enc) (hsc : ∀ x, Ab.scal (enc x) = true) (cf : α → α → Int) (hO : SWO (ltOf cf)) (hT : ∀ x y, (ltOf cf) x y = false → (ltOf cf) y x = false → x = y) {g : FuncId} (hg : enters P g = true)
  {capA : Array Value} {m : Mem} {b n c z : Nat} (xs : List α) (hn : xs.length = n) (h0 : 0 < n) (hsz : n < 4611686018427387904) (hb : m.at b = some ⟨xs.map enc, true, z⟩) (hcmp : CmpQ P g capA (m.set b none) (fun x y : α => #[enc x, enc y]) cf) :
  ACalls P (σ.f 6) [.slice (some ⟨b, 0, none⟩) n c, .func (.func g) #[] capA] m (.tuple #[]) (m.set b (some ⟨(xs.mergeSort fun x y => !(ltOf cf) y x).map enc, true, z⟩)) := by
 subst hn
 intro E ρ args' w ha hst
 obtain ⟨pl, c', cb, ty, cc, hp, rfl, hcap, hc, hcell⟩ := sort_args ha hst hb h0
 have hlt : pl.blk < w.heap.size := (Array.getElem?_eq_some_iff.1 hc).1
 have hcon := Any.slices_SortFunc_total L enc h1 cf hO g cb pl.blk 0 c' xs.toArray w (enters_calls hg) (fun k os dk hs x y => hcmp ρ cb _ (fun b' pl' h' => by simpa using hst.dom b' pl' h') hcap (hst.mem.but hb rfl hp fun k hk hne => heap_sortWorld_other enc w _ 0 _ dk os hne hk) x y) (holds_of enc hsc xs.toArray hc hcell) hlt (by simpa using hsz) hT
 refine hcon.mono ?_
 rintro e w' ⟨rfl, k, os, rfl⟩
 refine ⟨_, ρ, rfl, .refl _, .flat rfl, ?_⟩
 exact hst.sorted enc hb hp (xs.mergeSort fun x y => !(ltOf cf) y x).toArray (fun x _ => hsc x) (by simp) k os
theorem flatK_list {α : Type} [Inhabited α] (enc : α → List Value) (k : Nat) (hk : ∀ x, (enc x).length = k) (xs : List α) : (flatK enc k xs.toArray).toList = xs.flatMap enc := by
 refine List.ext_getElem? fun t => ?_
 by_cases ht : t < xs.length * k
 ·have k0 : 0 < k := by rcases Nat.eq_zero_or_pos k with h | h; (subst h; simp at ht); exact h
  have hd : t / k < xs.length := (Nat.div_lt_iff_lt_mul k0).2 ht
  have e : t = t / k * k + t % k := (Nat.div_add_mod' t k).symm
  have h1 := get_flatK enc k xs.toArray t (by simpa using ht)
  rw [getElem!_pos _ t (by simpa using ht)] at h1
  rw [Array.getElem?_toList, Array.getElem?_eq_getElem (by simpa using ht), h1]
  conv => rhs; rw [e]
  rw [Ls.flat_get enc k hk default xs (t / k) (t % k) (Nat.mod_lt _ k0) hd, List.getD_eq_getElem?_getD, List.getElem?_eq_getElem hd, Option.getD_some, getElem!_pos xs.toArray (t / k) (by simpa using hd)]
  have hm : t % k < (enc xs[t / k]).length := by rw [hk]; exact Nat.mod_lt _ k0
  simp only [List.getElem_toArray]
  rw [getElem!_pos (enc xs[t / k]) (t % k) hm, List.getElem?_eq_getElem hm]
 ·rw [List.getElem?_eq_none (by simpa using Nat.le_of_not_lt ht), List.getElem?_eq_none (by rw [Ls.flat_len enc k hk]; omega)]
theorem ACalls.sortK {P : Program} {σ : Go.Shelf.Ren} {α : Type} [Inhabited α] (L : SlLaysF0.n6 P σ) (k : Nat) (hag : aggOf P (σ.t 24) = some true) (hzz : szOf P (σ.t 24) = some k) (enc : α → List Value) (hk : ∀ x, (enc x).length = k) (h1 : ∀ x, ∀ v ∈ enc x, v.oneCell' = true) (hsc : ∀ x, (enc x).all Ab.scal = true) (cf : α → α → Int) (hO : SWO (ltOf cf)) (hT : ∀ x y, (ltOf cf) x y = false → (ltOf cf) y x = false → x = y) {g : FuncId} (hg : enters P g = true)
  {capA : Array Value} {m : Mem} {b n c z : Nat} (xs : List α) (hn : xs.length = n) (h0 : 0 < n) (hsz : n < 4611686018427387904) (hb : m.at b = some ⟨xs.flatMap enc, true, z⟩) (hcmp : CmpQ P g capA (m.set b none) (fun x y : α => #[.agg (enc x).toArray, .agg (enc y).toArray]) cf) :
  ACalls P (σ.f 6) [.slice (some ⟨b, 0, none⟩) n c, .func (.func g) #[] capA] m (.tuple #[]) (m.set b (some ⟨(xs.mergeSort fun x y => !(ltOf cf) y x).flatMap enc, true, z⟩)) := by
 subst hn
 intro E ρ args' w ha hst
 obtain ⟨pl, c', cb, ty, cc, hp, rfl, hcap, hc, hcell⟩ := sort_args ha hst hb h0
 have hlt : pl.blk < w.heap.size := (Array.getElem?_eq_some_iff.1 hc).1
 have hcell2 : ∀ (i : Nat) (v : Value), (((xs.flatMap enc).toArray).toList.map id)[i]? = some v → ∃ v', cc[i]? = some v' ∧ VRel ρ v v' := fun i v hv => hcell i v (by simpa using hv)
 have hH : HoldsK enc k w pl.blk 0 xs.toArray := fun j hj => by
  have hj2 : j < (xs.flatMap enc).toArray.size := by
   have := congrArg List.length (flatK_list enc k hk xs)
   simp only [Array.length_toList] at this
   rw [this] at hj
   simpa using hj
  obtain ⟨v', q1, q2⟩ := hcell2 j (xs.flatMap enc).toArray[j] (by simp)
  refine ⟨?_, ?_⟩
  ·unfold World.cell?
   rw [hc]
   show cc[0 + j]? = _
   have e1 : (flatK enc k xs.toArray)[j]! = (xs.flatMap enc).toArray[j] := by
    rw [getElem!_pos _ j hj]
    have := flatK_list enc k hk xs
    have e2 : flatK enc k xs.toArray = (xs.flatMap enc).toArray := by rw [← this]
    simp only [e2]
   rw [Nat.zero_add, q1, e1, id, q2.of_scal]
   have hm : (xs.flatMap enc).toArray[j] ∈ xs.flatMap enc := by simp
   exact List.all_eq_true.1 (Ls.flat_scal enc hsc xs) _ hm
  ·unfold World.frozen?
   rw [hc]
   simp
 have hcon := AnyQ.slices_SortFunc_total L k (fun w => run_agg hag) (fun w => run_size hzz) enc hk h1 cf hO g cb pl.blk 0 c' xs.toArray w (enters_calls hg) (fun k' os dk hs x y => hcmp ρ cb _ (fun b' pl' h' => by simpa using hst.dom b' pl' h') hcap (hst.mem.but hb rfl hp fun i hi hne => heap_sortWorld_other id w _ 0 _ (flatK enc k dk) os hne hi) x y) hH hlt (by simpa using hsz) hT
 refine hcon.mono ?_
 rintro e w' ⟨rfl, k', os, rfl⟩
 refine ⟨_, ρ, rfl, .refl _, .flat rfl, ?_⟩
 have hfl := flatK_list enc k hk (xs.mergeSort fun x y => !(ltOf cf) y x)
 have := hst.sorted id hb hp (flatK enc k (xs.mergeSort fun x y => !(ltOf cf) y x).toArray) (fun v hv => by rw [hfl] at hv; exact List.all_eq_true.1 (Ls.flat_scal enc hsc _) v hv) (by rw [size_flatK, Ls.flat_len enc k hk]; simp) k' os
 rw [List.map_id, hfl] at this
 exact this
end Ab
end Go
end
/- Chapter 6: the numbers of the points in their order. -/
section
set_option linter.unusedSimpArgs false
set_option linter.unusedVariables false
section
namespace Go.Me
open Go.Ab Go.Proofs.YtmohcmghbfhdlaaGreat
def ordL (l : List Pn) : List Nat := (List.range l.length).mergeSort fun i k => !decide (ordP (pt l k) (pt l i) < 0)
theorem ordL_perm (l : List Pn) : (ordL l).Perm (List.range l.length) := List.mergeSort_perm _ _
theorem ordL_len (l : List Pn) : (ordL l).length = l.length := by
 unfold ordL
 rw [List.length_mergeSort, List.length_range]
theorem ordL_pair {l : List Pn} (hap : Apart l) : (ordL l).Pairwise fun i k => lexLt (pt l i) (pt l k) := by
 have h := List.pairwise_mergeSort (le := fun i k => !decide (ordP (pt l k) (pt l i) < 0)) (l := List.range l.length) (fun a b c h1 h2 => by
  simp only [Bool.not_eq_true', decide_eq_false_iff_not, ordP_neg] at h1 h2 ⊢
  unfold lexLt at *
  omega) (fun a b => by
  simp only [Bool.or_eq_true, Bool.not_eq_true', decide_eq_false_iff_not, ordP_neg]
  unfold lexLt
  omega)
 have hn : (ordL l).Nodup := (ordL_perm l).nodup_iff.2 List.nodup_range
 unfold ordL at hn ⊢
 have hmem : ∀ a ∈ (List.range l.length).mergeSort (fun i k => !decide (ordP (pt l k) (pt l i) < 0)), a < l.length := fun a ha => by
  have := (List.mergeSort_perm (List.range l.length) _).mem_iff.1 ha
  exact List.mem_range.1 this
 refine (h.and hn).imp_of_mem fun {a b} ha hb hab => ?_
 obtain ⟨h1, h2⟩ := hab
 simp only [Bool.not_eq_true', decide_eq_false_iff_not, ordP_neg] at h1
 rcases lexLt_or (p := pt l a) (q := pt l b) (fun e => h2 (hap a b (hmem a ha) (hmem b hb) e)) with h3 | h3
 ·exact h3
 ·exact absurd h3 h1
theorem ordL_sorted {l : List Pn} (hap : Apart l) : Sorted l (ordL l) :=
 ⟨fun i => by rw [(ordL_perm l).mem_iff, List.mem_range], ordL_pair hap⟩
end Go.Me
namespace Go.Proofs.YtmohcmghbfhdlaaGreat
open Go Go.RowKit Go.Ab Go.Me Go.Sort
set_option maxRecDepth 100000
set_option maxHeartbeats 4000000
attribute [local irreducible] OQ OW AL AW AF SW
theorem swo_ord {α : Type} (f : α → Pn) : SWO (ltOf fun x y : α => ordP (f x) (f y)) := by
 refine ⟨fun x => ?_, fun x y z => ?_, fun x y z => ?_⟩ <;> simp only [ltOf, decide_eq_true_eq, decide_eq_false_iff_not, ordP_neg] <;> unfold lexLt <;> omega
theorem sortI_q {m : Mem} {b n c c2 z bd bp : Nat} {blk blk2 : Blk} (l : List Pn) (hap : Apart l) (hn : l.length = n) (h0 : 0 < n) (hl : n ≤ 1000) (hb : m.at b = some ⟨flatO (List.range n), true, z⟩) (hbp : m.at bp = some blk) (hc : blk.cells = flatP l) (hd : m.at bd = some blk2) (hc2 : blk2.cells = [.slice (some ⟨bp, 0, none⟩) n c2]) (n1 : bp ≠ b) (n2 : bd ≠ b) (ho : blk.obj = Ob.plain := by rfl) (ho2 : blk2.obj = Ob.plain := by rfl) :
  ACalls Tryz.prog 152 [.slice (some ⟨b, 0, none⟩) n c, .func (.func 153) #[] #[.pointer (some ⟨bd, 0, none⟩)]] m (.tuple #[]) (m.set b (some ⟨flatO (ordL l), true, z⟩)) := by
 subst hn
 haveI : Inhabited (Fin l.length) := ⟨⟨0, h0⟩⟩
 have e1 : (List.finRange l.length).map (fun x : Fin l.length => (x : Nat)) = List.range l.length := by
  refine List.ext_getElem (by simp) fun i h1 h2 => by simp
 have e2 : flatO (List.range l.length) = (List.finRange l.length).map (fun x : Fin l.length => Value.int .i64 ((x : Nat) : Int)) := by
  rw [← e1]
  unfold flatO
  rw [List.map_map]
  rfl
 have e3 : flatO (ordL l) = ((List.finRange l.length).mergeSort fun x y => !(ltOf fun x y : Fin l.length => ordP (pt l x) (pt l y)) y x).map (fun x : Fin l.length => Value.int .i64 ((x : Nat) : Int)) := by
  unfold ordL
  rw [← e1, ← List.map_mergeSort (r := fun x y => !(ltOf fun x y : Fin l.length => ordP (pt l x) (pt l y)) y x) (f := fun x : Fin l.length => (x : Nat)) (l := List.finRange l.length) (fun a _ b _ => rfl)]
  unfold flatO
  rw [List.map_map]
  rfl
 rw [e3]
 refine ACalls.sort1 Tryz.laysF6 (fun x : Fin l.length => Value.int .i64 ((x : Nat) : Int)) (fun _ => rfl) (fun _ => rfl) (fun x y => ordP (pt l x) (pt l y)) (swo_ord fun x : Fin l.length => pt l x) (fun x y h1 h2 => ?_) (by kernel_rfl) (List.finRange l.length) (by simp) h0 (by omega) (by rw [hb, e2]) (CmpQ.of (fun _ _ => rfl) fun x y => ?_)
 ·simp only [ltOf, decide_eq_false_iff_not] at h1 h2
  exact Fin.ext (hap x y x.isLt y.isLt (ordP_tie h1 h2))
 ·exact less_q l x y x.isLt y.isLt (by rw [Mem.at_setnone, if_neg n1]; exact hbp) hc ho (by rw [Mem.at_setnone, if_neg n2]; exact hd) hc2 ho2
end Go.Proofs.YtmohcmghbfhdlaaGreat
end
end
/- Chapter 6: one half of the hull. -/
section
set_option linter.unusedSimpArgs false
set_option linter.unusedVariables false
section
namespace Go.Me
open Go.Ab Go.Proofs.YtmohcmghbfhdlaaGreat
def ouK (l : List Pn) (o : List Nat) (k : Nat) : List Nat := (chainI l (o.take k)).reverse
def topn (A : List Nat) (j : Nat) : List Nat := (A.take j).reverse
theorem ot_lt {A : List Nat} {k : Nat} (h : k < A.length) : A[k]? = some (ot A k) := by
 unfold ot
 rw [List.getD_eq_getElem?_getD, List.getElem?_eq_getElem h]
 rfl
theorem topn_succ {A : List Nat} {j : Nat} (h : j < A.length) : topn A (j + 1) = ot A j :: topn A j := by
 unfold topn
 rw [List.take_add_one, ot_lt h]
 simp
theorem topn_two {A : List Nat} {j : Nat} (h1 : 1 < j) (h : j ≤ A.length) : topn A j = ot A (j - 1) :: ot A (j - 2) :: topn A (j - 2) := by
 obtain ⟨i, rfl⟩ : ∃ i, j = i + 2 := ⟨j - 2, by omega⟩
 rw [topn_succ (by omega), topn_succ (by omega)]
 rfl
theorem pop_more {l : List Pn} {A : List Nat} {p j : Nat} (h1 : 1 < j) (h : j ≤ A.length) (hc : cr (pt l (ot A (j - 2))) (pt l (ot A (j - 1))) (pt l p) ≤ 0) : popI l p (topn A j) = popI l p (topn A (j - 1)) := by
 rw [topn_two h1 h]
 conv => lhs; unfold popI
 rw [if_pos hc]
 congr 1
 obtain ⟨i, rfl⟩ : ∃ i, j = i + 2 := ⟨j - 2, by omega⟩
 show _ = topn A (i + 1)
 rw [topn_succ (by omega)]
 rfl
theorem pop_stop {l : List Pn} {A : List Nat} {p j : Nat} (h : j ≤ A.length) (hc : 1 < j → 0 < cr (pt l (ot A (j - 2))) (pt l (ot A (j - 1))) (pt l p)) : popI l p (topn A j) = topn A j := by
 rcases Nat.lt_or_ge 1 j with h1 | h1
 ·rw [topn_two h1 h]
  unfold popI
  rw [if_neg (by have := hc h1; omega)]
 ·have hl : (topn A j).length ≤ 1 := by unfold topn; rw [List.length_reverse, List.length_take]; omega
  match hq : topn A j, hl with
  | [], _ => rfl
  | [_], _ => rfl
  | _ :: _ :: _, hl => simp at hl
theorem ouK_zero (l : List Pn) (o : List Nat) : ouK l o 0 = [] := rfl
theorem ouK_succ {l : List Pn} {o : List Nat} {k j : Nat} (hk : k < o.length) (h1 : popI l (ot o k) (topn (ouK l o k) j) = topn (ouK l o k) j) (h2 : popI l (ot o k) (topn (ouK l o k) j) = popI l (ot o k) (topn (ouK l o k) (ouK l o k).length)) : ouK l o (k + 1) = (ouK l o k).take j ++ [ot o k] := by
 have e : topn (ouK l o k) (ouK l o k).length = chainI l (o.take k) := by
  unfold topn
  rw [List.take_length]
  unfold ouK
  rw [List.reverse_reverse]
 rw [e, h1] at h2
 unfold ouK chainI
 rw [List.take_add_one, ot_lt hk, Option.toList_some, List.foldl_append]
 show (ot o k :: popI l (ot o k) (chainI l (o.take k))).reverse = _
 rw [← h2, List.reverse_cons]
 unfold topn
 rw [List.reverse_reverse]
 rfl
theorem ouK_bd {l : List Pn} {o : List Nat} (ho : ∀ x ∈ o, x < l.length) (k : Nat) : ∀ x ∈ ouK l o k, x < l.length := fun x hx => by
 unfold ouK at hx
 rw [List.mem_reverse] at hx
 exact ho x (List.mem_of_mem_take (chainI_sub l _ x hx))
theorem ouK_at {l : List Pn} {o : List Nat} (ho : ∀ x ∈ o, x < l.length) (k : Nat) {j : Nat} (hj : j < (ouK l o k).length) : ot (ouK l o k) j < l.length :=
 ouK_bd ho k _ (List.mem_of_getElem? (ot_lt hj))
theorem flatO_take (A : List Nat) (j p : Nat) : (flatO A).take j ++ [.int .i64 (p : Int)] = flatO (A.take j ++ [p]) := by
 unfold flatO
 rw [List.map_append, List.map_take]
 rfl
theorem ouK_pos {l : List Pn} {o : List Nat} {k : Nat} (h0 : 0 < k) (hk : k ≤ o.length) : 0 < (ouK l o k).length := by
 obtain ⟨i, rfl⟩ : ∃ i, k = i + 1 := ⟨k - 1, by omega⟩
 unfold ouK chainI
 rw [List.take_add_one, ot_lt (by omega), Option.toList_some, List.foldl_append, List.length_reverse]
 simp
end Go.Me
namespace Go.Proofs.YtmohcmghbfhdlaaGreat
open Go Go.RowKit Go.Ab Go.Me
set_option maxRecDepth 100000
set_option maxHeartbeats 4000000
attribute [local irreducible] OQ OW AL AW AF SW
theorem half_c (l : List Pn) (o : List Nat) (hok : ∀ k, k < l.length → (pt l k).Ok) (ho : ∀ x ∈ o, x < l.length) (h0 : 0 < o.length) (hl : l.length ≤ 1000) (hol : o.length ≤ 1000) (hle : ∀ k, (ouK l o k).length ≤ 1000) (c c2 z z1 z2 : Nat) :
  ACalls Tryz.prog 158 [.slice (some ⟨2, 0, none⟩) o.length c, .pointer (some ⟨1, 0, none⟩)] [some ⟨flatP l, false, z⟩, some ⟨[.slice (some ⟨0, 0, none⟩) l.length c2], false, z1⟩, some ⟨flatO o, false, z2⟩]
   (.slice (some ⟨3, 0, none⟩) ((ouK l o o.length).length - 1) INF) [some ⟨flatP l, false, z⟩, some ⟨[.slice (some ⟨0, 0, none⟩) l.length c2], false, z1⟩, some ⟨flatO o, false, z2⟩, some ⟨flatO (ouK l o o.length), true, 1⟩] := by
 have hld := fun (k : Nat) (hk : k < l.length) (r : Mem) => flatP_ld (m := some ⟨flatP l, false, z⟩ :: r) (b := 0) (l := l) rfl rfl k hk
 have g0 := fun (k : Nat) (hk : k < o.length) => flatO_get o k hk
 have hot : ∀ k, k < o.length → ot o k < l.length := fun k hk => ho _ (List.mem_of_getElem? (ot_lt hk))
 have g1 : ∀ k j, 1 < j → j ≤ (ouK l o k).length → (flatO (ouK l o k))[((j : Int) - 1).toNat]? = some (.int .i64 (ot (ouK l o k) (j - 1))) := fun k j h1 h2 => by
  rw [show ((j : Int) - 1).toNat = j - 1 by omega]
  exact flatO_get _ _ (by omega)
 have g2 : ∀ k j, 1 < j → j ≤ (ouK l o k).length → (flatO (ouK l o k))[((j : Int) - 2).toNat]? = some (.int .i64 (ot (ouK l o k) (j - 2))) := fun k j h1 h2 => by
  rw [show ((j : Int) - 2).toNat = j - 2 by omega]
  exact flatO_get _ _ (by omega)
 have hb := fun k j (hj : j < (ouK l o k).length) => ouK_at ho k hj
 have ht := fun (a b c : Nat) (h1 : a < l.length) (h2 : b < l.length) (h3 : c < l.length) (m : Mem) => turn_q (hok a h1) (hok b h2) (hok c h3) m
 have hmore := fun k j (h1 : 1 < j) (h2 : j ≤ (ouK l o k).length) (h3 : sgn (cr (pt l (ot (ouK l o k) (j - 2))) (pt l (ot (ouK l o k) (j - 1))) (pt l (ot o k))) ≤ 0) => pop_more (l := l) (p := ot o k) h1 h2 (by have := sgn_nn (cr (pt l (ot (ouK l o k) (j - 2))) (pt l (ot (ouK l o k) (j - 1))) (pt l (ot o k))); have := sgn_z (cr (pt l (ot (ouK l o k) (j - 2))) (pt l (ot (ouK l o k) (j - 1))) (pt l (ot o k))); omega)
 have hstop := fun k j (h2 : j ≤ (ouK l o k).length) (h3 : ¬ 1 < j ∨ ¬ sgn (cr (pt l (ot (ouK l o k) (j - 2))) (pt l (ot (ouK l o k) (j - 1))) (pt l (ot o k))) ≤ 0) => pop_stop (l := l) (p := ot o k) h2 (fun h1 => by have := sgn_nn (cr (pt l (ot (ouK l o k) (j - 2))) (pt l (ot (ouK l o k) (j - 1))) (pt l (ot o k))); have := sgn_z (cr (pt l (ot (ouK l o k) (j - 2))) (pt l (ot (ouK l o k) (j - 1))) (pt l (ot o k))); rcases h3 with h3 | h3 <;> omega)
 have hsucc := fun k j (hk : k < o.length) => ouK_succ (l := l) (o := o) (k := k) (j := j) hk
 have hfl := fun k j => flatO_take (ouK l o k) j (ot o k)
 have hz := ouK_zero l o
 have hpos := fun k (h0 : 0 < k) (hk : k ≤ o.length) => ouK_pos (l := l) h0 hk
 have hlen := fun k => flatO_len (ouK l o k)
 have hsc := fun k => flatO_scal (ouK l o k)
 refine ACalls.en 56 Tryz.func158 rfl rfl (fun E hE => ?_)
 repeat' (first | with_reducible (first | refine Then.n ?_ | refine Then.x ?_ | refine InB.n ?_ | refine InB.hit ?_) | ((with_reducible refine AL.on ?_); first | (refine AL.gd rfl ?_; (refine AL.gs1 rfl rfl (fun hc => ?_) (fun hc => ?_) <;> (try replace hc := nc hc) <;> first | (exfalso; contradiction) | refine AL.nm ?_)) | ((first | refine AL.mv ?_ | ((with_reducible refine AL.k_call ?_); first | refine AL.g (OQ.lenS (xt := 26) (r := (none, 1, false)) rfl kr) ?_ | refine AL.g (OQ.max2 rfl rfl) ?_) | ((with_reducible refine AL.k_load ?_); (refine AL.g (OQ.load1 (ty := 3) rfl kr (by (exact g0 _ (by omega)))) ?_)) | ((with_reducible refine AL.k_binOp ?_); first | refine AL.g (OQ.lss rfl rfl) ?_ | refine AL.g (OQ.leq rfl rfl) ?_ | refine AL.g (OQ.subi rfl rfl (by omega)) ?_ | refine AL.g (OQ.addi rfl rfl (by omega)) ?_) | refine AL.as ?_ | ((with_reducible refine AL.k_pick ?_); first | refine AL.pT ?_ | refine AL.pF ?_) | (refine AL.q rfl (by first | exact OQ.sliceTo (ty := 26) (k := j - 1) (z := 1) (g := false) rfl kr rfl (.inr rfl) rfl (congrArg some (by omega)) (by omega) | exact OQ.sliceTo (ty := 26) (k := (ouK l o k).length - 1) (z := 1) (g := false) rfl kr rfl (.inr rfl) rfl (congrArg some (by split <;> omega)) (by omega)) ?_)); refine AL.nm ?_) | ((first | ((with_reducible refine AL.k_call ?_); refine AL.pcall (g := 133) rfl kr rfl ((by exact ht _ _ _ (hb _ _ (by omega)) (hb _ _ (by omega)) (hot _ (by omega)) _)) ?_) | ((with_reducible refine AL.k_indexAddr ?_); (refine AL.g (OQ.idxAddr (ty := 26) (z := 1) (g := false) rfl rfl kr (by omega) (by omega)) ?_))); refine AL.nm ?_) | ((first | ((with_reducible refine AL.k_call ?_); (refine AL.w rfl (by first | exact OW.appendNil (e := 3) (z := 1) (zs := [.int .i64 0]) (by' := 8) rfl rfl kr kr kr rfl kr (by decide) rfl (by decide) (by decide) | exact OW.append (e := 3) (z := 1) (zs := [.int .i64 0]) (by' := 8) rfl rfl kr kr kr rfl kr (by decide) rfl rfl rfl (by decide) (by simp only [Nat.mul_one, hlen]; omega) rfl rfl (by omega) (by omega)) ?_)) | ((with_reducible refine AL.k_buildSlice ?_); refine AL.w rfl (OW.buildSl (ty := 26) (zs := [.int .i64 0]) (n := 1) (g := false) kr kr rfl rfl rfl (by decide) (by decide) rfl rfl) ?_)); refine AL.nm ?_; refine AL.nM ?_) | refine AL.nil ?_) | ((with_reducible refine AW.on ?_); first | refine AW.seq ?_ | refine AW.skip ?_ | refine AW.exit ?_ | refine AW.ret ?_ | ((refine AW.block (id := 0) ?_); (refine AW.fk [1, 4, 7, 8, 9] ?_); (refine AW.loop (fun n' t' m => ∃ k : Nat, n' = o.length - k ∧ k ≤ o.length ∧ ((k = 0 ∧ t' = [jk, .pointer (some ⟨1, 0, none⟩), jk, jk, .slice none 0 0, jk, jk, .slice (some ⟨2, 0, none⟩) o.length c, .int .i64 (o.length), .int .i64 (k), jk, jk, jk, jk, jk, jk, jk, jk, jk, jk, jk, jk, jk, jk, jk, jk, jk, jk, jk, jk, jk, jk, jk, jk, jk, jk, jk, jk, jk, jk, jk, jk, jk, jk, jk, jk, jk, jk, jk, jk, jk, jk, jk, jk, jk, jk, jk, jk] ∧ m = [some ⟨flatP l, false, z⟩, some ⟨[.slice (some ⟨0, 0, none⟩) l.length c2], false, z1⟩, some ⟨flatO o, false, z2⟩]) ∨ (0 < k ∧ t' = [jk, .pointer (some ⟨1, 0, none⟩), jk, jk, .slice (some ⟨3, 0, none⟩) ((ouK l o k).length) INF, jk, jk, .slice (some ⟨2, 0, none⟩) o.length c, .int .i64 (o.length), .int .i64 (k), jk, jk, jk, jk, jk, jk, jk, jk, jk, jk, jk, jk, jk, jk, jk, jk, jk, jk, jk, jk, jk, jk, jk, jk, jk, jk, jk, jk, jk, jk, jk, jk, jk, jk, jk, jk, jk, jk, jk, jk, jk, jk, jk, jk, jk, jk, jk, jk] ∧ m = [some ⟨flatP l, false, z⟩, some ⟨[.slice (some ⟨0, 0, none⟩) l.length c2], false, z1⟩, some ⟨flatO o, false, z2⟩, some ⟨flatO (ouK l o k), true, 1⟩]))) (o.length) (by exact ⟨0, rfl, Nat.zero_le _, .inl ⟨rfl, rfl, rfl⟩⟩) ?_); (rintro n' t' m ⟨k, rfl, hk, (⟨hk0, rfl, rfl⟩ | ⟨hk1, rfl, rfl⟩)⟩)) | ((refine AW.block (id := 2) ?_); (refine AW.fk [1, 4, 6, 7, 8, 9] ?_); (refine AW.loop (fun n' t' m => ∃ j : Nat, n' = j ∧ ((k = 0 ∧ j = 0 ∧ t' = [jk, .pointer (some ⟨1, 0, none⟩), jk, jk, .slice none 0 0, jk, .int .i64 (ot o k), .slice (some ⟨2, 0, none⟩) o.length c, .int .i64 (o.length), .int .i64 (k), jk, jk, jk, jk, jk, jk, jk, jk, jk, jk, jk, jk, jk, jk, jk, jk, jk, jk, jk, jk, jk, jk, jk, jk, jk, jk, jk, jk, jk, jk, jk, jk, jk, jk, jk, jk, jk, jk, jk, jk, jk, jk, jk, jk, jk, jk, jk, jk] ∧ m = [some ⟨flatP l, false, z⟩, some ⟨[.slice (some ⟨0, 0, none⟩) l.length c2], false, z1⟩, some ⟨flatO o, false, z2⟩]) ∨ (0 < k ∧ 0 < j ∧ j ≤ (ouK l o k).length ∧ popI l (ot o k) (topn (ouK l o k) j) = popI l (ot o k) (topn (ouK l o k) (ouK l o k).length) ∧ t' = [jk, .pointer (some ⟨1, 0, none⟩), jk, jk, .slice (some ⟨3, 0, none⟩) (j) INF, jk, .int .i64 (ot o k), .slice (some ⟨2, 0, none⟩) o.length c, .int .i64 (o.length), .int .i64 (k), jk, jk, jk, jk, jk, jk, jk, jk, jk, jk, jk, jk, jk, jk, jk, jk, jk, jk, jk, jk, jk, jk, jk, jk, jk, jk, jk, jk, jk, jk, jk, jk, jk, jk, jk, jk, jk, jk, jk, jk, jk, jk, jk, jk, jk, jk, jk, jk] ∧ m = [some ⟨flatP l, false, z⟩, some ⟨[.slice (some ⟨0, 0, none⟩) l.length c2], false, z1⟩, some ⟨flatO o, false, z2⟩, some ⟨flatO (ouK l o k), true, 1⟩]))) ((ouK l o k).length) (by first | exact ⟨(ouK l o k).length, rfl, .inr ⟨‹_›, hpos k ‹_› ‹_›, Nat.le_refl _, rfl, rfl, rfl⟩⟩ | exact ⟨(ouK l o k).length, rfl, .inl ⟨‹_›, (by subst hk0; exact congrArg List.length hz), rfl, rfl⟩⟩) ?_); (rintro n' t' m ⟨j, hnj, (⟨hk0, hj0, rfl, rfl⟩ | ⟨hk1, hj1, hj2, hjp, rfl, rfl⟩)⟩)) | refine AW.block ?_ | (refine AW.drawF (id := 5) 26 #[0, 1, 3, 7, 15, 15, 15, 79, 207, 495, 1007, 2047, 4095, 15, 15, 15, 32783, 98319, 245775, 507919, 1040399, 2088975, 15, 15, 12582927, 29360143, 67108863, 134217727, 268435455] kr kr ?_; (conv => (arg 8; simp only [List.take_succ_cons, List.take_zero])); ((have hq := hle k))) | (refine AW.region (id := 7) ?_; ((have hq := hle k))) | (refine AW.region (id := 9) ?_; ((have hq := hle k))) | refine AW.region ?_ | (refine AW.conds rfl (fun hc => ?_) (fun hc => ?_) <;> (try replace hc := nc hc) <;> first | (exfalso; first | contradiction | (omega); done) | skip)) | ((with_reducible refine AF.on ?_); first | ((refine AF.q 0 (SW.no1 rfl rfl (by with_reducible rfl)) ?_); refine AF.nm ?_) | ((first | ((with_reducible refine AF.k_move ?_); first | (refine AF.q 0 (SW.q (OQ.move wl) rfl) ?_) | (refine AF.q 0 (SW.yes (SW.q (OQ.move wl) rfl) rfl rfl (by with_reducible rfl)) ?_)) | ((with_reducible refine AF.k_call ?_); first | refine AF.q 0 (SW.q (OQ.lenS (xt := 26) (r := (none, 1, false)) rfl kr) rfl) ?_ | refine AF.q 0 (SW.yes (SW.q (OQ.lenS (xt := 26) (r := (none, 1, false)) rfl kr) rfl) rfl rfl (by with_reducible rfl)) ?_) | ((with_reducible refine AF.k_load ?_); first | (refine AF.ql rfl (SW.yes (SW.q (OQ.load1 (ty := 22) rfl kr (by (conv => lhs; whnf))) rfl) rfl rfl (by with_reducible rfl)) ?_) | (refine AF.ql rfl (SW.yes (SW.q (OQ.load1 (ty := 3) rfl kr (by first | (first | exact g2 k j (by omega) (by omega) | exact g1 k j (by omega) (by omega)) | (conv => lhs; whnf))) rfl) rfl rfl (by with_reducible rfl)) ?_) | refine AF.ql rfl (SW.yes (SW.q (OQ.loadN (ty := 65) (n := 2) rfl kr kr (by (exact hld _ (by first | exact hb _ _ (by omega) | exact hot _ (by omega)) _))) rfl) rfl rfl (by with_reducible rfl)) ?_) | ((with_reducible refine AF.k_binOp ?_); first | refine AF.q 0 (SW.q (OQ.gtr rfl rfl) rfl) ?_ | refine AF.q 0 (SW.yes (SW.q (OQ.subi rfl rfl (by omega)) rfl) rfl rfl (by with_reducible rfl)) ?_) | ((with_reducible refine AF.k_indexAddr ?_); first | (refine AF.q 0 (SW.yes (SW.q (OQ.idxAddr (ty := 26) (z := 1) (g := false) rfl rfl kr (by omega) (by omega)) rfl) rfl rfl (by with_reducible rfl)) ?_) | (refine AF.q 0 (SW.yes (SW.q (OQ.idxAddr (ty := 22) (z := 2) (g := true) rfl rfl kr (by omega) (by first | (have h1 := hb k (j - 2) (by omega); have h2 := hb k (j - 1) (by omega); omega) | (have h3 := hot k (by omega); omega))) rfl) rfl rfl (by with_reducible rfl)) ?_))); refine AF.nm ?_) | (refine AF.gs1 rfl rfl (fun hc => ?_) (fun hc => ?_) <;> (fail_if_success (with_reducible exact lit_no hc)) <;> (try replace hc := nc hc) <;> first | (exfalso; first | contradiction | (omega); done) | skip) | refine AF.nl ?_) | ((with_reducible refine ex_on ?_); first | (first | (have hs0 : ouK l o (k + 1) = [ot o k] := (by have := hsucc k 0 (by omega) rfl (by subst hk0; rfl); exact this); refine ⟨o.length - (k + 1), [jk, .pointer (some ⟨1, 0, none⟩), jk, jk, .slice (some ⟨3, 0, none⟩) (1) INF, jk, jk, .slice (some ⟨2, 0, none⟩) o.length c, .int .i64 (o.length), .int .i64 (((k + 1 : Nat) : Int)), jk, jk, jk, jk, jk, jk, jk, jk, jk, jk, jk, jk, jk, jk, jk, jk, jk, jk, jk, jk, jk, jk, jk, jk, jk, jk, jk, jk, jk, jk, jk, jk, jk, jk, jk, jk, jk, jk, jk, jk, jk, jk, jk, jk, jk, jk, jk, jk], [some ⟨flatP l, false, z⟩, some ⟨[.slice (some ⟨0, 0, none⟩) l.length c2], false, z1⟩, some ⟨flatO o, false, z2⟩, some ⟨flatO [ot o k], true, 1⟩], by omega, ?_, k + 1, rfl, by omega, .inr ⟨by omega, by rw [hs0]; rfl, by rw [hs0]⟩⟩; exact Wk.keep 3 [4] (Nat.le_of_eq hE) rfl rfl (by repeat (first | exact RenT.nil | refine RenT.jk ?_ | refine RenT.val (by rfl) (by rfl) ?_)) ⟨kl rfl (flatP_scal l), ki rfl, kl rfl (flatO_scal o), kl rfl rfl, trivial⟩) | (have hs1 := hsucc k j (by omega) (hstop k j hj2 (by first | exact .inl (by omega) | exact .inr (by omega))) hjp; have hln : (ouK l o (k + 1)).length = j + 1 := (by rw [hs1, List.length_append, List.length_take, Nat.min_eq_left hj2]; rfl); refine ⟨o.length - (k + 1), [jk, .pointer (some ⟨1, 0, none⟩), jk, jk, .slice (some ⟨3, 0, none⟩) (j + 1) INF, jk, jk, .slice (some ⟨2, 0, none⟩) o.length c, .int .i64 (o.length), .int .i64 (((k + 1 : Nat) : Int)), jk, jk, jk, jk, jk, jk, jk, jk, jk, jk, jk, jk, jk, jk, jk, jk, jk, jk, jk, jk, jk, jk, jk, jk, jk, jk, jk, jk, jk, jk, jk, jk, jk, jk, jk, jk, jk, jk, jk, jk, jk, jk, jk, jk, jk, jk, jk, jk], [some ⟨flatP l, false, z⟩, some ⟨[.slice (some ⟨0, 0, none⟩) l.length c2], false, z1⟩, some ⟨flatO o, false, z2⟩, some ⟨flatO (ouK l o (k + 1)), true, 1⟩], by omega, ?_, k + 1, rfl, by omega, .inr ⟨by omega, by rw [hln], rfl⟩⟩; rw [hs1, ← hfl]; exact Wk.keep 3 [5] (Nat.le_of_eq hE) rfl rfl (by repeat (first | exact RenT.nil | refine RenT.jk ?_ | refine RenT.val (by rfl) (by rfl) ?_)) ⟨kl rfl (flatP_scal l), ki rfl, kl rfl (flatO_scal o), ⟨_, rfl, rfl, rfl, .inl ⟨rfl, by rw [hfl]; exact flatO_scal _⟩⟩, trivial⟩)) | (exact ⟨j - 1, _, _, by omega, Wk.fk [1, 4, 6, 7, 8, 9] rfl, j - 1, rfl, .inr ⟨hk1, by omega, by omega, (hmore k j (by omega) hj2 (by assumption)).symm.trans hjp, rfl, rfl⟩⟩)) | ((with_reducible refine FinA.on ?_); (obtain rfl : k = o.length := (by omega); refine FinA.keep 4 [] (.inl rfl) (.tmp wl .nil) ?_ rfl (by rw [hE]; exact (by decide : 3 ≤ 4)) rfl rfl ⟨kl rfl (flatP_scal l), ki rfl, kl rfl (flatO_scal o), kl rfl (flatO_scal _), trivial⟩; rfl)))
end Go.Proofs.YtmohcmghbfhdlaaGreat
end
end
/- Chapter 6: the points' numbers in their order (the program's sorted). -/
section
set_option linter.unusedSimpArgs false
set_option linter.unusedVariables false
section
namespace Go.Me
open Go.Ab
theorem flatO_range (k : Nat) : flatO (List.range k) ++ [.int .i64 (k : Int)] = flatO (List.range (k + 1)) := by
 unfold flatO
 rw [List.range_succ, List.map_append]
 rfl
theorem flatO_rlen (k : Nat) : (flatO (List.range k)).length = k := by
 unfold flatO
 rw [List.length_map, List.length_range]
end Go.Me
namespace Go.Proofs.YtmohcmghbfhdlaaGreat
open Go Go.RowKit Go.Ab Go.Me
set_option maxRecDepth 100000
set_option maxHeartbeats 4000000
attribute [local irreducible] OQ OW AL AW AF SW
theorem sorted_c (l : List Pn) (hap : Apart l) (h0 : 0 < l.length) (hl : l.length ≤ 1000) (c z : Nat) :
  ACalls Tryz.prog 117 [.slice (some ⟨0, 0, none⟩) l.length c] [some ⟨flatP l, false, z⟩] (.slice (some ⟨1, 0, none⟩) l.length INF) [some ⟨flatP l, false, z⟩, some ⟨flatO (ordL l), true, 1⟩] := by
 have hrl := flatO_rlen
 have hrs := flatO_range
 have hsc := fun k => flatO_scal (List.range k)
 have hS := fun (z2 : Nat) (c2 : Nat) (m : Mem) (h2 : m.at 2 = some ⟨flatO (List.range l.length), true, z2⟩) (h0' : m.at 0 = some ⟨flatP l, false, z⟩) (h1 : m.at 1 = some ⟨[.slice (some ⟨0, 0, none⟩) l.length c], true, 0⟩) => sortI_q (m := m) (b := 2) (bd := 1) (bp := 0) (c := c2) l hap rfl h0 hl h2 h0' rfl h1 rfl (by decide) (by decide)
 refine ACalls.en 18 Tryz.func117 rfl rfl (fun E hE => ?_)
 repeat' (first | with_reducible (first | refine Then.n ?_ | refine Then.x ?_ | refine InB.n ?_ | refine InB.hit ?_) | ((with_reducible refine AL.on ?_); first | ((first | refine AL.mv ?_ | refine AL.as ?_ | ((with_reducible refine AL.k_call ?_); refine AL.g (OQ.lenS (xt := 22) (r := (none, 2, true)) rfl kr) ?_) | ((with_reducible refine AL.k_binOp ?_); first | refine AL.g (OQ.lss rfl rfl) ?_ | refine AL.g (OQ.addi rfl rfl (by omega)) ?_) | ((with_reducible refine AL.k_load ?_); (refine AL.g (OQ.load1 (ty := 22) rfl kr wl) ?_))); refine AL.nm ?_) | ((refine AL.q rfl OQ.mkfn ?_); refine AL.nm ?_) | ((first | ((with_reducible refine AL.k_call ?_); first | (refine AL.w rfl (by first | exact OW.appendNil (e := 3) (z := 1) (zs := [.int .i64 0]) (by' := 8) rfl rfl kr kr kr rfl kr (by decide) rfl (by decide) (by decide) | exact OW.appendL (e := 3) (z := 1) (zs := [.int .i64 0]) (by' := 8) rfl rfl kr kr kr rfl kr (by decide) rfl rfl rfl (by decide) (by (rw [hrl]; omega)) rfl rfl (by omega) (by omega)) ?_) | refine AL.acall (g := 152) rfl kr rfl ((by exact hS _ _ _ rfl rfl rfl)) ?_) | refine AL.bx ?_ | ((with_reducible refine AL.k_buildSlice ?_); refine AL.w rfl (OW.buildSl (ty := 26) (zs := [.int .i64 0]) (n := 1) (g := false) kr kr rfl rfl rfl (by decide) (by decide) rfl rfl) ?_)); refine AL.nm ?_; refine AL.nM ?_) | refine AL.nil ?_) | ((with_reducible refine AW.on ?_); first | refine AW.seq ?_ | refine AW.skip ?_ | refine AW.exit ?_ | refine AW.ret ?_ | ((refine AW.block (id := 0) ?_); (refine AW.fk [1, 3, 6, 7] ?_); (refine AW.loop (fun n' t' m => ∃ k : Nat, n' = l.length - k ∧ k ≤ l.length ∧ ((k = 0 ∧ t' = [jk, .pointer (some ⟨1, 0, none⟩), jk, .slice none 0 0, jk, jk, .int .i64 (l.length), .int .i64 (k), jk, jk, jk, jk, jk, jk, jk, jk, jk, jk, jk] ∧ m = [some ⟨flatP l, false, z⟩, some ⟨[.slice (some ⟨0, 0, none⟩) l.length c], true, 0⟩]) ∨ (0 < k ∧ t' = [jk, .pointer (some ⟨1, 0, none⟩), jk, .slice (some ⟨2, 0, none⟩) (k) INF, jk, jk, .int .i64 (l.length), .int .i64 (k), jk, jk, jk, jk, jk, jk, jk, jk, jk, jk, jk] ∧ m = [some ⟨flatP l, false, z⟩, some ⟨[.slice (some ⟨0, 0, none⟩) l.length c], true, 0⟩, some ⟨flatO (List.range k), true, 1⟩]))) (l.length) (by exact ⟨0, rfl, Nat.zero_le _, .inl ⟨rfl, rfl, rfl⟩⟩) ?_); (rintro n' t' m ⟨k, rfl, hk, (⟨hk0, rfl, rfl⟩ | ⟨hk1, rfl, rfl⟩)⟩)) | refine AW.block ?_ | (refine AW.region (id := 7) ?_; ((obtain rfl : k = l.length := (by omega)))) | refine AW.region ?_ | (refine AW.conds rfl (fun hc => ?_) (fun hc => ?_) <;> (try replace hc := nc hc) <;> first | (exfalso; ((omega); done)) | skip)) | ((with_reducible refine ex_on ?_); first | (obtain rfl := hk0; refine ⟨l.length - 1, [jk, .pointer (some ⟨1, 0, none⟩), jk, .slice (some ⟨2, 0, none⟩) (1) INF, jk, jk, .int .i64 (l.length), .int .i64 (((0 + 1 : Nat) : Int)), jk, jk, jk, jk, jk, jk, jk, jk, jk, jk, jk], [some ⟨flatP l, false, z⟩, some ⟨[.slice (some ⟨0, 0, none⟩) l.length c], true, 0⟩, some ⟨flatO (List.range 1), true, 1⟩], by omega, ?_, 0 + 1, rfl, by omega, .inr ⟨by omega, rfl, rfl⟩⟩; exact Wk.keep 2 [3] (by rw [hE]; exact (by decide : 1 ≤ 2)) rfl rfl (by repeat (first | exact RenT.nil | refine RenT.jk ?_ | refine RenT.val (by rfl) (by rfl) ?_)) ⟨kl rfl (flatP_scal l), ki rfl, kl rfl rfl, trivial⟩) | (refine ⟨l.length - (k + 1), [jk, .pointer (some ⟨1, 0, none⟩), jk, .slice (some ⟨2, 0, none⟩) (k + 1) INF, jk, jk, .int .i64 (l.length), .int .i64 (((k + 1 : Nat) : Int)), jk, jk, jk, jk, jk, jk, jk, jk, jk, jk, jk], [some ⟨flatP l, false, z⟩, some ⟨[.slice (some ⟨0, 0, none⟩) l.length c], true, 0⟩, some ⟨flatO (List.range (k + 1)), true, 1⟩], by omega, ?_, k + 1, rfl, by omega, .inr ⟨by omega, rfl, rfl⟩⟩; have hs2 := hsc (k + 1); rw [← hrs] at hs2 ⊢; exact Wk.keep 2 [4] (by rw [hE]; exact (by decide : 1 ≤ 2)) rfl rfl (by repeat (first | exact RenT.nil | refine RenT.jk ?_ | refine RenT.val (by rfl) (by rfl) ?_)) ⟨kl rfl (flatP_scal l), ki rfl, ⟨_, rfl, rfl, rfl, .inl ⟨rfl, hs2⟩⟩, trivial⟩)) | ((with_reducible refine FinA.on ?_); (refine FinA.keep 1 [2] (.inl rfl) (.tmp wl .nil) ?_ rfl (Nat.le_of_eq hE) rfl rfl ⟨kl rfl (flatP_scal l), kl rfl (flatO_scal _), trivial⟩; rfl)))
theorem sorted_q {m : Mem} {b n c : Nat} {blk : Blk} (l : List Pn) (hap : Apart l) (h0 : 0 < n) (hl : n ≤ 1000) (hb : m.at b = some blk) (hc : blk.cells = flatP l) (hn : l.length = n) (ho : blk.obj = Ob.plain := by rfl) :
  ACalls Tryz.prog 117 [.slice (some ⟨b, 0, none⟩) n c] m (.slice (some ⟨m.length, 0, none⟩) n INF) (m ++ [some ⟨flatO (ordL l), true, 1⟩]) := by
 subst hn
 have h2 := ACalls.viaS (m := m) (args := [.slice (some ⟨b, 0, none⟩) l.length c]) (v := .slice (some ⟨m.length, 0, none⟩) l.length INF) [b] [] [some ⟨flatO (ordL l), true, 1⟩] (sorted_c l hap h0 hl c blk.esz) ⟨bS hb ho hc (flatP_scal _), trivial⟩ (by simp) ?_ rfl rfl rfl rfl
 ·exact h2
 ·exact ⟨⟨_, rfl, rfl⟩, ⟨rfl, rfl, rfl, .inl ⟨rfl, flatO_scal _⟩⟩, trivial⟩
end Go.Proofs.YtmohcmghbfhdlaaGreat
end
end
/- Chapter 6: the hull (the program's). -/
section
set_option linter.unusedSimpArgs false
set_option linter.unusedVariables false
section
namespace Go.Me
open Go.Ab
theorem popI_len (l : List Pn) (p : Nat) : ∀ st : List Nat, (popI l p st).length ≤ st.length
 | [] => Nat.le_refl _
 | [_] => Nat.le_refl _
 | b :: a :: r => by
  unfold popI
  split
  ·have := popI_len l p (a :: r)
   simp only [List.length_cons] at this ⊢
   omega
  ·exact Nat.le_refl _
theorem popI_pos (l : List Pn) (p : Nat) : ∀ st : List Nat, 0 < st.length → 0 < (popI l p st).length
 | [], h => h
 | [_], h => h
 | b :: a :: r, _ => by
  unfold popI
  split
  ·exact popI_pos l p (a :: r) (by simp)
  ·simp
theorem ouK_len {l : List Pn} {o : List Nat} : ∀ k, k ≤ o.length → (ouK l o k).length ≤ k ∧ (2 ≤ k → 2 ≤ (ouK l o k).length) := by
 intro k
 induction k with
 | zero => intro _; exact ⟨Nat.le_refl _, fun h => absurd h (by decide)⟩
 | succ k ih =>
  intro hk
  obtain ⟨i1, i2⟩ := ih (by omega)
  have e : (ouK l o (k + 1)).length = (popI l (ot o k) (chainI l (o.take k))).length + 1 := by
   unfold ouK
   rw [List.length_reverse]
   unfold chainI
   rw [List.take_add_one, ot_lt (by omega), Option.toList_some, List.foldl_append]
   rfl
  have e2 : (ouK l o k).length = (chainI l (o.take k)).length := by unfold ouK; rw [List.length_reverse]
  have p1 := popI_len l (ot o k) (chainI l (o.take k))
  have p2 := popI_pos l (ot o k) (chainI l (o.take k))
  refine ⟨by omega, fun h => ?_⟩
  rcases Nat.lt_or_ge k 1 with h1 | h1
  ·omega
  ·have := ouK_pos (l := l) h1 (show k ≤ o.length by omega)
   omega
theorem ouK_le {l : List Pn} {o : List Nat} (k : Nat) : (ouK l o k).length ≤ o.length := by
 rcases Nat.le_total k o.length with h | h
 ·exact Nat.le_trans (ouK_len k h).1 h
 ·have e : ouK l o k = ouK l o o.length := by unfold ouK; rw [List.take_of_length_le h, List.take_length]
  rw [e]
  exact (ouK_len o.length (Nat.le_refl _)).1
theorem hullI_ou (l : List Pn) (o : List Nat) : hullI l o = (ouK l o o.length).take ((ouK l o o.length).length - 1) ++ (ouK l o.reverse o.length).take ((ouK l o.reverse o.length).length - 1) := by
 have e : o.reverse.take o.length = o.reverse := List.take_of_length_le (by rw [List.length_reverse]; exact Nat.le_refl _)
 unfold hullI ouK
 rw [List.take_length, e, List.dropLast_eq_take, List.dropLast_eq_take]
theorem flatO_one (o : List Nat) : (flatO o).all Ab.one = true := Ls.one_of_scal (flatO_scal o)
theorem ldO {m : Mem} {b k : Nat} {blk : Blk} {A : List Nat} (hb : m.at b = some blk) (hc : blk.cells = flatO A) (hk : k ≤ A.length) : m.ld b 0 (k * 1) = some (flatO (A.take k)) := by
 unfold Mem.ld
 rw [hb]
 show (if 0 + k * 1 ≤ blk.cells.length then some ((blk.cells.drop 0).take (k * 1)) else none) = _
 rw [hc, flatO_len, if_pos (by omega), List.drop_zero, Nat.mul_one]
 unfold flatO
 rw [List.map_take]
end Go.Me
namespace Go.Proofs.YtmohcmghbfhdlaaGreat
open Go Go.RowKit Go.Ab Go.Me
set_option maxRecDepth 100000
set_option maxHeartbeats 4000000
attribute [local irreducible] OQ OW AL AW AF SW
theorem half_q {m : Mem} {b d e n c c2 : Nat} {blk blk1 blk2 : Blk} (l : List Pn) (o : List Nat) (hok : ∀ k, k < l.length → (pt l k).Ok) (hmem : ∀ x ∈ o, x < l.length) (hn : o.length = n) (h0 : 0 < n) (hl : l.length ≤ 1000) (hol : n ≤ 1000)
  (hb : m.at b = some blk) (hc : blk.cells = flatP l) (hd : m.at d = some blk1) (hc1 : blk1.cells = [.slice (some ⟨b, 0, none⟩) l.length c2]) (he : m.at e = some blk2) (hc2 : blk2.cells = flatO o) (hne : [b, d, e].Nodup) (ho : blk.obj = Ob.plain := by rfl) (ho1 : blk1.obj = Ob.plain := by rfl) (ho2 : blk2.obj = Ob.plain := by rfl) :
  ACalls Tryz.prog 158 [.slice (some ⟨e, 0, none⟩) n c, .pointer (some ⟨d, 0, none⟩)] m (.slice (some ⟨m.length, 0, none⟩) ((ouK l o n).length - 1) INF) (m ++ [some ⟨flatO (ouK l o n), true, 1⟩]) := by
 subst hn
 have h2 := ACalls.viaS (m := m) (args := [.slice (some ⟨e, 0, none⟩) o.length c, .pointer (some ⟨d, 0, none⟩)]) (v := .slice (some ⟨m.length, 0, none⟩) ((ouK l o o.length).length - 1) INF) [b, d, e] [] [some ⟨flatO (ouK l o o.length), true, 1⟩] (half_c l o hok hmem h0 hl hol (fun k => Nat.le_trans (ouK_le k) hol) c c2 blk.esz blk1.esz blk2.esz)
  ⟨bS hb ho hc (flatP_scal _), bI hd ho1 hc1, bS he ho2 hc2 (flatO_scal _), trivial⟩ hne ?_ rfl rfl rfl rfl
 ·exact h2
 ·exact ⟨⟨_, rfl, rfl⟩, ⟨_, rfl, rfl⟩, ⟨_, rfl, rfl⟩, ⟨rfl, rfl, rfl, .inl ⟨rfl, flatO_scal _⟩⟩, trivial⟩
theorem hull_c (l : List Pn) (hok : ∀ k, k < l.length → (pt l k).Ok) (hap : Apart l) (h0 : 2 ≤ l.length) (hl : l.length ≤ 1000) (c z : Nat) :
  ACalls Tryz.prog 122 [.slice (some ⟨0, 0, none⟩) l.length c] [some ⟨flatP l, false, z⟩] (.slice (some ⟨1, 0, none⟩) (hullI l (ordL l)).length INF) [some ⟨flatP l, false, z⟩, some ⟨flatO (hullI l (ordL l)), true, 1⟩] := by
 have hS := fun (m : Mem) (b : Nat) (blk : Blk) (h1 : m.at b = some blk) (h2 : blk.cells = flatP l) (h3 : blk.obj = Ob.plain) => sorted_q (c := c) l hap (by omega) hl h1 h2 rfl h3
 have hm1 : ∀ x ∈ ordL l, x < l.length := fun x hx => (ordL_sorted hap).mem x |>.1 hx
 have hm2 : ∀ x ∈ (ordL l).reverse, x < l.length := fun x hx => hm1 x (List.mem_reverse.1 hx)
 have hlen := ordL_len l
 have hlen2 : (ordL l).reverse.length = l.length := by rw [List.length_reverse, hlen]
 have hF1 := fun (m : Mem) (b d e cc : Nat) (blk blk1 blk2 : Blk) (h1 : m.at b = some blk) (h2 : blk.cells = flatP l) (h3 : m.at d = some blk1) (h4 : blk1.cells = [.slice (some ⟨b, 0, none⟩) l.length c]) (h5 : m.at e = some blk2) (h6 : blk2.cells = flatO (ordL l)) (h7 : [b, d, e].Nodup) (o1 : blk.obj = Ob.plain) (o2 : blk1.obj = Ob.plain) (o3 : blk2.obj = Ob.plain) => half_q (c := cc) l (ordL l) hok hm1 hlen (by omega) hl hl h1 h2 h3 h4 h5 h6 h7 o1 o2 o3
 have hF2 := fun (m : Mem) (b d e cc : Nat) (blk blk1 blk2 : Blk) (h1 : m.at b = some blk) (h2 : blk.cells = flatP l) (h3 : m.at d = some blk1) (h4 : blk1.cells = [.slice (some ⟨b, 0, none⟩) l.length c]) (h5 : m.at e = some blk2) (h6 : blk2.cells = flatO (ordL l).reverse) (h7 : [b, d, e].Nodup) (o1 : blk.obj = Ob.plain) (o2 : blk1.obj = Ob.plain) (o3 : blk2.obj = Ob.plain) => half_q (c := cc) l (ordL l).reverse hok hm2 hlen2 (by omega) hl hl h1 h2 h3 h4 h5 h6 h7 o1 o2 o3
 have hR := fun (m : Mem) (b cc z : Nat) (h : m.at b = some ⟨flatO (ordL l), true, z⟩) => Reverse_q (c := cc) (ordL l) h hlen (by omega)
 have hH := hullI_ou l (ordL l)
 rw [hlen] at hH
 have a1 := ouK_len (l := l) (o := ordL l) l.length (by omega)
 have a2 := ouK_len (l := l) (o := (ordL l).reverse) l.length (by omega)
 generalize ouK l (ordL l) l.length = A1 at *
 generalize ouK l (ordL l).reverse l.length = A2 at *
 generalize hullI l (ordL l) = H at *
 have b1 := a1.2 h0
 have b2 := a2.2 h0
 have hHl : H.length = (A1.length - 1) + (A2.length - 1) := by rw [hH, List.length_append, List.length_take, List.length_take]; omega
 have hfl : (flatO A1).take (A1.length - 1) ++ flatO (A2.take (A2.length - 1)) = flatO H := by
  rw [hH]
  unfold flatO
  rw [List.map_append, List.map_take, List.map_take]
 have hle : (A1.length - 1) * 1 ≤ (flatO A1).length := by rw [flatO_len]; omega
 refine ACalls.en 18 Tryz.func122 rfl rfl (fun E hE => ?_)
 repeat' (first | with_reducible (refine Then.n ?_) | ((with_reducible refine AL.on ?_); first | ((first | refine AL.mv ?_ | refine AL.as ?_ | ((with_reducible refine AL.k_load ?_); (refine AL.g (OQ.load1 (ty := 22) rfl kr wl) ?_))); refine AL.nm ?_) | ((refine AL.q rfl OQ.mkfn ?_); refine AL.nm ?_) | ((first | ((with_reducible refine AL.k_call ?_); first | refine AL.acall (g := 117) rfl kr rfl ((by exact hS _ 0 _ rfl rfl rfl)) ?_ | refine AL.acall rfl (by kernel_rfl) rfl ((by first | exact hF1 _ 0 1 2 _ _ _ _ rfl rfl rfl rfl rfl rfl (by decide) rfl rfl rfl | exact hF2 _ 0 1 2 _ _ _ _ rfl rfl rfl rfl rfl rfl (by decide) rfl rfl rfl)) ?_ | refine AL.acall (g := 159) rfl kr rfl ((by exact hR _ 2 _ _ rfl)) ?_ | refine AL.w rfl (by exact OW.append (e := 3) (z := 1) (zs := [.int .i64 0]) (by' := 8) (n := A1.length - 1) (k := A2.length - 1) (vs := flatO (A2.take (A2.length - 1))) rfl rfl kr kr kr rfl kr (by omega) rfl rfl rfl (by decide) hle (ldO rfl rfl (by omega)) (flatO_one _) (by omega) (by omega)) ?_) | refine AL.bx ?_); refine AL.nm ?_; refine AL.nM ?_) | refine AL.nil ?_) | ((with_reducible refine AW.on ?_); first | refine AW.seq ?_ | refine AW.ret ?_ | refine AW.region ?_) | ((with_reducible refine FinA.on ?_); (rw [← hfl, hHl]; refine FinA.keep 1 [5] (.inl rfl) (.tmp wl .nil) ?_ rfl (Nat.le_of_eq hE) rfl rfl ⟨kl rfl (flatP_scal l), ⟨_, rfl, rfl, rfl, .inl ⟨rfl, by rw [hfl]; exact flatO_scal _⟩⟩, trivial⟩; rfl)))
end Go.Proofs.YtmohcmghbfhdlaaGreat
end
end
