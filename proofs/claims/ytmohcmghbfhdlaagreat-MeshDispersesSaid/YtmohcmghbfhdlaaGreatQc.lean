/- The small memory: regions that draw their order, of any operations: what two operations that are not ordered touch must be apart; this is looked at once, at the end. -/
import Derived.Test.YtmohcmghbfhdlaaGreatQb
section
set_option linter.unusedSimpArgs false
set_option linter.unusedVariables false
namespace Go
open Go.RowKit
namespace Ab
def wpOne (P : Program) (ops : Array Oper) (o : Oper) (Q : Exit → Act → World → Prop) (K : Act → World → Prop) (a : Act) (w : World) : Prop :=
 if Region.wanted o (yielded ops a.tmps) then o.wp P a w K Q ∨ (o.asks P a w ∧ LetsOut Q) else K (a.put o.dst undef) w
def SW (P : Program) (E0 : Env) (ops : Array Oper) (o : Oper) (t : T) (m : Mem) (v : Value) (m' : Mem) : Prop :=
 ∀ (E : Env) (ρ : Ren) (a : Act) (w : World) (Q : Exit → Act → World → Prop) (K : Act → World → Prop), ((∀ x, x < E0.n0 → ρ x = E0.ρ0 x) ∧ ∀ (N0 : Nat) (W0 : World), EW N0 W0 E0 → EW N0 W0 E) → a.defers = [] → TRel ρ t a.tmps → St E ρ m w →
  (∀ v' w' ρ', VRel ρ' v v' → St E ρ' m' w' → K (a.put o.dst v') w') → wpOne P ops o Q K a w
section
variable {P : Program} {E0 : Env} {ops : Array Oper} {o : Oper} {t : T} {m m' : Mem} {v : Value}
theorem SW.q (h : OQ P o t m v) (hg : o.guard = none) : SW P E0 ops o t m v m := by
 intro E ρ a w Q K hEE hd ht hs hK
 obtain ⟨v', hv, hrun⟩ := h ρ a w ht hs.mem
 unfold wpOne
 rw [if_pos (by simp [Region.wanted, hg])]
 left
 unfold Oper.wp
 rw [hrun w (Same.refl _ _ _)]
 exact hK v' w ρ hv hs
theorem SW.w (h : OW P o t m v m') (hg : o.guard = none) : SW P E0 ops o t m v m' := by
 intro E ρ a w Q K hEE hd ht hs hK
 obtain ⟨v', w', ρ', hrun, he, hv, hs'⟩ := h E ρ a w ht hs
 unfold wpOne
 rw [if_pos (by simp [Region.wanted, hg])]
 left
 unfold Oper.wp
 rcases hrun with hrun | ⟨hrun, rfl⟩ <;> rw [hrun] <;> exact hK _ w' ρ' hv hs'
theorem SW.acall {dst : Option Tmp} {fo : Operand} {xs : Array Operand} {ats : Array TypeId} {ty : TypeId} {pos : String} {after : Array Edge} {guard : Option (Nat × Bool)} {g : FuncId} {first cap : Array Value} {args : List Value}
  (hf : t.ev fo = .func (.func g) first cap) (he : enters P g = true) (ha : first.toList ++ xs.toList.map t.ev ++ cap.toList = args) (h : ACalls P g args m v m') (hg : guard = none) :
  SW P E0 ops ⟨dst, .call ⟨.value fo, xs, ats⟩, ty, pos, after, guard⟩ t m v m' := by
 subst hg
 intro E ρ a w Q K hEE hd ht hs hK
 obtain ⟨args', hrun, hargs⟩ := run_call (P := P) (w := w) (dst := dst) (ats := ats) (ty := ty) (pos := pos) (after := after) (guard := none) (xs := xs) ht hf he
 unfold wpOne
 rw [if_pos (by simp [Region.wanted])]
 left
 unfold Oper.wp
 rw [hrun]
 show Calls P g args' w _
 refine (h E ρ args' w (by rw [← ha, show (first.toList ++ xs.toList.map t.ev ++ cap.toList).toArray = first ++ (xs.toList.map t.ev).toArray ++ cap by simp]; exact hargs) hs).mono ?_
 rintro e w' ⟨v', ρ', rfl, hext, hv, hs'⟩
 exact hK v' w' ρ' hv hs'
theorem SW.pcall {dst : Option Tmp} {fo : Operand} {xs : Array Operand} {ats : Array TypeId} {ty : TypeId} {pos : String} {after : Array Edge} {guard : Option (Nat × Bool)} {g : FuncId} {first cap : Array Value} {args : List Value}
  (hf : t.ev fo = .func (.func g) first cap) (he : enters P g = true) (ha : first.toList ++ xs.toList.map t.ev ++ cap.toList = args) (h : PCalls P g args m v) (hg : guard = none) :
  SW P E0 ops ⟨dst, .call ⟨.value fo, xs, ats⟩, ty, pos, after, guard⟩ t m v m := SW.acall hf he ha h.acalls hg
theorem SW.yes {d : Nat} {want c : Bool} (h : SW P E0 ops { o with guard := none } t m v m') (hg : gdt ops o = some (d, want)) (hc : t.getD d undef = .bool c) (hcw : c = want) : SW P E0 ops o t m v m' := by
 intro E ρ a w Q K hEE hd ht hs hK
 have hw := wanted_iff hg (VRel.bool (hc ▸ ht.get d))
 have := h E ρ a w Q K hEE hd ht hs hK
 unfold wpOne at this ⊢
 rw [if_pos (by simp [Region.wanted])] at this
 rw [hw, if_pos (by simp [hcw])]
 exact this
theorem SW.no {d : Nat} {want c : Bool} (hg : gdt ops o = some (d, want)) (hc : t.getD d undef = .bool c) (hcw : c = !want) : SW P E0 ops o t m undef m := by
 intro E ρ a w Q K hEE hd ht hs hK
 have hw := wanted_iff hg (VRel.bool (hc ▸ ht.get d))
 unfold wpOne
 rw [hw, if_neg (by simp [hcw])]
 exact hK _ w ρ .undef hs
theorem SW.skip {d : Nat} {want : Bool} (hg : gdt ops o = some (d, want)) (hc : t.getD d undef = .tuple #[]) : SW P E0 ops o t m undef m := by
 intro E ρ a w Q K hEE hd ht hs hK
 have hu : a.tmps.getD d undef = .tuple #[] := by
  have := hc ▸ ht.get d
  obtain ⟨xs', e, h1, _⟩ := this.tuple_inv
  rw [e]
  simp at h1
  have : xs' = #[] := Array.eq_empty_of_size_eq_zero h1.symm
  rw [this]
 have hw : Region.wanted o (yielded ops a.tmps) = false := by
  unfold gdt at hg
  unfold Region.wanted
  split at hg
  ·cases hg
  ·rename_i j w' hgu
   rw [hgu]
   split at hg
   ·rename_i d' hd'
    simp only [Option.some.injEq, Prod.mk.injEq] at hg
    obtain ⟨rfl, rfl⟩ := hg
    unfold yielded
    simp only [hd', Option.bind_some]
    rw [Array.getD_eq_getD_getElem?] at hu
    cases ht : a.tmps[d']? with
    | none => simp
    | some v => rw [ht] at hu; simp only [Option.getD_some] at hu; subst hu; simp
   ·cases hg
 unfold wpOne
 rw [hw, if_neg (by simp)]
 exact hK _ w ρ .undef hs
end
abbrev Sp := Option Nat × Nat × Nat
structure Rec where
 v : Value
 c : Option (Nat × Option Blk)
 news : List Blk
 nm : Nat
def Rec.sp (r : Rec) : Sp := (r.c.map (·.1), r.news.length, r.nm)
def Rec.mem (r : Rec) (m : Mem) : Mem := (match r.c with | none => m | some (b, x) => m.set b x) ++ r.news.map some
def start (n0 : Nat) (sps : List Sp) (j : Nat) : Nat := n0 + ((sps.take j).map (·.2.1)).sum
def tch (n0 : Nat) (sps : List Sp) (j b : Nat) : Bool := match sps[j]? with
 | none => false
 | some s => s.1 == some b || (decide (start n0 sps j ≤ b) && decide (b < start n0 sps (j + 1)))
def vis (bits : Array Nat) (n0 : Nat) (own0 : Nat → Bool) (sps : List Sp) (i nm b : Nat) : Bool :=
 nm != 0 && (nm == 2 || nm == b + 3 || (decide (1000 ≤ nm) && (nm - 1000).testBit b) || decide (n0 ≤ b) || !own0 b) && (List.range i).all fun j => !tch n0 sps j b || Free.bit bits i j
def chkAll (bits : Array Nat) (n0 : Nat) (own0 : Nat → Bool) (sps : List Sp) : Bool := (List.range sps.length).all fun k => match sps[k]? with
 | some (some b, _, nm) => vis bits n0 own0 sps k nm b && decide (b < start n0 sps k) && (List.range k).all fun i => match sps[i]? with
  | some s => !(vis bits n0 own0 sps i s.2.2 b && decide (b < start n0 sps i)) || Free.bit bits k i
  | none => true
 | _ => true
def own0 (m0 : Mem) (b : Nat) : Bool := match m0.at b with | some blk => blk.own | none => false
section
variable {n0 : Nat} {sps : List Sp} {i j k b : Nat}
theorem start_succ {s : Sp} (h : sps[j]? = some s) : start n0 sps (j + 1) = start n0 sps j + s.2.1 := by
 unfold start
 rw [List.take_add_one, h]
 simp
 omega
theorem start_none (h : sps[j]? = none) : start n0 sps (j + 1) = start n0 sps j := by
 unfold start
 rw [List.take_add_one, h]
 simp
theorem start_mono (h : j ≤ k) : start n0 sps j ≤ start n0 sps k := by
 obtain ⟨d, rfl⟩ := Nat.exists_eq_add_of_le h
 clear h
 induction d with
 | zero => exact Nat.le_refl _
 | succ d ih =>
  rw [show j + (d + 1) = j + d + 1 by omega]
  cases h : sps[j + d]? with
  | none => rw [start_none h]; exact ih
  | some s => rw [start_succ h]; omega
theorem start_take (h : j ≤ i) : start n0 (sps.take i) j = start n0 sps j := by
 unfold start
 rw [List.take_take, Nat.min_eq_left h]
theorem tch_take (h : j < i) : tch n0 (sps.take i) j b = tch n0 sps j b := by
 unfold tch
 rw [List.getElem?_take_of_lt h, start_take (by omega), start_take (by omega)]
theorem all_congr {α : Type} {l : List α} {f g : α → Bool} (h : ∀ x ∈ l, f x = g x) : l.all f = l.all g := by
 induction l with
 | nil => rfl
 | cons x l ih => simp only [List.all_cons, h x (by simp), ih fun y hy => h y (by simp [hy])]
theorem vis_take {bits : Array Nat} {own : Nat → Bool} {nm : Nat} : vis bits n0 own (sps.take i) i nm b = vis bits n0 own sps i nm b := by
 unfold vis
 rw [all_congr fun j hj => by rw [tch_take (List.mem_range.1 hj)]]
theorem le_start : n0 ≤ start n0 sps j := Nat.le_add_right _ _
end
def maskF (f : Nat → Bool) (c : Option Nat) : Nat → Mem → Mem
 | _, [] => []
 | k, x :: m => (if f k then (if c = some k then x else x.map fun b => { b with own := false }) else none) :: maskF f c (k + 1) m
theorem maskF_len (f : Nat → Bool) (c : Option Nat) : ∀ (k : Nat) (m : Mem), (maskF f c k m).length = m.length
 | _, [] => rfl
 | k, x :: m => by simp [maskF, maskF_len f c (k + 1) m]
theorem maskF_at (f : Nat → Bool) (c : Option Nat) : ∀ (k : Nat) (m : Mem) (b : Nat), (maskF f c k m).at b = if f (k + b) then (if c = some (k + b) then m.at b else (m.at b).map fun b => { b with own := false }) else none
 | k, [], b => by simp [maskF, Mem.at]
 | k, x :: m, 0 => by simp [maskF, Mem.at]
 | k, x :: m, b + 1 => by
  have := maskF_at f c (k + 1) m b
  rw [show k + 1 + b = k + (b + 1) by omega] at this
  simpa [maskF, Mem.at] using this
def onlyF (ds : List Nat) : Nat → T → T
 | _, [] => []
 | k, v :: t => (if ds.contains k then v else jk) :: onlyF ds (k + 1) t
theorem onlyF_len (ds : List Nat) : ∀ (k : Nat) (t : T), (onlyF ds k t).length = t.length
 | _, [] => rfl
 | k, v :: t => by simp [onlyF, onlyF_len ds (k + 1) t]
theorem onlyF_get (ds : List Nat) : ∀ (k : Nat) (t : T) (i : Nat) (v : Value), (onlyF ds k t)[i]? = some v → v = jk ∨ (t[i]? = some v ∧ k + i ∈ ds)
 | _, [], i, v, h => by simp [onlyF] at h
 | k, x :: t, 0, v, h => by
  simp only [onlyF, List.getElem?_cons_zero, Option.some.injEq] at h
  split at h
  ·rename_i hc
   exact .inr ⟨by simp [h], by simpa using hc⟩
  ·exact .inl h.symm
 | k, x :: t, i + 1, v, h => by
  simp only [onlyF, List.getElem?_cons_succ] at h
  rcases onlyF_get ds (k + 1) t i v h with h | ⟨h1, h2⟩
  ·exact .inl h
  ·exact .inr ⟨by simpa using h1, by rw [show k + (i + 1) = k + 1 + i by omega]; exact h2⟩
def Ren.tr (ρ : Ren) (n : Nat) : Ren := fun b => if b < n then ρ b else none
theorem Ren.tr_ext {ρ ρ' : Ren} {n n' : Nat} (h : Ext ρ ρ') (hn : n ≤ n') : Ext (ρ.tr n) (ρ'.tr n') := fun b pl hb => by
 unfold Ren.tr at hb ⊢
 split at hb
 ·rw [if_pos (by omega)]; exact h b pl hb
 ·cases hb
theorem Ren.tr_le {ρ : Ren} {n : Nat} : Ext (ρ.tr n) ρ := fun b pl hb => by
 unfold Ren.tr at hb
 split at hb
 ·exact hb
 ·cases hb
section walk
variable (P : Program) (E : Env) (l : List Oper) (bits : Array Nat) (n : Nat) (Q : Post) (m0 : Mem)
def WalkF : List Oper → List Rec → T → Mem → List Sp → Prop
 | [], [], t, m, sps => chkAll bits m0.length (own0 m0) sps = true ∧ AL P E l.toArray (l.drop n) t m Q
 | o :: ops, r :: rs, t, m, sps =>
  (SW P E l.toArray o (onlyF (o.looksAt l.toArray) 0 t) (maskF (vis bits m0.length (own0 m0) sps sps.length r.nm) (r.c.map (·.1)) 0 m) r.v (r.mem (maskF (vis bits m0.length (own0 m0) sps sps.length r.nm) (r.c.map (·.1)) 0 m)) ∧
   (r.news.all (·.own) = true ∧ ∀ b x, r.c = some (b, some x) → x.own = true)) ∧ WalkF ops rs (t.put o.dst r.v) (r.mem m) (sps ++ [r.sp])
 | _, _, _, _, _ => False
def AF (ops : List Oper) (t : T) (m : Mem) (sps : List Sp) : Prop := ∃ rs, WalkF P E l bits n Q m0 ops rs t m sps
end walk
def mA (m0 : Mem) (rs : List Rec) (j : Nat) : Mem := (rs.take j).foldl (fun m r => r.mem m) m0
def tA (l : List Oper) (rs : List Rec) : Nat → T → T
 | 0, t => t
 | j + 1, t => match l[j]?, rs[j]? with
  | some o, some r => (tA l rs j t).put o.dst r.v
  | _, _ => tA l rs j t
section seq
variable {m0 : Mem} {rs : List Rec} {j : Nat} {b : Nat}
theorem mA_succ {r : Rec} (h : rs[j]? = some r) : mA m0 rs (j + 1) = r.mem (mA m0 rs j) := by
 unfold mA
 rw [List.take_add_one, h]
 simp
theorem mem_len (r : Rec) (m : Mem) : (r.mem m).length = m.length + r.news.length := by
 unfold Rec.mem
 split <;> simp
theorem sp_get {r : Rec} (h : rs[j]? = some r) : (rs.map Rec.sp)[j]? = some r.sp := by simp [h]
theorem mA_len : ∀ j, (mA m0 rs j).length = start m0.length (rs.map Rec.sp) j
 | 0 => by simp [mA, start]
 | j + 1 => by
  cases h : rs[j]? with
  | none =>
   rw [start_none (by simp [h]), ← mA_len j]
   unfold mA
   rw [List.take_add_one, h]
   simp
  | some r => rw [mA_succ h, mem_len, mA_len j, start_succ (sp_get h)]; rfl
theorem mem_at (r : Rec) (m : Mem) : (r.mem m).at b = if b < m.length then (match r.c with | some (b', x) => if b = b' then x else m.at b | none => m.at b) else (r.news.map some).getD (b - m.length) none := by
 unfold Rec.mem Mem.at
 cases hc : r.c with
 | none =>
  simp only
  rw [List.getD_eq_getElem?_getD, List.getElem?_append]
  split
  ·rw [List.getD_eq_getElem?_getD]
  ·rw [List.getD_eq_getElem?_getD]
 | some c =>
  obtain ⟨b', x⟩ := c
  simp only
  rw [List.getD_eq_getElem?_getD, List.getElem?_append]
  simp only [List.length_set]
  split
  ·rename_i hb
   rw [List.getElem?_set]
   by_cases h : b' = b
   ·subst h; simp [hb]
   ·rw [if_neg h, if_neg (Ne.symm h), List.getD_eq_getElem?_getD]
  ·rw [List.getD_eq_getElem?_getD]
theorem mA_keep {r : Rec} (h : rs[j]? = some r) (ht : tch m0.length (rs.map Rec.sp) j b = false) : (mA m0 rs (j + 1)).at b = (mA m0 rs j).at b := by
 rw [mA_succ h, mem_at]
 unfold tch at ht
 rw [sp_get h] at ht
 simp only [Bool.or_eq_false_iff, Bool.and_eq_false_iff, decide_eq_false_iff_not, beq_eq_false_iff_ne] at ht
 obtain ⟨h1, h2⟩ := ht
 have hs := start_succ (n0 := m0.length) (sp_get h)
 have hl := mA_len (m0 := m0) (rs := rs) j
 split
 ·split
  ·rename_i b' x hc
   rw [if_neg]
   intro e
   subst e
   exact h1 (by simp [Rec.sp, hc])
  ·rfl
 ·rename_i hb
  have : start m0.length (rs.map Rec.sp) (j + 1) ≤ b := by omega
  rw [List.getD_eq_getElem?_getD, List.getElem?_eq_none (by simp; rw [hs] at this; simp only [Rec.sp] at this; omega), Mem.at, List.getD_eq_getElem?_getD, List.getElem?_eq_none (by omega)]
theorem mem_same {r : Rec} {m m' : Mem} (hr : rs[j]? = some r) (hl : m.length = start m0.length (rs.map Rec.sp) j) (hl' : m'.length = m.length) (ht : tch m0.length (rs.map Rec.sp) j b = true) : (r.mem m).at b = (r.mem m').at b := by
 rw [mem_at, mem_at, hl']
 unfold tch at ht
 rw [sp_get hr] at ht
 simp only [Bool.or_eq_true, beq_iff_eq, Bool.and_eq_true, decide_eq_true_eq] at ht
 split
 ·rename_i hb
  rcases ht with ht | ht
  ·cases hc : r.c with
   | none => simp [Rec.sp, hc] at ht
   | some c =>
    obtain ⟨b', x⟩ := c
    simp [Rec.sp, hc] at ht
    subst ht
    simp
  ·omega
 ·rfl
end seq
def cur (m0 : Mem) (rs : List Rec) (listed : Array Bool) (b : Nat) : Nat → Option Blk × Nat
 | 0 => (m0.at b, m0.length)
 | j + 1 => if (listed.getD j false && tch m0.length (rs.map Rec.sp) j b) = true then ((mA m0 rs (j + 1)).at b, start m0.length (rs.map Rec.sp) (j + 1)) else cur m0 rs listed b j
section cur
variable {m0 : Mem} {rs : List Rec} {listed : Array Bool} {b : Nat}
theorem cur_upto {i : Nat} (hi : i ≤ rs.length) (h : ∀ j, j < i → tch m0.length (rs.map Rec.sp) j b = true → listed.getD j false = true) :
  ∀ j, j ≤ i → (cur m0 rs listed b j).1 = (mA m0 rs j).at b ∧ (cur m0 rs listed b j).2 ≤ start m0.length (rs.map Rec.sp) j
 | 0, _ => ⟨rfl, le_start⟩
 | j + 1, hj => by
  obtain ⟨h1, h2⟩ := cur_upto hi h j (by omega)
  unfold cur
  split
  ·exact ⟨rfl, Nat.le_refl _⟩
  ·rename_i hc
   have ht : tch m0.length (rs.map Rec.sp) j b = false := by
    cases ht : tch m0.length (rs.map Rec.sp) j b with
    | false => rfl
    | true => exact absurd (by rw [h j (by omega) ht, ht]; rfl) hc
   have hr : rs[j]? = some rs[j] := by simp [show j < rs.length by omega]
   exact ⟨h1.trans (mA_keep hr ht).symm, Nat.le_trans h2 (start_mono (by omega))⟩
theorem cur_past {i : Nat} (h : ∀ j, i ≤ j → listed.getD j false = true → tch m0.length (rs.map Rec.sp) j b = false) : ∀ d, cur m0 rs listed b (i + d) = cur m0 rs listed b i
 | 0 => rfl
 | d + 1 => by
  rw [show i + (d + 1) = i + d + 1 by omega]
  show (if _ then _ else _) = _
  rw [if_neg, cur_past h d]
  intro hc
  simp only [Bool.and_eq_true] at hc
  rw [h (i + d) (by omega) hc.1] at hc
  exact absurd hc.2 (by decide)
theorem cur_set {i : Nat} (ht : tch m0.length (rs.map Rec.sp) i b = false) : ∀ d, cur m0 rs (listed.setIfInBounds i true) b d = cur m0 rs listed b d
 | 0 => rfl
 | d + 1 => by
  unfold cur
  rw [cur_set ht d]
  by_cases hd : i = d
  ·subst hd
   rw [ht]
   simp
  ·rw [getD_set_ne false hd]
end cur
section main
variable {P : Program} {E : Env} {l : List Oper} {bits : Array Nat} {n : Nat} {Q : Post} {m0 : Mem} {t0 : T} {rs : List Rec} {ρ0 ρ : Ren} {listed : Array Bool} {a : Act} {w E0w : World} {i : Nat}
structure AllF (P : Program) (E : Env) (l : List Oper) (bits : Array Nat) (n : Nat) (Q : Post) (m0 : Mem) (t0 : T) (rs : List Rec) : Prop where
 len : rs.length = n
 ob : ∀ (j : Nat) (o : Oper) (r : Rec), l[j]? = some o → rs[j]? = some r →
  SW P E l.toArray o (onlyF (o.looksAt l.toArray) 0 (tA l rs j t0)) (maskF (vis bits m0.length (own0 m0) (rs.map Rec.sp) j r.nm) (r.c.map (·.1)) 0 (mA m0 rs j)) r.v (r.mem (maskF (vis bits m0.length (own0 m0) (rs.map Rec.sp) j r.nm) (r.c.map (·.1)) 0 (mA m0 rs j))) ∧
   (r.news.all (·.own) = true ∧ ∀ b x, r.c = some (b, some x) → x.own = true)
 chk : chkAll bits m0.length (own0 m0) (rs.map Rec.sp) = true
 fin : AL P E l.toArray (l.drop n) (tA l rs n t0) (mA m0 rs n) Q
structure InvF (E : Env) (l : List Oper) (n : Nat) (m0 : Mem) (t0 : T) (rs : List Rec) (ρ0 : Ren) (listed : Array Bool) (a : Act) (w : World) (ρ : Ren) : Prop where
 size : a.tmps.size = t0.length
 defers : a.defers = []
 os : w.os = E.W.os
 tape : w.tape = E.W.tape
 output : w.output = E.W.output ∧ E.W.drawn ≤ w.drawn
 wsize : E.W.heap.size ≤ w.heap.size
 same : ∀ k, k < E.W.heap.size → ¬ E.S k → w.heap[k]? = E.W.heap[k]?
 ext : ∀ b, b < m0.length → ρ b = ρ0 b
 dom : ∀ b pl, ρ b = some pl → b < m0.length ∨ ∃ j, listed.getD j false = true ∧ start m0.length (rs.map Rec.sp) j ≤ b ∧ b < start m0.length (rs.map Rec.sp) (j + 1)
 mem : ∀ b blk, (cur m0 rs listed b n).1 = some blk → ∃ pl, ρ b = some pl ∧ BRel (ρ.tr (cur m0 rs listed b n).2) blk pl w ∧
  (blk.own = true → ∀ b' blk' pl', b' ≠ b → (cur m0 rs listed b' n).1 = some blk' → ρ b' = some pl' → pl'.blk ≠ pl.blk)
 fresh : ∀ b blk pl, (cur m0 rs listed b n).1 = some blk → blk.own = true → ρ b = some pl → E.W.heap.size ≤ pl.blk ∨ E.S pl.blk
 wrote : ∀ (j : Nat) (o : Oper) (r : Rec) (d : Nat), l[j]? = some o → rs[j]? = some r → listed.getD j false = true → o.dst = some d → d < t0.length → ∃ v', a.tmps[d]? = some v' ∧ VRel (ρ.tr (start m0.length (rs.map Rec.sp) (j + 1))) r.v v'
 kept : ∀ (d : Nat) (v : Value), (∀ (j : Nat) (o : Oper), l[j]? = some o → listed.getD j false = true → o.dst ≠ some d) → t0[d]? = some v → ∃ v', a.tmps[d]? = some v' ∧ VRel ρ0 v v'
theorem tA_len : ∀ j, (tA l rs j t0).length = t0.length
 | 0 => rfl
 | j + 1 => by
  unfold tA
  split
  ·rename_i o r _ _
   have := tA_len j
   cases hd : o.dst <;> simp [T.put, this]
  ·exact tA_len j
theorem tA_kept {d : Nat} : ∀ j, (∀ (k : Nat) (o : Oper), k < j → l[k]? = some o → o.dst ≠ some d) → (tA l rs j t0)[d]? = t0[d]?
 | 0, _ => rfl
 | j + 1, h => by
  have ih := tA_kept j fun k o hk => h k o (by omega)
  unfold tA
  split
  ·rename_i o r ho hr
   have := h j o (by omega) ho
   cases hd : o.dst with
   | none => simpa [T.put] using ih
   | some d' =>
    simp only [T.put]
    rw [List.getElem?_set_ne (fun e => this (by rw [hd, e]))]
    exact ih
  ·exact ih
theorem tA_wrote {d k : Nat} {o : Oper} {r : Rec} (ho : l[k]? = some o) (hr : rs[k]? = some r) (hd : o.dst = some d) (hl : d < t0.length) : ∀ j, k < j → (∀ (k' : Nat) (o' : Oper), k' < j → k' ≠ k → l[k']? = some o' → o'.dst ≠ some d) → (tA l rs j t0)[d]? = some r.v
 | 0, h, _ => by omega
 | j + 1, h, hu => by
  by_cases hk : k = j
  ·subst hk
   unfold tA
   rw [ho, hr]
   simp only [hd, T.put]
   rw [List.getElem?_set_self (by rw [tA_len]; exact hl)]
  ·have ih := tA_wrote ho hr hd hl j (by omega) fun k' o' hk' hne => hu k' o' (by omega) hne
   unfold tA
   split
   ·rename_i o' r' ho' hr'
    have := hu j o' (by omega) (Ne.symm hk) ho'
    cases hd' : o'.dst with
    | none => simpa [T.put] using ih
    | some d' =>
     simp only [T.put]
     rw [List.getElem?_set_ne (fun e => this (by rw [hd', e]))]
     exact ih
   ·exact ih
theorem looksF (hc : Free.Chk l.toArray bits n) (hlen : rs.length = n) (hh : Free.Closed l.toArray n listed) (hi : InvF E l n m0 t0 rs ρ0 listed a w ρ) (hr : i ∈ Region.ready .any l.toArray listed) (hin : i < n)
  (hdom0 : ∀ b pl, ρ0 b = some pl → b < m0.length) {oi : Oper} (hoi : l[i]? = some oi) {d : Nat} (hd : d ∈ oi.looksAt l.toArray) {v : Value} (hv : (tA l rs i t0)[d]? = some v) :
  ∃ v', a.tmps[d]? = some v' ∧ VRel (ρ.tr (start m0.length (rs.map Rec.sp) i)) v v' := by
 have hun := getD_both (mem_ready.1 hr).1
 obtain ⟨_, o', ho', hall⟩ := mem_ready.1 hr
 have hoi' : l.toArray[i]? = some oi := by simpa using hoi
 cases Option.some.inj (ho'.symm.trans hoi')
 have hds : d < t0.length := by
  have := (List.getElem?_eq_some_iff.1 hv).1
  rwa [tA_len] at this
 have hlt : ∀ k, listed.getD k false = true → k < n := fun k hk => by
  rcases Nat.lt_or_ge k n with h | h
  ·exact h
  ·rw [hh.tail k h] at hk; cases hk
 have base : ∀ v, t0[d]? = some v → (∀ (j : Nat) (o : Oper), l[j]? = some o → listed.getD j false = true → o.dst ≠ some d) → ∃ v', a.tmps[d]? = some v' ∧ VRel (ρ.tr (start m0.length (rs.map Rec.sp) i)) v v' := fun v hv hno => by
  obtain ⟨v', h1, h2⟩ := hi.kept d v hno hv
  refine ⟨v', h1, h2.ext fun b pl hb => ?_⟩
  have hbl := hdom0 b pl hb
  unfold Ren.tr
  rw [if_pos (Nat.lt_of_lt_of_le hbl le_start), hi.ext b hbl]
  exact hb
 by_cases hw : ∃ j oj, j < n ∧ j ≠ i ∧ l[j]? = some oj ∧ oj.dst = some d
 ·obtain ⟨j, oj, hj, hji, hoj, hdj⟩ := hw
  have hoj' : l.toArray[j]? = some oj := by simpa using hoj
  have huniq : ∀ k ok, k < n → k ≠ j → l[k]? = some ok → ok.dst ≠ some d := fun k ok hk hkj hok => (hc.dst k j ok oj d hk hj hkj (by simpa using hok) hoj' hdj).1
  have hord := (hc.dst i j oi oj d hin hj (Ne.symm hji) hoi' hoj' hdj).2 hd
  obtain ⟨r, hrj⟩ : ∃ r, rs[j]? = some r := ⟨rs[j]'(by omega), by simp [hlen, hj]⟩
  by_cases hlt' : j < i
  ·rw [if_pos hlt'] at hord
   have hjl := hh.bits hc i oi hoi' hall j hj hord
   rw [tA_wrote hoj hrj hdj hds i hlt' (fun k ok hk hkj hok => huniq k ok (by omega) hkj hok)] at hv
   cases Option.some.inj hv
   obtain ⟨v', h1, h2⟩ := hi.wrote j oj r d hoj hrj hjl hdj hds
   exact ⟨v', h1, h2.ext (Ren.tr_ext (.refl _) (start_mono (by omega)))⟩
  ·rw [if_neg hlt'] at hord
   have hjl : listed.getD j false = false := by
    cases hjl : listed.getD j false with
    | false => rfl
    | true =>
     have := hh.bits hc j oj hoj' (hh.closed j oj hoj' hjl) i hin hord
     rw [hun] at this; cases this
   rw [tA_kept i (fun k ok hk hok => huniq k ok (by omega) (by omega) hok)] at hv
   refine base v hv fun k ok hok hkl hkd => ?_
   by_cases hkj : k = j
   ·subst hkj; rw [hjl] at hkl; cases hkl
   ·exact huniq k ok (hlt k hkl) hkj hok hkd
 ·rw [tA_kept i (fun k ok hk hok hkd => hw ⟨k, ok, by omega, by omega, hok, hkd⟩)] at hv
  exact base v hv fun k ok hok hkl hkd => hw ⟨k, ok, hlt k hkl, (fun e => by subst e; rw [hun] at hkl; cases hkl), hok, hkd⟩
theorem chk_at (h : chkAll bits m0.length (own0 m0) (rs.map Rec.sp) = true) {k : Nat} {r : Rec} (hr : rs[k]? = some r) {b : Nat} (hb : r.c.map (·.1) = some b) :
  vis bits m0.length (own0 m0) (rs.map Rec.sp) k r.nm b = true ∧ b < start m0.length (rs.map Rec.sp) k ∧
  ∀ i r', i < k → rs[i]? = some r' → vis bits m0.length (own0 m0) (rs.map Rec.sp) i r'.nm b = true → b < start m0.length (rs.map Rec.sp) i → Free.bit bits k i = true := by
 have hk : k < rs.length := (List.getElem?_eq_some_iff.1 hr).1
 have := List.all_eq_true.1 h k (List.mem_range.2 (by simpa using hk))
 rw [sp_get hr, show r.sp = (some b, r.news.length, r.nm) by simp only [Rec.sp, hb]] at this
 simp only [Bool.and_eq_true, decide_eq_true_eq] at this
 refine ⟨this.1.1, this.1.2, fun i r' hik hr' hv hbs => ?_⟩
 have := List.all_eq_true.1 this.2 i (List.mem_range.2 hik)
 rw [sp_get hr'] at this
 simp only [Rec.sp, hv, hbs, decide_true, Bool.and_self, Bool.not_true, Bool.false_or] at this
 exact this
theorem vis_bit {nm b j : Nat} (h : vis bits m0.length (own0 m0) (rs.map Rec.sp) i nm b = true) (hj : j < i) (ht : tch m0.length (rs.map Rec.sp) j b = true) : Free.bit bits i j = true := by
 unfold vis at h
 simp only [Bool.and_eq_true] at h
 have := List.all_eq_true.1 h.2 j (List.mem_range.2 hj)
 simpa [ht] using this
theorem tch_old {r : Rec} {j b : Nat} (hr : rs[j]? = some r) (ht : tch m0.length (rs.map Rec.sp) j b = true) (hb : b < start m0.length (rs.map Rec.sp) j) : r.c.map (·.1) = some b := by
 unfold tch at ht
 rw [sp_get hr] at ht
 simp only [Bool.or_eq_true, beq_iff_eq, Bool.and_eq_true, decide_eq_true_eq] at ht
 rcases ht with ht | ht
 ·exact ht
 ·omega
theorem settled (hc : Free.Chk l.toArray bits n) (hln : n ≤ l.length) (hlen : rs.length = n) (hk : chkAll bits m0.length (own0 m0) (rs.map Rec.sp) = true) (hh : Free.Closed l.toArray n listed) (hr : i ∈ Region.ready .any l.toArray listed) (hin : i < n)
  {r : Rec} (hri : rs[i]? = some r) {b : Nat} (hv : vis bits m0.length (own0 m0) (rs.map Rec.sp) i r.nm b = true) (hb : b < start m0.length (rs.map Rec.sp) i) :
  (cur m0 rs listed b n).1 = (mA m0 rs i).at b ∧ (cur m0 rs listed b n).2 ≤ start m0.length (rs.map Rec.sp) i := by
 have hun := getD_both (mem_ready.1 hr).1
 obtain ⟨_, oi, hoi, hall⟩ := mem_ready.1 hr
 have h1 := cur_upto (b := b) (listed := listed) (m0 := m0) (rs := rs) (i := i) (by omega) (fun j hj ht => hh.bits hc i oi hoi hall j (by omega) (vis_bit hv hj ht)) i (Nat.le_refl _)
 have h2 := cur_past (b := b) (listed := listed) (m0 := m0) (rs := rs) (i := i) (fun j hj hjl => by
  cases ht : tch m0.length (rs.map Rec.sp) j b with
  | false => rfl
  | true =>
   exfalso
   rcases Nat.eq_or_lt_of_le hj with rfl | hlt
   ·rw [hun] at hjl; cases hjl
   ·have hjn : j < n := by
     rcases Nat.lt_or_ge j n with h | h
     ·exact h
     ·rw [hh.tail j h] at hjl; cases hjl
    obtain ⟨rj, hrj⟩ : ∃ r, rs[j]? = some r := ⟨rs[j]'(by omega), by simp [hlen, hjn]⟩
    obtain ⟨oj, hoj⟩ : ∃ o, l.toArray[j]? = some o := ⟨l[j]'(by omega), by simp [show j < l.length by omega]⟩
    have hcb := tch_old hrj ht (Nat.lt_of_lt_of_le hb (start_mono hj))
    have hbit := (chk_at hk hrj hcb).2.2 i r hlt hri hv hb
    have := hh.bits hc j oj hoj (hh.closed j oj hoj hjl) i hin hbit
    rw [hun] at this; cases this) (n - i)
 rw [show i + (n - i) = n by omega] at h2
 rw [h2]
 exact h1
theorem settled' (hc : Free.Chk l.toArray bits n) (hln : n ≤ l.length) (hlen : rs.length = n) (hk : chkAll bits m0.length (own0 m0) (rs.map Rec.sp) = true) (hh : Free.Closed l.toArray n listed) (hr : i ∈ Region.ready .any l.toArray listed) (hin : i < n)
  {r : Rec} (hri : rs[i]? = some r) {b : Nat} (ht : tch m0.length (rs.map Rec.sp) i b = true) :
  cur m0 rs (listed.setIfInBounds i true) b n = ((mA m0 rs (i + 1)).at b, start m0.length (rs.map Rec.sp) (i + 1)) := by
 have hun := getD_both (mem_ready.1 hr).1
 obtain ⟨hil, oi, hoi, hall⟩ := mem_ready.1 hr
 have hset : (listed.setIfInBounds i true).getD i false = true := by
  have : i < listed.size := by rw [hh.size]; simp; omega
  simp [this]
 have h2 := cur_past (b := b) (listed := listed.setIfInBounds i true) (m0 := m0) (rs := rs) (i := i + 1) (fun j hj hjl => by
  cases htj : tch m0.length (rs.map Rec.sp) j b with
  | false => rfl
  | true =>
   exfalso
   rw [getD_set_ne false (by omega)] at hjl
   have hjn : j < n := by
    rcases Nat.lt_or_ge j n with h | h
    ·exact h
    ·rw [hh.tail j h] at hjl; cases hjl
   obtain ⟨rj, hrj⟩ : ∃ r, rs[j]? = some r := ⟨rs[j]'(by omega), by simp [hlen, hjn]⟩
   obtain ⟨oj, hoj⟩ : ∃ o, l.toArray[j]? = some o := ⟨l[j]'(by omega), by simp [show j < l.length by omega]⟩
   have hb1 : b < start m0.length (rs.map Rec.sp) (i + 1) := by
    unfold tch at ht
    rw [sp_get hri] at ht
    simp only [Bool.or_eq_true, beq_iff_eq, Bool.and_eq_true, decide_eq_true_eq] at ht
    rcases ht with ht | ht
    ·exact Nat.lt_of_lt_of_le (chk_at hk hri ht).2.1 (start_mono (by omega))
    ·exact ht.2
   have hcb := tch_old hrj htj (Nat.lt_of_lt_of_le hb1 (start_mono hj))
   have hbit := vis_bit (chk_at hk hrj hcb).1 hj ht
   have := hh.bits hc j oj hoj (hh.closed j oj hoj hjl) i hin hbit
   rw [hun] at this; cases this) (n - (i + 1))
 rw [show i + 1 + (n - (i + 1)) = n by omega] at h2
 rw [h2]
 show (if _ then _ else _) = _
 rw [hset, ht]
 simp
theorem stepF (hc : Free.Chk l.toArray bits n) (hA : AllF P E l bits n Q m0 t0 rs) (hdom0 : ∀ b pl, ρ0 b = some pl → b < m0.length) (hst0 : ∀ x, x < E.n0 → x < m0.length ∧ ρ0 x = E.ρ0 x) (hh : Free.Closed l.toArray n listed) (hi : InvF E l n m0 t0 rs ρ0 listed a w ρ)
  (hr : i ∈ Region.ready .any l.toArray listed) (hin : i < n) {K' : Act → World → Prop} (hK : ∀ a' w' ρ', InvF E l n m0 t0 rs ρ0 (listed.setIfInBounds i true) a' w' ρ' → K' a' w') : wpOp P l.toArray (lift E Q) i K' a w := by
 have hun : listed.getD i false = false := getD_both (mem_ready.1 hr).1
 have hln : n ≤ l.length := by simpa using hc.le
 obtain ⟨_, oi, hoi', hall⟩ := mem_ready.1 hr
 have hoi : l[i]? = some oi := by simpa using hoi'
 obtain ⟨r, hri⟩ : ∃ r, rs[i]? = some r := ⟨rs[i]'(by rw [hA.len]; exact hin), by simp [hA.len, hin]⟩
 obtain ⟨hsw, hnew, hcown⟩ := hA.ob i oi r hoi hri
 have hlenA := mA_len (m0 := m0) (rs := rs) i
 have hset : (listed.setIfInBounds i true).getD i false = true := by
  have : i < listed.size := by rw [hh.size]; simp; omega
  simp [this]
 have hlt : ∀ k, listed.getD k false = true → k < n := fun k hk => by
  rcases Nat.lt_or_ge k n with h | h
  ·exact h
  ·rw [hh.tail k h] at hk; cases hk
 generalize hmi : maskF (vis bits m0.length (own0 m0) (rs.map Rec.sp) i r.nm) (r.c.map (·.1)) 0 (mA m0 rs i) = mi at hsw
 have hmil : mi.length = start m0.length (rs.map Rec.sp) i := by rw [← hmi, maskF_len, hlenA]
 -- a block that the operation sees
 have hsee : ∀ b blk, mi.at b = some blk → b < start m0.length (rs.map Rec.sp) i ∧ ∃ blk0, (cur m0 rs listed b n).1 = some blk0 ∧ (cur m0 rs listed b n).2 ≤ start m0.length (rs.map Rec.sp) i ∧ blk0.cells = blk.cells ∧ (blk0.esz = blk.esz ∧ blk0.obj = blk.obj) ∧
   (blk.own = true → blk0.own = true ∧ r.c.map (·.1) = some b) := fun b blk hb => by
  have hbl : b < start m0.length (rs.map Rec.sp) i := by rw [← hmil]; exact Mem.at_lt hb
  rw [← hmi, maskF_at, Nat.zero_add] at hb
  split at hb
  ·rename_i hv
   obtain ⟨s1, s2⟩ := settled hc hln hA.len hA.chk hh hr hin hri hv hbl
   refine ⟨hbl, ?_⟩
   split at hb
   ·rename_i hcb
    exact ⟨blk, s1.trans hb, s2, rfl, ⟨rfl, rfl⟩, fun h => ⟨h, hcb⟩⟩
   ·cases hm : (mA m0 rs i).at b with
    | none => rw [hm] at hb; cases hb
    | some blk0 =>
     rw [hm] at hb
     simp only [Option.map_some, Option.some.injEq] at hb
     subst hb
     exact ⟨blk0, s1.trans hm, s2, rfl, ⟨rfl, rfl⟩, fun h => by cases h⟩
  ·cases hb
 let Ei : Env := ⟨w, fun x => ∃ b blk pl, mi.at b = some blk ∧ blk.own = true ∧ ρ b = some pl ∧ pl.blk = x, ρ.tr mi.length, mi.length, fun b pl hb => by
  unfold Ren.tr at hb
  split at hb
  ·assumption
  ·cases hb⟩
 have hSt : St Ei (ρ.tr mi.length) mi w := by
  refine ⟨rfl, rfl, ⟨rfl, Nat.le_refl _⟩, Nat.le_refl _, fun _ _ _ => rfl, fun _ _ => rfl, Nat.le_refl _, Ei.hdom, fun b blk hb => ?_, fun b blk pl hb ho hp => .inr ⟨b, blk, pl, hb, ho, Ren.tr_le b pl hp, rfl⟩⟩
  obtain ⟨hbl, blk0, s1, s2, s3, s4, s5⟩ := hsee b blk hb
  obtain ⟨pl, hp, ⟨x, c, ty, fr, g1, gx, g2, g3, g4⟩, g5⟩ := hi.mem b blk0 s1
  refine ⟨pl, by unfold Ren.tr; rw [if_pos (by rw [hmil]; exact hbl)]; exact hp, ⟨x, c, ty, fr, g1, s4.2 ▸ gx.ext (Ren.tr_ext (.refl _) (by rw [hmil]; exact s2)), s4.1 ▸ g2, fun k u hu => ?_, fun ho => g4 (s5 ho).1⟩, fun ho b' blk' pl' hne hb' hp' => ?_⟩
  ·obtain ⟨u', q1, q2⟩ := g3 k u (s3 ▸ hu)
   exact ⟨u', q1, q2.ext (Ren.tr_ext (.refl _) (by rw [hmil]; exact s2))⟩
  ·obtain ⟨_, blk0', s1', _⟩ := hsee b' blk' hb'
   exact g5 (s5 ho).1 b' blk0' pl' hne s1' (Ren.tr_le b' pl' hp')
 have hT : TRel (ρ.tr mi.length) (onlyF (oi.looksAt l.toArray) 0 (tA l rs i t0)) a.tmps := by
  refine ⟨by rw [onlyF_len, tA_len, hi.size], fun d v hd => ?_⟩
  rcases onlyF_get _ _ _ _ _ hd with rfl | ⟨h1, h2⟩
  ·have : d < (onlyF (oi.looksAt l.toArray) 0 (tA l rs i t0)).length := (List.getElem?_eq_some_iff.1 hd).1
   rw [onlyF_len, tA_len, ← hi.size] at this
   exact ⟨a.tmps[d], by simp [this], .jk _⟩
  ·rw [hmil]
   exact looksF (bits := bits) hc hA.len hh hi hr hin hdom0 hoi (by rwa [Nat.zero_add] at h2) h1
 have hE0 : ∀ x, x < E.n0 → (ρ.tr mi.length) x = E.ρ0 x := fun x hx => by
  have := le_start (n0 := m0.length) (sps := rs.map Rec.sp) (j := i)
  unfold Ren.tr
  rw [if_pos (by rw [hmil]; exact Nat.lt_of_lt_of_le (hst0 x hx).1 this), hi.ext x (hst0 x hx).1]
  exact (hst0 x hx).2
 have hEW : ∀ (N0 : Nat) (W0 : World), EW N0 W0 E → EW N0 W0 Ei := fun N0 W0 h => by
  refine ⟨⟨Nat.le_trans h.1.1 hi.wsize, fun x hx => (hi.same x (Nat.lt_of_lt_of_le hx h.1.1) (h.2 x hx)).trans (h.1.2 x hx)⟩, ?_⟩
  rintro x hx ⟨b, blk, pl, hb, ho, hp, rfl⟩
  obtain ⟨hbl, blk0, s1, s2, s3, s4, s5⟩ := hsee b blk hb
  rcases hi.fresh b blk0 pl s1 (s5 ho).1 hp with hf | hf
  ·have := h.1.1; omega
  ·exact h.2 _ hx hf
 have hone := hsw Ei _ a w (lift E Q) K' ⟨hE0, hEW⟩ hi.defers hT hSt fun v' w' ρ' hv hs' => ?_
 ·unfold wpOp
  rw [hoi']
  exact hone
 -- behind the operation
 have hstart1 : start m0.length (rs.map Rec.sp) (i + 1) = start m0.length (rs.map Rec.sp) i + r.news.length := start_succ (sp_get hri)
 have hlen' : (r.mem mi).length = start m0.length (rs.map Rec.sp) (i + 1) := by rw [mem_len, hmil, hstart1]
 have hρ' : ∀ b, b < start m0.length (rs.map Rec.sp) i → ρ' b = ρ b := fun b hb => by
  rw [hs'.ext b (show b < mi.length by rw [hmil]; exact hb)]
  show (ρ.tr mi.length) b = ρ b
  unfold Ren.tr
  rw [if_pos (by rw [hmil]; exact hb)]
 have hhole : ∀ b, start m0.length (rs.map Rec.sp) i ≤ b → b < start m0.length (rs.map Rec.sp) (i + 1) → ρ b = none := fun b h1 h2 => by
  cases hb : ρ b with
  | none => rfl
  | some pl =>
   exfalso
   rcases hi.dom b pl hb with h | ⟨j, hj, h3, h4⟩
   ·exact absurd (Nat.lt_of_lt_of_le h le_start) (Nat.not_lt.2 h1)
   ·rcases Nat.lt_trichotomy j i with h | h | h
    ·have := start_mono (n0 := m0.length) (sps := rs.map Rec.sp) (show j + 1 ≤ i by omega)
     omega
    ·subst h; rw [hun] at hj; cases hj
    ·have := start_mono (n0 := m0.length) (sps := rs.map Rec.sp) (show i + 1 ≤ j by omega)
     omega
 let ρn : Ren := fun b => if start m0.length (rs.map Rec.sp) i ≤ b ∧ b < start m0.length (rs.map Rec.sp) (i + 1) then ρ' b else ρ b
 have hn1 : ∀ b, start m0.length (rs.map Rec.sp) i ≤ b → b < start m0.length (rs.map Rec.sp) (i + 1) → ρn b = ρ' b := fun b h1 h2 => if_pos ⟨h1, h2⟩
 have hn0 : ∀ b, b < start m0.length (rs.map Rec.sp) i → ρn b = ρ b := fun b h => if_neg (by omega)
 have hn01 : ∀ b, b < start m0.length (rs.map Rec.sp) (i + 1) → ρn b = ρ' b := fun b h => by
  rcases Nat.lt_or_ge b (start m0.length (rs.map Rec.sp) i) with h' | h'
  ·rw [hn0 b h', hρ' b h']
  ·exact hn1 b h' h
 have hext : Ext ρ ρn := fun b pl hb => by
  show (if _ then _ else _) = _
  rw [if_neg]
  ·exact hb
  ·rintro ⟨h1, h2⟩
   rw [hhole b h1 h2] at hb
   cases hb
 have hext' : Ext ρ' (ρn.tr (start m0.length (rs.map Rec.sp) (i + 1))) := fun b pl hb => by
  have := hs'.dom b pl hb
  rw [hlen'] at this
  unfold Ren.tr
  rw [if_pos this, hn01 b this]
  exact hb
 have hrem : ∀ b, tch m0.length (rs.map Rec.sp) i b = true → (r.mem mi).at b = (mA m0 rs (i + 1)).at b := fun b ht => by
  rw [mA_succ hri]
  exact mem_same hri hmil (by rw [hmil, hlenA]) ht
 have hcur1 : ∀ b, tch m0.length (rs.map Rec.sp) i b = true → cur m0 rs (listed.setIfInBounds i true) b n = ((mA m0 rs (i + 1)).at b, start m0.length (rs.map Rec.sp) (i + 1)) := fun b ht => settled' hc hln hA.len hA.chk hh hr hin hri ht
 have hcur0 : ∀ b, tch m0.length (rs.map Rec.sp) i b = false → cur m0 rs (listed.setIfInBounds i true) b n = cur m0 rs listed b n := fun b ht => cur_set ht n
 -- what the operation changes or makes is its own
 have hown : ∀ b blk, tch m0.length (rs.map Rec.sp) i b = true → (r.mem mi).at b = some blk → blk.own = true ∧ b < start m0.length (rs.map Rec.sp) (i + 1) := fun b blk ht hb => by
  refine ⟨?_, by rw [← hlen']; exact Mem.at_lt hb⟩
  rw [mem_at] at hb
  split at hb
  ·rename_i hbl
   have hcb := tch_old hri ht (by rw [← hmil]; exact hbl)
   cases hc' : r.c with
   | none => rw [hc'] at hcb; cases hcb
   | some c =>
    obtain ⟨b', x⟩ := c
    rw [hc'] at hcb hb
    simp only [Option.map_some, Option.some.injEq] at hcb
    subst hcb
    simp only [if_true] at hb
    subst hb
    exact hcown b' blk hc'
  ·rw [List.getD_eq_getElem?_getD] at hb
   cases hg : (r.news.map some)[b - mi.length]? with
   | none => rw [hg] at hb; cases hb
   | some x =>
    rw [hg] at hb
    simp only [Option.getD_some] at hb
    subst hb
    rw [List.getElem?_map] at hg
    cases hg' : r.news[b - mi.length]? with
    | none => rw [hg'] at hg; cases hg
    | some y =>
     rw [hg'] at hg
     simp only [Option.map_some, Option.some.injEq] at hg
     subst hg
     exact List.all_eq_true.1 hnew _ (List.mem_of_getElem? hg')
 -- the place of a block of the operation's own is new, or that of the block that it changes
 have hplace : ∀ b blk pl, tch m0.length (rs.map Rec.sp) i b = true → (r.mem mi).at b = some blk → ρ' b = some pl → w.heap.size ≤ pl.blk ∨ ∃ b3 blk3 pl3, tch m0.length (rs.map Rec.sp) i b3 = true ∧ (cur m0 rs listed b3 n).1 = some blk3 ∧ blk3.own = true ∧ ρ b3 = some pl3 ∧ pl3.blk = pl.blk := fun b blk pl ht hb hp => by
  rcases hs'.fresh b blk pl hb (hown b blk ht hb).1 hp with h | ⟨b3, blk3, pl3, h1, h2, h3, h4⟩
  ·exact .inl h
  ·obtain ⟨hbl, blk0, s1, s2, s3, s4, s5⟩ := hsee b3 blk3 h1
   obtain ⟨s6, s7⟩ := s5 h2
   refine .inr ⟨b3, blk0, pl3, ?_, s1, s6, h3, h4⟩
   unfold tch
   rw [sp_get hri]
   simp [Rec.sp, s7]
 -- a block that is not touched lies as it did
 have hfar : ∀ b blk pl, tch m0.length (rs.map Rec.sp) i b = false → (cur m0 rs listed b n).1 = some blk → ρ b = some pl → w'.heap[pl.blk]? = w.heap[pl.blk]? := fun b blk pl ht hb hp => by
  obtain ⟨pl0, hp0, hbr, _⟩ := hi.mem b blk hb
  cases Option.some.inj (hp0.symm.trans hp)
  refine hs'.same _ hbr.lt ?_
  rintro ⟨b3, blk3, pl3, h1, h2, h3, h4⟩
  obtain ⟨hbl, blk0, s1, s2, s3, s4, s5⟩ := hsee b3 blk3 h1
  obtain ⟨s6, s7⟩ := s5 h2
  have hne : b ≠ b3 := fun e => by
   subst e
   unfold tch at ht
   rw [sp_get hri] at ht
   simp [Rec.sp, s7] at ht
  obtain ⟨pl3', hp3', _, g5⟩ := hi.mem b3 blk0 s1
  cases Option.some.inj (hp3'.symm.trans h3)
  exact g5 s6 b blk pl hne hb hp h4.symm
 refine hK _ w' ρn ⟨by rw [Free.put_size]; exact hi.size, by rw [put_defers]; exact hi.defers, hs'.os.trans hi.os, hs'.tape.trans hi.tape, ⟨hs'.output.1.trans hi.output.1, Nat.le_trans hi.output.2 hs'.output.2⟩, Nat.le_trans hi.wsize hs'.size, fun k hk hks => ?_, fun b hb => ?_, fun b pl hb => ?_, fun b blk hb => ?_, fun b blk pl hb ho hp => ?_, fun j o r' d ho hr' hj hd hds => ?_, fun d v hd hv => ?_⟩
 ·rw [hs'.same k (Nat.lt_of_lt_of_le hk hi.wsize), hi.same k hk hks]
  rintro ⟨b3, blk3, pl3, h1, h2, h3, h4⟩
  obtain ⟨_, blk0, s1, _, _, _, s5⟩ := hsee b3 blk3 h1
  rcases hi.fresh b3 blk0 pl3 s1 (s5 h2).1 h3 with hf | hf
  ·omega
  ·exact hks (h4 ▸ hf)
 ·rw [hn0 b (Nat.lt_of_lt_of_le hb le_start)]
  exact hi.ext b hb
 ·by_cases hin' : start m0.length (rs.map Rec.sp) i ≤ b ∧ b < start m0.length (rs.map Rec.sp) (i + 1)
  ·exact .inr ⟨i, hset, hin'⟩
  ·have : ρ b = some pl := by
    have : (if _ then _ else _) = some pl := hb
    rwa [if_neg hin'] at this
   rcases hi.dom b pl this with h | ⟨j, hj, h3⟩
   ·exact .inl h
   ·exact .inr ⟨j, getD_set_true hj, h3⟩
 ·cases ht : tch m0.length (rs.map Rec.sp) i b with
  | true =>
   rw [hcur1 b ht] at hb ⊢
   rw [← hrem b ht] at hb
   obtain ⟨pl, hp, hbr, g5⟩ := hs'.mem b blk hb
   obtain ⟨ho1, hb1⟩ := hown b blk ht hb
   refine ⟨pl, by rw [hn01 b hb1]; exact hp, hbr.ext hext' rfl, fun ho b' blk' pl' hne hb' hp' => ?_⟩
   cases ht' : tch m0.length (rs.map Rec.sp) i b' with
   | true =>
    rw [hcur1 b' ht'] at hb'
    rw [← hrem b' ht'] at hb'
    have hb1' : b' < start m0.length (rs.map Rec.sp) (i + 1) := by rw [← hlen']; exact Mem.at_lt hb'
    rw [hn01 b' hb1'] at hp'
    exact g5 ho b' blk' pl' hne hb' hp'
   | false =>
    rw [hcur0 b' ht'] at hb'
    obtain ⟨pl0, hp0, hbr0, _⟩ := hi.mem b' blk' hb'
    cases Option.some.inj ((hext b' pl0 hp0).symm.trans hp')
    have hlt' := hbr0.lt
    rcases hplace b blk pl ht hb hp with h | ⟨b3, blk3, pl3, k1, k2, k3, k4, k5⟩
    ·omega
    ·rw [← k5]
     obtain ⟨pl4, hp4, _, g6⟩ := hi.mem b3 blk3 k2
     cases Option.some.inj (hp4.symm.trans k4)
     exact g6 k3 b' blk' pl' (fun e => by rw [e, k1] at ht'; cases ht') hb' hp0
  | false =>
   rw [hcur0 b ht] at hb ⊢
   obtain ⟨pl, hp, hbr, g5⟩ := hi.mem b blk hb
   refine ⟨pl, hext b pl hp, hbr.ext (Ren.tr_ext hext (Nat.le_refl _)) (hfar b blk pl ht hb hp), fun ho b' blk' pl' hne hb' hp' => ?_⟩
   cases ht' : tch m0.length (rs.map Rec.sp) i b' with
   | true =>
    rw [hcur1 b' ht'] at hb'
    rw [← hrem b' ht'] at hb'
    have hb1' : b' < start m0.length (rs.map Rec.sp) (i + 1) := by rw [← hlen']; exact Mem.at_lt hb'
    rw [hn01 b' hb1'] at hp'
    have hlt' := hbr.lt
    rcases hplace b' blk' pl' ht' hb' hp' with h | ⟨b3, blk3, pl3, k1, k2, k3, k4, k5⟩
    ·omega
    ·rw [← k5]
     exact g5 ho b3 blk3 pl3 (fun e => by rw [← e, k1] at ht; cases ht) k2 k4
   | false =>
    rw [hcur0 b' ht'] at hb'
    obtain ⟨pl0, hp0, _, _⟩ := hi.mem b' blk' hb'
    cases Option.some.inj ((hext b' pl0 hp0).symm.trans hp')
    exact g5 ho b' blk' pl' hne hb' hp0
 ·cases ht : tch m0.length (rs.map Rec.sp) i b with
  | true =>
   rw [hcur1 b ht] at hb
   rw [← hrem b ht] at hb
   rw [hn01 b (hown b blk ht hb).2] at hp
   rcases hplace b blk pl ht hb hp with h | ⟨b3, blk3, pl3, k1, k2, k3, k4, k5⟩
   ·exact .inl (Nat.le_trans hi.wsize h)
   ·rw [← k5]
    exact hi.fresh b3 blk3 pl3 k2 k3 k4
  | false =>
   rw [hcur0 b ht] at hb
   obtain ⟨pl0, hp0, _, _⟩ := hi.mem b blk hb
   cases Option.some.inj ((hext b pl0 hp0).symm.trans hp)
   exact hi.fresh b blk pl hb ho hp0
 ·by_cases hji : j = i
  ·subst hji
   cases Option.some.inj (ho.symm.trans hoi)
   cases Option.some.inj (hr'.symm.trans hri)
   exact ⟨v', by rw [hd]; exact Free.put_here _ _ _ (by rw [hi.size]; exact hds), hv.ext hext'⟩
  ·rw [getD_set_ne false (Ne.symm hji)] at hj
   have hjn := hlt j hj
   obtain ⟨v1, h1, h2⟩ := hi.wrote j o r' d ho hr' hj hd hds
   exact ⟨v1, by rw [Free.put_far _ _ _ _ (hc.dst i j oi o d hin hjn (Ne.symm hji) hoi' (by simpa using ho) hd).1]; exact h1, h2.ext (Ren.tr_ext hext (Nat.le_refl _))⟩
 ·obtain ⟨v1, h1, h2⟩ := hi.kept d v (fun j o ho hj => hd j o ho (getD_set_true hj)) hv
  exact ⟨v1, by rw [Free.put_far _ _ _ _ (hd i oi hoi hset)]; exact h1, h2⟩
theorem finF (hc : Free.Chk l.toArray bits n) (hA : AllF P E l bits n Q m0 t0 rs) (hst : St E ρ0 m0 E0w) (hi : InvF E l n m0 t0 rs ρ0 listed a w ρ) (hf : ∀ j, j < n → listed.getD j false = true) (hh : Free.Closed l.toArray n listed) :
  wpList P l.toArray (lift E Q) (l.drop n) a w := by
 have hln : n ≤ l.length := by simpa using hc.le
 have hρ : Ext ρ0 ρ := fun b pl hb => by rw [hi.ext b (hst.dom b pl hb)]; exact hb
 have hcu : ∀ b, (cur m0 rs listed b n).1 = (mA m0 rs n).at b := fun b => (cur_upto (i := n) (by rw [hA.len]; exact Nat.le_refl _) (fun j hj _ => hf j hj) n (Nat.le_refl _)).1
 refine hA.fin ρ a w hi.defers ⟨by rw [tA_len, hi.size], fun d v hd => ?_⟩ ⟨hi.os, hi.tape, hi.output, hi.wsize, hi.same, fun b hb => ?_, ?_, fun b pl hb => ?_, fun b blk hb => ?_, fun b blk pl hb => ?_⟩
 ·have hds : d < t0.length := by
   have := (List.getElem?_eq_some_iff.1 hd).1
   rwa [tA_len] at this
  by_cases hx : ∃ j oj, j < n ∧ l[j]? = some oj ∧ oj.dst = some d
  ·obtain ⟨j, oj, hj, hoj, hdj⟩ := hx
   obtain ⟨r, hrj⟩ : ∃ r, rs[j]? = some r := ⟨rs[j]'(by rw [hA.len]; exact hj), by simp [hA.len, hj]⟩
   rw [tA_wrote hoj hrj hdj hds n hj fun k ok hk hkj hok => (hc.dst k j ok oj d hk hj hkj (by simpa using hok) (by simpa using hoj) hdj).1] at hd
   cases Option.some.inj hd
   obtain ⟨v', h1, h2⟩ := hi.wrote j oj r d hoj hrj (hf j hj) hdj hds
   exact ⟨v', h1, h2.ext Ren.tr_le⟩
  ·rw [tA_kept n (fun k ok hk hok hkd => hx ⟨k, ok, hk, hok, hkd⟩)] at hd
   obtain ⟨v', h1, h2⟩ := hi.kept d v (fun k ok hok hkl hkd => by
    have hkn : k < n := by
     rcases Nat.lt_or_ge k n with h | h
     ·exact h
     ·rw [hh.tail k h] at hkl; cases hkl
    exact hx ⟨k, ok, hkn, hok, hkd⟩) hd
   exact ⟨v', h1, h2.ext hρ⟩
 ·rw [hi.ext b (Nat.lt_of_lt_of_le hb hst.len)]
  exact hst.ext b hb
 ·rw [mA_len]
  exact Nat.le_trans hst.len le_start
 ·rw [mA_len]
  rcases hi.dom b pl hb with h | ⟨j, hj, h1, h2⟩
  ·exact Nat.lt_of_lt_of_le h le_start
  ·have hjn : j < n := by
    rcases Nat.lt_or_ge j n with h | h
    ·exact h
    ·rw [hh.tail j h] at hj; cases hj
   exact Nat.lt_of_lt_of_le h2 (start_mono (by omega))
 ·obtain ⟨pl, hp, hbr, g⟩ := hi.mem b blk ((hcu b).trans hb)
  exact ⟨pl, hp, hbr.ext Ren.tr_le rfl, fun ho b' blk' pl' hne hb' => g ho b' blk' pl' hne ((hcu b').trans hb')⟩
 ·exact hi.fresh b blk pl ((hcu b).trans hb)
theorem anyF (hc : Free.Chk l.toArray bits n) (hA : AllF P E l bits n Q m0 t0 rs) (hst : St E ρ0 m0 E0w) : ∀ (f : Nat) (listed : Array Bool) (a : Act) (w : World) (ρ : Ren), Free.Closed l.toArray n listed → InvF E l n m0 t0 rs ρ0 listed a w ρ →
  Free.unl listed n = f → wpAny P .any l.toArray (lift E Q) (f + (l.toArray.size - n)) listed a w
 | 0, listed, a, w, ρ, hh, hi, hf => by
  have hall := Free.unl_zero n hf
  have hl := finF hc hA hst hi hall hh
  have := wpAny_of_seq (P := P) (ops := l.toArray) (md := .any) (Q' := lift E Q) (l.drop n) n listed a w (fun j => by simp [List.getElem?_drop]) (by rw [hh.full hc.le hall]; simpa using hc.seq) (by simpa using hl)
  simpa using this
 | f + 1, listed, a, w, ρ, hh, hi, hf => by
  rw [show f + 1 + (l.toArray.size - n) = (f + (l.toArray.size - n)) + 1 by omega]
  obtain ⟨j, hj, hjl, hjk⟩ := Free.unl_pos n (by rw [hf]; omega)
  have hjs : j < l.toArray.size := Nat.lt_of_lt_of_le hj hc.le
  have hready : j ∈ Region.ready .any l.toArray listed := mem_ready.2 ⟨getD_in (by rw [hh.size]; exact hjs) hjl, l.toArray[j], by simp [hjs], fun e he hb => hjk _ (hc.back j _ (by simp [hjs]) e he hb)⟩
  refine ⟨(fun h0 => by rw [h0] at hready; cases hready), fun i hi' => ?_⟩
  have hin : i < n := by
   rcases Nat.lt_or_ge i n with h' | h'
   ·exact h'
   ·obtain ⟨_, oi, hoi, hall⟩ := mem_ready.1 hi'
    have := hh.bits hc i oi hoi hall j hj (hc.tail i oi j hoi h' hj)
    rw [hjl] at this; cases this
  have hun : listed.getD i false = false := getD_both (mem_ready.1 hi').1
  refine stepF hc hA hst.dom (fun x hx => ⟨Nat.lt_of_lt_of_le hx hst.len, hst.ext x hx⟩) hh hi hi' hin fun a' w' ρ' h' => anyF hc hA hst f _ a' w' ρ' (hh.set hi' hin) h' ?_
  have := Free.unl_set hun (by rw [hh.size]; exact Nat.lt_of_lt_of_le hin hc.le) n
  rw [if_pos hin, hf] at this
  omega
theorem splitF : ∀ (ops : List Oper) (rs' pre : List Rec) (i : Nat), pre.length = i → rs = pre ++ rs' → (∀ j : Nat, ops[j]? = (l.take n)[i + j]?) → WalkF P E l bits n Q m0 ops rs' (tA l rs i t0) (mA m0 rs i) (pre.map Rec.sp) →
  rs'.length = ops.length ∧ (∀ (j : Nat) (o : Oper) (r : Rec), i ≤ j → (l.take n)[j]? = some o → rs[j]? = some r →
   SW P E l.toArray o (onlyF (o.looksAt l.toArray) 0 (tA l rs j t0)) (maskF (vis bits m0.length (own0 m0) (rs.map Rec.sp) j r.nm) (r.c.map (·.1)) 0 (mA m0 rs j)) r.v (r.mem (maskF (vis bits m0.length (own0 m0) (rs.map Rec.sp) j r.nm) (r.c.map (·.1)) 0 (mA m0 rs j))) ∧
    (r.news.all (·.own) = true ∧ ∀ b x, r.c = some (b, some x) → x.own = true)) ∧
  chkAll bits m0.length (own0 m0) (rs.map Rec.sp) = true ∧ AL P E l.toArray (l.drop n) (tA l rs (i + ops.length) t0) (mA m0 rs (i + ops.length)) Q
 | [], [], pre, i, hp, hr, ho, h => by
  obtain ⟨h1, h2⟩ := h
  simp only [List.append_nil] at hr
  subst hr
  exact ⟨rfl, fun j o r hij hoj _ => by
   have := ho (j - i)
   rw [show i + (j - i) = j by omega, hoj] at this
   simp at this, h1, h2⟩
 | o :: ops, r :: rs', pre, i, hp, hr, ho, h => by
  obtain ⟨h1, h2⟩ := h
  have hoi : (l.take n)[i]? = some o := by have := ho 0; simpa using this.symm
  have hoi' : l[i]? = some o := by
   rw [List.getElem?_take] at hoi
   split at hoi
   ·exact hoi
   ·cases hoi
  have hri : rs[i]? = some r := by subst hr; subst hp; simp
  have e1 : tA l rs (i + 1) t0 = (tA l rs i t0).put o.dst r.v := by
   show (match l[i]?, rs[i]? with | some o, some r => _ | _, _ => _) = _
   rw [hoi', hri]
  have e2 : mA m0 rs (i + 1) = r.mem (mA m0 rs i) := mA_succ hri
  obtain ⟨g0, g1, g2, g3⟩ := splitF ops rs' (pre ++ [r]) (i + 1) (by simp [hp]) (by simp [hr]) (fun j => by
   have := ho (j + 1)
   rw [show i + (j + 1) = i + 1 + j by omega] at this
   simpa using this) (by rw [e1, e2]; simpa using h2)
  refine ⟨by simp [g0], fun j o' r' hij hoj hrj => ?_, g2, by simpa [Nat.add_assoc, Nat.add_comm 1] using g3⟩
  rcases Nat.eq_or_lt_of_le hij with rfl | hlt
  ·cases Option.some.inj (hoj.symm.trans hoi)
   cases Option.some.inj (hrj.symm.trans hri)
   have : vis bits m0.length (own0 m0) (rs.map Rec.sp) i r.nm = vis bits m0.length (own0 m0) (pre.map Rec.sp) (pre.map Rec.sp).length r.nm := by
    funext b
    have : pre.map Rec.sp = (rs.map Rec.sp).take i := by subst hr; subst hp; simp
    rw [← vis_take, ← this]
    simp [hp]
   rw [this]
   exact h1
  ·exact g1 j o' r' hlt hoj hrj
 | [], _ :: _, _, _, _, _, _, h => h.elim
 | _ :: _, [], _, _, _, _, _, h => h.elim
theorem AW.drawF {t : T} {m : Mem} {id : Nat} (n : Nat) (bits : Array Nat) (hm : P.follows .mixedOrders = true) (hc : Free.chk l.toArray bits n = true) (h : AF P E l bits n Q m (l.take n) t m []) : AW P E (.region id l.toArray true) t m Q := by
 intro ρ a w hd ht hs
 obtain ⟨rs, h⟩ := h
 have hc' := Free.Chk.of hc
 have hn : n ≤ l.length := by simpa using hc'.le
 obtain ⟨g0, g1, g2, g3⟩ := splitF (rs := rs) (t0 := t) (l.take n) rs [] 0 rfl rfl (fun j => by simp) h
 have hlen : rs.length = n := by rw [g0]; simp; omega
 have hA : AllF P E l bits n Q m t rs := ⟨hlen, fun j o r ho hr => by
  have hj : j < n := by
   rw [← hlen]
   exact (List.getElem?_eq_some_iff.1 hr).1
  exact g1 j o r (Nat.zero_le _) (by rw [List.getElem?_take_of_lt hj]; exact ho) hr, g2, by simpa [Nat.min_eq_left hn] using g3⟩
 have hext : Ext ρ (ρ.tr m.length) := fun b pl hb => by
  unfold Ren.tr
  rw [if_pos (hs.dom b pl hb)]
  exact hb
 refine wp_region_any hm ?_
 have := anyF hc' hA hs n (Array.replicate l.toArray.size false) a { w with drawn := w.drawn + 1 } ρ
  ⟨by simp, fun j oj _ hl => (by rw [getD_replicate_false] at hl; cases hl), fun t _ => getD_replicate_false _ _⟩ ?_ (Free.unl_new _ n)
 ·rw [show n + (l.toArray.size - n) = l.toArray.size by simp; omega] at this
  exact this
 ·have hcu : ∀ b d, cur m rs (Array.replicate l.toArray.size false) b d = (m.at b, m.length) := fun b d => by
   have := cur_past (b := b) (m0 := m) (rs := rs) (listed := Array.replicate l.toArray.size false) (i := 0) (fun j _ hj => by rw [getD_replicate_false] at hj; cases hj) d
   rw [Nat.zero_add] at this
   exact this
  refine ⟨ht.1.symm, hd, hs.os, hs.tape, ⟨hs.output.1, Nat.le_trans hs.output.2 (Nat.le_succ _)⟩, hs.size, hs.same, fun _ _ => rfl, fun b pl hb => .inl (hs.dom b pl hb), fun b blk hb => ?_, fun b blk pl hb => ?_, fun j o r d _ _ hl => (by rw [getD_replicate_false] at hl; cases hl), fun d v _ hv => ht.2 d v hv⟩
  ·rw [hcu] at hb ⊢
   obtain ⟨pl, hp, hbr, g⟩ := hs.mem b blk hb
   exact ⟨pl, hp, hbr.ext hext rfl, fun ho b' blk' pl' hne hb' => by rw [hcu] at hb'; exact g ho b' blk' pl' hne hb'⟩
  ·rw [hcu] at hb
   exact hs.fresh b blk pl hb
end main
section rules
variable {P : Program} {E : Env} {l : List Oper} {bits : Array Nat} {n : Nat} {Q : Post} {m0 : Mem} {o : Oper} {ops : List Oper} {t : T} {m : Mem} {sps : List Sp} {v : Value}
theorem AF.nil (h : AL P E l.toArray (l.drop n) t m Q) (hk : chkAll bits m0.length (own0 m0) sps = true) : AF P E l bits n Q m0 [] t m sps := ⟨[], hk, h⟩
theorem AF.q (nm : Nat) (h : SW P E l.toArray o (onlyF (o.looksAt l.toArray) 0 t) (maskF (vis bits m0.length (own0 m0) sps sps.length nm) none 0 m) v (maskF (vis bits m0.length (own0 m0) sps sps.length nm) none 0 m))
  (hr : AF P E l bits n Q m0 ops (t.put o.dst v) m (sps ++ [(none, 0, nm)])) : AF P E l bits n Q m0 (o :: ops) t m sps := by
 obtain ⟨rs, hr⟩ := hr
 exact ⟨⟨v, none, [], nm⟩ :: rs, ⟨by simpa [Rec.mem] using h, rfl, fun _ _ h => by cases h⟩, by simpa [Rec.mem, Rec.sp] using hr⟩
theorem AF.ql {dst : Option Tmp} {ty rt : TypeId} {x : Operand} {pos : String} {after : Array Edge} {guard : Option (Nat × Bool)} {b' o' : Nat} (hx : (onlyF (Oper.looksAt l.toArray ⟨dst, .load ty x, rt, pos, after, guard⟩) 0 t).ev x = .pointer (some ⟨b', o', none⟩))
  (h : SW P E l.toArray ⟨dst, .load ty x, rt, pos, after, guard⟩ (onlyF (Oper.looksAt l.toArray ⟨dst, .load ty x, rt, pos, after, guard⟩) 0 t) (maskF (vis bits m0.length (own0 m0) sps sps.length (b' + 3)) none 0 m) v (maskF (vis bits m0.length (own0 m0) sps sps.length (b' + 3)) none 0 m))
  (hr : AF P E l bits n Q m0 ops (t.put dst v) m (sps ++ [(none, 0, b' + 3)])) : AF P E l bits n Q m0 (⟨dst, .load ty x, rt, pos, after, guard⟩ :: ops) t m sps := AF.q (b' + 3) h hr
theorem AF.n1 (nm : Nat) {x : Blk} (h : SW P E l.toArray o (onlyF (o.looksAt l.toArray) 0 t) (maskF (vis bits m0.length (own0 m0) sps sps.length nm) none 0 m) v (maskF (vis bits m0.length (own0 m0) sps sps.length nm) none 0 m ++ [some x])) (hx : x.own = true)
  (hr : AF P E l bits n Q m0 ops (t.put o.dst v) (m ++ [some x]) (sps ++ [(none, 1, nm)])) : AF P E l bits n Q m0 (o :: ops) t m sps := by
 obtain ⟨rs, hr⟩ := hr
 exact ⟨⟨v, none, [x], nm⟩ :: rs, ⟨by simpa [Rec.mem] using h, by simpa using hx, fun _ _ h => by cases h⟩, by simpa [Rec.mem, Rec.sp] using hr⟩
theorem AF.set (nm : Nat) {b : Nat} {x : Blk} (h : SW P E l.toArray o (onlyF (o.looksAt l.toArray) 0 t) (maskF (vis bits m0.length (own0 m0) sps sps.length nm) (some b) 0 m) v ((maskF (vis bits m0.length (own0 m0) sps sps.length nm) (some b) 0 m).set b (some x))) (hx : x.own = true)
  (hr : AF P E l bits n Q m0 ops (t.put o.dst v) (m.set b (some x)) (sps ++ [(some b, 0, nm)])) : AF P E l bits n Q m0 (o :: ops) t m sps := by
 obtain ⟨rs, hr⟩ := hr
 exact ⟨⟨v, some (b, some x), [], nm⟩ :: rs, ⟨by simpa [Rec.mem] using h, rfl, fun _ _ h => by cases h; exact hx⟩, by simpa [Rec.mem, Rec.sp] using hr⟩
theorem AF.app (nm : Nat) {b : Nat} {y : Blk} (h : SW P E l.toArray o (onlyF (o.looksAt l.toArray) 0 t) (maskF (vis bits m0.length (own0 m0) sps sps.length nm) (some b) 0 m) v ((maskF (vis bits m0.length (own0 m0) sps sps.length nm) (some b) 0 m).set b none ++ [some y])) (hy : y.own = true)
  (hr : AF P E l bits n Q m0 ops (t.put o.dst v) (m.set b none ++ [some y]) (sps ++ [(some b, 1, nm)])) : AF P E l bits n Q m0 (o :: ops) t m sps := by
 obtain ⟨rs, hr⟩ := hr
 exact ⟨⟨v, some (b, none), [y], nm⟩ :: rs, ⟨by simpa [Rec.mem] using h, by simpa using hy, fun _ _ h => by cases h⟩, by simpa [Rec.mem, Rec.sp] using hr⟩
theorem AF.sl {dst : Option Tmp} {ty rt : TypeId} {x y : Operand} {pos : String} {after : Array Edge} {guard : Option (Nat × Bool)} {b' o' : Nat} {z : Blk} (hx : (onlyF (Oper.looksAt l.toArray ⟨dst, .store ty x y, rt, pos, after, guard⟩) 0 t).ev x = .pointer (some ⟨b', o', none⟩))
  (h : SW P E l.toArray ⟨dst, .store ty x y, rt, pos, after, guard⟩ (onlyF (Oper.looksAt l.toArray ⟨dst, .store ty x y, rt, pos, after, guard⟩) 0 t) (maskF (vis bits m0.length (own0 m0) sps sps.length (b' + 3)) (some b') 0 m) v ((maskF (vis bits m0.length (own0 m0) sps sps.length (b' + 3)) (some b') 0 m).set b' (some z))) (hz : z.own = true)
  (hr : AF P E l bits n Q m0 ops (t.put dst v) (m.set b' (some z)) (sps ++ [(some b', 0, b' + 3)])) : AF P E l bits n Q m0 (⟨dst, .store ty x y, rt, pos, after, guard⟩ :: ops) t m sps := AF.set (b' + 3) h hz hr
theorem AF.al {dst : Option Tmp} {st rt : TypeId} {s x : Operand} {pos : String} {after : Array Edge} {guard : Option (Nat × Bool)} {b' k' c' : Nat} {z : Blk} (hx : (onlyF (Oper.looksAt l.toArray ⟨dst, .call ⟨.builtin .append, #[s, x], #[st, st]⟩, rt, pos, after, guard⟩) 0 t).ev s = .slice (some ⟨b', 0, none⟩) k' c')
  (h : SW P E l.toArray ⟨dst, .call ⟨.builtin .append, #[s, x], #[st, st]⟩, rt, pos, after, guard⟩ (onlyF (Oper.looksAt l.toArray ⟨dst, .call ⟨.builtin .append, #[s, x], #[st, st]⟩, rt, pos, after, guard⟩) 0 t) (maskF (vis bits m0.length (own0 m0) sps sps.length (b' + 3)) (some b') 0 m) v ((maskF (vis bits m0.length (own0 m0) sps sps.length (b' + 3)) (some b') 0 m).set b' none ++ [some z])) (hz : z.own = true)
  (hr : AF P E l bits n Q m0 ops (t.put dst v) (m.set b' none ++ [some z]) (sps ++ [(some b', 1, b' + 3)])) : AF P E l bits n Q m0 (⟨dst, .call ⟨.builtin .append, #[s, x], #[st, st]⟩, rt, pos, after, guard⟩ :: ops) t m sps := AF.app (b' + 3) h hz hr
theorem AF.gcase {d : Nat} {want c : Bool} (hg : gdt l.toArray o = some (d, want)) (hc : t.getD d undef = .bool c) (h1 : c = want → AF P E l bits n Q m0 (o :: ops) t m sps) (h2 : c = !want → AF P E l bits n Q m0 (o :: ops) t m sps) : AF P E l bits n Q m0 (o :: ops) t m sps := by
 cases c <;> cases want
 ·exact h1 rfl
 ·exact h2 rfl
 ·exact h2 rfl
 ·exact h1 rfl
end rules
end Ab
end Go
end
