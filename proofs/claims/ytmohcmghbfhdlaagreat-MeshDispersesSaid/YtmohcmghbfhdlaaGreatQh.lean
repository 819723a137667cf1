/- The small memory: maps that are never struck: lists of pairs, in the order in which the keys came. -/
import Derived.Test.YtmohcmghbfhdlaaGreatQg
import Derived.Test.YtmohcmghbfhdlaaGreatQd
import Derived.WideKeyPair
import Derived.Test.YtmohcmghbfhdlaaGreatQf
section
set_option linter.unusedSimpArgs false
set_option linter.unusedVariables false
namespace Go
open Go.RowKit
namespace Ab
section
variable {κ : Type} (enc : κ → Value)
def mpE (l : List (κ × Value)) : Array MapEntry := (l.zipIdx.map fun p => (⟨enc p.1.1, p.1.2, p.2⟩ : MapEntry)).toArray
def mpL (l : List (κ × Value)) : Blk := mpB (mpE enc l) l.length
theorem mpE_size (l : List (κ × Value)) : (mpE enc l).size = l.length := by simp [mpE]
theorem mpE_get (l : List (κ × Value)) (j : Nat) : (mpE enc l).toList[j]? = (l[j]?).map fun p => (⟨enc p.1, p.2, j⟩ : MapEntry) := by
 simp only [mpE, List.toList_toArray, List.getElem?_map, List.getElem?_zipIdx, Nat.zero_add, Option.map_map]
 rfl
theorem mpE_mem {l : List (κ × Value)} {e : MapEntry} (h : e ∈ (mpE enc l).toList) : ∃ j p, l[j]? = some p ∧ e = ⟨enc p.1, p.2, j⟩ := by
 obtain ⟨j, hj⟩ := List.mem_iff_getElem?.1 h
 rw [mpE_get] at hj
 cases hl : l[j]? with
 | none => rw [hl] at hj; cases hj
 | some p => rw [hl] at hj; cases hj; exact ⟨j, p, hl, rfl⟩
theorem mpE_snoc (l : List (κ × Value)) (k : κ) (v : Value) : (mpE enc l).push ⟨enc k, v, l.length⟩ = mpE enc (l ++ [(k, v)]) := by
 apply Array.ext'
 simp [mpE, List.zipIdx_append]
theorem mpE_set (l : List (κ × Value)) (j : Nat) (k : κ) (v : Value) : (mpE enc l).modify j (fun e => { e with key := enc k, val := v }) = mpE enc (l.set j (k, v)) := by
 apply Array.ext_getElem?
 intro i
 rw [Array.getElem?_modify]
 have g1 := mpE_get enc l i
 have g2 := mpE_get enc (l.set j (k, v)) i
 rw [Array.getElem?_toList] at g1 g2
 rw [g1, g2, List.getElem?_set]
 by_cases hj : j = i
 ·subst hj
  rw [if_pos rfl, if_pos rfl]
  by_cases hl : j < l.length
  ·rw [if_pos hl, List.getElem?_eq_getElem hl]; rfl
  ·rw [if_neg hl, List.getElem?_eq_none (by omega)]; rfl
 ·rw [if_neg hj, if_neg hj]
structure KEnc (P : Program) (kt : TypeId) (ok : κ → Prop) : Prop where
 isk : ∃ q, MKey P kt q ∧ ∀ k, ok k → q (enc k)
 inj : ∀ a b, enc a = enc b → a = b
 fl : ∀ k, flat (enc k) = true
 fl1 : ∀ k, flat1 (enc k) = true
end
section
variable {κ : Type} {enc : κ → Value} {ok : κ → Prop} {P : Program} {t : T} {m : Mem} {dst : Option Tmp} {ty rt kt et : TypeId} {pos : String} {after : Array Edge} {guard : Option (Nat × Bool)} {x y z : Operand} {b : Nat} {l : List (κ × Value)} {k : κ} {v : Value}
theorem OQ.mlookS {cs : List Value} {own : Bool} {ez : Nat} (K : KEnc enc P kt ok) (hk0 : ok k) (hl0 : ∀ p ∈ l, ok p.1) (hx : t.ev x = .map (some b)) (hy : t.ev y = enc k) (hu : P.underlying ty = some (.map kt et)) (hb : m.at b = some (@Blk.mk cs own ez ⟨some (.map (mpE enc l) l.length)⟩)) (hn : (l.map (·.1)).Nodup) (hm : (k, v) ∈ l) (hvf : flat1 v = true) :
  OQ P ⟨dst, .lookup ty x y true, rt, pos, after, guard⟩ t m (.tuple #[v, .bool true]) ∧ OQ P ⟨dst, .lookup ty x y false, rt, pos, after, guard⟩ t m v := by
 obtain ⟨q, Kq, hq⟩ := K.isk
 obtain ⟨j, hj⟩ := List.mem_iff_getElem?.1 hm
 refine OQ.lookS Kq hx hy hu hb (hq k hk0) (fun e he => ?_) (K.fl k) ⟨⟨enc k, v, j⟩, List.mem_iff_getElem?.2 ⟨j, by rw [mpE_get, hj]; rfl⟩, rfl⟩ (fun e he hk => ?_) hvf
 ·obtain ⟨i, p, hpm, rfl⟩ := mpE_mem enc he
  exact hq p.1 (hl0 p (List.mem_of_getElem? hpm))
 ·obtain ⟨i, p, hp, rfl⟩ := mpE_mem enc he
  have hpk : p.1 = k := K.inj _ _ hk
  obtain rfl : i = j := by
   have hi' : (l.map (·.1))[i]? = some k := by rw [List.getElem?_map, hp, Option.map_some, hpk]
   have hj' : (l.map (·.1))[j]? = some k := by rw [List.getElem?_map, hj]; rfl
   exact (List.getElem?_inj (List.getElem?_eq_some_iff.1 hi').1 hn).1 (hi'.trans hj'.symm)
  rw [hp] at hj
  cases hj
  rfl
theorem OQ.mlookN {cs : List Value} {own : Bool} {ez : Nat} (K : KEnc enc P kt ok) (hk0 : ok k) (hl0 : ∀ p ∈ l, ok p.1) (hx : t.ev x = .map (some b)) (hy : t.ev y = enc k) (hu : P.underlying ty = some (.map kt et)) (hb : m.at b = some (@Blk.mk cs own ez ⟨some (.map (mpE enc l) l.length)⟩)) (hm : k ∉ l.map (·.1)) (hz : ∀ w, (zeroValue et).run P w = .ok v w) (hvf : flat1 v = true) :
  OQ P ⟨dst, .lookup ty x y true, rt, pos, after, guard⟩ t m (.tuple #[v, .bool false]) ∧ OQ P ⟨dst, .lookup ty x y false, rt, pos, after, guard⟩ t m v := by
 obtain ⟨q, Kq, hq⟩ := K.isk
 refine OQ.lookN Kq hx hy hu hb (hq k hk0) (fun e he => ?_) (K.fl k) (fun e he hk => ?_) hz hvf
 ·obtain ⟨i, p, hpm, rfl⟩ := mpE_mem enc he
  exact hq p.1 (hl0 p (List.mem_of_getElem? hpm))
 ·obtain ⟨i, p, hp, rfl⟩ := mpE_mem enc he
  exact hm (List.mem_map.2 ⟨p, List.mem_of_getElem? hp, K.inj _ _ hk⟩)
theorem OQ.mlen {xt : TypeId} {cs : List Value} {own : Bool} {ez : Nat} (hx : t.ev x = .map (some b)) (hu : P.underlying xt = some (.map kt et)) (hb : m.at b = some (@Blk.mk cs own ez ⟨some (.map (mpE enc l) l.length)⟩)) : OQ P ⟨dst, .call ⟨.builtin .len, #[x], #[xt]⟩, rt, pos, after, guard⟩ t m (.int .i64 l.length) := by
 have := OQ.lenMap (dst := dst) (rt := rt) (pos := pos) (after := after) (guard := guard) hx hu hb
 rwa [mpE_size] at this
theorem OW.mupdN (K : KEnc enc P kt ok) (hk0 : ok k) (hl0 : ∀ p ∈ l, ok p.1) (hx : t.ev x = .map (some b)) (hy : t.ev y = enc k) (hz : t.ev z = v) (hu : P.underlying ty = some (.map kt et)) (hb : m.at b = some (mpL enc l)) (hm : k ∉ l.map (·.1)) (hvf : flat v = true) :
  OW P ⟨dst, .mapUpdate ty x y z, rt, pos, after, guard⟩ t m undef (m.set b (some (mpL enc (l ++ [(k, v)])))) := by
 obtain ⟨q, Kq, hq⟩ := K.isk
 have := OW.updN (dst := dst) (rt := rt) (pos := pos) (after := after) (guard := guard) Kq hx hy hz hu hb (hq k hk0) (fun e he => by obtain ⟨i, p, hpm, rfl⟩ := mpE_mem enc he; exact hq p.1 (hl0 p (List.mem_of_getElem? hpm))) (K.fl k) hvf
  (fun e he hk => by obtain ⟨i, p, hp, rfl⟩ := mpE_mem enc he; exact hm (List.mem_map.2 ⟨p, List.mem_of_getElem? hp, K.inj _ _ hk⟩))
 rw [mpE_snoc] at this
 have e : l.length + 1 = (l ++ [(k, v)]).length := by simp
 rw [e] at this
 exact this
theorem OW.mupdS (j : Nat) {v0 : Value} (K : KEnc enc P kt ok) (hk0 : ok k) (hl0 : ∀ p ∈ l, ok p.1) (hx : t.ev x = .map (some b)) (hy : t.ev y = enc k) (hz : t.ev z = v) (hu : P.underlying ty = some (.map kt et)) (hb : m.at b = some (mpL enc l)) (hn : (l.map (·.1)).Nodup) (hj : l[j]? = some (k, v0)) (hvf : flat v = true) :
  OW P ⟨dst, .mapUpdate ty x y z, rt, pos, after, guard⟩ t m undef (m.set b (some (mpL enc (l.set j (k, v))))) := by
 obtain ⟨q, Kq, hq⟩ := K.isk
 have := OW.updS (dst := dst) (rt := rt) (pos := pos) (after := after) (guard := guard) j Kq hx hy hz hu hb (hq k hk0) (fun e he => by obtain ⟨i, p, hpm, rfl⟩ := mpE_mem enc he; exact hq p.1 (hl0 p (List.mem_of_getElem? hpm))) (K.fl k) hvf
  ⟨⟨enc k, v0, j⟩, List.mem_iff_getElem?.2 ⟨j, by rw [mpE_get, hj]; rfl⟩, rfl⟩
  (fun i e he hk => by
   rw [mpE_get] at he
   cases hp : l[i]? with
   | none => rw [hp] at he; cases he
   | some p =>
    rw [hp] at he
    cases he
    have hpk : p.1 = k := K.inj _ _ hk
    have hi' : (l.map (·.1))[i]? = some k := by rw [List.getElem?_map, hp, Option.map_some, hpk]
    have hj' : (l.map (·.1))[j]? = some k := by rw [List.getElem?_map, hj]; rfl
    exact (List.getElem?_inj (List.getElem?_eq_some_iff.1 hi').1 hn).1 (hi'.trans hj'.symm))
 rw [mpE_set] at this
 have e : l.length = (l.set j (k, v)).length := by simp
 rw [e] at this
 exact this
end
abbrev itL (b n : Nat) (seen : List Nat) : Blk := itB b n seen.toArray n
section
variable {κ : Type} {enc : κ → Value} {ok : κ → Prop} {P : Program} {E : Env} {ops : Array Oper} {rest : List Oper} {Q : Post} {t : T} {m : Mem} {dst : Option Tmp} {ty rt kt et : TypeId} {pos : String} {after : Array Edge} {guard : Option (Nat × Bool)} {x : Operand} {b : Nat} {l : List (κ × Value)}
theorem AL.mnext {bi : Nat} {seen : List Nat} (K : KEnc enc P kt ok) (hx : t.ev x = .pointer (some ⟨bi, 0, none⟩)) (hi : m.at bi = some (itL b l.length seen)) (hb : m.at b = some (mpL enc l)) (hf : ∀ p ∈ l, flat1 p.2 = true)
  (h0 : (∀ j, j < l.length → j ∈ seen) → AL P E ops rest (t.put dst (.tuple #[.bool false])) m Q)
  (h1 : ∀ j k v, l[j]? = some (k, v) → j ∉ seen → AL P E ops rest (t.put dst (.tuple #[.bool true, enc k, v])) (m.set bi (some (itL b l.length (seen ++ [j])))) Q) :
  AL P E ops (⟨dst, .next x false, rt, pos, after, none⟩ :: rest) t m Q := by
 refine AL.next hx hi hb (fun e he => ?_) (Nat.le_refl _) (fun e he => ?_) (fun hz => h0 fun j hj => ?_) (fun e he hs => ?_)
 ·obtain ⟨j, p, hp, rfl⟩ := mpE_mem enc he
  exact (List.getElem?_eq_some_iff.1 hp).1
 ·obtain ⟨j, p, hp, rfl⟩ := mpE_mem enc he
  exact ⟨K.fl1 _, hf p (List.mem_of_getElem? hp)⟩
 ·have hg : (⟨enc l[j].1, l[j].2, j⟩ : MapEntry) ∈ (mpE enc l).toList := List.mem_iff_getElem?.2 ⟨j, by rw [mpE_get, List.getElem?_eq_getElem hj]; rfl⟩
  by_cases hc : j ∈ seen
  ·exact hc
  ·have : (⟨enc l[j].1, l[j].2, j⟩ : MapEntry) ∈ (leftOf (mpE enc l) seen.toArray).toList := by
    unfold leftOf
    simp only [Array.toList_filter, List.mem_filter]
    exact ⟨hg, by simpa using hc⟩
   have hz' : (leftOf (mpE enc l) seen.toArray).toList = [] := List.eq_nil_of_length_eq_zero (by simpa using hz)
   rw [hz'] at this
   exact absurd this (by simp)
 ·obtain ⟨j, p, hp, rfl⟩ := mpE_mem enc he
  have := h1 j p.1 p.2 hp (by simpa using hs)
  show AL P E ops rest _ (m.set bi (some (itB b l.length (seen.toArray.push j) l.length))) Q
  rw [show seen.toArray.push j = (seen ++ [j]).toArray by simp]
  exact this
end
section
variable {κ : Type} {enc : κ → Value} {ok : κ → Prop} {P : Program} {t : T} {m : Mem} {dst : Option Tmp} {ty rt kt et : TypeId} {pos : String} {after : Array Edge} {guard : Option (Nat × Bool)} {x y z : Operand} {b : Nat}
theorem OQ.mentry {bi j : Nat} {seen : List Nat} {l : List (κ × Value)} {k : κ} {v : Value} (hx : t.ev x = .pointer (some ⟨bi, 0, none⟩)) (hi : m.at bi = some (itL b l.length (seen ++ [j]))) (hb : m.at b = some (mpL enc l)) (hj : l[j]? = some (k, v)) (hf1 : flat1 (enc k) = true) (hf2 : flat1 v = true) :
  OQ P ⟨dst, .entry x, rt, pos, after, guard⟩ t m (.tuple #[enc k, v]) := by
 intro ρ a w ht hm
 obtain ⟨pl, hp, he⟩ := (hx ▸ ht.ev x).ptr_inv
 obtain ⟨pl', hp', hbr, _⟩ := hm bi _ hi
 cases Option.some.inj (hp'.symm.trans hp)
 obtain ⟨X, c, ty0, fr, g1, ⟨⟨plm, gm, rfl⟩, _, _⟩, _, _, g5⟩ := hbr
 have hsh : pl.sh = 0 := (g5 rfl).1
 obtain ⟨plm', hpm, hbrm, _⟩ := hm b _ hb
 cases Option.some.inj (hpm.symm.trans gm)
 have hh := mpB_row hbrm
 rw [hsh, Nat.zero_add] at he
 refine ⟨.tuple #[enc k, v], .flat ?_, fun w' hs => ?_⟩
 ·show (#[enc k, v].toList.all flat1) = true
  rw [show #[enc k, v].toList = [enc k, v] from rfl, List.all_cons, List.all_cons, hf1, hf2]
  rfl
 ·have h1 : w'.heap[pl.blk]? = some (.mapIter (some plm.blk) l.length (seen ++ [j]).toArray l.length) := (hs bi _ pl hi hp).trans g1
  have h2 : w'.heap[plm.blk]? = some (.map (mpE enc l) l.length) := (hs b _ plm hb gm).trans hh
  have hf : (mpE enc l).find? (·.born == j) = some ⟨enc k, v, j⟩ := by
   rw [← Array.find?_toList]
   have hmem : (⟨enc k, v, j⟩ : MapEntry) ∈ (mpE enc l).toList := List.mem_iff_getElem?.2 ⟨j, by rw [mpE_get, hj]; rfl⟩
   refine find_born ⟨enc k, v, j⟩ _ ?_ hmem
   have : (mpE enc l).toList.map (·.born) = List.range l.length := by
    refine List.ext_getElem? fun i => ?_
    rw [List.getElem?_map, mpE_get]
    by_cases hi : i < l.length
    ·rw [List.getElem?_eq_getElem hi, List.getElem?_range hi]; rfl
    ·rw [List.getElem?_eq_none (by omega), List.getElem?_eq_none (by simpa using hi)]; rfl
   rw [this]
   exact List.nodup_range
  have hbk : (seen ++ [j]).toArray.back? = some j := by simp [Array.back?]
  simp only [execOp, he, Instr.entry, getObj, Sem.run_bind, Sem.run, h1, h2, Result.andThen, hbk, bne_self_eq_false, Bool.false_eq_true, if_false, hf]
  rfl
def insL [DecidableEq κ] (l : List κ) (k : κ) : List κ := if k ∈ l then l else l ++ [k]
theorem OW.mins [DecidableEq κ] {l : List κ} {k : κ} {v : Value} (K : KEnc enc P kt ok) (hk0 : ok k) (hl0 : ∀ x ∈ l, ok x) (hx : t.ev x = .map (some b)) (hy : t.ev y = enc k) (hz : t.ev z = v) (hu : P.underlying ty = some (.map kt et)) (hb : m.at b = some (mpL enc (l.map fun k => (k, v)))) (hn : l.Nodup) (hvf : flat v = true) :
  OW P ⟨dst, .mapUpdate ty x y z, rt, pos, after, guard⟩ t m undef (m.set b (some (mpL enc ((insL l k).map fun k => (k, v))))) := by
 have hl1 : ∀ p ∈ l.map (fun k => (k, v)), ok p.1 := fun p hp => by
  obtain ⟨x, hx, rfl⟩ := List.mem_map.1 hp
  exact hl0 x hx
 have e : (l.map fun k => (k, v)).map (·.1) = l := by rw [List.map_map]; exact List.map_id l
 unfold insL
 split
 ·rename_i hk
  obtain ⟨j, hj⟩ := List.mem_iff_getElem?.1 hk
  have := OW.mupdS (dst := dst) (rt := rt) (pos := pos) (after := after) (guard := guard) j (v0 := v) K hk0 hl1 hx hy hz hu hb (by rw [e]; exact hn) (by rw [List.getElem?_map, hj]; rfl) hvf
  have e2 : (l.map fun k => (k, v)).set j (k, v) = l.map fun k => (k, v) := by
   refine List.ext_getElem? fun i => ?_
   rw [List.getElem?_set]
   split
   ·rename_i hji
    subst hji
    have hjl : j < l.length := (List.getElem?_eq_some_iff.1 hj).1
    rw [if_pos (by simpa using hjl), List.getElem?_map, hj]
    rfl
   ·rfl
  rw [e2] at this
  exact this
 ·rename_i hk
  have := OW.mupdN (dst := dst) (rt := rt) (pos := pos) (after := after) (guard := guard) K hk0 hl1 hx hy hz hu hb (by rw [e]; exact hk) hvf
  rw [List.map_append]
  exact this
theorem insL_nodup [DecidableEq κ] {l : List κ} {k : κ} (h : l.Nodup) : (insL l k).Nodup := by
 unfold insL
 split
 ·exact h
 ·rename_i hk
  rw [List.nodup_append]
  refine ⟨h, by simp, fun a ha b hb => ?_⟩
  rw [List.mem_singleton] at hb
  subst hb
  exact fun e => hk (e ▸ ha)
end
section
variable {P : Program} {E : Env} {l : List Oper} {bits : Array Nat} {n : Nat} {Q : Post} {m0 : Mem} {ops : List Oper} {t : T} {m : Mem} {sps : List Sp} {v : Value}
end
abbrev mpR {κ : Type} (enc : κ → Value) (l : List (κ × Value)) : Blk := @Blk.mk [] false 0 ⟨some (.map (mpE enc l) l.length)⟩
def strip (b : Blk) : Blk := @Blk.mk b.cells false 0 b.obj
theorem strip_at (m : Mem) (b : Nat) : Mem.at (m.map (Option.map strip)) b = (m.at b).map strip := by
 unfold Mem.at
 rw [List.getD_eq_getElem?_getD, List.getD_eq_getElem?_getD, List.getElem?_map]
 cases m[b]? with
 | none => rfl
 | some o => rfl
theorem VRel.strip {ρ : Ren} {v v' : Value} (h : VRel ρ v v') : VRel (fun b => (ρ b).map fun pl => { pl with esz := 0 }) v v' := by
 induction h with
 | jk v => exact .jk v
 | scal h => exact .scal h
 | @ptr b o pl h => exact .ptr (pl := { pl with esz := 0 }) (by rw [h]; rfl)
 | @map b pl h => exact .map (pl := { pl with esz := 0 }) (by rw [h]; rfl)
 | @slice b o n c c' pl h h1 h2 h3 => exact .slice (pl := { pl with esz := 0 }) (by rw [h]; rfl) h1 h2 (fun h => absurd rfl h)
 | empty => exact .empty
 | lost => exact .lost
 | func h1 h2 _ _ i3 i4 => exact .func h1 h2 i3 i4
 | agg h1 _ i3 => exact .agg h1 i3
 | tuple h1 _ i3 => exact .tuple h1 i3
theorem PCalls.strip {P : Program} {f : FuncId} {args : List Value} {m : Mem} {v : Value} (h : PCalls P f args (m.map (Option.map strip)) v) (hf : flat v = true) : PCalls P f args m v := by
 intro ρ args' w hdom hargs hm
 refine (h _ args' w (fun b pl hb => ?_) hargs.strip (fun b blk hb => ?_)).mono ?_
 ·cases hp : ρ b with
  | none => rw [hp] at hb; cases hb
  | some pl0 => rw [List.length_map]; exact hdom b pl0 hp
 ·rw [strip_at] at hb
  cases hq : m.at b with
  | none => rw [hq] at hb; cases hb
  | some b0 =>
   rw [hq] at hb
   cases Option.some.inj hb
   obtain ⟨pl, hp, ⟨x, c, ty, fr, hc, hx, h1, h2, h3⟩, h4⟩ := hm b b0 hq
   refine ⟨{ pl with esz := 0 }, by simp [hp], ⟨x, c, ty, fr, hc, ?_, rfl, fun i v hv => ?_, fun ho => by cases ho⟩, fun ho => by cases ho⟩
   ·show IsRow _ b0.obj.o x c ty fr
    match hob : b0.obj.o, hx with
    | none, hx => exact hx
    | some (.map _ _), hx => exact hx
    | some (.iter b' _ _ _), ⟨⟨pl', q1, q2⟩, q3⟩ => exact ⟨⟨{ pl' with esz := 0 }, by simp [q1], q2⟩, q3⟩
   ·obtain ⟨v', q1, q2⟩ := h2 i v hv
    exact ⟨v', q1, q2.strip⟩
 ·rintro e w' ⟨v', rfl, hv, hb⟩
  rw [hv.of_flat hf]
  exact ⟨v, rfl, .flat hf, hb⟩
end Ab
end Go
end
/- Chapter 6: an open net: how it lies; the triangle at the left of an edge. -/
section
set_option linter.unusedSimpArgs false
set_option linter.unusedVariables false
section
namespace Go.Me
open Go.Ab
abbrev T3 := Int × Int × Int
abbrev IE := Int × Int
def tcC (t : T3) : List Value := [.int .i64 t.1, .int .i64 t.2.1, .int .i64 t.2.2]
def flatT (ts : List T3) : List Value := ts.flatMap tcC
def tr (ts : List T3) (k : Nat) : T3 := ts.getD k (0, 0, 0)
theorem flatT_scal (ts : List T3) : (flatT ts).all Ab.scal = true := Ls.flat_scal tcC (fun _ => rfl) ts
theorem flatT_ld {m : Mem} {b : Nat} {blk : Blk} {ts : List T3} (hb : m.at b = some blk) (hc : blk.cells = flatT ts) (k : Nat) (hk : k < ts.length) : m.ld b (k * 3) 3 = some [.int .i64 (tr ts k).1, .int .i64 (tr ts k).2.1, .int .i64 (tr ts k).2.2] :=
 Ls.flat_ld tcC 3 (fun _ => rfl) (0, 0, 0) ts hb hc k hk
theorem flatT_get (ts : List T3) (k : Nat) (hk : k < ts.length) : (flatT ts)[k * 3]? = some (.int .i64 (tr ts k).1) ∧ (flatT ts)[k * 3 + 1]? = some (.int .i64 (tr ts k).2.1) ∧ (flatT ts)[k * 3 + 2]? = some (.int .i64 (tr ts k).2.2) :=
 ⟨Ls.flat_get tcC 3 (fun _ => rfl) (0, 0, 0) ts k 0 (by decide) hk, Ls.flat_get tcC 3 (fun _ => rfl) (0, 0, 0) ts k 1 (by decide) hk, Ls.flat_get tcC 3 (fun _ => rfl) (0, 0, 0) ts k 2 (by decide) hk⟩
def encE (e : IE) : Value := .agg #[.int .i64 e.1, .int .i64 e.2]
def encI (n : Int) : Value := .int .i64 n
def ed (t : T3) : List IE := [(t.1, t.2.1), (t.2.1, t.2.2), (t.2.2, t.1)]
def lfV (L : List (IE × Int)) : List (IE × Value) := L.map fun p => (p.1, .int .i64 p.2)
def lk : List (IE × Int) → IE → Int
 | [], _ => -1
 | p :: r, e => if p.1 = e then p.2 else lk r e
theorem lk_mem {e : IE} : ∀ {L : List (IE × Int)}, e ∈ L.map (·.1) → (e, lk L e) ∈ L
 | [], h => by simp at h
 | p :: r, h => by
  unfold lk
  by_cases he : p.1 = e
  ·rw [if_pos he, ← he]
   exact List.mem_cons_self
  ·rw [if_neg he]
   rw [List.map_cons, List.mem_cons] at h
   exact List.mem_cons_of_mem _ (lk_mem (h.resolve_left (fun h => he h.symm)))
theorem lk_not {e : IE} : ∀ {L : List (IE × Int)}, e ∉ L.map (·.1) → lk L e = -1
 | [], _ => rfl
 | p :: r, h => by
  rw [List.map_cons, List.mem_cons, not_or] at h
  unfold lk
  rw [if_neg (fun he => h.1 he.symm), lk_not h.2]
theorem lfV_keys (L : List (IE × Int)) : (lfV L).map (·.1) = L.map (·.1) := by
 unfold lfV
 rw [List.map_map]
 rfl
theorem lfV_mem {L : List (IE × Int)} {e : IE} (h : e ∈ L.map (·.1)) : (e, Value.int .i64 (lk L e)) ∈ lfV L :=
 List.mem_map.2 ⟨_, lk_mem h, rfl⟩
end Go.Me
namespace Go.Proofs.YtmohcmghbfhdlaaGreat
open Go Go.RowKit Go.Ab Go.Me Go.WideMaps
set_option maxRecDepth 100000
set_option maxHeartbeats 4000000
attribute [local irreducible] OQ OW AL AW AF SW
def okE (e : IE) : Prop := (0 ≤ e.1 ∧ e.1 ≤ 1000000) ∧ (0 ≤ e.2 ∧ e.2 ≤ 1000000)
theorem wf_ok {n : Int} (h : 0 ≤ n ∧ n ≤ 1000000) : (Lit.int .i64 n).wf = true := by
 have h1 : IntKind.i64.min = -9223372036854775808 := by decide
 have h2 : IntKind.i64.max = 9223372036854775807 := by decide
 show (decide (IntKind.i64.min ≤ n) && decide (n ≤ IntKind.i64.max)) = true
 rw [h1, h2, Bool.and_eq_true, decide_eq_true_iff, decide_eq_true_iff]
 omega
theorem KE : KEnc encE Tryz.prog 52 okE :=
 have A : ArrKey Tryz.prog 52 3 2 := ⟨Tryz.underlying52, by kernel_rfl, by kernel_rfl, by kernel_rfl⟩
 ⟨⟨_, MKey.arr A, fun k hk => ⟨_, keyOf_pair A Tryz.underlying3 ⟨_, rfl⟩ (wf_ok hk.1) (wf_ok hk.2)⟩⟩, fun a b h => by
  unfold encE at h
  simp only [Value.agg.injEq, Array.mk.injEq, List.cons.injEq, Value.int.injEq, true_and, and_true] at h
  exact Prod.ext h.1 h.2, fun _ => rfl, fun _ => rfl⟩
theorem KI : KEnc encI Tryz.prog 3 (fun _ => True) :=
 ⟨⟨_, MKey.int Tryz.underlying3, fun k _ => ⟨k, rfl⟩⟩, fun a b h => by
  unfold encI at h
  simpa using h, fun _ => rfl, fun _ => rfl⟩
def netC (n c k c2 : Nat) (ev : Value) : List Value := [.slice (some ⟨0, 0, none⟩) n c, .slice (some ⟨1, 0, none⟩) k c2, ev, .map (some 3)]
theorem ro4p (a b c d : Blk) (h1 : a.own = false) (h2 : b.own = false) (h3 : c.own = false) (h4 : d.own = false) : Mem.ro [some a, some b, some c, some d] := fun k blk hk => by
 match k, hk with
 | 0, hk => cases hk; exact h1
 | 1, hk => cases hk; exact h2
 | 2, hk => cases hk; exact h3
 | 3, hk => cases hk; exact h4
theorem at_0 (A B : Blk) (hA : A.own = false) (hB : B.own = false) (n c k c2 z : Nat) (ev : Value) (L : List (IE × Int)) (hn : (L.map (·.1)).Nodup) (hL : ∀ p ∈ L, okE p.1) (a b : Int) (hab : okE (a, b)) :
  PCalls Tryz.prog 130 [.pointer (some ⟨2, 0, none⟩), .int .i64 a, .int .i64 b] [some A, some B, some ⟨netC n c k c2 ev, false, z⟩, some (mpR encE (lfV L))] (.int .i64 (lk L (a, b))) := by
 have hk2 := lfV_keys L
 have hL2 : ∀ p ∈ lfV L, okE p.1 := fun p hp => by
  obtain ⟨x, hx, rfl⟩ := List.mem_map.1 hp
  exact hL x hx
 unfold netC
 by_cases he : (a, b) ∈ L.map (·.1)
 ·have hm := lfV_mem he
  refine PCalls.en 19 Tryz.func130 rfl (ro4p _ _ _ _ hA hB rfl rfl) rfl (fun E => ?_)
  repeat' (first | with_reducible (first | refine Then.n ?_ | refine Then.r ?_) | ((with_reducible refine AL.on ?_); first | ((first | refine AL.mv ?_ | refine AL.as ?_ | refine AL.et ?_ | ((with_reducible refine AL.k_fieldAddr ?_); refine AL.g (OQ.fieldA (ty := 110) (i := 2) (n := 1) (off := 3) (g := false) rfl kr (by decide)) ?_) | ((with_reducible refine AL.k_load ?_); (refine AL.g (OQ.load1 (ty := 108) rfl kr wl) ?_)) | refine AL.g (OQ.nilCheck rfl) ?_ | (refine AL.g (OQ.mlookS (k := (a, b)) KE hab hL2 rfl rfl Tryz.underlying108 rfl (by rw [hk2]; exact hn) hm rfl).1 ?_)); refine AL.nm ?_) | ((refine AL.g (OQ.buildA (ty := 52) (zs := [.int .i64 0, .int .i64 0]) (n := 1) (k := 2) (g := false) kr rfl kr rfl rfl rfl) ?_); refine AL.nm ?_) | refine AL.nil ?_) | ((with_reducible refine AW.on ?_); first | refine AW.seq ?_ | refine AW.ret ?_ | refine AW.region ?_ | (refine AW.conds rfl (fun hc => ?_) (fun hc => ?_) <;> (try replace hc := nc hc) <;> first | (exfalso; contradiction) | skip)) | ((with_reducible refine FinP.on ?_); (refine FinP.ret (.tmp wl .nil) ?_ rfl); (try simp only [pack, List.drop, List.take]); all_goals (rfl)))
 ·have hl := lk_not he
  rw [hl]
  refine PCalls.en 19 Tryz.func130 rfl (ro4p _ _ _ _ hA hB rfl rfl) rfl (fun E => ?_)
  repeat' (first | with_reducible (refine Then.n ?_) | ((with_reducible refine AL.on ?_); first | ((first | refine AL.mv ?_ | refine AL.as ?_ | refine AL.et ?_ | ((with_reducible refine AL.k_fieldAddr ?_); refine AL.g (OQ.fieldA (ty := 110) (i := 2) (n := 1) (off := 3) (g := false) rfl kr (by decide)) ?_) | ((with_reducible refine AL.k_load ?_); (refine AL.g (OQ.load1 (ty := 108) rfl kr wl) ?_)) | refine AL.g (OQ.nilCheck rfl) ?_ | (refine AL.g (OQ.mlookN (k := (a, b)) (v := .int .i64 0) KE hab hL2 rfl rfl Tryz.underlying108 rfl (by rw [hk2]; exact he) (fun w => by kernel_rfl) rfl).1 ?_)); refine AL.nm ?_) | ((refine AL.g (OQ.buildA (ty := 52) (zs := [.int .i64 0, .int .i64 0]) (n := 1) (k := 2) (g := false) kr rfl kr rfl rfl rfl) ?_); refine AL.nm ?_) | refine AL.nil ?_) | ((with_reducible refine AW.on ?_); first | refine AW.seq ?_ | refine AW.skip ?_ | refine AW.ret ?_ | refine AW.region ?_ | (refine AW.conds rfl (fun hc => ?_) (fun hc => ?_) <;> (try replace hc := nc hc) <;> first | (exfalso; contradiction) | skip)) | ((with_reducible refine FinP.on ?_); (refine FinP.ret (.tmp wl .nil) ?_ rfl); (try simp only [pack, List.drop, List.take]); all_goals (rfl)))
end Go.Proofs.YtmohcmghbfhdlaaGreat
end
end
/- Chapter 6: few points, and points in memory of their own (the law's). -/
section
set_option linter.unusedSimpArgs false
set_option linter.unusedVariables false
section
namespace Go.Me
end Go.Me
namespace Go.Proofs.YtmohcmghbfhdlaaGreat
open Go Go.RowKit Go.Ab Go.Me
set_option maxRecDepth 100000
set_option maxHeartbeats 4000000
attribute [local irreducible] OQ OW AL AW AF SW
end Go.Proofs.YtmohcmghbfhdlaaGreat
end
end
/- Chapter 6: few, Light and the copy of a net, for lists of any form. -/
section
set_option linter.unusedSimpArgs false
set_option linter.unusedVariables false
section
namespace Go.Me
open Go.Ab
def cpC (n : Nat) : Nat := if n = 0 then 0 else INF
end Go.Me
namespace Go.Proofs.YtmohcmghbfhdlaaGreat
open Go Go.RowKit Go.Ab Go.Me
set_option maxRecDepth 100000
set_option maxHeartbeats 4000000
attribute [local irreducible] OQ OW AL AW AF SW
end Go.Proofs.YtmohcmghbfhdlaaGreat
end
end
/- Chapter 6: lists of any form as arguments; Light and the copy of a net. -/
section
set_option linter.unusedSimpArgs false
set_option linter.unusedVariables false
section
namespace Go.Me
open Go.Ab
inductive SlV (m : Mem) (i : Nat) (v : Value) (cs : List Value) (n : Nat) : Prop
 | blk (k : Blk) (h0 : 0 < n) (hv : v = .slice (some ⟨i, 0, none⟩) n INF) (h : m.at i = some k) (hc : k.cells = cs) (ho : k.obj = Ob.plain)
 | nil (hl : n = 0) (hv : v = .slice none 0 0)
 | lost (hl : n = 0) (hv : v = lostV)
theorem SlV.of {m m' : Mem} {i : Nat} {v : Value} {cs : List Value} {n : Nat} (h : SlV m i v cs n) (he : m'.at i = m.at i) : SlV m' i v cs n := by
 rcases h with ⟨k, h0, h1, h2, h3, h4⟩ | ⟨h1, h2⟩ | ⟨h1, h2⟩
 ·exact .blk k h0 h1 (he.trans h2) h3 h4
 ·exact .nil h1 h2
 ·exact .lost h1 h2
theorem SlV.pos {m : Mem} {i : Nat} {v : Value} {cs : List Value} {n : Nat} (h : SlV m i v cs n) (h0 : 0 < n) : v = .slice (some ⟨i, 0, none⟩) n INF ∧ ∃ k : Blk, m.at i = some k ∧ k.cells = cs ∧ k.obj = Ob.plain := by
 rcases h with ⟨k, h0, h1, h2, h3, h4⟩ | ⟨h1, h2⟩ | ⟨h1, h2⟩
 ·exact ⟨h1, k, h2, h3, h4⟩
 ·omega
 ·omega
end Go.Me
namespace Go.Proofs.YtmohcmghbfhdlaaGreat
open Go Go.RowKit Go.Ab Go.Me
set_option maxRecDepth 100000
theorem ro0 : Mem.ro [] := fun b blk h => by simp [Mem.at] at h
abbrev cpV (k : Nat) (l : List Pn) (ts : List T3) : Value := .agg #[.slice (some ⟨k, 0, none⟩) l.length (cpC l.length), .slice (some ⟨k + 1, 0, none⟩) ts.length (cpC ts.length)]
end Go.Proofs.YtmohcmghbfhdlaaGreat
end
end
/- MeshDisperses: the reference's amplitudes and dispersions, for any lists; fractions of any size compared. -/
section
set_option linter.unusedSimpArgs false
set_option linter.unusedVariables false
section
namespace Go.Me
open Go.Ab
theorem cpF_0m {d m k : Int} (hm : 0 < m) (hd : 0 < d) : cpF 0 d m k = -1 := if_pos (by rw [Int.zero_mul]; exact Int.mul_pos hm hd)
theorem cpF_n0 {n d k : Int} (hn : 0 < n) (hk : 0 < k) : cpF n d 0 k = 1 := by
 rw [cpF_neg, cpF_0m hn hk]
 rfl
theorem cpF_00 {d k : Int} : cpF 0 d 0 k = 0 := by
 unfold cpF
 simp
theorem cpF_s {n d m k r : Int} (h : n / d = m / k) (hr : cpF (n - n / d * d) d (m - m / k * k) k = r) : cpF n d m k = r := by
 rw [← h, cpF_sub] at hr
 exact hr
theorem dsE_lo {l : List Int} (h : l.length < 2) : dsE l = 10 := if_pos h
theorem dsE_hi {l : List Int} (h : 60 < l.length) : dsE l = 8 := by
 unfold dsE
 rw [if_neg (by omega), if_pos h]
end Go.Me
namespace Go.Proofs.YtmohcmghbfhdlaaGreat
open Go Go.RowKit Go.Ab Go.Me
set_option maxRecDepth 100000
set_option maxHeartbeats 4000000
attribute [local irreducible] OQ OW AL AW AF SW
theorem rCompare_q (n d m k : Int) (hn : 0 ≤ n ∧ n ≤ 4611686018427387904) (hd : 0 < d ∧ d ≤ 4611686018427387904) (hm : 0 ≤ m ∧ m ≤ 4611686018427387904) (hk : 0 < k ∧ k ≤ 4611686018427387904) (mm : Mem) : PCalls Tryz.prog 102 [.int .i64 n, .int .i64 d, .int .i64 m, .int .i64 k] mm (.int .i64 (cpF n d m k)) := by
 refine PCalls.any ?_ rfl rfl mm
 refine PCalls.en 43 Tryz.func102 rfl (ro_nil) rfl (fun E => ?_)
 repeat' (first | with_reducible (first | refine Then.n ?_ | refine Then.r ?_ | refine Then.x ?_ | refine InB.n ?_ | refine InB.r ?_ | refine InB.hit ?_ | refine InB.miss (by decide) ?_) | ((with_reducible refine AL.on ?_); first | (refine AL.gd rfl ?_; first | (refine AL.gskip rfl rfl ?_; refine AL.nm ?_) | (refine AL.gs1 rfl rfl (fun hc => ?_) (fun hc => ?_) <;> (try replace hc := nc hc) <;> first | (exfalso; first | contradiction | (omega); done) | refine AL.nm ?_) | (refine AL.gs0 rfl rfl (fun hc => ?_) (fun hc => ?_) <;> (try replace hc := nc hc) <;> first | (exfalso; first | contradiction | (omega); done) | refine AL.nm ?_)) | ((first | ((with_reducible refine AL.k_move ?_); first | refine AL.mv ?_) | ((with_reducible refine AL.k_assign ?_); first | refine AL.as ?_) | ((with_reducible refine AL.k_binOp ?_); first | refine AL.g (OQ.lss rfl rfl) ?_ | refine AL.g (OQ.gtr rfl rfl) ?_ | refine AL.g (OQ.muli rfl rfl (by omega)) ?_ | refine AL.g (OQ.mul rfl rfl) ?_ | refine AL.g (OQ.subi rfl rfl (by omega)) ?_ | refine AL.g (OQ.sub rfl rfl) ?_ | refine AL.g (OQ.eql rfl rfl) ?_) | ((with_reducible refine AL.k_pick ?_); first | refine AL.pT ?_ | refine AL.pF ?_)); refine AL.nm ?_) | ((first | first | refine AL.pcall (g := 141) rfl kr rfl ((by exact rFloor_q _ _ (by omega) (by omega) _)) ?_); refine AL.nm ?_) | (refine AL.bs rfl (fun hc => ?_) (fun hc => ?_) <;> (fail_if_success (with_reducible exact lit_no hc)) <;> (try replace hc := nc hc) <;> first | (exfalso; first | contradiction | (omega); done) | refine AL.nm ?_) | refine AL.nil ?_) | ((with_reducible refine AW.on ?_); first | refine AW.seq ?_ | refine AW.skip ?_ | refine AW.exit ?_ | refine AW.ret ?_ | ((refine AW.block (id := 0) ?_); (refine AW.fk [0, 1, 2, 3] ?_); (refine AW.loop (fun N t mm => ∃ x a y b : Int, N = (a + b).toNat ∧ (0 ≤ x ∧ x ≤ 4611686018427387904) ∧ (0 < a ∧ a ≤ 4611686018427387904) ∧ (0 ≤ y ∧ y ≤ 4611686018427387904) ∧ (0 < b ∧ b ≤ 4611686018427387904) ∧ cpF x a y b = cpF n d m k ∧ t = (mtz 47 0 [(0, .int .i64 x), (1, .int .i64 a), (2, .int .i64 y), (3, .int .i64 b)]) ∧ mm = []) ((d + k).toNat) (by exact ⟨n, d, m, k, rfl, hn, hd, hm, hk, rfl, rfl, rfl⟩) ?_); (rintro N t mm ⟨x, a, y, b, rfl, hx, ha, hy, hb, hq, rfl, rfl⟩); (refine AW.nT ?_)) | refine AW.block ?_ | (refine AW.region (id := 1) ?_; ((have p1 := Int.emod_nonneg x (by omega : a ≠ 0); have p2 := Int.emod_lt_of_pos x ha.1; have p3 := Int.ediv_mul_add_emod x a; have q1 := Int.emod_nonneg y (by omega : b ≠ 0); have q2 := Int.emod_lt_of_pos y hb.1; have q3 := Int.ediv_mul_add_emod y b; have r1 := Int.ediv_nonneg hx.1 (by omega : 0 ≤ a); have r2 := Int.ediv_nonneg hy.1 (by omega : 0 ≤ b)))) | refine AW.region ?_ | (refine AW.conds rfl (fun hc => ?_) (fun hc => ?_) <;> (try replace hc := nc hc) <;> first | (exfalso; first | contradiction | (omega); done) | skip)) | ((with_reducible refine ex_on ?_); (have z1 : 0 < x - x / a * a ∧ x - x / a * a < a := (by omega); have z2 : 0 < y - y / b * b ∧ y - y / b * b < b := (by omega); have z3 : x / a = y / b := (by omega); exact ⟨((y - y / b * b) + (x - x / a * a)).toNat, _, _, by omega, Wk.fk [0, 1, 2, 3] rfl, b, y - y / b * b, a, x - x / a * a, rfl, by omega, by omega, by omega, by omega, (cpF_rec _ _ _ _).trans ((cpF_s z3 rfl).symm.trans hq), rfl, rfl⟩)) | ((with_reducible refine FinP.on ?_); (first | refine FinP.ret (.tmp wl .nil) ?_ rfl | refine FinP.end (.tmp wl .nil) ?_ rfl); (try simp only [pack, List.drop, List.take]); all_goals (rw [← hq]; first | (have z3 : x / a < y / b := (by omega); rw [cpF_lt ha.1 hb.1 z3]) | (have z3 : y / b < x / a := (by omega); rw [cpF_gt ha.1 hb.1 z3]) | (have z3 : x / a = y / b := (by omega); have e1 : x - x / a * a = 0 := (by omega); have e2 : y - y / b * b = 0 := (by omega); have e3 : cpF x a y b = 0 := cpF_s z3 (by rw [e1, e2]; exact cpF_00); rw [e3]) | (have z3 : x / a = y / b := (by omega); have e1 : x - x / a * a = 0 := (by omega); have e2 : 0 < y - y / b * b := (by omega); have e3 : cpF x a y b = -1 := cpF_s z3 (by rw [e1]; exact cpF_0m e2 ha.1); rw [e3]) | (have z3 : x / a = y / b := (by omega); have e1 : y - y / b * b = 0 := (by omega); have e2 : 0 < x - x / a * a := (by omega); have e3 : cpF x a y b = 1 := cpF_s z3 (by rw [e1]; exact cpF_n0 e2 hb.1); rw [e3]))))
theorem rAmp_0 (l : List Int) (c z : Nat) (hl : l.length ≤ 1000000) : PCalls Tryz.prog 49 [.slice (some ⟨0, 0, none⟩) l.length c] [some ⟨flatN l, false, z⟩] (.int .i64 (dsE l)) := by
 have hld := fun (k : Nat) (hk : k < l.length) => flatN_get l k hk
 have hw := fun (n : Int) (m : Mem) => rWithin_q n 0 3000 m
 have hlo := @dsE_lo l
 have hhi := @dsE_hi l
 have hrg : ∀ k, ¬ l.length < 2 → ¬ 60 < l.length → k < l.length → rgB (nt l k) 0 3000 = false → dsE l = 2 := fun k h1 h2 hk h => by
  unfold dsE
  rw [if_neg h1, if_neg h2, if_neg]
  intro ho
  have h3 := of_decide_eq_true ho k hk
  rw [rgB_true.2 h3] at h
  cases h
 have hze : ¬ l.length < 2 → ¬ 60 < l.length → (∀ j, j < l.length → rgB (nt l j) 0 3000 = true) → dsS l l.length = 0 → dsE l = 11 := fun h1 h2 h3 h4 => by
  unfold dsE
  rw [if_neg h1, if_neg h2, if_pos (dsOk_true h3), if_pos h4]
 have hok : ¬ l.length < 2 → ¬ 60 < l.length → (∀ j, j < l.length → rgB (nt l j) 0 3000 = true) → dsS l l.length ≠ 0 → dsE l = 0 := fun h1 h2 h3 h4 => by
  unfold dsE
  rw [if_neg h1, if_neg h2, if_pos (dsOk_true h3), if_neg h4]
 have hbd := fun (k : Nat) => ds_bds (l := l) (k := k)
 have hv := fun (k : Nat) (h : rgB (nt l k) 0 3000 = true) => rgB_true.1 h
 have s0 : dsS l 0 = 0 := rfl
 have ss : ∀ k, dsS l (k + 1) = dsS l k + nt l k := fun k => rfl
 generalize dsS l = S at *
 generalize dsE l = E at *
 refine PCalls.en 30 Tryz.func49 rfl (ro1p _ rfl) rfl (fun E => ?_)
 repeat' (first | with_reducible (first | refine Then.n ?_ | refine Then.r ?_ | refine Then.x ?_ | refine InB.n ?_ | refine InB.r ?_ | refine InB.hit ?_ | refine InB.miss (by decide) ?_) | ((with_reducible refine AL.on ?_); first | ((first | ((with_reducible refine AL.k_move ?_); first | refine AL.mv ?_) | ((with_reducible refine AL.k_assign ?_); first | refine AL.as ?_) | ((with_reducible refine AL.k_binOp ?_); first | refine AL.g (OQ.lss rfl rfl) ?_ | refine AL.g (OQ.gtr rfl rfl) ?_ | refine AL.g (OQ.addi rfl rfl (by omega)) ?_ | refine AL.g (OQ.add rfl rfl) ?_ | refine AL.g (OQ.eql rfl rfl) ?_) | ((with_reducible refine AL.k_call ?_); first | refine AL.g (OQ.lenS (xt := 26) (r := (none, 1, false)) rfl kr) ?_) | ((with_reducible refine AL.k_load ?_); first | (refine AL.g (OQ.load1 (ty := 3) rfl kr (by first | (exact hld _ (by omega)) | (conv => lhs; whnf))) ?_)) | ((with_reducible refine AL.k_unOp ?_); first | refine AL.g (OQ.not rfl) ?_)); refine AL.nm ?_) | ((first | ((with_reducible refine AL.k_call ?_); first | refine AL.pcall (g := 69) rfl kr rfl (hw _ _) ?_) | ((with_reducible refine AL.k_indexAddr ?_); first | refine AL.g (OQ.idxAddr (ty := 26) (z := 1) (g := false) rfl rfl kr (by omega) (by omega)) ?_)); refine AL.nm ?_) | refine AL.nil ?_) | ((with_reducible refine AW.on ?_); first | refine AW.seq ?_ | refine AW.skip ?_ | refine AW.exit ?_ | refine AW.ret ?_ | ((refine AW.block (id := 0) ?_); (refine AW.fk [0, 3, 4] ?_); (refine AW.loop (fun n t' m => ∃ k : Nat, n = l.length - k ∧ k ≤ l.length ∧ (∀ j, j < k → rgB (nt l j) 0 3000 = true) ∧ t' = (mtz 31 0 [(0, .slice (some ⟨0, 0, none⟩) l.length c), (3, .int .i64 (S k)), (4, .int .i64 (k))]) ∧ m = [some ⟨flatN l, false, z⟩]) (l.length) (by exact ⟨0, rfl, Nat.zero_le _, fun j h => absurd h (by omega), by rw [s0]; rfl, rfl⟩) ?_); (rintro n t' m ⟨k, rfl, hk, hj, rfl, rfl⟩); (refine AW.nT ?_)) | refine AW.block ?_ | (refine AW.region (id := 11) ?_; ((have hb := hbd k (by omega) hj; have hv1 := hv k (by first | assumption | simp_all)))) | (refine AW.region (id := 12) ?_; ((obtain rfl : k = l.length := (by omega)))) | refine AW.region ?_ | (refine AW.conds rfl (fun hc => ?_) (fun hc => ?_) <;> (try replace hc := nc hc) <;> first | (exfalso; first | contradiction | (first | omega | (simp at hc; done)); done) | skip)) | ((with_reducible refine ex_on ?_); (refine ⟨l.length - (k + 1), _, _, by omega, ?_, k + 1, rfl, by omega, fun j h => (by rcases Nat.lt_or_eq_of_le (Nat.le_of_lt_succ h) with h | rfl; (exact hj j h); (first | assumption | simp_all)), rfl, rfl⟩; rw [ss k]; exact Wk.fk [0, 3, 4] rfl)) | ((with_reducible refine FinP.on ?_); (first | refine FinP.ret (.tmp wl .nil) ?_ rfl | refine FinP.end (.tmp wl .nil) ?_ rfl); (try simp only [pack, List.drop, List.take]); all_goals (symm; first | (rw [hlo (by omega)]) | (rw [hhi (by omega)]) | (rw [hze (by omega) (by omega) hj ‹_›]) | (rw [hok (by omega) (by omega) hj ‹_›]) | (rw [hrg k (by omega) (by omega) (by omega) (by first | assumption | simp_all)]))))
theorem rAmp_e (a : Option Addr) : PCalls Tryz.prog 49 [.slice a 0 0] [] (.int .i64 10) := by
 refine PCalls.en 30 Tryz.func49 rfl (ro0) rfl (fun E => ?_)
 repeat' (first | with_reducible (first | refine Then.n ?_ | refine Then.r ?_ | refine Then.x ?_ | refine InB.n ?_ | refine InB.r ?_ | refine InB.hit ?_ | refine InB.miss (by decide) ?_) | ((with_reducible refine AL.on ?_); first | ((first | ((with_reducible refine AL.k_move ?_); first | refine AL.mv ?_) | ((with_reducible refine AL.k_assign ?_); first | refine AL.as ?_) | ((with_reducible refine AL.k_binOp ?_); first | refine AL.g (OQ.lss rfl rfl) ?_ | refine AL.g (OQ.gtr rfl rfl) ?_ | refine AL.g (OQ.addi rfl rfl (by omega)) ?_ | refine AL.g (OQ.add rfl rfl) ?_ | refine AL.g (OQ.eql rfl rfl) ?_) | ((with_reducible refine AL.k_call ?_); first | refine AL.g (OQ.lenS (xt := 26) (r := (none, 1, false)) rfl kr) ?_) | ((with_reducible refine AL.k_indexAddr ?_); first | refine AL.g (OQ.idxAddr (ty := 26) (z := 1) (g := false) rfl rfl kr (by omega) (by omega)) ?_) | ((with_reducible refine AL.k_load ?_); first | (refine AL.g (OQ.load1 (ty := 3) rfl kr wl) ?_)) | ((with_reducible refine AL.k_unOp ?_); first | refine AL.g (OQ.not rfl) ?_)); refine AL.nm ?_) | ((first | first | refine AL.pcall (g := 69) rfl kr rfl (rfl) ?_); refine AL.nm ?_) | refine AL.nil ?_) | ((with_reducible refine AW.on ?_); first | refine AW.seq ?_ | refine AW.skip ?_ | refine AW.exit ?_ | refine AW.ret ?_ | refine AW.block ?_ | (refine AW.region (id := 3) ?_; exfalso; first | omega | (simp at hc; done); done) | refine AW.region ?_ | (refine AW.conds rfl (fun hc => ?_) (fun hc => ?_) <;> (try replace hc := nc hc) <;> first | (exfalso; first | contradiction | (first | omega | (simp at hc; done)); done) | skip)) | ((with_reducible refine FinP.on ?_); (first | refine FinP.ret (.tmp wl .nil) ?_ rfl | refine FinP.end (.tmp wl .nil) ?_ rfl); (try simp only [pack, List.drop, List.take]); all_goals (rfl)))
theorem rDisp_0 (l : List Int) (c z : Nat) (hE : dsE l = 0) : PCalls Tryz.prog 50 [.slice (some ⟨0, 0, none⟩) l.length c] [some ⟨flatN l, false, z⟩] (.agg #[.int .i64 (dsA l), .int .i64 (dsB l)]) := by
 have hld := fun (k : Nat) (hk : k < l.length) => flatN_get l k hk
 have hl : ¬ l.length < 2 ∧ ¬ 60 < l.length ∧ dsOk l = true ∧ dsS l l.length ≠ 0 := by
  unfold dsE at hE
  split at hE <;> (try split at hE) <;> (try split at hE) <;> (try split at hE) <;> first | exact ⟨‹_›, ‹_›, ‹_›, ‹_›⟩ | cases hE
 obtain ⟨h1, h2, h3, h4⟩ := hl
 have hj : ∀ j, j < l.length → rgB (nt l j) 0 3000 = true := fun j hj => rgB_true.2 (of_decide_eq_true h3 j hj)
 have hbd := fun (k : Nat) (hk : k ≤ l.length) => ds_bds (l := l) (k := k) (by omega) fun j h => hj j (by omega)
 have hv := fun (k : Nat) (h : k < l.length) => rgB_true.1 (hj k h)
 have hsq : ∀ a : Int, 0 ≤ a ∧ a ≤ 3000 → 0 ≤ a * a ∧ a * a ≤ 9000000 := fun a ha => ⟨sq_nn a, (mul_bd (m := a) (n := a) (a := 3000) (b := 3000) (by omega) (by omega) (by decide)).2⟩
 have eA : dsA l = (l.length * dsQ l l.length - dsS l l.length * dsS l l.length).tdiv (Int.gcd (l.length * dsQ l l.length - dsS l l.length * dsS l l.length) (dsS l l.length * dsS l l.length)) := if_pos hE
 have eB : dsB l = (dsS l l.length * dsS l l.length).tdiv (Int.gcd (l.length * dsQ l l.length - dsS l l.length * dsS l l.length) (dsS l l.length * dsS l l.length)) := if_pos hE
 have hnz : dsS l l.length * dsS l l.length ≠ 0 := fun h5 => by rcases Int.mul_eq_zero.1 h5 with h6 | h6 <;> exact h4 h6
 have hgp : 0 < (Int.gcd (l.length * dsQ l l.length - dsS l l.length * dsS l l.length) (dsS l l.length * dsS l l.length) : Int) := by
  have := Int.gcd_pos_of_ne_zero_right (l.length * dsQ l l.length - dsS l l.length * dsS l l.length) hnz
  omega
 have hgb := Nat.le_of_dvd (by omega) (Int.gcd_dvd_natAbs_right (l.length * dsQ l l.length - dsS l l.length * dsS l l.length) (dsS l l.length * dsS l l.length))
 have hB := hbd l.length (Nat.le_refl _)
 have s0 : dsS l 0 = 0 := rfl
 have q0 : dsQ l 0 = 0 := rfl
 have ss : ∀ k, dsS l (k + 1) = dsS l k + nt l k := fun k => rfl
 have qs : ∀ k, dsQ l (k + 1) = dsQ l k + nt l k * nt l k := fun k => rfl
 have hd1 := gtdiv_bd (a := l.length * dsQ l l.length - dsS l l.length * dsS l l.length) (b := (Int.gcd (l.length * dsQ l l.length - dsS l l.length * dsS l l.length) (dsS l l.length * dsS l l.length) : Int)) (M := 32400000000) (by omega)
 have hd2 := gtdiv_bd (a := dsS l l.length * dsS l l.length) (b := (Int.gcd (l.length * dsQ l l.length - dsS l l.length * dsS l l.length) (dsS l l.length * dsS l l.length) : Int)) (M := 32400000000) (by omega)
 have hg := rGcd_q (l.length * dsQ l l.length - dsS l l.length * dsS l l.length) (dsS l l.length * dsS l l.length) (by omega) (by omega) (by omega)
 rw [eA, eB]
 generalize dsS l = S at *
 generalize dsQ l = Q at *
 refine PCalls.en 52 Tryz.func50 rfl (ro1p _ rfl) rfl (fun E => ?_)
 repeat' (first | with_reducible (first | refine Then.n ?_ | refine Then.r ?_ | refine Then.x ?_ | refine InB.n ?_ | refine InB.r ?_ | refine InB.hit ?_ | refine InB.miss (by decide) ?_) | ((with_reducible refine AL.on ?_); first | ((first | ((with_reducible refine AL.k_move ?_); first | refine AL.mv ?_) | ((with_reducible refine AL.k_binOp ?_); first | refine AL.g (OQ.lss rfl rfl) ?_ | refine AL.g (OQ.addi rfl rfl (by omega)) ?_ | refine AL.g (OQ.add rfl rfl) ?_ | refine AL.g (OQ.muli rfl rfl (by omega)) ?_ | refine AL.g (OQ.mul rfl rfl) ?_ | refine AL.g (OQ.subi rfl rfl (by omega)) ?_ | refine AL.g (OQ.sub rfl rfl) ?_) | ((with_reducible refine AL.k_assign ?_); first | refine AL.as ?_) | ((with_reducible refine AL.k_call ?_); first | refine AL.g (OQ.lenS (xt := 26) (r := (none, 1, false)) rfl kr) ?_)); refine AL.nm ?_) | ((first | ((with_reducible refine AL.k_call ?_); first | refine AL.pcall (g := 96) rfl kr rfl ((by exact hg _)) ?_) | ((with_reducible refine AL.k_build ?_); first | refine AL.g (OQ.buildA (ty := 52) (zs := [.int .i64 0, .int .i64 0]) (n := 1) (k := 2) (g := false) kr rfl kr rfl rfl rfl) ?_)); refine AL.nm ?_) | ((first | ((with_reducible refine AL.k_alloc ?_); first | refine AL.w rfl (OW.alloc (ty := 52) (z := [.int .i64 0, .int .i64 0]) kr rfl) ?_) | ((with_reducible refine AL.k_store ?_); first | (refine AL.w rfl (OW.store (ty := 52) (n := 2) rfl wl rfl rfl kr rfl rfl (by decide) rfl (Nat.le_of_ble_eq_true rfl) (by intro r h; cases h)) ?_))); refine AL.nm ?_; refine AL.nM ?_) | refine AL.nil ?_) | ((with_reducible refine AW.on ?_); first | refine AW.seq ?_ | refine AW.skip ?_ | refine AW.exit ?_ | refine AW.ret ?_ | ((refine AW.block (id := 0) ?_); (refine AW.fk [0, 2, 3, 4, 5] ?_); (refine AW.loop (fun n t' m => ∃ k : Nat, n = l.length - k ∧ k ≤ l.length ∧ t' = (mtz 53 0 [(0, .slice (some ⟨0, 0, none⟩) l.length c), (2, .pointer (some ⟨1, 0, none⟩)), (3, .int .i64 (S k)), (4, .int .i64 (Q k)), (5, .int .i64 (k))]) ∧ m = [some ⟨flatN l, false, z⟩, some ⟨[.int .i64 (0), .int .i64 (0)], true, 0⟩]) (l.length) (by exact ⟨0, rfl, Nat.zero_le _, by rw [s0, q0]; rfl, rfl⟩) ?_); (rintro n t' m ⟨k, rfl, hk, rfl, rfl⟩); (refine AW.nT ?_)) | refine AW.block ?_ | (refine AW.drawF (id := 5) 18 #[0, 0, 0, 6, 14, 31, 0, 0, 0, 384, 896, 0, 0, 6144, 14336, 32640, 65472, 63, 262143] kr kr ?_; (conv => (arg 8; simp only [List.take_succ_cons, List.take_zero])); ((have hb := hbd k (by omega); have hv1 := hv k (by omega); have hv2 := hsq _ hv1))) | (refine AW.drawF (id := 8) 6 #[0, 0, 3, 0, 0, 24, 63, 127] kr kr ?_; (conv => (arg 8; simp only [List.take_succ_cons, List.take_zero]))) | (refine AW.region (id := 6) ?_; ((obtain rfl : k = l.length := (by omega)))) | refine AW.region ?_ | (refine AW.conds rfl (fun hc => ?_) (fun hc => ?_) <;> (try replace hc := nc hc) <;> first | (exfalso; first | contradiction | (first | omega | (simp at hc; done)); done) | skip)) | ((with_reducible refine AF.on ?_); first | ((first | ((with_reducible refine AF.k_move ?_); first | (refine AF.q 0 (SW.q (OQ.move wl) rfl) ?_)) | ((with_reducible refine AF.k_binOp ?_); first | refine AF.q 0 (SW.q (OQ.addi rfl rfl (by omega)) rfl) ?_ | refine AF.q 0 (SW.q (OQ.add rfl rfl) rfl) ?_ | refine AF.q 0 (SW.q (OQ.muli rfl rfl (by omega)) rfl) ?_ | refine AF.q 0 (SW.q (OQ.mul rfl rfl) rfl) ?_ | refine AF.q 0 (SW.q (OQ.quoi rfl rfl (by omega) (by omega)) rfl) ?_ | refine AF.q 0 (SW.q (OQ.quo rfl rfl (by omega)) rfl) ?_) | ((with_reducible refine AF.k_assign ?_); first | (refine AF.q 0 (SW.q (OQ.assign wl) rfl) ?_)) | ((with_reducible refine AF.k_indexAddr ?_); first | refine AF.q 0 (SW.q (OQ.idxAddr (ty := 26) (z := 1) (g := false) rfl rfl kr (by omega) (by omega)) rfl) ?_) | ((with_reducible refine AF.k_load ?_); first | (refine AF.ql rfl (SW.q (OQ.load1 (ty := 3) rfl kr (by first | (exact hld _ (by omega)) | (conv => lhs; whnf))) rfl) ?_))); refine AF.nm ?_) | refine AF.nl ?_) | ((with_reducible refine ex_on ?_); (refine ⟨l.length - (k + 1), _, _, by omega, ?_, k + 1, rfl, by omega, rfl, rfl⟩; rw [ss k, qs k]; exact Wk.fk [0, 2, 3, 4, 5] rfl)) | ((with_reducible refine FinP.on ?_); (first | refine FinP.ret (.cellN (n := 2) wl kr kr rfl .nil) ?_ rfl | refine FinP.end (.cellN (n := 2) wl kr kr rfl .nil) ?_ rfl); (try simp only [pack, List.drop, List.take]); all_goals (rfl)))
theorem rAmp_g {m : Mem} {i : Nat} {v : Value} {xs : List Int} (h : SlV m i v (flatN xs) xs.length) (hl : xs.length ≤ 1000000) : PCalls Tryz.prog 49 [v] m (.int .i64 (dsE xs)) := by
 rcases h with ⟨A, a0, rfl, a1, a2, a3⟩ | ⟨a1, rfl⟩ | ⟨a1, rfl⟩
 ·exact PCalls.viaS [i] (rAmp_0 xs INF A.esz hl) (ro1p _ rfl) ⟨bS a1 a3 a2 (flatN_scal _), trivial⟩ rfl rfl rfl rfl
 ·obtain rfl := List.eq_nil_of_length_eq_zero a1
  exact PCalls.viaS [] (rAmp_e none) ro0 trivial rfl rfl rfl rfl
 ·obtain rfl := List.eq_nil_of_length_eq_zero a1
  exact PCalls.viaS [] (rAmp_e (some ⟨5, 0, some default⟩)) ro0 trivial rfl rfl rfl rfl
theorem rDisp_g {m : Mem} {i : Nat} {v : Value} {xs : List Int} (h : SlV m i v (flatN xs) xs.length) (hE : dsE xs = 0) : PCalls Tryz.prog 50 [v] m (.agg #[.int .i64 (dsA xs), .int .i64 (dsB xs)]) := by
 have h2 : 0 < xs.length := by
  rcases Nat.lt_or_ge xs.length 2 with h3 | h3
  ·rw [dsE_lo h3] at hE
   cases hE
  ·omega
 obtain ⟨rfl, A, a1, a2, a3⟩ := h.pos h2
 exact PCalls.viaS [i] (rDisp_0 xs INF A.esz hE) (ro1p _ rfl) ⟨bS a1 a3 a2 (flatN_scal _), trivial⟩ rfl rfl rfl rfl
end Go.Proofs.YtmohcmghbfhdlaaGreat
end
end
/- MeshDisperses: the scatterers that the reference chooses. -/
section
set_option linter.unusedSimpArgs false
set_option linter.unusedVariables false
section
namespace Go.Ab
def kp (n : Nat) (v : Value) : Prop := ok1 n v = true ∧ ∀ σ : Nat → Nat, (∀ b, b < n → σ b = b) → rn1 σ v = v
theorem kp_scal {n : Nat} {v : Value} (h : scal v = true) : kp n v := ⟨ok1_scal h, fun _ _ => rn1_scal h⟩
theorem kp_slice {n b o k c : Nat} (h : b < n) : kp n (.slice (some ⟨b, o, none⟩) k c) := ⟨decide_eq_true h, fun σ hσ => by
 show Value.slice (some ⟨σ b, o, none⟩) k c = _
 rw [hσ b h]⟩
theorem kp_lost {n : Nat} (h : 0 < n) : kp n lostV := ⟨rfl, fun σ hσ => by
 show Value.slice (some ⟨σ 0, 0, some default⟩) 0 0 = _
 rw [hσ 0 h]⟩
theorem ok1_mono {n n' : Nat} {v : Value} (hn : n ≤ n') (h : ok1 n v = true) : ok1 n' v = true := by
 rcases ok1_cases h with h | ⟨b, o, hb, rfl⟩ | ⟨b, o, k, c, hb, rfl⟩ | ⟨b, o, sp, c, rfl⟩ | ⟨b, hb, rfl⟩
 ·exact ok1_scal h
 ·exact decide_eq_true (Nat.lt_of_lt_of_le hb hn)
 ·exact decide_eq_true (Nat.lt_of_lt_of_le hb hn)
 ·rfl
 ·exact decide_eq_true (Nat.lt_of_lt_of_le hb hn)
theorem cells_keep {n0 n : Nat} {js : List Nat} {cs : List Value} (h : ∀ v ∈ cs, kp n0 v) (hn : n0 ≤ n) : cellsRen (kσ n0 js) n cs cs := by
 refine .inr ⟨?_, List.all_eq_true.2 fun v hv => ok1_mono hn (h v hv).1⟩
 have : cs.map (rn1 (kσ n0 js)) = cs.map id := List.map_congr_left fun v hv => (h v hv).2 _ fun b hb => if_pos hb
 rw [this, List.map_id]
end Go.Ab
namespace Go.Me
open Go.Ab
abbrev Sc := Pn × Value
def scC (s : Sc) : List Value := [.int .i64 s.1.x, .int .i64 s.1.y, s.2]
def flatS (S : List Sc) : List Value := S.flatMap scC
def sc (S : List Sc) (k : Nat) : Sc := S.getD k (⟨0, 0⟩, .slice none 0 0)
def psS (S : List Sc) : List Pn := S.map Prod.fst
theorem psS_len (S : List Sc) : (psS S).length = S.length := List.length_map _
theorem psS_pt {S : List Sc} {k : Nat} (hk : k < S.length) : pt (psS S) k = (sc S k).1 := by
 unfold pt psS sc
 rw [List.getD_eq_getElem?_getD, List.getD_eq_getElem?_getD, List.getElem?_map, List.getElem?_eq_getElem hk]
 rfl
theorem flatS_ld {m : Mem} {b : Nat} {blk : Blk} {S : List Sc} (hb : m.at b = some blk) (hc : blk.cells = flatS S) (k : Nat) (hk : k < S.length) : m.ld b (k * 3) 3 = some [.int .i64 (sc S k).1.x, .int .i64 (sc S k).1.y, (sc S k).2] := Ls.flat_ld scC 3 (fun _ => rfl) (⟨0, 0⟩, .slice none 0 0) S hb hc k hk
theorem SlV.kp {m : Mem} {i n k : Nat} {v : Value} {cs : List Value} (h : SlV m i v cs n) (hk : i < k) : Ab.kp k v := by
 rcases h with ⟨A, h0, rfl, h1, h2, h3⟩ | ⟨h1, rfl⟩ | ⟨h1, rfl⟩
 ·exact kp_slice hk
 ·exact kp_scal rfl
 ·exact kp_lost (by omega)
theorem flatS_kp {S : List Sc} {n : Nat} (h : ∀ k, k < S.length → kp n (sc S k).2) : ∀ v ∈ flatS S, kp n v := fun v hv => by
 obtain ⟨s, hs, hv⟩ := List.mem_flatMap.1 hv
 obtain ⟨k, hk, rfl⟩ := List.mem_iff_getElem.1 hs
 have := h k hk
 unfold sc at this
 rw [List.getD_eq_getElem?_getD, List.getElem?_eq_getElem hk] at this
 unfold scC at hv
 simp only [List.mem_cons, List.not_mem_nil, or_false] at hv
 rcases hv with rfl | rfl | rfl
 ·exact kp_scal rfl
 ·exact kp_scal rfl
 ·exact this
theorem pt_take {l : List Pn} {n j : Nat} (h : j < n) : pt (l.take n) j = pt l j := by
 unfold pt
 rw [List.getD_eq_getElem?_getD, List.getD_eq_getElem?_getD, List.getElem?_take, if_pos h]
theorem idxP_take {l : List Pn} {n : Nat} (p : Pn) : ∀ k, k ≤ n → idxP (l.take n) p k = idxP l p k := by
 intro k
 induction k with
 | zero => intro _; rfl
 | succ k ih =>
  intro h
  unfold idxP
  rw [ih (by omega), pt_take (by omega)]
theorem ptE_take {l : List Pn} {n k : Nat} (h : k < n) : ptE (l.take n) k = ptE l k := by
 unfold ptE
 rw [pt_take h, idxP_take _ k (by omega)]
def scE (S : List Sc) (a : Nat → List Int) (k : Nat) : Int := if ptE (psS S) k ≠ 0 then ptE (psS S) k else dsE (a k)
def chN (S : List Sc) (a : Nat → List Int) : Nat → Int
 | 0 => 0
 | k + 1 => if chN S a k ≠ 0 then chN S a k else scE S a k
theorem chN_no {S : List Sc} {a : Nat → List Int} : ∀ k, (∀ j, j < k → scE S a j = 0) → chN S a k = 0 := by
 intro k
 induction k with
 | zero => intro _; rfl
 | succ k ih =>
  intro h
  unfold chN
  rw [ih (fun j hj => h j (by omega)), if_neg (fun h2 => h2 rfl)]
  exact h k (by omega)
theorem chN_at {S : List Sc} {a : Nat → List Int} {k : Nat} (hj : ∀ j, j < k → scE S a j = 0) (h : scE S a k ≠ 0) : ∀ n, k < n → chN S a n = scE S a k := by
 intro n
 induction n with
 | zero => intro h; omega
 | succ n ih =>
  intro hn
  rcases Nat.lt_or_eq_of_le (Nat.le_of_lt_succ hn) with h2 | rfl
  ·have := ih h2
   unfold chN
   rw [this, if_pos h]
  ·unfold chN
   rw [if_neg (fun h2 => h2 (chN_no k hj))]
def frX (u d : Int) : Int := if 0 < d ∧ Int.gcd u d = 1 then (if (0 ≤ u ∧ u ≤ 1000000000) ∧ d ≤ 1000000000 then 0 else 2) else 3
def chX (S : List Sc) (a : Nat → List Int) (u d : Int) : Int := if chN S a S.length ≠ 0 then chN S a S.length else frX u d
def chT (a : Nat → List Int) (u d : Int) : Nat → List Int
 | 0 => []
 | k + 1 => if dsA (a k) * d ≤ u * dsB (a k) then chT a u d k ++ [(k : Int)] else chT a u d k
def chR (S : List Sc) (a : Nat → List Int) (u d : Int) : List Int := if chX S a u d = 0 then chT a u d S.length else []
def oV (k : Nat) (xs : List Int) : Value := if xs = [] then .slice none 0 0 else .slice (some ⟨k, 0, none⟩) xs.length INF
def oB (xs : List Int) : Option Blk := if xs = [] then none else some ⟨flatN xs, true, 1⟩
theorem oV_n (k : Nat) : oV k [] = .slice none 0 0 := if_pos rfl
theorem oB_n : oB [] = none := if_pos rfl
theorem oV_s {k : Nat} {xs : List Int} (h : xs ≠ []) : oV k xs = .slice (some ⟨k, 0, none⟩) xs.length INF := if_neg h
theorem oB_s {xs : List Int} (h : xs ≠ []) : oB xs = some ⟨flatN xs, true, 1⟩ := if_neg h
end Go.Me
end
end
