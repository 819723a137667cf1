/- Chapter 6: an open net: how it lies; the triangle at the left of an edge. -/
import Derived.Test.YtmohcmghbfhdlaaGreatQd
import Derived.Test.YtmohcmghbfhdlaaGreatQh
import Derived.WideKeyPair
import Derived.Test.YtmohcmghbfhdlaaGreatQf
section
set_option linter.unusedSimpArgs false
set_option linter.unusedVariables false
section
namespace Go.Me
open Go.Ab
abbrev T3 := Int × Int × Int
abbrev IE := Int × Int
def tcC (t : T3) : List Value := [.int .i64 t.1, .int .i64 t.2.1, .int .i64 t.2.2]
def flatT (ts : List T3) : List Value := ts.flatMap tcC
def tr (ts : List T3) (k : Nat) : T3 := ts.getD k (0, 0, 0)
theorem flatT_scal (ts : List T3) : (flatT ts).all Ab.scal = true := Ls.flat_scal tcC (fun _ => rfl) ts
theorem flatT_len (ts : List T3) : (flatT ts).length = ts.length * 3 := Ls.flat_len tcC 3 (fun _ => rfl) ts
theorem flatT_ld {m : Mem} {b : Nat} {blk : Blk} {ts : List T3} (hb : m.at b = some blk) (hc : blk.cells = flatT ts) (k : Nat) (hk : k < ts.length) : m.ld b (k * 3) 3 = some [.int .i64 (tr ts k).1, .int .i64 (tr ts k).2.1, .int .i64 (tr ts k).2.2] :=
 Ls.flat_ld tcC 3 (fun _ => rfl) (0, 0, 0) ts hb hc k hk
theorem flatT_get (ts : List T3) (k : Nat) (hk : k < ts.length) : (flatT ts)[k * 3]? = some (.int .i64 (tr ts k).1) ∧ (flatT ts)[k * 3 + 1]? = some (.int .i64 (tr ts k).2.1) ∧ (flatT ts)[k * 3 + 2]? = some (.int .i64 (tr ts k).2.2) :=
 ⟨Ls.flat_get tcC 3 (fun _ => rfl) (0, 0, 0) ts k 0 (by decide) hk, Ls.flat_get tcC 3 (fun _ => rfl) (0, 0, 0) ts k 1 (by decide) hk, Ls.flat_get tcC 3 (fun _ => rfl) (0, 0, 0) ts k 2 (by decide) hk⟩
def encE (e : IE) : Value := .agg #[.int .i64 e.1, .int .i64 e.2]
def encI (n : Int) : Value := .int .i64 n
def ed (t : T3) : List IE := [(t.1, t.2.1), (t.2.1, t.2.2), (t.2.2, t.1)]
def lfV (L : List (IE × Int)) : List (IE × Value) := L.map fun p => (p.1, .int .i64 p.2)
def lk : List (IE × Int) → IE → Int
 | [], _ => -1
 | p :: r, e => if p.1 = e then p.2 else lk r e
theorem lk_mem {e : IE} : ∀ {L : List (IE × Int)}, e ∈ L.map (·.1) → (e, lk L e) ∈ L
 | [], h => by simp at h
 | p :: r, h => by
  unfold lk
  by_cases he : p.1 = e
  ·rw [if_pos he, ← he]
   exact List.mem_cons_self
  ·rw [if_neg he]
   rw [List.map_cons, List.mem_cons] at h
   exact List.mem_cons_of_mem _ (lk_mem (h.resolve_left (fun h => he h.symm)))
theorem lk_not {e : IE} : ∀ {L : List (IE × Int)}, e ∉ L.map (·.1) → lk L e = -1
 | [], _ => rfl
 | p :: r, h => by
  rw [List.map_cons, List.mem_cons, not_or] at h
  unfold lk
  rw [if_neg (fun he => h.1 he.symm), lk_not h.2]
theorem lfV_keys (L : List (IE × Int)) : (lfV L).map (·.1) = L.map (·.1) := by
 unfold lfV
 rw [List.map_map]
 rfl
theorem lfV_mem {L : List (IE × Int)} {e : IE} (h : e ∈ L.map (·.1)) : (e, Value.int .i64 (lk L e)) ∈ lfV L :=
 List.mem_map.2 ⟨_, lk_mem h, rfl⟩
end Go.Me
namespace Go.Proofs.YtmohcmghbfhdlaaGreat
open Go Go.RowKit Go.Ab Go.Me Go.WideMaps
set_option maxRecDepth 100000
set_option maxHeartbeats 4000000
attribute [local irreducible] OQ OW AL AW AF SW
def okE (e : IE) : Prop := (0 ≤ e.1 ∧ e.1 ≤ 1000000) ∧ (0 ≤ e.2 ∧ e.2 ≤ 1000000)
theorem wf_ok {n : Int} (h : 0 ≤ n ∧ n ≤ 1000000) : (Lit.int .i64 n).wf = true := by
 have h1 : IntKind.i64.min = -9223372036854775808 := by decide
 have h2 : IntKind.i64.max = 9223372036854775807 := by decide
 show (decide (IntKind.i64.min ≤ n) && decide (n ≤ IntKind.i64.max)) = true
 rw [h1, h2, Bool.and_eq_true, decide_eq_true_iff, decide_eq_true_iff]
 omega
theorem KE : KEnc encE Tryz.prog 52 okE :=
 have A : ArrKey Tryz.prog 52 3 2 := ⟨Tryz.underlying52, by kernel_rfl, by kernel_rfl, by kernel_rfl⟩
 ⟨⟨_, MKey.arr A, fun k hk => ⟨_, keyOf_pair A Tryz.underlying3 ⟨_, rfl⟩ (wf_ok hk.1) (wf_ok hk.2)⟩⟩, fun a b h => by
  unfold encE at h
  simp only [Value.agg.injEq, Array.mk.injEq, List.cons.injEq, Value.int.injEq, true_and, and_true] at h
  exact Prod.ext h.1 h.2, fun _ => rfl, fun _ => rfl⟩
theorem KI : KEnc encI Tryz.prog 3 (fun _ => True) :=
 ⟨⟨_, MKey.int Tryz.underlying3, fun k _ => ⟨k, rfl⟩⟩, fun a b h => by
  unfold encI at h
  simpa using h, fun _ => rfl, fun _ => rfl⟩
def netC (n c k c2 : Nat) (ev : Value) : List Value := [.slice (some ⟨0, 0, none⟩) n c, .slice (some ⟨1, 0, none⟩) k c2, ev, .map (some 3)]
theorem ro4p (a b c d : Blk) (h1 : a.own = false) (h2 : b.own = false) (h3 : c.own = false) (h4 : d.own = false) : Mem.ro [some a, some b, some c, some d] := fun k blk hk => by
 match k, hk with
 | 0, hk => cases hk; exact h1
 | 1, hk => cases hk; exact h2
 | 2, hk => cases hk; exact h3
 | 3, hk => cases hk; exact h4
theorem at_0 (A B : Blk) (hA : A.own = false) (hB : B.own = false) (n c k c2 z : Nat) (ev : Value) (L : List (IE × Int)) (hn : (L.map (·.1)).Nodup) (hL : ∀ p ∈ L, okE p.1) (a b : Int) (hab : okE (a, b)) :
  PCalls Tryz.prog 130 [.pointer (some ⟨2, 0, none⟩), .int .i64 a, .int .i64 b] [some A, some B, some ⟨netC n c k c2 ev, false, z⟩, some (mpR encE (lfV L))] (.int .i64 (lk L (a, b))) := by
 have hk2 := lfV_keys L
 have hL2 : ∀ p ∈ lfV L, okE p.1 := fun p hp => by
  obtain ⟨x, hx, rfl⟩ := List.mem_map.1 hp
  exact hL x hx
 unfold netC
 by_cases he : (a, b) ∈ L.map (·.1)
 ·have hm := lfV_mem he
  refine PCalls.en 19 Tryz.func130 rfl (ro4p _ _ _ _ hA hB rfl rfl) rfl (fun E => ?_)
  repeat' (first | with_reducible (first | refine Then.n ?_ | refine Then.r ?_) | ((with_reducible refine AL.on ?_); first | ((first | refine AL.mv ?_ | refine AL.as ?_ | refine AL.et ?_ | ((with_reducible refine AL.k_fieldAddr ?_); refine AL.g (OQ.fieldA (ty := 110) (i := 2) (n := 1) (off := 3) (g := false) rfl kr (by decide)) ?_) | ((with_reducible refine AL.k_load ?_); (refine AL.g (OQ.load1 (ty := 108) rfl kr wl) ?_)) | refine AL.g (OQ.nilCheck rfl) ?_ | (refine AL.g (OQ.mlookS (k := (a, b)) KE hab hL2 rfl rfl Tryz.underlying108 rfl (by rw [hk2]; exact hn) hm rfl).1 ?_)); refine AL.nm ?_) | ((refine AL.g (OQ.buildA (ty := 52) (zs := [.int .i64 0, .int .i64 0]) (n := 1) (k := 2) (g := false) kr rfl kr rfl rfl rfl) ?_); refine AL.nm ?_) | refine AL.nil ?_) | ((with_reducible refine AW.on ?_); first | refine AW.seq ?_ | refine AW.ret ?_ | refine AW.region ?_ | (refine AW.conds rfl (fun hc => ?_) (fun hc => ?_) <;> (try replace hc := nc hc) <;> first | (exfalso; contradiction) | skip)) | ((with_reducible refine FinP.on ?_); (refine FinP.ret (.tmp wl .nil) ?_ rfl); (try simp only [pack, List.drop, List.take]); all_goals (rfl)))
 ·have hl := lk_not he
  rw [hl]
  refine PCalls.en 19 Tryz.func130 rfl (ro4p _ _ _ _ hA hB rfl rfl) rfl (fun E => ?_)
  repeat' (first | with_reducible (refine Then.n ?_) | ((with_reducible refine AL.on ?_); first | ((first | refine AL.mv ?_ | refine AL.as ?_ | refine AL.et ?_ | ((with_reducible refine AL.k_fieldAddr ?_); refine AL.g (OQ.fieldA (ty := 110) (i := 2) (n := 1) (off := 3) (g := false) rfl kr (by decide)) ?_) | ((with_reducible refine AL.k_load ?_); (refine AL.g (OQ.load1 (ty := 108) rfl kr wl) ?_)) | refine AL.g (OQ.nilCheck rfl) ?_ | (refine AL.g (OQ.mlookN (k := (a, b)) (v := .int .i64 0) KE hab hL2 rfl rfl Tryz.underlying108 rfl (by rw [hk2]; exact he) (fun w => by kernel_rfl) rfl).1 ?_)); refine AL.nm ?_) | ((refine AL.g (OQ.buildA (ty := 52) (zs := [.int .i64 0, .int .i64 0]) (n := 1) (k := 2) (g := false) kr rfl kr rfl rfl rfl) ?_); refine AL.nm ?_) | refine AL.nil ?_) | ((with_reducible refine AW.on ?_); first | refine AW.seq ?_ | refine AW.skip ?_ | refine AW.ret ?_ | refine AW.region ?_ | (refine AW.conds rfl (fun hc => ?_) (fun hc => ?_) <;> (try replace hc := nc hc) <;> first | (exfalso; contradiction) | skip)) | ((with_reducible refine FinP.on ?_); (refine FinP.ret (.tmp wl .nil) ?_ rfl); (try simp only [pack, List.drop, List.take]); all_goals (rfl)))
end Go.Proofs.YtmohcmghbfhdlaaGreat
end
end
/- Chapter 6: few points, and points in memory of their own (the law's). -/
section
set_option linter.unusedSimpArgs false
set_option linter.unusedVariables false
section
namespace Go.Me
def fwB (n : Nat) : Bool := decide ((n : Int) ≤ 9 ∨ ((n : Int) > 40 ∧ (n : Int) ≤ 42))
end Go.Me
namespace Go.Proofs.YtmohcmghbfhdlaaGreat
open Go Go.RowKit Go.Ab Go.Me
set_option maxRecDepth 100000
set_option maxHeartbeats 4000000
attribute [local irreducible] OQ OW AL AW AF SW
theorem few_0 (l : List Pn) (c z : Nat) (hl : (l.length : Int) ≤ 9223372036854775807) : PCalls Tryz.prog 56 [.slice (some ⟨0, 0, none⟩) l.length c] [some ⟨flatP l, false, z⟩] (.bool (fwB l.length)) := by
 have h1 : (l.length : Int) ≤ 9 → fwB l.length = true := fun h => decide_eq_true (.inl h)
 have h2 : 9 < (l.length : Int) → 40 < (l.length : Int) → fwB l.length = decide ((l.length : Int) ≤ 42) := fun h h2 => by
  unfold fwB
  by_cases h3 : (l.length : Int) ≤ 42
  ·rw [decide_eq_true h3]; exact decide_eq_true (.inr ⟨h2, h3⟩)
  ·rw [decide_eq_false h3]; exact decide_eq_false (by omega)
 have h3 : 9 < (l.length : Int) → (l.length : Int) ≤ 40 → fwB l.length = false := fun h h2 => decide_eq_false (by omega)
 generalize fwB l.length = B0 at *
 refine PCalls.en 15 Tryz.func56 rfl (ro1p _ rfl) rfl (fun E => ?_)
 repeat' (first | with_reducible (refine Then.n ?_) | ((with_reducible refine AL.on ?_); first | (refine AL.gd rfl ?_; first | (refine AL.gskip rfl rfl ?_; refine AL.nm ?_) | (refine AL.gs1 rfl rfl (fun hc => ?_) (fun hc => ?_) <;> (try replace hc := nc hc) <;> first | (exfalso; contradiction) | refine AL.nm ?_) | (refine AL.gs0 rfl rfl (fun hc => ?_) (fun hc => ?_) <;> (try replace hc := nc hc) <;> first | (exfalso; contradiction) | refine AL.nm ?_)) | ((first | refine AL.mv ?_ | ((with_reducible refine AL.k_call ?_); refine AL.g (OQ.lenS (xt := 22) (r := (none, 2, true)) rfl kr) ?_) | ((with_reducible refine AL.k_binOp ?_); first | refine AL.g (OQ.leq rfl rfl) ?_ | refine AL.g (OQ.gtr rfl rfl) ?_) | refine AL.as ?_ | ((with_reducible refine AL.k_pick ?_); first | refine AL.pT ?_ | refine AL.pF ?_)); refine AL.nm ?_) | refine AL.nil ?_) | ((with_reducible refine AW.on ?_); first | refine AW.seq ?_ | refine AW.ret ?_ | refine AW.region ?_) | ((with_reducible refine FinP.on ?_); (refine FinP.ret (.tmp wl .nil) ?_ rfl); (try simp only [pack, List.drop, List.take]); all_goals (first | (rw [h1 (by omega)]; done) | (rw [h2 (by omega) (by omega)]; done) | (rw [h3 (by omega) (by omega)]; done))))
end Go.Proofs.YtmohcmghbfhdlaaGreat
end
end
/- Chapter 6: few, Light and the copy of a net, for lists of any form. -/
section
set_option linter.unusedSimpArgs false
set_option linter.unusedVariables false
section
namespace Go.Me
open Go.Ab
def fwT (n : Nat) : Bool := decide ((n : Int) ≤ 14 ∨ ((n : Int) > 80 ∧ (n : Int) ≤ 82))
def liB (l : List Pn) (ts : List T3) : Bool := fwB l.length && fwT ts.length
def cpC (n : Nat) : Nat := if n = 0 then 0 else INF
theorem ldP {m : Mem} {b n : Nat} {blk : Blk} {l : List Pn} (hb : m.at b = some blk) (hc : blk.cells = flatP l) (hn : l.length = n) : m.ld b 0 (n * 2) = some (flatP l) := by
 subst hn
 unfold Mem.ld
 rw [hb]
 show (if 0 + l.length * 2 ≤ blk.cells.length then some ((blk.cells.drop 0).take (l.length * 2)) else none) = _
 rw [hc, flatP_len, if_pos (by omega), List.drop_zero, ← flatP_len, List.take_length]
theorem ldT {m : Mem} {b n : Nat} {blk : Blk} {l : List T3} (hb : m.at b = some blk) (hc : blk.cells = flatT l) (hn : l.length = n) : m.ld b 0 (n * 3) = some (flatT l) := by
 subst hn
 unfold Mem.ld
 rw [hb]
 show (if 0 + l.length * 3 ≤ blk.cells.length then some ((blk.cells.drop 0).take (l.length * 3)) else none) = _
 rw [hc, flatT_len, if_pos (by omega), List.drop_zero, ← flatT_len, List.take_length]
theorem flatP_one (l : List Pn) : (flatP l).all Ab.one = true := Ls.one_of_scal (flatP_scal l)
theorem flatT_one (l : List T3) : (flatT l).all Ab.one = true := Ls.one_of_scal (flatT_scal l)
end Go.Me
namespace Go.Proofs.YtmohcmghbfhdlaaGreat
open Go Go.RowKit Go.Ab Go.Me
set_option maxRecDepth 100000
set_option maxHeartbeats 4000000
attribute [local irreducible] OQ OW AL AW AF SW
theorem few_ng (m : Mem) : PCalls Tryz.prog 56 [.slice none 0 0] m (.bool true) := by
 refine PCalls.any ?_ rfl rfl m
 refine PCalls.en 15 Tryz.func56 rfl (ro_nil) rfl (fun E => ?_)
 repeat' (first | with_reducible (refine Then.n ?_) | ((with_reducible refine AL.on ?_); first | (refine AL.gd rfl ?_; first | (refine AL.gskip rfl rfl ?_; refine AL.nm ?_) | (refine AL.gs0 rfl rfl (fun hc => ?_) (fun hc => ?_) <;> (try replace hc := nc hc) <;> first | (exfalso; contradiction) | refine AL.nm ?_)) | ((first | refine AL.mv ?_ | ((with_reducible refine AL.k_call ?_); refine AL.g (OQ.lenS (xt := 22) (r := (none, 2, true)) rfl kr) ?_) | ((with_reducible refine AL.k_binOp ?_); refine AL.g (OQ.leq rfl rfl) ?_) | refine AL.as ?_ | refine AL.pT ?_); refine AL.nm ?_) | refine AL.nil ?_) | ((with_reducible refine AW.on ?_); first | refine AW.seq ?_ | refine AW.ret ?_ | refine AW.region ?_) | ((with_reducible refine FinP.on ?_); (refine FinP.ret (.tmp wl .nil) ?_ rfl); (try simp only [pack, List.drop, List.take]); all_goals (rfl)))
theorem few_lg (m : Mem) : PCalls Tryz.prog 56 [lostV] m (.bool true) := by
 refine PCalls.viaS (m0 := []) (args0 := [lostV]) (v0 := .bool true) [] ?_ (fun b blk h => by simp [Mem.at] at h) trivial rfl rfl rfl rfl
 refine PCalls.en 15 Tryz.func56 rfl (ro_nil) rfl (fun E => ?_)
 repeat' (first | with_reducible (refine Then.n ?_) | ((with_reducible refine AL.on ?_); first | (refine AL.gd rfl ?_; first | (refine AL.gskip rfl rfl ?_; refine AL.nm ?_) | (refine AL.gs0 rfl rfl (fun hc => ?_) (fun hc => ?_) <;> (try replace hc := nc hc) <;> first | (exfalso; contradiction) | refine AL.nm ?_)) | ((first | refine AL.mv ?_ | ((with_reducible refine AL.k_call ?_); refine AL.g (OQ.lenS (xt := 22) (r := (none, 2, true)) rfl kr) ?_) | ((with_reducible refine AL.k_binOp ?_); refine AL.g (OQ.leq rfl rfl) ?_) | refine AL.as ?_ | refine AL.pT ?_); refine AL.nm ?_) | refine AL.nil ?_) | ((with_reducible refine AW.on ?_); first | refine AW.seq ?_ | refine AW.ret ?_ | refine AW.region ?_) | ((with_reducible refine FinP.on ?_); (refine FinP.ret (.tmp wl .nil) ?_ rfl); (try simp only [pack, List.drop, List.take]); all_goals (rfl)))
theorem VRel.to_lost5 {ρ : Ren} {i o c : Nat} {v : Value} (h : VRel ρ (.slice (some ⟨i, o, some default⟩) 0 c) v) : VRel ρ lostV v := by
 cases h with
 | scal h => simp [Ab.scal] at h
 | empty => exact .lost
 | lost => exact .lost
theorem few_l5 (m : Mem) : PCalls Tryz.prog 56 [.slice (some ⟨5, 0, some default⟩) 0 0] m (.bool true) := by
 intro ρ args' w hdom hargs hm
 refine few_lg m ρ args' w hdom ?_ hm
 obtain ⟨xs, e, hl, hg⟩ := hargs.tuple_inv
 cases e
 refine .tuple (by simpa using hl) fun i hi hi' => ?_
 match i with
 | 0 =>
  obtain ⟨u, e0, r0⟩ := hg 0 _ rfl
  rw [Array.getElem?_eq_getElem hi'] at e0
  cases e0
  exact VRel.to_lost5 r0
 | i + 1 => exact absurd hi (by simp)
theorem few_bg {m : Mem} {b n c : Nat} {blk : Blk} (l : List Pn) (hb : m.at b = some blk) (hc : blk.cells = flatP l) (hn : l.length = n) (hl : (l.length : Int) ≤ 9223372036854775807) (ho : blk.obj = Ob.plain := by rfl) : PCalls Tryz.prog 56 [.slice (some ⟨b, 0, none⟩) n c] m (.bool (fwB n)) := by
 subst hn
 exact PCalls.viaS [b] (few_0 l c blk.esz hl) (ro1p _ rfl) ⟨bS hb ho hc (flatP_scal _), trivial⟩ rfl rfl rfl rfl
theorem Light_e (v : Value) (l : List Pn) (xb : Option Addr) (o1 o2 : Option Blk) (hr : Mem.ro [o1, o2]) (hF : ∀ m : Mem, m.at 0 = Mem.at [o1, o2] 0 → PCalls Tryz.prog 56 [v] m (.bool (fwB l.length))) : PCalls Tryz.prog 13 [.agg #[v, .slice xb 0 0]] [o1, o2] (.bool (liB l [])) := by
 have hT0 : fwT ([] : List T3).length = true := by decide
 unfold liB
 generalize fwB l.length = B1 at *
 rw [hT0, Bool.and_true]
 refine PCalls.en 23 Tryz.func13 rfl (hr) rfl (fun E => ?_)
 repeat' (first | with_reducible (refine Then.n ?_) | ((with_reducible refine AL.on ?_); first | (refine AL.gd rfl ?_; first | (refine AL.gskip rfl rfl ?_; refine AL.nm ?_) | (refine AL.gs1 rfl rfl (fun hc => ?_) (fun hc => ?_) <;> (try replace hc := nc hc) <;> first | (exfalso; contradiction) | refine AL.nm ?_) | (refine AL.gs0 rfl rfl (fun hc => ?_) (fun hc => ?_) <;> (try replace hc := nc hc) <;> first | (exfalso; contradiction) | refine AL.nm ?_)) | ((first | ((with_reducible refine AL.k_fieldAddr ?_); first | refine AL.g (OQ.fieldA (ty := 25) (i := 0) (n := 1) (off := 0) (g := false) rfl kr (by decide)) ?_ | refine AL.g (OQ.fieldA (ty := 25) (i := 1) (n := 1) (off := 1) (g := false) rfl kr (by decide)) ?_) | ((with_reducible refine AL.k_load ?_); first | (refine AL.g (OQ.load1 (ty := 22) rfl kr wl) ?_) | (refine AL.g (OQ.load1 (ty := 23) rfl kr wl) ?_)) | ((with_reducible refine AL.k_call ?_); refine AL.g (OQ.lenS (xt := 23) (r := (none, 3, true)) rfl kr) ?_) | refine AL.mv ?_ | ((with_reducible refine AL.k_binOp ?_); refine AL.g (OQ.leq rfl rfl) ?_) | ((with_reducible refine AL.k_pick ?_); first | refine AL.pT ?_ | refine AL.pF ?_) | refine AL.as ?_); refine AL.nm ?_) | ((refine AL.pcall (g := 56) rfl kr rfl ((by exact hF _ rfl)) ?_); refine AL.nm ?_) | ((refine AL.bx ?_); refine AL.nm ?_; refine AL.nM ?_) | refine AL.nil ?_) | ((with_reducible refine AW.on ?_); first | refine AW.seq ?_ | refine AW.ret ?_ | refine AW.region ?_) | ((with_reducible refine FinP.on ?_); (refine FinP.ret (.tmp wl .nil) ?_ rfl); (try simp only [pack, List.drop, List.take]); all_goals ((simp_all; done))))
theorem Light_b (v : Value) (l : List Pn) (ts : List T3) (c2 : Nat) (ht : (ts.length : Int) ≤ 9223372036854775807) (o1 o2 : Option Blk) (hr : Mem.ro [o1, o2]) (hF : ∀ m : Mem, m.at 0 = Mem.at [o1, o2] 0 → PCalls Tryz.prog 56 [v] m (.bool (fwB l.length))) : PCalls Tryz.prog 13 [.agg #[v, .slice (some ⟨1, 0, none⟩) ts.length c2]] [o1, o2] (.bool (liB l ts)) := by
 have hT0 : fwT ([] : List T3).length = true := by decide
 have t1 : (ts.length : Int) ≤ 14 → fwT ts.length = true := fun h => decide_eq_true (.inl h)
 have t2 : 14 < (ts.length : Int) → 80 < (ts.length : Int) → fwT ts.length = decide ((ts.length : Int) ≤ 82) := fun h h2 => by
  unfold fwT
  by_cases h3 : (ts.length : Int) ≤ 82
  ·rw [decide_eq_true h3]; exact decide_eq_true (.inr ⟨h2, h3⟩)
  ·rw [decide_eq_false h3]; exact decide_eq_false (by omega)
 have t3 : 14 < (ts.length : Int) → (ts.length : Int) ≤ 80 → fwT ts.length = false := fun h h2 => decide_eq_false (by omega)
 unfold liB
 generalize fwB l.length = B1 at *
 generalize fwT ts.length = B2 at *
 refine PCalls.en 23 Tryz.func13 rfl (hr) rfl (fun E => ?_)
 repeat' (first | with_reducible (refine Then.n ?_) | ((with_reducible refine AL.on ?_); first | (refine AL.gd rfl ?_; first | (refine AL.gskip rfl rfl ?_; refine AL.nm ?_) | (refine AL.gs1 rfl rfl (fun hc => ?_) (fun hc => ?_) <;> (try replace hc := nc hc) <;> first | (exfalso; contradiction) | refine AL.nm ?_) | (refine AL.gs0 rfl rfl (fun hc => ?_) (fun hc => ?_) <;> (try replace hc := nc hc) <;> first | (exfalso; contradiction) | refine AL.nm ?_)) | ((first | ((with_reducible refine AL.k_fieldAddr ?_); first | refine AL.g (OQ.fieldA (ty := 25) (i := 0) (n := 1) (off := 0) (g := false) rfl kr (by decide)) ?_ | refine AL.g (OQ.fieldA (ty := 25) (i := 1) (n := 1) (off := 1) (g := false) rfl kr (by decide)) ?_) | ((with_reducible refine AL.k_load ?_); first | (refine AL.g (OQ.load1 (ty := 22) rfl kr wl) ?_) | (refine AL.g (OQ.load1 (ty := 23) rfl kr wl) ?_)) | ((with_reducible refine AL.k_call ?_); refine AL.g (OQ.lenS (xt := 23) (r := (none, 3, true)) rfl kr) ?_) | refine AL.mv ?_ | ((with_reducible refine AL.k_binOp ?_); first | refine AL.g (OQ.leq rfl rfl) ?_ | refine AL.g (OQ.gtr rfl rfl) ?_) | ((with_reducible refine AL.k_pick ?_); first | refine AL.pT ?_ | refine AL.pF ?_) | refine AL.as ?_); refine AL.nm ?_) | ((refine AL.pcall (g := 56) rfl kr rfl ((by exact hF _ rfl)) ?_); refine AL.nm ?_) | ((refine AL.bx ?_); refine AL.nm ?_; refine AL.nM ?_) | refine AL.nil ?_) | ((with_reducible refine AW.on ?_); first | refine AW.seq ?_ | refine AW.ret ?_ | refine AW.region ?_) | ((with_reducible refine FinP.on ?_); (refine FinP.ret (.tmp wl .nil) ?_ rfl); (try simp only [pack, List.drop, List.take]); all_goals (first | (rw [t1 (by omega)]; simp_all; done) | (rw [t2 (by omega) (by omega)]; simp_all; done) | (rw [t3 (by omega) (by omega)]; simp_all; done) | (simp_all; done))))
theorem Copy_ee (xa : Option Addr) (xb : Option Addr) : ACalls Tryz.prog 15 [.agg #[.slice xa 0 0, .slice xb 0 0]] [] (.agg #[.slice (some ⟨0, 0, none⟩) 0 0, .slice (some ⟨1, 0, none⟩) 0 0]) [some ⟨flatP [], true, 2⟩, some ⟨flatT [], true, 3⟩] := by
 refine ACalls.en 11 Tryz.func15 rfl rfl (fun E hE => ?_)
 repeat' (first | with_reducible (refine Then.n ?_) | ((with_reducible refine AL.on ?_); first | ((refine AL.g (OQ.buildS (ty := 25) (zs := [.slice none 0 0, .slice none 0 0]) (pls := [(0, 1), (1, 1)]) kr rfl kr rfl rfl rfl) ?_); refine AL.nm ?_) | ((first | ((with_reducible refine AL.k_call ?_); refine AL.q rfl (by exact (by exact OQ.append0 (v := undef) (st := 23) (e := 62) (z := 3) rfl rfl kr kr)) ?_) | refine AL.bx ?_ | ((with_reducible refine AL.k_alloc ?_); refine AL.w rfl (OW.alloc (ty := 25) (z := [.slice none 0 0, .slice none 0 0]) kr rfl) ?_) | ((with_reducible refine AL.k_store ?_); (refine AL.w rfl (OW.store (ty := 25) (n := 2) rfl wl rfl rfl kr rfl rfl (by decide) rfl (Nat.le_of_ble_eq_true rfl) (by intro r h; cases h)) ?_))); refine AL.nm ?_; refine AL.nM ?_) | refine AL.nil ?_) | ((with_reducible refine AW.on ?_); first | refine AW.seq ?_ | refine AW.ret ?_ | (refine AW.drawF (id := 1) 7 #[0, 0, 2, 7, 0, 0, 32, 127, 255, 511] kr kr ?_; (conv => (arg 8; simp only [List.take_succ_cons, List.take_zero]))) | refine AW.region ?_) | ((with_reducible refine AF.on ?_); first | ((first | ((with_reducible refine AF.k_fieldAddr ?_); first | refine AF.q 0 (SW.q (OQ.fieldA (ty := 25) (i := 0) (n := 1) (off := 0) (g := false) rfl kr (by decide)) rfl) ?_ | refine AF.q 0 (SW.q (OQ.fieldA (ty := 25) (i := 1) (n := 1) (off := 1) (g := false) rfl kr (by decide)) rfl) ?_) | ((with_reducible refine AF.k_load ?_); first | (refine AF.ql rfl (SW.q (OQ.load1 (ty := 22) rfl kr wl) rfl) ?_) | (refine AF.ql rfl (SW.q (OQ.load1 (ty := 23) rfl kr wl) rfl) ?_))); refine AF.nm ?_) | ((first | ((with_reducible refine AF.k_buildSlice ?_); first | refine AF.n1 0 (SW.w (OW.buildSl0 (ty := 22) (z := (none, 2, true)) kr) rfl) rfl ?_ | refine AF.n1 0 (SW.w (OW.buildSl0 (ty := 23) (z := (none, 3, true)) kr) rfl) rfl ?_) | ((with_reducible refine AF.k_call ?_); refine AF.q 2 (SW.q (by exact (by exact OQ.append0 (v := undef) (st := 22) (e := 65) (z := 2) rfl rfl kr kr)) rfl) ?_)); refine AF.nm ?_; (conv => (arg 10; try tactic => exact nrmF))) | refine AF.nl ?_) | ((with_reducible refine FinA.on ?_); (refine FinA.keep 0 [2, 3] (.inl rfl) (.cellN (n := 2) wl kr kr rfl .nil) ?_ rfl (Nat.le_of_eq hE) rfl rfl ⟨kl rfl (flatP_scal _), kl rfl (flatT_scal _), trivial⟩; rfl)))
theorem Copy_eb (xa : Option Addr) (ts : List T3) (c2 z1 : Nat) (ht : ts.length ≤ 1000000) (h1 : 0 < ts.length) : ACalls Tryz.prog 15 [.agg #[.slice xa 0 0, .slice (some ⟨0, 0, none⟩) ts.length c2]] [some ⟨flatT ts, false, z1⟩] (.agg #[.slice (some ⟨1, 0, none⟩) 0 0, .slice (some ⟨2, 0, none⟩) ts.length INF]) [some ⟨flatT ts, false, z1⟩, some ⟨flatP [], true, 2⟩, some ⟨flatT ts, true, 3⟩] := by
 have hlen2 : 0 + ts.length = ts.length := Nat.zero_add _
 refine ACalls.en 11 Tryz.func15 rfl rfl (fun E hE => ?_)
 repeat' (first | with_reducible (refine Then.n ?_) | ((with_reducible refine AL.on ?_); first | ((refine AL.g (OQ.buildS (ty := 25) (zs := [.slice none 0 0, .slice none 0 0]) (pls := [(0, 1), (1, 1)]) kr rfl kr rfl rfl rfl) ?_); refine AL.nm ?_) | ((first | ((with_reducible refine AL.k_call ?_); refine AL.w rfl (OW.append (n := 0) (c := 0) (b := 4) (blk := ⟨[], true, 3⟩) (z := 3) (by' := 24) (zs := [.int .i64 0, .int .i64 0, .int .i64 0]) (e := 62) rfl rfl kr kr kr rfl kr (by omega) rfl rfl rfl (by decide) (Nat.le_refl _) (ldT rfl rfl rfl) (flatT_one _) (by omega) (by omega)) ?_) | refine AL.bx ?_ | ((with_reducible refine AL.k_alloc ?_); refine AL.w rfl (OW.alloc (ty := 25) (z := [.slice none 0 0, .slice none 0 0]) kr rfl) ?_) | ((with_reducible refine AL.k_store ?_); (refine AL.w rfl (OW.store (ty := 25) (n := 2) rfl wl rfl rfl kr rfl rfl (by decide) rfl (Nat.le_of_ble_eq_true rfl) (by intro r h; cases h)) ?_))); refine AL.nm ?_; refine AL.nM ?_) | refine AL.nil ?_) | ((with_reducible refine AW.on ?_); first | refine AW.seq ?_ | refine AW.ret ?_ | (refine AW.drawF (id := 1) 7 #[0, 0, 2, 7, 0, 0, 32, 127, 255, 511] kr kr ?_; (conv => (arg 8; simp only [List.take_succ_cons, List.take_zero]))) | refine AW.region ?_) | ((with_reducible refine AF.on ?_); first | ((first | ((with_reducible refine AF.k_fieldAddr ?_); first | refine AF.q 0 (SW.q (OQ.fieldA (ty := 25) (i := 0) (n := 1) (off := 0) (g := false) rfl kr (by decide)) rfl) ?_ | refine AF.q 0 (SW.q (OQ.fieldA (ty := 25) (i := 1) (n := 1) (off := 1) (g := false) rfl kr (by decide)) rfl) ?_) | ((with_reducible refine AF.k_load ?_); first | (refine AF.ql rfl (SW.q (OQ.load1 (ty := 22) rfl kr wl) rfl) ?_) | (refine AF.ql rfl (SW.q (OQ.load1 (ty := 23) rfl kr wl) rfl) ?_))); refine AF.nm ?_) | ((first | ((with_reducible refine AF.k_buildSlice ?_); first | refine AF.n1 0 (SW.w (OW.buildSl0 (ty := 22) (z := (none, 2, true)) kr) rfl) rfl ?_ | refine AF.n1 0 (SW.w (OW.buildSl0 (ty := 23) (z := (none, 3, true)) kr) rfl) rfl ?_) | ((with_reducible refine AF.k_call ?_); refine AF.q 2 (SW.q (by exact OQ.append0 (v := undef) (st := 22) (e := 65) (z := 2) rfl rfl kr kr) rfl) ?_)); refine AF.nm ?_; (conv => (arg 10; try tactic => exact nrmF))) | refine AF.nl ?_) | ((with_reducible refine FinA.on ?_); (rw [← hlen2]; refine FinA.keep 1 [3, 5] (.inl rfl) (.cellN (n := 2) wl kr kr rfl .nil) ?_ rfl (Nat.le_of_eq hE) rfl rfl ⟨kl rfl (flatT_scal _), kl rfl (flatP_scal _), kl rfl (flatT_scal _), trivial⟩; rfl)))
theorem Copy_be (l : List Pn) (c z : Nat) (hl : l.length ≤ 1000000) (h0 : 0 < l.length) (xb : Option Addr) : ACalls Tryz.prog 15 [.agg #[.slice (some ⟨0, 0, none⟩) l.length c, .slice xb 0 0]] [some ⟨flatP l, false, z⟩] (.agg #[.slice (some ⟨1, 0, none⟩) l.length INF, .slice (some ⟨2, 0, none⟩) 0 0]) [some ⟨flatP l, false, z⟩, some ⟨flatP l, true, 2⟩, some ⟨flatT [], true, 3⟩] := by
 have hlen : 0 + l.length = l.length := Nat.zero_add _
 refine ACalls.en 11 Tryz.func15 rfl rfl (fun E hE => ?_)
 repeat' (first | with_reducible (refine Then.n ?_) | ((with_reducible refine AL.on ?_); first | ((refine AL.g (OQ.buildS (ty := 25) (zs := [.slice none 0 0, .slice none 0 0]) (pls := [(0, 1), (1, 1)]) kr rfl kr rfl rfl rfl) ?_); refine AL.nm ?_) | ((first | ((with_reducible refine AL.k_call ?_); refine AL.q rfl (by exact OQ.append0 (v := undef) (st := 23) (e := 62) (z := 3) rfl rfl kr kr) ?_) | refine AL.bx ?_ | ((with_reducible refine AL.k_alloc ?_); refine AL.w rfl (OW.alloc (ty := 25) (z := [.slice none 0 0, .slice none 0 0]) kr rfl) ?_) | ((with_reducible refine AL.k_store ?_); (refine AL.w rfl (OW.store (ty := 25) (n := 2) rfl wl rfl rfl kr rfl rfl (by decide) rfl (Nat.le_of_ble_eq_true rfl) (by intro r h; cases h)) ?_))); refine AL.nm ?_; refine AL.nM ?_) | refine AL.nil ?_) | ((with_reducible refine AW.on ?_); first | refine AW.seq ?_ | refine AW.ret ?_ | (refine AW.drawF (id := 1) 7 #[0, 0, 2, 7, 0, 0, 32, 127, 255, 511] kr kr ?_; (conv => (arg 8; simp only [List.take_succ_cons, List.take_zero]))) | refine AW.region ?_) | ((with_reducible refine AF.on ?_); first | ((first | ((with_reducible refine AF.k_fieldAddr ?_); first | refine AF.q 0 (SW.q (OQ.fieldA (ty := 25) (i := 0) (n := 1) (off := 0) (g := false) rfl kr (by decide)) rfl) ?_ | refine AF.q 0 (SW.q (OQ.fieldA (ty := 25) (i := 1) (n := 1) (off := 1) (g := false) rfl kr (by decide)) rfl) ?_) | ((with_reducible refine AF.k_load ?_); first | (refine AF.ql rfl (SW.q (OQ.load1 (ty := 22) rfl kr wl) rfl) ?_) | (refine AF.ql rfl (SW.q (OQ.load1 (ty := 23) rfl kr wl) rfl) ?_))); refine AF.nm ?_) | ((first | ((with_reducible refine AF.k_buildSlice ?_); first | refine AF.n1 0 (SW.w (OW.buildSl0 (ty := 22) (z := (none, 2, true)) kr) rfl) rfl ?_ | refine AF.n1 0 (SW.w (OW.buildSl0 (ty := 23) (z := (none, 3, true)) kr) rfl) rfl ?_) | ((with_reducible refine AF.k_call ?_); refine AF.al rfl (SW.w (OW.append (n := 0) (c := 0) (b := 3) (blk := ⟨[], true, 2⟩) (z := 2) (by' := 16) (zs := [.int .i64 0, .int .i64 0]) (e := 65) rfl rfl kr kr kr rfl kr (by omega) rfl rfl rfl (by decide) (Nat.le_refl _) (ldP rfl rfl rfl) (flatP_one _) (by omega) (by omega)) rfl) rfl ?_)); refine AF.nm ?_; (conv => (arg 10; try tactic => exact nrmF))) | refine AF.nl ?_) | ((with_reducible refine FinA.on ?_); (rw [← hlen]; refine FinA.keep 1 [4, 5] (.inl rfl) (.cellN (n := 2) wl kr kr rfl .nil) ?_ rfl (Nat.le_of_eq hE) rfl rfl ⟨kl rfl (flatP_scal _), kl rfl (flatP_scal _), kl rfl (flatT_scal _), trivial⟩; rfl)))
theorem Copy_bb (l : List Pn) (c z : Nat) (hl : l.length ≤ 1000000) (h0 : 0 < l.length) (ts : List T3) (c2 z1 : Nat) (ht : ts.length ≤ 1000000) (h1 : 0 < ts.length) : ACalls Tryz.prog 15 [.agg #[.slice (some ⟨0, 0, none⟩) l.length c, .slice (some ⟨1, 0, none⟩) ts.length c2]] [some ⟨flatP l, false, z⟩, some ⟨flatT ts, false, z1⟩] (.agg #[.slice (some ⟨2, 0, none⟩) l.length INF, .slice (some ⟨3, 0, none⟩) ts.length INF]) [some ⟨flatP l, false, z⟩, some ⟨flatT ts, false, z1⟩, some ⟨flatP l, true, 2⟩, some ⟨flatT ts, true, 3⟩] := by
 have hlen : 0 + l.length = l.length := Nat.zero_add _
 have hlen2 : 0 + ts.length = ts.length := Nat.zero_add _
 refine ACalls.en 11 Tryz.func15 rfl rfl (fun E hE => ?_)
 repeat' (first | with_reducible (refine Then.n ?_) | ((with_reducible refine AL.on ?_); first | ((refine AL.g (OQ.buildS (ty := 25) (zs := [.slice none 0 0, .slice none 0 0]) (pls := [(0, 1), (1, 1)]) kr rfl kr rfl rfl rfl) ?_); refine AL.nm ?_) | ((first | ((with_reducible refine AL.k_call ?_); refine AL.w rfl (by exact (OW.append (n := 0) (c := 0) (b := 6) (blk := ⟨[], true, 3⟩) (z := 3) (by' := 24) (zs := [.int .i64 0, .int .i64 0, .int .i64 0]) (e := 62) rfl rfl kr kr kr rfl kr (by omega) rfl rfl rfl (by decide) (Nat.le_refl _) (ldT rfl rfl rfl) (flatT_one _) (by omega) (by omega))) ?_) | refine AL.bx ?_ | ((with_reducible refine AL.k_alloc ?_); refine AL.w rfl (OW.alloc (ty := 25) (z := [.slice none 0 0, .slice none 0 0]) kr rfl) ?_) | ((with_reducible refine AL.k_store ?_); (refine AL.w rfl (OW.store (ty := 25) (n := 2) rfl wl rfl rfl kr rfl rfl (by decide) rfl (Nat.le_of_ble_eq_true rfl) (by intro r h; cases h)) ?_))); refine AL.nm ?_; refine AL.nM ?_) | refine AL.nil ?_) | ((with_reducible refine AW.on ?_); first | refine AW.seq ?_ | refine AW.ret ?_ | (refine AW.drawF (id := 1) 7 #[0, 0, 2, 7, 0, 0, 32, 127, 255, 511] kr kr ?_; (conv => (arg 8; simp only [List.take_succ_cons, List.take_zero]))) | refine AW.region ?_) | ((with_reducible refine AF.on ?_); first | ((first | ((with_reducible refine AF.k_fieldAddr ?_); first | refine AF.q 0 (SW.q (OQ.fieldA (ty := 25) (i := 0) (n := 1) (off := 0) (g := false) rfl kr (by decide)) rfl) ?_ | refine AF.q 0 (SW.q (OQ.fieldA (ty := 25) (i := 1) (n := 1) (off := 1) (g := false) rfl kr (by decide)) rfl) ?_) | ((with_reducible refine AF.k_load ?_); first | (refine AF.ql rfl (SW.q (OQ.load1 (ty := 22) rfl kr wl) rfl) ?_) | (refine AF.ql rfl (SW.q (OQ.load1 (ty := 23) rfl kr wl) rfl) ?_))); refine AF.nm ?_) | ((first | ((with_reducible refine AF.k_buildSlice ?_); first | refine AF.n1 0 (SW.w (OW.buildSl0 (ty := 22) (z := (none, 2, true)) kr) rfl) rfl ?_ | refine AF.n1 0 (SW.w (OW.buildSl0 (ty := 23) (z := (none, 3, true)) kr) rfl) rfl ?_) | ((with_reducible refine AF.k_call ?_); refine AF.al rfl (SW.w (by exact (OW.append (n := 0) (c := 0) (b := 4) (blk := ⟨[], true, 2⟩) (z := 2) (by' := 16) (zs := [.int .i64 0, .int .i64 0]) (e := 65) rfl rfl kr kr kr rfl kr (by omega) rfl rfl rfl (by decide) (Nat.le_refl _) (ldP rfl rfl rfl) (flatP_one _) (by omega) (by omega))) rfl) rfl ?_)); refine AF.nm ?_; (conv => (arg 10; try tactic => exact nrmF))) | refine AF.nl ?_) | ((with_reducible refine FinA.on ?_); (rw [← hlen, ← hlen2]; refine FinA.keep 2 [5, 7] (.inl rfl) (.cellN (n := 2) wl kr kr rfl .nil) ?_ rfl (Nat.le_of_eq hE) rfl rfl ⟨kl rfl (flatP_scal _), kl rfl (flatT_scal _), kl rfl (flatP_scal _), kl rfl (flatT_scal _), trivial⟩; rfl)))
end Go.Proofs.YtmohcmghbfhdlaaGreat
end
end
/- Chapter 6: lists of any form as arguments; Light and the copy of a net. -/
section
set_option linter.unusedSimpArgs false
set_option linter.unusedVariables false
section
namespace Go.Me
open Go.Ab
inductive SlV (m : Mem) (i : Nat) (v : Value) (cs : List Value) (n : Nat) : Prop
 | blk (k : Blk) (h0 : 0 < n) (hv : v = .slice (some ⟨i, 0, none⟩) n INF) (h : m.at i = some k) (hc : k.cells = cs) (ho : k.obj = Ob.plain)
 | nil (hl : n = 0) (hv : v = .slice none 0 0)
 | lost (hl : n = 0) (hv : v = lostV)
theorem SlV.of {m m' : Mem} {i : Nat} {v : Value} {cs : List Value} {n : Nat} (h : SlV m i v cs n) (he : m'.at i = m.at i) : SlV m' i v cs n := by
 rcases h with ⟨k, h0, h1, h2, h3, h4⟩ | ⟨h1, h2⟩ | ⟨h1, h2⟩
 ·exact .blk k h0 h1 (he.trans h2) h3 h4
 ·exact .nil h1 h2
 ·exact .lost h1 h2
theorem SlV.arg {m : Mem} {i n : Nat} {z : Bool} {cs : List Value} (h : m.at i = Ls.blX cs) (hn : cs = [] ↔ n = 0) : SlV m i (Ls.vaX i n z) cs n := by
 unfold Ls.vaX
 by_cases hl : n = 0
 ·rw [if_pos hl]
  cases z
  ·exact .lost hl rfl
  ·exact .nil hl rfl
 ·rw [if_neg hl]
  unfold Ls.blX at h
  rw [if_neg (fun h => hl (hn.1 h))] at h
  exact .blk _ (by omega) rfl h rfl rfl
theorem SlV.pos {m : Mem} {i : Nat} {v : Value} {cs : List Value} {n : Nat} (h : SlV m i v cs n) (h0 : 0 < n) : v = .slice (some ⟨i, 0, none⟩) n INF ∧ ∃ k : Blk, m.at i = some k ∧ k.cells = cs ∧ k.obj = Ob.plain := by
 rcases h with ⟨k, h0, h1, h2, h3, h4⟩ | ⟨h1, h2⟩ | ⟨h1, h2⟩
 ·exact ⟨h1, k, h2, h3, h4⟩
 ·omega
 ·omega
end Go.Me
namespace Go.Proofs.YtmohcmghbfhdlaaGreat
open Go Go.RowKit Go.Ab Go.Me
set_option maxRecDepth 100000
theorem ro0 : Mem.ro [] := fun b blk h => by simp [Mem.at] at h
theorem Light_g {m : Mem} {i j : Nat} {v w : Value} {l : List Pn} {ts : List T3} (h1 : SlV m i v (flatP l) l.length) (h2 : SlV m j w (flatT ts) ts.length) (hl : (l.length : Int) ≤ 9223372036854775807) (ht : (ts.length : Int) ≤ 9223372036854775807) : PCalls Tryz.prog 13 [.agg #[v, w]] m (.bool (liB l ts)) := by
 have hb := fun (z : Nat) (o : Option Blk) (m : Mem) (e : m.at 0 = Mem.at [some ⟨flatP l, false, z⟩, o] 0) => few_bg (c := INF) (n := l.length) l (m := m) (b := 0) e rfl rfl hl rfl
 have hn := fun (o1 o2 : Option Blk) (m : Mem) (_ : m.at 0 = Mem.at [o1, o2] 0) => few_ng m
 have h5 := fun (o1 o2 : Option Blk) (m : Mem) (_ : m.at 0 = Mem.at [o1, o2] 0) => few_l5 m
 have rn : Mem.ro [none, none] := fun b blk h => by
  match b, h with
  | 0, h => cases h
  | 1, h => cases h
 have vac : ∀ (τ : Nat → Nat), Lies [none, none] m τ := fun τ b blk h => by
  match b, h with
  | 0, h => cases h
  | 1, h => cases h
 rcases h1 with ⟨A, a0, rfl, a1, a2, a3⟩ | ⟨a1, rfl⟩ | ⟨a1, rfl⟩ <;> rcases h2 with ⟨B, b0, rfl, b1, b2, b3⟩ | ⟨b1, rfl⟩ | ⟨b1, rfl⟩
 ·exact PCalls.viaS [i, j] (Light_b (.slice (some ⟨0, 0, none⟩) l.length INF) l ts INF ht (some ⟨flatP l, false, A.esz⟩) (some ⟨flatT ts, false, B.esz⟩) (ro2p _ _ rfl rfl) (hb _ _)) (ro2p _ _ rfl rfl) ⟨bS a1 a3 a2 (flatP_scal _), bS b1 b3 b2 (flatT_scal _), trivial⟩ rfl rfl rfl rfl
 ·obtain rfl := List.eq_nil_of_length_eq_zero b1
  exact PCalls.viaS [i, i] (Light_e (.slice (some ⟨0, 0, none⟩) l.length INF) l none (some ⟨flatP l, false, A.esz⟩) (some ⟨flatP l, false, A.esz⟩) (ro2p _ _ rfl rfl) (hb _ _)) (ro2p _ _ rfl rfl) ⟨bS a1 a3 a2 (flatP_scal _), bS a1 a3 a2 (flatP_scal _), trivial⟩ rfl rfl rfl rfl
 ·obtain rfl := List.eq_nil_of_length_eq_zero b1
  exact PCalls.viaS [i, i] (Light_e (.slice (some ⟨0, 0, none⟩) l.length INF) l (some ⟨5, 0, some default⟩) (some ⟨flatP l, false, A.esz⟩) (some ⟨flatP l, false, A.esz⟩) (ro2p _ _ rfl rfl) (hb _ _)) (ro2p _ _ rfl rfl) ⟨bS a1 a3 a2 (flatP_scal _), bS a1 a3 a2 (flatP_scal _), trivial⟩ rfl rfl rfl rfl
 ·obtain rfl := List.eq_nil_of_length_eq_zero a1
  exact PCalls.viaS [j, j] (Light_b (.slice none 0 0) [] ts INF ht (some ⟨flatT ts, false, B.esz⟩) (some ⟨flatT ts, false, B.esz⟩) (ro2p _ _ rfl rfl) (hn _ _)) (ro2p _ _ rfl rfl) ⟨bS b1 b3 b2 (flatT_scal _), bS b1 b3 b2 (flatT_scal _), trivial⟩ rfl rfl rfl rfl
 ·obtain rfl := List.eq_nil_of_length_eq_zero a1
  obtain rfl := List.eq_nil_of_length_eq_zero b1
  exact PCalls.via (fun _ => 0) (Light_e (.slice none 0 0) [] none none none rn (hn _ _)) (vac _) rfl rfl rfl rfl
 ·obtain rfl := List.eq_nil_of_length_eq_zero a1
  obtain rfl := List.eq_nil_of_length_eq_zero b1
  exact PCalls.via (fun _ => 0) (Light_e (.slice none 0 0) [] (some ⟨5, 0, some default⟩) none none rn (hn _ _)) (vac _) rfl rfl rfl rfl
 ·obtain rfl := List.eq_nil_of_length_eq_zero a1
  exact PCalls.viaS [j, j] (Light_b (.slice (some ⟨5, 0, some default⟩) 0 0) [] ts INF ht (some ⟨flatT ts, false, B.esz⟩) (some ⟨flatT ts, false, B.esz⟩) (ro2p _ _ rfl rfl) (h5 _ _)) (ro2p _ _ rfl rfl) ⟨bS b1 b3 b2 (flatT_scal _), bS b1 b3 b2 (flatT_scal _), trivial⟩ rfl rfl rfl rfl
 ·obtain rfl := List.eq_nil_of_length_eq_zero a1
  obtain rfl := List.eq_nil_of_length_eq_zero b1
  exact PCalls.via (fun _ => 0) (Light_e (.slice (some ⟨5, 0, some default⟩) 0 0) [] none none none rn (h5 _ _)) (vac _) rfl rfl rfl rfl
 ·obtain rfl := List.eq_nil_of_length_eq_zero a1
  obtain rfl := List.eq_nil_of_length_eq_zero b1
  exact PCalls.via (fun _ => 0) (Light_e (.slice (some ⟨5, 0, some default⟩) 0 0) [] (some ⟨5, 0, some default⟩) none none rn (h5 _ _)) (vac _) rfl rfl rfl rfl
abbrev cpV (k : Nat) (l : List Pn) (ts : List T3) : Value := .agg #[.slice (some ⟨k, 0, none⟩) l.length (cpC l.length), .slice (some ⟨k + 1, 0, none⟩) ts.length (cpC ts.length)]
abbrev cpM (l : List Pn) (ts : List T3) : Mem := [some ⟨flatP l, true, 2⟩, some ⟨flatT ts, true, 3⟩]
theorem Copy_g {m : Mem} {i j : Nat} {v w : Value} {l : List Pn} {ts : List T3} (hij : i ≠ j) (h1 : SlV m i v (flatP l) l.length) (h2 : SlV m j w (flatT ts) ts.length) (hl : l.length ≤ 1000000) (ht : ts.length ≤ 1000000) : ACalls Tryz.prog 15 [.agg #[v, w]] m (cpV m.length l ts) (m ++ cpM l ts) := by
 have c0 : cpC 0 = 0 := rfl
 have cP : ∀ n, 0 < n → cpC n = INF := fun n h => if_neg (by omega)
 have o1 : ∀ σ : Nat → Nat, True := fun _ => trivial
 rcases h1 with ⟨A, a0, rfl, a1, a2, a3⟩ | ⟨a1, rfl⟩ | ⟨a1, rfl⟩ <;> rcases h2 with ⟨B, b0, rfl, b1, b2, b3⟩ | ⟨b1, rfl⟩ | ⟨b1, rfl⟩
 ·unfold cpV
  rw [cP _ a0, cP _ b0]
  exact ACalls.viaS (v := .agg #[.slice (some ⟨m.length, 0, none⟩) l.length INF, .slice (some ⟨m.length + 1, 0, none⟩) ts.length INF]) [i, j] [] (cpM l ts) (Copy_bb l INF A.esz hl a0 ts INF B.esz ht b0) ⟨bS a1 a3 a2 (flatP_scal _), bS b1 b3 b2 (flatT_scal _), trivial⟩ (by simpa using hij) ⟨⟨_, rfl, rfl⟩, ⟨_, rfl, rfl⟩, ⟨rfl, rfl, rfl, .inl ⟨rfl, flatP_scal _⟩⟩, ⟨rfl, rfl, rfl, .inl ⟨rfl, flatT_scal _⟩⟩, trivial⟩ rfl rfl rfl rfl
 ·obtain rfl := List.eq_nil_of_length_eq_zero b1
  unfold cpV
  rw [cP _ a0]
  exact ACalls.viaS (v := .agg #[.slice (some ⟨m.length, 0, none⟩) l.length INF, .slice (some ⟨m.length + 1, 0, none⟩) 0 0]) [i] [] (cpM l []) (Copy_be l INF A.esz hl a0 none) ⟨bS a1 a3 a2 (flatP_scal _), trivial⟩ (by simp) ⟨⟨_, rfl, rfl⟩, ⟨rfl, rfl, rfl, .inl ⟨rfl, flatP_scal _⟩⟩, ⟨rfl, rfl, rfl, .inl ⟨rfl, flatT_scal _⟩⟩, trivial⟩ rfl rfl rfl rfl
 ·obtain rfl := List.eq_nil_of_length_eq_zero b1
  unfold cpV
  rw [cP _ a0]
  exact ACalls.viaS (v := .agg #[.slice (some ⟨m.length, 0, none⟩) l.length INF, .slice (some ⟨m.length + 1, 0, none⟩) 0 0]) [i] [] (cpM l []) (Copy_be l INF A.esz hl a0 (some ⟨5, 0, some default⟩)) ⟨bS a1 a3 a2 (flatP_scal _), trivial⟩ (by simp) ⟨⟨_, rfl, rfl⟩, ⟨rfl, rfl, rfl, .inl ⟨rfl, flatP_scal _⟩⟩, ⟨rfl, rfl, rfl, .inl ⟨rfl, flatT_scal _⟩⟩, trivial⟩ rfl rfl rfl rfl
 ·obtain rfl := List.eq_nil_of_length_eq_zero a1
  unfold cpV
  rw [cP _ b0]
  exact ACalls.viaS (v := .agg #[.slice (some ⟨m.length, 0, none⟩) 0 0, .slice (some ⟨m.length + 1, 0, none⟩) ts.length INF]) [j] [] (cpM [] ts) (Copy_eb none ts INF B.esz ht b0) ⟨bS b1 b3 b2 (flatT_scal _), trivial⟩ (by simp) ⟨⟨_, rfl, rfl⟩, ⟨rfl, rfl, rfl, .inl ⟨rfl, flatP_scal _⟩⟩, ⟨rfl, rfl, rfl, .inl ⟨rfl, flatT_scal _⟩⟩, trivial⟩ rfl rfl rfl rfl
 ·obtain rfl := List.eq_nil_of_length_eq_zero a1
  obtain rfl := List.eq_nil_of_length_eq_zero b1
  exact ACalls.viaS (v := cpV m.length [] []) [] [] (cpM [] []) (Copy_ee none none) trivial (by simp) ⟨⟨rfl, rfl, rfl, .inl ⟨rfl, flatP_scal _⟩⟩, ⟨rfl, rfl, rfl, .inl ⟨rfl, flatT_scal _⟩⟩, trivial⟩ rfl rfl rfl rfl
 ·obtain rfl := List.eq_nil_of_length_eq_zero a1
  obtain rfl := List.eq_nil_of_length_eq_zero b1
  exact ACalls.viaS (v := cpV m.length [] []) [] [] (cpM [] []) (Copy_ee none (some ⟨5, 0, some default⟩)) trivial (by simp) ⟨⟨rfl, rfl, rfl, .inl ⟨rfl, flatP_scal _⟩⟩, ⟨rfl, rfl, rfl, .inl ⟨rfl, flatT_scal _⟩⟩, trivial⟩ rfl rfl rfl rfl
 ·obtain rfl := List.eq_nil_of_length_eq_zero a1
  unfold cpV
  rw [cP _ b0]
  exact ACalls.viaS (v := .agg #[.slice (some ⟨m.length, 0, none⟩) 0 0, .slice (some ⟨m.length + 1, 0, none⟩) ts.length INF]) [j] [] (cpM [] ts) (Copy_eb (some ⟨5, 0, some default⟩) ts INF B.esz ht b0) ⟨bS b1 b3 b2 (flatT_scal _), trivial⟩ (by simp) ⟨⟨_, rfl, rfl⟩, ⟨rfl, rfl, rfl, .inl ⟨rfl, flatP_scal _⟩⟩, ⟨rfl, rfl, rfl, .inl ⟨rfl, flatT_scal _⟩⟩, trivial⟩ rfl rfl rfl rfl
 ·obtain rfl := List.eq_nil_of_length_eq_zero a1
  obtain rfl := List.eq_nil_of_length_eq_zero b1
  exact ACalls.viaS (v := cpV m.length [] []) [] [] (cpM [] []) (Copy_ee (some ⟨5, 0, some default⟩) none) trivial (by simp) ⟨⟨rfl, rfl, rfl, .inl ⟨rfl, flatP_scal _⟩⟩, ⟨rfl, rfl, rfl, .inl ⟨rfl, flatT_scal _⟩⟩, trivial⟩ rfl rfl rfl rfl
 ·obtain rfl := List.eq_nil_of_length_eq_zero a1
  obtain rfl := List.eq_nil_of_length_eq_zero b1
  exact ACalls.viaS (v := cpV m.length [] []) [] [] (cpM [] []) (Copy_ee (some ⟨5, 0, some default⟩) (some ⟨5, 0, some default⟩)) trivial (by simp) ⟨⟨rfl, rfl, rfl, .inl ⟨rfl, flatP_scal _⟩⟩, ⟨rfl, rfl, rfl, .inl ⟨rfl, flatT_scal _⟩⟩, trivial⟩ rfl rfl rfl rfl
end Go.Proofs.YtmohcmghbfhdlaaGreat
end
end
/- How a net that is an argument of the statements of chapter 6 reads. -/
section
set_option linter.unusedSimpArgs false
set_option linter.unusedVariables false
section
namespace Go.Proofs.YtmohcmghbfhdlaaGreat
open Go.ChangeShapes Go.WideShapes Go.ChangeAt Go Go.RowKit Go.Ab Go.Ls Go.Me
set_option maxRecDepth 100000
def mkT (f : Nat → Int) : T3 := (f 0, f 1, f 2)
theorem cells_t3 : Tryz.prog.cellsOf 62 = 3 := by kernel_rfl
theorem ints_t3 : intsT Tryz.prog 4 62 = true := by kernel_rfl
theorem flatT_nil (ts : List T3) : flatT ts = [] ↔ ts.length = 0 := by
 rw [← List.length_eq_zero_iff, flatT_len]
 omega
theorem ro_bl2 (a b : List Value) : Mem.ro [blX a, blX b] := fun k blk hk => by
 match k, hk with
 | 0, hk => exact blX_ro _ _ hk
 | 1, hk => exact blX_ro _ _ hk
end Go.Proofs.YtmohcmghbfhdlaaGreat
end
end
/- How a list of numbers that is an argument of the statements of chapter 6 reads. -/
section
set_option linter.unusedSimpArgs false
set_option linter.unusedVariables false
section
namespace Go.Proofs.YtmohcmghbfhdlaaGreat
open Go.ChangeShapes Go.WideShapes Go.ChangeAt Go Go.RowKit Go.Ab Go.Ls Go.Me
set_option maxRecDepth 100000
def mkN (f : Nat → Int) : Int := f 0
theorem cells_int : Tryz.prog.cellsOf 3 = 1 := by kernel_rfl
theorem ints_int : intsT Tryz.prog 4 3 = true := by kernel_rfl
end Go.Proofs.YtmohcmghbfhdlaaGreat
end
end
/- How a task, and turns with potentials, that are arguments of the statements of chapter 6 read. -/
section
set_option linter.unusedSimpArgs false
set_option linter.unusedVariables false
section
namespace Go.Proofs.YtmohcmghbfhdlaaGreat
open Go.ChangeShapes Go.WideShapes Go.ChangeAt Go Go.RowKit Go.Ab Go.Ls Go.Me
set_option maxRecDepth 100000
theorem cells_mk : Tryz.prog.cellsOf 67 = 4 := by kernel_rfl
theorem cells_pr : Tryz.prog.cellsOf 69 = 2 := by kernel_rfl
theorem open_MK {H : Type} {enc : TypeId × Value → H} {w : World} {base : Nat} {spare : Nat → Bool} {held : Bool} {r : Reach} {b0 : Nat} {v : Value} {d : DataW H} {p : List MemPlace} (hv : Value.okWide Tryz.prog w r b0 67 v) (h : DataW.Trod enc Tryz.prog w base spare held 67 v d p) :
  ∃ a l cap b t cat d ph cad e cs cae, v = .agg #[.slice a (List.length (α := Pn) l) cap, .slice b (List.length (α := T3) t) cat, .slice d (List.length (α := Int) ph) cad, .slice e (List.length (α := Int) cs) cae] ∧ l.length ≤ cap ∧ cap ≤ maxLen ∧ SlX w a (flatP l) ∧ (a = none → cap = 0) ∧ t.length ≤ cat ∧ cat ≤ maxLen ∧ SlX w b (flatT t) ∧ (b = none → cat = 0) ∧ ph.length ≤ cad ∧ cad ≤ maxLen ∧ SlX w d (flatN ph) ∧ (d = none → cad = 0) ∧ cs.length ≤ cae ∧ cae ≤ maxLen ∧ SlX w e (flatN cs) ∧ (e = none → cae = 0) := by
 obtain ⟨cs, rfl, hsz⟩ := okWide_struct Tryz.underlying67 hv
 obtain ⟨l⟩ := cs
 match l, hsz.trans cells_mk with
 | [c0, c1, c2, c3], _ =>
  obtain ⟨fuel, hf⟩ := h
  obtain ⟨xs, n, _, hx, _, hlen, hg⟩ := DataW.trod_struct Tryz.underlying67 hf
  match xs, hlen with
  | [y0, y1, y2], _ =>
   have g0 : DataW.trod enc Tryz.prog w base spare held n 25 [c0, c1] = some y0 := hg 0 _ rfl
   have g1 : DataW.trod enc Tryz.prog w base spare held n 26 [c2] = some y1 := hg 1 _ rfl
   have g2 : DataW.trod enc Tryz.prog w base spare held n 26 [c3] = some y2 := hg 2 _ rfl
   obtain ⟨zs, n2, _, hx2, _, hlen2, hg2⟩ := DataW.trod_struct Tryz.underlying25 g0
   match zs, hlen2 with
   | [z0, z1], _ =>
    have j0 : DataW.trod enc Tryz.prog w base spare held n2 22 [c0] = some z0 := hg2 0 _ rfl
    have j1 : DataW.trod enc Tryz.prog w base spare held n2 23 [c1] = some z1 := hg2 1 _ rfl
    obtain ⟨a, l, cap, rfl, h1, h2, h3, h4, _⟩ := open_ints ptC (fun _ => rfl) mkP (fun f j hj => match j, hj with | 0, _ => rfl | 1, _ => rfl) Tryz.underlying22 cells_mp (by decide) ints_mp j0
    obtain ⟨b, t, cat, rfl, k1, k2, k3, k4, _⟩ := open_ints tcC (fun _ => rfl) mkT (fun f j hj => match j, hj with | 0, _ => rfl | 1, _ => rfl | 2, _ => rfl) Tryz.underlying23 cells_t3 (by decide) ints_t3 j1
    obtain ⟨d, ph, cad, rfl, m1, m2, m3, m4, _⟩ := open_ints numC (fun _ => rfl) mkN (fun f j hj => match j, hj with | 0, _ => rfl) Tryz.underlying26 cells_int (by decide) ints_int g1
    obtain ⟨e, cs, cae, rfl, p1, p2, p3, p4, _⟩ := open_ints numC (fun _ => rfl) mkN (fun f j hj => match j, hj with | 0, _ => rfl) Tryz.underlying26 cells_int (by decide) ints_int g2
    exact ⟨a, l, cap, b, t, cat, d, ph, cad, e, cs, cae, rfl, h1, h2, h3, h4, k1, k2, k3, k4, m1, m2, flatN_flat ph ▸ m3, m4, p1, p2, flatN_flat cs ▸ p3, p4⟩
theorem open_PR {H : Type} {enc : TypeId × Value → H} {w : World} {base : Nat} {spare : Nat → Bool} {held : Bool} {r : Reach} {b0 : Nat} {v : Value} {d : DataW H} {p : List MemPlace} (hv : Value.okWide Tryz.prog w r b0 69 v) (h : DataW.Trod enc Tryz.prog w base spare held 69 v d p) :
  ∃ a l cap b t cat, v = .agg #[.slice a (List.length (α := Int) l) cap, .slice b (List.length (α := Int) t) cat] ∧ l.length ≤ cap ∧ cap ≤ maxLen ∧ SlX w a (flatN l) ∧ (a = none → cap = 0) ∧ t.length ≤ cat ∧ cat ≤ maxLen ∧ SlX w b (flatN t) ∧ (b = none → cat = 0) := by
 obtain ⟨cs, rfl, hsz⟩ := okWide_struct Tryz.underlying69 hv
 obtain ⟨l⟩ := cs
 match l, hsz.trans cells_pr with
 | [c0, c1], _ =>
  obtain ⟨fuel, hf⟩ := h
  obtain ⟨xs, n, _, hx, _, hlen, hg⟩ := DataW.trod_struct Tryz.underlying69 hf
  match xs, hlen with
  | [y0, y1], _ =>
   have g0 : DataW.trod enc Tryz.prog w base spare held n 26 [c0] = some y0 := hg 0 _ rfl
   have g1 : DataW.trod enc Tryz.prog w base spare held n 26 [c1] = some y1 := hg 1 _ rfl
   obtain ⟨d, ph, cad, rfl, m1, m2, m3, m4, _⟩ := open_ints numC (fun _ => rfl) mkN (fun f j hj => match j, hj with | 0, _ => rfl) Tryz.underlying26 cells_int (by decide) ints_int g0
   obtain ⟨e, cs, cae, rfl, p1, p2, p3, p4, _⟩ := open_ints numC (fun _ => rfl) mkN (fun f j hj => match j, hj with | 0, _ => rfl) Tryz.underlying26 cells_int (by decide) ints_int g1
   exact ⟨d, ph, cad, e, cs, cae, rfl, m1, m2, flatN_flat ph ▸ m3, m4, p1, p2, flatN_flat cs ▸ p3, p4⟩
end Go.Proofs.YtmohcmghbfhdlaaGreat
end
end
