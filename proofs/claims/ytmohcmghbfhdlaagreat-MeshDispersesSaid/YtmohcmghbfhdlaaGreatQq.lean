/- Chapter 6: fields of turns (the program's). -/
import Derived.Test.YtmohcmghbfhdlaaGreatQd
import Derived.Test.YtmohcmghbfhdlaaGreatQp
section
set_option linter.unusedSimpArgs false
set_option linter.unusedVariables false
section
namespace Go.Me
open Go.Ab Go.Proofs.YtmohcmghbfhdlaaGreat
abbrev Fdt := List Int × List Int
def fdD (ds xs : List Int) (k : Nat) : Int := nt ds k + 4096 * nt xs k
def fdSt (ds xs : List Int) (e : Pn) (k : Nat) (s : Fdt) : Fdt :=
 if e.x ∈ s.2 ∧ e.y ∉ s.2 then (s.1.set e.y.toNat (nt s.1 e.x.toNat + fdD ds xs k), s.2 ++ [e.y])
 else if e.y ∈ s.2 ∧ e.x ∉ s.2 then (s.1.set e.x.toNat (nt s.1 e.y.toNat - fdD ds xs k), s.2 ++ [e.x]) else s
def fdK (ds xs : List Int) (es : List Pn) (s : Fdt) : Nat → Fdt
 | 0 => s
 | k + 1 => fdSt ds xs (pt es k) k (fdK ds xs es s k)
def fdN (ds xs : List Int) (es : List Pn) (s : Fdt) : Nat → Fdt
 | 0 => s
 | r + 1 => fdK ds xs es (fdN ds xs es s r) es.length
def fd0 (n : Nat) (p : Int) : Fdt := ((List.replicate n 0).set 0 p, [0])
structure FdOk (n : Nat) (s : Fdt) : Prop where
 len : s.1.length = n
 nd : s.2.Nodup
 rng : ∀ k ∈ s.2, 0 ≤ k ∧ k < n
 bd : ∀ i, i < n → -(411648 * (s.2.length : Int)) ≤ nt s.1 i ∧ nt s.1 i ≤ 411648 * (s.2.length : Int)
theorem FdOk.le {n : Nat} {s : Fdt} (h : FdOk n s) : s.2.length ≤ n := by
 have := le_nodup s.2 ((List.range n).map Int.ofNat) h.nd fun y hy => by
  have h1 := h.rng y hy
  exact List.mem_map.2 ⟨y.toNat, List.mem_range.2 (by omega), Int.toNat_of_nonneg h1.1⟩
 simpa using this
theorem nodup_snoc {x : Int} {u : List Int} (h : u.Nodup) (hx : x ∉ u) : (u ++ [x]).Nodup := by
 rw [List.nodup_append]
 refine ⟨h, by simp, fun a ha b hb e => ?_⟩
 rw [List.mem_singleton] at hb
 subst hb
 subst e
 exact hx ha
theorem FdOk.put {n : Nat} {s : Fdt} (h : FdOk n s) {y v : Int} (hy : 0 ≤ y ∧ y < n) (hu : y ∉ s.2) (hv : -(411648 * (s.2.length : Int)) - 411648 ≤ v ∧ v ≤ 411648 * (s.2.length : Int) + 411648) : FdOk n (s.1.set y.toNat v, s.2 ++ [y]) := by
 refine ⟨by rw [List.length_set]; exact h.len, nodup_snoc h.nd hu, fun k hk => ?_, fun i hi => ?_⟩
 ·rcases List.mem_append.1 hk with hk | hk
  ·exact h.rng k hk
  ·rw [List.mem_singleton] at hk
   subst hk
   exact hy
 ·rw [List.length_append]
  have hb := h.bd i hi
  rw [nt_set (by rw [h.len]; exact hi)]
  simp only [List.length_cons, List.length_nil]
  split <;> omega
theorem fdSt_a {ds xs : List Int} {e : Pn} {k : Nat} {s : Fdt} (h1 : e.x ∈ s.2) (h2 : e.y ∉ s.2) : fdSt ds xs e k s = (s.1.set e.y.toNat (nt s.1 e.x.toNat + fdD ds xs k), s.2 ++ [e.y]) := if_pos ⟨h1, h2⟩
theorem fdSt_b {ds xs : List Int} {e : Pn} {k : Nat} {s : Fdt} (h1 : e.y ∈ s.2) (h2 : e.x ∉ s.2) : fdSt ds xs e k s = (s.1.set e.x.toNat (nt s.1 e.y.toNat - fdD ds xs k), s.2 ++ [e.x]) := (if_neg fun h => h2 h.1).trans (if_pos ⟨h1, h2⟩)
theorem fdSt_c {ds xs : List Int} {e : Pn} {k : Nat} {s : Fdt} (h : e.x ∈ s.2 ↔ e.y ∈ s.2) : fdSt ds xs e k s = s := (if_neg fun h2 => h2.2 (h.1 h2.1)).trans (if_neg fun h2 => h2.2 (h.2 h2.1))
theorem fdSt_ok {ds xs : List Int} {e : Pn} {k : Nat} {n : Nat} {s : Fdt} (h : FdOk n s) (he : (0 ≤ e.x ∧ e.x < n) ∧ (0 ≤ e.y ∧ e.y < n)) (hd : -411648 ≤ fdD ds xs k ∧ fdD ds xs k ≤ 411648) : FdOk n (fdSt ds xs e k s) := by
 have hx := h.bd e.x.toNat (by omega)
 have hy := h.bd e.y.toNat (by omega)
 unfold fdSt
 split
 ·rename_i h1
  exact h.put he.2 h1.2 (by omega)
 ·split
  ·rename_i h1
   exact h.put he.1 h1.2 (by omega)
  ·exact h
theorem fdK_ok {ds xs : List Int} {es : List Pn} {n : Nat} (he : ∀ k, k < es.length → (0 ≤ (pt es k).x ∧ (pt es k).x < n) ∧ (0 ≤ (pt es k).y ∧ (pt es k).y < n)) (hd : ∀ k, k < es.length → -411648 ≤ fdD ds xs k ∧ fdD ds xs k ≤ 411648) {s : Fdt} (h : FdOk n s) : ∀ k, k ≤ es.length → FdOk n (fdK ds xs es s k)
 | 0, _ => h
 | k + 1, hk => fdSt_ok (fdK_ok he hd h k (by omega)) (he k (by omega)) (hd k (by omega))
theorem fdN_ok {ds xs : List Int} {es : List Pn} {n : Nat} (he : ∀ k, k < es.length → (0 ≤ (pt es k).x ∧ (pt es k).x < n) ∧ (0 ≤ (pt es k).y ∧ (pt es k).y < n)) (hd : ∀ k, k < es.length → -411648 ≤ fdD ds xs k ∧ fdD ds xs k ≤ 411648) {s : Fdt} (h : FdOk n s) : ∀ r, FdOk n (fdN ds xs es s r)
 | 0 => h
 | r + 1 => fdK_ok he hd (fdN_ok he hd h r) es.length (Nat.le_refl _)
theorem fd0_ok {n : Nat} {p : Int} (hn : 0 < n) (hp : -2048 ≤ p ∧ p ≤ 2047) : FdOk n (fd0 n p) := by
 refine ⟨by simp [fd0], by simp [fd0], fun k hk => ?_, fun i hi => ?_⟩
 ·simp only [fd0, List.mem_singleton] at hk
  omega
 ·simp only [fd0, List.length_cons, List.length_nil]
  rw [nt_set (by simpa using hi)]
  have h0 : nt (List.replicate n 0) i = 0 := by
   unfold nt
   rw [List.getD_eq_getElem?_getD, List.getElem?_replicate, if_pos hi]
   rfl
  split <;> omega
def fdS (ds xs : List Int) (es : List Pn) (s : Fdt) (r k : Nat) : Fdt := fdK ds xs es (fdN ds xs es s r) k
theorem fdS_ok {ds xs : List Int} {es : List Pn} {n : Nat} (he : ∀ k, k < es.length → (0 ≤ (pt es k).x ∧ (pt es k).x < n) ∧ (0 ≤ (pt es k).y ∧ (pt es k).y < n)) (hd : ∀ k, k < es.length → -411648 ≤ fdD ds xs k ∧ fdD ds xs k ≤ 411648) {s : Fdt} (h : FdOk n s) (r k : Nat) (hk : k ≤ es.length) : FdOk n (fdS ds xs es s r k) := fdK_ok he hd (fdN_ok he hd h r) k hk
structure FdR (ds xs : List Int) (es : List Pn) (s : Fdt) (n R : Nat) : Prop where
 fin : (fdN ds xs es s R).2.length = n
 lt : ∀ r, r < R → (fdN ds xs es s r).2.length ≠ n
end Go.Me
namespace Go.Proofs.YtmohcmghbfhdlaaGreat
open Go Go.RowKit Go.Ab Go.Me
set_option maxRecDepth 100000
set_option maxHeartbeats 4000000
attribute [local irreducible] OQ OW AL AW AF SW
theorem _root_.Go.Ab.OW.ins {P : Program} {t : T} {m m' : Mem} {v : Value} {dst : Option Tmp} {ty rt : TypeId} {x y z : Operand} {pos : String} {after : Array Edge} {guard : Option (Nat × Bool)} (h : OW P ⟨dst, .mapUpdate ty x y z, rt, pos, after, guard⟩ t m v m') : OW P ⟨dst, .insert ty x y z, rt, pos, after, guard⟩ t m v m' := by
 unfold OW at h ⊢
 exact h
theorem _root_.Go.Ab.OW.minsN {κ : Type} [DecidableEq κ] {enc : κ → Value} {ok : κ → Prop} {P : Program} {t : T} {m : Mem} {dst : Option Tmp} {ty rt kt et : TypeId} {pos : String} {after : Array Edge} {guard : Option (Nat × Bool)} {x y z : Operand} {b : Nat} {l : List κ} {k : κ} {v : Value} (K : KEnc enc P kt ok) (hk0 : ok k) (hl0 : ∀ x ∈ l, ok x) (hx : t.ev x = .map (some b)) (hy : t.ev y = enc k) (hz : t.ev z = v) (hu : P.underlying ty = some (.map kt et)) (hb : m.at b = some (mpL enc (l.map fun k => (k, v)))) (hn : l.Nodup) (hnk : k ∉ l) (hvf : flat v = true) :
  OW P ⟨dst, .mapUpdate ty x y z, rt, pos, after, guard⟩ t m undef (m.set b (some (mpL enc ((l ++ [k]).map fun k => (k, v))))) := by
 have h := OW.mins (dst := dst) (rt := rt) (pos := pos) (after := after) (guard := guard) K hk0 hl0 hx hy hz hu hb hn hvf
 have e : insL l k = l ++ [k] := if_neg hnk
 rw [e] at h
 exact h
theorem fst_map (u : List Int) (v : Value) : (u.map fun k => (k, v)).map (·.1) = u := by rw [List.map_map]; exact List.map_id u
theorem fd0_c {n : Nat} {f : Nat → Value} {s : Fdt} {p : Int} (hs : s = fd0 n p) (hf : ∀ i, f i = .int .i64 0) : flatN s.1 = ((List.range n).map f).set 0 (.int .i64 p) := by
 rw [hs, flatN_zero hf, ← flatN_set]
 rfl
theorem Field_y0 (l : List Pn) (ts : List T3) (hR : NetR l ts) (ph xs : List Int) (hph : phE l ph = 0) (htu : tuE ts ph xs = 0) (R : Nat) (hF : FdR (dfL ts ph) xs (edL ts) (fd0 l.length (nt ph 0)) l.length R) (hxl : xs.length ≤ 1000000) (c c2 c3 c4 z z1 z2 z3 : Nat) (hz : z = 0 ∨ z = 2) :
  ACalls Tryz.prog 14 [.agg #[.slice (some ⟨0, 0, none⟩) l.length c, .slice (some ⟨1, 0, none⟩) ts.length c2], .slice (some ⟨2, 0, none⟩) ph.length c3, .slice (some ⟨3, 0, none⟩) xs.length c4] [some ⟨flatP l, false, z⟩, some ⟨flatT ts, false, z1⟩, some ⟨flatN ph, false, z2⟩, some ⟨flatN xs, false, z3⟩]
   (.tuple #[.slice (some ⟨4, 0, none⟩) l.length l.length, .int .i64 0]) [some ⟨flatP l, false, z⟩, some ⟨flatT ts, false, z1⟩, some ⟨flatN ph, false, z2⟩, some ⟨flatN xs, false, z3⟩, some ⟨flatN (fdN (dfL ts ph) xs (edL ts) (fd0 l.length (nt ph 0)) R).1, true, 1⟩] := by
 have hxe : xs.length = (edL ts).length ∧ xs.any (fun x => !rgB x (-100) 100) = false := by
  unfold tuE at htu
  by_cases h1 : xs.length ≠ (edL ts).length
  ·rw [if_pos h1] at htu; cases htu
  ·rw [if_neg h1] at htu
   cases h2 : xs.any (fun x => !rgB x (-100) 100) with
   | true => rw [h2, if_pos rfl] at htu; cases htu
   | false => exact ⟨Classical.not_not.1 h1, rfl⟩
 obtain ⟨hxe, hxa⟩ := hxe
 have hxb := anyR_no hxa
 have hdl := dfL_len ts ph
 have hdb := dfL_bd ts ph
 have hpl := phE_0 hph
 have h40 := (cp_ok hR.cp).1
 have he := fun k hk => edL_at hR.ok k hk
 have hpos : 0 < l.length := by
  have h1 := edL_pos hR
  have h2 := he 0 (by omega)
  omega
 have hd : ∀ k, k < (edL ts).length → -411648 ≤ fdD (dfL ts ph) xs k ∧ fdD (dfL ts ph) xs k ≤ 411648 := fun k hk => by
  have h1 := hdb k (by omega)
  have h2 := hxb k (by omega)
  unfold fdD
  omega
 have hok := fun r k hk => fdS_ok (s := fd0 l.length (nt ph 0)) he hd (fd0_ok hpos (hpl.2 0 (by omega))) r k hk
 have hle := fun r k hk => (hok r k hk).le
 have hS0 : fdS (dfL ts ph) xs (edL ts) (fd0 l.length (nt ph 0)) 0 0 = fd0 l.length (nt ph 0) := rfl
 have hSe : ∀ r, fdS (dfL ts ph) xs (edL ts) (fd0 l.length (nt ph 0)) (r + 1) 0 = fdS (dfL ts ph) xs (edL ts) (fd0 l.length (nt ph 0)) r (edL ts).length := fun r => rfl
 have hSs : ∀ r k, fdS (dfL ts ph) xs (edL ts) (fd0 l.length (nt ph 0)) r (k + 1) = fdSt (dfL ts ph) xs (pt (edL ts) k) k (fdS (dfL ts ph) xs (edL ts) (fd0 l.length (nt ph 0)) r k) := fun r k => rfl
 obtain ⟨hfin, hlt⟩ := hF
 have hlt2 : ∀ r, r < R → (fdS (dfL ts ph) xs (edL ts) (fd0 l.length (nt ph 0)) r 0).2.length < l.length := fun r hr => by
  have h1 := hlt r hr
  have h2 := hle r 0 (Nat.zero_le _)
  change (fdN (dfL ts ph) xs (edL ts) (fd0 l.length (nt ph 0)) r).2.length < l.length
  change (fdN (dfL ts ph) xs (edL ts) (fd0 l.length (nt ph 0)) r).2.length ≤ l.length at h2
  omega
 have hD : ∀ k, fdD (dfL ts ph) xs k = nt (dfL ts ph) k + 4096 * nt xs k := fun k => rfl
 change (fdS (dfL ts ph) xs (edL ts) (fd0 l.length (nt ph 0)) R 0).2.length = l.length at hfin
 change ACalls _ _ _ _ _ [_, _, _, _, some ⟨flatN (fdS (dfL ts ph) xs (edL ts) (fd0 l.length (nt ph 0)) R 0).1, true, 1⟩]
 clear hlt
 have hop := fun (m : Mem) (hA : ArgN m 0 1 l ts) (F : Blk) (f1 : m.at 2 = some F) (f2 : F.cells = flatN ph) (f3 : F.obj = Ob.plain) => openPhases_y (c := c) (c2 := c2) (c3 := c3) l ts ph hA rfl rfl f1 f2 rfl (by rw [hpl.1]; omega) hR (by decide) f3
 have hte := fun (m : Mem) (h : OpenN m 5 6 7 0 1 c c2 l ts) (F X : Blk) (f1 : m.at 2 = some F) (f2 : F.cells = flatN ph) (f3 : F.obj = Ob.plain) (x1 : m.at 3 = some X) (x2 : X.cells = flatN xs) (x3 : X.obj = Ob.plain) => turnsErr_q (c3 := c3) (c4 := c4) h hR ph xs hph hxl f1 f2 rfl x1 x2 rfl f3 x3
 have hdi := fun (m : Mem) (h : OpenN m 5 6 7 0 1 c c2 l ts) (F : Blk) (f1 : m.at 2 = some F) (f2 : F.cells = flatN ph) (f3 : F.obj = Ob.plain) => differences_q (n := ph.length) (c3 := c3) h hR ph hph f1 f2 rfl (by decide) f3
 rw [hph] at hop
 rw [htu] at hte
 have hgD : ∀ k, k < (edL ts).length → (flatN (dfL ts ph))[k]? = some (.int .i64 (nt (dfL ts ph) k)) := fun k hk => flatN_get _ k (by omega)
 have hgX : ∀ k, k < (edL ts).length → (flatN xs)[k]? = some (.int .i64 (nt xs k)) := fun k hk => flatN_get _ k (by omega)
 have hgP : (flatN ph)[0]? = some (.int .i64 (nt ph 0)) := flatN_get _ 0 (by omega)
 have hle2 := edL_le ts
 have h80 := hR.le
 generalize fdD (dfL ts ph) xs = DD at *
 have hSa : ∀ r k, (pt (edL ts) k).x ∈ (fdS (dfL ts ph) xs (edL ts) (fd0 l.length (nt ph 0)) r k).2 → (pt (edL ts) k).y ∉ (fdS (dfL ts ph) xs (edL ts) (fd0 l.length (nt ph 0)) r k).2 → flatN (fdS (dfL ts ph) xs (edL ts) (fd0 l.length (nt ph 0)) r (k + 1)).1 = (flatN (fdS (dfL ts ph) xs (edL ts) (fd0 l.length (nt ph 0)) r k).1).set (pt (edL ts) k).y.toNat (.int .i64 (nt (fdS (dfL ts ph) xs (edL ts) (fd0 l.length (nt ph 0)) r k).1 (pt (edL ts) k).x.toNat + (nt (dfL ts ph) k + 4096 * nt xs k))) ∧ (fdS (dfL ts ph) xs (edL ts) (fd0 l.length (nt ph 0)) r (k + 1)).2 = (fdS (dfL ts ph) xs (edL ts) (fd0 l.length (nt ph 0)) r k).2 ++ [(pt (edL ts) k).y] := fun r k h1 h2 => by
  rw [hSs, fdSt_a h1 h2]
  exact ⟨flatN_set _ _ _, rfl⟩
 have hSb : ∀ r k, (pt (edL ts) k).y ∈ (fdS (dfL ts ph) xs (edL ts) (fd0 l.length (nt ph 0)) r k).2 → (pt (edL ts) k).x ∉ (fdS (dfL ts ph) xs (edL ts) (fd0 l.length (nt ph 0)) r k).2 → flatN (fdS (dfL ts ph) xs (edL ts) (fd0 l.length (nt ph 0)) r (k + 1)).1 = (flatN (fdS (dfL ts ph) xs (edL ts) (fd0 l.length (nt ph 0)) r k).1).set (pt (edL ts) k).x.toNat (.int .i64 (nt (fdS (dfL ts ph) xs (edL ts) (fd0 l.length (nt ph 0)) r k).1 (pt (edL ts) k).y.toNat - (nt (dfL ts ph) k + 4096 * nt xs k))) ∧ (fdS (dfL ts ph) xs (edL ts) (fd0 l.length (nt ph 0)) r (k + 1)).2 = (fdS (dfL ts ph) xs (edL ts) (fd0 l.length (nt ph 0)) r k).2 ++ [(pt (edL ts) k).x] := fun r k h1 h2 => by
  rw [hSs, fdSt_b h1 h2]
  exact ⟨flatN_set _ _ _, rfl⟩
 have hSc : ∀ r k, ((pt (edL ts) k).x ∈ (fdS (dfL ts ph) xs (edL ts) (fd0 l.length (nt ph 0)) r k).2 ↔ (pt (edL ts) k).y ∈ (fdS (dfL ts ph) xs (edL ts) (fd0 l.length (nt ph 0)) r k).2) → fdS (dfL ts ph) xs (edL ts) (fd0 l.length (nt ph 0)) r (k + 1) = fdS (dfL ts ph) xs (edL ts) (fd0 l.length (nt ph 0)) r k := fun r k h1 => by
  rw [hSs, fdSt_c h1]
 clear hSs hD hd
 generalize fdS (dfL ts ph) xs (edL ts) (fd0 l.length (nt ph 0)) = S at *
 have hgO : ∀ r k i, k ≤ (edL ts).length → i < l.length → (flatN (S r k).1)[i]? = some (.int .i64 (nt (S r k).1 i)) := fun r k i hk hi => flatN_get _ i (by rw [(hok r k hk).len]; exact hi)
 have hOl : ∀ r k, k ≤ (edL ts).length → (flatN (S r k).1).length = l.length := fun r k hk => by rw [flatN_len, (hok r k hk).len]
 have hmS : ∀ r k x, x ∈ (S r k).2 → (x, Value.bool true) ∈ (S r k).2.map fun k => (k, Value.bool true) := fun r k x h => List.mem_map.2 ⟨x, h, rfl⟩
 have hmN : ∀ r k x, x ∉ (S r k).2 → x ∉ ((S r k).2.map fun k => (k, Value.bool true)).map (·.1) := fun r k x h => by rw [fst_map]; exact h
 have hmD : ∀ r k, k ≤ (edL ts).length → (((S r k).2.map fun k => (k, Value.bool true)).map (·.1)).Nodup := fun r k hk => by rw [fst_map]; exact (hok r k hk).nd
 refine ACalls.en 127 Tryz.func14 rfl rfl (fun E hE => ?_)
 repeat' (first | with_reducible (first | refine Then.n ?_ | refine Then.x ?_ | refine InB.n ?_ | refine InB.hit ?_) | ((with_reducible refine AL.on ?_); first | (refine AL.gd rfl ?_; (refine AL.gs1 rfl rfl (fun hc => ?_) (fun hc => ?_) <;> (try replace hc := nc hc) <;> first | (exfalso; contradiction) | refine AL.nm ?_)) | ((first | refine AL.mv ?_ | refine AL.as ?_ | ((with_reducible refine AL.k_load ?_); first | refine AL.g (OQ.loadN (ty := 25) (n := 2) rfl kr kr (by rfl)) ?_ | (refine AL.g (OQ.load1 (ty := 22) rfl kr (by (conv => lhs; whnf))) ?_) | (refine AL.g (OQ.load1 (ty := 3) rfl kr (by first | (exact hgP) | (conv => lhs; whnf))) ?_) | (refine AL.g (OQ.load1 (ty := 45) rfl kr (by (conv => lhs; whnf))) ?_) | refine AL.g (OQ.loadN (ty := 52) (n := 2) rfl kr kr (by (exact flatP_ld rfl rfl _ (by omega)))) ?_) | ((with_reducible refine AL.k_binOp ?_); first | refine AL.g (OQ.neq rfl rfl) ?_ | refine AL.g (OQ.lss rfl rfl) ?_ | refine AL.g (OQ.addi rfl rfl (by omega)) ?_) | ((with_reducible refine AL.k_call ?_); first | refine AL.g (OQ.lenS (xt := 22) (r := (none, 2, true)) rfl kr) ?_ | refine AL.g (OQ.mlen rfl Tryz.underlying107 rfl) ?_ | refine AL.g (OQ.lenS (xt := 26) (r := (none, 1, false)) rfl kr) ?_ | refine AL.g (OQ.lenS (xt := 45) (r := (none, 2, true)) rfl kr) ?_) | refine AL.et ?_ | ((with_reducible refine AL.k_unOp ?_); refine AL.g (OQ.not rfl) ?_) | ((with_reducible refine AL.k_pick ?_); first | refine AL.pT ?_ | refine AL.pF ?_) | refine AL.g (OQ.nilCheck rfl) ?_ | refine AL.q rfl (by first | exact (OQ.mlookS (enc := encI) (l := (S r k).2.map fun k => (k, Value.bool true)) (k := (pt (edL ts) k).x) (v := .bool true) KI trivial (fun _ _ => trivial) rfl rfl Tryz.underlying107 rfl (hmD r k (by omega)) (hmS r k _ hxm) rfl).2 | exact (OQ.mlookS (enc := encI) (l := (S r k).2.map fun k => (k, Value.bool true)) (k := (pt (edL ts) k).y) (v := .bool true) KI trivial (fun _ _ => trivial) rfl rfl Tryz.underlying107 rfl (hmD r k (by omega)) (hmS r k _ hym) rfl).2 | exact (OQ.mlookN (enc := encI) (l := (S r k).2.map fun k => (k, Value.bool true)) (k := (pt (edL ts) k).x) (v := .bool false) KI trivial (fun _ _ => trivial) rfl rfl Tryz.underlying107 rfl (hmN r k _ hxm) (fun w => by kernel_rfl) rfl).2 | exact (OQ.mlookN (enc := encI) (l := (S r k).2.map fun k => (k, Value.bool true)) (k := (pt (edL ts) k).y) (v := .bool false) KI trivial (fun _ _ => trivial) rfl rfl Tryz.underlying107 rfl (hmN r k _ hym) (fun w => by kernel_rfl) rfl).2) ?_); refine AL.nm ?_) | ((first | ((with_reducible refine AL.k_indexAddr ?_); first | refine AL.g (OQ.idxAddr (ty := 26) (z := 1) (g := false) rfl rfl kr (by omega) (by omega)) ?_ | refine AL.g (OQ.idxAddr (ty := 45) (z := 2) (g := true) rfl rfl kr (by omega) (by omega)) ?_ | refine AL.g (OQ.idxPtr (ty := 52) (n := 1) (l := 2) (g := false) rfl rfl kr (by omega) (by omega)) ?_) | ((with_reducible refine AL.k_call ?_); refine AL.pcall (g := 66) rfl kr rfl ((by exact hte _ ⟨⟨_, rfl, rfl, rfl⟩, ⟨_, rfl, rfl, rfl⟩, ⟨_, rfl, rfl, rfl⟩, ⟨_, rfl⟩, ⟨_, rfl, rfl, rfl⟩⟩ _ _ rfl rfl rfl rfl rfl rfl)) ?_) | ((with_reducible refine AL.k_fieldAddr ?_); first | refine AL.g (OQ.fieldA (ty := 25) (i := 0) (n := 1) (off := 0) (g := false) rfl kr (by decide)) ?_ | refine AL.g (OQ.fieldA (ty := 110) (i := 1) (n := 1) (off := 2) (g := false) rfl kr (by decide)) ?_)); refine AL.nm ?_) | ((first | ((with_reducible refine AL.k_call ?_); first | refine AL.acall (g := 65) rfl kr rfl ((by exact hop _ ⟨⟨_, rfl, rfl, hz, rfl⟩, ⟨_, rfl, rfl, rfl⟩, by decide⟩ _ rfl rfl rfl)) ?_ | refine AL.acall (g := 67) rfl kr rfl ((by exact hdi _ ⟨⟨_, rfl, rfl, rfl⟩, ⟨_, rfl, rfl, rfl⟩, ⟨_, rfl, rfl, rfl⟩, ⟨_, rfl⟩, ⟨_, rfl, rfl, rfl⟩⟩ _ rfl rfl rfl)) ?_) | ((with_reducible refine AL.k_store ?_); first | (refine AL.w rfl (OW.store (ty := 3) (n := 1) rfl wl rfl rfl kr rfl rfl (by decide) rfl (by (((simp; omega)))) (by intro r h; cases h)) ?_) | (refine AL.w rfl (OW.store (ty := 52) (n := 2) rfl wl rfl rfl kr rfl rfl (by decide) rfl (by exact Nat.le_of_ble_eq_true rfl) (by intro r h; cases h)) ?_)) | refine AL.bx ?_ | ((with_reducible refine AL.k_alloc ?_); refine AL.w rfl (OW.alloc (ty := 52) (z := [.int .i64 0, .int .i64 0]) kr rfl) ?_) | refine AL.w rfl (OW.makeSl (st := 26) (e := 3) (z := 1) (by' := 8) (zs := [.int .i64 0]) rfl kr kr kr rfl rfl kr (by decide) (by omega) (by omega)) ?_ | refine AL.w rfl OW.makeMap ?_ | refine AL.w rfl (by first | exact OW.ins (OW.minsN (enc := encI) (l := ([] : List Int)) (k := 0) (v := .bool true) KI trivial (fun _ _ => trivial) rfl rfl rfl Tryz.underlying107 rfl List.nodup_nil (by simp) rfl) | exact OW.minsN (enc := encI) (l := (S r k).2) (k := (pt (edL ts) k).y) (v := .bool true) KI trivial (fun _ _ => trivial) rfl rfl rfl Tryz.underlying107 rfl ((hok r k (by omega)).nd) hym rfl | exact OW.minsN (enc := encI) (l := (S r k).2) (k := (pt (edL ts) k).x) (v := .bool true) KI trivial (fun _ _ => trivial) rfl rfl rfl Tryz.underlying107 rfl ((hok r k (by omega)).nd) hxm rfl) ?_); refine AL.nm ?_; refine AL.nM ?_) | refine AL.nil ?_) | ((with_reducible refine AW.on ?_); first | refine AW.seq ?_ | refine AW.skip ?_ | refine AW.exit ?_ | refine AW.ret ?_ | ((refine AW.block (id := 0) ?_); (refine AW.fk [2, 8, 12, 13, 14] ?_); (refine AW.wk (t' := [jk, jk, .slice (some ⟨3, 0, none⟩) xs.length c4, jk, jk, jk, jk, jk, .pointer (some ⟨4, 0, none⟩), jk, jk, jk, .slice (some ⟨7, 0, none⟩) ((edL ts).length) INF, .slice (some ⟨8, 0, none⟩) l.length l.length, .map (some 9), jk, jk, jk, jk, jk, jk, jk, jk, jk, jk, jk, jk, jk, jk, jk, jk, jk, jk, jk, jk, jk, jk, jk, jk, jk, jk, jk, jk, jk, jk, jk, jk, jk, jk, jk, jk, jk, jk, jk, jk, jk, jk, jk, jk, jk, jk, jk, jk, jk, jk, jk, jk, jk, jk, jk, jk, jk, jk, jk, jk, jk, jk, jk, jk, jk, jk, jk, jk, jk, jk, jk, jk, jk, jk, jk, jk, jk, jk, jk, jk, jk, jk, jk, jk, jk, jk, jk, jk, jk, jk, jk, jk, jk, jk, jk, jk, jk, jk, jk, jk, jk, jk, jk, jk, jk, jk, jk, jk, jk, jk, jk, jk, jk, jk, jk]) (m' := [some ⟨flatP l, false, z⟩, some ⟨flatT ts, false, z1⟩, some ⟨flatN ph, false, z2⟩, some ⟨flatN xs, false, z3⟩, some ⟨[.slice (some ⟨0, 0, none⟩) l.length c, .slice (some ⟨1, 0, none⟩) ts.length c2, .slice (some ⟨6, 0, none⟩) (edL ts).length INF, .map (some 5)], true, 0⟩, some (mpX (lfA ts) true 0), some ⟨flatP (edL ts), true, 2⟩, some ⟨flatN (dfL ts ph), true, 1⟩, some ⟨flatN (S 0 0).1, true, 1⟩, some (mpU (S 0 0).2)]) (Wk.keep 4 [5, 6, 7, 8, 9, 10] (by rw [hE]; exact Nat.le_of_ble_eq_true rfl) rfl rfl (by repeat (first | exact RenT.nil | refine RenT.jk ?_ | refine RenT.val (by rfl) (by rfl) ?_)) ⟨kl rfl (flatP_scal l), kl rfl (flatT_scal ts), kl rfl (flatN_scal _), kl rfl (flatN_scal _), ki rfl, kl rfl rfl, kl rfl (flatP_scal _), kl rfl (flatN_scal _), ⟨_, rfl, rfl, rfl, .inl ⟨fd0_c hS0 (fun i => by simp [Nat.mod_one]), flatN_scal _⟩⟩, ⟨_, rfl, rfl, (by rw [hS0]; rfl), .inl ⟨rfl, rfl⟩⟩, trivial⟩) ?_); (refine AW.loop (fun n' t' m => ∃ r : Nat, n' = R - r ∧ r ≤ R ∧ t' = (mtz 130 0 [(2, .slice (some ⟨3, 0, none⟩) xs.length c4), (8, .pointer (some ⟨4, 0, none⟩)), (12, .slice (some ⟨7, 0, none⟩) ((edL ts).length) INF), (13, .slice (some ⟨8, 0, none⟩) l.length l.length), (14, .map (some 9))]) ∧ m = [some ⟨flatP l, false, z⟩, some ⟨flatT ts, false, z1⟩, some ⟨flatN ph, false, z2⟩, some ⟨flatN xs, false, z3⟩, some ⟨[.slice (some ⟨0, 0, none⟩) l.length c, .slice (some ⟨1, 0, none⟩) ts.length c2, .slice (some ⟨6, 0, none⟩) (edL ts).length INF, .map (some 5)], true, 0⟩, some (mpX (lfA ts) true 0), some ⟨flatP (edL ts), true, 2⟩, some ⟨flatN (dfL ts ph), true, 1⟩, some ⟨flatN (S r 0).1, true, 1⟩, some (mpU (S r 0).2)]) (R) (by exact ⟨0, rfl, Nat.zero_le _, rfl, rfl⟩) ?_); (rintro n' t' m ⟨r, rfl, hr, rfl, rfl⟩); (refine AW.nT ?_)) | ((refine AW.block (id := 2) ?_); (refine AW.fk [2, 8, 12, 13, 14, 59, 60, 61] ?_); (refine AW.loop (fun n' t' m => ∃ k : Nat, n' = (edL ts).length - k ∧ k ≤ (edL ts).length ∧ t' = (mtz 130 0 [(2, .slice (some ⟨3, 0, none⟩) xs.length c4), (8, .pointer (some ⟨4, 0, none⟩)), (12, .slice (some ⟨7, 0, none⟩) ((edL ts).length) INF), (13, .slice (some ⟨8, 0, none⟩) l.length l.length), (14, .map (some 9)), (59, .slice (some ⟨6, 0, none⟩) ((edL ts).length) INF), (60, .int .i64 ((edL ts).length)), (61, .int .i64 (k))]) ∧ m = [some ⟨flatP l, false, z⟩, some ⟨flatT ts, false, z1⟩, some ⟨flatN ph, false, z2⟩, some ⟨flatN xs, false, z3⟩, some ⟨[.slice (some ⟨0, 0, none⟩) l.length c, .slice (some ⟨1, 0, none⟩) ts.length c2, .slice (some ⟨6, 0, none⟩) (edL ts).length INF, .map (some 5)], true, 0⟩, some (mpX (lfA ts) true 0), some ⟨flatP (edL ts), true, 2⟩, some ⟨flatN (dfL ts ph), true, 1⟩, some ⟨flatN (S r k).1, true, 1⟩, some (mpU (S r k).2)]) ((edL ts).length) (by exact ⟨0, rfl, Nat.zero_le _, rfl, rfl⟩) ?_); (rintro n' t' m ⟨k, rfl, hk, rfl, rfl⟩); (refine AW.nT ?_); (have hrR : r < R := (by rcases Nat.lt_or_eq_of_le hr with h | h; (exact h); (exfalso; subst h; ((simp only [List.length_map] at hc; omega)))))) | refine AW.block ?_ | (refine AW.drawF (id := 15) 9 #[0, 0, 3, 7, 0, 0, 48, 112, 240, 511, 1023] kr kr ?_; (conv => (arg 8; simp only [List.take_succ_cons, List.take_zero])); ((have hq1 := hdb k (by omega); have hq2 := hxb k (by omega)))) | (refine AW.drawF (id := 17) 15 #[0, 0, 2, 0, 0, 16, 0, 0, 128, 448, 960, 0, 4032, 8135, 16327, 32767] kr kr ?_; (conv => (arg 8; simp only [List.take_succ_cons, List.take_zero])); ((have hq3 := (hok r k (by omega)).bd (pt (edL ts) k).x.toNat (by omega); have hq4 := hle r k (by omega)))) | (refine AW.drawF (id := 19) 15 #[0, 0, 2, 0, 0, 16, 0, 0, 128, 448, 960, 0, 4032, 8135, 16327, 32767] kr kr ?_; (conv => (arg 8; simp only [List.take_succ_cons, List.take_zero])); ((have hq3 := (hok r k (by omega)).bd (pt (edL ts) k).y.toNat (by omega); have hq4 := hle r k (by omega)))) | (refine AW.region (id := 14) ?_; ((have hkl : k < (edL ts).length := (by omega); have hr2 := he k (by omega)))) | (refine AW.region (id := 16) ?_; ((rcases Classical.em ((pt (edL ts) k).x ∈ (S r k).2) with hxm | hxm <;> rcases Classical.em ((pt (edL ts) k).y ∈ (S r k).2) with hym | hym))) | refine AW.region ?_ | (refine AW.conds rfl (fun hc => ?_) (fun hc => ?_) <;> (try replace hc := nc hc) <;> first | (exfalso; contradiction) | skip)) | ((with_reducible refine AF.on ?_); first | ((first | ((with_reducible refine AF.k_move ?_); (refine AF.q 0 (SW.q (OQ.move wl) rfl) ?_)) | ((with_reducible refine AF.k_indexAddr ?_); first | refine AF.q 0 (SW.q (OQ.idxAddr (ty := 26) (z := 1) (g := false) rfl rfl kr (by omega) (by omega)) rfl) ?_ | refine AF.q 0 (SW.q (OQ.idxPtr (ty := 52) (n := 1) (l := 2) (g := false) rfl rfl kr (by omega) (by omega)) rfl) ?_) | ((with_reducible refine AF.k_load ?_); (refine AF.ql rfl (SW.q (OQ.load1 (ty := 3) rfl kr (by first | (first | exact hgD k (by omega) | exact hgX k (by omega) | exact hgO _ _ _ (by omega) (by omega)) | (conv => lhs; whnf))) rfl) ?_)) | ((with_reducible refine AF.k_binOp ?_); first | refine AF.q 0 (SW.q (OQ.muli rfl rfl (by omega)) rfl) ?_ | refine AF.q 0 (SW.q (OQ.addi rfl rfl (by omega)) rfl) ?_ | refine AF.q 0 (SW.q (OQ.subi rfl rfl (by omega)) rfl) ?_)); refine AF.nm ?_) | (((refine AF.sl rfl (SW.w (OW.store (ty := 3) (n := 1) rfl wl rfl rfl kr rfl rfl (by decide) rfl (by (((simp only [List.length_set, hOl _ _ (Nat.le_of_lt hkl)]; omega)))) (by intro r h; cases h)) rfl) rfl ?_)); refine AF.nm ?_; (conv => (arg 10; try tactic => exact nrmF))) | refine AF.nl ?_) | ((with_reducible refine ex_on ?_); first | ((obtain rfl : k = (edL ts).length := (by omega); refine ⟨R - (r + 1), _, _, by omega, ?_, r + 1, rfl, by omega, rfl, by rw [hSe r]⟩; exact Wk.fk [2, 8, 12, 13, 14] rfl)) | (first | (have hs := hSc r k (iff_of_true hxm hym); refine ⟨(edL ts).length - (k + 1), [jk, jk, .slice (some ⟨3, 0, none⟩) xs.length c4, jk, jk, jk, jk, jk, .pointer (some ⟨4, 0, none⟩), jk, jk, jk, .slice (some ⟨7, 0, none⟩) ((edL ts).length) INF, .slice (some ⟨8, 0, none⟩) l.length l.length, .map (some 9), jk, jk, jk, jk, jk, jk, jk, jk, jk, jk, jk, jk, jk, jk, jk, jk, jk, jk, jk, jk, jk, jk, jk, jk, jk, jk, jk, jk, jk, jk, jk, jk, jk, jk, jk, jk, jk, jk, jk, jk, jk, jk, jk, jk, .slice (some ⟨6, 0, none⟩) ((edL ts).length) INF, .int .i64 ((edL ts).length), .int .i64 (((k + 1 : Nat) : Int)), jk, jk, jk, jk, jk, jk, jk, jk, jk, jk, jk, jk, jk, jk, jk, jk, jk, jk, jk, jk, jk, jk, jk, jk, jk, jk, jk, jk, jk, jk, jk, jk, jk, jk, jk, jk, jk, jk, jk, jk, jk, jk, jk, jk, jk, jk, jk, jk, jk, jk, jk, jk, jk, jk, jk, jk, jk, jk, jk, jk, jk, jk, jk, jk, jk, jk, jk, jk], [some ⟨flatP l, false, z⟩, some ⟨flatT ts, false, z1⟩, some ⟨flatN ph, false, z2⟩, some ⟨flatN xs, false, z3⟩, some ⟨[.slice (some ⟨0, 0, none⟩) l.length c, .slice (some ⟨1, 0, none⟩) ts.length c2, .slice (some ⟨6, 0, none⟩) (edL ts).length INF, .map (some 5)], true, 0⟩, some (mpX (lfA ts) true 0), some ⟨flatP (edL ts), true, 2⟩, some ⟨flatN (dfL ts ph), true, 1⟩, some ⟨flatN (S r (k + 1)).1, true, 1⟩, some (mpU (S r (k + 1)).2)], by omega, ?_, k + 1, rfl, by omega, rfl, rfl⟩; rw [hs]; exact Wk.keep 10 [] (by rw [hE]; exact Nat.le_of_ble_eq_true rfl) rfl rfl (by repeat (first | exact RenT.nil | refine RenT.jk ?_ | refine RenT.val (by rfl) (by rfl) ?_)) ⟨kl rfl (flatP_scal l), kl rfl (flatT_scal ts), kl rfl (flatN_scal _), kl rfl (flatN_scal _), ki rfl, kl rfl rfl, kl rfl (flatP_scal _), kl rfl (flatN_scal _), kl rfl (flatN_scal _), kl rfl rfl, trivial⟩) | (have hs := hSc r k (iff_of_false hxm hym); refine ⟨(edL ts).length - (k + 1), [jk, jk, .slice (some ⟨3, 0, none⟩) xs.length c4, jk, jk, jk, jk, jk, .pointer (some ⟨4, 0, none⟩), jk, jk, jk, .slice (some ⟨7, 0, none⟩) ((edL ts).length) INF, .slice (some ⟨8, 0, none⟩) l.length l.length, .map (some 9), jk, jk, jk, jk, jk, jk, jk, jk, jk, jk, jk, jk, jk, jk, jk, jk, jk, jk, jk, jk, jk, jk, jk, jk, jk, jk, jk, jk, jk, jk, jk, jk, jk, jk, jk, jk, jk, jk, jk, jk, jk, jk, jk, jk, .slice (some ⟨6, 0, none⟩) ((edL ts).length) INF, .int .i64 ((edL ts).length), .int .i64 (((k + 1 : Nat) : Int)), jk, jk, jk, jk, jk, jk, jk, jk, jk, jk, jk, jk, jk, jk, jk, jk, jk, jk, jk, jk, jk, jk, jk, jk, jk, jk, jk, jk, jk, jk, jk, jk, jk, jk, jk, jk, jk, jk, jk, jk, jk, jk, jk, jk, jk, jk, jk, jk, jk, jk, jk, jk, jk, jk, jk, jk, jk, jk, jk, jk, jk, jk, jk, jk, jk, jk, jk, jk], [some ⟨flatP l, false, z⟩, some ⟨flatT ts, false, z1⟩, some ⟨flatN ph, false, z2⟩, some ⟨flatN xs, false, z3⟩, some ⟨[.slice (some ⟨0, 0, none⟩) l.length c, .slice (some ⟨1, 0, none⟩) ts.length c2, .slice (some ⟨6, 0, none⟩) (edL ts).length INF, .map (some 5)], true, 0⟩, some (mpX (lfA ts) true 0), some ⟨flatP (edL ts), true, 2⟩, some ⟨flatN (dfL ts ph), true, 1⟩, some ⟨flatN (S r (k + 1)).1, true, 1⟩, some (mpU (S r (k + 1)).2)], by omega, ?_, k + 1, rfl, by omega, rfl, rfl⟩; rw [hs]; exact Wk.keep 10 [] (by rw [hE]; exact Nat.le_of_ble_eq_true rfl) rfl rfl (by repeat (first | exact RenT.nil | refine RenT.jk ?_ | refine RenT.val (by rfl) (by rfl) ?_)) ⟨kl rfl (flatP_scal l), kl rfl (flatT_scal ts), kl rfl (flatN_scal _), kl rfl (flatN_scal _), ki rfl, kl rfl rfl, kl rfl (flatP_scal _), kl rfl (flatN_scal _), kl rfl (flatN_scal _), kl rfl rfl, trivial⟩) | (have hs := hSa r k hxm hym; have hsc := flatN_scal (S r (k + 1)).1; refine ⟨(edL ts).length - (k + 1), [jk, jk, .slice (some ⟨3, 0, none⟩) xs.length c4, jk, jk, jk, jk, jk, .pointer (some ⟨4, 0, none⟩), jk, jk, jk, .slice (some ⟨7, 0, none⟩) ((edL ts).length) INF, .slice (some ⟨8, 0, none⟩) l.length l.length, .map (some 9), jk, jk, jk, jk, jk, jk, jk, jk, jk, jk, jk, jk, jk, jk, jk, jk, jk, jk, jk, jk, jk, jk, jk, jk, jk, jk, jk, jk, jk, jk, jk, jk, jk, jk, jk, jk, jk, jk, jk, jk, jk, jk, jk, jk, .slice (some ⟨6, 0, none⟩) ((edL ts).length) INF, .int .i64 ((edL ts).length), .int .i64 (((k + 1 : Nat) : Int)), jk, jk, jk, jk, jk, jk, jk, jk, jk, jk, jk, jk, jk, jk, jk, jk, jk, jk, jk, jk, jk, jk, jk, jk, jk, jk, jk, jk, jk, jk, jk, jk, jk, jk, jk, jk, jk, jk, jk, jk, jk, jk, jk, jk, jk, jk, jk, jk, jk, jk, jk, jk, jk, jk, jk, jk, jk, jk, jk, jk, jk, jk, jk, jk, jk, jk, jk, jk], [some ⟨flatP l, false, z⟩, some ⟨flatT ts, false, z1⟩, some ⟨flatN ph, false, z2⟩, some ⟨flatN xs, false, z3⟩, some ⟨[.slice (some ⟨0, 0, none⟩) l.length c, .slice (some ⟨1, 0, none⟩) ts.length c2, .slice (some ⟨6, 0, none⟩) (edL ts).length INF, .map (some 5)], true, 0⟩, some (mpX (lfA ts) true 0), some ⟨flatP (edL ts), true, 2⟩, some ⟨flatN (dfL ts ph), true, 1⟩, some ⟨flatN (S r (k + 1)).1, true, 1⟩, some (mpU (S r (k + 1)).2)], by omega, ?_, k + 1, rfl, by omega, rfl, rfl⟩; rw [hs.1] at hsc ⊢; rw [hs.2]; exact Wk.keep 10 [] (by rw [hE]; exact Nat.le_of_ble_eq_true rfl) rfl rfl (by repeat (first | exact RenT.nil | refine RenT.jk ?_ | refine RenT.val (by rfl) (by rfl) ?_)) ⟨kl rfl (flatP_scal l), kl rfl (flatT_scal ts), kl rfl (flatN_scal _), kl rfl (flatN_scal _), ki rfl, kl rfl rfl, kl rfl (flatP_scal _), kl rfl (flatN_scal _), ⟨_, rfl, rfl, rfl, .inl ⟨rfl, hsc⟩⟩, kl rfl rfl, trivial⟩) | (have hs := hSb r k hym hxm; have hsc := flatN_scal (S r (k + 1)).1; refine ⟨(edL ts).length - (k + 1), [jk, jk, .slice (some ⟨3, 0, none⟩) xs.length c4, jk, jk, jk, jk, jk, .pointer (some ⟨4, 0, none⟩), jk, jk, jk, .slice (some ⟨7, 0, none⟩) ((edL ts).length) INF, .slice (some ⟨8, 0, none⟩) l.length l.length, .map (some 9), jk, jk, jk, jk, jk, jk, jk, jk, jk, jk, jk, jk, jk, jk, jk, jk, jk, jk, jk, jk, jk, jk, jk, jk, jk, jk, jk, jk, jk, jk, jk, jk, jk, jk, jk, jk, jk, jk, jk, jk, jk, jk, jk, jk, .slice (some ⟨6, 0, none⟩) ((edL ts).length) INF, .int .i64 ((edL ts).length), .int .i64 (((k + 1 : Nat) : Int)), jk, jk, jk, jk, jk, jk, jk, jk, jk, jk, jk, jk, jk, jk, jk, jk, jk, jk, jk, jk, jk, jk, jk, jk, jk, jk, jk, jk, jk, jk, jk, jk, jk, jk, jk, jk, jk, jk, jk, jk, jk, jk, jk, jk, jk, jk, jk, jk, jk, jk, jk, jk, jk, jk, jk, jk, jk, jk, jk, jk, jk, jk, jk, jk, jk, jk, jk, jk], [some ⟨flatP l, false, z⟩, some ⟨flatT ts, false, z1⟩, some ⟨flatN ph, false, z2⟩, some ⟨flatN xs, false, z3⟩, some ⟨[.slice (some ⟨0, 0, none⟩) l.length c, .slice (some ⟨1, 0, none⟩) ts.length c2, .slice (some ⟨6, 0, none⟩) (edL ts).length INF, .map (some 5)], true, 0⟩, some (mpX (lfA ts) true 0), some ⟨flatP (edL ts), true, 2⟩, some ⟨flatN (dfL ts ph), true, 1⟩, some ⟨flatN (S r (k + 1)).1, true, 1⟩, some (mpU (S r (k + 1)).2)], by omega, ?_, k + 1, rfl, by omega, rfl, rfl⟩; rw [hs.1] at hsc ⊢; rw [hs.2]; exact Wk.keep 10 [] (by rw [hE]; exact Nat.le_of_ble_eq_true rfl) rfl rfl (by repeat (first | exact RenT.nil | refine RenT.jk ?_ | refine RenT.val (by rfl) (by rfl) ?_)) ⟨kl rfl (flatP_scal l), kl rfl (flatT_scal ts), kl rfl (flatN_scal _), kl rfl (flatN_scal _), ki rfl, kl rfl rfl, kl rfl (flatP_scal _), kl rfl (flatN_scal _), ⟨_, rfl, rfl, rfl, .inl ⟨rfl, hsc⟩⟩, kl rfl rfl, trivial⟩))) | ((with_reducible refine FinA.on ?_); (obtain rfl : r = R := (by rcases Nat.lt_or_eq_of_le hr with h | h; (exfalso; have := hlt2 r h; (simp only [List.length_map] at hc; omega)); (exact h)); refine FinA.keep 4 [8] (.inl rfl) (.tmp wl (.tmp wl .nil)) ?_ rfl (Nat.le_of_eq hE) rfl rfl ⟨kl rfl (flatP_scal l), kl rfl (flatT_scal ts), kl rfl (flatN_scal _), kl rfl (flatN_scal _), kl rfl (flatN_scal _), trivial⟩; rfl)))
end Go.Proofs.YtmohcmghbfhdlaaGreat
end
end
/- Chapter 6: fields of turns in a greater memory, and their errors (the program's). -/
section
set_option linter.unusedSimpArgs false
set_option linter.unusedVariables false
section
namespace Go.Me
open Go.Ab Go.Proofs.YtmohcmghbfhdlaaGreat
end Go.Me
namespace Go.Proofs.YtmohcmghbfhdlaaGreat
open Go Go.RowKit Go.Ab Go.Me
set_option maxRecDepth 100000
set_option maxHeartbeats 4000000
attribute [local irreducible] OQ OW AL AW AF SW
theorem Field_y {m : Mem} {bP bT bF bX n k j i c c2 c3 c4 : Nat} {F X : Blk} (l : List Pn) (ts : List T3) (ph xs : List Int) (hA : ArgN m bP bT l ts) (hn : l.length = n) (hk : ts.length = k) (f1 : m.at bF = some F) (f2 : F.cells = flatN ph) (hj : ph.length = j) (x1 : m.at bX = some X) (x2 : X.cells = flatN xs) (hi : xs.length = i) (hR : NetR l ts) (hph : phE l ph = 0) (htu : tuE ts ph xs = 0) (R : Nat) (hF : FdR (dfL ts ph) xs (edL ts) (fd0 l.length (nt ph 0)) l.length R) (hxl : xs.length ≤ 1000000) (hd : [bP, bT, bF, bX].Nodup) (f3 : F.obj = Ob.plain := by rfl) (x3 : X.obj = Ob.plain := by rfl) :
  ACalls Tryz.prog 14 [.agg #[.slice (some ⟨bP, 0, none⟩) n c, .slice (some ⟨bT, 0, none⟩) k c2], .slice (some ⟨bF, 0, none⟩) j c3, .slice (some ⟨bX, 0, none⟩) i c4] m (.tuple #[.slice (some ⟨m.length, 0, none⟩) n n, .int .i64 0]) (m ++ [some ⟨flatN (fdN (dfL ts ph) xs (edL ts) (fd0 l.length (nt ph 0)) R).1, true, 1⟩]) := by
 subst hn hk hj hi
 obtain ⟨⟨A, h1, h2, h3, h4⟩, ⟨B, h5, h6, h7⟩, _⟩ := hA
 have h := ACalls.viaS (m := m) (args := [.agg #[.slice (some ⟨bP, 0, none⟩) l.length c, .slice (some ⟨bT, 0, none⟩) ts.length c2], .slice (some ⟨bF, 0, none⟩) ph.length c3, .slice (some ⟨bX, 0, none⟩) xs.length c4]) (v := .tuple #[.slice (some ⟨m.length, 0, none⟩) l.length l.length, .int .i64 0]) [bP, bT, bF, bX] [] [some ⟨flatN (fdN (dfL ts ph) xs (edL ts) (fd0 l.length (nt ph 0)) R).1, true, 1⟩] (Field_y0 l ts hR ph xs hph htu R hF hxl c c2 c3 c4 A.esz B.esz F.esz X.esz h3) ⟨bS h1 h4 h2 (flatP_scal _), bS h5 h7 h6 (flatT_scal _), bS f1 f3 f2 (flatN_scal _), bS x1 x3 x2 (flatN_scal _), trivial⟩ hd
  ⟨⟨_, rfl, rfl⟩, ⟨_, rfl, rfl⟩, ⟨_, rfl, rfl⟩, ⟨_, rfl, rfl⟩, ⟨rfl, rfl, rfl, .inl ⟨rfl, flatN_scal _⟩⟩, trivial⟩ rfl rfl rfl rfl
 exact h
end Go.Proofs.YtmohcmghbfhdlaaGreat
end
end
/- Chapter 6: tasks, opened; the cost of turns (the program's). -/
section
set_option linter.unusedSimpArgs false
set_option linter.unusedVariables false
section
namespace Go.Me
open Go.Ab Go.Proofs.YtmohcmghbfhdlaaGreat
structure TaskR (l : List Pn) (ts : List T3) (ph cs : List Int) : Prop where
 net : NetR l ts
 ph : phE l ph = 0
 len : cs.length = (edL ts).length
 rng : cs.any (fun x => !rgB x 0 1000) = false
def coL (cs xs : List Int) : Nat → Int
 | 0 => 0
 | k + 1 => coL cs xs k + nt cs k * (if -nt xs k > nt xs k then -nt xs k else nt xs k)
theorem abs_mul {a b : Int} (h1 : 0 ≤ a ∧ a ≤ 1000) (h2 : -100 ≤ b ∧ b ≤ 100) : 0 ≤ a * (if -b > b then -b else b) ∧ a * (if -b > b then -b else b) ≤ 100000 := by
 have h3 : 0 ≤ (if -b > b then -b else b) ∧ (if -b > b then -b else b) ≤ 100 := by split <;> omega
 generalize (if -b > b then -b else b) = x at h3
 refine ⟨Int.mul_nonneg h1.1 h3.1, ?_⟩
 have h4 : a * x ≤ 1000 * 100 := Int.mul_le_mul h1.2 h3.2 h3.1 (by decide)
 exact h4
theorem coL_bd {cs xs : List Int} (h : ∀ k, k < xs.length → (0 ≤ nt cs k ∧ nt cs k ≤ 1000) ∧ (-100 ≤ nt xs k ∧ nt xs k ≤ 100)) : ∀ k, k ≤ xs.length → 0 ≤ coL cs xs k ∧ coL cs xs k ≤ 100000 * (k : Int)
 | 0, _ => by simp [coL]
 | k + 1, hk => by
  have ih := coL_bd h k (by omega)
  have h1 := h k (by omega)
  have h2 := abs_mul h1.1 h1.2
  show 0 ≤ coL cs xs k + _ ∧ coL cs xs k + _ ≤ _
  omega
end Go.Me
namespace Go.Proofs.YtmohcmghbfhdlaaGreat
open Go Go.RowKit Go.Ab Go.Me
set_option maxRecDepth 100000
set_option maxHeartbeats 4000000
attribute [local irreducible] OQ OW AL AW AF SW
theorem openTask_y0 (l : List Pn) (ts : List T3) (ph cs : List Int) (hT : TaskR l ts ph cs) (c c2 c3 c4 z z1 z2 z3 : Nat) (hz : z = 0 ∨ z = 2) :
  ACalls Tryz.prog 85 [.agg #[.slice (some ⟨0, 0, none⟩) l.length c, .slice (some ⟨1, 0, none⟩) ts.length c2, .slice (some ⟨2, 0, none⟩) ph.length c3, .slice (some ⟨3, 0, none⟩) cs.length c4]] [some ⟨flatP l, false, z⟩, some ⟨flatT ts, false, z1⟩, some ⟨flatN ph, false, z2⟩, some ⟨flatN cs, false, z3⟩]
   (.tuple #[.pointer (some ⟨7, 0, none⟩), .int .i64 0]) [some ⟨flatP l, false, z⟩, some ⟨flatT ts, false, z1⟩, some ⟨flatN ph, false, z2⟩, some ⟨flatN cs, false, z3⟩, some ⟨[.slice (some ⟨0, 0, none⟩) l.length c, .slice (some ⟨1, 0, none⟩) ts.length c2, .slice (some ⟨6, 0, none⟩) (edL ts).length INF, .map (some 5)], true, 0⟩, some (mpX (lfA ts) true 0), some ⟨flatP (edL ts), true, 2⟩, some ⟨[.pointer (some ⟨4, 0, none⟩), .slice (some ⟨2, 0, none⟩) ph.length c3, .slice (some ⟨3, 0, none⟩) cs.length c4], true, 0⟩] := by
 obtain ⟨hR, hph, hcl, hca⟩ := hT
 have hpl := phE_0 hph
 have h40 := (cp_ok hR.cp).1
 have hle := edL_le ts
 have h80 := hR.le
 have hop := fun (m : Mem) (hA : ArgN m 0 1 l ts) (F : Blk) (f1 : m.at 2 = some F) (f2 : F.cells = flatN ph) (f3 : F.obj = Ob.plain) => openPhases_y (c := c) (c2 := c2) (c3 := c3) l ts ph hA rfl rfl f1 f2 rfl (by rw [hpl.1]; omega) hR (by decide) f3
 have hc3 := fun (m : Mem) (blk : Blk) (h1 : m.at 3 = some blk) (h2 : blk.cells = flatN cs) (h3 : blk.obj = Ob.plain) => ContainsI_q (c := c4) 136 (by kernel_rfl) (fun x => !rgB x 0 1000) tooMuch_q cs (by omega) h1 h2 rfl h3
 rw [hph] at hop
 rw [hca] at hc3
 clear hca
 refine ACalls.en 38 Tryz.func85 rfl rfl (fun E hE => ?_)
 repeat' (first | with_reducible (first | refine Then.n ?_ | refine InB.n ?_) | ((with_reducible refine AL.on ?_); first | ((first | refine AL.as ?_ | ((with_reducible refine AL.k_fieldAddr ?_); first | refine AL.g (OQ.fieldA (ty := 67) (i := 0) (n := 2) (off := 0) (g := true) rfl kr (by decide)) ?_ | refine AL.g (OQ.fieldA (ty := 67) (i := 1) (n := 1) (off := 2) (g := false) rfl kr (by decide)) ?_ | refine AL.g (OQ.fieldA (ty := 67) (i := 2) (n := 1) (off := 3) (g := false) rfl kr (by decide)) ?_) | ((with_reducible refine AL.k_load ?_); first | refine AL.g (OQ.loadN (ty := 25) (n := 2) rfl kr kr rfl) ?_ | (refine AL.g (OQ.load1 (ty := 26) rfl kr wl) ?_)) | refine AL.mv ?_ | refine AL.et ?_ | ((with_reducible refine AL.k_binOp ?_); refine AL.g (OQ.neq rfl rfl) ?_)); refine AL.nm ?_) | ((first | ((with_reducible refine AL.k_call ?_); refine AL.pcall (g := 87) rfl kr rfl ((by exact hc3 _ _ rfl rfl rfl)) ?_) | ((with_reducible refine AL.k_build ?_); refine AL.g (OQ.buildS (ty := 134) (zs := [.pointer none, .slice none 0 0, .slice none 0 0]) (pls := [(0, 1), (1, 1), (2, 1)]) kr rfl kr rfl rfl rfl) ?_)); refine AL.nm ?_) | ((first | ((with_reducible refine AL.k_call ?_); refine AL.acall (g := 65) rfl kr rfl ((by exact hop _ ⟨⟨_, rfl, rfl, hz, rfl⟩, ⟨_, rfl, rfl, rfl⟩, by decide⟩ _ rfl rfl rfl)) ?_) | refine AL.bx ?_); refine AL.nm ?_; refine AL.nM ?_) | refine AL.nil ?_) | ((with_reducible refine AW.on ?_); first | refine AW.seq ?_ | refine AW.skip ?_ | refine AW.ret ?_ | refine AW.block ?_ | (refine AW.drawF (id := 4) 8 #[0, 1, 3, 0, 8, 24, 56, 120, 255, 511] kr kr ?_; (conv => (arg 8; simp only [List.take_succ_cons, List.take_zero]))) | refine AW.region ?_ | (refine AW.conds rfl (fun hc => ?_) (fun hc => ?_) <;> (try replace hc := nc hc) <;> first | (exfalso; first | contradiction | (omega); done) | skip)) | ((with_reducible refine AF.on ?_); first | ((first | ((with_reducible refine AF.k_fieldAddr ?_); first | refine AF.q 0 (SW.q (OQ.fieldA (ty := 67) (i := 2) (n := 1) (off := 3) (g := false) rfl kr (by decide)) rfl) ?_ | refine AF.q 0 (SW.q (OQ.fieldA (ty := 110) (i := 1) (n := 1) (off := 2) (g := false) rfl kr (by decide)) rfl) ?_) | ((with_reducible refine AF.k_load ?_); first | (refine AF.ql rfl (SW.q (OQ.load1 (ty := 26) rfl kr wl) rfl) ?_) | (refine AF.ql rfl (SW.q (OQ.load1 (ty := 45) rfl kr wl) rfl) ?_)) | ((with_reducible refine AF.k_move ?_); (refine AF.q 0 (SW.q (OQ.move wl) rfl) ?_)) | ((with_reducible refine AF.k_call ?_); first | refine AF.q 0 (SW.q (OQ.lenS (xt := 26) (r := (none, 1, false)) rfl kr) rfl) ?_ | refine AF.q 0 (SW.q (OQ.lenS (xt := 45) (r := (none, 2, true)) rfl kr) rfl) ?_) | refine AF.q 2 (SW.q (OQ.nilCheck rfl) rfl) ?_); refine AF.nm ?_) | refine AF.nl ?_) | ((with_reducible refine FinA.on ?_); (refine FinA.keep 4 [5, 6, 7, 8] (.inl rfl) (.tmp wl (.tmp wl .nil)) ?_ rfl (Nat.le_of_eq hE) rfl rfl ⟨kl rfl (flatP_scal l), kl rfl (flatT_scal ts), kl rfl (flatN_scal _), kl rfl (flatN_scal _), ki rfl, kl rfl rfl, kl rfl (flatP_scal _), ki rfl, trivial⟩; rfl)))
structure OpenT (m : Mem) (bK bN bL bE bP bT bF bC c c2 c3 c4 : Nat) (l : List Pn) (ts : List T3) (ph cs : List Int) : Prop where
 net : OpenN m bN bL bE bP bT c c2 l ts
 F : ∃ F : Blk, m.at bF = some F ∧ F.cells = flatN ph ∧ F.obj = Ob.plain
 C : ∃ C : Blk, m.at bC = some C ∧ C.cells = flatN cs ∧ C.obj = Ob.plain
 K : ∃ K : Blk, m.at bK = some K ∧ K.cells = [.pointer (some ⟨bN, 0, none⟩), .slice (some ⟨bF, 0, none⟩) ph.length c3, .slice (some ⟨bC, 0, none⟩) cs.length c4] ∧ K.obj = Ob.plain
end Go.Proofs.YtmohcmghbfhdlaaGreat
end
end
