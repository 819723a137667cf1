/- Chapter 6: fields of turns (the program's). -/
import Derived.Test.YtmohcmghbfhdlaaQc
import Derived.Test.YtmohcmghbfhdlaaQi
import Derived.Test.YtmohcmghbfhdlaaQe
section
set_option linter.unusedSimpArgs false
set_option linter.unusedVariables false
section
namespace Go.Me
open Go.Ab Go.Proofs.Ytmohcmghbfhdlaa
abbrev Fdt := List Int × List Int
def fdD (ds xs : List Int) (k : Nat) : Int := nt ds k + 4096 * nt xs k
def fdSt (ds xs : List Int) (e : Pn) (k : Nat) (s : Fdt) : Fdt :=
  if e.x ∈ s.2 ∧ e.y ∉ s.2 then (s.1.set e.y.toNat (nt s.1 e.x.toNat + fdD ds xs k), s.2 ++ [e.y])
  else if e.y ∈ s.2 ∧ e.x ∉ s.2 then (s.1.set e.x.toNat (nt s.1 e.y.toNat - fdD ds xs k), s.2 ++ [e.x]) else s
def fdK (ds xs : List Int) (es : List Pn) (s : Fdt) : Nat → Fdt
  | 0 => s
  | k + 1 => fdSt ds xs (pt es k) k (fdK ds xs es s k)
def fdN (ds xs : List Int) (es : List Pn) (s : Fdt) : Nat → Fdt
  | 0 => s
  | r + 1 => fdK ds xs es (fdN ds xs es s r) es.length
def fd0 (n : Nat) (p : Int) : Fdt := ((List.replicate n 0).set 0 p, [0])
structure FdOk (n : Nat) (s : Fdt) : Prop where
  len : s.1.length = n
  nd : s.2.Nodup
  rng : ∀ k ∈ s.2, 0 ≤ k ∧ k < n
  bd : ∀ i, i < n → -(411648 * (s.2.length : Int)) ≤ nt s.1 i ∧ nt s.1 i ≤ 411648 * (s.2.length : Int)
theorem FdOk.le {n : Nat} {s : Fdt} (h : FdOk n s) : s.2.length ≤ n := by
  have := le_nodup s.2 ((List.range n).map Int.ofNat) h.nd fun y hy => by
    have h1 := h.rng y hy
    exact List.mem_map.2 ⟨y.toNat, List.mem_range.2 (by omega), Int.toNat_of_nonneg h1.1⟩
  simpa using this
theorem nodup_snoc {x : Int} {u : List Int} (h : u.Nodup) (hx : x ∉ u) : (u ++ [x]).Nodup := by
  rw [List.nodup_append]
  refine ⟨h, by simp, fun a ha b hb e => ?_⟩
  rw [List.mem_singleton] at hb
  subst hb
  subst e
  exact hx ha
theorem FdOk.put {n : Nat} {s : Fdt} (h : FdOk n s) {y v : Int} (hy : 0 ≤ y ∧ y < n) (hu : y ∉ s.2) (hv : -(411648 * (s.2.length : Int)) - 411648 ≤ v ∧ v ≤ 411648 * (s.2.length : Int) + 411648) : FdOk n (s.1.set y.toNat v, s.2 ++ [y]) := by
  refine ⟨by rw [List.length_set]; exact h.len, nodup_snoc h.nd hu, fun k hk => ?_, fun i hi => ?_⟩
  · rcases List.mem_append.1 hk with hk | hk
    · exact h.rng k hk
    · rw [List.mem_singleton] at hk
      subst hk
      exact hy
  · rw [List.length_append]
    have hb := h.bd i hi
    rw [nt_set (by rw [h.len]; exact hi)]
    simp only [List.length_cons, List.length_nil]
    split <;> omega
theorem fdSt_a {ds xs : List Int} {e : Pn} {k : Nat} {s : Fdt} (h1 : e.x ∈ s.2) (h2 : e.y ∉ s.2) : fdSt ds xs e k s = (s.1.set e.y.toNat (nt s.1 e.x.toNat + fdD ds xs k), s.2 ++ [e.y]) := if_pos ⟨h1, h2⟩
theorem fdSt_b {ds xs : List Int} {e : Pn} {k : Nat} {s : Fdt} (h1 : e.y ∈ s.2) (h2 : e.x ∉ s.2) : fdSt ds xs e k s = (s.1.set e.x.toNat (nt s.1 e.y.toNat - fdD ds xs k), s.2 ++ [e.x]) := (if_neg fun h => h2 h.1).trans (if_pos ⟨h1, h2⟩)
theorem fdSt_c {ds xs : List Int} {e : Pn} {k : Nat} {s : Fdt} (h : e.x ∈ s.2 ↔ e.y ∈ s.2) : fdSt ds xs e k s = s := (if_neg fun h2 => h2.2 (h.1 h2.1)).trans (if_neg fun h2 => h2.2 (h.2 h2.1))
theorem fdSt_ok {ds xs : List Int} {e : Pn} {k : Nat} {n : Nat} {s : Fdt} (h : FdOk n s) (he : (0 ≤ e.x ∧ e.x < n) ∧ (0 ≤ e.y ∧ e.y < n)) (hd : -411648 ≤ fdD ds xs k ∧ fdD ds xs k ≤ 411648) : FdOk n (fdSt ds xs e k s) := by
  have hx := h.bd e.x.toNat (by omega)
  have hy := h.bd e.y.toNat (by omega)
  unfold fdSt
  split
  · rename_i h1
    exact h.put he.2 h1.2 (by omega)
  · split
    · rename_i h1
      exact h.put he.1 h1.2 (by omega)
    · exact h
theorem fdK_ok {ds xs : List Int} {es : List Pn} {n : Nat} (he : ∀ k, k < es.length → (0 ≤ (pt es k).x ∧ (pt es k).x < n) ∧ (0 ≤ (pt es k).y ∧ (pt es k).y < n)) (hd : ∀ k, k < es.length → -411648 ≤ fdD ds xs k ∧ fdD ds xs k ≤ 411648) {s : Fdt} (h : FdOk n s) : ∀ k, k ≤ es.length → FdOk n (fdK ds xs es s k)
  | 0, _ => h
  | k + 1, hk => fdSt_ok (fdK_ok he hd h k (by omega)) (he k (by omega)) (hd k (by omega))
theorem fdN_ok {ds xs : List Int} {es : List Pn} {n : Nat} (he : ∀ k, k < es.length → (0 ≤ (pt es k).x ∧ (pt es k).x < n) ∧ (0 ≤ (pt es k).y ∧ (pt es k).y < n)) (hd : ∀ k, k < es.length → -411648 ≤ fdD ds xs k ∧ fdD ds xs k ≤ 411648) {s : Fdt} (h : FdOk n s) : ∀ r, FdOk n (fdN ds xs es s r)
  | 0 => h
  | r + 1 => fdK_ok he hd (fdN_ok he hd h r) es.length (Nat.le_refl _)
theorem fd0_ok {n : Nat} {p : Int} (hn : 0 < n) (hp : -2048 ≤ p ∧ p ≤ 2047) : FdOk n (fd0 n p) := by
  refine ⟨by simp [fd0], by simp [fd0], fun k hk => ?_, fun i hi => ?_⟩
  · simp only [fd0, List.mem_singleton] at hk
    omega
  · simp only [fd0, List.length_cons, List.length_nil]
    rw [nt_set (by simpa using hi)]
    have h0 : nt (List.replicate n 0) i = 0 := by
      unfold nt
      rw [List.getD_eq_getElem?_getD, List.getElem?_replicate, if_pos hi]
      rfl
    split <;> omega
def fdS (ds xs : List Int) (es : List Pn) (s : Fdt) (r k : Nat) : Fdt := fdK ds xs es (fdN ds xs es s r) k
theorem fdS_ok {ds xs : List Int} {es : List Pn} {n : Nat} (he : ∀ k, k < es.length → (0 ≤ (pt es k).x ∧ (pt es k).x < n) ∧ (0 ≤ (pt es k).y ∧ (pt es k).y < n)) (hd : ∀ k, k < es.length → -411648 ≤ fdD ds xs k ∧ fdD ds xs k ≤ 411648) {s : Fdt} (h : FdOk n s) (r k : Nat) (hk : k ≤ es.length) : FdOk n (fdS ds xs es s r k) := fdK_ok he hd (fdN_ok he hd h r) k hk
structure FdR (ds xs : List Int) (es : List Pn) (s : Fdt) (n R : Nat) : Prop where
  fin : (fdN ds xs es s R).2.length = n
  lt : ∀ r, r < R → (fdN ds xs es s r).2.length ≠ n
end Go.Me
namespace Go.Proofs.Ytmohcmghbfhdlaa
open Go Go.RowKit Go.Ab Go.Me
set_option maxRecDepth 100000
set_option maxHeartbeats 4000000
attribute [local irreducible] OQ OW AL AW AD AF SW
theorem _root_.Go.Ab.OW.ins {P : Program} {t : T} {m m' : Mem} {v : Value} {dst : Option Tmp} {ty rt : TypeId} {x y z : Operand} {pos : String} {after : Array Edge} {guard : Option (Nat × Bool)} (h : OW P ⟨dst, .mapUpdate ty x y z, rt, pos, after, guard⟩ t m v m') : OW P ⟨dst, .insert ty x y z, rt, pos, after, guard⟩ t m v m' := by
  unfold OW at h ⊢
  exact h
theorem _root_.Go.Ab.OW.minsN {κ : Type} [DecidableEq κ] {enc : κ → Value} {ok : κ → Prop} {P : Program} {t : T} {m : Mem} {dst : Option Tmp} {ty rt kt et : TypeId} {pos : String} {after : Array Edge} {guard : Option (Nat × Bool)} {x y z : Operand} {b : Nat} {l : List κ} {k : κ} {v : Value} (K : KEnc enc P kt ok) (hk0 : ok k) (hl0 : ∀ x ∈ l, ok x) (hx : t.ev x = .map (some b)) (hy : t.ev y = enc k) (hz : t.ev z = v) (hu : P.underlying ty = some (.map kt et)) (hb : m.at b = some (mpL enc (l.map fun k => (k, v)))) (hn : l.Nodup) (hnk : k ∉ l) (hvf : flat v = true) :
    OW P ⟨dst, .mapUpdate ty x y z, rt, pos, after, guard⟩ t m undef (m.set b (some (mpL enc ((l ++ [k]).map fun k => (k, v))))) := by
  have h := OW.mins (dst := dst) (rt := rt) (pos := pos) (after := after) (guard := guard) K hk0 hl0 hx hy hz hu hb hn hvf
  have e : insL l k = l ++ [k] := if_neg hnk
  rw [e] at h
  exact h
theorem fst_map (u : List Int) (v : Value) : (u.map fun k => (k, v)).map (·.1) = u := by rw [List.map_map]; exact List.map_id u
theorem fd0_c {n : Nat} {f : Nat → Value} {s : Fdt} {p : Int} (hs : s = fd0 n p) (hf : ∀ i, f i = .int .i64 0) : flatN s.1 = ((List.range n).map f).set 0 (.int .i64 p) := by
  rw [hs, flatN_zero hf, ← flatN_set]
  rfl
theorem Field_y0 (l : List Pn) (ts : List T3) (hR : NetR l ts) (ph xs : List Int) (hph : phE l ph = 0) (htu : tuE ts ph xs = 0) (R : Nat) (hF : FdR (dfL ts ph) xs (edL ts) (fd0 l.length (nt ph 0)) l.length R) (hxl : xs.length ≤ 1000000) (c c2 c3 c4 z z1 z2 z3 : Nat) (hz : z = 0 ∨ z = 2) :
    ACalls Try.prog 28 [.agg #[.slice (some ⟨0, 0, none⟩) l.length c, .slice (some ⟨1, 0, none⟩) ts.length c2], .slice (some ⟨2, 0, none⟩) ph.length c3, .slice (some ⟨3, 0, none⟩) xs.length c4] [some ⟨flatP l, false, z⟩, some ⟨flatT ts, false, z1⟩, some ⟨flatN ph, false, z2⟩, some ⟨flatN xs, false, z3⟩]
      (.tuple #[.slice (some ⟨4, 0, none⟩) l.length l.length, .int .i64 0]) [some ⟨flatP l, false, z⟩, some ⟨flatT ts, false, z1⟩, some ⟨flatN ph, false, z2⟩, some ⟨flatN xs, false, z3⟩, some ⟨flatN (fdN (dfL ts ph) xs (edL ts) (fd0 l.length (nt ph 0)) R).1, true, 1⟩] := by
  have hxe : xs.length = (edL ts).length ∧ xs.any (fun x => !rgB x (-100) 100) = false := by
    unfold tuE at htu
    by_cases h1 : xs.length ≠ (edL ts).length
    · rw [if_pos h1] at htu; cases htu
    · rw [if_neg h1] at htu
      cases h2 : xs.any (fun x => !rgB x (-100) 100) with
      | true => rw [h2, if_pos rfl] at htu; cases htu
      | false => exact ⟨Classical.not_not.1 h1, rfl⟩
  obtain ⟨hxe, hxa⟩ := hxe
  have hxb := anyR_no hxa
  have hdl := dfL_len ts ph
  have hdb := dfL_bd ts ph
  have hpl := phE_0 hph
  have h40 := (cp_ok hR.cp).1
  have he := fun k hk => edL_at hR.ok k hk
  have hpos : 0 < l.length := by
    have h1 := edL_pos hR
    have h2 := he 0 (by omega)
    omega
  have hd : ∀ k, k < (edL ts).length → -411648 ≤ fdD (dfL ts ph) xs k ∧ fdD (dfL ts ph) xs k ≤ 411648 := fun k hk => by
    have h1 := hdb k (by omega)
    have h2 := hxb k (by omega)
    unfold fdD
    omega
  have hok := fun r k hk => fdS_ok (s := fd0 l.length (nt ph 0)) he hd (fd0_ok hpos (hpl.2 0 (by omega))) r k hk
  have hle := fun r k hk => (hok r k hk).le
  have hS0 : fdS (dfL ts ph) xs (edL ts) (fd0 l.length (nt ph 0)) 0 0 = fd0 l.length (nt ph 0) := rfl
  have hSe : ∀ r, fdS (dfL ts ph) xs (edL ts) (fd0 l.length (nt ph 0)) (r + 1) 0 = fdS (dfL ts ph) xs (edL ts) (fd0 l.length (nt ph 0)) r (edL ts).length := fun r => rfl
  have hSs : ∀ r k, fdS (dfL ts ph) xs (edL ts) (fd0 l.length (nt ph 0)) r (k + 1) = fdSt (dfL ts ph) xs (pt (edL ts) k) k (fdS (dfL ts ph) xs (edL ts) (fd0 l.length (nt ph 0)) r k) := fun r k => rfl
  obtain ⟨hfin, hlt⟩ := hF
  have hlt2 : ∀ r, r < R → (fdS (dfL ts ph) xs (edL ts) (fd0 l.length (nt ph 0)) r 0).2.length < l.length := fun r hr => by
    have h1 := hlt r hr
    have h2 := hle r 0 (Nat.zero_le _)
    change (fdN (dfL ts ph) xs (edL ts) (fd0 l.length (nt ph 0)) r).2.length < l.length
    change (fdN (dfL ts ph) xs (edL ts) (fd0 l.length (nt ph 0)) r).2.length ≤ l.length at h2
    omega
  have hD : ∀ k, fdD (dfL ts ph) xs k = nt (dfL ts ph) k + 4096 * nt xs k := fun k => rfl
  change (fdS (dfL ts ph) xs (edL ts) (fd0 l.length (nt ph 0)) R 0).2.length = l.length at hfin
  change ACalls _ _ _ _ _ [_, _, _, _, some ⟨flatN (fdS (dfL ts ph) xs (edL ts) (fd0 l.length (nt ph 0)) R 0).1, true, 1⟩]
  clear hlt
  have hop := fun (m : Mem) (hA : ArgN m 0 1 l ts) (F : Blk) (f1 : m.at 2 = some F) (f2 : F.cells = flatN ph) (f3 : F.obj = Ob.plain) => openPhases_y (c := c) (c2 := c2) (c3 := c3) l ts ph hA rfl rfl f1 f2 rfl (by rw [hpl.1]; omega) hR (by decide) f3
  have hte := fun (m : Mem) (h : OpenN m 5 6 7 0 1 c c2 l ts) (F X : Blk) (f1 : m.at 2 = some F) (f2 : F.cells = flatN ph) (f3 : F.obj = Ob.plain) (x1 : m.at 3 = some X) (x2 : X.cells = flatN xs) (x3 : X.obj = Ob.plain) => turnsErr_q (c3 := c3) (c4 := c4) h hR ph xs hph hxl f1 f2 rfl x1 x2 rfl f3 x3
  have hdi := fun (m : Mem) (h : OpenN m 5 6 7 0 1 c c2 l ts) (F : Blk) (f1 : m.at 2 = some F) (f2 : F.cells = flatN ph) (f3 : F.obj = Ob.plain) => differences_q (n := ph.length) (c3 := c3) h hR ph hph f1 f2 rfl (by decide) f3
  rw [hph] at hop
  rw [htu] at hte
  have hgD : ∀ k, k < (edL ts).length → (flatN (dfL ts ph))[k]? = some (.int .i64 (nt (dfL ts ph) k)) := fun k hk => flatN_get _ k (by omega)
  have hgX : ∀ k, k < (edL ts).length → (flatN xs)[k]? = some (.int .i64 (nt xs k)) := fun k hk => flatN_get _ k (by omega)
  have hgP : (flatN ph)[0]? = some (.int .i64 (nt ph 0)) := flatN_get _ 0 (by omega)
  have hle2 := edL_le ts
  have h80 := hR.le
  generalize fdD (dfL ts ph) xs = DD at *
  have hSa : ∀ r k, (pt (edL ts) k).x ∈ (fdS (dfL ts ph) xs (edL ts) (fd0 l.length (nt ph 0)) r k).2 → (pt (edL ts) k).y ∉ (fdS (dfL ts ph) xs (edL ts) (fd0 l.length (nt ph 0)) r k).2 → flatN (fdS (dfL ts ph) xs (edL ts) (fd0 l.length (nt ph 0)) r (k + 1)).1 = (flatN (fdS (dfL ts ph) xs (edL ts) (fd0 l.length (nt ph 0)) r k).1).set (pt (edL ts) k).y.toNat (.int .i64 (nt (fdS (dfL ts ph) xs (edL ts) (fd0 l.length (nt ph 0)) r k).1 (pt (edL ts) k).x.toNat + (nt (dfL ts ph) k + 4096 * nt xs k))) ∧ (fdS (dfL ts ph) xs (edL ts) (fd0 l.length (nt ph 0)) r (k + 1)).2 = (fdS (dfL ts ph) xs (edL ts) (fd0 l.length (nt ph 0)) r k).2 ++ [(pt (edL ts) k).y] := fun r k h1 h2 => by
    rw [hSs, fdSt_a h1 h2]
    exact ⟨flatN_set _ _ _, rfl⟩
  have hSb : ∀ r k, (pt (edL ts) k).y ∈ (fdS (dfL ts ph) xs (edL ts) (fd0 l.length (nt ph 0)) r k).2 → (pt (edL ts) k).x ∉ (fdS (dfL ts ph) xs (edL ts) (fd0 l.length (nt ph 0)) r k).2 → flatN (fdS (dfL ts ph) xs (edL ts) (fd0 l.length (nt ph 0)) r (k + 1)).1 = (flatN (fdS (dfL ts ph) xs (edL ts) (fd0 l.length (nt ph 0)) r k).1).set (pt (edL ts) k).x.toNat (.int .i64 (nt (fdS (dfL ts ph) xs (edL ts) (fd0 l.length (nt ph 0)) r k).1 (pt (edL ts) k).y.toNat - (nt (dfL ts ph) k + 4096 * nt xs k))) ∧ (fdS (dfL ts ph) xs (edL ts) (fd0 l.length (nt ph 0)) r (k + 1)).2 = (fdS (dfL ts ph) xs (edL ts) (fd0 l.length (nt ph 0)) r k).2 ++ [(pt (edL ts) k).x] := fun r k h1 h2 => by
    rw [hSs, fdSt_b h1 h2]
    exact ⟨flatN_set _ _ _, rfl⟩
  have hSc : ∀ r k, ((pt (edL ts) k).x ∈ (fdS (dfL ts ph) xs (edL ts) (fd0 l.length (nt ph 0)) r k).2 ↔ (pt (edL ts) k).y ∈ (fdS (dfL ts ph) xs (edL ts) (fd0 l.length (nt ph 0)) r k).2) → fdS (dfL ts ph) xs (edL ts) (fd0 l.length (nt ph 0)) r (k + 1) = fdS (dfL ts ph) xs (edL ts) (fd0 l.length (nt ph 0)) r k := fun r k h1 => by
    rw [hSs, fdSt_c h1]
  clear hSs hD hd
  generalize fdS (dfL ts ph) xs (edL ts) (fd0 l.length (nt ph 0)) = S at *
  have hgO : ∀ r k i, k ≤ (edL ts).length → i < l.length → (flatN (S r k).1)[i]? = some (.int .i64 (nt (S r k).1 i)) := fun r k i hk hi => flatN_get _ i (by rw [(hok r k hk).len]; exact hi)
  have hOl : ∀ r k, k ≤ (edL ts).length → (flatN (S r k).1).length = l.length := fun r k hk => by rw [flatN_len, (hok r k hk).len]
  have hmS : ∀ r k x, x ∈ (S r k).2 → (x, Value.bool true) ∈ (S r k).2.map fun k => (k, Value.bool true) := fun r k x h => List.mem_map.2 ⟨x, h, rfl⟩
  have hmN : ∀ r k x, x ∉ (S r k).2 → x ∉ ((S r k).2.map fun k => (k, Value.bool true)).map (·.1) := fun r k x h => by rw [fst_map]; exact h
  have hmD : ∀ r k, k ≤ (edL ts).length → (((S r k).2.map fun k => (k, Value.bool true)).map (·.1)).Nodup := fun r k hk => by rw [fst_map]; exact (hok r k hk).nd
  refine ACalls.enter (t := [.agg #[.slice (some ⟨0, 0, none⟩) l.length c, .slice (some ⟨1, 0, none⟩) ts.length c2], .slice (some ⟨2, 0, none⟩) ph.length c3, .slice (some ⟨3, 0, none⟩) xs.length c4, undef, undef, undef, undef, undef, undef, undef, undef, undef, undef, undef, undef, undef, undef, undef, undef, undef, undef, undef, undef, undef, undef, undef, undef, undef, undef, undef, undef, undef, undef, undef, undef, undef, undef, undef, undef, undef, undef, undef, undef, undef, undef, undef, undef, undef, undef, undef, undef, undef, undef, undef, undef, undef, undef, undef, undef, undef, undef, undef, undef, undef, undef, undef, undef, undef, undef, undef, undef, undef, undef, undef, undef, undef, undef, undef, undef, undef, undef, undef, undef, undef, undef, undef, undef, undef, undef, undef, undef, undef, undef, undef, undef, undef, undef, undef, undef, undef, undef, undef, undef, undef, undef, undef, undef, undef, undef, undef, undef, undef, undef, undef, undef, undef, undef, undef, undef, undef, undef, undef, undef, undef, undef, undef, undef, undef, undef, undef]) Try.func28 rfl rfl fun E hE => ?_
  repeat' (first
    | with_reducible (first | refine Then.n ?_ | refine Then.r ?_ | refine Then.x ?_ | refine InB.n ?_ | refine InB.r ?_ | refine InB.hit ?_ | refine InB.miss (by decide) ?_)
    | ((with_reducible refine AL.on ?_); first
      | (refine AL.gd rfl ?_; first | (refine AL.gskip rfl rfl ?_; (refine AL.nm ?_)) | (refine AL.gs1 rfl rfl (fun hc => ?_) (fun hc => ?_) <;> (try replace hc := nc hc) <;> first | (exfalso; first | contradiction | (first | omega | (simp at hc; done) | (simp only [List.length_map] at hc; omega)); done) | (refine AL.nm ?_)) | (refine AL.gs0 rfl rfl (fun hc => ?_) (fun hc => ?_) <;> (try replace hc := nc hc) <;> first | (exfalso; first | contradiction | (first | omega | (simp at hc; done) | (simp only [List.length_map] at hc; omega)); done) | (refine AL.nm ?_)))
      | ((first | ((with_reducible refine AL.k_move ?_); first | (refine AL.q rfl (OQ.move wl) ?_)) | ((with_reducible refine AL.k_assign ?_); first | (refine AL.q rfl (OQ.assign wl) ?_)) | ((with_reducible refine AL.k_load ?_); first | refine AL.q rfl (OQ.loadN (ty := 38) (n := 2) rfl kr kr (by first | (first | exact hgP | exact hgD k (by omega) | exact hgX k (by omega) | exact hgO _ _ _ (by omega) (by omega) | exact flatP_ld rfl rfl _ (by omega)) | rfl)) ?_ | (refine AL.q rfl (OQ.load1 (ty := 22) rfl kr (by first | (first | exact hgP | exact hgD k (by omega) | exact hgX k (by omega) | exact hgO _ _ _ (by omega) (by omega) | exact flatP_ld rfl rfl _ (by omega)) | (conv => lhs; whnf))) ?_) | (refine AL.q rfl (OQ.load1 (ty := 3) rfl kr (by first | (first | exact hgP | exact hgD k (by omega) | exact hgX k (by omega) | exact hgO _ _ _ (by omega) (by omega) | exact flatP_ld rfl rfl _ (by omega)) | (conv => lhs; whnf))) ?_) | (refine AL.q rfl (OQ.load1 (ty := 42) rfl kr (by first | (first | exact hgP | exact hgD k (by omega) | exact hgX k (by omega) | exact hgO _ _ _ (by omega) (by omega) | exact flatP_ld rfl rfl _ (by omega)) | (conv => lhs; whnf))) ?_) | refine AL.q rfl (OQ.loadN (ty := 45) (n := 2) rfl kr kr (by first | (first | exact hgP | exact hgD k (by omega) | exact hgX k (by omega) | exact hgO _ _ _ (by omega) (by omega) | exact flatP_ld rfl rfl _ (by omega)) | rfl)) ?_) | ((with_reducible refine AL.k_binOp ?_); first | refine AL.q rfl (OQ.neq rfl rfl) ?_ | refine AL.q rfl (OQ.lss rfl rfl) ?_ | refine AL.q rfl (OQ.addi rfl rfl (by omega)) ?_ | refine AL.q rfl (OQ.add rfl rfl) ?_) | ((with_reducible refine AL.k_call ?_); first | refine AL.q rfl (OQ.lenS (xt := 22) (r := (none, 2, true)) rfl kr) ?_ | refine AL.q rfl (OQ.mlen rfl Try.underlying91 rfl) ?_ | refine AL.q rfl (OQ.lenS (xt := 29) (r := (none, 1, false)) rfl kr) ?_ | refine AL.q rfl (OQ.lenS (xt := 42) (r := (none, 2, true)) rfl kr) ?_) | ((with_reducible refine AL.k_extract ?_); first | refine AL.q rfl (OQ.extract rfl rfl) ?_) | ((with_reducible refine AL.k_unOp ?_); first | refine AL.q rfl (OQ.not rfl) ?_) | ((with_reducible refine AL.k_pick ?_); first | (refine AL.q rfl (OQ.pickT rfl (by with_reducible rfl) wl) ?_) | (refine AL.q rfl (OQ.pickF rfl (by with_reducible rfl) wl) ?_)) | refine AL.q rfl (OQ.nilCheck rfl) ?_ | refine AL.q rfl (by first | exact (OQ.mlookS (enc := encI) (l := (S r k).2.map fun k => (k, Value.bool true)) (k := (pt (edL ts) k).x) (v := .bool true) KI trivial (fun _ _ => trivial) rfl rfl Try.underlying91 rfl (hmD r k (by omega)) (hmS r k _ hxm) rfl).2 | exact (OQ.mlookS (enc := encI) (l := (S r k).2.map fun k => (k, Value.bool true)) (k := (pt (edL ts) k).y) (v := .bool true) KI trivial (fun _ _ => trivial) rfl rfl Try.underlying91 rfl (hmD r k (by omega)) (hmS r k _ hym) rfl).2 | exact (OQ.mlookN (enc := encI) (l := (S r k).2.map fun k => (k, Value.bool true)) (k := (pt (edL ts) k).x) (v := .bool false) KI trivial (fun _ _ => trivial) rfl rfl Try.underlying91 rfl (hmN r k _ hxm) (fun w => by kernel_rfl) rfl).2 | exact (OQ.mlookN (enc := encI) (l := (S r k).2.map fun k => (k, Value.bool true)) (k := (pt (edL ts) k).y) (v := .bool false) KI trivial (fun _ _ => trivial) rfl rfl Try.underlying91 rfl (hmN r k _ hym) (fun w => by kernel_rfl) rfl).2) ?_); (refine AL.nm ?_))
      | ((first | ((with_reducible refine AL.k_indexAddr ?_); first | refine AL.q rfl (OQ.idxAddr (ty := 29) (z := 1) (g := false) rfl rfl kr (by first | omega | decide) (by first | omega | decide)) ?_ | refine AL.q rfl (OQ.idxAddr (ty := 42) (z := 2) (g := true) rfl rfl kr (by first | omega | decide) (by first | omega | decide)) ?_ | refine AL.q rfl (OQ.idxPtr (ty := 45) (n := 1) (l := 2) (g := false) rfl rfl kr (by first | omega | decide) (by first | omega | decide)) ?_) | ((with_reducible refine AL.k_call ?_); first | refine AL.pcall (g := 49) rfl kr rfl ((by exact hte _ ⟨⟨_, rfl, rfl, rfl⟩, ⟨_, rfl, rfl, rfl⟩, ⟨_, rfl, rfl, rfl⟩, ⟨_, rfl⟩, ⟨_, rfl, rfl, rfl⟩⟩ _ _ rfl rfl rfl rfl rfl rfl)) ?_) | ((with_reducible refine AL.k_fieldAddr ?_); first | refine AL.q rfl (OQ.fieldA (ty := 38) (i := 0) (n := 1) (off := 0) (g := false) rfl kr (by decide)) ?_ | refine AL.q rfl (OQ.fieldA (ty := 74) (i := 1) (n := 1) (off := 2) (g := false) rfl kr (by decide)) ?_)); (refine AL.nm ?_))
      | ((first | ((with_reducible refine AL.k_call ?_); first | refine AL.acall (g := 48) rfl kr rfl ((by exact hop _ ⟨⟨_, rfl, rfl, hz, rfl⟩, ⟨_, rfl, rfl, rfl⟩, by decide⟩ _ rfl rfl rfl)) ?_ | refine AL.acall (g := 50) rfl kr rfl ((by exact hdi _ ⟨⟨_, rfl, rfl, rfl⟩, ⟨_, rfl, rfl, rfl⟩, ⟨_, rfl, rfl, rfl⟩, ⟨_, rfl⟩, ⟨_, rfl, rfl, rfl⟩⟩ _ rfl rfl rfl)) ?_) | ((with_reducible refine AL.k_store ?_); first | (refine AL.w rfl (OW.store (ty := 3) (n := 1) rfl wl rfl rfl kr rfl rfl (by decide) rfl (by first | exact Nat.le_of_ble_eq_true rfl | ((first | (simp only [List.length_set, hOl _ _ (Nat.le_of_lt hkl)]; omega) | (simp; omega)))) (by intro r h; cases h)) ?_) | (refine AL.w rfl (OW.store (ty := 45) (n := 2) rfl wl rfl rfl kr rfl rfl (by decide) rfl (by first | exact Nat.le_of_ble_eq_true rfl | ((first | (simp only [List.length_set, hOl _ _ (Nat.le_of_lt hkl)]; omega) | (simp; omega)))) (by intro r h; cases h)) ?_)) | ((with_reducible refine AL.k_box ?_); first | (refine AL.w rfl (OW.box wl (by intro r h; cases h)) ?_)) | ((with_reducible refine AL.k_alloc ?_); first | refine AL.w rfl (OW.alloc (ty := 45) (z := [.int .i64 0, .int .i64 0]) kr rfl) ?_) | refine AL.w rfl (OW.makeSl (st := 29) (e := 3) (z := 1) (by' := 8) (zs := [.int .i64 0]) rfl kr kr kr rfl rfl kr (by decide) (by omega) (by omega)) ?_ | refine AL.w rfl OW.makeMap ?_ | refine AL.w rfl (by first | exact OW.ins (OW.minsN (enc := encI) (l := ([] : List Int)) (k := 0) (v := .bool true) KI trivial (fun _ _ => trivial) rfl rfl rfl Try.underlying91 rfl List.nodup_nil (by simp) rfl) | exact OW.minsN (enc := encI) (l := (S r k).2) (k := (pt (edL ts) k).y) (v := .bool true) KI trivial (fun _ _ => trivial) rfl rfl rfl Try.underlying91 rfl ((hok r k (by omega)).nd) hym rfl | exact OW.minsN (enc := encI) (l := (S r k).2) (k := (pt (edL ts) k).x) (v := .bool true) KI trivial (fun _ _ => trivial) rfl rfl rfl Try.underlying91 rfl ((hok r k (by omega)).nd) hxm rfl) ?_ | refine AL.w rfl (by first | exact OW.ins (OW.minsN (enc := encI) (l := ([] : List Int)) (k := 0) (v := .bool true) KI trivial (fun _ _ => trivial) rfl rfl rfl Try.underlying91 rfl List.nodup_nil (by simp) rfl) | exact OW.minsN (enc := encI) (l := (S r k).2) (k := (pt (edL ts) k).y) (v := .bool true) KI trivial (fun _ _ => trivial) rfl rfl rfl Try.underlying91 rfl ((hok r k (by omega)).nd) hym rfl | exact OW.minsN (enc := encI) (l := (S r k).2) (k := (pt (edL ts) k).x) (v := .bool true) KI trivial (fun _ _ => trivial) rfl rfl rfl Try.underlying91 rfl ((hok r k (by omega)).nd) hxm rfl) ?_); (refine AL.nm ?_); (refine AL.nM ?_))
      | (refine AL.bs rfl (fun hc => ?_) (fun hc => ?_) <;> (fail_if_success (with_reducible exact lit_no hc)) <;> (try replace hc := nc hc) <;> first | (exfalso; first | contradiction | (first | omega | (simp at hc; done) | (simp only [List.length_map] at hc; omega)); done) | (refine AL.nm ?_))
      | refine AL.nil ?_)
    | ((with_reducible refine AW.on ?_); first
      | refine AW.seq ?_
      | refine AW.skip ?_
      | refine AW.exit ?_
      | refine AW.ret ?_
      | ((refine AW.block (id := 0) ?_); (refine AW.fk [2, 8, 12, 13, 14] ?_); (refine AW.wk (t' := [jk, jk, .slice (some ⟨3, 0, none⟩) xs.length c4, jk, jk, jk, jk, jk, .pointer (some ⟨4, 0, none⟩), jk, jk, jk, .slice (some ⟨7, 0, none⟩) ((edL ts).length) INF, .slice (some ⟨8, 0, none⟩) l.length l.length, .map (some 9), jk, jk, jk, jk, jk, jk, jk, jk, jk, jk, jk, jk, jk, jk, jk, jk, jk, jk, jk, jk, jk, jk, jk, jk, jk, jk, jk, jk, jk, jk, jk, jk, jk, jk, jk, jk, jk, jk, jk, jk, jk, jk, jk, jk, jk, jk, jk, jk, jk, jk, jk, jk, jk, jk, jk, jk, jk, jk, jk, jk, jk, jk, jk, jk, jk, jk, jk, jk, jk, jk, jk, jk, jk, jk, jk, jk, jk, jk, jk, jk, jk, jk, jk, jk, jk, jk, jk, jk, jk, jk, jk, jk, jk, jk, jk, jk, jk, jk, jk, jk, jk, jk, jk, jk, jk, jk, jk, jk, jk, jk, jk, jk, jk, jk, jk]) (m' := [some ⟨flatP l, false, z⟩, some ⟨flatT ts, false, z1⟩, some ⟨flatN ph, false, z2⟩, some ⟨flatN xs, false, z3⟩, some ⟨[.slice (some ⟨0, 0, none⟩) l.length c, .slice (some ⟨1, 0, none⟩) ts.length c2, .slice (some ⟨6, 0, none⟩) (edL ts).length INF, .map (some 5)], true, 0⟩, some (mpX (lfA ts) true 0), some ⟨flatP (edL ts), true, 2⟩, some ⟨flatN (dfL ts ph), true, 1⟩, some ⟨flatN (S 0 0).1, true, 1⟩, some (mpU (S 0 0).2)]) (Wk.keep 4 [5, 6, 7, 8, 9, 10] (by rw [hE]; exact Nat.le_of_ble_eq_true rfl) rfl rfl (by repeat (first | exact RenT.nil | refine RenT.jk ?_ | refine RenT.val (by first | rfl | with_reducible assumption | (simp only [rn3, rn2, rn1, kσ]; done)) (by first | rfl | assumption | (simp [ok3, ok2, ok1]; done)) ?_)) ⟨⟨_, rfl, rfl, rfl, .inl ⟨rfl, flatP_scal l⟩⟩, ⟨_, rfl, rfl, rfl, .inl ⟨rfl, flatT_scal ts⟩⟩, ⟨_, rfl, rfl, rfl, .inl ⟨rfl, flatN_scal _⟩⟩, ⟨_, rfl, rfl, rfl, .inl ⟨rfl, flatN_scal _⟩⟩, ⟨_, rfl, rfl, rfl, .inr ⟨rfl, rfl⟩⟩, ⟨_, rfl, rfl, rfl, .inl ⟨rfl, rfl⟩⟩, ⟨_, rfl, rfl, rfl, .inl ⟨rfl, flatP_scal _⟩⟩, ⟨_, rfl, rfl, rfl, .inl ⟨rfl, flatN_scal _⟩⟩, ⟨_, rfl, rfl, rfl, .inl ⟨fd0_c hS0 (fun i => by simp [Nat.mod_one]), flatN_scal _⟩⟩, ⟨_, rfl, rfl, (by rw [hS0]; rfl), .inl ⟨rfl, rfl⟩⟩, trivial⟩) ?_); (refine AW.loop (fun n' t' m => ∃ r : Nat, n' = R - r ∧ r ≤ R ∧ t' = [jk, jk, .slice (some ⟨3, 0, none⟩) xs.length c4, jk, jk, jk, jk, jk, .pointer (some ⟨4, 0, none⟩), jk, jk, jk, .slice (some ⟨7, 0, none⟩) ((edL ts).length) INF, .slice (some ⟨8, 0, none⟩) l.length l.length, .map (some 9), jk, jk, jk, jk, jk, jk, jk, jk, jk, jk, jk, jk, jk, jk, jk, jk, jk, jk, jk, jk, jk, jk, jk, jk, jk, jk, jk, jk, jk, jk, jk, jk, jk, jk, jk, jk, jk, jk, jk, jk, jk, jk, jk, jk, jk, jk, jk, jk, jk, jk, jk, jk, jk, jk, jk, jk, jk, jk, jk, jk, jk, jk, jk, jk, jk, jk, jk, jk, jk, jk, jk, jk, jk, jk, jk, jk, jk, jk, jk, jk, jk, jk, jk, jk, jk, jk, jk, jk, jk, jk, jk, jk, jk, jk, jk, jk, jk, jk, jk, jk, jk, jk, jk, jk, jk, jk, jk, jk, jk, jk, jk, jk, jk, jk, jk] ∧ m = [some ⟨flatP l, false, z⟩, some ⟨flatT ts, false, z1⟩, some ⟨flatN ph, false, z2⟩, some ⟨flatN xs, false, z3⟩, some ⟨[.slice (some ⟨0, 0, none⟩) l.length c, .slice (some ⟨1, 0, none⟩) ts.length c2, .slice (some ⟨6, 0, none⟩) (edL ts).length INF, .map (some 5)], true, 0⟩, some (mpX (lfA ts) true 0), some ⟨flatP (edL ts), true, 2⟩, some ⟨flatN (dfL ts ph), true, 1⟩, some ⟨flatN (S r 0).1, true, 1⟩, some (mpU (S r 0).2)]) (R) (by exact ⟨0, rfl, Nat.zero_le _, rfl, rfl⟩) ?_); (rintro n' t' m ⟨r, rfl, hr, rfl, rfl⟩))
      | ((refine AW.block (id := 2) ?_); (refine AW.fk [2, 8, 12, 13, 14, 59, 60, 61] ?_); (refine AW.loop (fun n' t' m => ∃ k : Nat, n' = (edL ts).length - k ∧ k ≤ (edL ts).length ∧ t' = [jk, jk, .slice (some ⟨3, 0, none⟩) xs.length c4, jk, jk, jk, jk, jk, .pointer (some ⟨4, 0, none⟩), jk, jk, jk, .slice (some ⟨7, 0, none⟩) ((edL ts).length) INF, .slice (some ⟨8, 0, none⟩) l.length l.length, .map (some 9), jk, jk, jk, jk, jk, jk, jk, jk, jk, jk, jk, jk, jk, jk, jk, jk, jk, jk, jk, jk, jk, jk, jk, jk, jk, jk, jk, jk, jk, jk, jk, jk, jk, jk, jk, jk, jk, jk, jk, jk, jk, jk, jk, jk, .slice (some ⟨6, 0, none⟩) ((edL ts).length) INF, .int .i64 ((edL ts).length), .int .i64 (k), jk, jk, jk, jk, jk, jk, jk, jk, jk, jk, jk, jk, jk, jk, jk, jk, jk, jk, jk, jk, jk, jk, jk, jk, jk, jk, jk, jk, jk, jk, jk, jk, jk, jk, jk, jk, jk, jk, jk, jk, jk, jk, jk, jk, jk, jk, jk, jk, jk, jk, jk, jk, jk, jk, jk, jk, jk, jk, jk, jk, jk, jk, jk, jk, jk, jk, jk, jk] ∧ m = [some ⟨flatP l, false, z⟩, some ⟨flatT ts, false, z1⟩, some ⟨flatN ph, false, z2⟩, some ⟨flatN xs, false, z3⟩, some ⟨[.slice (some ⟨0, 0, none⟩) l.length c, .slice (some ⟨1, 0, none⟩) ts.length c2, .slice (some ⟨6, 0, none⟩) (edL ts).length INF, .map (some 5)], true, 0⟩, some (mpX (lfA ts) true 0), some ⟨flatP (edL ts), true, 2⟩, some ⟨flatN (dfL ts ph), true, 1⟩, some ⟨flatN (S r k).1, true, 1⟩, some (mpU (S r k).2)]) ((edL ts).length) (by exact ⟨0, rfl, Nat.zero_le _, rfl, rfl⟩) ?_); (rintro n' t' m ⟨k, rfl, hk, rfl, rfl⟩); (have hrR : r < R := (by rcases Nat.lt_or_eq_of_le hr with h | h; (exact h); (exfalso; subst h; (first | omega | (simp only [List.length_map] at hc; omega) | (rename_i hc2; simp only [List.length_map] at hc2; omega))))))
      | refine AW.block ?_
      | (refine AW.drawF (id := 15) 9 #[0, 0, 3, 7, 0, 0, 48, 112, 240, 511, 1023] kr kr ?_; (conv => (arg 8; simp only [List.take_succ_cons, List.take_zero])); ((have hq1 := hdb k (by omega); have hq2 := hxb k (by omega))))
      | (refine AW.drawF (id := 17) 15 #[0, 0, 2, 0, 0, 16, 0, 0, 128, 448, 960, 0, 4032, 8135, 16327, 32767] kr kr ?_; (conv => (arg 8; simp only [List.take_succ_cons, List.take_zero])); ((have hq3 := (hok r k (by omega)).bd (pt (edL ts) k).x.toNat (by omega); have hq4 := hle r k (by omega))))
      | (refine AW.drawF (id := 19) 15 #[0, 0, 2, 0, 0, 16, 0, 0, 128, 448, 960, 0, 4032, 8135, 16327, 32767] kr kr ?_; (conv => (arg 8; simp only [List.take_succ_cons, List.take_zero])); ((have hq3 := (hok r k (by omega)).bd (pt (edL ts) k).y.toNat (by omega); have hq4 := hle r k (by omega))))
      | (refine AW.region (id := 14) ?_; ((have hkl : k < (edL ts).length := (by omega); have hr2 := he k (by omega))))
      | (refine AW.region (id := 16) ?_; ((rcases Classical.em ((pt (edL ts) k).x ∈ (S r k).2) with hxm | hxm <;> rcases Classical.em ((pt (edL ts) k).y ∈ (S r k).2) with hym | hym)))
      | refine AW.region ?_
      | (refine AW.conds rfl (fun hc => ?_) (fun hc => ?_) <;> (try replace hc := nc hc) <;> first | (exfalso; first | contradiction | (first | omega | (simp at hc; done) | (simp only [List.length_map] at hc; omega)); done) | skip))
    | ((with_reducible refine AF.on ?_); first
      | ((first | ((with_reducible refine AF.k_move ?_); first | (refine AF.q 0 (SW.q (OQ.move wl) rfl) ?_)) | ((with_reducible refine AF.k_indexAddr ?_); first | refine AF.q 0 (SW.q (OQ.idxAddr (ty := 29) (z := 1) (g := false) rfl rfl kr (by first | omega | decide) (by first | omega | decide)) rfl) ?_ | refine AF.q 0 (SW.q (OQ.idxPtr (ty := 45) (n := 1) (l := 2) (g := false) rfl rfl kr (by first | omega | decide) (by first | omega | decide)) rfl) ?_) | ((with_reducible refine AF.k_load ?_); first | (refine AF.ql rfl (SW.q (OQ.load1 (ty := 3) rfl kr (by first | (first | exact hgP | exact hgD k (by omega) | exact hgX k (by omega) | exact hgO _ _ _ (by omega) (by omega) | exact flatP_ld rfl rfl _ (by omega)) | (conv => lhs; whnf))) rfl) ?_)) | ((with_reducible refine AF.k_binOp ?_); first | refine AF.q 0 (SW.q (OQ.muli rfl rfl (by omega)) rfl) ?_ | refine AF.q 0 (SW.q (OQ.mul rfl rfl) rfl) ?_ | refine AF.q 0 (SW.q (OQ.addi rfl rfl (by omega)) rfl) ?_ | refine AF.q 0 (SW.q (OQ.add rfl rfl) rfl) ?_ | refine AF.q 0 (SW.q (OQ.subi rfl rfl (by omega)) rfl) ?_ | refine AF.q 0 (SW.q (OQ.sub rfl rfl) rfl) ?_)); (conv => (arg 9; try tactic => exact nrmF)); (conv => (arg 11; try simp only [List.nil_append, List.cons_append])))
      | ((first | first | (refine AF.sl rfl (SW.w (OW.store (ty := 3) (n := 1) rfl wl rfl rfl kr rfl rfl (by decide) rfl (by first | exact Nat.le_of_ble_eq_true rfl | ((first | (simp only [List.length_set, hOl _ _ (Nat.le_of_lt hkl)]; omega) | (simp; omega)))) (by intro r h; cases h)) rfl) rfl ?_)); (conv => (arg 9; try tactic => exact nrmF)); (conv => (arg 11; try simp only [List.nil_append, List.cons_append])); (conv => (arg 10; try tactic => exact nrmF)))
      | (refine AF.nil ?_ kr; (conv => (arg 4; simp only [List.drop_succ_cons, List.drop_zero, List.drop_nil]))))
    | ((with_reducible refine ex_on ?_); first | ((obtain rfl : k = (edL ts).length := (by omega); refine ⟨R - (r + 1), _, _, by omega, ?_, r + 1, rfl, by omega, rfl, by rw [hSe r]⟩; exact Wk.fk [2, 8, 12, 13, 14] rfl)) | (first | (have hs := hSc r k (iff_of_true hxm hym); refine ⟨(edL ts).length - (k + 1), [jk, jk, .slice (some ⟨3, 0, none⟩) xs.length c4, jk, jk, jk, jk, jk, .pointer (some ⟨4, 0, none⟩), jk, jk, jk, .slice (some ⟨7, 0, none⟩) ((edL ts).length) INF, .slice (some ⟨8, 0, none⟩) l.length l.length, .map (some 9), jk, jk, jk, jk, jk, jk, jk, jk, jk, jk, jk, jk, jk, jk, jk, jk, jk, jk, jk, jk, jk, jk, jk, jk, jk, jk, jk, jk, jk, jk, jk, jk, jk, jk, jk, jk, jk, jk, jk, jk, jk, jk, jk, jk, .slice (some ⟨6, 0, none⟩) ((edL ts).length) INF, .int .i64 ((edL ts).length), .int .i64 (((k + 1 : Nat) : Int)), jk, jk, jk, jk, jk, jk, jk, jk, jk, jk, jk, jk, jk, jk, jk, jk, jk, jk, jk, jk, jk, jk, jk, jk, jk, jk, jk, jk, jk, jk, jk, jk, jk, jk, jk, jk, jk, jk, jk, jk, jk, jk, jk, jk, jk, jk, jk, jk, jk, jk, jk, jk, jk, jk, jk, jk, jk, jk, jk, jk, jk, jk, jk, jk, jk, jk, jk, jk], [some ⟨flatP l, false, z⟩, some ⟨flatT ts, false, z1⟩, some ⟨flatN ph, false, z2⟩, some ⟨flatN xs, false, z3⟩, some ⟨[.slice (some ⟨0, 0, none⟩) l.length c, .slice (some ⟨1, 0, none⟩) ts.length c2, .slice (some ⟨6, 0, none⟩) (edL ts).length INF, .map (some 5)], true, 0⟩, some (mpX (lfA ts) true 0), some ⟨flatP (edL ts), true, 2⟩, some ⟨flatN (dfL ts ph), true, 1⟩, some ⟨flatN (S r (k + 1)).1, true, 1⟩, some (mpU (S r (k + 1)).2)], by omega, ?_, k + 1, rfl, by omega, rfl, rfl⟩; rw [hs]; exact Wk.keep 10 [] (by rw [hE]; exact Nat.le_of_ble_eq_true rfl) rfl rfl (by repeat (first | exact RenT.nil | refine RenT.jk ?_ | refine RenT.val (by first | rfl | with_reducible assumption | (simp only [rn3, rn2, rn1, kσ]; done)) (by first | rfl | assumption | (simp [ok3, ok2, ok1]; done)) ?_)) ⟨⟨_, rfl, rfl, rfl, .inl ⟨rfl, flatP_scal l⟩⟩, ⟨_, rfl, rfl, rfl, .inl ⟨rfl, flatT_scal ts⟩⟩, ⟨_, rfl, rfl, rfl, .inl ⟨rfl, flatN_scal _⟩⟩, ⟨_, rfl, rfl, rfl, .inl ⟨rfl, flatN_scal _⟩⟩, ⟨_, rfl, rfl, rfl, .inr ⟨rfl, rfl⟩⟩, ⟨_, rfl, rfl, rfl, .inl ⟨rfl, rfl⟩⟩, ⟨_, rfl, rfl, rfl, .inl ⟨rfl, flatP_scal _⟩⟩, ⟨_, rfl, rfl, rfl, .inl ⟨rfl, flatN_scal _⟩⟩, ⟨_, rfl, rfl, rfl, .inl ⟨rfl, flatN_scal _⟩⟩, ⟨_, rfl, rfl, rfl, .inl ⟨rfl, rfl⟩⟩, trivial⟩) | (have hs := hSc r k (iff_of_false hxm hym); refine ⟨(edL ts).length - (k + 1), [jk, jk, .slice (some ⟨3, 0, none⟩) xs.length c4, jk, jk, jk, jk, jk, .pointer (some ⟨4, 0, none⟩), jk, jk, jk, .slice (some ⟨7, 0, none⟩) ((edL ts).length) INF, .slice (some ⟨8, 0, none⟩) l.length l.length, .map (some 9), jk, jk, jk, jk, jk, jk, jk, jk, jk, jk, jk, jk, jk, jk, jk, jk, jk, jk, jk, jk, jk, jk, jk, jk, jk, jk, jk, jk, jk, jk, jk, jk, jk, jk, jk, jk, jk, jk, jk, jk, jk, jk, jk, jk, .slice (some ⟨6, 0, none⟩) ((edL ts).length) INF, .int .i64 ((edL ts).length), .int .i64 (((k + 1 : Nat) : Int)), jk, jk, jk, jk, jk, jk, jk, jk, jk, jk, jk, jk, jk, jk, jk, jk, jk, jk, jk, jk, jk, jk, jk, jk, jk, jk, jk, jk, jk, jk, jk, jk, jk, jk, jk, jk, jk, jk, jk, jk, jk, jk, jk, jk, jk, jk, jk, jk, jk, jk, jk, jk, jk, jk, jk, jk, jk, jk, jk, jk, jk, jk, jk, jk, jk, jk, jk, jk], [some ⟨flatP l, false, z⟩, some ⟨flatT ts, false, z1⟩, some ⟨flatN ph, false, z2⟩, some ⟨flatN xs, false, z3⟩, some ⟨[.slice (some ⟨0, 0, none⟩) l.length c, .slice (some ⟨1, 0, none⟩) ts.length c2, .slice (some ⟨6, 0, none⟩) (edL ts).length INF, .map (some 5)], true, 0⟩, some (mpX (lfA ts) true 0), some ⟨flatP (edL ts), true, 2⟩, some ⟨flatN (dfL ts ph), true, 1⟩, some ⟨flatN (S r (k + 1)).1, true, 1⟩, some (mpU (S r (k + 1)).2)], by omega, ?_, k + 1, rfl, by omega, rfl, rfl⟩; rw [hs]; exact Wk.keep 10 [] (by rw [hE]; exact Nat.le_of_ble_eq_true rfl) rfl rfl (by repeat (first | exact RenT.nil | refine RenT.jk ?_ | refine RenT.val (by first | rfl | with_reducible assumption | (simp only [rn3, rn2, rn1, kσ]; done)) (by first | rfl | assumption | (simp [ok3, ok2, ok1]; done)) ?_)) ⟨⟨_, rfl, rfl, rfl, .inl ⟨rfl, flatP_scal l⟩⟩, ⟨_, rfl, rfl, rfl, .inl ⟨rfl, flatT_scal ts⟩⟩, ⟨_, rfl, rfl, rfl, .inl ⟨rfl, flatN_scal _⟩⟩, ⟨_, rfl, rfl, rfl, .inl ⟨rfl, flatN_scal _⟩⟩, ⟨_, rfl, rfl, rfl, .inr ⟨rfl, rfl⟩⟩, ⟨_, rfl, rfl, rfl, .inl ⟨rfl, rfl⟩⟩, ⟨_, rfl, rfl, rfl, .inl ⟨rfl, flatP_scal _⟩⟩, ⟨_, rfl, rfl, rfl, .inl ⟨rfl, flatN_scal _⟩⟩, ⟨_, rfl, rfl, rfl, .inl ⟨rfl, flatN_scal _⟩⟩, ⟨_, rfl, rfl, rfl, .inl ⟨rfl, rfl⟩⟩, trivial⟩) | (have hs := hSa r k hxm hym; have hsc := flatN_scal (S r (k + 1)).1; refine ⟨(edL ts).length - (k + 1), [jk, jk, .slice (some ⟨3, 0, none⟩) xs.length c4, jk, jk, jk, jk, jk, .pointer (some ⟨4, 0, none⟩), jk, jk, jk, .slice (some ⟨7, 0, none⟩) ((edL ts).length) INF, .slice (some ⟨8, 0, none⟩) l.length l.length, .map (some 9), jk, jk, jk, jk, jk, jk, jk, jk, jk, jk, jk, jk, jk, jk, jk, jk, jk, jk, jk, jk, jk, jk, jk, jk, jk, jk, jk, jk, jk, jk, jk, jk, jk, jk, jk, jk, jk, jk, jk, jk, jk, jk, jk, jk, .slice (some ⟨6, 0, none⟩) ((edL ts).length) INF, .int .i64 ((edL ts).length), .int .i64 (((k + 1 : Nat) : Int)), jk, jk, jk, jk, jk, jk, jk, jk, jk, jk, jk, jk, jk, jk, jk, jk, jk, jk, jk, jk, jk, jk, jk, jk, jk, jk, jk, jk, jk, jk, jk, jk, jk, jk, jk, jk, jk, jk, jk, jk, jk, jk, jk, jk, jk, jk, jk, jk, jk, jk, jk, jk, jk, jk, jk, jk, jk, jk, jk, jk, jk, jk, jk, jk, jk, jk, jk, jk], [some ⟨flatP l, false, z⟩, some ⟨flatT ts, false, z1⟩, some ⟨flatN ph, false, z2⟩, some ⟨flatN xs, false, z3⟩, some ⟨[.slice (some ⟨0, 0, none⟩) l.length c, .slice (some ⟨1, 0, none⟩) ts.length c2, .slice (some ⟨6, 0, none⟩) (edL ts).length INF, .map (some 5)], true, 0⟩, some (mpX (lfA ts) true 0), some ⟨flatP (edL ts), true, 2⟩, some ⟨flatN (dfL ts ph), true, 1⟩, some ⟨flatN (S r (k + 1)).1, true, 1⟩, some (mpU (S r (k + 1)).2)], by omega, ?_, k + 1, rfl, by omega, rfl, rfl⟩; rw [hs.1] at hsc ⊢; rw [hs.2]; exact Wk.keep 10 [] (by rw [hE]; exact Nat.le_of_ble_eq_true rfl) rfl rfl (by repeat (first | exact RenT.nil | refine RenT.jk ?_ | refine RenT.val (by first | rfl | with_reducible assumption | (simp only [rn3, rn2, rn1, kσ]; done)) (by first | rfl | assumption | (simp [ok3, ok2, ok1]; done)) ?_)) ⟨⟨_, rfl, rfl, rfl, .inl ⟨rfl, flatP_scal l⟩⟩, ⟨_, rfl, rfl, rfl, .inl ⟨rfl, flatT_scal ts⟩⟩, ⟨_, rfl, rfl, rfl, .inl ⟨rfl, flatN_scal _⟩⟩, ⟨_, rfl, rfl, rfl, .inl ⟨rfl, flatN_scal _⟩⟩, ⟨_, rfl, rfl, rfl, .inr ⟨rfl, rfl⟩⟩, ⟨_, rfl, rfl, rfl, .inl ⟨rfl, rfl⟩⟩, ⟨_, rfl, rfl, rfl, .inl ⟨rfl, flatP_scal _⟩⟩, ⟨_, rfl, rfl, rfl, .inl ⟨rfl, flatN_scal _⟩⟩, ⟨_, rfl, rfl, rfl, .inl ⟨rfl, hsc⟩⟩, ⟨_, rfl, rfl, rfl, .inl ⟨rfl, rfl⟩⟩, trivial⟩) | (have hs := hSb r k hym hxm; have hsc := flatN_scal (S r (k + 1)).1; refine ⟨(edL ts).length - (k + 1), [jk, jk, .slice (some ⟨3, 0, none⟩) xs.length c4, jk, jk, jk, jk, jk, .pointer (some ⟨4, 0, none⟩), jk, jk, jk, .slice (some ⟨7, 0, none⟩) ((edL ts).length) INF, .slice (some ⟨8, 0, none⟩) l.length l.length, .map (some 9), jk, jk, jk, jk, jk, jk, jk, jk, jk, jk, jk, jk, jk, jk, jk, jk, jk, jk, jk, jk, jk, jk, jk, jk, jk, jk, jk, jk, jk, jk, jk, jk, jk, jk, jk, jk, jk, jk, jk, jk, jk, jk, jk, jk, .slice (some ⟨6, 0, none⟩) ((edL ts).length) INF, .int .i64 ((edL ts).length), .int .i64 (((k + 1 : Nat) : Int)), jk, jk, jk, jk, jk, jk, jk, jk, jk, jk, jk, jk, jk, jk, jk, jk, jk, jk, jk, jk, jk, jk, jk, jk, jk, jk, jk, jk, jk, jk, jk, jk, jk, jk, jk, jk, jk, jk, jk, jk, jk, jk, jk, jk, jk, jk, jk, jk, jk, jk, jk, jk, jk, jk, jk, jk, jk, jk, jk, jk, jk, jk, jk, jk, jk, jk, jk, jk], [some ⟨flatP l, false, z⟩, some ⟨flatT ts, false, z1⟩, some ⟨flatN ph, false, z2⟩, some ⟨flatN xs, false, z3⟩, some ⟨[.slice (some ⟨0, 0, none⟩) l.length c, .slice (some ⟨1, 0, none⟩) ts.length c2, .slice (some ⟨6, 0, none⟩) (edL ts).length INF, .map (some 5)], true, 0⟩, some (mpX (lfA ts) true 0), some ⟨flatP (edL ts), true, 2⟩, some ⟨flatN (dfL ts ph), true, 1⟩, some ⟨flatN (S r (k + 1)).1, true, 1⟩, some (mpU (S r (k + 1)).2)], by omega, ?_, k + 1, rfl, by omega, rfl, rfl⟩; rw [hs.1] at hsc ⊢; rw [hs.2]; exact Wk.keep 10 [] (by rw [hE]; exact Nat.le_of_ble_eq_true rfl) rfl rfl (by repeat (first | exact RenT.nil | refine RenT.jk ?_ | refine RenT.val (by first | rfl | with_reducible assumption | (simp only [rn3, rn2, rn1, kσ]; done)) (by first | rfl | assumption | (simp [ok3, ok2, ok1]; done)) ?_)) ⟨⟨_, rfl, rfl, rfl, .inl ⟨rfl, flatP_scal l⟩⟩, ⟨_, rfl, rfl, rfl, .inl ⟨rfl, flatT_scal ts⟩⟩, ⟨_, rfl, rfl, rfl, .inl ⟨rfl, flatN_scal _⟩⟩, ⟨_, rfl, rfl, rfl, .inl ⟨rfl, flatN_scal _⟩⟩, ⟨_, rfl, rfl, rfl, .inr ⟨rfl, rfl⟩⟩, ⟨_, rfl, rfl, rfl, .inl ⟨rfl, rfl⟩⟩, ⟨_, rfl, rfl, rfl, .inl ⟨rfl, flatP_scal _⟩⟩, ⟨_, rfl, rfl, rfl, .inl ⟨rfl, flatN_scal _⟩⟩, ⟨_, rfl, rfl, rfl, .inl ⟨rfl, hsc⟩⟩, ⟨_, rfl, rfl, rfl, .inl ⟨rfl, rfl⟩⟩, trivial⟩)))
    | ((with_reducible refine FinA.on ?_); (obtain rfl : r = R := (by rcases Nat.lt_or_eq_of_le hr with h | h; (exfalso; have := hlt2 r h; first | omega | (simp only [List.length_map] at hc; omega)); (exact h)); refine FinA.keep 4 [8] (.inl rfl) (.tmp wl (.tmp wl .nil)) ?_ rfl (Nat.le_of_eq hE) rfl rfl ⟨⟨_, rfl, rfl, rfl, .inl ⟨rfl, flatP_scal l⟩⟩, ⟨_, rfl, rfl, rfl, .inl ⟨rfl, flatT_scal ts⟩⟩, ⟨_, rfl, rfl, rfl, .inl ⟨rfl, flatN_scal _⟩⟩, ⟨_, rfl, rfl, rfl, .inl ⟨rfl, flatN_scal _⟩⟩, ⟨_, rfl, rfl, rfl, .inl ⟨rfl, flatN_scal _⟩⟩, trivial⟩; rfl)))
end Go.Proofs.Ytmohcmghbfhdlaa
end
end
/- Chapter 6: fields of turns in a greater memory, and their errors (the program's). -/
section
set_option linter.unusedSimpArgs false
set_option linter.unusedVariables false
section
namespace Go.Me
open Go.Ab Go.Proofs.Ytmohcmghbfhdlaa
end Go.Me
namespace Go.Proofs.Ytmohcmghbfhdlaa
open Go Go.RowKit Go.Ab Go.Me
set_option maxRecDepth 100000
set_option maxHeartbeats 4000000
attribute [local irreducible] OQ OW AL AW AD AF SW
theorem Field_y {m : Mem} {bP bT bF bX n k j i c c2 c3 c4 : Nat} {F X : Blk} (l : List Pn) (ts : List T3) (ph xs : List Int) (hA : ArgN m bP bT l ts) (hn : l.length = n) (hk : ts.length = k) (f1 : m.at bF = some F) (f2 : F.cells = flatN ph) (hj : ph.length = j) (x1 : m.at bX = some X) (x2 : X.cells = flatN xs) (hi : xs.length = i) (hR : NetR l ts) (hph : phE l ph = 0) (htu : tuE ts ph xs = 0) (R : Nat) (hF : FdR (dfL ts ph) xs (edL ts) (fd0 l.length (nt ph 0)) l.length R) (hxl : xs.length ≤ 1000000) (hd : [bP, bT, bF, bX].Nodup) (f3 : F.obj = Ob.plain := by rfl) (x3 : X.obj = Ob.plain := by rfl) :
    ACalls Try.prog 28 [.agg #[.slice (some ⟨bP, 0, none⟩) n c, .slice (some ⟨bT, 0, none⟩) k c2], .slice (some ⟨bF, 0, none⟩) j c3, .slice (some ⟨bX, 0, none⟩) i c4] m (.tuple #[.slice (some ⟨m.length, 0, none⟩) n n, .int .i64 0]) (m ++ [some ⟨flatN (fdN (dfL ts ph) xs (edL ts) (fd0 l.length (nt ph 0)) R).1, true, 1⟩]) := by
  subst hn hk hj hi
  obtain ⟨⟨A, h1, h2, h3, h4⟩, ⟨B, h5, h6, h7⟩, _⟩ := hA
  have h := ACalls.viaS (m := m) (args := [.agg #[.slice (some ⟨bP, 0, none⟩) l.length c, .slice (some ⟨bT, 0, none⟩) ts.length c2], .slice (some ⟨bF, 0, none⟩) ph.length c3, .slice (some ⟨bX, 0, none⟩) xs.length c4]) (v := .tuple #[.slice (some ⟨m.length, 0, none⟩) l.length l.length, .int .i64 0]) [bP, bT, bF, bX] [] [some ⟨flatN (fdN (dfL ts ph) xs (edL ts) (fd0 l.length (nt ph 0)) R).1, true, 1⟩] (Field_y0 l ts hR ph xs hph htu R hF hxl c c2 c3 c4 A.esz B.esz F.esz X.esz h3) ⟨⟨_, h1, by unfold Blk.shp Blk.shpR; rw [h4]; rfl, (fun h => nomatch h), .inl ⟨h2, flatP_scal _⟩⟩, ⟨_, h5, by unfold Blk.shp Blk.shpR; rw [h7]; rfl, (fun h => nomatch h), .inl ⟨h6, flatT_scal _⟩⟩, ⟨_, f1, by unfold Blk.shp Blk.shpR; rw [f3]; rfl, (fun h => nomatch h), .inl ⟨f2, flatN_scal _⟩⟩, ⟨_, x1, by unfold Blk.shp Blk.shpR; rw [x3]; rfl, (fun h => nomatch h), .inl ⟨x2, flatN_scal _⟩⟩, trivial⟩ hd
    ⟨⟨_, rfl, rfl⟩, ⟨_, rfl, rfl⟩, ⟨_, rfl, rfl⟩, ⟨_, rfl, rfl⟩, ⟨rfl, rfl, rfl, .inl ⟨rfl, flatN_scal _⟩⟩, trivial⟩ rfl rfl rfl rfl
  exact h
end Go.Proofs.Ytmohcmghbfhdlaa
end
end
/- Chapter 6: tasks, opened; the cost of turns (the program's). -/
section
set_option linter.unusedSimpArgs false
set_option linter.unusedVariables false
section
namespace Go.Me
open Go.Ab Go.Proofs.Ytmohcmghbfhdlaa
structure TaskR (l : List Pn) (ts : List T3) (ph cs : List Int) : Prop where
  net : NetR l ts
  ph : phE l ph = 0
  len : cs.length = (edL ts).length
  rng : cs.any (fun x => !rgB x 0 1000) = false
def coL (cs xs : List Int) : Nat → Int
  | 0 => 0
  | k + 1 => coL cs xs k + nt cs k * (if -nt xs k > nt xs k then -nt xs k else nt xs k)
theorem abs_mul {a b : Int} (h1 : 0 ≤ a ∧ a ≤ 1000) (h2 : -100 ≤ b ∧ b ≤ 100) : 0 ≤ a * (if -b > b then -b else b) ∧ a * (if -b > b then -b else b) ≤ 100000 := by
  have h3 : 0 ≤ (if -b > b then -b else b) ∧ (if -b > b then -b else b) ≤ 100 := by split <;> omega
  generalize (if -b > b then -b else b) = x at h3
  refine ⟨Int.mul_nonneg h1.1 h3.1, ?_⟩
  have h4 : a * x ≤ 1000 * 100 := Int.mul_le_mul h1.2 h3.2 h3.1 (by decide)
  exact h4
theorem coL_bd {cs xs : List Int} (h : ∀ k, k < xs.length → (0 ≤ nt cs k ∧ nt cs k ≤ 1000) ∧ (-100 ≤ nt xs k ∧ nt xs k ≤ 100)) : ∀ k, k ≤ xs.length → 0 ≤ coL cs xs k ∧ coL cs xs k ≤ 100000 * (k : Int)
  | 0, _ => by simp [coL]
  | k + 1, hk => by
    have ih := coL_bd h k (by omega)
    have h1 := h k (by omega)
    have h2 := abs_mul h1.1 h1.2
    show 0 ≤ coL cs xs k + _ ∧ coL cs xs k + _ ≤ _
    omega
end Go.Me
namespace Go.Proofs.Ytmohcmghbfhdlaa
open Go Go.RowKit Go.Ab Go.Me
set_option maxRecDepth 100000
set_option maxHeartbeats 4000000
attribute [local irreducible] OQ OW AL AW AD AF SW
theorem openTask_y0 (l : List Pn) (ts : List T3) (ph cs : List Int) (hT : TaskR l ts ph cs) (c c2 c3 c4 z z1 z2 z3 : Nat) (hz : z = 0 ∨ z = 2) :
    ACalls Try.prog 42 [.agg #[.slice (some ⟨0, 0, none⟩) l.length c, .slice (some ⟨1, 0, none⟩) ts.length c2, .slice (some ⟨2, 0, none⟩) ph.length c3, .slice (some ⟨3, 0, none⟩) cs.length c4]] [some ⟨flatP l, false, z⟩, some ⟨flatT ts, false, z1⟩, some ⟨flatN ph, false, z2⟩, some ⟨flatN cs, false, z3⟩]
      (.tuple #[.pointer (some ⟨7, 0, none⟩), .int .i64 0]) [some ⟨flatP l, false, z⟩, some ⟨flatT ts, false, z1⟩, some ⟨flatN ph, false, z2⟩, some ⟨flatN cs, false, z3⟩, some ⟨[.slice (some ⟨0, 0, none⟩) l.length c, .slice (some ⟨1, 0, none⟩) ts.length c2, .slice (some ⟨6, 0, none⟩) (edL ts).length INF, .map (some 5)], true, 0⟩, some (mpX (lfA ts) true 0), some ⟨flatP (edL ts), true, 2⟩, some ⟨[.pointer (some ⟨4, 0, none⟩), .slice (some ⟨2, 0, none⟩) ph.length c3, .slice (some ⟨3, 0, none⟩) cs.length c4], true, 0⟩] := by
  obtain ⟨hR, hph, hcl, hca⟩ := hT
  have hpl := phE_0 hph
  have h40 := (cp_ok hR.cp).1
  have hle := edL_le ts
  have h80 := hR.le
  have hop := fun (m : Mem) (hA : ArgN m 0 1 l ts) (F : Blk) (f1 : m.at 2 = some F) (f2 : F.cells = flatN ph) (f3 : F.obj = Ob.plain) => openPhases_y (c := c) (c2 := c2) (c3 := c3) l ts ph hA rfl rfl f1 f2 rfl (by rw [hpl.1]; omega) hR (by decide) f3
  have hc3 := fun (m : Mem) (blk : Blk) (h1 : m.at 3 = some blk) (h2 : blk.cells = flatN cs) (h3 : blk.obj = Ob.plain) => ContainsI_q (c := c4) 66 (by kernel_rfl) (fun x => !rgB x 0 1000) tooMuch_q cs (by omega) h1 h2 rfl h3
  rw [hph] at hop
  rw [hca] at hc3
  clear hca
  refine ACalls.enter (t := [.agg #[.slice (some ⟨0, 0, none⟩) l.length c, .slice (some ⟨1, 0, none⟩) ts.length c2, .slice (some ⟨2, 0, none⟩) ph.length c3, .slice (some ⟨3, 0, none⟩) cs.length c4], undef, undef, undef, undef, undef, undef, undef, undef, undef, undef, undef, undef, undef, undef, undef, undef, undef, undef, undef, undef, undef, undef, undef, undef, undef, undef, undef, undef, undef, undef, undef, undef, undef, undef, undef, undef, undef, undef]) Try.func42 rfl rfl fun E hE => ?_
  repeat' (first
    | with_reducible (first | refine Then.n ?_ | refine Then.r ?_ | refine Then.x ?_ | refine InB.n ?_ | refine InB.r ?_ | refine InB.hit ?_ | refine InB.miss (by decide) ?_)
    | ((with_reducible refine AL.on ?_); first
      | ((first | ((with_reducible refine AL.k_assign ?_); first | (refine AL.q rfl (OQ.assign wl) ?_)) | ((with_reducible refine AL.k_fieldAddr ?_); first | refine AL.q rfl (OQ.fieldA (ty := 59) (i := 0) (n := 2) (off := 0) (g := true) rfl kr (by decide)) ?_ | refine AL.q rfl (OQ.fieldA (ty := 59) (i := 1) (n := 1) (off := 2) (g := false) rfl kr (by decide)) ?_ | refine AL.q rfl (OQ.fieldA (ty := 59) (i := 2) (n := 1) (off := 3) (g := false) rfl kr (by decide)) ?_) | ((with_reducible refine AL.k_load ?_); first | refine AL.q rfl (OQ.loadN (ty := 38) (n := 2) rfl kr kr rfl) ?_ | (refine AL.q rfl (OQ.load1 (ty := 29) rfl kr wl) ?_)) | ((with_reducible refine AL.k_move ?_); first | (refine AL.q rfl (OQ.move wl) ?_)) | ((with_reducible refine AL.k_extract ?_); first | refine AL.q rfl (OQ.extract rfl rfl) ?_) | ((with_reducible refine AL.k_binOp ?_); first | refine AL.q rfl (OQ.neq rfl rfl) ?_)); (refine AL.nm ?_))
      | ((first | ((with_reducible refine AL.k_call ?_); first | refine AL.pcall (g := 65) rfl kr rfl ((by exact hc3 _ _ rfl rfl rfl)) ?_) | ((with_reducible refine AL.k_build ?_); first | refine AL.q rfl (OQ.buildS (ty := 105) (zs := [.pointer none, .slice none 0 0, .slice none 0 0]) (pls := [(0, 1), (1, 1), (2, 1)]) kr rfl kr rfl rfl rfl) ?_)); (refine AL.nm ?_))
      | ((first | ((with_reducible refine AL.k_call ?_); first | refine AL.acall (g := 48) rfl kr rfl ((by exact hop _ ⟨⟨_, rfl, rfl, hz, rfl⟩, ⟨_, rfl, rfl, rfl⟩, by decide⟩ _ rfl rfl rfl)) ?_) | ((with_reducible refine AL.k_box ?_); first | (refine AL.w rfl (OW.box wl (by intro r h; cases h)) ?_))); (refine AL.nm ?_); (refine AL.nM ?_))
      | refine AL.nil ?_)
    | ((with_reducible refine AW.on ?_); first
      | refine AW.seq ?_
      | refine AW.skip ?_
      | refine AW.exit ?_
      | refine AW.ret ?_
      | refine AW.block ?_
      | (refine AW.drawF (id := 4) 8 #[0, 1, 3, 0, 8, 24, 56, 120, 255, 511] kr kr ?_; (conv => (arg 8; simp only [List.take_succ_cons, List.take_zero])))
      | refine AW.region ?_
      | (refine AW.conds rfl (fun hc => ?_) (fun hc => ?_) <;> (try replace hc := nc hc) <;> first | (exfalso; first | contradiction | (first | omega | (simp at hc; done)); done) | skip))
    | ((with_reducible refine AF.on ?_); first
      | ((first | ((with_reducible refine AF.k_fieldAddr ?_); first | refine AF.q 0 (SW.q (OQ.fieldA (ty := 59) (i := 2) (n := 1) (off := 3) (g := false) rfl kr (by decide)) rfl) ?_ | refine AF.q 0 (SW.q (OQ.fieldA (ty := 74) (i := 1) (n := 1) (off := 2) (g := false) rfl kr (by decide)) rfl) ?_) | ((with_reducible refine AF.k_load ?_); first | (refine AF.ql rfl (SW.q (OQ.load1 (ty := 29) rfl kr wl) rfl) ?_) | (refine AF.ql rfl (SW.q (OQ.load1 (ty := 42) rfl kr wl) rfl) ?_)) | ((with_reducible refine AF.k_move ?_); first | (refine AF.q 0 (SW.q (OQ.move wl) rfl) ?_)) | ((with_reducible refine AF.k_call ?_); first | refine AF.q 0 (SW.q (OQ.lenS (xt := 29) (r := (none, 1, false)) rfl kr) rfl) ?_ | refine AF.q 0 (SW.q (OQ.lenS (xt := 42) (r := (none, 2, true)) rfl kr) rfl) ?_) | refine AF.q 2 (SW.q (OQ.nilCheck rfl) rfl) ?_); (conv => (arg 9; try tactic => exact nrmF)); (conv => (arg 11; try simp only [List.nil_append, List.cons_append])))
      | (refine AF.nil ?_ kr; (conv => (arg 4; simp only [List.drop_succ_cons, List.drop_zero, List.drop_nil]))))
    | ((with_reducible refine FinA.on ?_); (refine FinA.keep 4 [5, 6, 7, 8] (.inl rfl) (.tmp wl (.tmp wl .nil)) ?_ rfl (Nat.le_of_eq hE) rfl rfl ⟨⟨_, rfl, rfl, rfl, .inl ⟨rfl, flatP_scal l⟩⟩, ⟨_, rfl, rfl, rfl, .inl ⟨rfl, flatT_scal ts⟩⟩, ⟨_, rfl, rfl, rfl, .inl ⟨rfl, flatN_scal _⟩⟩, ⟨_, rfl, rfl, rfl, .inl ⟨rfl, flatN_scal _⟩⟩, ⟨_, rfl, rfl, rfl, .inr ⟨rfl, rfl⟩⟩, ⟨_, rfl, rfl, rfl, .inl ⟨rfl, rfl⟩⟩, ⟨_, rfl, rfl, rfl, .inl ⟨rfl, flatP_scal _⟩⟩, ⟨_, rfl, rfl, rfl, .inr ⟨rfl, rfl⟩⟩, trivial⟩; rfl)))
structure OpenT (m : Mem) (bK bN bL bE bP bT bF bC c c2 c3 c4 : Nat) (l : List Pn) (ts : List T3) (ph cs : List Int) : Prop where
  net : OpenN m bN bL bE bP bT c c2 l ts
  F : ∃ F : Blk, m.at bF = some F ∧ F.cells = flatN ph ∧ F.obj = Ob.plain
  C : ∃ C : Blk, m.at bC = some C ∧ C.cells = flatN cs ∧ C.obj = Ob.plain
  K : ∃ K : Blk, m.at bK = some K ∧ K.cells = [.pointer (some ⟨bN, 0, none⟩), .slice (some ⟨bF, 0, none⟩) ph.length c3, .slice (some ⟨bC, 0, none⟩) cs.length c4] ∧ K.obj = Ob.plain
end Go.Proofs.Ytmohcmghbfhdlaa
end
end
/- Chapter 6: the arcs of a task (the program's). -/
section
set_option linter.unusedSimpArgs false
set_option linter.unusedVariables false
section
namespace Go.Me
open Go.Ab Go.Proofs.Ytmohcmghbfhdlaa
structure Ac where
  fr : Int
  to : Int
  ed : Int
  d : Int
  co : Int
def acC (a : Ac) : List Value := [.int .i64 a.fr, .int .i64 a.to, .int .i64 a.ed, .int .i64 a.d, .int .i64 a.co]
def flatA (l : List Ac) : List Value := l.flatMap acC
def ac (l : List Ac) (k : Nat) : Ac := l.getD k ⟨0, 0, 0, 0, 0⟩
theorem flatA_len (l : List Ac) : (flatA l).length = l.length * 5 := Ls.flat_len acC 5 (fun _ => rfl) l
theorem flatA_scal (l : List Ac) : (flatA l).all Ab.scal = true := Ls.flat_scal acC (fun _ => rfl) l
theorem flatA_ld {m : Mem} {b : Nat} {blk : Blk} {l : List Ac} (hb : m.at b = some blk) (hc : blk.cells = flatA l) (k : Nat) (hk : k < l.length) : m.ld b (k * 5) 5 = some (acC (ac l k)) := Ls.flat_ld acC 5 (fun _ => rfl) ⟨0, 0, 0, 0, 0⟩ l hb hc k hk
def moC (c x : Int) : Int := if x < 0 then -c else c
def leC (c x : Int) : Int := if x > 0 then -c else c
def acP (ts : List T3) (cs xs : List Int) (k : Nat) : List Ac := [⟨(sdP ts (pt (edL ts) k)).x, (sdP ts (pt (edL ts) k)).y, k, 1, moC (nt cs k) (nt xs k)⟩, ⟨(sdP ts (pt (edL ts) k)).y, (sdP ts (pt (edL ts) k)).x, k, -1, leC (nt cs k) (nt xs k)⟩]
def acL (ts : List T3) (cs xs : List Int) : Nat → List Ac
  | 0 => []
  | k + 1 => acL ts cs xs k ++ acP ts cs xs k
theorem acL_len (ts : List T3) (cs xs : List Int) : ∀ k, (acL ts cs xs k).length = k * 2
  | 0 => rfl
  | k + 1 => by
    show (acL ts cs xs k ++ acP ts cs xs k).length = _
    rw [List.length_append, acL_len ts cs xs k]
    show k * 2 + 2 = _
    omega
theorem acL_step (ts : List T3) (cs xs : List Int) (k : Nat) {a b : Int} (ha : moC (nt cs k) (nt xs k) = a) (hb : leC (nt cs k) (nt xs k) = b) : flatA (acL ts cs xs k) ++ [.int .i64 (sdP ts (pt (edL ts) k)).x, .int .i64 (sdP ts (pt (edL ts) k)).y, .int .i64 k, .int .i64 1, .int .i64 a, .int .i64 (sdP ts (pt (edL ts) k)).y, .int .i64 (sdP ts (pt (edL ts) k)).x, .int .i64 k, .int .i64 (-1), .int .i64 b] = flatA (acL ts cs xs (k + 1)) := by
  subst ha hb
  show _ = flatA (acL ts cs xs k ++ acP ts cs xs k)
  unfold flatA
  rw [List.flatMap_append]
  rfl
end Go.Me
namespace Go.Proofs.Ytmohcmghbfhdlaa
open Go Go.RowKit Go.Ab Go.Me
set_option maxRecDepth 100000
set_option maxHeartbeats 4000000
attribute [local irreducible] OQ OW AL AW AD AF SW
theorem arcs_0 (l : List Pn) (ts : List T3) (ph cs xs : List Int) (hT : TaskR l ts ph cs) (hxl : xs.length = (edL ts).length) (hxb : ∀ k, k < xs.length → -1000000 ≤ nt xs k ∧ nt xs k ≤ 1000000) (c c2 c3 c4 cx z0 z1 z2 z4 z5 z6 z7 z8 : Nat) :
    ACalls Try.prog 69 [.pointer (some ⟨7, 0, none⟩), .slice (some ⟨8, 0, none⟩) xs.length cx] [some ⟨flatP l, false, z0⟩, some ⟨flatT ts, false, z1⟩, some ⟨[.slice (some ⟨0, 0, none⟩) l.length c, .slice (some ⟨1, 0, none⟩) ts.length c2, .slice (some ⟨4, 0, none⟩) (edL ts).length INF, .map (some 3)], false, z2⟩, some (mpX (lfA ts) false 0), some ⟨flatP (edL ts), false, z4⟩, some ⟨flatN ph, false, z5⟩, some ⟨flatN cs, false, z6⟩, some ⟨[.pointer (some ⟨2, 0, none⟩), .slice (some ⟨5, 0, none⟩) ph.length c3, .slice (some ⟨6, 0, none⟩) cs.length c4], false, z7⟩, some ⟨flatN xs, false, z8⟩]
      (.slice (some ⟨9, 0, none⟩) (xs.length * 2) INF) [some ⟨flatP l, false, z0⟩, some ⟨flatT ts, false, z1⟩, some ⟨[.slice (some ⟨0, 0, none⟩) l.length c, .slice (some ⟨1, 0, none⟩) ts.length c2, .slice (some ⟨4, 0, none⟩) (edL ts).length INF, .map (some 3)], false, z2⟩, some (mpX (lfA ts) false 0), some ⟨flatP (edL ts), false, z4⟩, some ⟨flatN ph, false, z5⟩, some ⟨flatN cs, false, z6⟩, some ⟨[.pointer (some ⟨2, 0, none⟩), .slice (some ⟨5, 0, none⟩) ph.length c3, .slice (some ⟨6, 0, none⟩) cs.length c4], false, z7⟩, some ⟨flatN xs, false, z8⟩, some ⟨flatA (acL ts cs xs xs.length), true, 5⟩] := by
  obtain ⟨hR, hph, hcl, hca⟩ := hT
  have hcb := anyR_no hca
  have hle := edL_le ts
  have h80 := hR.le
  have hpos := edL_pos hR
  have hgC : ∀ k, k < xs.length → (flatN cs)[k]? = some (.int .i64 (nt cs k)) := fun k hk => flatN_get _ k (by omega)
  have hgX : ∀ k, k < xs.length → (flatN xs)[k]? = some (.int .i64 (nt xs k)) := fun k hk => flatN_get _ k hk
  have hs := fun (m : Mem) (i : Nat) (h : OpenN m 2 3 4 0 1 c c2 l ts) (hi : i < (edL ts).length) => sides_q (i := i) h hR hi
  have hst := fun k a b => acL_step ts cs xs k (a := a) (b := b)
  have hfl : ∀ k, k ≤ xs.length → (flatA (acL ts cs xs k)).length = k * 2 * 5 := fun k _ => by rw [flatA_len, acL_len]
  have hfs := fun k => flatA_scal (acL ts cs xs k)
  have h0 : flatA (acL ts cs xs 0) = [] := rfl
  have hmn : ∀ k, nt xs k < 0 → moC (nt cs k) (nt xs k) = -nt cs k := fun k h => if_pos h
  have hmz : ∀ k, 0 ≤ nt xs k → moC (nt cs k) (nt xs k) = nt cs k := fun k h => if_neg (by omega)
  have hln : ∀ k, nt xs k > 0 → leC (nt cs k) (nt xs k) = -nt cs k := fun k h => if_pos h
  have hlz : ∀ k, nt xs k ≤ 0 → leC (nt cs k) (nt xs k) = nt cs k := fun k h => if_neg (by omega)
  generalize acL ts cs xs = AA at *
  refine ACalls.enter (t := [.pointer (some ⟨7, 0, none⟩), .slice (some ⟨8, 0, none⟩) xs.length cx, undef, undef, undef, undef, undef, undef, undef, undef, undef, undef, undef, undef, undef, undef, undef, undef, undef, undef, undef, undef, undef, undef, undef, undef, undef, undef, undef, undef, undef, undef, undef, undef, undef, undef, undef, undef, undef, undef, undef, undef, undef, undef, undef, undef, undef, undef, undef, undef, undef, undef, undef, undef, undef, undef, undef, undef, undef, undef, undef, undef, undef, undef, undef]) Try.func69 rfl rfl fun E hE => ?_
  repeat' (first
    | with_reducible (first | refine Then.n ?_ | refine Then.r ?_ | refine Then.x ?_ | refine InB.n ?_ | refine InB.r ?_ | refine InB.hit ?_ | refine InB.miss (by decide) ?_)
    | ((with_reducible refine AL.on ?_); first
      | ((first | ((with_reducible refine AL.k_move ?_); first | (refine AL.q rfl (OQ.move wl) ?_)) | ((with_reducible refine AL.k_assign ?_); first | (refine AL.q rfl (OQ.assign wl) ?_)) | ((with_reducible refine AL.k_load ?_); first | (refine AL.q rfl (OQ.load1 (ty := 3) rfl kr (by first | (first | exact hgC k (by omega) | exact hgX k (by omega)) | (conv => lhs; whnf))) ?_) | (refine AL.q rfl (OQ.load1 (ty := 69) rfl kr (by first | (first | exact hgC k (by omega) | exact hgX k (by omega)) | (conv => lhs; whnf))) ?_)) | ((with_reducible refine AL.k_binOp ?_); first | refine AL.q rfl (OQ.lss rfl rfl) ?_ | refine AL.q rfl (OQ.gtr rfl rfl) ?_ | refine AL.q rfl (OQ.addi rfl rfl (by omega)) ?_ | refine AL.q rfl (OQ.add rfl rfl) ?_) | ((with_reducible refine AL.k_call ?_); first | refine AL.q rfl (OQ.lenS (xt := 29) (r := (none, 1, false)) rfl kr) ?_) | ((with_reducible refine AL.k_unOp ?_); first | refine AL.q rfl (OQ.negi rfl (by omega)) ?_ | refine AL.q rfl (OQ.neg rfl) ?_) | refine AL.q rfl (OQ.nilCheck rfl) ?_); (refine AL.nm ?_))
      | ((first | ((with_reducible refine AL.k_indexAddr ?_); first | refine AL.q rfl (OQ.idxAddr (ty := 29) (z := 1) (g := false) rfl rfl kr (by first | omega | decide) (by first | omega | decide)) ?_ | refine AL.q rfl (OQ.idxPtr (ty := 45) (n := 1) (l := 2) (g := false) rfl rfl kr (by first | omega | decide) (by first | omega | decide)) ?_) | ((with_reducible refine AL.k_fieldAddr ?_); first | refine AL.q rfl (OQ.fieldA (ty := 105) (i := 0) (n := 1) (off := 0) (g := false) rfl kr (by decide)) ?_) | ((with_reducible refine AL.k_call ?_); first | refine AL.pcall (g := 36) rfl kr rfl ((by exact hs _ k ⟨⟨_, rfl, rfl, rfl⟩, ⟨_, rfl, rfl, rfl⟩, ⟨_, rfl, rfl, rfl⟩, ⟨_, rfl⟩, ⟨_, rfl, rfl, rfl⟩⟩ (by omega))) ?_) | ((with_reducible refine AL.k_build ?_); first | refine AL.q rfl (OQ.buildS (ty := 112) (zs := [.int .i64 0, .int .i64 0, .int .i64 0, .int .i64 0, .int .i64 0]) (pls := [(0, 1), (1, 1), (2, 1), (3, 1), (4, 1)]) kr rfl kr rfl rfl rfl) ?_)); (refine AL.nm ?_))
      | ((first | ((with_reducible refine AL.k_call ?_); first | refine AL.w rfl (by first | exact OW.appendNil (e := 112) (z := 5) (zs := [.int .i64 0, .int .i64 0, .int .i64 0, .int .i64 0, .int .i64 0]) (by' := 40) rfl rfl kr kr kr rfl kr (by decide) rfl (by decide) (by decide) | exact OW.appendL (e := 112) (z := 5) (zs := [.int .i64 0, .int .i64 0, .int .i64 0, .int .i64 0, .int .i64 0]) (by' := 40) rfl rfl kr kr kr rfl kr (by decide) rfl rfl rfl (by decide) (by exact hfl k (by omega)) rfl rfl (by omega) (by omega)) ?_) | ((with_reducible refine AL.k_alloc ?_); first | refine AL.w rfl (OW.alloc (ty := 45) (z := [.int .i64 0, .int .i64 0]) kr rfl) ?_) | ((with_reducible refine AL.k_store ?_); first | (refine AL.w rfl (OW.store (ty := 45) (n := 2) rfl wl rfl rfl kr rfl rfl (by decide) rfl (Nat.le_of_ble_eq_true rfl) (by intro r h; cases h)) ?_)) | ((with_reducible refine AL.k_buildSlice ?_); first | refine AL.w rfl (OW.buildSl (ty := 109) (zs := [.int .i64 0, .int .i64 0, .int .i64 0, .int .i64 0, .int .i64 0]) (n := 5) (g := true) kr kr rfl rfl rfl (by decide) (by decide) rfl rfl) ?_)); (refine AL.nm ?_); (refine AL.nM ?_))
      | refine AL.nil ?_)
    | ((with_reducible refine AW.on ?_); first
      | refine AW.seq ?_
      | refine AW.skip ?_
      | refine AW.exit ?_
      | refine AW.ret ?_
      | ((refine AW.block (id := 0) ?_); (refine AW.fk [0, 5, 11, 12, 13] ?_); (refine AW.loop (fun n' t' m => ∃ k : Nat, n' = xs.length - k ∧ k ≤ xs.length ∧ ((k = 0 ∧ t' = [.pointer (some ⟨7, 0, none⟩), jk, jk, jk, jk, .slice none 0 0, jk, jk, jk, jk, jk, .slice (some ⟨8, 0, none⟩) xs.length cx, .int .i64 (xs.length), .int .i64 (k), jk, jk, jk, jk, jk, jk, jk, jk, jk, jk, jk, jk, jk, jk, jk, jk, jk, jk, jk, jk, jk, jk, jk, jk, jk, jk, jk, jk, jk, jk, jk, jk, jk, jk, jk, jk, jk, jk, jk, jk, jk, jk, jk, jk, jk, jk, jk, jk, jk, jk, jk] ∧ m = [some ⟨flatP l, false, z0⟩, some ⟨flatT ts, false, z1⟩, some ⟨[.slice (some ⟨0, 0, none⟩) l.length c, .slice (some ⟨1, 0, none⟩) ts.length c2, .slice (some ⟨4, 0, none⟩) (edL ts).length INF, .map (some 3)], false, z2⟩, some (mpX (lfA ts) false 0), some ⟨flatP (edL ts), false, z4⟩, some ⟨flatN ph, false, z5⟩, some ⟨flatN cs, false, z6⟩, some ⟨[.pointer (some ⟨2, 0, none⟩), .slice (some ⟨5, 0, none⟩) ph.length c3, .slice (some ⟨6, 0, none⟩) cs.length c4], false, z7⟩, some ⟨flatN xs, false, z8⟩]) ∨ (0 < k ∧ t' = [.pointer (some ⟨7, 0, none⟩), jk, jk, jk, jk, .slice (some ⟨9, 0, none⟩) (k * 2) INF, jk, jk, jk, jk, jk, .slice (some ⟨8, 0, none⟩) xs.length cx, .int .i64 (xs.length), .int .i64 (k), jk, jk, jk, jk, jk, jk, jk, jk, jk, jk, jk, jk, jk, jk, jk, jk, jk, jk, jk, jk, jk, jk, jk, jk, jk, jk, jk, jk, jk, jk, jk, jk, jk, jk, jk, jk, jk, jk, jk, jk, jk, jk, jk, jk, jk, jk, jk, jk, jk, jk, jk] ∧ m = [some ⟨flatP l, false, z0⟩, some ⟨flatT ts, false, z1⟩, some ⟨[.slice (some ⟨0, 0, none⟩) l.length c, .slice (some ⟨1, 0, none⟩) ts.length c2, .slice (some ⟨4, 0, none⟩) (edL ts).length INF, .map (some 3)], false, z2⟩, some (mpX (lfA ts) false 0), some ⟨flatP (edL ts), false, z4⟩, some ⟨flatN ph, false, z5⟩, some ⟨flatN cs, false, z6⟩, some ⟨[.pointer (some ⟨2, 0, none⟩), .slice (some ⟨5, 0, none⟩) ph.length c3, .slice (some ⟨6, 0, none⟩) cs.length c4], false, z7⟩, some ⟨flatN xs, false, z8⟩, some ⟨flatA (AA k), true, 5⟩]))) (xs.length) (by exact ⟨0, rfl, Nat.zero_le _, .inl ⟨rfl, rfl, rfl⟩⟩) ?_); (rintro n' t' m ⟨k, rfl, hk, (⟨hk0, rfl, rfl⟩ | ⟨hk1, rfl, rfl⟩)⟩))
      | refine AW.block ?_
      | (refine AW.drawF (id := 6) 15 #[0, 1, 3, 7, 0, 31, 63, 0, 128, 384, 896, 0, 3968, 8064, 127, 32767] kr kr ?_; (conv => (arg 8; simp only [List.take_succ_cons, List.take_zero])))
      | (refine AW.region (id := 4) ?_; ((have hq1 := hcb k (by omega); have hq2 := hxb k (by omega))))
      | refine AW.region ?_
      | (refine AW.conds rfl (fun hc => ?_) (fun hc => ?_) <;> (try replace hc := nc hc) <;> first | (exfalso; first | contradiction | (first | omega | (simp at hc; done)); done) | skip))
    | ((with_reducible refine AF.on ?_); first
      | ((first | ((with_reducible refine AF.k_move ?_); first | (refine AF.q 0 (SW.q (OQ.move wl) rfl) ?_)) | ((with_reducible refine AF.k_load ?_); first | (refine AF.ql rfl (SW.q (OQ.load1 (ty := 29) rfl kr (by first | (first | exact hgC k (by omega) | exact hgX k (by omega)) | (conv => lhs; whnf))) rfl) ?_) | (refine AF.ql rfl (SW.q (OQ.load1 (ty := 3) rfl kr (by first | (first | exact hgC k (by omega) | exact hgX k (by omega)) | (conv => lhs; whnf))) rfl) ?_)) | ((with_reducible refine AF.k_assign ?_); first | (refine AF.q 0 (SW.q (OQ.assign wl) rfl) ?_)) | ((with_reducible refine AF.k_indexAddr ?_); first | refine AF.q 0 (SW.q (OQ.idxAddr (ty := 29) (z := 1) (g := false) rfl rfl kr (by first | omega | decide) (by first | omega | decide)) rfl) ?_) | ((with_reducible refine AF.k_fieldAddr ?_); first | refine AF.q 0 (SW.q (OQ.fieldA (ty := 105) (i := 2) (n := 1) (off := 2) (g := false) rfl kr (by decide)) rfl) ?_) | refine AF.q 2 (SW.q (OQ.nilCheck rfl) rfl) ?_); (conv => (arg 9; try tactic => exact nrmF)); (conv => (arg 11; try simp only [List.nil_append, List.cons_append])))
      | (refine AF.nil ?_ kr; (conv => (arg 4; simp only [List.drop_succ_cons, List.drop_zero, List.drop_nil]))))
    | ((with_reducible refine ex_on ?_); first | (obtain rfl := hk0; have hf0 := hst 0 _ _ (hmn _ (by omega)) (hlz _ (by omega)); rw [h0] at hf0; refine ⟨xs.length - 1, [.pointer (some ⟨7, 0, none⟩), jk, jk, jk, jk, .slice (some ⟨9, 0, none⟩) (2) INF, jk, jk, jk, jk, jk, .slice (some ⟨8, 0, none⟩) xs.length cx, .int .i64 (xs.length), .int .i64 (((0 + 1 : Nat) : Int)), jk, jk, jk, jk, jk, jk, jk, jk, jk, jk, jk, jk, jk, jk, jk, jk, jk, jk, jk, jk, jk, jk, jk, jk, jk, jk, jk, jk, jk, jk, jk, jk, jk, jk, jk, jk, jk, jk, jk, jk, jk, jk, jk, jk, jk, jk, jk, jk, jk, jk, jk], [some ⟨flatP l, false, z0⟩, some ⟨flatT ts, false, z1⟩, some ⟨[.slice (some ⟨0, 0, none⟩) l.length c, .slice (some ⟨1, 0, none⟩) ts.length c2, .slice (some ⟨4, 0, none⟩) (edL ts).length INF, .map (some 3)], false, z2⟩, some (mpX (lfA ts) false 0), some ⟨flatP (edL ts), false, z4⟩, some ⟨flatN ph, false, z5⟩, some ⟨flatN cs, false, z6⟩, some ⟨[.pointer (some ⟨2, 0, none⟩), .slice (some ⟨5, 0, none⟩) ph.length c3, .slice (some ⟨6, 0, none⟩) cs.length c4], false, z7⟩, some ⟨flatN xs, false, z8⟩, some ⟨[.int .i64 (sdP ts (pt (edL ts) 0)).x, .int .i64 (sdP ts (pt (edL ts) 0)).y, .int .i64 ((0 : Nat) : Int), .int .i64 1, .int .i64 (-nt cs 0), .int .i64 (sdP ts (pt (edL ts) 0)).y, .int .i64 (sdP ts (pt (edL ts) 0)).x, .int .i64 ((0 : Nat) : Int), .int .i64 (-1), .int .i64 (nt cs 0)], true, 5⟩], by omega, ?_, 0 + 1, rfl, by omega, .inr ⟨by omega, rfl, by rw [← hf0]; rfl⟩⟩; exact Wk.keep 9 [11] (by rw [hE]; exact Nat.le_of_ble_eq_true rfl) rfl rfl (by repeat (first | exact RenT.nil | refine RenT.jk ?_ | refine RenT.val (by first | rfl | with_reducible assumption | (simp only [rn3, rn2, rn1, kσ]; done)) (by first | rfl | assumption | (simp [ok3, ok2, ok1]; done)) ?_)) ⟨⟨_, rfl, rfl, rfl, .inl ⟨rfl, flatP_scal l⟩⟩, ⟨_, rfl, rfl, rfl, .inl ⟨rfl, flatT_scal ts⟩⟩, ⟨_, rfl, rfl, rfl, .inr ⟨rfl, rfl⟩⟩, ⟨_, rfl, rfl, rfl, .inl ⟨rfl, rfl⟩⟩, ⟨_, rfl, rfl, rfl, .inl ⟨rfl, flatP_scal _⟩⟩, ⟨_, rfl, rfl, rfl, .inl ⟨rfl, flatN_scal _⟩⟩, ⟨_, rfl, rfl, rfl, .inl ⟨rfl, flatN_scal _⟩⟩, ⟨_, rfl, rfl, rfl, .inr ⟨rfl, rfl⟩⟩, ⟨_, rfl, rfl, rfl, .inl ⟨rfl, flatN_scal _⟩⟩, ⟨_, rfl, rfl, rfl, .inl ⟨rfl, rfl⟩⟩, trivial⟩) | (have hf0 := hst k _ _ (hmn _ (by omega)) (hlz _ (by omega)); have hfk := hfs k; refine ⟨xs.length - (k + 1), [.pointer (some ⟨7, 0, none⟩), jk, jk, jk, jk, .slice (some ⟨9, 0, none⟩) (k * 2 + 2) INF, jk, jk, jk, jk, jk, .slice (some ⟨8, 0, none⟩) xs.length cx, .int .i64 (xs.length), .int .i64 (((k + 1 : Nat) : Int)), jk, jk, jk, jk, jk, jk, jk, jk, jk, jk, jk, jk, jk, jk, jk, jk, jk, jk, jk, jk, jk, jk, jk, jk, jk, jk, jk, jk, jk, jk, jk, jk, jk, jk, jk, jk, jk, jk, jk, jk, jk, jk, jk, jk, jk, jk, jk, jk, jk, jk, jk], [some ⟨flatP l, false, z0⟩, some ⟨flatT ts, false, z1⟩, some ⟨[.slice (some ⟨0, 0, none⟩) l.length c, .slice (some ⟨1, 0, none⟩) ts.length c2, .slice (some ⟨4, 0, none⟩) (edL ts).length INF, .map (some 3)], false, z2⟩, some (mpX (lfA ts) false 0), some ⟨flatP (edL ts), false, z4⟩, some ⟨flatN ph, false, z5⟩, some ⟨flatN cs, false, z6⟩, some ⟨[.pointer (some ⟨2, 0, none⟩), .slice (some ⟨5, 0, none⟩) ph.length c3, .slice (some ⟨6, 0, none⟩) cs.length c4], false, z7⟩, some ⟨flatN xs, false, z8⟩, some ⟨flatA (AA k) ++ [.int .i64 (sdP ts (pt (edL ts) k)).x, .int .i64 (sdP ts (pt (edL ts) k)).y, .int .i64 k, .int .i64 1, .int .i64 (-nt cs k), .int .i64 (sdP ts (pt (edL ts) k)).y, .int .i64 (sdP ts (pt (edL ts) k)).x, .int .i64 k, .int .i64 (-1), .int .i64 (nt cs k)], true, 5⟩], by omega, ?_, k + 1, rfl, by omega, .inr ⟨by omega, by rw [show (k + 1) * 2 = k * 2 + 2 by omega], by rw [← hf0]⟩⟩; exact Wk.keep 9 [12] (by rw [hE]; exact Nat.le_of_ble_eq_true rfl) rfl rfl (by repeat (first | exact RenT.nil | refine RenT.jk ?_ | refine RenT.val (by first | rfl | with_reducible assumption | (simp only [rn3, rn2, rn1, kσ]; done)) (by first | rfl | assumption | (simp [ok3, ok2, ok1]; done)) ?_)) ⟨⟨_, rfl, rfl, rfl, .inl ⟨rfl, flatP_scal l⟩⟩, ⟨_, rfl, rfl, rfl, .inl ⟨rfl, flatT_scal ts⟩⟩, ⟨_, rfl, rfl, rfl, .inr ⟨rfl, rfl⟩⟩, ⟨_, rfl, rfl, rfl, .inl ⟨rfl, rfl⟩⟩, ⟨_, rfl, rfl, rfl, .inl ⟨rfl, flatP_scal _⟩⟩, ⟨_, rfl, rfl, rfl, .inl ⟨rfl, flatN_scal _⟩⟩, ⟨_, rfl, rfl, rfl, .inl ⟨rfl, flatN_scal _⟩⟩, ⟨_, rfl, rfl, rfl, .inr ⟨rfl, rfl⟩⟩, ⟨_, rfl, rfl, rfl, .inl ⟨rfl, flatN_scal _⟩⟩, ⟨_, rfl, rfl, rfl, .inl ⟨rfl, by rw [List.all_append, hfk]; rfl⟩⟩, trivial⟩) | (obtain rfl := hk0; have hf0 := hst 0 _ _ (hmz _ (by omega)) (hln _ (by omega)); rw [h0] at hf0; refine ⟨xs.length - 1, [.pointer (some ⟨7, 0, none⟩), jk, jk, jk, jk, .slice (some ⟨9, 0, none⟩) (2) INF, jk, jk, jk, jk, jk, .slice (some ⟨8, 0, none⟩) xs.length cx, .int .i64 (xs.length), .int .i64 (((0 + 1 : Nat) : Int)), jk, jk, jk, jk, jk, jk, jk, jk, jk, jk, jk, jk, jk, jk, jk, jk, jk, jk, jk, jk, jk, jk, jk, jk, jk, jk, jk, jk, jk, jk, jk, jk, jk, jk, jk, jk, jk, jk, jk, jk, jk, jk, jk, jk, jk, jk, jk, jk, jk, jk, jk], [some ⟨flatP l, false, z0⟩, some ⟨flatT ts, false, z1⟩, some ⟨[.slice (some ⟨0, 0, none⟩) l.length c, .slice (some ⟨1, 0, none⟩) ts.length c2, .slice (some ⟨4, 0, none⟩) (edL ts).length INF, .map (some 3)], false, z2⟩, some (mpX (lfA ts) false 0), some ⟨flatP (edL ts), false, z4⟩, some ⟨flatN ph, false, z5⟩, some ⟨flatN cs, false, z6⟩, some ⟨[.pointer (some ⟨2, 0, none⟩), .slice (some ⟨5, 0, none⟩) ph.length c3, .slice (some ⟨6, 0, none⟩) cs.length c4], false, z7⟩, some ⟨flatN xs, false, z8⟩, some ⟨[.int .i64 (sdP ts (pt (edL ts) 0)).x, .int .i64 (sdP ts (pt (edL ts) 0)).y, .int .i64 ((0 : Nat) : Int), .int .i64 1, .int .i64 (nt cs 0), .int .i64 (sdP ts (pt (edL ts) 0)).y, .int .i64 (sdP ts (pt (edL ts) 0)).x, .int .i64 ((0 : Nat) : Int), .int .i64 (-1), .int .i64 (-nt cs 0)], true, 5⟩], by omega, ?_, 0 + 1, rfl, by omega, .inr ⟨by omega, rfl, by rw [← hf0]; rfl⟩⟩; exact Wk.keep 9 [11] (by rw [hE]; exact Nat.le_of_ble_eq_true rfl) rfl rfl (by repeat (first | exact RenT.nil | refine RenT.jk ?_ | refine RenT.val (by first | rfl | with_reducible assumption | (simp only [rn3, rn2, rn1, kσ]; done)) (by first | rfl | assumption | (simp [ok3, ok2, ok1]; done)) ?_)) ⟨⟨_, rfl, rfl, rfl, .inl ⟨rfl, flatP_scal l⟩⟩, ⟨_, rfl, rfl, rfl, .inl ⟨rfl, flatT_scal ts⟩⟩, ⟨_, rfl, rfl, rfl, .inr ⟨rfl, rfl⟩⟩, ⟨_, rfl, rfl, rfl, .inl ⟨rfl, rfl⟩⟩, ⟨_, rfl, rfl, rfl, .inl ⟨rfl, flatP_scal _⟩⟩, ⟨_, rfl, rfl, rfl, .inl ⟨rfl, flatN_scal _⟩⟩, ⟨_, rfl, rfl, rfl, .inl ⟨rfl, flatN_scal _⟩⟩, ⟨_, rfl, rfl, rfl, .inr ⟨rfl, rfl⟩⟩, ⟨_, rfl, rfl, rfl, .inl ⟨rfl, flatN_scal _⟩⟩, ⟨_, rfl, rfl, rfl, .inl ⟨rfl, rfl⟩⟩, trivial⟩) | (have hf0 := hst k _ _ (hmz _ (by omega)) (hln _ (by omega)); have hfk := hfs k; refine ⟨xs.length - (k + 1), [.pointer (some ⟨7, 0, none⟩), jk, jk, jk, jk, .slice (some ⟨9, 0, none⟩) (k * 2 + 2) INF, jk, jk, jk, jk, jk, .slice (some ⟨8, 0, none⟩) xs.length cx, .int .i64 (xs.length), .int .i64 (((k + 1 : Nat) : Int)), jk, jk, jk, jk, jk, jk, jk, jk, jk, jk, jk, jk, jk, jk, jk, jk, jk, jk, jk, jk, jk, jk, jk, jk, jk, jk, jk, jk, jk, jk, jk, jk, jk, jk, jk, jk, jk, jk, jk, jk, jk, jk, jk, jk, jk, jk, jk, jk, jk, jk, jk], [some ⟨flatP l, false, z0⟩, some ⟨flatT ts, false, z1⟩, some ⟨[.slice (some ⟨0, 0, none⟩) l.length c, .slice (some ⟨1, 0, none⟩) ts.length c2, .slice (some ⟨4, 0, none⟩) (edL ts).length INF, .map (some 3)], false, z2⟩, some (mpX (lfA ts) false 0), some ⟨flatP (edL ts), false, z4⟩, some ⟨flatN ph, false, z5⟩, some ⟨flatN cs, false, z6⟩, some ⟨[.pointer (some ⟨2, 0, none⟩), .slice (some ⟨5, 0, none⟩) ph.length c3, .slice (some ⟨6, 0, none⟩) cs.length c4], false, z7⟩, some ⟨flatN xs, false, z8⟩, some ⟨flatA (AA k) ++ [.int .i64 (sdP ts (pt (edL ts) k)).x, .int .i64 (sdP ts (pt (edL ts) k)).y, .int .i64 k, .int .i64 1, .int .i64 (nt cs k), .int .i64 (sdP ts (pt (edL ts) k)).y, .int .i64 (sdP ts (pt (edL ts) k)).x, .int .i64 k, .int .i64 (-1), .int .i64 (-nt cs k)], true, 5⟩], by omega, ?_, k + 1, rfl, by omega, .inr ⟨by omega, by rw [show (k + 1) * 2 = k * 2 + 2 by omega], by rw [← hf0]⟩⟩; exact Wk.keep 9 [12] (by rw [hE]; exact Nat.le_of_ble_eq_true rfl) rfl rfl (by repeat (first | exact RenT.nil | refine RenT.jk ?_ | refine RenT.val (by first | rfl | with_reducible assumption | (simp only [rn3, rn2, rn1, kσ]; done)) (by first | rfl | assumption | (simp [ok3, ok2, ok1]; done)) ?_)) ⟨⟨_, rfl, rfl, rfl, .inl ⟨rfl, flatP_scal l⟩⟩, ⟨_, rfl, rfl, rfl, .inl ⟨rfl, flatT_scal ts⟩⟩, ⟨_, rfl, rfl, rfl, .inr ⟨rfl, rfl⟩⟩, ⟨_, rfl, rfl, rfl, .inl ⟨rfl, rfl⟩⟩, ⟨_, rfl, rfl, rfl, .inl ⟨rfl, flatP_scal _⟩⟩, ⟨_, rfl, rfl, rfl, .inl ⟨rfl, flatN_scal _⟩⟩, ⟨_, rfl, rfl, rfl, .inl ⟨rfl, flatN_scal _⟩⟩, ⟨_, rfl, rfl, rfl, .inr ⟨rfl, rfl⟩⟩, ⟨_, rfl, rfl, rfl, .inl ⟨rfl, flatN_scal _⟩⟩, ⟨_, rfl, rfl, rfl, .inl ⟨rfl, by rw [List.all_append, hfk]; rfl⟩⟩, trivial⟩) | (obtain rfl := hk0; have hf0 := hst 0 _ _ (hmz _ (by omega)) (hlz _ (by omega)); rw [h0] at hf0; refine ⟨xs.length - 1, [.pointer (some ⟨7, 0, none⟩), jk, jk, jk, jk, .slice (some ⟨9, 0, none⟩) (2) INF, jk, jk, jk, jk, jk, .slice (some ⟨8, 0, none⟩) xs.length cx, .int .i64 (xs.length), .int .i64 (((0 + 1 : Nat) : Int)), jk, jk, jk, jk, jk, jk, jk, jk, jk, jk, jk, jk, jk, jk, jk, jk, jk, jk, jk, jk, jk, jk, jk, jk, jk, jk, jk, jk, jk, jk, jk, jk, jk, jk, jk, jk, jk, jk, jk, jk, jk, jk, jk, jk, jk, jk, jk, jk, jk, jk, jk], [some ⟨flatP l, false, z0⟩, some ⟨flatT ts, false, z1⟩, some ⟨[.slice (some ⟨0, 0, none⟩) l.length c, .slice (some ⟨1, 0, none⟩) ts.length c2, .slice (some ⟨4, 0, none⟩) (edL ts).length INF, .map (some 3)], false, z2⟩, some (mpX (lfA ts) false 0), some ⟨flatP (edL ts), false, z4⟩, some ⟨flatN ph, false, z5⟩, some ⟨flatN cs, false, z6⟩, some ⟨[.pointer (some ⟨2, 0, none⟩), .slice (some ⟨5, 0, none⟩) ph.length c3, .slice (some ⟨6, 0, none⟩) cs.length c4], false, z7⟩, some ⟨flatN xs, false, z8⟩, some ⟨[.int .i64 (sdP ts (pt (edL ts) 0)).x, .int .i64 (sdP ts (pt (edL ts) 0)).y, .int .i64 ((0 : Nat) : Int), .int .i64 1, .int .i64 (nt cs 0), .int .i64 (sdP ts (pt (edL ts) 0)).y, .int .i64 (sdP ts (pt (edL ts) 0)).x, .int .i64 ((0 : Nat) : Int), .int .i64 (-1), .int .i64 (nt cs 0)], true, 5⟩], by omega, ?_, 0 + 1, rfl, by omega, .inr ⟨by omega, rfl, by rw [← hf0]; rfl⟩⟩; exact Wk.keep 9 [11] (by rw [hE]; exact Nat.le_of_ble_eq_true rfl) rfl rfl (by repeat (first | exact RenT.nil | refine RenT.jk ?_ | refine RenT.val (by first | rfl | with_reducible assumption | (simp only [rn3, rn2, rn1, kσ]; done)) (by first | rfl | assumption | (simp [ok3, ok2, ok1]; done)) ?_)) ⟨⟨_, rfl, rfl, rfl, .inl ⟨rfl, flatP_scal l⟩⟩, ⟨_, rfl, rfl, rfl, .inl ⟨rfl, flatT_scal ts⟩⟩, ⟨_, rfl, rfl, rfl, .inr ⟨rfl, rfl⟩⟩, ⟨_, rfl, rfl, rfl, .inl ⟨rfl, rfl⟩⟩, ⟨_, rfl, rfl, rfl, .inl ⟨rfl, flatP_scal _⟩⟩, ⟨_, rfl, rfl, rfl, .inl ⟨rfl, flatN_scal _⟩⟩, ⟨_, rfl, rfl, rfl, .inl ⟨rfl, flatN_scal _⟩⟩, ⟨_, rfl, rfl, rfl, .inr ⟨rfl, rfl⟩⟩, ⟨_, rfl, rfl, rfl, .inl ⟨rfl, flatN_scal _⟩⟩, ⟨_, rfl, rfl, rfl, .inl ⟨rfl, rfl⟩⟩, trivial⟩) | (have hf0 := hst k _ _ (hmz _ (by omega)) (hlz _ (by omega)); have hfk := hfs k; refine ⟨xs.length - (k + 1), [.pointer (some ⟨7, 0, none⟩), jk, jk, jk, jk, .slice (some ⟨9, 0, none⟩) (k * 2 + 2) INF, jk, jk, jk, jk, jk, .slice (some ⟨8, 0, none⟩) xs.length cx, .int .i64 (xs.length), .int .i64 (((k + 1 : Nat) : Int)), jk, jk, jk, jk, jk, jk, jk, jk, jk, jk, jk, jk, jk, jk, jk, jk, jk, jk, jk, jk, jk, jk, jk, jk, jk, jk, jk, jk, jk, jk, jk, jk, jk, jk, jk, jk, jk, jk, jk, jk, jk, jk, jk, jk, jk, jk, jk, jk, jk, jk, jk], [some ⟨flatP l, false, z0⟩, some ⟨flatT ts, false, z1⟩, some ⟨[.slice (some ⟨0, 0, none⟩) l.length c, .slice (some ⟨1, 0, none⟩) ts.length c2, .slice (some ⟨4, 0, none⟩) (edL ts).length INF, .map (some 3)], false, z2⟩, some (mpX (lfA ts) false 0), some ⟨flatP (edL ts), false, z4⟩, some ⟨flatN ph, false, z5⟩, some ⟨flatN cs, false, z6⟩, some ⟨[.pointer (some ⟨2, 0, none⟩), .slice (some ⟨5, 0, none⟩) ph.length c3, .slice (some ⟨6, 0, none⟩) cs.length c4], false, z7⟩, some ⟨flatN xs, false, z8⟩, some ⟨flatA (AA k) ++ [.int .i64 (sdP ts (pt (edL ts) k)).x, .int .i64 (sdP ts (pt (edL ts) k)).y, .int .i64 k, .int .i64 1, .int .i64 (nt cs k), .int .i64 (sdP ts (pt (edL ts) k)).y, .int .i64 (sdP ts (pt (edL ts) k)).x, .int .i64 k, .int .i64 (-1), .int .i64 (nt cs k)], true, 5⟩], by omega, ?_, k + 1, rfl, by omega, .inr ⟨by omega, by rw [show (k + 1) * 2 = k * 2 + 2 by omega], by rw [← hf0]⟩⟩; exact Wk.keep 9 [12] (by rw [hE]; exact Nat.le_of_ble_eq_true rfl) rfl rfl (by repeat (first | exact RenT.nil | refine RenT.jk ?_ | refine RenT.val (by first | rfl | with_reducible assumption | (simp only [rn3, rn2, rn1, kσ]; done)) (by first | rfl | assumption | (simp [ok3, ok2, ok1]; done)) ?_)) ⟨⟨_, rfl, rfl, rfl, .inl ⟨rfl, flatP_scal l⟩⟩, ⟨_, rfl, rfl, rfl, .inl ⟨rfl, flatT_scal ts⟩⟩, ⟨_, rfl, rfl, rfl, .inr ⟨rfl, rfl⟩⟩, ⟨_, rfl, rfl, rfl, .inl ⟨rfl, rfl⟩⟩, ⟨_, rfl, rfl, rfl, .inl ⟨rfl, flatP_scal _⟩⟩, ⟨_, rfl, rfl, rfl, .inl ⟨rfl, flatN_scal _⟩⟩, ⟨_, rfl, rfl, rfl, .inl ⟨rfl, flatN_scal _⟩⟩, ⟨_, rfl, rfl, rfl, .inr ⟨rfl, rfl⟩⟩, ⟨_, rfl, rfl, rfl, .inl ⟨rfl, flatN_scal _⟩⟩, ⟨_, rfl, rfl, rfl, .inl ⟨rfl, by rw [List.all_append, hfk]; rfl⟩⟩, trivial⟩))
    | ((with_reducible refine FinA.on ?_); (obtain rfl : k = xs.length := (by omega); have hfk := hfs xs.length; refine FinA.keep 10 [] (.inl rfl) (.tmp wl .nil) ?_ rfl (by rw [hE]; exact Nat.le_of_ble_eq_true rfl) rfl rfl ⟨⟨_, rfl, rfl, rfl, .inl ⟨rfl, flatP_scal l⟩⟩, ⟨_, rfl, rfl, rfl, .inl ⟨rfl, flatT_scal ts⟩⟩, ⟨_, rfl, rfl, rfl, .inr ⟨rfl, rfl⟩⟩, ⟨_, rfl, rfl, rfl, .inl ⟨rfl, rfl⟩⟩, ⟨_, rfl, rfl, rfl, .inl ⟨rfl, flatP_scal _⟩⟩, ⟨_, rfl, rfl, rfl, .inl ⟨rfl, flatN_scal _⟩⟩, ⟨_, rfl, rfl, rfl, .inl ⟨rfl, flatN_scal _⟩⟩, ⟨_, rfl, rfl, rfl, .inr ⟨rfl, rfl⟩⟩, ⟨_, rfl, rfl, rfl, .inl ⟨rfl, flatN_scal _⟩⟩, ⟨_, rfl, rfl, rfl, .inl ⟨rfl, hfk⟩⟩, trivial⟩; rfl)))
theorem arcs_q {m : Mem} {bK bN bL bE bP bT bF bC c c2 c3 c4 bX n cx : Nat} {l : List Pn} {ts : List T3} {ph cs : List Int} {X : Blk} (h : OpenT m bK bN bL bE bP bT bF bC c c2 c3 c4 l ts ph cs) (xs : List Int) (hT : TaskR l ts ph cs) (hxl : xs.length = (edL ts).length) (hxb : ∀ k, k < xs.length → -1000000 ≤ nt xs k ∧ nt xs k ≤ 1000000) (x1 : m.at bX = some X) (x2 : X.cells = flatN xs) (hn : xs.length = n) (hd : [bP, bT, bN, bL, bE, bF, bC, bK, bX].Nodup) (x3 : X.obj = Ob.plain := by rfl) :
    ACalls Try.prog 69 [.pointer (some ⟨bK, 0, none⟩), .slice (some ⟨bX, 0, none⟩) n cx] m (.slice (some ⟨m.length, 0, none⟩) (n * 2) INF) (m ++ [some ⟨flatA (acL ts cs xs n), true, 5⟩]) := by
  subst hn
  obtain ⟨⟨⟨A, a1, a2, a3⟩, ⟨B, b1, b2, b3⟩, ⟨N, n1, n2, n3⟩, ⟨own, l1⟩, ⟨D, d1, d2, d3⟩⟩, ⟨F, f1, f2, f3⟩, ⟨C, c1, c2', c3'⟩, ⟨K, k1, k2, k3⟩⟩ := h
  have h := ACalls.viaS (m := m) (args := [.pointer (some ⟨bK, 0, none⟩), .slice (some ⟨bX, 0, none⟩) xs.length cx]) (v := .slice (some ⟨m.length, 0, none⟩) (xs.length * 2) INF) [bP, bT, bN, bL, bE, bF, bC, bK, bX] [] [some ⟨flatA (acL ts cs xs xs.length), true, 5⟩] (arcs_0 l ts ph cs xs hT hxl hxb c c2 c3 c4 cx A.esz B.esz N.esz D.esz F.esz C.esz K.esz X.esz)
    ⟨⟨_, a1, by unfold Blk.shp Blk.shpR; rw [a3]; rfl, (fun h => nomatch h), .inl ⟨a2, flatP_scal _⟩⟩, ⟨_, b1, by unfold Blk.shp Blk.shpR; rw [b3]; rfl, (fun h => nomatch h), .inl ⟨b2, flatT_scal _⟩⟩, ⟨_, n1, by unfold Blk.shp Blk.shpR; rw [n3]; rfl, (fun h => nomatch h), .inr ⟨n2, rfl⟩⟩, ⟨_, l1, rfl, (fun h => nomatch h), .inl ⟨rfl, rfl⟩⟩, ⟨_, d1, by unfold Blk.shp Blk.shpR; rw [d3]; rfl, (fun h => nomatch h), .inl ⟨d2, flatP_scal _⟩⟩, ⟨_, f1, by unfold Blk.shp Blk.shpR; rw [f3]; rfl, (fun h => nomatch h), .inl ⟨f2, flatN_scal _⟩⟩, ⟨_, c1, by unfold Blk.shp Blk.shpR; rw [c3']; rfl, (fun h => nomatch h), .inl ⟨c2', flatN_scal _⟩⟩, ⟨_, k1, by unfold Blk.shp Blk.shpR; rw [k3]; rfl, (fun h => nomatch h), .inr ⟨k2, rfl⟩⟩, ⟨_, x1, by unfold Blk.shp Blk.shpR; rw [x3]; rfl, (fun h => nomatch h), .inl ⟨x2, flatN_scal _⟩⟩, trivial⟩ hd
    ⟨⟨_, rfl, rfl⟩, ⟨_, rfl, rfl⟩, ⟨_, rfl, rfl⟩, ⟨_, rfl, rfl⟩, ⟨_, rfl, rfl⟩, ⟨_, rfl, rfl⟩, ⟨_, rfl, rfl⟩, ⟨_, rfl, rfl⟩, ⟨_, rfl, rfl⟩, ⟨rfl, rfl, rfl, .inl ⟨rfl, flatA_scal _⟩⟩, trivial⟩ rfl rfl rfl rfl
  exact h
end Go.Proofs.Ytmohcmghbfhdlaa
end
end
/- The small memory: maps as lists of pairs, with a put and a get. -/
section
set_option linter.unusedSimpArgs false
set_option linter.unusedVariables false
namespace Go
open Go.RowKit
namespace Ab
section
variable {κ α : Type} [DecidableEq κ]
def getL : List (κ × α) → κ → Option α
  | [], _ => none
  | p :: l, k => if p.1 = k then some p.2 else getL l k
def putL : List (κ × α) → κ → α → List (κ × α)
  | [], k, v => [(k, v)]
  | p :: l, k, v => if p.1 = k then (k, v) :: l else p :: putL l k v
theorem getL_some : ∀ {l : List (κ × α)} {k : κ} {v : α}, getL l k = some v → (k, v) ∈ l
  | [], _, _, h => by cases h
  | p :: l, k, v, h => by
    unfold getL at h
    by_cases h1 : p.1 = k
    · rw [if_pos h1] at h
      cases h
      subst h1
      exact List.mem_cons_self
    · rw [if_neg h1] at h
      exact List.mem_cons_of_mem _ (getL_some h)
theorem getL_none : ∀ {l : List (κ × α)} {k : κ}, getL l k = none → k ∉ l.map (·.1)
  | [], _, _ => by simp
  | p :: l, k, h => by
    unfold getL at h
    by_cases h1 : p.1 = k
    · rw [if_pos h1] at h; cases h
    · rw [if_neg h1] at h
      rw [List.map_cons, List.mem_cons]
      rintro (h2 | h2)
      · exact h1 h2.symm
      · exact getL_none h h2
theorem putL_new : ∀ {l : List (κ × α)} {k : κ} {v : α}, k ∉ l.map (·.1) → putL l k v = l ++ [(k, v)]
  | [], _, _, _ => rfl
  | p :: l, k, v, h => by
    rw [List.map_cons, List.mem_cons] at h
    unfold putL
    rw [if_neg (fun h1 => h (.inl h1.symm)), putL_new (fun h1 => h (.inr h1))]
    rfl
theorem putL_old : ∀ {l : List (κ × α)} {k : κ} {v v0 : α} {j : Nat}, (l.map (·.1)).Nodup → l[j]? = some (k, v0) → putL l k v = l.set j (k, v)
  | [], _, _, _, j, _, h => by simp at h
  | p :: l, k, v, v0, 0, hn, h => by
    simp only [List.getElem?_cons_zero, Option.some.injEq] at h
    subst h
    unfold putL
    rw [if_pos rfl]
    rfl
  | p :: l, k, v, v0, j + 1, hn, h => by
    rw [List.map_cons, List.nodup_cons] at hn
    simp only [List.getElem?_cons_succ] at h
    unfold putL
    rw [if_neg (fun h1 : p.1 = k => hn.1 (h1 ▸ List.mem_map.2 ⟨_, List.mem_of_getElem? h, rfl⟩)), putL_old hn.2 h]
    rfl
theorem putL_keys : ∀ (l : List (κ × α)) (k : κ) (v : α), (putL l k v).map (·.1) = if k ∈ l.map (·.1) then l.map (·.1) else l.map (·.1) ++ [k]
  | [], k, v => by simp [putL]
  | p :: l, k, v => by
    have ih := putL_keys l k v
    unfold putL
    by_cases h1 : p.1 = k
    · rw [if_pos h1, if_pos (by rw [List.map_cons, h1]; exact List.mem_cons_self)]
      rw [List.map_cons, List.map_cons, h1]
    · rw [if_neg h1, List.map_cons, ih, List.map_cons]
      by_cases h2 : k ∈ l.map (·.1)
      · rw [if_pos h2, if_pos (List.mem_cons_of_mem _ h2)]
      · rw [if_neg h2, if_neg (fun h3 => by rcases List.mem_cons.1 h3 with h3 | h3; (exact h1 h3.symm); exact h2 h3)]
        rfl
theorem putL_nodup {l : List (κ × α)} {k : κ} {v : α} (h : (l.map (·.1)).Nodup) : ((putL l k v).map (·.1)).Nodup := by
  rw [putL_keys]
  split
  · exact h
  · rename_i hk
    rw [List.nodup_append]
    refine ⟨h, by simp, fun a ha b hb e => ?_⟩
    rw [List.mem_singleton] at hb
    subst hb
    exact hk (e ▸ ha)
theorem getL_put : ∀ (l : List (κ × α)) (k k' : κ) (v : α), getL (putL l k v) k' = if k' = k then some v else getL l k'
  | [], k, k', v => by
    unfold putL getL
    by_cases h : k' = k
    · rw [if_pos h, if_pos h.symm]
    · rw [if_neg h, if_neg (fun h2 => h h2.symm)]
      rfl
  | p :: l, k, k', v => by
    have ih := getL_put l k k' v
    unfold putL
    by_cases h1 : p.1 = k
    · rw [if_pos h1]
      unfold getL
      by_cases h : k' = k
      · rw [if_pos h, if_pos h.symm]
      · rw [if_neg h, if_neg (fun h2 => h h2.symm), if_neg (fun h2 => h (h2.symm.trans h1))]
    · rw [if_neg h1]
      conv => lhs; unfold getL
      conv => rhs; rhs; unfold getL
      rw [ih]
      by_cases h2 : p.1 = k'
      · rw [if_pos h2, if_pos h2, if_neg (fun h => h1 (h2.trans h))]
      · rw [if_neg h2, if_neg h2]
end
section
variable {κ α : Type} [DecidableEq κ] {enc : κ → Value} {val : α → Value} {ok : κ → Prop} {P : Program} {t : T} {m : Mem} {dst : Option Tmp} {ty rt kt et : TypeId} {pos : String} {after : Array Edge} {guard : Option (Nat × Bool)} {x y z : Operand} {b : Nat} {l : List (κ × α)} {k : κ} {v : α}
abbrev mpV {κ α : Type} (enc : κ → Value) (val : α → Value) (l : List (κ × α)) : Blk := mpL enc (l.map fun p => (p.1, val p.2))
omit [DecidableEq κ] in
theorem fst_val (l : List (κ × α)) (val : α → Value) : (l.map fun p => (p.1, val p.2)).map (·.1) = l.map (·.1) := by rw [List.map_map]; rfl
theorem OQ.mgetS (K : KEnc enc P kt ok) (hk0 : ok k) (hl0 : ∀ p ∈ l, ok p.1) (hx : t.ev x = .map (some b)) (hy : t.ev y = enc k) (hu : P.underlying ty = some (.map kt et)) (hb : m.at b = some (mpV enc val l)) (hn : (l.map (·.1)).Nodup) (hm : getL l k = some v) (hvf : flat1 (val v) = true) :
    OQ P ⟨dst, .lookup ty x y true, rt, pos, after, guard⟩ t m (.tuple #[val v, .bool true]) ∧ OQ P ⟨dst, .lookup ty x y false, rt, pos, after, guard⟩ t m (val v) :=
  OQ.mlookS (l := l.map fun p => (p.1, val p.2)) K hk0 (fun p hp => by obtain ⟨q, hq, rfl⟩ := List.mem_map.1 hp; exact hl0 q hq) hx hy hu hb (by rw [fst_val]; exact hn) (List.mem_map.2 ⟨(k, v), getL_some hm, rfl⟩) hvf
theorem OQ.mgetN {w0 : Value} (K : KEnc enc P kt ok) (hk0 : ok k) (hl0 : ∀ p ∈ l, ok p.1) (hx : t.ev x = .map (some b)) (hy : t.ev y = enc k) (hu : P.underlying ty = some (.map kt et)) (hb : m.at b = some (mpV enc val l)) (hm : getL l k = none) (hz : ∀ w, (zeroValue et).run P w = .ok w0 w) (hvf : flat1 w0 = true) :
    OQ P ⟨dst, .lookup ty x y true, rt, pos, after, guard⟩ t m (.tuple #[w0, .bool false]) ∧ OQ P ⟨dst, .lookup ty x y false, rt, pos, after, guard⟩ t m w0 :=
  OQ.mlookN (l := l.map fun p => (p.1, val p.2)) K hk0 (fun p hp => by obtain ⟨q, hq, rfl⟩ := List.mem_map.1 hp; exact hl0 q hq) hx hy hu hb (by rw [fst_val]; exact getL_none hm) hz hvf
theorem OW.mput (K : KEnc enc P kt ok) (hk0 : ok k) (hl0 : ∀ p ∈ l, ok p.1) (hx : t.ev x = .map (some b)) (hy : t.ev y = enc k) (hz : t.ev z = val v) (hu : P.underlying ty = some (.map kt et)) (hb : m.at b = some (mpV enc val l)) (hn : (l.map (·.1)).Nodup) (hvf : flat (val v) = true) :
    OW P ⟨dst, .mapUpdate ty x y z, rt, pos, after, guard⟩ t m undef (m.set b (some (mpV enc val (putL l k v)))) := by
  have hl1 : ∀ p ∈ l.map (fun p => (p.1, val p.2)), ok p.1 := fun p hp => by obtain ⟨q, hq, rfl⟩ := List.mem_map.1 hp; exact hl0 q hq
  by_cases hk : k ∈ l.map (·.1)
  · obtain ⟨p, hp, rfl⟩ := List.mem_map.1 hk
    obtain ⟨j, hj⟩ := List.mem_iff_getElem?.1 hp
    have h := OW.mupdS (dst := dst) (rt := rt) (pos := pos) (after := after) (guard := guard) j (v0 := val p.2) K hk0 hl1 hx hy hz hu hb (by rw [fst_val]; exact hn) (by rw [List.getElem?_map, hj]; rfl) hvf
    rw [putL_old (v0 := p.2) hn hj]
    unfold mpV
    rw [List.map_set]
    exact h
  · have h := OW.mupdN (dst := dst) (rt := rt) (pos := pos) (after := after) (guard := guard) K hk0 hl1 hx hy hz hu hb (by rw [fst_val]; exact hk) hvf
    rw [putL_new hk]
    unfold mpV
    rw [List.map_append]
    exact h
end
end Ab
end Go
end
/- Chapter 6: shortest ways (the program's). -/
section
set_option linter.unusedSimpArgs false
set_option linter.unusedVariables false
section
namespace Go.Me
open Go.Ab Go.Proofs.Ytmohcmghbfhdlaa
structure Wy where
  far : Int
  st : Ac
  beg : Bool
abbrev wyV (w : Wy) : Value := .agg #[.int .i64 w.far, .int .i64 w.st.fr, .int .i64 w.st.to, .int .i64 w.st.ed, .int .i64 w.st.d, .int .i64 w.st.co, .bool w.beg]
def wyF (fr : List Int) : Nat → List (Int × Wy)
  | 0 => []
  | k + 1 => putL (wyF fr k) (nt fr k) ⟨0, ⟨0, 0, 0, 0, 0⟩, true⟩
def wyS (a : Ac) (s : List (Int × Wy) × Bool) : List (Int × Wy) × Bool :=
  match getL s.1 a.fr with
  | none => s
  | some w =>
    match getL s.1 a.to with
    | none => (putL s.1 a.to ⟨w.far + a.co, a, false⟩, true)
    | some o => if w.far + a.co < o.far then (putL s.1 a.to ⟨w.far + a.co, a, false⟩, true) else s
def wyK (rs : List Ac) (w : List (Int × Wy)) : Nat → List (Int × Wy) × Bool
  | 0 => (w, false)
  | k + 1 => wyS (ac rs k) (wyK rs w k)
def wyN (rs : List Ac) (w : List (Int × Wy)) : Nat → List (Int × Wy)
  | 0 => w
  | r + 1 => (wyK rs (wyN rs w r) rs.length).1
def wyC (rs : List Ac) (w : List (Int × Wy)) : Nat → Bool
  | 0 => true
  | r + 1 => (wyK rs (wyN rs w r) rs.length).2
theorem wyF_nd (fr : List Int) : ∀ k, ((wyF fr k).map (·.1)).Nodup
  | 0 => List.nodup_nil
  | k + 1 => putL_nodup (wyF_nd fr k)
theorem wyS_nd {a : Ac} {s : List (Int × Wy) × Bool} (h : (s.1.map (·.1)).Nodup) : ((wyS a s).1.map (·.1)).Nodup := by
  unfold wyS
  split
  · exact h
  · split
    · exact putL_nodup h
    · split
      · exact putL_nodup h
      · exact h
theorem wyK_nd {rs : List Ac} {w : List (Int × Wy)} (h : (w.map (·.1)).Nodup) : ∀ k, ((wyK rs w k).1.map (·.1)).Nodup
  | 0 => h
  | k + 1 => wyS_nd (wyK_nd h k)
theorem wyN_nd {rs : List Ac} {w : List (Int × Wy)} (h : (w.map (·.1)).Nodup) : ∀ r, ((wyN rs w r).map (·.1)).Nodup
  | 0 => h
  | r + 1 => wyK_nd (wyN_nd h r) rs.length
structure WyR (rs : List Ac) (w : List (Int × Wy)) (R : Nat) : Prop where
  stop : wyC rs w R = false
  go : ∀ r, r < R → wyC rs w r = true
  far : ∀ r k, r < R → k ≤ rs.length → ∀ p ∈ (wyK rs (wyN rs w r) k).1, -1000000000000 ≤ p.2.far ∧ p.2.far ≤ 1000000000000
end Go.Me
namespace Go.Proofs.Ytmohcmghbfhdlaa
open Go Go.RowKit Go.Ab Go.Me
set_option maxRecDepth 100000
set_option maxHeartbeats 4000000
attribute [local irreducible] OQ OW AL AW AD AF SW
theorem ways_0 (fr : List Int) (rs : List Ac) (R : Nat) (hW : WyR rs (wyF fr fr.length) R) (hco : ∀ k, k < rs.length → -1000000 ≤ (ac rs k).co ∧ (ac rs k).co ≤ 1000000) (hfl : fr.length ≤ 1000000) (hal : rs.length ≤ 1000000) (c0 c1 z0 z1 : Nat) :
    ACalls Try.prog 68 [.slice (some ⟨0, 0, none⟩) fr.length c0, .slice (some ⟨1, 0, none⟩) rs.length c1] [some ⟨flatN fr, false, z0⟩, some ⟨flatA rs, false, z1⟩]
      (.map (some 2)) [some ⟨flatN fr, false, z0⟩, some ⟨flatA rs, false, z1⟩, some (mpV encI wyV (wyN rs (wyF fr fr.length) R))] := by
  obtain ⟨hstop, hgo, hfar⟩ := hW
  have hgF : ∀ k, k < fr.length → (flatN fr)[k]? = some (.int .i64 (nt fr k)) := fun k hk => flatN_get _ k hk
  have hgA := fun (m : Mem) (blk : Blk) (hb : m.at 1 = some blk) (hc : blk.cells = flatA rs) (k : Nat) (hk : k < rs.length) => flatA_ld hb hc k hk
  have hF0 : wyF fr 0 = [] := rfl
  have hFs : ∀ k, wyF fr (k + 1) = putL (wyF fr k) (nt fr k) ⟨0, ⟨0, 0, 0, 0, 0⟩, true⟩ := fun k => rfl
  have hFn := wyF_nd fr
  have hnd : ∀ r k, ((wyK rs (wyN rs (wyF fr fr.length) r) k).1.map (·.1)).Nodup := fun r k => wyK_nd (wyN_nd (wyF_nd fr _) r) k
  have hW0 : wyN rs (wyF fr fr.length) 0 = wyF fr fr.length := rfl
  have hC0 : wyC rs (wyF fr fr.length) 0 = true := rfl
  have hWs : ∀ r, wyN rs (wyF fr fr.length) (r + 1) = (wyK rs (wyN rs (wyF fr fr.length) r) rs.length).1 := fun r => rfl
  have hCs : ∀ r, wyC rs (wyF fr fr.length) (r + 1) = (wyK rs (wyN rs (wyF fr fr.length) r) rs.length).2 := fun r => rfl
  have hS1 : ∀ r, (wyK rs (wyN rs (wyF fr fr.length) r) 0).1 = wyN rs (wyF fr fr.length) r := fun r => rfl
  have hS2 : ∀ r, (wyK rs (wyN rs (wyF fr fr.length) r) 0).2 = false := fun r => rfl
  have hSs : ∀ r k, wyK rs (wyN rs (wyF fr fr.length) r) (k + 1) = wyS (ac rs k) (wyK rs (wyN rs (wyF fr fr.length) r) k) := fun r k => rfl
  generalize hSd : (fun r k => wyK rs (wyN rs (wyF fr fr.length) r) k) = S
  have hSe : ∀ r k, wyK rs (wyN rs (wyF fr fr.length) r) k = S r k := fun r k => by rw [← hSd]
  simp only [hSe] at hfar hnd hWs hCs hS1 hS2 hSs
  clear hSd hSe
  generalize wyN rs (wyF fr fr.length) = W at *
  generalize wyC rs (wyF fr fr.length) = C at *
  have hN : ∀ r k, getL (S r k).1 (ac rs k).fr = none → S r (k + 1) = S r k := fun r k h => by rw [hSs]; unfold wyS; rw [h]
  have hU : ∀ r k w, getL (S r k).1 (ac rs k).fr = some w → getL (S r k).1 (ac rs k).to = none → (S r (k + 1)).1 = putL (S r k).1 (ac rs k).to ⟨w.far + (ac rs k).co, ac rs k, false⟩ ∧ (S r (k + 1)).2 = true := fun r k w h h2 => by rw [hSs]; unfold wyS; rw [h]; simp only; rw [h2]; exact ⟨rfl, rfl⟩
  have hL : ∀ r k w o, getL (S r k).1 (ac rs k).fr = some w → getL (S r k).1 (ac rs k).to = some o → w.far + (ac rs k).co < o.far → (S r (k + 1)).1 = putL (S r k).1 (ac rs k).to ⟨w.far + (ac rs k).co, ac rs k, false⟩ ∧ (S r (k + 1)).2 = true := fun r k w o h h2 h3 => by rw [hSs]; unfold wyS; rw [h]; simp only; rw [h2]; simp only; rw [if_pos h3]; exact ⟨rfl, rfl⟩
  have hK : ∀ r k w o, getL (S r k).1 (ac rs k).fr = some w → getL (S r k).1 (ac rs k).to = some o → ¬ w.far + (ac rs k).co < o.far → S r (k + 1) = S r k := fun r k w o h h2 h3 => by rw [hSs]; unfold wyS; rw [h]; simp only; rw [h2]; simp only; rw [if_neg h3]
  clear hSs
  have hfw : ∀ r k w x, r < R → k ≤ rs.length → getL (S r k).1 x = some w → -1000000000000 ≤ w.far ∧ w.far ≤ 1000000000000 := fun r k w x hr hk h => hfar r k hr hk _ (getL_some h)
  clear hfar
  refine ACalls.enter (t := [.slice (some ⟨0, 0, none⟩) fr.length c0, .slice (some ⟨1, 0, none⟩) rs.length c1, undef, undef, undef, undef, undef, undef, undef, undef, undef, undef, undef, undef, undef, undef, undef, undef, undef, undef, undef, undef, undef, undef, undef, undef, undef, undef, undef, undef, undef, undef, undef, undef, undef, undef, undef, undef, undef, undef, undef, undef, undef, undef, undef, undef, undef, undef, undef, undef, undef, undef, undef, undef, undef, undef, undef, undef, undef, undef, undef, undef, undef, undef, undef, undef, undef, undef, undef, undef, undef, undef, undef, undef]) Try.func68 rfl rfl fun E hE => ?_
  repeat' (first
    | with_reducible (first | refine Then.n ?_ | refine Then.r ?_ | refine Then.x ?_ | refine InB.n ?_ | refine InB.r ?_ | refine InB.hit ?_ | refine InB.miss (by decide) ?_)
    | ((with_reducible refine AL.on ?_); first
      | (refine AL.gd rfl ?_; first | (refine AL.gskip rfl rfl ?_; (refine AL.nm ?_)) | (refine AL.gs1 rfl rfl (fun hc => ?_) (fun hc => ?_) <;> (try replace hc := nc hc) <;> first | (exfalso; first | contradiction | (first | omega | (simp at hc; done)); done) | (refine AL.nm ?_)) | (refine AL.gs0 rfl rfl (fun hc => ?_) (fun hc => ?_) <;> (try replace hc := nc hc) <;> first | (exfalso; first | contradiction | (first | omega | (simp at hc; done)); done) | (refine AL.nm ?_)))
      | ((first | ((with_reducible refine AL.k_move ?_); first | (refine AL.q rfl (OQ.move wl) ?_)) | ((with_reducible refine AL.k_load ?_); first | (refine AL.q rfl (OQ.load1 (ty := 3) rfl kr (by first | (first | exact hgF k (by omega) | exact hgA _ _ rfl rfl k (by omega)) | (conv => lhs; whnf))) ?_) | refine AL.q rfl (OQ.loadN (ty := 112) (n := 5) rfl kr kr (by first | (first | exact hgF k (by omega) | exact hgA _ _ rfl rfl k (by omega)) | rfl)) ?_) | ((with_reducible refine AL.k_assign ?_); first | (refine AL.q rfl (OQ.assign wl) ?_)) | ((with_reducible refine AL.k_binOp ?_); first | refine AL.q rfl (OQ.lss rfl rfl) ?_ | refine AL.q rfl (OQ.addi rfl rfl (by omega)) ?_ | refine AL.q rfl (OQ.add rfl rfl) ?_) | ((with_reducible refine AL.k_extract ?_); first | refine AL.q rfl (OQ.extract rfl rfl) ?_) | ((with_reducible refine AL.k_call ?_); first | refine AL.q rfl (OQ.lenS (xt := 29) (r := (none, 1, false)) rfl kr) ?_ | refine AL.q rfl (OQ.lenS (xt := 109) (r := (none, 5, true)) rfl kr) ?_) | ((with_reducible refine AL.k_pick ?_); first | (refine AL.q rfl (OQ.pickT rfl (by with_reducible rfl) wl) ?_) | (refine AL.q rfl (OQ.pickF rfl (by with_reducible rfl) wl) ?_)) | ((with_reducible refine AL.k_unOp ?_); first | refine AL.q rfl (OQ.not rfl) ?_) | refine AL.q rfl (by first | exact (OQ.mgetS (enc := encI) (val := wyV) KI trivial (fun _ _ => trivial) rfl rfl Try.underlying107 rfl (hnd r k) hg1 rfl).1 | exact (OQ.mgetS (enc := encI) (val := wyV) KI trivial (fun _ _ => trivial) rfl rfl Try.underlying107 rfl (hnd r k) hg2 rfl).1 | exact (OQ.mgetN (enc := encI) (val := wyV) (w0 := wyV ⟨0, ⟨0, 0, 0, 0, 0⟩, false⟩) KI trivial (fun _ _ => trivial) rfl rfl Try.underlying107 rfl hg1 (fun w => by kernel_rfl) rfl).1 | exact (OQ.mgetN (enc := encI) (val := wyV) (w0 := wyV ⟨0, ⟨0, 0, 0, 0, 0⟩, false⟩) KI trivial (fun _ _ => trivial) rfl rfl Try.underlying107 rfl hg2 (fun w => by kernel_rfl) rfl).1) ?_); (refine AL.nm ?_))
      | ((first | ((with_reducible refine AL.k_fieldAddr ?_); first | refine AL.q rfl (OQ.fieldA (ty := 112) (i := 0) (n := 1) (off := 0) (g := false) rfl kr (by decide)) ?_ | refine AL.q rfl (OQ.fieldA (ty := 112) (i := 1) (n := 1) (off := 1) (g := false) rfl kr (by decide)) ?_ | refine AL.q rfl (OQ.fieldA (ty := 114) (i := 0) (n := 1) (off := 0) (g := false) rfl kr (by decide)) ?_ | refine AL.q rfl (OQ.fieldA (ty := 112) (i := 4) (n := 1) (off := 4) (g := false) rfl kr (by decide)) ?_) | ((with_reducible refine AL.k_indexAddr ?_); first | refine AL.q rfl (OQ.idxAddr (ty := 29) (z := 1) (g := false) rfl rfl kr (by first | omega | decide) (by first | omega | decide)) ?_ | refine AL.q rfl (OQ.idxAddr (ty := 109) (z := 5) (g := true) rfl rfl kr (by first | omega | decide) (by first | omega | decide)) ?_) | ((with_reducible refine AL.k_build ?_); first | refine AL.q rfl (OQ.buildS (ty := 114) (zs := [.int .i64 0, .int .i64 0, .int .i64 0, .int .i64 0, .int .i64 0, .int .i64 0, .bool false]) (pls := [(0, 1), (1, 5), (6, 1)]) kr rfl kr rfl rfl rfl) ?_)); (refine AL.nm ?_))
      | ((first | ((with_reducible refine AL.k_alloc ?_); first | refine AL.w rfl (OW.alloc (ty := 112) (z := [.int .i64 0, .int .i64 0, .int .i64 0, .int .i64 0, .int .i64 0]) kr rfl) ?_ | refine AL.w rfl (OW.alloc (ty := 114) (z := [.int .i64 0, .int .i64 0, .int .i64 0, .int .i64 0, .int .i64 0, .int .i64 0, .bool false]) kr rfl) ?_) | ((with_reducible refine AL.k_store ?_); first | (refine AL.w rfl (OW.store (ty := 112) (n := 5) rfl wl rfl rfl kr rfl rfl (by decide) rfl (Nat.le_of_ble_eq_true rfl) (by intro r h; cases h)) ?_) | (refine AL.w rfl (OW.store (ty := 114) (n := 7) rfl wl rfl rfl kr rfl rfl (by decide) rfl (Nat.le_of_ble_eq_true rfl) (by intro r h; cases h)) ?_)) | refine AL.w rfl OW.makeMap ?_ | refine AL.w rfl (by first | exact OW.mput (enc := encI) (val := wyV) (l := wyF fr k) (k := nt fr k) (v := ⟨0, ⟨0, 0, 0, 0, 0⟩, true⟩) KI trivial (fun _ _ => trivial) rfl rfl rfl Try.underlying107 rfl (hFn k) rfl | exact OW.mput (enc := encI) (val := wyV) (l := (S r k).1) (k := (ac rs k).to) (v := ⟨w.far + (ac rs k).co, ac rs k, false⟩) KI trivial (fun _ _ => trivial) rfl rfl rfl Try.underlying107 rfl (hnd r k) rfl) ?_); (refine AL.nm ?_); (refine AL.nM ?_))
      | (refine AL.bs rfl (fun hc => ?_) (fun hc => ?_) <;> (fail_if_success (with_reducible exact lit_no hc)) <;> (try replace hc := nc hc) <;> first | (exfalso; first | contradiction | (first | omega | (simp at hc; done)); done) | (refine AL.nm ?_))
      | refine AL.nil ?_)
    | ((with_reducible refine AW.on ?_); first
      | refine AW.seq ?_
      | refine AW.skip ?_
      | refine AW.exit ?_
      | refine AW.ret ?_
      | ((refine AW.block (id := 0) ?_); (refine AW.fk [1, 5, 16, 17, 18] ?_); (refine AW.loop (fun n' t' m => ∃ k : Nat, n' = fr.length - k ∧ k ≤ fr.length ∧ t' = [jk, .slice (some ⟨1, 0, none⟩) rs.length c1, jk, jk, jk, .map (some 2), jk, jk, jk, jk, jk, jk, jk, jk, jk, jk, .slice (some ⟨0, 0, none⟩) fr.length c0, .int .i64 (fr.length), .int .i64 (k), jk, jk, jk, jk, jk, jk, jk, jk, jk, jk, jk, jk, jk, jk, jk, jk, jk, jk, jk, jk, jk, jk, jk, jk, jk, jk, jk, jk, jk, jk, jk, jk, jk, jk, jk, jk, jk, jk, jk, jk, jk, jk, jk, jk, jk, jk, jk, jk, jk, jk, jk, jk, jk, jk, jk] ∧ m = [some ⟨flatN fr, false, z0⟩, some ⟨flatA rs, false, z1⟩, some (mpV encI wyV (wyF fr k))]) (fr.length) (by exact ⟨0, rfl, Nat.zero_le _, rfl, rfl⟩) ?_); (rintro n' t' m ⟨k, rfl, hk, rfl, rfl⟩))
      | ((refine AW.block (id := 2) ?_); (refine AW.fk [1, 5, 8] ?_); (refine AW.loop (fun n' t' m => ∃ r : Nat, n' = R - r ∧ r ≤ R ∧ t' = [jk, .slice (some ⟨1, 0, none⟩) rs.length c1, jk, jk, jk, .map (some 2), jk, jk, .bool (C r), jk, jk, jk, jk, jk, jk, jk, jk, jk, jk, jk, jk, jk, jk, jk, jk, jk, jk, jk, jk, jk, jk, jk, jk, jk, jk, jk, jk, jk, jk, jk, jk, jk, jk, jk, jk, jk, jk, jk, jk, jk, jk, jk, jk, jk, jk, jk, jk, jk, jk, jk, jk, jk, jk, jk, jk, jk, jk, jk, jk, jk, jk, jk, jk, jk] ∧ m = [some ⟨flatN fr, false, z0⟩, some ⟨flatA rs, false, z1⟩, some (mpV encI wyV (W r))]) (R) (by exact ⟨0, rfl, Nat.zero_le _, by rw [hC0], by (obtain rfl : k = fr.length := (by omega)); rw [hW0]⟩) ?_); (rintro n' t' m ⟨r, rfl, hr, rfl, rfl⟩))
      | ((refine AW.block (id := 4) ?_); (refine AW.fk [1, 5, 8, 27, 28, 29] ?_); (refine AW.loop (fun n' t' m => ∃ k : Nat, n' = rs.length - k ∧ k ≤ rs.length ∧ t' = [jk, .slice (some ⟨1, 0, none⟩) rs.length c1, jk, jk, jk, .map (some 2), jk, jk, .bool (S r k).2, jk, jk, jk, jk, jk, jk, jk, jk, jk, jk, jk, jk, jk, jk, jk, jk, jk, jk, .slice (some ⟨1, 0, none⟩) rs.length c1, .int .i64 (rs.length), .int .i64 (k), jk, jk, jk, jk, jk, jk, jk, jk, jk, jk, jk, jk, jk, jk, jk, jk, jk, jk, jk, jk, jk, jk, jk, jk, jk, jk, jk, jk, jk, jk, jk, jk, jk, jk, jk, jk, jk, jk, jk, jk, jk, jk, jk, jk] ∧ m = [some ⟨flatN fr, false, z0⟩, some ⟨flatA rs, false, z1⟩, some (mpV encI wyV ((S r k).1))]) (rs.length) (by exact ⟨0, rfl, Nat.zero_le _, by rw [hS2]; try rfl, by rw [hS1]; try rfl⟩) ?_); (rintro n' t' m ⟨k, rfl, hk, rfl, rfl⟩); (have hrR : r < R := (by rcases Nat.lt_or_eq_of_le hr with h | h; (exact h); (exfalso; subst h; simp_all))))
      | refine AW.block ?_
      | (refine AW.region (id := 13) ?_; ((rcases hg1 : getL (S r k).1 (ac rs k).fr with _ | w)))
      | (refine AW.region (id := 14) ?_; ((rcases hg2 : getL (S r k).1 (ac rs k).to with _ | o)))
      | (refine AW.region (id := 15) ?_; ((have hq1 := hco k (by omega); have hq2 := (fun w x => hfw r k w x hrR (by omega)); (try (have hq3 := hq2 _ _ hg1)); (try (have hq4 := hq2 _ _ hg2)); clear hq2)))
      | refine AW.region ?_
      | (refine AW.conds rfl (fun hc => ?_) (fun hc => ?_) <;> (try replace hc := nc hc) <;> first | (exfalso; first | contradiction | (first | omega | (simp at hc; done)); done) | skip))
    | ((with_reducible refine ex_on ?_); first | ((refine ⟨fr.length - (k + 1), [jk, .slice (some ⟨1, 0, none⟩) rs.length c1, jk, jk, jk, .map (some 2), jk, jk, jk, jk, jk, jk, jk, jk, jk, jk, .slice (some ⟨0, 0, none⟩) fr.length c0, .int .i64 (fr.length), .int .i64 (((k + 1 : Nat) : Int)), jk, jk, jk, jk, jk, jk, jk, jk, jk, jk, jk, jk, jk, jk, jk, jk, jk, jk, jk, jk, jk, jk, jk, jk, jk, jk, jk, jk, jk, jk, jk, jk, jk, jk, jk, jk, jk, jk, jk, jk, jk, jk, jk, jk, jk, jk, jk, jk, jk, jk, jk, jk, jk, jk, jk], [some ⟨flatN fr, false, z0⟩, some ⟨flatA rs, false, z1⟩, some (mpV encI wyV (wyF fr (k + 1)))], by omega, ?_, k + 1, rfl, by omega, rfl, rfl⟩; rw [hFs k]; exact Wk.keep 3 [] (by rw [hE]; exact Nat.le_of_ble_eq_true rfl) rfl rfl (by repeat (first | exact RenT.nil | refine RenT.jk ?_ | refine RenT.val (by first | rfl | with_reducible assumption | (simp only [rn3, rn2, rn1, kσ]; done)) (by first | rfl | assumption | (simp [ok3, ok2, ok1]; done)) ?_)) ⟨⟨_, rfl, rfl, rfl, .inl ⟨rfl, flatN_scal _⟩⟩, ⟨_, rfl, rfl, rfl, .inl ⟨rfl, flatA_scal _⟩⟩, ⟨_, rfl, rfl, rfl, .inl ⟨rfl, rfl⟩⟩, trivial⟩)) | ((obtain rfl : k = rs.length := (by omega); refine ⟨R - (r + 1), _, _, by omega, ?_, r + 1, rfl, by omega, by rw [hCs r], by rw [hWs r]⟩; exact Wk.fk [1, 5, 8] rfl)) | ((refine ⟨rs.length - (k + 1), [jk, .slice (some ⟨1, 0, none⟩) rs.length c1, jk, jk, jk, .map (some 2), jk, jk, .bool (S r (k + 1)).2, jk, jk, jk, jk, jk, jk, jk, jk, jk, jk, jk, jk, jk, jk, jk, jk, jk, jk, .slice (some ⟨1, 0, none⟩) rs.length c1, .int .i64 (rs.length), .int .i64 (((k + 1 : Nat) : Int)), jk, jk, jk, jk, jk, jk, jk, jk, jk, jk, jk, jk, jk, jk, jk, jk, jk, jk, jk, jk, jk, jk, jk, jk, jk, jk, jk, jk, jk, jk, jk, jk, jk, jk, jk, jk, jk, jk, jk, jk, jk, jk, jk, jk], [some ⟨flatN fr, false, z0⟩, some ⟨flatA rs, false, z1⟩, some (mpV encI wyV ((S r (k + 1)).1))], by omega, ?_, k + 1, rfl, by omega, rfl, rfl⟩; (first | rw [hN r k hg1] | rw [hK r k _ _ hg1 hg2 (by omega)] | rw [(hU r k _ hg1 hg2).1, (hU r k _ hg1 hg2).2] | rw [(hL r k _ _ hg1 hg2 (by omega)).1, (hL r k _ _ hg1 hg2 (by omega)).2]); exact Wk.keep 3 [] (by rw [hE]; exact Nat.le_of_ble_eq_true rfl) rfl rfl (by repeat (first | exact RenT.nil | refine RenT.jk ?_ | refine RenT.val (by first | rfl | with_reducible assumption | (simp only [rn3, rn2, rn1, kσ]; done)) (by first | rfl | assumption | (simp [ok3, ok2, ok1]; done)) ?_)) ⟨⟨_, rfl, rfl, rfl, .inl ⟨rfl, flatN_scal _⟩⟩, ⟨_, rfl, rfl, rfl, .inl ⟨rfl, flatA_scal _⟩⟩, ⟨_, rfl, rfl, rfl, .inl ⟨rfl, rfl⟩⟩, trivial⟩)))
    | ((with_reducible refine FinA.on ?_); (obtain rfl : r = R := (by rcases Nat.lt_or_eq_of_le hr with h | h; (exfalso; have := hgo r h; simp_all); (exact h)); refine FinA.keep 3 [] (.inl rfl) (.tmp wl .nil) ?_ rfl (by rw [hE]; exact Nat.le_of_ble_eq_true rfl) rfl rfl ⟨⟨_, rfl, rfl, rfl, .inl ⟨rfl, flatN_scal _⟩⟩, ⟨_, rfl, rfl, rfl, .inl ⟨rfl, flatA_scal _⟩⟩, ⟨_, rfl, rfl, rfl, .inl ⟨rfl, rfl⟩⟩, trivial⟩; rfl)))
end Go.Proofs.Ytmohcmghbfhdlaa
end
end
