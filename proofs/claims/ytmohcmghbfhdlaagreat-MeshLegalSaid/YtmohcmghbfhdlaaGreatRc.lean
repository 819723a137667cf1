/- Chapter 6 in plain Lean: a right net: its count; no corner lies in a triangle of others. -/
import Derived.Test.YtmohcmghbfhdlaaGreatRb
import Derived.Test.YtmohcmghbfhdlaaGreatQy
import Derived.Test.YtmohcmghbfhdlaaGreatRa
import Derived.Test.YtmohcmghbfhdlaaGreatQr
import Derived.Test.YtmohcmghbfhdlaaGreatQd
import Derived.Test.YtmohcmghbfhdlaaGreatQx
section
set_option linter.unusedSimpArgs false
set_option linter.unusedVariables false
namespace Go.Me
section
variable {B : Int} {l : List Pn} {ts : List Tri} {h : List Nat}
theorem Net.triOk (N : Net B l ts h) : ∀ t ∈ ts, TriOk (shr B l) l.length t := fun t ht => by
  obtain ⟨r1, r2, r3⟩ := N.rng t ht
  have hB : 0 ≤ B := by have := N.bnd _ (pt_mem r1); omega
  exact ⟨r1, r2, r3, by rw [cr_shr]; exact Int.mul_pos (by omega) (N.pos t ht)⟩
theorem Net.supS (N : Net B l ts h) : ∀ e ∈ bd (edT ts), Sup (shr B l) l.length e := fun e he => by
  obtain ⟨q1, q2, q3⟩ := N.edge (bd_mem.1 he).1
  have hB : 0 ≤ B := by have := N.bnd _ (pt_mem q1); omega
  exact sup_shr hB q1 q2 q3 (N.sup e he)
theorem Net.ends (N : Net B l ts h) : ∃ m M, m < l.length ∧ M < l.length ∧ (∀ v, v < l.length → (shr B l m).x ≤ (shr B l v).x) ∧ (∀ v, v < l.length → (shr B l v).x ≤ (shr B l M).x) ∧ U (shr B l) (bd (edT ts)) (shr B l m).x = 1 := by
  obtain ⟨m, hm, hmin, hone⟩ := N.hone
  have hmn : ∀ v, v < l.length → (shr B l m).x ≤ (shr B l v).x := fun v hv => by
    rcases hmin v hv with rfl | h
    · exact Int.le_refl _
    · exact Int.le_of_lt (shr_lt N.bnd hm hv h)
  obtain ⟨M, hM, hmx⟩ : ∃ M, M < l.length ∧ ∀ v, v < l.length → (shr B l v).x ≤ (shr B l M).x := by
    have key : ∀ k, 0 < k → k ≤ l.length → ∃ M, M < k ∧ ∀ v, v < k → (shr B l v).x ≤ (shr B l M).x := by
      intro k
      induction k with
      | zero => intro h; omega
      | succ k ih =>
        intro _ hk
        rcases Nat.eq_zero_or_pos k with h0 | h0
        · subst h0
          refine ⟨0, by omega, fun v hv => ?_⟩
          obtain rfl : v = 0 := by omega
          exact Int.le_refl _
        · obtain ⟨M, h1, h2⟩ := ih h0 (by omega)
          rcases Int.le_total (shr B l k).x (shr B l M).x with hx | hx
          · refine ⟨M, by omega, fun v hv => ?_⟩
            rcases Nat.lt_or_eq_of_le (Nat.le_of_lt_succ hv) with h | rfl
            · exact h2 v h
            · exact hx
          · refine ⟨k, by omega, fun v hv => ?_⟩
            rcases Nat.lt_or_eq_of_le (Nat.le_of_lt_succ hv) with h | rfl
            · exact Int.le_trans (h2 v h) hx
            · exact Int.le_refl _
    exact key l.length (by omega) (Nat.le_refl _)
  refine ⟨m, M, hm, hM, hmn, hmx, ?_⟩
  have hw := N.wind (List.Sublist.refl ts) (fun _ _ h => h) hm hmin hone
  rw [N.area] at hw
  have hpos : 0 < ar (pt l) (cyc h) := by
    rw [← N.area]
    obtain ⟨t, r, ht⟩ := List.exists_cons_of_ne_nil N.ne
    have hmem : t ∈ ts := by rw [ht]; simp
    have := su_mem (l := ts) (f := fun t => cr (pt l t.1) (pt l t.2.1) (pt l t.2.2)) (fun x hx => Int.le_of_lt (N.pos x hx)) hmem
    have := N.pos t hmem
    omega
  have h1 : 1 * ar (pt l) (cyc h) = wnd B l ts m * ar (pt l) (cyc h) := by rw [Int.one_mul]; exact hw
  exact (Int.eq_of_mul_eq_mul_right (by omega) h1).symm
end
section
variable {P : Nat → Pn} {n : Nat} {ts : List Tri}
theorem not_in_up (hg : Gen P n) (hT : ∀ t ∈ ts, TriOk P n t) (hn : (edT ts).Nodup) (hS : ∀ e ∈ bd (edT ts), Sup P n e) {m M : Nat} (hm : m < n) (hM : M < n) (hmin : ∀ v, v < n → (P m).x ≤ (P v).x) (hmax : ∀ v, v < n → (P v).x ≤ (P M).x)
    (hw : U P (bd (edT ts)) (P m).x = 1) (hu : ∀ v, v < n → ∃ t ∈ ts, v = t.1 ∨ v = t.2.1 ∨ v = t.2.2) {v : Nat} (hv : v < n) {t : Tri} (ht : t ∈ ts) (hno : v ≠ t.1 ∧ v ≠ t.2.1 ∧ v ≠ t.2.2) : su (ed3 t) (chi P v) ≤ 0 := by
  apply Classical.byContradiction
  intro hpos
  have nn : ∀ t ∈ ts, 0 ≤ su (ed3 t) (chi P v) := fun t ht => Int.le_trans (updn_nn v t).1 (in_up hg hv (hT t ht))
  have htot : (su ts fun t => su (ed3 t) (chi P v)) = su (bd (edT ts)) (chi P v) := by rw [← su_tri_e, su_bd hn (anti_chi v)]
  have hle : su (bd (edT ts)) (chi P v) ≤ U P (bd (edT ts)) (P v).x := su_le fun e _ => by
    unfold chi sp
    repeat' split
    all_goals omega
  have hup : uppI P v t = 0 := by
    unfold uppI upF
    rw [if_neg (fun h => hno.1 h.1.symm), if_neg (fun h => hno.2.1 h.1.symm), if_neg (fun h => hno.2.2 h.1.symm)]
    rfl
  -- this triangle and those that have the corner
  have htwo : su ts (uppI P v) + 1 ≤ su (bd (edT ts)) (chi P v) := by
    rw [← htot]
    have := su_mem (l := ts) (f := fun t => su (ed3 t) (chi P v) - uppI P v t) (fun x hx => by have := in_up hg hv (hT x hx); omega) ht
    rw [su_sub] at this
    omega
  have hat := at_corner hg hT hn hS hm hM hmin hmax hw hu hv
  have hb := bal_bd hn
  have nnu : 0 ≤ su ts (uppI P v) := su_nn fun t _ => (updn_nn v t).1
  have nnd : 0 ≤ su ts (dnI P v) := su_nn fun t _ => (updn_nn v t).2
  have hxs : ∀ u, u < n → u ≠ v → (P u).x ≠ (P v).x := fun u hu hne h => hne (hg.inj u v hu hv h)
  have o := hT t ht
  by_cases hvM : v = M
  · have : su (ed3 t) (chi P v) ≤ 0 := by
      rw [su_ed3]
      have q1 := hmax _ o.l1
      have q2 := hmax _ o.l2
      have q3 := hmax _ o.l3
      rw [← hvM] at q1 q2 q3
      unfold chi
      simp only
      repeat' split
      all_goals omega
    exact hpos this
  · have x2 : (P v).x < (P M).x := by
      have := hmax v hv
      have := hxs M hM (fun h => hvM h.symm)
      omega
    have x1 := hmin v hv
    have hU1 : U P (bd (edT ts)) (P v).x = 1 := by rw [U_eq hg hb hS hm hM x1 x2, hw]
    have dn1 := dn_one (v := v) hg hT hn hv (by rw [← U_Lo hb, hU1]; exact Int.le_refl _)
    by_cases hvm : v = m
    · have : su (ed3 t) (chi P v) ≤ 0 := by
        rw [su_ed3]
        have q1 := hmin _ o.l1
        have q2 := hmin _ o.l2
        have q3 := hmin _ o.l3
        rw [← hvm] at q1 q2 q3
        have n1 := hxs _ o.l1 (fun h => hno.1 h.symm)
        have n2 := hxs _ o.l2 (fun h => hno.2.1 h.symm)
        have n3 := hxs _ o.l3 (fun h => hno.2.2 h.symm)
        unfold chi
        simp only
        repeat' split
        all_goals omega
      exact hpos this
    · rw [if_neg hvm, if_neg hvM] at hat
      -- nothing can be right above but at the upper border; there nothing is
      have hup0 : su ts (uppI P v) = 0 := by omega
      have hod : 1 ≤ od (bd (edT ts)) v := by omega
      have hd : su ts (uppI P v) - su ts (dnI P v) = su (bd (edT ts)) (gOI P v) := by
        rw [← su_sub, su_congr fun t ht => up_dn hg hv (hT t ht), ← su_tri_e, su_bd hn (anti_gOI v)]
      have hdn : su ts (dnI P v) = 1 := by
        have : od (bd (edT ts)) v ≤ 2 := by omega
        -- if nothing is below either, the border leaves twice: not so
        apply Classical.byContradiction
        intro hne
        have hz : su ts (dnI P v) = 0 := by omega
        have h2 : od (bd (edT ts)) v = 2 := by omega
        rw [hup0, hz] at hd
        have hbal : od (bd (edT ts)) v = su (bd (edT ts)) fun e => if e.2 = v then (1 : Int) else 0 := by
          have := hb fun w => if w = v then 1 else 0
          rw [su_sub] at this
          unfold od
          omega
        -- all edges at v on one side
        have hx1 : (P m).x < (P v).x := by have := hxs m hm (fun h => hvm h.symm); omega
        have split1 : ∀ e ∈ bd (edT ts), e.1 = v ∨ e.2 = v → (P e.2).x < (P e.1).x ∨ (P e.1).x < (P e.2).x := fun e he _ => by
          have s := hS e he
          have : (P e.1).x ≠ (P e.2).x := fun h => s.ne (hg.inj _ _ s.l1 s.l2 h)
          omega
        have hU2 : (∀ e ∈ bd (edT ts), e.2 = v → (P e.2).x < (P e.1).x) → False := fun hall => by
          have : (su (bd (edT ts)) fun e => if e.2 = v then (1 : Int) else 0) ≤ U P (bd (edT ts)) (P v).x := su_le fun e he => by
            unfold sp
            by_cases h : e.2 = v
            · have := hall e he h
              rw [if_pos h, if_pos ⟨by rw [h]; exact Int.le_refl _, by rw [← h]; exact this⟩]
              exact Int.le_refl _
            · rw [if_neg h]; split <;> omega
          omega
        have hL2 : (∀ e ∈ bd (edT ts), e.1 = v → (P e.1).x < (P e.2).x) → False := fun hall => by
          have : od (bd (edT ts)) v ≤ Lo P (bd (edT ts)) (P v).x := su_le fun e he => by
            show _ ≤ if (P e.1).x ≤ (P v).x ∧ (P v).x < (P e.2).x then (1 : Int) else 0
            by_cases h : e.1 = v
            · have := hall e he h
              rw [if_pos h, if_pos ⟨by rw [h]; exact Int.le_refl _, by rw [← h]; exact this⟩]
              exact Int.le_refl _
            · rw [if_neg h]; split <;> omega
          rw [← U_Lo hb] at this
          omega
        by_cases hany : ∃ e ∈ bd (edT ts), (P e.2).x < (P e.1).x ∧ (v = e.1 ∨ v = e.2)
        · obtain ⟨e, he, q1, q2⟩ := hany
          refine hU2 fun e' he' h' => ?_
          rcases split1 e' he' (.inr h') with h | h
          · exact h
          · exact (no_both hg hS hm hM hx1 x2 he he' q1 h q2 (.inr h'.symm)).elim
        · refine hL2 fun e' he' h' => ?_
          rcases split1 e' he' (.inl h') with h | h
          · exact absurd ⟨e', he', h, .inl h'.symm⟩ hany
          · exact h
      -- so an edge of the upper border ends here
      rw [hup0, hdn] at hd
      have hex : ∃ e ∈ bd (edT ts), e.2 = v ∧ (P v).x < (P e.1).x := by
        apply Classical.byContradiction
        intro hno
        have : 0 ≤ su (bd (edT ts)) (gOI P v) := su_nn fun e he => by
          unfold gOI
          rw [if_neg (c := e.2 = v ∧ _) fun hh => hno ⟨e, he, hh⟩]
          split <;> omega
        omega
      obtain ⟨e, he, e1, e2⟩ := hex
      have : su (bd (edT ts)) (chi P v) + 1 ≤ U P (bd (edT ts)) (P v).x := by
        have hm1 := su_mem (l := bd (edT ts)) (f := fun e => sp P (P v).x e - chi P v e) (fun e _ => by
          unfold chi sp
          repeat' split
          all_goals omega) he
        rw [su_sub] at hm1
        have hz : chi P v e ≤ 0 := by
          unfold chi
          rw [if_neg (c := _ ∧ 0 < _) fun hh => by
            have := hh.2
            rw [e1, cr_self] at this
            omega]
          split <;> omega
        have h1 : sp P (P v).x e = 1 := by unfold sp; rw [if_pos ⟨by rw [e1]; exact Int.le_refl _, e2⟩]
        (try simp only at hm1)
        rw [h1] at hm1
        unfold U
        omega
      omega
end
end Go.Me
end
/- Chapter 6: what the program calls a right net is one in the sense of the plain law. -/
section
set_option linter.unusedSimpArgs false
set_option linter.unusedVariables false
namespace Go.Me
open Go.Ab Go.Proofs.YtmohcmghbfhdlaaGreat
set_option maxRecDepth 100000
def tN (t : T3) : Tri := (t.1.toNat, t.2.1.toNat, t.2.2.toNat)
def eN (e : IE) : Ed := (e.1.toNat, e.2.toNat)
def eI (e : Ed) : IE := ((e.1 : Int), (e.2 : Int))
theorem lf_ed {ts : List T3} : ∀ k, k ≤ ts.length → (lf ts k).map (fun p => eN p.1) = edT ((ts.take k).map tN)
  | 0, _ => rfl
  | k + 1, h => by
    rw [lf_succ, take_tr (by omega), List.map_append, List.map_append, List.map_append, lf_ed k (by omega)]
    unfold edT
    rw [List.map_append, List.flatMap_append]
    simp [ed3, tN, eN]
theorem lf_edA (ts : List T3) : (lfA ts).map (fun p => eN p.1) = edT (ts.map tN) := by
  have := lf_ed (ts := ts) ts.length (Nat.le_refl _)
  rwa [List.take_length] at this
theorem ed_iff {l : List Pn} {ts : List T3} (h : NetR l ts) {e : Ed} : e ∈ edT (ts.map tN) ↔ eI e ∈ (lfA ts).map (·.1) := by
  rw [← lf_edA]
  constructor
  · intro hm
    obtain ⟨p, hp, rfl⟩ := List.mem_map.1 hm
    obtain ⟨⟨a, _⟩, ⟨b, _⟩, _⟩ := h.ok.rng p hp
    refine List.mem_map.2 ⟨p, hp, ?_⟩
    unfold eI eN
    exact Prod.ext (by simp only; omega) (by simp only; omega)
  · intro hm
    obtain ⟨p, hp, he⟩ := List.mem_map.1 hm
    refine List.mem_map.2 ⟨p, hp, ?_⟩
    rw [he]
    unfold eI eN
    exact Prod.ext (by simp) (by simp)
theorem ed_nodup {l : List Pn} {ts : List T3} (h : NetR l ts) : (edT (ts.map tN)).Nodup := by
  rw [← lf_edA]
  have h2 : ((lfA ts).map (·.1)).Nodup := h.ok.nd
  unfold List.Nodup at h2 ⊢
  rw [List.pairwise_map] at h2 ⊢
  refine h2.imp_of_mem fun {a b} ha hb hne he => hne ?_
  obtain ⟨⟨a1, _⟩, ⟨a2, _⟩, _⟩ := h.ok.rng a ha
  obtain ⟨⟨b1, _⟩, ⟨b2, _⟩, _⟩ := h.ok.rng b hb
  unfold eN at he
  rw [Prod.mk.injEq] at he
  exact Prod.ext (by omega) (by omega)
theorem tr_of {ts : List T3} {t : Tri} (h : t ∈ ts.map tN) : ∃ j, j < ts.length ∧ t = tN (tr ts j) := by
  obtain ⟨x, hx, rfl⟩ := List.mem_map.1 h
  obtain ⟨j, hj, rfl⟩ := List.getElem_of_mem hx
  refine ⟨j, hj, ?_⟩
  unfold tr
  rw [List.getD_eq_getElem?_getD, List.getElem?_eq_getElem hj]
  rfl
theorem tr_mem {ts : List T3} {j : Nat} (h : j < ts.length) : tN (tr ts j) ∈ ts.map tN := by
  refine List.mem_map.2 ⟨_, ?_, rfl⟩
  unfold tr
  rw [List.getD_eq_getElem?_getD, List.getElem?_eq_getElem h]
  exact List.getElem_mem h
theorem sgn_one {n : Int} (h : sgn n = 1) : 0 < n := by
  unfold sgn at h
  split at h
  · cases h
  · split at h
    · cases h
    · omega
theorem arT_su {l : List Pn} {ts : List T3} : ∀ k, k ≤ ts.length → arT l ts k = su ((ts.take k).map tN) fun t => cr (pt l t.1) (pt l t.2.1) (pt l t.2.2)
  | 0, _ => rfl
  | k + 1, h => by
    rw [take_tr (by omega), List.map_append, su_app, ← arT_su k (by omega)]
    show arT l ts k + arS l _ 3 = _
    rw [arS_3]
    unfold su
    simp [tN]
theorem cyc_len (H : List Nat) : (cyc H).length = H.length := by
  unfold cyc
  cases H with
  | nil => rfl
  | cons a r => simp
theorem cyc_at {H : List Nat} {k : Nat} (hk : k < H.length) : (cyc H)[k]? = some (ot H k, ot H ((k + 1) % H.length)) := by
  unfold cyc
  rw [List.getElem?_zip_eq_some]
  refine ⟨ot_lt hk, ?_⟩
  by_cases h1 : k + 1 < H.length
  · rw [Nat.mod_eq_of_lt h1, List.getElem?_append_left (by simp; omega), List.getElem?_tail]
    exact ot_lt h1
  · have e : k + 1 = H.length := by omega
    rw [e, Nat.mod_self, List.getElem?_append_right (by simp; omega)]
    have : k - H.tail.length = 0 := by simp; omega
    rw [this, List.getElem?_take, if_pos (by omega)]
    exact ot_lt (by omega)
theorem arS_su (l : List Pn) (H : List Nat) : ∀ k, k ≤ H.length → arS l H k = ar (pt l) ((cyc H).take k)
  | 0, _ => rfl
  | k + 1, h => by
    have hc := cyc_at (H := H) (k := k) (by omega)
    unfold ar
    rw [List.take_add_one, hc, su_app]
    show arS l H k + _ = _
    rw [arS_su l H k (by omega)]
    unfold ar su
    simp
theorem arS_cyc (l : List Pn) (H : List Nat) : arS l H H.length = ar (pt l) (cyc H) := by
  rw [arS_su l H _ (Nat.le_refl _), ← cyc_len, List.take_length]
theorem NetR.net {l : List Pn} {ts : List T3} (h : NetR l ts) : Net 10000 l (ts.map tN) (hl l) := by
  obtain ⟨h40, hok, hap⟩ := cp_ok h.cp
  obtain ⟨g1, g2, g3⟩ := h.g
  have hrng : ∀ t ∈ ts.map tN, t.1 < l.length ∧ t.2.1 < l.length ∧ t.2.2 < l.length := fun t ht => by
    obtain ⟨j, hj, rfl⟩ := tr_of ht
    obtain ⟨h1, _⟩ := trK_0 (h.all j hj)
    unfold inR at h1
    unfold tN
    simp only
    omega
  have hpos : ∀ t ∈ ts.map tN, 0 < cr (pt l t.1) (pt l t.2.1) (pt l t.2.2) := fun t ht => by
    obtain ⟨j, hj, rfl⟩ := tr_of ht
    obtain ⟨_, _, h3, _⟩ := trK_0 (h.all j hj)
    exact sgn_one h3
  have hnf : ¬ FlatR l := fun hf => by
    have ht := tr_mem g1
    have h1 := hrng _ ht
    have h2 := hpos _ ht
    rw [flatR_all hap hf _ (pt_mem h1.1) _ (pt_mem h1.2.1) _ (pt_mem h1.2.2)] at h2
    omega
  have hfk : flK l (l.length - 2) = false := by
    cases hb : flK l (l.length - 2) with
    | false => rfl
    | true => exact absurd (flK_flat.1 hb) hnf
  have hR := hl_ring h.cp hfk
  have hl0 : 0 < l.length := by have := hR.le; have := hR.len; omega
  have hstep : ∀ a b : Nat, nxI l a l.length = b → b < l.length ∧ b ≠ a ∧ Bord l (pt l a) (pt l b) := fun a b hn => by
    rcases nxI_eq l a l.length with ⟨_, h2⟩ | ⟨j, h1, h2⟩
    · omega
    · obtain rfl : j = b := by omega
      obtain ⟨c1, c2, c3⟩ := nextTo_cand _ _ h1
      exact ⟨c1, c2, c3⟩
  refine ⟨fun p hp => ?_, hap, hrng, hpos, ed_nodup h, fun e he q hq => ?_, fun e => ?_, fun e he => ?_, ?_, ?_, fun i hi => ?_⟩
  · obtain ⟨i, hi, rfl⟩ := mem_pt hp
    exact ⟨(hok i hi).y0, (hok i hi).y1⟩
  · obtain ⟨e1, e2⟩ := bd_mem.1 he
    have m1 := (ed_iff h).1 e1
    have m2 : lk (lfA ts) (eI (sw e)) = -1 := (lk_no h).2 fun hh => e2 ((ed_iff h).2 hh)
    obtain ⟨p, hp, hpe⟩ := List.mem_map.1 m1
    have ho := h.op
    unfold opB at ho
    rw [List.any_eq_false] at ho
    have h3 := ho p hp
    rw [hpe] at h3
    cases hb : bdB l e.1 e.2 with
    | true => exact bdB_true.1 hb _ (pt_mem hq)
    | false =>
      refine absurd ?_ h3
      show (decide (lk (lfA ts) (eI (sw e)) = -1) && !bdB l (e.1 : Int).toNat (e.2 : Int).toNat) = true
      rw [m2, Int.toNat_natCast, Int.toNat_natCast, hb]
      rfl
  · have : (ts.map tN).length = 0 := by rw [e]; rfl
    rw [List.length_map] at this
    omega
  · obtain ⟨k, hk⟩ := List.mem_iff_getElem?.1 he
    have hkl : k < (hl l).length := by rw [← cyc_len]; exact (List.getElem?_eq_some_iff.1 hk).1
    rw [cyc_at hkl] at hk
    cases hk
    have hb := hR.bd k hkl
    have hn : nxI l (ot (hl l) k) l.length = ot (hl l) ((k + 1) % (hl l).length) := by
      by_cases h1 : k + 1 < (hl l).length
      · rw [Nat.mod_eq_of_lt h1]
        exact (hR.next k h1).1
      · have e : k + 1 = (hl l).length := by omega
        rw [e, Nat.mod_self, hR.zero]
        have := hR.last
        rwa [show (hl l).length - 1 = k by omega] at this
    obtain ⟨c1, c2, c3⟩ := hstep _ _ hn
    exact ⟨hb, c1, fun e => c2 e.symm, fun q hq => c3 _ (pt_mem hq)⟩
  · refine ⟨fsK l l.length, fsK_lt hl0 _ (Nat.le_refl _), fun v hv => ?_, ?_⟩
    · by_cases hve : v = fsK l l.length
      · exact .inl hve
      · refine .inr ?_
        rcases lexLt_or (p := pt l v) (q := pt l (fsK l l.length)) (fun e => hve (hap _ _ hv (fsK_lt hl0 _ (Nat.le_refl _)) e)) with h1 | h1
        · exact absurd h1 (fsK_min l.length v hv)
        · exact h1
    · have hz := hR.zero
      have hn := hR.next
      have h3 := hR.len
      generalize fsK l l.length = f at *
      generalize hl l = H at *
      cases H with
      | nil => simp at h3
      | cons a r =>
        have ha : a = f := hz
        subst ha
        have e : ∀ (r : List Nat) (b : Nat), (∀ x ∈ r, x ≠ a) → su ((b :: r).zip (r ++ [a])) (fun e => if e.2 = a then (1 : Int) else 0) = 1 := fun r => by
          induction r with
          | nil => intro b _; unfold su; simp
          | cons c r ih =>
            intro b hb
            rw [List.cons_append, List.zip_cons_cons, su_cons, ih c fun x hx => hb x (by simp [hx]), if_neg (hb c (by simp))]
            rfl
        refine e r a fun x hx => ?_
        obtain ⟨k, hk, rfl⟩ := List.getElem_of_mem hx
        have h5 := (hn k (by simp; omega)).2
        have : ot (a :: r) (k + 1) = r[k] := by unfold ot; simp [hk]
        rwa [this] at h5
  · rw [← arS_cyc, ← g2, arT_su _ (Nat.le_refl _), List.take_length]
  · have h1 := (us_full h.all).1 g3 i hi
    obtain ⟨j, hj, h2⟩ := (us_mem _).1 h1
    refine ⟨_, tr_mem hj, ?_⟩
    unfold tN
    simp only
    omega
end Go.Me
end
/- Chapter 6: phases as the reference wraps and checks them; copies of numbers. -/
section
set_option linter.unusedSimpArgs false
set_option linter.unusedVariables false
section
namespace Go.Me
open Go.Ab Go.Proofs.YtmohcmghbfhdlaaGreat
end Go.Me
namespace Go.Proofs.YtmohcmghbfhdlaaGreat
open Go Go.RowKit Go.Ab Go.Me
set_option maxRecDepth 100000
set_option maxHeartbeats 4000000
attribute [local irreducible] OQ OW AL AW AF SW
end Go.Proofs.YtmohcmghbfhdlaaGreat
end
end
/- Chapter 6: the reference's edges and sides are the program's (plain). -/
section
set_option linter.unusedSimpArgs false
set_option linter.unusedVariables false
namespace Go.Me
open Go.Ab Go.Proofs.YtmohcmghbfhdlaaGreat
set_option maxRecDepth 100000
theorem lf_tri' {ts : List T3} {p : IE × Int} : ∀ n, p ∈ lf ts n → ∃ j : Nat, j < n ∧ (p.1 = ((tr ts j).1, (tr ts j).2.1) ∨ p.1 = ((tr ts j).2.1, (tr ts j).2.2) ∨ p.1 = ((tr ts j).2.2, (tr ts j).1))
  | 0, h => by unfold lf at h; cases h
  | n + 1, h => by
    unfold lf at h
    simp only [List.mem_append, List.mem_singleton] at h
    rcases h with ((h | h) | h) | h
    · obtain ⟨j, h1, h2⟩ := lf_tri' n h
      exact ⟨j, by omega, h2⟩
    · exact ⟨n, by omega, .inl (by rw [h])⟩
    · exact ⟨n, by omega, .inr (.inl (by rw [h]))⟩
    · exact ⟨n, by omega, .inr (.inr (by rw [h]))⟩
theorem lf_ne {l : List Pn} {ts : List T3} (h : NetR l ts) {p : IE × Int} (hp : p ∈ lfA ts) : p.1.1 ≠ p.1.2 := fun e => by
  obtain ⟨j, hj, h1⟩ := lf_tri' _ hp
  obtain ⟨_, h2, h3, _⟩ := trK_0 (h.all j hj)
  unfold ordB at h2
  unfold trS at h3
  rcases h1 with h1 | h1 | h1
  · rw [h1] at e; simp only at e; omega
  · rw [h1] at e; simp only at e
    rw [e, show cr (pt l (tr ts j).1.toNat) (pt l (tr ts j).2.2.toNat) (pt l (tr ts j).2.2.toNat) = 0 from cr_self _ _] at h3
    cases h3
  · rw [h1] at e; simp only at e; omega
theorem pkE_at {l : List Pn} {ts : List T3} (h : NetR l ts) {p : IE × Int} (hp : p ∈ lfA ts) {x : Pn} (hx : x ∈ pkE (lfA ts) p.1) : x.x < x.y ∧ ((p.1 = (x.x, x.y)) ∨ (p.1 = (x.y, x.x) ∧ lk (lfA ts) (x.x, x.y) = -1)) := by
  have hne := lf_ne h hp
  obtain ⟨⟨a, b⟩, i⟩ := p
  unfold pkE at hx
  simp only at hx hne ⊢
  split at hx
  · rename_i hs
    rw [List.mem_singleton] at hx
    subst hx
    simp only
    by_cases hab : a < b
    · rw [if_neg (by omega), if_pos (show b > a by omega)]
      exact ⟨hab, .inl rfl⟩
    · rw [if_pos (show b < a by omega), if_neg (show ¬ b > a by omega)]
      exact ⟨by omega, .inr ⟨rfl, hs.resolve_left hab⟩⟩
  · cases hx
theorem edL_mem {l : List Pn} {ts : List T3} (h : NetR l ts) {x : Pn} : x ∈ edL ts ↔ x.x < x.y ∧ (lk (lfA ts) (x.x, x.y) ≠ -1 ∨ lk (lfA ts) (x.y, x.x) ≠ -1) := by
  unfold edL
  rw [(sortE_perm _).mem_iff]
  unfold eqS
  have hr := fun (F : Nat → List Pn) => List.mem_flatMap (f := F) (b := x) (l := List.range (lfA ts).length)
  rw [hr]
  constructor
  · rintro ⟨j, hj, hx⟩
    rw [List.mem_range] at hj
    unfold pk at hx
    rw [List.getElem?_eq_getElem hj] at hx
    have hp := List.getElem_mem hj
    obtain ⟨h1, h2⟩ := pkE_at h hp hx
    refine ⟨h1, ?_⟩
    have hk : ((lfA ts)[j]).1 ∈ (lfA ts).map (·.1) := List.mem_map.2 ⟨_, hp, rfl⟩
    rcases h2 with h2 | ⟨h2, _⟩
    · rw [h2] at hk
      exact .inl fun hh => (lk_no h).1 hh hk
    · rw [h2] at hk
      exact .inr fun hh => (lk_no h).1 hh hk
  · rintro ⟨h1, h2⟩
    have key : ∀ e : IE, lk (lfA ts) e ≠ -1 → ∃ (j : Nat) (i : Int), (lfA ts)[j]? = some (e, i) := fun e he => by
      have : e ∈ (lfA ts).map (·.1) := Classical.byContradiction fun hh => he (lk_not hh)
      obtain ⟨p, hp, rfl⟩ := List.mem_map.1 this
      obtain ⟨j, hj⟩ := List.mem_iff_getElem?.1 hp
      exact ⟨j, p.2, hj⟩
    by_cases h3 : lk (lfA ts) (x.x, x.y) ≠ -1
    · obtain ⟨j, i, hj⟩ := key _ h3
      refine ⟨j, List.mem_range.2 (List.getElem?_eq_some_iff.1 hj).1, ?_⟩
      unfold pk
      rw [hj]
      show x ∈ pkE (lfA ts) (x.x, x.y)
      unfold pkE
      rw [if_pos (.inl h1)]
      simp only
      rw [if_neg (by omega), if_pos (by omega)]
      exact List.mem_singleton.2 rfl
    · obtain ⟨j, i, hj⟩ := key _ (h2.resolve_left h3)
      refine ⟨j, List.mem_range.2 (List.getElem?_eq_some_iff.1 hj).1, ?_⟩
      unfold pk
      rw [hj]
      show x ∈ pkE (lfA ts) (x.y, x.x)
      unfold pkE
      rw [if_pos (.inr (Classical.not_not.1 h3))]
      simp only
      rw [if_pos (by omega), if_neg (by omega)]
      exact List.mem_singleton.2 rfl
theorem eqS_flat (ts : List T3) : eqS ts (List.range (lfA ts).length) = (lfA ts).flatMap fun p => pkE (lfA ts) p.1 := by
  have e : ∀ k, k ≤ (lfA ts).length → (List.range k).flatMap (pk ts) = ((lfA ts).take k).flatMap fun p => pkE (lfA ts) p.1 := fun k => by
    induction k with
    | zero => intro _; rfl
    | succ k ih =>
      intro hk
      have hg : (lfA ts)[k]? = some (lfA ts)[k] := List.getElem?_eq_getElem (by omega)
      have hpk : pk ts k = pkE (lfA ts) ((lfA ts)[k]).1 := by unfold pk; rw [hg]
      rw [List.range_succ, List.flatMap_append, ih (by omega), List.take_add_one, List.flatMap_append, hg]
      simp [hpk]
  have := e _ (Nat.le_refl _)
  rw [List.take_length] at this
  exact this
theorem edL_nodup {l : List Pn} {ts : List T3} (h : NetR l ts) : (edL ts).Nodup := by
  unfold edL
  rw [(sortE_perm _).nodup_iff, eqS_flat]
  unfold List.Nodup
  rw [List.pairwise_flatMap]
  refine ⟨fun p _ => ?_, ?_⟩
  · unfold pkE
    split
    · exact List.pairwise_singleton _ _
    · exact List.Pairwise.nil
  · have h2 : ((lfA ts).map (·.1)).Nodup := h.ok.nd
    unfold List.Nodup at h2
    rw [List.pairwise_map] at h2
    refine h2.imp_of_mem fun {p q} hp hq hne x hx y hy e => ?_
    subst e
    obtain ⟨_, a2⟩ := pkE_at h hp hx
    obtain ⟨_, b2⟩ := pkE_at h hq hy
    have hkp : p.1 ∈ (lfA ts).map (·.1) := List.mem_map.2 ⟨p, hp, rfl⟩
    have hkq : q.1 ∈ (lfA ts).map (·.1) := List.mem_map.2 ⟨q, hq, rfl⟩
    rcases a2 with a2 | ⟨a2, a3⟩ <;> rcases b2 with b2 | ⟨b2, b3⟩
    · exact hne (a2.trans b2.symm)
    · rw [a2] at hkp
      exact (lk_no h).1 b3 hkp
    · rw [b2] at hkq
      exact (lk_no h).1 a3 hkq
    · exact hne (a2.trans b2.symm)
def reP (ts : List T3) (i k : Nat) : List Pn := if lk (lfA ts) ((i : Int), (k : Int)) ≠ -1 ∨ lk (lfA ts) ((k : Int), (i : Int)) ≠ -1 then [⟨i, k⟩] else []
def reI (ts : List T3) (i : Nat) : Nat → List Pn
  | 0 => []
  | j + 1 => reI ts i j ++ reP ts i (i + 1 + j)
def reE (ts : List T3) (n : Nat) : Nat → List Pn
  | 0 => []
  | i + 1 => reE ts n i ++ reI ts i (n - 1 - i)
theorem reI_mem {ts : List T3} {i : Nat} {x : Pn} : ∀ j, x ∈ reI ts i j ↔ ∃ k : Nat, i < k ∧ k < i + 1 + j ∧ x = ⟨i, k⟩ ∧ (lk (lfA ts) ((i : Int), (k : Int)) ≠ -1 ∨ lk (lfA ts) ((k : Int), (i : Int)) ≠ -1)
  | 0 => by
    unfold reI
    constructor
    · intro h; cases h
    · rintro ⟨k, h1, h2, _⟩
      omega
  | j + 1 => by
    unfold reI
    rw [List.mem_append, reI_mem j]
    unfold reP
    constructor
    · rintro (⟨k, h1, h2, h3, h4⟩ | hx)
      · exact ⟨k, h1, by omega, h3, h4⟩
      · split at hx
        · rename_i hc
          rw [List.mem_singleton] at hx
          exact ⟨i + 1 + j, by omega, by omega, hx, hc⟩
        · cases hx
    · rintro ⟨k, h1, h2, h3, h4⟩
      by_cases hk : k = i + 1 + j
      · subst hk
        rw [if_pos h4]
        exact .inr (List.mem_singleton.2 h3)
      · exact .inl ⟨k, h1, by omega, h3, h4⟩
theorem reE_mem {ts : List T3} {n : Nat} {x : Pn} : ∀ i, i ≤ n → (x ∈ reE ts n i ↔ ∃ a k : Nat, a < i ∧ a < k ∧ k < n ∧ x = ⟨a, k⟩ ∧ (lk (lfA ts) ((a : Int), (k : Int)) ≠ -1 ∨ lk (lfA ts) ((k : Int), (a : Int)) ≠ -1))
  | 0, _ => by
    unfold reE
    constructor
    · intro h; cases h
    · rintro ⟨a, k, h1, _⟩
      omega
  | i + 1, hi => by
    unfold reE
    rw [List.mem_append, reE_mem i (by omega), reI_mem]
    constructor
    · rintro (⟨a, k, h1, h2⟩ | ⟨k, h1, h2, h3⟩)
      · exact ⟨a, k, by omega, h2⟩
      · exact ⟨i, k, by omega, h1, by omega, h3⟩
    · rintro ⟨a, k, h1, h2, h3, h4⟩
      by_cases ha : a = i
      · subst ha
        exact .inr ⟨k, h2, by omega, h4⟩
      · exact .inl ⟨a, k, by omega, h2, h3, h4⟩
theorem reI_sorted (ts : List T3) (i : Nat) : ∀ j, (reI ts i j).Pairwise lexLt
  | 0 => List.Pairwise.nil
  | j + 1 => by
    unfold reI
    rw [List.pairwise_append]
    refine ⟨reI_sorted ts i j, ?_, fun x hx y hy => ?_⟩
    · unfold reP
      split
      · exact List.pairwise_singleton _ _
      · exact List.Pairwise.nil
    · obtain ⟨k, h1, h2, rfl, _⟩ := (reI_mem j).1 hx
      unfold reP at hy
      split at hy
      · rw [List.mem_singleton] at hy
        subst hy
        refine .inr ⟨rfl, ?_⟩
        show (k : Int) < ((i + 1 + j : Nat) : Int)
        omega
      · cases hy
theorem reE_sorted (ts : List T3) (n : Nat) : ∀ i, i ≤ n → (reE ts n i).Pairwise lexLt
  | 0, _ => List.Pairwise.nil
  | i + 1, hi => by
    unfold reE
    rw [List.pairwise_append]
    refine ⟨reE_sorted ts n i (by omega), reI_sorted ts i _, fun x hx y hy => ?_⟩
    obtain ⟨a, k, h1, _, _, rfl, _⟩ := (reE_mem i (by omega)).1 hx
    obtain ⟨b, _, _, rfl, _⟩ := (reI_mem _).1 hy
    unfold lexLt
    simp only
    omega
theorem reE_edL {l : List Pn} {ts : List T3} (h : NetR l ts) : reE ts l.length l.length = edL ts := by
  have hs := reE_sorted ts l.length l.length (Nat.le_refl _)
  have hns : ∀ {x y : Pn}, lexLt x y → ¬ lexLt y x := fun {x y} h1 h2 => by
    unfold lexLt at h1 h2
    omega
  refine sorted_uniq ?_ (hs.imp hns) ?_
  · refine (List.perm_ext_iff_of_nodup ?_ (edL_nodup h)).2 fun x => ?_
    · unfold List.Nodup
      refine hs.imp fun {x y} h1 e => ?_
      subst e
      exact hns h1 h1
    · rw [reE_mem _ (Nat.le_refl _), edL_mem h]
      constructor
      · rintro ⟨a, k, h1, h2, h3, rfl, h4⟩
        exact ⟨by simp only; omega, h4⟩
      · rintro ⟨h1, h2⟩
        have hx := (edL_mem h).2 ⟨h1, h2⟩
        obtain ⟨⟨r1, r2⟩, r3, r4⟩ := edL_rng h.ok x hx
        refine ⟨x.x.toNat, x.y.toNat, by omega, by omega, by omega, ?_, ?_⟩
        · obtain ⟨a, b⟩ := x
          simp only at r1 r3 ⊢
          rw [Int.toNat_of_nonneg r1, Int.toNat_of_nonneg r3]
        · rw [Int.toNat_of_nonneg r1, Int.toNat_of_nonneg r3]
          exact h2
  · unfold edL
    exact sortE_pair _
end Go.Me
end
/- Chapter 6: the reference's edges and sides of a right net, and its comparison of pairs. -/
section
set_option linter.unusedSimpArgs false
set_option linter.unusedVariables false
section
namespace Go.Me
open Go.Ab Go.Proofs.YtmohcmghbfhdlaaGreat
theorem reP_0 {ts : List T3} {i k : Nat} (h1 : lk (lfA ts) ((i : Int), (k : Int)) < 0) (h2 : lk (lfA ts) ((k : Int), (i : Int)) < 0) : reP ts i k = [] := by
  unfold reP
  have a1 := lk_ge ts ts.length ((i : Int), (k : Int))
  have a2 := lk_ge ts ts.length ((k : Int), (i : Int))
  unfold lfA at *
  rw [if_neg (by omega)]
theorem reP_1 {ts : List T3} {i k : Nat} (h : 0 ≤ lk (lfA ts) ((i : Int), (k : Int)) ∨ 0 ≤ lk (lfA ts) ((k : Int), (i : Int))) : reP ts i k = [⟨i, k⟩] := by
  unfold reP
  rw [if_pos (by omega)]
def reX (ts : List T3) (n i j : Nat) : List Pn := reE ts n i ++ reI ts i j
theorem reX_row {ts : List T3} {n i : Nat} (h : i < n) : reX ts n i (n - 1 - i) = reX ts n (i + 1) 0 := by
  unfold reX
  show _ = (reE ts n i ++ reI ts i (n - 1 - i)) ++ []
  rw [List.append_nil]
theorem reX_step {ts : List T3} {n i j : Nat} : reX ts n i (j + 1) = reX ts n i j ++ reP ts i (i + 1 + j) := by
  unfold reX
  show _ ++ (reI ts i j ++ _) = _
  rw [List.append_assoc]
theorem reP_len (ts : List T3) (i k : Nat) : (reP ts i k).length ≤ 1 := by
  unfold reP
  split <;> simp
theorem reI_len (ts : List T3) (i : Nat) : ∀ j, (reI ts i j).length ≤ j
  | 0 => Nat.le_refl _
  | j + 1 => by
    unfold reI
    have := reI_len ts i j
    have := reP_len ts i (i + 1 + j)
    rw [List.length_append]
    omega
theorem reE_len (ts : List T3) (n : Nat) : ∀ i, (reE ts n i).length ≤ n * i
  | 0 => Nat.le_refl _
  | i + 1 => by
    unfold reE
    have := reE_len ts n i
    have := reI_len ts i (n - 1 - i)
    rw [List.length_append, Nat.mul_succ]
    omega
theorem reX_len (ts : List T3) {n i j : Nat} (hn : n ≤ 40) (hi : i ≤ n) (hj : j ≤ n) : (reX ts n i j).length ≤ 2000 := by
  unfold reX
  rw [List.length_append]
  have h1 := reE_len ts n i
  have h2 := reI_len ts i j
  have h3 : n * i ≤ 40 * 40 := Nat.mul_le_mul hn (by omega)
  omega
end Go.Me
namespace Go.Proofs.YtmohcmghbfhdlaaGreat
open Go Go.RowKit Go.Ab Go.Me
set_option maxRecDepth 100000
set_option maxHeartbeats 4000000
attribute [local irreducible] OQ OW AL AW AF SW
theorem rSides_0 (l : List Pn) (ts : List T3) (hR : NetR l ts) (c c2 : Nat) (hEd : ∀ (m : Mem) (A B : Blk) (a1 : m.at 0 = some A) (a2 : A.cells = flatP l) (b1 : m.at 1 = some B) (b2 : B.cells = flatT ts) (a3 : A.obj = Ob.plain) (b3 : B.obj = Ob.plain) (a4 : A.esz = 0) (b4 : B.esz = 0), ACalls Tryz.prog 31 [.agg #[.slice (some ⟨0, 0, none⟩) l.length c, .slice (some ⟨1, 0, none⟩) ts.length c2]] m (.slice (some ⟨m.length, 0, none⟩) (edL ts).length INF) (m ++ [some ⟨flatP (edL ts), true, 2⟩])) :
    ACalls Tryz.prog 32 [.agg #[.slice (some ⟨0, 0, none⟩) l.length c, .slice (some ⟨1, 0, none⟩) ts.length c2]] [some ⟨flatP l, false, 0⟩, some ⟨flatT ts, false, 0⟩] (.slice (some ⟨2, 0, none⟩) (edL ts).length INF) [some ⟨flatP l, false, 0⟩, some ⟨flatT ts, false, 0⟩, some ⟨flatP (sdL ts), true, 2⟩] := by
  have hh : ∀ (a b : Int) (m : Mem) (blk : Blk) (h1 : m.at 1 = some blk) (h2 : blk.cells = flatT ts) (h3 : blk.obj = Ob.plain), PCalls Tryz.prog 75 [.slice (some ⟨1, 0, none⟩) ts.length c2, .int .i64 a, .int .i64 b] m (.int .i64 (lk (lfA ts) (a, b))) := fun a b m blk h1 h2 h3 => has_q (c := c2) ts (Nat.le_refl _) (by have := hR.le; omega) a b h1 h2 h3
  have hps : ∀ k, k < (edL ts).length → (flatP (edL ts))[k * 2]? = some (.int .i64 (pt (edL ts) k).x) ∧ (flatP (edL ts))[k * 2 + 1]? = some (.int .i64 (pt (edL ts) k).y) := fun k hk => flatP_get (edL ts) k hk
  have hpos := edL_pos hR
  have hle := edL_le ts
  have h80 := hR.le
  have hsd : ∀ k, k < (edL ts).length → flatP ((sdL ts).take k) ++ [.int .i64 (lk (lfA ts) ((pt (edL ts) k).x, (pt (edL ts) k).y)), .int .i64 (lk (lfA ts) ((pt (edL ts) k).y, (pt (edL ts) k).x))] = flatP ((sdL ts).take (k + 1)) := fun k hk => by
    have := flatP_take (es := sdL ts) (k := k) (by rw [sdL_len]; exact hk)
    rw [sdL_pt hk] at this
    exact this
  have hfl : ∀ k, k ≤ (edL ts).length → (flatP ((sdL ts).take k)).length = k * 2 := fun k hk => by rw [flatP_len, List.length_take, sdL_len, Nat.min_eq_left hk]
  have htl : (sdL ts).take (edL ts).length = sdL ts := by rw [← sdL_len, List.take_length]
  refine ACalls.en 44 Tryz.func32 rfl rfl (fun E hE => ?_)
  repeat' (first | with_reducible (first | refine Then.n ?_ | refine Then.x ?_ | refine InB.n ?_ | refine InB.hit ?_) | ((with_reducible refine AL.on ?_); first | ((first | refine AL.mv ?_ | refine AL.as ?_ | ((with_reducible refine AL.k_load ?_); refine AL.g (OQ.loadN (ty := 25) (n := 2) rfl kr kr (by rfl)) ?_) | ((with_reducible refine AL.k_call ?_); refine AL.g (OQ.lenS (xt := 45) (r := (none, 2, true)) rfl kr) ?_) | ((with_reducible refine AL.k_binOp ?_); first | refine AL.g (OQ.lss rfl rfl) ?_ | refine AL.g (OQ.addi rfl rfl (by omega)) ?_)); refine AL.nm ?_) | ((first | ((with_reducible refine AL.k_call ?_); first | refine AL.acall (g := 31) rfl kr rfl ((by exact hEd _ _ _ rfl rfl rfl rfl rfl rfl rfl rfl)) ?_ | refine AL.w rfl (by first | exact OW.appendNil (e := 52) (z := 2) (zs := [.int .i64 0, .int .i64 0]) (by' := 16) rfl rfl kr kr kr rfl kr (by decide) rfl (by decide) (by decide) | exact OW.appendL (e := 52) (z := 2) (zs := [.int .i64 0, .int .i64 0]) (by' := 16) rfl rfl kr kr kr rfl kr (by decide) rfl rfl rfl (by decide) (by exact hfl k (by omega)) rfl rfl (by omega) (by omega)) ?_) | refine AL.bx ?_); refine AL.nm ?_; refine AL.nM ?_) | refine AL.nil ?_) | ((with_reducible refine AW.on ?_); first | refine AW.seq ?_ | refine AW.skip ?_ | refine AW.exit ?_ | refine AW.ret ?_ | ((refine AW.block (id := 0) ?_); (refine AW.fk [1, 3, 4, 5] ?_); (refine AW.loop (fun n' t' m => ∃ k : Nat, n' = (edL ts).length - k ∧ k ≤ (edL ts).length ∧ ((k = 0 ∧ t' = [jk, .pointer (some ⟨2, 0, none⟩), jk, .slice none 0 0, .slice (some ⟨3, 0, none⟩) ((edL ts).length) INF, .int .i64 (k), jk, jk, jk, jk, jk, jk, jk, jk, jk, jk, jk, jk, jk, jk, jk, jk, jk, jk, jk, jk, jk, jk, jk, jk, jk, jk, jk, jk, jk, jk, jk, jk, jk, jk, jk, jk, jk, jk, jk] ∧ m = [some ⟨flatP l, false, 0⟩, some ⟨flatT ts, false, 0⟩, some ⟨[.slice (some ⟨0, 0, none⟩) l.length c, .slice (some ⟨1, 0, none⟩) ts.length c2], true, 0⟩, some ⟨flatP (edL ts), true, 2⟩]) ∨ (0 < k ∧ t' = [jk, .pointer (some ⟨2, 0, none⟩), jk, .slice (some ⟨4, 0, none⟩) (k) INF, .slice (some ⟨3, 0, none⟩) ((edL ts).length) INF, .int .i64 (k), jk, jk, jk, jk, jk, jk, jk, jk, jk, jk, jk, jk, jk, jk, jk, jk, jk, jk, jk, jk, jk, jk, jk, jk, jk, jk, jk, jk, jk, jk, jk, jk, jk, jk, jk, jk, jk, jk, jk] ∧ m = [some ⟨flatP l, false, 0⟩, some ⟨flatT ts, false, 0⟩, some ⟨[.slice (some ⟨0, 0, none⟩) l.length c, .slice (some ⟨1, 0, none⟩) ts.length c2], true, 0⟩, some ⟨flatP (edL ts), true, 2⟩, some ⟨flatP ((sdL ts).take k), true, 2⟩]))) ((edL ts).length) (by exact ⟨0, rfl, Nat.zero_le _, .inl ⟨rfl, rfl, rfl⟩⟩) ?_); (rintro n' t' m ⟨k, rfl, hk, (⟨hk0, rfl, rfl⟩ | ⟨hk1, rfl, rfl⟩)⟩)) | refine AW.block ?_ | (refine AW.drawF (id := 6) 29 #[0, 0, 2, 0, 0, 24, 56, 120, 0, 0, 768, 1792, 3840, 8190, 0, 16384, 0, 0, 196608, 458752, 983040, 0, 0, 6291456, 14680064, 31457280, 67108862, 134217726, 268435454, 536870911, 1073741823] kr kr ?_; (conv => (arg 8; simp only [List.take_succ_cons, List.take_zero]))) | refine AW.region ?_ | (refine AW.conds rfl (fun hc => ?_) (fun hc => ?_) <;> (try replace hc := nc hc) <;> first | (exfalso; ((omega); done)) | skip)) | ((with_reducible refine AF.on ?_); first | ((first | ((with_reducible refine AF.k_move ?_); (refine AF.q 0 (SW.q (OQ.move wl) rfl) ?_)) | ((with_reducible refine AF.k_indexAddr ?_); first | refine AF.q 0 (SW.q (OQ.idxAddr (ty := 45) (z := 2) (g := true) rfl rfl kr (by omega) (by omega)) rfl) ?_ | refine AF.q 0 (SW.q (OQ.idxPtr (ty := 52) (n := 1) (l := 2) (g := false) rfl rfl kr (by omega) (by omega)) rfl) ?_) | ((with_reducible refine AF.k_load ?_); first | (refine AF.ql rfl (SW.q (OQ.load1 (ty := 23) rfl kr (by (conv => lhs; whnf))) rfl) ?_) | (refine AF.ql rfl (SW.q (OQ.load1 (ty := 3) rfl kr (by (first | exact (hps k (by omega)).1 | exact (hps k (by omega)).2))) rfl) ?_)) | ((with_reducible refine AF.k_call ?_); refine AF.q 2 (SW.pcall (g := 75) rfl kr rfl ((by exact hh _ _ _ _ rfl rfl rfl)) rfl) ?_) | ((with_reducible refine AF.k_fieldAddr ?_); refine AF.q 0 (SW.q (OQ.fieldA (ty := 25) (i := 1) (n := 1) (off := 1) (g := false) rfl kr (by decide)) rfl) ?_) | ((with_reducible refine AF.k_build ?_); refine AF.q 0 (SW.q (OQ.buildA (ty := 52) (zs := [.int .i64 0, .int .i64 0]) (n := 1) (k := 2) (g := false) kr rfl kr rfl rfl rfl) rfl) ?_)); refine AF.nm ?_) | ((refine AF.n1 0 (SW.w (OW.buildSl (ty := 45) (zs := [.int .i64 0, .int .i64 0]) (n := 2) (g := true) kr kr rfl rfl rfl (by decide) (by decide) rfl rfl) rfl) rfl ?_); refine AF.nm ?_; (conv => (arg 10; try tactic => exact nrmF))) | refine AF.nl ?_) | ((with_reducible refine ex_on ?_); first | (obtain rfl := hk0; have hf0 := hsd 0 (by omega); refine ⟨(edL ts).length - 1, [jk, .pointer (some ⟨2, 0, none⟩), jk, .slice (some ⟨4, 0, none⟩) (1) INF, .slice (some ⟨3, 0, none⟩) ((edL ts).length) INF, .int .i64 (((0 + 1 : Nat) : Int)), jk, jk, jk, jk, jk, jk, jk, jk, jk, jk, jk, jk, jk, jk, jk, jk, jk, jk, jk, jk, jk, jk, jk, jk, jk, jk, jk, jk, jk, jk, jk, jk, jk, jk, jk, jk, jk, jk, jk], [some ⟨flatP l, false, 0⟩, some ⟨flatT ts, false, 0⟩, some ⟨[.slice (some ⟨0, 0, none⟩) l.length c, .slice (some ⟨1, 0, none⟩) ts.length c2], true, 0⟩, some ⟨flatP (edL ts), true, 2⟩, some ⟨[.int .i64 (lk (lfA ts) ((pt (edL ts) 0).x, (pt (edL ts) 0).y)), .int .i64 (lk (lfA ts) ((pt (edL ts) 0).y, (pt (edL ts) 0).x))], true, 2⟩], by omega, ?_, 0 + 1, rfl, by omega, .inr ⟨by omega, rfl, by rw [← hf0]; rfl⟩⟩; exact Wk.keep 4 [5] (by rw [hE]; exact Nat.le_of_ble_eq_true rfl) rfl rfl (by repeat (first | exact RenT.nil | refine RenT.jk ?_ | refine RenT.val (by rfl) (by rfl) ?_)) ⟨kl rfl (flatP_scal l), kl rfl (flatT_scal ts), ki rfl, kl rfl (flatP_scal _), kl rfl rfl, trivial⟩) | (have hf0 := hsd k (by omega); refine ⟨(edL ts).length - (k + 1), [jk, .pointer (some ⟨2, 0, none⟩), jk, .slice (some ⟨4, 0, none⟩) (k + 1) INF, .slice (some ⟨3, 0, none⟩) ((edL ts).length) INF, .int .i64 (((k + 1 : Nat) : Int)), jk, jk, jk, jk, jk, jk, jk, jk, jk, jk, jk, jk, jk, jk, jk, jk, jk, jk, jk, jk, jk, jk, jk, jk, jk, jk, jk, jk, jk, jk, jk, jk, jk, jk, jk, jk, jk, jk, jk], [some ⟨flatP l, false, 0⟩, some ⟨flatT ts, false, 0⟩, some ⟨[.slice (some ⟨0, 0, none⟩) l.length c, .slice (some ⟨1, 0, none⟩) ts.length c2], true, 0⟩, some ⟨flatP (edL ts), true, 2⟩, some ⟨flatP ((sdL ts).take k) ++ [.int .i64 (lk (lfA ts) ((pt (edL ts) k).x, (pt (edL ts) k).y)), .int .i64 (lk (lfA ts) ((pt (edL ts) k).y, (pt (edL ts) k).x))], true, 2⟩], by omega, ?_, k + 1, rfl, by omega, .inr ⟨by omega, rfl, by rw [← hf0]⟩⟩; exact Wk.keep 4 [6] (by rw [hE]; exact Nat.le_of_ble_eq_true rfl) rfl rfl (by repeat (first | exact RenT.nil | refine RenT.jk ?_ | refine RenT.val (by rfl) (by rfl) ?_)) ⟨kl rfl (flatP_scal l), kl rfl (flatT_scal ts), ki rfl, kl rfl (flatP_scal _), ⟨_, rfl, rfl, rfl, .inl ⟨rfl, by rw [List.all_append, flatP_scal]; rfl⟩⟩, trivial⟩)) | ((with_reducible refine FinA.on ?_); (obtain rfl : k = (edL ts).length := (by omega); rw [htl]; refine FinA.keep 2 [4] (.inl rfl) (.tmp wl .nil) ?_ rfl (Nat.le_of_eq hE) rfl rfl ⟨kl rfl (flatP_scal l), kl rfl (flatT_scal ts), kl rfl (flatP_scal _), trivial⟩; rfl)))
end Go.Proofs.YtmohcmghbfhdlaaGreat
end
end
