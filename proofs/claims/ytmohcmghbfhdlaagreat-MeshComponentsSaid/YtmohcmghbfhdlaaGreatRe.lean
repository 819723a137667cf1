/- Chapter 6: components of points (the program's). -/
import Derived.Test.YtmohcmghbfhdlaaGreatQd
import Derived.Test.YtmohcmghbfhdlaaGreatRd
import Derived.Test.YtmohcmghbfhdlaaGreatQq
import Derived.Test.YtmohcmghbfhdlaaGreatQf
section
set_option linter.unusedSimpArgs false
set_option linter.unusedVariables false
section
namespace Go.Me
open Go.Ab
def flatL (bs : List Bool) : List Value := bs.map fun b => .bool b
theorem flatL_len (bs : List Bool) : (flatL bs).length = bs.length := List.length_map _
theorem flatL_scal (bs : List Bool) : (flatL bs).all Ab.scal = true := by
  rw [List.all_eq_true]
  intro x hx
  unfold flatL at hx
  obtain ⟨b, _, rfl⟩ := List.mem_map.1 hx
  rfl
theorem flatL_get {bs : List Bool} {k : Nat} (h : k < bs.length) : (flatL bs)[k]? = some (.bool (kpB bs k)) := by
  unfold flatL kpB
  rw [List.getElem?_map, List.getD_eq_getElem?_getD, List.getElem?_eq_getElem h]
  rfl
theorem flatL_T {bs : List Bool} {k : Nat} (h : k < bs.length) (h2 : kpB bs k = true) : (flatL bs)[k]? = some (.bool true) := by rw [flatL_get h, h2]
theorem flatL_F {bs : List Bool} {k : Nat} (h : k < bs.length) (h2 : ¬ kpB bs k = true) : (flatL bs)[k]? = some (.bool false) := by rw [flatL_get h, Bool.eq_false_iff.2 h2]
theorem flatL_nil (bs : List Bool) : flatL bs = [] ↔ bs.length = 0 := by
  rw [← List.length_eq_zero_iff, flatL_len]
theorem flatL_one (bs : List Bool) : (flatL bs).all Ab.one = true := Ls.one_of_scal (flatL_scal bs)
end Go.Me
namespace Go.Proofs.YtmohcmghbfhdlaaGreat
open Go Go.RowKit Go.Ab Go.Me
set_option maxRecDepth 100000
set_option maxHeartbeats 4000000
attribute [local irreducible] OQ OW AL AW AF SW
theorem Components_y0 (l : List Pn) (ts : List T3) (bs : List Bool) (hR : NetR l ts) (hbl : bs.length = (edL ts).length) (c c2 c3 z z1 z2 : Nat) (hz : z = 0 ∨ z = 2) :
    ACalls Tryz.prog 35 [.agg #[.slice (some ⟨0, 0, none⟩) l.length c, .slice (some ⟨1, 0, none⟩) ts.length c2], .slice (some ⟨2, 0, none⟩) bs.length c3] [some ⟨flatP l, false, z⟩, some ⟨flatT ts, false, z1⟩, some ⟨flatL bs, false, z2⟩] (.tuple #[.slice (some ⟨3, 0, none⟩) l.length INF, .int .i64 0]) [some ⟨flatP l, false, z⟩, some ⟨flatT ts, false, z1⟩, some ⟨flatL bs, false, z2⟩, some ⟨flatN (cmE (edL ts) bs l.length (edL ts).length), true, 1⟩] := by
  have h2l := two_of hR.all hR.g.1
  have h40 := (cp_ok hR.cp).1
  have hpos := edL_pos hR
  have hle := edL_le ts
  have h80 := hR.le
  have hy := fun (m : Mem) (hA : ArgN m 0 1 l ts) => open_y (c := c) (c2 := c2) l ts hA rfl rfl hR
  have her := fun k hk => edL_at hR.ok k hk
  have hft := fun (k : Nat) (hk : k < l.length) => flatN_take (xs := ioL l.length) (k := k) (by rw [ioL_len]; exact hk)
  have hio := fun (k : Nat) (hk : k < l.length) => ioL_nt hk
  have hfl : ∀ k, k ≤ l.length → (flatN ((ioL l.length).take k)).length = k * 1 := fun k hk => by rw [flatN_len, List.length_take, ioL_len, Nat.min_eq_left hk, Nat.mul_one]
  have htl : (ioL l.length).take l.length = ioL l.length := by
    have h := List.take_length (l := ioL l.length)
    rwa [ioL_len] at h
  have hT := fun (k : Nat) (hk : k < (edL ts).length) (h : kpB bs k = true) => flatL_T (by omega : k < bs.length) h
  have hF := fun (k : Nat) (hk : k < (edL ts).length) (h : ¬ kpB bs k = true) => flatL_F (by omega : k < bs.length) h
  have hE0 : cmE (edL ts) bs l.length 0 = ioL l.length := rfl
  have hEs : ∀ i, cmE (edL ts) bs l.length (i + 1) = cmS (edL ts) bs l.length i l.length := fun i => rfl
  have hS0 : ∀ i, cmS (edL ts) bs l.length i 0 = cmE (edL ts) bs l.length i := fun i => rfl
  have hSl : ∀ i k, (flatN (cmS (edL ts) bs l.length i k)).length = l.length := fun i k => by rw [flatN_len, cmS_len]
  have hgE : ∀ i k, k < l.length → (flatN (cmE (edL ts) bs l.length i))[k]? = some (.int .i64 (nt (cmE (edL ts) bs l.length i) k)) := fun i k hk => flatN_get _ k (by rw [cmE_len]; exact hk)
  have hgS : ∀ i k, k < l.length → (flatN (cmS (edL ts) bs l.length i k))[k]? = some (.int .i64 (nt (cmE (edL ts) bs l.length i) k)) := fun i k hk => by
    rw [flatN_get _ k (by rw [cmS_len]; exact hk), cmS_at hk]
  have hSy : ∀ i k, kpB bs i = true → nt (cmE (edL ts) bs l.length i) k = (if nt (cmE (edL ts) bs l.length i) (pt (edL ts) i).y.toNat > nt (cmE (edL ts) bs l.length i) (pt (edL ts) i).x.toNat then nt (cmE (edL ts) bs l.length i) (pt (edL ts) i).y.toNat else nt (cmE (edL ts) bs l.length i) (pt (edL ts) i).x.toNat) → flatN (cmS (edL ts) bs l.length i (k + 1)) = (flatN (cmS (edL ts) bs l.length i k)).set k (.int .i64 (if nt (cmE (edL ts) bs l.length i) (pt (edL ts) i).y.toNat < nt (cmE (edL ts) bs l.length i) (pt (edL ts) i).x.toNat then nt (cmE (edL ts) bs l.length i) (pt (edL ts) i).y.toNat else nt (cmE (edL ts) bs l.length i) (pt (edL ts) i).x.toNat)) := fun i k h1 h2 => by
    rw [cmS_y h1 h2]
    exact flatN_set _ _ _
  have hSn : ∀ i k, k < l.length → ¬ (kpB bs i = true ∧ nt (cmE (edL ts) bs l.length i) k = (if nt (cmE (edL ts) bs l.length i) (pt (edL ts) i).y.toNat > nt (cmE (edL ts) bs l.length i) (pt (edL ts) i).x.toNat then nt (cmE (edL ts) bs l.length i) (pt (edL ts) i).y.toNat else nt (cmE (edL ts) bs l.length i) (pt (edL ts) i).x.toNat)) → cmS (edL ts) bs l.length i (k + 1) = cmS (edL ts) bs l.length i k := fun i k h1 h2 => cmS_n h1 h2
  rw [← hbl] at hT hF
  rw [hbl]
  rw [hbl] at hT hF
  generalize cmE (edL ts) bs l.length = CE at *
  generalize cmS (edL ts) bs l.length = CS at *
  refine ACalls.en 92 Tryz.func35 rfl rfl (fun E hE => ?_)
  repeat' (first | with_reducible (first | refine Then.n ?_ | refine Then.x ?_ | refine InB.n ?_ | refine InB.hit ?_) | ((with_reducible refine AL.on ?_); first | (refine AL.gd rfl ?_; (refine AL.gs1 rfl rfl (fun hc => ?_) (fun hc => ?_) <;> (try replace hc := nc hc) <;> first | (exfalso; contradiction) | (refine AL.nm ?_))) | ((first | ((with_reducible refine AL.k_move ?_); (refine AL.q rfl (OQ.move wl) ?_)) | ((with_reducible refine AL.k_assign ?_); (refine AL.q rfl (OQ.assign wl) ?_)) | ((with_reducible refine AL.k_load ?_); first | refine AL.q rfl (OQ.loadN (ty := 25) (n := 2) rfl kr kr (by rfl)) ?_ | (refine AL.q rfl (OQ.load1 (ty := 45) rfl kr (by (conv => lhs; whnf))) ?_) | (refine AL.q rfl (OQ.load1 (ty := 22) rfl kr (by (conv => lhs; whnf))) ?_) | refine AL.q rfl (OQ.loadN (ty := 52) (n := 2) rfl kr kr (by (exact flatP_ld rfl rfl _ (by omega)))) ?_ | (refine AL.q rfl (OQ.load1 (ty := 3) rfl kr (by first | (exact hgS i j (by omega)) | (conv => lhs; whnf))) ?_) | (refine AL.q rfl (OQ.load1 (ty := 4) rfl kr (by (first | exact hT i (by omega) (by assumption) | exact hF i (by omega) (by assumption)))) ?_)) | ((with_reducible refine AL.k_binOp ?_); first | refine AL.q rfl (OQ.neq rfl rfl) ?_ | refine AL.q rfl (OQ.lss rfl rfl) ?_ | refine AL.q rfl (OQ.addi rfl rfl (by omega)) ?_ | refine AL.q rfl (OQ.eql rfl rfl) ?_) | ((with_reducible refine AL.k_call ?_); first | refine AL.q rfl (OQ.lenS (xt := 54) (r := (none, 1, false)) rfl kr) ?_ | refine AL.q rfl (OQ.lenS (xt := 45) (r := (none, 2, true)) rfl kr) ?_ | refine AL.q rfl (OQ.lenS (xt := 22) (r := (none, 2, true)) rfl kr) ?_ | refine AL.q rfl (OQ.lenS (xt := 26) (r := (none, 1, false)) rfl kr) ?_ | refine AL.q rfl (OQ.max2 rfl rfl) ?_ | refine AL.q rfl (OQ.min2 rfl rfl) ?_) | ((with_reducible refine AL.k_extract ?_); refine AL.q rfl (OQ.extract rfl rfl) ?_) | ((with_reducible refine AL.k_pick ?_); first | (refine AL.q rfl (OQ.pickT rfl (by with_reducible rfl) wl) ?_) | (refine AL.q rfl (OQ.pickF rfl (by with_reducible rfl) wl) ?_)) | refine AL.q rfl (OQ.nilCheck rfl) ?_); (refine AL.nm ?_)) | ((first | ((with_reducible refine AL.k_indexAddr ?_); first | refine AL.q rfl (OQ.idxAddr (ty := 45) (z := 2) (g := true) rfl rfl kr (by omega) (by omega)) ?_ | refine AL.q rfl (OQ.idxAddr (ty := 26) (z := 1) (g := false) rfl rfl kr (by omega) (by omega)) ?_ | refine AL.q rfl (OQ.idxAddr (ty := 54) (z := 1) (g := false) rfl rfl kr (by omega) (by omega)) ?_) | ((with_reducible refine AL.k_fieldAddr ?_); first | refine AL.q rfl (OQ.fieldA (ty := 110) (i := 1) (n := 1) (off := 2) (g := false) rfl kr (by decide)) ?_ | refine AL.q rfl (OQ.fieldA (ty := 25) (i := 0) (n := 1) (off := 0) (g := false) rfl kr (by decide)) ?_)); (refine AL.nm ?_)) | ((first | ((with_reducible refine AL.k_call ?_); first | refine AL.acall (g := 71) rfl kr rfl ((by exact hy _ ⟨⟨_, rfl, rfl, hz, rfl⟩, ⟨_, rfl, rfl, rfl⟩, by decide⟩)) ?_ | refine AL.w rfl (by first | exact OW.appendNil (e := 3) (z := 1) (zs := [.int .i64 0]) (by' := 8) rfl rfl kr kr kr rfl kr (by decide) rfl (by decide) (by decide) | exact OW.appendL (e := 3) (z := 1) (zs := [.int .i64 0]) (by' := 8) rfl rfl kr kr kr rfl kr (by decide) rfl rfl rfl (by decide) (by exact hfl k (by omega)) rfl rfl (by omega) (by omega)) ?_) | ((with_reducible refine AL.k_store ?_); first | (refine AL.w rfl (OW.store (ty := 52) (n := 2) rfl wl rfl rfl kr rfl rfl (by decide) rfl (by exact Nat.le_of_ble_eq_true rfl) (by intro r h; cases h)) ?_) | (refine AL.w rfl (OW.store (ty := 3) (n := 1) rfl wl rfl rfl kr rfl rfl (by decide) rfl (by (((simp only [List.length_set, hSl]; omega)))) (by intro r h; cases h)) ?_)) | ((with_reducible refine AL.k_box ?_); (refine AL.w rfl (OW.box wl (by intro r h; cases h)) ?_)) | ((with_reducible refine AL.k_buildSlice ?_); refine AL.w rfl (OW.buildSl (ty := 26) (zs := [.int .i64 0]) (n := 1) (g := false) kr kr rfl rfl rfl (by decide) (by decide) rfl rfl) ?_) | ((with_reducible refine AL.k_alloc ?_); refine AL.w rfl (OW.alloc (ty := 52) (z := [.int .i64 0, .int .i64 0]) kr rfl) ?_)); (refine AL.nm ?_); (refine AL.nM ?_)) | refine AL.nil ?_) | ((with_reducible refine AW.on ?_); first | refine AW.seq ?_ | refine AW.skip ?_ | refine AW.exit ?_ | refine AW.ret ?_ | ((refine AW.block (id := 1) ?_); (refine AW.fk [1, 6, 9, 38, 39] ?_); (refine AW.loop (fun n' t' m => ∃ k : Nat, n' = l.length - k ∧ k ≤ l.length ∧ ((k = 0 ∧ t' = [jk, .slice (some ⟨2, 0, none⟩) (edL ts).length c3, jk, jk, jk, jk, .pointer (some ⟨4, 0, none⟩), jk, jk, .slice none 0 0, jk, jk, jk, jk, jk, jk, jk, jk, jk, jk, jk, jk, jk, jk, jk, jk, jk, jk, jk, jk, jk, jk, jk, jk, jk, jk, jk, jk, .int .i64 (l.length), .int .i64 (k), jk, jk, jk, jk, jk, jk, jk, jk, jk, jk, jk, jk, jk, jk, jk, jk, jk, jk, jk, jk, jk, jk, jk, jk, jk, jk, jk, jk, jk, jk, jk, jk, jk, jk, jk, jk, jk, jk, jk, jk, jk, jk, jk, jk, jk, jk, jk, jk, jk, jk, jk, jk, jk, jk] ∧ m = [some ⟨flatP l, false, z⟩, some ⟨flatT ts, false, z1⟩, some ⟨flatL bs, false, z2⟩, some ⟨[.slice (some ⟨0, 0, none⟩) l.length c, .slice (some ⟨1, 0, none⟩) ts.length c2], true, 0⟩, some ⟨[.slice (some ⟨0, 0, none⟩) l.length c, .slice (some ⟨1, 0, none⟩) ts.length c2, .slice (some ⟨6, 0, none⟩) (edL ts).length INF, .map (some 5)], true, 0⟩, some (mpX (lfA ts) true 0), some ⟨flatP (edL ts), true, 2⟩]) ∨ (0 < k ∧ t' = [jk, .slice (some ⟨2, 0, none⟩) (edL ts).length c3, jk, jk, jk, jk, .pointer (some ⟨4, 0, none⟩), jk, jk, .slice (some ⟨7, 0, none⟩) (k) INF, jk, jk, jk, jk, jk, jk, jk, jk, jk, jk, jk, jk, jk, jk, jk, jk, jk, jk, jk, jk, jk, jk, jk, jk, jk, jk, jk, jk, .int .i64 (l.length), .int .i64 (k), jk, jk, jk, jk, jk, jk, jk, jk, jk, jk, jk, jk, jk, jk, jk, jk, jk, jk, jk, jk, jk, jk, jk, jk, jk, jk, jk, jk, jk, jk, jk, jk, jk, jk, jk, jk, jk, jk, jk, jk, jk, jk, jk, jk, jk, jk, jk, jk, jk, jk, jk, jk, jk, jk] ∧ m = [some ⟨flatP l, false, z⟩, some ⟨flatT ts, false, z1⟩, some ⟨flatL bs, false, z2⟩, some ⟨[.slice (some ⟨0, 0, none⟩) l.length c, .slice (some ⟨1, 0, none⟩) ts.length c2], true, 0⟩, some ⟨[.slice (some ⟨0, 0, none⟩) l.length c, .slice (some ⟨1, 0, none⟩) ts.length c2, .slice (some ⟨6, 0, none⟩) (edL ts).length INF, .map (some 5)], true, 0⟩, some (mpX (lfA ts) true 0), some ⟨flatP (edL ts), true, 2⟩, some ⟨flatN ((ioL l.length).take k), true, 1⟩]))) (l.length) (by exact ⟨0, rfl, Nat.zero_le _, .inl ⟨rfl, rfl, rfl⟩⟩) ?_); (rintro n' t' m ⟨k, rfl, hk, (⟨hk0, rfl, rfl⟩ | ⟨hk1, rfl, rfl⟩)⟩)) | ((refine AW.block (id := 3) ?_); (refine AW.fk [1, 9, 50, 51, 52] ?_); (refine AW.loop (fun n' t' m => ∃ i : Nat, n' = (edL ts).length - i ∧ i ≤ (edL ts).length ∧ t' = [jk, .slice (some ⟨2, 0, none⟩) (edL ts).length c3, jk, jk, jk, jk, jk, jk, jk, .slice (some ⟨7, 0, none⟩) (l.length) INF, jk, jk, jk, jk, jk, jk, jk, jk, jk, jk, jk, jk, jk, jk, jk, jk, jk, jk, jk, jk, jk, jk, jk, jk, jk, jk, jk, jk, jk, jk, jk, jk, jk, jk, jk, jk, jk, jk, jk, jk, .slice (some ⟨6, 0, none⟩) ((edL ts).length) INF, .int .i64 ((edL ts).length), .int .i64 (i), jk, jk, jk, jk, jk, jk, jk, jk, jk, jk, jk, jk, jk, jk, jk, jk, jk, jk, jk, jk, jk, jk, jk, jk, jk, jk, jk, jk, jk, jk, jk, jk, jk, jk, jk, jk, jk, jk, jk, jk, jk] ∧ m = [some ⟨flatP l, false, z⟩, some ⟨flatT ts, false, z1⟩, some ⟨flatL bs, false, z2⟩, some ⟨[.slice (some ⟨0, 0, none⟩) l.length c, .slice (some ⟨1, 0, none⟩) ts.length c2], true, 0⟩, some ⟨[.slice (some ⟨0, 0, none⟩) l.length c, .slice (some ⟨1, 0, none⟩) ts.length c2, .slice (some ⟨6, 0, none⟩) (edL ts).length INF, .map (some 5)], true, 0⟩, some (mpX (lfA ts) true 0), some ⟨flatP (edL ts), true, 2⟩, some ⟨flatN (CE i), true, 1⟩]) ((edL ts).length) (by exact ⟨0, rfl, Nat.zero_le _, rfl, rfl⟩) ?_); (rintro n' t' m ⟨i, rfl, hi, rfl, rfl⟩)) | ((refine AW.block (id := 5) ?_); (refine AW.fk [1, 9, 11, 13, 14, 50, 51, 52, 67, 68, 69] ?_); (refine AW.loop (fun n' t' m => ∃ j : Nat, n' = l.length - j ∧ j ≤ l.length ∧ t' = [jk, .slice (some ⟨2, 0, none⟩) (edL ts).length c3, jk, jk, jk, jk, jk, jk, jk, .slice (some ⟨7, 0, none⟩) (l.length) INF, jk, .int .i64 (i), jk, .int .i64 (nt (CE i) (pt (edL ts) i).x.toNat), .int .i64 (nt (CE i) (pt (edL ts) i).y.toNat), jk, jk, jk, jk, jk, jk, jk, jk, jk, jk, jk, jk, jk, jk, jk, jk, jk, jk, jk, jk, jk, jk, jk, jk, jk, jk, jk, jk, jk, jk, jk, jk, jk, jk, jk, .slice (some ⟨6, 0, none⟩) ((edL ts).length) INF, .int .i64 ((edL ts).length), .int .i64 (i), jk, jk, jk, jk, jk, jk, jk, jk, jk, jk, jk, jk, jk, jk, .slice (some ⟨7, 0, none⟩) (l.length) INF, .int .i64 (l.length), .int .i64 (j), jk, jk, jk, jk, jk, jk, jk, jk, jk, jk, jk, jk, jk, jk, jk, jk, jk, jk, jk, jk, jk, jk, jk, jk] ∧ m = [some ⟨flatP l, false, z⟩, some ⟨flatT ts, false, z1⟩, some ⟨flatL bs, false, z2⟩, some ⟨[.slice (some ⟨0, 0, none⟩) l.length c, .slice (some ⟨1, 0, none⟩) ts.length c2], true, 0⟩, some ⟨[.slice (some ⟨0, 0, none⟩) l.length c, .slice (some ⟨1, 0, none⟩) ts.length c2, .slice (some ⟨6, 0, none⟩) (edL ts).length INF, .map (some 5)], true, 0⟩, some (mpX (lfA ts) true 0), some ⟨flatP (edL ts), true, 2⟩, some ⟨flatN (CS i j), true, 1⟩, some ⟨[.int .i64 (pt (edL ts) i).x, .int .i64 (pt (edL ts) i).y], true, 0⟩]) (l.length) (by exact ⟨0, rfl, Nat.zero_le _, rfl, by rw [hS0]⟩) ?_); (rintro n' t' m ⟨j, rfl, hj, rfl, rfl⟩)) | refine AW.block ?_ | (refine AW.drawF (id := 15) 11 #[0, 0, 2, 7, 15, 0, 0, 64, 224, 480, 31, 2047] kr kr ?_; (conv => (arg 8; simp only [List.take_succ_cons, List.take_zero]))) | (refine AW.region (id := 12) ?_; ((obtain rfl : k = l.length := (by omega); rw [htl, ← hE0]))) | (refine AW.region (id := 14) ?_; ((have hq := her i (by omega)))) | (refine AW.region (id := 19) ?_; ((rcases Classical.em (kpB bs i = true) with hkt | hkt))) | refine AW.region ?_ | (refine AW.conds rfl (fun hc => ?_) (fun hc => ?_) <;> (try replace hc := nc hc) <;> first | (exfalso; first | contradiction | (omega); done) | skip)) | ((with_reducible refine AF.on ?_); first | ((first | ((with_reducible refine AF.k_move ?_); (refine AF.q 0 (SW.q (OQ.move wl) rfl) ?_)) | ((with_reducible refine AF.k_assign ?_); (refine AF.q 0 (SW.q (OQ.assign wl) rfl) ?_)) | ((with_reducible refine AF.k_load ?_); (refine AF.ql rfl (SW.q (OQ.load1 (ty := 3) rfl kr (by first | (exact hgE i _ (by omega)) | (conv => lhs; whnf))) rfl) ?_)) | ((with_reducible refine AF.k_indexAddr ?_); first | refine AF.q 0 (SW.q (OQ.idxPtr (ty := 52) (n := 1) (l := 2) (g := false) rfl rfl kr (by omega) (by omega)) rfl) ?_ | refine AF.q 0 (SW.q (OQ.idxAddr (ty := 26) (z := 1) (g := false) rfl rfl kr (by omega) (by omega)) rfl) ?_)); (conv => (arg 9; try tactic => exact nrmF)); (conv => (arg 11; try simp only [List.nil_append, List.cons_append]))) | (refine AF.nil ?_ kr; (conv => (arg 4; simp only [List.drop_succ_cons, List.drop_zero, List.drop_nil])))) | ((with_reducible refine ex_on ?_); first | (first | (obtain rfl := hk0; have hf0 := hft 0 (by omega); rw [hio 0 (by omega)] at hf0; refine ⟨l.length - 1, [jk, .slice (some ⟨2, 0, none⟩) (edL ts).length c3, jk, jk, jk, jk, .pointer (some ⟨4, 0, none⟩), jk, jk, .slice (some ⟨7, 0, none⟩) (1) INF, jk, jk, jk, jk, jk, jk, jk, jk, jk, jk, jk, jk, jk, jk, jk, jk, jk, jk, jk, jk, jk, jk, jk, jk, jk, jk, jk, jk, .int .i64 (l.length), .int .i64 (((0 + 1 : Nat) : Int)), jk, jk, jk, jk, jk, jk, jk, jk, jk, jk, jk, jk, jk, jk, jk, jk, jk, jk, jk, jk, jk, jk, jk, jk, jk, jk, jk, jk, jk, jk, jk, jk, jk, jk, jk, jk, jk, jk, jk, jk, jk, jk, jk, jk, jk, jk, jk, jk, jk, jk, jk, jk, jk, jk], [some ⟨flatP l, false, z⟩, some ⟨flatT ts, false, z1⟩, some ⟨flatL bs, false, z2⟩, some ⟨[.slice (some ⟨0, 0, none⟩) l.length c, .slice (some ⟨1, 0, none⟩) ts.length c2], true, 0⟩, some ⟨[.slice (some ⟨0, 0, none⟩) l.length c, .slice (some ⟨1, 0, none⟩) ts.length c2, .slice (some ⟨6, 0, none⟩) (edL ts).length INF, .map (some 5)], true, 0⟩, some (mpX (lfA ts) true 0), some ⟨flatP (edL ts), true, 2⟩, some ⟨[.int .i64 ((0 : Nat) : Int)], true, 1⟩], by omega, ?_, 0 + 1, rfl, by omega, .inr ⟨by omega, rfl, by rw [← hf0]; rfl⟩⟩; exact Wk.keep 7 [8] (by rw [hE]; exact Nat.le_of_ble_eq_true rfl) rfl rfl (by repeat (first | exact RenT.nil | refine RenT.jk ?_ | refine RenT.val (by rfl) (by rfl) ?_)) ⟨⟨_, rfl, rfl, rfl, .inl ⟨rfl, flatP_scal l⟩⟩, ⟨_, rfl, rfl, rfl, .inl ⟨rfl, flatT_scal ts⟩⟩, ⟨_, rfl, rfl, rfl, .inl ⟨rfl, flatL_scal bs⟩⟩, ⟨_, rfl, rfl, rfl, .inr ⟨rfl, rfl⟩⟩, ⟨_, rfl, rfl, rfl, .inr ⟨rfl, rfl⟩⟩, ⟨_, rfl, rfl, rfl, .inl ⟨rfl, rfl⟩⟩, ⟨_, rfl, rfl, rfl, .inl ⟨rfl, flatP_scal _⟩⟩, ⟨_, rfl, rfl, rfl, .inl ⟨rfl, rfl⟩⟩, trivial⟩) | (have hf0 := hft k (by omega); rw [hio k (by omega)] at hf0; refine ⟨l.length - (k + 1), [jk, .slice (some ⟨2, 0, none⟩) (edL ts).length c3, jk, jk, jk, jk, .pointer (some ⟨4, 0, none⟩), jk, jk, .slice (some ⟨7, 0, none⟩) (k + 1) INF, jk, jk, jk, jk, jk, jk, jk, jk, jk, jk, jk, jk, jk, jk, jk, jk, jk, jk, jk, jk, jk, jk, jk, jk, jk, jk, jk, jk, .int .i64 (l.length), .int .i64 (((k + 1 : Nat) : Int)), jk, jk, jk, jk, jk, jk, jk, jk, jk, jk, jk, jk, jk, jk, jk, jk, jk, jk, jk, jk, jk, jk, jk, jk, jk, jk, jk, jk, jk, jk, jk, jk, jk, jk, jk, jk, jk, jk, jk, jk, jk, jk, jk, jk, jk, jk, jk, jk, jk, jk, jk, jk, jk, jk], [some ⟨flatP l, false, z⟩, some ⟨flatT ts, false, z1⟩, some ⟨flatL bs, false, z2⟩, some ⟨[.slice (some ⟨0, 0, none⟩) l.length c, .slice (some ⟨1, 0, none⟩) ts.length c2], true, 0⟩, some ⟨[.slice (some ⟨0, 0, none⟩) l.length c, .slice (some ⟨1, 0, none⟩) ts.length c2, .slice (some ⟨6, 0, none⟩) (edL ts).length INF, .map (some 5)], true, 0⟩, some (mpX (lfA ts) true 0), some ⟨flatP (edL ts), true, 2⟩, some ⟨flatN ((ioL l.length).take k) ++ [.int .i64 ((k : Nat) : Int)], true, 1⟩], by omega, ?_, k + 1, rfl, by omega, .inr ⟨by omega, rfl, by rw [← hf0]⟩⟩; exact Wk.keep 7 [9] (by rw [hE]; exact Nat.le_of_ble_eq_true rfl) rfl rfl (by repeat (first | exact RenT.nil | refine RenT.jk ?_ | refine RenT.val (by rfl) (by rfl) ?_)) ⟨⟨_, rfl, rfl, rfl, .inl ⟨rfl, flatP_scal l⟩⟩, ⟨_, rfl, rfl, rfl, .inl ⟨rfl, flatT_scal ts⟩⟩, ⟨_, rfl, rfl, rfl, .inl ⟨rfl, flatL_scal bs⟩⟩, ⟨_, rfl, rfl, rfl, .inr ⟨rfl, rfl⟩⟩, ⟨_, rfl, rfl, rfl, .inr ⟨rfl, rfl⟩⟩, ⟨_, rfl, rfl, rfl, .inl ⟨rfl, rfl⟩⟩, ⟨_, rfl, rfl, rfl, .inl ⟨rfl, flatP_scal _⟩⟩, ⟨_, rfl, rfl, rfl, .inl ⟨rfl, by rw [List.all_append, flatN_scal]; rfl⟩⟩, trivial⟩)) | ((obtain rfl : j = l.length := (by omega); refine ⟨(edL ts).length - (i + 1), [jk, .slice (some ⟨2, 0, none⟩) (edL ts).length c3, jk, jk, jk, jk, jk, jk, jk, .slice (some ⟨7, 0, none⟩) (l.length) INF, jk, jk, jk, jk, jk, jk, jk, jk, jk, jk, jk, jk, jk, jk, jk, jk, jk, jk, jk, jk, jk, jk, jk, jk, jk, jk, jk, jk, jk, jk, jk, jk, jk, jk, jk, jk, jk, jk, jk, jk, .slice (some ⟨6, 0, none⟩) ((edL ts).length) INF, .int .i64 ((edL ts).length), .int .i64 (((i + 1 : Nat) : Int)), jk, jk, jk, jk, jk, jk, jk, jk, jk, jk, jk, jk, jk, jk, jk, jk, jk, jk, jk, jk, jk, jk, jk, jk, jk, jk, jk, jk, jk, jk, jk, jk, jk, jk, jk, jk, jk, jk, jk, jk, jk], [some ⟨flatP l, false, z⟩, some ⟨flatT ts, false, z1⟩, some ⟨flatL bs, false, z2⟩, some ⟨[.slice (some ⟨0, 0, none⟩) l.length c, .slice (some ⟨1, 0, none⟩) ts.length c2], true, 0⟩, some ⟨[.slice (some ⟨0, 0, none⟩) l.length c, .slice (some ⟨1, 0, none⟩) ts.length c2, .slice (some ⟨6, 0, none⟩) (edL ts).length INF, .map (some 5)], true, 0⟩, some (mpX (lfA ts) true 0), some ⟨flatP (edL ts), true, 2⟩, some ⟨flatN (CE (i + 1)), true, 1⟩], by omega, ?_, i + 1, rfl, by omega, rfl, rfl⟩; rw [hEs i]; exact Wk.keep 8 [] (by rw [hE]; exact Nat.le_of_ble_eq_true rfl) rfl rfl (by repeat (first | exact RenT.nil | refine RenT.jk ?_ | refine RenT.val (by rfl) (by rfl) ?_)) ⟨⟨_, rfl, rfl, rfl, .inl ⟨rfl, flatP_scal l⟩⟩, ⟨_, rfl, rfl, rfl, .inl ⟨rfl, flatT_scal ts⟩⟩, ⟨_, rfl, rfl, rfl, .inl ⟨rfl, flatL_scal bs⟩⟩, ⟨_, rfl, rfl, rfl, .inr ⟨rfl, rfl⟩⟩, ⟨_, rfl, rfl, rfl, .inr ⟨rfl, rfl⟩⟩, ⟨_, rfl, rfl, rfl, .inl ⟨rfl, rfl⟩⟩, ⟨_, rfl, rfl, rfl, .inl ⟨rfl, flatP_scal _⟩⟩, ⟨_, rfl, rfl, rfl, .inl ⟨rfl, flatN_scal _⟩⟩, trivial⟩)) | (first | (have hs := hSn i j (by omega) (fun h => hkt h.1); refine ⟨l.length - (j + 1), [jk, .slice (some ⟨2, 0, none⟩) (edL ts).length c3, jk, jk, jk, jk, jk, jk, jk, .slice (some ⟨7, 0, none⟩) (l.length) INF, jk, .int .i64 (i), jk, .int .i64 (nt (CE i) (pt (edL ts) i).x.toNat), .int .i64 (nt (CE i) (pt (edL ts) i).y.toNat), jk, jk, jk, jk, jk, jk, jk, jk, jk, jk, jk, jk, jk, jk, jk, jk, jk, jk, jk, jk, jk, jk, jk, jk, jk, jk, jk, jk, jk, jk, jk, jk, jk, jk, jk, .slice (some ⟨6, 0, none⟩) ((edL ts).length) INF, .int .i64 ((edL ts).length), .int .i64 (i), jk, jk, jk, jk, jk, jk, jk, jk, jk, jk, jk, jk, jk, jk, .slice (some ⟨7, 0, none⟩) (l.length) INF, .int .i64 (l.length), .int .i64 (((j + 1 : Nat) : Int)), jk, jk, jk, jk, jk, jk, jk, jk, jk, jk, jk, jk, jk, jk, jk, jk, jk, jk, jk, jk, jk, jk, jk, jk], [some ⟨flatP l, false, z⟩, some ⟨flatT ts, false, z1⟩, some ⟨flatL bs, false, z2⟩, some ⟨[.slice (some ⟨0, 0, none⟩) l.length c, .slice (some ⟨1, 0, none⟩) ts.length c2], true, 0⟩, some ⟨[.slice (some ⟨0, 0, none⟩) l.length c, .slice (some ⟨1, 0, none⟩) ts.length c2, .slice (some ⟨6, 0, none⟩) (edL ts).length INF, .map (some 5)], true, 0⟩, some (mpX (lfA ts) true 0), some ⟨flatP (edL ts), true, 2⟩, some ⟨flatN (CS i (j + 1)), true, 1⟩, some ⟨[.int .i64 (pt (edL ts) i).x, .int .i64 (pt (edL ts) i).y], true, 0⟩], by omega, ?_, j + 1, rfl, by omega, rfl, rfl⟩; rw [hs]; exact Wk.fk [1, 9, 11, 13, 14, 50, 51, 52, 67, 68, 69] rfl) | (have hs := hSy i j hkt (by assumption); refine ⟨l.length - (j + 1), [jk, .slice (some ⟨2, 0, none⟩) (edL ts).length c3, jk, jk, jk, jk, jk, jk, jk, .slice (some ⟨7, 0, none⟩) (l.length) INF, jk, .int .i64 (i), jk, .int .i64 (nt (CE i) (pt (edL ts) i).x.toNat), .int .i64 (nt (CE i) (pt (edL ts) i).y.toNat), jk, jk, jk, jk, jk, jk, jk, jk, jk, jk, jk, jk, jk, jk, jk, jk, jk, jk, jk, jk, jk, jk, jk, jk, jk, jk, jk, jk, jk, jk, jk, jk, jk, jk, jk, .slice (some ⟨6, 0, none⟩) ((edL ts).length) INF, .int .i64 ((edL ts).length), .int .i64 (i), jk, jk, jk, jk, jk, jk, jk, jk, jk, jk, jk, jk, jk, jk, .slice (some ⟨7, 0, none⟩) (l.length) INF, .int .i64 (l.length), .int .i64 (((j + 1 : Nat) : Int)), jk, jk, jk, jk, jk, jk, jk, jk, jk, jk, jk, jk, jk, jk, jk, jk, jk, jk, jk, jk, jk, jk, jk, jk], [some ⟨flatP l, false, z⟩, some ⟨flatT ts, false, z1⟩, some ⟨flatL bs, false, z2⟩, some ⟨[.slice (some ⟨0, 0, none⟩) l.length c, .slice (some ⟨1, 0, none⟩) ts.length c2], true, 0⟩, some ⟨[.slice (some ⟨0, 0, none⟩) l.length c, .slice (some ⟨1, 0, none⟩) ts.length c2, .slice (some ⟨6, 0, none⟩) (edL ts).length INF, .map (some 5)], true, 0⟩, some (mpX (lfA ts) true 0), some ⟨flatP (edL ts), true, 2⟩, some ⟨flatN (CS i (j + 1)), true, 1⟩, some ⟨[.int .i64 (pt (edL ts) i).x, .int .i64 (pt (edL ts) i).y], true, 0⟩], by omega, ?_, j + 1, rfl, by omega, rfl, rfl⟩; rw [hs]; exact Wk.fk [1, 9, 11, 13, 14, 50, 51, 52, 67, 68, 69] rfl) | (have hs := hSn i j (by omega) (fun h => absurd h.2 (by assumption)); refine ⟨l.length - (j + 1), [jk, .slice (some ⟨2, 0, none⟩) (edL ts).length c3, jk, jk, jk, jk, jk, jk, jk, .slice (some ⟨7, 0, none⟩) (l.length) INF, jk, .int .i64 (i), jk, .int .i64 (nt (CE i) (pt (edL ts) i).x.toNat), .int .i64 (nt (CE i) (pt (edL ts) i).y.toNat), jk, jk, jk, jk, jk, jk, jk, jk, jk, jk, jk, jk, jk, jk, jk, jk, jk, jk, jk, jk, jk, jk, jk, jk, jk, jk, jk, jk, jk, jk, jk, jk, jk, jk, jk, .slice (some ⟨6, 0, none⟩) ((edL ts).length) INF, .int .i64 ((edL ts).length), .int .i64 (i), jk, jk, jk, jk, jk, jk, jk, jk, jk, jk, jk, jk, jk, jk, .slice (some ⟨7, 0, none⟩) (l.length) INF, .int .i64 (l.length), .int .i64 (((j + 1 : Nat) : Int)), jk, jk, jk, jk, jk, jk, jk, jk, jk, jk, jk, jk, jk, jk, jk, jk, jk, jk, jk, jk, jk, jk, jk, jk], [some ⟨flatP l, false, z⟩, some ⟨flatT ts, false, z1⟩, some ⟨flatL bs, false, z2⟩, some ⟨[.slice (some ⟨0, 0, none⟩) l.length c, .slice (some ⟨1, 0, none⟩) ts.length c2], true, 0⟩, some ⟨[.slice (some ⟨0, 0, none⟩) l.length c, .slice (some ⟨1, 0, none⟩) ts.length c2, .slice (some ⟨6, 0, none⟩) (edL ts).length INF, .map (some 5)], true, 0⟩, some (mpX (lfA ts) true 0), some ⟨flatP (edL ts), true, 2⟩, some ⟨flatN (CS i (j + 1)), true, 1⟩, some ⟨[.int .i64 (pt (edL ts) i).x, .int .i64 (pt (edL ts) i).y], true, 0⟩], by omega, ?_, j + 1, rfl, by omega, rfl, rfl⟩; rw [hs]; exact Wk.fk [1, 9, 11, 13, 14, 50, 51, 52, 67, 68, 69] rfl))) | ((with_reducible refine FinA.on ?_); (obtain rfl : i = (edL ts).length := (by omega); refine FinA.keep 3 [7] (.inl rfl) (.tmp wl (.tmp wl .nil)) ?_ rfl (Nat.le_of_eq hE) rfl rfl ⟨⟨_, rfl, rfl, rfl, .inl ⟨rfl, flatP_scal l⟩⟩, ⟨_, rfl, rfl, rfl, .inl ⟨rfl, flatT_scal ts⟩⟩, ⟨_, rfl, rfl, rfl, .inl ⟨rfl, flatL_scal _⟩⟩, ⟨_, rfl, rfl, rfl, .inl ⟨rfl, flatN_scal _⟩⟩, trivial⟩; rfl)))
def coE (l : List Pn) (ts : List T3) (bs : List Bool) : Int := if netE l ts ≠ 0 then netE l ts else if bs.length ≠ (edL ts).length then 10 else 0
theorem Components_e0 (l : List Pn) (ts : List T3) (bs : List Bool) (he : coE l ts bs ≠ 0) (hll : l.length ≤ 1000000) (hbb : bs.length ≤ 1000000) (c c2 c3 z z1 z2 : Nat) (hz : z = 0 ∨ z = 2) :
    PCalls Tryz.prog 35 [.agg #[.slice (some ⟨0, 0, none⟩) l.length c, .slice (some ⟨1, 0, none⟩) ts.length c2], .slice (some ⟨2, 0, none⟩) bs.length c3] [some ⟨flatP l, false, z⟩, some ⟨flatT ts, false, z1⟩, some ⟨flatL bs, false, z2⟩] (.tuple #[.slice none 0 0, .int .i64 (coE l ts bs)]) := by
  by_cases h1 : netE l ts ≠ 0
  · have h2 : coE l ts bs = netE l ts := by unfold coE; rw [if_pos h1]
    rw [h2]
    have hop := fun (m : Mem) (hA : ArgN m 0 1 l ts) => open_e (c := c) (c2 := c2) l ts hA rfl rfl hll h1
    generalize netE l ts = E0 at *
    generalize netI l ts = I0 at *
    refine PCalls.en 92 Tryz.func35 rfl (ro3p _ _ _ rfl rfl rfl) rfl (fun E => ?_)
    repeat' (first | with_reducible (first | refine Then.n ?_ | refine Then.r ?_ | refine InB.r ?_) | ((with_reducible refine AL.on ?_); first | ((first | ((with_reducible refine AL.k_move ?_); (refine AL.q rfl (OQ.move wl) ?_)) | ((with_reducible refine AL.k_assign ?_); (refine AL.q rfl (OQ.assign wl) ?_)) | ((with_reducible refine AL.k_load ?_); refine AL.q rfl (OQ.loadN (ty := 25) (n := 2) rfl kr kr rfl) ?_) | ((with_reducible refine AL.k_binOp ?_); refine AL.q rfl (OQ.neq rfl rfl) ?_) | ((with_reducible refine AL.k_extract ?_); refine AL.q rfl (OQ.extract rfl rfl) ?_)); (refine AL.nm ?_)) | ((refine AL.pcall (g := 71) rfl kr rfl ((by exact hop _ ⟨⟨_, rfl, rfl, hz, rfl⟩, ⟨_, rfl, rfl, rfl⟩, by decide⟩)) ?_); (refine AL.nm ?_)) | ((((with_reducible refine AL.k_box ?_); (refine AL.w rfl (OW.box wl (by intro r h; cases h)) ?_))); (refine AL.nm ?_); (refine AL.nM ?_)) | refine AL.nil ?_) | ((with_reducible refine AW.on ?_); first | refine AW.seq ?_ | refine AW.ret ?_ | refine AW.block ?_ | refine AW.region ?_ | (refine AW.conds rfl (fun hc => ?_) (fun hc => ?_) <;> (try replace hc := nc hc) <;> first | (exfalso; contradiction) | skip)) | ((with_reducible refine FinP.on ?_); (refine FinP.ret (.tmp wl (.tmp wl .nil)) ?_ rfl); (try simp only [pack, List.drop, List.take]); all_goals (rfl)))
  · have hR := netE_0.1 (Classical.not_not.1 h1)
    have hle := edL_le ts
    have h80 := hR.le
    have hy := fun (m : Mem) (hA : ArgN m 0 1 l ts) => open_y (c := c) (c2 := c2) l ts hA rfl rfl hR
    have h2 : bs.length ≠ (edL ts).length := fun h => by
      unfold coE at he
      rw [if_neg h1, if_neg (fun h2 => h2 h)] at he
      exact he rfl
    have h3 : coE l ts bs = 10 := by unfold coE; rw [if_neg h1, if_pos h2]
    rw [h3]
    refine PCalls.en 92 Tryz.func35 rfl (ro3p _ _ _ rfl rfl rfl) rfl (fun E => ?_)
    repeat' (first | with_reducible (first | refine Then.n ?_ | refine Then.r ?_ | refine InB.r ?_) | ((with_reducible refine AL.on ?_); first | ((first | ((with_reducible refine AL.k_move ?_); (refine AL.q rfl (OQ.move wl) ?_)) | ((with_reducible refine AL.k_assign ?_); (refine AL.q rfl (OQ.assign wl) ?_)) | ((with_reducible refine AL.k_load ?_); first | refine AL.q rfl (OQ.loadN (ty := 25) (n := 2) rfl kr kr rfl) ?_ | (refine AL.q rfl (OQ.load1 (ty := 45) rfl kr wl) ?_)) | ((with_reducible refine AL.k_binOp ?_); refine AL.q rfl (OQ.neq rfl rfl) ?_) | ((with_reducible refine AL.k_call ?_); first | refine AL.q rfl (OQ.lenS (xt := 54) (r := (none, 1, false)) rfl kr) ?_ | refine AL.q rfl (OQ.lenS (xt := 45) (r := (none, 2, true)) rfl kr) ?_) | ((with_reducible refine AL.k_extract ?_); refine AL.q rfl (OQ.extract rfl rfl) ?_) | ((with_reducible refine AL.k_fieldAddr ?_); refine AL.q rfl (OQ.fieldA (ty := 110) (i := 1) (n := 1) (off := 2) (g := false) rfl kr (by decide)) ?_) | refine AL.q rfl (OQ.nilCheck rfl) ?_); (refine AL.nm ?_)) | ((first | ((with_reducible refine AL.k_call ?_); refine AL.acall (g := 71) rfl kr rfl ((by exact hy _ ⟨⟨_, rfl, rfl, hz, rfl⟩, ⟨_, rfl, rfl, rfl⟩, by decide⟩)) ?_) | ((with_reducible refine AL.k_box ?_); (refine AL.w rfl (OW.box wl (by intro r h; cases h)) ?_))); (refine AL.nm ?_); (refine AL.nM ?_)) | refine AL.nil ?_) | ((with_reducible refine AW.on ?_); first | refine AW.seq ?_ | refine AW.ret ?_ | refine AW.block ?_ | refine AW.region ?_ | (refine AW.conds rfl (fun hc => ?_) (fun hc => ?_) <;> (try replace hc := nc hc) <;> first | (exfalso; first | contradiction | (omega); done) | skip)) | ((with_reducible refine FinP.on ?_); (refine FinP.ret (.tmp wl (.tmp wl .nil)) ?_ rfl); (try simp only [pack, List.drop, List.take]); all_goals (rfl)))
theorem Components_y {m : Mem} {bP bT bB n k j c c2 c3 : Nat} {F : Blk} (l : List Pn) (ts : List T3) (bs : List Bool) (hA : ArgN m bP bT l ts) (hn : l.length = n) (hk : ts.length = k) (f1 : m.at bB = some F) (f2 : F.cells = flatL bs) (hj : bs.length = j) (hR : NetR l ts) (hbl : bs.length = (edL ts).length) (hd : [bP, bT, bB].Nodup) (f3 : F.obj = Ob.plain := by rfl) :
    ACalls Tryz.prog 35 [.agg #[.slice (some ⟨bP, 0, none⟩) n c, .slice (some ⟨bT, 0, none⟩) k c2], .slice (some ⟨bB, 0, none⟩) j c3] m (.tuple #[.slice (some ⟨m.length, 0, none⟩) n INF, .int .i64 0]) (m ++ [some ⟨flatN (cmE (edL ts) bs n (edL ts).length), true, 1⟩]) := by
  subst hn hk hj
  obtain ⟨⟨A, h1, h2, h3, h4⟩, ⟨B, h5, h6, h7⟩, hne⟩ := hA
  have h := ACalls.viaS (m := m) (args := [.agg #[.slice (some ⟨bP, 0, none⟩) l.length c, .slice (some ⟨bT, 0, none⟩) ts.length c2], .slice (some ⟨bB, 0, none⟩) bs.length c3]) (v := .tuple #[.slice (some ⟨m.length, 0, none⟩) l.length INF, .int .i64 0]) [bP, bT, bB] [] [some ⟨flatN (cmE (edL ts) bs l.length (edL ts).length), true, 1⟩] (Components_y0 l ts bs hR hbl c c2 c3 A.esz B.esz F.esz h3) ⟨⟨_, h1, by unfold Blk.shp Blk.shpR; rw [h4]; rfl, (fun h => nomatch h), .inl ⟨h2, flatP_scal _⟩⟩, ⟨_, h5, by unfold Blk.shp Blk.shpR; rw [h7]; rfl, (fun h => nomatch h), .inl ⟨h6, flatT_scal _⟩⟩, ⟨_, f1, by unfold Blk.shp Blk.shpR; rw [f3]; rfl, (fun h => nomatch h), .inl ⟨f2, flatL_scal _⟩⟩, trivial⟩ hd ⟨⟨_, rfl, rfl⟩, ⟨_, rfl, rfl⟩, ⟨_, rfl, rfl⟩, ⟨rfl, rfl, rfl, .inl ⟨rfl, flatN_scal _⟩⟩, trivial⟩ rfl rfl rfl rfl
  exact h
theorem Components_e {m : Mem} {bP bT bB n k j c c2 c3 : Nat} {F : Blk} (l : List Pn) (ts : List T3) (bs : List Bool) (hA : ArgN m bP bT l ts) (hn : l.length = n) (hk : ts.length = k) (f1 : m.at bB = some F) (f2 : F.cells = flatL bs) (hj : bs.length = j) (he : coE l ts bs ≠ 0) (hll : l.length ≤ 1000000) (hbb : bs.length ≤ 1000000) (f3 : F.obj = Ob.plain := by rfl) :
    PCalls Tryz.prog 35 [.agg #[.slice (some ⟨bP, 0, none⟩) n c, .slice (some ⟨bT, 0, none⟩) k c2], .slice (some ⟨bB, 0, none⟩) j c3] m (.tuple #[.slice none 0 0, .int .i64 (coE l ts bs)]) := by
  subst hn hk hj
  obtain ⟨⟨A, h1, h2, h3, h4⟩, ⟨B, h5, h6, h7⟩, hne⟩ := hA
  exact PCalls.viaS [bP, bT, bB] (Components_e0 l ts bs he hll hbb c c2 c3 A.esz B.esz F.esz h3) (ro3p _ _ _ rfl rfl rfl) ⟨⟨_, h1, by unfold Blk.shp Blk.shpR; rw [h4]; rfl, (fun h => nomatch h), .inl ⟨h2, flatP_scal _⟩⟩, ⟨_, h5, by unfold Blk.shp Blk.shpR; rw [h7]; rfl, (fun h => nomatch h), .inl ⟨h6, flatT_scal _⟩⟩, ⟨_, f1, by unfold Blk.shp Blk.shpR; rw [f3]; rfl, (fun h => nomatch h), .inl ⟨f2, flatL_scal _⟩⟩, trivial⟩ rfl rfl rfl rfl
end Go.Proofs.YtmohcmghbfhdlaaGreat
end
end
/- How a list of truths that is an argument of the statements of chapter 6 reads. -/
section
set_option linter.unusedSimpArgs false
set_option linter.unusedVariables false
section
namespace Go.Proofs.YtmohcmghbfhdlaaGreat
open Go.ChangeShapes Go.WideShapes Go.ChangeAt Go Go.RowKit Go.Ab Go.Ls Go.Me
set_option maxRecDepth 100000
def rdB (v : Value) : Bool := match v with | .bool b => b | _ => false
theorem cells_bool : Tryz.prog.cellsOf 4 = 1 := by kernel_rfl
theorem open_BL {H : Type} {enc : TypeId × Value → H} {w : World} {base : Nat} {spare : Nat → Bool} {held : Bool} {r : Reach} {b0 : Nat} {v : Value} {d : DataW H} {p : List MemPlace} (hv : Value.okWide Tryz.prog w r b0 54 v) (h : DataW.Trod enc Tryz.prog w base spare held 54 v d p) :
    ∃ a l cap, v = .slice a (List.length (α := Bool) l) cap ∧ l.length ≤ cap ∧ cap ≤ maxLen ∧ SlX w a (flatL l) ∧ (a = none → cap = 0) := by
  obtain ⟨a0, len0, cap0, rfl⟩ := okWide_slice Tryz.underlying54 hv
  obtain ⟨fuel, hf⟩ := h
  rcases Go.Deep.open_slice1 Tryz.underlying54 cells_bool hf with ⟨h1, _⟩ | ⟨a, len, cap, m, k, V, D, Pl, hcs, hb, hl, hm, hmm, hx, hi⟩
  · have h1 := (List.cons.inj h1).1
    rw [h1]
    exact ⟨none, [], 0, rfl, by simp, by simp [maxLen], fun h => absurd rfl h, fun _ => rfl⟩
  · have hcs := (List.cons.inj hcs).1
    rw [hcs]
    have hlm : len ≤ m := by rw [hmm]; split <;> omega
    have hL : ((List.range len).map fun i => rdB (V i)).length = len := by simp
    have hcell : ∀ i, i < len → w.cell? (a.add i) = some (.bool (rdB (V i))) := fun i hil => by
      obtain ⟨hc', ht'⟩ := hi i (by omega)
      obtain ⟨b, hb, _⟩ := DataW.trod_bool Tryz.underlying4 ht'
      rw [hc', (List.cons.inj hb).1]
      rfl
    refine ⟨some a, (List.range len).map fun i => rdB (V i), cap, by rw [hL], by omega, hm, fun hne => ?_, (fun h => by cases h)⟩
    have hpos : 0 < len := by
      rcases Nat.eq_zero_or_pos len with h0 | h0
      · subst h0
        exact absurd rfl hne
      · exact h0
    have hz0 := hcell 0 hpos
    have hs : a.spot = none := by
      have := spot_none hz0
      simpa [Addr.add] using this
    obtain ⟨b, off, sp⟩ := a
    simp only at hs
    subst hs
    refine ⟨b, off, rfl, World.block_lt_of_cell? w _ (by simpa [Addr.add] using hz0), fun j hj => ?_⟩
    rw [flatL_len, hL] at hj
    have e1 : (⟨b, off, none⟩ : Addr).add j = ⟨b, off + j, none⟩ := by
      unfold Addr.add
      by_cases h1 : j = 0 <;> simp [h1]
    have g := hcell j hj
    rw [e1] at g
    rw [g]
    unfold flatL
    rw [List.getElem?_map, List.getElem?_map, List.getElem?_range hj]
    rfl
end Go.Proofs.YtmohcmghbfhdlaaGreat
end
section
namespace Go.Me
open Go.Ab
theorem ldL {m : Mem} {b n : Nat} {blk : Blk} {bs : List Bool} (hb : m.at b = some blk) (hc : blk.cells = flatL bs) (hn : bs.length = n) : m.ld b 0 (n * 1) = some (flatL bs) := by
  subst hn
  unfold Mem.ld
  rw [hb]
  show (if 0 + bs.length * 1 ≤ blk.cells.length then some ((blk.cells.drop 0).take (bs.length * 1)) else none) = _
  rw [hc, flatL_len, if_pos (by omega), List.drop_zero, Nat.mul_one, ← flatL_len, List.take_length]
def alK (n i : Nat) : List Bool := (List.range n).map fun j => decide (j < i)
theorem alK_len (n i : Nat) : (alK n i).length = n := by unfold alK; rw [List.length_map, List.length_range]
theorem alK_0 {n : Nat} {f : Nat → Value} (hf : ∀ i, f i = .bool false) : flatL (alK n 0) = (List.range n).map f := by
  unfold flatL alK
  rw [List.map_map]
  refine List.map_congr_left fun i _ => ?_
  rw [hf]
  rfl
theorem alK_set {n i : Nat} (h : i < n) : (flatL (alK n i)).set i (.bool true) = flatL (alK n (i + 1)) := by
  refine List.ext_getElem? fun j => ?_
  unfold flatL alK
  rw [List.getElem?_set, List.map_map, List.map_map, List.length_map, List.length_range, List.getElem?_map, List.getElem?_map]
  by_cases hj : j < n
  · rw [List.getElem?_range hj]
    by_cases he : i = j
    · subst he
      rw [if_pos rfl, if_pos h]
      simp
    · rw [if_neg he]
      simp only [Option.map_some, Function.comp]
      congr 2
      exact decide_eq_decide.2 (by omega)
  · rw [List.getElem?_eq_none (by rw [List.length_range]; omega), if_neg (by omega)]
    rfl
theorem alK_all {n k : Nat} (h : k < n) : kpB (alK n n) k = true := by
  unfold kpB alK
  rw [List.getD_eq_getElem?_getD, List.getElem?_map, List.getElem?_range h]
  simp [h]
end Go.Me
end
end
