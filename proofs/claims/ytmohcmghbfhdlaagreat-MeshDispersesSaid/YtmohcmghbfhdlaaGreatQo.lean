/- Chapter 6: CheckNet, Edges, Sides (the program's). -/
import Derived.Test.YtmohcmghbfhdlaaGreatQd
import Derived.Test.YtmohcmghbfhdlaaGreatQn
section
set_option linter.unusedSimpArgs false
set_option linter.unusedVariables false
section
namespace Go.Me
open Go.Ab Go.Proofs.YtmohcmghbfhdlaaGreat
theorem edL_pos {l : List Pn} {ts : List T3} (h : NetR l ts) : 0 < (edL ts).length := by
 have h1 : ts.length ≠ 0 := by
  have := h.gp
  unfold gpB at this
  rw [Bool.or_eq_false_iff, Bool.or_eq_false_iff, decide_eq_false_iff_not] at this
  exact this.1.1
 unfold edL
 rw [sortE_len]
 exact List.length_pos_iff.2 (eqS_pos h.all (by omega) (fun j hj => List.mem_range.2 hj))
theorem flatP_take {es : List Pn} {k : Nat} (h : k < es.length) : flatP (es.take k) ++ [.int .i64 (pt es k).x, .int .i64 (pt es k).y] = flatP (es.take (k + 1)) := by
 rw [List.take_add_one, List.getElem?_eq_getElem h, Option.toList_some, flatP_snoc]
 unfold pt
 rw [List.getD_eq_getElem?_getD, List.getElem?_eq_getElem h]
 rfl
end Go.Me
namespace Go.Proofs.YtmohcmghbfhdlaaGreat
open Go Go.RowKit Go.Ab Go.Me
set_option maxRecDepth 100000
set_option maxHeartbeats 4000000
attribute [local irreducible] OQ OW AL AW AF SW
theorem Sides_y0 (l : List Pn) (ts : List T3) (c c2 z z1 : Nat) (hz : z = 0 ∨ z = 2) (hR : NetR l ts) : ACalls Tryz.prog 28 [.agg #[.slice (some ⟨0, 0, none⟩) l.length c, .slice (some ⟨1, 0, none⟩) ts.length c2]] [some ⟨flatP l, false, z⟩, some ⟨flatT ts, false, z1⟩] (.tuple #[.slice (some ⟨2, 0, none⟩) (sdL ts).length INF, .int .i64 0]) [some ⟨flatP l, false, z⟩, some ⟨flatT ts, false, z1⟩, some ⟨flatP (sdL ts), true, 2⟩] := by
 have hy := fun (m : Mem) (hA : ArgN m 0 1 l ts) => open_y (c := c) (c2 := c2) l ts hA rfl rfl hR
 have hs := fun (m : Mem) (i : Nat) (h : OpenN m 3 4 5 0 1 c c2 l ts) (hi : i < (edL ts).length) => sides_q (i := i) h hR hi
 have hps := fun (i : Nat) (hi : i < (edL ts).length) => sdL_pt (ts := ts) hi
 have hpos := edL_pos hR
 have hle := edL_le ts
 have h80 := hR.le
 rw [sdL_len]
 have hft := fun (k : Nat) (hk : k < (edL ts).length) => flatP_take (es := sdL ts) (k := k) (by rw [sdL_len]; exact hk)
 have hfl : ∀ k, k ≤ (edL ts).length → (flatP ((sdL ts).take k)).length = k * 2 := fun k hk => by rw [flatP_len, List.length_take, sdL_len, Nat.min_eq_left hk]
 have htl : (sdL ts).take (edL ts).length = sdL ts := by rw [← sdL_len, List.take_length]
 refine ACalls.en 33 Tryz.func28 rfl rfl (fun E hE => ?_)
 repeat' (first | with_reducible (first | refine Then.n ?_ | refine Then.x ?_ | refine InB.n ?_ | refine InB.hit ?_) | ((with_reducible refine AL.on ?_); first | ((first | refine AL.as ?_ | refine AL.mv ?_ | ((with_reducible refine AL.k_call ?_); refine AL.g (OQ.lenS (xt := 45) (r := (none, 2, true)) rfl kr) ?_) | refine AL.et ?_ | ((with_reducible refine AL.k_binOp ?_); first | refine AL.g (OQ.neq rfl rfl) ?_ | refine AL.g (OQ.lss rfl rfl) ?_ | refine AL.g (OQ.addi rfl rfl (by omega)) ?_) | ((with_reducible refine AL.k_load ?_); first | refine AL.g (OQ.loadN (ty := 25) (n := 2) rfl kr kr rfl) ?_ | (refine AL.g (OQ.load1 (ty := 45) rfl kr wl) ?_)) | ((with_reducible refine AL.k_fieldAddr ?_); refine AL.g (OQ.fieldA (ty := 110) (i := 1) (n := 1) (off := 2) (g := false) rfl kr (by decide)) ?_) | refine AL.g (OQ.nilCheck rfl) ?_); refine AL.nm ?_) | ((refine AL.pcall (g := 72) rfl kr rfl ((by exact hs _ k ⟨⟨_, rfl, rfl, rfl⟩, ⟨_, rfl, rfl, rfl⟩, ⟨_, rfl, rfl, rfl⟩, ⟨_, rfl⟩, ⟨_, rfl, rfl, rfl⟩⟩ (by omega))) ?_); refine AL.nm ?_) | ((first | ((with_reducible refine AL.k_call ?_); first | refine AL.acall (g := 71) rfl kr rfl ((by exact hy _ ⟨⟨_, rfl, rfl, hz, rfl⟩, ⟨_, rfl, rfl, rfl⟩, by decide⟩)) ?_ | refine AL.w rfl (by first | exact OW.appendNil (e := 52) (z := 2) (zs := [.int .i64 0, .int .i64 0]) (by' := 16) rfl rfl kr kr kr rfl kr (by decide) rfl (by decide) (by decide) | exact OW.appendL (e := 52) (z := 2) (zs := [.int .i64 0, .int .i64 0]) (by' := 16) rfl rfl kr kr kr rfl kr (by decide) rfl rfl rfl (by decide) (by exact hfl k (by omega)) rfl rfl (by omega) (by omega)) ?_) | refine AL.bx ?_ | ((with_reducible refine AL.k_buildSlice ?_); refine AL.w rfl (OW.buildSl (ty := 45) (zs := [.int .i64 0, .int .i64 0]) (n := 2) (g := true) kr kr rfl rfl rfl (by decide) (by decide) rfl rfl) ?_)); refine AL.nm ?_; refine AL.nM ?_) | refine AL.nil ?_) | ((with_reducible refine AW.on ?_); first | refine AW.seq ?_ | refine AW.skip ?_ | refine AW.exit ?_ | refine AW.ret ?_ | ((refine AW.block (id := 0) ?_); (refine AW.fk [4, 7, 22, 23] ?_); (refine AW.loop (fun n' t' m => ∃ k : Nat, n' = (edL ts).length - k ∧ k ≤ (edL ts).length ∧ ((k = 0 ∧ t' = [jk, jk, jk, jk, .pointer (some ⟨3, 0, none⟩), jk, jk, .slice none 0 0, jk, jk, jk, jk, jk, jk, jk, jk, jk, jk, jk, jk, jk, jk, .int .i64 ((edL ts).length), .int .i64 (k), jk, jk, jk, jk, jk, jk, jk, jk, jk, jk] ∧ m = [some ⟨flatP l, false, z⟩, some ⟨flatT ts, false, z1⟩, some ⟨[.slice (some ⟨0, 0, none⟩) l.length c, .slice (some ⟨1, 0, none⟩) ts.length c2], true, 0⟩, some ⟨[.slice (some ⟨0, 0, none⟩) l.length c, .slice (some ⟨1, 0, none⟩) ts.length c2, .slice (some ⟨5, 0, none⟩) (edL ts).length INF, .map (some 4)], true, 0⟩, some (mpX (lfA ts) true 0), some ⟨flatP (edL ts), true, 2⟩]) ∨ (0 < k ∧ t' = [jk, jk, jk, jk, .pointer (some ⟨3, 0, none⟩), jk, jk, .slice (some ⟨6, 0, none⟩) (k) INF, jk, jk, jk, jk, jk, jk, jk, jk, jk, jk, jk, jk, jk, jk, .int .i64 ((edL ts).length), .int .i64 (k), jk, jk, jk, jk, jk, jk, jk, jk, jk, jk] ∧ m = [some ⟨flatP l, false, z⟩, some ⟨flatT ts, false, z1⟩, some ⟨[.slice (some ⟨0, 0, none⟩) l.length c, .slice (some ⟨1, 0, none⟩) ts.length c2], true, 0⟩, some ⟨[.slice (some ⟨0, 0, none⟩) l.length c, .slice (some ⟨1, 0, none⟩) ts.length c2, .slice (some ⟨5, 0, none⟩) (edL ts).length INF, .map (some 4)], true, 0⟩, some (mpX (lfA ts) true 0), some ⟨flatP (edL ts), true, 2⟩, some ⟨flatP ((sdL ts).take k), true, 2⟩]))) ((edL ts).length) (by exact ⟨0, rfl, Nat.zero_le _, .inl ⟨rfl, rfl, rfl⟩⟩) ?_); (rintro n' t' m ⟨k, rfl, hk, (⟨hk0, rfl, rfl⟩ | ⟨hk1, rfl, rfl⟩)⟩)) | refine AW.block ?_ | refine AW.region ?_ | (refine AW.conds rfl (fun hc => ?_) (fun hc => ?_) <;> (try replace hc := nc hc) <;> first | (exfalso; first | contradiction | (omega); done) | skip)) | ((with_reducible refine ex_on ?_); first | (obtain rfl := hk0; have hf0 := hft 0 (by omega); rw [hps 0 (by omega)] at hf0; refine ⟨(edL ts).length - 1, [jk, jk, jk, jk, .pointer (some ⟨3, 0, none⟩), jk, jk, .slice (some ⟨6, 0, none⟩) (1) INF, jk, jk, jk, jk, jk, jk, jk, jk, jk, jk, jk, jk, jk, jk, .int .i64 ((edL ts).length), .int .i64 (((0 + 1 : Nat) : Int)), jk, jk, jk, jk, jk, jk, jk, jk, jk, jk], [some ⟨flatP l, false, z⟩, some ⟨flatT ts, false, z1⟩, some ⟨[.slice (some ⟨0, 0, none⟩) l.length c, .slice (some ⟨1, 0, none⟩) ts.length c2], true, 0⟩, some ⟨[.slice (some ⟨0, 0, none⟩) l.length c, .slice (some ⟨1, 0, none⟩) ts.length c2, .slice (some ⟨5, 0, none⟩) (edL ts).length INF, .map (some 4)], true, 0⟩, some (mpX (lfA ts) true 0), some ⟨flatP (edL ts), true, 2⟩, some ⟨[.int .i64 (sdP ts (pt (edL ts) 0)).x, .int .i64 (sdP ts (pt (edL ts) 0)).y], true, 2⟩], by omega, ?_, 0 + 1, rfl, by omega, .inr ⟨by omega, rfl, by rw [← hf0]; rfl⟩⟩; exact Wk.keep 6 [7] (by rw [hE]; exact Nat.le_of_ble_eq_true rfl) rfl rfl (by repeat (first | exact RenT.nil | refine RenT.jk ?_ | refine RenT.val (by rfl) (by rfl) ?_)) ⟨kl rfl (flatP_scal l), kl rfl (flatT_scal ts), ki rfl, ki rfl, kl rfl rfl, kl rfl (flatP_scal _), kl rfl rfl, trivial⟩) | (have hf0 := hft k (by omega); rw [hps k (by omega)] at hf0; refine ⟨(edL ts).length - (k + 1), [jk, jk, jk, jk, .pointer (some ⟨3, 0, none⟩), jk, jk, .slice (some ⟨6, 0, none⟩) (k + 1) INF, jk, jk, jk, jk, jk, jk, jk, jk, jk, jk, jk, jk, jk, jk, .int .i64 ((edL ts).length), .int .i64 (((k + 1 : Nat) : Int)), jk, jk, jk, jk, jk, jk, jk, jk, jk, jk], [some ⟨flatP l, false, z⟩, some ⟨flatT ts, false, z1⟩, some ⟨[.slice (some ⟨0, 0, none⟩) l.length c, .slice (some ⟨1, 0, none⟩) ts.length c2], true, 0⟩, some ⟨[.slice (some ⟨0, 0, none⟩) l.length c, .slice (some ⟨1, 0, none⟩) ts.length c2, .slice (some ⟨5, 0, none⟩) (edL ts).length INF, .map (some 4)], true, 0⟩, some (mpX (lfA ts) true 0), some ⟨flatP (edL ts), true, 2⟩, some ⟨flatP ((sdL ts).take k) ++ [.int .i64 (sdP ts (pt (edL ts) k)).x, .int .i64 (sdP ts (pt (edL ts) k)).y], true, 2⟩], by omega, ?_, k + 1, rfl, by omega, .inr ⟨by omega, rfl, by rw [← hf0]⟩⟩; exact Wk.keep 6 [8] (by rw [hE]; exact Nat.le_of_ble_eq_true rfl) rfl rfl (by repeat (first | exact RenT.nil | refine RenT.jk ?_ | refine RenT.val (by rfl) (by rfl) ?_)) ⟨kl rfl (flatP_scal l), kl rfl (flatT_scal ts), ki rfl, ki rfl, kl rfl rfl, kl rfl (flatP_scal _), ⟨_, rfl, rfl, rfl, .inl ⟨rfl, by rw [List.all_append, flatP_scal]; rfl⟩⟩, trivial⟩)) | ((with_reducible refine FinA.on ?_); (obtain rfl : k = (edL ts).length := (by omega); rw [htl]; refine FinA.keep 2 [6] (.inl rfl) (.tmp wl (.tmp wl .nil)) ?_ rfl (Nat.le_of_eq hE) rfl rfl ⟨kl rfl (flatP_scal l), kl rfl (flatT_scal ts), kl rfl (flatP_scal _), trivial⟩; rfl)))
end Go.Proofs.YtmohcmghbfhdlaaGreat
end
end
/- Chapter 6: phases of a net; differences (the program's). -/
section
set_option linter.unusedSimpArgs false
set_option linter.unusedVariables false
section
namespace Go.Me
open Go.Ab Go.Proofs.YtmohcmghbfhdlaaGreat
theorem flatN_snoc (xs : List Int) (x : Int) : flatN xs ++ [.int .i64 x] = flatN (xs ++ [x]) := by
 unfold flatN
 rw [List.map_append]
 rfl
theorem flatN_len (xs : List Int) : (flatN xs).length = xs.length := List.length_map _
theorem flatN_take {xs : List Int} {k : Nat} (h : k < xs.length) : flatN (xs.take k) ++ [.int .i64 (nt xs k)] = flatN (xs.take (k + 1)) := by
 rw [List.take_add_one, List.getElem?_eq_getElem h, Option.toList_some, flatN_snoc]
 unfold nt
 rw [List.getD_eq_getElem?_getD, List.getElem?_eq_getElem h]
 rfl
def ixB (p : Int → Bool) (xs : List Int) : Int := fstN (fun j => if p (nt xs j) = true then 1 else 0) xs.length
theorem ixB_any (p : Int → Bool) (xs : List Int) : decide (0 ≤ ixB p xs) = xs.any p := by
 unfold ixB
 rcases fst_cases (fun j => if p (nt xs j) = true then 1 else 0) xs.length with h | ⟨i, h1, h2, h3⟩
 ·rw [fstN_no _ h]
  symm
  show _ = false
  rw [List.any_eq_false]
  intro x hx hp
  obtain ⟨j, hj, rfl⟩ := List.getElem_of_mem hx
  have this : (if p (nt xs j) = true then (1 : Int) else 0) = 0 := h j hj
  have e : nt xs j = xs[j] := by unfold nt; rw [List.getD_eq_getElem?_getD, List.getElem?_eq_getElem hj]; rfl
  rw [e, hp] at this
  cases this
 ·rw [fstN_yes h2 h3 _ h1]
  have e : nt xs i = xs[i] := by unfold nt; rw [List.getD_eq_getElem?_getD, List.getElem?_eq_getElem h1]; rfl
  rw [decide_eq_true (by omega)]
  symm
  rw [List.any_eq_true]
  refine ⟨xs[i], List.getElem_mem _, ?_⟩
  replace h3 : (if p (nt xs i) = true then (1 : Int) else 0) ≠ 0 := h3
  rw [e] at h3
  cases hp : p xs[i] with
  | true => rfl
  | false => rw [hp] at h3; exact absurd rfl h3
def phE (l : List Pn) (ph : List Int) : Int := if ph.length ≠ l.length then 10 else if ph.any (fun x => !rgB x (-2048) 2047) = true then 2 else 0
theorem phE_0 {l : List Pn} {ph : List Int} (h : phE l ph = 0) : ph.length = l.length ∧ ∀ k, k < ph.length → -2048 ≤ nt ph k ∧ nt ph k ≤ 2047 := by
 unfold phE at h
 by_cases h1 : ph.length ≠ l.length
 ·rw [if_pos h1] at h; cases h
 ·rw [if_neg h1] at h
  cases h2 : ph.any (fun x => !rgB x (-2048) 2047) with
  | true => rw [h2, if_pos rfl] at h; cases h
  | false =>
   refine ⟨Classical.not_not.1 h1, fun k hk => ?_⟩
   rw [List.any_eq_false] at h2
   have e : nt ph k = ph[k] := by unfold nt; rw [List.getD_eq_getElem?_getD, List.getElem?_eq_getElem hk]; rfl
   have := h2 ph[k] (List.getElem_mem _)
   simp only [Bool.not_eq_true', Bool.not_eq_false] at this
   rw [e]
   exact rgB_true.1 this
def dfP (ph : List Int) (e : Pn) : Int := wrI (nt ph e.y.toNat - nt ph e.x.toNat)
def dfL (ts : List T3) (ph : List Int) : List Int := (edL ts).map (dfP ph)
theorem dfL_len (ts : List T3) (ph : List Int) : (dfL ts ph).length = (edL ts).length := List.length_map _
theorem dfL_nt {ts : List T3} {ph : List Int} {k : Nat} (h : k < (edL ts).length) : nt (dfL ts ph) k = dfP ph (pt (edL ts) k) := by
 unfold nt dfL pt
 rw [List.getD_eq_getElem?_getD, List.getD_eq_getElem?_getD, List.getElem?_map, List.getElem?_eq_getElem h]
 rfl
end Go.Me
namespace Go.Proofs.YtmohcmghbfhdlaaGreat
open Go Go.RowKit Go.Ab Go.Me
set_option maxRecDepth 100000
set_option maxHeartbeats 4000000
attribute [local irreducible] OQ OW AL AW AF SW
theorem IndexI_0 (f : FuncId) (hen : enters Tryz.prog f = true) (p : Int → Bool) (hp : ∀ (x : Int) (m : Mem), PCalls Tryz.prog f [.int .i64 x] m (.bool (p x))) (xs : List Int) (c z : Nat) (hl : xs.length ≤ 1000000) :
  PCalls Tryz.prog 137 [.slice (some ⟨0, 0, none⟩) xs.length c, .func (.func f) #[] #[]] [some ⟨flatN xs, false, z⟩] (.int .i64 (ixB p xs)) := by
 have hld := fun (k : Nat) (hk : k < xs.length) => flatN_get xs k hk
 have hno := fstN_no (f := fun j => if p (nt xs j) = true then 1 else 0) xs.length
 have hyes := fun (k : Nat) (h1 : k < xs.length) (hj : ∀ j, j < k → p (nt xs j) = false) (he : p (nt xs k) = true) => fstN_yes (f := fun j => if p (nt xs j) = true then 1 else 0) (fun j h => by show (if p (nt xs j) = true then (1 : Int) else 0) = 0; rw [hj j h]; rfl) (by show (if p (nt xs k) = true then (1 : Int) else 0) ≠ 0; rw [he, if_pos rfl]; decide) xs.length h1
 unfold ixB
 generalize fstN (fun j => if p (nt xs j) = true then 1 else 0) xs.length = E0 at *
 refine PCalls.en 17 Tryz.func137 rfl (ro1p _ rfl) rfl (fun E => ?_)
 repeat' (first | with_reducible (first | refine Then.n ?_ | refine Then.r ?_ | refine Then.x ?_ | refine InB.n ?_ | refine InB.r ?_ | refine InB.hit ?_) | ((with_reducible refine AL.on ?_); first | ((first | refine AL.mv ?_ | refine AL.as ?_ | ((with_reducible refine AL.k_call ?_); refine AL.g (OQ.lenS (xt := 26) (r := (none, 1, false)) rfl kr) ?_) | ((with_reducible refine AL.k_binOp ?_); first | refine AL.g (OQ.lss rfl rfl) ?_ | refine AL.g (OQ.addi rfl rfl (by omega)) ?_) | ((with_reducible refine AL.k_load ?_); (refine AL.g (OQ.load1 (ty := 3) rfl kr (by (exact hld _ (by omega)))) ?_))); refine AL.nm ?_) | ((first | ((with_reducible refine AL.k_call ?_); refine AL.pcall rfl (by assumption) rfl ((by exact hp _ _)) ?_) | ((with_reducible refine AL.k_indexAddr ?_); refine AL.g (OQ.idxAddr (ty := 26) (z := 1) (g := false) rfl rfl kr (by omega) (by omega)) ?_)); refine AL.nm ?_) | refine AL.nil ?_) | ((with_reducible refine AW.on ?_); first | refine AW.seq ?_ | refine AW.skip ?_ | refine AW.exit ?_ | refine AW.ret ?_ | ((refine AW.block (id := 0) ?_); (refine AW.fk [0, 1, 7, 8] ?_); (refine AW.loop (fun n' t' m => ∃ k : Nat, n' = xs.length - k ∧ k ≤ xs.length ∧ (∀ j, j < k → p (nt xs j) = false) ∧ t' = (mtz 19 0 [(0, .slice (some ⟨0, 0, none⟩) xs.length c), (1, .func (.func f) #[] #[]), (7, .int .i64 (xs.length)), (8, .int .i64 (k))]) ∧ m = [some ⟨flatN xs, false, z⟩]) (xs.length) (by exact ⟨0, rfl, Nat.zero_le _, fun j h => absurd h (by omega), rfl, rfl⟩) ?_); (rintro n' t' m ⟨k, rfl, hk, hj, rfl, rfl⟩); (refine AW.nT ?_)) | refine AW.block ?_ | refine AW.region ?_ | (refine AW.conds rfl (fun hc => ?_) (fun hc => ?_) <;> (try replace hc := nc hc) <;> skip)) | ((with_reducible refine ex_on ?_); (refine ⟨xs.length - (k + 1), _, _, by omega, ?_, k + 1, rfl, by omega, fun j h => (by rcases Nat.lt_or_eq_of_le (Nat.le_of_lt_succ h) with h | rfl; (exact hj j h); (assumption)), rfl, rfl⟩; exact Wk.fk [0, 1, 7, 8] rfl)) | ((with_reducible refine FinP.on ?_); (refine FinP.ret (.tmp wl .nil) ?_ rfl); (try simp only [pack, List.drop, List.take]); all_goals (symm; first | (rw [hyes k (by omega) hj (by assumption)]; done) | (obtain rfl : k = xs.length := (by omega); rw [hno (fun j h => by show (if p (nt xs j) = true then (1 : Int) else 0) = 0; rw [hj j h]; rfl)]))))
theorem ContainsI_0 (f : FuncId) (hen : enters Tryz.prog f = true) (p : Int → Bool) (hp : ∀ (x : Int) (m : Mem), PCalls Tryz.prog f [.int .i64 x] m (.bool (p x))) (xs : List Int) (c z : Nat) (hl : xs.length ≤ 1000000) :
  PCalls Tryz.prog 87 [.slice (some ⟨0, 0, none⟩) xs.length c, .func (.func f) #[] #[]] [some ⟨flatN xs, false, z⟩] (.bool (xs.any p)) := by
 have hi := IndexI_0 f hen p hp xs c z hl
 rw [← ixB_any]
 generalize ixB p xs = E0 at *
 refine PCalls.en 7 Tryz.func87 rfl (ro1p _ rfl) rfl (fun E => ?_)
 repeat' (first | with_reducible (refine Then.n ?_) | ((with_reducible refine AL.on ?_); first | ((first | refine AL.as ?_ | refine AL.mv ?_ | ((with_reducible refine AL.k_binOp ?_); refine AL.g (OQ.geq rfl rfl) ?_)); refine AL.nm ?_) | ((refine AL.pcall (g := 137) rfl kr rfl ((by exact hi)) ?_); refine AL.nm ?_) | refine AL.nil ?_) | ((with_reducible refine AW.on ?_); first | refine AW.seq ?_ | refine AW.ret ?_ | refine AW.region ?_) | ((with_reducible refine FinP.on ?_); (refine FinP.ret (.tmp wl .nil) ?_ rfl); (try simp only [pack, List.drop, List.take]); all_goals (rfl)))
theorem ContainsI_q {m : Mem} {b n c : Nat} {blk : Blk} (f : FuncId) (hen : enters Tryz.prog f = true) (p : Int → Bool) (hp : ∀ (x : Int) (m : Mem), PCalls Tryz.prog f [.int .i64 x] m (.bool (p x))) (xs : List Int) (hl : xs.length ≤ 1000000) (hb : m.at b = some blk) (hc : blk.cells = flatN xs) (hn : xs.length = n) (ho : blk.obj = Ob.plain := by rfl) :
  PCalls Tryz.prog 87 [.slice (some ⟨b, 0, none⟩) n c, .func (.func f) #[] #[]] m (.bool (xs.any p)) := by
 subst hn
 exact PCalls.viaS [b] (ContainsI_0 f hen p hp xs c blk.esz hl) (ro1p _ rfl) ⟨bS hb ho hc (flatN_scal _), trivial⟩ rfl rfl rfl rfl
theorem offPh_q (n : Int) (m : Mem) : PCalls Tryz.prog 160 [.int .i64 n] m (.bool (!rgB n (-2048) 2047)) := by
 refine PCalls.any ?_ rfl rfl m
 have hw := fun m => within_q n (-2048) 2047 m
 refine PCalls.en 5 Tryz.func160 rfl (ro_nil) rfl (fun E => ?_)
 repeat' (first | with_reducible (refine Then.n ?_) | ((with_reducible refine AL.on ?_); first | ((first | refine AL.as ?_ | refine AL.mv ?_ | ((with_reducible refine AL.k_unOp ?_); refine AL.g (OQ.not rfl) ?_)); refine AL.nm ?_) | ((refine AL.pcall (g := 89) rfl kr rfl (hw _) ?_); refine AL.nm ?_) | refine AL.nil ?_) | ((with_reducible refine AW.on ?_); first | refine AW.seq ?_ | refine AW.ret ?_ | refine AW.region ?_) | ((with_reducible refine FinP.on ?_); (refine FinP.ret (.tmp wl .nil) ?_ rfl); (try simp only [pack, List.drop, List.take]); all_goals (rfl)))
theorem ro6p (a b c d e f : Blk) (h1 : a.own = false) (h2 : b.own = false) (h3 : c.own = false) (h4 : d.own = false) (h5 : e.own = false) (h6 : f.own = false) : Mem.ro [some a, some b, some c, some d, some e, some f] := fun k blk hk => by
 match k, hk with
 | 0, hk => cases hk; exact h1
 | 1, hk => cases hk; exact h2
 | 2, hk => cases hk; exact h3
 | 3, hk => cases hk; exact h4
 | 4, hk => cases hk; exact h5
 | 5, hk => cases hk; exact h6
abbrev mem6 (l : List Pn) (ts : List T3) (xs : List Int) (c c2 z0 z1 z2 z4 z5 : Nat) : Mem := [some ⟨flatP l, false, z0⟩, some ⟨flatT ts, false, z1⟩, some ⟨[.slice (some ⟨0, 0, none⟩) l.length c, .slice (some ⟨1, 0, none⟩) ts.length c2, .slice (some ⟨4, 0, none⟩) (edL ts).length INF, .map (some 3)], false, z2⟩, some (mpX (lfA ts) false 0), some ⟨flatP (edL ts), false, z4⟩, some ⟨flatN xs, false, z5⟩]
theorem phasesErr_0 (l : List Pn) (ts : List T3) (ph : List Int) (c c2 c3 z0 z1 z2 z4 z5 : Nat) (hl : ph.length ≤ 1000000) :
  PCalls Tryz.prog 123 [.pointer (some ⟨2, 0, none⟩), .slice (some ⟨5, 0, none⟩) ph.length c3] [some ⟨flatP l, false, z0⟩, some ⟨flatT ts, false, z1⟩, some ⟨[.slice (some ⟨0, 0, none⟩) l.length c, .slice (some ⟨1, 0, none⟩) ts.length c2, .slice (some ⟨4, 0, none⟩) (edL ts).length INF, .map (some 3)], false, z2⟩, some (mpX (lfA ts) false 0), some ⟨flatP (edL ts), false, z4⟩, some ⟨flatN ph, false, z5⟩] (.int .i64 (phE l ph)) := by
 have hc3 := fun (m : Mem) (b : Nat) (blk : Blk) (h1 : m.at b = some blk) (h2 : blk.cells = flatN ph) (h3 : blk.obj = Ob.plain) => ContainsI_q (c := c3) 160 (by kernel_rfl) (fun x => !rgB x (-2048) 2047) offPh_q ph hl h1 h2 rfl h3
 have e10 : ph.length ≠ l.length → phE l ph = 10 := fun h => if_pos h
 have e2 : ph.length = l.length → ph.any (fun x => !rgB x (-2048) 2047) = true → phE l ph = 2 := fun h h2 => by unfold phE; rw [if_neg (fun h3 => h3 h), if_pos h2]
 have e0 : ph.length = l.length → ph.any (fun x => !rgB x (-2048) 2047) = false → phE l ph = 0 := fun h h2 => by unfold phE; rw [if_neg (fun h3 => h3 h), if_neg (by rw [h2]; decide)]
 generalize phE l ph = E0 at *
 generalize ph.any (fun x => !rgB x (-2048) 2047) = B0 at *
 refine PCalls.en 16 Tryz.func123 rfl (ro6p _ _ _ _ _ _ rfl rfl rfl rfl rfl rfl) rfl (fun E => ?_)
 repeat' (first | with_reducible (first | refine Then.n ?_ | refine Then.r ?_ | refine InB.n ?_ | refine InB.r ?_) | ((with_reducible refine AL.on ?_); first | ((first | refine AL.as ?_ | refine AL.mv ?_ | ((with_reducible refine AL.k_call ?_); first | refine AL.g (OQ.lenS (xt := 26) (r := (none, 1, false)) rfl kr) ?_ | refine AL.g (OQ.lenS (xt := 22) (r := (none, 2, true)) rfl kr) ?_) | ((with_reducible refine AL.k_fieldAddr ?_); first | refine AL.g (OQ.fieldA (ty := 110) (i := 0) (n := 2) (off := 0) (g := true) rfl kr (by decide)) ?_ | refine AL.g (OQ.fieldA (ty := 25) (i := 0) (n := 1) (off := 0) (g := false) rfl kr (by decide)) ?_) | ((with_reducible refine AL.k_load ?_); (refine AL.g (OQ.load1 (ty := 22) rfl kr wl) ?_)) | ((with_reducible refine AL.k_binOp ?_); refine AL.g (OQ.neq rfl rfl) ?_) | refine AL.g (OQ.nilCheck rfl) ?_); refine AL.nm ?_) | ((refine AL.pcall (g := 87) rfl kr rfl ((by exact hc3 _ 5 _ rfl rfl rfl)) ?_); refine AL.nm ?_) | refine AL.nil ?_) | ((with_reducible refine AW.on ?_); first | refine AW.seq ?_ | refine AW.skip ?_ | refine AW.ret ?_ | refine AW.block ?_ | refine AW.region ?_ | (refine AW.conds rfl (fun hc => ?_) (fun hc => ?_) <;> (try replace hc := nc hc) <;> skip)) | ((with_reducible refine FinP.on ?_); (refine FinP.ret (.tmp wl .nil) ?_ rfl); (try simp only [pack, List.drop, List.take]); all_goals (congr 1; first | exact (e10 (by omega)).symm | exact (e2 (by omega) (by assumption)).symm | exact (e0 (by omega) (by assumption)).symm)))
theorem differences_0 (l : List Pn) (ts : List T3) (hR : NetR l ts) (ph : List Int) (hph : phE l ph = 0) (c c2 c3 z0 z1 z2 z4 z5 : Nat) :
  ACalls Tryz.prog 67 [.pointer (some ⟨2, 0, none⟩), .slice (some ⟨5, 0, none⟩) ph.length c3] [some ⟨flatP l, false, z0⟩, some ⟨flatT ts, false, z1⟩, some ⟨[.slice (some ⟨0, 0, none⟩) l.length c, .slice (some ⟨1, 0, none⟩) ts.length c2, .slice (some ⟨4, 0, none⟩) (edL ts).length INF, .map (some 3)], false, z2⟩, some (mpX (lfA ts) false 0), some ⟨flatP (edL ts), false, z4⟩, some ⟨flatN ph, false, z5⟩]
   (.slice (some ⟨6, 0, none⟩) (edL ts).length INF) [some ⟨flatP l, false, z0⟩, some ⟨flatT ts, false, z1⟩, some ⟨[.slice (some ⟨0, 0, none⟩) l.length c, .slice (some ⟨1, 0, none⟩) ts.length c2, .slice (some ⟨4, 0, none⟩) (edL ts).length INF, .map (some 3)], false, z2⟩, some (mpX (lfA ts) false 0), some ⟨flatP (edL ts), false, z4⟩, some ⟨flatN ph, false, z5⟩, some ⟨flatN (dfL ts ph), true, 1⟩] := by
 obtain ⟨hpl, hpb⟩ := phE_0 hph
 have hr := fun (k : Nat) (hk : k < (edL ts).length) => edL_at hR.ok k hk
 have hg := fun (k : Nat) (hk : k < ph.length) => flatN_get ph k hk
 have hpos := edL_pos hR
 have hle := edL_le ts
 have h80 := hR.le
 have hdl := dfL_len ts ph
 have hnt := fun (k : Nat) (hk : k < (edL ts).length) => dfL_nt (ph := ph) hk
 have hft := fun (k : Nat) (hk : k < (edL ts).length) => flatN_take (xs := dfL ts ph) (k := k) (by rw [dfL_len]; exact hk)
 have hfl : ∀ k, k ≤ (edL ts).length → (flatN ((dfL ts ph).take k)).length = k * 1 := fun k hk => by rw [flatN_len, List.length_take, dfL_len, Nat.min_eq_left hk, Nat.mul_one]
 have htl : (dfL ts ph).take (edL ts).length = dfL ts ph := by rw [← dfL_len ts ph, List.take_length]
 have hwr := fun (n : Int) (hn : -1000000000 ≤ n ∧ n ≤ 1000000000) (m : Mem) => wrap_q n hn m
 refine ACalls.en 32 Tryz.func67 rfl rfl (fun E hE => ?_)
 repeat' (first | with_reducible (first | refine Then.n ?_ | refine Then.x ?_ | refine InB.n ?_ | refine InB.hit ?_) | ((with_reducible refine AL.on ?_); first | ((first | refine AL.mv ?_ | ((with_reducible refine AL.k_load ?_); first | (refine AL.g (OQ.load1 (ty := 45) rfl kr (by (conv => lhs; whnf))) ?_) | refine AL.g (OQ.loadN (ty := 52) (n := 2) rfl kr kr (by (exact flatP_ld rfl rfl _ (by omega)))) ?_) | refine AL.as ?_ | ((with_reducible refine AL.k_call ?_); refine AL.g (OQ.lenS (xt := 45) (r := (none, 2, true)) rfl kr) ?_) | ((with_reducible refine AL.k_binOp ?_); first | refine AL.g (OQ.lss rfl rfl) ?_ | refine AL.g (OQ.addi rfl rfl (by omega)) ?_) | refine AL.g (OQ.nilCheck rfl) ?_); refine AL.nm ?_) | ((first | ((with_reducible refine AL.k_indexAddr ?_); refine AL.g (OQ.idxAddr (ty := 45) (z := 2) (g := true) rfl rfl kr (by omega) (by omega)) ?_) | ((with_reducible refine AL.k_fieldAddr ?_); refine AL.g (OQ.fieldA (ty := 110) (i := 1) (n := 1) (off := 2) (g := false) rfl kr (by decide)) ?_)); refine AL.nm ?_) | ((first | ((with_reducible refine AL.k_call ?_); refine AL.w rfl (by first | exact OW.appendNil (e := 3) (z := 1) (zs := [.int .i64 0]) (by' := 8) rfl rfl kr kr kr rfl kr (by decide) rfl (by decide) (by decide) | exact OW.appendL (e := 3) (z := 1) (zs := [.int .i64 0]) (by' := 8) rfl rfl kr kr kr rfl kr (by decide) rfl rfl rfl (by decide) (by exact hfl k (by omega)) rfl rfl (by omega) (by omega)) ?_) | ((with_reducible refine AL.k_alloc ?_); refine AL.w rfl (OW.alloc (ty := 52) (z := [.int .i64 0, .int .i64 0]) kr rfl) ?_) | ((with_reducible refine AL.k_store ?_); (refine AL.w rfl (OW.store (ty := 52) (n := 2) rfl wl rfl rfl kr rfl rfl (by decide) rfl (Nat.le_of_ble_eq_true rfl) (by intro r h; cases h)) ?_))); refine AL.nm ?_; refine AL.nM ?_) | refine AL.nil ?_) | ((with_reducible refine AW.on ?_); first | refine AW.seq ?_ | refine AW.skip ?_ | refine AW.exit ?_ | refine AW.ret ?_ | ((refine AW.block (id := 0) ?_); (refine AW.fk [1, 5, 11, 12, 13] ?_); (refine AW.loop (fun n' t' m => ∃ k : Nat, n' = (edL ts).length - k ∧ k ≤ (edL ts).length ∧ ((k = 0 ∧ t' = [jk, .slice (some ⟨5, 0, none⟩) ph.length c3, jk, jk, jk, .slice none 0 0, jk, jk, jk, jk, jk, .slice (some ⟨4, 0, none⟩) ((edL ts).length) INF, .int .i64 ((edL ts).length), .int .i64 (k), jk, jk, jk, jk, jk, jk, jk, jk, jk, jk, jk, jk, jk, jk, jk, jk, jk, jk, jk, jk] ∧ m = mem6 l ts ph c c2 z0 z1 z2 z4 z5) ∨ (0 < k ∧ t' = [jk, .slice (some ⟨5, 0, none⟩) ph.length c3, jk, jk, jk, .slice (some ⟨6, 0, none⟩) (k) INF, jk, jk, jk, jk, jk, .slice (some ⟨4, 0, none⟩) ((edL ts).length) INF, .int .i64 ((edL ts).length), .int .i64 (k), jk, jk, jk, jk, jk, jk, jk, jk, jk, jk, jk, jk, jk, jk, jk, jk, jk, jk, jk, jk] ∧ m = [some ⟨flatP l, false, z0⟩, some ⟨flatT ts, false, z1⟩, some ⟨[.slice (some ⟨0, 0, none⟩) l.length c, .slice (some ⟨1, 0, none⟩) ts.length c2, .slice (some ⟨4, 0, none⟩) (edL ts).length INF, .map (some 3)], false, z2⟩, some (mpX (lfA ts) false 0), some ⟨flatP (edL ts), false, z4⟩, some ⟨flatN ph, false, z5⟩, some ⟨flatN ((dfL ts ph).take k), true, 1⟩]))) ((edL ts).length) (by exact ⟨0, rfl, Nat.zero_le _, .inl ⟨rfl, rfl, rfl⟩⟩) ?_); (rintro n' t' m ⟨k, rfl, hk, (⟨hk0, rfl, rfl⟩ | ⟨hk1, rfl, rfl⟩)⟩)) | refine AW.block ?_ | (refine AW.drawF (id := 5) 14 #[0, 0, 0, 4, 14, 30, 0, 0, 128, 448, 960, 2046, 4094, 8190, 16383, 32767] kr kr ?_; (conv => (arg 8; simp only [List.take_succ_cons, List.take_zero])); ((have hq := hr k (by omega); have hq1 := hpb (pt (edL ts) k).x.toNat (by omega); have hq2 := hpb (pt (edL ts) k).y.toNat (by omega)))) | refine AW.region ?_ | (refine AW.conds rfl (fun hc => ?_) (fun hc => ?_) <;> (try replace hc := nc hc) <;> first | (exfalso; ((omega); done)) | skip)) | ((with_reducible refine AF.on ?_); first | ((first | ((with_reducible refine AF.k_move ?_); (refine AF.q 0 (SW.q (OQ.move wl) rfl) ?_)) | ((with_reducible refine AF.k_load ?_); (refine AF.ql rfl (SW.q (OQ.load1 (ty := 3) rfl kr (by first | (exact hg _ (by omega)) | (conv => lhs; whnf))) rfl) ?_)) | ((with_reducible refine AF.k_indexAddr ?_); first | refine AF.q 0 (SW.q (OQ.idxPtr (ty := 52) (n := 1) (l := 2) (g := false) rfl rfl kr (by omega) (by omega)) rfl) ?_ | refine AF.q 0 (SW.q (OQ.idxAddr (ty := 26) (z := 1) (g := false) rfl rfl kr (by omega) (by omega)) rfl) ?_) | ((with_reducible refine AF.k_binOp ?_); refine AF.q 0 (SW.q (OQ.subi rfl rfl (by omega)) rfl) ?_) | ((with_reducible refine AF.k_call ?_); refine AF.q 2 (SW.pcall (g := 126) rfl kr rfl ((by exact hwr _ (by omega) _)) rfl) ?_)); refine AF.nm ?_) | ((refine AF.n1 0 (SW.w (OW.buildSl (ty := 26) (zs := [.int .i64 0]) (n := 1) (g := false) kr kr rfl rfl rfl (by decide) (by decide) rfl rfl) rfl) rfl ?_); refine AF.nm ?_; (conv => (arg 10; try tactic => exact nrmF))) | refine AF.nl ?_) | ((with_reducible refine ex_on ?_); first | (obtain rfl := hk0; have hf0 := hft 0 (by omega); rw [hnt 0 (by omega)] at hf0; refine ⟨(edL ts).length - 1, [jk, .slice (some ⟨5, 0, none⟩) ph.length c3, jk, jk, jk, .slice (some ⟨6, 0, none⟩) (1) INF, jk, jk, jk, jk, jk, .slice (some ⟨4, 0, none⟩) ((edL ts).length) INF, .int .i64 ((edL ts).length), .int .i64 (((0 + 1 : Nat) : Int)), jk, jk, jk, jk, jk, jk, jk, jk, jk, jk, jk, jk, jk, jk, jk, jk, jk, jk, jk, jk], mem6 l ts ph c c2 z0 z1 z2 z4 z5 ++ [some ⟨[.int .i64 (dfP ph (pt (edL ts) 0))], true, 1⟩], by omega, ?_, 0 + 1, rfl, by omega, .inr ⟨by omega, rfl, by rw [← hf0]; rfl⟩⟩; exact Wk.keep 6 [8] (by rw [hE]; exact Nat.le_of_ble_eq_true rfl) rfl rfl (by repeat (first | exact RenT.nil | refine RenT.jk ?_ | refine RenT.val (by rfl) (by rfl) ?_)) ⟨kl rfl (flatP_scal l), kl rfl (flatT_scal ts), ki rfl, kl rfl rfl, kl rfl (flatP_scal _), kl rfl (flatN_scal _), kl rfl rfl, trivial⟩) | (have hf0 := hft k (by omega); rw [hnt k (by omega)] at hf0; refine ⟨(edL ts).length - (k + 1), [jk, .slice (some ⟨5, 0, none⟩) ph.length c3, jk, jk, jk, .slice (some ⟨6, 0, none⟩) (k + 1) INF, jk, jk, jk, jk, jk, .slice (some ⟨4, 0, none⟩) ((edL ts).length) INF, .int .i64 ((edL ts).length), .int .i64 (((k + 1 : Nat) : Int)), jk, jk, jk, jk, jk, jk, jk, jk, jk, jk, jk, jk, jk, jk, jk, jk, jk, jk, jk, jk], mem6 l ts ph c c2 z0 z1 z2 z4 z5 ++ [some ⟨flatN ((dfL ts ph).take k) ++ [.int .i64 (dfP ph (pt (edL ts) k))], true, 1⟩], by omega, ?_, k + 1, rfl, by omega, .inr ⟨by omega, rfl, by rw [← hf0]; rfl⟩⟩; exact Wk.keep 6 [9] (by rw [hE]; exact Nat.le_of_ble_eq_true rfl) rfl rfl (by repeat (first | exact RenT.nil | refine RenT.jk ?_ | refine RenT.val (by rfl) (by rfl) ?_)) ⟨kl rfl (flatP_scal l), kl rfl (flatT_scal ts), ki rfl, kl rfl rfl, kl rfl (flatP_scal _), kl rfl (flatN_scal _), ⟨_, rfl, rfl, rfl, .inl ⟨rfl, by rw [List.all_append, flatN_scal]; rfl⟩⟩, trivial⟩)) | ((with_reducible refine FinA.on ?_); (obtain rfl : k = (edL ts).length := (by omega); rw [htl]; refine FinA.keep 7 [] (.inl rfl) (.tmp wl .nil) ?_ rfl (by rw [hE]; exact Nat.le_of_ble_eq_true rfl) rfl rfl ⟨kl rfl (flatP_scal l), kl rfl (flatT_scal ts), ki rfl, kl rfl rfl, kl rfl (flatP_scal _), kl rfl (flatN_scal _), kl rfl (flatN_scal _), trivial⟩; rfl)))
end Go.Proofs.YtmohcmghbfhdlaaGreat
end
end
/- Chapter 6: sums around triangles (the program's). -/
section
set_option linter.unusedSimpArgs false
set_option linter.unusedVariables false
section
namespace Go.Me
open Go.Ab Go.Proofs.YtmohcmghbfhdlaaGreat
theorem lf_idx {ts : List T3} : ∀ k, ∀ p ∈ lf ts k, 0 ≤ p.2 ∧ p.2 < (k : Int)
 | 0, p, hp => by simp [lf] at hp
 | k + 1, p, hp => by
  rw [lf_succ] at hp
  simp only [List.mem_append, List.mem_singleton] at hp
  rcases hp with ((hp | rfl) | rfl) | rfl
  ·have := lf_idx k p hp
   omega
  all_goals simp only; omega
theorem lk_rng (ts : List T3) (e : IE) : -1 ≤ lk (lfA ts) e ∧ lk (lfA ts) e < ts.length := by
 by_cases h : e ∈ (lfA ts).map (·.1)
 ·have := lf_idx ts.length _ (lk_mem h)
  simp only at this
  unfold lfA at *
  omega
 ·rw [lk_not h]
  omega
theorem sdP_rng (ts : List T3) (e : Pn) : (-1 ≤ (sdP ts e).x ∧ (sdP ts e).x < ts.length) ∧ (-1 ≤ (sdP ts e).y ∧ (sdP ts e).y < ts.length) := ⟨lk_rng ts _, lk_rng ts _⟩
def smL (ts : List T3) (xs : List Int) : Nat → List Int
 | 0 => List.replicate ts.length 0
 | k + 1 =>
  let s := sdP ts (pt (edL ts) k)
  let A1 := if s.x = -1 then smL ts xs k else (smL ts xs k).set s.x.toNat (nt (smL ts xs k) s.x.toNat + nt xs k)
  if s.y = -1 then A1 else A1.set s.y.toNat (nt A1 s.y.toNat - nt xs k)
theorem smL_len (ts : List T3) (xs : List Int) : ∀ k, (smL ts xs k).length = ts.length
 | 0 => List.length_replicate
 | k + 1 => by
  have := smL_len ts xs k
  unfold smL
  simp only
  split <;> split <;> simp [this]
theorem nt_set {A : List Int} {i j : Nat} {x : Int} (hj : j < A.length) : nt (A.set i x) j = if i = j then x else nt A j := by
 unfold nt
 rw [List.getD_eq_getElem?_getD, List.getD_eq_getElem?_getD, List.getElem?_set]
 by_cases h : i = j
 ·subst h; simp [hj]
 ·simp [h]
theorem smL_bd {ts : List T3} {xs : List Int} (hx : ∀ k, k < xs.length → -1000000000 ≤ nt xs k ∧ nt xs k ≤ 1000000000) : ∀ k, k ≤ xs.length → ∀ i, i < ts.length → -(2000000000 * (k : Int)) ≤ nt (smL ts xs k) i ∧ nt (smL ts xs k) i ≤ 2000000000 * (k : Int)
 | 0, _, i, hi => by
  unfold smL nt
  rw [List.getD_eq_getElem?_getD, List.getElem?_replicate, if_pos hi]
  simp
 | k + 1, hk, i, hi => by
  have ih := smL_bd (ts := ts) hx k (by omega)
  have h1 := hx k (by omega)
  have h2 := ih i hi
  have hl := smL_len ts xs k
  have hr := sdP_rng ts (pt (edL ts) k)
  unfold smL
  simp only
  split <;> split
  ·omega
  ·rw [nt_set (by omega)]
   have h3 := ih (sdP ts (pt (edL ts) k)).x.toNat (by omega)
   split <;> omega
  ·rw [nt_set (by omega)]
   have h3 := ih (sdP ts (pt (edL ts) k)).y.toNat (by omega)
   split <;> omega
  ·have h3 := ih (sdP ts (pt (edL ts) k)).x.toNat (by omega)
   have h4 := ih (sdP ts (pt (edL ts) k)).y.toNat (by omega)
   rw [nt_set (by rw [List.length_set]; omega), nt_set (by omega), nt_set (by omega)]
   repeat' split
   all_goals omega
theorem flatN_set (A : List Int) (i : Nat) (x : Int) : flatN (A.set i x) = (flatN A).set i (.int .i64 x) := by
 unfold flatN
 rw [List.map_set]
theorem flatN_zero {n : Nat} {f : Nat → Value} (hf : ∀ i, f i = .int .i64 0) : (List.range n).map f = flatN (List.replicate n 0) := by
 unfold flatN
 rw [List.map_replicate]
 refine List.ext_getElem (by simp) fun i h1 h2 => ?_
 simp [hf]
theorem mem6_zero {l : List Pn} {ts : List T3} {xs : List Int} {c c2 z0 z1 z2 z4 z5 : Nat} {f : Nat → Value} {A : List Int} (hA : A = List.replicate ts.length 0) (hf : ∀ i, f i = .int .i64 0) : mem6 l ts xs c c2 z0 z1 z2 z4 z5 ++ [some ⟨(List.range ts.length).map f, true, 1⟩] = mem6 l ts xs c c2 z0 z1 z2 z4 z5 ++ [some ⟨flatN A, true, 1⟩] := by
 rw [hA, flatN_zero hf]
theorem smL_a {ts : List T3} {xs : List Int} {k : Nat} (h1 : (sdP ts (pt (edL ts) k)).x = -1) (h2 : (sdP ts (pt (edL ts) k)).y = -1) : smL ts xs (k + 1) = smL ts xs k := by
 conv => lhs; unfold smL
 simp only
 rw [if_pos h2, if_pos h1]
theorem smL_b {ts : List T3} {xs : List Int} {k : Nat} (h1 : (sdP ts (pt (edL ts) k)).x = -1) (h2 : (sdP ts (pt (edL ts) k)).y ≠ -1) : smL ts xs (k + 1) = (smL ts xs k).set (sdP ts (pt (edL ts) k)).y.toNat (nt (smL ts xs k) (sdP ts (pt (edL ts) k)).y.toNat - nt xs k) := by
 conv => lhs; unfold smL
 simp only
 rw [if_neg h2, if_pos h1]
theorem smL_c {ts : List T3} {xs : List Int} {k : Nat} (h1 : (sdP ts (pt (edL ts) k)).x ≠ -1) (h2 : (sdP ts (pt (edL ts) k)).y = -1) : smL ts xs (k + 1) = (smL ts xs k).set (sdP ts (pt (edL ts) k)).x.toNat (nt (smL ts xs k) (sdP ts (pt (edL ts) k)).x.toNat + nt xs k) := by
 conv => lhs; unfold smL
 simp only
 rw [if_pos h2, if_neg h1]
theorem smL_d {ts : List T3} {xs : List Int} {k : Nat} (h1 : (sdP ts (pt (edL ts) k)).x ≠ -1) (h2 : (sdP ts (pt (edL ts) k)).y ≠ -1) : smL ts xs (k + 1) = ((smL ts xs k).set (sdP ts (pt (edL ts) k)).x.toNat (nt (smL ts xs k) (sdP ts (pt (edL ts) k)).x.toNat + nt xs k)).set (sdP ts (pt (edL ts) k)).y.toNat (nt ((smL ts xs k).set (sdP ts (pt (edL ts) k)).x.toNat (nt (smL ts xs k) (sdP ts (pt (edL ts) k)).x.toNat + nt xs k)) (sdP ts (pt (edL ts) k)).y.toNat - nt xs k) := by
 conv => lhs; unfold smL
 simp only
 rw [if_neg h2, if_neg h1]
end Go.Me
namespace Go.Proofs.YtmohcmghbfhdlaaGreat
open Go Go.RowKit Go.Ab Go.Me
set_option maxRecDepth 100000
set_option maxHeartbeats 4000000
attribute [local irreducible] OQ OW AL AW AF SW
theorem sums_0 (l : List Pn) (ts : List T3) (hR : NetR l ts) (xs : List Int) (hxl : xs.length = (edL ts).length) (hx : ∀ k, k < xs.length → -1000000000 ≤ nt xs k ∧ nt xs k ≤ 1000000000) (c c2 c3 z0 z1 z2 z4 z5 : Nat) :
  ACalls Tryz.prog 125 [.pointer (some ⟨2, 0, none⟩), .slice (some ⟨5, 0, none⟩) xs.length c3] [some ⟨flatP l, false, z0⟩, some ⟨flatT ts, false, z1⟩, some ⟨[.slice (some ⟨0, 0, none⟩) l.length c, .slice (some ⟨1, 0, none⟩) ts.length c2, .slice (some ⟨4, 0, none⟩) (edL ts).length INF, .map (some 3)], false, z2⟩, some (mpX (lfA ts) false 0), some ⟨flatP (edL ts), false, z4⟩, some ⟨flatN xs, false, z5⟩]
   (.slice (some ⟨6, 0, none⟩) ts.length ts.length) [some ⟨flatP l, false, z0⟩, some ⟨flatT ts, false, z1⟩, some ⟨[.slice (some ⟨0, 0, none⟩) l.length c, .slice (some ⟨1, 0, none⟩) ts.length c2, .slice (some ⟨4, 0, none⟩) (edL ts).length INF, .map (some 3)], false, z2⟩, some (mpX (lfA ts) false 0), some ⟨flatP (edL ts), false, z4⟩, some ⟨flatN xs, false, z5⟩, some ⟨flatN (smL ts xs xs.length), true, 1⟩] := by
 have hg := fun (k : Nat) (hk : k < xs.length) => flatN_get xs k hk
 have hle := edL_le ts
 have h80 := hR.le
 have hs := fun (m : Mem) (i : Nat) (h : OpenN m 2 3 4 0 1 c c2 l ts) (hi : i < (edL ts).length) => sides_q (i := i) h hR hi
 have hr := fun (k : Nat) => sdP_rng ts (pt (edL ts) k)
 have hsl := smL_len ts xs
 have hbd := smL_bd (ts := ts) hx
 have hS0 : smL ts xs 0 = List.replicate ts.length 0 := rfl
 have ha := fun k => smL_a (ts := ts) (xs := xs) (k := k)
 have hb := fun k => smL_b (ts := ts) (xs := xs) (k := k)
 have hc1 := fun k => smL_c (ts := ts) (xs := xs) (k := k)
 have hd := fun k => smL_d (ts := ts) (xs := xs) (k := k)
 have hsn := fun k => flatN_scal (smL ts xs k)
 have hgA := fun (k i : Nat) (hi : i < ts.length) => flatN_get (smL ts xs k) i (by rw [smL_len]; exact hi)
 have hgB : ∀ (k i j : Nat) (x : Int) (hi : i < ts.length), ((flatN (smL ts xs k)).set j (.int .i64 x))[i]? = some (.int .i64 (nt ((smL ts xs k).set j x) i)) := fun k i j x hi => by
  rw [← flatN_set]
  exact flatN_get _ _ (by rw [List.length_set, smL_len]; exact hi)
 have hnB : ∀ (k i j : Nat) (x : Int) (hi : i < ts.length), nt ((smL ts xs k).set j x) i = if j = i then x else nt (smL ts xs k) i := fun k i j x hi => nt_set (by rw [smL_len]; exact hi)
 have hfl : ∀ k, (flatN (smL ts xs k)).length = ts.length := fun k => by rw [flatN_len, smL_len]
 refine ACalls.en 48 Tryz.func125 rfl rfl (fun E hE => ?_)
 repeat' (first | with_reducible (first | refine Then.n ?_ | refine Then.x ?_ | refine InB.n ?_ | refine InB.hit ?_) | ((with_reducible refine AL.on ?_); first | ((first | refine AL.mv ?_ | ((with_reducible refine AL.k_load ?_); first | (refine AL.g (OQ.load1 (ty := 23) rfl kr (by (conv => lhs; whnf))) ?_) | (refine AL.g (OQ.load1 (ty := 3) rfl kr (by first | (first | exact hg _ (by omega) | exact hgA k _ (by omega) | exact hgB k _ _ _ (by omega)) | (conv => lhs; whnf))) ?_)) | ((with_reducible refine AL.k_binOp ?_); first | refine AL.g (OQ.lss rfl rfl) ?_ | refine AL.g (OQ.neq rfl rfl) ?_ | refine AL.g (OQ.addi rfl rfl (by omega)) ?_ | refine AL.g (OQ.subi rfl rfl (by omega)) ?_) | refine AL.as ?_ | ((with_reducible refine AL.k_call ?_); first | refine AL.g (OQ.lenS (xt := 23) (r := (none, 3, true)) rfl kr) ?_ | refine AL.g (OQ.lenS (xt := 26) (r := (none, 1, false)) rfl kr) ?_) | refine AL.g (OQ.nilCheck rfl) ?_); refine AL.nm ?_) | ((first | ((with_reducible refine AL.k_indexAddr ?_); first | refine AL.g (OQ.idxAddr (ty := 26) (z := 1) (g := false) rfl rfl kr (by omega) (by omega)) ?_ | refine AL.g (OQ.idxPtr (ty := 52) (n := 1) (l := 2) (g := false) rfl rfl kr (by omega) (by omega)) ?_) | ((with_reducible refine AL.k_call ?_); refine AL.pcall (g := 72) rfl kr rfl ((by exact hs _ k ⟨⟨_, rfl, rfl, rfl⟩, ⟨_, rfl, rfl, rfl⟩, ⟨_, rfl, rfl, rfl⟩, ⟨_, rfl⟩, ⟨_, rfl, rfl, rfl⟩⟩ (by omega))) ?_) | ((with_reducible refine AL.k_fieldAddr ?_); first | refine AL.g (OQ.fieldA (ty := 110) (i := 0) (n := 2) (off := 0) (g := true) rfl kr (by decide)) ?_ | refine AL.g (OQ.fieldA (ty := 25) (i := 1) (n := 1) (off := 1) (g := false) rfl kr (by decide)) ?_)); refine AL.nm ?_) | ((first | ((with_reducible refine AL.k_store ?_); first | (refine AL.w rfl (OW.store (ty := 52) (n := 2) rfl wl rfl rfl kr rfl rfl (by decide) rfl (by exact Nat.le_of_ble_eq_true rfl) (by intro r h; cases h)) ?_) | (refine AL.w rfl (OW.store (ty := 3) (n := 1) rfl wl rfl rfl kr rfl rfl (by decide) rfl (by (((simp only [List.length_set, hfl]; omega)))) (by intro r h; cases h)) ?_)) | ((with_reducible refine AL.k_alloc ?_); refine AL.w rfl (OW.alloc (ty := 52) (z := [.int .i64 0, .int .i64 0]) kr rfl) ?_) | refine AL.w rfl (OW.makeSl (st := 26) (e := 3) (z := 1) (by' := 8) (zs := [.int .i64 0]) rfl kr kr kr rfl rfl kr (by decide) (by omega) (by omega)) ?_); refine AL.nm ?_; refine AL.nM ?_) | refine AL.nil ?_) | ((with_reducible refine AW.on ?_); first | refine AW.seq ?_ | refine AW.skip ?_ | refine AW.exit ?_ | refine AW.ret ?_ | ((refine AW.block (id := 0) ?_); (refine AW.fk [0, 5, 16, 17, 18] ?_); (refine AW.loop (fun n' t' m => ∃ k : Nat, n' = xs.length - k ∧ k ≤ xs.length ∧ t' = (mtz 50 0 [(0, .pointer (some ⟨2, 0, none⟩)), (5, .slice (some ⟨6, 0, none⟩) ts.length ts.length), (16, .slice (some ⟨5, 0, none⟩) xs.length c3), (17, .int .i64 (xs.length)), (18, .int .i64 (k))]) ∧ m = mem6 l ts xs c c2 z0 z1 z2 z4 z5 ++ [some ⟨flatN (smL ts xs k), true, 1⟩]) (xs.length) (by exact ⟨0, rfl, Nat.zero_le _, rfl, mem6_zero hS0 (fun i => by simp [Nat.mod_one])⟩) ?_); (rintro n' t' m ⟨k, rfl, hk, rfl, rfl⟩); (refine AW.nT ?_)) | refine AW.block ?_ | (refine AW.region (id := 6) ?_; ((have hq := hr k; have hx2 := hx k (by omega)))) | (refine AW.region (id := 7) ?_; ((have hq1 := hbd k (by omega) (sdP ts (pt (edL ts) k)).x.toNat (by omega)))) | (refine AW.region (id := 9) ?_; ((have hq2 := hbd k (by omega) (sdP ts (pt (edL ts) k)).y.toNat (by omega); have hq4 := hnB k (sdP ts (pt (edL ts) k)).y.toNat (sdP ts (pt (edL ts) k)).x.toNat (nt (smL ts xs k) (sdP ts (pt (edL ts) k)).x.toNat + nt xs k) (by omega); have hq5 : nt ((smL ts xs k).set (sdP ts (pt (edL ts) k)).x.toNat (nt (smL ts xs k) (sdP ts (pt (edL ts) k)).x.toNat + nt xs k)) (sdP ts (pt (edL ts) k)).y.toNat = nt (smL ts xs k) (sdP ts (pt (edL ts) k)).x.toNat + nt xs k ∧ (sdP ts (pt (edL ts) k)).x.toNat = (sdP ts (pt (edL ts) k)).y.toNat ∨ nt ((smL ts xs k).set (sdP ts (pt (edL ts) k)).x.toNat (nt (smL ts xs k) (sdP ts (pt (edL ts) k)).x.toNat + nt xs k)) (sdP ts (pt (edL ts) k)).y.toNat = nt (smL ts xs k) (sdP ts (pt (edL ts) k)).y.toNat := (by rw [hq4]; split; (exact .inl ⟨rfl, by assumption⟩); exact .inr rfl); clear hq4; have hq6 : (sdP ts (pt (edL ts) k)).x.toNat = (sdP ts (pt (edL ts) k)).y.toNat → nt (smL ts xs k) (sdP ts (pt (edL ts) k)).x.toNat = nt (smL ts xs k) (sdP ts (pt (edL ts) k)).y.toNat := (fun h => by rw [h])))) | refine AW.region ?_ | (refine AW.conds rfl (fun hc => ?_) (fun hc => ?_) <;> (try replace hc := nc hc) <;> skip)) | ((with_reducible refine ex_on ?_); (refine ⟨xs.length - (k + 1), [.pointer (some ⟨2, 0, none⟩), jk, jk, jk, jk, .slice (some ⟨6, 0, none⟩) ts.length ts.length, jk, jk, jk, jk, jk, jk, jk, jk, jk, jk, .slice (some ⟨5, 0, none⟩) xs.length c3, .int .i64 (xs.length), .int .i64 (((k + 1 : Nat) : Int)), jk, jk, jk, jk, jk, jk, jk, jk, jk, jk, jk, jk, jk, jk, jk, jk, jk, jk, jk, jk, jk, jk, jk, jk, jk, jk, jk, jk, jk, jk, jk], mem6 l ts xs c c2 z0 z1 z2 z4 z5 ++ [some ⟨flatN (smL ts xs (k + 1)), true, 1⟩], by omega, ?_, k + 1, rfl, by omega, rfl, rfl⟩; have hs2 := hsn (k + 1); (first | rw [ha k (by omega) (by omega)] at hs2 ⊢ | rw [hb k (by omega) (by omega), flatN_set] at hs2 ⊢ | rw [hc1 k (by omega) (by omega), flatN_set] at hs2 ⊢ | rw [hd k (by omega) (by omega), flatN_set, flatN_set] at hs2 ⊢); exact Wk.keep 7 [] (by rw [hE]; exact Nat.le_of_ble_eq_true rfl) rfl rfl (by repeat (first | exact RenT.nil | refine RenT.jk ?_ | refine RenT.val (by rfl) (by rfl) ?_)) ⟨kl rfl (flatP_scal l), kl rfl (flatT_scal ts), ki rfl, kl rfl rfl, kl rfl (flatP_scal _), kl rfl (flatN_scal _), ⟨_, rfl, rfl, rfl, .inl ⟨rfl, hs2⟩⟩, trivial⟩)) | ((with_reducible refine FinA.on ?_); (obtain rfl : k = xs.length := (by omega); refine FinA.keep 7 [] (.inl rfl) (.tmp wl .nil) ?_ rfl (by rw [hE]; exact Nat.le_of_ble_eq_true rfl) rfl rfl ⟨kl rfl (flatP_scal l), kl rfl (flatT_scal ts), ki rfl, kl rfl rfl, kl rfl (flatP_scal _), kl rfl (flatN_scal _), kl rfl (flatN_scal _), trivial⟩; rfl)))
end Go.Proofs.YtmohcmghbfhdlaaGreat
end
end
