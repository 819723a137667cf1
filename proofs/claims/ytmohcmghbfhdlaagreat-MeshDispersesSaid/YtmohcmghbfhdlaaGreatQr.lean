/- Chapter 6: the arcs of a task (the program's). -/
import Derived.Test.YtmohcmghbfhdlaaGreatQd
import Derived.Test.YtmohcmghbfhdlaaGreatQq
import Derived.Test.YtmohcmghbfhdlaaGreatQh
section
set_option linter.unusedSimpArgs false
set_option linter.unusedVariables false
section
namespace Go.Me
open Go.Ab Go.Proofs.YtmohcmghbfhdlaaGreat
structure Ac where
 fr : Int
 to : Int
 ed : Int
 d : Int
 co : Int
def acC (a : Ac) : List Value := [.int .i64 a.fr, .int .i64 a.to, .int .i64 a.ed, .int .i64 a.d, .int .i64 a.co]
def flatA (l : List Ac) : List Value := l.flatMap acC
def ac (l : List Ac) (k : Nat) : Ac := l.getD k ⟨0, 0, 0, 0, 0⟩
theorem flatA_len (l : List Ac) : (flatA l).length = l.length * 5 := Ls.flat_len acC 5 (fun _ => rfl) l
theorem flatA_scal (l : List Ac) : (flatA l).all Ab.scal = true := Ls.flat_scal acC (fun _ => rfl) l
theorem flatA_ld {m : Mem} {b : Nat} {blk : Blk} {l : List Ac} (hb : m.at b = some blk) (hc : blk.cells = flatA l) (k : Nat) (hk : k < l.length) : m.ld b (k * 5) 5 = some (acC (ac l k)) := Ls.flat_ld acC 5 (fun _ => rfl) ⟨0, 0, 0, 0, 0⟩ l hb hc k hk
def moC (c x : Int) : Int := if x < 0 then -c else c
def leC (c x : Int) : Int := if x > 0 then -c else c
def acP (ts : List T3) (cs xs : List Int) (k : Nat) : List Ac := [⟨(sdP ts (pt (edL ts) k)).x, (sdP ts (pt (edL ts) k)).y, k, 1, moC (nt cs k) (nt xs k)⟩, ⟨(sdP ts (pt (edL ts) k)).y, (sdP ts (pt (edL ts) k)).x, k, -1, leC (nt cs k) (nt xs k)⟩]
def acL (ts : List T3) (cs xs : List Int) : Nat → List Ac
 | 0 => []
 | k + 1 => acL ts cs xs k ++ acP ts cs xs k
theorem acL_len (ts : List T3) (cs xs : List Int) : ∀ k, (acL ts cs xs k).length = k * 2
 | 0 => rfl
 | k + 1 => by
  show (acL ts cs xs k ++ acP ts cs xs k).length = _
  rw [List.length_append, acL_len ts cs xs k]
  show k * 2 + 2 = _
  omega
theorem acL_step (ts : List T3) (cs xs : List Int) (k : Nat) {a b : Int} (ha : moC (nt cs k) (nt xs k) = a) (hb : leC (nt cs k) (nt xs k) = b) : flatA (acL ts cs xs k) ++ [.int .i64 (sdP ts (pt (edL ts) k)).x, .int .i64 (sdP ts (pt (edL ts) k)).y, .int .i64 k, .int .i64 1, .int .i64 a, .int .i64 (sdP ts (pt (edL ts) k)).y, .int .i64 (sdP ts (pt (edL ts) k)).x, .int .i64 k, .int .i64 (-1), .int .i64 b] = flatA (acL ts cs xs (k + 1)) := by
 subst ha hb
 show _ = flatA (acL ts cs xs k ++ acP ts cs xs k)
 unfold flatA
 rw [List.flatMap_append]
 rfl
end Go.Me
namespace Go.Proofs.YtmohcmghbfhdlaaGreat
open Go Go.RowKit Go.Ab Go.Me
set_option maxRecDepth 100000
set_option maxHeartbeats 4000000
attribute [local irreducible] OQ OW AL AW AF SW
theorem arcs_0 (l : List Pn) (ts : List T3) (ph cs xs : List Int) (hT : TaskR l ts ph cs) (hxl : xs.length = (edL ts).length) (hxb : ∀ k, k < xs.length → -1000000 ≤ nt xs k ∧ nt xs k ≤ 1000000) (c c2 c3 c4 cx z0 z1 z2 z4 z5 z6 z7 z8 : Nat) :
  ACalls Tryz.prog 105 [.pointer (some ⟨7, 0, none⟩), .slice (some ⟨8, 0, none⟩) xs.length cx] [some ⟨flatP l, false, z0⟩, some ⟨flatT ts, false, z1⟩, some ⟨[.slice (some ⟨0, 0, none⟩) l.length c, .slice (some ⟨1, 0, none⟩) ts.length c2, .slice (some ⟨4, 0, none⟩) (edL ts).length INF, .map (some 3)], false, z2⟩, some (mpX (lfA ts) false 0), some ⟨flatP (edL ts), false, z4⟩, some ⟨flatN ph, false, z5⟩, some ⟨flatN cs, false, z6⟩, some ⟨[.pointer (some ⟨2, 0, none⟩), .slice (some ⟨5, 0, none⟩) ph.length c3, .slice (some ⟨6, 0, none⟩) cs.length c4], false, z7⟩, some ⟨flatN xs, false, z8⟩]
   (.slice (some ⟨9, 0, none⟩) (xs.length * 2) INF) [some ⟨flatP l, false, z0⟩, some ⟨flatT ts, false, z1⟩, some ⟨[.slice (some ⟨0, 0, none⟩) l.length c, .slice (some ⟨1, 0, none⟩) ts.length c2, .slice (some ⟨4, 0, none⟩) (edL ts).length INF, .map (some 3)], false, z2⟩, some (mpX (lfA ts) false 0), some ⟨flatP (edL ts), false, z4⟩, some ⟨flatN ph, false, z5⟩, some ⟨flatN cs, false, z6⟩, some ⟨[.pointer (some ⟨2, 0, none⟩), .slice (some ⟨5, 0, none⟩) ph.length c3, .slice (some ⟨6, 0, none⟩) cs.length c4], false, z7⟩, some ⟨flatN xs, false, z8⟩, some ⟨flatA (acL ts cs xs xs.length), true, 5⟩] := by
 obtain ⟨hR, hph, hcl, hca⟩ := hT
 have hcb := anyR_no hca
 have hle := edL_le ts
 have h80 := hR.le
 have hpos := edL_pos hR
 have hgC : ∀ k, k < xs.length → (flatN cs)[k]? = some (.int .i64 (nt cs k)) := fun k hk => flatN_get _ k (by omega)
 have hgX : ∀ k, k < xs.length → (flatN xs)[k]? = some (.int .i64 (nt xs k)) := fun k hk => flatN_get _ k hk
 have hs := fun (m : Mem) (i : Nat) (h : OpenN m 2 3 4 0 1 c c2 l ts) (hi : i < (edL ts).length) => sides_q (i := i) h hR hi
 have hst := fun k a b => acL_step ts cs xs k (a := a) (b := b)
 have hfl : ∀ k, k ≤ xs.length → (flatA (acL ts cs xs k)).length = k * 2 * 5 := fun k _ => by rw [flatA_len, acL_len]
 have hfs := fun k => flatA_scal (acL ts cs xs k)
 have h0 : flatA (acL ts cs xs 0) = [] := rfl
 have hmn : ∀ k, nt xs k < 0 → moC (nt cs k) (nt xs k) = -nt cs k := fun k h => if_pos h
 have hmz : ∀ k, 0 ≤ nt xs k → moC (nt cs k) (nt xs k) = nt cs k := fun k h => if_neg (by omega)
 have hln : ∀ k, nt xs k > 0 → leC (nt cs k) (nt xs k) = -nt cs k := fun k h => if_pos h
 have hlz : ∀ k, nt xs k ≤ 0 → leC (nt cs k) (nt xs k) = nt cs k := fun k h => if_neg (by omega)
 generalize acL ts cs xs = AA at *
 refine ACalls.en 63 Tryz.func105 rfl rfl (fun E hE => ?_)
 repeat' (first | with_reducible (first | refine Then.n ?_ | refine Then.x ?_ | refine InB.n ?_ | refine InB.hit ?_) | ((with_reducible refine AL.on ?_); first | ((first | refine AL.mv ?_ | refine AL.as ?_ | ((with_reducible refine AL.k_load ?_); first | (refine AL.g (OQ.load1 (ty := 3) rfl kr (by first | (exact hgX k (by omega)) | (conv => lhs; whnf))) ?_) | (refine AL.g (OQ.load1 (ty := 103) rfl kr (by (conv => lhs; whnf))) ?_)) | ((with_reducible refine AL.k_binOp ?_); first | refine AL.g (OQ.lss rfl rfl) ?_ | refine AL.g (OQ.gtr rfl rfl) ?_ | refine AL.g (OQ.addi rfl rfl (by omega)) ?_) | ((with_reducible refine AL.k_call ?_); refine AL.g (OQ.lenS (xt := 26) (r := (none, 1, false)) rfl kr) ?_) | ((with_reducible refine AL.k_unOp ?_); refine AL.g (OQ.negi rfl (by omega)) ?_) | refine AL.g (OQ.nilCheck rfl) ?_); refine AL.nm ?_) | ((first | ((with_reducible refine AL.k_indexAddr ?_); first | refine AL.g (OQ.idxAddr (ty := 26) (z := 1) (g := false) rfl rfl kr (by omega) (by omega)) ?_ | refine AL.g (OQ.idxPtr (ty := 52) (n := 1) (l := 2) (g := false) rfl rfl kr (by omega) (by omega)) ?_) | ((with_reducible refine AL.k_fieldAddr ?_); refine AL.g (OQ.fieldA (ty := 134) (i := 0) (n := 1) (off := 0) (g := false) rfl kr (by decide)) ?_) | ((with_reducible refine AL.k_call ?_); refine AL.pcall (g := 72) rfl kr rfl ((by exact hs _ k ⟨⟨_, rfl, rfl, rfl⟩, ⟨_, rfl, rfl, rfl⟩, ⟨_, rfl, rfl, rfl⟩, ⟨_, rfl⟩, ⟨_, rfl, rfl, rfl⟩⟩ (by omega))) ?_) | ((with_reducible refine AL.k_build ?_); refine AL.g (OQ.buildS (ty := 149) (zs := [.int .i64 0, .int .i64 0, .int .i64 0, .int .i64 0, .int .i64 0]) (pls := [(0, 1), (1, 1), (2, 1), (3, 1), (4, 1)]) kr rfl kr rfl rfl rfl) ?_)); refine AL.nm ?_) | ((first | ((with_reducible refine AL.k_call ?_); refine AL.w rfl (by first | exact OW.appendNil (e := 149) (z := 5) (zs := [.int .i64 0, .int .i64 0, .int .i64 0, .int .i64 0, .int .i64 0]) (by' := 40) rfl rfl kr kr kr rfl kr (by decide) rfl (by decide) (by decide) | exact OW.appendL (e := 149) (z := 5) (zs := [.int .i64 0, .int .i64 0, .int .i64 0, .int .i64 0, .int .i64 0]) (by' := 40) rfl rfl kr kr kr rfl kr (by decide) rfl rfl rfl (by decide) (by exact hfl k (by omega)) rfl rfl (by omega) (by omega)) ?_) | ((with_reducible refine AL.k_alloc ?_); refine AL.w rfl (OW.alloc (ty := 52) (z := [.int .i64 0, .int .i64 0]) kr rfl) ?_) | ((with_reducible refine AL.k_store ?_); (refine AL.w rfl (OW.store (ty := 52) (n := 2) rfl wl rfl rfl kr rfl rfl (by decide) rfl (Nat.le_of_ble_eq_true rfl) (by intro r h; cases h)) ?_)) | ((with_reducible refine AL.k_buildSlice ?_); refine AL.w rfl (OW.buildSl (ty := 146) (zs := [.int .i64 0, .int .i64 0, .int .i64 0, .int .i64 0, .int .i64 0]) (n := 5) (g := true) kr kr rfl rfl rfl (by decide) (by decide) rfl rfl) ?_)); refine AL.nm ?_; refine AL.nM ?_) | refine AL.nil ?_) | ((with_reducible refine AW.on ?_); first | refine AW.seq ?_ | refine AW.skip ?_ | refine AW.exit ?_ | refine AW.ret ?_ | ((refine AW.block (id := 0) ?_); (refine AW.fk [0, 5, 11, 12, 13] ?_); (refine AW.loop (fun n' t' m => ∃ k : Nat, n' = xs.length - k ∧ k ≤ xs.length ∧ ((k = 0 ∧ t' = [.pointer (some ⟨7, 0, none⟩), jk, jk, jk, jk, .slice none 0 0, jk, jk, jk, jk, jk, .slice (some ⟨8, 0, none⟩) xs.length cx, .int .i64 (xs.length), .int .i64 (k), jk, jk, jk, jk, jk, jk, jk, jk, jk, jk, jk, jk, jk, jk, jk, jk, jk, jk, jk, jk, jk, jk, jk, jk, jk, jk, jk, jk, jk, jk, jk, jk, jk, jk, jk, jk, jk, jk, jk, jk, jk, jk, jk, jk, jk, jk, jk, jk, jk, jk, jk] ∧ m = [some ⟨flatP l, false, z0⟩, some ⟨flatT ts, false, z1⟩, some ⟨[.slice (some ⟨0, 0, none⟩) l.length c, .slice (some ⟨1, 0, none⟩) ts.length c2, .slice (some ⟨4, 0, none⟩) (edL ts).length INF, .map (some 3)], false, z2⟩, some (mpX (lfA ts) false 0), some ⟨flatP (edL ts), false, z4⟩, some ⟨flatN ph, false, z5⟩, some ⟨flatN cs, false, z6⟩, some ⟨[.pointer (some ⟨2, 0, none⟩), .slice (some ⟨5, 0, none⟩) ph.length c3, .slice (some ⟨6, 0, none⟩) cs.length c4], false, z7⟩, some ⟨flatN xs, false, z8⟩]) ∨ (0 < k ∧ t' = [.pointer (some ⟨7, 0, none⟩), jk, jk, jk, jk, .slice (some ⟨9, 0, none⟩) (k * 2) INF, jk, jk, jk, jk, jk, .slice (some ⟨8, 0, none⟩) xs.length cx, .int .i64 (xs.length), .int .i64 (k), jk, jk, jk, jk, jk, jk, jk, jk, jk, jk, jk, jk, jk, jk, jk, jk, jk, jk, jk, jk, jk, jk, jk, jk, jk, jk, jk, jk, jk, jk, jk, jk, jk, jk, jk, jk, jk, jk, jk, jk, jk, jk, jk, jk, jk, jk, jk, jk, jk, jk, jk] ∧ m = [some ⟨flatP l, false, z0⟩, some ⟨flatT ts, false, z1⟩, some ⟨[.slice (some ⟨0, 0, none⟩) l.length c, .slice (some ⟨1, 0, none⟩) ts.length c2, .slice (some ⟨4, 0, none⟩) (edL ts).length INF, .map (some 3)], false, z2⟩, some (mpX (lfA ts) false 0), some ⟨flatP (edL ts), false, z4⟩, some ⟨flatN ph, false, z5⟩, some ⟨flatN cs, false, z6⟩, some ⟨[.pointer (some ⟨2, 0, none⟩), .slice (some ⟨5, 0, none⟩) ph.length c3, .slice (some ⟨6, 0, none⟩) cs.length c4], false, z7⟩, some ⟨flatN xs, false, z8⟩, some ⟨flatA (AA k), true, 5⟩]))) (xs.length) (by exact ⟨0, rfl, Nat.zero_le _, .inl ⟨rfl, rfl, rfl⟩⟩) ?_); (rintro n' t' m ⟨k, rfl, hk, (⟨hk0, rfl, rfl⟩ | ⟨hk1, rfl, rfl⟩)⟩)) | refine AW.block ?_ | (refine AW.drawF (id := 6) 15 #[0, 1, 3, 7, 0, 31, 63, 0, 128, 384, 896, 0, 3968, 8064, 127, 32767] kr kr ?_; (conv => (arg 8; simp only [List.take_succ_cons, List.take_zero]))) | (refine AW.region (id := 4) ?_; ((have hq1 := hcb k (by omega); have hq2 := hxb k (by omega)))) | refine AW.region ?_ | (refine AW.conds rfl (fun hc => ?_) (fun hc => ?_) <;> (try replace hc := nc hc) <;> first | (exfalso; ((omega); done)) | skip)) | ((with_reducible refine AF.on ?_); first | ((first | ((with_reducible refine AF.k_move ?_); (refine AF.q 0 (SW.q (OQ.move wl) rfl) ?_)) | ((with_reducible refine AF.k_load ?_); first | (refine AF.ql rfl (SW.q (OQ.load1 (ty := 26) rfl kr (by (conv => lhs; whnf))) rfl) ?_) | (refine AF.ql rfl (SW.q (OQ.load1 (ty := 3) rfl kr (by (exact hgC k (by omega)))) rfl) ?_)) | ((with_reducible refine AF.k_assign ?_); (refine AF.q 0 (SW.q (OQ.assign wl) rfl) ?_)) | ((with_reducible refine AF.k_indexAddr ?_); refine AF.q 0 (SW.q (OQ.idxAddr (ty := 26) (z := 1) (g := false) rfl rfl kr (by omega) (by omega)) rfl) ?_) | ((with_reducible refine AF.k_fieldAddr ?_); refine AF.q 0 (SW.q (OQ.fieldA (ty := 134) (i := 2) (n := 1) (off := 2) (g := false) rfl kr (by decide)) rfl) ?_) | refine AF.q 2 (SW.q (OQ.nilCheck rfl) rfl) ?_); refine AF.nm ?_) | refine AF.nl ?_) | ((with_reducible refine ex_on ?_); first | (obtain rfl := hk0; have hf0 := hst 0 _ _ (hmn _ (by omega)) (hlz _ (by omega)); rw [h0] at hf0; refine ⟨xs.length - 1, [.pointer (some ⟨7, 0, none⟩), jk, jk, jk, jk, .slice (some ⟨9, 0, none⟩) (2) INF, jk, jk, jk, jk, jk, .slice (some ⟨8, 0, none⟩) xs.length cx, .int .i64 (xs.length), .int .i64 (((0 + 1 : Nat) : Int)), jk, jk, jk, jk, jk, jk, jk, jk, jk, jk, jk, jk, jk, jk, jk, jk, jk, jk, jk, jk, jk, jk, jk, jk, jk, jk, jk, jk, jk, jk, jk, jk, jk, jk, jk, jk, jk, jk, jk, jk, jk, jk, jk, jk, jk, jk, jk, jk, jk, jk, jk], [some ⟨flatP l, false, z0⟩, some ⟨flatT ts, false, z1⟩, some ⟨[.slice (some ⟨0, 0, none⟩) l.length c, .slice (some ⟨1, 0, none⟩) ts.length c2, .slice (some ⟨4, 0, none⟩) (edL ts).length INF, .map (some 3)], false, z2⟩, some (mpX (lfA ts) false 0), some ⟨flatP (edL ts), false, z4⟩, some ⟨flatN ph, false, z5⟩, some ⟨flatN cs, false, z6⟩, some ⟨[.pointer (some ⟨2, 0, none⟩), .slice (some ⟨5, 0, none⟩) ph.length c3, .slice (some ⟨6, 0, none⟩) cs.length c4], false, z7⟩, some ⟨flatN xs, false, z8⟩, some ⟨[.int .i64 (sdP ts (pt (edL ts) 0)).x, .int .i64 (sdP ts (pt (edL ts) 0)).y, .int .i64 ((0 : Nat) : Int), .int .i64 1, .int .i64 (-nt cs 0), .int .i64 (sdP ts (pt (edL ts) 0)).y, .int .i64 (sdP ts (pt (edL ts) 0)).x, .int .i64 ((0 : Nat) : Int), .int .i64 (-1), .int .i64 (nt cs 0)], true, 5⟩], by omega, ?_, 0 + 1, rfl, by omega, .inr ⟨by omega, rfl, by rw [← hf0]; rfl⟩⟩; exact Wk.keep 9 [11] (by rw [hE]; exact Nat.le_of_ble_eq_true rfl) rfl rfl (by repeat (first | exact RenT.nil | refine RenT.jk ?_ | refine RenT.val (by rfl) (by rfl) ?_)) ⟨kl rfl (flatP_scal l), kl rfl (flatT_scal ts), ki rfl, kl rfl rfl, kl rfl (flatP_scal _), kl rfl (flatN_scal _), kl rfl (flatN_scal _), ki rfl, kl rfl (flatN_scal _), kl rfl rfl, trivial⟩) | (have hf0 := hst k _ _ (hmn _ (by omega)) (hlz _ (by omega)); have hfk := hfs k; refine ⟨xs.length - (k + 1), [.pointer (some ⟨7, 0, none⟩), jk, jk, jk, jk, .slice (some ⟨9, 0, none⟩) (k * 2 + 2) INF, jk, jk, jk, jk, jk, .slice (some ⟨8, 0, none⟩) xs.length cx, .int .i64 (xs.length), .int .i64 (((k + 1 : Nat) : Int)), jk, jk, jk, jk, jk, jk, jk, jk, jk, jk, jk, jk, jk, jk, jk, jk, jk, jk, jk, jk, jk, jk, jk, jk, jk, jk, jk, jk, jk, jk, jk, jk, jk, jk, jk, jk, jk, jk, jk, jk, jk, jk, jk, jk, jk, jk, jk, jk, jk, jk, jk], [some ⟨flatP l, false, z0⟩, some ⟨flatT ts, false, z1⟩, some ⟨[.slice (some ⟨0, 0, none⟩) l.length c, .slice (some ⟨1, 0, none⟩) ts.length c2, .slice (some ⟨4, 0, none⟩) (edL ts).length INF, .map (some 3)], false, z2⟩, some (mpX (lfA ts) false 0), some ⟨flatP (edL ts), false, z4⟩, some ⟨flatN ph, false, z5⟩, some ⟨flatN cs, false, z6⟩, some ⟨[.pointer (some ⟨2, 0, none⟩), .slice (some ⟨5, 0, none⟩) ph.length c3, .slice (some ⟨6, 0, none⟩) cs.length c4], false, z7⟩, some ⟨flatN xs, false, z8⟩, some ⟨flatA (AA k) ++ [.int .i64 (sdP ts (pt (edL ts) k)).x, .int .i64 (sdP ts (pt (edL ts) k)).y, .int .i64 k, .int .i64 1, .int .i64 (-nt cs k), .int .i64 (sdP ts (pt (edL ts) k)).y, .int .i64 (sdP ts (pt (edL ts) k)).x, .int .i64 k, .int .i64 (-1), .int .i64 (nt cs k)], true, 5⟩], by omega, ?_, k + 1, rfl, by omega, .inr ⟨by omega, by rw [show (k + 1) * 2 = k * 2 + 2 by omega], by rw [← hf0]⟩⟩; exact Wk.keep 9 [12] (by rw [hE]; exact Nat.le_of_ble_eq_true rfl) rfl rfl (by repeat (first | exact RenT.nil | refine RenT.jk ?_ | refine RenT.val (by rfl) (by rfl) ?_)) ⟨kl rfl (flatP_scal l), kl rfl (flatT_scal ts), ki rfl, kl rfl rfl, kl rfl (flatP_scal _), kl rfl (flatN_scal _), kl rfl (flatN_scal _), ki rfl, kl rfl (flatN_scal _), ⟨_, rfl, rfl, rfl, .inl ⟨rfl, by rw [List.all_append, hfk]; rfl⟩⟩, trivial⟩) | (obtain rfl := hk0; have hf0 := hst 0 _ _ (hmz _ (by omega)) (hln _ (by omega)); rw [h0] at hf0; refine ⟨xs.length - 1, [.pointer (some ⟨7, 0, none⟩), jk, jk, jk, jk, .slice (some ⟨9, 0, none⟩) (2) INF, jk, jk, jk, jk, jk, .slice (some ⟨8, 0, none⟩) xs.length cx, .int .i64 (xs.length), .int .i64 (((0 + 1 : Nat) : Int)), jk, jk, jk, jk, jk, jk, jk, jk, jk, jk, jk, jk, jk, jk, jk, jk, jk, jk, jk, jk, jk, jk, jk, jk, jk, jk, jk, jk, jk, jk, jk, jk, jk, jk, jk, jk, jk, jk, jk, jk, jk, jk, jk, jk, jk, jk, jk, jk, jk, jk, jk], [some ⟨flatP l, false, z0⟩, some ⟨flatT ts, false, z1⟩, some ⟨[.slice (some ⟨0, 0, none⟩) l.length c, .slice (some ⟨1, 0, none⟩) ts.length c2, .slice (some ⟨4, 0, none⟩) (edL ts).length INF, .map (some 3)], false, z2⟩, some (mpX (lfA ts) false 0), some ⟨flatP (edL ts), false, z4⟩, some ⟨flatN ph, false, z5⟩, some ⟨flatN cs, false, z6⟩, some ⟨[.pointer (some ⟨2, 0, none⟩), .slice (some ⟨5, 0, none⟩) ph.length c3, .slice (some ⟨6, 0, none⟩) cs.length c4], false, z7⟩, some ⟨flatN xs, false, z8⟩, some ⟨[.int .i64 (sdP ts (pt (edL ts) 0)).x, .int .i64 (sdP ts (pt (edL ts) 0)).y, .int .i64 ((0 : Nat) : Int), .int .i64 1, .int .i64 (nt cs 0), .int .i64 (sdP ts (pt (edL ts) 0)).y, .int .i64 (sdP ts (pt (edL ts) 0)).x, .int .i64 ((0 : Nat) : Int), .int .i64 (-1), .int .i64 (-nt cs 0)], true, 5⟩], by omega, ?_, 0 + 1, rfl, by omega, .inr ⟨by omega, rfl, by rw [← hf0]; rfl⟩⟩; exact Wk.keep 9 [11] (by rw [hE]; exact Nat.le_of_ble_eq_true rfl) rfl rfl (by repeat (first | exact RenT.nil | refine RenT.jk ?_ | refine RenT.val (by rfl) (by rfl) ?_)) ⟨kl rfl (flatP_scal l), kl rfl (flatT_scal ts), ki rfl, kl rfl rfl, kl rfl (flatP_scal _), kl rfl (flatN_scal _), kl rfl (flatN_scal _), ki rfl, kl rfl (flatN_scal _), kl rfl rfl, trivial⟩) | (have hf0 := hst k _ _ (hmz _ (by omega)) (hln _ (by omega)); have hfk := hfs k; refine ⟨xs.length - (k + 1), [.pointer (some ⟨7, 0, none⟩), jk, jk, jk, jk, .slice (some ⟨9, 0, none⟩) (k * 2 + 2) INF, jk, jk, jk, jk, jk, .slice (some ⟨8, 0, none⟩) xs.length cx, .int .i64 (xs.length), .int .i64 (((k + 1 : Nat) : Int)), jk, jk, jk, jk, jk, jk, jk, jk, jk, jk, jk, jk, jk, jk, jk, jk, jk, jk, jk, jk, jk, jk, jk, jk, jk, jk, jk, jk, jk, jk, jk, jk, jk, jk, jk, jk, jk, jk, jk, jk, jk, jk, jk, jk, jk, jk, jk, jk, jk, jk, jk], [some ⟨flatP l, false, z0⟩, some ⟨flatT ts, false, z1⟩, some ⟨[.slice (some ⟨0, 0, none⟩) l.length c, .slice (some ⟨1, 0, none⟩) ts.length c2, .slice (some ⟨4, 0, none⟩) (edL ts).length INF, .map (some 3)], false, z2⟩, some (mpX (lfA ts) false 0), some ⟨flatP (edL ts), false, z4⟩, some ⟨flatN ph, false, z5⟩, some ⟨flatN cs, false, z6⟩, some ⟨[.pointer (some ⟨2, 0, none⟩), .slice (some ⟨5, 0, none⟩) ph.length c3, .slice (some ⟨6, 0, none⟩) cs.length c4], false, z7⟩, some ⟨flatN xs, false, z8⟩, some ⟨flatA (AA k) ++ [.int .i64 (sdP ts (pt (edL ts) k)).x, .int .i64 (sdP ts (pt (edL ts) k)).y, .int .i64 k, .int .i64 1, .int .i64 (nt cs k), .int .i64 (sdP ts (pt (edL ts) k)).y, .int .i64 (sdP ts (pt (edL ts) k)).x, .int .i64 k, .int .i64 (-1), .int .i64 (-nt cs k)], true, 5⟩], by omega, ?_, k + 1, rfl, by omega, .inr ⟨by omega, by rw [show (k + 1) * 2 = k * 2 + 2 by omega], by rw [← hf0]⟩⟩; exact Wk.keep 9 [12] (by rw [hE]; exact Nat.le_of_ble_eq_true rfl) rfl rfl (by repeat (first | exact RenT.nil | refine RenT.jk ?_ | refine RenT.val (by rfl) (by rfl) ?_)) ⟨kl rfl (flatP_scal l), kl rfl (flatT_scal ts), ki rfl, kl rfl rfl, kl rfl (flatP_scal _), kl rfl (flatN_scal _), kl rfl (flatN_scal _), ki rfl, kl rfl (flatN_scal _), ⟨_, rfl, rfl, rfl, .inl ⟨rfl, by rw [List.all_append, hfk]; rfl⟩⟩, trivial⟩) | (obtain rfl := hk0; have hf0 := hst 0 _ _ (hmz _ (by omega)) (hlz _ (by omega)); rw [h0] at hf0; refine ⟨xs.length - 1, [.pointer (some ⟨7, 0, none⟩), jk, jk, jk, jk, .slice (some ⟨9, 0, none⟩) (2) INF, jk, jk, jk, jk, jk, .slice (some ⟨8, 0, none⟩) xs.length cx, .int .i64 (xs.length), .int .i64 (((0 + 1 : Nat) : Int)), jk, jk, jk, jk, jk, jk, jk, jk, jk, jk, jk, jk, jk, jk, jk, jk, jk, jk, jk, jk, jk, jk, jk, jk, jk, jk, jk, jk, jk, jk, jk, jk, jk, jk, jk, jk, jk, jk, jk, jk, jk, jk, jk, jk, jk, jk, jk, jk, jk, jk, jk], [some ⟨flatP l, false, z0⟩, some ⟨flatT ts, false, z1⟩, some ⟨[.slice (some ⟨0, 0, none⟩) l.length c, .slice (some ⟨1, 0, none⟩) ts.length c2, .slice (some ⟨4, 0, none⟩) (edL ts).length INF, .map (some 3)], false, z2⟩, some (mpX (lfA ts) false 0), some ⟨flatP (edL ts), false, z4⟩, some ⟨flatN ph, false, z5⟩, some ⟨flatN cs, false, z6⟩, some ⟨[.pointer (some ⟨2, 0, none⟩), .slice (some ⟨5, 0, none⟩) ph.length c3, .slice (some ⟨6, 0, none⟩) cs.length c4], false, z7⟩, some ⟨flatN xs, false, z8⟩, some ⟨[.int .i64 (sdP ts (pt (edL ts) 0)).x, .int .i64 (sdP ts (pt (edL ts) 0)).y, .int .i64 ((0 : Nat) : Int), .int .i64 1, .int .i64 (nt cs 0), .int .i64 (sdP ts (pt (edL ts) 0)).y, .int .i64 (sdP ts (pt (edL ts) 0)).x, .int .i64 ((0 : Nat) : Int), .int .i64 (-1), .int .i64 (nt cs 0)], true, 5⟩], by omega, ?_, 0 + 1, rfl, by omega, .inr ⟨by omega, rfl, by rw [← hf0]; rfl⟩⟩; exact Wk.keep 9 [11] (by rw [hE]; exact Nat.le_of_ble_eq_true rfl) rfl rfl (by repeat (first | exact RenT.nil | refine RenT.jk ?_ | refine RenT.val (by rfl) (by rfl) ?_)) ⟨kl rfl (flatP_scal l), kl rfl (flatT_scal ts), ki rfl, kl rfl rfl, kl rfl (flatP_scal _), kl rfl (flatN_scal _), kl rfl (flatN_scal _), ki rfl, kl rfl (flatN_scal _), kl rfl rfl, trivial⟩) | (have hf0 := hst k _ _ (hmz _ (by omega)) (hlz _ (by omega)); have hfk := hfs k; refine ⟨xs.length - (k + 1), [.pointer (some ⟨7, 0, none⟩), jk, jk, jk, jk, .slice (some ⟨9, 0, none⟩) (k * 2 + 2) INF, jk, jk, jk, jk, jk, .slice (some ⟨8, 0, none⟩) xs.length cx, .int .i64 (xs.length), .int .i64 (((k + 1 : Nat) : Int)), jk, jk, jk, jk, jk, jk, jk, jk, jk, jk, jk, jk, jk, jk, jk, jk, jk, jk, jk, jk, jk, jk, jk, jk, jk, jk, jk, jk, jk, jk, jk, jk, jk, jk, jk, jk, jk, jk, jk, jk, jk, jk, jk, jk, jk, jk, jk, jk, jk, jk, jk], [some ⟨flatP l, false, z0⟩, some ⟨flatT ts, false, z1⟩, some ⟨[.slice (some ⟨0, 0, none⟩) l.length c, .slice (some ⟨1, 0, none⟩) ts.length c2, .slice (some ⟨4, 0, none⟩) (edL ts).length INF, .map (some 3)], false, z2⟩, some (mpX (lfA ts) false 0), some ⟨flatP (edL ts), false, z4⟩, some ⟨flatN ph, false, z5⟩, some ⟨flatN cs, false, z6⟩, some ⟨[.pointer (some ⟨2, 0, none⟩), .slice (some ⟨5, 0, none⟩) ph.length c3, .slice (some ⟨6, 0, none⟩) cs.length c4], false, z7⟩, some ⟨flatN xs, false, z8⟩, some ⟨flatA (AA k) ++ [.int .i64 (sdP ts (pt (edL ts) k)).x, .int .i64 (sdP ts (pt (edL ts) k)).y, .int .i64 k, .int .i64 1, .int .i64 (nt cs k), .int .i64 (sdP ts (pt (edL ts) k)).y, .int .i64 (sdP ts (pt (edL ts) k)).x, .int .i64 k, .int .i64 (-1), .int .i64 (nt cs k)], true, 5⟩], by omega, ?_, k + 1, rfl, by omega, .inr ⟨by omega, by rw [show (k + 1) * 2 = k * 2 + 2 by omega], by rw [← hf0]⟩⟩; exact Wk.keep 9 [12] (by rw [hE]; exact Nat.le_of_ble_eq_true rfl) rfl rfl (by repeat (first | exact RenT.nil | refine RenT.jk ?_ | refine RenT.val (by rfl) (by rfl) ?_)) ⟨kl rfl (flatP_scal l), kl rfl (flatT_scal ts), ki rfl, kl rfl rfl, kl rfl (flatP_scal _), kl rfl (flatN_scal _), kl rfl (flatN_scal _), ki rfl, kl rfl (flatN_scal _), ⟨_, rfl, rfl, rfl, .inl ⟨rfl, by rw [List.all_append, hfk]; rfl⟩⟩, trivial⟩)) | ((with_reducible refine FinA.on ?_); (obtain rfl : k = xs.length := (by omega); have hfk := hfs xs.length; refine FinA.keep 10 [] (.inl rfl) (.tmp wl .nil) ?_ rfl (by rw [hE]; exact Nat.le_of_ble_eq_true rfl) rfl rfl ⟨kl rfl (flatP_scal l), kl rfl (flatT_scal ts), ki rfl, kl rfl rfl, kl rfl (flatP_scal _), kl rfl (flatN_scal _), kl rfl (flatN_scal _), ki rfl, kl rfl (flatN_scal _), ⟨_, rfl, rfl, rfl, .inl ⟨rfl, hfk⟩⟩, trivial⟩; rfl)))
theorem arcs_q {m : Mem} {bK bN bL bE bP bT bF bC c c2 c3 c4 bX n cx : Nat} {l : List Pn} {ts : List T3} {ph cs : List Int} {X : Blk} (h : OpenT m bK bN bL bE bP bT bF bC c c2 c3 c4 l ts ph cs) (xs : List Int) (hT : TaskR l ts ph cs) (hxl : xs.length = (edL ts).length) (hxb : ∀ k, k < xs.length → -1000000 ≤ nt xs k ∧ nt xs k ≤ 1000000) (x1 : m.at bX = some X) (x2 : X.cells = flatN xs) (hn : xs.length = n) (hd : [bP, bT, bN, bL, bE, bF, bC, bK, bX].Nodup) (x3 : X.obj = Ob.plain := by rfl) :
  ACalls Tryz.prog 105 [.pointer (some ⟨bK, 0, none⟩), .slice (some ⟨bX, 0, none⟩) n cx] m (.slice (some ⟨m.length, 0, none⟩) (n * 2) INF) (m ++ [some ⟨flatA (acL ts cs xs n), true, 5⟩]) := by
 subst hn
 obtain ⟨⟨⟨A, a1, a2, a3⟩, ⟨B, b1, b2, b3⟩, ⟨N, n1, n2, n3⟩, ⟨own, l1⟩, ⟨D, d1, d2, d3⟩⟩, ⟨F, f1, f2, f3⟩, ⟨C, c1, c2', c3'⟩, ⟨K, k1, k2, k3⟩⟩ := h
 have h := ACalls.viaS (m := m) (args := [.pointer (some ⟨bK, 0, none⟩), .slice (some ⟨bX, 0, none⟩) xs.length cx]) (v := .slice (some ⟨m.length, 0, none⟩) (xs.length * 2) INF) [bP, bT, bN, bL, bE, bF, bC, bK, bX] [] [some ⟨flatA (acL ts cs xs xs.length), true, 5⟩] (arcs_0 l ts ph cs xs hT hxl hxb c c2 c3 c4 cx A.esz B.esz N.esz D.esz F.esz C.esz K.esz X.esz)
  ⟨bS a1 a3 a2 (flatP_scal _), bS b1 b3 b2 (flatT_scal _), bI n1 n3 n2, ⟨_, l1, rfl, (fun h => nomatch h), .inl ⟨rfl, rfl⟩⟩, bS d1 d3 d2 (flatP_scal _), bS f1 f3 f2 (flatN_scal _), bS c1 c3' c2' (flatN_scal _), bI k1 k3 k2, bS x1 x3 x2 (flatN_scal _), trivial⟩ hd
  ⟨⟨_, rfl, rfl⟩, ⟨_, rfl, rfl⟩, ⟨_, rfl, rfl⟩, ⟨_, rfl, rfl⟩, ⟨_, rfl, rfl⟩, ⟨_, rfl, rfl⟩, ⟨_, rfl, rfl⟩, ⟨_, rfl, rfl⟩, ⟨_, rfl, rfl⟩, ⟨rfl, rfl, rfl, .inl ⟨rfl, flatA_scal _⟩⟩, trivial⟩ rfl rfl rfl rfl
 exact h
end Go.Proofs.YtmohcmghbfhdlaaGreat
end
end
/- The small memory: maps as lists of pairs, with a put and a get. -/
section
set_option linter.unusedSimpArgs false
set_option linter.unusedVariables false
namespace Go
open Go.RowKit
namespace Ab
section
variable {κ α : Type} [DecidableEq κ]
def getL : List (κ × α) → κ → Option α
 | [], _ => none
 | p :: l, k => if p.1 = k then some p.2 else getL l k
def putL : List (κ × α) → κ → α → List (κ × α)
 | [], k, v => [(k, v)]
 | p :: l, k, v => if p.1 = k then (k, v) :: l else p :: putL l k v
theorem getL_some : ∀ {l : List (κ × α)} {k : κ} {v : α}, getL l k = some v → (k, v) ∈ l
 | [], _, _, h => by cases h
 | p :: l, k, v, h => by
  unfold getL at h
  by_cases h1 : p.1 = k
  ·rw [if_pos h1] at h
   cases h
   subst h1
   exact List.mem_cons_self
  ·rw [if_neg h1] at h
   exact List.mem_cons_of_mem _ (getL_some h)
theorem getL_none : ∀ {l : List (κ × α)} {k : κ}, getL l k = none → k ∉ l.map (·.1)
 | [], _, _ => by simp
 | p :: l, k, h => by
  unfold getL at h
  by_cases h1 : p.1 = k
  ·rw [if_pos h1] at h; cases h
  ·rw [if_neg h1] at h
   rw [List.map_cons, List.mem_cons]
   rintro (h2 | h2)
   ·exact h1 h2.symm
   ·exact getL_none h h2
theorem putL_new : ∀ {l : List (κ × α)} {k : κ} {v : α}, k ∉ l.map (·.1) → putL l k v = l ++ [(k, v)]
 | [], _, _, _ => rfl
 | p :: l, k, v, h => by
  rw [List.map_cons, List.mem_cons] at h
  unfold putL
  rw [if_neg (fun h1 => h (.inl h1.symm)), putL_new (fun h1 => h (.inr h1))]
  rfl
theorem putL_old : ∀ {l : List (κ × α)} {k : κ} {v v0 : α} {j : Nat}, (l.map (·.1)).Nodup → l[j]? = some (k, v0) → putL l k v = l.set j (k, v)
 | [], _, _, _, j, _, h => by simp at h
 | p :: l, k, v, v0, 0, hn, h => by
  simp only [List.getElem?_cons_zero, Option.some.injEq] at h
  subst h
  unfold putL
  rw [if_pos rfl]
  rfl
 | p :: l, k, v, v0, j + 1, hn, h => by
  rw [List.map_cons, List.nodup_cons] at hn
  simp only [List.getElem?_cons_succ] at h
  unfold putL
  rw [if_neg (fun h1 : p.1 = k => hn.1 (h1 ▸ List.mem_map.2 ⟨_, List.mem_of_getElem? h, rfl⟩)), putL_old hn.2 h]
  rfl
theorem putL_keys : ∀ (l : List (κ × α)) (k : κ) (v : α), (putL l k v).map (·.1) = if k ∈ l.map (·.1) then l.map (·.1) else l.map (·.1) ++ [k]
 | [], k, v => by simp [putL]
 | p :: l, k, v => by
  have ih := putL_keys l k v
  unfold putL
  by_cases h1 : p.1 = k
  ·rw [if_pos h1, if_pos (by rw [List.map_cons, h1]; exact List.mem_cons_self)]
   rw [List.map_cons, List.map_cons, h1]
  ·rw [if_neg h1, List.map_cons, ih, List.map_cons]
   by_cases h2 : k ∈ l.map (·.1)
   ·rw [if_pos h2, if_pos (List.mem_cons_of_mem _ h2)]
   ·rw [if_neg h2, if_neg (fun h3 => by rcases List.mem_cons.1 h3 with h3 | h3; (exact h1 h3.symm); exact h2 h3)]
    rfl
theorem putL_nodup {l : List (κ × α)} {k : κ} {v : α} (h : (l.map (·.1)).Nodup) : ((putL l k v).map (·.1)).Nodup := by
 rw [putL_keys]
 split
 ·exact h
 ·rename_i hk
  rw [List.nodup_append]
  refine ⟨h, by simp, fun a ha b hb e => ?_⟩
  rw [List.mem_singleton] at hb
  subst hb
  exact hk (e ▸ ha)
theorem getL_put : ∀ (l : List (κ × α)) (k k' : κ) (v : α), getL (putL l k v) k' = if k' = k then some v else getL l k'
 | [], k, k', v => by
  unfold putL getL
  by_cases h : k' = k
  ·rw [if_pos h, if_pos h.symm]
  ·rw [if_neg h, if_neg (fun h2 => h h2.symm)]
   rfl
 | p :: l, k, k', v => by
  have ih := getL_put l k k' v
  unfold putL
  by_cases h1 : p.1 = k
  ·rw [if_pos h1]
   unfold getL
   by_cases h : k' = k
   ·rw [if_pos h, if_pos h.symm]
   ·rw [if_neg h, if_neg (fun h2 => h h2.symm), if_neg (fun h2 => h (h2.symm.trans h1))]
  ·rw [if_neg h1]
   conv => lhs; unfold getL
   conv => rhs; rhs; unfold getL
   rw [ih]
   by_cases h2 : p.1 = k'
   ·rw [if_pos h2, if_pos h2, if_neg (fun h => h1 (h2.trans h))]
   ·rw [if_neg h2, if_neg h2]
end
section
variable {κ α : Type} [DecidableEq κ] {enc : κ → Value} {val : α → Value} {ok : κ → Prop} {P : Program} {t : T} {m : Mem} {dst : Option Tmp} {ty rt kt et : TypeId} {pos : String} {after : Array Edge} {guard : Option (Nat × Bool)} {x y z : Operand} {b : Nat} {l : List (κ × α)} {k : κ} {v : α}
abbrev mpV {κ α : Type} (enc : κ → Value) (val : α → Value) (l : List (κ × α)) : Blk := mpL enc (l.map fun p => (p.1, val p.2))
omit [DecidableEq κ] in
theorem fst_val (l : List (κ × α)) (val : α → Value) : (l.map fun p => (p.1, val p.2)).map (·.1) = l.map (·.1) := by rw [List.map_map]; rfl
theorem OQ.mgetS (K : KEnc enc P kt ok) (hk0 : ok k) (hl0 : ∀ p ∈ l, ok p.1) (hx : t.ev x = .map (some b)) (hy : t.ev y = enc k) (hu : P.underlying ty = some (.map kt et)) (hb : m.at b = some (mpV enc val l)) (hn : (l.map (·.1)).Nodup) (hm : getL l k = some v) (hvf : flat1 (val v) = true) :
  OQ P ⟨dst, .lookup ty x y true, rt, pos, after, guard⟩ t m (.tuple #[val v, .bool true]) ∧ OQ P ⟨dst, .lookup ty x y false, rt, pos, after, guard⟩ t m (val v) :=
 OQ.mlookS (l := l.map fun p => (p.1, val p.2)) K hk0 (fun p hp => by obtain ⟨q, hq, rfl⟩ := List.mem_map.1 hp; exact hl0 q hq) hx hy hu hb (by rw [fst_val]; exact hn) (List.mem_map.2 ⟨(k, v), getL_some hm, rfl⟩) hvf
theorem OQ.mgetN {w0 : Value} (K : KEnc enc P kt ok) (hk0 : ok k) (hl0 : ∀ p ∈ l, ok p.1) (hx : t.ev x = .map (some b)) (hy : t.ev y = enc k) (hu : P.underlying ty = some (.map kt et)) (hb : m.at b = some (mpV enc val l)) (hm : getL l k = none) (hz : ∀ w, (zeroValue et).run P w = .ok w0 w) (hvf : flat1 w0 = true) :
  OQ P ⟨dst, .lookup ty x y true, rt, pos, after, guard⟩ t m (.tuple #[w0, .bool false]) ∧ OQ P ⟨dst, .lookup ty x y false, rt, pos, after, guard⟩ t m w0 :=
 OQ.mlookN (l := l.map fun p => (p.1, val p.2)) K hk0 (fun p hp => by obtain ⟨q, hq, rfl⟩ := List.mem_map.1 hp; exact hl0 q hq) hx hy hu hb (by rw [fst_val]; exact getL_none hm) hz hvf
theorem OW.mput (K : KEnc enc P kt ok) (hk0 : ok k) (hl0 : ∀ p ∈ l, ok p.1) (hx : t.ev x = .map (some b)) (hy : t.ev y = enc k) (hz : t.ev z = val v) (hu : P.underlying ty = some (.map kt et)) (hb : m.at b = some (mpV enc val l)) (hn : (l.map (·.1)).Nodup) (hvf : flat (val v) = true) :
  OW P ⟨dst, .mapUpdate ty x y z, rt, pos, after, guard⟩ t m undef (m.set b (some (mpV enc val (putL l k v)))) := by
 have hl1 : ∀ p ∈ l.map (fun p => (p.1, val p.2)), ok p.1 := fun p hp => by obtain ⟨q, hq, rfl⟩ := List.mem_map.1 hp; exact hl0 q hq
 by_cases hk : k ∈ l.map (·.1)
 ·obtain ⟨p, hp, rfl⟩ := List.mem_map.1 hk
  obtain ⟨j, hj⟩ := List.mem_iff_getElem?.1 hp
  have h := OW.mupdS (dst := dst) (rt := rt) (pos := pos) (after := after) (guard := guard) j (v0 := val p.2) K hk0 hl1 hx hy hz hu hb (by rw [fst_val]; exact hn) (by rw [List.getElem?_map, hj]; rfl) hvf
  rw [putL_old (v0 := p.2) hn hj]
  unfold mpV
  rw [List.map_set]
  exact h
 ·have h := OW.mupdN (dst := dst) (rt := rt) (pos := pos) (after := after) (guard := guard) K hk0 hl1 hx hy hz hu hb (by rw [fst_val]; exact hk) hvf
  rw [putL_new hk]
  unfold mpV
  rw [List.map_append]
  exact h
end
end Ab
end Go
end
/- Chapter 6: shortest ways (the program's). -/
section
set_option linter.unusedSimpArgs false
set_option linter.unusedVariables false
section
namespace Go.Me
open Go.Ab Go.Proofs.YtmohcmghbfhdlaaGreat
structure Wy where
 far : Int
 st : Ac
 beg : Bool
abbrev wyV (w : Wy) : Value := .agg #[.int .i64 w.far, .int .i64 w.st.fr, .int .i64 w.st.to, .int .i64 w.st.ed, .int .i64 w.st.d, .int .i64 w.st.co, .bool w.beg]
def wyF (fr : List Int) : Nat → List (Int × Wy)
 | 0 => []
 | k + 1 => putL (wyF fr k) (nt fr k) ⟨0, ⟨0, 0, 0, 0, 0⟩, true⟩
def wyS (a : Ac) (s : List (Int × Wy) × Bool) : List (Int × Wy) × Bool :=
 match getL s.1 a.fr with
 | none => s
 | some w =>
  match getL s.1 a.to with
  | none => (putL s.1 a.to ⟨w.far + a.co, a, false⟩, true)
  | some o => if w.far + a.co < o.far then (putL s.1 a.to ⟨w.far + a.co, a, false⟩, true) else s
def wyK (rs : List Ac) (w : List (Int × Wy)) : Nat → List (Int × Wy) × Bool
 | 0 => (w, false)
 | k + 1 => wyS (ac rs k) (wyK rs w k)
def wyN (rs : List Ac) (w : List (Int × Wy)) : Nat → List (Int × Wy)
 | 0 => w
 | r + 1 => (wyK rs (wyN rs w r) rs.length).1
def wyC (rs : List Ac) (w : List (Int × Wy)) : Nat → Bool
 | 0 => true
 | r + 1 => (wyK rs (wyN rs w r) rs.length).2
theorem wyF_nd (fr : List Int) : ∀ k, ((wyF fr k).map (·.1)).Nodup
 | 0 => List.nodup_nil
 | k + 1 => putL_nodup (wyF_nd fr k)
theorem wyS_nd {a : Ac} {s : List (Int × Wy) × Bool} (h : (s.1.map (·.1)).Nodup) : ((wyS a s).1.map (·.1)).Nodup := by
 unfold wyS
 split
 ·exact h
 ·split
  ·exact putL_nodup h
  ·split
   ·exact putL_nodup h
   ·exact h
theorem wyK_nd {rs : List Ac} {w : List (Int × Wy)} (h : (w.map (·.1)).Nodup) : ∀ k, ((wyK rs w k).1.map (·.1)).Nodup
 | 0 => h
 | k + 1 => wyS_nd (wyK_nd h k)
theorem wyN_nd {rs : List Ac} {w : List (Int × Wy)} (h : (w.map (·.1)).Nodup) : ∀ r, ((wyN rs w r).map (·.1)).Nodup
 | 0 => h
 | r + 1 => wyK_nd (wyN_nd h r) rs.length
structure WyR (rs : List Ac) (w : List (Int × Wy)) (R : Nat) : Prop where
 stop : wyC rs w R = false
 go : ∀ r, r < R → wyC rs w r = true
 far : ∀ r k, r < R → k ≤ rs.length → ∀ p ∈ (wyK rs (wyN rs w r) k).1, -1000000000000 ≤ p.2.far ∧ p.2.far ≤ 1000000000000
end Go.Me
namespace Go.Proofs.YtmohcmghbfhdlaaGreat
open Go Go.RowKit Go.Ab Go.Me
set_option maxRecDepth 100000
set_option maxHeartbeats 4000000
attribute [local irreducible] OQ OW AL AW AF SW
theorem ways_0 (fr : List Int) (rs : List Ac) (R : Nat) (hW : WyR rs (wyF fr fr.length) R) (hco : ∀ k, k < rs.length → -1000000 ≤ (ac rs k).co ∧ (ac rs k).co ≤ 1000000) (hfl : fr.length ≤ 1000000) (hal : rs.length ≤ 1000000) (c0 c1 z0 z1 : Nat) :
  ACalls Tryz.prog 109 [.slice (some ⟨0, 0, none⟩) fr.length c0, .slice (some ⟨1, 0, none⟩) rs.length c1] [some ⟨flatN fr, false, z0⟩, some ⟨flatA rs, false, z1⟩]
   (.map (some 2)) [some ⟨flatN fr, false, z0⟩, some ⟨flatA rs, false, z1⟩, some (mpV encI wyV (wyN rs (wyF fr fr.length) R))] := by
 obtain ⟨hstop, hgo, hfar⟩ := hW
 have hgF : ∀ k, k < fr.length → (flatN fr)[k]? = some (.int .i64 (nt fr k)) := fun k hk => flatN_get _ k hk
 have hgA := fun (m : Mem) (blk : Blk) (hb : m.at 1 = some blk) (hc : blk.cells = flatA rs) (k : Nat) (hk : k < rs.length) => flatA_ld hb hc k hk
 have hF0 : wyF fr 0 = [] := rfl
 have hFs : ∀ k, wyF fr (k + 1) = putL (wyF fr k) (nt fr k) ⟨0, ⟨0, 0, 0, 0, 0⟩, true⟩ := fun k => rfl
 have hFn := wyF_nd fr
 have hnd : ∀ r k, ((wyK rs (wyN rs (wyF fr fr.length) r) k).1.map (·.1)).Nodup := fun r k => wyK_nd (wyN_nd (wyF_nd fr _) r) k
 have hW0 : wyN rs (wyF fr fr.length) 0 = wyF fr fr.length := rfl
 have hC0 : wyC rs (wyF fr fr.length) 0 = true := rfl
 have hWs : ∀ r, wyN rs (wyF fr fr.length) (r + 1) = (wyK rs (wyN rs (wyF fr fr.length) r) rs.length).1 := fun r => rfl
 have hCs : ∀ r, wyC rs (wyF fr fr.length) (r + 1) = (wyK rs (wyN rs (wyF fr fr.length) r) rs.length).2 := fun r => rfl
 have hS1 : ∀ r, (wyK rs (wyN rs (wyF fr fr.length) r) 0).1 = wyN rs (wyF fr fr.length) r := fun r => rfl
 have hS2 : ∀ r, (wyK rs (wyN rs (wyF fr fr.length) r) 0).2 = false := fun r => rfl
 have hSs : ∀ r k, wyK rs (wyN rs (wyF fr fr.length) r) (k + 1) = wyS (ac rs k) (wyK rs (wyN rs (wyF fr fr.length) r) k) := fun r k => rfl
 generalize hSd : (fun r k => wyK rs (wyN rs (wyF fr fr.length) r) k) = S
 have hSe : ∀ r k, wyK rs (wyN rs (wyF fr fr.length) r) k = S r k := fun r k => by rw [← hSd]
 simp only [hSe] at hfar hnd hWs hCs hS1 hS2 hSs
 clear hSd hSe
 generalize wyN rs (wyF fr fr.length) = W at *
 generalize wyC rs (wyF fr fr.length) = C at *
 have hN : ∀ r k, getL (S r k).1 (ac rs k).fr = none → S r (k + 1) = S r k := fun r k h => by rw [hSs]; unfold wyS; rw [h]
 have hU : ∀ r k w, getL (S r k).1 (ac rs k).fr = some w → getL (S r k).1 (ac rs k).to = none → (S r (k + 1)).1 = putL (S r k).1 (ac rs k).to ⟨w.far + (ac rs k).co, ac rs k, false⟩ ∧ (S r (k + 1)).2 = true := fun r k w h h2 => by rw [hSs]; unfold wyS; rw [h]; simp only; rw [h2]; exact ⟨rfl, rfl⟩
 have hL : ∀ r k w o, getL (S r k).1 (ac rs k).fr = some w → getL (S r k).1 (ac rs k).to = some o → w.far + (ac rs k).co < o.far → (S r (k + 1)).1 = putL (S r k).1 (ac rs k).to ⟨w.far + (ac rs k).co, ac rs k, false⟩ ∧ (S r (k + 1)).2 = true := fun r k w o h h2 h3 => by rw [hSs]; unfold wyS; rw [h]; simp only; rw [h2]; simp only; rw [if_pos h3]; exact ⟨rfl, rfl⟩
 have hK : ∀ r k w o, getL (S r k).1 (ac rs k).fr = some w → getL (S r k).1 (ac rs k).to = some o → ¬ w.far + (ac rs k).co < o.far → S r (k + 1) = S r k := fun r k w o h h2 h3 => by rw [hSs]; unfold wyS; rw [h]; simp only; rw [h2]; simp only; rw [if_neg h3]
 clear hSs
 have hfw : ∀ r k w x, r < R → k ≤ rs.length → getL (S r k).1 x = some w → -1000000000000 ≤ w.far ∧ w.far ≤ 1000000000000 := fun r k w x hr hk h => hfar r k hr hk _ (getL_some h)
 clear hfar
 refine ACalls.en 72 Tryz.func109 rfl rfl (fun E hE => ?_)
 repeat' (first | with_reducible (first | refine Then.n ?_ | refine Then.x ?_ | refine InB.n ?_ | refine InB.hit ?_) | ((with_reducible refine AL.on ?_); first | (refine AL.gd rfl ?_; first | (refine AL.gskip rfl rfl ?_; refine AL.nm ?_) | (refine AL.gs1 rfl rfl (fun hc => ?_) (fun hc => ?_) <;> (try replace hc := nc hc) <;> first | (exfalso; contradiction) | refine AL.nm ?_) | (refine AL.gs0 rfl rfl (fun hc => ?_) (fun hc => ?_) <;> (try replace hc := nc hc) <;> first | (exfalso; contradiction) | refine AL.nm ?_)) | ((first | refine AL.mv ?_ | ((with_reducible refine AL.k_load ?_); first | (refine AL.g (OQ.load1 (ty := 3) rfl kr (by first | (exact hgF k (by omega)) | (conv => lhs; whnf))) ?_) | refine AL.g (OQ.loadN (ty := 149) (n := 5) rfl kr kr (by first | (exact hgA _ _ rfl rfl k (by omega)) | rfl)) ?_) | refine AL.as ?_ | ((with_reducible refine AL.k_binOp ?_); first | refine AL.g (OQ.lss rfl rfl) ?_ | refine AL.g (OQ.addi rfl rfl (by omega)) ?_) | refine AL.et ?_ | ((with_reducible refine AL.k_call ?_); first | refine AL.g (OQ.lenS (xt := 26) (r := (none, 1, false)) rfl kr) ?_ | refine AL.g (OQ.lenS (xt := 146) (r := (none, 5, true)) rfl kr) ?_) | ((with_reducible refine AL.k_pick ?_); first | refine AL.pT ?_ | refine AL.pF ?_) | ((with_reducible refine AL.k_unOp ?_); refine AL.g (OQ.not rfl) ?_) | refine AL.q rfl (by first | exact (OQ.mgetS (enc := encI) (val := wyV) KI trivial (fun _ _ => trivial) rfl rfl Tryz.underlying156 rfl (hnd r k) hg1 rfl).1 | exact (OQ.mgetS (enc := encI) (val := wyV) KI trivial (fun _ _ => trivial) rfl rfl Tryz.underlying156 rfl (hnd r k) hg2 rfl).1 | exact (OQ.mgetN (enc := encI) (val := wyV) (w0 := wyV ⟨0, ⟨0, 0, 0, 0, 0⟩, false⟩) KI trivial (fun _ _ => trivial) rfl rfl Tryz.underlying156 rfl hg1 (fun w => by kernel_rfl) rfl).1 | exact (OQ.mgetN (enc := encI) (val := wyV) (w0 := wyV ⟨0, ⟨0, 0, 0, 0, 0⟩, false⟩) KI trivial (fun _ _ => trivial) rfl rfl Tryz.underlying156 rfl hg2 (fun w => by kernel_rfl) rfl).1) ?_); refine AL.nm ?_) | ((first | ((with_reducible refine AL.k_fieldAddr ?_); first | refine AL.g (OQ.fieldA (ty := 149) (i := 0) (n := 1) (off := 0) (g := false) rfl kr (by decide)) ?_ | refine AL.g (OQ.fieldA (ty := 149) (i := 1) (n := 1) (off := 1) (g := false) rfl kr (by decide)) ?_ | refine AL.g (OQ.fieldA (ty := 154) (i := 0) (n := 1) (off := 0) (g := false) rfl kr (by decide)) ?_ | refine AL.g (OQ.fieldA (ty := 149) (i := 4) (n := 1) (off := 4) (g := false) rfl kr (by decide)) ?_) | ((with_reducible refine AL.k_indexAddr ?_); first | refine AL.g (OQ.idxAddr (ty := 26) (z := 1) (g := false) rfl rfl kr (by omega) (by omega)) ?_ | refine AL.g (OQ.idxAddr (ty := 146) (z := 5) (g := true) rfl rfl kr (by omega) (by omega)) ?_) | ((with_reducible refine AL.k_build ?_); refine AL.g (OQ.buildS (ty := 154) (zs := [.int .i64 0, .int .i64 0, .int .i64 0, .int .i64 0, .int .i64 0, .int .i64 0, .bool false]) (pls := [(0, 1), (1, 5), (6, 1)]) kr rfl kr rfl rfl rfl) ?_)); refine AL.nm ?_) | ((first | ((with_reducible refine AL.k_alloc ?_); first | refine AL.w rfl (OW.alloc (ty := 149) (z := [.int .i64 0, .int .i64 0, .int .i64 0, .int .i64 0, .int .i64 0]) kr rfl) ?_ | refine AL.w rfl (OW.alloc (ty := 154) (z := [.int .i64 0, .int .i64 0, .int .i64 0, .int .i64 0, .int .i64 0, .int .i64 0, .bool false]) kr rfl) ?_) | ((with_reducible refine AL.k_store ?_); first | (refine AL.w rfl (OW.store (ty := 149) (n := 5) rfl wl rfl rfl kr rfl rfl (by decide) rfl (Nat.le_of_ble_eq_true rfl) (by intro r h; cases h)) ?_) | (refine AL.w rfl (OW.store (ty := 154) (n := 7) rfl wl rfl rfl kr rfl rfl (by decide) rfl (Nat.le_of_ble_eq_true rfl) (by intro r h; cases h)) ?_)) | refine AL.w rfl OW.makeMap ?_ | refine AL.w rfl (by first | exact OW.mput (enc := encI) (val := wyV) (l := wyF fr k) (k := nt fr k) (v := ⟨0, ⟨0, 0, 0, 0, 0⟩, true⟩) KI trivial (fun _ _ => trivial) rfl rfl rfl Tryz.underlying156 rfl (hFn k) rfl | exact OW.mput (enc := encI) (val := wyV) (l := (S r k).1) (k := (ac rs k).to) (v := ⟨w.far + (ac rs k).co, ac rs k, false⟩) KI trivial (fun _ _ => trivial) rfl rfl rfl Tryz.underlying156 rfl (hnd r k) rfl) ?_); refine AL.nm ?_; refine AL.nM ?_) | refine AL.nil ?_) | ((with_reducible refine AW.on ?_); first | refine AW.seq ?_ | refine AW.skip ?_ | refine AW.exit ?_ | refine AW.ret ?_ | ((refine AW.block (id := 0) ?_); (refine AW.fk [1, 5, 16, 17, 18] ?_); (refine AW.loop (fun n' t' m => ∃ k : Nat, n' = fr.length - k ∧ k ≤ fr.length ∧ t' = [jk, .slice (some ⟨1, 0, none⟩) rs.length c1, jk, jk, jk, .map (some 2), jk, jk, jk, jk, jk, jk, jk, jk, jk, jk, .slice (some ⟨0, 0, none⟩) fr.length c0, .int .i64 (fr.length), .int .i64 (k), jk, jk, jk, jk, jk, jk, jk, jk, jk, jk, jk, jk, jk, jk, jk, jk, jk, jk, jk, jk, jk, jk, jk, jk, jk, jk, jk, jk, jk, jk, jk, jk, jk, jk, jk, jk, jk, jk, jk, jk, jk, jk, jk, jk, jk, jk, jk, jk, jk, jk, jk, jk, jk, jk, jk] ∧ m = [some ⟨flatN fr, false, z0⟩, some ⟨flatA rs, false, z1⟩, some (mpV encI wyV (wyF fr k))]) (fr.length) (by exact ⟨0, rfl, Nat.zero_le _, rfl, rfl⟩) ?_); (rintro n' t' m ⟨k, rfl, hk, rfl, rfl⟩)) | ((refine AW.block (id := 2) ?_); (refine AW.fk [1, 5, 8] ?_); (refine AW.loop (fun n' t' m => ∃ r : Nat, n' = R - r ∧ r ≤ R ∧ t' = [jk, .slice (some ⟨1, 0, none⟩) rs.length c1, jk, jk, jk, .map (some 2), jk, jk, .bool (C r), jk, jk, jk, jk, jk, jk, jk, jk, jk, jk, jk, jk, jk, jk, jk, jk, jk, jk, jk, jk, jk, jk, jk, jk, jk, jk, jk, jk, jk, jk, jk, jk, jk, jk, jk, jk, jk, jk, jk, jk, jk, jk, jk, jk, jk, jk, jk, jk, jk, jk, jk, jk, jk, jk, jk, jk, jk, jk, jk, jk, jk, jk, jk, jk, jk] ∧ m = [some ⟨flatN fr, false, z0⟩, some ⟨flatA rs, false, z1⟩, some (mpV encI wyV (W r))]) (R) (by exact ⟨0, rfl, Nat.zero_le _, by rw [hC0], by (obtain rfl : k = fr.length := (by omega)); rw [hW0]⟩) ?_); (rintro n' t' m ⟨r, rfl, hr, rfl, rfl⟩)) | ((refine AW.block (id := 4) ?_); (refine AW.fk [1, 5, 8, 27, 28, 29] ?_); (refine AW.loop (fun n' t' m => ∃ k : Nat, n' = rs.length - k ∧ k ≤ rs.length ∧ t' = [jk, .slice (some ⟨1, 0, none⟩) rs.length c1, jk, jk, jk, .map (some 2), jk, jk, .bool (S r k).2, jk, jk, jk, jk, jk, jk, jk, jk, jk, jk, jk, jk, jk, jk, jk, jk, jk, jk, .slice (some ⟨1, 0, none⟩) rs.length c1, .int .i64 (rs.length), .int .i64 (k), jk, jk, jk, jk, jk, jk, jk, jk, jk, jk, jk, jk, jk, jk, jk, jk, jk, jk, jk, jk, jk, jk, jk, jk, jk, jk, jk, jk, jk, jk, jk, jk, jk, jk, jk, jk, jk, jk, jk, jk, jk, jk, jk, jk] ∧ m = [some ⟨flatN fr, false, z0⟩, some ⟨flatA rs, false, z1⟩, some (mpV encI wyV ((S r k).1))]) (rs.length) (by exact ⟨0, rfl, Nat.zero_le _, by rw [hS2]; try rfl, by rw [hS1]; try rfl⟩) ?_); (rintro n' t' m ⟨k, rfl, hk, rfl, rfl⟩); (have hrR : r < R := (by rcases Nat.lt_or_eq_of_le hr with h | h; (exact h); (exfalso; subst h; simp_all)))) | refine AW.block ?_ | (refine AW.region (id := 13) ?_; ((rcases hg1 : getL (S r k).1 (ac rs k).fr with _ | w))) | (refine AW.region (id := 14) ?_; ((rcases hg2 : getL (S r k).1 (ac rs k).to with _ | o))) | (refine AW.region (id := 15) ?_; ((have hq1 := hco k (by omega); have hq2 := (fun w x => hfw r k w x hrR (by omega)); (try (have hq3 := hq2 _ _ hg1)); (try (have hq4 := hq2 _ _ hg2)); clear hq2))) | refine AW.region ?_ | (refine AW.conds rfl (fun hc => ?_) (fun hc => ?_) <;> (try replace hc := nc hc) <;> first | (exfalso; contradiction) | skip)) | ((with_reducible refine ex_on ?_); first | ((refine ⟨fr.length - (k + 1), [jk, .slice (some ⟨1, 0, none⟩) rs.length c1, jk, jk, jk, .map (some 2), jk, jk, jk, jk, jk, jk, jk, jk, jk, jk, .slice (some ⟨0, 0, none⟩) fr.length c0, .int .i64 (fr.length), .int .i64 (((k + 1 : Nat) : Int)), jk, jk, jk, jk, jk, jk, jk, jk, jk, jk, jk, jk, jk, jk, jk, jk, jk, jk, jk, jk, jk, jk, jk, jk, jk, jk, jk, jk, jk, jk, jk, jk, jk, jk, jk, jk, jk, jk, jk, jk, jk, jk, jk, jk, jk, jk, jk, jk, jk, jk, jk, jk, jk, jk, jk], [some ⟨flatN fr, false, z0⟩, some ⟨flatA rs, false, z1⟩, some (mpV encI wyV (wyF fr (k + 1)))], by omega, ?_, k + 1, rfl, by omega, rfl, rfl⟩; rw [hFs k]; exact Wk.keep 3 [] (by rw [hE]; exact Nat.le_of_ble_eq_true rfl) rfl rfl (by repeat (first | exact RenT.nil | refine RenT.jk ?_ | refine RenT.val (by rfl) (by rfl) ?_)) ⟨kl rfl (flatN_scal _), kl rfl (flatA_scal _), kl rfl rfl, trivial⟩)) | ((obtain rfl : k = rs.length := (by omega); refine ⟨R - (r + 1), _, _, by omega, ?_, r + 1, rfl, by omega, by rw [hCs r], by rw [hWs r]⟩; exact Wk.fk [1, 5, 8] rfl)) | ((refine ⟨rs.length - (k + 1), [jk, .slice (some ⟨1, 0, none⟩) rs.length c1, jk, jk, jk, .map (some 2), jk, jk, .bool (S r (k + 1)).2, jk, jk, jk, jk, jk, jk, jk, jk, jk, jk, jk, jk, jk, jk, jk, jk, jk, jk, .slice (some ⟨1, 0, none⟩) rs.length c1, .int .i64 (rs.length), .int .i64 (((k + 1 : Nat) : Int)), jk, jk, jk, jk, jk, jk, jk, jk, jk, jk, jk, jk, jk, jk, jk, jk, jk, jk, jk, jk, jk, jk, jk, jk, jk, jk, jk, jk, jk, jk, jk, jk, jk, jk, jk, jk, jk, jk, jk, jk, jk, jk, jk, jk], [some ⟨flatN fr, false, z0⟩, some ⟨flatA rs, false, z1⟩, some (mpV encI wyV ((S r (k + 1)).1))], by omega, ?_, k + 1, rfl, by omega, rfl, rfl⟩; (first | rw [hN r k hg1] | rw [hK r k _ _ hg1 hg2 (by omega)] | rw [(hU r k _ hg1 hg2).1, (hU r k _ hg1 hg2).2] | rw [(hL r k _ _ hg1 hg2 (by omega)).1, (hL r k _ _ hg1 hg2 (by omega)).2]); exact Wk.keep 3 [] (by rw [hE]; exact Nat.le_of_ble_eq_true rfl) rfl rfl (by repeat (first | exact RenT.nil | refine RenT.jk ?_ | refine RenT.val (by rfl) (by rfl) ?_)) ⟨kl rfl (flatN_scal _), kl rfl (flatA_scal _), kl rfl rfl, trivial⟩))) | ((with_reducible refine FinA.on ?_); (obtain rfl : r = R := (by rcases Nat.lt_or_eq_of_le hr with h | h; (exfalso; have := hgo r h; simp_all); (exact h)); refine FinA.keep 3 [] (.inl rfl) (.tmp wl .nil) ?_ rfl (by rw [hE]; exact Nat.le_of_ble_eq_true rfl) rfl rfl ⟨kl rfl (flatN_scal _), kl rfl (flatA_scal _), kl rfl rfl, trivial⟩; rfl)))
end Go.Proofs.YtmohcmghbfhdlaaGreat
end
end
