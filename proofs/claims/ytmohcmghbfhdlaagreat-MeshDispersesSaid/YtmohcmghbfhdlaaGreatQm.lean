/- Chapter 6: the points' numbers in their order (the program's sorted). -/
import Derived.Test.YtmohcmghbfhdlaaGreatQd
import Derived.Test.YtmohcmghbfhdlaaGreatQl
section
set_option linter.unusedSimpArgs false
set_option linter.unusedVariables false
section
namespace Go.Me
open Go.Ab
theorem flatO_range (k : Nat) : flatO (List.range k) ++ [.int .i64 (k : Int)] = flatO (List.range (k + 1)) := by
 unfold flatO
 rw [List.range_succ, List.map_append]
 rfl
theorem flatO_rlen (k : Nat) : (flatO (List.range k)).length = k := by
 unfold flatO
 rw [List.length_map, List.length_range]
end Go.Me
namespace Go.Proofs.YtmohcmghbfhdlaaGreat
open Go Go.RowKit Go.Ab Go.Me
set_option maxRecDepth 100000
set_option maxHeartbeats 4000000
attribute [local irreducible] OQ OW AL AW AF SW
theorem sorted_c (l : List Pn) (hap : Apart l) (h0 : 0 < l.length) (hl : l.length ≤ 1000) (c z : Nat) :
  ACalls Tryz.prog 117 [.slice (some ⟨0, 0, none⟩) l.length c] [some ⟨flatP l, false, z⟩] (.slice (some ⟨1, 0, none⟩) l.length INF) [some ⟨flatP l, false, z⟩, some ⟨flatO (ordL l), true, 1⟩] := by
 have hrl := flatO_rlen
 have hrs := flatO_range
 have hsc := fun k => flatO_scal (List.range k)
 have hS := fun (z2 : Nat) (c2 : Nat) (m : Mem) (h2 : m.at 2 = some ⟨flatO (List.range l.length), true, z2⟩) (h0' : m.at 0 = some ⟨flatP l, false, z⟩) (h1 : m.at 1 = some ⟨[.slice (some ⟨0, 0, none⟩) l.length c], true, 0⟩) => sortI_q (m := m) (b := 2) (bd := 1) (bp := 0) (c := c2) l hap rfl h0 hl h2 h0' rfl h1 rfl (by decide) (by decide)
 refine ACalls.en 18 Tryz.func117 rfl rfl (fun E hE => ?_)
 repeat' (first | with_reducible (first | refine Then.n ?_ | refine Then.x ?_ | refine InB.n ?_ | refine InB.hit ?_) | ((with_reducible refine AL.on ?_); first | ((first | refine AL.mv ?_ | refine AL.as ?_ | ((with_reducible refine AL.k_call ?_); refine AL.g (OQ.lenS (xt := 22) (r := (none, 2, true)) rfl kr) ?_) | ((with_reducible refine AL.k_binOp ?_); first | refine AL.g (OQ.lss rfl rfl) ?_ | refine AL.g (OQ.addi rfl rfl (by omega)) ?_) | ((with_reducible refine AL.k_load ?_); (refine AL.g (OQ.load1 (ty := 22) rfl kr wl) ?_))); refine AL.nm ?_) | ((refine AL.q rfl OQ.mkfn ?_); refine AL.nm ?_) | ((first | ((with_reducible refine AL.k_call ?_); first | (refine AL.w rfl (by first | exact OW.appendNil (e := 3) (z := 1) (zs := [.int .i64 0]) (by' := 8) rfl rfl kr kr kr rfl kr (by decide) rfl (by decide) (by decide) | exact OW.appendL (e := 3) (z := 1) (zs := [.int .i64 0]) (by' := 8) rfl rfl kr kr kr rfl kr (by decide) rfl rfl rfl (by decide) (by (rw [hrl]; omega)) rfl rfl (by omega) (by omega)) ?_) | refine AL.acall (g := 152) rfl kr rfl ((by exact hS _ _ _ rfl rfl rfl)) ?_) | refine AL.bx ?_ | ((with_reducible refine AL.k_buildSlice ?_); refine AL.w rfl (OW.buildSl (ty := 26) (zs := [.int .i64 0]) (n := 1) (g := false) kr kr rfl rfl rfl (by decide) (by decide) rfl rfl) ?_)); refine AL.nm ?_; refine AL.nM ?_) | refine AL.nil ?_) | ((with_reducible refine AW.on ?_); first | refine AW.seq ?_ | refine AW.skip ?_ | refine AW.exit ?_ | refine AW.ret ?_ | ((refine AW.block (id := 0) ?_); (refine AW.fk [1, 3, 6, 7] ?_); (refine AW.loop (fun n' t' m => ∃ k : Nat, n' = l.length - k ∧ k ≤ l.length ∧ ((k = 0 ∧ t' = [jk, .pointer (some ⟨1, 0, none⟩), jk, .slice none 0 0, jk, jk, .int .i64 (l.length), .int .i64 (k), jk, jk, jk, jk, jk, jk, jk, jk, jk, jk, jk] ∧ m = [some ⟨flatP l, false, z⟩, some ⟨[.slice (some ⟨0, 0, none⟩) l.length c], true, 0⟩]) ∨ (0 < k ∧ t' = [jk, .pointer (some ⟨1, 0, none⟩), jk, .slice (some ⟨2, 0, none⟩) (k) INF, jk, jk, .int .i64 (l.length), .int .i64 (k), jk, jk, jk, jk, jk, jk, jk, jk, jk, jk, jk] ∧ m = [some ⟨flatP l, false, z⟩, some ⟨[.slice (some ⟨0, 0, none⟩) l.length c], true, 0⟩, some ⟨flatO (List.range k), true, 1⟩]))) (l.length) (by exact ⟨0, rfl, Nat.zero_le _, .inl ⟨rfl, rfl, rfl⟩⟩) ?_); (rintro n' t' m ⟨k, rfl, hk, (⟨hk0, rfl, rfl⟩ | ⟨hk1, rfl, rfl⟩)⟩)) | refine AW.block ?_ | (refine AW.region (id := 7) ?_; ((obtain rfl : k = l.length := (by omega)))) | refine AW.region ?_ | (refine AW.conds rfl (fun hc => ?_) (fun hc => ?_) <;> (try replace hc := nc hc) <;> first | (exfalso; ((omega); done)) | skip)) | ((with_reducible refine ex_on ?_); first | (obtain rfl := hk0; refine ⟨l.length - 1, [jk, .pointer (some ⟨1, 0, none⟩), jk, .slice (some ⟨2, 0, none⟩) (1) INF, jk, jk, .int .i64 (l.length), .int .i64 (((0 + 1 : Nat) : Int)), jk, jk, jk, jk, jk, jk, jk, jk, jk, jk, jk], [some ⟨flatP l, false, z⟩, some ⟨[.slice (some ⟨0, 0, none⟩) l.length c], true, 0⟩, some ⟨flatO (List.range 1), true, 1⟩], by omega, ?_, 0 + 1, rfl, by omega, .inr ⟨by omega, rfl, rfl⟩⟩; exact Wk.keep 2 [3] (by rw [hE]; exact (by decide : 1 ≤ 2)) rfl rfl (by repeat (first | exact RenT.nil | refine RenT.jk ?_ | refine RenT.val (by rfl) (by rfl) ?_)) ⟨kl rfl (flatP_scal l), ki rfl, kl rfl rfl, trivial⟩) | (refine ⟨l.length - (k + 1), [jk, .pointer (some ⟨1, 0, none⟩), jk, .slice (some ⟨2, 0, none⟩) (k + 1) INF, jk, jk, .int .i64 (l.length), .int .i64 (((k + 1 : Nat) : Int)), jk, jk, jk, jk, jk, jk, jk, jk, jk, jk, jk], [some ⟨flatP l, false, z⟩, some ⟨[.slice (some ⟨0, 0, none⟩) l.length c], true, 0⟩, some ⟨flatO (List.range (k + 1)), true, 1⟩], by omega, ?_, k + 1, rfl, by omega, .inr ⟨by omega, rfl, rfl⟩⟩; have hs2 := hsc (k + 1); rw [← hrs] at hs2 ⊢; exact Wk.keep 2 [4] (by rw [hE]; exact (by decide : 1 ≤ 2)) rfl rfl (by repeat (first | exact RenT.nil | refine RenT.jk ?_ | refine RenT.val (by rfl) (by rfl) ?_)) ⟨kl rfl (flatP_scal l), ki rfl, ⟨_, rfl, rfl, rfl, .inl ⟨rfl, hs2⟩⟩, trivial⟩)) | ((with_reducible refine FinA.on ?_); (refine FinA.keep 1 [2] (.inl rfl) (.tmp wl .nil) ?_ rfl (Nat.le_of_eq hE) rfl rfl ⟨kl rfl (flatP_scal l), kl rfl (flatO_scal _), trivial⟩; rfl)))
theorem sorted_q {m : Mem} {b n c : Nat} {blk : Blk} (l : List Pn) (hap : Apart l) (h0 : 0 < n) (hl : n ≤ 1000) (hb : m.at b = some blk) (hc : blk.cells = flatP l) (hn : l.length = n) (ho : blk.obj = Ob.plain := by rfl) :
  ACalls Tryz.prog 117 [.slice (some ⟨b, 0, none⟩) n c] m (.slice (some ⟨m.length, 0, none⟩) n INF) (m ++ [some ⟨flatO (ordL l), true, 1⟩]) := by
 subst hn
 have h2 := ACalls.viaS (m := m) (args := [.slice (some ⟨b, 0, none⟩) l.length c]) (v := .slice (some ⟨m.length, 0, none⟩) l.length INF) [b] [] [some ⟨flatO (ordL l), true, 1⟩] (sorted_c l hap h0 hl c blk.esz) ⟨bS hb ho hc (flatP_scal _), trivial⟩ (by simp) ?_ rfl rfl rfl rfl
 ·exact h2
 ·exact ⟨⟨_, rfl, rfl⟩, ⟨rfl, rfl, rfl, .inl ⟨rfl, flatO_scal _⟩⟩, trivial⟩
end Go.Proofs.YtmohcmghbfhdlaaGreat
end
end
/- Chapter 6: the hull (the program's). -/
section
set_option linter.unusedSimpArgs false
set_option linter.unusedVariables false
section
namespace Go.Me
open Go.Ab
theorem popI_len (l : List Pn) (p : Nat) : ∀ st : List Nat, (popI l p st).length ≤ st.length
 | [] => Nat.le_refl _
 | [_] => Nat.le_refl _
 | b :: a :: r => by
  unfold popI
  split
  ·have := popI_len l p (a :: r)
   simp only [List.length_cons] at this ⊢
   omega
  ·exact Nat.le_refl _
theorem popI_pos (l : List Pn) (p : Nat) : ∀ st : List Nat, 0 < st.length → 0 < (popI l p st).length
 | [], h => h
 | [_], h => h
 | b :: a :: r, _ => by
  unfold popI
  split
  ·exact popI_pos l p (a :: r) (by simp)
  ·simp
theorem ouK_len {l : List Pn} {o : List Nat} : ∀ k, k ≤ o.length → (ouK l o k).length ≤ k ∧ (2 ≤ k → 2 ≤ (ouK l o k).length) := by
 intro k
 induction k with
 | zero => intro _; exact ⟨Nat.le_refl _, fun h => absurd h (by decide)⟩
 | succ k ih =>
  intro hk
  obtain ⟨i1, i2⟩ := ih (by omega)
  have e : (ouK l o (k + 1)).length = (popI l (ot o k) (chainI l (o.take k))).length + 1 := by
   unfold ouK
   rw [List.length_reverse]
   unfold chainI
   rw [List.take_add_one, ot_lt (by omega), Option.toList_some, List.foldl_append]
   rfl
  have e2 : (ouK l o k).length = (chainI l (o.take k)).length := by unfold ouK; rw [List.length_reverse]
  have p1 := popI_len l (ot o k) (chainI l (o.take k))
  have p2 := popI_pos l (ot o k) (chainI l (o.take k))
  refine ⟨by omega, fun h => ?_⟩
  rcases Nat.lt_or_ge k 1 with h1 | h1
  ·omega
  ·have := ouK_pos (l := l) h1 (show k ≤ o.length by omega)
   omega
theorem ouK_le {l : List Pn} {o : List Nat} (k : Nat) : (ouK l o k).length ≤ o.length := by
 rcases Nat.le_total k o.length with h | h
 ·exact Nat.le_trans (ouK_len k h).1 h
 ·have e : ouK l o k = ouK l o o.length := by unfold ouK; rw [List.take_of_length_le h, List.take_length]
  rw [e]
  exact (ouK_len o.length (Nat.le_refl _)).1
theorem hullI_ou (l : List Pn) (o : List Nat) : hullI l o = (ouK l o o.length).take ((ouK l o o.length).length - 1) ++ (ouK l o.reverse o.length).take ((ouK l o.reverse o.length).length - 1) := by
 have e : o.reverse.take o.length = o.reverse := List.take_of_length_le (by rw [List.length_reverse]; exact Nat.le_refl _)
 unfold hullI ouK
 rw [List.take_length, e, List.dropLast_eq_take, List.dropLast_eq_take]
theorem flatO_one (o : List Nat) : (flatO o).all Ab.one = true := Ls.one_of_scal (flatO_scal o)
theorem ldO {m : Mem} {b k : Nat} {blk : Blk} {A : List Nat} (hb : m.at b = some blk) (hc : blk.cells = flatO A) (hk : k ≤ A.length) : m.ld b 0 (k * 1) = some (flatO (A.take k)) := by
 unfold Mem.ld
 rw [hb]
 show (if 0 + k * 1 ≤ blk.cells.length then some ((blk.cells.drop 0).take (k * 1)) else none) = _
 rw [hc, flatO_len, if_pos (by omega), List.drop_zero, Nat.mul_one]
 unfold flatO
 rw [List.map_take]
end Go.Me
namespace Go.Proofs.YtmohcmghbfhdlaaGreat
open Go Go.RowKit Go.Ab Go.Me
set_option maxRecDepth 100000
set_option maxHeartbeats 4000000
attribute [local irreducible] OQ OW AL AW AF SW
theorem half_q {m : Mem} {b d e n c c2 : Nat} {blk blk1 blk2 : Blk} (l : List Pn) (o : List Nat) (hok : ∀ k, k < l.length → (pt l k).Ok) (hmem : ∀ x ∈ o, x < l.length) (hn : o.length = n) (h0 : 0 < n) (hl : l.length ≤ 1000) (hol : n ≤ 1000)
  (hb : m.at b = some blk) (hc : blk.cells = flatP l) (hd : m.at d = some blk1) (hc1 : blk1.cells = [.slice (some ⟨b, 0, none⟩) l.length c2]) (he : m.at e = some blk2) (hc2 : blk2.cells = flatO o) (hne : [b, d, e].Nodup) (ho : blk.obj = Ob.plain := by rfl) (ho1 : blk1.obj = Ob.plain := by rfl) (ho2 : blk2.obj = Ob.plain := by rfl) :
  ACalls Tryz.prog 158 [.slice (some ⟨e, 0, none⟩) n c, .pointer (some ⟨d, 0, none⟩)] m (.slice (some ⟨m.length, 0, none⟩) ((ouK l o n).length - 1) INF) (m ++ [some ⟨flatO (ouK l o n), true, 1⟩]) := by
 subst hn
 have h2 := ACalls.viaS (m := m) (args := [.slice (some ⟨e, 0, none⟩) o.length c, .pointer (some ⟨d, 0, none⟩)]) (v := .slice (some ⟨m.length, 0, none⟩) ((ouK l o o.length).length - 1) INF) [b, d, e] [] [some ⟨flatO (ouK l o o.length), true, 1⟩] (half_c l o hok hmem h0 hl hol (fun k => Nat.le_trans (ouK_le k) hol) c c2 blk.esz blk1.esz blk2.esz)
  ⟨bS hb ho hc (flatP_scal _), bI hd ho1 hc1, bS he ho2 hc2 (flatO_scal _), trivial⟩ hne ?_ rfl rfl rfl rfl
 ·exact h2
 ·exact ⟨⟨_, rfl, rfl⟩, ⟨_, rfl, rfl⟩, ⟨_, rfl, rfl⟩, ⟨rfl, rfl, rfl, .inl ⟨rfl, flatO_scal _⟩⟩, trivial⟩
theorem hull_c (l : List Pn) (hok : ∀ k, k < l.length → (pt l k).Ok) (hap : Apart l) (h0 : 2 ≤ l.length) (hl : l.length ≤ 1000) (c z : Nat) :
  ACalls Tryz.prog 122 [.slice (some ⟨0, 0, none⟩) l.length c] [some ⟨flatP l, false, z⟩] (.slice (some ⟨1, 0, none⟩) (hullI l (ordL l)).length INF) [some ⟨flatP l, false, z⟩, some ⟨flatO (hullI l (ordL l)), true, 1⟩] := by
 have hS := fun (m : Mem) (b : Nat) (blk : Blk) (h1 : m.at b = some blk) (h2 : blk.cells = flatP l) (h3 : blk.obj = Ob.plain) => sorted_q (c := c) l hap (by omega) hl h1 h2 rfl h3
 have hm1 : ∀ x ∈ ordL l, x < l.length := fun x hx => (ordL_sorted hap).mem x |>.1 hx
 have hm2 : ∀ x ∈ (ordL l).reverse, x < l.length := fun x hx => hm1 x (List.mem_reverse.1 hx)
 have hlen := ordL_len l
 have hlen2 : (ordL l).reverse.length = l.length := by rw [List.length_reverse, hlen]
 have hF1 := fun (m : Mem) (b d e cc : Nat) (blk blk1 blk2 : Blk) (h1 : m.at b = some blk) (h2 : blk.cells = flatP l) (h3 : m.at d = some blk1) (h4 : blk1.cells = [.slice (some ⟨b, 0, none⟩) l.length c]) (h5 : m.at e = some blk2) (h6 : blk2.cells = flatO (ordL l)) (h7 : [b, d, e].Nodup) (o1 : blk.obj = Ob.plain) (o2 : blk1.obj = Ob.plain) (o3 : blk2.obj = Ob.plain) => half_q (c := cc) l (ordL l) hok hm1 hlen (by omega) hl hl h1 h2 h3 h4 h5 h6 h7 o1 o2 o3
 have hF2 := fun (m : Mem) (b d e cc : Nat) (blk blk1 blk2 : Blk) (h1 : m.at b = some blk) (h2 : blk.cells = flatP l) (h3 : m.at d = some blk1) (h4 : blk1.cells = [.slice (some ⟨b, 0, none⟩) l.length c]) (h5 : m.at e = some blk2) (h6 : blk2.cells = flatO (ordL l).reverse) (h7 : [b, d, e].Nodup) (o1 : blk.obj = Ob.plain) (o2 : blk1.obj = Ob.plain) (o3 : blk2.obj = Ob.plain) => half_q (c := cc) l (ordL l).reverse hok hm2 hlen2 (by omega) hl hl h1 h2 h3 h4 h5 h6 h7 o1 o2 o3
 have hR := fun (m : Mem) (b cc z : Nat) (h : m.at b = some ⟨flatO (ordL l), true, z⟩) => Reverse_q (c := cc) (ordL l) h hlen (by omega)
 have hH := hullI_ou l (ordL l)
 rw [hlen] at hH
 have a1 := ouK_len (l := l) (o := ordL l) l.length (by omega)
 have a2 := ouK_len (l := l) (o := (ordL l).reverse) l.length (by omega)
 generalize ouK l (ordL l) l.length = A1 at *
 generalize ouK l (ordL l).reverse l.length = A2 at *
 generalize hullI l (ordL l) = H at *
 have b1 := a1.2 h0
 have b2 := a2.2 h0
 have hHl : H.length = (A1.length - 1) + (A2.length - 1) := by rw [hH, List.length_append, List.length_take, List.length_take]; omega
 have hfl : (flatO A1).take (A1.length - 1) ++ flatO (A2.take (A2.length - 1)) = flatO H := by
  rw [hH]
  unfold flatO
  rw [List.map_append, List.map_take, List.map_take]
 have hle : (A1.length - 1) * 1 ≤ (flatO A1).length := by rw [flatO_len]; omega
 refine ACalls.en 18 Tryz.func122 rfl rfl (fun E hE => ?_)
 repeat' (first | with_reducible (refine Then.n ?_) | ((with_reducible refine AL.on ?_); first | ((first | refine AL.mv ?_ | refine AL.as ?_ | ((with_reducible refine AL.k_load ?_); (refine AL.g (OQ.load1 (ty := 22) rfl kr wl) ?_))); refine AL.nm ?_) | ((refine AL.q rfl OQ.mkfn ?_); refine AL.nm ?_) | ((first | ((with_reducible refine AL.k_call ?_); first | refine AL.acall (g := 117) rfl kr rfl ((by exact hS _ 0 _ rfl rfl rfl)) ?_ | refine AL.acall rfl (by kernel_rfl) rfl ((by first | exact hF1 _ 0 1 2 _ _ _ _ rfl rfl rfl rfl rfl rfl (by decide) rfl rfl rfl | exact hF2 _ 0 1 2 _ _ _ _ rfl rfl rfl rfl rfl rfl (by decide) rfl rfl rfl)) ?_ | refine AL.acall (g := 159) rfl kr rfl ((by exact hR _ 2 _ _ rfl)) ?_ | refine AL.w rfl (by exact OW.append (e := 3) (z := 1) (zs := [.int .i64 0]) (by' := 8) (n := A1.length - 1) (k := A2.length - 1) (vs := flatO (A2.take (A2.length - 1))) rfl rfl kr kr kr rfl kr (by omega) rfl rfl rfl (by decide) hle (ldO rfl rfl (by omega)) (flatO_one _) (by omega) (by omega)) ?_) | refine AL.bx ?_); refine AL.nm ?_; refine AL.nM ?_) | refine AL.nil ?_) | ((with_reducible refine AW.on ?_); first | refine AW.seq ?_ | refine AW.ret ?_ | refine AW.region ?_) | ((with_reducible refine FinA.on ?_); (rw [← hfl, hHl]; refine FinA.keep 1 [5] (.inl rfl) (.tmp wl .nil) ?_ rfl (Nat.le_of_eq hE) rfl rfl ⟨kl rfl (flatP_scal l), ⟨_, rfl, rfl, rfl, .inl ⟨rfl, by rw [hfl]; exact flatO_scal _⟩⟩, trivial⟩; rfl)))
end Go.Proofs.YtmohcmghbfhdlaaGreat
end
end
/- Chapter 6: the reference's hull of points that are not on a line. -/
section
set_option linter.unusedSimpArgs false
set_option linter.unusedVariables false
section
namespace Go.Me
open Go.Ab
def fsK (l : List Pn) : Nat → Nat
 | 0 => 0
 | k + 1 => if (pt l k).x < (pt l (fsK l k)).x ∨ ((pt l k).x = (pt l (fsK l k)).x ∧ (pt l k).y < (pt l (fsK l k)).y) then k else fsK l k
theorem fsK_lt {l : List Pn} (h : 0 < l.length) : ∀ k, k ≤ l.length → fsK l k < l.length := by
 intro k
 induction k with
 | zero => intro _; exact h
 | succ k ih =>
  intro hk
  unfold fsK
  split
  ·omega
  ·exact ih (by omega)
theorem fsK_min {l : List Pn} : ∀ k, ∀ i, i < k → ¬ lexLt (pt l i) (pt l (fsK l k)) := by
 intro k
 induction k with
 | zero => intro i h; omega
 | succ k ih =>
  intro i hi
  have ih := ih i
  unfold fsK
  unfold lexLt at *
  split
  ·rcases Nat.lt_or_eq_of_le (Nat.le_of_lt_succ hi) with h | rfl
   ·have := ih h
    omega
   ·omega
  ·rcases Nat.lt_or_eq_of_le (Nat.le_of_lt_succ hi) with h | rfl
   ·exact ih h
   ·omega
def nxI (l : List Pn) (a : Nat) : Nat → Int
 | 0 => -1
 | k + 1 => if k ≠ a ∧ bdB l a k = true ∧ (nxI l a k < 0 ∨ sgB (pt l (nxI l a k).toNat) (pt l a) (pt l k) = true) then k else nxI l a k
theorem nxI_eq (l : List Pn) (a : Nat) : ∀ k : Nat, (nextTo l a k = none ∧ nxI l a k = -1) ∨ ∃ j : Nat, nextTo l a k = some j ∧ nxI l a k = j := by
 intro k
 induction k with
 | zero => exact .inl ⟨rfl, rfl⟩
 | succ k ih =>
  have key : (k ≠ a ∧ bdB l a k = true ∧ (nxI l a k < 0 ∨ sgB (pt l (nxI l a k).toNat) (pt l a) (pt l k) = true)) ↔ (Cand l a k ∧ ∀ j, nextTo l a k = some j → OnSeg (pt l j) (pt l a) (pt l k)) := by
   rw [bdB_true, sgB_true]
   unfold Cand
   rcases ih with ⟨h1, h2⟩ | ⟨j, h1, h2⟩
   ·rw [h1, h2]
    constructor
    ·rintro ⟨g1, g2, _⟩
     exact ⟨⟨g1, g2⟩, fun j h => by cases h⟩
    ·rintro ⟨⟨g1, g2⟩, _⟩
     exact ⟨g1, g2, .inl (by decide)⟩
   ·rw [h1, h2]
    constructor
    ·rintro ⟨g1, g2, g3⟩
     refine ⟨⟨g1, g2⟩, fun j' h => ?_⟩
     cases h
     rcases g3 with g3 | g3
     ·omega
     ·simpa using g3
    ·rintro ⟨⟨g1, g2⟩, g3⟩
     exact ⟨g1, g2, .inr (by simpa using g3 j rfl)⟩
  unfold nxI nextTo nextStep
  by_cases hc : Cand l a k ∧ ∀ j, nextTo l a k = some j → OnSeg (pt l j) (pt l a) (pt l k)
  ·rw [if_pos hc, if_pos (key.2 hc)]
   exact .inr ⟨k, rfl, rfl⟩
  ·rw [if_neg hc, if_neg (fun h => hc (key.1 h))]
   exact ih
theorem nxI_some {l : List Pn} {a b k : Nat} (h : nextTo l a k = some b) : nxI l a k = b := by
 rcases nxI_eq l a k with ⟨h1, _⟩ | ⟨j, h1, h2⟩
 ·rw [h1] at h; cases h
 ·rw [h1] at h
  cases h
  exact h2
structure Ring (l : List Pn) (H : List Nat) (f : Nat) : Prop where
 len : 3 ≤ H.length
 le : H.length ≤ l.length
 zero : ot H 0 = f
 bd : ∀ k, k < H.length → ot H k < l.length
 next : ∀ k, k + 1 < H.length → nxI l (ot H k) l.length = ot H (k + 1) ∧ ot H (k + 1) ≠ f
 last : nxI l (ot H (H.length - 1)) l.length = f
theorem ring_of {l : List Pn} (hok : ∀ k, k < l.length → (pt l k).Ok) (hap : Apart l) (hfl : flK l (l.length - 2) = false) : Ring l (hullI l (ordL l)) (fsK l l.length) := by
 have hs := ordL_sorted hap
 have hB : ∀ p ∈ l, -10000 ≤ p.y ∧ p.y ≤ 10000 := fun p hp => by
  obtain ⟨i, hi, rfl⟩ := mem_pt hp
  exact ⟨(hok i hi).y0, (hok i hi).y1⟩
 have hnf : ¬ FlatR l := fun h => by
  rw [← flK_flat] at h
  rw [h] at hfl
  cases hfl
 obtain ⟨h1, h2, h3, h4, h5, h6⟩ := hull_ok hB hap hs (not_flatR hnf)
 have hl0 : 0 < l.length := by omega
 have hget : ∀ k, k < (hullI l (ordL l)).length → (hullI l (ordL l))[k]? = some (ot (hullI l (ordL l)) k) := fun k hk => ot_lt hk
 have hbd : ∀ k, k < (hullI l (ordL l)).length → ot (hullI l (ordL l)) k < l.length := fun k hk =>
  (hs.mem _).1 (hullI_sub l _ _ (List.mem_of_getElem? (hget k hk)))
 have hh : (ordL l).head? = some (ot (hullI l (ordL l)) 0) := by rw [← h3, List.head?_eq_getElem?]; exact hget 0 (by omega)
 obtain ⟨f1, f2⟩ := first_least hs hh
 have hf : ot (hullI l (ordL l)) 0 = fsK l l.length := by
  rcases f2 (fsK l l.length) (fsK_lt hl0 _ (Nat.le_refl _)) with h | h
  ·exact h.symm
  ·exact absurd h (fsK_min l.length _ f1)
 refine ⟨h1, h2, hf, hbd, fun k hk => ⟨nxI_some (h4 k _ _ (hget k (by omega)) (hget (k + 1) hk)), ?_⟩, ?_⟩
 ·rw [← hf]
  exact h6 (k + 1) _ _ (by omega) (hget (k + 1) hk) hh
 ·rw [← hf]
  exact nxI_some (h5 _ _ (by rw [List.getLast?_eq_getElem?]; exact hget _ (by omega)) hh)
end Go.Me
namespace Go.Proofs.YtmohcmghbfhdlaaGreat
open Go Go.RowKit Go.Ab Go.Me
set_option maxRecDepth 100000
set_option maxHeartbeats 4000000
attribute [local irreducible] OQ OW AL AW AF SW
end Go.Proofs.YtmohcmghbfhdlaaGreat
end
end
/- Chapter 6: Hull (the program's), for all points. -/
section
set_option linter.unusedSimpArgs false
set_option linter.unusedVariables false
section
namespace Go.Me
open Go.Ab
theorem cp_ok {l : List Pn} (h : cpB l = 0) : l.length ≤ 40 ∧ (∀ k, k < l.length → (pt l k).Ok) ∧ Apart l := by
 have h40 : ¬ 40 < l.length := fun h2 => by
  unfold cpB at h
  rw [if_pos h2] at h
  cases h
 have hN : ∀ n, cpN l n = -1 → ∀ j, j < n → ptE l j = 0 := by
  intro n
  induction n with
  | zero => intro _ j hj; omega
  | succ n ih =>
   intro h1 j hj
   unfold cpN at h1
   by_cases h2 : cpN l n = -1
   ·rw [if_neg (fun h3 => h3 h2)] at h1
    rcases Nat.lt_or_eq_of_le (Nat.le_of_lt_succ hj) with h3 | rfl
    ·exact ih h2 j h3
    ·apply Classical.byContradiction
     intro h4
     rw [if_pos h4] at h1
     omega
   ·rw [if_pos h2] at h1
    exact absurd h1 h2
 have hc : cpN l l.length = -1 := by
  unfold cpB at h
  rw [if_neg h40] at h
  apply Classical.byContradiction
  intro h1
  rw [if_neg h1] at h
  have h2 : ∀ n, cpN l n ≠ -1 → 0 ≤ cpN l n ∧ (cpN l n).toNat < n ∧ ptE l (cpN l n).toNat ≠ 0 := by
   intro n
   induction n with
   | zero => intro h; exact absurd rfl h
   | succ n ih =>
    intro h3
    unfold cpN at h3 ⊢
    by_cases h4 : cpN l n ≠ -1
    ·have := ih h4
     rw [if_pos h4]
     exact ⟨this.1, by omega, this.2.2⟩
    ·rw [if_neg h4] at h3 ⊢
     by_cases h5 : ptE l n ≠ 0
     ·rw [if_pos h5]
      exact ⟨by omega, by omega, by simpa using h5⟩
     ·rw [if_neg h5] at h3
      exact absurd rfl h3
  exact (h2 l.length h1).2.2 h
 have hp := hN l.length hc
 have hok : ∀ k, k < l.length → okP (pt l k) = true ∧ idxP l (pt l k) k = -1 := fun k hk => by
  have := hp k hk
  unfold ptE at this
  cases ho : okP (pt l k) with
  | false => rw [ho, if_pos rfl] at this; cases this
  | true =>
   rw [ho, if_neg (by decide)] at this
   refine ⟨rfl, ?_⟩
   apply Classical.byContradiction
   intro h1
   rw [if_neg h1] at this
   cases this
 have hne : ∀ i j, i < j → j < l.length → pt l i ≠ pt l j := fun i j hij hj e => by
  have h1 := (hok j hj).2
  have h2 : ∀ n, i < n → idxP l (pt l j) n ≠ -1 := by
   intro n
   induction n with
   | zero => intro h; omega
   | succ n ih =>
    intro hn h3
    unfold idxP at h3
    by_cases h4 : idxP l (pt l j) n ≠ -1
    ·rw [if_pos h4] at h3
     exact h4 h3
    ·rw [if_neg h4] at h3
     rcases Nat.lt_or_eq_of_le (Nat.le_of_lt_succ hn) with h5 | rfl
     ·exact h4 (ih h5)
     ·rw [if_pos (by rw [e])] at h3
      omega
  exact h2 j hij h1
 refine ⟨by omega, fun k hk => okP_ok (hok k hk).1, fun i j hi hj e => ?_⟩
 rcases Nat.lt_trichotomy i j with h1 | h1 | h1
 ·exact absurd e (hne i j h1 hj)
 ·exact h1
 ·exact absurd e.symm (hne j i h1 hi)
end Go.Me
namespace Go.Proofs.YtmohcmghbfhdlaaGreat
open Go Go.RowKit Go.Ab Go.Me
set_option maxRecDepth 100000
set_option maxHeartbeats 4000000
attribute [local irreducible] OQ OW AL AW AF SW
end Go.Proofs.YtmohcmghbfhdlaaGreat
end
end
/- Chapter 6: Hull of both sides, for all right points. -/
section
set_option linter.unusedSimpArgs false
set_option linter.unusedVariables false
section
namespace Go.Me
open Go.Ab
def hl (l : List Pn) : List Nat := hullI l (ordL l)
theorem hl_ring {l : List Pn} (h0 : cpB l = 0) (hf : flK l (l.length - 2) = false) : Ring l (hl l) (fsK l l.length) :=
 have ⟨_, hok, hap⟩ := cp_ok h0
 ring_of hok hap hf
end Go.Me
namespace Go.Proofs.YtmohcmghbfhdlaaGreat
open Go Go.RowKit Go.Ab Go.Me
set_option maxRecDepth 100000
set_option maxHeartbeats 4000000
attribute [local irreducible] OQ OW AL AW AF SW
theorem hull_q {m : Mem} {b n c : Nat} {blk : Blk} (l : List Pn) (h0 : cpB l = 0) (h2 : 2 ≤ n) (hb : m.at b = some blk) (hc : blk.cells = flatP l) (hn : l.length = n) (ho : blk.obj = Ob.plain := by rfl) :
  ACalls Tryz.prog 122 [.slice (some ⟨b, 0, none⟩) n c] m (.slice (some ⟨m.length, 0, none⟩) (hl l).length INF) (m ++ [some ⟨flatO (hl l), true, 1⟩]) := by
 subst hn
 obtain ⟨h40, hok, hap⟩ := cp_ok h0
 have h := ACalls.viaS (m := m) (args := [.slice (some ⟨b, 0, none⟩) l.length c]) (v := .slice (some ⟨m.length, 0, none⟩) (hl l).length INF) [b] [] [some ⟨flatO (hl l), true, 1⟩] (hull_c l hok hap h2 (by omega) c blk.esz) ⟨bS hb ho hc (flatP_scal _), trivial⟩ (by simp) ⟨⟨_, rfl, rfl⟩, ⟨rfl, rfl, rfl, .inl ⟨rfl, flatO_scal _⟩⟩, trivial⟩ rfl rfl rfl rfl
 exact h
theorem Hull_y0 (l : List Pn) (c z : Nat) (h0 : cpB l = 0) (hf : flK l (l.length - 2) = false) (hz : z = 0 ∨ z = 2) :
  ACalls Tryz.prog 61 [.slice (some ⟨0, 0, none⟩) l.length c] [some ⟨flatP l, false, z⟩] (.tuple #[.slice (some ⟨1, 0, none⟩) (hl l).length INF, .int .i64 0]) [some ⟨flatP l, false, z⟩, some ⟨flatO (hl l), true, 1⟩] := by
 obtain ⟨h40, hok, hap⟩ := cp_ok h0
 have hR := hl_ring h0 hf
 have hl3 := hR.len
 have hln := hR.le
 have hp := fun (m : Mem) (b : Nat) (blk : Blk) (h1 : m.at b = some blk) (h2 : blk.cells = flatP l) (h3 : blk.esz = 0 ∨ blk.esz = 2) (h4 : blk.obj = Ob.plain) => CheckPoints_q (c := c) l h1 h2 rfl (by omega) h3 h4
 rw [h0] at hp
 have hh := fun (m : Mem) (b : Nat) (blk : Blk) (h1 : m.at b = some blk) (h2 : blk.cells = flatP l) (h4 : blk.obj = Ob.plain) => hull_q (c := c) l h0 (by omega) h1 h2 rfl h4
 clear hR
 generalize cpA l = A0 at *
 generalize hl l = H at *
 refine ACalls.en 20 Tryz.func61 rfl rfl (fun E hE => ?_)
 repeat' (first | with_reducible (refine Then.n ?_) | ((with_reducible refine AL.on ?_); first | ((first | refine AL.as ?_ | refine AL.mv ?_ | ((with_reducible refine AL.k_call ?_); refine AL.g (OQ.lenS (xt := 26) (r := (none, 1, false)) rfl kr) ?_) | refine AL.et ?_ | ((with_reducible refine AL.k_binOp ?_); first | refine AL.g (OQ.neq rfl rfl) ?_ | refine AL.g (OQ.lss rfl rfl) ?_)); refine AL.nm ?_) | ((refine AL.pcall (g := 121) rfl kr rfl ((by exact hp _ 0 _ rfl rfl hz rfl)) ?_); refine AL.nm ?_) | ((refine AL.acall (g := 122) rfl kr rfl ((by exact hh _ 0 _ rfl rfl rfl)) ?_); refine AL.nm ?_; refine AL.nM ?_) | refine AL.nil ?_) | ((with_reducible refine AW.on ?_); first | refine AW.seq ?_ | refine AW.skip ?_ | refine AW.ret ?_ | refine AW.region ?_ | (refine AW.conds rfl (fun hc => ?_) (fun hc => ?_) <;> (try replace hc := nc hc) <;> first | (exfalso; first | contradiction | (omega); done) | skip)) | ((with_reducible refine FinA.on ?_); (refine FinA.keep 2 [] (.inl rfl) (.tmp wl (.tmp wl .nil)) ?_ rfl (by rw [hE]; exact (by decide : 1 ≤ 2)) rfl rfl ⟨kl rfl (flatP_scal l), kl rfl (flatO_scal _), trivial⟩; rfl)))
theorem Hull_y {m : Mem} {b n c : Nat} {blk : Blk} (l : List Pn) (h0 : cpB l = 0) (hf : flK l (l.length - 2) = false) (hb : m.at b = some blk) (hc : blk.cells = flatP l) (hn : l.length = n) (hz : blk.esz = 0 ∨ blk.esz = 2) (ho : blk.obj = Ob.plain := by rfl) :
  ACalls Tryz.prog 61 [.slice (some ⟨b, 0, none⟩) n c] m (.tuple #[.slice (some ⟨m.length, 0, none⟩) (hl l).length INF, .int .i64 0]) (m ++ [some ⟨flatO (hl l), true, 1⟩]) := by
 subst hn
 have h := ACalls.viaS (m := m) (args := [.slice (some ⟨b, 0, none⟩) l.length c]) (v := .tuple #[.slice (some ⟨m.length, 0, none⟩) (hl l).length INF, .int .i64 0]) [b] [] [some ⟨flatO (hl l), true, 1⟩] (Hull_y0 l c blk.esz h0 hf hz) ⟨bS hb ho hc (flatP_scal _), trivial⟩ (by simp) ⟨⟨_, rfl, rfl⟩, ⟨rfl, rfl, rfl, .inl ⟨rfl, flatO_scal _⟩⟩, trivial⟩ rfl rfl rfl rfl
 exact h
end Go.Proofs.YtmohcmghbfhdlaaGreat
end
end
/- Chapter 6: the opening of wrong nets. -/
section
set_option linter.unusedSimpArgs false
set_option linter.unusedVariables false
section
namespace Go.Me
open Go.Ab Go.Proofs.YtmohcmghbfhdlaaGreat
def fstN (f : Nat → Int) : Nat → Int
 | 0 => -1
 | k + 1 => if fstN f k ≠ -1 then fstN f k else if f k ≠ 0 then k else -1
theorem fstN_no {f : Nat → Int} : ∀ n : Nat, (∀ j, j < n → f j = 0) → fstN f n = -1 := by
 intro n
 induction n with
 | zero => intro _; rfl
 | succ n ih =>
  intro h
  unfold fstN
  rw [if_neg (fun h2 => h2 (ih fun j hj => h j (by omega))), if_neg (fun h2 => h2 (h n (by omega)))]
theorem fstN_yes {f : Nat → Int} {k : Nat} (hk : ∀ j, j < k → f j = 0) (he : f k ≠ 0) : ∀ n : Nat, k < n → fstN f n = k := by
 intro n
 induction n with
 | zero => intro h; omega
 | succ n ih =>
  intro h
  rcases Nat.lt_or_eq_of_le (Nat.le_of_lt_succ h) with h | rfl
  ·have := ih h
   unfold fstN
   rw [this, if_pos (by omega)]
  ·unfold fstN
   rw [if_neg (fun h2 => h2 (fstN_no k hk)), if_pos he]
def lfA (ts : List T3) : List (IE × Int) := lf ts ts.length
def opB (l : List Pn) (ts : List T3) : Bool := (lfA ts).any fun p => decide (lk (lfA ts) (p.1.2, p.1.1) = -1) && !bdB l p.1.1.toNat p.1.2.toNat
def gpB (l : List Pn) (ts : List T3) : Bool := decide (ts.length = 0) || decide (arT l ts ts.length ≠ arS l (hl l) (hl l).length) || decide ((us ts ts.length).length ≠ l.length)
def netE (l : List Pn) (ts : List T3) : Int :=
 if cpB l ≠ 0 then cpB l else if 80 < ts.length then 8 else if fstN (trK l ts) ts.length ≠ -1 then trK l ts (fstN (trK l ts) ts.length).toNat else if opB l ts = true then 25 else if gpB l ts = true then 14 else 0
abbrev mpU (u : List Int) : Blk := @Blk.mk [] true 0 ⟨some (.map (mpE encI (u.map fun k => (k, Value.bool true))) (u.map fun k => (k, Value.bool true)).length)⟩
theorem lf_succ (ts : List T3) (k : Nat) : lf ts (k + 1) = lf ts k ++ [(((tr ts k).1, (tr ts k).2.1), (k : Int))] ++ [(((tr ts k).2.1, (tr ts k).2.2), (k : Int))] ++ [(((tr ts k).2.2, (tr ts k).1), (k : Int))] := rfl
theorem shp_map {κ : Type} {enc : κ → Value} {σ : Nat → Nat} {n : Nat} {A B : List (κ × Value)} (h : A = B) : (mpL enc A).shp = Blk.shpR σ n (mpL enc B) := by subst h; rfl
structure Rnd3 (ts : List T3) (k : Nat) : Prop where
 a1 : ∀ p ∈ lfV (lf ts k), okE p.1
 a2 : ∀ p ∈ lfV (lf ts k) ++ [(((tr ts k).1, (tr ts k).2.1), Value.int .i64 (k : Int))], okE p.1
 a3 : ∀ p ∈ lfV (lf ts k) ++ [(((tr ts k).1, (tr ts k).2.1), Value.int .i64 (k : Int))] ++ [(((tr ts k).2.1, (tr ts k).2.2), Value.int .i64 (k : Int))], okE p.1
 b1 : ((tr ts k).1, (tr ts k).2.1) ∉ (lfV (lf ts k)).map (·.1)
 b2 : ((tr ts k).2.1, (tr ts k).2.2) ∉ (lfV (lf ts k) ++ [(((tr ts k).1, (tr ts k).2.1), Value.int .i64 (k : Int))]).map (·.1)
 b3 : ((tr ts k).2.2, (tr ts k).1) ∉ (lfV (lf ts k) ++ [(((tr ts k).1, (tr ts k).2.1), Value.int .i64 (k : Int))] ++ [(((tr ts k).2.1, (tr ts k).2.2), Value.int .i64 (k : Int))]).map (·.1)
 o1 : okE ((tr ts k).1, (tr ts k).2.1)
 o2 : okE ((tr ts k).2.1, (tr ts k).2.2)
 o3 : okE ((tr ts k).2.2, (tr ts k).1)
 c : lfV (lf ts k) ++ [(((tr ts k).1, (tr ts k).2.1), Value.int .i64 (k : Int))] ++ [(((tr ts k).2.1, (tr ts k).2.2), Value.int .i64 (k : Int))] ++ [(((tr ts k).2.2, (tr ts k).1), Value.int .i64 (k : Int))] = lfV (lf ts (k + 1))
theorem rnd3 {l : List Pn} {ts : List T3} {k : Nat} (hl : l.length ≤ 1000) (h : LfOk l.length (lf ts k)) (he : trK l ts k = 0) : Rnd3 ts k := by
 obtain ⟨h1, h2, h3, h4⟩ := lf_step h he
 have e1 : lfV (lf ts k) ++ [(((tr ts k).1, (tr ts k).2.1), Value.int .i64 (k : Int))] = lfV (lf ts k ++ [(((tr ts k).1, (tr ts k).2.1), (k : Int))]) := by rw [lfV_app]; rfl
 have e2 : lfV (lf ts k) ++ [(((tr ts k).1, (tr ts k).2.1), Value.int .i64 (k : Int))] ++ [(((tr ts k).2.1, (tr ts k).2.2), Value.int .i64 (k : Int))] = lfV (lf ts k ++ [(((tr ts k).1, (tr ts k).2.1), (k : Int))] ++ [(((tr ts k).2.1, (tr ts k).2.2), (k : Int))]) := by rw [lfV_app, lfV_app]; rfl
 have e3 : lfV (lf ts k) ++ [(((tr ts k).1, (tr ts k).2.1), Value.int .i64 (k : Int))] ++ [(((tr ts k).2.1, (tr ts k).2.2), Value.int .i64 (k : Int))] ++ [(((tr ts k).2.2, (tr ts k).1), Value.int .i64 (k : Int))] = lfV (lf ts (k + 1)) := by rw [lf_succ, lfV_app, lfV_app, lfV_app]; rfl
 have hall := h4.okE hl
 have hA : ∀ X : List (IE × Int), (∀ p ∈ X, p ∈ lf ts (k + 1)) → ∀ p ∈ lfV X, okE p.1 := fun X hX p hp => by
  obtain ⟨q, hq, rfl⟩ := List.mem_map.1 hp
  exact hall q (hX q hq)
 have hin : ∀ q, q ∈ lf ts (k + 1) ↔ ((q ∈ lf ts k ∨ q = (((tr ts k).1, (tr ts k).2.1), (k : Int))) ∨ q = (((tr ts k).2.1, (tr ts k).2.2), (k : Int))) ∨ q = (((tr ts k).2.2, (tr ts k).1), (k : Int)) := fun q => by
  rw [lf_succ]
  simp only [List.mem_append, List.mem_singleton]
 refine ⟨hA _ fun p hp => (hin p).2 (.inl (.inl (.inl hp))), ?_, ?_, by rw [lfV_keys]; exact h1, by rw [e1, lfV_keys]; exact h2, by rw [e2, lfV_keys]; exact h3, hall (((tr ts k).1, (tr ts k).2.1), (k : Int)) ((hin _).2 (.inl (.inl (.inr rfl)))), hall (((tr ts k).2.1, (tr ts k).2.2), (k : Int)) ((hin _).2 (.inl (.inr rfl))), hall (((tr ts k).2.2, (tr ts k).1), (k : Int)) ((hin _).2 (.inr rfl)), e3⟩
 ·rw [e1]
  refine hA _ fun p hp => (hin p).2 (.inl (.inl ?_))
  simpa only [List.mem_append, List.mem_singleton] using hp
 ·rw [e2]
  refine hA _ fun p hp => (hin p).2 (.inl ?_)
  simpa only [List.mem_append, List.mem_singleton] using hp
theorem hl_lt {l : List Pn} (h : cpB l = 0) : ∀ k, k < (hl l).length → ot (hl l) k < l.length := fun k hk =>
 ((ordL_sorted (cp_ok h).2.2).mem _).1 (hullI_sub l _ _ (List.mem_of_getElem? (ot_lt hk)))
end Go.Me
namespace Go.Proofs.YtmohcmghbfhdlaaGreat
open Go Go.RowKit Go.Ab Go.Me
set_option maxRecDepth 100000
set_option maxHeartbeats 4000000
attribute [local irreducible] OQ OW AL AW AF SW
end Go.Proofs.YtmohcmghbfhdlaaGreat
end
end
/- Chapter 6: the opening of nets that are not right. -/
section
set_option linter.unusedSimpArgs false
set_option linter.unusedVariables false
section
namespace Go.Me
open Go.Ab Go.Proofs.YtmohcmghbfhdlaaGreat
theorem le_nodup {α : Type} [BEq α] [LawfulBEq α] : ∀ (l ps : List α), l.Nodup → (∀ y ∈ l, y ∈ ps) → l.length ≤ ps.length
 | [], _, _, _ => Nat.zero_le _
 | x :: l, ps, hn, h => by
  have hx := h x (by simp)
  have hn' := List.nodup_cons.1 hn
  have := le_nodup l (ps.erase x) hn'.2 fun y hy => (List.mem_erase_of_ne (fun e => hn'.1 (by rw [← e]; exact hy))).2 (h y (List.mem_cons_of_mem _ hy))
  rw [List.length_erase_of_mem hx] at this
  have : 0 < ps.length := List.length_pos_of_mem hx
  simp only [List.length_cons]
  omega
theorem seen_le {n : Nat} {seen : List Nat} (hn : seen.Nodup) (h : ∀ j ∈ seen, j < n) : seen.length ≤ n := by
 have := le_nodup seen (List.range n) hn fun y hy => List.mem_range.2 (h y hy)
 rwa [List.length_range] at this
theorem seen_snoc {j : Nat} {seen : List Nat} (hn : seen.Nodup) (hj : j ∉ seen) : (seen ++ [j]).Nodup := by
 rw [List.nodup_append]
 refine ⟨hn, by simp, fun a ha b hb e => ?_⟩
 rw [List.mem_singleton] at hb
 subst hb
 subst e
 exact hj ha
theorem tri_bd {l : List Pn} {ts : List T3} {k : Nat} (hok : ∀ k, k < l.length → (pt l k).Ok) (h : trK l ts k = 0) : -800000000 ≤ arS l [(tr ts k).1.toNat, (tr ts k).2.1.toNat, (tr ts k).2.2.toNat] 3 ∧ arS l [(tr ts k).1.toNat, (tr ts k).2.1.toNat, (tr ts k).2.2.toNat] 3 ≤ 800000000 := by
 obtain ⟨h1, _⟩ := trK_0 h
 unfold inR at h1
 rw [arS_3]
 have := cr_bd (hok (tr ts k).1.toNat (by omega)) (hok (tr ts k).2.1.toNat (by omega)) (hok (tr ts k).2.2.toNat (by omega))
 unfold cr
 omega
theorem arT_bd {l : List Pn} {ts : List T3} (hok : ∀ k, k < l.length → (pt l k).Ok) : ∀ k, (∀ j, j < k → trK l ts j = 0) → -(800000000 * (k : Int)) ≤ arT l ts k ∧ arT l ts k ≤ 800000000 * (k : Int)
 | 0, _ => by unfold arT; omega
 | k + 1, h => by
  have := arT_bd hok k fun j hj => h j (by omega)
  have := tri_bd hok (h k (by omega))
  unfold arT
  omega
theorem lfV_get {n : Nat} {L : List (IE × Int)} (h : LfOk n L) {j : Nat} {kk : IE} {v : Value} (hj : (lfV L)[j]? = some (kk, v)) : j < L.length ∧ (∃ i : Int, v = .int .i64 i ∧ (kk, i) ∈ L) ∧ (0 ≤ kk.1 ∧ kk.1 < n) ∧ (0 ≤ kk.2 ∧ kk.2 < n) := by
 unfold lfV at hj
 rw [List.getElem?_map] at hj
 cases hq : L[j]? with
 | none => rw [hq] at hj; cases hj
 | some p =>
  rw [hq] at hj
  cases hj
  have hm := List.mem_of_getElem? hq
  have := h.rng p hm
  exact ⟨(List.getElem?_eq_some_iff.1 hq).1, ⟨p.2, rfl, hm⟩, this.1, this.2.1⟩
theorem lfV_flat (L : List (IE × Int)) : ∀ p ∈ lfV L, Ab.flat1 p.2 = true := fun p hp => by
 obtain ⟨q, _, rfl⟩ := List.mem_map.1 hp
 rfl
theorem lfV_len (L : List (IE × Int)) : (lfV L).length = L.length := List.length_map _
theorem opB_yes {l : List Pn} {ts : List T3} {kk : IE} {i : Int} (hm : (kk, i) ∈ lfA ts) (h1 : lk (lfA ts) (kk.2, kk.1) = -1) (h2 : bdB l kk.1.toNat kk.2.toNat = false) : opB l ts = true := by
 unfold opB
 rw [List.any_eq_true]
 exact ⟨_, hm, by simp only; rw [h1, h2]; rfl⟩
end Go.Me
end
section
namespace Go.Me
open Go.Ab Go.Proofs.YtmohcmghbfhdlaaGreat
theorem hl_le {l : List Pn} (h : cpB l = 0) : (hl l).length ≤ 1000 := by
 have h40 := (cp_ok h).1
 have e : (hl l).length = _ := congrArg List.length (hullI_ou l (ordL l))
 have h1 := ouK_le (l := l) (o := ordL l) (ordL l).length
 have h2 := ouK_le (l := l) (o := (ordL l).reverse) (ordL l).length
 rw [List.length_reverse] at h2
 rw [ordL_len] at h1 h2
 rw [e, List.length_append, List.length_take, List.length_take, ordL_len]
 omega
theorem two_of {l : List Pn} {ts : List T3} (hall : ∀ j, j < ts.length → trK l ts j = 0) (h : 0 < ts.length) : 2 ≤ l.length := by
 obtain ⟨h1, h2, _⟩ := trK_0 (hall 0 h)
 unfold inR at h1
 unfold ordB at h2
 omega
end Go.Me
end
end
/- Chapter 6: the opening of nets with a wrong triangle. -/
section
set_option linter.unusedSimpArgs false
set_option linter.unusedVariables false
section
namespace Go.Proofs.YtmohcmghbfhdlaaGreat
open Go Go.RowKit Go.Ab Go.Me
set_option maxRecDepth 100000
set_option maxHeartbeats 4000000
attribute [local irreducible] OQ OW AL AW AF SW
end Go.Proofs.YtmohcmghbfhdlaaGreat
end
end
/- Chapter 6: the opening of nets with a point beyond an edge. -/
section
set_option linter.unusedSimpArgs false
set_option linter.unusedVariables false
section
namespace Go.Proofs.YtmohcmghbfhdlaaGreat
open Go Go.RowKit Go.Ab Go.Me
set_option maxRecDepth 100000
set_option maxHeartbeats 4000000
attribute [local irreducible] OQ OW AL AW AF SW
end Go.Proofs.YtmohcmghbfhdlaaGreat
end
end
/- Chapter 6: the opening of nets that do not cover. -/
section
set_option linter.unusedSimpArgs false
set_option linter.unusedVariables false
section
namespace Go.Proofs.YtmohcmghbfhdlaaGreat
open Go Go.RowKit Go.Ab Go.Me
set_option maxRecDepth 100000
set_option maxHeartbeats 4000000
attribute [local irreducible] OQ OW AL AW AF SW
end Go.Proofs.YtmohcmghbfhdlaaGreat
end
end
/- Chapter 6: the edges of a net, in order. -/
section
set_option linter.unusedSimpArgs false
set_option linter.unusedVariables false
section
namespace Go.Me
open Go.Ab Go.Proofs.YtmohcmghbfhdlaaGreat
def pkE (L : List (IE × Int)) (p : IE) : List Pn := if p.1 < p.2 ∨ lk L (p.2, p.1) = -1 then [⟨if p.2 < p.1 then p.2 else p.1, if p.2 > p.1 then p.2 else p.1⟩] else []
def pk (ts : List T3) (j : Nat) : List Pn := match (lfA ts)[j]? with
 | none => []
 | some p => pkE (lfA ts) p.1
def eqS (ts : List T3) (seen : List Nat) : List Pn := seen.flatMap (pk ts)
theorem eqS_snoc (ts : List T3) (seen : List Nat) (j : Nat) : eqS ts (seen ++ [j]) = eqS ts seen ++ pk ts j := by
 unfold eqS
 rw [List.flatMap_append]
 simp
theorem pk_at {ts : List T3} {j : Nat} {kk : IE} {v : Value} (hj : (lfV (lfA ts))[j]? = some (kk, v)) : pk ts j = pkE (lfA ts) kk := by
 unfold lfV at hj
 rw [List.getElem?_map] at hj
 unfold pk
 cases hq : (lfA ts)[j]? with
 | none => rw [hq] at hj; cases hj
 | some p =>
  rw [hq] at hj
  cases hj
  rfl
def sortE (es : List Pn) : List Pn := es.mergeSort fun x y => !decide (ordP y x < 0)
theorem sortE_perm (es : List Pn) : (sortE es).Perm es := List.mergeSort_perm _ _
theorem sortE_len (es : List Pn) : (sortE es).length = es.length := List.length_mergeSort _
theorem sortE_pair (es : List Pn) : (sortE es).Pairwise fun x y => ¬ lexLt y x := by
 have h := List.pairwise_mergeSort (le := fun x y => !decide (ordP y x < 0)) (l := es) (fun a b c h1 h2 => by
  simp only [Bool.not_eq_true', decide_eq_false_iff_not, ordP_neg] at h1 h2 ⊢
  unfold lexLt at *
  omega) (fun a b => by
  simp only [Bool.or_eq_true, Bool.not_eq_true', decide_eq_false_iff_not, ordP_neg]
  unfold lexLt
  omega)
 refine h.imp fun {a b} hab => ?_
 simpa only [Bool.not_eq_true', decide_eq_false_iff_not, ordP_neg] using hab
theorem sorted_uniq {xs ys : List Pn} (h : xs.Perm ys) (h1 : xs.Pairwise fun x y => ¬ lexLt y x) (h2 : ys.Pairwise fun x y => ¬ lexLt y x) : xs = ys := by
 refine List.Perm.eq_of_pairwise (le := fun x y => ¬ lexLt y x) ?_ h1 h2 h
 intro a b _ _ h3 h4
 apply Classical.byContradiction
 intro h5
 rcases lexLt_or h5 with h6 | h6
 ·exact h4 h6
 ·exact h3 h6
theorem sortE_eq {xs ys : List Pn} (h : xs.Perm ys) : sortE xs = sortE ys :=
 sorted_uniq (((sortE_perm xs).trans h).trans (sortE_perm ys).symm) (sortE_pair xs) (sortE_pair ys)
def edL (ts : List T3) : List Pn := sortE (eqS ts (List.range (lfA ts).length))
theorem eqS_all {ts : List T3} {seen : List Nat} (hn : seen.Nodup) (h1 : ∀ j ∈ seen, j < (lfA ts).length) (h2 : ∀ j, j < (lfA ts).length → j ∈ seen) : sortE (eqS ts seen) = edL ts := by
 refine sortE_eq ?_
 have hp : seen.Perm (List.range (lfA ts).length) := (List.perm_ext_iff_of_nodup hn List.nodup_range).2 fun a => ⟨fun h => List.mem_range.2 (h1 a h), fun h => h2 a (List.mem_range.1 h)⟩
 exact hp.flatMap_right _
theorem lfA_len {ts : List T3} : ∀ k, (lf ts k).length = 3 * k
 | 0 => rfl
 | k + 1 => by
  rw [lf_succ, List.length_append, List.length_append, List.length_append, lfA_len k]
  simp only [List.length_cons, List.length_nil]
  omega
theorem lf_first {ts : List T3} : ∀ k, 0 < k → (lf ts k)[0]? = some (((tr ts 0).1, (tr ts 0).2.1), 0)
 | 0, h => absurd h (by decide)
 | 1, _ => rfl
 | k + 2, _ => by
  rw [lf_succ, List.append_assoc, List.append_assoc, List.getElem?_append_left (by rw [lfA_len]; omega)]
  exact lf_first (k + 1) (by omega)
theorem eqS_pos {l : List Pn} {ts : List T3} {seen : List Nat} (hall : ∀ j, j < ts.length → trK l ts j = 0) (h0 : 0 < ts.length) (h2 : ∀ j, j < (lfA ts).length → j ∈ seen) : eqS ts seen ≠ [] := fun h => by
 have hm := h2 0 (by unfold lfA; rw [lfA_len]; omega)
 unfold eqS at h
 rw [List.flatMap_eq_nil_iff] at h
 have h3 := h 0 hm
 unfold pk at h3
 unfold lfA at h3
 rw [lf_first _ h0] at h3
 simp only at h3
 unfold pkE at h3
 obtain ⟨_, h4, _⟩ := trK_0 (hall 0 h0)
 unfold ordB at h4
 rw [if_pos (.inl (by simp only; omega))] at h3
 cases h3
theorem eqS_le {ts : List T3} {seen : List Nat} : (eqS ts seen).length ≤ seen.length := by
 unfold eqS
 induction seen with
 | nil => exact Nat.le_refl _
 | cons j r ih =>
  rw [List.flatMap_cons, List.length_append, List.length_cons]
  have : (pk ts j).length ≤ 1 := by
   unfold pk
   split
   ·exact Nat.zero_le _
   ·unfold pkE
    split
    ·exact Nat.le_refl _
    ·exact Nat.zero_le _
  omega
end Go.Me
namespace Go.Proofs.YtmohcmghbfhdlaaGreat
open Go Go.RowKit Go.Ab Go.Me Go.Sort
set_option maxRecDepth 100000
set_option maxHeartbeats 4000000
attribute [local irreducible] OQ OW AL AW AF SW
instance : Inhabited Pn := ⟨⟨0, 0⟩⟩
theorem sortE_q {m : Mem} {b n c z : Nat} (es : List Pn) (hn : es.length = n) (h0 : 0 < n) (hl : n ≤ 100000) (hb : m.at b = some ⟨flatP es, true, z⟩) :
  ACalls Tryz.prog 111 [.slice (some ⟨b, 0, none⟩) n c, .func (.func 112) #[] #[]] m (.tuple #[]) (m.set b (some ⟨flatP (sortE es), true, z⟩)) := by
 have e : flatP es = es.flatMap fun p : Pn => [.int .i64 p.x, .int .i64 p.y] := rfl
 have h := ACalls.sortK (g := 112) (capA := #[]) (z := z) (c := c) Tryz.laysK6 2 (by kernel_rfl) (by kernel_rfl) (fun p : Pn => [.int .i64 p.x, .int .i64 p.y]) (fun _ => rfl) (fun x v hv => by
  simp only [List.mem_cons, List.not_mem_nil, or_false] at hv
  rcases hv with rfl | rfl <;> rfl) (fun _ => rfl) (fun x y => ordP x y) (swo_ord fun x : Pn => x) (fun x y h1 h2 => by
  simp only [ltOf, decide_eq_false_iff_not] at h1 h2
  exact ordP_tie h1 h2) (by kernel_rfl) es hn h0 (by omega) hb (CmpQ.of (fun _ _ => rfl) fun x y => byEdges_q x.x x.y y.x y.y _)
 exact h
theorem ro5p (a b c d e : Blk) (h1 : a.own = false) (h2 : b.own = false) (h3 : c.own = false) (h4 : d.own = false) (h5 : e.own = false) : Mem.ro [some a, some b, some c, some d, some e] := fun k blk hk => by
 match k, hk with
 | 0, hk => cases hk; exact h1
 | 1, hk => cases hk; exact h2
 | 2, hk => cases hk; exact h3
 | 3, hk => cases hk; exact h4
 | 4, hk => cases hk; exact h5
theorem at_1 (A B D : Blk) (hA : A.own = false) (hB : B.own = false) (hD : D.own = false) (n c k c2 z : Nat) (ev : Value) (L : List (IE × Int)) (hn : (L.map (·.1)).Nodup) (hL : ∀ p ∈ L, okE p.1) (a b : Int) (hab : okE (a, b)) :
  PCalls Tryz.prog 130 [.pointer (some ⟨2, 0, none⟩), .int .i64 a, .int .i64 b] [some A, some B, some ⟨netC n c k c2 ev, false, z⟩, some (mpR encE (lfV L)), some D] (.int .i64 (lk L (a, b))) := by
 have hk2 := lfV_keys L
 have hL2 : ∀ p ∈ lfV L, okE p.1 := fun p hp => by
  obtain ⟨x, hx, rfl⟩ := List.mem_map.1 hp
  exact hL x hx
 unfold netC
 by_cases he : (a, b) ∈ L.map (·.1)
 ·have hm := lfV_mem he
  refine PCalls.en 19 Tryz.func130 rfl (ro5p _ _ _ _ _ hA hB rfl rfl hD) rfl (fun E => ?_)
  repeat' (first | with_reducible (first | refine Then.n ?_ | refine Then.r ?_) | ((with_reducible refine AL.on ?_); first | ((first | refine AL.mv ?_ | refine AL.as ?_ | refine AL.et ?_ | ((with_reducible refine AL.k_fieldAddr ?_); refine AL.g (OQ.fieldA (ty := 110) (i := 2) (n := 1) (off := 3) (g := false) rfl kr (by decide)) ?_) | ((with_reducible refine AL.k_load ?_); (refine AL.g (OQ.load1 (ty := 108) rfl kr wl) ?_)) | refine AL.g (OQ.nilCheck rfl) ?_ | (refine AL.g (OQ.mlookS (k := (a, b)) KE hab hL2 rfl rfl Tryz.underlying108 rfl (by rw [hk2]; exact hn) hm rfl).1 ?_)); refine AL.nm ?_) | ((refine AL.g (OQ.buildA (ty := 52) (zs := [.int .i64 0, .int .i64 0]) (n := 1) (k := 2) (g := false) kr rfl kr rfl rfl rfl) ?_); refine AL.nm ?_) | refine AL.nil ?_) | ((with_reducible refine AW.on ?_); first | refine AW.seq ?_ | refine AW.ret ?_ | refine AW.region ?_ | (refine AW.conds rfl (fun hc => ?_) (fun hc => ?_) <;> (try replace hc := nc hc) <;> first | (exfalso; contradiction) | skip)) | ((with_reducible refine FinP.on ?_); (refine FinP.ret (.tmp wl .nil) ?_ rfl); (try simp only [pack, List.drop, List.take]); all_goals (rfl)))
 ·have hl := lk_not he
  rw [hl]
  refine PCalls.en 19 Tryz.func130 rfl (ro5p _ _ _ _ _ hA hB rfl rfl hD) rfl (fun E => ?_)
  repeat' (first | with_reducible (refine Then.n ?_) | ((with_reducible refine AL.on ?_); first | ((first | refine AL.mv ?_ | refine AL.as ?_ | refine AL.et ?_ | ((with_reducible refine AL.k_fieldAddr ?_); refine AL.g (OQ.fieldA (ty := 110) (i := 2) (n := 1) (off := 3) (g := false) rfl kr (by decide)) ?_) | ((with_reducible refine AL.k_load ?_); (refine AL.g (OQ.load1 (ty := 108) rfl kr wl) ?_)) | refine AL.g (OQ.nilCheck rfl) ?_ | (refine AL.g (OQ.mlookN (k := (a, b)) (v := .int .i64 0) KE hab hL2 rfl rfl Tryz.underlying108 rfl (by rw [hk2]; exact he) (fun w => by kernel_rfl) rfl).1 ?_)); refine AL.nm ?_) | ((refine AL.g (OQ.buildA (ty := 52) (zs := [.int .i64 0, .int .i64 0]) (n := 1) (k := 2) (g := false) kr rfl kr rfl rfl rfl) ?_); refine AL.nm ?_) | refine AL.nil ?_) | ((with_reducible refine AW.on ?_); first | refine AW.seq ?_ | refine AW.skip ?_ | refine AW.ret ?_ | refine AW.region ?_ | (refine AW.conds rfl (fun hc => ?_) (fun hc => ?_) <;> (try replace hc := nc hc) <;> first | (exfalso; contradiction) | skip)) | ((with_reducible refine FinP.on ?_); (refine FinP.ret (.tmp wl .nil) ?_ rfl); (try simp only [pack, List.drop, List.take]); all_goals (rfl)))
theorem at_e {m : Mem} {bP bT bN bL bE n c k c2 ne : Nat} {A B N D : Blk} {own : Bool} {z : Nat} (l : List Pn) (ts : List T3) (es : List Pn) (L : List (IE × Int)) (hn : (L.map (·.1)).Nodup) (hL : ∀ p ∈ L, okE p.1) (a b : Int) (hab : okE (a, b))
  (hP : m.at bP = some A) (hPc : A.cells = flatP l) (hT : m.at bT = some B) (hTc : B.cells = flatT ts) (hN : m.at bN = some N) (hNc : N.cells = [.slice (some ⟨bP, 0, none⟩) n c, .slice (some ⟨bT, 0, none⟩) k c2, .slice (some ⟨bE, 0, none⟩) ne INF, .map (some bL)])
  (hM : m.at bL = some (mpX L own z)) (hz : z = 0) (hD : m.at bE = some D) (hDc : D.cells = flatP es) (hPo : A.obj = Ob.plain := by rfl) (hTo : B.obj = Ob.plain := by rfl) (hNo : N.obj = Ob.plain := by rfl) (hDo : D.obj = Ob.plain := by rfl) :
  PCalls Tryz.prog 130 [.pointer (some ⟨bN, 0, none⟩), .int .i64 a, .int .i64 b] m (.int .i64 (lk L (a, b))) := by
 subst hz
 exact PCalls.viaS [bP, bT, bN, bL, bE] (at_1 ⟨flatP l, false, A.esz⟩ ⟨flatT ts, false, B.esz⟩ ⟨flatP es, false, D.esz⟩ rfl rfl rfl n c k c2 N.esz (.slice (some ⟨4, 0, none⟩) ne INF) L hn hL a b hab) (ro5p _ _ _ _ _ rfl rfl rfl rfl rfl)
  ⟨bS hP hPo hPc (flatP_scal _), bS hT hTo hTc (flatT_scal _), bI hN hNo hNc, ⟨_, hM, rfl, (fun h => nomatch h), .inl ⟨rfl, rfl⟩⟩, bS hD hDo hDc (flatP_scal _), trivial⟩ rfl rfl rfl rfl
end Go.Proofs.YtmohcmghbfhdlaaGreat
end
end
