/- Chapter 6: what the opening of a net needs, in a greater memory; the plain words on nets. -/
import Derived.Test.YtmohcmghbfhdlaaGreatQd
import Derived.Test.YtmohcmghbfhdlaaGreatQk
import Derived.Shelf.SlSortCmp.NoneTotal
import Derived.Test.YtmohcmghbfhdlaaGreatProg
import Derived.Test.YtmohcmghbfhdlaaGreatQh
import Derived.Test.YtmohcmghbfhdlaaGreatQe
import Derived.Test.YtmohcmghbfhdlaaGreatQg
section
set_option linter.unusedSimpArgs false
set_option linter.unusedVariables false
section
namespace Go.Me
open Go.Ab Go.Proofs.YtmohcmghbfhdlaaGreat
def lf (ts : List T3) : Nat → List (IE × Int)
 | 0 => []
 | k + 1 => lf ts k ++ [(((tr ts k).1, (tr ts k).2.1), (k : Int))] ++ [(((tr ts k).2.1, (tr ts k).2.2), (k : Int))] ++ [(((tr ts k).2.2, (tr ts k).1), (k : Int))]
def us (ts : List T3) : Nat → List Int
 | 0 => []
 | k + 1 => insL (insL (insL (us ts k) (tr ts k).1) (tr ts k).2.1) (tr ts k).2.2
def arT (l : List Pn) (ts : List T3) : Nat → Int
 | 0 => 0
 | k + 1 => arT l ts k + arS l [(tr ts k).1.toNat, (tr ts k).2.1.toNat, (tr ts k).2.2.toNat] 3
theorem us_nodup (ts : List T3) : ∀ k, (us ts k).Nodup
 | 0 => List.nodup_nil
 | k + 1 => insL_nodup (insL_nodup (insL_nodup (us_nodup ts k)))
def trK (l : List Pn) (ts : List T3) (k : Nat) : Int := trE l ts (lf ts k) k
theorem trK_0 {l : List Pn} {ts : List T3} {k : Nat} (h : trK l ts k = 0) : inR l.length (tr ts k) ∧ ¬ ordB ts k ∧ trS l (tr ts k) = 1 ∧ lk (lf ts k) ((tr ts k).1, (tr ts k).2.1) = -1 ∧ lk (lf ts k) ((tr ts k).2.1, (tr ts k).2.2) = -1 ∧ lk (lf ts k) ((tr ts k).2.2, (tr ts k).1) = -1 := by
 unfold trK trE at h
 by_cases h1 : inR l.length (tr ts k)
 ·rw [if_pos h1] at h
  by_cases h2 : ordB ts k
  ·rw [if_pos h2] at h; cases h
  ·rw [if_neg h2] at h
   by_cases h3 : trS l (tr ts k) ≠ 1
   ·rw [if_pos h3] at h; cases h
   ·rw [if_neg h3] at h
    by_cases h4 : lk (lf ts k) ((tr ts k).1, (tr ts k).2.1) ≠ -1 ∨ lk (lf ts k) ((tr ts k).2.1, (tr ts k).2.2) ≠ -1 ∨ lk (lf ts k) ((tr ts k).2.2, (tr ts k).1) ≠ -1
    ·rw [if_pos h4] at h; cases h
    ·exact ⟨h1, h2, by omega, by omega, by omega, by omega⟩
 ·rw [if_neg h1] at h; cases h
structure LfOk (n : Nat) (L : List (IE × Int)) : Prop where
 nd : (L.map (·.1)).Nodup
 rng : ∀ p ∈ L, (0 ≤ p.1.1 ∧ p.1.1 < n) ∧ (0 ≤ p.1.2 ∧ p.1.2 < n) ∧ 0 ≤ p.2
theorem lk_notin {L : List (IE × Int)} {e : IE} (h0 : ∀ p ∈ L, 0 ≤ p.2) (h : lk L e = -1) : e ∉ L.map (·.1) := fun hm => by
 have := h0 _ (lk_mem hm)
 simp only at this
 omega
theorem lf_step {l : List Pn} {ts : List T3} {k : Nat} (h : LfOk l.length (lf ts k)) (he : trK l ts k = 0) :
  (((tr ts k).1, (tr ts k).2.1) ∉ (lf ts k).map (·.1)) ∧ (((tr ts k).2.1, (tr ts k).2.2) ∉ (lf ts k ++ [(((tr ts k).1, (tr ts k).2.1), (k : Int))]).map (·.1)) ∧
  (((tr ts k).2.2, (tr ts k).1) ∉ (lf ts k ++ [(((tr ts k).1, (tr ts k).2.1), (k : Int))] ++ [(((tr ts k).2.1, (tr ts k).2.2), (k : Int))]).map (·.1)) ∧ LfOk l.length (lf ts (k + 1)) := by
 obtain ⟨h1, h2, h3, h4, h5, h6⟩ := trK_0 he
 have hn0 : ∀ p ∈ lf ts k, 0 ≤ p.2 := fun p hp => (h.rng p hp).2.2
 have n1 := lk_notin hn0 h4
 have n2 := lk_notin hn0 h5
 have n3 := lk_notin hn0 h6
 unfold inR at h1
 unfold ordB at h2
 generalize hT : tr ts k = t at *
 obtain ⟨a, b, c⟩ := t
 simp only at h1 h2 n1 n2 n3 ⊢
 have hab : a < b := by omega
 have hac : a < c := by omega
 have hbc : b ≠ c := fun e => by
  subst e
  unfold trS at h3
  simp only at h3
  rw [show cr (pt l a.toNat) (pt l b.toNat) (pt l b.toNat) = 0 from cr_self _ _] at h3
  cases h3
 have q2 : (b, c) ∉ (lf ts k ++ [((a, b), (k : Int))]).map (·.1) := by
  rw [List.map_append, List.mem_append, not_or]
  refine ⟨n2, ?_⟩
  simp only [List.map_cons, List.map_nil, List.mem_singleton, Prod.mk.injEq]
  omega
 have q3 : (c, a) ∉ (lf ts k ++ [((a, b), (k : Int))] ++ [((b, c), (k : Int))]).map (·.1) := by
  rw [List.map_append, List.map_append, List.mem_append, List.mem_append, not_or, not_or]
  refine ⟨⟨n3, ?_⟩, ?_⟩ <;> simp only [List.map_cons, List.map_nil, List.mem_singleton, Prod.mk.injEq] <;> omega
 refine ⟨n1, q2, q3, ?_, ?_⟩
 ·unfold lf
  rw [hT, List.map_append, List.nodup_append]
  refine ⟨?_, by simp, fun x hx y hy e => ?_⟩
  ·rw [List.map_append, List.nodup_append]
   refine ⟨?_, by simp, fun x hx y hy e => ?_⟩
   ·rw [List.map_append, List.nodup_append]
    refine ⟨h.nd, by simp, fun x hx y hy e => ?_⟩
    simp only [List.map_cons, List.map_nil, List.mem_singleton] at hy
    subst hy; subst e
    exact n1 hx
   ·simp only [List.map_cons, List.map_nil, List.mem_singleton] at hy
    subst hy; subst e
    exact q2 hx
  ·simp only [List.map_cons, List.map_nil, List.mem_singleton] at hy
   subst hy; subst e
   exact q3 hx
 ·unfold lf
  rw [hT]
  intro p hp
  simp only [List.mem_append, List.mem_singleton] at hp
  rcases hp with ((hp | rfl) | rfl) | rfl
  ·exact h.rng p hp
  all_goals simp only; omega
theorem lf_ok {l : List Pn} {ts : List T3} : ∀ k, (∀ j, j < k → trK l ts j = 0) → LfOk l.length (lf ts k)
 | 0, _ => ⟨List.nodup_nil, fun p hp => by simp [lf] at hp⟩
 | k + 1, h => (lf_step (lf_ok k fun j hj => h j (by omega)) (h k (by omega))).2.2.2
theorem lfV_app (A B : List (IE × Int)) : lfV (A ++ B) = lfV A ++ lfV B := List.map_append
theorem LfOk.okE {n : Nat} {L : List (IE × Int)} (h : LfOk n L) (hn : n ≤ 1000) : ∀ p ∈ L, okE p.1 := fun p hp => by
 have := h.rng p hp
 unfold Go.Proofs.YtmohcmghbfhdlaaGreat.okE
 omega
theorem arS_3 (l : List Pn) (a b c : Nat) : arS l [a, b, c] 3 = cr (pt l a) (pt l b) (pt l c) := by
 simp [arS, ot]
 unfold cr
 grind
end Go.Me
namespace Go.Proofs.YtmohcmghbfhdlaaGreat
open Go Go.RowKit Go.Ab Go.Me
set_option maxRecDepth 100000
set_option maxHeartbeats 4000000
attribute [local irreducible] OQ OW AL AW AF SW
theorem area_q {m : Mem} {b d n k c c2 : Nat} {blk blk2 : Blk} (l : List Pn) (o : List Nat) (hok : ∀ k, k < l.length → (pt l k).Ok) (ho : ∀ k, k < o.length → ot o k < l.length) (hl : o.length ≤ 1000) (hb : m.at b = some blk) (hc : blk.cells = flatP l) (hn : l.length = n) (hd : m.at d = some blk2) (hc2 : blk2.cells = flatO o) (hk : o.length = k) (o1 : blk.obj = Ob.plain := by rfl) (o2 : blk2.obj = Ob.plain := by rfl) :
  PCalls Tryz.prog 129 [.slice (some ⟨b, 0, none⟩) n c, .slice (some ⟨d, 0, none⟩) k c2] m (.int .i64 (arS l o k)) := by
 subst hn hk
 exact PCalls.viaS [b, d] (area_0 l o hok ho c c2 blk.esz blk2.esz hl) (ro2p _ _ rfl rfl) ⟨bS hb o1 hc (flatP_scal _), bS hd o2 hc2 (flatO_scal _), trivial⟩ rfl rfl rfl rfl
theorem triangleErr_q {m : Mem} {bP bT bN bL i c c2 : Nat} {A B N : Blk} {own : Bool} (l : List Pn) (ts : List T3) (L : List (IE × Int)) (hok : ∀ k, k < l.length → (pt l k).Ok) (hl : l.length ≤ 1000) (hts : ts.length ≤ 1000) (hn : (L.map (·.1)).Nodup) (hL : ∀ p ∈ L, okE p.1) (hi : i < ts.length)
  (hP : m.at bP = some A) (hPc : A.cells = flatP l) (hT : m.at bT = some B) (hTc : B.cells = flatT ts) (hN : m.at bN = some N) (hNc : N.cells = [.slice (some ⟨bP, 0, none⟩) l.length c, .slice (some ⟨bT, 0, none⟩) ts.length c2, .slice none 0 0, .map (some bL)])
  (hM : m.at bL = some (mpX L own 0)) (hPo : A.obj = Ob.plain := by rfl) (hTo : B.obj = Ob.plain := by rfl) (hNo : N.obj = Ob.plain := by rfl) :
  PCalls Tryz.prog 127 [.pointer (some ⟨bN, 0, none⟩), .int .i64 i] m (.int .i64 (trE l ts L i)) :=
 PCalls.viaS [bP, bT, bN, bL] (triangleErr_0 l ts L hok hl hts hn hL i c c2 A.esz B.esz N.esz hi) (ro4p _ _ _ _ rfl rfl rfl rfl)
  ⟨bS hP hPo hPc (flatP_scal _), bS hT hTo hTc (flatT_scal _), bI hN hNo hNc, ⟨_, hM, rfl, (fun h => nomatch h), .inl ⟨rfl, rfl⟩⟩, trivial⟩ rfl rfl rfl rfl
theorem ContainsF_q {m : Mem} {bP bT bX bE n k c c2 c3 : Nat} {A B X D : Blk} (l : List Pn) (ts : List T3) (hok : ∀ k, k < l.length → (pt l k).Ok) (hl : l.length ≤ 1000) (a b : Int) (ha : 0 ≤ a ∧ a < l.length) (hb : 0 ≤ b ∧ b < l.length) (hn : l.length = n) (hk : ts.length = k)
  (hP : m.at bP = some A) (hPc : A.cells = flatP l) (hT : m.at bT = some B) (hTc : B.cells = flatT ts) (hX : m.at bX = some X) (hXc : X.cells = [.slice (some ⟨bP, 0, none⟩) n c, .slice (some ⟨bT, 0, none⟩) k c2])
  (hD : m.at bE = some D) (hDc : D.cells = [.int .i64 a, .int .i64 b]) (hPo : A.obj = Ob.plain := by rfl) (hTo : B.obj = Ob.plain := by rfl) (hXo : X.obj = Ob.plain := by rfl) (hDo : D.obj = Ob.plain := by rfl) :
  PCalls Tryz.prog 131 [.slice (some ⟨bP, 0, none⟩) n c3, .func (.func 132) #[] #[.pointer (some ⟨bX, 0, none⟩), .pointer (some ⟨bE, 0, none⟩)]] m (.bool (!bdB l a.toNat b.toNat)) := by
 subst hn hk
 obtain ⟨a', rfl⟩ : ∃ a' : Nat, a = a' := ⟨a.toNat, by omega⟩
 obtain ⟨b', rfl⟩ : ∃ b' : Nat, b = b' := ⟨b.toNat, by omega⟩
 exact PCalls.viaS [bP, bT, bX, bE] (ContainsF_0 l ts hok a' b' (by omega) (by omega) c c2 c3 A.esz B.esz X.esz D.esz (by omega)) (ro4p _ _ _ _ rfl rfl rfl rfl)
  ⟨bS hP hPo hPc (flatP_scal _), bS hT hTo hTc (flatT_scal _), bI hX hXo hXc, ⟨_, hD, by unfold Blk.shp Blk.shpR; rw [hDo]; rfl, (fun h => nomatch h), .inl ⟨hDc, rfl⟩⟩, trivial⟩ rfl rfl rfl rfl
end Go.Proofs.YtmohcmghbfhdlaaGreat
end
end
/- The library's sorts at this program (laid by the kit's own command, in plain words). -/
section
set_option linter.unusedSimpArgs false
set_option linter.unusedVariables false
namespace Go.Proofs
open Go.Shelf
def Tryz.laysF6_ren : Go.Shelf.Ren := ⟨fun | 6 => 152 | 15 => 145 | 14 => 174 | 28 => 171 | 29 => 172 | 20 => 181 | 21 => 182 | 22 => 183 | 23 => 184 | 24 => 185 | 25 => 186 | 26 => 187 | 27 => 188 | 46 => 198 | 47 => 177 | 48 => 178 | 49 => 199 | 50 => 200 | 57 => 204 | n => n, fun | 22 => 26 | 24 => 3 | 25 => 38 | 3 => 3 | 39 => 187 | 0 => 0 | 53 => 205 | 55 => 179 | 4 => 4 | 46 => 199 | 45 => 198 | 50 => 126 | 5 => 5 | 9 => 9 | 66 => 209 | 70 => 213 | 76 => 225 | 77 => 48 | n => n, fun | n => n⟩
theorem Tryz.laysF6 : Go.Proofs.SlLaysF.n6 Tryz.prog Tryz.laysF6_ren := {
 mixed := by kernel_rfl
 f6 := ⟨Tryz.f152.name, by decide, Tryz.func152.trans (congrArg some (by kernel_rfl))⟩
 f14 := ⟨Tryz.f174.name, by decide, Tryz.func174.trans (congrArg some (by kernel_rfl))⟩
 f15 := Tryz.func145.trans (congrArg some (by kernel_rfl))
 f20 := ⟨Tryz.f181.name, by decide, Tryz.func181.trans (congrArg some (by kernel_rfl))⟩
 f21 := ⟨Tryz.f182.name, by decide, Tryz.func182.trans (congrArg some (by kernel_rfl))⟩
 f22 := ⟨Tryz.f183.name, by decide, Tryz.func183.trans (congrArg some (by kernel_rfl))⟩
 f23 := ⟨Tryz.f184.name, by decide, Tryz.func184.trans (congrArg some (by kernel_rfl))⟩
 f24 := ⟨Tryz.f185.name, by decide, Tryz.func185.trans (congrArg some (by kernel_rfl))⟩
 f25 := ⟨Tryz.f186.name, by decide, Tryz.func186.trans (congrArg some (by kernel_rfl))⟩
 f26 := ⟨Tryz.f187.name, by decide, Tryz.func187.trans (congrArg some (by kernel_rfl))⟩
 f27 := ⟨Tryz.f188.name, by decide, Tryz.func188.trans (congrArg some (by kernel_rfl))⟩
 f28 := Tryz.func171.trans (congrArg some (by kernel_rfl))
 f29 := Tryz.func172.trans (congrArg some (by kernel_rfl))
 f46 := ⟨Tryz.f198.name, by decide, Tryz.func198.trans (congrArg some (by kernel_rfl))⟩
 f47 := Tryz.func177.trans (congrArg some (by kernel_rfl))
 f48 := Tryz.func178.trans (congrArg some (by kernel_rfl))
 f49 := ⟨Tryz.f199.name, by decide, Tryz.func199.trans (congrArg some (by kernel_rfl))⟩
 f50 := ⟨Tryz.f200.name, by decide, Tryz.func200.trans (congrArg some (by kernel_rfl))⟩
 f57 := ⟨Tryz.f204.name, by decide, Tryz.func204.trans (congrArg some (by kernel_rfl))⟩
 t0 := Tryz.underlying0
 a0 := Tryz.isAgg0
 z0 := Tryz.sizeOf0
 v0 := Tryz.zeroValue0
 t3 := Tryz.underlying3
 a3 := Tryz.isAgg3
 z3 := Tryz.sizeOf3
 v3 := Tryz.zeroValue3
 t4 := Tryz.underlying4
 a4 := Tryz.isAgg4
 z4 := Tryz.sizeOf4
 v4 := Tryz.zeroValue4
 t5 := Tryz.underlying5
 a5 := Tryz.isAgg5
 z5 := Tryz.sizeOf5
 v5 := Tryz.zeroValue5
 t9 := Tryz.underlying9
 a9 := Tryz.isAgg9
 z9 := Tryz.sizeOf9
 v9 := Tryz.zeroValue9
 t22 := Tryz.underlying26
 a22 := Tryz.isAgg26
 z22 := Tryz.sizeOf26
 v22 := Tryz.zeroValue26
 a24 := Tryz.isAgg3
 z24 := Tryz.sizeOf3
 t25 := Tryz.underlying38
 a25 := Tryz.isAgg38
 z25 := Tryz.sizeOf38
 v25 := Tryz.zeroValue38
 t39 := Tryz.underlying187
 a39 := Tryz.isAgg187
 z39 := Tryz.sizeOf187
 v39 := Tryz.zeroValue187
 t45 := Tryz.underlying198
 a45 := Tryz.isAgg198
 z45 := Tryz.sizeOf198
 v45 := Tryz.zeroValue198
 t46 := Tryz.underlying199
 a46 := Tryz.isAgg199
 z46 := Tryz.sizeOf199
 v46 := Tryz.zeroValue199
 t50 := Tryz.underlying126
 a50 := Tryz.isAgg126
 z50 := Tryz.sizeOf126
 v50 := Tryz.zeroValue126
 t53 := Tryz.underlying205
 a53 := Tryz.isAgg205
 z53 := Tryz.sizeOf205
 v53 := Tryz.zeroValue205
 t55 := Tryz.underlying179
 a55 := Tryz.isAgg179
 z55 := Tryz.sizeOf179
 v55 := Tryz.zeroValue179
 t66 := Tryz.underlying209
 a66 := Tryz.isAgg209
 z66 := Tryz.sizeOf209
 v66 := Tryz.zeroValue209
 t70 := Tryz.underlying213
 a70 := Tryz.isAgg213
 z70 := Tryz.sizeOf213
 v70 := Tryz.zeroValue213
 t76 := Tryz.underlying225
 a76 := Tryz.isAgg225
 z76 := Tryz.sizeOf225
 v76 := Tryz.zeroValue225
 t77 := Tryz.underlying48
 a77 := Tryz.isAgg48
 z77 := Tryz.sizeOf48
 v77 := Tryz.zeroValue48 }
def Tryz.laysK6_ren : Go.Shelf.Ren := ⟨fun | 6 => 111 | 15 => 145 | 14 => 144 | 28 => 171 | 29 => 172 | 20 => 163 | 21 => 164 | 22 => 165 | 23 => 166 | 24 => 167 | 25 => 168 | 26 => 169 | 27 => 170 | 46 => 176 | 47 => 177 | 48 => 178 | 49 => 179 | 50 => 180 | 57 => 197 | n => n, fun | 22 => 45 | 24 => 52 | 25 => 160 | 3 => 3 | 39 => 187 | 0 => 0 | 53 => 205 | 55 => 179 | 4 => 4 | 46 => 199 | 45 => 198 | 50 => 126 | 5 => 5 | 9 => 9 | 66 => 209 | 70 => 213 | 76 => 225 | 77 => 48 | n => n, fun | n => n⟩
theorem Tryz.laysK6 : Go.Proofs.SlLaysF0.n6 Tryz.prog Tryz.laysK6_ren := {
 mixed := by kernel_rfl
 f6 := ⟨Tryz.f111.name, by decide, Tryz.func111.trans (congrArg some (by kernel_rfl))⟩
 f14 := ⟨Tryz.f144.name, by decide, Tryz.func144.trans (congrArg some (by kernel_rfl))⟩
 f15 := Tryz.func145.trans (congrArg some (by kernel_rfl))
 f20 := ⟨Tryz.f163.name, by decide, Tryz.func163.trans (congrArg some (by kernel_rfl))⟩
 f21 := ⟨Tryz.f164.name, by decide, Tryz.func164.trans (congrArg some (by kernel_rfl))⟩
 f22 := ⟨Tryz.f165.name, by decide, Tryz.func165.trans (congrArg some (by kernel_rfl))⟩
 f23 := ⟨Tryz.f166.name, by decide, Tryz.func166.trans (congrArg some (by kernel_rfl))⟩
 f24 := ⟨Tryz.f167.name, by decide, Tryz.func167.trans (congrArg some (by kernel_rfl))⟩
 f25 := ⟨Tryz.f168.name, by decide, Tryz.func168.trans (congrArg some (by kernel_rfl))⟩
 f26 := ⟨Tryz.f169.name, by decide, Tryz.func169.trans (congrArg some (by kernel_rfl))⟩
 f27 := ⟨Tryz.f170.name, by decide, Tryz.func170.trans (congrArg some (by kernel_rfl))⟩
 f28 := Tryz.func171.trans (congrArg some (by kernel_rfl))
 f29 := Tryz.func172.trans (congrArg some (by kernel_rfl))
 f46 := ⟨Tryz.f176.name, by decide, Tryz.func176.trans (congrArg some (by kernel_rfl))⟩
 f47 := Tryz.func177.trans (congrArg some (by kernel_rfl))
 f48 := Tryz.func178.trans (congrArg some (by kernel_rfl))
 f49 := ⟨Tryz.f179.name, by decide, Tryz.func179.trans (congrArg some (by kernel_rfl))⟩
 f50 := ⟨Tryz.f180.name, by decide, Tryz.func180.trans (congrArg some (by kernel_rfl))⟩
 f57 := ⟨Tryz.f197.name, by decide, Tryz.func197.trans (congrArg some (by kernel_rfl))⟩
 t0 := Tryz.underlying0
 a0 := Tryz.isAgg0
 z0 := Tryz.sizeOf0
 v0 := Tryz.zeroValue0
 t3 := Tryz.underlying3
 a3 := Tryz.isAgg3
 z3 := Tryz.sizeOf3
 v3 := Tryz.zeroValue3
 t4 := Tryz.underlying4
 a4 := Tryz.isAgg4
 z4 := Tryz.sizeOf4
 v4 := Tryz.zeroValue4
 t5 := Tryz.underlying5
 a5 := Tryz.isAgg5
 z5 := Tryz.sizeOf5
 v5 := Tryz.zeroValue5
 t9 := Tryz.underlying9
 a9 := Tryz.isAgg9
 z9 := Tryz.sizeOf9
 v9 := Tryz.zeroValue9
 t22 := Tryz.underlying45
 a22 := Tryz.isAgg45
 z22 := Tryz.sizeOf45
 v22 := Tryz.zeroValue45
 t25 := Tryz.underlying160
 a25 := Tryz.isAgg160
 z25 := Tryz.sizeOf160
 v25 := Tryz.zeroValue160
 t39 := Tryz.underlying187
 a39 := Tryz.isAgg187
 z39 := Tryz.sizeOf187
 v39 := Tryz.zeroValue187
 t45 := Tryz.underlying198
 a45 := Tryz.isAgg198
 z45 := Tryz.sizeOf198
 v45 := Tryz.zeroValue198
 t46 := Tryz.underlying199
 a46 := Tryz.isAgg199
 z46 := Tryz.sizeOf199
 v46 := Tryz.zeroValue199
 t50 := Tryz.underlying126
 a50 := Tryz.isAgg126
 z50 := Tryz.sizeOf126
 v50 := Tryz.zeroValue126
 t53 := Tryz.underlying205
 a53 := Tryz.isAgg205
 z53 := Tryz.sizeOf205
 v53 := Tryz.zeroValue205
 t55 := Tryz.underlying179
 a55 := Tryz.isAgg179
 z55 := Tryz.sizeOf179
 v55 := Tryz.zeroValue179
 t66 := Tryz.underlying209
 a66 := Tryz.isAgg209
 z66 := Tryz.sizeOf209
 v66 := Tryz.zeroValue209
 t70 := Tryz.underlying213
 a70 := Tryz.isAgg213
 z70 := Tryz.sizeOf213
 v70 := Tryz.zeroValue213
 t76 := Tryz.underlying225
 a76 := Tryz.isAgg225
 z76 := Tryz.sizeOf225
 v76 := Tryz.zeroValue225
 t77 := Tryz.underlying48
 a77 := Tryz.isAgg48
 z77 := Tryz.sizeOf48
 v77 := Tryz.zeroValue48 }
end Go.Proofs
end
/- The small memory: slices.SortFunc. -/
section
set_option linter.unusedSimpArgs false
set_option linter.unusedVariables false
namespace Go
open Go.RowKit
namespace Ab
open Go.Sort Go.Proofs Go.Shelf
theorem MRel.but {ρ : Ren} {m : Mem} {w W : World} {b : Nat} {blk : Blk} {pl : Pl} (hm : MRel ρ m w) (hb : m.at b = some blk) (ho : blk.own = true) (hp : ρ b = some pl) (hW : ∀ k, k < w.heap.size → k ≠ pl.blk → W.heap[k]? = w.heap[k]?) : MRel ρ (m.set b none) W := by
 intro k bk hk
 rw [Mem.at_setnone] at hk
 split at hk
 ·cases hk
 ·rename_i hkb
  obtain ⟨pl', hp', hbr, hown⟩ := hm k bk hk
  obtain ⟨pl0, hp0, _, hown0⟩ := hm b blk hb
  cases Option.some.inj (hp0.symm.trans hp)
  refine ⟨pl', hp', hbr.ext (.refl _) (hW _ hbr.lt (hown0 ho k bk pl' hkb hk hp')), fun ho' b' blk' pl'' hne' hb' hp'' => ?_⟩
  rw [Mem.at_setnone] at hb'
  split at hb'
  ·cases hb'
  ·exact hown ho' b' blk' pl'' hne' hb' hp''
section
variable {α : Type} [Inhabited α] {E : Env} {ρ : Ren} {m : Mem} {w : World} {b : Nat} {z : Nat} {pl : Pl} {cs : List Value}
theorem heap_putRow_other (enc : α → Value) (w : World) (x off : Nat) (d : Array α) {k : Nat} (h : k ≠ x) : (putRow enc w x off d).heap[k]? = w.heap[k]? := by
 unfold putRow mapBlock
 simp only [Array.getElem?_modify]
 rw [if_neg (Ne.symm h)]
theorem heap_sortWorld_other (enc : α → Value) (w : World) (x off n : Nat) (d : Array α) (os : Array Obj) {k : Nat} (h : k ≠ x) (hk : k < w.heap.size) : (sortWorld enc w x off n d os).heap[k]? = w.heap[k]? := by
 unfold sortWorld
 rw [heap_grow_old _ _ (by unfold putRow mapBlock; simpa using hk), heap_putRow_other enc _ x off d h]
 rfl
theorem St.sorted (enc : α → Value) (h : St E ρ m w) (hb : m.at b = some ⟨cs, true, z⟩) (hp : ρ b = some pl) (d : Array α) (hsc : ∀ x ∈ d.toList, Ab.scal (enc x) = true) (hlen : d.size = cs.length) (n : Nat) (os : Array Obj) :
  St E ρ (m.set b (some ⟨d.toList.map enc, true, z⟩)) (sortWorld enc w pl.blk 0 n d os) := by
 obtain ⟨pl', hp', ⟨x, c, ty, fr, hc, hx, e1, e2, e3⟩, _⟩ := h.mem b _ hb
 cases Option.some.inj (hp'.symm.trans hp)
 obtain ⟨g0, g1, g2⟩ := e3 rfl
 have hx' : x = .cells c ty fr := hx
 subst hx'
 have hcs : ∀ i, i < cs.length → i < c.size := fun i hi => by
  obtain ⟨v', q, _⟩ := e2 i cs[i] (List.getElem?_eq_getElem hi)
  rw [g0] at q
  exact (Array.getElem?_eq_some_iff.1 q).1
 have h1 : St E ρ (m.set b (some ⟨d.toList.map enc, true, z⟩)) (putRow enc w pl.blk 0 d) := by
  refine h.store (w' := putRow enc w pl.blk 0 d) (cs' := d.toList.map enc) (c' := putCells enc 0 d c) hb rfl hp hc ?_ (by unfold putCells; simp) (fun i v hv => ?_) (fun k hk => heap_putRow_other enc w _ 0 d hk) (by unfold putRow mapBlock; simp) rfl rfl ⟨rfl, Nat.le_refl _⟩
  ·unfold putRow mapBlock
   simp only [Array.getElem?_modify, if_true, hc]
   rfl
  ·rw [List.getElem?_map] at hv
   cases hi : d.toList[i]? with
   | none => rw [hi] at hv; cases hv
   | some y =>
    rw [hi] at hv
    cases Option.some.inj hv
    have hid : i < d.size := by simpa using (List.getElem?_eq_some_iff.1 hi).1
    have hic := hcs i (by omega)
    refine ⟨enc y, ?_, .scal (hsc y (List.mem_of_getElem? hi))⟩
    rw [g0]
    unfold putCells
    rw [Array.getElem?_mapIdx, Nat.add_zero, Array.getElem?_eq_getElem hic]
    simp only [Option.map_some, Nat.zero_le, true_and, Nat.zero_add, Nat.sub_zero, Nat.add_zero]
    rw [if_pos (by omega), getElem!_pos d i hid]
    rw [Array.getElem?_toList, Array.getElem?_eq_getElem hid] at hi
    rw [Option.some.inj hi]
 refine h1.below ⟨rfl, rfl, ⟨rfl, Nat.le_add_right _ _⟩, ?_, fun k hk => ?_⟩
 ·unfold sortWorld
  rw [size_grow]
  exact Nat.le_add_right _ _
 ·exact heap_grow_old (putRow enc (Sort.ahead w n) pl.blk 0 d) os hk
end
def CmpQ (P : Program) (g : FuncId) (capA : Array Value) (m : Mem) {α : Type} (args : α → α → Array Value) (cf : α → α → Int) : Prop :=
 ∀ (ρ : Ren) (cb : Array Value) (W : World), (∀ b pl, ρ b = some pl → b < m.length) → VRel ρ (.tuple capA) (.tuple cb) → MRel ρ m W → ∀ x y : α,
  Calls P g (args x y ++ cb) W fun e w' => e = .returned (.int .i64 (cf x y)) ∧ ∃ q os', w' = grow (W.drewN q) os'
theorem Grw.grow {W w' : World} (h : Grw W.heap.size W w') : ∃ q os', w' = grow (W.drewN q) os' := by
 refine ⟨w'.drawn - W.drawn, w'.heap.extract W.heap.size w'.heap.size, ?_⟩
 have h1 := h.os
 have h2 := h.tape
 have h3 := h.output.1
 have h4 : w'.drawn = W.drawn + (w'.drawn - W.drawn) := by have := h.output.2; omega
 have h5 : w'.heap = W.heap ++ w'.heap.extract W.heap.size w'.heap.size := by
  apply Array.ext_getElem?
  intro k
  rw [Array.getElem?_append]
  split
  ·exact h.block k (by assumption)
  ·rename_i hk
   rw [Array.getElem?_extract]
   by_cases hk2 : k < w'.heap.size
   ·rw [if_pos (by omega), show W.heap.size + (k - W.heap.size) = k by omega]
   ·rw [if_neg (by omega), Array.getElem?_eq_none (by omega)]
 obtain ⟨hp, tp, dr, os, out⟩ := w'
 simp only at h1 h2 h3 h4 h5
 unfold Sort.grow World.drewN
 rw [h1, h2, h3, ← h4, ← h5]
theorem CmpQ.of {P : Program} {g : FuncId} {capA : Array Value} {m : Mem} {α : Type} {args : α → α → Array Value} {cf : α → α → Int} (hf : ∀ x y, (args x y).toList.all flat = true)
  (h : ∀ x y, PCalls P g ((args x y).toList ++ capA.toList) m (.int .i64 (cf x y))) : CmpQ P g capA m args cf := by
 intro ρ cb W hdom hcap hm x y
 refine (h x y ρ (args x y ++ cb) W hdom ?_ hm).mono ?_
 ·have e : ((args x y).toList ++ capA.toList).toArray = args x y ++ capA := by simp
  rw [e]
  refine VRel.tuple_append (.tuple rfl fun i h1 h2 => .flat (List.all_eq_true.1 (hf x y) _ (by simp))) hcap
 ·rintro e w' ⟨v', rfl, hv, hb⟩
  cases hv.int
  exact ⟨rfl, Grw.grow hb⟩
theorem enters_calls {P : Program} {f : FuncId} (h : enters P f = true) : ∀ args w, (callFunc f args).run P w = .ok (.enter f args) w := fun _ _ => run_callFunc h
theorem sort_args {E : Env} {ρ : Ren} {m : Mem} {w : World} {b n c z : Nat} {cs : List Value} {g : FuncId} {capA : Array Value} {args' : Array Value}
  (ha : VRel ρ (.tuple [Value.slice (some ⟨b, 0, none⟩) n c, .func (.func g) #[] capA].toArray) (.tuple args')) (hst : St E ρ m w) (hb : m.at b = some ⟨cs, true, z⟩) (hn : 0 < n) :
  ∃ (pl : Pl) (c' : Nat) (cb : Array Value) (ty : TypeId) (cc : Array Value), ρ b = some pl ∧ args' = #[.slice (some ⟨pl.blk, 0, none⟩) n c', .func (.func g) #[] cb] ∧ VRel ρ (.tuple capA) (.tuple cb) ∧ w.heap[pl.blk]? = some (.cells cc ty (0, 0)) ∧ ∀ (i : Nat) (v : Value), cs[i]? = some v → ∃ v', cc[i]? = some v' ∧ VRel ρ v v' := by
 obtain ⟨xs', e, h1, h2⟩ := ha.tuple_inv
 cases e
 have hsz : args'.size = 2 := by simpa using h1.symm
 obtain ⟨u0, q0, r0⟩ := h2 0 _ rfl
 obtain ⟨u1, q1, r1⟩ := h2 1 _ rfl
 obtain ⟨f', cb, rfl, s1, s2⟩ := r1.func_inv
 rcases r0.slice_inv with ⟨pl, c', hp, _, _, _, rfl⟩ | ⟨h, _⟩
 ·obtain ⟨pl', hp', ⟨x, cc, ty, fr, hc, hx, _, e2, e3⟩, _⟩ := hst.mem b _ hb
  cases Option.some.inj (hp'.symm.trans hp)
  obtain ⟨g0, _, g2⟩ := e3 rfl
  have hx' : x = .cells cc ty fr := hx
  subst hx'
  subst g2
  have hf : f' = #[] := by
   obtain ⟨ys, e, h3, _⟩ := s1.tuple_inv
   cases e
   exact Array.eq_empty_of_size_eq_zero (by simpa using h3.symm)
  subst hf
  refine ⟨pl, c', cb, ty, cc, hp, ?_, s2, hc, fun i v hv => ?_⟩
  ·rw [g0] at q0
   refine Array.ext (by simpa using hsz) fun i hi hi' => ?_
   have hi2 : i < 2 := by rw [← hsz]; exact hi
   match i, hi2 with
   | 0, _ => rw [Array.getElem?_eq_getElem hi] at q0; exact Option.some.inj q0
   | 1, _ => rw [Array.getElem?_eq_getElem hi] at q1; exact Option.some.inj q1
  ·obtain ⟨v', k1, k2⟩ := e2 i v hv
   rw [g0] at k1
   exact ⟨v', k1, k2⟩
 ·omega
theorem holds_of {α : Type} [Inhabited α] (enc : α → Value) (hsc : ∀ x, Ab.scal (enc x) = true) {ρ : Ren} {w : World} {x : Nat} {ty : TypeId} {cc : Array Value} (d : Array α) (hc : w.heap[x]? = some (.cells cc ty (0, 0)))
  (h : ∀ (i : Nat) (v : Value), (d.toList.map enc)[i]? = some v → ∃ v', cc[i]? = some v' ∧ VRel ρ v v') : Holds enc w x 0 d := fun j hj => by
 obtain ⟨v', q1, q2⟩ := h j (enc d[j]) (by simp [hj])
 refine ⟨?_, ?_⟩
 ·unfold World.cell?
  rw [hc]
  show cc[0 + j]? = _
  rw [Nat.zero_add, q1, q2.of_scal (hsc _), getElem!_pos d j hj]
 ·unfold World.frozen?
  rw [hc]
  simp
theorem ACalls.sort1 {P : Program} {σ : Go.Shelf.Ren} {α : Type} [Inhabited α] (L : SlLaysF.n6 P σ) (enc : α → Value) (h1 : OneCell enc) (hsc : ∀ x, Ab.scal (enc x) = true) (cf : α → α → Int) (hO : SWO (ltOf cf)) (hT : ∀ x y, (ltOf cf) x y = false → (ltOf cf) y x = false → x = y) {g : FuncId} (hg : enters P g = true)
  {capA : Array Value} {m : Mem} {b n c z : Nat} (xs : List α) (hn : xs.length = n) (h0 : 0 < n) (hsz : n < 4611686018427387904) (hb : m.at b = some ⟨xs.map enc, true, z⟩) (hcmp : CmpQ P g capA (m.set b none) (fun x y : α => #[enc x, enc y]) cf) :
  ACalls P (σ.f 6) [.slice (some ⟨b, 0, none⟩) n c, .func (.func g) #[] capA] m (.tuple #[]) (m.set b (some ⟨(xs.mergeSort fun x y => !(ltOf cf) y x).map enc, true, z⟩)) := by
 subst hn
 intro E ρ args' w ha hst
 obtain ⟨pl, c', cb, ty, cc, hp, rfl, hcap, hc, hcell⟩ := sort_args ha hst hb h0
 have hlt : pl.blk < w.heap.size := (Array.getElem?_eq_some_iff.1 hc).1
 have hcon := Any.slices_SortFunc_total L enc h1 cf hO g cb pl.blk 0 c' xs.toArray w (enters_calls hg) (fun k os dk hs x y => hcmp ρ cb _ (fun b' pl' h' => by simpa using hst.dom b' pl' h') hcap (hst.mem.but hb rfl hp fun k hk hne => heap_sortWorld_other enc w _ 0 _ dk os hne hk) x y) (holds_of enc hsc xs.toArray hc hcell) hlt (by simpa using hsz) hT
 refine hcon.mono ?_
 rintro e w' ⟨rfl, k, os, rfl⟩
 refine ⟨_, ρ, rfl, .refl _, .flat rfl, ?_⟩
 exact hst.sorted enc hb hp (xs.mergeSort fun x y => !(ltOf cf) y x).toArray (fun x _ => hsc x) (by simp) k os
theorem flatK_list {α : Type} [Inhabited α] (enc : α → List Value) (k : Nat) (hk : ∀ x, (enc x).length = k) (xs : List α) : (flatK enc k xs.toArray).toList = xs.flatMap enc := by
 refine List.ext_getElem? fun t => ?_
 by_cases ht : t < xs.length * k
 ·have k0 : 0 < k := by rcases Nat.eq_zero_or_pos k with h | h; (subst h; simp at ht); exact h
  have hd : t / k < xs.length := (Nat.div_lt_iff_lt_mul k0).2 ht
  have e : t = t / k * k + t % k := (Nat.div_add_mod' t k).symm
  have h1 := get_flatK enc k xs.toArray t (by simpa using ht)
  rw [getElem!_pos _ t (by simpa using ht)] at h1
  rw [Array.getElem?_toList, Array.getElem?_eq_getElem (by simpa using ht), h1]
  conv => rhs; rw [e]
  rw [Ls.flat_get enc k hk default xs (t / k) (t % k) (Nat.mod_lt _ k0) hd, List.getD_eq_getElem?_getD, List.getElem?_eq_getElem hd, Option.getD_some, getElem!_pos xs.toArray (t / k) (by simpa using hd)]
  have hm : t % k < (enc xs[t / k]).length := by rw [hk]; exact Nat.mod_lt _ k0
  simp only [List.getElem_toArray]
  rw [getElem!_pos (enc xs[t / k]) (t % k) hm, List.getElem?_eq_getElem hm]
 ·rw [List.getElem?_eq_none (by simpa using Nat.le_of_not_lt ht), List.getElem?_eq_none (by rw [Ls.flat_len enc k hk]; omega)]
theorem ACalls.sortK {P : Program} {σ : Go.Shelf.Ren} {α : Type} [Inhabited α] (L : SlLaysF0.n6 P σ) (k : Nat) (hag : aggOf P (σ.t 24) = some true) (hzz : szOf P (σ.t 24) = some k) (enc : α → List Value) (hk : ∀ x, (enc x).length = k) (h1 : ∀ x, ∀ v ∈ enc x, v.oneCell' = true) (hsc : ∀ x, (enc x).all Ab.scal = true) (cf : α → α → Int) (hO : SWO (ltOf cf)) (hT : ∀ x y, (ltOf cf) x y = false → (ltOf cf) y x = false → x = y) {g : FuncId} (hg : enters P g = true)
  {capA : Array Value} {m : Mem} {b n c z : Nat} (xs : List α) (hn : xs.length = n) (h0 : 0 < n) (hsz : n < 4611686018427387904) (hb : m.at b = some ⟨xs.flatMap enc, true, z⟩) (hcmp : CmpQ P g capA (m.set b none) (fun x y : α => #[.agg (enc x).toArray, .agg (enc y).toArray]) cf) :
  ACalls P (σ.f 6) [.slice (some ⟨b, 0, none⟩) n c, .func (.func g) #[] capA] m (.tuple #[]) (m.set b (some ⟨(xs.mergeSort fun x y => !(ltOf cf) y x).flatMap enc, true, z⟩)) := by
 subst hn
 intro E ρ args' w ha hst
 obtain ⟨pl, c', cb, ty, cc, hp, rfl, hcap, hc, hcell⟩ := sort_args ha hst hb h0
 have hlt : pl.blk < w.heap.size := (Array.getElem?_eq_some_iff.1 hc).1
 have hcell2 : ∀ (i : Nat) (v : Value), (((xs.flatMap enc).toArray).toList.map id)[i]? = some v → ∃ v', cc[i]? = some v' ∧ VRel ρ v v' := fun i v hv => hcell i v (by simpa using hv)
 have hH : HoldsK enc k w pl.blk 0 xs.toArray := fun j hj => by
  have hj2 : j < (xs.flatMap enc).toArray.size := by
   have := congrArg List.length (flatK_list enc k hk xs)
   simp only [Array.length_toList] at this
   rw [this] at hj
   simpa using hj
  obtain ⟨v', q1, q2⟩ := hcell2 j (xs.flatMap enc).toArray[j] (by simp)
  refine ⟨?_, ?_⟩
  ·unfold World.cell?
   rw [hc]
   show cc[0 + j]? = _
   have e1 : (flatK enc k xs.toArray)[j]! = (xs.flatMap enc).toArray[j] := by
    rw [getElem!_pos _ j hj]
    have := flatK_list enc k hk xs
    have e2 : flatK enc k xs.toArray = (xs.flatMap enc).toArray := by rw [← this]
    simp only [e2]
   rw [Nat.zero_add, q1, e1, id, q2.of_scal]
   have hm : (xs.flatMap enc).toArray[j] ∈ xs.flatMap enc := by simp
   exact List.all_eq_true.1 (Ls.flat_scal enc hsc xs) _ hm
  ·unfold World.frozen?
   rw [hc]
   simp
 have hcon := AnyQ.slices_SortFunc_total L k (fun w => run_agg hag) (fun w => run_size hzz) enc hk h1 cf hO g cb pl.blk 0 c' xs.toArray w (enters_calls hg) (fun k' os dk hs x y => hcmp ρ cb _ (fun b' pl' h' => by simpa using hst.dom b' pl' h') hcap (hst.mem.but hb rfl hp fun i hi hne => heap_sortWorld_other id w _ 0 _ (flatK enc k dk) os hne hi) x y) hH hlt (by simpa using hsz) hT
 refine hcon.mono ?_
 rintro e w' ⟨rfl, k', os, rfl⟩
 refine ⟨_, ρ, rfl, .refl _, .flat rfl, ?_⟩
 have hfl := flatK_list enc k hk (xs.mergeSort fun x y => !(ltOf cf) y x)
 have := hst.sorted id hb hp (flatK enc k (xs.mergeSort fun x y => !(ltOf cf) y x).toArray) (fun v hv => by rw [hfl] at hv; exact List.all_eq_true.1 (Ls.flat_scal enc hsc _) v hv) (by rw [size_flatK, Ls.flat_len enc k hk]; simp) k' os
 rw [List.map_id, hfl] at this
 exact this
end Ab
end Go
end
/- Chapter 6: the numbers of the points in their order. -/
section
set_option linter.unusedSimpArgs false
set_option linter.unusedVariables false
section
namespace Go.Me
open Go.Ab Go.Proofs.YtmohcmghbfhdlaaGreat
def ordL (l : List Pn) : List Nat := (List.range l.length).mergeSort fun i k => !decide (ordP (pt l k) (pt l i) < 0)
theorem ordL_perm (l : List Pn) : (ordL l).Perm (List.range l.length) := List.mergeSort_perm _ _
theorem ordL_len (l : List Pn) : (ordL l).length = l.length := by
 unfold ordL
 rw [List.length_mergeSort, List.length_range]
theorem ordL_pair {l : List Pn} (hap : Apart l) : (ordL l).Pairwise fun i k => lexLt (pt l i) (pt l k) := by
 have h := List.pairwise_mergeSort (le := fun i k => !decide (ordP (pt l k) (pt l i) < 0)) (l := List.range l.length) (fun a b c h1 h2 => by
  simp only [Bool.not_eq_true', decide_eq_false_iff_not, ordP_neg] at h1 h2 ⊢
  unfold lexLt at *
  omega) (fun a b => by
  simp only [Bool.or_eq_true, Bool.not_eq_true', decide_eq_false_iff_not, ordP_neg]
  unfold lexLt
  omega)
 have hn : (ordL l).Nodup := (ordL_perm l).nodup_iff.2 List.nodup_range
 unfold ordL at hn ⊢
 have hmem : ∀ a ∈ (List.range l.length).mergeSort (fun i k => !decide (ordP (pt l k) (pt l i) < 0)), a < l.length := fun a ha => by
  have := (List.mergeSort_perm (List.range l.length) _).mem_iff.1 ha
  exact List.mem_range.1 this
 refine (h.and hn).imp_of_mem fun {a b} ha hb hab => ?_
 obtain ⟨h1, h2⟩ := hab
 simp only [Bool.not_eq_true', decide_eq_false_iff_not, ordP_neg] at h1
 rcases lexLt_or (p := pt l a) (q := pt l b) (fun e => h2 (hap a b (hmem a ha) (hmem b hb) e)) with h3 | h3
 ·exact h3
 ·exact absurd h3 h1
theorem ordL_sorted {l : List Pn} (hap : Apart l) : Sorted l (ordL l) :=
 ⟨fun i => by rw [(ordL_perm l).mem_iff, List.mem_range], ordL_pair hap⟩
end Go.Me
namespace Go.Proofs.YtmohcmghbfhdlaaGreat
open Go Go.RowKit Go.Ab Go.Me Go.Sort
set_option maxRecDepth 100000
set_option maxHeartbeats 4000000
attribute [local irreducible] OQ OW AL AW AF SW
theorem swo_ord {α : Type} (f : α → Pn) : SWO (ltOf fun x y : α => ordP (f x) (f y)) := by
 refine ⟨fun x => ?_, fun x y z => ?_, fun x y z => ?_⟩ <;> simp only [ltOf, decide_eq_true_eq, decide_eq_false_iff_not, ordP_neg] <;> unfold lexLt <;> omega
theorem sortI_q {m : Mem} {b n c c2 z bd bp : Nat} {blk blk2 : Blk} (l : List Pn) (hap : Apart l) (hn : l.length = n) (h0 : 0 < n) (hl : n ≤ 1000) (hb : m.at b = some ⟨flatO (List.range n), true, z⟩) (hbp : m.at bp = some blk) (hc : blk.cells = flatP l) (hd : m.at bd = some blk2) (hc2 : blk2.cells = [.slice (some ⟨bp, 0, none⟩) n c2]) (n1 : bp ≠ b) (n2 : bd ≠ b) (ho : blk.obj = Ob.plain := by rfl) (ho2 : blk2.obj = Ob.plain := by rfl) :
  ACalls Tryz.prog 152 [.slice (some ⟨b, 0, none⟩) n c, .func (.func 153) #[] #[.pointer (some ⟨bd, 0, none⟩)]] m (.tuple #[]) (m.set b (some ⟨flatO (ordL l), true, z⟩)) := by
 subst hn
 haveI : Inhabited (Fin l.length) := ⟨⟨0, h0⟩⟩
 have e1 : (List.finRange l.length).map (fun x : Fin l.length => (x : Nat)) = List.range l.length := by
  refine List.ext_getElem (by simp) fun i h1 h2 => by simp
 have e2 : flatO (List.range l.length) = (List.finRange l.length).map (fun x : Fin l.length => Value.int .i64 ((x : Nat) : Int)) := by
  rw [← e1]
  unfold flatO
  rw [List.map_map]
  rfl
 have e3 : flatO (ordL l) = ((List.finRange l.length).mergeSort fun x y => !(ltOf fun x y : Fin l.length => ordP (pt l x) (pt l y)) y x).map (fun x : Fin l.length => Value.int .i64 ((x : Nat) : Int)) := by
  unfold ordL
  rw [← e1, ← List.map_mergeSort (r := fun x y => !(ltOf fun x y : Fin l.length => ordP (pt l x) (pt l y)) y x) (f := fun x : Fin l.length => (x : Nat)) (l := List.finRange l.length) (fun a _ b _ => rfl)]
  unfold flatO
  rw [List.map_map]
  rfl
 rw [e3]
 refine ACalls.sort1 Tryz.laysF6 (fun x : Fin l.length => Value.int .i64 ((x : Nat) : Int)) (fun _ => rfl) (fun _ => rfl) (fun x y => ordP (pt l x) (pt l y)) (swo_ord fun x : Fin l.length => pt l x) (fun x y h1 h2 => ?_) (by kernel_rfl) (List.finRange l.length) (by simp) h0 (by omega) (by rw [hb, e2]) (CmpQ.of (fun _ _ => rfl) fun x y => ?_)
 ·simp only [ltOf, decide_eq_false_iff_not] at h1 h2
  exact Fin.ext (hap x y x.isLt y.isLt (ordP_tie h1 h2))
 ·exact less_q l x y x.isLt y.isLt (by rw [Mem.at_setnone, if_neg n1]; exact hbp) hc ho (by rw [Mem.at_setnone, if_neg n2]; exact hd) hc2 ho2
end Go.Proofs.YtmohcmghbfhdlaaGreat
end
end
/- Chapter 6: one half of the hull. -/
section
set_option linter.unusedSimpArgs false
set_option linter.unusedVariables false
section
namespace Go.Me
open Go.Ab Go.Proofs.YtmohcmghbfhdlaaGreat
def ouK (l : List Pn) (o : List Nat) (k : Nat) : List Nat := (chainI l (o.take k)).reverse
def topn (A : List Nat) (j : Nat) : List Nat := (A.take j).reverse
theorem ot_lt {A : List Nat} {k : Nat} (h : k < A.length) : A[k]? = some (ot A k) := by
 unfold ot
 rw [List.getD_eq_getElem?_getD, List.getElem?_eq_getElem h]
 rfl
theorem topn_succ {A : List Nat} {j : Nat} (h : j < A.length) : topn A (j + 1) = ot A j :: topn A j := by
 unfold topn
 rw [List.take_add_one, ot_lt h]
 simp
theorem topn_two {A : List Nat} {j : Nat} (h1 : 1 < j) (h : j ≤ A.length) : topn A j = ot A (j - 1) :: ot A (j - 2) :: topn A (j - 2) := by
 obtain ⟨i, rfl⟩ : ∃ i, j = i + 2 := ⟨j - 2, by omega⟩
 rw [topn_succ (by omega), topn_succ (by omega)]
 rfl
theorem pop_more {l : List Pn} {A : List Nat} {p j : Nat} (h1 : 1 < j) (h : j ≤ A.length) (hc : cr (pt l (ot A (j - 2))) (pt l (ot A (j - 1))) (pt l p) ≤ 0) : popI l p (topn A j) = popI l p (topn A (j - 1)) := by
 rw [topn_two h1 h]
 conv => lhs; unfold popI
 rw [if_pos hc]
 congr 1
 obtain ⟨i, rfl⟩ : ∃ i, j = i + 2 := ⟨j - 2, by omega⟩
 show _ = topn A (i + 1)
 rw [topn_succ (by omega)]
 rfl
theorem pop_stop {l : List Pn} {A : List Nat} {p j : Nat} (h : j ≤ A.length) (hc : 1 < j → 0 < cr (pt l (ot A (j - 2))) (pt l (ot A (j - 1))) (pt l p)) : popI l p (topn A j) = topn A j := by
 rcases Nat.lt_or_ge 1 j with h1 | h1
 ·rw [topn_two h1 h]
  unfold popI
  rw [if_neg (by have := hc h1; omega)]
 ·have hl : (topn A j).length ≤ 1 := by unfold topn; rw [List.length_reverse, List.length_take]; omega
  match hq : topn A j, hl with
  | [], _ => rfl
  | [_], _ => rfl
  | _ :: _ :: _, hl => simp at hl
theorem ouK_zero (l : List Pn) (o : List Nat) : ouK l o 0 = [] := rfl
theorem ouK_succ {l : List Pn} {o : List Nat} {k j : Nat} (hk : k < o.length) (h1 : popI l (ot o k) (topn (ouK l o k) j) = topn (ouK l o k) j) (h2 : popI l (ot o k) (topn (ouK l o k) j) = popI l (ot o k) (topn (ouK l o k) (ouK l o k).length)) : ouK l o (k + 1) = (ouK l o k).take j ++ [ot o k] := by
 have e : topn (ouK l o k) (ouK l o k).length = chainI l (o.take k) := by
  unfold topn
  rw [List.take_length]
  unfold ouK
  rw [List.reverse_reverse]
 rw [e, h1] at h2
 unfold ouK chainI
 rw [List.take_add_one, ot_lt hk, Option.toList_some, List.foldl_append]
 show (ot o k :: popI l (ot o k) (chainI l (o.take k))).reverse = _
 rw [← h2, List.reverse_cons]
 unfold topn
 rw [List.reverse_reverse]
 rfl
theorem ouK_bd {l : List Pn} {o : List Nat} (ho : ∀ x ∈ o, x < l.length) (k : Nat) : ∀ x ∈ ouK l o k, x < l.length := fun x hx => by
 unfold ouK at hx
 rw [List.mem_reverse] at hx
 exact ho x (List.mem_of_mem_take (chainI_sub l _ x hx))
theorem ouK_at {l : List Pn} {o : List Nat} (ho : ∀ x ∈ o, x < l.length) (k : Nat) {j : Nat} (hj : j < (ouK l o k).length) : ot (ouK l o k) j < l.length :=
 ouK_bd ho k _ (List.mem_of_getElem? (ot_lt hj))
theorem flatO_take (A : List Nat) (j p : Nat) : (flatO A).take j ++ [.int .i64 (p : Int)] = flatO (A.take j ++ [p]) := by
 unfold flatO
 rw [List.map_append, List.map_take]
 rfl
theorem ouK_pos {l : List Pn} {o : List Nat} {k : Nat} (h0 : 0 < k) (hk : k ≤ o.length) : 0 < (ouK l o k).length := by
 obtain ⟨i, rfl⟩ : ∃ i, k = i + 1 := ⟨k - 1, by omega⟩
 unfold ouK chainI
 rw [List.take_add_one, ot_lt (by omega), Option.toList_some, List.foldl_append, List.length_reverse]
 simp
end Go.Me
namespace Go.Proofs.YtmohcmghbfhdlaaGreat
open Go Go.RowKit Go.Ab Go.Me
set_option maxRecDepth 100000
set_option maxHeartbeats 4000000
attribute [local irreducible] OQ OW AL AW AF SW
theorem half_c (l : List Pn) (o : List Nat) (hok : ∀ k, k < l.length → (pt l k).Ok) (ho : ∀ x ∈ o, x < l.length) (h0 : 0 < o.length) (hl : l.length ≤ 1000) (hol : o.length ≤ 1000) (hle : ∀ k, (ouK l o k).length ≤ 1000) (c c2 z z1 z2 : Nat) :
  ACalls Tryz.prog 158 [.slice (some ⟨2, 0, none⟩) o.length c, .pointer (some ⟨1, 0, none⟩)] [some ⟨flatP l, false, z⟩, some ⟨[.slice (some ⟨0, 0, none⟩) l.length c2], false, z1⟩, some ⟨flatO o, false, z2⟩]
   (.slice (some ⟨3, 0, none⟩) ((ouK l o o.length).length - 1) INF) [some ⟨flatP l, false, z⟩, some ⟨[.slice (some ⟨0, 0, none⟩) l.length c2], false, z1⟩, some ⟨flatO o, false, z2⟩, some ⟨flatO (ouK l o o.length), true, 1⟩] := by
 have hld := fun (k : Nat) (hk : k < l.length) (r : Mem) => flatP_ld (m := some ⟨flatP l, false, z⟩ :: r) (b := 0) (l := l) rfl rfl k hk
 have g0 := fun (k : Nat) (hk : k < o.length) => flatO_get o k hk
 have hot : ∀ k, k < o.length → ot o k < l.length := fun k hk => ho _ (List.mem_of_getElem? (ot_lt hk))
 have g1 : ∀ k j, 1 < j → j ≤ (ouK l o k).length → (flatO (ouK l o k))[((j : Int) - 1).toNat]? = some (.int .i64 (ot (ouK l o k) (j - 1))) := fun k j h1 h2 => by
  rw [show ((j : Int) - 1).toNat = j - 1 by omega]
  exact flatO_get _ _ (by omega)
 have g2 : ∀ k j, 1 < j → j ≤ (ouK l o k).length → (flatO (ouK l o k))[((j : Int) - 2).toNat]? = some (.int .i64 (ot (ouK l o k) (j - 2))) := fun k j h1 h2 => by
  rw [show ((j : Int) - 2).toNat = j - 2 by omega]
  exact flatO_get _ _ (by omega)
 have hb := fun k j (hj : j < (ouK l o k).length) => ouK_at ho k hj
 have ht := fun (a b c : Nat) (h1 : a < l.length) (h2 : b < l.length) (h3 : c < l.length) (m : Mem) => turn_q (hok a h1) (hok b h2) (hok c h3) m
 have hmore := fun k j (h1 : 1 < j) (h2 : j ≤ (ouK l o k).length) (h3 : sgn (cr (pt l (ot (ouK l o k) (j - 2))) (pt l (ot (ouK l o k) (j - 1))) (pt l (ot o k))) ≤ 0) => pop_more (l := l) (p := ot o k) h1 h2 (by have := sgn_nn (cr (pt l (ot (ouK l o k) (j - 2))) (pt l (ot (ouK l o k) (j - 1))) (pt l (ot o k))); have := sgn_z (cr (pt l (ot (ouK l o k) (j - 2))) (pt l (ot (ouK l o k) (j - 1))) (pt l (ot o k))); omega)
 have hstop := fun k j (h2 : j ≤ (ouK l o k).length) (h3 : ¬ 1 < j ∨ ¬ sgn (cr (pt l (ot (ouK l o k) (j - 2))) (pt l (ot (ouK l o k) (j - 1))) (pt l (ot o k))) ≤ 0) => pop_stop (l := l) (p := ot o k) h2 (fun h1 => by have := sgn_nn (cr (pt l (ot (ouK l o k) (j - 2))) (pt l (ot (ouK l o k) (j - 1))) (pt l (ot o k))); have := sgn_z (cr (pt l (ot (ouK l o k) (j - 2))) (pt l (ot (ouK l o k) (j - 1))) (pt l (ot o k))); rcases h3 with h3 | h3 <;> omega)
 have hsucc := fun k j (hk : k < o.length) => ouK_succ (l := l) (o := o) (k := k) (j := j) hk
 have hfl := fun k j => flatO_take (ouK l o k) j (ot o k)
 have hz := ouK_zero l o
 have hpos := fun k (h0 : 0 < k) (hk : k ≤ o.length) => ouK_pos (l := l) h0 hk
 have hlen := fun k => flatO_len (ouK l o k)
 have hsc := fun k => flatO_scal (ouK l o k)
 refine ACalls.en 56 Tryz.func158 rfl rfl (fun E hE => ?_)
 repeat' (first | with_reducible (first | refine Then.n ?_ | refine Then.x ?_ | refine InB.n ?_ | refine InB.hit ?_) | ((with_reducible refine AL.on ?_); first | (refine AL.gd rfl ?_; (refine AL.gs1 rfl rfl (fun hc => ?_) (fun hc => ?_) <;> (try replace hc := nc hc) <;> first | (exfalso; contradiction) | refine AL.nm ?_)) | ((first | refine AL.mv ?_ | ((with_reducible refine AL.k_call ?_); first | refine AL.g (OQ.lenS (xt := 26) (r := (none, 1, false)) rfl kr) ?_ | refine AL.g (OQ.max2 rfl rfl) ?_) | ((with_reducible refine AL.k_load ?_); (refine AL.g (OQ.load1 (ty := 3) rfl kr (by (exact g0 _ (by omega)))) ?_)) | ((with_reducible refine AL.k_binOp ?_); first | refine AL.g (OQ.lss rfl rfl) ?_ | refine AL.g (OQ.leq rfl rfl) ?_ | refine AL.g (OQ.subi rfl rfl (by omega)) ?_ | refine AL.g (OQ.addi rfl rfl (by omega)) ?_) | refine AL.as ?_ | ((with_reducible refine AL.k_pick ?_); first | refine AL.pT ?_ | refine AL.pF ?_) | (refine AL.q rfl (by first | exact OQ.sliceTo (ty := 26) (k := j - 1) (z := 1) (g := false) rfl kr rfl (.inr rfl) rfl (congrArg some (by omega)) (by omega) | exact OQ.sliceTo (ty := 26) (k := (ouK l o k).length - 1) (z := 1) (g := false) rfl kr rfl (.inr rfl) rfl (congrArg some (by split <;> omega)) (by omega)) ?_)); refine AL.nm ?_) | ((first | ((with_reducible refine AL.k_call ?_); refine AL.pcall (g := 133) rfl kr rfl ((by exact ht _ _ _ (hb _ _ (by omega)) (hb _ _ (by omega)) (hot _ (by omega)) _)) ?_) | ((with_reducible refine AL.k_indexAddr ?_); (refine AL.g (OQ.idxAddr (ty := 26) (z := 1) (g := false) rfl rfl kr (by omega) (by omega)) ?_))); refine AL.nm ?_) | ((first | ((with_reducible refine AL.k_call ?_); (refine AL.w rfl (by first | exact OW.appendNil (e := 3) (z := 1) (zs := [.int .i64 0]) (by' := 8) rfl rfl kr kr kr rfl kr (by decide) rfl (by decide) (by decide) | exact OW.append (e := 3) (z := 1) (zs := [.int .i64 0]) (by' := 8) rfl rfl kr kr kr rfl kr (by decide) rfl rfl rfl (by decide) (by simp only [Nat.mul_one, hlen]; omega) rfl rfl (by omega) (by omega)) ?_)) | ((with_reducible refine AL.k_buildSlice ?_); refine AL.w rfl (OW.buildSl (ty := 26) (zs := [.int .i64 0]) (n := 1) (g := false) kr kr rfl rfl rfl (by decide) (by decide) rfl rfl) ?_)); refine AL.nm ?_; refine AL.nM ?_) | refine AL.nil ?_) | ((with_reducible refine AW.on ?_); first | refine AW.seq ?_ | refine AW.skip ?_ | refine AW.exit ?_ | refine AW.ret ?_ | ((refine AW.block (id := 0) ?_); (refine AW.fk [1, 4, 7, 8, 9] ?_); (refine AW.loop (fun n' t' m => ∃ k : Nat, n' = o.length - k ∧ k ≤ o.length ∧ ((k = 0 ∧ t' = [jk, .pointer (some ⟨1, 0, none⟩), jk, jk, .slice none 0 0, jk, jk, .slice (some ⟨2, 0, none⟩) o.length c, .int .i64 (o.length), .int .i64 (k), jk, jk, jk, jk, jk, jk, jk, jk, jk, jk, jk, jk, jk, jk, jk, jk, jk, jk, jk, jk, jk, jk, jk, jk, jk, jk, jk, jk, jk, jk, jk, jk, jk, jk, jk, jk, jk, jk, jk, jk, jk, jk, jk, jk, jk, jk, jk, jk] ∧ m = [some ⟨flatP l, false, z⟩, some ⟨[.slice (some ⟨0, 0, none⟩) l.length c2], false, z1⟩, some ⟨flatO o, false, z2⟩]) ∨ (0 < k ∧ t' = [jk, .pointer (some ⟨1, 0, none⟩), jk, jk, .slice (some ⟨3, 0, none⟩) ((ouK l o k).length) INF, jk, jk, .slice (some ⟨2, 0, none⟩) o.length c, .int .i64 (o.length), .int .i64 (k), jk, jk, jk, jk, jk, jk, jk, jk, jk, jk, jk, jk, jk, jk, jk, jk, jk, jk, jk, jk, jk, jk, jk, jk, jk, jk, jk, jk, jk, jk, jk, jk, jk, jk, jk, jk, jk, jk, jk, jk, jk, jk, jk, jk, jk, jk, jk, jk] ∧ m = [some ⟨flatP l, false, z⟩, some ⟨[.slice (some ⟨0, 0, none⟩) l.length c2], false, z1⟩, some ⟨flatO o, false, z2⟩, some ⟨flatO (ouK l o k), true, 1⟩]))) (o.length) (by exact ⟨0, rfl, Nat.zero_le _, .inl ⟨rfl, rfl, rfl⟩⟩) ?_); (rintro n' t' m ⟨k, rfl, hk, (⟨hk0, rfl, rfl⟩ | ⟨hk1, rfl, rfl⟩)⟩)) | ((refine AW.block (id := 2) ?_); (refine AW.fk [1, 4, 6, 7, 8, 9] ?_); (refine AW.loop (fun n' t' m => ∃ j : Nat, n' = j ∧ ((k = 0 ∧ j = 0 ∧ t' = [jk, .pointer (some ⟨1, 0, none⟩), jk, jk, .slice none 0 0, jk, .int .i64 (ot o k), .slice (some ⟨2, 0, none⟩) o.length c, .int .i64 (o.length), .int .i64 (k), jk, jk, jk, jk, jk, jk, jk, jk, jk, jk, jk, jk, jk, jk, jk, jk, jk, jk, jk, jk, jk, jk, jk, jk, jk, jk, jk, jk, jk, jk, jk, jk, jk, jk, jk, jk, jk, jk, jk, jk, jk, jk, jk, jk, jk, jk, jk, jk] ∧ m = [some ⟨flatP l, false, z⟩, some ⟨[.slice (some ⟨0, 0, none⟩) l.length c2], false, z1⟩, some ⟨flatO o, false, z2⟩]) ∨ (0 < k ∧ 0 < j ∧ j ≤ (ouK l o k).length ∧ popI l (ot o k) (topn (ouK l o k) j) = popI l (ot o k) (topn (ouK l o k) (ouK l o k).length) ∧ t' = [jk, .pointer (some ⟨1, 0, none⟩), jk, jk, .slice (some ⟨3, 0, none⟩) (j) INF, jk, .int .i64 (ot o k), .slice (some ⟨2, 0, none⟩) o.length c, .int .i64 (o.length), .int .i64 (k), jk, jk, jk, jk, jk, jk, jk, jk, jk, jk, jk, jk, jk, jk, jk, jk, jk, jk, jk, jk, jk, jk, jk, jk, jk, jk, jk, jk, jk, jk, jk, jk, jk, jk, jk, jk, jk, jk, jk, jk, jk, jk, jk, jk, jk, jk, jk, jk] ∧ m = [some ⟨flatP l, false, z⟩, some ⟨[.slice (some ⟨0, 0, none⟩) l.length c2], false, z1⟩, some ⟨flatO o, false, z2⟩, some ⟨flatO (ouK l o k), true, 1⟩]))) ((ouK l o k).length) (by first | exact ⟨(ouK l o k).length, rfl, .inr ⟨‹_›, hpos k ‹_› ‹_›, Nat.le_refl _, rfl, rfl, rfl⟩⟩ | exact ⟨(ouK l o k).length, rfl, .inl ⟨‹_›, (by subst hk0; exact congrArg List.length hz), rfl, rfl⟩⟩) ?_); (rintro n' t' m ⟨j, hnj, (⟨hk0, hj0, rfl, rfl⟩ | ⟨hk1, hj1, hj2, hjp, rfl, rfl⟩)⟩)) | refine AW.block ?_ | (refine AW.drawF (id := 5) 26 #[0, 1, 3, 7, 15, 15, 15, 79, 207, 495, 1007, 2047, 4095, 15, 15, 15, 32783, 98319, 245775, 507919, 1040399, 2088975, 15, 15, 12582927, 29360143, 67108863, 134217727, 268435455] kr kr ?_; (conv => (arg 8; simp only [List.take_succ_cons, List.take_zero])); ((have hq := hle k))) | (refine AW.region (id := 7) ?_; ((have hq := hle k))) | (refine AW.region (id := 9) ?_; ((have hq := hle k))) | refine AW.region ?_ | (refine AW.conds rfl (fun hc => ?_) (fun hc => ?_) <;> (try replace hc := nc hc) <;> first | (exfalso; first | contradiction | (omega); done) | skip)) | ((with_reducible refine AF.on ?_); first | ((refine AF.q 0 (SW.no1 rfl rfl (by with_reducible rfl)) ?_); refine AF.nm ?_) | ((first | ((with_reducible refine AF.k_move ?_); first | (refine AF.q 0 (SW.q (OQ.move wl) rfl) ?_) | (refine AF.q 0 (SW.yes (SW.q (OQ.move wl) rfl) rfl rfl (by with_reducible rfl)) ?_)) | ((with_reducible refine AF.k_call ?_); first | refine AF.q 0 (SW.q (OQ.lenS (xt := 26) (r := (none, 1, false)) rfl kr) rfl) ?_ | refine AF.q 0 (SW.yes (SW.q (OQ.lenS (xt := 26) (r := (none, 1, false)) rfl kr) rfl) rfl rfl (by with_reducible rfl)) ?_) | ((with_reducible refine AF.k_load ?_); first | (refine AF.ql rfl (SW.yes (SW.q (OQ.load1 (ty := 22) rfl kr (by (conv => lhs; whnf))) rfl) rfl rfl (by with_reducible rfl)) ?_) | (refine AF.ql rfl (SW.yes (SW.q (OQ.load1 (ty := 3) rfl kr (by first | (first | exact g2 k j (by omega) (by omega) | exact g1 k j (by omega) (by omega)) | (conv => lhs; whnf))) rfl) rfl rfl (by with_reducible rfl)) ?_) | refine AF.ql rfl (SW.yes (SW.q (OQ.loadN (ty := 65) (n := 2) rfl kr kr (by (exact hld _ (by first | exact hb _ _ (by omega) | exact hot _ (by omega)) _))) rfl) rfl rfl (by with_reducible rfl)) ?_) | ((with_reducible refine AF.k_binOp ?_); first | refine AF.q 0 (SW.q (OQ.gtr rfl rfl) rfl) ?_ | refine AF.q 0 (SW.yes (SW.q (OQ.subi rfl rfl (by omega)) rfl) rfl rfl (by with_reducible rfl)) ?_) | ((with_reducible refine AF.k_indexAddr ?_); first | (refine AF.q 0 (SW.yes (SW.q (OQ.idxAddr (ty := 26) (z := 1) (g := false) rfl rfl kr (by omega) (by omega)) rfl) rfl rfl (by with_reducible rfl)) ?_) | (refine AF.q 0 (SW.yes (SW.q (OQ.idxAddr (ty := 22) (z := 2) (g := true) rfl rfl kr (by omega) (by first | (have h1 := hb k (j - 2) (by omega); have h2 := hb k (j - 1) (by omega); omega) | (have h3 := hot k (by omega); omega))) rfl) rfl rfl (by with_reducible rfl)) ?_))); refine AF.nm ?_) | (refine AF.gs1 rfl rfl (fun hc => ?_) (fun hc => ?_) <;> (fail_if_success (with_reducible exact lit_no hc)) <;> (try replace hc := nc hc) <;> first | (exfalso; first | contradiction | (omega); done) | skip) | refine AF.nl ?_) | ((with_reducible refine ex_on ?_); first | (first | (have hs0 : ouK l o (k + 1) = [ot o k] := (by have := hsucc k 0 (by omega) rfl (by subst hk0; rfl); exact this); refine ⟨o.length - (k + 1), [jk, .pointer (some ⟨1, 0, none⟩), jk, jk, .slice (some ⟨3, 0, none⟩) (1) INF, jk, jk, .slice (some ⟨2, 0, none⟩) o.length c, .int .i64 (o.length), .int .i64 (((k + 1 : Nat) : Int)), jk, jk, jk, jk, jk, jk, jk, jk, jk, jk, jk, jk, jk, jk, jk, jk, jk, jk, jk, jk, jk, jk, jk, jk, jk, jk, jk, jk, jk, jk, jk, jk, jk, jk, jk, jk, jk, jk, jk, jk, jk, jk, jk, jk, jk, jk, jk, jk], [some ⟨flatP l, false, z⟩, some ⟨[.slice (some ⟨0, 0, none⟩) l.length c2], false, z1⟩, some ⟨flatO o, false, z2⟩, some ⟨flatO [ot o k], true, 1⟩], by omega, ?_, k + 1, rfl, by omega, .inr ⟨by omega, by rw [hs0]; rfl, by rw [hs0]⟩⟩; exact Wk.keep 3 [4] (Nat.le_of_eq hE) rfl rfl (by repeat (first | exact RenT.nil | refine RenT.jk ?_ | refine RenT.val (by rfl) (by rfl) ?_)) ⟨kl rfl (flatP_scal l), ki rfl, kl rfl (flatO_scal o), kl rfl rfl, trivial⟩) | (have hs1 := hsucc k j (by omega) (hstop k j hj2 (by first | exact .inl (by omega) | exact .inr (by omega))) hjp; have hln : (ouK l o (k + 1)).length = j + 1 := (by rw [hs1, List.length_append, List.length_take, Nat.min_eq_left hj2]; rfl); refine ⟨o.length - (k + 1), [jk, .pointer (some ⟨1, 0, none⟩), jk, jk, .slice (some ⟨3, 0, none⟩) (j + 1) INF, jk, jk, .slice (some ⟨2, 0, none⟩) o.length c, .int .i64 (o.length), .int .i64 (((k + 1 : Nat) : Int)), jk, jk, jk, jk, jk, jk, jk, jk, jk, jk, jk, jk, jk, jk, jk, jk, jk, jk, jk, jk, jk, jk, jk, jk, jk, jk, jk, jk, jk, jk, jk, jk, jk, jk, jk, jk, jk, jk, jk, jk, jk, jk, jk, jk, jk, jk, jk, jk], [some ⟨flatP l, false, z⟩, some ⟨[.slice (some ⟨0, 0, none⟩) l.length c2], false, z1⟩, some ⟨flatO o, false, z2⟩, some ⟨flatO (ouK l o (k + 1)), true, 1⟩], by omega, ?_, k + 1, rfl, by omega, .inr ⟨by omega, by rw [hln], rfl⟩⟩; rw [hs1, ← hfl]; exact Wk.keep 3 [5] (Nat.le_of_eq hE) rfl rfl (by repeat (first | exact RenT.nil | refine RenT.jk ?_ | refine RenT.val (by rfl) (by rfl) ?_)) ⟨kl rfl (flatP_scal l), ki rfl, kl rfl (flatO_scal o), ⟨_, rfl, rfl, rfl, .inl ⟨rfl, by rw [hfl]; exact flatO_scal _⟩⟩, trivial⟩)) | (exact ⟨j - 1, _, _, by omega, Wk.fk [1, 4, 6, 7, 8, 9] rfl, j - 1, rfl, .inr ⟨hk1, by omega, by omega, (hmore k j (by omega) hj2 (by assumption)).symm.trans hjp, rfl, rfl⟩⟩)) | ((with_reducible refine FinA.on ?_); (obtain rfl : k = o.length := (by omega); refine FinA.keep 4 [] (.inl rfl) (.tmp wl .nil) ?_ rfl (by rw [hE]; exact (by decide : 3 ≤ 4)) rfl rfl ⟨kl rfl (flatP_scal l), ki rfl, kl rfl (flatO_scal o), kl rfl (flatO_scal _), trivial⟩; rfl)))
end Go.Proofs.YtmohcmghbfhdlaaGreat
end
end
