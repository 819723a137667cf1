/- MeshDisperses: dispersions, and the scatterers that are chosen, are as specified, or the errors. -/
import Derived.Test.YtmohcmghbfhdlaaGreatRows
import Derived.Test.YtmohcmghbfhdlaaGreatQx
set_option linter.unusedSimpArgs false
set_option linter.unusedVariables false
section
namespace Go.Me
open Go.Ab Go.Ls
theorem memN_app (N : Nat) (S : List Sc) (a : Nat → List Int) (r : Mem) {i : Nat} (h : i ≤ N) : (memN N S a ++ r).at i = (memN N S a).at i := by
 unfold Mem.at
 rw [List.getD_eq_getElem?_getD, List.getD_eq_getElem?_getD, List.getElem?_append_left (by unfold memN; rw [List.length_cons, List.length_map, List.length_range]; omega)]
theorem memN_ro (N : Nat) (S : List Sc) (a : Nat → List Int) : Mem.ro (memN N S a) := fun b blk hb => by
 rcases memN_at hb with ⟨_, rfl⟩ | ⟨i, _, _, rfl⟩
 ·rfl
 ·rfl
theorem memN_blk (N : Nat) (S : List Sc) (a : Nat → List Int) {i : Nat} (h : i < N) : (memN N S a).at (i + 1) = some ⟨flatN (a i), false, 0⟩ := by
 unfold memN Mem.at
 rw [List.getD_eq_getElem?_getD, List.getElem?_cons_succ, List.getElem?_map, List.getElem?_range h]
 rfl
theorem sl_of {N q k : Nat} {X : Nat → Pn} {am : Nat → Option Addr} {A : Nat → List Int} (hk : k < q) (hN : k < N) : SlV (memN N (scL X am A q) (amF A q)) (k + 1) (sc (scL X am A q) k).2 (flatN (amF A q k)) (amF A q k).length := by
 have e : amF A q k = A k := if_pos hk
 have hb := memN_blk N (scL X am A q) (amF A q) hN
 rw [e] at hb ⊢
 unfold sc
 rw [scL_at hk]
 show SlV _ (k + 1) (vaX (k + 1) (A k).length (am k).isNone) _ _
 unfold vaX
 by_cases h0 : (A k).length = 0
 ·rw [if_pos h0]
  split
  ·exact .nil h0 rfl
  ·exact .lost h0 rfl
 ·rw [if_neg h0]
  exact .blk _ (by omega) rfl hb rfl rfl
end Go.Me
namespace Go.Proofs.YtmohcmghbfhdlaaGreat
open Go Go.RowKit Go.Ab Go.Me Go.Ls
set_option maxRecDepth 100000
set_option maxHeartbeats 4000000
theorem MeshDisperses_z (S : List Sc) (a : Nat → List Int) (u d : Int) (h1 : 40 < S.length) (h6 : S.length ≤ 42)
  (hv : ∀ k, k < S.length → SlV (memN 42 S a) (k + 1) (sc S k).2 (flatN (a k)) (a k).length) :
  PCalls Tryz.prog 9 [.slice (some ⟨0, 0, none⟩) S.length INF, .agg #[.int .i64 u, .int .i64 d]] (memN 42 S a) (.bool true) := by
 have hk := flatS_kp (S := S) (n := 43) fun k hk => (hv k hk).kp (by omega)
 have hX := fun (k : Nat) (hk : k < S.length) => (hv k hk).form
 refine MeshDisperses_v S a u d h1 h6 _ _ (some ⟨flatN (a 0), false, 0⟩) (some ⟨flatN (a 1), false, 0⟩) (some ⟨flatN (a 2), false, 0⟩) (some ⟨flatN (a 3), false, 0⟩) (some ⟨flatN (a 4), false, 0⟩) (some ⟨flatN (a 5), false, 0⟩) (some ⟨flatN (a 6), false, 0⟩) (some ⟨flatN (a 7), false, 0⟩) (some ⟨flatN (a 8), false, 0⟩) (some ⟨flatN (a 9), false, 0⟩) (some ⟨flatN (a 10), false, 0⟩) (some ⟨flatN (a 11), false, 0⟩) (some ⟨flatN (a 12), false, 0⟩) (some ⟨flatN (a 13), false, 0⟩) (some ⟨flatN (a 14), false, 0⟩) (some ⟨flatN (a 15), false, 0⟩) (some ⟨flatN (a 16), false, 0⟩) (some ⟨flatN (a 17), false, 0⟩) (some ⟨flatN (a 18), false, 0⟩) (some ⟨flatN (a 19), false, 0⟩) (some ⟨flatN (a 20), false, 0⟩) (some ⟨flatN (a 21), false, 0⟩) (some ⟨flatN (a 22), false, 0⟩) (some ⟨flatN (a 23), false, 0⟩) (some ⟨flatN (a 24), false, 0⟩) (some ⟨flatN (a 25), false, 0⟩) (some ⟨flatN (a 26), false, 0⟩) (some ⟨flatN (a 27), false, 0⟩) (some ⟨flatN (a 28), false, 0⟩) (some ⟨flatN (a 29), false, 0⟩) (some ⟨flatN (a 30), false, 0⟩) (some ⟨flatN (a 31), false, 0⟩) (some ⟨flatN (a 32), false, 0⟩) (some ⟨flatN (a 33), false, 0⟩) (some ⟨flatN (a 34), false, 0⟩) (some ⟨flatN (a 35), false, 0⟩) (some ⟨flatN (a 36), false, 0⟩) (some ⟨flatN (a 37), false, 0⟩) (some ⟨flatN (a 38), false, 0⟩) (some ⟨flatN (a 39), false, 0⟩) (some ⟨flatN (a 40), false, 0⟩) (some ⟨flatN (a 41), false, 0⟩) (fun k hk r => ?_) (fun k hk r => ld_2 (flatS_ld (m := some ⟨flatS S, false, 0⟩ :: r) (b := 0) (S := S) rfl rfl k hk))
  (fun k hk hl r => (hX k hk) ▸ rAmp_g ((hv k hk).of (memN_app 42 S a r (by omega))) hl) (fun k hk hE r => (hX k hk) ▸ rDisp_g ((hv k hk).of (memN_app 42 S a r (by omega))) hE)
  (fun k hk hl r => (hX k hk) ▸ CopyInts_g ((hv k hk).of (memN_app 42 S a r (by omega))) hl)
  (fun k hk m b c blk e1 e2 hl e3 => Dispersion_q (n := (a k).length) (c := c) (a k) e1 e2 rfl hl e3) (fun b blk hb => ?_) (fun k h => ⟨if_neg h, if_neg h⟩) ?_ (memN_ro 42 S a)
 ·rw [← hX k hk]
  exact flatS_g k hk
 ·have hb : (memN 42 S a ++ [(some ⟨[.int .i64 u, .int .i64 d], true, 0⟩ : Option Blk)]).at b = some blk := hb
  by_cases h : b ≤ 42
  ·rw [memN_app 42 S a _ h] at hb
   rcases memN_at hb with ⟨_, rfl⟩ | ⟨i, _, _, rfl⟩
   ·exact ⟨fun v hv => kp_mono (by omega) (hk v hv), rfl⟩
   ·exact ⟨fun v hv => kp_scal (List.all_eq_true.1 (flatN_scal _) v hv), rfl⟩
  ·have hlen : (memN 42 S a).length = 43 := by unfold memN; rw [List.length_cons, List.length_map, List.length_range]
   unfold Mem.at at hb
   rw [List.getD_eq_getElem?_getD, List.getElem?_append_right (by omega), hlen] at hb
   match hj : b - 43, hb with
   | 0, hb =>
    cases hb
    refine ⟨fun v hv => ?_, rfl⟩
    simp only [List.mem_cons, List.not_mem_nil, or_false] at hv
    rcases hv with rfl | rfl <;> exact kp_scal rfl
   | j + 1, hb => simp at hb
 ·show ∀ o ∈ (List.range 42).map (fun i => (some ⟨flatN (a i), false, 0⟩ : Option Blk)), _
  intro o ho
  obtain ⟨i, _, rfl⟩ := List.mem_map.1 ho
  rfl
end Go.Proofs.YtmohcmghbfhdlaaGreat
end
section
namespace Go.Proofs.YtmohcmghbfhdlaaGreat.MeshDisperses
open Go.ChangeShapes Go.WideShapes Go.ChangeAt Go Go.RowKit Go.Ab Go.Ls Go.Me Go.Proofs.YtmohcmghbfhdlaaGreat
set_option maxRecDepth 100000
theorem walk {W : World} (a : Option Addr) (n cap : Nat) (X : Nat → Pn) (am : Nat → Option Addr) (A : Nat → List Int) (C : Nat → Nat) (hS : ScX W a n cap X am A C) (u d : Int) (hu : -9223372036854775808 ≤ u ∧ u ≤ 9223372036854775807) (hd : -9223372036854775808 ≤ d ∧ d ≤ 9223372036854775807) :
  Calls Tryz.prog 9 #[.slice a n cap, .agg #[.int .i64 u, .int .i64 d]] W fun e w' => e = .returned (.bool true) ∧ Below W.heap.size W w' := by
 by_cases h0 : n = 0
 ·subst h0
  have hR : ∀ (xa : Option Addr), (xa = none ∨ ∃ b o sp, xa = some ⟨b, o, some sp⟩ ∧ b = 0) → ∀ m, PCalls Tryz.prog 52 [.slice xa 0 0, .agg #[.int .i64 u, .int .i64 d]] m (.tuple #[.slice none 0 0, .int .i64 (frX u d)]) := fun xa hx m => by
   rcases hx with rfl | ⟨b, o, sp, rfl, rfl⟩
   ·exact PCalls.viaS [] (rChosen_n none u d hu hd) ro0 trivial rfl rfl rfl rfl
   ·exact PCalls.viaS [] (rChosen_n (some ⟨0, o, some sp⟩) u d hu hd) ro0 trivial rfl rfl rfl rfl
  cases a with
  | none =>
   rw [hS.z rfl]
   refine glueL (args := [.slice none 0 0, .agg #[.int .i64 u, .int .i64 d]]) [] (fun x hx => by simp at hx) ?_ (MeshDisperses_n none u d hu hd (hR none (.inl rfl)))
   refine .tuple rfl fun i h h' => ?_
   match i, h with
   | 0, _ => exact .scal rfl
   | 1, _ => exact .flat rfl
   | i + 2, h => exact absurd h (by simp)
  | some a =>
   refine glueL (args := [lostV, .agg #[.int .i64 u, .int .i64 d]]) [] (fun x hx => by simp at hx) ?_ (MeshDisperses_n (some ⟨0, 0, some default⟩) u d hu hd (hR _ (.inr ⟨_, _, _, rfl, rfl⟩)))
   refine .tuple rfl fun i h h' => ?_
   match i, h with
   | 0, _ => exact .lost
   | 1, _ => exact .flat rfl
   | i + 2, h => exact absurd h (by simp)
 ·have hn : 0 < n := by omega
  have hl : ∀ q, (scL X am A q).length = q := scL_len X am A
  have hv : ∀ N q, VRel (plS N q a am A) (.tuple (#[.slice (some ⟨0, 0, none⟩) n INF, .agg #[.int .i64 u, .int .i64 d]] : Array Value)) (.tuple #[.slice a n cap, .agg #[.int .i64 u, .int .i64 d]]) := fun N q => by
   refine .tuple rfl fun i h h' => ?_
   match i, h with
   | 0, _ => exact argS hS hn q N
   | 1, _ => exact .flat rfl
   | i + 2, h => exact absurd h (by simp)
  by_cases h1 : n ≤ 6
  ·refine glueS (args := [.slice (some ⟨0, 0, none⟩) n INF, .agg #[.int .i64 u, .int .i64 d]]) hS hn n 6 (Nat.le_refl _) h1 (hv 6 n) ?_
   have := MeshDisperses_y (scL X am A n) (amF A n) u d (by rw [hl]; exact hn) (by rw [hl]; exact h1) hu hd fun k hk => by
    rw [hl] at hk
    exact sl_of (N := 6) hk (by omega)
   rw [hl] at this
   exact this
  ·by_cases h2 : n = 41 ∨ n = 42
   ·refine glueS (args := [.slice (some ⟨0, 0, none⟩) n INF, .agg #[.int .i64 u, .int .i64 d]]) hS hn n 42 (Nat.le_refl _) (by omega) (hv 42 n) ?_
    have := MeshDisperses_z (scL X am A n) (amF A n) u d (by rw [hl]; omega) (by rw [hl]; omega) fun k hk => by
     rw [hl] at hk
     exact sl_of (N := 42) hk (by omega)
    rw [hl] at this
    exact this
   ·exact glueS (args := [.slice (some ⟨0, 0, none⟩) n INF, .agg #[.int .i64 u, .int .i64 d]]) hS hn 0 0 (Nat.zero_le _) (Nat.le_refl _) (hv 0 0) (MeshDisperses_f n INF u d (by omega))
set_option maxRecDepth 100000 in
theorem lifted (os : Os) (started : os.Started) (H : Type) (enc : TypeId × Value → H) :
  ReturnsInHanded {} Tryz.checked os 9 .any (Rows.meshDispersesSpec.pre6 enc Tryz.prog Tryz.f9 Rows.meshDispersesRow.domain false) (Rows.meshDispersesSpec.post enc Tryz.prog Tryz.f9 false true false false) := by
 refine returnsInHanded_of_change (C := Tryz.checked) own started (by kernel_rfl) Tryz.func9
  (ChangeSpec.witness6 (enc := enc) (C := Tryz.checked) false ⟨#[], #[.slice none 0 0, .agg #[.int .i64 0, .int .i64 0]], []⟩ 8 (by kernel_rfl) (by kernel_rfl) (by kernel_rfl) (by kernel_rfl)) ?_
 intro W base args ds gs before hval0 hW hcnd _
 have hval : ∀ (j : Nat) t v, Tryz.f9.params[j]? = some t → args[j]? = some v → Value.okWide Tryz.prog W .any base t v := hval0
 have hW' := hW
 obtain ⟨p, q, hA0, hV, rfl, hfz, hnd⟩ := hW
 have hA : DataW.TrodAll enc Tryz.prog W 0 (fun _ => true) true Tryz.f9.params.toList args.toList ds p := hA0
 rw [Tryz.params9] at hA hval
 obtain ⟨v0, vs0, d0, ds0, p0, q0, hargs, rfl, rfl, h0, r0⟩ := trodAll_cons hA
 obtain ⟨v1, vs1, d1, ds1, p1, q1, rfl, rfl, rfl, h1, r1⟩ := trodAll_cons r0
 obtain ⟨rfl, rfl, rfl⟩ := trodAll_nil r1
 obtain rfl : args = #[v0, v1] := by cases args; simp_all
 obtain ⟨rfl, rfl⟩ := trodVars_none hV
 clear hA0 hval0
 have hlt := hW'.lt
 have g0 := h0
 have g1 := h1
 obtain ⟨a0, n0, cap0, X0, am0, A0, C0, rfl, hS0⟩ := open_SC (hval 0 77 v0 rfl rfl) h0
 obtain ⟨x0_1, x1_1, rfl, hx0_1, hx1_1⟩ := open_FR (hval 1 79 v1 rfl rfl) h1
 simp only [List.append_nil] at hW' hlt ⊢
 refine (walk a0 n0 cap0 X0 am0 A0 C0 hS0 x0_1 x1_1 hx0_1 hx1_1).mono fun e W' ⟨he, hb⟩ => ?_
 subst he
 have stay : ∀ (t : TypeId) v d ps (sp : Nat → Bool), Tryz.prog.readableRec t = true → t < Tryz.prog.types.size → DataW.Trod enc Tryz.prog W 0 (fun _ => true) true t v d ps → (∀ x ∈ ps, x.block < W.heap.size) → (∀ x ∈ ps, sp x.block = true) → DataW.Trod enc Tryz.prog W' 0 sp true t v d ps :=
  fun t v d ps sp hr ht h hx hs => Go.WideElems.Trod_stays laid hr ht h (fun x hxp => hb.same (hx x hxp)) hs
 exact ⟨_, rfl, post_below (pa := p0 ++ (p1 ++ [])) (pv := []) hW' (fun _ _ _ => trodAll_mk1 (shut_bool Tryz.underlying4 true)) (fun sp hs => (trodAll_cons_mk (stay 77 _ _ _ sp (by kernel_rfl) (of_decide_eq_true (by kernel_rfl)) g0 (fun x hx => hlt x (by simp [hx])) (fun x hx => hs x (by simp [hx]))) (trodAll_cons_mk (stay 79 _ _ _ sp (by kernel_rfl) (of_decide_eq_true (by kernel_rfl)) g1 (fun x hx => hlt x (by simp [hx])) (fun x hx => hs x (by simp [hx]))) (trodAll_mk0)))) (fun _ _ => rfl) (by simp)
  hb (ok_one (by kernel_rfl) rfl (okWide_bool_mk Tryz.underlying4 true))⟩
theorem over : Rows.meshDispersesRow.holds Tryz.pinned (OpenSpec.ofChange Rows.meshDispersesSpec) :=
 OpenClaim.holds_of_wide 9 Tryz.f9 rfl rfl rfl rfl rfl rfl rfl ⟨rfl, rfl, rfl, rfl, rfl⟩ rfl rfl rfl rfl rfl (by kernel_rfl) Tryz.func9 (by kernel_rfl)
  (of_decide_eq_true (by kernel_rfl)) (by unfold Func.isWrapper; first | (rw [if_pos (by decide +kernel)]; kernel_rfl) | (rw [if_neg (by decide +kernel)]; exact ⟨rfl, rfl⟩))
  (fun os started H enc _ => lifted os started H enc)
theorem proved : Rows.MeshDispersesSaid := over
#print axioms proved
end Go.Proofs.YtmohcmghbfhdlaaGreat.MeshDisperses
end
