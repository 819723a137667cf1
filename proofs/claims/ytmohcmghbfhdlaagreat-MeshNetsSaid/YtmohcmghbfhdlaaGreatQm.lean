/- Chapter 6: lists of any form as arguments; Light and the copy of a net. -/
import Derived.Test.YtmohcmghbfhdlaaGreatQl
import Derived.Test.YtmohcmghbfhdlaaGreatQc
import Derived.Test.YtmohcmghbfhdlaaGreatQk
import Derived.Test.YtmohcmghbfhdlaaGreatQh
section
set_option linter.unusedSimpArgs false
set_option linter.unusedVariables false
section
namespace Go.Me
open Go.Ab
inductive SlV (m : Mem) (i : Nat) (v : Value) (cs : List Value) (n : Nat) : Prop
  | blk (k : Blk) (h0 : 0 < n) (hv : v = .slice (some ⟨i, 0, none⟩) n INF) (h : m.at i = some k) (hc : k.cells = cs) (ho : k.obj = Ob.plain)
  | nil (hl : n = 0) (hv : v = .slice none 0 0)
  | lost (hl : n = 0) (hv : v = lostV)
theorem SlV.of {m m' : Mem} {i : Nat} {v : Value} {cs : List Value} {n : Nat} (h : SlV m i v cs n) (he : m'.at i = m.at i) : SlV m' i v cs n := by
  rcases h with ⟨k, h0, h1, h2, h3, h4⟩ | ⟨h1, h2⟩ | ⟨h1, h2⟩
  · exact .blk k h0 h1 (he.trans h2) h3 h4
  · exact .nil h1 h2
  · exact .lost h1 h2
theorem SlV.arg {m : Mem} {i n : Nat} {z : Bool} {cs : List Value} (h : m.at i = Ls.blX cs) (hn : cs = [] ↔ n = 0) : SlV m i (Ls.vaX i n z) cs n := by
  unfold Ls.vaX
  by_cases hl : n = 0
  · rw [if_pos hl]
    cases z
    · exact .lost hl rfl
    · exact .nil hl rfl
  · rw [if_neg hl]
    unfold Ls.blX at h
    rw [if_neg (fun h => hl (hn.1 h))] at h
    exact .blk _ (by omega) rfl h rfl rfl
theorem SlV.pos {m : Mem} {i : Nat} {v : Value} {cs : List Value} {n : Nat} (h : SlV m i v cs n) (h0 : 0 < n) : v = .slice (some ⟨i, 0, none⟩) n INF ∧ ∃ k : Blk, m.at i = some k ∧ k.cells = cs ∧ k.obj = Ob.plain := by
  rcases h with ⟨k, h0, h1, h2, h3, h4⟩ | ⟨h1, h2⟩ | ⟨h1, h2⟩
  · exact ⟨h1, k, h2, h3, h4⟩
  · omega
  · omega
end Go.Me
namespace Go.Proofs.YtmohcmghbfhdlaaGreat
open Go Go.RowKit Go.Ab Go.Me
set_option maxRecDepth 100000
theorem ro0 : Mem.ro [] := fun b blk h => by simp [Mem.at] at h
theorem Light_g {m : Mem} {i j : Nat} {v w : Value} {l : List Pn} {ts : List T3} (h1 : SlV m i v (flatP l) l.length) (h2 : SlV m j w (flatT ts) ts.length) (hl : (l.length : Int) ≤ 9223372036854775807) (ht : (ts.length : Int) ≤ 9223372036854775807) : PCalls Tryz.prog 13 [.agg #[v, w]] m (.bool (liB l ts)) := by
  have hb := fun (z : Nat) (o : Option Blk) (m : Mem) (e : m.at 0 = Mem.at [some ⟨flatP l, false, z⟩, o] 0) => few_bg (c := INF) (n := l.length) l (m := m) (b := 0) e rfl rfl hl rfl
  have hn := fun (o1 o2 : Option Blk) (m : Mem) (_ : m.at 0 = Mem.at [o1, o2] 0) => few_ng m
  have h5 := fun (o1 o2 : Option Blk) (m : Mem) (_ : m.at 0 = Mem.at [o1, o2] 0) => few_l5 m
  have rn : Mem.ro [none, none] := fun b blk h => by
    match b, h with
    | 0, h => cases h
    | 1, h => cases h
  have vac : ∀ (τ : Nat → Nat), Lies [none, none] m τ := fun τ b blk h => by
    match b, h with
    | 0, h => cases h
    | 1, h => cases h
  rcases h1 with ⟨A, a0, rfl, a1, a2, a3⟩ | ⟨a1, rfl⟩ | ⟨a1, rfl⟩ <;> rcases h2 with ⟨B, b0, rfl, b1, b2, b3⟩ | ⟨b1, rfl⟩ | ⟨b1, rfl⟩
  · exact PCalls.viaS [i, j] (Light_b (.slice (some ⟨0, 0, none⟩) l.length INF) l ts INF ht (some ⟨flatP l, false, A.esz⟩) (some ⟨flatT ts, false, B.esz⟩) (ro2p _ _ rfl rfl) (hb _ _)) (ro2p _ _ rfl rfl) ⟨⟨_, a1, by unfold Blk.shp Blk.shpR; rw [a3]; rfl, (fun h => nomatch h), .inl ⟨a2, flatP_scal _⟩⟩, ⟨_, b1, by unfold Blk.shp Blk.shpR; rw [b3]; rfl, (fun h => nomatch h), .inl ⟨b2, flatT_scal _⟩⟩, trivial⟩ rfl rfl rfl rfl
  · obtain rfl := List.eq_nil_of_length_eq_zero b1
    exact PCalls.viaS [i, i] (Light_e (.slice (some ⟨0, 0, none⟩) l.length INF) l none (some ⟨flatP l, false, A.esz⟩) (some ⟨flatP l, false, A.esz⟩) (ro2p _ _ rfl rfl) (hb _ _)) (ro2p _ _ rfl rfl) ⟨⟨_, a1, by unfold Blk.shp Blk.shpR; rw [a3]; rfl, (fun h => nomatch h), .inl ⟨a2, flatP_scal _⟩⟩, ⟨_, a1, by unfold Blk.shp Blk.shpR; rw [a3]; rfl, (fun h => nomatch h), .inl ⟨a2, flatP_scal _⟩⟩, trivial⟩ rfl rfl rfl rfl
  · obtain rfl := List.eq_nil_of_length_eq_zero b1
    exact PCalls.viaS [i, i] (Light_e (.slice (some ⟨0, 0, none⟩) l.length INF) l (some ⟨5, 0, some default⟩) (some ⟨flatP l, false, A.esz⟩) (some ⟨flatP l, false, A.esz⟩) (ro2p _ _ rfl rfl) (hb _ _)) (ro2p _ _ rfl rfl) ⟨⟨_, a1, by unfold Blk.shp Blk.shpR; rw [a3]; rfl, (fun h => nomatch h), .inl ⟨a2, flatP_scal _⟩⟩, ⟨_, a1, by unfold Blk.shp Blk.shpR; rw [a3]; rfl, (fun h => nomatch h), .inl ⟨a2, flatP_scal _⟩⟩, trivial⟩ rfl rfl rfl rfl
  · obtain rfl := List.eq_nil_of_length_eq_zero a1
    exact PCalls.viaS [j, j] (Light_b (.slice none 0 0) [] ts INF ht (some ⟨flatT ts, false, B.esz⟩) (some ⟨flatT ts, false, B.esz⟩) (ro2p _ _ rfl rfl) (hn _ _)) (ro2p _ _ rfl rfl) ⟨⟨_, b1, by unfold Blk.shp Blk.shpR; rw [b3]; rfl, (fun h => nomatch h), .inl ⟨b2, flatT_scal _⟩⟩, ⟨_, b1, by unfold Blk.shp Blk.shpR; rw [b3]; rfl, (fun h => nomatch h), .inl ⟨b2, flatT_scal _⟩⟩, trivial⟩ rfl rfl rfl rfl
  · obtain rfl := List.eq_nil_of_length_eq_zero a1
    obtain rfl := List.eq_nil_of_length_eq_zero b1
    exact PCalls.via (fun _ => 0) (Light_e (.slice none 0 0) [] none none none rn (hn _ _)) (vac _) rfl rfl rfl rfl
  · obtain rfl := List.eq_nil_of_length_eq_zero a1
    obtain rfl := List.eq_nil_of_length_eq_zero b1
    exact PCalls.via (fun _ => 0) (Light_e (.slice none 0 0) [] (some ⟨5, 0, some default⟩) none none rn (hn _ _)) (vac _) rfl rfl rfl rfl
  · obtain rfl := List.eq_nil_of_length_eq_zero a1
    exact PCalls.viaS [j, j] (Light_b (.slice (some ⟨5, 0, some default⟩) 0 0) [] ts INF ht (some ⟨flatT ts, false, B.esz⟩) (some ⟨flatT ts, false, B.esz⟩) (ro2p _ _ rfl rfl) (h5 _ _)) (ro2p _ _ rfl rfl) ⟨⟨_, b1, by unfold Blk.shp Blk.shpR; rw [b3]; rfl, (fun h => nomatch h), .inl ⟨b2, flatT_scal _⟩⟩, ⟨_, b1, by unfold Blk.shp Blk.shpR; rw [b3]; rfl, (fun h => nomatch h), .inl ⟨b2, flatT_scal _⟩⟩, trivial⟩ rfl rfl rfl rfl
  · obtain rfl := List.eq_nil_of_length_eq_zero a1
    obtain rfl := List.eq_nil_of_length_eq_zero b1
    exact PCalls.via (fun _ => 0) (Light_e (.slice (some ⟨5, 0, some default⟩) 0 0) [] none none none rn (h5 _ _)) (vac _) rfl rfl rfl rfl
  · obtain rfl := List.eq_nil_of_length_eq_zero a1
    obtain rfl := List.eq_nil_of_length_eq_zero b1
    exact PCalls.via (fun _ => 0) (Light_e (.slice (some ⟨5, 0, some default⟩) 0 0) [] (some ⟨5, 0, some default⟩) none none rn (h5 _ _)) (vac _) rfl rfl rfl rfl
abbrev cpV (k : Nat) (l : List Pn) (ts : List T3) : Value := .agg #[.slice (some ⟨k, 0, none⟩) l.length (cpC l.length), .slice (some ⟨k + 1, 0, none⟩) ts.length (cpC ts.length)]
abbrev cpM (l : List Pn) (ts : List T3) : Mem := [some ⟨flatP l, true, 2⟩, some ⟨flatT ts, true, 3⟩]
theorem Copy_g {m : Mem} {i j : Nat} {v w : Value} {l : List Pn} {ts : List T3} (hij : i ≠ j) (h1 : SlV m i v (flatP l) l.length) (h2 : SlV m j w (flatT ts) ts.length) (hl : l.length ≤ 1000000) (ht : ts.length ≤ 1000000) : ACalls Tryz.prog 15 [.agg #[v, w]] m (cpV m.length l ts) (m ++ cpM l ts) := by
  have c0 : cpC 0 = 0 := rfl
  have cP : ∀ n, 0 < n → cpC n = INF := fun n h => if_neg (by omega)
  have o1 : ∀ σ : Nat → Nat, True := fun _ => trivial
  rcases h1 with ⟨A, a0, rfl, a1, a2, a3⟩ | ⟨a1, rfl⟩ | ⟨a1, rfl⟩ <;> rcases h2 with ⟨B, b0, rfl, b1, b2, b3⟩ | ⟨b1, rfl⟩ | ⟨b1, rfl⟩
  · unfold cpV
    rw [cP _ a0, cP _ b0]
    exact ACalls.viaS (v := .agg #[.slice (some ⟨m.length, 0, none⟩) l.length INF, .slice (some ⟨m.length + 1, 0, none⟩) ts.length INF]) [i, j] [] (cpM l ts) (Copy_bb l INF A.esz hl a0 ts INF B.esz ht b0) ⟨⟨_, a1, by unfold Blk.shp Blk.shpR; rw [a3]; rfl, (fun h => nomatch h), .inl ⟨a2, flatP_scal _⟩⟩, ⟨_, b1, by unfold Blk.shp Blk.shpR; rw [b3]; rfl, (fun h => nomatch h), .inl ⟨b2, flatT_scal _⟩⟩, trivial⟩ (by simpa using hij) ⟨⟨_, rfl, rfl⟩, ⟨_, rfl, rfl⟩, ⟨rfl, rfl, rfl, .inl ⟨rfl, flatP_scal _⟩⟩, ⟨rfl, rfl, rfl, .inl ⟨rfl, flatT_scal _⟩⟩, trivial⟩ rfl rfl rfl rfl
  · obtain rfl := List.eq_nil_of_length_eq_zero b1
    unfold cpV
    rw [cP _ a0]
    exact ACalls.viaS (v := .agg #[.slice (some ⟨m.length, 0, none⟩) l.length INF, .slice (some ⟨m.length + 1, 0, none⟩) 0 0]) [i] [] (cpM l []) (Copy_be l INF A.esz hl a0 none) ⟨⟨_, a1, by unfold Blk.shp Blk.shpR; rw [a3]; rfl, (fun h => nomatch h), .inl ⟨a2, flatP_scal _⟩⟩, trivial⟩ (by simp) ⟨⟨_, rfl, rfl⟩, ⟨rfl, rfl, rfl, .inl ⟨rfl, flatP_scal _⟩⟩, ⟨rfl, rfl, rfl, .inl ⟨rfl, flatT_scal _⟩⟩, trivial⟩ rfl rfl rfl rfl
  · obtain rfl := List.eq_nil_of_length_eq_zero b1
    unfold cpV
    rw [cP _ a0]
    exact ACalls.viaS (v := .agg #[.slice (some ⟨m.length, 0, none⟩) l.length INF, .slice (some ⟨m.length + 1, 0, none⟩) 0 0]) [i] [] (cpM l []) (Copy_be l INF A.esz hl a0 (some ⟨5, 0, some default⟩)) ⟨⟨_, a1, by unfold Blk.shp Blk.shpR; rw [a3]; rfl, (fun h => nomatch h), .inl ⟨a2, flatP_scal _⟩⟩, trivial⟩ (by simp) ⟨⟨_, rfl, rfl⟩, ⟨rfl, rfl, rfl, .inl ⟨rfl, flatP_scal _⟩⟩, ⟨rfl, rfl, rfl, .inl ⟨rfl, flatT_scal _⟩⟩, trivial⟩ rfl rfl rfl rfl
  · obtain rfl := List.eq_nil_of_length_eq_zero a1
    unfold cpV
    rw [cP _ b0]
    exact ACalls.viaS (v := .agg #[.slice (some ⟨m.length, 0, none⟩) 0 0, .slice (some ⟨m.length + 1, 0, none⟩) ts.length INF]) [j] [] (cpM [] ts) (Copy_eb none ts INF B.esz ht b0) ⟨⟨_, b1, by unfold Blk.shp Blk.shpR; rw [b3]; rfl, (fun h => nomatch h), .inl ⟨b2, flatT_scal _⟩⟩, trivial⟩ (by simp) ⟨⟨_, rfl, rfl⟩, ⟨rfl, rfl, rfl, .inl ⟨rfl, flatP_scal _⟩⟩, ⟨rfl, rfl, rfl, .inl ⟨rfl, flatT_scal _⟩⟩, trivial⟩ rfl rfl rfl rfl
  · obtain rfl := List.eq_nil_of_length_eq_zero a1
    obtain rfl := List.eq_nil_of_length_eq_zero b1
    exact ACalls.viaS (v := cpV m.length [] []) [] [] (cpM [] []) (Copy_ee none none) trivial (by simp) ⟨⟨rfl, rfl, rfl, .inl ⟨rfl, flatP_scal _⟩⟩, ⟨rfl, rfl, rfl, .inl ⟨rfl, flatT_scal _⟩⟩, trivial⟩ rfl rfl rfl rfl
  · obtain rfl := List.eq_nil_of_length_eq_zero a1
    obtain rfl := List.eq_nil_of_length_eq_zero b1
    exact ACalls.viaS (v := cpV m.length [] []) [] [] (cpM [] []) (Copy_ee none (some ⟨5, 0, some default⟩)) trivial (by simp) ⟨⟨rfl, rfl, rfl, .inl ⟨rfl, flatP_scal _⟩⟩, ⟨rfl, rfl, rfl, .inl ⟨rfl, flatT_scal _⟩⟩, trivial⟩ rfl rfl rfl rfl
  · obtain rfl := List.eq_nil_of_length_eq_zero a1
    unfold cpV
    rw [cP _ b0]
    exact ACalls.viaS (v := .agg #[.slice (some ⟨m.length, 0, none⟩) 0 0, .slice (some ⟨m.length + 1, 0, none⟩) ts.length INF]) [j] [] (cpM [] ts) (Copy_eb (some ⟨5, 0, some default⟩) ts INF B.esz ht b0) ⟨⟨_, b1, by unfold Blk.shp Blk.shpR; rw [b3]; rfl, (fun h => nomatch h), .inl ⟨b2, flatT_scal _⟩⟩, trivial⟩ (by simp) ⟨⟨_, rfl, rfl⟩, ⟨rfl, rfl, rfl, .inl ⟨rfl, flatP_scal _⟩⟩, ⟨rfl, rfl, rfl, .inl ⟨rfl, flatT_scal _⟩⟩, trivial⟩ rfl rfl rfl rfl
  · obtain rfl := List.eq_nil_of_length_eq_zero a1
    obtain rfl := List.eq_nil_of_length_eq_zero b1
    exact ACalls.viaS (v := cpV m.length [] []) [] [] (cpM [] []) (Copy_ee (some ⟨5, 0, some default⟩) none) trivial (by simp) ⟨⟨rfl, rfl, rfl, .inl ⟨rfl, flatP_scal _⟩⟩, ⟨rfl, rfl, rfl, .inl ⟨rfl, flatT_scal _⟩⟩, trivial⟩ rfl rfl rfl rfl
  · obtain rfl := List.eq_nil_of_length_eq_zero a1
    obtain rfl := List.eq_nil_of_length_eq_zero b1
    exact ACalls.viaS (v := cpV m.length [] []) [] [] (cpM [] []) (Copy_ee (some ⟨5, 0, some default⟩) (some ⟨5, 0, some default⟩)) trivial (by simp) ⟨⟨rfl, rfl, rfl, .inl ⟨rfl, flatP_scal _⟩⟩, ⟨rfl, rfl, rfl, .inl ⟨rfl, flatT_scal _⟩⟩, trivial⟩ rfl rfl rfl rfl
end Go.Proofs.YtmohcmghbfhdlaaGreat
end
end
/- How a net that is an argument of the statements of chapter 6 reads. -/
section
set_option linter.unusedSimpArgs false
set_option linter.unusedVariables false
section
namespace Go.Proofs.YtmohcmghbfhdlaaGreat
open Go.ChangeShapes Go.WideShapes Go.ChangeAt Go Go.RowKit Go.Ab Go.Ls Go.Me
set_option maxRecDepth 100000
def mkT (f : Nat → Int) : T3 := (f 0, f 1, f 2)
theorem cells_t3 : Tryz.prog.cellsOf 62 = 3 := by kernel_rfl
theorem ints_t3 : intsT Tryz.prog 4 62 = true := by kernel_rfl
theorem cells_mn : Tryz.prog.cellsOf 25 = 2 := by kernel_rfl
theorem flatT_nil (ts : List T3) : flatT ts = [] ↔ ts.length = 0 := by
  rw [← List.length_eq_zero_iff, flatT_len]
  omega
theorem open_MN {H : Type} {enc : TypeId × Value → H} {w : World} {base : Nat} {spare : Nat → Bool} {held : Bool} {r : Reach} {b0 : Nat} {v : Value} {d : DataW H} {p : List MemPlace} (hv : Value.okWide Tryz.prog w r b0 25 v) (h : DataW.Trod enc Tryz.prog w base spare held 25 v d p) :
    ∃ a l cap b t cat, v = .agg #[.slice a (List.length (α := Pn) l) cap, .slice b (List.length (α := T3) t) cat] ∧ l.length ≤ cap ∧ cap ≤ maxLen ∧ SlX w a (flatP l) ∧ (a = none → cap = 0) ∧ t.length ≤ cat ∧ cat ≤ maxLen ∧ SlX w b (flatT t) ∧ (b = none → cat = 0) := by
  obtain ⟨cs, rfl, hsz⟩ := okWide_struct Tryz.underlying25 hv
  obtain ⟨l⟩ := cs
  match l, hsz.trans cells_mn with
  | [c0, c1], _ =>
    obtain ⟨fuel, hf⟩ := h
    obtain ⟨xs, n, _, hx, _, hlen, hg⟩ := DataW.trod_struct Tryz.underlying25 hf
    match xs, hlen with
    | [y0, y1], _ =>
      have g0 : DataW.trod enc Tryz.prog w base spare held n 22 [c0] = some y0 := hg 0 _ rfl
      have g1 : DataW.trod enc Tryz.prog w base spare held n 23 [c1] = some y1 := hg 1 _ rfl
      obtain ⟨a, l, cap, rfl, h1, h2, h3, h4, _⟩ := open_ints ptC (fun _ => rfl) mkP (fun f j hj => match j, hj with | 0, _ => rfl | 1, _ => rfl) Tryz.underlying22 cells_mp (by decide) ints_mp g0
      obtain ⟨b, t, cat, rfl, k1, k2, k3, k4, _⟩ := open_ints tcC (fun _ => rfl) mkT (fun f j hj => match j, hj with | 0, _ => rfl | 1, _ => rfl | 2, _ => rfl) Tryz.underlying23 cells_t3 (by decide) ints_t3 g1
      exact ⟨a, l, cap, b, t, cat, rfl, h1, h2, h3, h4, k1, k2, k3, k4⟩
abbrev argN (i : Nat) (a b : Option Addr) (l : List Pn) (ts : List T3) : Value := .agg #[vaX i l.length a.isNone, vaX (i + 1) ts.length b.isNone]
theorem argN_rel {w : World} {ρ : Ren} {i : Nat} {a b : Option Addr} {l : List Pn} {ts : List T3} {cap cat : Nat} (hS : SlX w a (flatP l)) (hT : SlX w b (flatT ts)) (hc : l.length ≤ cap) (hct : ts.length ≤ cat) (hz : a = none → cap = 0) (hzt : b = none → cat = 0) (h1 : ρ i = plX a (flatP l)) (h2 : ρ (i + 1) = plX b (flatT ts)) :
    VRel ρ (argN i a b l ts) (.agg #[.slice a l.length cap, .slice b ts.length cat]) := by
  refine .agg rfl fun j g g' => ?_
  match j, g with
  | 0, _ => exact vaX_rel hS (flatP_nil l) hc hz h1
  | 1, _ => exact vaX_rel hT (flatT_nil ts) hct hzt h2
theorem ro_bl2 (a b : List Value) : Mem.ro [blX a, blX b] := fun k blk hk => by
  match k, hk with
  | 0, hk => exact blX_ro _ _ hk
  | 1, hk => exact blX_ro _ _ hk
end Go.Proofs.YtmohcmghbfhdlaaGreat
end
end
/- Chapter 6: the reference's check of a net whose lists have any form. -/
section
set_option linter.unusedSimpArgs false
set_option linter.unusedVariables false
section
namespace Go.Me
open Go.Ab Go.Ls
theorem ok1_all {n : Nat} {cs : List Value} (h : cs.all scal = true) : cs.all (ok1 n) = true := List.all_eq_true.2 fun v hv => ok1_scal (List.all_eq_true.1 h v hv)
theorem PCalls.two {P : Program} {f : FuncId} {args : List Value} {m : Mem} {cs ds : List Value} {v : Value} (h : PCalls P f args [blX cs, blX ds] v) (hs : cs.all scal = true) (ht : ds.all scal = true) (e0 : m.at 0 = blX cs) (e1 : m.at 1 = blX ds)
    (ha : args.map (rn3 fun b => b) = args) (hk : args.all (ok3 2) = true) (hv : rn3 (fun b => b) v = v) (hkv : ok3 2 v = true) : PCalls P f args m v := by
  refine PCalls.wide h (fun b blk hb => ?_) ha hk hv hkv
  match b, hb with
  | 0, hb =>
    have hb' : blX cs = some blk := hb
    refine ⟨blX_ro _ _ hb', ?_, blk, e0.trans hb', ?_, rfl⟩
    · unfold blX at hb'
      split at hb'
      · cases hb'
      · cases hb'; exact ok1_all hs
    · unfold blX at hb'
      split at hb'
      · cases hb'
      · cases hb'; rfl
  | 1, hb =>
    have hb' : blX ds = some blk := hb
    refine ⟨blX_ro _ _ hb', ?_, blk, e1.trans hb', ?_, rfl⟩
    · unfold blX at hb'
      split at hb'
      · cases hb'
      · cases hb'; exact ok1_all ht
    · unfold blX at hb'
      split at hb'
      · cases hb'
      · cases hb'; rfl
end Go.Me
namespace Go.Proofs.YtmohcmghbfhdlaaGreat
open Go Go.RowKit Go.Ab Go.Me
set_option maxRecDepth 100000
set_option maxHeartbeats 4000000
attribute [local irreducible] OQ OW AL AW AF SW
theorem rCP_x (xa : Option Addr) : PCalls Tryz.prog 59 [.slice xa 0 0] [] (.tuple #[.int .i64 0, .int .i64 0]) := by
  refine PCalls.en 21 Tryz.func59 rfl (ro0) rfl (fun E => ?_)
  repeat' (first | with_reducible (first | refine Then.n ?_ | refine Then.x ?_ | refine InB.hit ?_) | ((with_reducible refine AL.on ?_); first | ((first | ((with_reducible refine AL.k_assign ?_); (refine AL.q rfl (OQ.assign wl) ?_)) | ((with_reducible refine AL.k_move ?_); (refine AL.q rfl (OQ.move wl) ?_)) | ((with_reducible refine AL.k_binOp ?_); first | refine AL.q rfl (OQ.gtr rfl rfl) ?_ | refine AL.q rfl (OQ.lss rfl rfl) ?_) | ((with_reducible refine AL.k_call ?_); refine AL.q rfl (OQ.lenS (xt := 22) (r := (none, 2, true)) rfl kr) ?_)); (refine AL.nm ?_)) | refine AL.nil ?_) | ((with_reducible refine AW.on ?_); first | refine AW.seq ?_ | refine AW.skip ?_ | refine AW.exit ?_ | refine AW.ret ?_ | (refine AW.block (id := 0) ?_; refine AW.unroll 1 ?_) | refine AW.region ?_ | (refine AW.conds rfl (fun hc => ?_) (fun hc => ?_) <;> (try replace hc := nc hc) <;> first | (exfalso; contradiction) | skip)) | with_reducible refine AR.s ?_ | ((with_reducible refine FinP.on ?_); (refine FinP.ret (.tmp wl (.tmp wl .nil)) ?_ rfl); (try simp only [pack, List.drop, List.take]); all_goals (rfl)))
theorem rCP_n (m : Mem) : PCalls Tryz.prog 59 [.slice none 0 0] m (.tuple #[.int .i64 0, .int .i64 0]) := PCalls.any (rCP_x none) rfl rfl m
theorem rCP_l (m : Mem) : PCalls Tryz.prog 59 [lostV] m (.tuple #[.int .i64 0, .int .i64 0]) := PCalls.viaS (m0 := []) (args0 := [lostV]) (v0 := .tuple #[.int .i64 0, .int .i64 0]) [] (rCP_x _) (fun b blk h => by simp [Mem.at] at h) trivial rfl rfl rfl rfl
theorem rCP_v (xa : Option Addr) (h : xa = none ∨ xa = some ⟨0, 0, some default⟩) (m : Mem) : PCalls Tryz.prog 59 [.slice xa 0 0] m (.tuple #[.int .i64 0, .int .i64 0]) := by
  rcases h with rfl | rfl
  · exact rCP_n m
  · exact rCP_l m
theorem cp_nil : cpA [] = 0 ∧ cpB [] = 0 := ⟨by kernel_rfl, by kernel_rfl⟩
theorem rCP_g {m : Mem} {i : Nat} {v : Value} {l : List Pn} (h : SlV m i v (flatP l) l.length) (hl : l.length ≤ 1000000) : PCalls Tryz.prog 59 [v] m (.tuple #[.int .i64 (cpA l), .int .i64 (cpB l)]) := by
  rcases h with ⟨k, h0, rfl, h2, h3, h4⟩ | ⟨h1, rfl⟩ | ⟨h1, rfl⟩
  · exact rCheckPoints_q l h2 h3 rfl hl h4
  · obtain rfl := List.eq_nil_of_length_eq_zero h1
    rw [cp_nil.1, cp_nil.2]
    exact rCP_n m
  · obtain rfl := List.eq_nil_of_length_eq_zero h1
    rw [cp_nil.1, cp_nil.2]
    exact rCP_l m
theorem rCheckNet_c (v w : Value) (l : List Pn) (o1 o2 : Option Blk) (hr : Mem.ro [o1, o2]) (hv : SlV [o1, o2] 0 v (flatP l) l.length) (hl : l.length ≤ 1000000) (h0 : cpB l ≠ 0) : PCalls Tryz.prog 29 [.agg #[v, w]] [o1, o2] (.tuple #[.int .i64 0, .int .i64 (cpB l)]) := by
  have hcp := fun (m : Mem) (e0 : m.at 0 = Mem.at [o1, o2] 0) => rCP_g (m := m) (hv.of e0) hl
  generalize cpB l = E0 at *
  generalize cpA l = A0 at *
  refine PCalls.en 205 Tryz.func29 rfl (hr) rfl (fun E => ?_)
  repeat' (first | with_reducible (first | refine Then.n ?_ | refine Then.r ?_) | ((with_reducible refine AL.on ?_); first | ((first | ((with_reducible refine AL.k_move ?_); (refine AL.q rfl (OQ.move wl) ?_)) | ((with_reducible refine AL.k_assign ?_); (refine AL.q rfl (OQ.assign wl) ?_)) | ((with_reducible refine AL.k_load ?_); (refine AL.q rfl (OQ.load1 (ty := 22) rfl kr wl) ?_)) | ((with_reducible refine AL.k_binOp ?_); refine AL.q rfl (OQ.neq rfl rfl) ?_) | ((with_reducible refine AL.k_fieldAddr ?_); refine AL.q rfl (OQ.fieldA (ty := 25) (i := 0) (n := 1) (off := 0) (g := false) rfl kr (by decide)) ?_) | ((with_reducible refine AL.k_extract ?_); refine AL.q rfl (OQ.extract rfl rfl) ?_)); (refine AL.nm ?_)) | ((refine AL.pcall (g := 59) rfl kr rfl ((by exact hcp _ rfl)) ?_); (refine AL.nm ?_)) | ((((with_reducible refine AL.k_box ?_); (refine AL.w rfl (OW.box wl (by intro r h; cases h)) ?_))); (refine AL.nm ?_); (refine AL.nM ?_)) | refine AL.nil ?_) | ((with_reducible refine AW.on ?_); first | refine AW.seq ?_ | refine AW.ret ?_ | refine AW.region ?_ | (refine AW.conds rfl (fun hc => ?_) (fun hc => ?_) <;> (try replace hc := nc hc) <;> first | (exfalso; contradiction) | skip)) | ((with_reducible refine FinP.on ?_); (refine FinP.ret (.tmp wl (.tmp wl .nil)) ?_ rfl); (try simp only [pack, List.drop, List.take]); all_goals (rfl)))
theorem rCheckNet_8 (v : Value) (l : List Pn) (ts : List T3) (c2 : Nat) (o1 o2 : Option Blk) (hr : Mem.ro [o1, o2]) (hv : SlV [o1, o2] 0 v (flatP l) l.length) (hl : l.length ≤ 1000000) (h0 : cpB l = 0) (h8 : 80 < ts.length) : PCalls Tryz.prog 29 [.agg #[v, .slice (some ⟨1, 0, none⟩) ts.length c2]] [o1, o2] (.tuple #[.int .i64 0, .int .i64 8]) := by
  have hcp := fun (m : Mem) (e0 : m.at 0 = Mem.at [o1, o2] 0) => rCP_g (m := m) (hv.of e0) hl
  rw [h0] at hcp
  generalize cpA l = A0 at *
  refine PCalls.en 205 Tryz.func29 rfl (hr) rfl (fun E => ?_)
  repeat' (first | with_reducible (first | refine Then.n ?_ | refine Then.r ?_) | ((with_reducible refine AL.on ?_); first | ((first | ((with_reducible refine AL.k_move ?_); (refine AL.q rfl (OQ.move wl) ?_)) | ((with_reducible refine AL.k_assign ?_); (refine AL.q rfl (OQ.assign wl) ?_)) | ((with_reducible refine AL.k_load ?_); first | (refine AL.q rfl (OQ.load1 (ty := 22) rfl kr wl) ?_) | (refine AL.q rfl (OQ.load1 (ty := 23) rfl kr wl) ?_)) | ((with_reducible refine AL.k_binOp ?_); first | refine AL.q rfl (OQ.neq rfl rfl) ?_ | refine AL.q rfl (OQ.gtr rfl rfl) ?_) | ((with_reducible refine AL.k_fieldAddr ?_); first | refine AL.q rfl (OQ.fieldA (ty := 25) (i := 0) (n := 1) (off := 0) (g := false) rfl kr (by decide)) ?_ | refine AL.q rfl (OQ.fieldA (ty := 25) (i := 1) (n := 1) (off := 1) (g := false) rfl kr (by decide)) ?_) | ((with_reducible refine AL.k_call ?_); refine AL.q rfl (OQ.lenS (xt := 23) (r := (none, 3, true)) rfl kr) ?_) | ((with_reducible refine AL.k_extract ?_); refine AL.q rfl (OQ.extract rfl rfl) ?_)); (refine AL.nm ?_)) | ((refine AL.pcall (g := 59) rfl kr rfl ((by exact hcp _ rfl)) ?_); (refine AL.nm ?_)) | ((((with_reducible refine AL.k_box ?_); (refine AL.w rfl (OW.box wl (by intro r h; cases h)) ?_))); (refine AL.nm ?_); (refine AL.nM ?_)) | refine AL.nil ?_) | ((with_reducible refine AW.on ?_); first | refine AW.seq ?_ | refine AW.skip ?_ | refine AW.ret ?_ | refine AW.region ?_ | (refine AW.conds rfl (fun hc => ?_) (fun hc => ?_) <;> (try replace hc := nc hc) <;> first | (exfalso; first | contradiction | (omega); done) | skip)) | ((with_reducible refine FinP.on ?_); (refine FinP.ret (.tmp wl (.tmp wl .nil)) ?_ rfl); (try simp only [pack, List.drop, List.take]); all_goals (rfl)))
theorem rCheckNet_6 (xa : Option Addr) (hxa : xa = none ∨ xa = some ⟨0, 0, some default⟩) (ts : List T3) (c2 z : Nat) (h1 : 0 < ts.length) (h8 : ts.length ≤ 80) : PCalls Tryz.prog 29 [.agg #[.slice xa 0 0, .slice (some ⟨1, 0, none⟩) ts.length c2]] [none, some ⟨flatT ts, false, z⟩] (.tuple #[.int .i64 0, .int .i64 6]) := by
  have hcp := fun (m : Mem) => rCP_v xa hxa m
  have hldT := fun (k : Nat) (hk : k < ts.length) (a : Option Blk) (r : Mem) => flatT_ld (m := a :: some ⟨flatT ts, false, z⟩ :: r) (b := 1) (ts := ts) rfl rfl k hk
  have hw := fun (x a b : Int) (m : Mem) => rWithin_q x a b m
  refine PCalls.en 205 Tryz.func29 rfl ((fun k blk hk => by match k, hk with | 1, hk => cases hk; rfl)) rfl (fun E => ?_)
  repeat' (first | with_reducible (first | refine Then.n ?_ | refine Then.r ?_ | refine InB.r ?_) | ((with_reducible refine AL.on ?_); first | ((first | ((with_reducible refine AL.k_move ?_); (refine AL.q rfl (OQ.move wl) ?_)) | ((with_reducible refine AL.k_assign ?_); (refine AL.q rfl (OQ.assign wl) ?_)) | ((with_reducible refine AL.k_load ?_); first | (refine AL.q rfl (OQ.load1 (ty := 22) rfl kr (by (conv => lhs; whnf))) ?_) | (refine AL.q rfl (OQ.load1 (ty := 23) rfl kr (by (conv => lhs; whnf))) ?_) | refine AL.q rfl (OQ.loadN (ty := 62) (n := 3) rfl kr kr (by (exact hldT 0 (by omega) _ _))) ?_) | ((with_reducible refine AL.k_binOp ?_); first | refine AL.q rfl (OQ.neq rfl rfl) ?_ | refine AL.q rfl (OQ.gtr rfl rfl) ?_ | refine AL.q rfl (OQ.lss rfl rfl) ?_) | ((with_reducible refine AL.k_call ?_); refine AL.q rfl (OQ.lenS (xt := 23) (r := (none, 3, true)) rfl kr) ?_) | ((with_reducible refine AL.k_unOp ?_); refine AL.q rfl (OQ.not rfl) ?_) | ((with_reducible refine AL.k_extract ?_); refine AL.q rfl (OQ.extract rfl rfl) ?_)); (refine AL.nm ?_)) | ((first | ((with_reducible refine AL.k_fieldAddr ?_); first | refine AL.q rfl (OQ.fieldA (ty := 25) (i := 0) (n := 1) (off := 0) (g := false) rfl kr (by decide)) ?_ | refine AL.q rfl (OQ.fieldA (ty := 25) (i := 1) (n := 1) (off := 1) (g := false) rfl kr (by decide)) ?_) | ((with_reducible refine AL.k_indexAddr ?_); refine AL.q rfl (OQ.idxAddr (ty := 23) (z := 3) (g := true) rfl rfl kr (by omega) (by omega)) ?_) | ((with_reducible refine AL.k_call ?_); first | refine AL.pcall (g := 59) rfl kr rfl ((by exact hcp _)) ?_ | refine AL.pcall (g := 69) rfl kr rfl ((by exact hw _ _ _ _)) ?_)); (refine AL.nm ?_)) | ((first | ((with_reducible refine AL.k_alloc ?_); refine AL.w rfl (OW.alloc (ty := 62) (z := [.int .i64 0, .int .i64 0, .int .i64 0]) kr rfl) ?_) | ((with_reducible refine AL.k_store ?_); (refine AL.w rfl (OW.store (ty := 62) (n := 3) rfl wl rfl rfl kr rfl rfl (by decide) rfl (Nat.le_of_ble_eq_true rfl) (by intro r h; cases h)) ?_)) | ((with_reducible refine AL.k_box ?_); (refine AL.w rfl (OW.box wl (by intro r h; cases h)) ?_))); (refine AL.nm ?_); (refine AL.nM ?_)) | refine AL.nil ?_) | ((with_reducible refine AW.on ?_); first | refine AW.seq ?_ | refine AW.skip ?_ | refine AW.ret ?_ | (refine AW.block (id := 0) ?_; refine AW.unroll 2 ?_) | (refine AW.block (id := 2) ?_; refine AW.unroll 2 ?_) | refine AW.block ?_ | (refine AW.drawF (id := 14) 7 #[0, 1, 3, 0, 8, 24, 56, 127, 255] kr kr ?_; (conv => (arg 8; simp only [List.take_succ_cons, List.take_zero]))) | refine AW.region ?_ | (refine AW.conds rfl (fun hc => ?_) (fun hc => ?_) <;> (try replace hc := nc hc) <;> first | (exfalso; first | contradiction | (first | omega | (have := rgB_ye hc; omega)); done) | skip)) | ((with_reducible refine AF.on ?_); first | ((first | ((with_reducible refine AF.k_move ?_); (refine AF.q 0 (SW.q (OQ.move wl) rfl) ?_)) | ((with_reducible refine AF.k_load ?_); first | (refine AF.ql rfl (SW.q (OQ.load1 (ty := 3) rfl kr (by (conv => lhs; whnf))) rfl) ?_) | (refine AF.ql rfl (SW.q (OQ.load1 (ty := 22) rfl kr (by (conv => lhs; whnf))) rfl) ?_)) | ((with_reducible refine AF.k_binOp ?_); refine AF.q 0 (SW.q (OQ.subi rfl rfl (by omega)) rfl) ?_) | ((with_reducible refine AF.k_indexAddr ?_); refine AF.q 0 (SW.q (OQ.idxPtr (ty := 62) (n := 1) (l := 3) (g := false) rfl rfl kr (by omega) (by omega)) rfl) ?_) | ((with_reducible refine AF.k_fieldAddr ?_); refine AF.q 0 (SW.q (OQ.fieldA (ty := 25) (i := 0) (n := 1) (off := 0) (g := false) rfl kr (by decide)) rfl) ?_) | ((with_reducible refine AF.k_call ?_); refine AF.q 0 (SW.q (OQ.lenS (xt := 22) (r := (none, 2, true)) rfl kr) rfl) ?_)); (conv => (arg 9; try tactic => exact nrmF)); (conv => (arg 11; try simp only [List.nil_append, List.cons_append]))) | (refine AF.nil ?_ kr; (conv => (arg 4; simp only [List.drop_succ_cons, List.drop_zero, List.drop_nil])))) | with_reducible refine AR.s ?_ | ((with_reducible refine FinP.on ?_); (refine FinP.ret (.tmp wl (.tmp wl .nil)) ?_ rfl); (try simp only [pack, List.drop, List.take]); all_goals (rfl)))
theorem rCheckNet_14 (xa : Option Addr) (v : Value) (l : List Pn) (o1 o2 : Option Blk) (hr : Mem.ro [o1, o2]) (hv : SlV [o1, o2] 0 v (flatP l) l.length) (hl : l.length ≤ 1000000) (h0 : cpB l = 0) : PCalls Tryz.prog 29 [.agg #[v, .slice xa 0 0]] [o1, o2] (.tuple #[.int .i64 0, .int .i64 14]) := by
  have hcp := fun (m : Mem) (e0 : m.at 0 = Mem.at [o1, o2] 0) => rCP_g (m := m) (hv.of e0) hl
  rw [h0] at hcp
  generalize cpA l = A0 at *
  refine PCalls.en 205 Tryz.func29 rfl (hr) rfl (fun E => ?_)
  repeat' (first | with_reducible (first | refine Then.n ?_ | refine Then.r ?_ | refine Then.x ?_ | refine InB.hit ?_) | ((with_reducible refine AL.on ?_); first | (refine AL.gd rfl ?_; (refine AL.gs0 rfl rfl (fun hc => ?_) (fun hc => ?_) <;> (try replace hc := nc hc) <;> first | (exfalso; contradiction) | (refine AL.nm ?_))) | ((first | ((with_reducible refine AL.k_move ?_); (refine AL.q rfl (OQ.move wl) ?_)) | ((with_reducible refine AL.k_assign ?_); (refine AL.q rfl (OQ.assign wl) ?_)) | ((with_reducible refine AL.k_load ?_); first | (refine AL.q rfl (OQ.load1 (ty := 22) rfl kr wl) ?_) | (refine AL.q rfl (OQ.load1 (ty := 23) rfl kr wl) ?_)) | ((with_reducible refine AL.k_binOp ?_); first | refine AL.q rfl (OQ.neq rfl rfl) ?_ | refine AL.q rfl (OQ.gtr rfl rfl) ?_ | refine AL.q rfl (OQ.lss rfl rfl) ?_ | refine AL.q rfl (OQ.eql rfl rfl) ?_) | ((with_reducible refine AL.k_fieldAddr ?_); first | refine AL.q rfl (OQ.fieldA (ty := 25) (i := 0) (n := 1) (off := 0) (g := false) rfl kr (by decide)) ?_ | refine AL.q rfl (OQ.fieldA (ty := 25) (i := 1) (n := 1) (off := 1) (g := false) rfl kr (by decide)) ?_) | ((with_reducible refine AL.k_call ?_); refine AL.q rfl (OQ.lenS (xt := 23) (r := (none, 3, true)) rfl kr) ?_) | ((with_reducible refine AL.k_pick ?_); (refine AL.q rfl (OQ.pickT rfl (by with_reducible rfl) wl) ?_)) | ((with_reducible refine AL.k_extract ?_); refine AL.q rfl (OQ.extract rfl rfl) ?_)); (refine AL.nm ?_)) | ((refine AL.pcall (g := 59) rfl kr rfl ((by exact hcp _ rfl)) ?_); (refine AL.nm ?_)) | ((((with_reducible refine AL.k_box ?_); (refine AL.w rfl (OW.box wl (by intro r h; cases h)) ?_))); (refine AL.nm ?_); (refine AL.nM ?_)) | refine AL.nil ?_) | ((with_reducible refine AW.on ?_); first | refine AW.seq ?_ | refine AW.skip ?_ | refine AW.exit ?_ | refine AW.ret ?_ | (refine AW.block (id := 0) ?_; refine AW.unroll 1 ?_) | (refine AW.block (id := 6) ?_; refine AW.unroll 1 ?_) | refine AW.region ?_ | (refine AW.conds rfl (fun hc => ?_) (fun hc => ?_) <;> (try replace hc := nc hc) <;> first | (exfalso; contradiction) | skip)) | with_reducible refine AR.s ?_ | ((with_reducible refine FinP.on ?_); (refine FinP.ret (.tmp wl (.tmp wl .nil)) ?_ rfl); (try simp only [pack, List.drop, List.take]); all_goals (rfl)))
theorem rCheckNet_g {m : Mem} {v w : Value} {l : List Pn} {ts : List T3} (e0 : m.at 0 = Ls.blX (flatP l)) (e1 : m.at 1 = Ls.blX (flatT ts)) (hv : SlV [Ls.blX (flatP l), Ls.blX (flatT ts)] 0 v (flatP l) l.length) (hw : SlV [Ls.blX (flatP l), Ls.blX (flatT ts)] 1 w (flatT ts) ts.length) (hl : l.length ≤ 1000000) (ht : (ts.length : Int) ≤ 9223372036854775807) :
    PCalls Tryz.prog 29 [.agg #[v, w]] m (.tuple #[.int .i64 (netI l ts), .int .i64 (netE l ts)]) := by
  have key : PCalls Tryz.prog 29 [.agg #[v, w]] [Ls.blX (flatP l), Ls.blX (flatT ts)] (.tuple #[.int .i64 (netI l ts), .int .i64 (netE l ts)]) := by
    by_cases h0 : cpB l ≠ 0
    · have a := rCheckNet_c v w l _ _ (ro_bl2 _ _) hv hl h0
      have e : netI l ts = 0 ∧ netE l ts = cpB l := by
        unfold netI netE
        rw [if_pos h0, if_pos h0]
        exact ⟨rfl, rfl⟩
      rw [e.1, e.2]
      exact a
    · have h0 : cpB l = 0 := Classical.not_not.1 h0
      by_cases hT : ts.length = 0
      · obtain rfl := List.eq_nil_of_length_eq_zero hT
        have e : netI l [] = 0 ∧ netE l [] = 14 := rn_14 h0 (by decide) (fun j h => absurd h (by simp)) (by rfl) (.inl rfl)
        rw [e.1, e.2]
        rcases hw with ⟨_, h1, _⟩ | ⟨_, rfl⟩ | ⟨_, rfl⟩
        · exact absurd h1 (by simp)
        · exact rCheckNet_14 none v l _ _ (ro_bl2 _ _) hv hl h0
        · exact rCheckNet_14 _ v l _ _ (ro_bl2 _ _) hv hl h0
      · have hT0 : 0 < ts.length := by omega
        have e2 : Ls.blX (flatT ts) = some ⟨flatT ts, false, 0⟩ := if_neg (fun h => by have := (flatT_nil ts).1 h; omega)
        rw [(hw.pos hT0).1]
        by_cases h8 : 80 < ts.length
        · have e : netI l ts = 0 ∧ netE l ts = 8 := by
            refine ⟨?_, ?_⟩
            · unfold netI
              rw [if_neg (fun h => h h0), if_pos h8]
            · unfold netE
              rw [if_neg (fun h => h h0), if_pos h8]
          rw [e.1, e.2]
          exact rCheckNet_8 v l ts INF _ _ (ro_bl2 _ _) hv hl h0 h8
        · by_cases hL : l.length = 0
          · obtain rfl := List.eq_nil_of_length_eq_zero hL
            have e := rn_6 (l := []) (ts := ts) (k := 0) h0 (by omega) hT0 (fun j h => absurd h (by omega)) (fun h => by
              unfold inR at h
              simp only [List.length_nil] at h
              omega)
            rw [e.1, e.2, e2]
            rcases hv with ⟨_, h1, _⟩ | ⟨_, rfl⟩ | ⟨_, rfl⟩
            · exact absurd h1 (by simp)
            · exact rCheckNet_6 none (.inl rfl) ts INF 0 hT0 (by omega)
            · exact rCheckNet_6 _ (.inr rfl) ts INF 0 hT0 (by omega)
          · have e1 : Ls.blX (flatP l) = some ⟨flatP l, false, 0⟩ := if_neg (fun h => by have := (flatP_nil l).1 h; omega)
            rw [(hv.pos (by omega)).1, e1, e2]
            exact rCheckNet_b l ts INF INF h0 hT0 (by omega)
  rcases hv with ⟨_, _, rfl, _⟩ | ⟨_, rfl⟩ | ⟨_, rfl⟩ <;> rcases hw with ⟨_, _, rfl, _⟩ | ⟨_, rfl⟩ | ⟨_, rfl⟩ <;> exact PCalls.two key (flatP_scal l) (flatT_scal ts) e0 e1 rfl rfl rfl rfl
end Go.Proofs.YtmohcmghbfhdlaaGreat
end
end
/- Chapter 6: the reference's edges and sides are the program's (plain). -/
section
set_option linter.unusedSimpArgs false
set_option linter.unusedVariables false
namespace Go.Me
open Go.Ab Go.Proofs.YtmohcmghbfhdlaaGreat
set_option maxRecDepth 100000
theorem lf_tri' {ts : List T3} {p : IE × Int} : ∀ n, p ∈ lf ts n → ∃ j : Nat, j < n ∧ (p.1 = ((tr ts j).1, (tr ts j).2.1) ∨ p.1 = ((tr ts j).2.1, (tr ts j).2.2) ∨ p.1 = ((tr ts j).2.2, (tr ts j).1))
  | 0, h => by unfold lf at h; cases h
  | n + 1, h => by
    unfold lf at h
    simp only [List.mem_append, List.mem_singleton] at h
    rcases h with ((h | h) | h) | h
    · obtain ⟨j, h1, h2⟩ := lf_tri' n h
      exact ⟨j, by omega, h2⟩
    · exact ⟨n, by omega, .inl (by rw [h])⟩
    · exact ⟨n, by omega, .inr (.inl (by rw [h]))⟩
    · exact ⟨n, by omega, .inr (.inr (by rw [h]))⟩
theorem lf_ne {l : List Pn} {ts : List T3} (h : NetR l ts) {p : IE × Int} (hp : p ∈ lfA ts) : p.1.1 ≠ p.1.2 := fun e => by
  obtain ⟨j, hj, h1⟩ := lf_tri' _ hp
  obtain ⟨_, h2, h3, _⟩ := trK_0 (h.all j hj)
  unfold ordB at h2
  unfold trS at h3
  rcases h1 with h1 | h1 | h1
  · rw [h1] at e; simp only at e; omega
  · rw [h1] at e; simp only at e
    rw [e, show cr (pt l (tr ts j).1.toNat) (pt l (tr ts j).2.2.toNat) (pt l (tr ts j).2.2.toNat) = 0 from cr_self _ _] at h3
    cases h3
  · rw [h1] at e; simp only at e; omega
theorem pkE_at {l : List Pn} {ts : List T3} (h : NetR l ts) {p : IE × Int} (hp : p ∈ lfA ts) {x : Pn} (hx : x ∈ pkE (lfA ts) p.1) : x.x < x.y ∧ ((p.1 = (x.x, x.y)) ∨ (p.1 = (x.y, x.x) ∧ lk (lfA ts) (x.x, x.y) = -1)) := by
  have hne := lf_ne h hp
  obtain ⟨⟨a, b⟩, i⟩ := p
  unfold pkE at hx
  simp only at hx hne ⊢
  split at hx
  · rename_i hs
    rw [List.mem_singleton] at hx
    subst hx
    simp only
    by_cases hab : a < b
    · rw [if_neg (by omega), if_pos (show b > a by omega)]
      exact ⟨hab, .inl rfl⟩
    · rw [if_pos (show b < a by omega), if_neg (show ¬ b > a by omega)]
      exact ⟨by omega, .inr ⟨rfl, hs.resolve_left hab⟩⟩
  · cases hx
theorem edL_mem {l : List Pn} {ts : List T3} (h : NetR l ts) {x : Pn} : x ∈ edL ts ↔ x.x < x.y ∧ (lk (lfA ts) (x.x, x.y) ≠ -1 ∨ lk (lfA ts) (x.y, x.x) ≠ -1) := by
  unfold edL
  rw [(sortE_perm _).mem_iff]
  unfold eqS
  have hr := fun (F : Nat → List Pn) => List.mem_flatMap (f := F) (b := x) (l := List.range (lfA ts).length)
  rw [hr]
  constructor
  · rintro ⟨j, hj, hx⟩
    rw [List.mem_range] at hj
    unfold pk at hx
    rw [List.getElem?_eq_getElem hj] at hx
    have hp := List.getElem_mem hj
    obtain ⟨h1, h2⟩ := pkE_at h hp hx
    refine ⟨h1, ?_⟩
    have hk : ((lfA ts)[j]).1 ∈ (lfA ts).map (·.1) := List.mem_map.2 ⟨_, hp, rfl⟩
    rcases h2 with h2 | ⟨h2, _⟩
    · rw [h2] at hk
      exact .inl fun hh => (lk_no h).1 hh hk
    · rw [h2] at hk
      exact .inr fun hh => (lk_no h).1 hh hk
  · rintro ⟨h1, h2⟩
    have key : ∀ e : IE, lk (lfA ts) e ≠ -1 → ∃ (j : Nat) (i : Int), (lfA ts)[j]? = some (e, i) := fun e he => by
      have : e ∈ (lfA ts).map (·.1) := Classical.byContradiction fun hh => he (lk_not hh)
      obtain ⟨p, hp, rfl⟩ := List.mem_map.1 this
      obtain ⟨j, hj⟩ := List.mem_iff_getElem?.1 hp
      exact ⟨j, p.2, hj⟩
    by_cases h3 : lk (lfA ts) (x.x, x.y) ≠ -1
    · obtain ⟨j, i, hj⟩ := key _ h3
      refine ⟨j, List.mem_range.2 (List.getElem?_eq_some_iff.1 hj).1, ?_⟩
      unfold pk
      rw [hj]
      show x ∈ pkE (lfA ts) (x.x, x.y)
      unfold pkE
      rw [if_pos (.inl h1)]
      simp only
      rw [if_neg (by omega), if_pos (by omega)]
      exact List.mem_singleton.2 rfl
    · obtain ⟨j, i, hj⟩ := key _ (h2.resolve_left h3)
      refine ⟨j, List.mem_range.2 (List.getElem?_eq_some_iff.1 hj).1, ?_⟩
      unfold pk
      rw [hj]
      show x ∈ pkE (lfA ts) (x.y, x.x)
      unfold pkE
      rw [if_pos (.inr (Classical.not_not.1 h3))]
      simp only
      rw [if_pos (by omega), if_neg (by omega)]
      exact List.mem_singleton.2 rfl
theorem eqS_flat (ts : List T3) : eqS ts (List.range (lfA ts).length) = (lfA ts).flatMap fun p => pkE (lfA ts) p.1 := by
  have e : ∀ k, k ≤ (lfA ts).length → (List.range k).flatMap (pk ts) = ((lfA ts).take k).flatMap fun p => pkE (lfA ts) p.1 := fun k => by
    induction k with
    | zero => intro _; rfl
    | succ k ih =>
      intro hk
      have hg : (lfA ts)[k]? = some (lfA ts)[k] := List.getElem?_eq_getElem (by omega)
      have hpk : pk ts k = pkE (lfA ts) ((lfA ts)[k]).1 := by unfold pk; rw [hg]
      rw [List.range_succ, List.flatMap_append, ih (by omega), List.take_add_one, List.flatMap_append, hg]
      simp [hpk]
  have := e _ (Nat.le_refl _)
  rw [List.take_length] at this
  exact this
theorem edL_nodup {l : List Pn} {ts : List T3} (h : NetR l ts) : (edL ts).Nodup := by
  unfold edL
  rw [(sortE_perm _).nodup_iff, eqS_flat]
  unfold List.Nodup
  rw [List.pairwise_flatMap]
  refine ⟨fun p _ => ?_, ?_⟩
  · unfold pkE
    split
    · exact List.pairwise_singleton _ _
    · exact List.Pairwise.nil
  · have h2 : ((lfA ts).map (·.1)).Nodup := h.ok.nd
    unfold List.Nodup at h2
    rw [List.pairwise_map] at h2
    refine h2.imp_of_mem fun {p q} hp hq hne x hx y hy e => ?_
    subst e
    obtain ⟨_, a2⟩ := pkE_at h hp hx
    obtain ⟨_, b2⟩ := pkE_at h hq hy
    have hkp : p.1 ∈ (lfA ts).map (·.1) := List.mem_map.2 ⟨p, hp, rfl⟩
    have hkq : q.1 ∈ (lfA ts).map (·.1) := List.mem_map.2 ⟨q, hq, rfl⟩
    rcases a2 with a2 | ⟨a2, a3⟩ <;> rcases b2 with b2 | ⟨b2, b3⟩
    · exact hne (a2.trans b2.symm)
    · rw [a2] at hkp
      exact (lk_no h).1 b3 hkp
    · rw [b2] at hkq
      exact (lk_no h).1 a3 hkq
    · exact hne (a2.trans b2.symm)
def reP (ts : List T3) (i k : Nat) : List Pn := if lk (lfA ts) ((i : Int), (k : Int)) ≠ -1 ∨ lk (lfA ts) ((k : Int), (i : Int)) ≠ -1 then [⟨i, k⟩] else []
def reI (ts : List T3) (i : Nat) : Nat → List Pn
  | 0 => []
  | j + 1 => reI ts i j ++ reP ts i (i + 1 + j)
def reE (ts : List T3) (n : Nat) : Nat → List Pn
  | 0 => []
  | i + 1 => reE ts n i ++ reI ts i (n - 1 - i)
theorem reI_mem {ts : List T3} {i : Nat} {x : Pn} : ∀ j, x ∈ reI ts i j ↔ ∃ k : Nat, i < k ∧ k < i + 1 + j ∧ x = ⟨i, k⟩ ∧ (lk (lfA ts) ((i : Int), (k : Int)) ≠ -1 ∨ lk (lfA ts) ((k : Int), (i : Int)) ≠ -1)
  | 0 => by
    unfold reI
    constructor
    · intro h; cases h
    · rintro ⟨k, h1, h2, _⟩
      omega
  | j + 1 => by
    unfold reI
    rw [List.mem_append, reI_mem j]
    unfold reP
    constructor
    · rintro (⟨k, h1, h2, h3, h4⟩ | hx)
      · exact ⟨k, h1, by omega, h3, h4⟩
      · split at hx
        · rename_i hc
          rw [List.mem_singleton] at hx
          exact ⟨i + 1 + j, by omega, by omega, hx, hc⟩
        · cases hx
    · rintro ⟨k, h1, h2, h3, h4⟩
      by_cases hk : k = i + 1 + j
      · subst hk
        rw [if_pos h4]
        exact .inr (List.mem_singleton.2 h3)
      · exact .inl ⟨k, h1, by omega, h3, h4⟩
theorem reE_mem {ts : List T3} {n : Nat} {x : Pn} : ∀ i, i ≤ n → (x ∈ reE ts n i ↔ ∃ a k : Nat, a < i ∧ a < k ∧ k < n ∧ x = ⟨a, k⟩ ∧ (lk (lfA ts) ((a : Int), (k : Int)) ≠ -1 ∨ lk (lfA ts) ((k : Int), (a : Int)) ≠ -1))
  | 0, _ => by
    unfold reE
    constructor
    · intro h; cases h
    · rintro ⟨a, k, h1, _⟩
      omega
  | i + 1, hi => by
    unfold reE
    rw [List.mem_append, reE_mem i (by omega), reI_mem]
    constructor
    · rintro (⟨a, k, h1, h2⟩ | ⟨k, h1, h2, h3⟩)
      · exact ⟨a, k, by omega, h2⟩
      · exact ⟨i, k, by omega, h1, by omega, h3⟩
    · rintro ⟨a, k, h1, h2, h3, h4⟩
      by_cases ha : a = i
      · subst ha
        exact .inr ⟨k, h2, by omega, h4⟩
      · exact .inl ⟨a, k, by omega, h2, h3, h4⟩
theorem reI_sorted (ts : List T3) (i : Nat) : ∀ j, (reI ts i j).Pairwise lexLt
  | 0 => List.Pairwise.nil
  | j + 1 => by
    unfold reI
    rw [List.pairwise_append]
    refine ⟨reI_sorted ts i j, ?_, fun x hx y hy => ?_⟩
    · unfold reP
      split
      · exact List.pairwise_singleton _ _
      · exact List.Pairwise.nil
    · obtain ⟨k, h1, h2, rfl, _⟩ := (reI_mem j).1 hx
      unfold reP at hy
      split at hy
      · rw [List.mem_singleton] at hy
        subst hy
        refine .inr ⟨rfl, ?_⟩
        show (k : Int) < ((i + 1 + j : Nat) : Int)
        omega
      · cases hy
theorem reE_sorted (ts : List T3) (n : Nat) : ∀ i, i ≤ n → (reE ts n i).Pairwise lexLt
  | 0, _ => List.Pairwise.nil
  | i + 1, hi => by
    unfold reE
    rw [List.pairwise_append]
    refine ⟨reE_sorted ts n i (by omega), reI_sorted ts i _, fun x hx y hy => ?_⟩
    obtain ⟨a, k, h1, _, _, rfl, _⟩ := (reE_mem i (by omega)).1 hx
    obtain ⟨b, _, _, rfl, _⟩ := (reI_mem _).1 hy
    unfold lexLt
    simp only
    omega
theorem reE_edL {l : List Pn} {ts : List T3} (h : NetR l ts) : reE ts l.length l.length = edL ts := by
  have hs := reE_sorted ts l.length l.length (Nat.le_refl _)
  have hns : ∀ {x y : Pn}, lexLt x y → ¬ lexLt y x := fun {x y} h1 h2 => by
    unfold lexLt at h1 h2
    omega
  refine sorted_uniq ?_ (hs.imp hns) ?_
  · refine (List.perm_ext_iff_of_nodup ?_ (edL_nodup h)).2 fun x => ?_
    · unfold List.Nodup
      refine hs.imp fun {x y} h1 e => ?_
      subst e
      exact hns h1 h1
    · rw [reE_mem _ (Nat.le_refl _), edL_mem h]
      constructor
      · rintro ⟨a, k, h1, h2, h3, rfl, h4⟩
        exact ⟨by simp only; omega, h4⟩
      · rintro ⟨h1, h2⟩
        have hx := (edL_mem h).2 ⟨h1, h2⟩
        obtain ⟨⟨r1, r2⟩, r3, r4⟩ := edL_rng h.ok x hx
        refine ⟨x.x.toNat, x.y.toNat, by omega, by omega, by omega, ?_, ?_⟩
        · obtain ⟨a, b⟩ := x
          simp only at r1 r3 ⊢
          rw [Int.toNat_of_nonneg r1, Int.toNat_of_nonneg r3]
        · rw [Int.toNat_of_nonneg r1, Int.toNat_of_nonneg r3]
          exact h2
  · unfold edL
    exact sortE_pair _
end Go.Me
end
/- Chapter 6: the reference's edges and sides of a right net, and its comparison of pairs. -/
section
set_option linter.unusedSimpArgs false
set_option linter.unusedVariables false
section
namespace Go.Me
open Go.Ab Go.Proofs.YtmohcmghbfhdlaaGreat
theorem reP_0 {ts : List T3} {i k : Nat} (h1 : lk (lfA ts) ((i : Int), (k : Int)) < 0) (h2 : lk (lfA ts) ((k : Int), (i : Int)) < 0) : reP ts i k = [] := by
  unfold reP
  have a1 := lk_ge ts ts.length ((i : Int), (k : Int))
  have a2 := lk_ge ts ts.length ((k : Int), (i : Int))
  unfold lfA at *
  rw [if_neg (by omega)]
theorem reP_1 {ts : List T3} {i k : Nat} (h : 0 ≤ lk (lfA ts) ((i : Int), (k : Int)) ∨ 0 ≤ lk (lfA ts) ((k : Int), (i : Int))) : reP ts i k = [⟨i, k⟩] := by
  unfold reP
  rw [if_pos (by omega)]
def reX (ts : List T3) (n i j : Nat) : List Pn := reE ts n i ++ reI ts i j
theorem reX_row {ts : List T3} {n i : Nat} (h : i < n) : reX ts n i (n - 1 - i) = reX ts n (i + 1) 0 := by
  unfold reX
  show _ = (reE ts n i ++ reI ts i (n - 1 - i)) ++ []
  rw [List.append_nil]
theorem reX_step {ts : List T3} {n i j : Nat} : reX ts n i (j + 1) = reX ts n i j ++ reP ts i (i + 1 + j) := by
  unfold reX
  show _ ++ (reI ts i j ++ _) = _
  rw [List.append_assoc]
theorem reP_len (ts : List T3) (i k : Nat) : (reP ts i k).length ≤ 1 := by
  unfold reP
  split <;> simp
theorem reI_len (ts : List T3) (i : Nat) : ∀ j, (reI ts i j).length ≤ j
  | 0 => Nat.le_refl _
  | j + 1 => by
    unfold reI
    have := reI_len ts i j
    have := reP_len ts i (i + 1 + j)
    rw [List.length_append]
    omega
theorem reE_len (ts : List T3) (n : Nat) : ∀ i, (reE ts n i).length ≤ n * i
  | 0 => Nat.le_refl _
  | i + 1 => by
    unfold reE
    have := reE_len ts n i
    have := reI_len ts i (n - 1 - i)
    rw [List.length_append, Nat.mul_succ]
    omega
theorem reX_len (ts : List T3) {n i j : Nat} (hn : n ≤ 40) (hi : i ≤ n) (hj : j ≤ n) : (reX ts n i j).length ≤ 2000 := by
  unfold reX
  rw [List.length_append]
  have h1 := reE_len ts n i
  have h2 := reI_len ts i j
  have h3 : n * i ≤ 40 * 40 := Nat.mul_le_mul hn (by omega)
  omega
end Go.Me
namespace Go.Proofs.YtmohcmghbfhdlaaGreat
open Go Go.RowKit Go.Ab Go.Me
set_option maxRecDepth 100000
set_option maxHeartbeats 4000000
attribute [local irreducible] OQ OW AL AW AF SW
theorem Pairs_0 (xs : List Pn) (hl : xs.length ≤ 1000000) (c d z z1 : Nat) : PCalls Tryz.prog 30 [.slice (some ⟨0, 0, none⟩) xs.length c, .slice (some ⟨1, 0, none⟩) xs.length d] [some ⟨flatP xs, false, z⟩, some ⟨flatP xs, false, z1⟩] (.bool true) := by
  have hx := fun (k : Nat) (hk : k < xs.length) (r : Mem) => flatP_ld (m := some ⟨flatP xs, false, z⟩ :: r) (b := 0) (l := xs) rfl rfl k hk
  have hy := fun (k : Nat) (hk : k < xs.length) (a : Option Blk) (r : Mem) => flatP_ld (m := a :: some ⟨flatP xs, false, z1⟩ :: r) (b := 1) (l := xs) rfl rfl k hk
  refine PCalls.en 24 Tryz.func30 rfl (ro2p _ _ rfl rfl) rfl (fun E => ?_)
  repeat' (first | with_reducible (first | refine Then.n ?_ | refine Then.x ?_ | refine InB.n ?_ | refine InB.hit ?_) | ((with_reducible refine AL.on ?_); first | ((first | ((with_reducible refine AL.k_move ?_); (refine AL.q rfl (OQ.move wl) ?_)) | ((with_reducible refine AL.k_assign ?_); (refine AL.q rfl (OQ.assign wl) ?_)) | ((with_reducible refine AL.k_binOp ?_); first | refine AL.q rfl (OQ.neq rfl rfl) ?_ | refine AL.q rfl (OQ.lss rfl rfl) ?_ | refine AL.q rfl (nel_t52 rfl rfl) ?_ | refine AL.q rfl (OQ.addi rfl rfl (by omega)) ?_) | ((with_reducible refine AL.k_call ?_); refine AL.q rfl (OQ.lenS (xt := 45) (r := (none, 2, true)) rfl kr) ?_)); (refine AL.nm ?_)) | refine AL.nil ?_) | ((with_reducible refine AW.on ?_); first | refine AW.seq ?_ | refine AW.skip ?_ | refine AW.exit ?_ | refine AW.ret ?_ | ((refine AW.block (id := 0) ?_); (refine AW.fk [0, 1, 5] ?_); (refine AW.loop (fun n' t' m => ∃ k : Nat, n' = xs.length - k ∧ k ≤ xs.length ∧ t' = (mtz 26 0 [(0, .slice (some ⟨0, 0, none⟩) xs.length c), (1, .slice (some ⟨1, 0, none⟩) xs.length d), (5, .int .i64 (k))]) ∧ m = [some ⟨flatP xs, false, z⟩, some ⟨flatP xs, false, z1⟩]) (xs.length) (by exact ⟨0, rfl, Nat.zero_le _, rfl, rfl⟩) ?_); (rintro n' t' m ⟨k, rfl, hk, rfl, rfl⟩); (refine AW.nT ?_)) | refine AW.block ?_ | (refine AW.drawF (id := 6) 8 #[0, 0, 3, 7, 0, 0, 48, 112, 255] kr kr ?_; (conv => (arg 8; simp only [List.take_succ_cons, List.take_zero]))) | refine AW.region ?_ | (refine AW.conds rfl (fun hc => ?_) (fun hc => ?_) <;> (try replace hc := nc hc) <;> first | (exfalso; contradiction) | skip)) | ((with_reducible refine AF.on ?_); first | ((first | ((with_reducible refine AF.k_move ?_); (refine AF.q 0 (SW.q (OQ.move wl) rfl) ?_)) | ((with_reducible refine AF.k_indexAddr ?_); refine AF.q 0 (SW.q (OQ.idxAddr (ty := 45) (z := 2) (g := true) rfl rfl kr (by omega) (by omega)) rfl) ?_) | ((with_reducible refine AF.k_load ?_); refine AF.ql rfl (SW.q (OQ.loadN (ty := 52) (n := 2) rfl kr kr (by (first | exact hx k (by omega) _ | exact hy k (by omega) _ _))) rfl) ?_)); (conv => (arg 9; try tactic => exact nrmF)); (conv => (arg 11; try simp only [List.nil_append, List.cons_append]))) | (refine AF.nil ?_ kr; (conv => (arg 4; simp only [List.drop_succ_cons, List.drop_zero, List.drop_nil])))) | ((with_reducible refine ex_on ?_); (refine ⟨xs.length - (k + 1), _, _, by omega, ?_, k + 1, rfl, by omega, rfl, rfl⟩; exact Wk.fk [0, 1, 5] rfl)) | ((with_reducible refine FinP.on ?_); (refine FinP.ret (.tmp wl .nil) ?_ rfl); (try simp only [pack, List.drop, List.take]); all_goals (rfl)))
theorem Pairs_q {m : Mem} {b b' n n' c d : Nat} {X Y : Blk} (xs : List Pn) (hl : xs.length ≤ 1000000) (hn : xs.length = n) (hn' : xs.length = n') (x1 : m.at b = some X) (x2 : X.cells = flatP xs) (y1 : m.at b' = some Y) (y2 : Y.cells = flatP xs) (x3 : X.obj = Ob.plain) (y3 : Y.obj = Ob.plain) :
    PCalls Tryz.prog 30 [.slice (some ⟨b, 0, none⟩) n c, .slice (some ⟨b', 0, none⟩) n' d] m (.bool true) := by
  subst hn
  subst hn'
  exact PCalls.viaS [b, b'] (Pairs_0 xs hl c d X.esz Y.esz) (ro2p _ _ rfl rfl) ⟨⟨_, x1, by unfold Blk.shp Blk.shpR; rw [x3]; rfl, (fun h => nomatch h), .inl ⟨x2, flatP_scal _⟩⟩, ⟨_, y1, by unfold Blk.shp Blk.shpR; rw [y3]; rfl, (fun h => nomatch h), .inl ⟨y2, flatP_scal _⟩⟩, trivial⟩ rfl rfl rfl rfl
theorem rSides_0 (l : List Pn) (ts : List T3) (hR : NetR l ts) (c c2 : Nat) (hEd : ∀ (m : Mem) (A B : Blk) (a1 : m.at 0 = some A) (a2 : A.cells = flatP l) (b1 : m.at 1 = some B) (b2 : B.cells = flatT ts) (a3 : A.obj = Ob.plain) (b3 : B.obj = Ob.plain) (a4 : A.esz = 0) (b4 : B.esz = 0), ACalls Tryz.prog 31 [.agg #[.slice (some ⟨0, 0, none⟩) l.length c, .slice (some ⟨1, 0, none⟩) ts.length c2]] m (.slice (some ⟨m.length, 0, none⟩) (edL ts).length INF) (m ++ [some ⟨flatP (edL ts), true, 2⟩])) :
    ACalls Tryz.prog 32 [.agg #[.slice (some ⟨0, 0, none⟩) l.length c, .slice (some ⟨1, 0, none⟩) ts.length c2]] [some ⟨flatP l, false, 0⟩, some ⟨flatT ts, false, 0⟩] (.slice (some ⟨2, 0, none⟩) (edL ts).length INF) [some ⟨flatP l, false, 0⟩, some ⟨flatT ts, false, 0⟩, some ⟨flatP (sdL ts), true, 2⟩] := by
  have hh : ∀ (a b : Int) (m : Mem) (blk : Blk) (h1 : m.at 1 = some blk) (h2 : blk.cells = flatT ts) (h3 : blk.obj = Ob.plain), PCalls Tryz.prog 75 [.slice (some ⟨1, 0, none⟩) ts.length c2, .int .i64 a, .int .i64 b] m (.int .i64 (lk (lfA ts) (a, b))) := fun a b m blk h1 h2 h3 => has_q (c := c2) ts (Nat.le_refl _) (by have := hR.le; omega) a b h1 h2 h3
  have hps : ∀ k, k < (edL ts).length → (flatP (edL ts))[k * 2]? = some (.int .i64 (pt (edL ts) k).x) ∧ (flatP (edL ts))[k * 2 + 1]? = some (.int .i64 (pt (edL ts) k).y) := fun k hk => flatP_get (edL ts) k hk
  have hpos := edL_pos hR
  have hle := edL_le ts
  have h80 := hR.le
  have hsd : ∀ k, k < (edL ts).length → flatP ((sdL ts).take k) ++ [.int .i64 (lk (lfA ts) ((pt (edL ts) k).x, (pt (edL ts) k).y)), .int .i64 (lk (lfA ts) ((pt (edL ts) k).y, (pt (edL ts) k).x))] = flatP ((sdL ts).take (k + 1)) := fun k hk => by
    have := flatP_take (es := sdL ts) (k := k) (by rw [sdL_len]; exact hk)
    rw [sdL_pt hk] at this
    exact this
  have hfl : ∀ k, k ≤ (edL ts).length → (flatP ((sdL ts).take k)).length = k * 2 := fun k hk => by rw [flatP_len, List.length_take, sdL_len, Nat.min_eq_left hk]
  have htl : (sdL ts).take (edL ts).length = sdL ts := by rw [← sdL_len, List.take_length]
  refine ACalls.en 44 Tryz.func32 rfl rfl (fun E hE => ?_)
  repeat' (first | with_reducible (first | refine Then.n ?_ | refine Then.x ?_ | refine InB.n ?_ | refine InB.hit ?_) | ((with_reducible refine AL.on ?_); first | ((first | ((with_reducible refine AL.k_move ?_); (refine AL.q rfl (OQ.move wl) ?_)) | ((with_reducible refine AL.k_assign ?_); (refine AL.q rfl (OQ.assign wl) ?_)) | ((with_reducible refine AL.k_load ?_); refine AL.q rfl (OQ.loadN (ty := 25) (n := 2) rfl kr kr (by rfl)) ?_) | ((with_reducible refine AL.k_call ?_); refine AL.q rfl (OQ.lenS (xt := 45) (r := (none, 2, true)) rfl kr) ?_) | ((with_reducible refine AL.k_binOp ?_); first | refine AL.q rfl (OQ.lss rfl rfl) ?_ | refine AL.q rfl (OQ.addi rfl rfl (by omega)) ?_)); (refine AL.nm ?_)) | ((first | ((with_reducible refine AL.k_call ?_); first | refine AL.acall (g := 31) rfl kr rfl ((by exact hEd _ _ _ rfl rfl rfl rfl rfl rfl rfl rfl)) ?_ | refine AL.w rfl (by first | exact OW.appendNil (e := 52) (z := 2) (zs := [.int .i64 0, .int .i64 0]) (by' := 16) rfl rfl kr kr kr rfl kr (by decide) rfl (by decide) (by decide) | exact OW.appendL (e := 52) (z := 2) (zs := [.int .i64 0, .int .i64 0]) (by' := 16) rfl rfl kr kr kr rfl kr (by decide) rfl rfl rfl (by decide) (by exact hfl k (by omega)) rfl rfl (by omega) (by omega)) ?_) | ((with_reducible refine AL.k_box ?_); (refine AL.w rfl (OW.box wl (by intro r h; cases h)) ?_))); (refine AL.nm ?_); (refine AL.nM ?_)) | refine AL.nil ?_) | ((with_reducible refine AW.on ?_); first | refine AW.seq ?_ | refine AW.skip ?_ | refine AW.exit ?_ | refine AW.ret ?_ | ((refine AW.block (id := 0) ?_); (refine AW.fk [1, 3, 4, 5] ?_); (refine AW.loop (fun n' t' m => ∃ k : Nat, n' = (edL ts).length - k ∧ k ≤ (edL ts).length ∧ ((k = 0 ∧ t' = [jk, .pointer (some ⟨2, 0, none⟩), jk, .slice none 0 0, .slice (some ⟨3, 0, none⟩) ((edL ts).length) INF, .int .i64 (k), jk, jk, jk, jk, jk, jk, jk, jk, jk, jk, jk, jk, jk, jk, jk, jk, jk, jk, jk, jk, jk, jk, jk, jk, jk, jk, jk, jk, jk, jk, jk, jk, jk, jk, jk, jk, jk, jk, jk] ∧ m = [some ⟨flatP l, false, 0⟩, some ⟨flatT ts, false, 0⟩, some ⟨[.slice (some ⟨0, 0, none⟩) l.length c, .slice (some ⟨1, 0, none⟩) ts.length c2], true, 0⟩, some ⟨flatP (edL ts), true, 2⟩]) ∨ (0 < k ∧ t' = [jk, .pointer (some ⟨2, 0, none⟩), jk, .slice (some ⟨4, 0, none⟩) (k) INF, .slice (some ⟨3, 0, none⟩) ((edL ts).length) INF, .int .i64 (k), jk, jk, jk, jk, jk, jk, jk, jk, jk, jk, jk, jk, jk, jk, jk, jk, jk, jk, jk, jk, jk, jk, jk, jk, jk, jk, jk, jk, jk, jk, jk, jk, jk, jk, jk, jk, jk, jk, jk] ∧ m = [some ⟨flatP l, false, 0⟩, some ⟨flatT ts, false, 0⟩, some ⟨[.slice (some ⟨0, 0, none⟩) l.length c, .slice (some ⟨1, 0, none⟩) ts.length c2], true, 0⟩, some ⟨flatP (edL ts), true, 2⟩, some ⟨flatP ((sdL ts).take k), true, 2⟩]))) ((edL ts).length) (by exact ⟨0, rfl, Nat.zero_le _, .inl ⟨rfl, rfl, rfl⟩⟩) ?_); (rintro n' t' m ⟨k, rfl, hk, (⟨hk0, rfl, rfl⟩ | ⟨hk1, rfl, rfl⟩)⟩)) | refine AW.block ?_ | (refine AW.drawF (id := 6) 29 #[0, 0, 2, 0, 0, 24, 56, 120, 0, 0, 768, 1792, 3840, 8190, 0, 16384, 0, 0, 196608, 458752, 983040, 0, 0, 6291456, 14680064, 31457280, 67108862, 134217726, 268435454, 536870911, 1073741823] kr kr ?_; (conv => (arg 8; simp only [List.take_succ_cons, List.take_zero]))) | refine AW.region ?_ | (refine AW.conds rfl (fun hc => ?_) (fun hc => ?_) <;> (try replace hc := nc hc) <;> first | (exfalso; ((omega); done)) | skip)) | ((with_reducible refine AF.on ?_); first | ((first | ((with_reducible refine AF.k_move ?_); (refine AF.q 0 (SW.q (OQ.move wl) rfl) ?_)) | ((with_reducible refine AF.k_indexAddr ?_); first | refine AF.q 0 (SW.q (OQ.idxAddr (ty := 45) (z := 2) (g := true) rfl rfl kr (by omega) (by omega)) rfl) ?_ | refine AF.q 0 (SW.q (OQ.idxPtr (ty := 52) (n := 1) (l := 2) (g := false) rfl rfl kr (by omega) (by omega)) rfl) ?_) | ((with_reducible refine AF.k_load ?_); first | (refine AF.ql rfl (SW.q (OQ.load1 (ty := 23) rfl kr (by (conv => lhs; whnf))) rfl) ?_) | (refine AF.ql rfl (SW.q (OQ.load1 (ty := 3) rfl kr (by (first | exact (hps k (by omega)).1 | exact (hps k (by omega)).2))) rfl) ?_)) | ((with_reducible refine AF.k_call ?_); refine AF.q 2 (SW.pcall (g := 75) rfl kr rfl ((by exact hh _ _ _ _ rfl rfl rfl)) rfl) ?_) | ((with_reducible refine AF.k_fieldAddr ?_); refine AF.q 0 (SW.q (OQ.fieldA (ty := 25) (i := 1) (n := 1) (off := 1) (g := false) rfl kr (by decide)) rfl) ?_) | ((with_reducible refine AF.k_build ?_); refine AF.q 0 (SW.q (OQ.buildA (ty := 52) (zs := [.int .i64 0, .int .i64 0]) (n := 1) (k := 2) (g := false) kr rfl kr rfl rfl rfl) rfl) ?_)); (conv => (arg 9; try tactic => exact nrmF)); (conv => (arg 11; try simp only [List.nil_append, List.cons_append]))) | ((refine AF.n1 0 (SW.w (OW.buildSl (ty := 45) (zs := [.int .i64 0, .int .i64 0]) (n := 2) (g := true) kr kr rfl rfl rfl (by decide) (by decide) rfl rfl) rfl) rfl ?_); (conv => (arg 9; try tactic => exact nrmF)); (conv => (arg 11; try simp only [List.nil_append, List.cons_append])); (conv => (arg 10; try tactic => exact nrmF))) | (refine AF.nil ?_ kr; (conv => (arg 4; simp only [List.drop_succ_cons, List.drop_zero, List.drop_nil])))) | ((with_reducible refine ex_on ?_); first | (obtain rfl := hk0; have hf0 := hsd 0 (by omega); refine ⟨(edL ts).length - 1, [jk, .pointer (some ⟨2, 0, none⟩), jk, .slice (some ⟨4, 0, none⟩) (1) INF, .slice (some ⟨3, 0, none⟩) ((edL ts).length) INF, .int .i64 (((0 + 1 : Nat) : Int)), jk, jk, jk, jk, jk, jk, jk, jk, jk, jk, jk, jk, jk, jk, jk, jk, jk, jk, jk, jk, jk, jk, jk, jk, jk, jk, jk, jk, jk, jk, jk, jk, jk, jk, jk, jk, jk, jk, jk], [some ⟨flatP l, false, 0⟩, some ⟨flatT ts, false, 0⟩, some ⟨[.slice (some ⟨0, 0, none⟩) l.length c, .slice (some ⟨1, 0, none⟩) ts.length c2], true, 0⟩, some ⟨flatP (edL ts), true, 2⟩, some ⟨[.int .i64 (lk (lfA ts) ((pt (edL ts) 0).x, (pt (edL ts) 0).y)), .int .i64 (lk (lfA ts) ((pt (edL ts) 0).y, (pt (edL ts) 0).x))], true, 2⟩], by omega, ?_, 0 + 1, rfl, by omega, .inr ⟨by omega, rfl, by rw [← hf0]; rfl⟩⟩; exact Wk.keep 4 [5] (by rw [hE]; exact Nat.le_of_ble_eq_true rfl) rfl rfl (by repeat (first | exact RenT.nil | refine RenT.jk ?_ | refine RenT.val (by rfl) (by rfl) ?_)) ⟨⟨_, rfl, rfl, rfl, .inl ⟨rfl, flatP_scal l⟩⟩, ⟨_, rfl, rfl, rfl, .inl ⟨rfl, flatT_scal ts⟩⟩, ⟨_, rfl, rfl, rfl, .inr ⟨rfl, rfl⟩⟩, ⟨_, rfl, rfl, rfl, .inl ⟨rfl, flatP_scal _⟩⟩, ⟨_, rfl, rfl, rfl, .inl ⟨rfl, rfl⟩⟩, trivial⟩) | (have hf0 := hsd k (by omega); refine ⟨(edL ts).length - (k + 1), [jk, .pointer (some ⟨2, 0, none⟩), jk, .slice (some ⟨4, 0, none⟩) (k + 1) INF, .slice (some ⟨3, 0, none⟩) ((edL ts).length) INF, .int .i64 (((k + 1 : Nat) : Int)), jk, jk, jk, jk, jk, jk, jk, jk, jk, jk, jk, jk, jk, jk, jk, jk, jk, jk, jk, jk, jk, jk, jk, jk, jk, jk, jk, jk, jk, jk, jk, jk, jk, jk, jk, jk, jk, jk, jk], [some ⟨flatP l, false, 0⟩, some ⟨flatT ts, false, 0⟩, some ⟨[.slice (some ⟨0, 0, none⟩) l.length c, .slice (some ⟨1, 0, none⟩) ts.length c2], true, 0⟩, some ⟨flatP (edL ts), true, 2⟩, some ⟨flatP ((sdL ts).take k) ++ [.int .i64 (lk (lfA ts) ((pt (edL ts) k).x, (pt (edL ts) k).y)), .int .i64 (lk (lfA ts) ((pt (edL ts) k).y, (pt (edL ts) k).x))], true, 2⟩], by omega, ?_, k + 1, rfl, by omega, .inr ⟨by omega, rfl, by rw [← hf0]⟩⟩; exact Wk.keep 4 [6] (by rw [hE]; exact Nat.le_of_ble_eq_true rfl) rfl rfl (by repeat (first | exact RenT.nil | refine RenT.jk ?_ | refine RenT.val (by rfl) (by rfl) ?_)) ⟨⟨_, rfl, rfl, rfl, .inl ⟨rfl, flatP_scal l⟩⟩, ⟨_, rfl, rfl, rfl, .inl ⟨rfl, flatT_scal ts⟩⟩, ⟨_, rfl, rfl, rfl, .inr ⟨rfl, rfl⟩⟩, ⟨_, rfl, rfl, rfl, .inl ⟨rfl, flatP_scal _⟩⟩, ⟨_, rfl, rfl, rfl, .inl ⟨rfl, by rw [List.all_append, flatP_scal]; rfl⟩⟩, trivial⟩)) | ((with_reducible refine FinA.on ?_); (obtain rfl : k = (edL ts).length := (by omega); rw [htl]; refine FinA.keep 2 [4] (.inl rfl) (.tmp wl .nil) ?_ rfl (Nat.le_of_eq hE) rfl rfl ⟨⟨_, rfl, rfl, rfl, .inl ⟨rfl, flatP_scal l⟩⟩, ⟨_, rfl, rfl, rfl, .inl ⟨rfl, flatT_scal ts⟩⟩, ⟨_, rfl, rfl, rfl, .inl ⟨rfl, flatP_scal _⟩⟩, trivial⟩; rfl)))
end Go.Proofs.YtmohcmghbfhdlaaGreat
end
end
/- Chapter 6: the reference's edges of a right net. -/
section
set_option linter.unusedSimpArgs false
set_option linter.unusedVariables false
section
namespace Go.Proofs.YtmohcmghbfhdlaaGreat
open Go Go.RowKit Go.Ab Go.Me
set_option maxRecDepth 100000
set_option maxHeartbeats 4000000
attribute [local irreducible] OQ OW AL AW AF SW
theorem rEdges_0 (l : List Pn) (ts : List T3) (hR : NetR l ts) (c c2 : Nat) :
    ACalls Tryz.prog 31 [.agg #[.slice (some ⟨0, 0, none⟩) l.length c, .slice (some ⟨1, 0, none⟩) ts.length c2]] [some ⟨flatP l, false, 0⟩, some ⟨flatT ts, false, 0⟩] (.slice (some ⟨2, 0, none⟩) (edL ts).length INF) [some ⟨flatP l, false, 0⟩, some ⟨flatT ts, false, 0⟩, some ⟨flatP (edL ts), true, 2⟩] := by
  have hh : ∀ (a b : Int) (m : Mem) (blk : Blk) (h1 : m.at 1 = some blk) (h2 : blk.cells = flatT ts) (h3 : blk.obj = Ob.plain), PCalls Tryz.prog 75 [.slice (some ⟨1, 0, none⟩) ts.length c2, .int .i64 a, .int .i64 b] m (.int .i64 (lk (lfA ts) (a, b))) := fun a b m blk h1 h2 h3 => has_q (c := c2) ts (Nat.le_refl _) (by have := hR.le; omega) a b h1 h2 h3
  have h80 := hR.le
  have h40 := (cp_ok hR.cp).1
  have hn2 := two_of hR.all hR.g.1
  have hpos := edL_pos hR
  have a1 : ∀ i, reX ts l.length i (i + 1 - i - 1) = reX ts l.length i 0 := fun i => by rw [show i + 1 - i - 1 = 0 by omega]
  have a2 : ∀ i, i < l.length → reX ts l.length i (l.length - i - 1) = reX ts l.length (i + 1) 0 := fun i hi => by
    rw [show l.length - i - 1 = l.length - 1 - i by omega]
    exact reX_row hi
  have a3 : ∀ i k : Nat, i < k → (0 ≤ lk (lfA ts) ((i : Int), (k : Int)) ∨ 0 ≤ lk (lfA ts) ((k : Int), (i : Int))) → reX ts l.length i (k + 1 - i - 1) = reX ts l.length i (k - i - 1) ++ [⟨i, k⟩] := fun i k hk h => by
    rw [show k + 1 - i - 1 = (k - i - 1) + 1 by omega, reX_step, show i + 1 + (k - i - 1) = k by omega, reP_1 h]
  have a4 : ∀ i k : Nat, i < k → lk (lfA ts) ((i : Int), (k : Int)) < 0 → lk (lfA ts) ((k : Int), (i : Int)) < 0 → reX ts l.length i (k + 1 - i - 1) = reX ts l.length i (k - i - 1) := fun i k hk h1 h2 => by
    rw [show k + 1 - i - 1 = (k - i - 1) + 1 by omega, reX_step, show i + 1 + (k - i - 1) = k by omega, reP_0 h1 h2, List.append_nil]
  have a5 : reX ts l.length 0 0 = [] := rfl
  have a6 : reX ts l.length l.length 0 = edL ts := by
    rw [← reE_edL hR]
    show _ ++ [] = _
    rw [List.append_nil]
  have a7 : ∀ i k : Nat, i ≤ l.length → k ≤ l.length → (reX ts l.length i (k - i - 1)).length ≤ 2000 := fun i k h1 h2 => reX_len ts h40 h1 (by omega)
  have a8 : ∀ i : Nat, i ≤ l.length → (reX ts l.length i 0).length ≤ 2000 := fun i h1 => reX_len ts h40 h1 (by omega)
  have hfl := flatP_len
  have hsn : ∀ (X : List Pn) (i k : Nat), flatP (X ++ [⟨i, k⟩]) = flatP X ++ [.int .i64 (i : Int), .int .i64 (k : Int)] := fun X i k => flatP_snoc X ⟨i, k⟩
  generalize hRK : (fun i k : Nat => reX ts l.length i (k - i - 1)) = RK at *
  generalize hOX : (fun i : Nat => reX ts l.length i 0) = OX at *
  have e1 : ∀ i k : Nat, reX ts l.length i (k - i - 1) = RK i k := fun i k => by rw [← hRK]
  have e2 : ∀ i : Nat, reX ts l.length i 0 = OX i := fun i => by rw [← hOX]
  simp only [e1, e2] at a1 a2 a3 a4 a5 a6 a7 a8
  clear hRK hOX e1 e2
  refine ACalls.en 42 Tryz.func31 rfl rfl (fun E hE => ?_)
  repeat' (first | with_reducible (first | refine Then.n ?_ | refine Then.x ?_ | refine InB.n ?_ | refine InB.hit ?_) | ((with_reducible refine AL.on ?_); first | (refine AL.gd rfl ?_; (refine AL.gs0 rfl rfl (fun hc => ?_) (fun hc => ?_) <;> (try replace hc := nc hc) <;> first | (exfalso; contradiction) | (refine AL.nm ?_))) | ((first | ((with_reducible refine AL.k_move ?_); (refine AL.q rfl (OQ.move wl) ?_)) | ((with_reducible refine AL.k_assign ?_); (refine AL.q rfl (OQ.assign wl) ?_)) | ((with_reducible refine AL.k_binOp ?_); first | refine AL.q rfl (OQ.lss rfl rfl) ?_ | refine AL.q rfl (OQ.addi rfl rfl (by omega)) ?_ | refine AL.q rfl (OQ.geq rfl rfl) ?_) | ((with_reducible refine AL.k_call ?_); refine AL.q rfl (OQ.lenS (xt := 22) (r := (none, 2, true)) rfl kr) ?_) | ((with_reducible refine AL.k_fieldAddr ?_); first | refine AL.q rfl (OQ.fieldA (ty := 25) (i := 0) (n := 1) (off := 0) (g := false) rfl kr (by decide)) ?_ | refine AL.q rfl (OQ.fieldA (ty := 25) (i := 1) (n := 1) (off := 1) (g := false) rfl kr (by decide)) ?_) | ((with_reducible refine AL.k_load ?_); first | (refine AL.q rfl (OQ.load1 (ty := 22) rfl kr wl) ?_) | (refine AL.q rfl (OQ.load1 (ty := 23) rfl kr wl) ?_)) | ((with_reducible refine AL.k_pick ?_); first | (refine AL.q rfl (OQ.pickT rfl (by with_reducible rfl) wl) ?_) | (refine AL.q rfl (OQ.pickF rfl (by with_reducible rfl) wl) ?_))); (refine AL.nm ?_)) | ((first | ((with_reducible refine AL.k_call ?_); refine AL.pcall (g := 75) rfl kr rfl ((by exact hh _ _ _ _ rfl rfl rfl)) ?_) | ((with_reducible refine AL.k_build ?_); refine AL.q rfl (OQ.buildA (ty := 52) (zs := [.int .i64 0, .int .i64 0]) (n := 1) (k := 2) (g := false) kr rfl kr rfl rfl rfl) ?_)); (refine AL.nm ?_)) | ((first | ((with_reducible refine AL.k_call ?_); refine AL.w rfl (by first | exact OW.appendNil (e := 52) (z := 2) (zs := [.int .i64 0, .int .i64 0]) (by' := 16) rfl rfl kr kr kr rfl kr (by decide) rfl (by decide) (by decide) | exact OW.appendL (e := 52) (z := 2) (zs := [.int .i64 0, .int .i64 0]) (by' := 16) rfl rfl kr kr kr rfl kr (by decide) rfl rfl rfl (by decide) (by exact hfl _) rfl rfl (by omega) (by omega)) ?_) | ((with_reducible refine AL.k_box ?_); (refine AL.w rfl (OW.box wl (by intro r h; cases h)) ?_)) | ((with_reducible refine AL.k_buildSlice ?_); refine AL.w rfl (OW.buildSl (ty := 45) (zs := [.int .i64 0, .int .i64 0]) (n := 2) (g := true) kr kr rfl rfl rfl (by decide) (by decide) rfl rfl) ?_)); (refine AL.nm ?_); (refine AL.nM ?_)) | refine AL.nil ?_) | ((with_reducible refine AW.on ?_); first | refine AW.seq ?_ | refine AW.skip ?_ | refine AW.exit ?_ | refine AW.ret ?_ | ((refine AW.block (id := 0) ?_); (refine AW.fk [1, 3, 4] ?_); (refine AW.loop (fun n' t' m => ∃ i : Nat, n' = l.length - i ∧ i ≤ l.length ∧ ((OX i = [] ∧ t' = [jk, .pointer (some ⟨2, 0, none⟩), jk, .slice none 0 0, .int .i64 (i), jk, jk, jk, jk, jk, jk, jk, jk, jk, jk, jk, jk, jk, jk, jk, jk, jk, jk, jk, jk, jk, jk, jk, jk, jk, jk, jk, jk, jk, jk, jk, jk, jk, jk, jk, jk, jk, jk] ∧ m = [some ⟨flatP l, false, 0⟩, some ⟨flatT ts, false, 0⟩, some ⟨[.slice (some ⟨0, 0, none⟩) l.length c, .slice (some ⟨1, 0, none⟩) ts.length c2], true, 0⟩]) ∨ (0 < (OX i).length ∧ t' = [jk, .pointer (some ⟨2, 0, none⟩), jk, .slice (some ⟨3, 0, none⟩) ((OX i).length) INF, .int .i64 (i), jk, jk, jk, jk, jk, jk, jk, jk, jk, jk, jk, jk, jk, jk, jk, jk, jk, jk, jk, jk, jk, jk, jk, jk, jk, jk, jk, jk, jk, jk, jk, jk, jk, jk, jk, jk, jk, jk] ∧ m = [some ⟨flatP l, false, 0⟩, some ⟨flatT ts, false, 0⟩, some ⟨[.slice (some ⟨0, 0, none⟩) l.length c, .slice (some ⟨1, 0, none⟩) ts.length c2], true, 0⟩, some ⟨flatP (OX i), true, 2⟩]))) (l.length) (by exact ⟨0, rfl, Nat.zero_le _, .inl ⟨a5, rfl, rfl⟩⟩) ?_); (rintro n' t' m ⟨i, rfl, hi, (⟨hi0, rfl, rfl⟩ | ⟨hi1, rfl, rfl⟩)⟩)) | ((refine AW.block (id := 2) ?_); (refine AW.fk [1, 3, 4, 5] ?_); (refine AW.loop (fun n' t' m => ∃ k : Nat, n' = l.length - k ∧ i < k ∧ k ≤ l.length ∧ ((RK i k = [] ∧ t' = [jk, .pointer (some ⟨2, 0, none⟩), jk, .slice none 0 0, .int .i64 (i), .int .i64 (k), jk, jk, jk, jk, jk, jk, jk, jk, jk, jk, jk, jk, jk, jk, jk, jk, jk, jk, jk, jk, jk, jk, jk, jk, jk, jk, jk, jk, jk, jk, jk, jk, jk, jk, jk, jk, jk] ∧ m = [some ⟨flatP l, false, 0⟩, some ⟨flatT ts, false, 0⟩, some ⟨[.slice (some ⟨0, 0, none⟩) l.length c, .slice (some ⟨1, 0, none⟩) ts.length c2], true, 0⟩]) ∨ (0 < (RK i k).length ∧ t' = [jk, .pointer (some ⟨2, 0, none⟩), jk, .slice (some ⟨3, 0, none⟩) ((RK i k).length) INF, .int .i64 (i), .int .i64 (k), jk, jk, jk, jk, jk, jk, jk, jk, jk, jk, jk, jk, jk, jk, jk, jk, jk, jk, jk, jk, jk, jk, jk, jk, jk, jk, jk, jk, jk, jk, jk, jk, jk, jk, jk, jk, jk] ∧ m = [some ⟨flatP l, false, 0⟩, some ⟨flatT ts, false, 0⟩, some ⟨[.slice (some ⟨0, 0, none⟩) l.length c, .slice (some ⟨1, 0, none⟩) ts.length c2], true, 0⟩, some ⟨flatP (RK i k), true, 2⟩]))) (l.length - (i + 1)) (by first | exact ⟨i + 1, rfl, by omega, by omega, .inl ⟨(a1 i).trans hi0, rfl, rfl⟩⟩ | exact ⟨i + 1, rfl, by omega, by omega, .inr ⟨by rw [a1 i]; exact hi1, by rw [a1 i]; rfl, by rw [a1 i]⟩⟩) ?_); (rintro n' t' m ⟨k, rfl, hik, hk, (⟨hk0, rfl, rfl⟩ | ⟨hk1, rfl, rfl⟩)⟩)) | refine AW.block ?_ | (refine AW.region (id := 8) ?_; ((have q7 := a7 i k (by omega) (by omega)))) | refine AW.region ?_ | (refine AW.conds rfl (fun hc => ?_) (fun hc => ?_) <;> (try replace hc := nc hc) <;> first | (exfalso; contradiction) | skip)) | ((with_reducible refine ex_on ?_); first | ((obtain rfl : k = l.length := (by omega); have q2 := a2 i (by omega); first | (refine ⟨l.length - (i + 1), _, _, by omega, ?_, i + 1, rfl, by omega, .inl ⟨q2.symm.trans hk0, rfl, rfl⟩⟩; exact Wk.fk [1, 3, 4] rfl) | (rw [q2]; refine ⟨l.length - (i + 1), _, _, by omega, ?_, i + 1, rfl, by omega, .inr ⟨by rw [← q2]; exact hk1, rfl, rfl⟩⟩; exact Wk.fk [1, 3, 4] rfl))) | (first | (have q := a4 i k hik (by omega) (by omega); refine ⟨l.length - (k + 1), _, _, by omega, ?_, k + 1, rfl, by omega, by omega, .inl ⟨q.trans hk0, rfl, rfl⟩⟩; exact Wk.fk [1, 3, 4, 5] rfl) | (have q := a4 i k hik (by omega) (by omega); rw [← q]; refine ⟨l.length - (k + 1), _, _, by omega, ?_, k + 1, rfl, by omega, by omega, .inr ⟨by rw [q]; exact hk1, rfl, rfl⟩⟩; exact Wk.fk [1, 3, 4, 5] rfl) | (have q := a3 i k hik (by omega); rw [hk0, List.nil_append] at q; refine ⟨l.length - (k + 1), [jk, .pointer (some ⟨2, 0, none⟩), jk, .slice (some ⟨3, 0, none⟩) (1) INF, .int .i64 (i), .int .i64 (k + 1), jk, jk, jk, jk, jk, jk, jk, jk, jk, jk, jk, jk, jk, jk, jk, jk, jk, jk, jk, jk, jk, jk, jk, jk, jk, jk, jk, jk, jk, jk, jk, jk, jk, jk, jk, jk, jk], [some ⟨flatP l, false, 0⟩, some ⟨flatT ts, false, 0⟩, some ⟨[.slice (some ⟨0, 0, none⟩) l.length c, .slice (some ⟨1, 0, none⟩) ts.length c2], true, 0⟩, some ⟨[.int .i64 (i : Int), .int .i64 (k : Int)], true, 2⟩], by omega, ?_, k + 1, rfl, by omega, by omega, .inr ⟨by rw [q]; exact Nat.one_pos, by rw [q]; rfl, by rw [q]; rfl⟩⟩; exact Wk.keep 3 [4] (by rw [hE]; exact Nat.le_of_ble_eq_true rfl) rfl rfl (by repeat (first | exact RenT.nil | refine RenT.jk ?_ | refine RenT.val (by rfl) (by rfl) ?_)) ⟨⟨_, rfl, rfl, rfl, .inl ⟨rfl, flatP_scal l⟩⟩, ⟨_, rfl, rfl, rfl, .inl ⟨rfl, flatT_scal ts⟩⟩, ⟨_, rfl, rfl, rfl, .inr ⟨rfl, rfl⟩⟩, ⟨_, rfl, rfl, rfl, .inl ⟨rfl, rfl⟩⟩, trivial⟩) | (have q := a3 i k hik (by omega); refine ⟨l.length - (k + 1), [jk, .pointer (some ⟨2, 0, none⟩), jk, .slice (some ⟨3, 0, none⟩) ((RK i k).length + 1) INF, .int .i64 (i), .int .i64 (k + 1), jk, jk, jk, jk, jk, jk, jk, jk, jk, jk, jk, jk, jk, jk, jk, jk, jk, jk, jk, jk, jk, jk, jk, jk, jk, jk, jk, jk, jk, jk, jk, jk, jk, jk, jk, jk, jk], [some ⟨flatP l, false, 0⟩, some ⟨flatT ts, false, 0⟩, some ⟨[.slice (some ⟨0, 0, none⟩) l.length c, .slice (some ⟨1, 0, none⟩) ts.length c2], true, 0⟩, some ⟨flatP (RK i k) ++ [.int .i64 (i : Int), .int .i64 (k : Int)], true, 2⟩], by omega, ?_, k + 1, rfl, by omega, by omega, .inr ⟨by rw [q, List.length_append]; exact Nat.succ_pos _, by rw [q, List.length_append]; rfl, by rw [q, hsn]⟩⟩; exact Wk.keep 3 [5] (by rw [hE]; exact Nat.le_of_ble_eq_true rfl) rfl rfl (by repeat (first | exact RenT.nil | refine RenT.jk ?_ | refine RenT.val (by rfl) (by rfl) ?_)) ⟨⟨_, rfl, rfl, rfl, .inl ⟨rfl, flatP_scal l⟩⟩, ⟨_, rfl, rfl, rfl, .inl ⟨rfl, flatT_scal ts⟩⟩, ⟨_, rfl, rfl, rfl, .inr ⟨rfl, rfl⟩⟩, ⟨_, rfl, rfl, rfl, .inl ⟨rfl, by rw [List.all_append, flatP_scal]; rfl⟩⟩, trivial⟩))) | ((with_reducible refine FinA.on ?_); (obtain rfl : i = l.length := (by omega); first | (exfalso; rw [a6] at hi0; rw [hi0] at hpos; exact absurd hpos (by simp)) | (rw [a6]; refine FinA.keep 2 [3] (.inl rfl) (.tmp wl .nil) ?_ rfl (Nat.le_of_eq hE) rfl rfl ⟨⟨_, rfl, rfl, rfl, .inl ⟨rfl, flatP_scal l⟩⟩, ⟨_, rfl, rfl, rfl, .inl ⟨rfl, flatT_scal ts⟩⟩, ⟨_, rfl, rfl, rfl, .inl ⟨rfl, flatP_scal _⟩⟩, trivial⟩; rfl))))
end Go.Proofs.YtmohcmghbfhdlaaGreat
end
end
/- Chapter 6: the copy of a net in blocks, its edges, in a greater memory. -/
section
set_option linter.unusedSimpArgs false
set_option linter.unusedVariables false
section
namespace Go.Me
open Go.Ab Go.Proofs.YtmohcmghbfhdlaaGreat
theorem liB_le {l : List Pn} {ts : List T3} (h : liB l ts = true) : l.length ≤ 1000 ∧ ts.length ≤ 1000 := by
  unfold liB fwB fwT at h
  rw [Bool.and_eq_true, decide_eq_true_iff, decide_eq_true_iff] at h
  omega
end Go.Me
namespace Go.Proofs.YtmohcmghbfhdlaaGreat
open Go Go.RowKit Go.Ab Go.Me
set_option maxRecDepth 100000
theorem Copy_y {m : Mem} {i j : Nat} {A B : Blk} {l : List Pn} {ts : List T3} (hij : i ≠ j) (h0 : 0 < l.length) (h1 : 0 < ts.length) (hl : l.length ≤ 1000000) (ht : ts.length ≤ 1000000) (a1 : m.at i = some A) (a2 : A.cells = flatP l) (b1 : m.at j = some B) (b2 : B.cells = flatT ts) (a3 : A.obj = Ob.plain) (b3 : B.obj = Ob.plain) :
    ACalls Tryz.prog 15 [.agg #[.slice (some ⟨i, 0, none⟩) l.length INF, .slice (some ⟨j, 0, none⟩) ts.length INF]] m (.agg #[.slice (some ⟨m.length, 0, none⟩) l.length INF, .slice (some ⟨m.length + 1, 0, none⟩) ts.length INF]) (m ++ cpM l ts) := by
  have h := Copy_g hij (.blk A h0 rfl a1 a2 a3) (.blk B h1 rfl b1 b2 b3) hl ht
  unfold cpV at h
  rw [show cpC l.length = INF from if_neg (by omega), show cpC ts.length = INF from if_neg (by omega)] at h
  exact h
theorem Edges_q {m : Mem} {bP bT n k c c2 : Nat} (l : List Pn) (ts : List T3) (hA : ArgN m bP bT l ts) (hn : l.length = n) (hk : ts.length = k) (hR : NetR l ts) :
    ACalls Tryz.prog 27 [.agg #[.slice (some ⟨bP, 0, none⟩) n c, .slice (some ⟨bT, 0, none⟩) k c2]] m (.tuple #[.slice (some ⟨m.length, 0, none⟩) (edL ts).length INF, .int .i64 0]) (m ++ [some ⟨flatP (edL ts), true, 2⟩]) := by
  subst hn hk
  obtain ⟨⟨A, h1, h2, h3, h4⟩, ⟨B, h5, h6, h7⟩, hne⟩ := hA
  have h := ACalls.viaS (m := m) (args := [.agg #[.slice (some ⟨bP, 0, none⟩) l.length c, .slice (some ⟨bT, 0, none⟩) ts.length c2]]) (v := .tuple #[.slice (some ⟨m.length, 0, none⟩) (edL ts).length INF, .int .i64 0]) [bP, bT] [] [some ⟨flatP (edL ts), true, 2⟩] (Edges_y0 l ts c c2 A.esz B.esz h3 hR) ⟨⟨_, h1, by unfold Blk.shp Blk.shpR; rw [h4]; rfl, (fun h => nomatch h), .inl ⟨h2, flatP_scal _⟩⟩, ⟨_, h5, by unfold Blk.shp Blk.shpR; rw [h7]; rfl, (fun h => nomatch h), .inl ⟨h6, flatT_scal _⟩⟩, trivial⟩ (by simpa using hne) ⟨⟨_, rfl, rfl⟩, ⟨_, rfl, rfl⟩, ⟨rfl, rfl, rfl, .inl ⟨rfl, flatP_scal _⟩⟩, trivial⟩ rfl rfl rfl rfl
  exact h
end Go.Proofs.YtmohcmghbfhdlaaGreat
end
end
/- Chapter 6: edges and sides in a greater memory; those of a wrong net. -/
section
set_option linter.unusedSimpArgs false
set_option linter.unusedVariables false
section
namespace Go.Proofs.YtmohcmghbfhdlaaGreat
open Go Go.RowKit Go.Ab Go.Me
set_option maxRecDepth 100000
set_option maxHeartbeats 4000000
theorem rEdges_q {m : Mem} {bP bT : Nat} {A B : Blk} (l : List Pn) (ts : List T3) (hR : NetR l ts) (c c2 : Nat) (hne : bP ≠ bT) (a1 : m.at bP = some A) (a2 : A.cells = flatP l) (b1 : m.at bT = some B) (b2 : B.cells = flatT ts) (a3 : A.obj = Ob.plain) (b3 : B.obj = Ob.plain) (a4 : A.esz = 0) (b4 : B.esz = 0) :
    ACalls Tryz.prog 31 [.agg #[.slice (some ⟨bP, 0, none⟩) l.length c, .slice (some ⟨bT, 0, none⟩) ts.length c2]] m (.slice (some ⟨m.length, 0, none⟩) (edL ts).length INF) (m ++ [some ⟨flatP (edL ts), true, 2⟩]) := by
  have h := ACalls.viaS (m := m) (args := [.agg #[.slice (some ⟨bP, 0, none⟩) l.length c, .slice (some ⟨bT, 0, none⟩) ts.length c2]]) (v := .slice (some ⟨m.length, 0, none⟩) (edL ts).length INF) [bP, bT] [] [some ⟨flatP (edL ts), true, 2⟩] (rEdges_0 l ts hR c c2) ⟨⟨_, a1, by unfold Blk.shp Blk.shpR; rw [a3, a4]; rfl, (fun h => nomatch h), .inl ⟨a2, flatP_scal _⟩⟩, ⟨_, b1, by unfold Blk.shp Blk.shpR; rw [b3, b4]; rfl, (fun h => nomatch h), .inl ⟨b2, flatT_scal _⟩⟩, trivial⟩ (by simpa using hne) ⟨⟨_, rfl, rfl⟩, ⟨_, rfl, rfl⟩, ⟨rfl, rfl, rfl, .inl ⟨rfl, flatP_scal _⟩⟩, trivial⟩ rfl rfl rfl rfl
  exact h
theorem rSides_q {m : Mem} {bP bT : Nat} {A B : Blk} (l : List Pn) (ts : List T3) (hR : NetR l ts) (c c2 : Nat) (hne : bP ≠ bT) (a1 : m.at bP = some A) (a2 : A.cells = flatP l) (b1 : m.at bT = some B) (b2 : B.cells = flatT ts) (a3 : A.obj = Ob.plain) (b3 : B.obj = Ob.plain) (a4 : A.esz = 0) (b4 : B.esz = 0) :
    ACalls Tryz.prog 32 [.agg #[.slice (some ⟨bP, 0, none⟩) l.length c, .slice (some ⟨bT, 0, none⟩) ts.length c2]] m (.slice (some ⟨m.length, 0, none⟩) (edL ts).length INF) (m ++ [some ⟨flatP (sdL ts), true, 2⟩]) := by
  have h := ACalls.viaS (m := m) (args := [.agg #[.slice (some ⟨bP, 0, none⟩) l.length c, .slice (some ⟨bT, 0, none⟩) ts.length c2]]) (v := .slice (some ⟨m.length, 0, none⟩) (edL ts).length INF) [bP, bT] [] [some ⟨flatP (sdL ts), true, 2⟩] (rSides_0 l ts hR c c2 fun m A B a1 a2 b1 b2 a3 b3 a4 b4 => rEdges_q l ts hR c c2 (by decide) a1 a2 b1 b2 a3 b3 a4 b4) ⟨⟨_, a1, by unfold Blk.shp Blk.shpR; rw [a3, a4]; rfl, (fun h => nomatch h), .inl ⟨a2, flatP_scal _⟩⟩, ⟨_, b1, by unfold Blk.shp Blk.shpR; rw [b3, b4]; rfl, (fun h => nomatch h), .inl ⟨b2, flatT_scal _⟩⟩, trivial⟩ (by simpa using hne) ⟨⟨_, rfl, rfl⟩, ⟨_, rfl, rfl⟩, ⟨rfl, rfl, rfl, .inl ⟨rfl, flatP_scal _⟩⟩, trivial⟩ rfl rfl rfl rfl
  exact h
theorem Edges_e {m : Mem} {bP bT n k c c2 : Nat} (l : List Pn) (ts : List T3) (hA : ArgN m bP bT l ts) (hn : l.length = n) (hk : ts.length = k) (hl : l.length ≤ 1000000) (he : netE l ts ≠ 0) :
    PCalls Tryz.prog 27 [.agg #[.slice (some ⟨bP, 0, none⟩) n c, .slice (some ⟨bT, 0, none⟩) k c2]] m (.tuple #[.slice none 0 0, .int .i64 (netE l ts)]) := by
  subst hn hk
  obtain ⟨⟨A, h1, h2, h3, h4⟩, ⟨B, h5, h6, h7⟩, _⟩ := hA
  exact PCalls.viaS [bP, bT] (Edges_e0 l ts c c2 A.esz B.esz h3 hl he) (ro2p _ _ rfl rfl) ⟨⟨_, h1, by unfold Blk.shp Blk.shpR; rw [h4]; rfl, (fun h => nomatch h), .inl ⟨h2, flatP_scal _⟩⟩, ⟨_, h5, by unfold Blk.shp Blk.shpR; rw [h7]; rfl, (fun h => nomatch h), .inl ⟨h6, flatT_scal _⟩⟩, trivial⟩ rfl rfl rfl rfl
theorem Sides_e {m : Mem} {bP bT n k c c2 : Nat} (l : List Pn) (ts : List T3) (hA : ArgN m bP bT l ts) (hn : l.length = n) (hk : ts.length = k) (hl : l.length ≤ 1000000) (he : netE l ts ≠ 0) :
    PCalls Tryz.prog 28 [.agg #[.slice (some ⟨bP, 0, none⟩) n c, .slice (some ⟨bT, 0, none⟩) k c2]] m (.tuple #[.slice none 0 0, .int .i64 (netE l ts)]) := by
  subst hn hk
  obtain ⟨⟨A, h1, h2, h3, h4⟩, ⟨B, h5, h6, h7⟩, _⟩ := hA
  exact PCalls.viaS [bP, bT] (Sides_e0 l ts c c2 A.esz B.esz h3 hl he) (ro2p _ _ rfl rfl) ⟨⟨_, h1, by unfold Blk.shp Blk.shpR; rw [h4]; rfl, (fun h => nomatch h), .inl ⟨h2, flatP_scal _⟩⟩, ⟨_, h5, by unfold Blk.shp Blk.shpR; rw [h7]; rfl, (fun h => nomatch h), .inl ⟨h6, flatT_scal _⟩⟩, trivial⟩ rfl rfl rfl rfl
end Go.Proofs.YtmohcmghbfhdlaaGreat
end
end
