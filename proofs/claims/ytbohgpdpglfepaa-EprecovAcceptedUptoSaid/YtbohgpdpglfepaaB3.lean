import Derived.Test.YtbohgpdpglfepaaU18
import Derived.Test.YtbohgpdpglfepaaV4
set_option maxHeartbeats 4000000
set_option maxRecDepth 10000
set_option linter.unusedVariables false
set_option linter.unusedSimpArgs false
namespace Go.AM
open Go.RowKit
/-- Nil in an own row's cells is a slice without elements. -/
theorem Imp.coeRow {C : Ctx} {σ : L} (κ : Nat) {sz : Nat} {e : TypeId} {rows rows' : List (List T)} (hv : look σ (.vec κ) = some (.r sz e rows)) (h : All2 (All2 CT) rows rows') : Imp C σ (put σ (.vec κ) (.r sz e rows')) := by
  intro a w ⟨G, ρ, hr⟩
  obtain ⟨sz1, e1, rows1, g1, g2⟩ := hr.vec κ _ hv
  injection g1 with g1 g1' g1''
  subst g1; subst g1'; subst g1''
  have hl := h.length
  have g3 : VecRep G w (ρ κ) sz e rows' := by
    obtain ⟨h0, xs, hown, hel⟩ := g2
    refine ⟨?_, xs, by rw [← hl]; exact hown, ?_⟩
    · intro i cells hi
      obtain ⟨c0, h1, h2⟩ := h.get hi
      rw [← h2.length]; exact h0 i c0 h1
    · intro i cells k t hi hk
      obtain ⟨c0, h1, h2⟩ := h.get hi
      obtain ⟨t0, h3, h4⟩ := h2.get hk
      obtain ⟨u, u1, u2, u3⟩ := hel i c0 k t0 h1 h3
      exact ⟨u, u1, u2, h4.rep u3⟩
  have h2 := hr.know (l := .vec κ) (c := .r sz e rows') (κ := κ) rfl
    (fun b' hb' => hr.live _ _ κ b' hv rfl hb')
    (fun l' c' κ2 b' hl hk2 hb2 hb => hr.inj l' c' _ _ κ2 κ b' hl hv hk2 rfl hb2 hb)
    (by simp)
    (fun _ => ⟨sz, e, rows', rfl, g3⟩)
  exact ⟨G, ρ, by rw [look_put]; exact h2⟩
end Go.AM
namespace Go.Proofs.Ytbohgpdpglfepaa
open Go.AM Go.RowKit
attribute [local irreducible] AWP thenL blockL AM.Leaves LeavesO RunD
attribute [local go_sem] runs stepR actF inF frzA frzW lastW act act1 actPick actNil actBin
  actUn actConv actExtract actFieldAddr actField actAlloc keysOf actBox actLoad treesOf actStore actIndex
  actLen actMx srcL actAppend actMake actBuild actBuildSlice boundL actSlice actCall actEqS isStruct
  isSlice actText actCopy litsOf kindsOK fieldsPlain eqAll eqop dstB dstN boolS litB
  litV sv binv unv lits takeC cellsR trees cellsW mxv repl parts
  fillAt fillRows V1.cs mkV ev evr AM.look put del applyL delD wrD
  undefS SV.to V1.to At.to keysL notIn freshKey PV.up PR.up entry entryV evp
  isAt actPtrNil capsL actFunc sameV sameVs pureCtx doc mkVar AM.Loc.key Cont.keys SV.keys
  V1.keys At.keys Cont.sub SV.sub V1.sub At.sub guardR argsL callR Nat.blt_eq Nat.blt Nat.ble
  Nat.beq_eq_true_eq beq_self_eq_true Array.toList List.map List.append_eq List.nil_append List.cons_append List.append_nil List.append_assoc Bool.and_eq_true decide_true decide_false
  decide_eq_true_eq Bool.not_true Bool.not_false reduceCtorEq if_true if_false ite_true ite_false reduceIte AM.Loc.slot.injEq AM.Loc.cell.injEq AM.Loc.vec.injEq
  List.getElem?_cons_zero List.getElem?_cons_succ List.getElem?_nil Option.map_some Option.map_none Option.toList List.flatMap_nil List.flatMap_cons Bool.and_true Bool.true_and Bool.and_false Bool.false_and
  Bool.true_eq_false Bool.false_eq_true Nat.reduceBEq Nat.reduceEqDiff bool_beq_tt bool_beq_ff bool_beq_tf bool_beq_ft List.length_cons List.length_nil List.drop List.take
  List.drop_zero List.take_zero List.all_cons List.all_nil Value.oneCell' Nat.zero_add Nat.reduceAdd Nat.reduceMul Nat.reduceSub Nat.reduceLT Nat.reduceLeDiff Int.reduceLT
  Int.reduceLE Int.reduceEq Int.reduceBEq Int.reduceBNe Int.reduceAdd Int.reduceSub Int.reduceMul Int.reduceNeg Int.reduceToNat Nat.succ_ne_zero List.replicate and_true
  true_and and_false false_and and_self ge_iff_le gt_iff_lt bne_self_eq_false List.zip_cons_cons List.zip_nil_left List.zip List.zipWith Int.natCast_nonneg
  Int.toNat_natCast List.getElem?_map List.length_map sT sI sB sR sP rV AllIn Int.toNat_zero Int.ofNat_zero
  Int.natCast_zero Nat.le_refl List.mapM_cons List.mapM_nil Option.bind_eq_bind Option.bind_some Option.pure_def List.set_cons_zero List.set_cons_succ List.length_set tt2 tt3
  tt4 tt5 tt9 tt12 tt21 tt22 tt23 tt24 tt25 tt36 tt37 tt43
  tt44 tt51 tt52 tt53 tt59 tt67 tt68 tt69 tt74 tt75 tt76 tt77
  tt78 tt79 tt89 tt92 tt95 tt96 tt97 tt98 tt99 tt102 tt103 tt106
  tt107 tt108 tt114 tt115 tt116 tt117 tt118 tt119 tt120 tt122 tt124 tt125
  tt126 tt127 tt130 tt131 tt132 tt133 tt134 tt135 tt137 tt138 tt139 tt147
  tt148 tt149 tt159 tt164 tt165 tt167 tt168 tt169 tt170 tt171 tt190 tt191
  tt194 tt200 tt208 tt212
attribute [local go_sem] vlit bal rInt rBool vInts pInts vvInts vPairs att vAtts vBy cm iv vvBy lI lB rpL vRp rK plL tK vK

/-- A tally behind one more answer. -/
def repB (t : TY) (f x : Int) (y : List Int) : Bool := jaOK [(t.S, t.D), (x, y)] && decide (0 ≤ f ∧ f < t.n ∧ f ∉ t.who)
def repT (t : TY) (f x : Int) (y : List Int) (same : Bool) : TY := if repB t f x y then { t with who := t.who ++ [f], S := mx2 t.S x, D := mxL t.D y, ag := t.ag && same } else t
theorem s64z (t : TY) (f x : Int) (y : List Int) (same : Bool) (hw : t.who.length ≤ 100) : Does Try.prog 64 [.one (.ptr 100000 0), .one (lI f), .agg [lI x, .t (vInts y)], .one (lB same)] (tK 100000 100001 t) (.v (.one (lB (repB t f x y)))) (tK 100000 29 (repT t f x y same)) := by
  cases hj : jaOK [(t.S, t.D), (x, y)] with
  | false =>
    have h1 : repB t f x y = false := by simp [repB, hj]
    rw [repT, h1, if_neg (by simp)]
    exact s64a t f x y same hj
  | true =>
    by_cases hf : 0 ≤ f ∧ f < t.n ∧ f ∉ t.who
    · have h1 : repB t f x y = true := by simp [repB, hj, hf]
      rw [repT, h1, if_pos rfl]
      exact s64c t f x y same hw hj hf
    · have h1 : repB t f x y = false := by simp only [repB, hj, Bool.true_and, decide_eq_false_iff_not]; exact hf
      rw [repT, h1, if_neg (by simp)]
      exact s64b t f x y same hw hj hf

/-- What a tally chooses, not late. -/
def chS (t : TY) : Int × Int × List Int := if maj t.n ≤ t.who.length then (if (t.first && t.ag) = true then (if fast t.n ≤ t.who.length then (1, t.s, t.d) else (0, 0, [])) else (2, t.S, t.D)) else (0, 0, [])
theorem s66z (t : TY) (hd : t.d.length * 8 ≤ 140737488351232) (hD : t.D.length * 8 ≤ 140737488351232) : Does Try.prog 66 [.one (.ptr 100000 0), .one (lB false)] (tK 100000 100001 t) (.v (.agg [lI (chS t).1, lI (chS t).2.1, .t (vInts (chS t).2.2)])) (tK 100000 100001 t) := by
  have kw60 := s60 t.n t.who
  have kw61 := s61 t.n t.who
  by_cases h1 : maj t.n ≤ t.who.length
  · cases h2 : t.first with
    | false =>
      have hf : chS t = (2, t.S, t.D) := by simp [chS, h1, h2]
      rw [hf]
      refine does_of_body Try.func66 rfl (by simp [Try.f66]) rfl rfl ?_; rw [Try.ntmps66, Try.results66]; intro w0 G0 ρ0
      ((repeat' (first | refine thenL_n ?_ | refine thenL_r ?_ | refine thenL_x ?_ | refine blockL_n ?_ | refine blockL_r ?_ | refine blockL_x ?_ | refine blockL_y rfl ?_ | refine awp_seq ?_ | refine awp_block ?_ | refine awp_ret ?_ | refine awp_exit ?_ | refine awp_skip ?_ | exact absurd hcond (by decide) | (first | (refine awp_txt ?_; refine runs_to [] (by simp only [go_sem, h1, h2]; rfl) ?_) | (refine awp_draw mixed ?_; refine runs_to [] (by simp only [go_sem, h1, h2]; rfl) ?_)) | refine runD_nil ⟨by kernel_rfl, ?_⟩ | refine runD_nil ?_ | (refine runD_looks [(100000, 100000), (100001, 100001)] (kw61) cb61 (by rfl) (.inl (by simp only [go_sem, h1, h2]; rfl)) (by first | kernel_rfl | rfl) (by simp only [go_sem, ren, dels, adds, rn, At.rn, V1.rn, SV.rn, Cont.rn, Loc.rn, news, vals2, keys2, namesB, locKeys, injOn, noSlots, List.all, List.any, h1, h2]; ((repeat' (first | exact All2.nil | refine All2.cons ?_ ?_ | exact SubW.one (SubA.same _) | exact SubW.one (SubA.nil _) | exact SubW.one (SubA.ptr _) | refine SubW.agg ?_ | exact SubA.same _ | exact SubA.nil _ | exact SubA.ptr _)); first | done | fail)) (by simp only [go_sem, ren, dels, adds, rn, At.rn, V1.rn, SV.rn, Cont.rn, Loc.rn, news, vals2, keys2, namesB, locKeys, injOn, noSlots, List.all, List.any, h1, h2]; (repeat' (first | exact trivial | refine And.intro rfl ?_)); first | done | fail) (by simp only [go_sem, ren, dels, adds, rn, At.rn, V1.rn, SV.rn, Cont.rn, Loc.rn, news, vals2, keys2, namesB, locKeys, injOn, noSlots, List.all, List.any, h1, h2]; (repeat' (first | exact trivial | refine And.intro rfl ?_)); first | done | fail) ?_; simp only [go_sem, ren, dels, adds, rn, At.rn, V1.rn, SV.rn, Cont.rn, Loc.rn, news, vals2, keys2, namesB, locKeys, injOn, noSlots, List.all, List.any, h1, h2]; refine runs_to [] (by simp only [go_sem, h1, h2]; rfl) ?_) | (refine runD_call (c94 t.S t.D hD) cb94 (by rfl) (by simp only [go_sem, h1, h2]; rfl) (by ((repeat' (first | exact All2.nil | refine All2.cons ?_ ?_ | exact SubV.one (SubT.same _) | exact SubV.one (SubT.nil _) | refine SubV.agg ?_ | exact SubT.same _ | exact SubT.nil _)); first | done | fail)) ?_; refine runs_to [] (by simp only [go_sem, h1, h2]; rfl) ?_) | (refine awp_cond (b := _) (by simp only [go_sem, evB, h1, h2]; rfl) (fun hcond => ?_) (fun hcond => ?_)))); all_goals (refine leavesD_ok (by first | exact Or.inl rfl | exact Or.inr rfl) (Imp.refl _) (by simp only [go_sem, resAll, resL, h1, h2]; rfl) (by simp only [packL]; (first | refine SubS.v ?_ | refine SubS.tup ?_); ((repeat' (first | exact All2.nil | refine All2.cons ?_ ?_ | exact SubW.one (SubA.same _) | exact SubW.one (SubA.nil _) | exact SubW.one (SubA.ptr _) | refine SubW.agg ?_ | exact SubA.same _ | exact SubA.nil _ | exact SubA.ptr _)); first | done | fail)) (by simp only [go_sem, h1, h2]; repeat' (first | exact trivial | refine And.intro rfl ?_))))
    | true =>
      cases h3 : t.ag with
      | false =>
        have hf : chS t = (2, t.S, t.D) := by simp [chS, h1, h3]
        rw [hf]
        refine does_of_body Try.func66 rfl (by simp [Try.f66]) rfl rfl ?_; rw [Try.ntmps66, Try.results66]; intro w0 G0 ρ0
        ((repeat' (first | refine thenL_n ?_ | refine thenL_r ?_ | refine thenL_x ?_ | refine blockL_n ?_ | refine blockL_r ?_ | refine blockL_x ?_ | refine blockL_y rfl ?_ | refine awp_seq ?_ | refine awp_block ?_ | refine awp_ret ?_ | refine awp_exit ?_ | refine awp_skip ?_ | exact absurd hcond (by decide) | (first | (refine awp_txt ?_; refine runs_to [] (by simp only [go_sem, h1, h2, h3]; rfl) ?_) | (refine awp_draw mixed ?_; refine runs_to [] (by simp only [go_sem, h1, h2, h3]; rfl) ?_)) | refine runD_nil ⟨by kernel_rfl, ?_⟩ | refine runD_nil ?_ | (refine runD_looks [(100000, 100000), (100001, 100001)] (kw61) cb61 (by rfl) (.inl (by simp only [go_sem, h1, h2, h3]; rfl)) (by first | kernel_rfl | rfl) (by simp only [go_sem, ren, dels, adds, rn, At.rn, V1.rn, SV.rn, Cont.rn, Loc.rn, news, vals2, keys2, namesB, locKeys, injOn, noSlots, List.all, List.any, h1, h2, h3]; ((repeat' (first | exact All2.nil | refine All2.cons ?_ ?_ | exact SubW.one (SubA.same _) | exact SubW.one (SubA.nil _) | exact SubW.one (SubA.ptr _) | refine SubW.agg ?_ | exact SubA.same _ | exact SubA.nil _ | exact SubA.ptr _)); first | done | fail)) (by simp only [go_sem, ren, dels, adds, rn, At.rn, V1.rn, SV.rn, Cont.rn, Loc.rn, news, vals2, keys2, namesB, locKeys, injOn, noSlots, List.all, List.any, h1, h2, h3]; (repeat' (first | exact trivial | refine And.intro rfl ?_)); first | done | fail) (by simp only [go_sem, ren, dels, adds, rn, At.rn, V1.rn, SV.rn, Cont.rn, Loc.rn, news, vals2, keys2, namesB, locKeys, injOn, noSlots, List.all, List.any, h1, h2, h3]; (repeat' (first | exact trivial | refine And.intro rfl ?_)); first | done | fail) ?_; simp only [go_sem, ren, dels, adds, rn, At.rn, V1.rn, SV.rn, Cont.rn, Loc.rn, news, vals2, keys2, namesB, locKeys, injOn, noSlots, List.all, List.any, h1, h2, h3]; refine runs_to [] (by simp only [go_sem, h1, h2, h3]; rfl) ?_) | (refine runD_call (c94 t.S t.D hD) cb94 (by rfl) (by simp only [go_sem, h1, h2, h3]; rfl) (by ((repeat' (first | exact All2.nil | refine All2.cons ?_ ?_ | exact SubV.one (SubT.same _) | exact SubV.one (SubT.nil _) | refine SubV.agg ?_ | exact SubT.same _ | exact SubT.nil _)); first | done | fail)) ?_; refine runs_to [] (by simp only [go_sem, h1, h2, h3]; rfl) ?_) | (refine awp_cond (b := _) (by simp only [go_sem, evB, h1, h2, h3]; rfl) (fun hcond => ?_) (fun hcond => ?_)))); all_goals (refine leavesD_ok (by first | exact Or.inl rfl | exact Or.inr rfl) (Imp.refl _) (by simp only [go_sem, resAll, resL, h1, h2, h3]; rfl) (by simp only [packL]; (first | refine SubS.v ?_ | refine SubS.tup ?_); ((repeat' (first | exact All2.nil | refine All2.cons ?_ ?_ | exact SubW.one (SubA.same _) | exact SubW.one (SubA.nil _) | exact SubW.one (SubA.ptr _) | refine SubW.agg ?_ | exact SubA.same _ | exact SubA.nil _ | exact SubA.ptr _)); first | done | fail)) (by simp only [go_sem, h1, h2, h3]; repeat' (first | exact trivial | refine And.intro rfl ?_))))
      | true =>
        by_cases h4 : fast t.n ≤ t.who.length
        · have hf : chS t = (1, t.s, t.d) := by simp [chS, h1, h2, h3, h4]
          rw [hf]
          refine does_of_body Try.func66 rfl (by simp [Try.f66]) rfl rfl ?_; rw [Try.ntmps66, Try.results66]; intro w0 G0 ρ0
          ((repeat' (first | refine thenL_n ?_ | refine thenL_r ?_ | refine thenL_x ?_ | refine blockL_n ?_ | refine blockL_r ?_ | refine blockL_x ?_ | refine blockL_y rfl ?_ | refine awp_seq ?_ | refine awp_block ?_ | refine awp_ret ?_ | refine awp_exit ?_ | refine awp_skip ?_ | exact absurd hcond (by decide) | (first | (refine awp_txt ?_; refine runs_to [] (by simp only [go_sem, h1, h2, h3, h4]; rfl) ?_) | (refine awp_draw mixed ?_; refine runs_to [] (by simp only [go_sem, h1, h2, h3, h4]; rfl) ?_)) | refine runD_nil ⟨by kernel_rfl, ?_⟩ | refine runD_nil ?_ | (refine runD_looks [(100000, 100000), (100001, 100001)] (kw61) cb61 (by rfl) (.inl (by simp only [go_sem, h1, h2, h3, h4]; rfl)) (by first | kernel_rfl | rfl) (by simp only [go_sem, ren, dels, adds, rn, At.rn, V1.rn, SV.rn, Cont.rn, Loc.rn, news, vals2, keys2, namesB, locKeys, injOn, noSlots, List.all, List.any, h1, h2, h3, h4]; ((repeat' (first | exact All2.nil | refine All2.cons ?_ ?_ | exact SubW.one (SubA.same _) | exact SubW.one (SubA.nil _) | exact SubW.one (SubA.ptr _) | refine SubW.agg ?_ | exact SubA.same _ | exact SubA.nil _ | exact SubA.ptr _)); first | done | fail)) (by simp only [go_sem, ren, dels, adds, rn, At.rn, V1.rn, SV.rn, Cont.rn, Loc.rn, news, vals2, keys2, namesB, locKeys, injOn, noSlots, List.all, List.any, h1, h2, h3, h4]; (repeat' (first | exact trivial | refine And.intro rfl ?_)); first | done | fail) (by simp only [go_sem, ren, dels, adds, rn, At.rn, V1.rn, SV.rn, Cont.rn, Loc.rn, news, vals2, keys2, namesB, locKeys, injOn, noSlots, List.all, List.any, h1, h2, h3, h4]; (repeat' (first | exact trivial | refine And.intro rfl ?_)); first | done | fail) ?_; simp only [go_sem, ren, dels, adds, rn, At.rn, V1.rn, SV.rn, Cont.rn, Loc.rn, news, vals2, keys2, namesB, locKeys, injOn, noSlots, List.all, List.any, h1, h2, h3, h4]; refine runs_to [] (by simp only [go_sem, h1, h2, h3, h4]; rfl) ?_) | (refine runD_looks [(100000, 100000), (100001, 100001)] (kw60) cb60 (by rfl) (.inl (by simp only [go_sem, h1, h2, h3, h4]; rfl)) (by first | kernel_rfl | rfl) (by simp only [go_sem, ren, dels, adds, rn, At.rn, V1.rn, SV.rn, Cont.rn, Loc.rn, news, vals2, keys2, namesB, locKeys, injOn, noSlots, List.all, List.any, h1, h2, h3, h4]; ((repeat' (first | exact All2.nil | refine All2.cons ?_ ?_ | exact SubW.one (SubA.same _) | exact SubW.one (SubA.nil _) | exact SubW.one (SubA.ptr _) | refine SubW.agg ?_ | exact SubA.same _ | exact SubA.nil _ | exact SubA.ptr _)); first | done | fail)) (by simp only [go_sem, ren, dels, adds, rn, At.rn, V1.rn, SV.rn, Cont.rn, Loc.rn, news, vals2, keys2, namesB, locKeys, injOn, noSlots, List.all, List.any, h1, h2, h3, h4]; (repeat' (first | exact trivial | refine And.intro rfl ?_)); first | done | fail) (by simp only [go_sem, ren, dels, adds, rn, At.rn, V1.rn, SV.rn, Cont.rn, Loc.rn, news, vals2, keys2, namesB, locKeys, injOn, noSlots, List.all, List.any, h1, h2, h3, h4]; (repeat' (first | exact trivial | refine And.intro rfl ?_)); first | done | fail) ?_; simp only [go_sem, ren, dels, adds, rn, At.rn, V1.rn, SV.rn, Cont.rn, Loc.rn, news, vals2, keys2, namesB, locKeys, injOn, noSlots, List.all, List.any, h1, h2, h3, h4]; refine runs_to [] (by simp only [go_sem, h1, h2, h3, h4]; rfl) ?_) | (refine runD_call (c53 _) cb53 (by rfl) (by simp only [go_sem, h1, h2, h3, h4]; rfl) (by ((repeat' (first | exact All2.nil | refine All2.cons ?_ ?_ | exact SubV.one (SubT.same _) | exact SubV.one (SubT.nil _) | refine SubV.agg ?_ | exact SubT.same _ | exact SubT.nil _)); first | done | fail)) ?_; refine runs_to [] (by simp only [go_sem, h1, h2, h3, h4]; rfl) ?_) | (refine runD_call (c94 t.s t.d hd) cb94 (by rfl) (by simp only [go_sem, h1, h2, h3, h4]; rfl) (by ((repeat' (first | exact All2.nil | refine All2.cons ?_ ?_ | exact SubV.one (SubT.same _) | exact SubV.one (SubT.nil _) | refine SubV.agg ?_ | exact SubT.same _ | exact SubT.nil _)); first | done | fail)) ?_; refine runs_to [] (by simp only [go_sem, h1, h2, h3, h4]; rfl) ?_) | (refine awp_cond (b := _) (by simp only [go_sem, evB, h1, h2, h3, h4]; rfl) (fun hcond => ?_) (fun hcond => ?_)))); all_goals (refine leavesD_ok (by first | exact Or.inl rfl | exact Or.inr rfl) (Imp.refl _) (by simp only [go_sem, resAll, resL, h1, h2, h3, h4]; rfl) (by simp only [packL]; (first | refine SubS.v ?_ | refine SubS.tup ?_); ((repeat' (first | exact All2.nil | refine All2.cons ?_ ?_ | exact SubW.one (SubA.same _) | exact SubW.one (SubA.nil _) | exact SubW.one (SubA.ptr _) | refine SubW.agg ?_ | exact SubA.same _ | exact SubA.nil _ | exact SubA.ptr _)); first | done | fail)) (by simp only [go_sem, h1, h2, h3, h4]; repeat' (first | exact trivial | refine And.intro rfl ?_))))
        · have hf : chS t = (0, 0, []) := by simp [chS, h1, h2, h3, h4]
          rw [hf]
          refine does_of_body Try.func66 rfl (by simp [Try.f66]) rfl rfl ?_; rw [Try.ntmps66, Try.results66]; intro w0 G0 ρ0
          ((repeat' (first | refine thenL_n ?_ | refine thenL_r ?_ | refine thenL_x ?_ | refine blockL_n ?_ | refine blockL_r ?_ | refine blockL_x ?_ | refine blockL_y rfl ?_ | refine awp_seq ?_ | refine awp_block ?_ | refine awp_ret ?_ | refine awp_exit ?_ | refine awp_skip ?_ | exact absurd hcond (by decide) | (first | (refine awp_txt ?_; refine runs_to [] (by simp only [go_sem, h1, h2, h3, h4]; rfl) ?_) | (refine awp_draw mixed ?_; refine runs_to [] (by simp only [go_sem, h1, h2, h3, h4]; rfl) ?_)) | refine runD_nil ⟨by kernel_rfl, ?_⟩ | refine runD_nil ?_ | (refine runD_looks [(100000, 100000), (100001, 100001)] (kw61) cb61 (by rfl) (.inl (by simp only [go_sem, h1, h2, h3, h4]; rfl)) (by first | kernel_rfl | rfl) (by simp only [go_sem, ren, dels, adds, rn, At.rn, V1.rn, SV.rn, Cont.rn, Loc.rn, news, vals2, keys2, namesB, locKeys, injOn, noSlots, List.all, List.any, h1, h2, h3, h4]; ((repeat' (first | exact All2.nil | refine All2.cons ?_ ?_ | exact SubW.one (SubA.same _) | exact SubW.one (SubA.nil _) | exact SubW.one (SubA.ptr _) | refine SubW.agg ?_ | exact SubA.same _ | exact SubA.nil _ | exact SubA.ptr _)); first | done | fail)) (by simp only [go_sem, ren, dels, adds, rn, At.rn, V1.rn, SV.rn, Cont.rn, Loc.rn, news, vals2, keys2, namesB, locKeys, injOn, noSlots, List.all, List.any, h1, h2, h3, h4]; (repeat' (first | exact trivial | refine And.intro rfl ?_)); first | done | fail) (by simp only [go_sem, ren, dels, adds, rn, At.rn, V1.rn, SV.rn, Cont.rn, Loc.rn, news, vals2, keys2, namesB, locKeys, injOn, noSlots, List.all, List.any, h1, h2, h3, h4]; (repeat' (first | exact trivial | refine And.intro rfl ?_)); first | done | fail) ?_; simp only [go_sem, ren, dels, adds, rn, At.rn, V1.rn, SV.rn, Cont.rn, Loc.rn, news, vals2, keys2, namesB, locKeys, injOn, noSlots, List.all, List.any, h1, h2, h3, h4]; refine runs_to [] (by simp only [go_sem, h1, h2, h3, h4]; rfl) ?_) | (refine runD_looks [(100000, 100000), (100001, 100001)] (kw60) cb60 (by rfl) (.inl (by simp only [go_sem, h1, h2, h3, h4]; rfl)) (by first | kernel_rfl | rfl) (by simp only [go_sem, ren, dels, adds, rn, At.rn, V1.rn, SV.rn, Cont.rn, Loc.rn, news, vals2, keys2, namesB, locKeys, injOn, noSlots, List.all, List.any, h1, h2, h3, h4]; ((repeat' (first | exact All2.nil | refine All2.cons ?_ ?_ | exact SubW.one (SubA.same _) | exact SubW.one (SubA.nil _) | exact SubW.one (SubA.ptr _) | refine SubW.agg ?_ | exact SubA.same _ | exact SubA.nil _ | exact SubA.ptr _)); first | done | fail)) (by simp only [go_sem, ren, dels, adds, rn, At.rn, V1.rn, SV.rn, Cont.rn, Loc.rn, news, vals2, keys2, namesB, locKeys, injOn, noSlots, List.all, List.any, h1, h2, h3, h4]; (repeat' (first | exact trivial | refine And.intro rfl ?_)); first | done | fail) (by simp only [go_sem, ren, dels, adds, rn, At.rn, V1.rn, SV.rn, Cont.rn, Loc.rn, news, vals2, keys2, namesB, locKeys, injOn, noSlots, List.all, List.any, h1, h2, h3, h4]; (repeat' (first | exact trivial | refine And.intro rfl ?_)); first | done | fail) ?_; simp only [go_sem, ren, dels, adds, rn, At.rn, V1.rn, SV.rn, Cont.rn, Loc.rn, news, vals2, keys2, namesB, locKeys, injOn, noSlots, List.all, List.any, h1, h2, h3, h4]; refine runs_to [] (by simp only [go_sem, h1, h2, h3, h4]; rfl) ?_) | (refine runD_call (c53 _) cb53 (by rfl) (by simp only [go_sem, h1, h2, h3, h4]; rfl) (by ((repeat' (first | exact All2.nil | refine All2.cons ?_ ?_ | exact SubV.one (SubT.same _) | exact SubV.one (SubT.nil _) | refine SubV.agg ?_ | exact SubT.same _ | exact SubT.nil _)); first | done | fail)) ?_; refine runs_to [] (by simp only [go_sem, h1, h2, h3, h4]; rfl) ?_) | (refine awp_cond (b := _) (by simp only [go_sem, evB, h1, h2, h3, h4]; rfl) (fun hcond => ?_) (fun hcond => ?_)))); all_goals (refine leavesD_ok (by first | exact Or.inl rfl | exact Or.inr rfl) (Imp.refl _) (by simp only [go_sem, resAll, resL, h1, h2, h3, h4]; rfl) (by simp only [packL]; (first | refine SubS.v ?_ | refine SubS.tup ?_); ((repeat' (first | exact All2.nil | refine All2.cons ?_ ?_ | exact SubW.one (SubA.same _) | exact SubW.one (SubA.nil _) | exact SubW.one (SubA.ptr _) | refine SubW.agg ?_ | exact SubA.same _ | exact SubA.nil _ | exact SubA.ptr _)); first | done | fail)) (by simp only [go_sem, h1, h2, h3, h4]; repeat' (first | exact trivial | refine And.intro rfl ?_))))
  · have hf : chS t = (0, 0, []) := by simp [chS, h1]
    rw [hf]
    refine does_of_body Try.func66 rfl (by simp [Try.f66]) rfl rfl ?_; rw [Try.ntmps66, Try.results66]; intro w0 G0 ρ0
    ((repeat' (first | refine thenL_n ?_ | refine thenL_r ?_ | refine thenL_x ?_ | refine blockL_n ?_ | refine blockL_r ?_ | refine blockL_x ?_ | refine blockL_y rfl ?_ | refine awp_seq ?_ | refine awp_block ?_ | refine awp_ret ?_ | refine awp_exit ?_ | refine awp_skip ?_ | exact absurd hcond (by decide) | (first | (refine awp_txt ?_; refine runs_to [] (by simp only [go_sem, h1]; rfl) ?_) | (refine awp_draw mixed ?_; refine runs_to [] (by simp only [go_sem, h1]; rfl) ?_)) | refine runD_nil ⟨by kernel_rfl, ?_⟩ | refine runD_nil ?_ | (refine runD_looks [(100000, 100000), (100001, 100001)] (kw61) cb61 (by rfl) (.inl (by simp only [go_sem, h1]; rfl)) (by first | kernel_rfl | rfl) (by simp only [go_sem, ren, dels, adds, rn, At.rn, V1.rn, SV.rn, Cont.rn, Loc.rn, news, vals2, keys2, namesB, locKeys, injOn, noSlots, List.all, List.any, h1]; ((repeat' (first | exact All2.nil | refine All2.cons ?_ ?_ | exact SubW.one (SubA.same _) | exact SubW.one (SubA.nil _) | exact SubW.one (SubA.ptr _) | refine SubW.agg ?_ | exact SubA.same _ | exact SubA.nil _ | exact SubA.ptr _)); first | done | fail)) (by simp only [go_sem, ren, dels, adds, rn, At.rn, V1.rn, SV.rn, Cont.rn, Loc.rn, news, vals2, keys2, namesB, locKeys, injOn, noSlots, List.all, List.any, h1]; (repeat' (first | exact trivial | refine And.intro rfl ?_)); first | done | fail) (by simp only [go_sem, ren, dels, adds, rn, At.rn, V1.rn, SV.rn, Cont.rn, Loc.rn, news, vals2, keys2, namesB, locKeys, injOn, noSlots, List.all, List.any, h1]; (repeat' (first | exact trivial | refine And.intro rfl ?_)); first | done | fail) ?_; simp only [go_sem, ren, dels, adds, rn, At.rn, V1.rn, SV.rn, Cont.rn, Loc.rn, news, vals2, keys2, namesB, locKeys, injOn, noSlots, List.all, List.any, h1]; refine runs_to [] (by simp only [go_sem, h1]; rfl) ?_) | (refine awp_cond (b := _) (by simp only [go_sem, evB, h1]; rfl) (fun hcond => ?_) (fun hcond => ?_)))); all_goals (refine leavesD_ok (by first | exact Or.inl rfl | exact Or.inr rfl) (Imp.refl _) (by simp only [go_sem, resAll, resL, h1]; rfl) (by simp only [packL]; (first | refine SubS.v ?_ | refine SubS.tup ?_); ((repeat' (first | exact All2.nil | refine All2.cons ?_ ?_ | exact SubW.one (SubA.same _) | exact SubW.one (SubA.nil _) | exact SubW.one (SubA.ptr _) | refine SubW.agg ?_ | exact SubA.same _ | exact SubA.nil _ | exact SubA.ptr _)); first | done | fail)) (by simp only [go_sem, h1]; repeat' (first | exact trivial | refine And.intro rfl ?_))))

/-- An instance that was played, and who is asked later. -/
structure RN where
  N : Nat
  L : Nat
  k : Int
  h : ByteArray
  c : List Int
  s : Int
  d : List Int
  asked : List Int
  loc : List At2
  later : List Int
  lead : Bool
def zI (x : RN) : IN := ⟨x.L, 1, 0, 0, 0, 0, 0, 0, ⟨#[]⟩, [], 0, [], false⟩
def pI (x : RN) (S : Int) (D : List Int) (m : Bool) : IN := ⟨x.L, 1, 1, 0, x.L, 0, x.L, x.k, x.h, x.c, S, D, m⟩
structure RN.ok (x : RN) : Prop where
  n1 : 1 ≤ x.N
  n7 : x.N ≤ 7
  l : x.L < x.N
  a : attOK x.s x.d = true
  dl : x.d.length = x.N
  kk : kOK x.k = true
  cl : x.c.length ≤ 140737488351232
  al : x.asked.length * 8 ≤ 140737488351232
  ll : ∀ q, q ∈ x.loc → q.2.length * 8 ≤ 140737488351232

def ask1 (x : RN) (z : IN) (q : At2) : IN × Bool := paR z 0 x.L x.k x.h x.c x.s x.d q.1 q.2
def askS (x : RN) (a : List IN × TY) (i : Nat) (r : Int) : List IN × TY :=
  if r < 0 ∨ (x.N : Int) ≤ r ∨ r = (x.L : Int) then a else
  match a.1[r.toNat]?, x.loc[i]? with
  | some z, some q => if (ask1 x z q).2 = true then (a.1.set r.toNat (ask1 x z q).1, repT a.2 r (ask1 x z q).1.s (ask1 x z q).1.d (ask1 x z q).1.same) else a
  | _, _ => a
def plS (x : RN) : Nat → List IN × TY
  | 0 => ((List.replicate x.N (zI x)).set x.L (pI x x.s x.d true), ⟨x.N, [(x.L : Int)], true, x.s, x.d, x.s, x.d, true⟩)
  | i + 1 => match x.asked[i]? with
    | some r => askS x (plS x i) i r
    | none => plS x i

theorem mxL_self : ∀ d : List Int, mxL d d = d
  | [] => rfl
  | a :: d => by
    have := mxL_self d
    simp only [mxL] at this ⊢
    rw [List.zipWith_cons_cons, this]
    simp [mx2]
theorem less_irr (a b : Int) : less a b a b = false := by simp [less]
theorem mx2_self (a : Int) : mx2 a a = a := by simp [mx2]
theorem att_join {s s' : Int} {d d' : List Int} (h : attOK s d = true) (h' : attOK s' d' = true) (hl : d'.length = d.length) : jaOK [(s, d), (s', d')] = true ∧ attOK (mx2 s s') (mxL d d') = true ∧ (mxL d d').length = d.length := by
  have hj : jaOK [(s, d), (s', d')] = true := by simp [jaOK, h, h', hl]
  have hv : vecOK (mxL d d') = true := jaD_vec hj
  refine ⟨hj, ?_, mxL_length d d' hl⟩
  simp only [attOK, Bool.and_eq_true, decide_eq_true_eq] at h h' ⊢
  refine ⟨?_, hv⟩
  unfold mx2
  split <;> omega
theorem ja_two {s s' : Int} {d d' : List Int} (h : jaOK [(s, d), (s', d')] = true) : attOK s d = true ∧ attOK s' d' = true ∧ d'.length = d.length := by
  simpa [jaOK] using h

/-- What holds while they are asked. -/
structure PI (x : RN) (ls : List IN) (t : TY) : Prop where
  len : ls.length = x.N
  tn : t.n = x.N
  tf : t.first = true
  ts : t.s = x.s
  td : t.d = x.d
  tok : attOK t.S t.D = true
  tdl : t.D.length = x.d.length
  who : ∀ q, q ∈ t.who → 0 ≤ q ∧ q < x.N
  nd : t.who.Nodup
  lin : (x.L : Int) ∈ t.who
  wl : t.who.length ≤ 7
  each : ∀ (r : Nat) z, ls[r]? = some z → (z = zI x ∧ (r : Int) ∉ t.who) ∨ (∃ S D m, z = pI x S D m ∧ attOK S D = true ∧ D.length = x.d.length ∧ (r : Int) ∈ t.who ∧ (t.ag = true → S = x.s ∧ D = x.d ∧ m = true))

theorem nodup_le {N : Nat} (hN : N ≤ 7) : ∀ {W : List Int}, W.Nodup → (∀ q, q ∈ W → 0 ≤ q ∧ q < N) → W.length ≤ N := by
  intro W hd hin
  have h1 : W ⊆ (List.range N).map fun i : Nat => (i : Int) := by
    intro q hq
    have := hin q hq
    exact List.mem_map.2 ⟨q.toNat, List.mem_range.2 (by omega), by omega⟩
  have h2 := List.Nodup.length_le_of_subset hd h1
  simpa using h2

section
variable {x : RN} (hx : x.ok)
include hx

theorem goZ : goB (zI x) 0 x.L = true := by
  have h1 := hx.n7; have h2 := hx.l
  have e1 : balOK 0 x.L = true := by simp [balOK]; omega
  have e2 : less 0 x.L 0 0 = false := by simp [less]
  unfold goB zI
  rw [e1]; simp only; rw [e2]; rfl
theorem goP (S : Int) (D : List Int) (m : Bool) : goB (pI x S D m) 0 x.L = true := by
  have h1 := hx.n7; have h2 := hx.l
  have e1 : balOK 0 x.L = true := by simp [balOK]; omega
  unfold goB pI
  rw [e1]; simp only; rw [less_irr]; rfl
theorem asKx : asK x.k x.s x.d = true := by simp [asK, hx.kk, hx.a]

theorem ask_z (q : At2) : ask1 x (zI x) q = if jaOK [(x.s, x.d), q] then (pI x (mx2 x.s q.1) (mxL x.d q.2) (mx2 x.s q.1 == x.s && decide (mxL x.d q.2 = x.d)), true) else (zI x, false) := by
  obtain ⟨s', d'⟩ := q
  unfold ask1 paR
  rw [goZ hx, asKx hx]
  cases jaOK [(x.s, x.d), (s', d')] with
  | false => simp
  | true => simp [zI, pI, paX, vIs]
theorem ask_p (S : Int) (D : List Int) (m : Bool) (q : At2) : ask1 x (pI x S D m) q = if jaOK [(x.s, x.d), q] then (pI x S D m, true) else (pI x S D m, false) := by
  obtain ⟨s', d'⟩ := q
  unfold ask1 paR
  rw [goP hx, asKx hx]
  cases jaOK [(x.s, x.d), (s', d')] with
  | false => simp
  | true => simp [pI, vIs]

theorem PI_zero : PI x (plS x 0).1 (plS x 0).2 := by
  have hl := hx.l
  refine ⟨by simp [plS], rfl, rfl, rfl, rfl, hx.a, rfl, ?_, by simp [plS], by simp [plS], by simp [plS], ?_⟩
  · intro q hq
    simp [plS] at hq; subst hq; omega
  · intro r z hz
    simp only [plS] at hz ⊢
    by_cases h : r = x.L
    · subst h
      rw [List.getElem?_set_self (by simpa using hl)] at hz
      injection hz with hz
      right
      exact ⟨x.s, x.d, true, hz.symm, hx.a, rfl, by simp, fun _ => ⟨rfl, rfl, rfl⟩⟩
    · rw [List.getElem?_set_ne (by omega), List.getElem?_replicate] at hz
      split at hz
      · injection hz with hz
        left
        exact ⟨hz.symm, by simp; omega⟩
      · simp at hz

theorem PI_step {ls : List IN} {t : TY} (h : PI x ls t) (i : Nat) (r : Int) : PI x (askS x (ls, t) i r).1 (askS x (ls, t) i r).2 := by
  unfold askS
  split
  · exact h
  rename_i hr
  split
  case h_2 => exact h
  rename_i z q hz hq
  simp only at hz
  obtain ⟨n, rfl⟩ := Int.eq_ofNat_of_zero_le (show 0 ≤ r by omega)
  rw [Int.toNat_natCast] at hz ⊢
  have hnN : (n : Int) < x.N := by omega
  rcases h.each n z hz with ⟨rfl, hnw⟩ | ⟨S, D, m, rfl, hS, hDl, hw, hag⟩
  · rw [ask_z hx q]
    cases hj : jaOK [(x.s, x.d), q] with
    | false => simp only [Bool.false_eq_true, if_false]; exact h
    | true =>
      simp only [if_true]
      obtain ⟨_, hq1, hq2⟩ := ja_two hj
      obtain ⟨_, hm1, hm2⟩ := att_join hx.a hq1 hq2
      generalize hmm : (mx2 x.s q.1 == x.s && decide (mxL x.d q.2 = x.d)) = m
      have hmt : m = true → mx2 x.s q.1 = x.s ∧ mxL x.d q.2 = x.d := by
        intro e; rw [e] at hmm; simpa using hmm
      generalize mx2 x.s q.1 = S at hm1 hmt
      generalize mxL x.d q.2 = D at hm1 hm2 hmt
      have hpS : (pI x S D m).s = S := rfl
      have hpD : (pI x S D m).d = D := rfl
      have hpm : (pI x S D m).same = m := rfl
      rw [hpS, hpD, hpm]
      obtain ⟨hj2, ht1, ht2⟩ := att_join h.tok hm1 (by rw [hm2, h.tdl])
      have hrb : repB t n S D = true := by
        simp only [repB, hj2, Bool.true_and, decide_eq_true_eq]
        exact ⟨by omega, by rw [h.tn]; exact hnN, hnw⟩
      have hrt : repT t n S D m = { t with who := t.who ++ [(n : Int)], S := mx2 t.S S, D := mxL t.D D, ag := t.ag && m } := if_pos hrb
      rw [hrt]
      have hnd : (t.who ++ [(n : Int)]).Nodup := by
        rw [List.nodup_append]
        refine ⟨h.nd, by simp, fun a ha b hb => ?_⟩
        simp at hb; subst hb
        rintro rfl; exact hnw ha
      have hwho : ∀ q, q ∈ t.who ++ [(n : Int)] → 0 ≤ q ∧ q < x.N := by
        intro q hq
        rcases List.mem_append.1 hq with hq | hq
        · exact h.who q hq
        · simp at hq; subst hq; omega
      refine ⟨by simp [h.len], h.tn, h.tf, h.ts, h.td, ht1, by simp only; rw [ht2, h.tdl], hwho, hnd, by simp [h.lin], ?_, ?_⟩
      · have := nodup_le hx.n7 hnd hwho
        have := hx.n7
        simp only; omega
      · intro r' z' hz'
        simp only at hz' ⊢
        by_cases hrr : r' = n
        · subst hrr
          rw [List.getElem?_set_self (by have := (List.getElem?_eq_some_iff.1 hz).1; exact this)] at hz'
          injection hz' with hz'
          right
          refine ⟨S, D, m, hz'.symm, hm1, hm2, by simp, fun e => ?_⟩
          simp only [Bool.and_eq_true] at e
          obtain ⟨e1, e2⟩ := hmt e.2
          exact ⟨e1, e2, e.2⟩
        · rw [List.getElem?_set_ne (by omega)] at hz'
          rcases h.each r' z' hz' with ⟨e1, e2⟩ | ⟨S', D', m', e1, e2, e3, e4, e5⟩
          · left
            refine ⟨e1, ?_⟩
            simp only [List.mem_append, not_or, List.mem_singleton]
            exact ⟨e2, by omega⟩
          · right
            refine ⟨S', D', m', e1, e2, e3, by simp [e4], fun e => e5 ?_⟩
            simp only [Bool.and_eq_true] at e; exact e.1
  · rw [ask_p hx S D m q]
    cases hj : jaOK [(x.s, x.d), q] with
    | false => simp only [Bool.false_eq_true, if_false]; exact h
    | true =>
      simp only [if_true]
      have hrb : repB t n (pI x S D m).s (pI x S D m).d = false := by
        simp only [repB, Bool.and_eq_false_imp, decide_eq_false_iff_not]
        intro _ hc
        exact hc.2.2 hw
      have hrt : repT t n (pI x S D m).s (pI x S D m).d (pI x S D m).same = t := by rw [repT, hrb, if_neg (by simp)]
      rw [hrt]
      have hset : ls.set n (pI x S D m) = ls := by
        apply List.ext_getElem?
        intro j
        by_cases hj : j = n
        · subst hj
          rw [List.getElem?_set_self (List.getElem?_eq_some_iff.1 hz).1, hz]
        · rw [List.getElem?_set_ne (by omega)]
      rw [hset]
      exact h
theorem PI_all : ∀ i, PI x (plS x i).1 (plS x i).2
  | 0 => PI_zero hx
  | i + 1 => by
    have ih := PI_all i
    unfold plS
    split
    · rename_i r hr
      generalize plS x i = a at ih
      obtain ⟨ls, t⟩ := a
      exact PI_step hx ih i r
    · exact ih
end
end Go.Proofs.Ytbohgpdpglfepaa
set_option maxHeartbeats 4000000
set_option maxRecDepth 10000
set_option linter.unusedVariables false
set_option linter.unusedSimpArgs false
namespace Go.Proofs.Ytbohgpdpglfepaa
open Go.AM Go.RowKit
attribute [local irreducible] AWP thenL blockL AM.Leaves LeavesO RunD
attribute [local go_sem] runs stepR actF inF frzA frzW lastW act act1 actPick actNil actBin
  actUn actConv actExtract actFieldAddr actField actAlloc keysOf actBox actLoad treesOf actStore actIndex
  actLen actMx srcL actAppend actMake actBuild actBuildSlice boundL actSlice actCall actEqS isStruct
  isSlice actText actCopy litsOf kindsOK fieldsPlain eqAll eqop dstB dstN boolS litB
  litV sv binv unv lits takeC cellsR trees cellsW mxv repl parts
  fillAt fillRows V1.cs mkV ev evr AM.look put del applyL delD wrD
  undefS SV.to V1.to At.to keysL notIn freshKey PV.up PR.up entry entryV evp
  isAt actPtrNil capsL actFunc sameV sameVs pureCtx doc mkVar AM.Loc.key Cont.keys SV.keys
  V1.keys At.keys Cont.sub SV.sub V1.sub At.sub guardR argsL callR Nat.blt_eq Nat.blt Nat.ble
  Nat.beq_eq_true_eq beq_self_eq_true Array.toList List.map List.append_eq List.nil_append List.cons_append List.append_nil List.append_assoc Bool.and_eq_true decide_true decide_false
  decide_eq_true_eq Bool.not_true Bool.not_false reduceCtorEq if_true if_false ite_true ite_false reduceIte AM.Loc.slot.injEq AM.Loc.cell.injEq AM.Loc.vec.injEq
  List.getElem?_cons_zero List.getElem?_cons_succ List.getElem?_nil Option.map_some Option.map_none Option.toList List.flatMap_nil List.flatMap_cons Bool.and_true Bool.true_and Bool.and_false Bool.false_and
  Bool.true_eq_false Bool.false_eq_true Nat.reduceBEq Nat.reduceEqDiff bool_beq_tt bool_beq_ff bool_beq_tf bool_beq_ft List.length_cons List.length_nil List.drop List.take
  List.drop_zero List.take_zero List.all_cons List.all_nil Value.oneCell' Nat.zero_add Nat.reduceAdd Nat.reduceMul Nat.reduceSub Nat.reduceLT Nat.reduceLeDiff Int.reduceLT
  Int.reduceLE Int.reduceEq Int.reduceBEq Int.reduceBNe Int.reduceAdd Int.reduceSub Int.reduceMul Int.reduceNeg Int.reduceToNat Nat.succ_ne_zero List.replicate and_true
  true_and and_false false_and and_self ge_iff_le gt_iff_lt bne_self_eq_false List.zip_cons_cons List.zip_nil_left List.zip List.zipWith Int.natCast_nonneg
  Int.toNat_natCast List.getElem?_map List.length_map sT sI sB sR sP rV AllIn Int.toNat_zero Int.ofNat_zero
  Int.natCast_zero Nat.le_refl List.mapM_cons List.mapM_nil Option.bind_eq_bind Option.bind_some Option.pure_def List.set_cons_zero List.set_cons_succ List.length_set tt2 tt3
  tt4 tt5 tt9 tt12 tt21 tt22 tt23 tt24 tt25 tt36 tt37 tt43
  tt44 tt51 tt52 tt53 tt59 tt67 tt68 tt69 tt74 tt75 tt76 tt77
  tt78 tt79 tt89 tt92 tt95 tt96 tt97 tt98 tt99 tt102 tt103 tt106
  tt107 tt108 tt114 tt115 tt116 tt117 tt118 tt119 tt120 tt122 tt124 tt125
  tt126 tt127 tt130 tt131 tt132 tt133 tt134 tt135 tt137 tt138 tt139 tt147
  tt148 tt149 tt159 tt164 tt165 tt167 tt168 tt169 tt170 tt171 tt190 tt191
  tt194 tt200 tt208 tt212
attribute [local go_sem] vlit bal rInt rBool vInts pInts vvInts vPairs att vAtts vBy cm iv vvBy lI lB rpL vRp rK plL tK vK

def ivL (z : IN) : List T := [.lit (.int .i64 z.r), .lit (.int .i64 z.n), .lit (.int .i64 z.st), .lit (.int .i64 z.p1), .lit (.int .i64 z.p2), .lit (.int .i64 z.v1), .lit (.int .i64 z.v2), .lit (.int .i64 z.k), .lit (.string z.h), vBy z.c, .lit (.int .i64 z.s), vInts z.d, .lit (.bool z.same)]
def runL (N L k : Int) (h : ByteArray) (c : List Int) (s : Int) (d asked : List Int) (loc : List At2) (later : List Int) (lead : Bool) : List T := [.lit (.int .i64 N), .lit (.int .i64 L), .lit (.int .i64 k), .lit (.string h), vBy c, .lit (.int .i64 s), vInts d, vInts asked, vAtts loc, vInts later, .lit (.bool lead)]
attribute [local go_sem] ivL runL

theorem c79 (N L k : Int) (h : ByteArray) (c : List Int) (s : Int) (d asked : List Int) (loc : List At2) (later : List Int) (lead : Bool) (hd : d.length ≤ 4611686018427387903) (hbad : (1 ≤ N ∧ N ≤ 7 ∧ 0 ≤ L ∧ L < N ∧ attOK s d = true ∧ (d.length : Int) = N ∧ kOK k = true) → False) :
    Pure Try.prog 79 [.agg (runL N L k h c s d asked loc later lead)] (.tup [vlit (.slice none 0 0), .agg [.lit (.int .i64 0), .lit (.int .i64 0), .lit (.slice none 0 0)], vlit (.bool false)]) := by
  by_cases g1 : N < 1
  · refine pure_of_body Try.func79 rfl (by simp [Try.f79]) ?_; rw [Try.ntmps79, Try.results79]; intro w0 G0
    ((repeat' (first | refine thenL_n ?_ | refine thenL_r ?_ | refine thenL_x ?_ | refine blockL_n ?_ | refine blockL_r ?_ | refine blockL_x ?_ | refine blockL_y rfl ?_ | refine awp_seq ?_ | refine awp_block ?_ | refine awp_ret ?_ | refine awp_exit ?_ | refine awp_skip ?_ | exact absurd hcond (by decide) | (first | (refine awp_txt ?_; refine runs_to [] (by simp only [go_sem, g1]; rfl) ?_) | (refine awp_draw mixed ?_; refine runs_to [] (by simp only [go_sem, g1]; rfl) ?_)) | refine runD_nil ⟨by kernel_rfl, ?_⟩ | refine runD_nil ?_ | (refine awp_cond (b := _) (by simp only [go_sem, evB, g1]; rfl) (fun hcond => ?_) (fun hcond => ?_)))); all_goals (refine leaves_ok (by first | exact Or.inl rfl | exact Or.inr rfl) (by simp only [go_sem, resAll, resL, packL, vecsOf, freezeAll, freezeL, g1]; rfl) ?_; (first | refine SubR.v ?_ | refine SubR.tup ?_); ((repeat' (first | exact All2.nil | refine All2.cons ?_ ?_ | exact SubV.one (SubT.same _) | exact SubV.one (SubT.nil _) | refine SubV.agg ?_ | exact SubT.same _ | exact SubT.nil _)); first | done | fail)))
  by_cases g2 : 7 < N
  · refine pure_of_body Try.func79 rfl (by simp [Try.f79]) ?_; rw [Try.ntmps79, Try.results79]; intro w0 G0
    ((repeat' (first | refine thenL_n ?_ | refine thenL_r ?_ | refine thenL_x ?_ | refine blockL_n ?_ | refine blockL_r ?_ | refine blockL_x ?_ | refine blockL_y rfl ?_ | refine awp_seq ?_ | refine awp_block ?_ | refine awp_ret ?_ | refine awp_exit ?_ | refine awp_skip ?_ | exact absurd hcond (by decide) | (first | (refine awp_txt ?_; refine runs_to [] (by simp only [go_sem, g1, g2]; rfl) ?_) | (refine awp_draw mixed ?_; refine runs_to [] (by simp only [go_sem, g1, g2]; rfl) ?_)) | refine runD_nil ⟨by kernel_rfl, ?_⟩ | refine runD_nil ?_ | (refine awp_cond (b := _) (by simp only [go_sem, evB, g1, g2]; rfl) (fun hcond => ?_) (fun hcond => ?_)))); all_goals (refine leaves_ok (by first | exact Or.inl rfl | exact Or.inr rfl) (by simp only [go_sem, resAll, resL, packL, vecsOf, freezeAll, freezeL, g1, g2]; rfl) ?_; (first | refine SubR.v ?_ | refine SubR.tup ?_); ((repeat' (first | exact All2.nil | refine All2.cons ?_ ?_ | exact SubV.one (SubT.same _) | exact SubV.one (SubT.nil _) | refine SubV.agg ?_ | exact SubT.same _ | exact SubT.nil _)); first | done | fail)))
  by_cases g3 : L < 0
  · refine pure_of_body Try.func79 rfl (by simp [Try.f79]) ?_; rw [Try.ntmps79, Try.results79]; intro w0 G0
    ((repeat' (first | refine thenL_n ?_ | refine thenL_r ?_ | refine thenL_x ?_ | refine blockL_n ?_ | refine blockL_r ?_ | refine blockL_x ?_ | refine blockL_y rfl ?_ | refine awp_seq ?_ | refine awp_block ?_ | refine awp_ret ?_ | refine awp_exit ?_ | refine awp_skip ?_ | exact absurd hcond (by decide) | (first | (refine awp_txt ?_; refine runs_to [] (by simp only [go_sem, g1, g2, g3]; rfl) ?_) | (refine awp_draw mixed ?_; refine runs_to [] (by simp only [go_sem, g1, g2, g3]; rfl) ?_)) | refine runD_nil ⟨by kernel_rfl, ?_⟩ | refine runD_nil ?_ | (refine awp_cond (b := _) (by simp only [go_sem, evB, g1, g2, g3]; rfl) (fun hcond => ?_) (fun hcond => ?_)))); all_goals (refine leaves_ok (by first | exact Or.inl rfl | exact Or.inr rfl) (by simp only [go_sem, resAll, resL, packL, vecsOf, freezeAll, freezeL, g1, g2, g3]; rfl) ?_; (first | refine SubR.v ?_ | refine SubR.tup ?_); ((repeat' (first | exact All2.nil | refine All2.cons ?_ ?_ | exact SubV.one (SubT.same _) | exact SubV.one (SubT.nil _) | refine SubV.agg ?_ | exact SubT.same _ | exact SubT.nil _)); first | done | fail)))
  by_cases g4 : N ≤ L
  · refine pure_of_body Try.func79 rfl (by simp [Try.f79]) ?_; rw [Try.ntmps79, Try.results79]; intro w0 G0
    ((repeat' (first | refine thenL_n ?_ | refine thenL_r ?_ | refine thenL_x ?_ | refine blockL_n ?_ | refine blockL_r ?_ | refine blockL_x ?_ | refine blockL_y rfl ?_ | refine awp_seq ?_ | refine awp_block ?_ | refine awp_ret ?_ | refine awp_exit ?_ | refine awp_skip ?_ | exact absurd hcond (by decide) | (first | (refine awp_txt ?_; refine runs_to [] (by simp only [go_sem, g1, g2, g3, g4]; rfl) ?_) | (refine awp_draw mixed ?_; refine runs_to [] (by simp only [go_sem, g1, g2, g3, g4]; rfl) ?_)) | refine runD_nil ⟨by kernel_rfl, ?_⟩ | refine runD_nil ?_ | (refine awp_cond (b := _) (by simp only [go_sem, evB, g1, g2, g3, g4]; rfl) (fun hcond => ?_) (fun hcond => ?_)))); all_goals (refine leaves_ok (by first | exact Or.inl rfl | exact Or.inr rfl) (by simp only [go_sem, resAll, resL, packL, vecsOf, freezeAll, freezeL, g1, g2, g3, g4]; rfl) ?_; (first | refine SubR.v ?_ | refine SubR.tup ?_); ((repeat' (first | exact All2.nil | refine All2.cons ?_ ?_ | exact SubV.one (SubT.same _) | exact SubV.one (SubT.nil _) | refine SubV.agg ?_ | exact SubT.same _ | exact SubT.nil _)); first | done | fail)))
  cases g5 : attOK s d with
  | false =>
    refine pure_of_body Try.func79 rfl (by simp [Try.f79]) ?_; rw [Try.ntmps79, Try.results79]; intro w0 G0
    ((repeat' (first | refine thenL_n ?_ | refine thenL_r ?_ | refine thenL_x ?_ | refine blockL_n ?_ | refine blockL_r ?_ | refine blockL_x ?_ | refine blockL_y rfl ?_ | refine awp_seq ?_ | refine awp_block ?_ | refine awp_ret ?_ | refine awp_exit ?_ | refine awp_skip ?_ | exact absurd hcond (by decide) | (first | (refine awp_txt ?_; refine runs_to [] (by simp only [go_sem, g1, g2, g3, g4, g5]; rfl) ?_) | (refine awp_draw mixed ?_; refine runs_to [] (by simp only [go_sem, g1, g2, g3, g4, g5]; rfl) ?_)) | refine runD_nil ⟨by kernel_rfl, ?_⟩ | refine runD_nil ?_ | (refine runD_call (c73 s d hd) cb73 (by rfl) (by simp only [go_sem, g1, g2, g3, g4, g5]; rfl) (by ((repeat' (first | exact All2.nil | refine All2.cons ?_ ?_ | exact SubV.one (SubT.same _) | exact SubV.one (SubT.nil _) | refine SubV.agg ?_ | exact SubT.same _ | exact SubT.nil _)); first | done | fail)) ?_; refine runs_to [] (by simp only [go_sem, g1, g2, g3, g4, g5]; rfl) ?_) | (refine awp_cond (b := _) (by simp only [go_sem, evB, g1, g2, g3, g4, g5]; rfl) (fun hcond => ?_) (fun hcond => ?_)))); all_goals (refine leaves_ok (by first | exact Or.inl rfl | exact Or.inr rfl) (by simp only [go_sem, resAll, resL, packL, vecsOf, freezeAll, freezeL, g1, g2, g3, g4, g5]; rfl) ?_; (first | refine SubR.v ?_ | refine SubR.tup ?_); ((repeat' (first | exact All2.nil | refine All2.cons ?_ ?_ | exact SubV.one (SubT.same _) | exact SubV.one (SubT.nil _) | refine SubV.agg ?_ | exact SubT.same _ | exact SubT.nil _)); first | done | fail)))
  | true =>
  by_cases g6 : (d.length : Int) = N
  case neg =>
    have g6' : (((d.length : Nat) : Int) != N) = true := by simpa using g6
    refine pure_of_body Try.func79 rfl (by simp [Try.f79]) ?_; rw [Try.ntmps79, Try.results79]; intro w0 G0
    ((repeat' (first | refine thenL_n ?_ | refine thenL_r ?_ | refine thenL_x ?_ | refine blockL_n ?_ | refine blockL_r ?_ | refine blockL_x ?_ | refine blockL_y rfl ?_ | refine awp_seq ?_ | refine awp_block ?_ | refine awp_ret ?_ | refine awp_exit ?_ | refine awp_skip ?_ | exact absurd hcond (by decide) | (first | (refine awp_txt ?_; refine runs_to [] (by simp only [go_sem, g1, g2, g3, g4, g5, g6']; rfl) ?_) | (refine awp_draw mixed ?_; refine runs_to [] (by simp only [go_sem, g1, g2, g3, g4, g5, g6']; rfl) ?_)) | refine runD_nil ⟨by kernel_rfl, ?_⟩ | refine runD_nil ?_ | (refine runD_call (c73 s d hd) cb73 (by rfl) (by simp only [go_sem, g1, g2, g3, g4, g5, g6']; rfl) (by ((repeat' (first | exact All2.nil | refine All2.cons ?_ ?_ | exact SubV.one (SubT.same _) | exact SubV.one (SubT.nil _) | refine SubV.agg ?_ | exact SubT.same _ | exact SubT.nil _)); first | done | fail)) ?_; refine runs_to [] (by simp only [go_sem, g1, g2, g3, g4, g5, g6']; rfl) ?_) | (refine awp_cond (b := _) (by simp only [go_sem, evB, g1, g2, g3, g4, g5, g6']; rfl) (fun hcond => ?_) (fun hcond => ?_)))); all_goals (refine leaves_ok (by first | exact Or.inl rfl | exact Or.inr rfl) (by simp only [go_sem, resAll, resL, packL, vecsOf, freezeAll, freezeL, g1, g2, g3, g4, g5, g6']; rfl) ?_; (first | refine SubR.v ?_ | refine SubR.tup ?_); ((repeat' (first | exact All2.nil | refine All2.cons ?_ ?_ | exact SubV.one (SubT.same _) | exact SubV.one (SubT.nil _) | refine SubV.agg ?_ | exact SubT.same _ | exact SubT.nil _)); first | done | fail)))
  have g6' : (((d.length : Nat) : Int) != N) = false := by simpa using g6
  by_cases g7 : k < 0
  · refine pure_of_body Try.func79 rfl (by simp [Try.f79]) ?_; rw [Try.ntmps79, Try.results79]; intro w0 G0
    ((repeat' (first | refine thenL_n ?_ | refine thenL_r ?_ | refine thenL_x ?_ | refine blockL_n ?_ | refine blockL_r ?_ | refine blockL_x ?_ | refine blockL_y rfl ?_ | refine awp_seq ?_ | refine awp_block ?_ | refine awp_ret ?_ | refine awp_exit ?_ | refine awp_skip ?_ | exact absurd hcond (by decide) | (first | (refine awp_txt ?_; refine runs_to [] (by simp only [go_sem, g1, g2, g3, g4, g5, g6', g7]; rfl) ?_) | (refine awp_draw mixed ?_; refine runs_to [] (by simp only [go_sem, g1, g2, g3, g4, g5, g6', g7]; rfl) ?_)) | refine runD_nil ⟨by kernel_rfl, ?_⟩ | refine runD_nil ?_ | (refine runD_call (c73 s d hd) cb73 (by rfl) (by simp only [go_sem, g1, g2, g3, g4, g5, g6', g7]; rfl) (by ((repeat' (first | exact All2.nil | refine All2.cons ?_ ?_ | exact SubV.one (SubT.same _) | exact SubV.one (SubT.nil _) | refine SubV.agg ?_ | exact SubT.same _ | exact SubT.nil _)); first | done | fail)) ?_; refine runs_to [] (by simp only [go_sem, g1, g2, g3, g4, g5, g6', g7]; rfl) ?_) | (refine awp_cond (b := _) (by simp only [go_sem, evB, g1, g2, g3, g4, g5, g6', g7]; rfl) (fun hcond => ?_) (fun hcond => ?_)))); all_goals (refine leaves_ok (by first | exact Or.inl rfl | exact Or.inr rfl) (by simp only [go_sem, resAll, resL, packL, vecsOf, freezeAll, freezeL, g1, g2, g3, g4, g5, g6', g7]; rfl) ?_; (first | refine SubR.v ?_ | refine SubR.tup ?_); ((repeat' (first | exact All2.nil | refine All2.cons ?_ ?_ | exact SubV.one (SubT.same _) | exact SubV.one (SubT.nil _) | refine SubV.agg ?_ | exact SubT.same _ | exact SubT.nil _)); first | done | fail)))
  by_cases g8 : 2 < k
  · refine pure_of_body Try.func79 rfl (by simp [Try.f79]) ?_; rw [Try.ntmps79, Try.results79]; intro w0 G0
    ((repeat' (first | refine thenL_n ?_ | refine thenL_r ?_ | refine thenL_x ?_ | refine blockL_n ?_ | refine blockL_r ?_ | refine blockL_x ?_ | refine blockL_y rfl ?_ | refine awp_seq ?_ | refine awp_block ?_ | refine awp_ret ?_ | refine awp_exit ?_ | refine awp_skip ?_ | exact absurd hcond (by decide) | (first | (refine awp_txt ?_; refine runs_to [] (by simp only [go_sem, g1, g2, g3, g4, g5, g6', g7, g8]; rfl) ?_) | (refine awp_draw mixed ?_; refine runs_to [] (by simp only [go_sem, g1, g2, g3, g4, g5, g6', g7, g8]; rfl) ?_)) | refine runD_nil ⟨by kernel_rfl, ?_⟩ | refine runD_nil ?_ | (refine runD_call (c73 s d hd) cb73 (by rfl) (by simp only [go_sem, g1, g2, g3, g4, g5, g6', g7, g8]; rfl) (by ((repeat' (first | exact All2.nil | refine All2.cons ?_ ?_ | exact SubV.one (SubT.same _) | exact SubV.one (SubT.nil _) | refine SubV.agg ?_ | exact SubT.same _ | exact SubT.nil _)); first | done | fail)) ?_; refine runs_to [] (by simp only [go_sem, g1, g2, g3, g4, g5, g6', g7, g8]; rfl) ?_) | (refine awp_cond (b := _) (by simp only [go_sem, evB, g1, g2, g3, g4, g5, g6', g7, g8]; rfl) (fun hcond => ?_) (fun hcond => ?_)))); all_goals (refine leaves_ok (by first | exact Or.inl rfl | exact Or.inr rfl) (by simp only [go_sem, resAll, resL, packL, vecsOf, freezeAll, freezeL, g1, g2, g3, g4, g5, g6', g7, g8]; rfl) ?_; (first | refine SubR.v ?_ | refine SubR.tup ?_); ((repeat' (first | exact All2.nil | refine All2.cons ?_ ?_ | exact SubV.one (SubT.same _) | exact SubV.one (SubT.nil _) | refine SubV.agg ?_ | exact SubT.same _ | exact SubT.nil _)); first | done | fail)))
  exact (hbad ⟨by omega, by omega, by omega, by omega, g5, g6, by simp [kOK]; omega⟩).elim

def raw0 : List T := [.lit (.int .i64 0), .lit (.int .i64 0), .lit (.int .i64 0), .lit (.int .i64 0), .lit (.int .i64 0), .lit (.int .i64 0), .lit (.int .i64 0), .lit (.int .i64 0), .lit (.string ⟨#[]⟩), .lit (.slice none 0 0), .lit (.int .i64 0), .lit (.slice none 0 0), .lit (.bool false)]
def rawZ (L : Int) : List T := [.lit (.int .i64 L), .lit (.int .i64 1), .lit (.int .i64 0), .lit (.int .i64 0), .lit (.int .i64 0), .lit (.int .i64 0), .lit (.int .i64 0), .lit (.int .i64 0), .lit (.string ⟨#[]⟩), .lit (.slice none 0 0), .lit (.int .i64 0), .lit (.slice none 0 0), .lit (.bool false)]
theorem rawZ_rep (x : RN) : All2 CT (rawZ x.L) (ivL (zI x)) :=
  .cons (.inl rfl) (.cons (.inl rfl) (.cons (.inl rfl) (.cons (.inl rfl) (.cons (.inl rfl) (.cons (.inl rfl) (.cons (.inl rfl) (.cons (.inl rfl) (.cons (.inl rfl) (.cons (.inr ⟨rfl, 1, rfl⟩) (.cons (.inl rfl) (.cons (.inr ⟨rfl, 1, rfl⟩) (.cons (.inl rfl) .nil))))))))))))
theorem rep_all (x : RN) : ∀ n, All2 (All2 CT) (List.replicate n (rawZ x.L)) ((List.replicate n (zI x)).map ivL)
  | 0 => .nil
  | n + 1 => by
    rw [List.replicate_succ, List.replicate_succ, List.map_cons]
    exact .cons (rawZ_rep x) (rep_all x n)
def zr (L : Int) (n i : Nat) : List (List T) := List.replicate i (rawZ L) ++ List.replicate (n - i) raw0
theorem zr_get (L : Int) (n i : Nat) (h : i < n) : (zr L n i)[i]? = some raw0 := by
  unfold zr
  rw [List.getElem?_append_right (by simp), List.length_replicate, Nat.sub_self, List.getElem?_replicate, if_pos (by omega)]
theorem zr_set (L : Int) (n i : Nat) (h : i < n) : (zr L n i).set i (rawZ L) = zr L n (i + 1) := by
  unfold zr
  rw [List.set_append, if_neg (by simp), List.length_replicate, Nat.sub_self]
  obtain ⟨m, hm⟩ : ∃ m, n - i = m + 1 := ⟨n - i - 1, by omega⟩
  have h2 : n - (i + 1) = m := by omega
  rw [hm, h2, List.replicate_succ, List.set_cons_zero, List.replicate_succ', List.append_assoc]; rfl
theorem zr_len (L : Int) (n i : Nat) (h : i ≤ n) : (zr L n i).length = n := by simp [zr]; omega
theorem zr_zero (L : Int) (n : Nat) : zr L n 0 = List.replicate n raw0 := by simp [zr]
theorem zr_all (L : Int) (n : Nat) : zr L n n = List.replicate n (rawZ L) := by simp [zr]

theorem PI_ok {x : RN} (hx : x.ok) {ls : List IN} {t : TY} (h : PI x ls t) {r : Nat} {z : IN} (hz : ls[r]? = some z) : z.ok := by
  have h1 := hx.cl
  rcases h.each r z hz with ⟨rfl, _⟩ | ⟨S, D, m, rfl, e2, e3, _⟩
  · exact ⟨by simp [zI], by simp [zI]⟩
  · have h2 := hx.n7
    have h3 := hx.dl
    exact ⟨by simp only [pI]; omega, by simp only [pI]; omega⟩

def st79 (x : RN) (t : TY) (ls : List IN) (i : Nat) : L := [(.slot 1, sP 1), (.cell 1 0, .c (lI x.N)), (.cell 1 1, .c (lI x.L)), (.cell 1 2, .c (lI x.k)), (.cell 1 3, .c (.t (.lit (.string x.h)))), (.cell 1 4, .c (.t (vBy x.c))), (.cell 1 5, .c (lI x.s)), (.cell 1 6, .c (.t (vInts x.d))), (.cell 1 7, .c (.t (vInts x.asked))), (.cell 1 8, .c (.t (vAtts x.loc))), (.slot 3, sP 3), (.cell 3 0, .c (lI 0)), (.cell 3 1, .c (lI 0)), (.cell 3 2, .c (.t (.lit (.slice none 0 0)))), (.slot 5, sR 50), (.vec 50, .r 13 133 (ls.map ivL)), (.slot 6, sP 6), (.cell 6 0, .c (lI 0)), (.cell 6 1, .c (lI x.L)), (.slot 7, sP 76), (.cell 76 0, .c (lI t.n)), (.cell 76 1, .c (.row 90)), (.cell 76 2, .c (lB t.first)), (.cell 76 3, .c (lI t.s)), (.cell 76 4, .c (.t (vInts t.d))), (.cell 76 5, .c (lI t.S)), (.cell 76 6, .c (.t (vInts t.D))), (.cell 76 7, .c (lB t.ag)), (.vec 90, rV 3 t.who), (.slot 122, sT (vInts x.asked)), (.slot 123, sI x.asked.length), (.slot 124, sI i)]

theorem s79 (x : RN) (hx : x.ok) : Does Try.prog 79 [.agg ((runL x.N x.L x.k x.h x.c x.s x.d x.asked x.loc x.later x.lead).map .t)] [] (.tup [.one (.row 50), .agg [lI (chS (plS x x.asked.length).2).1, lI (chS (plS x x.asked.length).2).2.1, .t (vInts (chS (plS x x.asked.length).2).2.2)], .one (lB true)]) [(.vec 50, .r 13 133 ((plS x x.asked.length).1.map ivL))] := by
  have b1 := hx.n1
  have b2 := hx.n7
  have b3 := hx.l
  have b4 := hx.a
  have b5 := hx.dl
  have b6 := hx.kk
  have b7 := hx.cl
  have g1 : ¬ (x.N : Int) < 1 := by omega
  have g2 : ¬ (7 : Int) < x.N := by omega
  have g3 : ¬ (x.L : Int) < 0 := by omega
  have g4 : ¬ (x.N : Int) ≤ x.L := by omega
  have g6 : (((x.d.length : Nat) : Int) != (x.N : Nat)) = false := by simp [b5]
  simp only [kOK, Bool.and_eq_true, decide_eq_true_eq] at b6
  have g7 : ¬ x.k < 0 := by omega
  have g8 : ¬ 2 < x.k := by omega
  have hd2 : x.d.length ≤ 4611686018427387903 := by omega
  have hd3 : x.d.length * 8 ≤ 140737488351232 := by omega
  have hc2 : x.c.length ≤ 140737488355328 := by omega
  have hN1 : (x.N : Int) ≤ 140737488355328 := by omega
  have hN2 : (x.N : Int) * ((144 : Nat) : Int) ≤ 281474976710656 := by omega
  have kw62 := s62 x.N x.L x.s x.d true (by simp [goodT, b4, b5]; omega)
  have hrep : List.replicate x.N [T.lit (.int .i64 0), .lit (.int .i64 0), .lit (.int .i64 0), .lit (.int .i64 0), .lit (.int .i64 0), .lit (.int .i64 0), .lit (.int .i64 0), .lit (.int .i64 0), .lit (.string ⟨#[]⟩), .lit (.slice none 0 0), .lit (.int .i64 0), .lit (.slice none 0 0), .lit (.bool false)] = zr x.L x.N 0 := (zr_zero x.L x.N).symm
  have hzl0 : (zr x.L x.N 0).length = x.N := zr_len _ _ _ (Nat.zero_le _)
  refine does_of_body Try.func79 rfl (by simp [Try.f79]) rfl rfl ?_; rw [Try.ntmps79, Try.results79]; intro w0 G0 ρ0
  (repeat' (first | refine thenL_n ?_ | refine thenL_r ?_ | refine thenL_x ?_ | refine blockL_n ?_ | refine blockL_r ?_ | refine blockL_x ?_ | refine blockL_y rfl ?_ | refine awp_seq ?_ | refine awp_block ?_ | refine awp_ret ?_ | refine awp_exit ?_ | refine awp_skip ?_ | exact absurd hcond (by decide) | ((fail_if_success (refine isReg 8 ?_)); first | (refine awp_txt ?_; refine runs_to [] (by simp only [go_sem, g1, g2, g3, g4, b4, g6, g7, g8, hN1, hN2, hrep]; rfl) ?_) | (refine awp_draw mixed ?_; refine runs_to [] (by simp only [go_sem, g1, g2, g3, g4, b4, g6, g7, g8, hN1, hN2, hrep]; rfl) ?_)) | refine runD_nil ⟨by kernel_rfl, ?_⟩ | refine runD_nil ?_ | (refine runD_call (c73 x.s x.d hd2) cb73 (by rfl) (by simp only [go_sem, g1, g2, g3, g4, b4, g6, g7, g8, hN1, hN2, hrep]; rfl) (by ((repeat' (first | exact All2.nil | refine All2.cons ?_ ?_ | exact SubV.one (SubT.same _) | exact SubV.one (SubT.nil _) | refine SubV.agg ?_ | exact SubT.same _ | exact SubT.nil _)); first | done | fail)) ?_; refine runs_to [] (by simp only [go_sem, g1, g2, g3, g4, b4, g6, g7, g8, hN1, hN2, hrep]; rfl) ?_) | (refine runD_call (c74 x.s x.d hd3) cb74 (by rfl) (by simp only [go_sem, g1, g2, g3, g4, b4, g6, g7, g8, hN1, hN2, hrep]; rfl) (by ((repeat' (first | exact All2.nil | refine All2.cons ?_ ?_ | exact SubV.one (SubT.same _) | exact SubV.one (SubT.nil _) | refine SubV.agg ?_ | exact SubT.same _ | exact SubT.nil _)); first | done | fail)) ?_; refine runs_to [] (by simp only [go_sem, g1, g2, g3, g4, b4, g6, g7, g8, hN1, hN2, hrep]; rfl) ?_) | (refine runD_does [] [41, 3015] (kw62) cb62 (by rfl) (.inl (by simp only [go_sem, g1, g2, g3, g4, b4, g6, g7, g8, hN1, hN2, hrep]; rfl)) (by simp only [go_sem, ren, dels, adds, rn, At.rn, V1.rn, SV.rn, Cont.rn, Loc.rn, news, vals2, keys2, namesB, locKeys, injOn, noSlots, List.all, List.any, g1, g2, g3, g4, b4, g6, g7, g8, hN1, hN2, hrep]; rfl) (by first | kernel_rfl | rfl) (by simp only [go_sem, ren, dels, adds, rn, At.rn, V1.rn, SV.rn, Cont.rn, Loc.rn, news, vals2, keys2, namesB, locKeys, injOn, noSlots, List.all, List.any, g1, g2, g3, g4, b4, g6, g7, g8, hN1, hN2, hrep]; ((repeat' (first | exact All2.nil | refine All2.cons ?_ ?_ | exact SubW.one (SubA.same _) | exact SubW.one (SubA.nil _) | exact SubW.one (SubA.ptr _) | refine SubW.agg ?_ | exact SubA.same _ | exact SubA.nil _ | exact SubA.ptr _)); first | done | fail)) (by simp only [go_sem, ren, dels, adds, rn, At.rn, V1.rn, SV.rn, Cont.rn, Loc.rn, news, vals2, keys2, namesB, locKeys, injOn, noSlots, List.all, List.any, g1, g2, g3, g4, b4, g6, g7, g8, hN1, hN2, hrep]; (repeat' (first | exact trivial | refine And.intro rfl ?_)); first | done | fail) (by simp only [go_sem, ren, dels, adds, rn, At.rn, V1.rn, SV.rn, Cont.rn, Loc.rn, news, vals2, keys2, namesB, locKeys, injOn, noSlots, List.all, List.any, g1, g2, g3, g4, b4, g6, g7, g8, hN1, hN2, hrep]; (repeat' (first | exact trivial | refine And.intro rfl ?_)); first | done | fail) ?_; simp only [go_sem, ren, dels, adds, rn, At.rn, V1.rn, SV.rn, Cont.rn, Loc.rn, news, vals2, keys2, namesB, locKeys, injOn, noSlots, List.all, List.any, g1, g2, g3, g4, b4, g6, g7, g8, hN1, hN2, hrep]; refine runs_to [] (by simp only [go_sem, g1, g2, g3, g4, b4, g6, g7, g8, hN1, hN2, hrep]; rfl) ?_) | (refine awp_cond (b := _) (by simp only [go_sem, evB, g1, g2, g3, g4, b4, g6, g7, g8, hN1, hN2, hrep]; rfl) (fun hcond => ?_) (fun hcond => ?_))))
  refine awp_imp (Imp.takeE 64 50 (by simp only [go_sem, fixL, Cont.fix, SV.fix, V1.fix, At.fix, cellsT, renL, Loc.ren, Cont.ren, SV.ren, V1.ren, At.ren, freezeL, hrep]) (by simp only [go_sem, fixL, Cont.fix, SV.fix, V1.fix, At.fix, cellsT, renL, Loc.ren, Cont.ren, SV.ren, V1.ren, At.ren, freezeL, hrep]; rfl) (by decide) (by simp only [go_sem, fixL, Cont.fix, SV.fix, V1.fix, At.fix, cellsT, renL, Loc.ren, Cont.ren, SV.ren, V1.ren, At.ren, freezeL, hrep]; rfl)) ?_
  refine awp_imp (Imp.takeE 3076 90 (by simp only [go_sem, fixL, Cont.fix, SV.fix, V1.fix, At.fix, cellsT, renL, Loc.ren, Cont.ren, SV.ren, V1.ren, At.ren, freezeL, hrep]) (by simp only [go_sem, fixL, Cont.fix, SV.fix, V1.fix, At.fix, cellsT, renL, Loc.ren, Cont.ren, SV.ren, V1.ren, At.ren, freezeL, hrep]; rfl) (by decide) (by simp only [go_sem, fixL, Cont.fix, SV.fix, V1.fix, At.fix, cellsT, renL, Loc.ren, Cont.ren, SV.ren, V1.ren, At.ren, freezeL, hrep]; rfl)) ?_
  (repeat' (first | refine thenL_n ?_ | refine thenL_r ?_ | refine thenL_x ?_ | refine blockL_n ?_ | refine blockL_r ?_ | refine blockL_x ?_ | refine blockL_y rfl ?_ | refine awp_seq ?_ | refine awp_block ?_ | refine awp_ret ?_ | refine awp_exit ?_ | refine awp_skip ?_ | exact absurd hcond (by decide) | (first | (refine awp_txt ?_; refine runs_to [] (by simp only [go_sem, hrep, hzl0]; rfl) ?_) | (refine awp_draw mixed ?_; refine runs_to [] (by simp only [go_sem, hrep, hzl0]; rfl) ?_)) | refine runD_nil ⟨by kernel_rfl, ?_⟩ | refine runD_nil ?_ | (refine awp_cond (b := _) (by simp only [go_sem, evB, hrep, hzl0]; rfl) (fun hcond => ?_) (fun hcond => ?_))))
  refine awp_loop (fun i : Nat => [(.slot 1, sP 1), (.cell 1 0, .c (lI x.N)), (.cell 1 1, .c (lI x.L)), (.cell 1 2, .c (lI x.k)), (.cell 1 3, .c (.t (.lit (.string x.h)))), (.cell 1 4, .c (.t (vBy x.c))), (.cell 1 5, .c (lI x.s)), (.cell 1 6, .c (.t (vInts x.d))), (.cell 1 7, .c (.t (vInts x.asked))), (.cell 1 8, .c (.t (vAtts x.loc))), (.slot 3, sP 3), (.cell 3 0, .c (lI 0)), (.cell 3 1, .c (lI 0)), (.cell 3 2, .c (.t (.lit (.slice none 0 0)))), (.slot 5, sR 50), (.vec 50, .r 13 133 (zr x.L x.N i)), (.slot 6, sP 6), (.cell 6 0, .c (lI 0)), (.cell 6 1, .c (lI x.L)), (.slot 7, sP 76), (.cell 76 0, .c (lI x.N)), (.cell 76 1, .c (.row 90)), (.cell 76 2, .c (lB true)), (.cell 76 3, .c (lI x.s)), (.cell 76 4, .c (.t (vInts x.d))), (.cell 76 5, .c (lI x.s)), (.cell 76 6, .c (.t (vInts x.d))), (.cell 76 7, .c (lB true)), (.vec 90, rV 3 [(x.L : Int)]), (.slot 87, sI x.N), (.slot 88, sI i)]) (fun i => i ≤ x.N) (fun i => x.N - i) 0 (Nat.zero_le _) (by refine Imp.of_in ?_; simp only [go_sem, hrep, hzl0, Int.natCast_zero]) ?_
  · intro i hi
    have hzl := zr_len x.L x.N i hi
    by_cases hlt : (i : Int) < (x.N : Int)
    · have hil : i < x.N := by omega
      have hg := zr_get x.L x.N i hil
      have hs := zr_set x.L x.N i hil
      have hw := up i (by omega)
      simp only [raw0, rawZ] at hg hs
      (repeat' (first | refine thenL_n ?_ | refine thenL_r ?_ | refine thenL_x ?_ | refine blockL_n ?_ | refine blockL_r ?_ | refine blockL_x ?_ | refine blockL_y rfl ?_ | refine awp_seq ?_ | refine awp_block ?_ | refine awp_ret ?_ | refine awp_exit ?_ | refine awp_skip ?_ | exact absurd hcond (by decide) | (first | (refine awp_txt ?_; refine runs_to [] (by simp only [go_sem, hlt, hil, hzl, hg, hs, hw]; rfl) ?_) | (refine awp_draw mixed ?_; refine runs_to [] (by simp only [go_sem, hlt, hil, hzl, hg, hs, hw]; rfl) ?_)) | refine runD_nil ⟨by kernel_rfl, ?_⟩ | refine runD_nil ?_ | (refine awp_cond (b := _) (by simp only [go_sem, evB, hlt, hil, hzl, hg, hs, hw]; rfl) (fun hcond => ?_) (fun hcond => ?_))))
      exact ⟨i + 1, by omega, by omega, (by refine Imp.of_in ?_; simp only [go_sem, hs])⟩
    · have hii : i = x.N := by omega
      subst hii
      (repeat' (first | refine thenL_n ?_ | refine thenL_r ?_ | refine thenL_x ?_ | refine blockL_n ?_ | refine blockL_r ?_ | refine blockL_x ?_ | refine blockL_y rfl ?_ | refine awp_seq ?_ | refine awp_block ?_ | refine awp_ret ?_ | refine awp_exit ?_ | refine awp_skip ?_ | exact absurd hcond (by decide) | ((fail_if_success (refine isReg 13 ?_)); first | (refine awp_txt ?_; refine runs_to [] (by simp only [go_sem, hlt]; rfl) ?_) | (refine awp_draw mixed ?_; refine runs_to [] (by simp only [go_sem, hlt]; rfl) ?_)) | refine runD_nil ⟨by kernel_rfl, ?_⟩ | refine runD_nil ?_ | (refine awp_cond (b := _) (by simp only [go_sem, evB, hlt]; rfl) (fun hcond => ?_) (fun hcond => ?_))))
      refine awp_imp (Imp.coeRow 50 (by simp only [go_sem]; rfl) (by rw [zr_all]; exact rep_all x x.N)) ?_
      have hrl : (List.replicate x.N (zI x)).length = x.N := List.length_replicate
      have hri : (List.replicate x.N (zI x))[x.L]? = some (zI x) := by rw [List.getElem?_replicate, if_pos b3]
      have k106 := c106 (zI x) ⟨by simp [zI], by simp [zI]⟩ 0 x.L x.k x.h x.c hc2 x.s x.d hd3 x.s x.d
      have hp : paR (zI x) 0 x.L x.k x.h x.c x.s x.d x.s x.d = (pI x x.s x.d true, true) := by
        have := ask_z hx (x.s, x.d)
        rw [mx2_self, mxL_self, if_pos (att_join b4 b4 rfl).1] at this
        simpa [ask1] using this
      rw [hp] at k106
      have hset : (List.map ivL (List.replicate x.N (zI x))).set x.L (ivL (pI x x.s x.d true)) = List.map ivL (plS x 0).1 := by
        simp only [plS, List.map_set]
      have h0 := PI_all hx 0
      have hl0 : (0 : Int) ≤ (x.L : Int) := by omega
      generalize List.replicate x.N (zI x) = l0 at hrl hri hset
      generalize pI x x.s x.d true = p0 at k106 hset
      simp only [ivL, vBy, vInts] at hset
      have ht0 : (plS x 0).2 = ⟨x.N, [(x.L : Int)], true, x.s, x.d, x.s, x.d, true⟩ := rfl
      (repeat' (first | refine thenL_n ?_ | refine thenL_r ?_ | refine thenL_x ?_ | refine blockL_n ?_ | refine blockL_r ?_ | refine blockL_x ?_ | refine blockL_y rfl ?_ | refine awp_seq ?_ | refine awp_block ?_ | refine awp_ret ?_ | refine awp_exit ?_ | refine awp_skip ?_ | exact absurd hcond (by decide) | (first | (refine awp_txt ?_; refine runs_to [] (by simp only [go_sem, hrl, hri, b3, hset, hl0]; rfl) ?_) | (refine awp_draw mixed ?_; refine runs_to [] (by simp only [go_sem, hrl, hri, b3, hset, hl0]; rfl) ?_)) | refine runD_nil ⟨by kernel_rfl, ?_⟩ | refine runD_nil ?_ | (refine runD_call (c74 x.s x.d hd3) cb74 (by rfl) (by simp only [go_sem, hrl, hri, b3, hset, hl0]; rfl) (by ((repeat' (first | exact All2.nil | refine All2.cons ?_ ?_ | exact SubV.one (SubT.same _) | exact SubV.one (SubT.nil _) | refine SubV.agg ?_ | exact SubT.same _ | exact SubT.nil _)); first | done | fail)) ?_; refine runs_to [] (by simp only [go_sem, hrl, hri, b3, hset, hl0]; rfl) ?_) | (refine runD_call (k106) cb106 (by rfl) (by simp only [go_sem, hrl, hri, b3, hset, hl0]; rfl) (by ((repeat' (first | exact All2.nil | refine All2.cons ?_ ?_ | exact SubV.one (SubT.same _) | exact SubV.one (SubT.nil _) | refine SubV.agg ?_ | exact SubT.same _ | exact SubT.nil _)); first | done | fail)) ?_; refine runs_to [] (by simp only [go_sem, hrl, hri, b3, hset, hl0]; rfl) ?_) | (refine awp_cond (b := _) (by simp only [go_sem, evB, hrl, hri, b3, hset, hl0]; rfl) (fun hcond => ?_) (fun hcond => ?_))))
      refine awp_loop (fun i : Nat => st79 x (plS x i).2 (plS x i).1 i) (fun i => i ≤ x.asked.length) (fun i => x.asked.length - i) 0 (Nat.zero_le _) (by refine Imp.of_in ?_; simp only [go_sem, st79, ht0, hset, Int.natCast_zero]) ?_
      intro i hi
      have hP := PI_all hx i
      have hPl := hP.len
      by_cases hlt : (i : Int) < x.asked.length
      · have hil : i < x.asked.length := by omega
        have hxi : x.asked[i]? = some x.asked[i] := List.getElem?_eq_getElem hil
        have hnext : plS x (i + 1) = askS x (plS x i) i x.asked[i] := by rw [plS, hxi]
        have hw := up i (by have := hx.al; omega)
        generalize x.asked[i] = r at hxi hnext
        generalize plS x i = a at hP hPl hnext
        obtain ⟨ls, t⟩ := a
        simp only at hP hPl
        simp only [st79]
        by_cases q1 : r < 0
        · have hn : plS x (i + 1) = (ls, t) := by rw [hnext, askS, if_pos (.inl q1)]
          (repeat' (first | refine thenL_n ?_ | refine thenL_r ?_ | refine thenL_x ?_ | refine blockL_n ?_ | refine blockL_r ?_ | refine blockL_x ?_ | refine blockL_y rfl ?_ | refine awp_seq ?_ | refine awp_block ?_ | refine awp_ret ?_ | refine awp_exit ?_ | refine awp_skip ?_ | exact absurd hcond (by decide) | (first | (refine awp_txt ?_; refine runs_to [] (by simp only [go_sem, hlt, hil, hxi, hw, q1]; rfl) ?_) | (refine awp_draw mixed ?_; refine runs_to [] (by simp only [go_sem, hlt, hil, hxi, hw, q1]; rfl) ?_)) | refine runD_nil ⟨by kernel_rfl, ?_⟩ | refine runD_nil ?_ | (refine awp_cond (b := _) (by simp only [go_sem, evB, hlt, hil, hxi, hw, q1]; rfl) (fun hcond => ?_) (fun hcond => ?_))))
          exact ⟨i + 1, by omega, by omega, (by refine Imp.of_in ?_; simp only [go_sem, st79, hn])⟩
        by_cases q2 : (x.N : Int) ≤ r
        · have hn : plS x (i + 1) = (ls, t) := by rw [hnext, askS, if_pos (.inr (.inl q2))]
          (repeat' (first | refine thenL_n ?_ | refine thenL_r ?_ | refine thenL_x ?_ | refine blockL_n ?_ | refine blockL_r ?_ | refine blockL_x ?_ | refine blockL_y rfl ?_ | refine awp_seq ?_ | refine awp_block ?_ | refine awp_ret ?_ | refine awp_exit ?_ | refine awp_skip ?_ | exact absurd hcond (by decide) | (first | (refine awp_txt ?_; refine runs_to [] (by simp only [go_sem, hlt, hil, hxi, hw, q1, q2]; rfl) ?_) | (refine awp_draw mixed ?_; refine runs_to [] (by simp only [go_sem, hlt, hil, hxi, hw, q1, q2]; rfl) ?_)) | refine runD_nil ⟨by kernel_rfl, ?_⟩ | refine runD_nil ?_ | (refine awp_cond (b := _) (by simp only [go_sem, evB, hlt, hil, hxi, hw, q1, q2]; rfl) (fun hcond => ?_) (fun hcond => ?_))))
          exact ⟨i + 1, by omega, by omega, (by refine Imp.of_in ?_; simp only [go_sem, st79, hn])⟩
        by_cases q3 : r = (x.L : Int)
        · have q3' : (r == (x.L : Int)) = true := by simp [q3]
          have hn : plS x (i + 1) = (ls, t) := by rw [hnext, askS, if_pos (.inr (.inr q3))]
          (repeat' (first | refine thenL_n ?_ | refine thenL_r ?_ | refine thenL_x ?_ | refine blockL_n ?_ | refine blockL_r ?_ | refine blockL_x ?_ | refine blockL_y rfl ?_ | refine awp_seq ?_ | refine awp_block ?_ | refine awp_ret ?_ | refine awp_exit ?_ | refine awp_skip ?_ | exact absurd hcond (by decide) | (first | (refine awp_txt ?_; refine runs_to [] (by simp only [go_sem, hlt, hil, hxi, hw, q1, q2, q3']; rfl) ?_) | (refine awp_draw mixed ?_; refine runs_to [] (by simp only [go_sem, hlt, hil, hxi, hw, q1, q2, q3']; rfl) ?_)) | refine runD_nil ⟨by kernel_rfl, ?_⟩ | refine runD_nil ?_ | (refine awp_cond (b := _) (by simp only [go_sem, evB, hlt, hil, hxi, hw, q1, q2, q3']; rfl) (fun hcond => ?_) (fun hcond => ?_))))
          exact ⟨i + 1, by omega, by omega, (by refine Imp.of_in ?_; simp only [go_sem, st79, hn])⟩
        have q3' : (r == (x.L : Int)) = false := by simp [q3]
        have hcond : ¬ (r < 0 ∨ (x.N : Int) ≤ r ∨ r = (x.L : Int)) := by omega
        obtain ⟨n, rfl⟩ := Int.eq_ofNat_of_zero_le (show 0 ≤ r by omega)
        have hnl : n < ls.length := by omega
        have hz : ls[n]? = some ls[n] := List.getElem?_eq_getElem hnl
        by_cases q4 : (x.loc.length : Int) ≤ (i : Int)
        · have hn : plS x (i + 1) = (ls, t) := by
            have : x.loc[i]? = none := List.getElem?_eq_none (by omega)
            rw [hnext, askS, if_neg hcond, this]
            split
            · rename_i h; simp at h
            · rfl
          (repeat' (first | refine thenL_n ?_ | refine thenL_r ?_ | refine thenL_x ?_ | refine blockL_n ?_ | refine blockL_r ?_ | refine blockL_x ?_ | refine blockL_y rfl ?_ | refine awp_seq ?_ | refine awp_block ?_ | refine awp_ret ?_ | refine awp_exit ?_ | refine awp_skip ?_ | exact absurd hcond (by decide) | (first | (refine awp_txt ?_; refine runs_to [] (by simp only [go_sem, hlt, hil, hxi, hw, q1, q2, q3', q4]; rfl) ?_) | (refine awp_draw mixed ?_; refine runs_to [] (by simp only [go_sem, hlt, hil, hxi, hw, q1, q2, q3', q4]; rfl) ?_)) | refine runD_nil ⟨by kernel_rfl, ?_⟩ | refine runD_nil ?_ | (refine awp_cond (b := _) (by simp only [go_sem, evB, hlt, hil, hxi, hw, q1, q2, q3', q4]; rfl) (fun hcond => ?_) (fun hcond => ?_))))
          exact ⟨i + 1, by omega, by omega, (by refine Imp.of_in ?_; simp only [go_sem, st79, hn])⟩
        have hjl : i < x.loc.length := by omega
        have hq : x.loc[i]? = some x.loc[i] := List.getElem?_eq_getElem hjl
        have hqb := hx.ll x.loc[i] (List.getElem_mem _)
        have hzo := PI_ok hx hP hz
        generalize ls[n] = z at hz hzo
        generalize x.loc[i] = q at hq hqb
        have k106 := c106 z hzo 0 x.L x.k x.h x.c hc2 x.s x.d hd3 q.1 q.2
        have hn0 : plS x (i + 1) = (if (ask1 x z q).2 = true then (ls.set n (ask1 x z q).1, repT t n (ask1 x z q).1.s (ask1 x z q).1.d (ask1 x z q).1.same) else (ls, t)) := by
          rw [hnext, askS, if_neg hcond, Int.toNat_natCast, hz, hq]
        have he : ask1 x z q = paR z 0 x.L x.k x.h x.c x.s x.d q.1 q.2 := rfl
        rw [he] at hn0
        generalize paR z 0 x.L x.k x.h x.c x.s x.d q.1 q.2 = y at k106 hn0
        obtain ⟨y, b⟩ := y
        simp only at k106 hn0
        have hn00 : (0 : Int) ≤ (n : Int) := by omega
        have hnlN : n < x.N := by omega
        cases b with
        | false =>
          have hn : plS x (i + 1) = (ls, t) := by rw [hn0, if_neg (by simp)]
          (repeat' (first | refine thenL_n ?_ | refine thenL_r ?_ | refine thenL_x ?_ | refine blockL_n ?_ | refine blockL_r ?_ | refine blockL_x ?_ | refine blockL_y rfl ?_ | refine awp_seq ?_ | refine awp_block ?_ | refine awp_ret ?_ | refine awp_exit ?_ | refine awp_skip ?_ | exact absurd hcond (by decide) | (first | (refine awp_txt ?_; refine runs_to [] (by simp only [go_sem, hlt, hil, hxi, hw, q1, q2, q3', q4, hz, hnl, hPl, hnlN, hn00, hq, hjl]; rfl) ?_) | (refine awp_draw mixed ?_; refine runs_to [] (by simp only [go_sem, hlt, hil, hxi, hw, q1, q2, q3', q4, hz, hnl, hPl, hnlN, hn00, hq, hjl]; rfl) ?_)) | refine runD_nil ⟨by kernel_rfl, ?_⟩ | refine runD_nil ?_ | (refine runD_call (c74 x.s x.d hd3) cb74 (by rfl) (by simp only [go_sem, hlt, hil, hxi, hw, q1, q2, q3', q4, hz, hnl, hPl, hnlN, hn00, hq, hjl]; rfl) (by ((repeat' (first | exact All2.nil | refine All2.cons ?_ ?_ | exact SubV.one (SubT.same _) | exact SubV.one (SubT.nil _) | refine SubV.agg ?_ | exact SubT.same _ | exact SubT.nil _)); first | done | fail)) ?_; refine runs_to [] (by simp only [go_sem, hlt, hil, hxi, hw, q1, q2, q3', q4, hz, hnl, hPl, hnlN, hn00, hq, hjl]; rfl) ?_) | (refine runD_call (c74 q.1 q.2 hqb) cb74 (by rfl) (by simp only [go_sem, hlt, hil, hxi, hw, q1, q2, q3', q4, hz, hnl, hPl, hnlN, hn00, hq, hjl]; rfl) (by ((repeat' (first | exact All2.nil | refine All2.cons ?_ ?_ | exact SubV.one (SubT.same _) | exact SubV.one (SubT.nil _) | refine SubV.agg ?_ | exact SubT.same _ | exact SubT.nil _)); first | done | fail)) ?_; refine runs_to [] (by simp only [go_sem, hlt, hil, hxi, hw, q1, q2, q3', q4, hz, hnl, hPl, hnlN, hn00, hq, hjl]; rfl) ?_) | (refine runD_call (k106) cb106 (by rfl) (by simp only [go_sem, hlt, hil, hxi, hw, q1, q2, q3', q4, hz, hnl, hPl, hnlN, hn00, hq, hjl]; rfl) (by ((repeat' (first | exact All2.nil | refine All2.cons ?_ ?_ | exact SubV.one (SubT.same _) | exact SubV.one (SubT.nil _) | refine SubV.agg ?_ | exact SubT.same _ | exact SubT.nil _)); first | done | fail)) ?_; refine runs_to [] (by simp only [go_sem, hlt, hil, hxi, hw, q1, q2, q3', q4, hz, hnl, hPl, hnlN, hn00, hq, hjl]; rfl) ?_) | (refine awp_cond (b := _) (by simp only [go_sem, evB, hlt, hil, hxi, hw, q1, q2, q3', q4, hz, hnl, hPl, hnlN, hn00, hq, hjl]; rfl) (fun hcond => ?_) (fun hcond => ?_))))
          exact ⟨i + 1, by omega, by omega, (by refine Imp.of_in ?_; simp only [go_sem, st79, hn])⟩
        | true =>
          have hn : plS x (i + 1) = (ls.set n y, repT t n y.s y.d y.same) := by rw [hn0, if_pos rfl]
          have kw64 := s64z t n y.s y.d y.same (by have := hP.wl; omega)
          have hset2 : (List.map ivL ls).set n (ivL y) = List.map ivL (ls.set n y) := by rw [List.map_set]
          simp only [ivL, vBy, vInts] at hset2
          generalize repT t n y.s y.d y.same = t' at hn kw64
          (repeat' (first | refine thenL_n ?_ | refine thenL_r ?_ | refine thenL_x ?_ | refine blockL_n ?_ | refine blockL_r ?_ | refine blockL_x ?_ | refine blockL_y rfl ?_ | refine awp_seq ?_ | refine awp_block ?_ | refine awp_ret ?_ | refine awp_exit ?_ | refine awp_skip ?_ | exact absurd hcond (by decide) | (first | (refine awp_txt ?_; refine runs_to [] (by simp only [go_sem, hlt, hil, hxi, hw, q1, q2, q3', q4, hz, hnl, hPl, hnlN, hn00, hq, hjl, hset2]; rfl) ?_) | (refine awp_draw mixed ?_; refine runs_to [] (by simp only [go_sem, hlt, hil, hxi, hw, q1, q2, q3', q4, hz, hnl, hPl, hnlN, hn00, hq, hjl, hset2]; rfl) ?_)) | refine runD_nil ⟨by kernel_rfl, ?_⟩ | refine runD_nil ?_ | (refine runD_call (c74 x.s x.d hd3) cb74 (by rfl) (by simp only [go_sem, hlt, hil, hxi, hw, q1, q2, q3', q4, hz, hnl, hPl, hnlN, hn00, hq, hjl, hset2]; rfl) (by ((repeat' (first | exact All2.nil | refine All2.cons ?_ ?_ | exact SubV.one (SubT.same _) | exact SubV.one (SubT.nil _) | refine SubV.agg ?_ | exact SubT.same _ | exact SubT.nil _)); first | done | fail)) ?_; refine runs_to [] (by simp only [go_sem, hlt, hil, hxi, hw, q1, q2, q3', q4, hz, hnl, hPl, hnlN, hn00, hq, hjl, hset2]; rfl) ?_) | (refine runD_call (c74 q.1 q.2 hqb) cb74 (by rfl) (by simp only [go_sem, hlt, hil, hxi, hw, q1, q2, q3', q4, hz, hnl, hPl, hnlN, hn00, hq, hjl, hset2]; rfl) (by ((repeat' (first | exact All2.nil | refine All2.cons ?_ ?_ | exact SubV.one (SubT.same _) | exact SubV.one (SubT.nil _) | refine SubV.agg ?_ | exact SubT.same _ | exact SubT.nil _)); first | done | fail)) ?_; refine runs_to [] (by simp only [go_sem, hlt, hil, hxi, hw, q1, q2, q3', q4, hz, hnl, hPl, hnlN, hn00, hq, hjl, hset2]; rfl) ?_) | (refine runD_call (k106) cb106 (by rfl) (by simp only [go_sem, hlt, hil, hxi, hw, q1, q2, q3', q4, hz, hnl, hPl, hnlN, hn00, hq, hjl, hset2]; rfl) (by ((repeat' (first | exact All2.nil | refine All2.cons ?_ ?_ | exact SubV.one (SubT.same _) | exact SubV.one (SubT.nil _) | refine SubV.agg ?_ | exact SubT.same _ | exact SubT.nil _)); first | done | fail)) ?_; refine runs_to [] (by simp only [go_sem, hlt, hil, hxi, hw, q1, q2, q3', q4, hz, hnl, hPl, hnlN, hn00, hq, hjl, hset2]; rfl) ?_) | (refine runD_does [(100000, 76), (100001, 90)] [29] (kw64) cb64 (by rfl) (.inl (by simp only [go_sem, hlt, hil, hxi, hw, q1, q2, q3', q4, hz, hnl, hPl, hnlN, hn00, hq, hjl, hset2]; rfl)) (by simp only [go_sem, ren, dels, adds, rn, At.rn, V1.rn, SV.rn, Cont.rn, Loc.rn, news, vals2, keys2, namesB, locKeys, injOn, noSlots, List.all, List.any, hlt, hil, hxi, hw, q1, q2, q3', q4, hz, hnl, hPl, hnlN, hn00, hq, hjl, hset2]; rfl) (by first | kernel_rfl | rfl) (by simp only [go_sem, ren, dels, adds, rn, At.rn, V1.rn, SV.rn, Cont.rn, Loc.rn, news, vals2, keys2, namesB, locKeys, injOn, noSlots, List.all, List.any, hlt, hil, hxi, hw, q1, q2, q3', q4, hz, hnl, hPl, hnlN, hn00, hq, hjl, hset2]; ((repeat' (first | exact All2.nil | refine All2.cons ?_ ?_ | exact SubW.one (SubA.same _) | exact SubW.one (SubA.nil _) | exact SubW.one (SubA.ptr _) | refine SubW.agg ?_ | exact SubA.same _ | exact SubA.nil _ | exact SubA.ptr _)); first | done | fail)) (by simp only [go_sem, ren, dels, adds, rn, At.rn, V1.rn, SV.rn, Cont.rn, Loc.rn, news, vals2, keys2, namesB, locKeys, injOn, noSlots, List.all, List.any, hlt, hil, hxi, hw, q1, q2, q3', q4, hz, hnl, hPl, hnlN, hn00, hq, hjl, hset2]; (repeat' (first | exact trivial | refine And.intro rfl ?_)); first | done | fail) (by simp only [go_sem, ren, dels, adds, rn, At.rn, V1.rn, SV.rn, Cont.rn, Loc.rn, news, vals2, keys2, namesB, locKeys, injOn, noSlots, List.all, List.any, hlt, hil, hxi, hw, q1, q2, q3', q4, hz, hnl, hPl, hnlN, hn00, hq, hjl, hset2]; (repeat' (first | exact trivial | refine And.intro rfl ?_)); first | done | fail) ?_; simp only [go_sem, ren, dels, adds, rn, At.rn, V1.rn, SV.rn, Cont.rn, Loc.rn, news, vals2, keys2, namesB, locKeys, injOn, noSlots, List.all, List.any, hlt, hil, hxi, hw, q1, q2, q3', q4, hz, hnl, hPl, hnlN, hn00, hq, hjl, hset2]; refine runs_to [] (by simp only [go_sem, hlt, hil, hxi, hw, q1, q2, q3', q4, hz, hnl, hPl, hnlN, hn00, hq, hjl, hset2]; rfl) ?_) | (refine awp_cond (b := _) (by simp only [go_sem, evB, hlt, hil, hxi, hw, q1, q2, q3', q4, hz, hnl, hPl, hnlN, hn00, hq, hjl, hset2]; rfl) (fun hcond => ?_) (fun hcond => ?_))))
          exact ⟨i + 1, by omega, by omega, (by refine Imp.back 181 90 (by simp only [go_sem, renL, Loc.ren, Cont.ren, SV.ren, V1.ren, At.ren,  st79, hn, hset2]) (by simp only [go_sem, renL, Loc.ren, Cont.ren, SV.ren, V1.ren, At.ren,  st79, hn, hset2]) (by simp only [go_sem, renL, Loc.ren, Cont.ren, SV.ren, V1.ren, At.ren,  st79, hn, hset2]) (by decide) (by decide) ?_; refine Imp.of_in ?_; simp only [go_sem, renL, Loc.ren, Cont.ren, SV.ren, V1.ren, At.ren,  st79, hn, hset2])⟩
      · have hii : i = x.asked.length := by omega
        subst hii
        have kw66 := s66z (plS x x.asked.length).2 (by rw [hP.td]; exact hd3) (by have := hP.tdl; omega)
        generalize chS (plS x x.asked.length).2 = ch at kw66 ⊢
        generalize plS x x.asked.length = a at kw66 ⊢
        obtain ⟨ls, t⟩ := a
        simp only [st79]
        ((repeat' (first | refine thenL_n ?_ | refine thenL_r ?_ | refine thenL_x ?_ | refine blockL_n ?_ | refine blockL_r ?_ | refine blockL_x ?_ | refine blockL_y rfl ?_ | refine awp_seq ?_ | refine awp_block ?_ | refine awp_ret ?_ | refine awp_exit ?_ | refine awp_skip ?_ | exact absurd hcond (by decide) | (first | (refine awp_txt ?_; refine runs_to [] (by simp only [go_sem, hlt]; rfl) ?_) | (refine awp_draw mixed ?_; refine runs_to [] (by simp only [go_sem, hlt]; rfl) ?_)) | refine runD_nil ⟨by kernel_rfl, ?_⟩ | refine runD_nil ?_ | (refine runD_looks [(100000, 76), (100001, 90)] (kw66) cb66 (by rfl) (.inl (by simp only [go_sem, hlt]; rfl)) (by first | kernel_rfl | rfl) (by simp only [go_sem, ren, dels, adds, rn, At.rn, V1.rn, SV.rn, Cont.rn, Loc.rn, news, vals2, keys2, namesB, locKeys, injOn, noSlots, List.all, List.any, hlt]; ((repeat' (first | exact All2.nil | refine All2.cons ?_ ?_ | exact SubW.one (SubA.same _) | exact SubW.one (SubA.nil _) | exact SubW.one (SubA.ptr _) | refine SubW.agg ?_ | exact SubA.same _ | exact SubA.nil _ | exact SubA.ptr _)); first | done | fail)) (by simp only [go_sem, ren, dels, adds, rn, At.rn, V1.rn, SV.rn, Cont.rn, Loc.rn, news, vals2, keys2, namesB, locKeys, injOn, noSlots, List.all, List.any, hlt]; (repeat' (first | exact trivial | refine And.intro rfl ?_)); first | done | fail) (by simp only [go_sem, ren, dels, adds, rn, At.rn, V1.rn, SV.rn, Cont.rn, Loc.rn, news, vals2, keys2, namesB, locKeys, injOn, noSlots, List.all, List.any, hlt]; (repeat' (first | exact trivial | refine And.intro rfl ?_)); first | done | fail) ?_; simp only [go_sem, ren, dels, adds, rn, At.rn, V1.rn, SV.rn, Cont.rn, Loc.rn, news, vals2, keys2, namesB, locKeys, injOn, noSlots, List.all, List.any, hlt]; refine runs_to [] (by simp only [go_sem, hlt]; rfl) ?_) | (refine awp_cond (b := _) (by simp only [go_sem, evB, hlt]; rfl) (fun hcond => ?_) (fun hcond => ?_)))); all_goals (refine leavesD_ok (by first | exact Or.inl rfl | exact Or.inr rfl) (Imp.refl _) (by simp only [go_sem, resAll, resL, hlt]; rfl) (by simp only [packL]; (first | refine SubS.v ?_ | refine SubS.tup ?_); ((repeat' (first | exact All2.nil | refine All2.cons ?_ ?_ | exact SubW.one (SubA.same _) | exact SubW.one (SubA.nil _) | exact SubW.one (SubA.ptr _) | refine SubW.agg ?_ | exact SubA.same _ | exact SubA.nil _ | exact SubA.ptr _)); first | done | fail)) (by simp only [go_sem, hlt]; repeat' (first | exact trivial | refine And.intro rfl ?_))))
end Go.Proofs.Ytbohgpdpglfepaa
