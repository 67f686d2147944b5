import Derived.Test.YtbohgpdpglfepaaU2
set_option maxHeartbeats 4000000
set_option maxRecDepth 10000
set_option linter.unusedVariables false
set_option linter.unusedSimpArgs false
namespace Go.Proofs.Ytbohgpdpglfepaa
open Go.AM Go.RowKit
attribute [local irreducible] AWP thenL blockL AM.Leaves LeavesO RunD
attribute [local go_sem] runs stepR actF inF frzA frzW lastW act act1 actPick actNil actBin
  actUn actConv actExtract actFieldAddr actField actAlloc keysOf actBox actLoad treesOf actStore actIndex
  actLen actMx srcL actAppend actMake actBuild actBuildSlice boundL actSlice actCall actEqS isStruct
  isSlice actText actCopy litsOf kindsOK fieldsPlain eqAll eqop dstB dstN boolS litB
  litV sv binv unv lits takeC cellsR trees cellsW mxv repl parts
  fillAt fillRows V1.cs mkV ev evr AM.look put del applyL delD wrD
  undefS SV.to V1.to At.to keysL notIn freshKey PV.up PR.up entry entryV evp
  isAt actPtrNil capsL actFunc sameV sameVs pureCtx doc mkVar AM.Loc.key Cont.keys SV.keys
  V1.keys At.keys Cont.sub SV.sub V1.sub At.sub guardR argsL callR Nat.blt_eq Nat.blt Nat.ble
  Nat.beq_eq_true_eq beq_self_eq_true Array.toList List.map List.append_eq List.nil_append List.cons_append List.append_nil List.append_assoc Bool.and_eq_true decide_true decide_false
  decide_eq_true_eq Bool.not_true Bool.not_false reduceCtorEq if_true if_false ite_true ite_false reduceIte AM.Loc.slot.injEq AM.Loc.cell.injEq AM.Loc.vec.injEq
  List.getElem?_cons_zero List.getElem?_cons_succ List.getElem?_nil Option.map_some Option.map_none Option.toList List.flatMap_nil List.flatMap_cons Bool.and_true Bool.true_and Bool.and_false Bool.false_and
  Bool.true_eq_false Bool.false_eq_true Nat.reduceBEq Nat.reduceEqDiff bool_beq_tt bool_beq_ff bool_beq_tf bool_beq_ft List.length_cons List.length_nil List.drop List.take
  List.drop_zero List.take_zero List.all_cons List.all_nil Value.oneCell' Nat.zero_add Nat.reduceAdd Nat.reduceMul Nat.reduceSub Nat.reduceLT Nat.reduceLeDiff Int.reduceLT
  Int.reduceLE Int.reduceEq Int.reduceBEq Int.reduceBNe Int.reduceAdd Int.reduceSub Int.reduceMul Int.reduceNeg Int.reduceToNat Nat.succ_ne_zero List.replicate and_true
  true_and and_false false_and and_self ge_iff_le gt_iff_lt bne_self_eq_false List.zip_cons_cons List.zip_nil_left List.zip List.zipWith Int.natCast_nonneg
  Int.toNat_natCast List.getElem?_map List.length_map sT sI sB sR sP rV AllIn Int.toNat_zero Int.ofNat_zero
  Int.natCast_zero Nat.le_refl List.mapM_cons List.mapM_nil Option.bind_eq_bind Option.bind_some Option.pure_def List.set_cons_zero List.set_cons_succ List.length_set tt2 tt3
  tt4 tt5 tt9 tt12 tt21 tt22 tt23 tt24 tt25 tt36 tt37 tt43
  tt44 tt51 tt52 tt53 tt59 tt67 tt68 tt69 tt74 tt75 tt76 tt77
  tt78 tt79 tt89 tt92 tt95 tt96 tt97 tt98 tt99 tt102 tt103 tt106
  tt107 tt108 tt114 tt115 tt116 tt117 tt118 tt119 tt120 tt122 tt124 tt125
  tt126 tt127 tt130 tt131 tt132 tt133 tt134 tt135 tt137 tt138 tt139 tt147
  tt148 tt149 tt159 tt164 tt165 tt167 tt168 tt169 tt170 tt171 tt190 tt191
  tt194 tt200 tt208 tt212
attribute [local go_sem] vlit bal rInt rBool vInts pInts vvInts vPairs att vAtts

theorem c73 (s : Int) (d : List Int) (hd : d.length ≤ 4611686018427387903) : Pure Try.prog 73 [att s d] (rBool (attOK s d)) := by
  by_cases h1 : 0 ≤ s
  · by_cases h2 : s < 4611686018427387903
    · have hf : attOK s d = vecOK d := by simp [attOK, h1, h2]
      rw [hf]
      cases h3 : vecOK d with
      | true =>
        refine pure_of_body Try.func73 rfl (by simp [Try.f73]) ?_; rw [Try.ntmps73, Try.results73]; intro w0 G0
        ((repeat' (first | refine thenL_n ?_ | refine thenL_r ?_ | refine thenL_x ?_ | refine blockL_n ?_ | refine blockL_r ?_ | refine blockL_x ?_ | refine blockL_y rfl ?_ | refine awp_seq ?_ | refine awp_block ?_ | refine awp_ret ?_ | refine awp_exit ?_ | refine awp_skip ?_ | exact absurd hcond (by decide) | (refine awp_txt ?_; refine runs_to [] (by simp only [go_sem, h1, h2, h3]; rfl) ?_) | (refine awp_draw mixed ?_; refine runs_to [] (by simp only [go_sem, h1, h2, h3]; rfl) ?_) | refine runD_nil ⟨by kernel_rfl, ?_⟩ | refine runD_nil ?_ | (refine runD_call (c34 _ hd) cb34 (by rfl) (by simp only [go_sem, h1, h2, h3]; rfl) (by ((repeat' (first | exact All2.nil | refine All2.cons ?_ ?_ | exact SubV.one (SubT.same _) | exact SubV.one (SubT.nil _) | refine SubV.agg ?_ | exact SubT.same _ | exact SubT.nil _)); first | done | fail)) ?_; refine runs_to [] (by simp only [go_sem, h1, h2, h3]; rfl) ?_) | (refine awp_cond (b := _) (by simp only [go_sem, evB, h1, h2, h3]; rfl) (fun hcond => ?_) (fun hcond => ?_)))); all_goals (refine leaves_ok (by first | exact Or.inl rfl | exact Or.inr rfl) (by simp only [go_sem, resAll, resL, packL, vecsOf, freezeAll, freezeL, h1, h2, h3]; rfl) ?_; (first | refine SubR.v ?_ | refine SubR.tup ?_); ((repeat' (first | exact All2.nil | refine All2.cons ?_ ?_ | exact SubV.one (SubT.same _) | exact SubV.one (SubT.nil _) | refine SubV.agg ?_ | exact SubT.same _ | exact SubT.nil _)); first | done | fail)))
      | false =>
        refine pure_of_body Try.func73 rfl (by simp [Try.f73]) ?_; rw [Try.ntmps73, Try.results73]; intro w0 G0
        ((repeat' (first | refine thenL_n ?_ | refine thenL_r ?_ | refine thenL_x ?_ | refine blockL_n ?_ | refine blockL_r ?_ | refine blockL_x ?_ | refine blockL_y rfl ?_ | refine awp_seq ?_ | refine awp_block ?_ | refine awp_ret ?_ | refine awp_exit ?_ | refine awp_skip ?_ | exact absurd hcond (by decide) | (refine awp_txt ?_; refine runs_to [] (by simp only [go_sem, h1, h2, h3]; rfl) ?_) | (refine awp_draw mixed ?_; refine runs_to [] (by simp only [go_sem, h1, h2, h3]; rfl) ?_) | refine runD_nil ⟨by kernel_rfl, ?_⟩ | refine runD_nil ?_ | (refine runD_call (c34 _ hd) cb34 (by rfl) (by simp only [go_sem, h1, h2, h3]; rfl) (by ((repeat' (first | exact All2.nil | refine All2.cons ?_ ?_ | exact SubV.one (SubT.same _) | exact SubV.one (SubT.nil _) | refine SubV.agg ?_ | exact SubT.same _ | exact SubT.nil _)); first | done | fail)) ?_; refine runs_to [] (by simp only [go_sem, h1, h2, h3]; rfl) ?_) | (refine awp_cond (b := _) (by simp only [go_sem, evB, h1, h2, h3]; rfl) (fun hcond => ?_) (fun hcond => ?_)))); all_goals (refine leaves_ok (by first | exact Or.inl rfl | exact Or.inr rfl) (by simp only [go_sem, resAll, resL, packL, vecsOf, freezeAll, freezeL, h1, h2, h3]; rfl) ?_; (first | refine SubR.v ?_ | refine SubR.tup ?_); ((repeat' (first | exact All2.nil | refine All2.cons ?_ ?_ | exact SubV.one (SubT.same _) | exact SubV.one (SubT.nil _) | refine SubV.agg ?_ | exact SubT.same _ | exact SubT.nil _)); first | done | fail)))
    · have hf : attOK s d = false := by simp [attOK, h2]
      rw [hf]
      refine pure_of_body Try.func73 rfl (by simp [Try.f73]) ?_; rw [Try.ntmps73, Try.results73]; intro w0 G0
      ((repeat' (first | refine thenL_n ?_ | refine thenL_r ?_ | refine thenL_x ?_ | refine blockL_n ?_ | refine blockL_r ?_ | refine blockL_x ?_ | refine blockL_y rfl ?_ | refine awp_seq ?_ | refine awp_block ?_ | refine awp_ret ?_ | refine awp_exit ?_ | refine awp_skip ?_ | exact absurd hcond (by decide) | (refine awp_txt ?_; refine runs_to [] (by simp only [go_sem, h1, h2]; rfl) ?_) | (refine awp_draw mixed ?_; refine runs_to [] (by simp only [go_sem, h1, h2]; rfl) ?_) | refine runD_nil ⟨by kernel_rfl, ?_⟩ | refine runD_nil ?_ | (refine awp_cond (b := _) (by simp only [go_sem, evB, h1, h2]; rfl) (fun hcond => ?_) (fun hcond => ?_)))); all_goals (refine leaves_ok (by first | exact Or.inl rfl | exact Or.inr rfl) (by simp only [go_sem, resAll, resL, packL, vecsOf, freezeAll, freezeL, h1, h2]; rfl) ?_; (first | refine SubR.v ?_ | refine SubR.tup ?_); ((repeat' (first | exact All2.nil | refine All2.cons ?_ ?_ | exact SubV.one (SubT.same _) | exact SubV.one (SubT.nil _) | refine SubV.agg ?_ | exact SubT.same _ | exact SubT.nil _)); first | done | fail)))
  · have hf : attOK s d = false := by simp [attOK, h1]
    rw [hf]
    refine pure_of_body Try.func73 rfl (by simp [Try.f73]) ?_; rw [Try.ntmps73, Try.results73]; intro w0 G0
    ((repeat' (first | refine thenL_n ?_ | refine thenL_r ?_ | refine thenL_x ?_ | refine blockL_n ?_ | refine blockL_r ?_ | refine blockL_x ?_ | refine blockL_y rfl ?_ | refine awp_seq ?_ | refine awp_block ?_ | refine awp_ret ?_ | refine awp_exit ?_ | refine awp_skip ?_ | exact absurd hcond (by decide) | (refine awp_txt ?_; refine runs_to [] (by simp only [go_sem, h1]; rfl) ?_) | (refine awp_draw mixed ?_; refine runs_to [] (by simp only [go_sem, h1]; rfl) ?_) | refine runD_nil ⟨by kernel_rfl, ?_⟩ | refine runD_nil ?_ | (refine awp_cond (b := _) (by simp only [go_sem, evB, h1]; rfl) (fun hcond => ?_) (fun hcond => ?_)))); all_goals (refine leaves_ok (by first | exact Or.inl rfl | exact Or.inr rfl) (by simp only [go_sem, resAll, resL, packL, vecsOf, freezeAll, freezeL, h1]; rfl) ?_; (first | refine SubR.v ?_ | refine SubR.tup ?_); ((repeat' (first | exact All2.nil | refine All2.cons ?_ ?_ | exact SubV.one (SubT.same _) | exact SubV.one (SubT.nil _) | refine SubV.agg ?_ | exact SubT.same _ | exact SubT.nil _)); first | done | fail)))

theorem c48 (s : Int) (d : List Int) (h : d.length * 8 ≤ 140737488351232) : Pure Try.prog 48 [att s d] (.v (att s d)) := by
  refine pure_of_body Try.func48 rfl (by simp [Try.f48]) ?_; rw [Try.ntmps48, Try.results48]; intro w0 G0
  ((repeat' (first | refine thenL_n ?_ | refine thenL_r ?_ | refine thenL_x ?_ | refine blockL_n ?_ | refine blockL_r ?_ | refine blockL_x ?_ | refine blockL_y rfl ?_ | refine awp_seq ?_ | refine awp_block ?_ | refine awp_ret ?_ | refine awp_exit ?_ | refine awp_skip ?_ | exact absurd hcond (by decide) | (refine awp_txt ?_; refine runs_to [] (by simp only [go_sem]; rfl) ?_) | (refine awp_draw mixed ?_; refine runs_to [] (by simp only [go_sem]; rfl) ?_) | refine runD_nil ⟨by kernel_rfl, ?_⟩ | refine runD_nil ?_ | (refine runD_call (c32 d h) cb32 (by rfl) (by simp only [go_sem]; rfl) (by ((repeat' (first | exact All2.nil | refine All2.cons ?_ ?_ | exact SubV.one (SubT.same _) | exact SubV.one (SubT.nil _) | refine SubV.agg ?_ | exact SubT.same _ | exact SubT.nil _)); first | done | fail)) ?_; refine runs_to [] (by simp only [go_sem]; rfl) ?_) | (refine awp_cond (b := _) (by simp only [go_sem, evB]; rfl) (fun hcond => ?_) (fun hcond => ?_)))); all_goals (refine leaves_ok (by first | exact Or.inl rfl | exact Or.inr rfl) (by simp only [go_sem, resAll, resL, packL, vecsOf, freezeAll, freezeL]; rfl) ?_; (first | refine SubR.v ?_ | refine SubR.tup ?_); ((repeat' (first | exact All2.nil | refine All2.cons ?_ ?_ | exact SubV.one (SubT.same _) | exact SubV.one (SubT.nil _) | refine SubV.agg ?_ | exact SubT.same _ | exact SubT.nil _)); first | done | fail)))

theorem c56 (s : Int) (d : List Int) : Pure Try.prog 56 [att s d] (.v (att s d)) := by
  refine pure_of_body Try.func56 rfl (by simp [Try.f56]) ?_; rw [Try.ntmps56, Try.results56]; intro w0 G0
  ((repeat' (first | refine thenL_n ?_ | refine thenL_r ?_ | refine thenL_x ?_ | refine blockL_n ?_ | refine blockL_r ?_ | refine blockL_x ?_ | refine blockL_y rfl ?_ | refine awp_seq ?_ | refine awp_block ?_ | refine awp_ret ?_ | refine awp_exit ?_ | refine awp_skip ?_ | exact absurd hcond (by decide) | (refine awp_txt ?_; refine runs_to [] (by simp only [go_sem]; rfl) ?_) | (refine awp_draw mixed ?_; refine runs_to [] (by simp only [go_sem]; rfl) ?_) | refine runD_nil ⟨by kernel_rfl, ?_⟩ | refine runD_nil ?_ | (refine awp_cond (b := _) (by simp only [go_sem, evB]; rfl) (fun hcond => ?_) (fun hcond => ?_)))); all_goals (refine leaves_ok (by first | exact Or.inl rfl | exact Or.inr rfl) (by simp only [go_sem, resAll, resL, packL, vecsOf, freezeAll, freezeL]; rfl) ?_; (first | refine SubR.v ?_ | refine SubR.tup ?_); ((repeat' (first | exact All2.nil | refine All2.cons ?_ ?_ | exact SubV.one (SubT.same _) | exact SubV.one (SubT.nil _) | refine SubV.agg ?_ | exact SubT.same _ | exact SubT.nil _)); first | done | fail)))

theorem c55 (s s' : Int) (d d' : List Int) (hd : d.length ≤ 4611686018427387903) : Pure Try.prog 55 [att s d, att s' d'] (rBool (s == s' && decide (d = d'))) := by
  cases h : s == s' with
  | true =>
    refine pure_of_body Try.func55 rfl (by simp [Try.f55]) ?_; rw [Try.ntmps55, Try.results55]; intro w0 G0
    ((repeat' (first | refine thenL_n ?_ | refine thenL_r ?_ | refine thenL_x ?_ | refine blockL_n ?_ | refine blockL_r ?_ | refine blockL_x ?_ | refine blockL_y rfl ?_ | refine awp_seq ?_ | refine awp_block ?_ | refine awp_ret ?_ | refine awp_exit ?_ | refine awp_skip ?_ | exact absurd hcond (by decide) | (refine awp_txt ?_; refine runs_to [] (by simp only [go_sem, h]; rfl) ?_) | (refine awp_draw mixed ?_; refine runs_to [] (by simp only [go_sem, h]; rfl) ?_) | refine runD_nil ⟨by kernel_rfl, ?_⟩ | refine runD_nil ?_ | (refine runD_call (c30 _ _ hd) cb30 (by rfl) (by simp only [go_sem, h]; rfl) (by ((repeat' (first | exact All2.nil | refine All2.cons ?_ ?_ | exact SubV.one (SubT.same _) | exact SubV.one (SubT.nil _) | refine SubV.agg ?_ | exact SubT.same _ | exact SubT.nil _)); first | done | fail)) ?_; refine runs_to [] (by simp only [go_sem, h]; rfl) ?_) | (refine awp_cond (b := _) (by simp only [go_sem, evB, h]; rfl) (fun hcond => ?_) (fun hcond => ?_)))); all_goals (refine leaves_ok (by first | exact Or.inl rfl | exact Or.inr rfl) (by simp only [go_sem, resAll, resL, packL, vecsOf, freezeAll, freezeL, h]; rfl) ?_; (first | refine SubR.v ?_ | refine SubR.tup ?_); ((repeat' (first | exact All2.nil | refine All2.cons ?_ ?_ | exact SubV.one (SubT.same _) | exact SubV.one (SubT.nil _) | refine SubV.agg ?_ | exact SubT.same _ | exact SubT.nil _)); first | done | fail)))
  | false =>
    refine pure_of_body Try.func55 rfl (by simp [Try.f55]) ?_; rw [Try.ntmps55, Try.results55]; intro w0 G0
    ((repeat' (first | refine thenL_n ?_ | refine thenL_r ?_ | refine thenL_x ?_ | refine blockL_n ?_ | refine blockL_r ?_ | refine blockL_x ?_ | refine blockL_y rfl ?_ | refine awp_seq ?_ | refine awp_block ?_ | refine awp_ret ?_ | refine awp_exit ?_ | refine awp_skip ?_ | exact absurd hcond (by decide) | (refine awp_txt ?_; refine runs_to [] (by simp only [go_sem, h]; rfl) ?_) | (refine awp_draw mixed ?_; refine runs_to [] (by simp only [go_sem, h]; rfl) ?_) | refine runD_nil ⟨by kernel_rfl, ?_⟩ | refine runD_nil ?_ | (refine awp_cond (b := _) (by simp only [go_sem, evB, h]; rfl) (fun hcond => ?_) (fun hcond => ?_)))); all_goals (refine leaves_ok (by first | exact Or.inl rfl | exact Or.inr rfl) (by simp only [go_sem, resAll, resL, packL, vecsOf, freezeAll, freezeL, h]; rfl) ?_; (first | refine SubR.v ?_ | refine SubR.tup ?_); ((repeat' (first | exact All2.nil | refine All2.cons ?_ ?_ | exact SubV.one (SubT.same _) | exact SubV.one (SubT.nil _) | refine SubV.agg ?_ | exact SubT.same _ | exact SubT.nil _)); first | done | fail)))

theorem c33 (vs : List (List Int)) (hn : vs.length ≤ 1000000000000000) (hb : ∀ w, w ∈ vs → w.length * 8 ≤ 140737488351232) : Pure Try.prog 33 [.one (vvInts vs)] (if joinOK vs then .tup [pInts (joinV vs), vlit (.bool true)] else .tup [vlit (.slice none 0 0), vlit (.bool false)]) := by
  cases vs with
  | nil => exact c33a
  | cons v vs =>
    simp only [List.length_cons] at hn
    by_cases h : joinOK (v :: vs) = true
    · rw [if_pos h]; exact c33c v vs (by omega) h
    · rw [if_neg h]; exact c33b v vs (by omega) hb (by simpa using h)

/-- The greatest of noughts and numbers. -/
theorem foldl_mx2 : ∀ (l : List Int) (a : Int), 0 ≤ a → l.foldl mx2 (mx2 0 a) = l.foldl mx2 a := fun l a h => by
  have : mx2 0 a = a := by simp only [mx2]; split <;> omega
  rw [this]
theorem jaS_zero {ats : List At2} (h : jaOK ats = true) : (ats.map (·.1)).foldl mx2 0 = jaS ats := by
  cases ats with
  | nil => rfl
  | cons a l =>
    have := jaOK_mem h (x := a) (by simp)
    simp only [attOK, Bool.and_eq_true, decide_eq_true_eq] at this
    simp only [List.map_cons, List.foldl_cons, jaS]
    exact foldl_mx2 _ _ this.1.1
theorem joinOK_ats : ∀ {ats : List At2}, (∀ x, x ∈ ats → attOK x.1 x.2 = true) → joinOK (ats.map (·.2)) = jaOK ats
  | [], _ => rfl
  | a :: l, h => by
    simp only [List.map_cons, joinOK, jaOK, h a (by simp), attOK_vec (h a (by simp)), Bool.true_and, List.all_map]
    rw [Bool.eq_iff_iff]
    simp only [List.all_eq_true, Function.comp, Bool.and_eq_true, decide_eq_true_eq]
    constructor
    · intro h1 b hb; exact ⟨h b (by simp [hb]), (h1 b hb).1⟩
    · intro h1 b hb; exact ⟨(h1 b hb).2, attOK_vec (h b (by simp [hb]))⟩

theorem c50 (ats : List At2) (hl : ats.length * 32 ≤ 140737488351232) (hb : ∀ a, a ∈ ats → a.2.length * 8 ≤ 140737488351232) : Pure Try.prog 50 [.one (vAtts ats)] (jaR ats) := by
  have hfail : jaOK ats = false → jaR ats = .tup [.agg [.lit (.int .i64 0), .lit (.slice none 0 0)], vlit (.bool false)] := fun h => by rw [jaR, if_neg (by simp [h])]
  refine pure_of_body Try.func50 rfl (by simp [Try.f50]) ?_; rw [Try.ntmps50, Try.results50]; intro w0 G0
  (repeat' (first | refine thenL_n ?_ | refine thenL_r ?_ | refine thenL_x ?_ | refine blockL_n ?_ | refine blockL_r ?_ | refine blockL_x ?_ | refine blockL_y rfl ?_ | refine awp_seq ?_ | refine awp_block ?_ | refine awp_ret ?_ | refine awp_exit ?_ | refine awp_skip ?_ | exact absurd hcond (by decide) | (refine awp_txt ?_; refine runs_to [] (by simp only [go_sem]; rfl) ?_) | (refine awp_draw mixed ?_; refine runs_to [] (by simp only [go_sem]; rfl) ?_) | refine runD_nil ⟨by kernel_rfl, ?_⟩ | refine runD_nil ?_ | (refine awp_cond (b := _) (by simp only [go_sem, evB]; rfl) (fun hcond => ?_) (fun hcond => ?_))))
  refine awp_loop (fun i : Nat => [(.slot 0, sT (vAtts ats)), (.slot 2, sP 2), (.cell 2 0, .c (.t (.lit (.int .i64 0)))), (.cell 2 1, .c (.t (.lit (.slice none 0 0)))), (.slot 4, sP 4), (.cell 4 0, .c (.t (.lit (.int .i64 (((ats.take i).map (·.1)).foldl mx2 0))))), (.cell 4 1, .c (.t (.lit (.slice none 0 0)))), (.slot 5, sR 44), (.vec 44, .r 1 36 (((ats.take i).map (·.2)).map fun v => [vInts v])), (.slot 6, sI i)]) (fun i => i ≤ ats.length ∧ ∀ x, x ∈ ats.take i → attOK x.1 x.2 = true) (fun i => ats.length - i) 0 ⟨Nat.zero_le _, by simp⟩ (Imp.trans (Imp.adopt 5 44 1 36 (by simp only [go_sem]) (by decide) (by simp only [go_sem])) (by refine Imp.of_in ?_; simp only [go_sem, List.map_nil, List.foldl_nil])) ?_
  rintro i ⟨hi, hok⟩
  by_cases hlt : (i : Int) < ats.length
  · have hil : i < ats.length := by omega
    have hx : ats[i]? = some ats[i] := List.getElem?_eq_getElem hil
    have hts : ats.take (i + 1) = ats.take i ++ [ats[i]] := List.take_succ_eq_append_getElem hil
    generalize ats[i] = a at hx hts
    have hmem : a ∈ ats := List.mem_of_getElem? hx
    have hab := hb a hmem
    have hw := up i (by omega)
    cases h1 : attOK a.1 a.2 with
    | true =>
      have hc0 : (List.take i ats).length ≤ i := by rw [List.length_take]; omega
      have hc1 : (List.take i ats).length + 1 ≤ 140737488355328 := by omega
      have hc2 : ((List.take i ats).length + 1) * 24 ≤ 140737488355328 := by omega
      have hfin : List.map (fun v => [vInts v]) (List.map (fun x => x.2) (List.take (i + 1) ats)) = List.map (fun v => [vInts v]) (List.map (fun x => x.2) (List.take i ats)) ++ [[vInts a.2]] := by
        rw [hts]; simp
      simp only [vInts] at hfin
      have hok2 : ∀ x, x ∈ ats.take (i + 1) → attOK x.1 x.2 = true := fun x hx => by
        rw [hts] at hx
        rcases List.mem_append.1 hx with hx | hx
        · exact hok x hx
        · simp at hx; subst hx; exact h1
      by_cases h2 : ((ats.take i).map (·.1)).foldl mx2 0 < a.1
      · have hS : ((ats.take (i + 1)).map (·.1)).foldl mx2 0 = a.1 := by
          rw [hts]; simp only [List.map_append, List.foldl_append, List.map_cons, List.map_nil, List.foldl_cons, List.foldl_nil]
          rw [mx2, if_pos h2]
        (repeat' (first | refine thenL_n ?_ | refine thenL_r ?_ | refine thenL_x ?_ | refine blockL_n ?_ | refine blockL_r ?_ | refine blockL_x ?_ | refine blockL_y rfl ?_ | refine awp_seq ?_ | refine awp_block ?_ | refine awp_ret ?_ | refine awp_exit ?_ | refine awp_skip ?_ | exact absurd hcond (by decide) | (refine awp_txt ?_; refine runs_to [43] (by simp only [go_sem, hlt, hx, h1, h2, hw, hc1, hc2]; rfl) ?_) | (refine awp_draw mixed ?_; refine runs_to [43] (by simp only [go_sem, hlt, hx, h1, h2, hw, hc1, hc2]; rfl) ?_) | refine runD_nil ⟨by kernel_rfl, ?_⟩ | refine runD_nil ?_ | (refine runD_call (c73 _ _ (show a.2.length ≤ 4611686018427387903 by omega)) cb73 (by rfl) (by simp only [go_sem, hlt, hx, h1, h2, hw, hc1, hc2]; rfl) (by ((repeat' (first | exact All2.nil | refine All2.cons ?_ ?_ | exact SubV.one (SubT.same _) | exact SubV.one (SubT.nil _) | refine SubV.agg ?_ | exact SubT.same _ | exact SubT.nil _)); first | done | fail)) ?_; refine runs_to [] (by simp only [go_sem, hlt, hx, h1, h2, hw, hc1, hc2]; rfl) ?_) | (refine awp_cond (b := _) (by simp only [go_sem, evB, hlt, hx, h1, h2, hw, hc1, hc2]; rfl) (fun hcond => ?_) (fun hcond => ?_))))
        refine ⟨i + 1, ⟨by omega, hok2⟩, by omega, (by refine Imp.back 1044 44 (by simp only [go_sem, renL, Loc.ren, Cont.ren, SV.ren, V1.ren, At.ren,  hfin, hS]) (by simp only [go_sem, renL, Loc.ren, Cont.ren, SV.ren, V1.ren, At.ren,  hfin, hS]) (by simp only [go_sem, renL, Loc.ren, Cont.ren, SV.ren, V1.ren, At.ren,  hfin, hS]) (by decide) (by decide) ?_; refine Imp.of_in ?_; simp only [go_sem, renL, Loc.ren, Cont.ren, SV.ren, V1.ren, At.ren,  hfin, hS])⟩
      · have hS : ((ats.take (i + 1)).map (·.1)).foldl mx2 0 = ((ats.take i).map (·.1)).foldl mx2 0 := by
          rw [hts]; simp only [List.map_append, List.foldl_append, List.map_cons, List.map_nil, List.foldl_cons, List.foldl_nil]
          rw [mx2, if_neg h2]
        (repeat' (first | refine thenL_n ?_ | refine thenL_r ?_ | refine thenL_x ?_ | refine blockL_n ?_ | refine blockL_r ?_ | refine blockL_x ?_ | refine blockL_y rfl ?_ | refine awp_seq ?_ | refine awp_block ?_ | refine awp_ret ?_ | refine awp_exit ?_ | refine awp_skip ?_ | exact absurd hcond (by decide) | (refine awp_txt ?_; refine runs_to [43] (by simp only [go_sem, hlt, hx, h1, h2, hw, hc1, hc2]; rfl) ?_) | (refine awp_draw mixed ?_; refine runs_to [43] (by simp only [go_sem, hlt, hx, h1, h2, hw, hc1, hc2]; rfl) ?_) | refine runD_nil ⟨by kernel_rfl, ?_⟩ | refine runD_nil ?_ | (refine runD_call (c73 _ _ (show a.2.length ≤ 4611686018427387903 by omega)) cb73 (by rfl) (by simp only [go_sem, hlt, hx, h1, h2, hw, hc1, hc2]; rfl) (by ((repeat' (first | exact All2.nil | refine All2.cons ?_ ?_ | exact SubV.one (SubT.same _) | exact SubV.one (SubT.nil _) | refine SubV.agg ?_ | exact SubT.same _ | exact SubT.nil _)); first | done | fail)) ?_; refine runs_to [] (by simp only [go_sem, hlt, hx, h1, h2, hw, hc1, hc2]; rfl) ?_) | (refine awp_cond (b := _) (by simp only [go_sem, evB, hlt, hx, h1, h2, hw, hc1, hc2]; rfl) (fun hcond => ?_) (fun hcond => ?_))))
        refine ⟨i + 1, ⟨by omega, hok2⟩, by omega, (by refine Imp.back 1044 44 (by simp only [go_sem, renL, Loc.ren, Cont.ren, SV.ren, V1.ren, At.ren,  hfin, hS]) (by simp only [go_sem, renL, Loc.ren, Cont.ren, SV.ren, V1.ren, At.ren,  hfin, hS]) (by simp only [go_sem, renL, Loc.ren, Cont.ren, SV.ren, V1.ren, At.ren,  hfin, hS]) (by decide) (by decide) ?_; refine Imp.of_in ?_; simp only [go_sem, renL, Loc.ren, Cont.ren, SV.ren, V1.ren, At.ren,  hfin, hS])⟩
    | false =>
      have hj : jaOK ats = false := by
        by_cases h2 : jaOK ats = true
        · rw [jaOK_mem h2 hmem] at h1; simp at h1
        · simpa using h2
      rw [hfail hj]
      ((repeat' (first | refine thenL_n ?_ | refine thenL_r ?_ | refine thenL_x ?_ | refine blockL_n ?_ | refine blockL_r ?_ | refine blockL_x ?_ | refine blockL_y rfl ?_ | refine awp_seq ?_ | refine awp_block ?_ | refine awp_ret ?_ | refine awp_exit ?_ | refine awp_skip ?_ | exact absurd hcond (by decide) | (refine awp_txt ?_; refine runs_to [] (by simp only [go_sem, hlt, hx, h1]; rfl) ?_) | (refine awp_draw mixed ?_; refine runs_to [] (by simp only [go_sem, hlt, hx, h1]; rfl) ?_) | refine runD_nil ⟨by kernel_rfl, ?_⟩ | refine runD_nil ?_ | (refine runD_call (c73 _ _ (show a.2.length ≤ 4611686018427387903 by omega)) cb73 (by rfl) (by simp only [go_sem, hlt, hx, h1]; rfl) (by ((repeat' (first | exact All2.nil | refine All2.cons ?_ ?_ | exact SubV.one (SubT.same _) | exact SubV.one (SubT.nil _) | refine SubV.agg ?_ | exact SubT.same _ | exact SubT.nil _)); first | done | fail)) ?_; refine runs_to [] (by simp only [go_sem, hlt, hx, h1]; rfl) ?_) | (refine awp_cond (b := _) (by simp only [go_sem, evB, hlt, hx, h1]; rfl) (fun hcond => ?_) (fun hcond => ?_)))); all_goals (refine leaves_ok (by first | exact Or.inl rfl | exact Or.inr rfl) (by simp only [go_sem, resAll, resL, packL, vecsOf, freezeAll, freezeL, hlt, hx, h1]; rfl) ?_; (first | refine SubR.v ?_ | refine SubR.tup ?_); ((repeat' (first | exact All2.nil | refine All2.cons ?_ ?_ | exact SubV.one (SubT.same _) | exact SubV.one (SubT.nil _) | refine SubV.agg ?_ | exact SubT.same _ | exact SubT.nil _)); first | done | fail)))
  · have hii : i = ats.length := by omega
    have hta : ats.take ats.length = ats := List.take_length
    rw [hii, hta] at hok
    have hjo := joinOK_ats hok
    have k33 := c33 (ats.map (·.2)) (by simp; omega) (fun w hw => by
      obtain ⟨a, ha, rfl⟩ := List.mem_map.1 hw
      exact hb a ha)
    refine awp_freeze 44 (by simp only [go_sem]; rfl) ?_
    cases h1 : jaOK ats with
    | true =>
      rw [jaR, if_pos h1]
      have hS := jaS_zero h1
      have kw33 : Pure Try.prog 33 [.one (vvInts (ats.map (·.2)))] (.tup [pInts (jaD ats), vlit (.bool true)]) := by
        rwa [hjo, h1, if_pos rfl] at k33
      subst hii
      ((repeat' (first | refine thenL_n ?_ | refine thenL_r ?_ | refine thenL_x ?_ | refine blockL_n ?_ | refine blockL_r ?_ | refine blockL_x ?_ | refine blockL_y rfl ?_ | refine awp_seq ?_ | refine awp_block ?_ | refine awp_ret ?_ | refine awp_exit ?_ | refine awp_skip ?_ | exact absurd hcond (by decide) | (refine awp_txt ?_; refine runs_to [] (by simp only [go_sem, hlt, freezeL, hta, hS]; rfl) ?_) | (refine awp_draw mixed ?_; refine runs_to [] (by simp only [go_sem, hlt, freezeL, hta, hS]; rfl) ?_) | refine runD_nil ⟨by kernel_rfl, ?_⟩ | refine runD_nil ?_ | (refine runD_call (kw33) cb33 (by rfl) (by simp only [go_sem, hlt, freezeL, hta, hS]; rfl) (by ((repeat' (first | exact All2.nil | refine All2.cons ?_ ?_ | exact SubV.one (SubT.same _) | exact SubV.one (SubT.nil _) | refine SubV.agg ?_ | exact SubT.same _ | exact SubT.nil _)); first | done | fail)) ?_; refine runs_to [] (by simp only [go_sem, hlt, freezeL, hta, hS]; rfl) ?_) | (refine awp_cond (b := _) (by simp only [go_sem, evB, hlt, freezeL, hta, hS]; rfl) (fun hcond => ?_) (fun hcond => ?_)))); all_goals (refine leaves_ok (by first | exact Or.inl rfl | exact Or.inr rfl) (by simp only [go_sem, resAll, resL, packL, vecsOf, freezeAll, freezeL, hlt, freezeL, hta, hS]; rfl) ?_; (first | refine SubR.v ?_ | refine SubR.tup ?_); ((repeat' (first | exact All2.nil | refine All2.cons ?_ ?_ | exact SubV.one (SubT.same _) | exact SubV.one (SubT.nil _) | refine SubV.agg ?_ | exact SubT.same _ | exact SubT.nil _)); first | done | fail)))
    | false =>
      rw [hfail h1]
      have kw33 : Pure Try.prog 33 [.one (vvInts (ats.map (·.2)))] (.tup [vlit (.slice none 0 0), vlit (.bool false)]) := by
        rwa [hjo, h1, if_neg (by simp)] at k33
      subst hii
      ((repeat' (first | refine thenL_n ?_ | refine thenL_r ?_ | refine thenL_x ?_ | refine blockL_n ?_ | refine blockL_r ?_ | refine blockL_x ?_ | refine blockL_y rfl ?_ | refine awp_seq ?_ | refine awp_block ?_ | refine awp_ret ?_ | refine awp_exit ?_ | refine awp_skip ?_ | exact absurd hcond (by decide) | (refine awp_txt ?_; refine runs_to [] (by simp only [go_sem, hlt, freezeL, hta]; rfl) ?_) | (refine awp_draw mixed ?_; refine runs_to [] (by simp only [go_sem, hlt, freezeL, hta]; rfl) ?_) | refine runD_nil ⟨by kernel_rfl, ?_⟩ | refine runD_nil ?_ | (refine runD_call (kw33) cb33 (by rfl) (by simp only [go_sem, hlt, freezeL, hta]; rfl) (by ((repeat' (first | exact All2.nil | refine All2.cons ?_ ?_ | exact SubV.one (SubT.same _) | exact SubV.one (SubT.nil _) | refine SubV.agg ?_ | exact SubT.same _ | exact SubT.nil _)); first | done | fail)) ?_; refine runs_to [] (by simp only [go_sem, hlt, freezeL, hta]; rfl) ?_) | (refine awp_cond (b := _) (by simp only [go_sem, evB, hlt, freezeL, hta]; rfl) (fun hcond => ?_) (fun hcond => ?_)))); all_goals (refine leaves_ok (by first | exact Or.inl rfl | exact Or.inr rfl) (by simp only [go_sem, resAll, resL, packL, vecsOf, freezeAll, freezeL, hlt, freezeL, hta]; rfl) ?_; (first | refine SubR.v ?_ | refine SubR.tup ?_); ((repeat' (first | exact All2.nil | refine All2.cons ?_ ?_ | exact SubV.one (SubT.same _) | exact SubV.one (SubT.nil _) | refine SubV.agg ?_ | exact SubT.same _ | exact SubT.nil _)); first | done | fail)))
end Go.Proofs.Ytbohgpdpglfepaa
