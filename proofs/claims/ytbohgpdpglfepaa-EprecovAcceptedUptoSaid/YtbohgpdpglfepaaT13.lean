import Derived.Test.YtbohgpdpglfepaaT12
set_option maxHeartbeats 4000000
set_option maxRecDepth 10000
set_option linter.unusedVariables false
set_option linter.unusedSimpArgs false
namespace Go.Proofs.Ytbohgpdpglfepaa
open Go.AM Go.RowKit
attribute [local irreducible] AWP thenL blockL AM.Leaves LeavesO RunD
attribute [local go_sem] runs stepR actF inF frzA frzW lastW act act1 actPick actNil actBin
  actUn actConv actExtract actFieldAddr actField actAlloc keysOf actBox actLoad treesOf actStore actIndex
  actLen actMx srcL actAppend actMake actBuild actBuildSlice boundL actSlice actCall actEqS isStruct
  isSlice actText actCopy litsOf kindsOK fieldsPlain eqAll eqop dstB dstN boolS litB
  litV sv binv unv lits takeC cellsR trees cellsW mxv repl parts
  fillAt fillRows V1.cs mkV ev evr AM.look put del applyL delD wrD
  undefS SV.to V1.to At.to keysL notIn freshKey PV.up PR.up entry entryV evp
  isAt actPtrNil capsL actFunc sameV sameVs pureCtx doc mkVar AM.Loc.key Cont.keys SV.keys
  V1.keys At.keys Cont.sub SV.sub V1.sub At.sub guardR argsL callR Nat.blt_eq Nat.blt Nat.ble
  Nat.beq_eq_true_eq beq_self_eq_true Array.toList List.map List.append_eq List.nil_append List.cons_append List.append_nil List.append_assoc Bool.and_eq_true decide_true decide_false
  decide_eq_true_eq Bool.not_true Bool.not_false reduceCtorEq if_true if_false ite_true ite_false reduceIte AM.Loc.slot.injEq AM.Loc.cell.injEq AM.Loc.vec.injEq
  List.getElem?_cons_zero List.getElem?_cons_succ List.getElem?_nil Option.map_some Option.map_none Option.toList List.flatMap_nil List.flatMap_cons Bool.and_true Bool.true_and Bool.and_false Bool.false_and
  Bool.true_eq_false Bool.false_eq_true Nat.reduceBEq Nat.reduceEqDiff bool_beq_tt bool_beq_ff bool_beq_tf bool_beq_ft List.length_cons List.length_nil List.drop List.take
  List.drop_zero List.take_zero List.all_cons List.all_nil Value.oneCell' Nat.zero_add Nat.reduceAdd Nat.reduceMul Nat.reduceSub Nat.reduceLT Nat.reduceLeDiff Int.reduceLT
  Int.reduceLE Int.reduceEq Int.reduceBEq Int.reduceBNe Int.reduceAdd Int.reduceSub Int.reduceMul Int.reduceNeg Int.reduceToNat Nat.succ_ne_zero List.replicate and_true
  true_and and_false false_and and_self ge_iff_le gt_iff_lt bne_self_eq_false List.zip_cons_cons List.zip_nil_left List.zip List.zipWith Int.natCast_nonneg
  Int.toNat_natCast List.getElem?_map List.length_map sT sI sB sR sP rV AllIn Int.toNat_zero Int.ofNat_zero
  Int.natCast_zero Nat.le_refl List.mapM_cons List.mapM_nil Option.bind_eq_bind Option.bind_some Option.pure_def List.set_cons_zero List.set_cons_succ List.length_set tt2 tt3
  tt4 tt5 tt9 tt12 tt21 tt22 tt23 tt24 tt25 tt36 tt37 tt43
  tt44 tt51 tt52 tt53 tt59 tt67 tt68 tt69 tt74 tt75 tt76 tt77
  tt78 tt79 tt89 tt92 tt95 tt96 tt97 tt98 tt99 tt102 tt103 tt106
  tt107 tt108 tt114 tt115 tt116 tt117 tt118 tt119 tt120 tt122 tt124 tt125
  tt126 tt127 tt130 tt131 tt132 tt133 tt134 tt135 tt137 tt138 tt139 tt147
  tt148 tt149 tt159 tt164 tt165 tt167 tt168 tt169 tt170 tt171 tt190 tt191
  tt194 tt200 tt208 tt212
attribute [local go_sem] vlit bal rInt rBool vInts pInts vvInts

theorem mxL_comm : ∀ a b : List Int, mxL a b = mxL b a
  | [], b => by cases b <;> rfl
  | x :: a, [] => rfl
  | x :: a, y :: b => by
    have := mxL_comm a b
    simp only [mxL, List.zipWith_cons_cons] at this ⊢
    rw [this]
    congr 1
    simp only [mx2]; split <;> split <;> omega
theorem mxL_twice : ∀ a b : List Int, mxL (mxL b a) b = mxL a b
  | [], b => by cases b <;> rfl
  | x :: a, [] => rfl
  | x :: a, y :: b => by
    have := mxL_twice a b
    simp only [mxL, List.zipWith_cons_cons] at this ⊢
    rw [this]
    congr 1
    simp only [mx2]; split <;> split <;> (try split) <;> omega
theorem leqL_left : ∀ a b : List Int, leqL a (mxL a b) = true
  | [], b => by cases b <;> rfl
  | x :: a, [] => rfl
  | x :: a, y :: b => by
    have := leqL_left a b
    simp only [leqL, mxL, List.zipWith_cons_cons, List.zip_cons_cons, List.all_cons, Bool.and_eq_true, decide_eq_true_eq] at this ⊢
    refine ⟨?_, this⟩
    simp only [mx2]; split <;> omega
theorem leqL_right (a b : List Int) : leqL b (mxL a b) = true := by rw [mxL_comm]; exact leqL_left b a
theorem leqL_least : ∀ a b c : List Int, leqL a c = true → leqL b c = true → leqL (mxL a b) c = true
  | [], b, c, _, _ => by cases b <;> rfl
  | x :: a, [], c, _, _ => rfl
  | x :: a, y :: b, [], _, _ => rfl
  | x :: a, y :: b, z :: c, h1, h2 => by
    have := leqL_least a b c
    simp only [leqL, mxL, List.zipWith_cons_cons, List.zip_cons_cons, List.all_cons, Bool.and_eq_true, decide_eq_true_eq] at this h1 h2 ⊢
    refine ⟨?_, this h1.2 h2.2⟩
    simp only [mx2]; split <;> omega
theorem leqL_eq : ∀ a b : List Int, a.length = b.length → leqL a b = decide (mxL a b = b)
  | [], [], _ => rfl
  | [], y :: b, h => by simp at h
  | x :: a, [], h => by simp at h
  | x :: a, y :: b, h => by
    have := leqL_eq a b (by simpa using h)
    simp only [leqL, mxL, List.zipWith_cons_cons, List.zip_cons_cons, List.all_cons] at this ⊢
    rw [this]
    have h2 : (mx2 x y = y) ↔ x ≤ y := by simp only [mx2]; split <;> omega
    rw [Bool.eq_iff_iff]
    simp only [Bool.and_eq_true, decide_eq_true_eq, List.cons.injEq, h2]
    exact ⟨fun h => ⟨h.1, of_decide_eq_true h.2⟩, fun h => ⟨h.1, decide_eq_true h.2⟩⟩
theorem numOK_mx (x y : Int) (h1 : numOK x = true) (h2 : numOK y = true) : numOK (mx2 x y) = true := by
  simp only [mx2]; split <;> assumption
theorem all_mxL : ∀ a b : List Int, a.all numOK = true → b.all numOK = true → (mxL a b).all numOK = true
  | [], b, _, _ => by cases b <;> rfl
  | x :: a, [], _, _ => rfl
  | x :: a, y :: b, h1, h2 => by
    have := all_mxL a b
    simp only [mxL, List.zipWith_cons_cons, List.all_cons, Bool.and_eq_true] at this h1 h2 ⊢
    exact ⟨numOK_mx _ _ h1.1 h2.1, this h1.2 h2.2⟩
theorem vecOK_mxL (a b : List Int) (h : b.length = a.length) (h1 : vecOK a = true) (h2 : vecOK b = true) : vecOK (mxL a b) = true := by
  simp only [vecOK, Bool.and_eq_true, decide_eq_true_eq, mxL_length a b h] at h1 h2 ⊢
  exact ⟨h1.1, all_mxL a b h1.2 h2.2⟩

theorem c5 (a b c : List Int) (ha : a.length * 8 ≤ 140737488351232) (hb : b.length * 8 ≤ 140737488351232) : Pure Try.prog 5 [pInts a, pInts b, pInts c] (rBool true) := by
  by_cases h1 : vecOK a = true
  · by_cases h2 : b.length = a.length
    · by_cases h3 : vecOK b = true
      · have j1 : joinOK [a, b] = true := by simp [joinOK, h1, h2, h3]
        have j2 : joinOK [b, a, b] = true := by simp [joinOK, h1, h2, h3]
        have v1 : joinV [a, b] = mxL a b := rfl
        have v2 : joinV [b, a, b] = mxL a b := mxL_twice a b
        have aw28 : Pure Try.prog 28 [.one (vvInts [a, b])] (.tup [pInts (mxL a b), vlit (.int .i64 0)]) := by
          have := c28 [a, b] (by simp)
          rwa [joinR, if_pos j1, v1] at this
        have bw28 : Pure Try.prog 28 [.one (vvInts [b, a, b])] (.tup [pInts (mxL a b), vlit (.int .i64 0)]) := by
          have := c28 [b, a, b] (by simp)
          rwa [joinR, if_pos j2, v2] at this
        have hlen := mxL_length a b h2
        have hml : (mxL a b).length ≤ 4611686018427387903 := by omega
        have h4 := vecOK_mxL a b h2 h1 h3
        have l1 : leqV a (mxL a b) = true := by simp [leqV, h1, h4, hlen, leqL_left]
        have l2 : leqV b (mxL a b) = true := by simp [leqV, h3, h4, hlen, h2, leqL_right]
        have l3 : leqV a b = decide (mxL a b = b) := by simp [leqV, h1, h3, h2, leqL_eq a b h2.symm]
        have hs : decide (mxL a b = mxL a b) = true := by simp
        by_cases p : leqV a c = true
        · by_cases q : leqV b c = true
          · have l4 : leqV (mxL a b) c = true := by
              simp only [leqV, Bool.and_eq_true, decide_eq_true_eq] at p q ⊢
              exact ⟨⟨⟨by omega, h4⟩, p.1.2⟩, leqL_least a b c p.2 q.2⟩
            refine pure_of_body Try.func5 rfl (by simp [Try.f5]) ?_; rw [Try.ntmps5, Try.results5]; intro w0 G0
            ((repeat' (first | refine thenL_n ?_ | refine thenL_r ?_ | refine thenL_x ?_ | refine blockL_n ?_ | refine blockL_r ?_ | refine blockL_x ?_ | refine blockL_y rfl ?_ | refine awp_seq ?_ | refine awp_block ?_ | refine awp_ret ?_ | refine awp_exit ?_ | refine awp_skip ?_ | exact absurd hcond (by decide) | (refine awp_txt ?_; refine runs_to [20, 28] (by simp only [go_sem, hs, l1, l2, l3, l4, p, q]; rfl) ?_) | (refine awp_draw mixed ?_; refine runs_to [20, 28] (by simp only [go_sem, hs, l1, l2, l3, l4, p, q]; rfl) ?_) | refine runD_nil ⟨by kernel_rfl, ?_⟩ | refine runD_nil ?_ | (refine runD_call (aw28) cb28 (by rfl) (by simp only [go_sem, hs, l1, l2, l3, l4, p, q]; rfl) (by ((repeat' (first | exact All2.nil | refine All2.cons ?_ ?_ | exact SubV.one (SubT.same _) | exact SubV.one (SubT.nil _) | refine SubV.agg ?_ | exact SubT.same _ | exact SubT.nil _)); first | done | fail)) ?_; refine runs_to [] (by simp only [go_sem, hs, l1, l2, l3, l4, p, q]; rfl) ?_) | (refine runD_call (bw28) cb28 (by rfl) (by simp only [go_sem, hs, l1, l2, l3, l4, p, q]; rfl) (by ((repeat' (first | exact All2.nil | refine All2.cons ?_ ?_ | exact SubV.one (SubT.same _) | exact SubV.one (SubT.nil _) | refine SubV.agg ?_ | exact SubT.same _ | exact SubT.nil _)); first | done | fail)) ?_; refine runs_to [] (by simp only [go_sem, hs, l1, l2, l3, l4, p, q]; rfl) ?_) | (refine runD_call (c22) cb22 (by rfl) (by simp only [go_sem, hs, l1, l2, l3, l4, p, q]; rfl) (by ((repeat' (first | exact All2.nil | refine All2.cons ?_ ?_ | exact SubV.one (SubT.same _) | exact SubV.one (SubT.nil _) | refine SubV.agg ?_ | exact SubT.same _ | exact SubT.nil _)); first | done | fail)) ?_; refine runs_to [] (by simp only [go_sem, hs, l1, l2, l3, l4, p, q]; rfl) ?_) | (refine runD_call (c29 _) cb29 (by rfl) (by simp only [go_sem, hs, l1, l2, l3, l4, p, q]; rfl) (by ((repeat' (first | exact All2.nil | refine All2.cons ?_ ?_ | exact SubV.one (SubT.same _) | exact SubV.one (SubT.nil _) | refine SubV.agg ?_ | exact SubT.same _ | exact SubT.nil _)); first | done | fail)) ?_; refine runs_to [] (by simp only [go_sem, hs, l1, l2, l3, l4, p, q]; rfl) ?_) | (refine runD_call (c30 _ _ hml) cb30 (by rfl) (by simp only [go_sem, hs, l1, l2, l3, l4, p, q]; rfl) (by ((repeat' (first | exact All2.nil | refine All2.cons ?_ ?_ | exact SubV.one (SubT.same _) | exact SubV.one (SubT.nil _) | refine SubV.agg ?_ | exact SubT.same _ | exact SubT.nil _)); first | done | fail)) ?_; refine runs_to [] (by simp only [go_sem, hs, l1, l2, l3, l4, p, q]; rfl) ?_) | (refine runD_call (c31 _ _) cb31 (by rfl) (by simp only [go_sem, hs, l1, l2, l3, l4, p, q]; rfl) (by ((repeat' (first | exact All2.nil | refine All2.cons ?_ ?_ | exact SubV.one (SubT.same _) | exact SubV.one (SubT.nil _) | refine SubV.agg ?_ | exact SubT.same _ | exact SubT.nil _)); first | done | fail)) ?_; refine runs_to [] (by simp only [go_sem, hs, l1, l2, l3, l4, p, q]; rfl) ?_) | (refine awp_cond (b := _) (by simp only [go_sem, evB, hs, l1, l2, l3, l4, p, q]; rfl) (fun hcond => ?_) (fun hcond => ?_)))); all_goals (refine leaves_ok (by first | exact Or.inl rfl | exact Or.inr rfl) (by simp only [go_sem, resAll, resL, packL, vecsOf, freezeAll, freezeL, hs, l1, l2, l3, l4, p, q]; rfl) ?_; (first | refine SubR.v ?_ | refine SubR.tup ?_); ((repeat' (first | exact All2.nil | refine All2.cons ?_ ?_ | exact SubV.one (SubT.same _) | exact SubV.one (SubT.nil _) | refine SubV.agg ?_ | exact SubT.same _ | exact SubT.nil _)); first | done | fail)))
          · have q : leqV b c = false := by simpa using q
            refine pure_of_body Try.func5 rfl (by simp [Try.f5]) ?_; rw [Try.ntmps5, Try.results5]; intro w0 G0
            ((repeat' (first | refine thenL_n ?_ | refine thenL_r ?_ | refine thenL_x ?_ | refine blockL_n ?_ | refine blockL_r ?_ | refine blockL_x ?_ | refine blockL_y rfl ?_ | refine awp_seq ?_ | refine awp_block ?_ | refine awp_ret ?_ | refine awp_exit ?_ | refine awp_skip ?_ | exact absurd hcond (by decide) | (refine awp_txt ?_; refine runs_to [20, 28] (by simp only [go_sem, hs, l1, l2, l3, p, q]; rfl) ?_) | (refine awp_draw mixed ?_; refine runs_to [20, 28] (by simp only [go_sem, hs, l1, l2, l3, p, q]; rfl) ?_) | refine runD_nil ⟨by kernel_rfl, ?_⟩ | refine runD_nil ?_ | (refine runD_call (aw28) cb28 (by rfl) (by simp only [go_sem, hs, l1, l2, l3, p, q]; rfl) (by ((repeat' (first | exact All2.nil | refine All2.cons ?_ ?_ | exact SubV.one (SubT.same _) | exact SubV.one (SubT.nil _) | refine SubV.agg ?_ | exact SubT.same _ | exact SubT.nil _)); first | done | fail)) ?_; refine runs_to [] (by simp only [go_sem, hs, l1, l2, l3, p, q]; rfl) ?_) | (refine runD_call (bw28) cb28 (by rfl) (by simp only [go_sem, hs, l1, l2, l3, p, q]; rfl) (by ((repeat' (first | exact All2.nil | refine All2.cons ?_ ?_ | exact SubV.one (SubT.same _) | exact SubV.one (SubT.nil _) | refine SubV.agg ?_ | exact SubT.same _ | exact SubT.nil _)); first | done | fail)) ?_; refine runs_to [] (by simp only [go_sem, hs, l1, l2, l3, p, q]; rfl) ?_) | (refine runD_call (c22) cb22 (by rfl) (by simp only [go_sem, hs, l1, l2, l3, p, q]; rfl) (by ((repeat' (first | exact All2.nil | refine All2.cons ?_ ?_ | exact SubV.one (SubT.same _) | exact SubV.one (SubT.nil _) | refine SubV.agg ?_ | exact SubT.same _ | exact SubT.nil _)); first | done | fail)) ?_; refine runs_to [] (by simp only [go_sem, hs, l1, l2, l3, p, q]; rfl) ?_) | (refine runD_call (c29 _) cb29 (by rfl) (by simp only [go_sem, hs, l1, l2, l3, p, q]; rfl) (by ((repeat' (first | exact All2.nil | refine All2.cons ?_ ?_ | exact SubV.one (SubT.same _) | exact SubV.one (SubT.nil _) | refine SubV.agg ?_ | exact SubT.same _ | exact SubT.nil _)); first | done | fail)) ?_; refine runs_to [] (by simp only [go_sem, hs, l1, l2, l3, p, q]; rfl) ?_) | (refine runD_call (c30 _ _ hml) cb30 (by rfl) (by simp only [go_sem, hs, l1, l2, l3, p, q]; rfl) (by ((repeat' (first | exact All2.nil | refine All2.cons ?_ ?_ | exact SubV.one (SubT.same _) | exact SubV.one (SubT.nil _) | refine SubV.agg ?_ | exact SubT.same _ | exact SubT.nil _)); first | done | fail)) ?_; refine runs_to [] (by simp only [go_sem, hs, l1, l2, l3, p, q]; rfl) ?_) | (refine runD_call (c31 _ _) cb31 (by rfl) (by simp only [go_sem, hs, l1, l2, l3, p, q]; rfl) (by ((repeat' (first | exact All2.nil | refine All2.cons ?_ ?_ | exact SubV.one (SubT.same _) | exact SubV.one (SubT.nil _) | refine SubV.agg ?_ | exact SubT.same _ | exact SubT.nil _)); first | done | fail)) ?_; refine runs_to [] (by simp only [go_sem, hs, l1, l2, l3, p, q]; rfl) ?_) | (refine awp_cond (b := _) (by simp only [go_sem, evB, hs, l1, l2, l3, p, q]; rfl) (fun hcond => ?_) (fun hcond => ?_)))); all_goals (refine leaves_ok (by first | exact Or.inl rfl | exact Or.inr rfl) (by simp only [go_sem, resAll, resL, packL, vecsOf, freezeAll, freezeL, hs, l1, l2, l3, p, q]; rfl) ?_; (first | refine SubR.v ?_ | refine SubR.tup ?_); ((repeat' (first | exact All2.nil | refine All2.cons ?_ ?_ | exact SubV.one (SubT.same _) | exact SubV.one (SubT.nil _) | refine SubV.agg ?_ | exact SubT.same _ | exact SubT.nil _)); first | done | fail)))
        · have p : leqV a c = false := by simpa using p
          refine pure_of_body Try.func5 rfl (by simp [Try.f5]) ?_; rw [Try.ntmps5, Try.results5]; intro w0 G0
          ((repeat' (first | refine thenL_n ?_ | refine thenL_r ?_ | refine thenL_x ?_ | refine blockL_n ?_ | refine blockL_r ?_ | refine blockL_x ?_ | refine blockL_y rfl ?_ | refine awp_seq ?_ | refine awp_block ?_ | refine awp_ret ?_ | refine awp_exit ?_ | refine awp_skip ?_ | exact absurd hcond (by decide) | (refine awp_txt ?_; refine runs_to [20, 28] (by simp only [go_sem, hs, l1, l2, l3, p]; rfl) ?_) | (refine awp_draw mixed ?_; refine runs_to [20, 28] (by simp only [go_sem, hs, l1, l2, l3, p]; rfl) ?_) | refine runD_nil ⟨by kernel_rfl, ?_⟩ | refine runD_nil ?_ | (refine runD_call (aw28) cb28 (by rfl) (by simp only [go_sem, hs, l1, l2, l3, p]; rfl) (by ((repeat' (first | exact All2.nil | refine All2.cons ?_ ?_ | exact SubV.one (SubT.same _) | exact SubV.one (SubT.nil _) | refine SubV.agg ?_ | exact SubT.same _ | exact SubT.nil _)); first | done | fail)) ?_; refine runs_to [] (by simp only [go_sem, hs, l1, l2, l3, p]; rfl) ?_) | (refine runD_call (bw28) cb28 (by rfl) (by simp only [go_sem, hs, l1, l2, l3, p]; rfl) (by ((repeat' (first | exact All2.nil | refine All2.cons ?_ ?_ | exact SubV.one (SubT.same _) | exact SubV.one (SubT.nil _) | refine SubV.agg ?_ | exact SubT.same _ | exact SubT.nil _)); first | done | fail)) ?_; refine runs_to [] (by simp only [go_sem, hs, l1, l2, l3, p]; rfl) ?_) | (refine runD_call (c22) cb22 (by rfl) (by simp only [go_sem, hs, l1, l2, l3, p]; rfl) (by ((repeat' (first | exact All2.nil | refine All2.cons ?_ ?_ | exact SubV.one (SubT.same _) | exact SubV.one (SubT.nil _) | refine SubV.agg ?_ | exact SubT.same _ | exact SubT.nil _)); first | done | fail)) ?_; refine runs_to [] (by simp only [go_sem, hs, l1, l2, l3, p]; rfl) ?_) | (refine runD_call (c29 _) cb29 (by rfl) (by simp only [go_sem, hs, l1, l2, l3, p]; rfl) (by ((repeat' (first | exact All2.nil | refine All2.cons ?_ ?_ | exact SubV.one (SubT.same _) | exact SubV.one (SubT.nil _) | refine SubV.agg ?_ | exact SubT.same _ | exact SubT.nil _)); first | done | fail)) ?_; refine runs_to [] (by simp only [go_sem, hs, l1, l2, l3, p]; rfl) ?_) | (refine runD_call (c30 _ _ hml) cb30 (by rfl) (by simp only [go_sem, hs, l1, l2, l3, p]; rfl) (by ((repeat' (first | exact All2.nil | refine All2.cons ?_ ?_ | exact SubV.one (SubT.same _) | exact SubV.one (SubT.nil _) | refine SubV.agg ?_ | exact SubT.same _ | exact SubT.nil _)); first | done | fail)) ?_; refine runs_to [] (by simp only [go_sem, hs, l1, l2, l3, p]; rfl) ?_) | (refine runD_call (c31 _ _) cb31 (by rfl) (by simp only [go_sem, hs, l1, l2, l3, p]; rfl) (by ((repeat' (first | exact All2.nil | refine All2.cons ?_ ?_ | exact SubV.one (SubT.same _) | exact SubV.one (SubT.nil _) | refine SubV.agg ?_ | exact SubT.same _ | exact SubT.nil _)); first | done | fail)) ?_; refine runs_to [] (by simp only [go_sem, hs, l1, l2, l3, p]; rfl) ?_) | (refine awp_cond (b := _) (by simp only [go_sem, evB, hs, l1, l2, l3, p]; rfl) (fun hcond => ?_) (fun hcond => ?_)))); all_goals (refine leaves_ok (by first | exact Or.inl rfl | exact Or.inr rfl) (by simp only [go_sem, resAll, resL, packL, vecsOf, freezeAll, freezeL, hs, l1, l2, l3, p]; rfl) ?_; (first | refine SubR.v ?_ | refine SubR.tup ?_); ((repeat' (first | exact All2.nil | refine All2.cons ?_ ?_ | exact SubV.one (SubT.same _) | exact SubV.one (SubT.nil _) | refine SubV.agg ?_ | exact SubT.same _ | exact SubT.nil _)); first | done | fail)))
      · have h3 : vecOK b = false := by simpa using h3
        have aw28 : Pure Try.prog 28 [.one (vvInts [a, b])] (.tup [vlit (.slice none 0 0), vlit (.int .i64 90)]) := by
          have := c28 [a, b] (by simp)
          rwa [joinR, if_neg (by simp [joinOK, h3])] at this
        have bw28 : Pure Try.prog 28 [.one (vvInts [b, a, b])] (.tup [vlit (.slice none 0 0), vlit (.int .i64 90)]) := by
          have := c28 [b, a, b] (by simp)
          rwa [joinR, if_neg (by simp [joinOK, h3])] at this
        refine pure_of_body Try.func5 rfl (by simp [Try.f5]) ?_; rw [Try.ntmps5, Try.results5]; intro w0 G0
        ((repeat' (first | refine thenL_n ?_ | refine thenL_r ?_ | refine thenL_x ?_ | refine blockL_n ?_ | refine blockL_r ?_ | refine blockL_x ?_ | refine blockL_y rfl ?_ | refine awp_seq ?_ | refine awp_block ?_ | refine awp_ret ?_ | refine awp_exit ?_ | refine awp_skip ?_ | exact absurd hcond (by decide) | (refine awp_txt ?_; refine runs_to [20, 28] (by simp only [go_sem, h1, h3]; rfl) ?_) | (refine awp_draw mixed ?_; refine runs_to [20, 28] (by simp only [go_sem, h1, h3]; rfl) ?_) | refine runD_nil ⟨by kernel_rfl, ?_⟩ | refine runD_nil ?_ | (refine runD_call (aw28) cb28 (by rfl) (by simp only [go_sem, h1, h3]; rfl) (by ((repeat' (first | exact All2.nil | refine All2.cons ?_ ?_ | exact SubV.one (SubT.same _) | exact SubV.one (SubT.nil _) | refine SubV.agg ?_ | exact SubT.same _ | exact SubT.nil _)); first | done | fail)) ?_; refine runs_to [] (by simp only [go_sem, h1, h3]; rfl) ?_) | (refine runD_call (bw28) cb28 (by rfl) (by simp only [go_sem, h1, h3]; rfl) (by ((repeat' (first | exact All2.nil | refine All2.cons ?_ ?_ | exact SubV.one (SubT.same _) | exact SubV.one (SubT.nil _) | refine SubV.agg ?_ | exact SubT.same _ | exact SubT.nil _)); first | done | fail)) ?_; refine runs_to [] (by simp only [go_sem, h1, h3]; rfl) ?_) | (refine runD_call (c22) cb22 (by rfl) (by simp only [go_sem, h1, h3]; rfl) (by ((repeat' (first | exact All2.nil | refine All2.cons ?_ ?_ | exact SubV.one (SubT.same _) | exact SubV.one (SubT.nil _) | refine SubV.agg ?_ | exact SubT.same _ | exact SubT.nil _)); first | done | fail)) ?_; refine runs_to [] (by simp only [go_sem, h1, h3]; rfl) ?_) | (refine runD_call (c29 _) cb29 (by rfl) (by simp only [go_sem, h1, h3]; rfl) (by ((repeat' (first | exact All2.nil | refine All2.cons ?_ ?_ | exact SubV.one (SubT.same _) | exact SubV.one (SubT.nil _) | refine SubV.agg ?_ | exact SubT.same _ | exact SubT.nil _)); first | done | fail)) ?_; refine runs_to [] (by simp only [go_sem, h1, h3]; rfl) ?_) | (refine awp_cond (b := _) (by simp only [go_sem, evB, h1, h3]; rfl) (fun hcond => ?_) (fun hcond => ?_)))); all_goals (refine leaves_ok (by first | exact Or.inl rfl | exact Or.inr rfl) (by simp only [go_sem, resAll, resL, packL, vecsOf, freezeAll, freezeL, h1, h3]; rfl) ?_; (first | refine SubR.v ?_ | refine SubR.tup ?_); ((repeat' (first | exact All2.nil | refine All2.cons ?_ ?_ | exact SubV.one (SubT.same _) | exact SubV.one (SubT.nil _) | refine SubV.agg ?_ | exact SubT.same _ | exact SubT.nil _)); first | done | fail)))
    · have hne : (((a.length : Nat) : Int) != (b.length : Nat)) = true := by simp; omega
      have aw28 : Pure Try.prog 28 [.one (vvInts [a, b])] (.tup [vlit (.slice none 0 0), vlit (.int .i64 90)]) := by
        have := c28 [a, b] (by simp)
        rwa [joinR, if_neg (by simp [joinOK, h2])] at this
      have bw28 : Pure Try.prog 28 [.one (vvInts [b, a, b])] (.tup [vlit (.slice none 0 0), vlit (.int .i64 90)]) := by
        have := c28 [b, a, b] (by simp)
        rwa [joinR, if_neg (by simp [joinOK, Ne.symm h2])] at this
      by_cases h3 : vecOK b = true
      · refine pure_of_body Try.func5 rfl (by simp [Try.f5]) ?_; rw [Try.ntmps5, Try.results5]; intro w0 G0
        ((repeat' (first | refine thenL_n ?_ | refine thenL_r ?_ | refine thenL_x ?_ | refine blockL_n ?_ | refine blockL_r ?_ | refine blockL_x ?_ | refine blockL_y rfl ?_ | refine awp_seq ?_ | refine awp_block ?_ | refine awp_ret ?_ | refine awp_exit ?_ | refine awp_skip ?_ | exact absurd hcond (by decide) | (refine awp_txt ?_; refine runs_to [20, 28] (by simp only [go_sem, h1, h3, hne]; rfl) ?_) | (refine awp_draw mixed ?_; refine runs_to [20, 28] (by simp only [go_sem, h1, h3, hne]; rfl) ?_) | refine runD_nil ⟨by kernel_rfl, ?_⟩ | refine runD_nil ?_ | (refine runD_call (aw28) cb28 (by rfl) (by simp only [go_sem, h1, h3, hne]; rfl) (by ((repeat' (first | exact All2.nil | refine All2.cons ?_ ?_ | exact SubV.one (SubT.same _) | exact SubV.one (SubT.nil _) | refine SubV.agg ?_ | exact SubT.same _ | exact SubT.nil _)); first | done | fail)) ?_; refine runs_to [] (by simp only [go_sem, h1, h3, hne]; rfl) ?_) | (refine runD_call (bw28) cb28 (by rfl) (by simp only [go_sem, h1, h3, hne]; rfl) (by ((repeat' (first | exact All2.nil | refine All2.cons ?_ ?_ | exact SubV.one (SubT.same _) | exact SubV.one (SubT.nil _) | refine SubV.agg ?_ | exact SubT.same _ | exact SubT.nil _)); first | done | fail)) ?_; refine runs_to [] (by simp only [go_sem, h1, h3, hne]; rfl) ?_) | (refine runD_call (c22) cb22 (by rfl) (by simp only [go_sem, h1, h3, hne]; rfl) (by ((repeat' (first | exact All2.nil | refine All2.cons ?_ ?_ | exact SubV.one (SubT.same _) | exact SubV.one (SubT.nil _) | refine SubV.agg ?_ | exact SubT.same _ | exact SubT.nil _)); first | done | fail)) ?_; refine runs_to [] (by simp only [go_sem, h1, h3, hne]; rfl) ?_) | (refine runD_call (c29 _) cb29 (by rfl) (by simp only [go_sem, h1, h3, hne]; rfl) (by ((repeat' (first | exact All2.nil | refine All2.cons ?_ ?_ | exact SubV.one (SubT.same _) | exact SubV.one (SubT.nil _) | refine SubV.agg ?_ | exact SubT.same _ | exact SubT.nil _)); first | done | fail)) ?_; refine runs_to [] (by simp only [go_sem, h1, h3, hne]; rfl) ?_) | (refine awp_cond (b := _) (by simp only [go_sem, evB, h1, h3, hne]; rfl) (fun hcond => ?_) (fun hcond => ?_)))); all_goals (refine leaves_ok (by first | exact Or.inl rfl | exact Or.inr rfl) (by simp only [go_sem, resAll, resL, packL, vecsOf, freezeAll, freezeL, h1, h3, hne]; rfl) ?_; (first | refine SubR.v ?_ | refine SubR.tup ?_); ((repeat' (first | exact All2.nil | refine All2.cons ?_ ?_ | exact SubV.one (SubT.same _) | exact SubV.one (SubT.nil _) | refine SubV.agg ?_ | exact SubT.same _ | exact SubT.nil _)); first | done | fail)))
      · have h3 : vecOK b = false := by simpa using h3
        refine pure_of_body Try.func5 rfl (by simp [Try.f5]) ?_; rw [Try.ntmps5, Try.results5]; intro w0 G0
        ((repeat' (first | refine thenL_n ?_ | refine thenL_r ?_ | refine thenL_x ?_ | refine blockL_n ?_ | refine blockL_r ?_ | refine blockL_x ?_ | refine blockL_y rfl ?_ | refine awp_seq ?_ | refine awp_block ?_ | refine awp_ret ?_ | refine awp_exit ?_ | refine awp_skip ?_ | exact absurd hcond (by decide) | (refine awp_txt ?_; refine runs_to [20, 28] (by simp only [go_sem, h1, h3, hne]; rfl) ?_) | (refine awp_draw mixed ?_; refine runs_to [20, 28] (by simp only [go_sem, h1, h3, hne]; rfl) ?_) | refine runD_nil ⟨by kernel_rfl, ?_⟩ | refine runD_nil ?_ | (refine runD_call (aw28) cb28 (by rfl) (by simp only [go_sem, h1, h3, hne]; rfl) (by ((repeat' (first | exact All2.nil | refine All2.cons ?_ ?_ | exact SubV.one (SubT.same _) | exact SubV.one (SubT.nil _) | refine SubV.agg ?_ | exact SubT.same _ | exact SubT.nil _)); first | done | fail)) ?_; refine runs_to [] (by simp only [go_sem, h1, h3, hne]; rfl) ?_) | (refine runD_call (bw28) cb28 (by rfl) (by simp only [go_sem, h1, h3, hne]; rfl) (by ((repeat' (first | exact All2.nil | refine All2.cons ?_ ?_ | exact SubV.one (SubT.same _) | exact SubV.one (SubT.nil _) | refine SubV.agg ?_ | exact SubT.same _ | exact SubT.nil _)); first | done | fail)) ?_; refine runs_to [] (by simp only [go_sem, h1, h3, hne]; rfl) ?_) | (refine runD_call (c22) cb22 (by rfl) (by simp only [go_sem, h1, h3, hne]; rfl) (by ((repeat' (first | exact All2.nil | refine All2.cons ?_ ?_ | exact SubV.one (SubT.same _) | exact SubV.one (SubT.nil _) | refine SubV.agg ?_ | exact SubT.same _ | exact SubT.nil _)); first | done | fail)) ?_; refine runs_to [] (by simp only [go_sem, h1, h3, hne]; rfl) ?_) | (refine runD_call (c29 _) cb29 (by rfl) (by simp only [go_sem, h1, h3, hne]; rfl) (by ((repeat' (first | exact All2.nil | refine All2.cons ?_ ?_ | exact SubV.one (SubT.same _) | exact SubV.one (SubT.nil _) | refine SubV.agg ?_ | exact SubT.same _ | exact SubT.nil _)); first | done | fail)) ?_; refine runs_to [] (by simp only [go_sem, h1, h3, hne]; rfl) ?_) | (refine awp_cond (b := _) (by simp only [go_sem, evB, h1, h3, hne]; rfl) (fun hcond => ?_) (fun hcond => ?_)))); all_goals (refine leaves_ok (by first | exact Or.inl rfl | exact Or.inr rfl) (by simp only [go_sem, resAll, resL, packL, vecsOf, freezeAll, freezeL, h1, h3, hne]; rfl) ?_; (first | refine SubR.v ?_ | refine SubR.tup ?_); ((repeat' (first | exact All2.nil | refine All2.cons ?_ ?_ | exact SubV.one (SubT.same _) | exact SubV.one (SubT.nil _) | refine SubV.agg ?_ | exact SubT.same _ | exact SubT.nil _)); first | done | fail)))
  · have h1 : vecOK a = false := by simpa using h1
    have aw28 : Pure Try.prog 28 [.one (vvInts [a, b])] (.tup [vlit (.slice none 0 0), vlit (.int .i64 90)]) := by
      have := c28 [a, b] (by simp)
      rwa [joinR, if_neg (by simp [joinOK, h1])] at this
    have bw28 : Pure Try.prog 28 [.one (vvInts [b, a, b])] (.tup [vlit (.slice none 0 0), vlit (.int .i64 90)]) := by
      have := c28 [b, a, b] (by simp)
      rwa [joinR, if_neg (by simp [joinOK, h1])] at this
    refine pure_of_body Try.func5 rfl (by simp [Try.f5]) ?_; rw [Try.ntmps5, Try.results5]; intro w0 G0
    ((repeat' (first | refine thenL_n ?_ | refine thenL_r ?_ | refine thenL_x ?_ | refine blockL_n ?_ | refine blockL_r ?_ | refine blockL_x ?_ | refine blockL_y rfl ?_ | refine awp_seq ?_ | refine awp_block ?_ | refine awp_ret ?_ | refine awp_exit ?_ | refine awp_skip ?_ | exact absurd hcond (by decide) | (refine awp_txt ?_; refine runs_to [20, 28] (by simp only [go_sem, h1]; rfl) ?_) | (refine awp_draw mixed ?_; refine runs_to [20, 28] (by simp only [go_sem, h1]; rfl) ?_) | refine runD_nil ⟨by kernel_rfl, ?_⟩ | refine runD_nil ?_ | (refine runD_call (aw28) cb28 (by rfl) (by simp only [go_sem, h1]; rfl) (by ((repeat' (first | exact All2.nil | refine All2.cons ?_ ?_ | exact SubV.one (SubT.same _) | exact SubV.one (SubT.nil _) | refine SubV.agg ?_ | exact SubT.same _ | exact SubT.nil _)); first | done | fail)) ?_; refine runs_to [] (by simp only [go_sem, h1]; rfl) ?_) | (refine runD_call (bw28) cb28 (by rfl) (by simp only [go_sem, h1]; rfl) (by ((repeat' (first | exact All2.nil | refine All2.cons ?_ ?_ | exact SubV.one (SubT.same _) | exact SubV.one (SubT.nil _) | refine SubV.agg ?_ | exact SubT.same _ | exact SubT.nil _)); first | done | fail)) ?_; refine runs_to [] (by simp only [go_sem, h1]; rfl) ?_) | (refine runD_call (c22) cb22 (by rfl) (by simp only [go_sem, h1]; rfl) (by ((repeat' (first | exact All2.nil | refine All2.cons ?_ ?_ | exact SubV.one (SubT.same _) | exact SubV.one (SubT.nil _) | refine SubV.agg ?_ | exact SubT.same _ | exact SubT.nil _)); first | done | fail)) ?_; refine runs_to [] (by simp only [go_sem, h1]; rfl) ?_) | (refine runD_call (c29 _) cb29 (by rfl) (by simp only [go_sem, h1]; rfl) (by ((repeat' (first | exact All2.nil | refine All2.cons ?_ ?_ | exact SubV.one (SubT.same _) | exact SubV.one (SubT.nil _) | refine SubV.agg ?_ | exact SubT.same _ | exact SubT.nil _)); first | done | fail)) ?_; refine runs_to [] (by simp only [go_sem, h1]; rfl) ?_) | (refine awp_cond (b := _) (by simp only [go_sem, evB, h1]; rfl) (fun hcond => ?_) (fun hcond => ?_)))); all_goals (refine leaves_ok (by first | exact Or.inl rfl | exact Or.inr rfl) (by simp only [go_sem, resAll, resL, packL, vecsOf, freezeAll, freezeL, h1]; rfl) ?_; (first | refine SubR.v ?_ | refine SubR.tup ?_); ((repeat' (first | exact All2.nil | refine All2.cons ?_ ?_ | exact SubV.one (SubT.same _) | exact SubV.one (SubT.nil _) | refine SubV.agg ?_ | exact SubT.same _ | exact SubT.nil _)); first | done | fail)))
end Go.Proofs.Ytbohgpdpglfepaa
