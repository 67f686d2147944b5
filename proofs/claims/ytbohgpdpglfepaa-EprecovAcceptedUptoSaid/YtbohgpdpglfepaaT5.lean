import Derived.Test.YtbohgpdpglfepaaT4
set_option linter.unusedVariables false
set_option linter.unusedSimpArgs false
namespace Go.Proofs.Ytbohgpdpglfepaa
open Go.AM Go.RowKit
attribute [local irreducible] AWP thenL blockL AM.Leaves LeavesO RunD
attribute [local go_sem] runs stepR actF inF frzA frzW lastW act act1 actPick actNil actBin
  actUn actConv actExtract actFieldAddr actField actAlloc keysOf actBox actLoad treesOf actStore actIndex
  actLen actMx srcL actAppend actMake actBuild actBuildSlice boundL actSlice actCall actEqS isStruct
  isSlice actText actCopy litsOf kindsOK fieldsPlain eqAll eqop dstB dstN boolS litB
  litV sv binv unv lits takeC cellsR trees cellsW mxv repl parts
  fillAt fillRows V1.cs mkV ev evr AM.look put del applyL delD wrD
  undefS SV.to V1.to At.to keysL notIn freshKey PV.up PR.up entry entryV evp
  isAt actPtrNil capsL actFunc sameV sameVs pureCtx doc mkVar AM.Loc.key Cont.keys SV.keys
  V1.keys At.keys Cont.sub SV.sub V1.sub At.sub guardR argsL callR Nat.blt_eq Nat.blt Nat.ble
  Nat.beq_eq_true_eq beq_self_eq_true Array.toList List.map List.append_eq List.nil_append List.cons_append List.append_nil List.append_assoc Bool.and_eq_true decide_true decide_false
  decide_eq_true_eq Bool.not_true Bool.not_false reduceCtorEq if_true if_false ite_true ite_false reduceIte AM.Loc.slot.injEq AM.Loc.cell.injEq AM.Loc.vec.injEq
  List.getElem?_cons_zero List.getElem?_cons_succ List.getElem?_nil Option.map_some Option.map_none Option.toList List.flatMap_nil List.flatMap_cons Bool.and_true Bool.true_and Bool.and_false Bool.false_and
  Bool.true_eq_false Bool.false_eq_true Nat.reduceBEq Nat.reduceEqDiff bool_beq_tt bool_beq_ff bool_beq_tf bool_beq_ft List.length_cons List.length_nil List.drop List.take
  List.drop_zero List.take_zero List.all_cons List.all_nil Value.oneCell' Nat.zero_add Nat.reduceAdd Nat.reduceMul Nat.reduceSub Nat.reduceLT Nat.reduceLeDiff Int.reduceLT
  Int.reduceLE Int.reduceEq Int.reduceBEq Int.reduceBNe Int.reduceAdd Int.reduceSub Int.reduceMul Int.reduceNeg Int.reduceToNat Nat.succ_ne_zero List.replicate and_true
  true_and and_false false_and and_self ge_iff_le gt_iff_lt bne_self_eq_false List.zip_cons_cons List.zip_nil_left List.zip List.zipWith Int.natCast_nonneg
  Int.toNat_natCast List.getElem?_map List.length_map sT sI sB sR sP rV AllIn Int.toNat_zero Int.ofNat_zero
  Int.natCast_zero Nat.le_refl List.mapM_cons List.mapM_nil Option.bind_eq_bind Option.bind_some Option.pure_def List.set_cons_zero List.set_cons_succ List.length_set tt2 tt3
  tt4 tt5 tt9 tt12 tt21 tt22 tt23 tt24 tt25 tt36 tt37 tt43
  tt44 tt51 tt52 tt53 tt59 tt67 tt68 tt69 tt74 tt75 tt76 tt77
  tt78 tt79 tt89 tt92 tt95 tt96 tt97 tt98 tt99 tt102 tt103 tt106
  tt107 tt108 tt114 tt115 tt116 tt117 tt118 tt119 tt120 tt122 tt124 tt125
  tt126 tt127 tt130 tt131 tt132 tt133 tt134 tt135 tt137 tt138 tt139 tt147
  tt148 tt149 tt159 tt164 tt165 tt167 tt168 tt169 tt170 tt171 tt190 tt191
  tt194 tt200 tt208 tt212
attribute [local go_sem] vlit bal rInt rBool vInts pInts vvInts

theorem c28c (v : List Int) (vs : List (List Int)) (hn : vs.length ≤ 1000000000000000) (hv : vecOK v = true) (hj : joinOK (v :: vs) = false) : Pure Try.prog 28 [.one (vvInts (v :: vs))] (.tup [.one (.lit (.slice none 0 0)), .one (.lit (.int .i64 90))]) := by
  have hv2 := hv
  simp only [vecOK, Bool.and_eq_true, decide_eq_true_eq] at hv2
  have h0 : v ≠ [] := by rintro rfl; simp at hv2
  have hlz : (((vs.length + 1 : Nat) : Int) == 0) = false := by simp; omega
  have htk : List.take vs.length (List.map (fun v => [vInts v]) vs) = List.map (fun v => [vInts v]) vs := List.take_of_length_le (by simp)
  have hle : 1 ≤ vs.length + 1 := Nat.le_add_left _ _
  simp only [vInts] at htk
  refine pure_of_body Try.func28 rfl (by simp [Try.f28]) ?_; rw [Try.ntmps28, Try.results28]; intro w0 G0
  (repeat' (first | refine thenL_n ?_ | refine thenL_r ?_ | refine thenL_x ?_ | refine blockL_n ?_ | refine blockL_r ?_ | refine blockL_x ?_ | refine blockL_y rfl ?_ | refine awp_seq ?_ | refine awp_block ?_ | refine awp_ret ?_ | refine awp_exit ?_ | refine awp_skip ?_ | exact absurd hcond (by decide) | (refine awp_txt ?_; refine runs_to [] (by simp only [go_sem, hv, hlz, htk, hle]; rfl) ?_) | (refine awp_draw mixed ?_; refine runs_to [] (by simp only [go_sem, hv, hlz, htk, hle]; rfl) ?_) | refine runD_nil ⟨by kernel_rfl, ?_⟩ | refine runD_nil ?_ | (refine runD_call (c29 _) cb29 (by rfl) (by simp only [go_sem, hv, hlz, htk, hle]; rfl) (by ((repeat' (first | exact All2.nil | refine All2.cons ?_ ?_ | exact SubV.one (SubT.same _) | exact SubV.one (SubT.nil _) | refine SubV.agg ?_ | exact SubT.same _ | exact SubT.nil _)); first | done | fail)) ?_; refine runs_to [] (by simp only [go_sem, hv, hlz, htk, hle]; rfl) ?_) | (refine runD_own (o82 _ h0 (by omega)) cb82 (by rfl) (by simp only [go_sem, hv, hlz, htk, hle]; rfl) (by simp only [go_sem, hv, hlz, htk, hle]; rfl) (by ((repeat' (first | exact All2.nil | refine All2.cons ?_ ?_ | exact SubV.one (SubT.same _) | exact SubV.one (SubT.nil _) | refine SubV.agg ?_ | exact SubT.same _ | exact SubT.nil _)); first | done | fail)) ?_; refine runs_to [] (by simp only [go_sem, hv, hlz, htk, hle]; rfl) ?_) | (refine awp_cond (b := _) (by simp only [go_sem, evB, hv, hlz, htk, hle]; rfl) (fun hcond => ?_) (fun hcond => ?_))))
  have hlen : ∀ i, (∀ w, w ∈ vs.take i → w.length = v.length) → ((vs.take i).foldl mxL v).length = v.length := fun i h => fold_length _ _ h
  refine awp_loop (fun i : Nat => [(.slot 4, sR 22), (.vec 22, rV 3 ((vs.take i).foldl mxL v)), (.slot 24, sT (vvInts vs)), (.slot 25, sI vs.length), (.slot 26, sI i)]) (fun i => i ≤ vs.length ∧ ∀ w, w ∈ vs.take i → w.length = v.length ∧ vecOK w = true) (fun i => vs.length - i) 0 ⟨Nat.zero_le _, by simp⟩ (by refine Imp.of_in ?_; simp only [go_sem, List.foldl_nil]) ?_
  intro i hia
  obtain ⟨hi, hall⟩ := hia
  have hli := hlen i fun w hw => (hall w hw).1
  by_cases hlt : (i : Int) < vs.length
  · have hx : vs[i]? = some vs[i] := List.getElem?_eq_getElem (by omega)
    have hw := up i (by omega)
    by_cases hl1 : vs[i].length = v.length
    · have hne : (((vs[i].length : Nat) : Int) != (v.length : Nat)) = false := by rw [hl1]; simp
      by_cases hok : vecOK vs[i] = true
      · (repeat' (first | refine thenL_n ?_ | refine thenL_r ?_ | refine thenL_x ?_ | refine blockL_n ?_ | refine blockL_r ?_ | refine blockL_x ?_ | refine blockL_y rfl ?_ | refine awp_seq ?_ | refine awp_block ?_ | refine awp_ret ?_ | refine awp_exit ?_ | refine awp_skip ?_ | exact absurd hcond (by decide) | (refine awp_txt ?_; refine runs_to [] (by simp only [go_sem, hlt, hx, hok, hli, hne]; rfl) ?_) | (refine awp_draw mixed ?_; refine runs_to [] (by simp only [go_sem, hlt, hx, hok, hli, hne]; rfl) ?_) | refine runD_nil ⟨by kernel_rfl, ?_⟩ | refine runD_nil ?_ | (refine runD_call (c29 _) cb29 (by rfl) (by simp only [go_sem, hlt, hx, hok, hli, hne]; rfl) (by ((repeat' (first | exact All2.nil | refine All2.cons ?_ ?_ | exact SubV.one (SubT.same _) | exact SubV.one (SubT.nil _) | refine SubV.agg ?_ | exact SubT.same _ | exact SubT.nil _)); first | done | fail)) ?_; refine runs_to [] (by simp only [go_sem, hlt, hx, hok, hli, hne]; rfl) ?_) | (refine awp_cond (b := _) (by simp only [go_sem, evB, hlt, hx, hok, hli, hne]; rfl) (fun hcond => ?_) (fun hcond => ?_))))
        refine awp_loop (fun k : Nat => [(.slot 4, sR 22), (.vec 22, rV 3 (mxk k ((vs.take i).foldl mxL v) vs[i])), (.slot 24, sT (vvInts vs)), (.slot 25, sI vs.length), (.slot 26, sI i), (.slot 40, sT (vInts vs[i])), (.slot 41, sI vs[i].length), (.slot 42, sI k)]) (fun k => k ≤ vs[i].length) (fun k => vs[i].length - k) 0 (Nat.zero_le _) (by refine Imp.of_in ?_; simp only [go_sem, mxk_zero]) ?_
        intro k hk
        by_cases hlt2 : (k : Int) < vs[i].length
        · have hx2 : vs[i][k]? = some vs[i][k] := List.getElem?_eq_getElem (by omega)
          have hz : (mxk k ((vs.take i).foldl mxL v) vs[i])[k]? = some (((vs.take i).foldl mxL v)[k]'(by omega)) := by
            rw [mxk_get _ _ _ (by omega) (by omega)]; exact List.getElem?_eq_getElem (by omega)
          have hzl := mxk_length k ((vs.take i).foldl mxL v) vs[i] (by omega)
          have hkl : k < v.length := by omega
          have hset := mxk_succ k ((vs.take i).foldl mxL v) vs[i] (by omega) (by omega)
          have hset2 : (List.map (fun n => [T.lit (.int .i64 n)]) (mxk k ((vs.take i).foldl mxL v) vs[i])).set k [T.lit (.int .i64 (if (((vs.take i).foldl mxL v)[k]'(by omega)) < vs[i][k] then vs[i][k] else (((vs.take i).foldl mxL v)[k]'(by omega))))] = List.map (fun n => [T.lit (.int .i64 n)]) (mxk (k + 1) ((vs.take i).foldl mxL v) vs[i]) := by
            rw [hset, List.map_set]; rfl
          have hw2 := up k (by omega)
          (repeat' (first | refine thenL_n ?_ | refine thenL_r ?_ | refine thenL_x ?_ | refine blockL_n ?_ | refine blockL_r ?_ | refine blockL_x ?_ | refine blockL_y rfl ?_ | refine awp_seq ?_ | refine awp_block ?_ | refine awp_ret ?_ | refine awp_exit ?_ | refine awp_skip ?_ | exact absurd hcond (by decide) | (refine awp_txt ?_; refine runs_to [] (by simp only [go_sem, hlt2, hx2, hz, hzl, hli, hkl, hset2, hw2]; rfl) ?_) | (refine awp_draw mixed ?_; refine runs_to [] (by simp only [go_sem, hlt2, hx2, hz, hzl, hli, hkl, hset2, hw2]; rfl) ?_) | refine runD_nil ⟨by kernel_rfl, ?_⟩ | refine runD_nil ?_ | (refine awp_cond (b := _) (by simp only [go_sem, evB, hlt2, hx2, hz, hzl, hli, hkl, hset2, hw2]; rfl) (fun hcond => ?_) (fun hcond => ?_))))
          refine ⟨k + 1, by omega, by omega, (by refine Imp.of_in ?_; simp only [go_sem])⟩
        · have hkk : k = vs[i].length := by omega
          have hfin : mxk k ((vs.take i).foldl mxL v) vs[i] = (vs.take (i + 1)).foldl mxL v := by
            rw [hkk, mxk_all _ _ (by omega), List.take_succ_eq_append_getElem (by omega), List.foldl_append]; rfl
          (repeat' (first | refine thenL_n ?_ | refine thenL_r ?_ | refine thenL_x ?_ | refine blockL_n ?_ | refine blockL_r ?_ | refine blockL_x ?_ | refine blockL_y rfl ?_ | refine awp_seq ?_ | refine awp_block ?_ | refine awp_ret ?_ | refine awp_exit ?_ | refine awp_skip ?_ | exact absurd hcond (by decide) | (refine awp_txt ?_; refine runs_to [] (by simp only [go_sem, hlt2, hw]; rfl) ?_) | (refine awp_draw mixed ?_; refine runs_to [] (by simp only [go_sem, hlt2, hw]; rfl) ?_) | refine runD_nil ⟨by kernel_rfl, ?_⟩ | refine runD_nil ?_ | (refine awp_cond (b := _) (by simp only [go_sem, evB, hlt2, hw]; rfl) (fun hcond => ?_) (fun hcond => ?_))))
          refine ⟨i + 1, ⟨by omega, fun w hw => ?_⟩, by omega, (by refine Imp.of_in ?_; simp only [go_sem, hfin])⟩
          rw [List.take_succ_eq_append_getElem (by omega)] at hw
          rcases List.mem_append.1 hw with hw | hw
          · exact hall w hw
          · simp at hw; subst hw; exact ⟨hl1, hok⟩
      · have hok : vecOK vs[i] = false := by simpa using hok
        ((repeat' (first | refine thenL_n ?_ | refine thenL_r ?_ | refine thenL_x ?_ | refine blockL_n ?_ | refine blockL_r ?_ | refine blockL_x ?_ | refine blockL_y rfl ?_ | refine awp_seq ?_ | refine awp_block ?_ | refine awp_ret ?_ | refine awp_exit ?_ | refine awp_skip ?_ | exact absurd hcond (by decide) | (refine awp_txt ?_; refine runs_to [] (by simp only [go_sem, hlt, hx, hok, hli, hne]; rfl) ?_) | (refine awp_draw mixed ?_; refine runs_to [] (by simp only [go_sem, hlt, hx, hok, hli, hne]; rfl) ?_) | refine runD_nil ⟨by kernel_rfl, ?_⟩ | refine runD_nil ?_ | (refine runD_call (c29 _) cb29 (by rfl) (by simp only [go_sem, hlt, hx, hok, hli, hne]; rfl) (by ((repeat' (first | exact All2.nil | refine All2.cons ?_ ?_ | exact SubV.one (SubT.same _) | exact SubV.one (SubT.nil _) | refine SubV.agg ?_ | exact SubT.same _ | exact SubT.nil _)); first | done | fail)) ?_; refine runs_to [] (by simp only [go_sem, hlt, hx, hok, hli, hne]; rfl) ?_) | (refine awp_cond (b := _) (by simp only [go_sem, evB, hlt, hx, hok, hli, hne]; rfl) (fun hcond => ?_) (fun hcond => ?_)))); all_goals (refine leaves_ok (by first | exact Or.inl rfl | exact Or.inr rfl) (by simp only [go_sem, resAll, resL, packL, vecsOf, freezeAll, freezeL, hlt, hx, hok, hli, hne]; rfl) ?_; (first | refine SubR.v ?_ | refine SubR.tup ?_); ((repeat' (first | exact All2.nil | refine All2.cons ?_ ?_ | exact SubV.one (SubT.same _) | exact SubV.one (SubT.nil _) | refine SubV.agg ?_ | exact SubT.same _ | exact SubT.nil _)); first | done | fail)))
    · have hne : (((vs[i].length : Nat) : Int) != (v.length : Nat)) = true := by simp; omega
      ((repeat' (first | refine thenL_n ?_ | refine thenL_r ?_ | refine thenL_x ?_ | refine blockL_n ?_ | refine blockL_r ?_ | refine blockL_x ?_ | refine blockL_y rfl ?_ | refine awp_seq ?_ | refine awp_block ?_ | refine awp_ret ?_ | refine awp_exit ?_ | refine awp_skip ?_ | exact absurd hcond (by decide) | (refine awp_txt ?_; refine runs_to [] (by simp only [go_sem, hlt, hx, hli, hne]; rfl) ?_) | (refine awp_draw mixed ?_; refine runs_to [] (by simp only [go_sem, hlt, hx, hli, hne]; rfl) ?_) | refine runD_nil ⟨by kernel_rfl, ?_⟩ | refine runD_nil ?_ | (refine runD_call (c29 _) cb29 (by rfl) (by simp only [go_sem, hlt, hx, hli, hne]; rfl) (by ((repeat' (first | exact All2.nil | refine All2.cons ?_ ?_ | exact SubV.one (SubT.same _) | exact SubV.one (SubT.nil _) | refine SubV.agg ?_ | exact SubT.same _ | exact SubT.nil _)); first | done | fail)) ?_; refine runs_to [] (by simp only [go_sem, hlt, hx, hli, hne]; rfl) ?_) | (refine awp_cond (b := _) (by simp only [go_sem, evB, hlt, hx, hli, hne]; rfl) (fun hcond => ?_) (fun hcond => ?_)))); all_goals (refine leaves_ok (by first | exact Or.inl rfl | exact Or.inr rfl) (by simp only [go_sem, resAll, resL, packL, vecsOf, freezeAll, freezeL, hlt, hx, hli, hne]; rfl) ?_; (first | refine SubR.v ?_ | refine SubR.tup ?_); ((repeat' (first | exact All2.nil | refine All2.cons ?_ ?_ | exact SubV.one (SubT.same _) | exact SubV.one (SubT.nil _) | refine SubV.agg ?_ | exact SubT.same _ | exact SubT.nil _)); first | done | fail)))
  · exfalso
    have hii : i = vs.length := by omega
    rw [hii, List.take_length] at hall
    have : joinOK (v :: vs) = true := by
      simp only [joinOK, hv, Bool.true_and, List.all_eq_true, Bool.and_eq_true, decide_eq_true_eq]
      exact hall
    rw [hj] at this; simp at this

def joinR (vs : List (List Int)) : PR := if joinOK vs then .tup [pInts (joinV vs), vlit (.int .i64 0)] else .tup [vlit (.slice none 0 0), vlit (.int .i64 90)]

theorem c28 (vs : List (List Int)) (hn : vs.length ≤ 1000000000000000) : Pure Try.prog 28 [.one (vvInts vs)] (joinR vs) := by
  cases vs with
  | nil => exact c28a
  | cons v vs =>
    simp only [List.length_cons] at hn
    by_cases hj : joinOK (v :: vs) = true
    · simp only [joinR, hj, if_true]
      exact pure_of_own (o28 v vs (by omega) hj) (.tup (.cons (.one (.same _)) (.cons (.one (.same _)) .nil)))
    · have hj : joinOK (v :: vs) = false := by simpa using hj
      simp only [joinR, hj, Bool.false_eq_true, if_false]
      by_cases hv : vecOK v = true
      · exact c28c v vs (by omega) hv hj
      · exact c28b v vs (by simpa using hv)

def nx (r n rep : Int) : Int := if less r n r rep then r else r + 1
def nextOK (r n rep : Int) : Bool := balOK r n && decide (0 ≤ rep) && decide (rep < 7) && balOK (nx r n rep) rep
def nextR (r n rep : Int) : PR := if nextOK r n rep then .tup [bal (nx r n rep) rep, vlit (.int .i64 0)] else .tup [bal 0 0, vlit (.int .i64 110)]
def nextB (r n rep : Int) : PR := if nextOK r n rep then .tup [bal (nx r n rep) rep, vlit (.bool true)] else .tup [bal 0 0, vlit (.bool false)]

theorem c20 (r n rep : Int) : Pure Try.prog 20 [bal r n, vlit (.int .i64 rep)] (nextR r n rep) := by
  by_cases h1 : balOK r n = true
  · have h1' := h1
    simp only [balOK, Bool.and_eq_true, decide_eq_true_eq] at h1'
    by_cases h2 : rep < 0
    · have hb : nextOK r n rep = false := by simp [nextOK]; omega
      simp only [nextR, hb, Bool.false_eq_true, if_false]
      refine pure_of_body Try.func20 rfl (by simp [Try.f20]) ?_; rw [Try.ntmps20, Try.results20]; intro w0 G0
      ((repeat' (first | refine thenL_n ?_ | refine thenL_r ?_ | refine thenL_x ?_ | refine blockL_n ?_ | refine blockL_r ?_ | refine blockL_x ?_ | refine blockL_y rfl ?_ | refine awp_seq ?_ | refine awp_block ?_ | refine awp_ret ?_ | refine awp_exit ?_ | refine awp_skip ?_ | exact absurd hcond (by decide) | (refine awp_txt ?_; refine runs_to [] (by simp only [go_sem, h1, h2]; rfl) ?_) | (refine awp_draw mixed ?_; refine runs_to [] (by simp only [go_sem, h1, h2]; rfl) ?_) | refine runD_nil ⟨by kernel_rfl, ?_⟩ | refine runD_nil ?_ | (refine runD_call (c24 _ _) cb24 (by rfl) (by simp only [go_sem, h1, h2]; rfl) (by ((repeat' (first | exact All2.nil | refine All2.cons ?_ ?_ | exact SubV.one (SubT.same _) | exact SubV.one (SubT.nil _) | refine SubV.agg ?_ | exact SubT.same _ | exact SubT.nil _)); first | done | fail)) ?_; refine runs_to [] (by simp only [go_sem, h1, h2]; rfl) ?_) | (refine awp_cond (b := _) (by simp only [go_sem, evB, h1, h2]; rfl) (fun hcond => ?_) (fun hcond => ?_)))); all_goals (refine leaves_ok (by first | exact Or.inl rfl | exact Or.inr rfl) (by simp only [go_sem, resAll, resL, packL, vecsOf, freezeAll, freezeL, h1, h2]; rfl) ?_; (first | refine SubR.v ?_ | refine SubR.tup ?_); ((repeat' (first | exact All2.nil | refine All2.cons ?_ ?_ | exact SubV.one (SubT.same _) | exact SubV.one (SubT.nil _) | refine SubV.agg ?_ | exact SubT.same _ | exact SubT.nil _)); first | done | fail)))
    by_cases h3 : 7 ≤ rep
    · have hb : nextOK r n rep = false := by simp [nextOK]; omega
      simp only [nextR, hb, Bool.false_eq_true, if_false]
      refine pure_of_body Try.func20 rfl (by simp [Try.f20]) ?_; rw [Try.ntmps20, Try.results20]; intro w0 G0
      ((repeat' (first | refine thenL_n ?_ | refine thenL_r ?_ | refine thenL_x ?_ | refine blockL_n ?_ | refine blockL_r ?_ | refine blockL_x ?_ | refine blockL_y rfl ?_ | refine awp_seq ?_ | refine awp_block ?_ | refine awp_ret ?_ | refine awp_exit ?_ | refine awp_skip ?_ | exact absurd hcond (by decide) | (refine awp_txt ?_; refine runs_to [] (by simp only [go_sem, h1, h2, h3]; rfl) ?_) | (refine awp_draw mixed ?_; refine runs_to [] (by simp only [go_sem, h1, h2, h3]; rfl) ?_) | refine runD_nil ⟨by kernel_rfl, ?_⟩ | refine runD_nil ?_ | (refine runD_call (c24 _ _) cb24 (by rfl) (by simp only [go_sem, h1, h2, h3]; rfl) (by ((repeat' (first | exact All2.nil | refine All2.cons ?_ ?_ | exact SubV.one (SubT.same _) | exact SubV.one (SubT.nil _) | refine SubV.agg ?_ | exact SubT.same _ | exact SubT.nil _)); first | done | fail)) ?_; refine runs_to [] (by simp only [go_sem, h1, h2, h3]; rfl) ?_) | (refine awp_cond (b := _) (by simp only [go_sem, evB, h1, h2, h3]; rfl) (fun hcond => ?_) (fun hcond => ?_)))); all_goals (refine leaves_ok (by first | exact Or.inl rfl | exact Or.inr rfl) (by simp only [go_sem, resAll, resL, packL, vecsOf, freezeAll, freezeL, h1, h2, h3]; rfl) ?_; (first | refine SubR.v ?_ | refine SubR.tup ?_); ((repeat' (first | exact All2.nil | refine All2.cons ?_ ?_ | exact SubV.one (SubT.same _) | exact SubV.one (SubT.nil _) | refine SubV.agg ?_ | exact SubT.same _ | exact SubT.nil _)); first | done | fail)))
    have h2' : 0 ≤ rep := by omega
    have h3' : rep < 7 := by omega
    by_cases h4 : less r n r rep = true
    · have h5 : balOK r rep = true := by simp [balOK]; omega
      have hb : nextOK r n rep = true := by simp [nextOK, nx, h1, h2', h3', h4, h5]
      have hx : nx r n rep = r := by simp [nx, h4]
      simp only [nextR, hb, hx, if_true]
      refine pure_of_body Try.func20 rfl (by simp [Try.f20]) ?_; rw [Try.ntmps20, Try.results20]; intro w0 G0
      ((repeat' (first | refine thenL_n ?_ | refine thenL_r ?_ | refine thenL_x ?_ | refine blockL_n ?_ | refine blockL_r ?_ | refine blockL_x ?_ | refine blockL_y rfl ?_ | refine awp_seq ?_ | refine awp_block ?_ | refine awp_ret ?_ | refine awp_exit ?_ | refine awp_skip ?_ | exact absurd hcond (by decide) | (refine awp_txt ?_; refine runs_to [] (by simp only [go_sem, h1, h2, h3, h4, h5]; rfl) ?_) | (refine awp_draw mixed ?_; refine runs_to [] (by simp only [go_sem, h1, h2, h3, h4, h5]; rfl) ?_) | refine runD_nil ⟨by kernel_rfl, ?_⟩ | refine runD_nil ?_ | (refine runD_call (c24 _ _) cb24 (by rfl) (by simp only [go_sem, h1, h2, h3, h4, h5]; rfl) (by ((repeat' (first | exact All2.nil | refine All2.cons ?_ ?_ | exact SubV.one (SubT.same _) | exact SubV.one (SubT.nil _) | refine SubV.agg ?_ | exact SubT.same _ | exact SubT.nil _)); first | done | fail)) ?_; refine runs_to [] (by simp only [go_sem, h1, h2, h3, h4, h5]; rfl) ?_) | (refine runD_call (c26 _ _ _ _) cb26 (by rfl) (by simp only [go_sem, h1, h2, h3, h4, h5]; rfl) (by ((repeat' (first | exact All2.nil | refine All2.cons ?_ ?_ | exact SubV.one (SubT.same _) | exact SubV.one (SubT.nil _) | refine SubV.agg ?_ | exact SubT.same _ | exact SubT.nil _)); first | done | fail)) ?_; refine runs_to [] (by simp only [go_sem, h1, h2, h3, h4, h5]; rfl) ?_) | (refine awp_cond (b := _) (by simp only [go_sem, evB, h1, h2, h3, h4, h5]; rfl) (fun hcond => ?_) (fun hcond => ?_)))); all_goals (refine leaves_ok (by first | exact Or.inl rfl | exact Or.inr rfl) (by simp only [go_sem, resAll, resL, packL, vecsOf, freezeAll, freezeL, h1, h2, h3, h4, h5]; rfl) ?_; (first | refine SubR.v ?_ | refine SubR.tup ?_); ((repeat' (first | exact All2.nil | refine All2.cons ?_ ?_ | exact SubV.one (SubT.same _) | exact SubV.one (SubT.nil _) | refine SubV.agg ?_ | exact SubT.same _ | exact SubT.nil _)); first | done | fail)))
    · have h4 : less r n r rep = false := by simpa using h4
      have hx : nx r n rep = r + 1 := by simp [nx, h4]
      have hw : IntKind.i64.wrap (r + 1) = r + 1 := IntWalk.i64_in _ ⟨by omega, by omega⟩
      by_cases h5 : balOK (r + 1) rep = true
      · have hb : nextOK r n rep = true := by simp [nextOK, hx, h1, h2', h3', h5]
        simp only [nextR, hb, hx, if_true]
        refine pure_of_body Try.func20 rfl (by simp [Try.f20]) ?_; rw [Try.ntmps20, Try.results20]; intro w0 G0
        ((repeat' (first | refine thenL_n ?_ | refine thenL_r ?_ | refine thenL_x ?_ | refine blockL_n ?_ | refine blockL_r ?_ | refine blockL_x ?_ | refine blockL_y rfl ?_ | refine awp_seq ?_ | refine awp_block ?_ | refine awp_ret ?_ | refine awp_exit ?_ | refine awp_skip ?_ | exact absurd hcond (by decide) | (refine awp_txt ?_; refine runs_to [] (by simp only [go_sem, h1, h2, h3, h4, h5, hw]; rfl) ?_) | (refine awp_draw mixed ?_; refine runs_to [] (by simp only [go_sem, h1, h2, h3, h4, h5, hw]; rfl) ?_) | refine runD_nil ⟨by kernel_rfl, ?_⟩ | refine runD_nil ?_ | (refine runD_call (c24 _ _) cb24 (by rfl) (by simp only [go_sem, h1, h2, h3, h4, h5, hw]; rfl) (by ((repeat' (first | exact All2.nil | refine All2.cons ?_ ?_ | exact SubV.one (SubT.same _) | exact SubV.one (SubT.nil _) | refine SubV.agg ?_ | exact SubT.same _ | exact SubT.nil _)); first | done | fail)) ?_; refine runs_to [] (by simp only [go_sem, h1, h2, h3, h4, h5, hw]; rfl) ?_) | (refine runD_call (c26 _ _ _ _) cb26 (by rfl) (by simp only [go_sem, h1, h2, h3, h4, h5, hw]; rfl) (by ((repeat' (first | exact All2.nil | refine All2.cons ?_ ?_ | exact SubV.one (SubT.same _) | exact SubV.one (SubT.nil _) | refine SubV.agg ?_ | exact SubT.same _ | exact SubT.nil _)); first | done | fail)) ?_; refine runs_to [] (by simp only [go_sem, h1, h2, h3, h4, h5, hw]; rfl) ?_) | (refine awp_cond (b := _) (by simp only [go_sem, evB, h1, h2, h3, h4, h5, hw]; rfl) (fun hcond => ?_) (fun hcond => ?_)))); all_goals (refine leaves_ok (by first | exact Or.inl rfl | exact Or.inr rfl) (by simp only [go_sem, resAll, resL, packL, vecsOf, freezeAll, freezeL, h1, h2, h3, h4, h5, hw]; rfl) ?_; (first | refine SubR.v ?_ | refine SubR.tup ?_); ((repeat' (first | exact All2.nil | refine All2.cons ?_ ?_ | exact SubV.one (SubT.same _) | exact SubV.one (SubT.nil _) | refine SubV.agg ?_ | exact SubT.same _ | exact SubT.nil _)); first | done | fail)))
      · have h5 : balOK (r + 1) rep = false := by simpa using h5
        have hb : nextOK r n rep = false := by simp [nextOK, hx, h5]
        simp only [nextR, hb, Bool.false_eq_true, if_false]
        refine pure_of_body Try.func20 rfl (by simp [Try.f20]) ?_; rw [Try.ntmps20, Try.results20]; intro w0 G0
        ((repeat' (first | refine thenL_n ?_ | refine thenL_r ?_ | refine thenL_x ?_ | refine blockL_n ?_ | refine blockL_r ?_ | refine blockL_x ?_ | refine blockL_y rfl ?_ | refine awp_seq ?_ | refine awp_block ?_ | refine awp_ret ?_ | refine awp_exit ?_ | refine awp_skip ?_ | exact absurd hcond (by decide) | (refine awp_txt ?_; refine runs_to [] (by simp only [go_sem, h1, h2, h3, h4, h5, hw]; rfl) ?_) | (refine awp_draw mixed ?_; refine runs_to [] (by simp only [go_sem, h1, h2, h3, h4, h5, hw]; rfl) ?_) | refine runD_nil ⟨by kernel_rfl, ?_⟩ | refine runD_nil ?_ | (refine runD_call (c24 _ _) cb24 (by rfl) (by simp only [go_sem, h1, h2, h3, h4, h5, hw]; rfl) (by ((repeat' (first | exact All2.nil | refine All2.cons ?_ ?_ | exact SubV.one (SubT.same _) | exact SubV.one (SubT.nil _) | refine SubV.agg ?_ | exact SubT.same _ | exact SubT.nil _)); first | done | fail)) ?_; refine runs_to [] (by simp only [go_sem, h1, h2, h3, h4, h5, hw]; rfl) ?_) | (refine runD_call (c26 _ _ _ _) cb26 (by rfl) (by simp only [go_sem, h1, h2, h3, h4, h5, hw]; rfl) (by ((repeat' (first | exact All2.nil | refine All2.cons ?_ ?_ | exact SubV.one (SubT.same _) | exact SubV.one (SubT.nil _) | refine SubV.agg ?_ | exact SubT.same _ | exact SubT.nil _)); first | done | fail)) ?_; refine runs_to [] (by simp only [go_sem, h1, h2, h3, h4, h5, hw]; rfl) ?_) | (refine awp_cond (b := _) (by simp only [go_sem, evB, h1, h2, h3, h4, h5, hw]; rfl) (fun hcond => ?_) (fun hcond => ?_)))); all_goals (refine leaves_ok (by first | exact Or.inl rfl | exact Or.inr rfl) (by simp only [go_sem, resAll, resL, packL, vecsOf, freezeAll, freezeL, h1, h2, h3, h4, h5, hw]; rfl) ?_; (first | refine SubR.v ?_ | refine SubR.tup ?_); ((repeat' (first | exact All2.nil | refine All2.cons ?_ ?_ | exact SubV.one (SubT.same _) | exact SubV.one (SubT.nil _) | refine SubV.agg ?_ | exact SubT.same _ | exact SubT.nil _)); first | done | fail)))
  · have h1 : balOK r n = false := by simpa using h1
    have hb : nextOK r n rep = false := by simp [nextOK, h1]
    simp only [nextR, hb, Bool.false_eq_true, if_false]
    refine pure_of_body Try.func20 rfl (by simp [Try.f20]) ?_; rw [Try.ntmps20, Try.results20]; intro w0 G0
    ((repeat' (first | refine thenL_n ?_ | refine thenL_r ?_ | refine thenL_x ?_ | refine blockL_n ?_ | refine blockL_r ?_ | refine blockL_x ?_ | refine blockL_y rfl ?_ | refine awp_seq ?_ | refine awp_block ?_ | refine awp_ret ?_ | refine awp_exit ?_ | refine awp_skip ?_ | exact absurd hcond (by decide) | (refine awp_txt ?_; refine runs_to [] (by simp only [go_sem, h1]; rfl) ?_) | (refine awp_draw mixed ?_; refine runs_to [] (by simp only [go_sem, h1]; rfl) ?_) | refine runD_nil ⟨by kernel_rfl, ?_⟩ | refine runD_nil ?_ | (refine runD_call (c24 _ _) cb24 (by rfl) (by simp only [go_sem, h1]; rfl) (by ((repeat' (first | exact All2.nil | refine All2.cons ?_ ?_ | exact SubV.one (SubT.same _) | exact SubV.one (SubT.nil _) | refine SubV.agg ?_ | exact SubT.same _ | exact SubT.nil _)); first | done | fail)) ?_; refine runs_to [] (by simp only [go_sem, h1]; rfl) ?_) | (refine awp_cond (b := _) (by simp only [go_sem, evB, h1]; rfl) (fun hcond => ?_) (fun hcond => ?_)))); all_goals (refine leaves_ok (by first | exact Or.inl rfl | exact Or.inr rfl) (by simp only [go_sem, resAll, resL, packL, vecsOf, freezeAll, freezeL, h1]; rfl) ?_; (first | refine SubR.v ?_ | refine SubR.tup ?_); ((repeat' (first | exact All2.nil | refine All2.cons ?_ ?_ | exact SubV.one (SubT.same _) | exact SubV.one (SubT.nil _) | refine SubV.agg ?_ | exact SubT.same _ | exact SubT.nil _)); first | done | fail)))
end Go.Proofs.Ytbohgpdpglfepaa
