import Derived.Test.YtbohgpdpglfepaaT13
set_option maxHeartbeats 4000000
set_option maxRecDepth 10000
set_option linter.unusedVariables false
set_option linter.unusedSimpArgs false
namespace Go.Proofs.Ytbohgpdpglfepaa
open Go.AM Go.RowKit
attribute [local irreducible] AWP thenL blockL AM.Leaves LeavesO RunD
attribute [local go_sem] runs stepR actF inF frzA frzW lastW act act1 actPick actNil actBin
  actUn actConv actExtract actFieldAddr actField actAlloc keysOf actBox actLoad treesOf actStore actIndex
  actLen actMx srcL actAppend actMake actBuild actBuildSlice boundL actSlice actCall actEqS isStruct
  isSlice actText actCopy litsOf kindsOK fieldsPlain eqAll eqop dstB dstN boolS litB
  litV sv binv unv lits takeC cellsR trees cellsW mxv repl parts
  fillAt fillRows V1.cs mkV ev evr AM.look put del applyL delD wrD
  undefS SV.to V1.to At.to keysL notIn freshKey PV.up PR.up entry entryV evp
  isAt actPtrNil capsL actFunc sameV sameVs pureCtx doc mkVar AM.Loc.key Cont.keys SV.keys
  V1.keys At.keys Cont.sub SV.sub V1.sub At.sub guardR argsL callR Nat.blt_eq Nat.blt Nat.ble
  Nat.beq_eq_true_eq beq_self_eq_true Array.toList List.map List.append_eq List.nil_append List.cons_append List.append_nil List.append_assoc Bool.and_eq_true decide_true decide_false
  decide_eq_true_eq Bool.not_true Bool.not_false reduceCtorEq if_true if_false ite_true ite_false reduceIte AM.Loc.slot.injEq AM.Loc.cell.injEq AM.Loc.vec.injEq
  List.getElem?_cons_zero List.getElem?_cons_succ List.getElem?_nil Option.map_some Option.map_none Option.toList List.flatMap_nil List.flatMap_cons Bool.and_true Bool.true_and Bool.and_false Bool.false_and
  Bool.true_eq_false Bool.false_eq_true Nat.reduceBEq Nat.reduceEqDiff bool_beq_tt bool_beq_ff bool_beq_tf bool_beq_ft List.length_cons List.length_nil List.drop List.take
  List.drop_zero List.take_zero List.all_cons List.all_nil Value.oneCell' Nat.zero_add Nat.reduceAdd Nat.reduceMul Nat.reduceSub Nat.reduceLT Nat.reduceLeDiff Int.reduceLT
  Int.reduceLE Int.reduceEq Int.reduceBEq Int.reduceBNe Int.reduceAdd Int.reduceSub Int.reduceMul Int.reduceNeg Int.reduceToNat Nat.succ_ne_zero List.replicate and_true
  true_and and_false false_and and_self ge_iff_le gt_iff_lt bne_self_eq_false List.zip_cons_cons List.zip_nil_left List.zip List.zipWith Int.natCast_nonneg
  Int.toNat_natCast List.getElem?_map List.length_map sT sI sB sR sP rV AllIn Int.toNat_zero Int.ofNat_zero
  Int.natCast_zero Nat.le_refl List.mapM_cons List.mapM_nil Option.bind_eq_bind Option.bind_some Option.pure_def List.set_cons_zero List.set_cons_succ List.length_set tt2 tt3
  tt4 tt5 tt9 tt12 tt21 tt22 tt23 tt24 tt25 tt36 tt37 tt43
  tt44 tt51 tt52 tt53 tt59 tt67 tt68 tt69 tt74 tt75 tt76 tt77
  tt78 tt79 tt89 tt92 tt95 tt96 tt97 tt98 tt99 tt102 tt103 tt106
  tt107 tt108 tt114 tt115 tt116 tt117 tt118 tt119 tt120 tt122 tt124 tt125
  tt126 tt127 tt130 tt131 tt132 tt133 tt134 tt135 tt137 tt138 tt139 tt147
  tt148 tt149 tt159 tt164 tt165 tt167 tt168 tt169 tt170 tt171 tt190 tt191
  tt194 tt200 tt208 tt212
attribute [local go_sem] vlit bal rInt rBool vInts pInts vvInts

/-- The join by noughts. -/
def mxz (n : Nat) (vs : List (List Int)) : List Int := vs.foldl mxL (List.replicate n 0)

theorem mxL_zero : ∀ v : List Int, v.all numOK = true → mxL (List.replicate v.length 0) v = v
  | [], _ => rfl
  | x :: v, h => by
    simp only [List.all_cons, Bool.and_eq_true] at h
    have := mxL_zero v h.2
    simp only [mxL, List.length_cons, List.replicate_succ, List.zipWith_cons_cons] at this ⊢
    rw [this]
    congr 1
    have h1 := h.1
    simp only [numOK, Bool.and_eq_true, decide_eq_true_eq] at h1
    simp only [mx2]; split <;> omega

theorem joinV_mxz (v : List Int) (vs : List (List Int)) (h : vecOK v = true) : mxz v.length (v :: vs) = joinV (v :: vs) := by
  simp only [vecOK, Bool.and_eq_true] at h
  simp only [mxz, List.foldl_cons, joinV, mxL_zero v h.2]

theorem c33a : Pure Try.prog 33 [.one (vvInts [])] (.tup [.one (.lit (.slice none 0 0)), .one (.lit (.bool false))]) := by
  refine pure_of_body Try.func33 rfl (by simp [Try.f33]) ?_; rw [Try.ntmps33, Try.results33]; intro w0 G0
  ((repeat' (first | refine thenL_n ?_ | refine thenL_r ?_ | refine thenL_x ?_ | refine blockL_n ?_ | refine blockL_r ?_ | refine blockL_x ?_ | refine blockL_y rfl ?_ | refine awp_seq ?_ | refine awp_block ?_ | refine awp_ret ?_ | refine awp_exit ?_ | refine awp_skip ?_ | exact absurd hcond (by decide) | (refine awp_txt ?_; refine runs_to [] (by simp only [go_sem]; rfl) ?_) | (refine awp_draw mixed ?_; refine runs_to [] (by simp only [go_sem]; rfl) ?_) | refine runD_nil ⟨by kernel_rfl, ?_⟩ | refine runD_nil ?_ | (refine awp_cond (b := _) (by simp only [go_sem, evB]; rfl) (fun hcond => ?_) (fun hcond => ?_)))); all_goals (refine leaves_ok (by first | exact Or.inl rfl | exact Or.inr rfl) (by simp only [go_sem, resAll, resL, packL, vecsOf, freezeAll, freezeL]; rfl) ?_; (first | refine SubR.v ?_ | refine SubR.tup ?_); ((repeat' (first | exact All2.nil | refine All2.cons ?_ ?_ | exact SubV.one (SubT.same _) | exact SubV.one (SubT.nil _) | refine SubV.agg ?_ | exact SubT.same _ | exact SubT.nil _)); first | done | fail)))

theorem c33b (v : List Int) (vs : List (List Int)) (hn : vs.length ≤ 1000000000000000) (hb : ∀ w, w ∈ v :: vs → w.length * 8 ≤ 140737488351232) (hj : joinOK (v :: vs) = false) : Pure Try.prog 33 [.one (vvInts (v :: vs))] (.tup [.one (.lit (.slice none 0 0)), .one (.lit (.bool false))]) := by
  have hlz : (((vs.length + 1 : Nat) : Int) == 0) = false := by simp; omega
  refine pure_of_body Try.func33 rfl (by simp [Try.f33]) ?_; rw [Try.ntmps33, Try.results33]; intro w0 G0
  (repeat' (first | refine thenL_n ?_ | refine thenL_r ?_ | refine thenL_x ?_ | refine blockL_n ?_ | refine blockL_r ?_ | refine blockL_x ?_ | refine blockL_y rfl ?_ | refine awp_seq ?_ | refine awp_block ?_ | refine awp_ret ?_ | refine awp_exit ?_ | refine awp_skip ?_ | exact absurd hcond (by decide) | (refine awp_txt ?_; refine runs_to [] (by simp only [go_sem, hlz]; rfl) ?_) | (refine awp_draw mixed ?_; refine runs_to [] (by simp only [go_sem, hlz]; rfl) ?_) | refine runD_nil ⟨by kernel_rfl, ?_⟩ | refine runD_nil ?_ | (refine awp_cond (b := _) (by simp only [go_sem, evB, hlz]; rfl) (fun hcond => ?_) (fun hcond => ?_))))
  refine awp_loop (fun i : Nat => [(.slot 0, sT (vvInts (v :: vs))), (.slot 4, sI i)]) (fun i => i ≤ (v :: vs).length ∧ ∀ w, w ∈ (v :: vs).take i → w.length = v.length ∧ vecOK w = true) (fun i => (v :: vs).length - i) 0 ⟨Nat.zero_le _, by simp⟩ (by refine Imp.of_in ?_; simp only [go_sem]) ?_
  intro i hia
  obtain ⟨hi, hall⟩ := hia
  by_cases hlt : (i : Int) < ((vs.length + 1 : Nat) : Int)
  · have hl : i < (v :: vs).length := by simp; omega
    obtain ⟨w, hw0⟩ : ∃ w, w = (v :: vs)[i] := ⟨_, rfl⟩
    have hx0 : (v :: vs)[i]? = some w := by rw [hw0]; exact List.getElem?_eq_getElem hl
    have hmem : w ∈ v :: vs := List.mem_of_getElem? hx0
    have hx : ([vInts v] :: List.map (fun v => [vInts v]) vs)[i]? = some [vInts w] := by
      have : ((v :: vs).map fun v => [vInts v])[i]? = some [vInts w] := by rw [List.getElem?_map, hx0]; rfl
      exact this
    simp only [vInts] at hx
    have hwl : w.length ≤ 4611686018427387903 := by have := hb w hmem; omega
    have hw := up i (by simp at hl; omega)
    by_cases hok : vecOK w = true
    · by_cases hne : w.length = v.length
      · have hne2 : (((w.length : Nat) : Int) != (v.length : Nat)) = false := by rw [hne]; simp
        (repeat' (first | refine thenL_n ?_ | refine thenL_r ?_ | refine thenL_x ?_ | refine blockL_n ?_ | refine blockL_r ?_ | refine blockL_x ?_ | refine blockL_y rfl ?_ | refine awp_seq ?_ | refine awp_block ?_ | refine awp_ret ?_ | refine awp_exit ?_ | refine awp_skip ?_ | exact absurd hcond (by decide) | (refine awp_txt ?_; refine runs_to [] (by simp only [go_sem, hlt, hx, hw, hok, hne2]; rfl) ?_) | (refine awp_draw mixed ?_; refine runs_to [] (by simp only [go_sem, hlt, hx, hw, hok, hne2]; rfl) ?_) | refine runD_nil ⟨by kernel_rfl, ?_⟩ | refine runD_nil ?_ | (refine runD_call (c34 _ hwl) cb34 (by rfl) (by simp only [go_sem, hlt, hx, hw, hok, hne2]; rfl) (by ((repeat' (first | exact All2.nil | refine All2.cons ?_ ?_ | exact SubV.one (SubT.same _) | exact SubV.one (SubT.nil _) | refine SubV.agg ?_ | exact SubT.same _ | exact SubT.nil _)); first | done | fail)) ?_; refine runs_to [] (by simp only [go_sem, hlt, hx, hw, hok, hne2]; rfl) ?_) | (refine awp_cond (b := _) (by simp only [go_sem, evB, hlt, hx, hw, hok, hne2]; rfl) (fun hcond => ?_) (fun hcond => ?_))))
        refine ⟨i + 1, ⟨by omega, fun u hu => ?_⟩, by omega, (by refine Imp.of_in ?_; simp only [go_sem])⟩
        rw [List.take_succ_eq_append_getElem hl] at hu
        rcases List.mem_append.1 hu with hu | hu
        · exact hall u hu
        · rw [← hw0] at hu; simp at hu; subst hu; exact ⟨hne, hok⟩
      · have hne2 : (((w.length : Nat) : Int) != (v.length : Nat)) = true := by simp; omega
        ((repeat' (first | refine thenL_n ?_ | refine thenL_r ?_ | refine thenL_x ?_ | refine blockL_n ?_ | refine blockL_r ?_ | refine blockL_x ?_ | refine blockL_y rfl ?_ | refine awp_seq ?_ | refine awp_block ?_ | refine awp_ret ?_ | refine awp_exit ?_ | refine awp_skip ?_ | exact absurd hcond (by decide) | (refine awp_txt ?_; refine runs_to [] (by simp only [go_sem, hlt, hx, hw, hok, hne2]; rfl) ?_) | (refine awp_draw mixed ?_; refine runs_to [] (by simp only [go_sem, hlt, hx, hw, hok, hne2]; rfl) ?_) | refine runD_nil ⟨by kernel_rfl, ?_⟩ | refine runD_nil ?_ | (refine runD_call (c34 _ hwl) cb34 (by rfl) (by simp only [go_sem, hlt, hx, hw, hok, hne2]; rfl) (by ((repeat' (first | exact All2.nil | refine All2.cons ?_ ?_ | exact SubV.one (SubT.same _) | exact SubV.one (SubT.nil _) | refine SubV.agg ?_ | exact SubT.same _ | exact SubT.nil _)); first | done | fail)) ?_; refine runs_to [] (by simp only [go_sem, hlt, hx, hw, hok, hne2]; rfl) ?_) | (refine awp_cond (b := _) (by simp only [go_sem, evB, hlt, hx, hw, hok, hne2]; rfl) (fun hcond => ?_) (fun hcond => ?_)))); all_goals (refine leaves_ok (by first | exact Or.inl rfl | exact Or.inr rfl) (by simp only [go_sem, resAll, resL, packL, vecsOf, freezeAll, freezeL, hlt, hx, hw, hok, hne2]; rfl) ?_; (first | refine SubR.v ?_ | refine SubR.tup ?_); ((repeat' (first | exact All2.nil | refine All2.cons ?_ ?_ | exact SubV.one (SubT.same _) | exact SubV.one (SubT.nil _) | refine SubV.agg ?_ | exact SubT.same _ | exact SubT.nil _)); first | done | fail)))
    · have hok : vecOK w = false := by simpa using hok
      ((repeat' (first | refine thenL_n ?_ | refine thenL_r ?_ | refine thenL_x ?_ | refine blockL_n ?_ | refine blockL_r ?_ | refine blockL_x ?_ | refine blockL_y rfl ?_ | refine awp_seq ?_ | refine awp_block ?_ | refine awp_ret ?_ | refine awp_exit ?_ | refine awp_skip ?_ | exact absurd hcond (by decide) | (refine awp_txt ?_; refine runs_to [] (by simp only [go_sem, hlt, hx, hw, hok]; rfl) ?_) | (refine awp_draw mixed ?_; refine runs_to [] (by simp only [go_sem, hlt, hx, hw, hok]; rfl) ?_) | refine runD_nil ⟨by kernel_rfl, ?_⟩ | refine runD_nil ?_ | (refine runD_call (c34 _ hwl) cb34 (by rfl) (by simp only [go_sem, hlt, hx, hw, hok]; rfl) (by ((repeat' (first | exact All2.nil | refine All2.cons ?_ ?_ | exact SubV.one (SubT.same _) | exact SubV.one (SubT.nil _) | refine SubV.agg ?_ | exact SubT.same _ | exact SubT.nil _)); first | done | fail)) ?_; refine runs_to [] (by simp only [go_sem, hlt, hx, hw, hok]; rfl) ?_) | (refine awp_cond (b := _) (by simp only [go_sem, evB, hlt, hx, hw, hok]; rfl) (fun hcond => ?_) (fun hcond => ?_)))); all_goals (refine leaves_ok (by first | exact Or.inl rfl | exact Or.inr rfl) (by simp only [go_sem, resAll, resL, packL, vecsOf, freezeAll, freezeL, hlt, hx, hw, hok]; rfl) ?_; (first | refine SubR.v ?_ | refine SubR.tup ?_); ((repeat' (first | exact All2.nil | refine All2.cons ?_ ?_ | exact SubV.one (SubT.same _) | exact SubV.one (SubT.nil _) | refine SubV.agg ?_ | exact SubT.same _ | exact SubT.nil _)); first | done | fail)))
  · exfalso
    have hii : i = (v :: vs).length := by simp at hi ⊢; omega
    rw [hii, List.take_length] at hall
    have : joinOK (v :: vs) = true := by
      simp only [joinOK, Bool.and_eq_true, List.all_eq_true, decide_eq_true_eq]
      exact ⟨(hall v (by simp)).2, fun w hw => hall w (by simp [hw])⟩
    rw [hj] at this; simp at this

theorem mxz_length (n : Nat) (vs : List (List Int)) (h : ∀ w, w ∈ vs → w.length = n) : (mxz n vs).length = n := by
  have := fold_length vs (List.replicate n 0) fun w hw => by simp [h w hw]
  simpa [mxz] using this

theorem c33c (v : List Int) (vs : List (List Int)) (hn : vs.length ≤ 1000000000000000) (hj : joinOK (v :: vs) = true) : Pure Try.prog 33 [.one (vvInts (v :: vs))] (.tup [pInts (joinV (v :: vs)), .one (.lit (.bool true))]) := by
  have hlz : (((vs.length + 1 : Nat) : Int) == 0) = false := by simp; omega
  have hj2 := hj
  simp only [joinOK, Bool.and_eq_true, List.all_eq_true, decide_eq_true_eq] at hj2
  have hv2 := hj2.1
  simp only [vecOK, Bool.and_eq_true, decide_eq_true_eq] at hv2
  have hall : ∀ w, w ∈ v :: vs → w.length = v.length ∧ vecOK w = true := fun w hw => by
    rcases List.mem_cons.1 hw with rfl | hw
    · exact ⟨rfl, hj2.1⟩
    · exact hj2.2 w hw
  have h0 : ([vInts v] :: List.map (fun v => [vInts v]) vs)[0]? = some [vInts v] := rfl
  simp only [vInts] at h0
  have hget : ∀ i (hl : i < (v :: vs).length), ([T.sl 1 (List.map (fun n => [T.lit (.int .i64 n)]) v)] :: List.map (fun v => [T.sl 1 (List.map (fun n => [T.lit (.int .i64 n)]) v)]) vs)[i]? = some [T.sl 1 (List.map (fun n => [T.lit (.int .i64 n)]) (v :: vs)[i])] := fun i hl => by
    have : ((v :: vs).map fun v => [vInts v])[i]? = some [vInts (v :: vs)[i]] := by rw [List.getElem?_map, List.getElem?_eq_getElem hl]; rfl
    exact this
  have hl1 : ((v.length : Nat) : Int) ≤ 140737488355328 := by omega
  have hl2 : ((v.length : Nat) : Int) * ((8 : Nat) : Int) ≤ 281474976710656 := by omega
  have hrep : List.replicate v.length [T.lit (.int .i64 0)] = List.map (fun n => [T.lit (.int .i64 n)]) (mxz v.length ((v :: vs).take 0)) := by simp [mxz]
  refine pure_of_body Try.func33 rfl (by simp [Try.f33]) ?_; rw [Try.ntmps33, Try.results33]; intro w0 G0
  (repeat' (first | refine thenL_n ?_ | refine thenL_r ?_ | refine thenL_x ?_ | refine blockL_n ?_ | refine blockL_r ?_ | refine blockL_x ?_ | refine blockL_y rfl ?_ | refine awp_seq ?_ | refine awp_block ?_ | refine awp_ret ?_ | refine awp_exit ?_ | refine awp_skip ?_ | exact absurd hcond (by decide) | (refine awp_txt ?_; refine runs_to [] (by simp only [go_sem, hlz]; rfl) ?_) | (refine awp_draw mixed ?_; refine runs_to [] (by simp only [go_sem, hlz]; rfl) ?_) | refine runD_nil ⟨by kernel_rfl, ?_⟩ | refine runD_nil ?_ | (refine awp_cond (b := _) (by simp only [go_sem, evB, hlz]; rfl) (fun hcond => ?_) (fun hcond => ?_))))
  refine awp_loop (fun i : Nat => [(.slot 0, sT (vvInts (v :: vs))), (.slot 4, sI i)]) (fun i => i ≤ (v :: vs).length) (fun i => (v :: vs).length - i) 0 (Nat.zero_le _) (by refine Imp.of_in ?_; simp only [go_sem]) ?_
  intro i hi
  by_cases hlt : (i : Int) < ((vs.length + 1 : Nat) : Int)
  · have hl : i < (v :: vs).length := by simp; omega
    have hx := hget i hl
    obtain ⟨hne, hok⟩ := hall _ (List.getElem_mem hl)
    generalize (v :: vs)[i] = w at hx hne hok
    have hwl : w.length ≤ 4611686018427387903 := by omega
    have hw := up i (by simp at hl; omega)
    have hne2 : (((w.length : Nat) : Int) != (v.length : Nat)) = false := by rw [hne]; simp
    (repeat' (first | refine thenL_n ?_ | refine thenL_r ?_ | refine thenL_x ?_ | refine blockL_n ?_ | refine blockL_r ?_ | refine blockL_x ?_ | refine blockL_y rfl ?_ | refine awp_seq ?_ | refine awp_block ?_ | refine awp_ret ?_ | refine awp_exit ?_ | refine awp_skip ?_ | exact absurd hcond (by decide) | (refine awp_txt ?_; refine runs_to [] (by simp only [go_sem, hlt, hx, hw, hok, hne2]; rfl) ?_) | (refine awp_draw mixed ?_; refine runs_to [] (by simp only [go_sem, hlt, hx, hw, hok, hne2]; rfl) ?_) | refine runD_nil ⟨by kernel_rfl, ?_⟩ | refine runD_nil ?_ | (refine runD_call (c34 _ hwl) cb34 (by rfl) (by simp only [go_sem, hlt, hx, hw, hok, hne2]; rfl) (by ((repeat' (first | exact All2.nil | refine All2.cons ?_ ?_ | exact SubV.one (SubT.same _) | exact SubV.one (SubT.nil _) | refine SubV.agg ?_ | exact SubT.same _ | exact SubT.nil _)); first | done | fail)) ?_; refine runs_to [] (by simp only [go_sem, hlt, hx, hw, hok, hne2]; rfl) ?_) | (refine awp_cond (b := _) (by simp only [go_sem, evB, hlt, hx, hw, hok, hne2]; rfl) (fun hcond => ?_) (fun hcond => ?_))))
    refine ⟨i + 1, by omega, by omega, (by refine Imp.of_in ?_; simp only [go_sem])⟩
  · (repeat' (first | refine thenL_n ?_ | refine thenL_r ?_ | refine thenL_x ?_ | refine blockL_n ?_ | refine blockL_r ?_ | refine blockL_x ?_ | refine blockL_y rfl ?_ | refine awp_seq ?_ | refine awp_block ?_ | refine awp_ret ?_ | refine awp_exit ?_ | refine awp_skip ?_ | exact absurd hcond (by decide) | (refine awp_txt ?_; refine runs_to [] (by simp only [go_sem, hlt, h0, hl1, hl2]; rfl) ?_) | (refine awp_draw mixed ?_; refine runs_to [] (by simp only [go_sem, hlt, h0, hl1, hl2]; rfl) ?_) | refine runD_nil ⟨by kernel_rfl, ?_⟩ | refine runD_nil ?_ | (refine awp_cond (b := _) (by simp only [go_sem, evB, hlt, h0, hl1, hl2]; rfl) (fun hcond => ?_) (fun hcond => ?_))))
    refine awp_loop (fun i : Nat => [(.slot 0, sT (vvInts (v :: vs))), (.slot 5, sR 38), (.vec 38, rV 3 (mxz v.length ((v :: vs).take i))), (.slot 6, sI i)]) (fun i => i ≤ (v :: vs).length) (fun i => (v :: vs).length - i) 0 (Nat.zero_le _) (by refine Imp.of_in ?_; simp only [go_sem, hrep]) ?_
    intro i hi
    have hml : (mxz v.length ((v :: vs).take i)).length = v.length := mxz_length _ _ fun w hw => (hall w (List.mem_of_mem_take hw)).1
    by_cases hlt : (i : Int) < ((vs.length + 1 : Nat) : Int)
    · have hl : i < (v :: vs).length := by simp; omega
      have hx := hget i hl
      obtain ⟨hne, hok⟩ := hall _ (List.getElem_mem hl)
      have hfin : mxL (mxz v.length ((v :: vs).take i)) (v :: vs)[i] = mxz v.length ((v :: vs).take (i + 1)) := by
        rw [mxz, mxz, List.take_succ_eq_append_getElem hl, List.foldl_append]; rfl
      generalize (v :: vs)[i] = w at hx hne hok hfin
      generalize mxz v.length ((v :: vs).take i) = z at hml hfin
      have hw := up i (by simp at hl; omega)
      (repeat' (first | refine thenL_n ?_ | refine thenL_r ?_ | refine thenL_x ?_ | refine blockL_n ?_ | refine blockL_r ?_ | refine blockL_x ?_ | refine blockL_y rfl ?_ | refine awp_seq ?_ | refine awp_block ?_ | refine awp_ret ?_ | refine awp_exit ?_ | refine awp_skip ?_ | exact absurd hcond (by decide) | (refine awp_txt ?_; refine runs_to [] (by simp only [go_sem, hlt, hx, hw]; rfl) ?_) | (refine awp_draw mixed ?_; refine runs_to [] (by simp only [go_sem, hlt, hx, hw]; rfl) ?_) | refine runD_nil ⟨by kernel_rfl, ?_⟩ | refine runD_nil ?_ | (refine awp_cond (b := _) (by simp only [go_sem, evB, hlt, hx, hw]; rfl) (fun hcond => ?_) (fun hcond => ?_))))
      refine awp_loop (fun k : Nat => [(.slot 0, sT (vvInts (v :: vs))), (.slot 5, sR 38), (.vec 38, rV 3 (mxk k z w)), (.slot 6, sI i), (.slot 7, sI k)]) (fun k => k ≤ v.length) (fun k => v.length - k) 0 (Nat.zero_le _) (by refine Imp.of_in ?_; simp only [go_sem, mxk_zero]) ?_
      intro k hk
      have hzl := mxk_length k z w (by omega)
      by_cases hlt2 : (k : Int) < v.length
      · have hx2 : w[k]? = some (w[k]'(by omega)) := List.getElem?_eq_getElem (by omega)
        have hz : (mxk k z w)[k]? = some (z[k]'(by omega)) := by
          rw [mxk_get _ _ _ (by omega) (by omega)]; exact List.getElem?_eq_getElem (by omega)
        have hkl : k < v.length := by omega
        have hset := mxk_succ k z w (by omega) (by omega)
        have hw2 := up k (by omega)
        by_cases hgt : (z[k]'(by omega)) < (w[k]'(by omega))
        · have hset2 : (List.map (fun n => [T.lit (.int .i64 n)]) (mxk k z w)).set k [T.lit (.int .i64 (w[k]'(by omega)))] = List.map (fun n => [T.lit (.int .i64 n)]) (mxk (k + 1) z w) := by
            rw [hset, List.map_set, mx2, if_pos hgt]
          (repeat' (first | refine thenL_n ?_ | refine thenL_r ?_ | refine thenL_x ?_ | refine blockL_n ?_ | refine blockL_r ?_ | refine blockL_x ?_ | refine blockL_y rfl ?_ | refine awp_seq ?_ | refine awp_block ?_ | refine awp_ret ?_ | refine awp_exit ?_ | refine awp_skip ?_ | exact absurd hcond (by decide) | (refine awp_txt ?_; refine runs_to [] (by simp only [go_sem, hlt, hx, hlt2, hx2, hz, hzl, hml, hkl, hset2, hw2, hgt]; rfl) ?_) | (refine awp_draw mixed ?_; refine runs_to [] (by simp only [go_sem, hlt, hx, hlt2, hx2, hz, hzl, hml, hkl, hset2, hw2, hgt]; rfl) ?_) | refine runD_nil ⟨by kernel_rfl, ?_⟩ | refine runD_nil ?_ | (refine awp_cond (b := _) (by simp only [go_sem, evB, hlt, hx, hlt2, hx2, hz, hzl, hml, hkl, hset2, hw2, hgt]; rfl) (fun hcond => ?_) (fun hcond => ?_))))
          refine ⟨k + 1, by omega, by omega, (by refine Imp.of_in ?_; simp only [go_sem])⟩
        · have hset2 : mxk (k + 1) z w = mxk k z w := by
            rw [hset, mx2, if_neg hgt]
            have : (mxk k z w)[k]'(by omega) = (z[k]'(by omega)) := by
              have := hz; rw [List.getElem?_eq_getElem (by omega)] at this; injection this
            rw [← this]; exact List.set_getElem_self _
          (repeat' (first | refine thenL_n ?_ | refine thenL_r ?_ | refine thenL_x ?_ | refine blockL_n ?_ | refine blockL_r ?_ | refine blockL_x ?_ | refine blockL_y rfl ?_ | refine awp_seq ?_ | refine awp_block ?_ | refine awp_ret ?_ | refine awp_exit ?_ | refine awp_skip ?_ | exact absurd hcond (by decide) | (refine awp_txt ?_; refine runs_to [] (by simp only [go_sem, hlt, hx, hlt2, hx2, hz, hzl, hml, hkl, hw2, hgt]; rfl) ?_) | (refine awp_draw mixed ?_; refine runs_to [] (by simp only [go_sem, hlt, hx, hlt2, hx2, hz, hzl, hml, hkl, hw2, hgt]; rfl) ?_) | refine runD_nil ⟨by kernel_rfl, ?_⟩ | refine runD_nil ?_ | (refine awp_cond (b := _) (by simp only [go_sem, evB, hlt, hx, hlt2, hx2, hz, hzl, hml, hkl, hw2, hgt]; rfl) (fun hcond => ?_) (fun hcond => ?_))))
          refine ⟨k + 1, by omega, by omega, (by refine Imp.of_in ?_; simp only [go_sem, hset2])⟩
      · have hkk : k = w.length := by omega
        have hfin2 : mxk k z w = mxz v.length ((v :: vs).take (i + 1)) := by
          rw [hkk, mxk_all _ _ (by omega), hfin]
        (repeat' (first | refine thenL_n ?_ | refine thenL_r ?_ | refine thenL_x ?_ | refine blockL_n ?_ | refine blockL_r ?_ | refine blockL_x ?_ | refine blockL_y rfl ?_ | refine awp_seq ?_ | refine awp_block ?_ | refine awp_ret ?_ | refine awp_exit ?_ | refine awp_skip ?_ | exact absurd hcond (by decide) | (refine awp_txt ?_; refine runs_to [] (by simp only [go_sem, hlt2, hzl, hml, hw]; rfl) ?_) | (refine awp_draw mixed ?_; refine runs_to [] (by simp only [go_sem, hlt2, hzl, hml, hw]; rfl) ?_) | refine runD_nil ⟨by kernel_rfl, ?_⟩ | refine runD_nil ?_ | (refine awp_cond (b := _) (by simp only [go_sem, evB, hlt2, hzl, hml, hw]; rfl) (fun hcond => ?_) (fun hcond => ?_))))
        refine ⟨i + 1, by omega, by omega, (by refine Imp.of_in ?_; simp only [go_sem, hfin2])⟩
    · have hii : i = (v :: vs).length := by simp at hi ⊢; omega
      have hfin : mxz v.length ((v :: vs).take i) = joinV (v :: vs) := by rw [hii, List.take_length, joinV_mxz v vs hj2.1]
      rw [hfin]
      ((repeat' (first | refine thenL_n ?_ | refine thenL_r ?_ | refine thenL_x ?_ | refine blockL_n ?_ | refine blockL_r ?_ | refine blockL_x ?_ | refine blockL_y rfl ?_ | refine awp_seq ?_ | refine awp_block ?_ | refine awp_ret ?_ | refine awp_exit ?_ | refine awp_skip ?_ | exact absurd hcond (by decide) | (refine awp_txt ?_; refine runs_to [] (by simp only [go_sem, hlt]; rfl) ?_) | (refine awp_draw mixed ?_; refine runs_to [] (by simp only [go_sem, hlt]; rfl) ?_) | refine runD_nil ⟨by kernel_rfl, ?_⟩ | refine runD_nil ?_ | (refine awp_cond (b := _) (by simp only [go_sem, evB, hlt]; rfl) (fun hcond => ?_) (fun hcond => ?_)))); all_goals (refine leaves_ok (by first | exact Or.inl rfl | exact Or.inr rfl) (by simp only [go_sem, resAll, resL, packL, vecsOf, freezeAll, freezeL, hlt]; rfl) ?_; (first | refine SubR.v ?_ | refine SubR.tup ?_); ((repeat' (first | exact All2.nil | refine All2.cons ?_ ?_ | exact SubV.one (SubT.same _) | exact SubV.one (SubT.nil _) | refine SubV.agg ?_ | exact SubT.same _ | exact SubT.nil _)); first | done | fail)))
end Go.Proofs.Ytbohgpdpglfepaa
