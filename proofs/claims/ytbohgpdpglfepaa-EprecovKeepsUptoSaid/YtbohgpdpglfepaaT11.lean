import Derived.Test.YtbohgpdpglfepaaT6
set_option maxHeartbeats 4000000
set_option maxRecDepth 10000
set_option linter.unusedVariables false
set_option linter.unusedSimpArgs false
namespace Go.Proofs.Ytbohgpdpglfepaa
open Go.AM Go.RowKit
attribute [local irreducible] AWP thenL blockL AM.Leaves LeavesO RunD
attribute [local go_sem] runs stepR actF inF frzA frzW lastW act act1 actPick actNil actBin
  actUn actConv actExtract actFieldAddr actField actAlloc keysOf actBox actLoad treesOf actStore actIndex
  actLen actMx srcL actAppend actMake actBuild actBuildSlice boundL actSlice actCall actEqS isStruct
  isSlice actText actCopy litsOf kindsOK fieldsPlain eqAll eqop dstB dstN boolS litB
  litV sv binv unv lits takeC cellsR trees cellsW mxv repl parts
  fillAt fillRows V1.cs mkV ev evr AM.look put del applyL delD wrD
  undefS SV.to V1.to At.to keysL notIn freshKey PV.up PR.up entry entryV evp
  isAt actPtrNil capsL actFunc sameV sameVs pureCtx doc mkVar AM.Loc.key Cont.keys SV.keys
  V1.keys At.keys Cont.sub SV.sub V1.sub At.sub guardR argsL callR Nat.blt_eq Nat.blt Nat.ble
  Nat.beq_eq_true_eq beq_self_eq_true Array.toList List.map List.append_eq List.nil_append List.cons_append List.append_nil List.append_assoc Bool.and_eq_true decide_true decide_false
  decide_eq_true_eq Bool.not_true Bool.not_false reduceCtorEq if_true if_false ite_true ite_false reduceIte AM.Loc.slot.injEq AM.Loc.cell.injEq AM.Loc.vec.injEq
  List.getElem?_cons_zero List.getElem?_cons_succ List.getElem?_nil Option.map_some Option.map_none Option.toList List.flatMap_nil List.flatMap_cons Bool.and_true Bool.true_and Bool.and_false Bool.false_and
  Bool.true_eq_false Bool.false_eq_true Nat.reduceBEq Nat.reduceEqDiff bool_beq_tt bool_beq_ff bool_beq_tf bool_beq_ft List.length_cons List.length_nil List.drop List.take
  List.drop_zero List.take_zero List.all_cons List.all_nil Value.oneCell' Nat.zero_add Nat.reduceAdd Nat.reduceMul Nat.reduceSub Nat.reduceLT Nat.reduceLeDiff Int.reduceLT
  Int.reduceLE Int.reduceEq Int.reduceBEq Int.reduceBNe Int.reduceAdd Int.reduceSub Int.reduceMul Int.reduceNeg Int.reduceToNat Nat.succ_ne_zero List.replicate and_true
  true_and and_false false_and and_self ge_iff_le gt_iff_lt bne_self_eq_false List.zip_cons_cons List.zip_nil_left List.zip List.zipWith Int.natCast_nonneg
  Int.toNat_natCast List.getElem?_map List.length_map sT sI sB sR sP rV AllIn Int.toNat_zero Int.ofNat_zero
  Int.natCast_zero Nat.le_refl List.mapM_cons List.mapM_nil Option.bind_eq_bind Option.bind_some Option.pure_def List.set_cons_zero List.set_cons_succ List.length_set tt2 tt3
  tt4 tt5 tt9 tt12 tt21 tt22 tt23 tt24 tt25 tt36 tt37 tt43
  tt44 tt51 tt52 tt53 tt59 tt67 tt68 tt69 tt74 tt75 tt76 tt77
  tt78 tt79 tt89 tt92 tt95 tt96 tt97 tt98 tt99 tt102 tt103 tt106
  tt107 tt108 tt114 tt115 tt116 tt117 tt118 tt119 tt120 tt122 tt124 tt125
  tt126 tt127 tt130 tt131 tt132 tt133 tt134 tt135 tt137 tt138 tt139 tt147
  tt148 tt149 tt159 tt164 tt165 tt167 tt168 tt169 tt170 tt171 tt190 tt191
  tt194 tt200 tt208 tt212
attribute [local go_sem] vlit bal rInt rBool vInts pInts vvInts

theorem c30 (a b : List Int) (ha : a.length ≤ 4611686018427387903) : Pure Try.prog 30 [pInts a, pInts b] (rBool (decide (a = b))) := by
  by_cases hl : a.length = b.length
  · have hne : (((a.length : Nat) : Int) != (b.length : Nat)) = false := by rw [hl]; simp
    refine pure_of_body Try.func30 rfl (by simp [Try.f30]) ?_; rw [Try.ntmps30, Try.results30]; intro w0 G0
    (repeat' (first | refine thenL_n ?_ | refine thenL_r ?_ | refine thenL_x ?_ | refine blockL_n ?_ | refine blockL_r ?_ | refine blockL_x ?_ | refine blockL_y rfl ?_ | refine awp_seq ?_ | refine awp_block ?_ | refine awp_ret ?_ | refine awp_exit ?_ | refine awp_skip ?_ | exact absurd hcond (by decide) | (refine awp_txt ?_; refine runs_to [] (by simp only [go_sem, hne]; rfl) ?_) | (refine awp_draw mixed ?_; refine runs_to [] (by simp only [go_sem, hne]; rfl) ?_) | refine runD_nil ⟨by kernel_rfl, ?_⟩ | refine runD_nil ?_ | (refine awp_cond (b := _) (by simp only [go_sem, evB, hne]; rfl) (fun hcond => ?_) (fun hcond => ?_))))
    refine awp_loop (fun i : Nat => [(.slot 0, sT (vInts a)), (.slot 1, sT (vInts b)), (.slot 5, sI i)]) (fun i => i ≤ a.length ∧ ∀ k, k < i → a[k]? = b[k]?) (fun i => a.length - i) 0 ⟨Nat.zero_le _, by omega⟩ (by refine Imp.of_in ?_; simp only [go_sem]) ?_
    intro i hia
    obtain ⟨hi, hall⟩ := hia
    by_cases hlt : (i : Int) < a.length
    · have hx : a[i]? = some a[i] := List.getElem?_eq_getElem (by omega)
      have hy : b[i]? = some (b[i]'(by omega)) := List.getElem?_eq_getElem (by omega)
      have hw := up i (by omega)
      by_cases he : (a[i] != (b[i]'(by omega))) = true
      · have hd : decide (a = b) = false := by
          simp only [decide_eq_false_iff_not]
          intro h
          subst h
          simp at he
        rw [hd]
        ((repeat' (first | refine thenL_n ?_ | refine thenL_r ?_ | refine thenL_x ?_ | refine blockL_n ?_ | refine blockL_r ?_ | refine blockL_x ?_ | refine blockL_y rfl ?_ | refine awp_seq ?_ | refine awp_block ?_ | refine awp_ret ?_ | refine awp_exit ?_ | refine awp_skip ?_ | exact absurd hcond (by decide) | (refine awp_txt ?_; refine runs_to [] (by simp only [go_sem, hlt, hx, hy, he]; rfl) ?_) | (refine awp_draw mixed ?_; refine runs_to [] (by simp only [go_sem, hlt, hx, hy, he]; rfl) ?_) | refine runD_nil ⟨by kernel_rfl, ?_⟩ | refine runD_nil ?_ | (refine awp_cond (b := _) (by simp only [go_sem, evB, hlt, hx, hy, he]; rfl) (fun hcond => ?_) (fun hcond => ?_)))); all_goals (refine leaves_ok (by first | exact Or.inl rfl | exact Or.inr rfl) (by simp only [go_sem, resAll, resL, packL, vecsOf, freezeAll, freezeL, hlt, hx, hy, he]; rfl) ?_; (first | refine SubR.v ?_ | refine SubR.tup ?_); ((repeat' (first | exact All2.nil | refine All2.cons ?_ ?_ | exact SubV.one (SubT.same _) | exact SubV.one (SubT.nil _) | refine SubV.agg ?_ | exact SubT.same _ | exact SubT.nil _)); first | done | fail)))
      · have he : (a[i] != (b[i]'(by omega))) = false := by simpa using he
        (repeat' (first | refine thenL_n ?_ | refine thenL_r ?_ | refine thenL_x ?_ | refine blockL_n ?_ | refine blockL_r ?_ | refine blockL_x ?_ | refine blockL_y rfl ?_ | refine awp_seq ?_ | refine awp_block ?_ | refine awp_ret ?_ | refine awp_exit ?_ | refine awp_skip ?_ | exact absurd hcond (by decide) | (refine awp_txt ?_; refine runs_to [] (by simp only [go_sem, hlt, hx, hy, he, hw]; rfl) ?_) | (refine awp_draw mixed ?_; refine runs_to [] (by simp only [go_sem, hlt, hx, hy, he, hw]; rfl) ?_) | refine runD_nil ⟨by kernel_rfl, ?_⟩ | refine runD_nil ?_ | (refine awp_cond (b := _) (by simp only [go_sem, evB, hlt, hx, hy, he, hw]; rfl) (fun hcond => ?_) (fun hcond => ?_))))
        refine ⟨i + 1, ⟨by omega, fun k hk => ?_⟩, by omega, (by refine Imp.of_in ?_; simp only [go_sem])⟩
        by_cases hki : k = i
        · subst hki; rw [hx, hy]; simpa using he
        · exact hall k (by omega)
    · have hd : decide (a = b) = true := by
        simp only [decide_eq_true_eq]
        apply List.ext_getElem?
        intro k
        by_cases hk : k < i
        · exact hall k hk
        · rw [List.getElem?_eq_none (by omega), List.getElem?_eq_none (by omega)]
      rw [hd]
      ((repeat' (first | refine thenL_n ?_ | refine thenL_r ?_ | refine thenL_x ?_ | refine blockL_n ?_ | refine blockL_r ?_ | refine blockL_x ?_ | refine blockL_y rfl ?_ | refine awp_seq ?_ | refine awp_block ?_ | refine awp_ret ?_ | refine awp_exit ?_ | refine awp_skip ?_ | exact absurd hcond (by decide) | (refine awp_txt ?_; refine runs_to [] (by simp only [go_sem, hlt]; rfl) ?_) | (refine awp_draw mixed ?_; refine runs_to [] (by simp only [go_sem, hlt]; rfl) ?_) | refine runD_nil ⟨by kernel_rfl, ?_⟩ | refine runD_nil ?_ | (refine awp_cond (b := _) (by simp only [go_sem, evB, hlt]; rfl) (fun hcond => ?_) (fun hcond => ?_)))); all_goals (refine leaves_ok (by first | exact Or.inl rfl | exact Or.inr rfl) (by simp only [go_sem, resAll, resL, packL, vecsOf, freezeAll, freezeL, hlt]; rfl) ?_; (first | refine SubR.v ?_ | refine SubR.tup ?_); ((repeat' (first | exact All2.nil | refine All2.cons ?_ ?_ | exact SubV.one (SubT.same _) | exact SubV.one (SubT.nil _) | refine SubV.agg ?_ | exact SubT.same _ | exact SubT.nil _)); first | done | fail)))
  · have hne : (((a.length : Nat) : Int) != (b.length : Nat)) = true := by simp; omega
    have hd : decide (a = b) = false := by
      simp only [decide_eq_false_iff_not]
      intro h; exact hl (by rw [h])
    rw [hd]
    refine pure_of_body Try.func30 rfl (by simp [Try.f30]) ?_; rw [Try.ntmps30, Try.results30]; intro w0 G0
    ((repeat' (first | refine thenL_n ?_ | refine thenL_r ?_ | refine thenL_x ?_ | refine blockL_n ?_ | refine blockL_r ?_ | refine blockL_x ?_ | refine blockL_y rfl ?_ | refine awp_seq ?_ | refine awp_block ?_ | refine awp_ret ?_ | refine awp_exit ?_ | refine awp_skip ?_ | exact absurd hcond (by decide) | (refine awp_txt ?_; refine runs_to [] (by simp only [go_sem, hne]; rfl) ?_) | (refine awp_draw mixed ?_; refine runs_to [] (by simp only [go_sem, hne]; rfl) ?_) | refine runD_nil ⟨by kernel_rfl, ?_⟩ | refine runD_nil ?_ | (refine awp_cond (b := _) (by simp only [go_sem, evB, hne]; rfl) (fun hcond => ?_) (fun hcond => ?_)))); all_goals (refine leaves_ok (by first | exact Or.inl rfl | exact Or.inr rfl) (by simp only [go_sem, resAll, resL, packL, vecsOf, freezeAll, freezeL, hne]; rfl) ?_; (first | refine SubR.v ?_ | refine SubR.tup ?_); ((repeat' (first | exact All2.nil | refine All2.cons ?_ ?_ | exact SubV.one (SubT.same _) | exact SubV.one (SubT.nil _) | refine SubV.agg ?_ | exact SubT.same _ | exact SubT.nil _)); first | done | fail)))

def leqL (a b : List Int) : Bool := (a.zip b).all fun p => decide (p.1 ≤ p.2)
def leqV (a b : List Int) : Bool := decide (a.length = b.length) && vecOK a && vecOK b && leqL a b

theorem leqL_iff (a b : List Int) (h : a.length = b.length) : leqL a b = true ↔ ∀ (k : Nat) x y, a[k]? = some x → b[k]? = some y → x ≤ y := by
  simp only [leqL, List.all_eq_true, decide_eq_true_eq]
  constructor
  · intro hh k x y hx hy
    exact hh (x, y) (List.mem_iff_getElem?.2 ⟨k, by rw [List.getElem?_zip_eq_some]; exact ⟨hx, hy⟩⟩)
  · intro hh p hp
    obtain ⟨k, hk⟩ := List.mem_iff_getElem?.1 hp
    rw [List.getElem?_zip_eq_some] at hk
    exact hh k _ _ hk.1 hk.2

theorem c31 (a b : List Int) : Pure Try.prog 31 [pInts a, pInts b] (rBool (leqV a b)) := by
  by_cases hl : a.length = b.length
  · have hne : (((a.length : Nat) : Int) != (b.length : Nat)) = false := by rw [hl]; simp
    by_cases ha : vecOK a = true
    · by_cases hb : vecOK b = true
      · have ha2 := ha
        simp only [vecOK, Bool.and_eq_true, decide_eq_true_eq] at ha2
        have hv : leqV a b = leqL a b := by simp [leqV, hl, ha, hb]
        rw [hv]
        refine pure_of_body Try.func31 rfl (by simp [Try.f31]) ?_; rw [Try.ntmps31, Try.results31]; intro w0 G0
        (repeat' (first | refine thenL_n ?_ | refine thenL_r ?_ | refine thenL_x ?_ | refine blockL_n ?_ | refine blockL_r ?_ | refine blockL_x ?_ | refine blockL_y rfl ?_ | refine awp_seq ?_ | refine awp_block ?_ | refine awp_ret ?_ | refine awp_exit ?_ | refine awp_skip ?_ | exact absurd hcond (by decide) | (refine awp_txt ?_; refine runs_to [] (by simp only [go_sem, hne, ha, hb]; rfl) ?_) | (refine awp_draw mixed ?_; refine runs_to [] (by simp only [go_sem, hne, ha, hb]; rfl) ?_) | refine runD_nil ⟨by kernel_rfl, ?_⟩ | refine runD_nil ?_ | (refine runD_call (c29 _) cb29 (by rfl) (by simp only [go_sem, hne, ha, hb]; rfl) (by ((repeat' (first | exact All2.nil | refine All2.cons ?_ ?_ | exact SubV.one (SubT.same _) | exact SubV.one (SubT.nil _) | refine SubV.agg ?_ | exact SubT.same _ | exact SubT.nil _)); first | done | fail)) ?_; refine runs_to [] (by simp only [go_sem, hne, ha, hb]; rfl) ?_) | (refine awp_cond (b := _) (by simp only [go_sem, evB, hne, ha, hb]; rfl) (fun hcond => ?_) (fun hcond => ?_))))
        refine awp_loop (fun i : Nat => [(.slot 1, sT (vInts b)), (.slot 22, sT (vInts a)), (.slot 23, sI a.length), (.slot 24, sI i)]) (fun i => i ≤ a.length ∧ ∀ (k : Nat) x y, k < i → a[k]? = some x → b[k]? = some y → x ≤ y) (fun i => a.length - i) 0 ⟨Nat.zero_le _, by omega⟩ (by refine Imp.of_in ?_; simp only [go_sem]) ?_
        intro i hia
        obtain ⟨hi, hall⟩ := hia
        by_cases hlt : (i : Int) < a.length
        · have hx : a[i]? = some a[i] := List.getElem?_eq_getElem (by omega)
          have hy : b[i]? = some (b[i]'(by omega)) := List.getElem?_eq_getElem (by omega)
          have hw := up i (by omega)
          by_cases he : (b[i]'(by omega)) < a[i]
          · have hd : leqL a b = false := by
              by_cases h : leqL a b = true
              · have := (leqL_iff a b hl).1 h i _ _ hx hy
                omega
              · simpa using h
            rw [hd]
            ((repeat' (first | refine thenL_n ?_ | refine thenL_r ?_ | refine thenL_x ?_ | refine blockL_n ?_ | refine blockL_r ?_ | refine blockL_x ?_ | refine blockL_y rfl ?_ | refine awp_seq ?_ | refine awp_block ?_ | refine awp_ret ?_ | refine awp_exit ?_ | refine awp_skip ?_ | exact absurd hcond (by decide) | (refine awp_txt ?_; refine runs_to [] (by simp only [go_sem, hlt, hx, hy, he]; rfl) ?_) | (refine awp_draw mixed ?_; refine runs_to [] (by simp only [go_sem, hlt, hx, hy, he]; rfl) ?_) | refine runD_nil ⟨by kernel_rfl, ?_⟩ | refine runD_nil ?_ | (refine awp_cond (b := _) (by simp only [go_sem, evB, hlt, hx, hy, he]; rfl) (fun hcond => ?_) (fun hcond => ?_)))); all_goals (refine leaves_ok (by first | exact Or.inl rfl | exact Or.inr rfl) (by simp only [go_sem, resAll, resL, packL, vecsOf, freezeAll, freezeL, hlt, hx, hy, he]; rfl) ?_; (first | refine SubR.v ?_ | refine SubR.tup ?_); ((repeat' (first | exact All2.nil | refine All2.cons ?_ ?_ | exact SubV.one (SubT.same _) | exact SubV.one (SubT.nil _) | refine SubV.agg ?_ | exact SubT.same _ | exact SubT.nil _)); first | done | fail)))
          · (repeat' (first | refine thenL_n ?_ | refine thenL_r ?_ | refine thenL_x ?_ | refine blockL_n ?_ | refine blockL_r ?_ | refine blockL_x ?_ | refine blockL_y rfl ?_ | refine awp_seq ?_ | refine awp_block ?_ | refine awp_ret ?_ | refine awp_exit ?_ | refine awp_skip ?_ | exact absurd hcond (by decide) | (refine awp_txt ?_; refine runs_to [] (by simp only [go_sem, hlt, hx, hy, he, hw]; rfl) ?_) | (refine awp_draw mixed ?_; refine runs_to [] (by simp only [go_sem, hlt, hx, hy, he, hw]; rfl) ?_) | refine runD_nil ⟨by kernel_rfl, ?_⟩ | refine runD_nil ?_ | (refine awp_cond (b := _) (by simp only [go_sem, evB, hlt, hx, hy, he, hw]; rfl) (fun hcond => ?_) (fun hcond => ?_))))
            refine ⟨i + 1, ⟨by omega, fun k x y hk h1 h2 => ?_⟩, by omega, (by refine Imp.of_in ?_; simp only [go_sem])⟩
            by_cases hki : k = i
            · subst hki; rw [hx] at h1; rw [hy] at h2; injection h1 with h1; injection h2 with h2; omega
            · exact hall k x y (by omega) h1 h2
        · have hd : leqL a b = true := (leqL_iff a b hl).2 fun k x y h1 h2 => hall k x y (by have := (List.getElem?_eq_some_iff.1 h1).1; omega) h1 h2
          rw [hd]
          ((repeat' (first | refine thenL_n ?_ | refine thenL_r ?_ | refine thenL_x ?_ | refine blockL_n ?_ | refine blockL_r ?_ | refine blockL_x ?_ | refine blockL_y rfl ?_ | refine awp_seq ?_ | refine awp_block ?_ | refine awp_ret ?_ | refine awp_exit ?_ | refine awp_skip ?_ | exact absurd hcond (by decide) | (refine awp_txt ?_; refine runs_to [] (by simp only [go_sem, hlt]; rfl) ?_) | (refine awp_draw mixed ?_; refine runs_to [] (by simp only [go_sem, hlt]; rfl) ?_) | refine runD_nil ⟨by kernel_rfl, ?_⟩ | refine runD_nil ?_ | (refine awp_cond (b := _) (by simp only [go_sem, evB, hlt]; rfl) (fun hcond => ?_) (fun hcond => ?_)))); all_goals (refine leaves_ok (by first | exact Or.inl rfl | exact Or.inr rfl) (by simp only [go_sem, resAll, resL, packL, vecsOf, freezeAll, freezeL, hlt]; rfl) ?_; (first | refine SubR.v ?_ | refine SubR.tup ?_); ((repeat' (first | exact All2.nil | refine All2.cons ?_ ?_ | exact SubV.one (SubT.same _) | exact SubV.one (SubT.nil _) | refine SubV.agg ?_ | exact SubT.same _ | exact SubT.nil _)); first | done | fail)))
      · have hb : vecOK b = false := by simpa using hb
        have hv : leqV a b = false := by simp [leqV, hb]
        rw [hv]
        refine pure_of_body Try.func31 rfl (by simp [Try.f31]) ?_; rw [Try.ntmps31, Try.results31]; intro w0 G0
        ((repeat' (first | refine thenL_n ?_ | refine thenL_r ?_ | refine thenL_x ?_ | refine blockL_n ?_ | refine blockL_r ?_ | refine blockL_x ?_ | refine blockL_y rfl ?_ | refine awp_seq ?_ | refine awp_block ?_ | refine awp_ret ?_ | refine awp_exit ?_ | refine awp_skip ?_ | exact absurd hcond (by decide) | (refine awp_txt ?_; refine runs_to [] (by simp only [go_sem, hne, ha, hb]; rfl) ?_) | (refine awp_draw mixed ?_; refine runs_to [] (by simp only [go_sem, hne, ha, hb]; rfl) ?_) | refine runD_nil ⟨by kernel_rfl, ?_⟩ | refine runD_nil ?_ | (refine runD_call (c29 _) cb29 (by rfl) (by simp only [go_sem, hne, ha, hb]; rfl) (by ((repeat' (first | exact All2.nil | refine All2.cons ?_ ?_ | exact SubV.one (SubT.same _) | exact SubV.one (SubT.nil _) | refine SubV.agg ?_ | exact SubT.same _ | exact SubT.nil _)); first | done | fail)) ?_; refine runs_to [] (by simp only [go_sem, hne, ha, hb]; rfl) ?_) | (refine awp_cond (b := _) (by simp only [go_sem, evB, hne, ha, hb]; rfl) (fun hcond => ?_) (fun hcond => ?_)))); all_goals (refine leaves_ok (by first | exact Or.inl rfl | exact Or.inr rfl) (by simp only [go_sem, resAll, resL, packL, vecsOf, freezeAll, freezeL, hne, ha, hb]; rfl) ?_; (first | refine SubR.v ?_ | refine SubR.tup ?_); ((repeat' (first | exact All2.nil | refine All2.cons ?_ ?_ | exact SubV.one (SubT.same _) | exact SubV.one (SubT.nil _) | refine SubV.agg ?_ | exact SubT.same _ | exact SubT.nil _)); first | done | fail)))
    · have ha : vecOK a = false := by simpa using ha
      have hv : leqV a b = false := by simp [leqV, ha]
      rw [hv]
      refine pure_of_body Try.func31 rfl (by simp [Try.f31]) ?_; rw [Try.ntmps31, Try.results31]; intro w0 G0
      ((repeat' (first | refine thenL_n ?_ | refine thenL_r ?_ | refine thenL_x ?_ | refine blockL_n ?_ | refine blockL_r ?_ | refine blockL_x ?_ | refine blockL_y rfl ?_ | refine awp_seq ?_ | refine awp_block ?_ | refine awp_ret ?_ | refine awp_exit ?_ | refine awp_skip ?_ | exact absurd hcond (by decide) | (refine awp_txt ?_; refine runs_to [] (by simp only [go_sem, hne, ha]; rfl) ?_) | (refine awp_draw mixed ?_; refine runs_to [] (by simp only [go_sem, hne, ha]; rfl) ?_) | refine runD_nil ⟨by kernel_rfl, ?_⟩ | refine runD_nil ?_ | (refine runD_call (c29 _) cb29 (by rfl) (by simp only [go_sem, hne, ha]; rfl) (by ((repeat' (first | exact All2.nil | refine All2.cons ?_ ?_ | exact SubV.one (SubT.same _) | exact SubV.one (SubT.nil _) | refine SubV.agg ?_ | exact SubT.same _ | exact SubT.nil _)); first | done | fail)) ?_; refine runs_to [] (by simp only [go_sem, hne, ha]; rfl) ?_) | (refine awp_cond (b := _) (by simp only [go_sem, evB, hne, ha]; rfl) (fun hcond => ?_) (fun hcond => ?_)))); all_goals (refine leaves_ok (by first | exact Or.inl rfl | exact Or.inr rfl) (by simp only [go_sem, resAll, resL, packL, vecsOf, freezeAll, freezeL, hne, ha]; rfl) ?_; (first | refine SubR.v ?_ | refine SubR.tup ?_); ((repeat' (first | exact All2.nil | refine All2.cons ?_ ?_ | exact SubV.one (SubT.same _) | exact SubV.one (SubT.nil _) | refine SubV.agg ?_ | exact SubT.same _ | exact SubT.nil _)); first | done | fail)))
  · have hne : (((a.length : Nat) : Int) != (b.length : Nat)) = true := by simp; omega
    have hv : leqV a b = false := by simp [leqV, hl]
    rw [hv]
    refine pure_of_body Try.func31 rfl (by simp [Try.f31]) ?_; rw [Try.ntmps31, Try.results31]; intro w0 G0
    ((repeat' (first | refine thenL_n ?_ | refine thenL_r ?_ | refine thenL_x ?_ | refine blockL_n ?_ | refine blockL_r ?_ | refine blockL_x ?_ | refine blockL_y rfl ?_ | refine awp_seq ?_ | refine awp_block ?_ | refine awp_ret ?_ | refine awp_exit ?_ | refine awp_skip ?_ | exact absurd hcond (by decide) | (refine awp_txt ?_; refine runs_to [] (by simp only [go_sem, hne]; rfl) ?_) | (refine awp_draw mixed ?_; refine runs_to [] (by simp only [go_sem, hne]; rfl) ?_) | refine runD_nil ⟨by kernel_rfl, ?_⟩ | refine runD_nil ?_ | (refine runD_call (c29 _) cb29 (by rfl) (by simp only [go_sem, hne]; rfl) (by ((repeat' (first | exact All2.nil | refine All2.cons ?_ ?_ | exact SubV.one (SubT.same _) | exact SubV.one (SubT.nil _) | refine SubV.agg ?_ | exact SubT.same _ | exact SubT.nil _)); first | done | fail)) ?_; refine runs_to [] (by simp only [go_sem, hne]; rfl) ?_) | (refine awp_cond (b := _) (by simp only [go_sem, evB, hne]; rfl) (fun hcond => ?_) (fun hcond => ?_)))); all_goals (refine leaves_ok (by first | exact Or.inl rfl | exact Or.inr rfl) (by simp only [go_sem, resAll, resL, packL, vecsOf, freezeAll, freezeL, hne]; rfl) ?_; (first | refine SubR.v ?_ | refine SubR.tup ?_); ((repeat' (first | exact All2.nil | refine All2.cons ?_ ?_ | exact SubV.one (SubT.same _) | exact SubV.one (SubT.nil _) | refine SubV.agg ?_ | exact SubT.same _ | exact SubT.nil _)); first | done | fail)))
end Go.Proofs.Ytbohgpdpglfepaa
