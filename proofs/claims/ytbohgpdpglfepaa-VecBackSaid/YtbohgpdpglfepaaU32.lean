import Derived.Test.YtbohgpdpglfepaaU31
set_option maxHeartbeats 4000000
set_option maxRecDepth 10000
set_option linter.unusedVariables false
set_option linter.unusedSimpArgs false
namespace Go.Proofs.Ytbohgpdpglfepaa
open Go.AM Go.RowKit
attribute [local irreducible] AWP thenL blockL AM.Leaves LeavesO RunD
attribute [local go_sem] runs stepR actF inF frzA frzW lastW act act1 actPick actNil actBin
  actUn actConv actExtract actFieldAddr actField actAlloc keysOf actBox actLoad treesOf actStore actIndex
  actLen actMx srcL actAppend actMake actBuild actBuildSlice boundL actSlice actCall actEqS isStruct
  isSlice actText actCopy litsOf kindsOK fieldsPlain eqAll eqop dstB dstN boolS litB
  litV sv binv unv lits takeC cellsR trees cellsW mxv repl parts
  fillAt fillRows V1.cs mkV ev evr AM.look put del applyL delD wrD
  undefS SV.to V1.to At.to keysL notIn freshKey PV.up PR.up entry entryV evp
  isAt actPtrNil capsL actFunc sameV sameVs pureCtx doc mkVar AM.Loc.key Cont.keys SV.keys
  V1.keys At.keys Cont.sub SV.sub V1.sub At.sub guardR argsL callR Nat.blt_eq Nat.blt Nat.ble
  Nat.beq_eq_true_eq beq_self_eq_true Array.toList List.map List.append_eq List.nil_append List.cons_append List.append_nil List.append_assoc Bool.and_eq_true decide_true decide_false
  decide_eq_true_eq Bool.not_true Bool.not_false reduceCtorEq if_true if_false ite_true ite_false reduceIte AM.Loc.slot.injEq AM.Loc.cell.injEq AM.Loc.vec.injEq
  List.getElem?_cons_zero List.getElem?_cons_succ List.getElem?_nil Option.map_some Option.map_none Option.toList List.flatMap_nil List.flatMap_cons Bool.and_true Bool.true_and Bool.and_false Bool.false_and
  Bool.true_eq_false Bool.false_eq_true Nat.reduceBEq Nat.reduceEqDiff bool_beq_tt bool_beq_ff bool_beq_tf bool_beq_ft List.length_cons List.length_nil List.drop List.take
  List.drop_zero List.take_zero List.all_cons List.all_nil Value.oneCell' Nat.zero_add Nat.reduceAdd Nat.reduceMul Nat.reduceSub Nat.reduceLT Nat.reduceLeDiff Int.reduceLT
  Int.reduceLE Int.reduceEq Int.reduceBEq Int.reduceBNe Int.reduceAdd Int.reduceSub Int.reduceMul Int.reduceNeg Int.reduceToNat Nat.succ_ne_zero List.replicate and_true
  true_and and_false false_and and_self ge_iff_le gt_iff_lt bne_self_eq_false List.zip_cons_cons List.zip_nil_left List.zip List.zipWith Int.natCast_nonneg
  Int.toNat_natCast List.getElem?_map List.length_map sT sI sB sR sP rV AllIn Int.toNat_zero Int.ofNat_zero
  Int.natCast_zero Nat.le_refl List.mapM_cons List.mapM_nil Option.bind_eq_bind Option.bind_some Option.pure_def List.set_cons_zero List.set_cons_succ List.length_set tt2 tt3
  tt4 tt5 tt9 tt12 tt21 tt22 tt23 tt24 tt25 tt36 tt37 tt43
  tt44 tt51 tt52 tt53 tt59 tt67 tt68 tt69 tt74 tt75 tt76 tt77
  tt78 tt79 tt89 tt92 tt95 tt96 tt97 tt98 tt99 tt102 tt103 tt106
  tt107 tt108 tt114 tt115 tt116 tt117 tt118 tt119 tt120 tt122 tt124 tt125
  tt126 tt127 tt130 tt131 tt132 tt133 tt134 tt135 tt137 tt138 tt139 tt147
  tt148 tt149 tt159 tt164 tt165 tt167 tt168 tt169 tt170 tt171 tt190 tt191
  tt194 tt200 tt208 tt212
attribute [local go_sem] vlit bal rInt rBool vInts pInts vvInts vBy vvBy lI lB byV

theorem rd_none {xs : List Int} (h : rdk 9 xs = none) : rd xs = (0, 0, if 9 ≤ xs.length then 13 else 12) := by rw [rd, h]
theorem rd_bad {xs : List Int} {k : Nat} (h : rdk 9 xs = some k) (hc : (0 < k ∧ xs[k]? = some 0) ∨ 4611686018427387903 < val (xs.take (k + 1))) : rd xs = (0, 0, 13) := by rw [rd, h]; exact if_pos hc
theorem rd_good {xs : List Int} {k : Nat} (h : rdk 9 xs = some k) (hc : ¬ ((0 < k ∧ xs[k]? = some 0) ∨ 4611686018427387903 < val (xs.take (k + 1)))) : rd xs = (val (xs.take (k + 1)), k + 1, 0) := by rw [rd, h]; exact if_neg hc

theorem pow7 (i : Nat) : (128 : Nat) ^ i = 2 ^ (7 * i) := by rw [Nat.pow_mul]

def rdR (r : Int × Nat × Int) : PR := .tup [vlit (.int .i64 r.1), vlit (.int .i64 (r.2.1 : Int)), vlit (.int .i64 r.2.2)]

theorem c116 (xs : List Int) (hb : bOK xs) (hl : xs.length ≤ 140737488355328) : Pure Try.prog 116 [.one (vBy xs), vlit (.int .i64 0)] (rdR (rd xs)) := by
  have htk : List.take xs.length (List.map (fun n => [T.lit (.int .u8 n)]) xs) = List.map (fun n => [T.lit (.int .u8 n)]) xs := List.take_of_length_le (by simp)
  have hlz : ¬ (xs.length : Int) < 0 := by omega
  have hle0 : 0 ≤ xs.length := Nat.zero_le _
  have hs0 : IntKind.i64.wrap ((xs.length : Int) - 0) = (xs.length : Int) := IntWalk.i64_in _ ⟨by omega, by omega⟩
  refine pure_of_body Try.func116 rfl (by simp [Try.f116]) ?_; rw [Try.ntmps116, Try.results116]; intro w0 G0
  (repeat' (first | refine thenL_n ?_ | refine thenL_r ?_ | refine thenL_x ?_ | refine blockL_n ?_ | refine blockL_r ?_ | refine blockL_x ?_ | refine blockL_y rfl ?_ | refine awp_seq ?_ | refine awp_block ?_ | refine awp_ret ?_ | refine awp_exit ?_ | refine awp_skip ?_ | exact absurd hcond (by decide) | (first | (refine awp_txt ?_; refine runs_to [] (by simp only [go_sem, hlz, htk, hle0]; rfl) ?_) | (refine awp_draw mixed ?_; refine runs_to [] (by simp only [go_sem, hlz, htk, hle0]; rfl) ?_)) | refine runD_nil ⟨by kernel_rfl, ?_⟩ | refine runD_nil ?_ | (refine awp_cond (b := _) (by simp only [go_sem, evB, hlz, htk, hle0]; rfl) (fun hcond => ?_) (fun hcond => ?_))))
  refine awp_loop (fun i : Nat => [(.slot 0, sT (vBy xs)), (.slot 1, sI 0), (.slot 4, sI (val (xs.take i))), (.slot 19, sT (vBy xs)), (.slot 20, sI xs.length), (.slot 21, sI i)]) (fun i => i ≤ xs.length ∧ i ≤ 9 ∧ ∀ (j : Nat) x, j < i → xs[j]? = some x → 128 ≤ x) (fun i => 9 - i) 0 ⟨Nat.zero_le _, Nat.zero_le _, fun j x h => by omega⟩ (by refine Imp.of_in ?_; simp only [go_sem, val, Int.natCast_zero]) ?_
  rintro i ⟨hi, hi9, hall⟩
  by_cases hlt : (i : Int) < xs.length
  · have hil : i < xs.length := by omega
    have hx : xs[i]? = some xs[i] := List.getElem?_eq_getElem hil
    by_cases h9 : i = 9
    · have h9' : ((i : Int) == 9) = true := by simp [h9]
      have hge : (9 : Int) ≤ xs.length := by omega
      rw [rd_none (rdk_none_of (n := 9) fun j x hj hx => hall j x (by omega) hx), if_pos (by omega)]
      simp only [rdR]
      ((repeat' (first | refine thenL_n ?_ | refine thenL_r ?_ | refine thenL_x ?_ | refine blockL_n ?_ | refine blockL_r ?_ | refine blockL_x ?_ | refine blockL_y rfl ?_ | refine awp_seq ?_ | refine awp_block ?_ | refine awp_ret ?_ | refine awp_exit ?_ | refine awp_skip ?_ | exact absurd hcond (by decide) | (first | (refine awp_txt ?_; refine runs_to [] (by simp only [go_sem, hlt, hil, hx, h9', hs0, hge]; rfl) ?_) | (refine awp_draw mixed ?_; refine runs_to [] (by simp only [go_sem, hlt, hil, hx, h9', hs0, hge]; rfl) ?_)) | refine runD_nil ⟨by kernel_rfl, ?_⟩ | refine runD_nil ?_ | (refine awp_cond (b := _) (by simp only [go_sem, evB, hlt, hil, hx, h9', hs0, hge]; rfl) (fun hcond => ?_) (fun hcond => ?_)))); all_goals (refine leaves_ok (by first | exact Or.inl rfl | exact Or.inr rfl) (by simp only [go_sem, resAll, resL, packL, vecsOf, freezeAll, freezeL, hlt, hil, hx, h9', hs0, hge]; rfl) ?_; (first | refine SubR.v ?_ | refine SubR.tup ?_); ((repeat' (first | exact All2.nil | refine All2.cons ?_ ?_ | exact SubV.one (SubT.same _) | exact SubV.one (SubT.nil _) | refine SubV.agg ?_ | exact SubT.same _ | exact SubT.nil _)); first | done | fail)))
    · have h9' : ((i : Int) == 9) = false := by simp; omega
      have hts : xs.take (i + 1) = xs.take i ++ [xs[i]] := List.take_succ_eq_append_getElem hil
      have hxb := hb xs[i] (List.getElem_mem _)
      generalize xs[i] = x at hx hts hxb
      obtain ⟨a, ha⟩ := Int.eq_ofNat_of_zero_le (val_nonneg (xs.take i))
      have halt := val_lt (xs.take i)
      have hlen : (xs.take i).length = i := by rw [List.length_take]; omega
      have hval : val (xs.take (i + 1)) = val (xs.take i) + (128 ^ i : Nat) * (x % 128) := by rw [hts, val_append, hlen]
      rw [hlen, ha, pow7] at halt
      obtain ⟨d, hd⟩ := Int.eq_ofNat_of_zero_le (show 0 ≤ x % 128 by omega)
      have hd128 : d < 128 := by omega
      rw [ha, hd, pow7] at hval
      have hpow : (2 : Nat) ^ (7 * i) * 128 ≤ 9223372036854775808 := by
        have := pow_le (show i + 1 ≤ 9 by omega)
        rw [Nat.pow_succ, pow7] at this; exact this
      have hdp : d * 2 ^ (7 * i) ≤ 127 * 2 ^ (7 * i) := Nat.mul_le_mul_right _ (by omega)
      have hval2 : val (xs.take (i + 1)) = ((a + d * 2 ^ (7 * i) : Nat) : Int) := by rw [hval]; push_cast; rw [Int.mul_comm]
      have hand : IntKind.u8.wrap ((BitVec.ofInt IntKind.u8.bits x &&& BitVec.ofInt IntKind.u8.bits 127).toNat : Int) = (d : Int) := (w_and x hxb).trans hd
      have hcv : IntKind.i64.wrap (d : Int) = (d : Int) := IntWalk.i64_in _ ⟨by omega, by omega⟩
      have hm7 : IntKind.i64.wrap (7 * (i : Int)) = 7 * (i : Int) := IntWalk.i64_in _ ⟨by omega, by omega⟩
      have h70 : ¬ 7 * (i : Int) < 0 := by omega
      have hshl : IntKind.i64.wrap ((d : Int) * 2 ^ (min (Int.toNat (7 * (i : Int))) IntKind.i64.bits)) = ((d * 2 ^ (7 * i) : Nat) : Int) := by
        have e1 : min (Int.toNat (7 * (i : Int))) IntKind.i64.bits = 7 * i := by
          have : IntKind.i64.bits = 64 := rfl
          rw [this]; omega
        rw [e1, IntWalk.i64_in]
        · push_cast; rfl
        · have : (d : Int) * 2 ^ (7 * i) = ((d * 2 ^ (7 * i) : Nat) : Int) := by push_cast; first | done | rfl
          rw [this]; omega
      have hor : IntKind.i64.wrap ((BitVec.ofInt IntKind.i64.bits (a : Int) ||| BitVec.ofInt IntKind.i64.bits ((d * 2 ^ (7 * i) : Nat) : Int)).toNat : Int) = ((a + d * 2 ^ (7 * i) : Nat) : Int) := w_or64 a d (7 * i) (by omega) (by omega)
      have hw := up i (by omega)
      have h0i : IntKind.i64.wrap (0 + (i : Int)) = (i : Int) := by rw [IntWalk.i64_in _ ⟨by omega, by omega⟩]; omega
      simp only [go_sem] at hand hshl hor
      rw [ha]
      generalize hz : a + d * 2 ^ (7 * i) = z at hval2 hor
      by_cases hx128 : x < 128
      · have hk : rdk 9 xs = some i := rdk_of (by omega) hall ⟨x, hx, hx128⟩
        have hmodx : x = (d : Int) := by omega
        by_cases hc : (0 < i ∧ xs[i]? = some 0) ∨ 4611686018427387903 < val (xs.take (i + 1))
        · rw [rd_bad hk hc]
          simp only [rdR]
          by_cases hc1 : (x == 0) = true
          · by_cases hc2 : (0 : Int) < (i : Int)
            · ((repeat' (first | refine thenL_n ?_ | refine thenL_r ?_ | refine thenL_x ?_ | refine blockL_n ?_ | refine blockL_r ?_ | refine blockL_x ?_ | refine blockL_y rfl ?_ | refine awp_seq ?_ | refine awp_block ?_ | refine awp_ret ?_ | refine awp_exit ?_ | refine awp_skip ?_ | exact absurd hcond (by decide) | (first | (refine awp_txt ?_; refine runs_to [] (by simp only [go_sem, hlt, hil, hx, h9', hand, hcv, hm7, h70, hshl, hor, hx128, hc1, hc2]; rfl) ?_) | (refine awp_draw mixed ?_; refine runs_to [] (by simp only [go_sem, hlt, hil, hx, h9', hand, hcv, hm7, h70, hshl, hor, hx128, hc1, hc2]; rfl) ?_)) | refine runD_nil ⟨by kernel_rfl, ?_⟩ | refine runD_nil ?_ | (refine runD_call (c113 _) cb113 (by rfl) (by simp only [go_sem, hlt, hil, hx, h9', hand, hcv, hm7, h70, hshl, hor, hx128, hc1, hc2]; rfl) (by ((repeat' (first | exact All2.nil | refine All2.cons ?_ ?_ | exact SubV.one (SubT.same _) | exact SubV.one (SubT.nil _) | refine SubV.agg ?_ | exact SubT.same _ | exact SubT.nil _)); first | done | fail)) ?_; refine runs_to [] (by simp only [go_sem, hlt, hil, hx, h9', hand, hcv, hm7, h70, hshl, hor, hx128, hc1, hc2]; rfl) ?_) | (refine awp_cond (b := _) (by simp only [go_sem, evB, hlt, hil, hx, h9', hand, hcv, hm7, h70, hshl, hor, hx128, hc1, hc2]; rfl) (fun hcond => ?_) (fun hcond => ?_)))); all_goals (refine leaves_ok (by first | exact Or.inl rfl | exact Or.inr rfl) (by simp only [go_sem, resAll, resL, packL, vecsOf, freezeAll, freezeL, hlt, hil, hx, h9', hand, hcv, hm7, h70, hshl, hor, hx128, hc1, hc2]; rfl) ?_; (first | refine SubR.v ?_ | refine SubR.tup ?_); ((repeat' (first | exact All2.nil | refine All2.cons ?_ ?_ | exact SubV.one (SubT.same _) | exact SubV.one (SubT.nil _) | refine SubV.agg ?_ | exact SubT.same _ | exact SubT.nil _)); first | done | fail)))
            · have hz0 : numOK (z : Int) = false := by
                rcases hc with hc | hc
                · omega
                · rw [hval2] at hc; simp [numOK]; omega
              ((repeat' (first | refine thenL_n ?_ | refine thenL_r ?_ | refine thenL_x ?_ | refine blockL_n ?_ | refine blockL_r ?_ | refine blockL_x ?_ | refine blockL_y rfl ?_ | refine awp_seq ?_ | refine awp_block ?_ | refine awp_ret ?_ | refine awp_exit ?_ | refine awp_skip ?_ | exact absurd hcond (by decide) | (first | (refine awp_txt ?_; refine runs_to [] (by simp only [go_sem, hlt, hil, hx, h9', hand, hcv, hm7, h70, hshl, hor, hx128, hc1, hc2, hz0]; rfl) ?_) | (refine awp_draw mixed ?_; refine runs_to [] (by simp only [go_sem, hlt, hil, hx, h9', hand, hcv, hm7, h70, hshl, hor, hx128, hc1, hc2, hz0]; rfl) ?_)) | refine runD_nil ⟨by kernel_rfl, ?_⟩ | refine runD_nil ?_ | (refine runD_call (c113 _) cb113 (by rfl) (by simp only [go_sem, hlt, hil, hx, h9', hand, hcv, hm7, h70, hshl, hor, hx128, hc1, hc2, hz0]; rfl) (by ((repeat' (first | exact All2.nil | refine All2.cons ?_ ?_ | exact SubV.one (SubT.same _) | exact SubV.one (SubT.nil _) | refine SubV.agg ?_ | exact SubT.same _ | exact SubT.nil _)); first | done | fail)) ?_; refine runs_to [] (by simp only [go_sem, hlt, hil, hx, h9', hand, hcv, hm7, h70, hshl, hor, hx128, hc1, hc2, hz0]; rfl) ?_) | (refine awp_cond (b := _) (by simp only [go_sem, evB, hlt, hil, hx, h9', hand, hcv, hm7, h70, hshl, hor, hx128, hc1, hc2, hz0]; rfl) (fun hcond => ?_) (fun hcond => ?_)))); all_goals (refine leaves_ok (by first | exact Or.inl rfl | exact Or.inr rfl) (by simp only [go_sem, resAll, resL, packL, vecsOf, freezeAll, freezeL, hlt, hil, hx, h9', hand, hcv, hm7, h70, hshl, hor, hx128, hc1, hc2, hz0]; rfl) ?_; (first | refine SubR.v ?_ | refine SubR.tup ?_); ((repeat' (first | exact All2.nil | refine All2.cons ?_ ?_ | exact SubV.one (SubT.same _) | exact SubV.one (SubT.nil _) | refine SubV.agg ?_ | exact SubT.same _ | exact SubT.nil _)); first | done | fail)))
          · have hc1 : (x == 0) = false := by simpa using hc1
            have hz0 : numOK (z : Int) = false := by
              rcases hc with hc | hc
              · rw [hx] at hc; simp at hc hc1; exact absurd hc.2 hc1
              · rw [hval2] at hc; simp [numOK]; omega
            ((repeat' (first | refine thenL_n ?_ | refine thenL_r ?_ | refine thenL_x ?_ | refine blockL_n ?_ | refine blockL_r ?_ | refine blockL_x ?_ | refine blockL_y rfl ?_ | refine awp_seq ?_ | refine awp_block ?_ | refine awp_ret ?_ | refine awp_exit ?_ | refine awp_skip ?_ | exact absurd hcond (by decide) | (first | (refine awp_txt ?_; refine runs_to [] (by simp only [go_sem, hlt, hil, hx, h9', hand, hcv, hm7, h70, hshl, hor, hx128, hc1, hz0]; rfl) ?_) | (refine awp_draw mixed ?_; refine runs_to [] (by simp only [go_sem, hlt, hil, hx, h9', hand, hcv, hm7, h70, hshl, hor, hx128, hc1, hz0]; rfl) ?_)) | refine runD_nil ⟨by kernel_rfl, ?_⟩ | refine runD_nil ?_ | (refine runD_call (c113 _) cb113 (by rfl) (by simp only [go_sem, hlt, hil, hx, h9', hand, hcv, hm7, h70, hshl, hor, hx128, hc1, hz0]; rfl) (by ((repeat' (first | exact All2.nil | refine All2.cons ?_ ?_ | exact SubV.one (SubT.same _) | exact SubV.one (SubT.nil _) | refine SubV.agg ?_ | exact SubT.same _ | exact SubT.nil _)); first | done | fail)) ?_; refine runs_to [] (by simp only [go_sem, hlt, hil, hx, h9', hand, hcv, hm7, h70, hshl, hor, hx128, hc1, hz0]; rfl) ?_) | (refine awp_cond (b := _) (by simp only [go_sem, evB, hlt, hil, hx, h9', hand, hcv, hm7, h70, hshl, hor, hx128, hc1, hz0]; rfl) (fun hcond => ?_) (fun hcond => ?_)))); all_goals (refine leaves_ok (by first | exact Or.inl rfl | exact Or.inr rfl) (by simp only [go_sem, resAll, resL, packL, vecsOf, freezeAll, freezeL, hlt, hil, hx, h9', hand, hcv, hm7, h70, hshl, hor, hx128, hc1, hz0]; rfl) ?_; (first | refine SubR.v ?_ | refine SubR.tup ?_); ((repeat' (first | exact All2.nil | refine All2.cons ?_ ?_ | exact SubV.one (SubT.same _) | exact SubV.one (SubT.nil _) | refine SubV.agg ?_ | exact SubT.same _ | exact SubT.nil _)); first | done | fail)))
        · rw [rd_good hk hc]
          simp only [rdR]
          rw [hval2]
          have hz0 : numOK (z : Int) = true := by
            rw [hval2] at hc; simp [numOK]; omega
          by_cases hc1 : (x == 0) = true
          · have hc2 : ¬ (0 : Int) < (i : Int) := fun h => hc (.inl ⟨by omega, by rw [hx]; simpa using hc1⟩)
            ((repeat' (first | refine thenL_n ?_ | refine thenL_r ?_ | refine thenL_x ?_ | refine blockL_n ?_ | refine blockL_r ?_ | refine blockL_x ?_ | refine blockL_y rfl ?_ | refine awp_seq ?_ | refine awp_block ?_ | refine awp_ret ?_ | refine awp_exit ?_ | refine awp_skip ?_ | exact absurd hcond (by decide) | (first | (refine awp_txt ?_; refine runs_to [] (by simp only [go_sem, hlt, hil, hx, h9', hand, hcv, hm7, h70, hshl, hor, hx128, hc1, hc2, hz0, h0i, hw]; rfl) ?_) | (refine awp_draw mixed ?_; refine runs_to [] (by simp only [go_sem, hlt, hil, hx, h9', hand, hcv, hm7, h70, hshl, hor, hx128, hc1, hc2, hz0, h0i, hw]; rfl) ?_)) | refine runD_nil ⟨by kernel_rfl, ?_⟩ | refine runD_nil ?_ | (refine runD_call (c113 _) cb113 (by rfl) (by simp only [go_sem, hlt, hil, hx, h9', hand, hcv, hm7, h70, hshl, hor, hx128, hc1, hc2, hz0, h0i, hw]; rfl) (by ((repeat' (first | exact All2.nil | refine All2.cons ?_ ?_ | exact SubV.one (SubT.same _) | exact SubV.one (SubT.nil _) | refine SubV.agg ?_ | exact SubT.same _ | exact SubT.nil _)); first | done | fail)) ?_; refine runs_to [] (by simp only [go_sem, hlt, hil, hx, h9', hand, hcv, hm7, h70, hshl, hor, hx128, hc1, hc2, hz0, h0i, hw]; rfl) ?_) | (refine awp_cond (b := _) (by simp only [go_sem, evB, hlt, hil, hx, h9', hand, hcv, hm7, h70, hshl, hor, hx128, hc1, hc2, hz0, h0i, hw]; rfl) (fun hcond => ?_) (fun hcond => ?_)))); all_goals (refine leaves_ok (by first | exact Or.inl rfl | exact Or.inr rfl) (by simp only [go_sem, resAll, resL, packL, vecsOf, freezeAll, freezeL, hlt, hil, hx, h9', hand, hcv, hm7, h70, hshl, hor, hx128, hc1, hc2, hz0, h0i, hw]; rfl) ?_; (first | refine SubR.v ?_ | refine SubR.tup ?_); ((repeat' (first | exact All2.nil | refine All2.cons ?_ ?_ | exact SubV.one (SubT.same _) | exact SubV.one (SubT.nil _) | refine SubV.agg ?_ | exact SubT.same _ | exact SubT.nil _)); first | done | fail)))
          · have hc1 : (x == 0) = false := by simpa using hc1
            ((repeat' (first | refine thenL_n ?_ | refine thenL_r ?_ | refine thenL_x ?_ | refine blockL_n ?_ | refine blockL_r ?_ | refine blockL_x ?_ | refine blockL_y rfl ?_ | refine awp_seq ?_ | refine awp_block ?_ | refine awp_ret ?_ | refine awp_exit ?_ | refine awp_skip ?_ | exact absurd hcond (by decide) | (first | (refine awp_txt ?_; refine runs_to [] (by simp only [go_sem, hlt, hil, hx, h9', hand, hcv, hm7, h70, hshl, hor, hx128, hc1, hz0, h0i, hw]; rfl) ?_) | (refine awp_draw mixed ?_; refine runs_to [] (by simp only [go_sem, hlt, hil, hx, h9', hand, hcv, hm7, h70, hshl, hor, hx128, hc1, hz0, h0i, hw]; rfl) ?_)) | refine runD_nil ⟨by kernel_rfl, ?_⟩ | refine runD_nil ?_ | (refine runD_call (c113 _) cb113 (by rfl) (by simp only [go_sem, hlt, hil, hx, h9', hand, hcv, hm7, h70, hshl, hor, hx128, hc1, hz0, h0i, hw]; rfl) (by ((repeat' (first | exact All2.nil | refine All2.cons ?_ ?_ | exact SubV.one (SubT.same _) | exact SubV.one (SubT.nil _) | refine SubV.agg ?_ | exact SubT.same _ | exact SubT.nil _)); first | done | fail)) ?_; refine runs_to [] (by simp only [go_sem, hlt, hil, hx, h9', hand, hcv, hm7, h70, hshl, hor, hx128, hc1, hz0, h0i, hw]; rfl) ?_) | (refine awp_cond (b := _) (by simp only [go_sem, evB, hlt, hil, hx, h9', hand, hcv, hm7, h70, hshl, hor, hx128, hc1, hz0, h0i, hw]; rfl) (fun hcond => ?_) (fun hcond => ?_)))); all_goals (refine leaves_ok (by first | exact Or.inl rfl | exact Or.inr rfl) (by simp only [go_sem, resAll, resL, packL, vecsOf, freezeAll, freezeL, hlt, hil, hx, h9', hand, hcv, hm7, h70, hshl, hor, hx128, hc1, hz0, h0i, hw]; rfl) ?_; (first | refine SubR.v ?_ | refine SubR.tup ?_); ((repeat' (first | exact All2.nil | refine All2.cons ?_ ?_ | exact SubV.one (SubT.same _) | exact SubV.one (SubT.nil _) | refine SubV.agg ?_ | exact SubT.same _ | exact SubT.nil _)); first | done | fail)))
      · (repeat' (first | refine thenL_n ?_ | refine thenL_r ?_ | refine thenL_x ?_ | refine blockL_n ?_ | refine blockL_r ?_ | refine blockL_x ?_ | refine blockL_y rfl ?_ | refine awp_seq ?_ | refine awp_block ?_ | refine awp_ret ?_ | refine awp_exit ?_ | refine awp_skip ?_ | exact absurd hcond (by decide) | (first | (refine awp_txt ?_; refine runs_to [] (by simp only [go_sem, hlt, hil, hx, h9', hand, hcv, hm7, h70, hshl, hor, hx128, hw]; rfl) ?_) | (refine awp_draw mixed ?_; refine runs_to [] (by simp only [go_sem, hlt, hil, hx, h9', hand, hcv, hm7, h70, hshl, hor, hx128, hw]; rfl) ?_)) | refine runD_nil ⟨by kernel_rfl, ?_⟩ | refine runD_nil ?_ | (refine awp_cond (b := _) (by simp only [go_sem, evB, hlt, hil, hx, h9', hand, hcv, hm7, h70, hshl, hor, hx128, hw]; rfl) (fun hcond => ?_) (fun hcond => ?_))))
        refine ⟨i + 1, ⟨by omega, by omega, fun j y hj hy => ?_⟩, by omega, (by refine Imp.of_in ?_; simp only [go_sem, hval2])⟩
        by_cases hji : j = i
        · subst hji; rw [hx] at hy; injection hy with hy; omega
        · exact hall j y (by omega) hy
  · have hii : i = xs.length := by omega
    have hk : rdk 9 xs = none := rdk_none_of (n := 9) fun j x hj hx => hall j x (by
      have := (List.getElem?_eq_some_iff.1 hx).1; omega) hx
    rw [rd_none hk]
    by_cases hge : (9 : Int) ≤ xs.length
    · rw [if_pos (by omega)]
      simp only [rdR]
      ((repeat' (first | refine thenL_n ?_ | refine thenL_r ?_ | refine thenL_x ?_ | refine blockL_n ?_ | refine blockL_r ?_ | refine blockL_x ?_ | refine blockL_y rfl ?_ | refine awp_seq ?_ | refine awp_block ?_ | refine awp_ret ?_ | refine awp_exit ?_ | refine awp_skip ?_ | exact absurd hcond (by decide) | (first | (refine awp_txt ?_; refine runs_to [] (by simp only [go_sem, hlt, hs0, hge]; rfl) ?_) | (refine awp_draw mixed ?_; refine runs_to [] (by simp only [go_sem, hlt, hs0, hge]; rfl) ?_)) | refine runD_nil ⟨by kernel_rfl, ?_⟩ | refine runD_nil ?_ | (refine awp_cond (b := _) (by simp only [go_sem, evB, hlt, hs0, hge]; rfl) (fun hcond => ?_) (fun hcond => ?_)))); all_goals (refine leaves_ok (by first | exact Or.inl rfl | exact Or.inr rfl) (by simp only [go_sem, resAll, resL, packL, vecsOf, freezeAll, freezeL, hlt, hs0, hge]; rfl) ?_; (first | refine SubR.v ?_ | refine SubR.tup ?_); ((repeat' (first | exact All2.nil | refine All2.cons ?_ ?_ | exact SubV.one (SubT.same _) | exact SubV.one (SubT.nil _) | refine SubV.agg ?_ | exact SubT.same _ | exact SubT.nil _)); first | done | fail)))
    · rw [if_neg (by omega)]
      simp only [rdR]
      ((repeat' (first | refine thenL_n ?_ | refine thenL_r ?_ | refine thenL_x ?_ | refine blockL_n ?_ | refine blockL_r ?_ | refine blockL_x ?_ | refine blockL_y rfl ?_ | refine awp_seq ?_ | refine awp_block ?_ | refine awp_ret ?_ | refine awp_exit ?_ | refine awp_skip ?_ | exact absurd hcond (by decide) | (first | (refine awp_txt ?_; refine runs_to [] (by simp only [go_sem, hlt, hs0, hge]; rfl) ?_) | (refine awp_draw mixed ?_; refine runs_to [] (by simp only [go_sem, hlt, hs0, hge]; rfl) ?_)) | refine runD_nil ⟨by kernel_rfl, ?_⟩ | refine runD_nil ?_ | (refine awp_cond (b := _) (by simp only [go_sem, evB, hlt, hs0, hge]; rfl) (fun hcond => ?_) (fun hcond => ?_)))); all_goals (refine leaves_ok (by first | exact Or.inl rfl | exact Or.inr rfl) (by simp only [go_sem, resAll, resL, packL, vecsOf, freezeAll, freezeL, hlt, hs0, hge]; rfl) ?_; (first | refine SubR.v ?_ | refine SubR.tup ?_); ((repeat' (first | exact All2.nil | refine All2.cons ?_ ?_ | exact SubV.one (SubT.same _) | exact SubV.one (SubT.nil _) | refine SubV.agg ?_ | exact SubT.same _ | exact SubT.nil _)); first | done | fail)))
end Go.Proofs.Ytbohgpdpglfepaa
