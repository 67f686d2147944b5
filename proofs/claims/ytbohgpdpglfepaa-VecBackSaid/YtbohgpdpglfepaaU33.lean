import Derived.Test.YtbohgpdpglfepaaU32
set_option maxHeartbeats 4000000
set_option maxRecDepth 10000
set_option linter.unusedVariables false
set_option linter.unusedSimpArgs false
namespace Go.Proofs.Ytbohgpdpglfepaa
open Go.AM Go.RowKit
attribute [local irreducible] AWP thenL blockL AM.Leaves LeavesO RunD
attribute [local go_sem] runs stepR actF inF frzA frzW lastW act act1 actPick actNil actBin
  actUn actConv actExtract actFieldAddr actField actAlloc keysOf actBox actLoad treesOf actStore actIndex
  actLen actMx srcL actAppend actMake actBuild actBuildSlice boundL actSlice actCall actEqS isStruct
  isSlice actText actCopy litsOf kindsOK fieldsPlain eqAll eqop dstB dstN boolS litB
  litV sv binv unv lits takeC cellsR trees cellsW mxv repl parts
  fillAt fillRows V1.cs mkV ev evr AM.look put del applyL delD wrD
  undefS SV.to V1.to At.to keysL notIn freshKey PV.up PR.up entry entryV evp
  isAt actPtrNil capsL actFunc sameV sameVs pureCtx doc mkVar AM.Loc.key Cont.keys SV.keys
  V1.keys At.keys Cont.sub SV.sub V1.sub At.sub guardR argsL callR Nat.blt_eq Nat.blt Nat.ble
  Nat.beq_eq_true_eq beq_self_eq_true Array.toList List.map List.append_eq List.nil_append List.cons_append List.append_nil List.append_assoc Bool.and_eq_true decide_true decide_false
  decide_eq_true_eq Bool.not_true Bool.not_false reduceCtorEq if_true if_false ite_true ite_false reduceIte AM.Loc.slot.injEq AM.Loc.cell.injEq AM.Loc.vec.injEq
  List.getElem?_cons_zero List.getElem?_cons_succ List.getElem?_nil Option.map_some Option.map_none Option.toList List.flatMap_nil List.flatMap_cons Bool.and_true Bool.true_and Bool.and_false Bool.false_and
  Bool.true_eq_false Bool.false_eq_true Nat.reduceBEq Nat.reduceEqDiff bool_beq_tt bool_beq_ff bool_beq_tf bool_beq_ft List.length_cons List.length_nil List.drop List.take
  List.drop_zero List.take_zero List.all_cons List.all_nil Value.oneCell' Nat.zero_add Nat.reduceAdd Nat.reduceMul Nat.reduceSub Nat.reduceLT Nat.reduceLeDiff Int.reduceLT
  Int.reduceLE Int.reduceEq Int.reduceBEq Int.reduceBNe Int.reduceAdd Int.reduceSub Int.reduceMul Int.reduceNeg Int.reduceToNat Nat.succ_ne_zero List.replicate and_true
  true_and and_false false_and and_self ge_iff_le gt_iff_lt bne_self_eq_false List.zip_cons_cons List.zip_nil_left List.zip List.zipWith Int.natCast_nonneg
  Int.toNat_natCast List.getElem?_map List.length_map sT sI sB sR sP rV AllIn Int.toNat_zero Int.ofNat_zero
  Int.natCast_zero Nat.le_refl List.mapM_cons List.mapM_nil Option.bind_eq_bind Option.bind_some Option.pure_def List.set_cons_zero List.set_cons_succ List.length_set tt2 tt3
  tt4 tt5 tt9 tt12 tt21 tt22 tt23 tt24 tt25 tt36 tt37 tt43
  tt44 tt51 tt52 tt53 tt59 tt67 tt68 tt69 tt74 tt75 tt76 tt77
  tt78 tt79 tt89 tt92 tt95 tt96 tt97 tt98 tt99 tt102 tt103 tt106
  tt107 tt108 tt114 tt115 tt116 tt117 tt118 tt119 tt120 tt122 tt124 tt125
  tt126 tt127 tt130 tt131 tt132 tt133 tt134 tt135 tt137 tt138 tt139 tt147
  tt148 tt149 tt159 tt164 tt165 tt167 tt168 tt169 tt170 tt171 tt190 tt191
  tt194 tt200 tt208 tt212
attribute [local go_sem] vlit bal rInt rBool vInts pInts vvInts vBy vvBy lI lB byV

/-- A number that is too great has nine bytes, the last one above 63. -/
theorem big_iff {xs : List Int} {k : Nat} {x : Int} (hk : k ≤ 8) (hx : xs[k]? = some x) (hx0 : 0 ≤ x) (hx128 : x < 128) : 4611686018427387903 < val (xs.take (k + 1)) ↔ k = 8 ∧ 63 < x := by
  have hil : k < xs.length := (List.getElem?_eq_some_iff.1 hx).1
  have hts : xs.take (k + 1) = xs.take k ++ [x] := by
    rw [List.take_succ_eq_append_getElem hil]
    rw [List.getElem?_eq_getElem hil] at hx
    injection hx with hx
    rw [hx]
  have hlen : (xs.take k).length = k := by rw [List.length_take]; omega
  have h0 := val_nonneg (xs.take k)
  have h1 := val_lt (xs.take k)
  rw [hlen] at h1
  have hval : val (xs.take (k + 1)) = val (xs.take k) + (128 ^ k : Nat) * (x % 128) := by rw [hts, val_append, hlen]
  have hm : x % 128 = x := by omega
  rw [hm] at hval
  obtain ⟨n, rfl⟩ := Int.eq_ofNat_of_zero_le hx0
  by_cases h8 : k = 8
  · subst h8
    have e : (128 : Nat) ^ 8 = 72057594037927936 := by decide
    rw [e] at h1 hval
    omega
  · have e : (128 : Nat) ^ k ≤ 128 ^ 7 := Nat.pow_le_pow_right (by omega) (by omega)
    have e7 : (128 : Nat) ^ 7 = 562949953421312 := by decide
    rw [e7] at e
    have h2 : (128 : Nat) ^ k * n ≤ 562949953421312 * 127 := Nat.mul_le_mul e (by omega)
    have h3 : (((128 ^ k : Nat) : Int) * (n : Int)) = ((128 ^ k * n : Nat) : Int) := by push_cast; first | done | rfl
    rw [h3] at hval
    constructor
    · intro h; omega
    · intro h; omega

theorem val_drop {xs : List Int} {k j : Nat} {x : Int} (hk : j ≤ k) (hx : xs[j]? = some x) : val ((xs.take (k + 1)).drop j) = x % 128 + 128 * val ((xs.take (k + 1)).drop (j + 1)) := by
  have hjl : j < xs.length := (List.getElem?_eq_some_iff.1 hx).1
  have h1 : (xs.take (k + 1))[j]? = some x := by rw [List.getElem?_take_of_lt (by omega)]; exact hx
  obtain ⟨h2, h3⟩ := List.getElem?_eq_some_iff.1 h1
  rw [List.drop_eq_getElem_cons h2, h3, val]

def rfR (at_ : Nat) (r : Int × Nat × Int) : PR := .tup [vlit (.int .i64 r.1), vlit (.int .i64 (if r.2.2 = 0 then (at_ + r.2.1 : Nat) else 0 : Nat)), vlit (.int .i64 r.2.2)]

theorem c117 (b : List Int) (hb : bOK b) (hl : b.length ≤ 140737488355328) (at_ : Nat) (hat : at_ ≤ b.length) : Pure Try.prog 117 [.one (vBy b), vlit (.int .i64 at_)] (rfR at_ (rd (b.drop at_))) := by
  generalize hxs : b.drop at_ = xs
  have hxl : xs.length = b.length - at_ := by rw [← hxs, List.length_drop]
  have hix : ∀ i, b[at_ + i]? = xs[i]? := fun i => by rw [← hxs, List.getElem?_drop]
  have hbx : bOK xs := fun x hx => hb x (by rw [← hxs] at hx; exact List.mem_of_mem_drop hx)
  have ha0 : ¬ (at_ : Int) < 0 := by omega
  have hal : ¬ (b.length : Int) < (at_ : Int) := by omega
  have hsub : IntKind.i64.wrap ((b.length : Int) - (at_ : Int)) = (xs.length : Int) := by rw [IntWalk.i64_in _ ⟨by omega, by omega⟩, hxl]; omega
  refine pure_of_body Try.func117 rfl (by simp [Try.f117]) ?_; rw [Try.ntmps117, Try.results117]; intro w0 G0
  (repeat' (first | refine thenL_n ?_ | refine thenL_r ?_ | refine thenL_x ?_ | refine blockL_n ?_ | refine blockL_r ?_ | refine blockL_x ?_ | refine blockL_y rfl ?_ | refine awp_seq ?_ | refine awp_block ?_ | refine awp_ret ?_ | refine awp_exit ?_ | refine awp_skip ?_ | exact absurd hcond (by decide) | (first | (refine awp_txt ?_; refine runs_to [] (by simp only [go_sem, ha0, hal]; rfl) ?_) | (refine awp_draw mixed ?_; refine runs_to [] (by simp only [go_sem, ha0, hal]; rfl) ?_)) | refine runD_nil ⟨by kernel_rfl, ?_⟩ | refine runD_nil ?_ | (refine awp_cond (b := _) (by simp only [go_sem, evB, ha0, hal]; rfl) (fun hcond => ?_) (fun hcond => ?_))))
  refine awp_loop (fun p : Nat × Int => [(.slot 0, sT (vBy b)), (.slot 1, sI at_), (.slot 7, sI p.2), (.slot 8, sI p.1)]) (fun p => p.1 ≤ xs.length ∧ p.1 ≤ 9 ∧ ((p.2 = -1 ∧ ∀ (j : Nat) x, j < p.1 → xs[j]? = some x → 128 ≤ x) ∨ (∃ k x, p.1 = k + 1 ∧ p.2 = (k : Int) ∧ rdk 9 xs = some k ∧ xs[k]? = some x ∧ x < 128))) (fun p => 9 - p.1) (0, -1) ⟨Nat.zero_le _, Nat.zero_le _, .inl ⟨rfl, fun j x h => by omega⟩⟩ (by refine Imp.of_in ?_; simp only [go_sem, Int.natCast_zero]) ?_
  rintro ⟨i, l⟩ ⟨hi, hi9, hinv⟩
  simp only at hi hi9 hinv
  have hai : IntKind.i64.wrap ((at_ : Int) + (i : Int)) = ((at_ + i : Nat) : Int) := by rw [IntWalk.i64_in _ ⟨by omega, by omega⟩]; rfl
  rcases hinv with ⟨rfl, hall⟩ | ⟨k, x, rfl, rfl, hk, hx, hx128⟩
  · by_cases hc : i < 9 ∧ i < xs.length
    · have hc1 : (i : Int) < 9 := by omega
      have hc2 : ((at_ + i : Nat) : Int) < (b.length : Int) := by omega
      have hx : xs[i]? = some xs[i] := List.getElem?_eq_getElem hc.2
      have hbx : b[at_ + i]? = some xs[i] := (hix i).trans hx
      have hw := up i (by omega)
      generalize xs[i] = x at hx hbx
      by_cases hx128 : x < 128
      · (repeat' (first | refine thenL_n ?_ | refine thenL_r ?_ | refine thenL_x ?_ | refine blockL_n ?_ | refine blockL_r ?_ | refine blockL_x ?_ | refine blockL_y rfl ?_ | refine awp_seq ?_ | refine awp_block ?_ | refine awp_ret ?_ | refine awp_exit ?_ | refine awp_skip ?_ | exact absurd hcond (by decide) | (first | (refine awp_txt ?_; refine runs_to [] (by simp only [go_sem, hc1, hc2, hai, hbx, hw, hx128]; rfl) ?_) | (refine awp_draw mixed ?_; refine runs_to [] (by simp only [go_sem, hc1, hc2, hai, hbx, hw, hx128]; rfl) ?_)) | refine runD_nil ⟨by kernel_rfl, ?_⟩ | refine runD_nil ?_ | (refine awp_cond (b := _) (by simp only [go_sem, evB, hc1, hc2, hai, hbx, hw, hx128]; rfl) (fun hcond => ?_) (fun hcond => ?_))))
        refine ⟨(i + 1, i), ⟨by simp only; omega, by simp only; omega, .inr ⟨i, x, rfl, rfl, rdk_of (by omega) hall ⟨x, hx, hx128⟩, hx, hx128⟩⟩, by simp only; omega, (by refine Imp.of_in ?_; simp only [go_sem])⟩
      · (repeat' (first | refine thenL_n ?_ | refine thenL_r ?_ | refine thenL_x ?_ | refine blockL_n ?_ | refine blockL_r ?_ | refine blockL_x ?_ | refine blockL_y rfl ?_ | refine awp_seq ?_ | refine awp_block ?_ | refine awp_ret ?_ | refine awp_exit ?_ | refine awp_skip ?_ | exact absurd hcond (by decide) | (first | (refine awp_txt ?_; refine runs_to [] (by simp only [go_sem, hc1, hc2, hai, hbx, hw, hx128]; rfl) ?_) | (refine awp_draw mixed ?_; refine runs_to [] (by simp only [go_sem, hc1, hc2, hai, hbx, hw, hx128]; rfl) ?_)) | refine runD_nil ⟨by kernel_rfl, ?_⟩ | refine runD_nil ?_ | (refine awp_cond (b := _) (by simp only [go_sem, evB, hc1, hc2, hai, hbx, hw, hx128]; rfl) (fun hcond => ?_) (fun hcond => ?_))))
        refine ⟨(i + 1, -1), ⟨by simp only; omega, by simp only; omega, .inl ⟨rfl, fun j y hj hy => ?_⟩⟩, by simp only; omega, (by refine Imp.of_in ?_; simp only [go_sem])⟩
        by_cases hji : j = i
        · subst hji; rw [hx] at hy; injection hy with hy; omega
        · exact hall j y (by simp only at hj; omega) hy
    · have hk : rdk 9 xs = none := rdk_none_of (n := 9) fun j x hj hx => hall j x (by
        have := (List.getElem?_eq_some_iff.1 hx).1; omega) hx
      rw [rd_none hk]
      have hc3 : 9 ≤ xs.length ∨ xs.length < 9 := by omega
      rcases hc3 with h9 | h9
      · have hc1 : ¬ (i : Int) < 9 := by omega
        have hq : ¬ (xs.length : Int) < 9 := by omega
        rw [if_pos h9]
        simp only [rfR]
        ((repeat' (first | refine thenL_n ?_ | refine thenL_r ?_ | refine thenL_x ?_ | refine blockL_n ?_ | refine blockL_r ?_ | refine blockL_x ?_ | refine blockL_y rfl ?_ | refine awp_seq ?_ | refine awp_block ?_ | refine awp_ret ?_ | refine awp_exit ?_ | refine awp_skip ?_ | exact absurd hcond (by decide) | (first | (refine awp_txt ?_; refine runs_to [] (by simp only [go_sem, hc1, hsub, hq]; rfl) ?_) | (refine awp_draw mixed ?_; refine runs_to [] (by simp only [go_sem, hc1, hsub, hq]; rfl) ?_)) | refine runD_nil ⟨by kernel_rfl, ?_⟩ | refine runD_nil ?_ | (refine awp_cond (b := _) (by simp only [go_sem, evB, hc1, hsub, hq]; rfl) (fun hcond => ?_) (fun hcond => ?_)))); all_goals (refine leaves_ok (by first | exact Or.inl rfl | exact Or.inr rfl) (by simp only [go_sem, resAll, resL, packL, vecsOf, freezeAll, freezeL, hc1, hsub, hq]; rfl) ?_; (first | refine SubR.v ?_ | refine SubR.tup ?_); ((repeat' (first | exact All2.nil | refine All2.cons ?_ ?_ | exact SubV.one (SubT.same _) | exact SubV.one (SubT.nil _) | refine SubV.agg ?_ | exact SubT.same _ | exact SubT.nil _)); first | done | fail)))
      · have hc1 : (i : Int) < 9 := by omega
        have hc2 : ¬ ((at_ + i : Nat) : Int) < (b.length : Int) := by omega
        have hq : (xs.length : Int) < 9 := by omega
        rw [if_neg (by omega)]
        simp only [rfR]
        ((repeat' (first | refine thenL_n ?_ | refine thenL_r ?_ | refine thenL_x ?_ | refine blockL_n ?_ | refine blockL_r ?_ | refine blockL_x ?_ | refine blockL_y rfl ?_ | refine awp_seq ?_ | refine awp_block ?_ | refine awp_ret ?_ | refine awp_exit ?_ | refine awp_skip ?_ | exact absurd hcond (by decide) | (first | (refine awp_txt ?_; refine runs_to [] (by simp only [go_sem, hc1, hc2, hai, hsub, hq]; rfl) ?_) | (refine awp_draw mixed ?_; refine runs_to [] (by simp only [go_sem, hc1, hc2, hai, hsub, hq]; rfl) ?_)) | refine runD_nil ⟨by kernel_rfl, ?_⟩ | refine runD_nil ?_ | (refine awp_cond (b := _) (by simp only [go_sem, evB, hc1, hc2, hai, hsub, hq]; rfl) (fun hcond => ?_) (fun hcond => ?_)))); all_goals (refine leaves_ok (by first | exact Or.inl rfl | exact Or.inr rfl) (by simp only [go_sem, resAll, resL, packL, vecsOf, freezeAll, freezeL, hc1, hc2, hai, hsub, hq]; rfl) ?_; (first | refine SubR.v ?_ | refine SubR.tup ?_); ((repeat' (first | exact All2.nil | refine All2.cons ?_ ?_ | exact SubV.one (SubT.same _) | exact SubV.one (SubT.nil _) | refine SubV.agg ?_ | exact SubT.same _ | exact SubT.nil _)); first | done | fail)))
  · obtain ⟨hk9, hkl⟩ := rdk_lt hk
    have hk0 : ¬ (k : Int) < 0 := by omega
    have hak : IntKind.i64.wrap ((at_ : Int) + (k : Int)) = ((at_ + k : Nat) : Int) := by rw [IntWalk.i64_in _ ⟨by omega, by omega⟩]; rfl
    have hbk : b[at_ + k]? = some x := (hix k).trans hx
    have hxr := hbx x (List.mem_of_getElem? hx)
    have hbig := big_iff (by omega) hx hxr.1 hx128
    have h8 : IntKind.i64.wrap ((at_ : Int) + 8) = ((at_ + 8 : Nat) : Int) := by rw [IntWalk.i64_in _ ⟨by omega, by omega⟩]; rfl
    have hend : ∀ (hgood : ¬ ((0 < k ∧ xs[k]? = some 0) ∨ 4611686018427387903 < val (xs.take (k + 1)))), True := fun _ => trivial
    -- the loop's end, whichever of its tests ends it
    have hck : ((at_ + (k + 1) : Nat) : Int) < (b.length : Int) ∨ ¬ ((at_ + (k + 1) : Nat) : Int) < (b.length : Int) := by omega
    by_cases hc : (0 < k ∧ xs[k]? = some 0) ∨ 4611686018427387903 < val (xs.take (k + 1))
    · rw [rd_bad hk hc]
      simp only [rfR]
      by_cases hk8 : (((k + 1 : Nat)) : Int) < 9
      · have hne8 : ((k : Int) == 8) = false := by simp; omega
        have h0k : (0 : Int) < (k : Int) := by
          rcases hc with hc | hc
          · omega
          · have := hbig.1 hc; omega
        have hx0 : (x == 0) = true := by
          rcases hc with hc | hc
          · rw [hx] at hc; simpa using hc.2
          · have := hbig.1 hc; omega
        rcases hck with hck | hck
        · ((repeat' (first | refine thenL_n ?_ | refine thenL_r ?_ | refine thenL_x ?_ | refine blockL_n ?_ | refine blockL_r ?_ | refine blockL_x ?_ | refine blockL_y rfl ?_ | refine awp_seq ?_ | refine awp_block ?_ | refine awp_ret ?_ | refine awp_exit ?_ | refine awp_skip ?_ | exact absurd hcond (by decide) | (first | (refine awp_txt ?_; refine runs_to [] (by simp only [go_sem, hk8, hai, hck, hk0, h0k, hak, hbk, hx0]; rfl) ?_) | (refine awp_draw mixed ?_; refine runs_to [] (by simp only [go_sem, hk8, hai, hck, hk0, h0k, hak, hbk, hx0]; rfl) ?_)) | refine runD_nil ⟨by kernel_rfl, ?_⟩ | refine runD_nil ?_ | (refine awp_cond (b := _) (by simp only [go_sem, evB, hk8, hai, hck, hk0, h0k, hak, hbk, hx0]; rfl) (fun hcond => ?_) (fun hcond => ?_)))); all_goals (refine leaves_ok (by first | exact Or.inl rfl | exact Or.inr rfl) (by simp only [go_sem, resAll, resL, packL, vecsOf, freezeAll, freezeL, hk8, hai, hck, hk0, h0k, hak, hbk, hx0]; rfl) ?_; (first | refine SubR.v ?_ | refine SubR.tup ?_); ((repeat' (first | exact All2.nil | refine All2.cons ?_ ?_ | exact SubV.one (SubT.same _) | exact SubV.one (SubT.nil _) | refine SubV.agg ?_ | exact SubT.same _ | exact SubT.nil _)); first | done | fail)))
        · ((repeat' (first | refine thenL_n ?_ | refine thenL_r ?_ | refine thenL_x ?_ | refine blockL_n ?_ | refine blockL_r ?_ | refine blockL_x ?_ | refine blockL_y rfl ?_ | refine awp_seq ?_ | refine awp_block ?_ | refine awp_ret ?_ | refine awp_exit ?_ | refine awp_skip ?_ | exact absurd hcond (by decide) | (first | (refine awp_txt ?_; refine runs_to [] (by simp only [go_sem, hk8, hai, hck, hk0, h0k, hak, hbk, hx0]; rfl) ?_) | (refine awp_draw mixed ?_; refine runs_to [] (by simp only [go_sem, hk8, hai, hck, hk0, h0k, hak, hbk, hx0]; rfl) ?_)) | refine runD_nil ⟨by kernel_rfl, ?_⟩ | refine runD_nil ?_ | (refine awp_cond (b := _) (by simp only [go_sem, evB, hk8, hai, hck, hk0, h0k, hak, hbk, hx0]; rfl) (fun hcond => ?_) (fun hcond => ?_)))); all_goals (refine leaves_ok (by first | exact Or.inl rfl | exact Or.inr rfl) (by simp only [go_sem, resAll, resL, packL, vecsOf, freezeAll, freezeL, hk8, hai, hck, hk0, h0k, hak, hbk, hx0]; rfl) ?_; (first | refine SubR.v ?_ | refine SubR.tup ?_); ((repeat' (first | exact All2.nil | refine All2.cons ?_ ?_ | exact SubV.one (SubT.same _) | exact SubV.one (SubT.nil _) | refine SubV.agg ?_ | exact SubT.same _ | exact SubT.nil _)); first | done | fail)))
      · have hk8' : k = 8 := by omega
        have h0k : (0 : Int) < (k : Int) := by omega
        have he8 : ((k : Int) == 8) = true := by simp; omega
        have hb8 : b[at_ + 8]? = some x := by rw [← hk8']; exact hbk
        by_cases hx0 : (x == 0) = true
        · ((repeat' (first | refine thenL_n ?_ | refine thenL_r ?_ | refine thenL_x ?_ | refine blockL_n ?_ | refine blockL_r ?_ | refine blockL_x ?_ | refine blockL_y rfl ?_ | refine awp_seq ?_ | refine awp_block ?_ | refine awp_ret ?_ | refine awp_exit ?_ | refine awp_skip ?_ | exact absurd hcond (by decide) | (first | (refine awp_txt ?_; refine runs_to [] (by simp only [go_sem, hk8, hk0, h0k, hak, hbk, hx0]; rfl) ?_) | (refine awp_draw mixed ?_; refine runs_to [] (by simp only [go_sem, hk8, hk0, h0k, hak, hbk, hx0]; rfl) ?_)) | refine runD_nil ⟨by kernel_rfl, ?_⟩ | refine runD_nil ?_ | (refine awp_cond (b := _) (by simp only [go_sem, evB, hk8, hk0, h0k, hak, hbk, hx0]; rfl) (fun hcond => ?_) (fun hcond => ?_)))); all_goals (refine leaves_ok (by first | exact Or.inl rfl | exact Or.inr rfl) (by simp only [go_sem, resAll, resL, packL, vecsOf, freezeAll, freezeL, hk8, hk0, h0k, hak, hbk, hx0]; rfl) ?_; (first | refine SubR.v ?_ | refine SubR.tup ?_); ((repeat' (first | exact All2.nil | refine All2.cons ?_ ?_ | exact SubV.one (SubT.same _) | exact SubV.one (SubT.nil _) | refine SubV.agg ?_ | exact SubT.same _ | exact SubT.nil _)); first | done | fail)))
        · have hx0' : (x == 0) = false := by simpa using hx0
          have h63 : 63 < x := by
            rcases hc with hc | hc
            · rw [hx] at hc; simp at hc hx0'; exact absurd hc.2 hx0'
            · exact (hbig.1 hc).2
          ((repeat' (first | refine thenL_n ?_ | refine thenL_r ?_ | refine thenL_x ?_ | refine blockL_n ?_ | refine blockL_r ?_ | refine blockL_x ?_ | refine blockL_y rfl ?_ | refine awp_seq ?_ | refine awp_block ?_ | refine awp_ret ?_ | refine awp_exit ?_ | refine awp_skip ?_ | exact absurd hcond (by decide) | (first | (refine awp_txt ?_; refine runs_to [] (by simp only [go_sem, hk8, hk0, h0k, hak, hbk, hx0', he8, hb8, h8, h63]; rfl) ?_) | (refine awp_draw mixed ?_; refine runs_to [] (by simp only [go_sem, hk8, hk0, h0k, hak, hbk, hx0', he8, hb8, h8, h63]; rfl) ?_)) | refine runD_nil ⟨by kernel_rfl, ?_⟩ | refine runD_nil ?_ | (refine awp_cond (b := _) (by simp only [go_sem, evB, hk8, hk0, h0k, hak, hbk, hx0', he8, hb8, h8, h63]; rfl) (fun hcond => ?_) (fun hcond => ?_)))); all_goals (refine leaves_ok (by first | exact Or.inl rfl | exact Or.inr rfl) (by simp only [go_sem, resAll, resL, packL, vecsOf, freezeAll, freezeL, hk8, hk0, h0k, hak, hbk, hx0', he8, hb8, h8, h63]; rfl) ?_; (first | refine SubR.v ?_ | refine SubR.tup ?_); ((repeat' (first | exact All2.nil | refine All2.cons ?_ ?_ | exact SubV.one (SubT.same _) | exact SubV.one (SubT.nil _) | refine SubV.agg ?_ | exact SubT.same _ | exact SubT.nil _)); first | done | fail)))
    · rw [rd_good hk hc]
      simp only [rfR, if_true]
      have hkk : IntKind.i64.wrap (((at_ + k : Nat) : Int) + 1) = ((at_ + (k + 1) : Nat) : Int) := by rw [IntWalk.i64_in _ ⟨by omega, by omega⟩]; omega
      have hd0 : val ((xs.take (k + 1)).drop (k + 1)) = 0 := by
        rw [List.drop_of_length_le (by rw [List.length_take]; omega)]; rfl
      have hk1 : (k : Int) = ((k + 1 : Nat) : Int) - 1 := by omega
      have hz63 : ¬ (k = 8 ∧ 63 < x) := fun h => hc (.inr (hbig.2 h))
      by_cases hk8 : (((k + 1 : Nat)) : Int) < 9
      · have hne8 : ((k : Int) == 8) = false := by simp; omega
        by_cases h0k : (0 : Int) < (k : Int)
        · have hx0 : (x == 0) = false := by
            cases h : x == 0 with
            | false => rfl
            | true => exact absurd (.inl ⟨by omega, by rw [hx]; simpa using h⟩) hc
          rcases hck with hck | hck
          · (repeat' (first | refine thenL_n ?_ | refine thenL_r ?_ | refine thenL_x ?_ | refine blockL_n ?_ | refine blockL_r ?_ | refine blockL_x ?_ | refine blockL_y rfl ?_ | refine awp_seq ?_ | refine awp_block ?_ | refine awp_ret ?_ | refine awp_exit ?_ | refine awp_skip ?_ | exact absurd hcond (by decide) | (first | (refine awp_txt ?_; refine runs_to [] (by simp only [go_sem, hk8, hai, hck, hk0, h0k, hak, hbk, hx0, hne8]; rfl) ?_) | (refine awp_draw mixed ?_; refine runs_to [] (by simp only [go_sem, hk8, hai, hck, hk0, h0k, hak, hbk, hx0, hne8]; rfl) ?_)) | refine runD_nil ⟨by kernel_rfl, ?_⟩ | refine runD_nil ?_ | (refine awp_cond (b := _) (by simp only [go_sem, evB, hk8, hai, hck, hk0, h0k, hak, hbk, hx0, hne8]; rfl) (fun hcond => ?_) (fun hcond => ?_))))
            refine awp_loop (fun j : Nat => [(.slot 0, sT (vBy b)), (.slot 1, sI at_), (.slot 7, sI k), (.slot 9, sI (val ((xs.take (k + 1)).drop j))), (.slot 10, sI ((j : Int) - 1))]) (fun j => j ≤ k + 1) (fun j => j) (k + 1) (Nat.le_refl _) (by refine Imp.of_in ?_; simp only [go_sem, hd0, hk1]) ?_
            intro j hj
            by_cases hj0 : (0 : Int) ≤ (j : Int) - 1
            · obtain ⟨m, rfl⟩ : ∃ m, j = m + 1 := ⟨j - 1, by omega⟩
              have hm1 : ((m + 1 : Nat) : Int) - 1 = (m : Int) := by omega
              have hmk : m < xs.length := by omega
              have hy : xs[m]? = some xs[m] := List.getElem?_eq_getElem hmk
              have hby : b[at_ + m]? = some xs[m] := (hix m).trans hy
              have hyr := hbx xs[m] (List.getElem_mem _)
              have hvd := val_drop (k := k) (by omega) hy
              generalize xs[m] = y at hy hby hyr hvd
              have hv0 := val_nonneg ((xs.take (k + 1)).drop (m + 1))
              have hv1 := val_lt ((xs.take (k + 1)).drop m)
              have hv2 : (128 : Nat) ^ ((xs.take (k + 1)).drop m).length ≤ 9223372036854775808 := pow_le (by rw [List.length_drop, List.length_take]; omega)
              have ham : IntKind.i64.wrap ((at_ : Int) + (m : Int)) = ((at_ + m : Nat) : Int) := by rw [IntWalk.i64_in _ ⟨by omega, by omega⟩]; rfl
              have hw1 : IntKind.i64.wrap (val ((xs.take (k + 1)).drop (m + 1)) * 128) = val ((xs.take (k + 1)).drop (m + 1)) * 128 := IntWalk.i64_in _ ⟨by omega, by omega⟩
              have hw2 : IntKind.i64.wrap y = y := IntWalk.i64_in _ ⟨by omega, by omega⟩
              have hw3 : y.tmod 128 = y % 128 := IntWalk.rem_in _ _ (by omega)
              have hw4 : IntKind.i64.wrap (val ((xs.take (k + 1)).drop (m + 1)) * 128 + y % 128) = val ((xs.take (k + 1)).drop m) := by rw [IntWalk.i64_in _ ⟨by omega, by omega⟩, hvd]; omega
              have hw5 : IntKind.i64.wrap ((m : Int) - 1) = (m : Int) - 1 := IntWalk.i64_in _ ⟨by omega, by omega⟩
              have hm0 : (0 : Int) ≤ (m : Int) := by omega
              (repeat' (first | refine thenL_n ?_ | refine thenL_r ?_ | refine thenL_x ?_ | refine blockL_n ?_ | refine blockL_r ?_ | refine blockL_x ?_ | refine blockL_y rfl ?_ | refine awp_seq ?_ | refine awp_block ?_ | refine awp_ret ?_ | refine awp_exit ?_ | refine awp_skip ?_ | exact absurd hcond (by decide) | (first | (refine awp_txt ?_; refine runs_to [] (by simp only [go_sem, hm1, hm0, hby, ham, hw1, hw2, hw3, hw4, hw5]; rfl) ?_) | (refine awp_draw mixed ?_; refine runs_to [] (by simp only [go_sem, hm1, hm0, hby, ham, hw1, hw2, hw3, hw4, hw5]; rfl) ?_)) | refine runD_nil ⟨by kernel_rfl, ?_⟩ | refine runD_nil ?_ | (refine awp_cond (b := _) (by simp only [go_sem, evB, hm1, hm0, hby, ham, hw1, hw2, hw3, hw4, hw5]; rfl) (fun hcond => ?_) (fun hcond => ?_))))
              refine ⟨m, by omega, by omega, (by refine Imp.of_in ?_; simp only [go_sem])⟩
            · have hj00 : j = 0 := by omega
              subst hj00
              have hd00 : val ((xs.take (k + 1)).drop 0) = val (xs.take (k + 1)) := rfl
              ((repeat' (first | refine thenL_n ?_ | refine thenL_r ?_ | refine thenL_x ?_ | refine blockL_n ?_ | refine blockL_r ?_ | refine blockL_x ?_ | refine blockL_y rfl ?_ | refine awp_seq ?_ | refine awp_block ?_ | refine awp_ret ?_ | refine awp_exit ?_ | refine awp_skip ?_ | exact absurd hcond (by decide) | (first | (refine awp_txt ?_; refine runs_to [] (by simp only [go_sem, hj0, hak, hkk, hd00]; rfl) ?_) | (refine awp_draw mixed ?_; refine runs_to [] (by simp only [go_sem, hj0, hak, hkk, hd00]; rfl) ?_)) | refine runD_nil ⟨by kernel_rfl, ?_⟩ | refine runD_nil ?_ | (refine awp_cond (b := _) (by simp only [go_sem, evB, hj0, hak, hkk, hd00]; rfl) (fun hcond => ?_) (fun hcond => ?_)))); all_goals (refine leaves_ok (by first | exact Or.inl rfl | exact Or.inr rfl) (by simp only [go_sem, resAll, resL, packL, vecsOf, freezeAll, freezeL, hj0, hak, hkk, hd00]; rfl) ?_; (first | refine SubR.v ?_ | refine SubR.tup ?_); ((repeat' (first | exact All2.nil | refine All2.cons ?_ ?_ | exact SubV.one (SubT.same _) | exact SubV.one (SubT.nil _) | refine SubV.agg ?_ | exact SubT.same _ | exact SubT.nil _)); first | done | fail)))
          · (repeat' (first | refine thenL_n ?_ | refine thenL_r ?_ | refine thenL_x ?_ | refine blockL_n ?_ | refine blockL_r ?_ | refine blockL_x ?_ | refine blockL_y rfl ?_ | refine awp_seq ?_ | refine awp_block ?_ | refine awp_ret ?_ | refine awp_exit ?_ | refine awp_skip ?_ | exact absurd hcond (by decide) | (first | (refine awp_txt ?_; refine runs_to [] (by simp only [go_sem, hk8, hai, hck, hk0, h0k, hak, hbk, hx0, hne8]; rfl) ?_) | (refine awp_draw mixed ?_; refine runs_to [] (by simp only [go_sem, hk8, hai, hck, hk0, h0k, hak, hbk, hx0, hne8]; rfl) ?_)) | refine runD_nil ⟨by kernel_rfl, ?_⟩ | refine runD_nil ?_ | (refine awp_cond (b := _) (by simp only [go_sem, evB, hk8, hai, hck, hk0, h0k, hak, hbk, hx0, hne8]; rfl) (fun hcond => ?_) (fun hcond => ?_))))
            refine awp_loop (fun j : Nat => [(.slot 0, sT (vBy b)), (.slot 1, sI at_), (.slot 7, sI k), (.slot 9, sI (val ((xs.take (k + 1)).drop j))), (.slot 10, sI ((j : Int) - 1))]) (fun j => j ≤ k + 1) (fun j => j) (k + 1) (Nat.le_refl _) (by refine Imp.of_in ?_; simp only [go_sem, hd0, hk1]) ?_
            intro j hj
            by_cases hj0 : (0 : Int) ≤ (j : Int) - 1
            · obtain ⟨m, rfl⟩ : ∃ m, j = m + 1 := ⟨j - 1, by omega⟩
              have hm1 : ((m + 1 : Nat) : Int) - 1 = (m : Int) := by omega
              have hmk : m < xs.length := by omega
              have hy : xs[m]? = some xs[m] := List.getElem?_eq_getElem hmk
              have hby : b[at_ + m]? = some xs[m] := (hix m).trans hy
              have hyr := hbx xs[m] (List.getElem_mem _)
              have hvd := val_drop (k := k) (by omega) hy
              generalize xs[m] = y at hy hby hyr hvd
              have hv0 := val_nonneg ((xs.take (k + 1)).drop (m + 1))
              have hv1 := val_lt ((xs.take (k + 1)).drop m)
              have hv2 : (128 : Nat) ^ ((xs.take (k + 1)).drop m).length ≤ 9223372036854775808 := pow_le (by rw [List.length_drop, List.length_take]; omega)
              have ham : IntKind.i64.wrap ((at_ : Int) + (m : Int)) = ((at_ + m : Nat) : Int) := by rw [IntWalk.i64_in _ ⟨by omega, by omega⟩]; rfl
              have hw1 : IntKind.i64.wrap (val ((xs.take (k + 1)).drop (m + 1)) * 128) = val ((xs.take (k + 1)).drop (m + 1)) * 128 := IntWalk.i64_in _ ⟨by omega, by omega⟩
              have hw2 : IntKind.i64.wrap y = y := IntWalk.i64_in _ ⟨by omega, by omega⟩
              have hw3 : y.tmod 128 = y % 128 := IntWalk.rem_in _ _ (by omega)
              have hw4 : IntKind.i64.wrap (val ((xs.take (k + 1)).drop (m + 1)) * 128 + y % 128) = val ((xs.take (k + 1)).drop m) := by rw [IntWalk.i64_in _ ⟨by omega, by omega⟩, hvd]; omega
              have hw5 : IntKind.i64.wrap ((m : Int) - 1) = (m : Int) - 1 := IntWalk.i64_in _ ⟨by omega, by omega⟩
              have hm0 : (0 : Int) ≤ (m : Int) := by omega
              (repeat' (first | refine thenL_n ?_ | refine thenL_r ?_ | refine thenL_x ?_ | refine blockL_n ?_ | refine blockL_r ?_ | refine blockL_x ?_ | refine blockL_y rfl ?_ | refine awp_seq ?_ | refine awp_block ?_ | refine awp_ret ?_ | refine awp_exit ?_ | refine awp_skip ?_ | exact absurd hcond (by decide) | (first | (refine awp_txt ?_; refine runs_to [] (by simp only [go_sem, hm1, hm0, hby, ham, hw1, hw2, hw3, hw4, hw5]; rfl) ?_) | (refine awp_draw mixed ?_; refine runs_to [] (by simp only [go_sem, hm1, hm0, hby, ham, hw1, hw2, hw3, hw4, hw5]; rfl) ?_)) | refine runD_nil ⟨by kernel_rfl, ?_⟩ | refine runD_nil ?_ | (refine awp_cond (b := _) (by simp only [go_sem, evB, hm1, hm0, hby, ham, hw1, hw2, hw3, hw4, hw5]; rfl) (fun hcond => ?_) (fun hcond => ?_))))
              refine ⟨m, by omega, by omega, (by refine Imp.of_in ?_; simp only [go_sem])⟩
            · have hj00 : j = 0 := by omega
              subst hj00
              have hd00 : val ((xs.take (k + 1)).drop 0) = val (xs.take (k + 1)) := rfl
              ((repeat' (first | refine thenL_n ?_ | refine thenL_r ?_ | refine thenL_x ?_ | refine blockL_n ?_ | refine blockL_r ?_ | refine blockL_x ?_ | refine blockL_y rfl ?_ | refine awp_seq ?_ | refine awp_block ?_ | refine awp_ret ?_ | refine awp_exit ?_ | refine awp_skip ?_ | exact absurd hcond (by decide) | (first | (refine awp_txt ?_; refine runs_to [] (by simp only [go_sem, hj0, hak, hkk, hd00]; rfl) ?_) | (refine awp_draw mixed ?_; refine runs_to [] (by simp only [go_sem, hj0, hak, hkk, hd00]; rfl) ?_)) | refine runD_nil ⟨by kernel_rfl, ?_⟩ | refine runD_nil ?_ | (refine awp_cond (b := _) (by simp only [go_sem, evB, hj0, hak, hkk, hd00]; rfl) (fun hcond => ?_) (fun hcond => ?_)))); all_goals (refine leaves_ok (by first | exact Or.inl rfl | exact Or.inr rfl) (by simp only [go_sem, resAll, resL, packL, vecsOf, freezeAll, freezeL, hj0, hak, hkk, hd00]; rfl) ?_; (first | refine SubR.v ?_ | refine SubR.tup ?_); ((repeat' (first | exact All2.nil | refine All2.cons ?_ ?_ | exact SubV.one (SubT.same _) | exact SubV.one (SubT.nil _) | refine SubV.agg ?_ | exact SubT.same _ | exact SubT.nil _)); first | done | fail)))
        · rcases hck with hck | hck
          · (repeat' (first | refine thenL_n ?_ | refine thenL_r ?_ | refine thenL_x ?_ | refine blockL_n ?_ | refine blockL_r ?_ | refine blockL_x ?_ | refine blockL_y rfl ?_ | refine awp_seq ?_ | refine awp_block ?_ | refine awp_ret ?_ | refine awp_exit ?_ | refine awp_skip ?_ | exact absurd hcond (by decide) | (first | (refine awp_txt ?_; refine runs_to [] (by simp only [go_sem, hk8, hai, hck, hk0, h0k, hak, hbk, hne8]; rfl) ?_) | (refine awp_draw mixed ?_; refine runs_to [] (by simp only [go_sem, hk8, hai, hck, hk0, h0k, hak, hbk, hne8]; rfl) ?_)) | refine runD_nil ⟨by kernel_rfl, ?_⟩ | refine runD_nil ?_ | (refine awp_cond (b := _) (by simp only [go_sem, evB, hk8, hai, hck, hk0, h0k, hak, hbk, hne8]; rfl) (fun hcond => ?_) (fun hcond => ?_))))
            refine awp_loop (fun j : Nat => [(.slot 0, sT (vBy b)), (.slot 1, sI at_), (.slot 7, sI k), (.slot 9, sI (val ((xs.take (k + 1)).drop j))), (.slot 10, sI ((j : Int) - 1))]) (fun j => j ≤ k + 1) (fun j => j) (k + 1) (Nat.le_refl _) (by refine Imp.of_in ?_; simp only [go_sem, hd0, hk1]) ?_
            intro j hj
            by_cases hj0 : (0 : Int) ≤ (j : Int) - 1
            · obtain ⟨m, rfl⟩ : ∃ m, j = m + 1 := ⟨j - 1, by omega⟩
              have hm1 : ((m + 1 : Nat) : Int) - 1 = (m : Int) := by omega
              have hmk : m < xs.length := by omega
              have hy : xs[m]? = some xs[m] := List.getElem?_eq_getElem hmk
              have hby : b[at_ + m]? = some xs[m] := (hix m).trans hy
              have hyr := hbx xs[m] (List.getElem_mem _)
              have hvd := val_drop (k := k) (by omega) hy
              generalize xs[m] = y at hy hby hyr hvd
              have hv0 := val_nonneg ((xs.take (k + 1)).drop (m + 1))
              have hv1 := val_lt ((xs.take (k + 1)).drop m)
              have hv2 : (128 : Nat) ^ ((xs.take (k + 1)).drop m).length ≤ 9223372036854775808 := pow_le (by rw [List.length_drop, List.length_take]; omega)
              have ham : IntKind.i64.wrap ((at_ : Int) + (m : Int)) = ((at_ + m : Nat) : Int) := by rw [IntWalk.i64_in _ ⟨by omega, by omega⟩]; rfl
              have hw1 : IntKind.i64.wrap (val ((xs.take (k + 1)).drop (m + 1)) * 128) = val ((xs.take (k + 1)).drop (m + 1)) * 128 := IntWalk.i64_in _ ⟨by omega, by omega⟩
              have hw2 : IntKind.i64.wrap y = y := IntWalk.i64_in _ ⟨by omega, by omega⟩
              have hw3 : y.tmod 128 = y % 128 := IntWalk.rem_in _ _ (by omega)
              have hw4 : IntKind.i64.wrap (val ((xs.take (k + 1)).drop (m + 1)) * 128 + y % 128) = val ((xs.take (k + 1)).drop m) := by rw [IntWalk.i64_in _ ⟨by omega, by omega⟩, hvd]; omega
              have hw5 : IntKind.i64.wrap ((m : Int) - 1) = (m : Int) - 1 := IntWalk.i64_in _ ⟨by omega, by omega⟩
              have hm0 : (0 : Int) ≤ (m : Int) := by omega
              (repeat' (first | refine thenL_n ?_ | refine thenL_r ?_ | refine thenL_x ?_ | refine blockL_n ?_ | refine blockL_r ?_ | refine blockL_x ?_ | refine blockL_y rfl ?_ | refine awp_seq ?_ | refine awp_block ?_ | refine awp_ret ?_ | refine awp_exit ?_ | refine awp_skip ?_ | exact absurd hcond (by decide) | (first | (refine awp_txt ?_; refine runs_to [] (by simp only [go_sem, hm1, hm0, hby, ham, hw1, hw2, hw3, hw4, hw5]; rfl) ?_) | (refine awp_draw mixed ?_; refine runs_to [] (by simp only [go_sem, hm1, hm0, hby, ham, hw1, hw2, hw3, hw4, hw5]; rfl) ?_)) | refine runD_nil ⟨by kernel_rfl, ?_⟩ | refine runD_nil ?_ | (refine awp_cond (b := _) (by simp only [go_sem, evB, hm1, hm0, hby, ham, hw1, hw2, hw3, hw4, hw5]; rfl) (fun hcond => ?_) (fun hcond => ?_))))
              refine ⟨m, by omega, by omega, (by refine Imp.of_in ?_; simp only [go_sem])⟩
            · have hj00 : j = 0 := by omega
              subst hj00
              have hd00 : val ((xs.take (k + 1)).drop 0) = val (xs.take (k + 1)) := rfl
              ((repeat' (first | refine thenL_n ?_ | refine thenL_r ?_ | refine thenL_x ?_ | refine blockL_n ?_ | refine blockL_r ?_ | refine blockL_x ?_ | refine blockL_y rfl ?_ | refine awp_seq ?_ | refine awp_block ?_ | refine awp_ret ?_ | refine awp_exit ?_ | refine awp_skip ?_ | exact absurd hcond (by decide) | (first | (refine awp_txt ?_; refine runs_to [] (by simp only [go_sem, hj0, hak, hkk, hd00]; rfl) ?_) | (refine awp_draw mixed ?_; refine runs_to [] (by simp only [go_sem, hj0, hak, hkk, hd00]; rfl) ?_)) | refine runD_nil ⟨by kernel_rfl, ?_⟩ | refine runD_nil ?_ | (refine awp_cond (b := _) (by simp only [go_sem, evB, hj0, hak, hkk, hd00]; rfl) (fun hcond => ?_) (fun hcond => ?_)))); all_goals (refine leaves_ok (by first | exact Or.inl rfl | exact Or.inr rfl) (by simp only [go_sem, resAll, resL, packL, vecsOf, freezeAll, freezeL, hj0, hak, hkk, hd00]; rfl) ?_; (first | refine SubR.v ?_ | refine SubR.tup ?_); ((repeat' (first | exact All2.nil | refine All2.cons ?_ ?_ | exact SubV.one (SubT.same _) | exact SubV.one (SubT.nil _) | refine SubV.agg ?_ | exact SubT.same _ | exact SubT.nil _)); first | done | fail)))
          · (repeat' (first | refine thenL_n ?_ | refine thenL_r ?_ | refine thenL_x ?_ | refine blockL_n ?_ | refine blockL_r ?_ | refine blockL_x ?_ | refine blockL_y rfl ?_ | refine awp_seq ?_ | refine awp_block ?_ | refine awp_ret ?_ | refine awp_exit ?_ | refine awp_skip ?_ | exact absurd hcond (by decide) | (first | (refine awp_txt ?_; refine runs_to [] (by simp only [go_sem, hk8, hai, hck, hk0, h0k, hak, hbk, hne8]; rfl) ?_) | (refine awp_draw mixed ?_; refine runs_to [] (by simp only [go_sem, hk8, hai, hck, hk0, h0k, hak, hbk, hne8]; rfl) ?_)) | refine runD_nil ⟨by kernel_rfl, ?_⟩ | refine runD_nil ?_ | (refine awp_cond (b := _) (by simp only [go_sem, evB, hk8, hai, hck, hk0, h0k, hak, hbk, hne8]; rfl) (fun hcond => ?_) (fun hcond => ?_))))
            refine awp_loop (fun j : Nat => [(.slot 0, sT (vBy b)), (.slot 1, sI at_), (.slot 7, sI k), (.slot 9, sI (val ((xs.take (k + 1)).drop j))), (.slot 10, sI ((j : Int) - 1))]) (fun j => j ≤ k + 1) (fun j => j) (k + 1) (Nat.le_refl _) (by refine Imp.of_in ?_; simp only [go_sem, hd0, hk1]) ?_
            intro j hj
            by_cases hj0 : (0 : Int) ≤ (j : Int) - 1
            · obtain ⟨m, rfl⟩ : ∃ m, j = m + 1 := ⟨j - 1, by omega⟩
              have hm1 : ((m + 1 : Nat) : Int) - 1 = (m : Int) := by omega
              have hmk : m < xs.length := by omega
              have hy : xs[m]? = some xs[m] := List.getElem?_eq_getElem hmk
              have hby : b[at_ + m]? = some xs[m] := (hix m).trans hy
              have hyr := hbx xs[m] (List.getElem_mem _)
              have hvd := val_drop (k := k) (by omega) hy
              generalize xs[m] = y at hy hby hyr hvd
              have hv0 := val_nonneg ((xs.take (k + 1)).drop (m + 1))
              have hv1 := val_lt ((xs.take (k + 1)).drop m)
              have hv2 : (128 : Nat) ^ ((xs.take (k + 1)).drop m).length ≤ 9223372036854775808 := pow_le (by rw [List.length_drop, List.length_take]; omega)
              have ham : IntKind.i64.wrap ((at_ : Int) + (m : Int)) = ((at_ + m : Nat) : Int) := by rw [IntWalk.i64_in _ ⟨by omega, by omega⟩]; rfl
              have hw1 : IntKind.i64.wrap (val ((xs.take (k + 1)).drop (m + 1)) * 128) = val ((xs.take (k + 1)).drop (m + 1)) * 128 := IntWalk.i64_in _ ⟨by omega, by omega⟩
              have hw2 : IntKind.i64.wrap y = y := IntWalk.i64_in _ ⟨by omega, by omega⟩
              have hw3 : y.tmod 128 = y % 128 := IntWalk.rem_in _ _ (by omega)
              have hw4 : IntKind.i64.wrap (val ((xs.take (k + 1)).drop (m + 1)) * 128 + y % 128) = val ((xs.take (k + 1)).drop m) := by rw [IntWalk.i64_in _ ⟨by omega, by omega⟩, hvd]; omega
              have hw5 : IntKind.i64.wrap ((m : Int) - 1) = (m : Int) - 1 := IntWalk.i64_in _ ⟨by omega, by omega⟩
              have hm0 : (0 : Int) ≤ (m : Int) := by omega
              (repeat' (first | refine thenL_n ?_ | refine thenL_r ?_ | refine thenL_x ?_ | refine blockL_n ?_ | refine blockL_r ?_ | refine blockL_x ?_ | refine blockL_y rfl ?_ | refine awp_seq ?_ | refine awp_block ?_ | refine awp_ret ?_ | refine awp_exit ?_ | refine awp_skip ?_ | exact absurd hcond (by decide) | (first | (refine awp_txt ?_; refine runs_to [] (by simp only [go_sem, hm1, hm0, hby, ham, hw1, hw2, hw3, hw4, hw5]; rfl) ?_) | (refine awp_draw mixed ?_; refine runs_to [] (by simp only [go_sem, hm1, hm0, hby, ham, hw1, hw2, hw3, hw4, hw5]; rfl) ?_)) | refine runD_nil ⟨by kernel_rfl, ?_⟩ | refine runD_nil ?_ | (refine awp_cond (b := _) (by simp only [go_sem, evB, hm1, hm0, hby, ham, hw1, hw2, hw3, hw4, hw5]; rfl) (fun hcond => ?_) (fun hcond => ?_))))
              refine ⟨m, by omega, by omega, (by refine Imp.of_in ?_; simp only [go_sem])⟩
            · have hj00 : j = 0 := by omega
              subst hj00
              have hd00 : val ((xs.take (k + 1)).drop 0) = val (xs.take (k + 1)) := rfl
              ((repeat' (first | refine thenL_n ?_ | refine thenL_r ?_ | refine thenL_x ?_ | refine blockL_n ?_ | refine blockL_r ?_ | refine blockL_x ?_ | refine blockL_y rfl ?_ | refine awp_seq ?_ | refine awp_block ?_ | refine awp_ret ?_ | refine awp_exit ?_ | refine awp_skip ?_ | exact absurd hcond (by decide) | (first | (refine awp_txt ?_; refine runs_to [] (by simp only [go_sem, hj0, hak, hkk, hd00]; rfl) ?_) | (refine awp_draw mixed ?_; refine runs_to [] (by simp only [go_sem, hj0, hak, hkk, hd00]; rfl) ?_)) | refine runD_nil ⟨by kernel_rfl, ?_⟩ | refine runD_nil ?_ | (refine awp_cond (b := _) (by simp only [go_sem, evB, hj0, hak, hkk, hd00]; rfl) (fun hcond => ?_) (fun hcond => ?_)))); all_goals (refine leaves_ok (by first | exact Or.inl rfl | exact Or.inr rfl) (by simp only [go_sem, resAll, resL, packL, vecsOf, freezeAll, freezeL, hj0, hak, hkk, hd00]; rfl) ?_; (first | refine SubR.v ?_ | refine SubR.tup ?_); ((repeat' (first | exact All2.nil | refine All2.cons ?_ ?_ | exact SubV.one (SubT.same _) | exact SubV.one (SubT.nil _) | refine SubV.agg ?_ | exact SubT.same _ | exact SubT.nil _)); first | done | fail)))
      · have hk8' : k = 8 := by omega
        have h0k : (0 : Int) < (k : Int) := by omega
        have he8 : ((k : Int) == 8) = true := by simp; omega
        have hb8 : b[at_ + 8]? = some x := by rw [← hk8']; exact hbk
        have hx0 : (x == 0) = false := by
          cases h : x == 0 with
          | false => rfl
          | true => exact absurd (.inl ⟨by omega, by rw [hx]; simpa using h⟩) hc
        have h63 : ¬ 63 < x := fun h => hz63 ⟨hk8', h⟩
        (repeat' (first | refine thenL_n ?_ | refine thenL_r ?_ | refine thenL_x ?_ | refine blockL_n ?_ | refine blockL_r ?_ | refine blockL_x ?_ | refine blockL_y rfl ?_ | refine awp_seq ?_ | refine awp_block ?_ | refine awp_ret ?_ | refine awp_exit ?_ | refine awp_skip ?_ | exact absurd hcond (by decide) | (first | (refine awp_txt ?_; refine runs_to [] (by simp only [go_sem, hk8, hk0, h0k, hak, hbk, hx0, he8, hb8, h8, h63]; rfl) ?_) | (refine awp_draw mixed ?_; refine runs_to [] (by simp only [go_sem, hk8, hk0, h0k, hak, hbk, hx0, he8, hb8, h8, h63]; rfl) ?_)) | refine runD_nil ⟨by kernel_rfl, ?_⟩ | refine runD_nil ?_ | (refine awp_cond (b := _) (by simp only [go_sem, evB, hk8, hk0, h0k, hak, hbk, hx0, he8, hb8, h8, h63]; rfl) (fun hcond => ?_) (fun hcond => ?_))))
        refine awp_loop (fun j : Nat => [(.slot 0, sT (vBy b)), (.slot 1, sI at_), (.slot 7, sI k), (.slot 9, sI (val ((xs.take (k + 1)).drop j))), (.slot 10, sI ((j : Int) - 1))]) (fun j => j ≤ k + 1) (fun j => j) (k + 1) (Nat.le_refl _) (by refine Imp.of_in ?_; simp only [go_sem, hd0, hk1]) ?_
        intro j hj
        by_cases hj0 : (0 : Int) ≤ (j : Int) - 1
        · obtain ⟨m, rfl⟩ : ∃ m, j = m + 1 := ⟨j - 1, by omega⟩
          have hm1 : ((m + 1 : Nat) : Int) - 1 = (m : Int) := by omega
          have hmk : m < xs.length := by omega
          have hy : xs[m]? = some xs[m] := List.getElem?_eq_getElem hmk
          have hby : b[at_ + m]? = some xs[m] := (hix m).trans hy
          have hyr := hbx xs[m] (List.getElem_mem _)
          have hvd := val_drop (k := k) (by omega) hy
          generalize xs[m] = y at hy hby hyr hvd
          have hv0 := val_nonneg ((xs.take (k + 1)).drop (m + 1))
          have hv1 := val_lt ((xs.take (k + 1)).drop m)
          have hv2 : (128 : Nat) ^ ((xs.take (k + 1)).drop m).length ≤ 9223372036854775808 := pow_le (by rw [List.length_drop, List.length_take]; omega)
          have ham : IntKind.i64.wrap ((at_ : Int) + (m : Int)) = ((at_ + m : Nat) : Int) := by rw [IntWalk.i64_in _ ⟨by omega, by omega⟩]; rfl
          have hw1 : IntKind.i64.wrap (val ((xs.take (k + 1)).drop (m + 1)) * 128) = val ((xs.take (k + 1)).drop (m + 1)) * 128 := IntWalk.i64_in _ ⟨by omega, by omega⟩
          have hw2 : IntKind.i64.wrap y = y := IntWalk.i64_in _ ⟨by omega, by omega⟩
          have hw3 : y.tmod 128 = y % 128 := IntWalk.rem_in _ _ (by omega)
          have hw4 : IntKind.i64.wrap (val ((xs.take (k + 1)).drop (m + 1)) * 128 + y % 128) = val ((xs.take (k + 1)).drop m) := by rw [IntWalk.i64_in _ ⟨by omega, by omega⟩, hvd]; omega
          have hw5 : IntKind.i64.wrap ((m : Int) - 1) = (m : Int) - 1 := IntWalk.i64_in _ ⟨by omega, by omega⟩
          have hm0 : (0 : Int) ≤ (m : Int) := by omega
          (repeat' (first | refine thenL_n ?_ | refine thenL_r ?_ | refine thenL_x ?_ | refine blockL_n ?_ | refine blockL_r ?_ | refine blockL_x ?_ | refine blockL_y rfl ?_ | refine awp_seq ?_ | refine awp_block ?_ | refine awp_ret ?_ | refine awp_exit ?_ | refine awp_skip ?_ | exact absurd hcond (by decide) | (first | (refine awp_txt ?_; refine runs_to [] (by simp only [go_sem, hm1, hm0, hby, ham, hw1, hw2, hw3, hw4, hw5]; rfl) ?_) | (refine awp_draw mixed ?_; refine runs_to [] (by simp only [go_sem, hm1, hm0, hby, ham, hw1, hw2, hw3, hw4, hw5]; rfl) ?_)) | refine runD_nil ⟨by kernel_rfl, ?_⟩ | refine runD_nil ?_ | (refine awp_cond (b := _) (by simp only [go_sem, evB, hm1, hm0, hby, ham, hw1, hw2, hw3, hw4, hw5]; rfl) (fun hcond => ?_) (fun hcond => ?_))))
          refine ⟨m, by omega, by omega, (by refine Imp.of_in ?_; simp only [go_sem])⟩
        · have hj00 : j = 0 := by omega
          subst hj00
          have hd00 : val ((xs.take (k + 1)).drop 0) = val (xs.take (k + 1)) := rfl
          ((repeat' (first | refine thenL_n ?_ | refine thenL_r ?_ | refine thenL_x ?_ | refine blockL_n ?_ | refine blockL_r ?_ | refine blockL_x ?_ | refine blockL_y rfl ?_ | refine awp_seq ?_ | refine awp_block ?_ | refine awp_ret ?_ | refine awp_exit ?_ | refine awp_skip ?_ | exact absurd hcond (by decide) | (first | (refine awp_txt ?_; refine runs_to [] (by simp only [go_sem, hj0, hak, hkk, hd00]; rfl) ?_) | (refine awp_draw mixed ?_; refine runs_to [] (by simp only [go_sem, hj0, hak, hkk, hd00]; rfl) ?_)) | refine runD_nil ⟨by kernel_rfl, ?_⟩ | refine runD_nil ?_ | (refine awp_cond (b := _) (by simp only [go_sem, evB, hj0, hak, hkk, hd00]; rfl) (fun hcond => ?_) (fun hcond => ?_)))); all_goals (refine leaves_ok (by first | exact Or.inl rfl | exact Or.inr rfl) (by simp only [go_sem, resAll, resL, packL, vecsOf, freezeAll, freezeL, hj0, hak, hkk, hd00]; rfl) ?_; (first | refine SubR.v ?_ | refine SubR.tup ?_); ((repeat' (first | exact All2.nil | refine All2.cons ?_ ?_ | exact SubV.one (SubT.same _) | exact SubV.one (SubT.nil _) | refine SubV.agg ?_ | exact SubT.same _ | exact SubT.nil _)); first | done | fail)))
end Go.Proofs.Ytbohgpdpglfepaa
