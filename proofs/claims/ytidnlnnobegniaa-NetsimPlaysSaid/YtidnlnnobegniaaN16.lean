import Derived.Test.YtidnlnnobegniaaN15
set_option maxHeartbeats 4000000
set_option maxRecDepth 10000
set_option linter.unusedVariables false
set_option linter.unusedSimpArgs false
namespace Go.Proofs.Ytidnlnnobegniaa
open Go.AM Go.RowKit
attribute [local irreducible] AWP thenL blockL AM.Leaves LeavesO RunD
attribute [local go_sem] act0 actN actX actFieldM actIndexM actLoadM actStoreM actAllocM actBoxM actBuildM actSliceM actRange
  actEntry actDelB bigT bigOp offHole sizeM keyC actMakeMap actLookup actMapEntry actEntryStore actMapUpdate
  actDelete actClear actLen2 actIndex2 actLoad2 actOne actApp2 actCall2 actMark isZI isZS isOwn
  QHole.at holeB runs stepR actF inF frzA frzW lastW act act1 actPick
  actNil actBin actUn actConv actExtract actFieldAddr actField actAlloc keysOf actBox actLoad treesOf
  actStore actIndex actLen actMx srcL actAppend actMake actBuild actBuildSlice boundL actSlice actCall
  actEqS isStruct isSlice actText actCopy litsOf kindsOK fieldsPlain eqAll eqop dstB dstN
  boolS litB litV sv binv unv lits takeC cellsR trees cellsW mxv
  repl parts fillAt fillRows V1.cs mkV ev evr AM.look put del applyL
  delD wrD undefS SV.to V1.to At.to keysL notIn freshKey PV.up PR.up entry
  entryV evp isAt actPtrNil capsL actFunc sameV sameVs pureCtx doc mkVar AM.Loc.key
  Cont.keys SV.keys V1.keys At.keys Cont.sub SV.sub V1.sub At.sub guardR argsL callR eq_self
  Nat.blt_eq Nat.blt Nat.ble Nat.beq_eq_true_eq beq_self_eq_true Array.toList List.map List.append_eq List.nil_append List.cons_append List.append_nil List.append_assoc
  Bool.and_eq_true decide_true decide_false decide_eq_true_eq Bool.not_true Bool.not_false reduceCtorEq if_true if_false ite_true ite_false reduceIte
  AM.Loc.slot.injEq AM.Loc.cell.injEq AM.Loc.vec.injEq List.getElem?_cons_zero List.getElem?_cons_succ List.getElem?_nil Option.map_some Option.map_none Option.toList List.flatMap_nil List.flatMap_cons Bool.and_true
  Bool.true_and Bool.and_false Bool.false_and Bool.true_eq_false Bool.false_eq_true Nat.reduceBEq Nat.reduceEqDiff bool_beq_tt bool_beq_ff bool_beq_tf bool_beq_ft List.length_cons
  List.length_nil List.drop List.take List.drop_zero List.take_zero List.all_cons List.all_nil Value.oneCell' Nat.zero_add Nat.reduceAdd Nat.reduceMul Nat.reduceSub
  Nat.reduceLT Nat.reduceLeDiff Int.reduceLT Int.reduceLE Int.reduceEq Int.reduceBEq Int.reduceBNe Int.reduceAdd Int.reduceSub Int.reduceMul Int.reduceNeg Int.reduceToNat
  Nat.succ_ne_zero List.replicate and_true true_and and_false false_and and_self ge_iff_le gt_iff_lt bne_self_eq_false List.zip_cons_cons List.zip_nil_left
  List.zip List.zipWith Int.natCast_nonneg Int.toNat_natCast List.getElem?_map List.length_map sT sI sB sR sP rV
  AllIn Int.toNat_zero Int.ofNat_zero Int.natCast_zero Nat.le_refl List.mapM_cons List.mapM_nil Option.bind_eq_bind Option.bind_some Option.bind_none Option.pure_def List.set_cons_zero
  List.set_cons_succ List.length_set cellsF_length cellsF_lit putF_one tt2 tt3 tt4 tt5 tt9 tt12 tt21
  tt22 tt23 tt24 tt30 tt39 tt40 tt41 tt42 tt43 tt44 tt45 tt49
  tt59 tt60 tt61 tt62 tt63 tt66 tt67 tt70 tt94 tt98 mo60 mo61
  mg22 mg3 zz22 zz3 bi50 bi51 bi52 bi54 im60 ho54
attribute [local go_sem] vlit rInt rBool vInts pInts vBy vvBy lI lB nK lN rB

/-- A call of a script. -/
structure OP where
  k : Int
  a : Int
  b : Int
  n : Int
  ms : List (List Int)
  ns : List Int
def opL (o : OP) : List T := [.lit (.int .i64 o.k), .lit (.int .i64 o.a), .lit (.int .i64 o.b), .lit (.int .i64 o.n), vvBy o.ms, vInts o.ns]
def vOps (l : List OP) : T := .sl 6 (l.map opL)
/-- What a script's lists are held to. -/
structure OP.ok (o : OP) : Prop where
  ms : o.ms.length * 24 ≤ 140737488351232
  m : ∀ m, m ∈ o.ms → m.length ≤ 140737488355328
  ns : o.ns.length * 8 ≤ 140737488351232

abbrev MSG := Int × Int × List Int
def msgL (p : MSG) : List T := [.lit (.int .i64 p.1), .lit (.int .i64 p.2.1), vBy p.2.2]

/-- A network and what was sent. -/
structure ST where
  Q : QF
  S : SF
  sent : List MSG
/-- What waits was sent; no queue has more than room. -/
structure ST.inv (x : ST) (room : Int) : Prop where
  sent : ∀ a b m, m ∈ x.Q a b → (a, b, m) ∈ x.sent
  len : ∀ a b, ((x.Q a b).length : Int) ≤ room
  m : ∀ p, p ∈ x.sent → p.2.2.length ≤ 140737488355328

theorem updQ_cases (Q : QF) (x y : Int) (ms : List (List Int)) (a b : Int) : (a = x ∧ b = y ∧ updQ Q x y ms a b = ms) ∨ updQ Q x y ms a b = Q a b := by
  simp only [updQ]
  split
  · rename_i h; exact .inl ⟨h.1, h.2, rfl⟩
  · exact .inr rfl

theorem inv_drop {x : ST} {room : Int} (h : x.inv room) (k : Nat) (a b i : Int) : (⟨(dropR k x.Q a b i).2, x.S, x.sent⟩ : ST).inv room := by
  unfold dropR
  split
  · exact ⟨h.sent, h.len, h.m⟩
  split
  · exact ⟨h.sent, h.len, h.m⟩
  refine ⟨fun c d m hm => ?_, fun c d => ?_, h.m⟩
  · simp only at hm
    rcases updQ_cases x.Q a b ((x.Q a b).eraseIdx i.toNat) c d with ⟨rfl, rfl, e⟩ | e <;> rw [e] at hm
    · exact h.sent _ _ m (List.mem_of_mem_eraseIdx hm)
    · exact h.sent _ _ m hm
  · simp only
    rcases updQ_cases x.Q a b ((x.Q a b).eraseIdx i.toNat) c d with ⟨rfl, rfl, e⟩ | e <;> rw [e]
    · have := h.len c d
      have h2 : ((x.Q c d).eraseIdx i.toNat).length ≤ (x.Q c d).length := (List.eraseIdx_sublist _ _).length_le
      omega
    · exact h.len c d

theorem inv_rep {x : ST} {room : Int} (h : x.inv room) (k : Nat) (a b i : Int) : (⟨(repR k room x.Q a b i).2, x.S, x.sent⟩ : ST).inv room := by
  unfold repR
  split
  · exact ⟨h.sent, h.len, h.m⟩
  split
  · exact ⟨h.sent, h.len, h.m⟩
  rename_i h1 h2
  obtain ⟨j, m0, rfl, hm0, hg⟩ := out_get (by simpa using h2)
  split
  · rename_i h3
    rw [hg]
    refine ⟨fun c d m hm => ?_, fun c d => ?_, h.m⟩
    · simp only at hm
      rcases updQ_cases x.Q a b (x.Q a b ++ [m0]) c d with ⟨rfl, rfl, e⟩ | e <;> rw [e] at hm
      · rcases List.mem_append.1 hm with hm | hm
        · exact h.sent _ _ m hm
        · simp at hm; subst hm; exact h.sent _ _ m (List.mem_of_getElem? hm0)
      · exact h.sent _ _ m hm
    · simp only
      rcases updQ_cases x.Q a b (x.Q a b ++ [m0]) c d with ⟨rfl, rfl, e⟩ | e <;> rw [e]
      · rw [List.length_append]; simp; omega
      · exact h.len c d
  · exact ⟨h.sent, h.len, h.m⟩

theorem cutQ_sub {Q : QF} {a b c d : Int} {m : List Int} (h : m ∈ cutQ Q a b 2 c d) : m ∈ Q c d := by
  simp only [cutQ] at h
  rcases updQ_cases (updQ Q a b []) b a [] c d with ⟨_, _, e⟩ | e <;> rw [e] at h
  · simp at h
  · rcases updQ_cases Q a b [] c d with ⟨_, _, e⟩ | e <;> rw [e] at h
    · simp at h
    · exact h
theorem cutQ_len (Q : QF) (a b c d : Int) : (cutQ Q a b 2 c d).length ≤ (Q c d).length := by
  simp only [cutQ]
  rcases updQ_cases (updQ Q a b []) b a [] c d with ⟨_, _, e⟩ | e <;> rw [e]
  · simp
  · rcases updQ_cases Q a b [] c d with ⟨_, _, e⟩ | e <;> rw [e]
    · simp
    · exact Nat.le_refl _
theorem inv_cut {x : ST} {room : Int} (h : x.inv room) (k : Nat) (a b : Int) : (⟨(cutR k x.Q x.S a b).2.1, (cutR k x.Q x.S a b).2.2, x.sent⟩ : ST).inv room := by
  unfold cutR
  split
  · exact ⟨h.sent, h.len, h.m⟩
  refine ⟨fun c d m hm => h.sent _ _ m (cutQ_sub hm), fun c d => ?_, h.m⟩
  have := h.len c d
  have h2 := cutQ_len x.Q a b c d
  simp only; omega

/-- Sent, and told so. -/
theorem inv_send {x : ST} {room : Int} (h : x.inv room) (k : Nat) (a b : Int) (ms : List (List Int)) (hms : ∀ m, m ∈ ms → m.length ≤ 140737488355328) (h0 : (sendR k room x.Q x.S a b ms).1 = 0) :
    (⟨(sendR k room x.Q x.S a b ms).2, x.S, x.sent ++ ms.map fun m => (a, b, m)⟩ : ST).inv room := by
  have hm2 : ∀ p, p ∈ x.sent ++ ms.map (fun m => (a, b, m)) → p.2.2.length ≤ 140737488355328 := by
    intro p hp
    rcases List.mem_append.1 hp with hp | hp
    · exact h.m p hp
    · obtain ⟨m, hm, rfl⟩ := List.mem_map.1 hp; exact hms m hm
  unfold sendR at h0 ⊢
  split at h0
  · simp at h0
  rename_i h1
  rw [if_neg h1]
  split at h0
  · rename_i h2
    rw [if_pos h2]
    exact ⟨fun c d m hm => List.mem_append_left _ (h.sent _ _ m hm), h.len, hm2⟩
  rename_i h2
  rw [if_neg h2]
  split at h0
  · simp at h0
  rename_i h3
  rw [if_neg h3]
  refine ⟨fun c d m hm => ?_, fun c d => ?_, hm2⟩
  · simp only at hm ⊢
    rcases updQ_cases x.Q a b (x.Q a b ++ ms) c d with ⟨rfl, rfl, e⟩ | e <;> rw [e] at hm
    · rcases List.mem_append.1 hm with hm | hm
      · exact List.mem_append_left _ (h.sent _ _ m hm)
      · exact List.mem_append_right _ (List.mem_map.2 ⟨m, hm, rfl⟩)
    · exact List.mem_append_left _ (h.sent _ _ m hm)
  · simp only
    rcases updQ_cases x.Q a b (x.Q a b ++ ms) c d with ⟨rfl, rfl, e⟩ | e <;> rw [e]
    · rw [List.length_append]; omega
    · exact h.len c d
theorem inv_send_no {x : ST} {room : Int} (h : x.inv room) (k : Nat) (a b : Int) (ms : List (List Int)) (h0 : (sendR k room x.Q x.S a b ms).1 ≠ 0) : (⟨(sendR k room x.Q x.S a b ms).2, x.S, x.sent⟩ : ST).inv room := by
  unfold sendR at h0 ⊢
  split
  · exact ⟨h.sent, h.len, h.m⟩
  split
  · exact ⟨h.sent, h.len, h.m⟩
  split
  · exact ⟨h.sent, h.len, h.m⟩
  · rename_i h1 h2 h3
    rw [if_neg h1, if_neg h2, if_neg h3] at h0
    simp at h0

/-- Did it? -/
def okS (a b : Int) (m : List Int) (ok : Bool) (p : MSG) : Bool := ok || ((p.1 == a) && ((p.2.1 == b) && sameB p.2.2 m))
theorem okS_true (a b : Int) (m : List Int) : ∀ (l : List MSG), l.foldl (okS a b m) true = true
  | [] => rfl
  | p :: l => by rw [List.foldl_cons]; exact okS_true a b m l
theorem okS_mem {a b : Int} {m : List Int} : ∀ {l : List MSG} (ok : Bool), (a, b, m) ∈ l → l.foldl (okS a b m) ok = true
  | [], ok, h => by simp at h
  | p :: l, ok, h => by
    rw [List.foldl_cons]
    rcases List.mem_cons.1 h with rfl | h
    · have : okS a b m ok (a, b, m) = true := by simp [okS, sameB_self]
      rw [this]; exact okS_true a b m l
    · exact okS_mem _ h
end Go.Proofs.Ytidnlnnobegniaa
