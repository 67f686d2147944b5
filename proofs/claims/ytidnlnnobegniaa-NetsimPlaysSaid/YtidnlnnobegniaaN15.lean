import Derived.Test.YtidnlnnobegniaaN12
set_option maxHeartbeats 4000000
set_option maxRecDepth 10000
set_option linter.unusedVariables false
set_option linter.unusedSimpArgs false
namespace Go.Proofs.Ytidnlnnobegniaa
open Go.AM Go.RowKit
attribute [local irreducible] AWP thenL blockL AM.Leaves LeavesO RunD
attribute [local go_sem] act0 actN actX actFieldM actIndexM actLoadM actStoreM actAllocM actBoxM actBuildM actSliceM actRange
  actEntry actDelB bigT bigOp offHole sizeM keyC actMakeMap actLookup actMapEntry actEntryStore actMapUpdate
  actDelete actClear actLen2 actIndex2 actLoad2 actOne actApp2 actCall2 actMark isZI isZS isOwn
  QHole.at holeB runs stepR actF inF frzA frzW lastW act act1 actPick
  actNil actBin actUn actConv actExtract actFieldAddr actField actAlloc keysOf actBox actLoad treesOf
  actStore actIndex actLen actMx srcL actAppend actMake actBuild actBuildSlice boundL actSlice actCall
  actEqS isStruct isSlice actText actCopy litsOf kindsOK fieldsPlain eqAll eqop dstB dstN
  boolS litB litV sv binv unv lits takeC cellsR trees cellsW mxv
  repl parts fillAt fillRows V1.cs mkV ev evr AM.look put del applyL
  delD wrD undefS SV.to V1.to At.to keysL notIn freshKey PV.up PR.up entry
  entryV evp isAt actPtrNil capsL actFunc sameV sameVs pureCtx doc mkVar AM.Loc.key
  Cont.keys SV.keys V1.keys At.keys Cont.sub SV.sub V1.sub At.sub guardR argsL callR eq_self
  Nat.blt_eq Nat.blt Nat.ble Nat.beq_eq_true_eq beq_self_eq_true Array.toList List.map List.append_eq List.nil_append List.cons_append List.append_nil List.append_assoc
  Bool.and_eq_true decide_true decide_false decide_eq_true_eq Bool.not_true Bool.not_false reduceCtorEq if_true if_false ite_true ite_false reduceIte
  AM.Loc.slot.injEq AM.Loc.cell.injEq AM.Loc.vec.injEq List.getElem?_cons_zero List.getElem?_cons_succ List.getElem?_nil Option.map_some Option.map_none Option.toList List.flatMap_nil List.flatMap_cons Bool.and_true
  Bool.true_and Bool.and_false Bool.false_and Bool.true_eq_false Bool.false_eq_true Nat.reduceBEq Nat.reduceEqDiff bool_beq_tt bool_beq_ff bool_beq_tf bool_beq_ft List.length_cons
  List.length_nil List.drop List.take List.drop_zero List.take_zero List.all_cons List.all_nil Value.oneCell' Nat.zero_add Nat.reduceAdd Nat.reduceMul Nat.reduceSub
  Nat.reduceLT Nat.reduceLeDiff Int.reduceLT Int.reduceLE Int.reduceEq Int.reduceBEq Int.reduceBNe Int.reduceAdd Int.reduceSub Int.reduceMul Int.reduceNeg Int.reduceToNat
  Nat.succ_ne_zero List.replicate and_true true_and and_false false_and and_self ge_iff_le gt_iff_lt bne_self_eq_false List.zip_cons_cons List.zip_nil_left
  List.zip List.zipWith Int.natCast_nonneg Int.toNat_natCast List.getElem?_map List.length_map sT sI sB sR sP rV
  AllIn Int.toNat_zero Int.ofNat_zero Int.natCast_zero Nat.le_refl List.mapM_cons List.mapM_nil Option.bind_eq_bind Option.bind_some Option.bind_none Option.pure_def List.set_cons_zero
  List.set_cons_succ List.length_set cellsF_length cellsF_lit putF_one tt2 tt3 tt4 tt5 tt9 tt12 tt21
  tt22 tt23 tt24 tt30 tt39 tt40 tt41 tt42 tt43 tt44 tt45 tt49
  tt59 tt60 tt61 tt62 tt63 tt66 tt67 tt70 tt94 tt98 mo60 mo61
  mg22 mg3 zz22 zz3 bi50 bi51 bi52 bi54 im60 ho54
attribute [local go_sem] vlit rInt rBool vInts pInts vBy vvBy lI lB nK lN rB

/-! What each call of a network answers and leaves. -/
def bad2 (k : Nat) (a b : Int) : Bool := badN k a || badN k b
def sendR (k : Nat) (room : Int) (Q : QF) (S : SF) (a b : Int) (ms : List (List Int)) : Int × QF :=
  if bad2 k a b = true then (60, Q) else if 0 < S a b then (0, Q) else if room - (Q a b).length < (ms.length : Int) then (61, Q) else (0, updQ Q a b (Q a b ++ ms))
def outQ (Q : QF) (a b i : Int) : Bool := decide (i < 0) || decide (((Q a b).length : Int) ≤ i)
def dropR (k : Nat) (Q : QF) (a b i : Int) : Int × QF :=
  if bad2 k a b = true then (60, Q) else if outQ Q a b i = true then (62, Q) else (0, updQ Q a b ((Q a b).eraseIdx i.toNat))
def repR (k : Nat) (room : Int) (Q : QF) (a b i : Int) : Int × QF :=
  if bad2 k a b = true then (60, Q) else if outQ Q a b i = true then (62, Q) else if ((Q a b).length : Int) < room then (0, updQ Q a b (Q a b ++ [(Q a b).getD i.toNat []])) else (61, Q)
def cutR (k : Nat) (Q : QF) (S : SF) (a b : Int) : Int × QF × SF :=
  if bad2 k a b = true then (60, Q, S) else (0, cutQ Q a b 2, cutS S a b 2)
def cntR (k : Nat) (Q : QF) (a b : Int) : Int × Int :=
  if bad2 k a b = true then (0, 60) else ((Q a b).length, 0)

theorem out_get {Q : QF} {a b i : Int} (h : outQ Q a b i = false) : ∃ (j : Nat) (m : List Int), i = j ∧ (Q a b)[j]? = some m ∧ (Q a b).getD i.toNat [] = m := by
  simp only [outQ, Bool.or_eq_false_iff, decide_eq_false_iff_not] at h
  have hj : i.toNat < (Q a b).length := by omega
  refine ⟨i.toNat, (Q a b)[i.toNat], by omega, List.getElem?_eq_getElem hj, ?_⟩
  rw [List.getD_eq_getElem?_getD, List.getElem?_eq_getElem hj]; rfl

theorem s9 (cs : List Int) (room : Int) (Q : QF) (S : SF) (a b : Int) (ms : List (List Int)) (hr : 0 ≤ room) (hr2 : room ≤ 4096) (hq : ((Q a b).length : Int) ≤ room) (hms : ∀ m, m ∈ ms → m.length ≤ 140737488355328) :
    Does Try.prog 9 [.one (.ptr 100000 0), .one (lI a), .one (lI b), .one (.t (vvBy ms))] (nK 100000 100001 100002 100003 cs room Q .none [] S) (.v (.one (lI (sendR cs.length room Q S a b ms).1))) (nK 100000 100001 100002 100003 cs room (sendR cs.length room Q S a b ms).2 .none [] S) := by
  unfold sendR
  split
  · rename_i h; exact s9a cs room Q S a b ms h
  · rename_i h
    have h : (badN cs.length a || badN cs.length b) = false := by simpa [bad2] using h
    split
    · rename_i h1; exact s9b cs room Q S a b ms h h1
    · rename_i h1
      split
      · rename_i h2; exact s9c cs room Q S a b ms h h1 hr hr2 hq h2
      · rename_i h2; exact s9d cs room Q S a b ms h h1 hr hr2 hq h2 hms

theorem s14 (cs : List Int) (room : Int) (Q : QF) (S : SF) (a b : Int) :
    Does Try.prog 14 [.one (.ptr 100000 0), .one (lI a), .one (lI b)] (nK 100000 100001 100002 100003 cs room Q .none [] S) (.tup [.one (lI (cntR cs.length Q a b).1), .one (lI (cntR cs.length Q a b).2)]) (nK 100000 100001 100002 100003 cs room Q .none [] S) := by
  unfold cntR
  split
  · rename_i h; exact s14a cs room Q S a b h
  · rename_i h
    have h : (badN cs.length a || badN cs.length b) = false := by simpa [bad2] using h
    exact s14b cs room Q S a b h

theorem s15 (cs : List Int) (room : Int) (Q : QF) (S : SF) (a b : Int) :
    Does Try.prog 15 [.one (.ptr 100000 0), .one (lI a), .one (lI b)] (nK 100000 100001 100002 100003 cs room Q .none [] S) (.v (.one (lI (cutR cs.length Q S a b).1))) (nK 100000 100001 100002 100003 cs room (cutR cs.length Q S a b).2.1 .none [] (cutR cs.length Q S a b).2.2) := by
  unfold cutR
  split
  · rename_i h; exact s15a cs room Q S a b h
  · rename_i h
    have h : (badN cs.length a || badN cs.length b) = false := by simpa [bad2] using h
    exact s15b cs room Q S a b h

theorem s17 (cs : List Int) (room : Int) (Q : QF) (S : SF) (a b i : Int) (hq : (Q a b).length ≤ 4611686018427387903) :
    Does Try.prog 17 [.one (.ptr 100000 0), .one (lI a), .one (lI b), .one (lI i)] (nK 100000 100001 100002 100003 cs room Q .none [] S) (.v (.one (lI (dropR cs.length Q a b i).1))) (nK 100000 100001 100002 100003 cs room (dropR cs.length Q a b i).2 .none [] S) := by
  unfold dropR
  split
  · rename_i h; exact s17a cs room Q S a b i h
  · rename_i h
    have h : (badN cs.length a || badN cs.length b) = false := by simpa [bad2] using h
    split
    · rename_i h1; exact s17b cs room Q S a b i h (by simpa [outQ] using h1)
    · rename_i h1
      obtain ⟨j, m, rfl, hm, _⟩ := out_get (by simpa using h1)
      exact s17c cs room Q S a b j m h hm hq

theorem s18 (cs : List Int) (room : Int) (Q : QF) (S : SF) (a b i : Int) (hr2 : room ≤ 4096) (hms : ∀ m, m ∈ Q a b → m.length ≤ 140737488355328) :
    Does Try.prog 18 [.one (.ptr 100000 0), .one (lI a), .one (lI b), .one (lI i)] (nK 100000 100001 100002 100003 cs room Q .none [] S) (.v (.one (lI (repR cs.length room Q a b i).1))) (nK 100000 100001 100002 100003 cs room (repR cs.length room Q a b i).2 .none [] S) := by
  unfold repR
  split
  · rename_i h; exact s18a cs room Q S a b i h
  · rename_i h
    have h : (badN cs.length a || badN cs.length b) = false := by simpa [bad2] using h
    split
    · rename_i h1; exact s18b cs room Q S a b i h (by simpa [outQ] using h1)
    · rename_i h1
      obtain ⟨j, m, rfl, hm, hg⟩ := out_get (by simpa using h1)
      rw [hg]
      split
      · rename_i h2; exact s18d cs room Q S a b j m h hm h2 hr2 (hms m (List.mem_of_getElem? hm))
      · rename_i h2; exact s18c cs room Q S a b j m h hm h2

/-- Deliver, where it answers an error. -/
theorem s12e (cs : List Int) (room : Int) (Q : QF) (S : SF) (a b i : Int) (h : bad2 cs.length a b = true ∨ outQ Q a b i = true) :
    Does Try.prog 12 [.one (.ptr 100000 0), .one (lI a), .one (lI b), .one (lI i)] (nK 100000 100001 100002 100003 cs room Q .none [] S) (.tup [.one lN, .one (lI (if bad2 cs.length a b = true then 60 else 62))]) (nK 100000 100001 100002 100003 cs room Q .none [] S) := by
  split
  · rename_i h1; exact s12a cs room Q S a b i h1
  · rename_i h1
    have h2 : (badN cs.length a || badN cs.length b) = false := by simpa [bad2] using h1
    exact s12b cs room Q S a b i h2 (by simpa [outQ] using h.resolve_left h1)
theorem s12ok (cs : List Int) (room : Int) (Q : QF) (S : SF) (a b i : Int) (h : bad2 cs.length a b = false) (h2 : outQ Q a b i = false) (hq : (Q a b).length ≤ 4611686018427387903) :
    Does Try.prog 12 [.one (.ptr 100000 0), .one (lI a), .one (lI b), .one (lI i)] (nK 100000 100001 100002 100003 cs room Q .none [] S) (.tup [.one (.row 51), .one (lI 0)]) ((.vec 51, rB ((Q a b).getD i.toNat [])) :: nK 100000 100001 100002 100003 cs room (dropR cs.length Q a b i).2 .none [] S) := by
  obtain ⟨j, m, rfl, hm, hg⟩ := out_get h2
  rw [hg]
  have := s12c cs room Q S a b j m (by simpa [bad2] using h) hm hq
  simpa [dropR, h, h2] using this
end Go.Proofs.Ytidnlnnobegniaa
