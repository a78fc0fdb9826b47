/- Abstract values: the equations by which code is reckoned, as one set. Nothing of any program. -/
import Derived.Test.YtoemcdgebkkcoaaGreatDoorPvX
set_option linter.unusedSectionVars false
namespace Go.Pv
variable [GTab]
theorem lkp_nil {α : Type} (d : α) (t : Nat) : lkp d [] t = d := by rw [lkp]
theorem lkp_hit {α : Type} (d : α) (t : Nat) (x : α) (l : List (Nat × α)) : lkp d ((t, x) :: l) t = x := by simp [lkp]
theorem lkp_miss {α : Type} (d : α) (k t : Nat) (x : α) (l : List (Nat × α)) (h : (k == t) = false) : lkp d ((k, x) :: l) t = lkp d l t := by
  have h' : ¬ k = t := by simpa using h
  simp [lkp, h']
/-- A call that is not made. -/
theorem callE_no {P : Program} {nid : Nat} {o : Oper} {S : PS} {K : Dl → Prop} (hK : K { p := .any, ok := True }) : callE P nid false o S K :=
  ⟨{ p := .any, ok := True }, (fun h => by cases h), (by unfold gdOk; cases o.guard <;> rfl), hK⟩
/-- An empty slice, made as any operation. -/
theorem callE_bs {P : Program} {nid : Nat} {o : Oper} {S : PS} {K : Dl → Prop} {c : Bool} (h : gdOk c o (stepD P nid o S) = true ∧ (c = true → (stepD P nid o S).ok) ∧ K (stepD P nid o S)) : callE P nid c o S K :=
  ⟨_, fun hc => stepD_sound (h.2.1 hc), h.1, h.2.2⟩
/-- An empty slice, behind which what is appended is a box. -/
theorem callE_sl0 {P : Program} {nid : Nat} {o : Oper} {S : PS} {K : Dl → Prop} {c : Bool} {t e sz : Nat} {zs : List PV} (ho : o.op = .buildSlice t 0 #[]) (ht : tk P t = .sl e) (hsz : tsz P e = sz) (hpos : 0 < sz) (hz : zc P e = some zs) (hzl : zs.length = sz)
    (hg : gdOk c o { p := .sl0 sz, tk := [(nid, true)], ok := True } = true) (hK : K { p := .sl0 sz, tk := [(nid, true)], ok := True }) : callE P nid c o S K :=
  ⟨_, fun _ => buildSlice0 ho rfl ht hsz hpos hz hzl, hg, hK⟩
attribute [push_cast] gsel.eq_def cnil.eq_1 cnil.eq_2 cnil_nil isEx.eq_def or_false true_or or_true false_or or_self toV scal scals litEq.eq_def litsEq plain1 plains eqR gat VC_skip VC_label VC_exit VC_goto VC_ret VC_seq VC_cond VC_block VC_loop VC_region seqC_normal seqC_exit seqC_goto seqC_ret blkC_normal blkC_exit blkC_goto blkC_ret loopK_normal loopK_exit loopK_goto
  loopK_ret retQ_normal retQ_ret regD_false regD_true condC_true condC_false regE_op regE_call regE_nil endK_pure ite3_true ite3_false VC_scope scC_normal scC_exit scC_ret loopU_succ unC_normal unC_exit
  unC_goto unC_ret isCallV.eq_def regS.eq_def regC.eq_def gcond.eq_def stepD.eq_def core.eq_def stCall.eq_def stAlloc.eq_def PS.ev.eq_def stLen.eq_def stBin.eq_def stSlice.eq_def stPick.eq_def stBuild.eq_def
  stBS.eq_def stLoad.eq_def stStore.eq_def stNil.eq_def stUn.eq_def stConv.eq_def convS.eq_def stMake.eq_def stFA.eq_def stField.eq_def stIA.eq_def stIx.eq_def stExt.eq_def stApp.eq_def stMM.eq_def binI.eq_def
  binS.eq_def binB.eq_def shI.eq_def isSh.eq_def PV.un.eq_def PV.tb.eq_def PV.isB.eq_def PV.cnd.eq_def PV.one.eq_def PV.shaped.eq_def PV.weak.eq_def PV.el.eq_def PV.cells.eq_def PV.asl.eq_def PV.apd.eq_def PV.back.eq_def
  PV.back1.eq_def PV.back2.eq_def bkI.eq_def ldPV.eq_def TK.isAgg.eq_def ofC.eq_def ofC1.eq_def bndV.eq_def bndO.eq_def nilSl.eq_def nilB.eq_def stCopy.eq_def resOf.eq_def dstPV.eq_def dstOk.eq_def gdOk.eq_def
  PS.put.eq_def apdT.eq_def ldOk.eq_def zel.eq_def byteOf.eq_def isByte.eq_def one'.eq_def res1.eq_def res2.eq_def res3.eq_def wkV.eq_def wkC.eq_def tokLt.eq_def tokLt1.eq_def tokLt2.eq_def shB lkp_nil lkp_hit lkp_miss lko
  zargs zobjs ztoks fillPV newToks zipB wkL nodupB resPV resOk regK stF PS.get PS.obj PS.lv PS.app cndAll Tr.of setC bad wrap_i8_id wrap_i16_id wrap_i32_id wrap_i64_id wrap_u8_id wrap_u16_id wrap_u32_id
  wrap_u64_id IntKind.bits Nat.min_def cast_lit TK.sl.injEq exists_eq' maxLen_eq true_and and_true List.range'_succ List.range'_zero Bool.not_eq_true' imp_self Nat.zero_add Nat.add_zero
  Int.toNat_natCast ite_true ite_false if_true if_false Option.map_some Option.map_none Option.bind_some Option.bind_none Option.isSome_none Option.isSome_some Option.getD_some Option.getD_none
  List.getElem?_cons_zero List.getElem?_cons_succ List.getElem?_nil List.getD_cons_zero List.getD_cons_succ List.all_cons List.all_nil List.map_cons List.map_nil List.nil_append List.cons_append
  List.append_nil List.toList_toArray List.isEmpty_nil List.isEmpty_cons List.length_cons List.length_nil List.drop_zero List.drop_succ_cons List.drop_nil List.take_zero List.take_succ_cons
  List.take_nil List.append_assoc Op.operands Call.operands Bool.false_eq_true Bool.true_eq_false Bool.and_true Bool.true_and Bool.and_false Bool.false_and Bool.or_false Bool.or_true Bool.false_or
  Bool.true_or Bool.not_true Bool.not_false Bool.and_self and_self and_assoc true_implies false_implies forall_const implies_true decide_true decide_false decide_eq_true_eq ne_eq not_false_eq_true
  not_true_eq_false beq_self_eq_true beq_true beq_false Option.toArray_some Option.toArray_none Array.append_empty Bool.true_beq Bool.false_beq Array.toList_empty List.size_toArray Array.empty_append
  List.append_toArray and_false false_and PV.bool.injEq PV.int.injEq PV.str.injEq PV.sl.injEq PV.slt.injEq PV.agg.injEq PV.tup.injEq PV.box.injEq PV.fn.injEq List.cons.injEq Nat.sub_zero Nat.zero_le
  Int.natCast_nonneg
attribute [push_cast] PV.cap
attribute [push_cast] regV.eq_def isNx.eq_def nextR.eq_def nextO.eq_def stRng.eq_def stNext.eq_def stEnt.eq_def rngPV.eq_def stAppJ.eq_def stAppK.eq_def zdef.eq_def jall.eq_def PV.slj.injEq PV.iref.injEq
attribute [push_cast] stMake'.eq_def stLook.eq_def stMUp.eq_def stMDel.eq_def mapPV.eq_def mapRd.eq_def nilMp.eq_def nilFn.eq_def stSlice3.eq_def kTy.eq_def kAll kOk.eq_def PV.mref.injEq PV.mpure.injEq PV.mobj.injEq
end Go.Pv
