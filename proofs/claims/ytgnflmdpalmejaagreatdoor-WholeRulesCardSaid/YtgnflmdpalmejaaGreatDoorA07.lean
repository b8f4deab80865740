/- Lemmas for the proof of WholeRules (the card is in the file ..WholeRulesCard); each lemma names its own conditions. -/
import Derived.Test.YtgnflmdpalmejaaGreatDoorA04
import Derived.Test.YtgnflmdpalmejaaGreatDoorA06
import Derived.Defers
import Derived.Recover
namespace Go.Proofs.YtgnflmdpalmejaaGreatDoor
open And renaming intro->bI
open _root_.Array renaming getElem?_eq_some_iff->JQ
open Bool renaming and_eq_true->bq,and_true->RN,eq_iff_iff->FH,false->X,false_eq_true->lK,true->Z
open Go.Act renaming put->uB
open Go renaming Addr->aK,Calls->aF,TypeId->bM,Value->ak,World->Y,bodyPost_ret->eX,ownsRow_setCell_other->mO,run_underlying->G8,wp_region_held_drew->iA
open Go.Ending renaming returned->aI
open Go.IntKind renaming i64->D
open Go.MapKept renaming run_getObj_map->KF
open Go.Obj renaming cells->ag
open Go.Oper renaming wp->yt
open Go.Region renaming ready->RJ,wanted->sZ
open Go.Result renaming andThen->yl
open Go.RowKit renaming Below->aj
open Go.RowKit.Below renaming heap_alloc->nK,refl->aN
open Go.Value renaming agg->aD,bool->ax,int->C,ownBlock->Hd,pointer->aQ,slice->O,string->au,tuple->bz
open Go.World renaming cell?_of_block->He,ownsRow_nil->ng,size_alloc->aW,size_setCell->wh
open Inhabited renaming default->ay
open List renaming all_cons->zh,all_eq_true->xD,append_assoc->xw,contains_iff_mem->Vq,drop_eq_getElem_cons->DY,drop_eq_nil_iff->JC,getD->dO,getElem?_cons_succ->iX,getElem?_cons_zero->iI,getElem?_eq_getElem->wu,getElem?_toArray->iH,getElem_cons_succ->uE,getElem_cons_zero->uD,getElem_mem->rF,getElem_toArray->uC,length_append->eB,length_cons->iP,length_map->oz,length_nil->pV,length_singleton->mf,map_append->oM,map_cons->kE,mem_append->pW,mem_cons->jZ,mem_map->qw,mem_singleton->lF,not_mem_nil->nJ,setIfInBounds_toArray->pY,set_cons_succ->oP,set_cons_zero->oh,size_toArray->AX,take_of_length_le->o7,take_succ_eq_append_getElem->sD
open Nat renaming le_refl->aC,lt_or_ge->jl
open Option renaming bind_some->bZ,none->J,some->N
open Option.some renaming injEq->kH
open Go.Proofs.Tryz renaming prog->aa
open Go.RowKit Go.Lib Go.Proofs.Tryz
set_option maxRecDepth 100000
set_option maxHeartbeats 32000000
set_option linter.unusedVariables false
set_option linter.unusedSimpArgs false
variable{Fh R:Prop}{K:Act->Y->Prop}{Q:Exit->Act->Y->Prop}{W W' w w':Y}{b bb i k mb q:Nat}{cz:Int->Bool}{ns:List (List UInt8)}{o:Oper}{ops:Array Oper}{pair:Bool}{t:bM}{x:Ex}{β κ:Type}
section
open Go.ChangeMaps
open Go.Maps (Keyed int_keyed string_keyed)
theorem att{a:Int}(h:(Lit.int .i64 a).wf=Z):∃lt,keyOf aa 3 (.int .i64 a)=N lt:=⟨_,Go.Maps.keyOf_int_mk underlying3 h⟩
theorem atu{x:List UInt8}(h:x.length<=9223372036854775807):(⟨x.toArray⟩:ByteArray).size<=maxLen:=by
 have e:(⟨x.toArray⟩:ByteArray).size=x.length:=by show x.toArray.size=_;rw[AX]
 rw[e];unfold maxLen;exact h
theorem aiH{x:List UInt8}(h:x.length<=9223372036854775807):∃lt,keyOf aa 9 (au ⟨x.toArray⟩)=N lt:=⟨_,Go.WideMaps.keyOf_string_mk underlying9 (atu h)⟩
theorem atv(a b:Int)(h:C D a=C D b):a=b:=by injection h
theorem aiI(a b:List UInt8)(h:au ⟨a.toArray⟩=au ⟨b.toArray⟩):a=b:=by injection h with h;injection h with h;simpa using congrArg Array.toList h
theorem atw:Keyed aa 3:=int_keyed underlying3
theorem aiJ:Keyed aa 9:=string_keyed underlying9
theorem atx(w:Y):(zeroValue 4).run aa w= .ok (ax X) w:=by kernel_rfl
theorem aiK(w:Y):(zeroValue 3).run aa w= .ok (C D 0) w:=by kernel_rfl
def oF:MV (List UInt8) Bool:=⟨197,9,4,λx=>au ⟨x.toArray⟩,λb=>ax b,X,λx=>x.length<=9223372036854775807,underlying197,aiJ,aiI,atx,λ_ h=>aiH h⟩
def xO:MV (List UInt8) Int:=⟨200,9,3,λx=>au ⟨x.toArray⟩,λn=>C D n,0,λx=>x.length<=9223372036854775807,underlying200,aiJ,aiI,aiK,λ_ h=>aiH h⟩
def mE:MV Int Int:=⟨213,3,3,λx=> .int .i64 x,λn=> .int .i64 n,0,λx=>(Lit.int .i64 x).wf=Z,underlying213,atw,atv,aiK,λ_ h=>att h⟩
def P7(n:Int):Ending:= .panicked [{v:= .iface 336 (C D n),recovered:=X}]
end
def rT(w:Y)(mb:Nat)(ns:List (List UInt8)):Prop:=∃m,eD oF w mb m/\∀n,dX X m n=ns.contains n
theorem rT.lt(h:rT w mb ns):mb<w.heap.size:=by obtain⟨m,h1,_⟩:=h;exact h1.lt
theorem rT.below(h:rT w mb ns)(hb:aj w w w'):rT w' mb ns:=by obtain⟨m,h1,h2⟩:=h;exact⟨m,h1.below hb h1.lt,h2⟩
def ckV(mb:Nat)(pair:Bool):ak:=aD #[.map (N mb),pair]
def NW(ns:List (List UInt8))(pair:Bool)(x:Ex)(w:Y)(e:Ending)(w':Y):Prop:=
 aj w w w'/\((∃t,fA ns pair x=N t/\e=aI t)\/(fA ns pair x=J/\∃n,n≠0/\e=P7 n))
def aac(ns:List (List UInt8))(pair:Bool)(mb:Nat)(x:Ex):Prop:=∀(w:Y) (S:Nat->Prop) (A:Option aK) (na ca:Nat),eU w S x (O A na ca)->(∀q,S q->q<w.heap.size)->rT w mb ns->
 aF aa 215 #[ckV mb pair,gJ x.hd (O A na ca)] w (NW ns pair x w)
def LA(ns:List (List UInt8))(pair:Bool)(x:Ex)(want:Int):Bool:=x.args.all λy=>fA ns pair y==N want
def aiL(ns:List (List UInt8))(pair:Bool)(x:Ex)(want:Int)(w:Y)(e:Ending)(w':Y):Prop:=
 aj w w w'/\((LA ns pair x want=Z/\e=aI (bz #[]))\/(LA ns pair x want=X/\∃n,n≠0/\e=P7 n))
theorem aty{α:Type}[Inhabited α]{p:α->Bool}{l:List α}(h:k<l.length):(l.take (k+1)).all p=((l.take k).all p&&p (l.getD k ay)):=by rw[sD h,List.all_append];simp[dO,h]
theorem atz{want:Int}(h:k<x.args.length)(hn:fA ns pair (x.args.getD k ay)=J):LA ns pair x want=X:=by unfold LA;rw[List.all_eq_false];exact⟨_,PK h,by rw[hn];simp⟩
theorem aiM(h:R:=by go_wp2_with fail;exact⟨⟨i+1,bR,I,Rz,aS,HKX⟩,bW⟩):R:=h
theorem aiN(ns:List (List UInt8))(pair:Bool)(mb:Nat)(x:Ex)(want:Int)(hK:∀y∈x.args,aac ns pair mb y)(w:Y)(S:Nat->Prop)(A:Option aK)(na ca:Nat)(hA:eU w S x (O A na ca))(hS:∀q,S q->q<w.heap.size)(hN:rT w mb ns):
  aF aa 257 #[ckV mb pair,gJ x.hd (O A na ca),want] w (aiL ns pair x want w):=by
 obtain⟨bH,_⟩:=hA.len;have gH:=G bH;have AL:na<=2:=OV;have HA:=G hA;have HS:=G hS;have HN:=G hN;have HK:=G hK;have gP:=G (λ(i:Nat) (h:i<na)=>aty (p:=λy=>fA ns pair y==N want) (l:=x.args) (k:=i) Rv);have qJ:=G (λ(i:Nat) (h:i<na)=>atz (ns:=ns) (pair:=pair) (x:=x) (want:=want) (k:=i) Rv);have HAL:af (LA ns pair x want=x.args.all λy=>fA ns pair y==N want):=rfl;clear hK hA hS bH hN;unfold gJ ckV;generalize x.hd=hh at*;obtain⟨kd,vl,fr,az,nm⟩:=hh;simp only[];have lX:=G (ai.new w 282 #[.map (N mb),pair]);have aP:af (aj w w ((w.alloc (ag #[.map (N mb),pair] 282)).alloc (ag #[kd,vl,fr,az,nm,O A na ca] 128))):=((aN _ _).alloc (aC _) _).alloc aG _;have nR:af (ai ((w.alloc (ag #[.map (N mb),pair] 282)).alloc (ag #[kd,vl,fr,az,nm,O A na ca] 128)) w 282 #[.map (N mb),pair]):=lX.alloc _;clear lX;go_enter func257,ntmps257;go_wp2_with fail;go_loopw [6,12] (λbv iv wr=>∃(i:Nat),iv=C D i/\i<=na/\bv=ax (!(x.args.take i).all λy=>fA ns pair y==N want)/\aj w w wr/\ai wr w 282 #[.map (N mb),pair]) (λ_ iv _=>na-(intOf iv).toNat);case atStart=>exact⟨0,rfl,I,rfl,aP,nR⟩
 obtain⟨i,rfl,hi,rfl,aH,jR⟩:=hrel;obtain⟨wo,rfl⟩:=dz wr;have eP:=aH.size;have hwl:=jR.lt;by_cases aO:i<na;case neg=>
  have F:af ((x.args.take i).all (λy=>fA ns pair y==N want)=LA ns pair x want):=by show _=_;rw[HAL.E,o7 Ju]
  generalize(x.args.take i).all (λy=>fA ns pair y==N want)=d at*;cases d;·go_wp2_with fail;exact⟨rfl,aH,.inr ⟨F.symm,16,aL,rfl⟩⟩
  go_wp2_with fail;go_end0;exact⟨aH,.inl ⟨F.symm,rfl⟩⟩
 have b3:(i:Int)<(na:Int):=I;have kG:=HA.keep (w':=wo) (S':=S) (λq hq=>aH.block q (HS q hq)) (λq hq=>hq);obtain⟨ga,A',n',c',rfl,F5,gT,kY⟩:=kG.at_ aO;have FS:=G (gP i aO);have FN:=G (qJ i aO);have dK:=PK (show i<x.args.length by rw[<-gH.E];exact aO);have HNW:=G (HN.below aH);have HC:af (∀W,aj wo wo W->aF aa 215 #[aD #[.map (N mb),pair],gJ (x.args.getD i ay).hd (O A' n' c')] W (NW ns pair (x.args.getD i ay) W)):=λW hW=>HK _ dK W S A' n' c' (kY.keep (λq hq=>hW.block q (by have:=HS q hq;omega)) (λq hq=>hq)) (λq hq=>by have:=HS q hq;have:=hW.size;omega) (HNW.below hW);unfold gJ at HC;clear kY dK kG;generalize x.args.getD i ay=y at*;generalize uN:(x.args.take i).all (λy=>fA ns pair y==N want)=d at*;clear uN;obtain⟨a0,a1,a2,a3,a4,a5⟩:=Sk gT;clear gT;generalize Wh:y.hd=yh at*;clear Wh;obtain⟨ou,lN,lQ,gQ,fQ⟩:=yh;simp only[] at HC a0 a1 a2 a3 a4;have jw:=G (aH.alloc eP (ag #[ou,lN,lQ,gQ,fQ,O A' n' c'] 128));have hCK:=jR.alloc (ag #[ou,lN,lQ,gQ,fQ,O A' n' c'] 128);have acW:=G hCK;have e0:=hCK.cell 0;have e1:=hCK.cell 1;simp only[iH,iX,iI] at e0 e1;clear hCK jR aH;go_wp2_with fail;refine(HC _ ((aN wo wo).alloc (aC _) _)).mono ?_;rintro e w2 ⟨aJ,kZ⟩;have aS:=G (aU jw aJ);have HKX:=G (acW.below aJ bB);clear aJ;rcases kZ with⟨t,ht,rfl⟩|⟨ht,n,hn,rfl⟩
 ·have F2:af (((x.args.take (i+1)).all λy=>fA ns pair y==N want)=(d&&(t==want))):=by
   show _=_
   rw[FS.E,ht]
   simp
  clear FS FN ht
  cases Db:(t==want)
  ·have aY:(t !=want)=Z:=by simp[bne,Db]
   rw[Db] at F2
   go_wp2_with fail
   exact⟨⟨i+1,bR,I,by rw[F2.E];simp,aS,HKX⟩,bW⟩
  have aY:(t !=want)=X:=by simp[bne,Db]
  rw[Db] at F2
  cases d
  ·exact aiM
  exact aiM
 have F2:=FN ht;exact⟨rfl,aS,.inr ⟨F2,n,hn,rfl⟩⟩
def NY(k:Int):Int:=if k=6\/k=12\/k=13 then 2 else 1
def aad(k:Int):Int:=if k=6\/12<=k/\k<=19 then 2 else 1
theorem atA(ns:List (List UInt8))(pair:Bool)(h:lL)(a:Ex):fA ns pair (.un h a)=if LA ns pair (.un h a) (NY h.kind)=Z then N (aad h.kind) else J:=rfl
theorem atB(ns:List (List UInt8))(pair:Bool)(h:lL)(a b:Ex):fA ns pair (.bi h a b)=if LA ns pair (.bi h a b) (NY h.kind)=Z then N (aad h.kind) else J:=rfl
theorem aiO(ns:List (List UInt8))(pair:Bool)(mb:Nat)(x:Ex)(kd vl fr az:Int)(nm:List UInt8)(A:Option aK)(na ca:Nat)(w:Y)
  (hk:(3<=kd/\kd<=20)) (kZ:fA ns pair x=if LA ns pair x (NY kd)=Z then N (aad kd) else J)
  (hO:∀W,aj w w W->aF aa 257 #[aD #[.map (N mb),pair],aD #[kd,vl,fr,az,nm,O A na ca],C D (NY kd)] W (aiL ns pair x (NY kd) W)):
  aF aa 215 #[aD #[.map (N mb),pair],aD #[kd,vl,fr,az,nm,O A na ca]] w (NW ns pair x w):=by
 have HO:=G hO;have vM:=G kZ;clear hO kZ;have h18:kd=3\/kd=4\/kd=5\/kd=6\/kd=7\/kd=8\/kd=9\/kd=10\/kd=11\/kd=12\/kd=13\/kd=14\/kd=15\/kd=16\/kd=17\/kd=18\/kd=19\/kd=20:=I;clear hk;have aC3:=G ((ai.new w 282 #[.map (N mb),pair]).alloc (ag #[kd,vl,fr,az,nm,O A na ca] 128));have aP:af (aj w w ((w.alloc (ag #[.map (N mb),pair] 282)).alloc (ag #[kd,vl,fr,az,nm,O A na ca] 128))):=((aN _ _).alloc (aC _) _).alloc aG _;rcases h18 with rfl|rfl|rfl|rfl|rfl|rfl|rfl|rfl|rfl|rfl|rfl|rfl|rfl|rfl|rfl|rfl|rfl|rfl;all_goals
  go_enter func215,ntmps215;simp only[NY,aad] at HO vM;simp at HO vM;go_wp2_with fail;refine(HO _ aP).mono ?_;rintro e w1 ⟨aB,hs⟩;have aM:=G (aU aP aB);clear aB;rcases hs with⟨ha,rfl⟩|⟨ha,n,hn,rfl⟩;·have F:af (fA ns pair x=_):=vM.trans (by first|(rw[ha];done)|(rw[ha];rfl));go_wp2_with fail;go_ret;exact⟨aM,.inl ⟨_,F,rfl⟩⟩
  have F:af (fA ns pair x=J):=vM.trans (by first|(rw[ha];done)|(rw[ha];rfl));exact⟨rfl,aM,.inr ⟨F,n,hn,rfl⟩⟩
theorem atC(ns:List (List UInt8))(pair:Bool)(mb:Nat)(vl fr az:Int)(nm:List UInt8)(A:Option aK)(na ca:Nat)(w:Y):
  aF aa 215 #[aD #[.map (N mb),pair],aD #[C D 1,vl,fr,az,nm,O A na ca]] w (NW ns pair (.lf ⟨1,vl,fr,az,nm⟩) w):=by have aP:af (aj w w ((w.alloc (ag #[.map (N mb),pair] 282)).alloc (ag #[C D 1,vl,fr,az,nm,O A na ca] 128))):=((aN _ _).alloc (aC _) _).alloc aG _;go_enter func215,ntmps215;go_wp2_with fail;go_ret;exact⟨aP,.inl ⟨1,rfl,rfl⟩⟩
theorem atD(ns:List (List UInt8))(pair:Bool)(mb:Nat)(vl fr az:Int)(nm:List UInt8)(A:Option aK)(na ca:Nat)(w:Y)(hN:rT w mb ns)(hl:nm.length<=8000):
  aF aa 215 #[aD #[.map (N mb),pair],aD #[C D 2,vl,fr,az,nm,O A na ca]] w (NW ns pair (.lf ⟨2,vl,fr,az,nm⟩) w):=by
 have aP:af (aj w w ((w.alloc (ag #[.map (N mb),pair] 282)).alloc (ag #[C D 2,vl,fr,az,nm,O A na ca] 128))):=((aN _ _).alloc (aC _) _).alloc aG _;obtain⟨m,hm,hg⟩:=hN.below aP;have HM:=G hm;have HG:=G (hg nm);have dI:af (oF.ok nm):=(show nm.length<=9223372036854775807 by omega);have vM:af (fA ns pair (.lf ⟨2,vl,fr,az,nm⟩)=if ns.contains nm=Z then N 1 else J):=rfl;clear hm hg hN;go_enter func215,ntmps215;generalize hcn:ns.contains nm=cn at*;clear hcn;cases cn;·go_wp2_with(at_lookup;refine JR (M:=oF) _ iN _ _ rfl mb m nm rfl rfl HM dI ?_;rw[show oF.U (dX oF.d m nm)=ax X from congrArg ax HG.E]);exact⟨rfl,aP,.inr ⟨vM,17,aL,rfl⟩⟩
 go_wp2_with(at_lookup;refine JR (M:=oF) _ iN _ _ rfl mb m nm rfl rfl HM dI ?_;rw[show oF.U (dX oF.d m nm)=ax Z from congrArg ax HG.E]);go_ret;exact⟨aP,.inl ⟨1,vM,rfl⟩⟩
theorem aiP(h:R:=by go_enter func215,ntmps215;go_wp2_with fail;exact⟨rfl,aP,.inr ⟨vM.trans (if_pos (.inl aO)),2,aL,rfl⟩⟩):R:=h
theorem acX(h:R:=by go_enter func215,ntmps215;go_wp2_with fail;go_ret;exact⟨aP,.inl ⟨1,vM.trans (if_neg (by simp[aO])),rfl⟩⟩):R:=h
theorem atE(ns:List (List UInt8))(pair:Bool)(mb:Nat)(vl fr az:Int)(nm:List UInt8)(A:Option aK)(na ca:Nat)(w:Y):
  aF aa 215 #[aD #[.map (N mb),pair],aD #[C D 21,vl,fr,az,nm,O A na ca]] w (NW ns pair (.lf ⟨21,vl,fr,az,nm⟩) w):=by
 have aP:af (aj w w ((w.alloc (ag #[.map (N mb),pair] 282)).alloc (ag #[C D 21,vl,fr,az,nm,O A na ca] 128))):=((aN _ _).alloc (aC _) _).alloc aG _;have vM:af (fA ns pair (.lf ⟨21,vl,fr,az,nm⟩)=if az<fr\/False then J else N 1):=by show _=_;simp[fA]
 by_cases aO:az<fr;case pos=>exact aiP
 cases pair;case false=>exact acX
 exact acX
theorem atF(ns:List (List UInt8))(pair:Bool)(mb:Nat)(vl fr az:Int)(nm:List UInt8)(A:Option aK)(na ca:Nat)(w:Y):
  aF aa 215 #[aD #[.map (N mb),pair],aD #[C D 22,vl,fr,az,nm,O A na ca]] w (NW ns pair (.lf ⟨22,vl,fr,az,nm⟩) w):=by
 have aP:af (aj w w ((w.alloc (ag #[.map (N mb),pair] 282)).alloc (ag #[C D 22,vl,fr,az,nm,O A na ca] 128))):=((aN _ _).alloc (aC _) _).alloc aG _;have vM:af (fA ns pair (.lf ⟨22,vl,fr,az,nm⟩)=if az<fr\/pair=X then J else N 1):=by show _=_;simp[fA]
 by_cases aO:az<fr;case pos=>exact aiP
 cases pair;case false=>go_enter func215,ntmps215;go_wp2_with fail;skip;exact⟨rfl,aP,.inr ⟨by rw[vM.E];simp,7,aL,rfl⟩⟩
 exact acX
theorem atG(ns:List (List UInt8))(pair:Bool)(mb:Nat):∀x:Ex,eG x=Z->aac ns pair mb x:=by
 intro x;induction x with
 |lf h=>
  intro ho w S A na ca hA _ hN;have hk:=PQ ho;have nO:=(Iu ho).2.2.2.2.2.2;obtain⟨kd,vl,fr,az,nm⟩:=h;simp only[] at hk nO;rcases hk with rfl|rfl|rfl|rfl;·exact atC ns pair mb vl fr az nm A na ca w
  ·exact atD ns pair mb vl fr az nm A na ca w hN I
  ·exact atE ns pair mb vl fr az nm A na ca w
  exact atF ns pair mb vl fr az nm A na ca w
 |un h a ih=>
  intro ho w S A na ca hA hS hN;simp only[eG,bq] at ho;have hk:=ND ho.1;have hK:∀y∈(Ex.un h a).args,aac ns pair mb y:=by intro y hy;simp only[Ex.args,jZ,nJ,or_false] at hy;subst hy;exact ih ho.2
  have hO:=λW (hW:aj w w W)=>aiN ns pair mb (.un h a) (NY h.kind) hK W S A na ca (hA.keep (λq hq=>hW.block q (hS q hq)) (λq hq=>hq)) (λq hq=>by have:=hS q hq;have:=hW.size;omega) (hN.below hW);obtain⟨kd,vl,fr,az,nm⟩:=h;simp only[] at hk hO;exact aiO ns pair mb (.un ⟨kd,vl,fr,az,nm⟩ a) kd vl fr az nm A na ca w I (atA ns pair _ a) hO
 |bi h a b qg vg=>
  intro ho w S A na ca hA hS hN;simp only[eG,bq] at ho;have hk:=NF ho.1;have hK:∀y∈(Ex.bi h a b).args,aac ns pair mb y:=by intro y hy;simp only[Ex.args,jZ,nJ,or_false] at hy;rcases hy with rfl|rfl;exact qg ho.2.1;exact vg ho.2.2
  have hO:=λW (hW:aj w w W)=>aiN ns pair mb (.bi h a b) (NY h.kind) hK W S A na ca (hA.keep (λq hq=>hW.block q (hS q hq)) (λq hq=>hq)) (λq hq=>by have:=hS q hq;have:=hW.size;omega) (hN.below hW);obtain⟨kd,vl,fr,az,nm⟩:=h;simp only[] at hk hO;exact aiO ns pair mb (.bi ⟨kd,vl,fr,az,nm⟩ a b) kd vl fr az nm A na ca w I (atB ns pair _ a b) hO
def fJ(l:List bE)(c:Int):Bool:=(gZ l c).isSome
theorem ajN(mb:Nat)(pair:Bool)(code:Int)(l:List bE)(A:Option aK)(n c:Nat)(B:Nat)(w:Y)(hr:Reads w B 4 A n (jS l))(hB:B<=w.heap.size)(hn:n<=9223372036854775807):
  aF aa 162 #[aD #[.map (N mb),pair],code,O A n c] w λe w'=>aj w w w'/\e=if fJ l code=Z then aI (bz #[]) else P7 8:=by
 have aP:af (aj w w (w.alloc (ag #[.map (N mb),pair] 282))):=(aN _ _).alloc (aC _) _;have HF:=G (uP l A n c code B (w.alloc (ag #[.map (N mb),pair] 282)) (hr.keep (λp hp=>aP.cell I)) bB hn);clear hr;unfold fJ;cases hq:gZ l code with
 |none=>rw[LK hq] at HF;clear hq;go_enter func162,ntmps162;go_wp2_with fail;refine HF.mono ?_;rintro e w1 ⟨rfl,aB⟩;have aM:=G (aP.trans (aB.mono aG));clear aB;go_wp2_with fail;exact⟨rfl,aM.alloc aM.size _,rfl⟩
 |some a=>rw[J8 hq] at HF;clear hq;go_enter func162,ntmps162;go_wp2_with fail;refine HF.mono ?_;rintro e w1 ⟨rfl,aB⟩;have aM:=G (aP.trans (aB.mono aG));clear aB;go_wp2_with fail;go_end0;exact⟨aM.alloc aM.size _,rfl⟩
def wV(cz:Int->Bool)(pair:Bool)(ns:List (List UInt8))(s:cZ):Option (List (List UInt8)):=
 if fA ns pair s.expr=N (if s.kind=2 then 2 else 1) then
  (if s.kind=1 then(if ns.contains s.name then J else N (ns++ [s.name])) else if s.kind=3 then(if cz s.dM then N ns else J) else N ns) else J
theorem ajO(cz:Int->Bool)(pair:Bool)(ns:List (List UInt8))(s:cZ)(r:List cZ):qX cz pair ns (s::r)=(wV cz pair ns s).bind λns'=>qX cz pair ns' r:=by
 unfold wV;rw[qX];by_cases h:fA ns pair s.expr=N (if s.kind=2 then 2 else 1)
 ·rw[if_pos h,if_pos h];by_cases h1:s.kind=1
  ·rw[if_pos h1,if_pos h1];by_cases h2:ns.contains s.name=Z;·rw[if_pos h2,if_pos h2];rfl
   rw[if_neg h2,if_neg h2];rfl
  rw[if_neg h1,if_neg h1];by_cases h3:s.kind=3
  ·rw[if_pos h3,if_pos h3];by_cases h2:cz s.dM=Z;·rw[if_pos h2,if_pos h2];rfl
   rw[if_neg h2,if_neg h2];rfl
  rw[if_neg h3,if_neg h3];rfl
 rw[if_neg h,if_neg h];rfl
theorem rT.add{m:List (List UInt8 × Bool)}{x:List UInt8}(hg:∀n,dX X m n=ns.contains n)(h:eD oF w' mb (jH m x Z)):rT w' mb (ns++ [x]):=by
 refine⟨_,h,λn=>?_⟩;rw[aqZ];by_cases e:x=n;·subst e;simp
 rw[if_neg e,hg];rw[FH];simp only[Vq,pW,lF];exact⟨.inl,λh=>h.elim id (λh=>absurd h.symm e)⟩
def aat(cz:Int->Bool)(pair:Bool)(ns:List (List UInt8))(s:cZ)(mb:Nat)(w:Y)(e:Ending)(w':Y):Prop:=
 But mb w w'/\((∃ns',wV cz pair ns s=N ns'/\e=aI (bz #[])/\rT w' mb ns')\/(wV cz pair ns s=J/\∃n,n≠0/\e=P7 n))
theorem avC{cz:Int->Bool}{pair:Bool}{ns:List (List UInt8)}{s:cZ}(h:fA ns pair s.expr≠N (if s.kind=2 then 2 else 1)):wV cz pair ns s=J:=by unfold wV;rw[if_neg h]
theorem avD{cz:Int->Bool}{pair:Bool}{ns:List (List UInt8)}{s:cZ}(hk:s.kind=1)(h:fA ns pair s.expr=N 1):wV cz pair ns s=if ns.contains s.name then J else N (ns++ [s.name]):=by unfold wV;rw[if_pos (by rw[h,if_neg I]),if_pos hk]
theorem avE{cz:Int->Bool}{pair:Bool}{ns:List (List UInt8)}{s:cZ}(hk:s.kind=2)(h:fA ns pair s.expr=N 2):wV cz pair ns s=N ns:=by unfold wV;rw[if_pos (by rw[h,if_pos hk]),if_neg I,if_neg I]
theorem avF{cz:Int->Bool}{pair:Bool}{ns:List (List UInt8)}{s:cZ}(hk:s.kind=3)(h:fA ns pair s.expr=N 1):wV cz pair ns s=if cz s.dM then N ns else J:=by unfold wV;rw[if_pos (by rw[h,if_neg I]),if_neg I,if_pos hk]
theorem ajP(h:R:=by have F:af (wV (fJ l) pair ns s=J):=LX.E (by rw[HT.E];simpa using Db);clear Db;go_wp2_with fail;exact⟨rfl,But.of aM.E,.inr ⟨F.E,16,aL,rfl⟩⟩):R:=h
theorem ajQ(h:R:=by
  have k1:(t !=1)=Z:=by rw[bne_iff_ne];exact Db
  exact ajP):R:=h
theorem avG(s:cZ)(aX:o5 s=Z)(ns:List (List UInt8))(pair:Bool)(mb:Nat)(l:List bE)(Ac:Option aK)(nc cc B:Nat)(w:Y)(S:Nat->Prop)(A:Option aK)(na ca:Nat)
  (hA:eU w S s.expr (O A na ca)) (hS:∀q,S q->q<w.heap.size) (hN:rT w mb ns) (hr:Reads w B 4 Ac nc (jS l)) (hB:B<=mb) (hn:nc<=9223372036854775807):
  aF aa 161 #[aD #[.map (N mb),ax pair],aD #[C D s.kind,C D s.dM,au ⟨s.name.toArray⟩,C D s.expr.hd.kind,C D s.expr.hd.value,C D s.expr.hd.from_,C D s.expr.hd.az,au ⟨s.expr.hd.name.toArray⟩,O A na ca],O Ac nc cc] w
   (aat (fJ l) pair ns s mb w):=by
 obtain⟨Gg,lD⟩:=Wn aX;have II:=hN.lt;have Gf:af (∀W,aj w.heap.size w W->aF aa 215 #[aD #[.map (N mb),ax pair],gJ s.expr.hd (O A na ca)] W (NW ns pair s.expr W)):=λW hW=>atG ns pair mb s.expr Gg W S A na ca (hA.keep (λq hq=>hW.block q (hS q hq)) (λq hq=>hq)) (λq hq=>by have:=hS q hq;have:=hW.size;omega) (hN.below hW);have qU:af (∀W,aj w.heap.size w W->∀code,aF aa 162 #[aD #[.map (N mb),ax pair],C D code,O Ac nc cc] W λe w'=>aj W.heap.size W w'/\e=if fJ l code=Z then aI (bz #[]) else P7 8):=λW hW code=>ajN mb pair code l Ac nc cc B W (hr.keep (λp hp=>hW.cell I)) lI hn;have HN:=G hN;have LY:=G (bI (@avC (fJ l) pair ns s) (bI (@avD (fJ l) pair ns s) (bI (@avE (fJ l) pair ns s) (@avF (fJ l) pair ns s))));unfold gJ at Gf;clear hA hS hN hr aX Gg;have PZ:af (∀t,aat (fJ l) pair ns s mb w t=aat (fJ l) pair ns s mb w t):=λ_=>rfl;clear PZ;rcases lD with⟨hk,ze⟩|hk|⟨hk,hac⟩
 ·have LX:af (fA ns pair s.expr≠N 1->wV (fJ l) pair ns s=J):=λh=>LY.E.1 (by rw[if_neg I];exact h);have vM:=G (LY.E.2.1 hk);clear LY;have iV:s.kind=1:=hk;rw[iV];clear iV hk;generalize iL:s.dM=sa at*;generalize pg:s.name=sn at*;generalize yH:s.expr.hd=eh at*;clear iL pg yH;obtain⟨kd,vl,fr,tt,en⟩:=eh;simp only[] at Gf |-;have lX:=G ((ai.new w 282 #[.map (N mb),ax pair]).alloc (ag #[C D 1,C D sa,au ⟨sn.toArray⟩,C D kd,C D vl,C D fr,C D tt,au ⟨en.toArray⟩,O A na ca] 130));have dC:af (ai ((w.alloc (ag #[.map (N mb),ax pair] 282)).alloc (ag #[C D 1,C D sa,au ⟨sn.toArray⟩,C D kd,C D vl,C D fr,C D tt,au ⟨en.toArray⟩,O A na ca] 130)) (w.heap.size+1) 130 #[C D 1,C D sa,au ⟨sn.toArray⟩,C D kd,C D vl,C D fr,C D tt,au ⟨en.toArray⟩,O A na ca]):=by have:=ai.new (w.alloc (ag #[.map (N mb),ax pair] 282)) 130 #[C D 1,C D sa,au ⟨sn.toArray⟩,C D kd,C D vl,C D fr,C D tt,au ⟨en.toArray⟩,O A na ca];rw[aW] at this;exact this
  have aP:af (aj w.heap.size w ((w.alloc (ag #[.map (N mb),ax pair] 282)).alloc (ag #[C D 1,C D sa,au ⟨sn.toArray⟩,C D kd,C D vl,C D fr,C D tt,au ⟨en.toArray⟩,O A na ca] 130))):=((aN _ _).alloc (aC _) _).alloc aG _;go_enter func161,ntmps161;go_wp2_with fail;refine(Gf.E _ aP.E).mono ?_;rintro e w1 ⟨aB,kZ⟩;have aM:=G (aU aP.E aB);have vP:=G (lX.E.below aB bB);have bO:=G (dC.E.below aB bB);clear aB lX dC;rcases kZ with⟨t,ht,rfl⟩|⟨ht,n,hne0,rfl⟩;case inr=>exact⟨rfl,But.of aM.E,.inr ⟨LX.E (by rw[ht];simp),n,hne0,rfl⟩⟩
  have HT:=G ht;clear ht;have c0:=vP.E.cell 0;have c1:=vP.E.cell 1;simp only[iH,iX,iI] at c0 c1;obtain⟨y0,_,y2,_,_,_,_,_,_⟩:=F4 bO.E;by_cases Db:t=1;case neg=>exact ajQ
  case pos=>
  subst Db;have FT:=G (vM.E HT.E);clear vM LX HT;obtain⟨m,hm,hg⟩:=HN.E.below aM.E;have HM:=G hm;have Gu:=G hg;have HG:=G (hg sn);have dI:af (oF.ok sn):=(show sn.length<=9223372036854775807 by omega);clear hm hg;generalize hcn:ns.contains sn=cn at*;clear hcn;cases cn;case true=>go_wp2_with(at_lookup;refine JR (M:=oF) _ iN _ _ rfl mb m sn rfl rfl HM.E dI.E ?_;rw[show oF.U (dX oF.d m sn)=ax Z from congrArg ax HG.E]);exact⟨rfl,But.of aM.E,.inr ⟨by rw[FT.E];rfl,9,aL,rfl⟩⟩
  go_wp2_with(first|(at_lookup;refine JR (M:=oF) _ iN _ _ rfl mb m sn rfl rfl HM.E dI.E ?_;rw[show oF.U (dX oF.d m sn)=ax X from congrArg ax HG.E])|(at_mapUpdate;refine VL (M:=oF) _ rfl _ _ _ rfl mb m sn Z rfl rfl rfl HM.E dI.E ?_;intro w8 xS qL));go_end0;exact⟨(But.of aM.E).tr qL,.inl ⟨ns++ [sn],by rw[FT.E];rfl,rfl,rT.add Gu.E xS⟩⟩
 ·have LX:af (fA ns pair s.expr≠N 2->wV (fJ l) pair ns s=J):=λh=>LY.E.1 (by rw[if_pos hk];exact h);have vM:=G (LY.E.2.2.1 hk);clear LY;have iV:s.kind=2:=hk;rw[iV];clear iV hk;generalize iL:s.dM=sa at*;generalize pg:s.name=sn at*;generalize yH:s.expr.hd=eh at*;clear iL pg yH;obtain⟨kd,vl,fr,tt,en⟩:=eh;simp only[] at Gf |-;have lX:=G ((ai.new w 282 #[.map (N mb),ax pair]).alloc (ag #[C D 2,C D sa,au ⟨sn.toArray⟩,C D kd,C D vl,C D fr,C D tt,au ⟨en.toArray⟩,O A na ca] 130));have dC:af (ai ((w.alloc (ag #[.map (N mb),ax pair] 282)).alloc (ag #[C D 2,C D sa,au ⟨sn.toArray⟩,C D kd,C D vl,C D fr,C D tt,au ⟨en.toArray⟩,O A na ca] 130)) (w.heap.size+1) 130 #[C D 2,C D sa,au ⟨sn.toArray⟩,C D kd,C D vl,C D fr,C D tt,au ⟨en.toArray⟩,O A na ca]):=by have:=ai.new (w.alloc (ag #[.map (N mb),ax pair] 282)) 130 #[C D 2,C D sa,au ⟨sn.toArray⟩,C D kd,C D vl,C D fr,C D tt,au ⟨en.toArray⟩,O A na ca];rw[aW] at this;exact this
  have aP:af (aj w.heap.size w ((w.alloc (ag #[.map (N mb),ax pair] 282)).alloc (ag #[C D 2,C D sa,au ⟨sn.toArray⟩,C D kd,C D vl,C D fr,C D tt,au ⟨en.toArray⟩,O A na ca] 130))):=((aN _ _).alloc (aC _) _).alloc aG _;go_enter func161,ntmps161;go_wp2_with fail;refine(Gf.E _ aP.E).mono ?_;rintro e w1 ⟨aB,kZ⟩;have aM:=G (aU aP.E aB);have vP:=G (lX.E.below aB bB);have bO:=G (dC.E.below aB bB);clear aB lX dC;rcases kZ with⟨t,ht,rfl⟩|⟨ht,n,hne0,rfl⟩;case inr=>exact⟨rfl,But.of aM.E,.inr ⟨LX.E (by rw[ht];simp),n,hne0,rfl⟩⟩
  have HT:=G ht;clear ht;have c0:=vP.E.cell 0;have c1:=vP.E.cell 1;simp only[iH,iX,iI] at c0 c1;obtain⟨y0,_,_,_,_,_,_,_,_⟩:=F4 bO.E;by_cases Db:t=2;case neg=>
   have k1:(t !=2)=Z:=by rw[bne_iff_ne];exact Db
   exact ajP
  case pos=>
  subst Db;have FT:=G (vM.E HT.E);clear vM LX HT;go_wp2_with fail;go_end0;exact⟨But.of aM.E,.inl ⟨ns,FT.E,rfl,HN.E.below aM.E⟩⟩
 have LX:af (fA ns pair s.expr≠N 1->wV (fJ l) pair ns s=J):=λh=>LY.E.1 (by rw[if_neg I];exact h);have vM:=G (LY.E.2.2.2 hk);clear LY;have iV:s.kind=3:=hk;rw[iV];clear iV hk;generalize iL:s.dM=sa at*;generalize pg:s.name=sn at*;generalize yH:s.expr.hd=eh at*;clear iL pg yH;obtain⟨kd,vl,fr,tt,en⟩:=eh;simp only[] at Gf |-;have lX:=G ((ai.new w 282 #[.map (N mb),ax pair]).alloc (ag #[C D 3,C D sa,au ⟨sn.toArray⟩,C D kd,C D vl,C D fr,C D tt,au ⟨en.toArray⟩,O A na ca] 130));have dC:af (ai ((w.alloc (ag #[.map (N mb),ax pair] 282)).alloc (ag #[C D 3,C D sa,au ⟨sn.toArray⟩,C D kd,C D vl,C D fr,C D tt,au ⟨en.toArray⟩,O A na ca] 130)) (w.heap.size+1) 130 #[C D 3,C D sa,au ⟨sn.toArray⟩,C D kd,C D vl,C D fr,C D tt,au ⟨en.toArray⟩,O A na ca]):=by have:=ai.new (w.alloc (ag #[.map (N mb),ax pair] 282)) 130 #[C D 3,C D sa,au ⟨sn.toArray⟩,C D kd,C D vl,C D fr,C D tt,au ⟨en.toArray⟩,O A na ca];rw[aW] at this;exact this
 have aP:af (aj w.heap.size w ((w.alloc (ag #[.map (N mb),ax pair] 282)).alloc (ag #[C D 3,C D sa,au ⟨sn.toArray⟩,C D kd,C D vl,C D fr,C D tt,au ⟨en.toArray⟩,O A na ca] 130))):=((aN _ _).alloc (aC _) _).alloc aG _;go_enter func161,ntmps161;go_wp2_with fail;refine(Gf.E _ aP.E).mono ?_;rintro e w1 ⟨aB,kZ⟩;have aM:=G (aU aP.E aB);have vP:=G (lX.E.below aB bB);have bO:=G (dC.E.below aB bB);clear aB lX dC;rcases kZ with⟨t,ht,rfl⟩|⟨ht,n,hne0,rfl⟩;case inr=>exact⟨rfl,But.of aM.E,.inr ⟨LX.E (by rw[ht];simp),n,hne0,rfl⟩⟩
 have HT:=G ht;clear ht;have c0:=vP.E.cell 0;have c1:=vP.E.cell 1;simp only[iH,iX,iI] at c0 c1;obtain⟨y0,y1,_,_,_,_,_,_,_⟩:=F4 bO.E;by_cases Db:t=1;case neg=>exact ajQ
 case pos=>
 subst Db;have FT:=G (vM.E HT.E);clear vM LX HT;have Ij:=G (qU.E w1 aM.E sa);go_wp2_with fail;refine Ij.E.mono ?_;rintro e w2 ⟨aJ,rfl⟩;have aS:=G (aU aM.E aJ);clear aJ Ij;cases J9:fJ l sa;case true=>rw[J9] at FT;simp only[if_true] at FT |-;clear J9;go_wp2_with fail;go_end0;exact⟨But.of aS.E,.inl ⟨ns,FT.E,rfl,HN.E.below aS.E⟩⟩
 rw[J9] at FT;simp only[lK,if_false] at FT |-;exact⟨rfl,But.of aS.E,.inr ⟨FT.E,8,aL,rfl⟩⟩
section
theorem avH(v:ak)(w:Y):(Instr.typeAssert (.iface 336 v) 20 336 Z).run aa w= .ok (bz #[v,Z]) w:=by kernel_rfl
attribute [local go_sem] avH
theorem avI(p:aK)(x n:Int)(w:Y)(hc:w.cell? p=N (C D x))(hz:w.frozen? p=X):
  aF aa 160 #[aQ (N p),.iface 336 (n)] w λe w'=>e=aI (bz #[])/\w'=w.setCell p (C D n):=by go_enter func160,ntmps160;go_wp2_with fail;go_end0;exact⟨rfl,rfl⟩
theorem avJ(p:aK)(w:Y):
  aF aa 160 #[aQ (N p),.nilIface] w λe w'=>e=aI (bz #[])/\w'=w:=by go_enter func160,ntmps160;go_wp2_with fail;refine eX (results_none rfl _ _ _) rfl ?_;exact⟨rfl,rfl⟩
theorem ajR(p:aK)(x n:Int)(older:List PanicEntry)(w:Y)(hc:w.cell? p=N (C D x))(hz:w.frozen? p=X):
  CallsD aa 159 #[aQ (N p)] (.panicking ({v:= .iface 336 (C D n),recovered:=X}::older)) w λe u' w'=>
   e=aI (bz #[])/\u'= .panicking ({v:= .iface 336 (C D n),recovered:=Z}::older)/\w'=w.setCell p (C D n):=by
 refine callsD_of_wpS func159 rfl λc₀ cs hu=>?_
 apply wpS_region
 simp[wpOpsS,go_sem,recoverD,hu,ntmps159,Exit.thenS]
 refine(avI p x n w hc hz).mono ?_
 rintro e w1 ⟨rfl,rfl⟩
 simp[bodyPostS,results,results159]
theorem avK(p:aK)(w:Y):
  CallsD aa 159 #[aQ (N p)] .returning w λe u' w'=>e=aI (bz #[])/\u'= .returning/\w'=w:=by refine callsD_of_wpS func159 rfl λc₀ cs hu=>?_;apply wpS_region;simp[wpOpsS,go_sem,recoverD,hu,ntmps159,Exit.thenS];refine(avJ p w).mono ?_;rintro e w1 ⟨rfl,rfl⟩;cases c₀;simp_all [bodyPostS,results,results159]
end
def WQ(cz:Int->Bool)(r:di)(w:Y)(e:Ending)(w':Y):Prop:=
 aj w w w'/\∃n:Int,e=aI n/\(n=0↔qj cz r=Z)
theorem rT.made(w:Y):rT (w.alloc (.map #[] 0)) w []:=⟨[],eD.made w,λn=>rfl⟩
structure Ka(w:Y)(nm:List UInt8)(pr:Bool)(A:Option aK)(na ca:Nat)(az:Int)(ns:List (List UInt8))(W:Y):Prop where
 bl:aj w w W
 b0:ai W w 121 #[nm,pr,O A na ca,az]
 b1:ai W (w.heap.size+1) 41 #[C D 0]
 b3:ai W (w.heap.size+3) 282 #[.map (N (w.heap.size+2)),pr]
 nm_:rT W (w.heap.size+2) ns
section
variable{w W W':Y}{nm:List UInt8}{pr:Bool}{A:Option aK}{na ca:Nat}{az:Int}{ns ns':List (List UInt8)}
theorem Ka.below(h:Ka w nm pr A na ca az ns W)(hb:aj W W W'):Ka w nm pr A na ca az ns W':=⟨h.bl.trans (hb.mono h.bl.size),h.b0.below hb h.b0.lt,h.b1.below hb h.b1.lt,h.b3.below hb h.b3.lt,h.nm_.below hb⟩
theorem Ka.but(h:Ka w nm pr A na ca az ns W)(hb:But (w.heap.size+2) W W')(hn:rT W' (w.heap.size+2) ns'):Ka w nm pr A na ca az ns' W':=⟨h.bl.trans (hb.low I h.bl.size),h.b0.but hb I,h.b1.but hb I,h.b3.but hb I,hn⟩
theorem Ka.lt(h:Ka w nm pr A na ca az ns W):w.heap.size+4<=W.heap.size:=by have:=h.b3.lt;omega
end
theorem avL(r:di)(aX:jK r=Z)(l:List bE)(Ac:Option aK)(nc cc B:Nat)(w:Y)(S:Nat->Prop)(A:Option aK)(na ca:Nat)
  (hA:zt w S r.stmts A na ca) (hS:∀q,S q->q<w.heap.size) (hr:Reads w B 4 Ac nc (jS l)) (hB:B<=w.heap.size) (hn:nc<=9223372036854775807):
  aF aa 85 #[aD #[r.name,r.pair,O A na ca,r.az],O Ac nc cc] w (WQ (fJ l) r w):=by
 have zx:= @run_makeMap aa;obtain⟨f1,f2,f3,f4,f5⟩:=NU aX;have bH:=hA.1;have gH:=G bH;have AL:na<=30:=I;have HA:=G hA;have jc:=G hS;have HR:=G hr;have JZ:=G f5;have nR:af (qj (fJ l) r=((qX (fJ l) r.pair [] r.stmts).isSome&&fJ l r.az)):=rfl;clear hA hS hr f5 aX bH f2;generalize r.stmts=ss at*;generalize r.name=nm at*;generalize r.pair=pr at*;generalize r.az=az at*;go_enter_defers func85,ntmps85;have CZ:af (Ka w nm pr A na ca az [] ((((w.alloc (ag #[nm,pr,O A na ca,az] 121)).alloc (ag #[C D 0] 41)).alloc (.map #[] 0)).alloc (ag #[.map (N (w.heap.size+2)),pr] 282))):=by
  refine⟨(((((aN _ _).alloc (aC _) _).alloc aG _).alloc bB _).alloc bB _),(((ai.new w _ _).alloc _).alloc _).alloc _,?_,?_,?_⟩;·have:=((ai.new (w.alloc (ag #[nm,pr,O A na ca,az] 121)) 41 #[C D 0]).alloc (.map #[] 0)).alloc (ag #[.map (N (w.heap.size+2)),pr] 282);rw[aW] at this;exact this
  ·have:=ai.new (((w.alloc (ag #[nm,pr,O A na ca,az] 121)).alloc (ag #[C D 0] 41)).alloc (.map #[] 0)) 282 #[.map (N (w.heap.size+2)),pr];simp only[aW] at this;exact this
  have h1:=(rT.made ((w.alloc (ag #[nm,pr,O A na ca,az] 121)).alloc (ag #[C D 0] 41))).below ((aN _ _).alloc (aC _) (ag #[.map (N (w.heap.size+2)),pr] 282));simp only[aW] at h1;exact h1
 go_wp2_with fail;go_loopw [16] (λiv wr=>∃(j:Nat) (ns:List (List UInt8)),iv=C D j/\j<=na/\Ka w nm pr A na ca az ns wr/\qX (fJ l) pr [] ss=qX (fJ l) pr ns (ss.drop j)) (λiv _=>na-(intOf iv).toNat);case atStart=>exact⟨0,[],rfl,I,CZ,aG⟩
 clear CZ;obtain⟨j,ns,rfl,hj,hs,jR⟩:=hrel;obtain⟨wo,rfl⟩:=dz wr;have HS:=G hs;have Kb:=G jR;have LM:=hs.lt;have x0:wo.cell? ⟨w,0,J⟩=N (au ⟨nm.toArray⟩):=hs.b0.cell 0;have x3:wo.cell? ⟨w,3,J⟩=N (C D az):=hs.b0.cell 3;have e0:wo.cell? ⟨w.heap.size+3,0,J⟩=N (.map (N (w.heap.size+2))):=hs.b3.cell 0;have e1:wo.cell? ⟨w.heap.size+3,1,J⟩=N (ax pr):=hs.b3.cell 1;clear hs jR;by_cases aO:j<na;case neg=>
  have Ci:af (qX (fJ l) pr [] ss=N ns):=by show _=_;rw[Kb.E,JC.2 Ju];rfl
  have qU:=G (ajN (w.heap.size+2) pr az l Ac nc cc B wo (HR.keep (λp hp=>HS.bl.cell I)) I hn);cases J9:fJ l az;case true=>
   have Oj:af (qj (fJ l) r=Z):=by show _=_;rw[nR.E,Ci.E,J9];rfl
   rw[J9] at qU;clear J9 Kb;simp only[if_true] at qU;go_wp2_with fail;refine qU.mono ?_;rintro e w2 ⟨aJ,rfl⟩;have mV:=G (HS.below aJ);have q0:w2.cell? ⟨w.heap.size+1,0,J⟩=N (C D 0):=mV.b1.cell 0;have q1:=mV.b1.frozen 0;clear aJ x0 x3 e0 e1;go_wp2_with fail;have c4:(w2.setCell ⟨w.heap.size+1,0,J⟩ (C D 0)).cell? ⟨w.heap.size+1,0,J⟩=N (C D 0):=(mV.b1.bL 0 (C D 0)).cell 0;refine leaves_cons (f:=159) (args:=#[aQ (N ⟨w.heap.size+1,0,J⟩)]) aG (by simp[go_sem]) ?_;refine(avK ⟨w.heap.size+1,0,J⟩ _).mono ?_;rintro e u' w3 ⟨rfl,rfl,rfl⟩;have HF:af (WQ (fJ l) r w (aI (C D 0)) (w2.setCell ⟨w.heap.size+1,0,J⟩ (C D 0))):=⟨mV.bl.setCell (p:=⟨w.heap.size+1,0,J⟩) Cz _,0,rfl,by simp[Oj.E]⟩;simp[Leaves,settle,results,results85,go_sem,c4];exact HF
  have Oj:af (qj (fJ l) r=X):=by show _=_;rw[nR.E,Ci.E,J9];rfl
  rw[J9] at qU;clear J9 Kb;simp only[lK,if_false] at qU;go_wp2_with fail;refine qU.mono ?_;rintro e w2 ⟨aJ,rfl⟩;have mV:=G (HS.below aJ);have q0:w2.cell? ⟨w.heap.size+1,0,J⟩=N (C D 0):=mV.b1.cell 0;have q1:=mV.b1.frozen 0;clear aJ x0 x3 e0 e1;unfold P7;refine leaves_cons (f:=159) (args:=#[aQ (N ⟨w.heap.size+1,0,J⟩)]) aG (by simp[go_sem]) ?_;refine(ajR ⟨w.heap.size+1,0,J⟩ 0 8 [] _ q0 q1).mono ?_;rintro e u' w3 ⟨rfl,rfl,rfl⟩;have c4:(w2.setCell ⟨w.heap.size+1,0,J⟩ (C D 8)).cell? ⟨w.heap.size+1,0,J⟩=N (C D 8):=(mV.b1.bL 0 (C D 8)).cell 0;have HF:af (WQ (fJ l) r w (aI (C D 8)) (w2.setCell ⟨w.heap.size+1,0,J⟩ (C D 8))):=⟨mV.bl.setCell (p:=⟨w.heap.size+1,0,J⟩) Cz _,8,rfl,by simp[Oj.E]⟩;simp[Leaves,settle,results,results85,go_sem,c4];exact HF
 have b3:(j:Int)<(na:Int):=I;have oN:j<ss.length:=G9;have BL:=HA.keep (w':=wo) (S':=S) (λq hq=>HS.bl.block q (jc q hq)) (λq hq=>hq);obtain⟨gs,A2,n2,c2,Lp,hgs,⟨d0,d1,d2,d3,d4,d5,d6,d7,d8⟩,kY⟩:=BL.nine aO;subst Lp;have dK:ss.getD j ay∈ss:=by have:ss.getD j ay=ss[j]:=YX;rw[this];exact rF oN
 have ajS:=JZ _ dK;have HDR:af (ss.drop j=ss.getD j ay::ss.drop (j+1)):=by show _=_;rw[DY oN];simp[dO,oN]
 have ajT:af (∀W,aj wo wo W->aF aa 161 #[aD #[.map (N (w.heap.size+2)),pr],aD #[C D (ss.getD j ay).kind,C D (ss.getD j ay).dM,au ⟨(ss.getD j ay).name.toArray⟩,C D (ss.getD j ay).expr.hd.kind,C D (ss.getD j ay).expr.hd.value,C D (ss.getD j ay).expr.hd.from_,C D (ss.getD j ay).expr.hd.az,au ⟨(ss.getD j ay).expr.hd.name.toArray⟩,O A2 n2 c2],O Ac nc cc] W
   (aat (fJ l) pr ns (ss.getD j ay) (w.heap.size+2) W)):=λW hW=>
  avG _ ajS ns pr (w.heap.size+2) l Ac nc cc B W S A2 n2 c2 (kY.keep (λq hq=>hW.block q (by have:=jc q hq;omega)) (λq hq=>hq)) (λq hq=>by have:=jc q hq;have:=hW.size;omega) (HS.nm_.below hW) (HR.keep (λp hp=>(hW.cell I).trans (HS.bl.cell I))) I hn
 have Ql:=G (λr'=>ajO (fJ l) pr ns (ss.getD j ay) r');clear BL dK oN kY ajS;generalize Wo:ss.getD j ay=s at*;clear Wo;generalize sM:s.kind=sk at*;generalize iL:s.dM=sa at*;generalize pg:s.name=sn at*;generalize yH:s.expr.hd=eh at*;clear sM iL pg yH;obtain⟨kd,vl,fr,tt,en⟩:=eh;simp only[] at ajT d3 d4 d5 d6 d7;have aT:aj wo wo (wo.alloc (ag #[sk,sa,sn,kd,vl,fr,tt,en,O A2 n2 c2] 130)):=(aN _ _).alloc (aC _) _;have aP:=G aT;have vJ:=G (HS.below aT);have g0:(wo.alloc (ag #[sk,sa,sn,kd,vl,fr,tt,en,O A2 n2 c2] 130)).cell? ⟨w.heap.size+3,0,J⟩=N (.map (N (w.heap.size+2))):=vJ.b3.cell 0;have g1:(wo.alloc (ag #[sk,sa,sn,kd,vl,fr,tt,en,O A2 n2 c2] 130)).cell? ⟨w.heap.size+3,1,J⟩=N (ax pr):=vJ.b3.cell 1;clear aT;go_wp2_with fail;refine(ajT _ aP).mono ?_;rintro e w2 ⟨gD,eP⟩;rcases eP with⟨ns',hns,rfl,nO⟩|⟨hns,n,hne0,rfl⟩;case inl=>
  have mV:=G (vJ.but gD nO);have avM:af (qX (fJ l) pr [] ss=qX (fJ l) pr ns' (ss.drop (j+1))):=by show _=_;rw[Kb.E,HDR.E,Ql.E,hns];rfl
  clear gD hns nO Kb HDR Ql;go_wp2_with fail;exact⟨⟨j+1,ns',bR,I,mV,avM⟩,bW⟩
 have Oj:af (qj (fJ l) r=X):=by show _=_;rw[nR.E,Kb.E,HDR.E,Ql.E,hns];rfl
 have aB:ai w2 (w.heap.size+1) 41 #[C D 0]:=vJ.b1.but gD I;have avN:aj w w w2:=vJ.bl.trans (gD.low I vJ.bl.size);have q0:w2.cell? ⟨w.heap.size+1,0,J⟩=N (C D 0):=aB.cell 0;have q1:=aB.frozen 0;clear gD;unfold P7;refine leaves_cons (f:=159) (args:=#[aQ (N ⟨w.heap.size+1,0,J⟩)]) aG (by simp[go_sem]) ?_;refine(ajR ⟨w.heap.size+1,0,J⟩ 0 n [] _ q0 q1).mono ?_;rintro e u' w3 ⟨rfl,rfl,rfl⟩;have c4:(w2.setCell ⟨w.heap.size+1,0,J⟩ (C D n)).cell? ⟨w.heap.size+1,0,J⟩=N (C D n):=(aB.bL 0 (C D n)).cell 0;have HF:af (WQ (fJ l) r w (aI n) (w2.setCell ⟨w.heap.size+1,0,J⟩ (C D n))):=⟨avN.setCell (p:=⟨w.heap.size+1,0,J⟩) Cz _,n,rfl,by simp[Oj.E,hne0]⟩;simp[Leaves,settle,results,results85,go_sem,c4];exact HF
def avO(ok:Bool)(w:Y)(e:Ending)(w':Y):Prop:=
 aj w w w'/\∃i n:Int,e=aI (bz #[i,n])/\(n=0↔ok=Z)
theorem ajU(p:List di)(aX:jT p=Z)(hp:∀r∈p,zu r)(l:List bE)(Ac:Option aK)(nc cc B:Nat)(w:Y)(hE:Env w)(S:Nat->Prop)(A:Option aK)(na ca:Nat)
  (hA:tZ w S p A na ca) (hS:∀q,S q->q<w.heap.size) (hr:Reads w B 4 Ac nc (jS l)) (hB:B<=w.heap.size) (hn:nc<=1000) (hl:∀x∈l,Dh x):
  aF aa 36 #[O A na ca,O Ac nc cc] w (avO (mq l Z&&mg (fJ l) [] p) w):=by
 have zx:= @run_makeMap aa;have bH:=hA.1;have ajV:p.length<=40:=abk;have AL:na<=40:=I;have hV:=ZW p hp S A na ca w hE hA hS I;rw[aX] at hV;have HV:=G hV;have gH:=G bH;have HA:=G hA;have jc:=G hS;have HR:=G hr;have dI:af (∀r∈p,jK r=Z):=by unfold jT at aX;simp only[bq] at aX;exact λr hr=>xD.1 aX.1 r hr
 have WR:af (∀W,aj w w W->aF aa 84 #[O Ac nc cc,Z] W λe w'=>e=aI (mq l Z)/\aj W W w'):=λW hW=>aan l Ac nc cc Z B W (hr.keep (λp hp=>hW.cell I)) lI hn hl;clear hA hS hp hE bH hV aX hr hl;generalize mq l Z=cp at*;go_enter func36,ntmps36;go_wp2_with fail;refine HV.mono ?_;rintro e w1 ⟨rfl,aB⟩;have aM:=G aB;have ed:=aB.size;have vP:=G (WR w1 aB);clear aB HV;go_wp2_with fail;refine vP.mono ?_;rintro e w2 ⟨rfl,aJ⟩;have aS:=G (aM.trans (aJ.mono ed));have fw:w.heap.size<=w2.heap.size:=aS.size;clear aJ vP;cases cp;case false=>go_wp2_with fail;go_ret2;exact⟨aS,0,1,rfl,aG⟩
 have Ol:=G (rT.made w2);have bC:af (aj w w (w2.alloc (.map #[] 0))):=aS.alloc fw _;go_wp2_with fail;go_loopw [21] (λiv wr=>∃(i:Nat) (seen:List (List UInt8)),iv=C D i/\i<=na/\aj w w wr/\rT wr w2 seen/\mg (fJ l) [] p=mg (fJ l) seen (p.drop i)) (λiv _=>na-(intOf iv).toNat);case atStart=>exact⟨0,[],rfl,I,bC,Ol,aG⟩
 clear Ol bC;obtain⟨i,seen,rfl,hi,aH,nO,jR⟩:=hrel;obtain⟨wo,rfl⟩:=dz wr;have bA:=G aH;have vF:=G nO;have nR:=G jR;have eP:=aH.size;have II:=nO.lt;clear aH nO jR;by_cases aO:i<na;case neg=>
  have F:af (mg (fJ l) [] p=Z):=by show _=_;rw[nR.E,JC.2 Ju];rfl
  go_wp2_with fail;go_ret2;exact⟨bA,0,0,rfl,by simp[F.E]⟩
 have b3:(i:Int)<(na:Int):=I;have dA:i<p.length:=G9;have kG:=HA.keep (w':=wo) (S':=S) (λq hq=>bA.block q (jc q hq)) (λq hq=>hq);obtain⟨ga,A',n',c',rfl,F5,a0,a1,a2,a3,fP⟩:=kG.2.2 i aO;have dK:p.getD i ay∈p:=by exact Wd
 have Bb:=dI _ dK;have avP:=(NU Bb).1;have HDR:af (p.drop i=p.getD i ay::p.drop (i+1)):=by show _=_;rw[DY dA];simp[dO,dA]
 have HRK:af (∀W,wo.heap.size<=W.heap.size->(∀q,q<w.heap.size->W.heap[q]?=wo.heap[q]?)->aF aa 85 #[aD #[au ⟨(p.getD i ay).name.toArray⟩,ax (p.getD i ay).pair,O A' n' c',C D (p.getD i ay).az],O Ac nc cc] W (WQ (fJ l) (p.getD i ay) W)):=λW hs hW=>avL _ Bb l Ac nc cc B W S A' n' c' (fP.keep (λq hq=>hW q (jc q hq)) (λq hq=>hq)) (λq hq=>by have:=jc q hq;omega) (HR.keep (λp hp=>(He (hW _ I)).trans (bA.cell I))) I I;have Ql:af (∀q,mg (fJ l) seen (p.getD i ay::q)=(!seen.contains (p.getD i ay).name&&qj (fJ l) (p.getD i ay)&&mg (fJ l) (seen++ [(p.getD i ay).name]) q)):=λq=>rfl;clear kG dK dA fP Bb;generalize p.getD i ay=r at*;generalize Qm:r.name=nm at*;generalize Qn:r.pair=pr at*;generalize Tq:r.az=az at*;clear Qm Qn Tq;have aT:aj wo wo (wo.alloc (ag #[nm,pr,O A' n' c',az] 121)):=(aN _ _).alloc (aC _) _;have HX:=G (ai.new wo 121 #[nm,pr,O A' n' c',az]);have aP:=G aT;obtain⟨m,hm,hg⟩:=vF.below aT;have HM:=G hm;have Gu:=G hg;have HG:=G (hg nm);have Kc:af (oF.ok nm):=(show nm.length<=9223372036854775807 by omega);clear hm hg aT;generalize hcn:seen.contains nm=cn at*;clear hcn;cases cn;case true=>
  have F:af (mg (fJ l) [] p=X):=by show _=_;rw[nR.E,HDR.E,Ql.E];rfl
  go_wp2_with(at_lookup;refine JR (M:=oF) _ iN _ _ rfl w2.heap.size m nm rfl rfl HM Kc ?_;rw[show oF.U (dX oF.d m nm)=ax Z from congrArg ax HG.E]);go_ret2;exact⟨bA.trans (aP.mono eP),i,9,rfl,by simp[F.E]⟩
 go_wp2_with(first|(at_lookup;refine JR (M:=oF) _ iN _ _ rfl w2.heap.size m nm rfl rfl HM Kc ?_;rw[show oF.U (dX oF.d m nm)=ax X from congrArg ax HG.E])|(at_mapUpdate;refine VL (M:=oF) _ rfl _ _ _ rfl w2.heap.size m nm Z rfl rfl rfl HM Kc ?_;intro w8 xS qL;have HX8:=G (HX.grown qL yj);obtain⟨x0,x1,x2,x3⟩:=(show _/\_/\_/\_ from⟨HX8.cell 0,HX8.cell 1,HX8.cell 2,HX8.cell 3⟩);have Qo:=G (bI xS qL);clear xS qL));have aDa:wo.heap.size+1<=w8.heap.size:=by have:=Qo.2.size;simp only[aW] at this;omega
 refine(HRK w8 I (λq hq=>(Qo.2.block q bB yj).trans (nK _ _ q I))).mono ?_;rintro e w9 ⟨rO,n,rfl,rf⟩;have yN:af (aj w w w9):=((bA.trans (aP.mono eP)).trans ((show But w2 _ w8 from Qo.2).low I bB)).trans (rO.mono I);have HN9:af (rT w9 w2 (seen++ [nm])):=(rT.add Gu Qo.1).below rO;clear rO x0 x1 x2 x3;by_cases hz:n=0;case pos=>
  subst hz;have jR:qj (fJ l) r=Z:=rf.1 rfl;have F:af (mg (fJ l) [] p=mg (fJ l) (seen++ [nm]) (p.drop (i+1))):=by show _=_;rw[nR.E,HDR.E,Ql.E,jR];rfl
  clear rf jR;go_wp2_with fail;exact⟨⟨i+1,seen++ [nm],bR,I,yN,HN9,F⟩,bW⟩
 have k5:(n !=0)=Z:=by rw[bne_iff_ne];exact hz
 have F:af (mg (fJ l) [] p=X):=by
  show _=_;have:qj (fJ l) r=X:=by
   cases h:qj (fJ l) r with
   |false=>rfl
   |true=>exact absurd (rf.2 h) hz
  rw[nR.E,HDR.E,Ql.E,this];rfl
 have HZ:=G hz;clear rf hz;go_wp2_with fail;go_ret2;exact⟨yN,i,n,rfl,by simp[F.E,HZ.E]⟩
def LZ(i:Ins):List ak:= [C D i.op,C D i.a,C D i.b]
def kR(l:List Ins):List ak:=(l.map LZ).flatten
theorem Qp(l:List Ins)(i:Ins):kR (l++ [i])=kR l++LZ i:=by simp[kR]
theorem Tt(i:Ins):(LZ i).length=3:=rfl
theorem adv:(aa.info? 142).map (λi=>(i.zero,i.size,i.bytes))=N (N (aD #[C D 0,C D 0,C D 0]),3,24):=by kernel_rfl
def Qq(m:List (List UInt8 × Int))(ns:List (List UInt8)):Prop:=m.map (·.1)=ns/\∀i,i<m.length->(m.getD i ([],0)).2=(i:Int)
structure Gv(B0 bb mb:Nat)(v:ak)(is:List Ins)(ns:List (List UInt8))(W:Y):Prop where
 box:ai W bb 202 #[v,.map (N mb)]
 own:W.ownsRow B0 142 3 v is.length (kR is)
 loc:∃m,eD xO W mb m/\Qq m ns
 b0:B0<=bb
 b1:B0<=mb
abbrev Cj(bb:Nat)(W W':Y):Prop:=Lib.OthersKept 142 (N bb) W W'
theorem Cj.below(h:aj W W W'):Cj bb W W':=λk o hk _ _=>(h.block k (JQ.1 hk).1).trans hk
theorem ai.Tu{cs:Array ak}(h:ai W q t cs)(hk:Cj bb W W')(hq:q≠bb)(ht:t≠142):ai W' q t cs:=hk q _ h (λe=>hq RA) (λc fz e=>ht RA)
theorem eD.Tu{M:MV κ β}{l:List (κ × β)}(h:eD M W b l)(hk:Cj bb W W')(aY:b≠bb):eD M W' b l:=by obtain⟨es,dN,hb,r⟩:=h;exact⟨es,dN,hk b _ hb (λe=>aY RA) (λc fz e=>by cases e),r⟩
theorem aau{B size n:Nat}{e:bM}{v:ak}{xs:List ak}(h:w.ownsRow B e size v n xs):∀g,v.ownBlock=N g->∃c fz,w.heap[g]?=N (ag c e fz):=by
 intro g hg;rcases h.2 with⟨rfl,_⟩|⟨g',cap,cur,rfl,_,hgg,_⟩;·simp[Hd] at hg
 simp[Hd] at hg;subst hg;exact⟨cur,_,hgg⟩
theorem avQ[DecidableEq κ]{M:MV κ β}(w:Y){a:Act}(Ff:o.guard=J)(m x:Operand)(iY:o.op=Op.lookup M.T m x X)(b:Nat)(l:List (κ × β))(k:κ)(hm:a.eval m= .map (N b))(hx:a.eval x=M.V k)(h:eD M w b l)(hk:M.ok k)
  (hK:K (a.put o.dst (M.U (dX M.d l k))) w):if sZ o (yielded ops a.tmps)=Z then yt aa o a w K Q else Fh:=by have hw:sZ o (yielded ops a.tmps)=Z:=abF;rw[if_pos hw];exact ahy w m x iY b l k hm hx h hk hK
theorem adw{M:MV κ β}{g:Nat}{l:List (κ × β)}{cs:Array ak}(h:eD M W b l)(hg:ai W g t cs):b≠g:=by intro e;obtain⟨es,dN,hb,_⟩:=h;have Gh:W.heap[g]?=N (ag cs t (0,0)):=hg;rw[e,Gh] at hb;cases hb
section
variable{B0 bb mb:Nat}{v:ak}{is:List Ins}{ns:List (List UInt8)}{W W':Y}
theorem Gv.below(h:Gv B0 bb mb v is ns W)(hb:aj W W W'):Gv B0 bb mb v is ns W':=by obtain⟨m,h1,h2⟩:=h.loc;exact⟨h.box.below hb h.box.lt,own_below h.own hb,⟨m,h1.below hb h1.lt,h2⟩,h.b0,h.b1⟩
theorem Ke(h:Gv B0 bb mb v is ns W)(op a b:Int)(hn:is.length<=1000000000):
  aF aa 87 #[aQ bb,op,a,b] W λe W'=>e=aI (bz #[])/\(∃v',Gv B0 bb mb v' (is++ [⟨op,a,b⟩]) ns W')/\Cj bb W W'/\aj B0 W W'/\W.heap.size<=W'.heap.size:=by
 obtain⟨i0,gz,fu,gq,fG⟩:=info_parts adv;have HS:=G h;have fq:=h.box.lt;have h0:=h.b0;have x0:W.cell? ⟨bb,0,J⟩=N v:=h.box.cell 0;have HO:=G h.own;clear h;go_enter func87,ntmps87;go_wp2_with(at_builtin;refine pX _ rfl (.tmp 12) (.tmp 17) _ rfl B0 142 i0 _ 3 24 underlying62 gz fu gq fG rfl I _ is.length (kR is) rfl (HO.alloc _) (W.heap.size+1) (N ⟨W,0,J⟩) 1 1 [C D op,C D a,C D b] rfl (mX W #[op,a,b] 142 3 rfl) rZ lH I bB ?_;intro v6 w6 dw bU iT;obtain⟨A6,c6,rfl⟩:=eO dw;have jw:=G ((HS.box.alloc (ag #[op,a,b] 142)).grown bU (λe=>iQ HO HS.box aL e.symm));have y0:=jw.cell 0;have yf:=jw.frozen;simp only[iH,iI] at y0;have oL:=G (bI dw (bI bU iT));clear dw bU iT);go_end0;obtain⟨dw,bU,_⟩:=oL;obtain⟨m,hm,hl⟩:=HS.loc;have ajW:Cj bb W (w6.setCell ⟨bb,0,J⟩ (O A6 (is.length+1) c6)):=(((Lib.OthersKept.refl _ _ W).alloc _).grown bU (aau (HO.alloc _))).setCell ⟨bb,0,J⟩ rfl _;have hlow:aj B0 W w6:=((aN B0 W).alloc I _).trans (tu (HO.alloc _) bU bB);refine⟨rfl,⟨O A6 (is.length+1) c6,?_,?_,⟨m,hm.Tu ajW (adw hm HS.box),hl⟩,h0,HS.b1⟩,ajW,hlow.setCell (p:=⟨bb,0,J⟩) h0 _,?_⟩;·have:=jw.bL 0 (O A6 (is.length+1) c6);simpa using this
 ·rw[eB,mf,Qp];exact mO dw (a:=⟨bb,0,J⟩) (iQ dw jw aL) _
 have:=bU.size;simp only[aW,wh] at this |-;omega
end
theorem Cj.trans{a b c:Y}(h:Cj bb a b)(k:Cj bb b c):Cj bb a c:=Lib.OthersKept.trans h k
def adz(B0 bb mb:Nat)(is:List Ins)(ns:List (List UInt8))(W:Y)(e:Ending)(W':Y):Prop:=
 e=aI (bz #[])/\(∃v',Gv B0 bb mb v' is ns W')/\Cj bb W W'/\aj B0 W W'/\W.heap.size<=W'.heap.size
def adA(B0 bb mb:Nat)(ns:List (List UInt8))(x:Ex):Prop:=∀(is:List Ins) (v:ak) (W:Y) (S:Nat->Prop) (A:Option aK) (na ca:Nat),Gv B0 bb mb v is ns W->eU W S x (O A na ca)->(∀q,S q->q<B0)->is.length+x.sz<=100000000->
 aF aa 86 #[aQ bb,gJ x.hd (O A na ca)] W (adz B0 bb mb (is++cE ns x) ns W)
def uR(ns:List (List UInt8))(x:Ex)(i:Nat):List Ins:=(x.args.take i).flatMap (cE ns)
theorem avR(h:i<x.args.length):uR ns x (i+1)=uR ns x i++cE ns (x.args.getD i ay):=by unfold uR;rw[sD h,List.flatMap_append];simp[dO,h]
theorem aav(ns:List (List UInt8)):∀x:Ex,(cE ns x).length=x.sz:=by
 intro x;induction x with
 |lf h=>
  simp only[cE,Ex.sz];split;·rfl
  split;·rfl
  split<;>rfl
 |un h a ih=>simp[cE,Ex.sz,ih]
 |bi h a b qg vg=>simp[cE,Ex.sz,qg,vg];omega
def Gw(ns:List (List UInt8))(h:lL):Ins:=
 if h.kind=1 then⟨1,h.value,0⟩ else if h.kind=2 then⟨2,(ns.idxOf h.name:Nat),0⟩ else if h.kind=21 then⟨3,h.from_,h.az⟩ else if h.kind=22 then⟨4,h.from_,h.az⟩ else if h.kind=20 then⟨9,h.value,0⟩ else⟨nY h.kind,0,0⟩
theorem avS(ns:List (List UInt8))(x:Ex)(ho:eG x=Z):cE ns x=uR ns x x.args.length++ [Gw ns x.hd]:=by
 cases x with
 |lf h=>have hk:=PQ ho;rcases hk with e|e|e|e<;>simp[cE,uR,Ex.args,Gw,Ex.hd,e]
 |un h a=>simp only[eG,bq] at ho;have hk:=ND ho.1;rcases hk with e|e|e|e|e<;>simp[cE,uR,Ex.args,Gw,Ex.hd,e,nY]
 |bi h a b=>
  simp only[eG,bq] at ho;have hk:=NF ho.1;have e:Gw ns h=⟨nY h.kind,0,0⟩:=by unfold Gw;rw[if_neg I,if_neg I,if_neg I,if_neg I,if_neg I]
  simp[cE,uR,Ex.args,Ex.hd,e]
theorem avT{m:List (List UInt8 × Int)}{x:List UInt8}(hm:eD xO W mb m)(hl:Qq m ns)(hx:ns.contains x=Z):dX 0 m x=((ns.idxOf x:Nat):Int):=by
 obtain⟨es,dN,_,_,_,_,_,pz⟩:=hm;have aO:ns.idxOf x<ns.length:=List.idxOf_lt_length_iff.2 (by simpa using hx);have KH:ns.length=m.length:=by rw[<-hl.1,oz]
 have hi:ns.idxOf x<m.length:=I;have hk:(m[ns.idxOf x]).1=x:=by
  have h1:ns[ns.idxOf x]=x:=List.getElem_idxOf aO;have h2:(m.map (·.1))[ns.idxOf x]'(by rw[oz];exact hi)=ns[ns.idxOf x]:=by have:=hl.1;subst this;rfl
  rw[List.getElem_map] at h2;exact h2.trans h1
 rw[acy 0 pz (wu hi) hk];have:=hl.2 _ hi;simpa[dO,hi] using this
theorem avU(ns:List (List UInt8))(h:i<x.args.length):(uR ns x i).length+(x.args.getD i ay).sz+1<=x.sz:=by
 cases x with
 |lf h0=>simp[Ex.args] at h
 |un h0 a=>simp only[Ex.args,iP,pV] at h;obtain rfl:i=0:=I;simp[uR,Ex.args,Ex.sz]
 |bi h0 a b=>
  simp only[Ex.args,iP,pV] at h;rcases(by omega:i=0\/i=1) with rfl|rfl;·simp[uR,Ex.args,Ex.sz]
  simp[uR,Ex.args,Ex.sz,aav]
def IM:Array ak:=#[C D 0,C D 0,C D 0,C D 5,C D 6,C D 7,C D 8,C D 10,C D 11,C D 12,C D 13,C D 14,C D 15,C D 16,C D 17,C D 18,C D 19,C D 20,C D 21,C D 22]
def aaw:Array ak:=#[C D 0,C D 0,C D 0,C D 0,C D 0,C D 0,C D 0,C D 0,C D 0,C D 0,C D 0,C D 0,C D 0,C D 0,C D 0,C D 0,C D 0,C D 0,C D 0,C D 0]
theorem avV(w:Y):(Instr.build 285 #[(3,C D 5),(4,C D 6),(5,C D 7),(6,C D 8),(7,C D 10),(8,C D 11),(9,C D 12),(10,C D 13),(11,C D 14),(12,C D 15),(13,C D 16),(14,C D 17),(15,C D 18),(16,C D 19),(17,C D 20),(18,C D 21),(19,C D 22)]).run aa w= .ok (aD IM) w:=by kernel_rfl
theorem ajX:(aa.info? 285).map (·.size)=N IM.size:=by kernel_rfl
theorem ajY:aaw.size=IM.size:=by kernel_rfl
theorem ajZ:IM.all (·.oneCell')=Z:=by kernel_rfl
theorem avW(k:Nat)(h1:3<=k)(h2:k<=19):IM[k]?=N (C D (nY (k:Int))):=by rcases(by omega:k=3\/k=4\/k=5\/k=6\/k=7\/k=8\/k=9\/k=10\/k=11\/k=12\/k=13\/k=14\/k=15\/k=16\/k=17\/k=18\/k=19) with rfl|rfl|rfl|rfl|rfl|rfl|rfl|rfl|rfl|rfl|rfl|rfl|rfl|rfl|rfl|rfl|rfl<;>rfl
theorem adB(x:Ex)(ho:eG x=Z)(ns:List (List UInt8))(pair:Bool)(t:Int)(kZ:fA ns pair x=N t)(B0 bb mb:Nat)(hK:∀y∈x.args,adA B0 bb mb ns y):adA B0 bb mb ns x:=by
 intro is v W S A na ca hB hA hS bV;obtain⟨bH,hcap⟩:=hA.len;have AL:na<=2:=OV;have gH:=G bH;have HA:=G hA;have HS:=G hS;have HK:=G hK;have FP:=hB.box.lt;have aT:=hB.b0;have yO:=G hB;have gP:=G (λ(i:Nat) (h:i<na)=>avR (ns:=ns) (x:=x) (i:=i) Rv);have Ld:=G (λ(i:Nat) (h:i<na)=>avU (x:=x) (i:=i) ns Rv);have Qr:=G (avS ns x ho);rw[<-bH] at Qr;have WS:af (1<=x.hd.kind/\x.hd.kind<=22):=by
  cases x with
  |lf h=>have:=Sq ho;exact⟨this.2.1,this.2.2.1⟩
  |un h a=>simp only[eG,bq] at ho;have:=Sq ho.1;exact⟨this.2.1,this.2.2.1⟩
  |bi h a b=>simp only[eG,bq] at ho;have:=Sq ho.1;exact⟨this.2.1,this.2.2.1⟩
 have aj0:af (x.hd.kind=2->ns.contains x.hd.name=Z):=λh2=>by
  cases x with
  |lf h=>
   simp only[Ex.hd] at h2 |-;simp only[fA,if_pos h2] at kZ;by_cases hc:ns.contains h.name=Z;·exact hc
   rw[if_neg hc] at kZ;exact absurd kZ aG
  |un h a=>simp only[eG,bq,Ex.hd] at ho h2;have:=ND ho.1;omega
  |bi h a b=>simp only[eG,bq,Ex.hd] at ho h2;have:=NF ho.1;omega
 have Nz:af (x.hd.name.length<=16):=by
  cases x with
  |lf h=>exact(Iu ho).2.2.2.2.2.2
  |un h a=>simp only[eG,bq] at ho;exact(Iu ho.1).2.2.2.2.2.2
  |bi h a b=>simp only[eG,bq] at ho;exact(Iu ho.1).2.2.2.2.2.2
 clear hK hA hS bH hB;unfold gJ;have dC:=G (ai.new W 128 #[C D x.hd.kind,C D x.hd.value,C D x.hd.from_,C D x.hd.az,au ⟨x.hd.name.toArray⟩,O A na ca]);have aM:af (aj W.heap.size W (W.alloc (ag #[C D x.hd.kind,C D x.hd.value,C D x.hd.from_,C D x.hd.az,au ⟨x.hd.name.toArray⟩,O A na ca] 128))):=(aN _ _).alloc (aC _) _;have Tv:=G (yO.E.below aM.E);generalize hhd:x.hd=hh at*;obtain⟨kd,vl,fr,az,nm⟩:=hh;simp only[] at dC aM Tv Nz |-;have Sj:=G hhd;clear hhd;go_enter func86,ntmps86;go_wp2_with fail;go_loopw [10] (λiv wr=>∃(i:Nat),iv=C D i/\i<=na/\(∃v',Gv B0 bb mb v' (is++uR ns x i) ns wr)/\Cj bb W wr/\aj B0 W wr/\W.heap.size<wr.heap.size/\ai wr W.heap.size 128 #[C D kd,C D vl,C D fr,C D az,au ⟨nm.toArray⟩,O A na ca]) (λiv _=>na-(intOf iv).toNat);case atStart=>exact⟨0,rfl,I,⟨v,by simpa[uR] using Tv.E⟩,Cj.below aM.E,aM.E.mono I,aG,dC.E⟩
 clear dC Tv aM;obtain⟨i,rfl,hi,⟨v',kr⟩,uS,fq,hws,pM⟩:=hrel;obtain⟨wo,rfl⟩:=dz wr;have SB:=G kr;have yP:=G uS;have zK:=G fq;have HXB:=G pM;by_cases aO:i<na;case pos=>have b3:(i:Int)<(na:Int):=I;have kG:=HA.E.keep (w':=wo) (S':=S) (λq hq=>fq.block q (HS.E q hq)) (λq hq=>hq);obtain⟨ga,A',n',c',rfl,F5,gT,kY⟩:=kG.at_ aO;have FS:=G (gP.E i aO);have hz:=Ld.E i aO;have dK:=PK (show i<x.args.length by rw[<-gH.E];exact aO);have HC:af (∀u,aj wo.heap.size wo u->aF aa 86 #[aQ (N ⟨bb,0,J⟩),gJ (x.args.getD i ay).hd (O A' n' c')] u (adz B0 bb mb (is++uR ns x i++cE ns (x.args.getD i ay)) ns u)):=λu hu=>HK.E _ dK _ v' u S A' n' c' (SB.E.below hu) (kY.keep (λq hq=>hu.block q (by have:=HS.E q hq;have:=zK.E.size;omega)) (λq hq=>hq)) HS.E UX;unfold gJ at HC;clear kY dK kG kr uS fq pM;generalize x.args.getD i ay=y at*;obtain⟨a0,a1,a2,a3,a4,a5⟩:=Sk gT;clear gT;generalize Wh:y.hd=yh at*;clear Wh;obtain⟨ou,lN,lQ,gQ,fQ⟩:=yh;simp only[] at HC a0 a1 a2 a3 a4;have WT:aj wo.heap.size wo (wo.alloc (ag #[C D ou,C D lN,C D lQ,C D gQ,au ⟨fQ.toArray⟩,O A' n' c'] 128)):=(aN _ _).alloc (aC _) _;have jw:=G WT;clear WT;go_wp2_with fail;refine(HC.E _ jw.E).mono ?_;rintro e w2 ⟨rfl,⟨v2,aJ⟩,qF,qM,fw⟩;have kW:=G ((yP.E.trans (Cj.below jw.E)).trans qF);have xK:=G ((zK.E.trans (jw.E.mono I)).trans qM);have eu:=G ((HXB.E.below jw.E HXB.E.lt).Tu qF I aL);have aS:=G aJ;simp only[aW] at fw;clear aJ qF qM;go_wp2_with fail;exact⟨⟨i+1,bR,I,⟨v2,by rw[FS.E,<-xw];exact aS.E⟩,kW.E,xK.E,I,eu.E⟩,bW⟩
 have k3:decide ((i:Int)<(na:Int))=X:=fI;obtain rfl:i=na:=I;have Qs:af (kd=1\/kd=2\/kd=20\/kd=21\/kd=22\/∃k:Nat,3<=k/\k<=19/\kd=(k:Int)):=by
  have h1:1<=kd/\kd<=22:=WS.E;show _\/_;by_cases h:kd=1\/kd=2\/kd=20\/kd=21\/kd=22;·omega
  exact .inr (.inr (.inr (.inr (.inr ⟨kd.toNat,I,I,I⟩))))
 have Tw:af ((is++uR ns x i).length<=1000000000):=by show _<=_;have:=Qr.E;have h2:=congrArg List.length this;rw[aav,eB,mf] at h2;rw[eB];omega
 have Z6:=G (ai.new wo 285 IM);have FW:aj wo.heap.size wo (wo.alloc (ag IM 285)):=(aN _ _).alloc (aC _) _;have Om:=G (SB.E.below FW);have CQ:=G (pM.below FW I);have Tx:=G (yP.E.trans (Cj.below FW));have Dj:=G (zK.E.trans (FW.mono (by have:=zK.E.size;omega)));have fP:=FW.size;obtain⟨x0,x1,x2,x3,x4,x5⟩:=gW pM;clear FW kr uS fq pM;have hsA:=run_storeCells_new (P:=aa) wo 285 aaw IM ajX ajY ajZ;have hsB:=run_storeAt_new (P:=aa) wo 285 aaw IM ajX ajY ajZ;unfold aaw at hsA hsB;go_upto_region 7 with((with_reducible refine Vs rfl 285 _ rfl _ ?_ (aD IM) (avV _) ?_);go_loud (simp only[List.map_toArray,kE,List.map_nil];rfl));clear hsA hsB;clear x0 x1 x2 x3 x4 x5;generalize wo.alloc (ag IM 285)=wt at*;obtain⟨x0,x1,x2,x3,x4,_⟩:=gW CQ.E;have q8:af (cE ns x=uR ns x i++ [Gw ns ⟨kd,vl,fr,az,nm⟩]):=Qr.E;have avX:af (kd=2->ns.contains nm=Z):=aj0.E;clear Qr Sj WS aj0 gP Ld;rcases Qs.E with rfl|rfl|rfl|rfl|rfl|⟨k,wH,qF,rfl⟩
 ·have FL:af (cE ns x=uR ns x i++ [⟨1,vl,0⟩]):=by
   show _=_
   rw[q8.E]
   simp[Gw,nY]
  clear q8
  go_wp2_with fail
  refine(Ke Om.E 1 vl 0 Tw.E).mono ?_
  rintro e w3 ⟨rfl,⟨v3,aR⟩,kV,rU,fM⟩
  have HF:=G (bI aR (bI kV rU))
  clear aR kV rU
  go_wp2_with fail
  go_end0
  exact⟨rfl,⟨v3,UL⟩,Tx.E.trans HF.E.2.1,Dj.E.trans HF.E.2.2,I⟩
 ·have FL:af (cE ns x=uR ns x i++ [⟨2,((ns.idxOf nm:Nat):Int),0⟩]):=by
   show _=_
   rw[q8.E]
   simp[Gw,nY]
  clear q8
  obtain⟨m,hm,hl⟩:=Om.E.loc
  have HM:=G hm
  have IL:dX 0 m nm=((ns.idxOf nm:Nat):Int):=avT hm hl (avX.E rfl)
  have Ey:=G IL
  have yx:=Nz.E
  have Kc:af (xO.ok nm):=(show nm.length<=9223372036854775807 by omega)
  clear hm hl IL
  have z0:wt.drew.cell? ⟨bb,1,J⟩=N (.map (N mb)):=Om.E.box.cell 1
  have z1:wt.drew.cell? ⟨W.heap.size,4,J⟩=N (au ⟨nm.toArray⟩):=x4
  have HDR:=G (Om.E.below (qH (aN _ _)))
  go_upto_region 12 with fail
  refine iA (S:=λy=>y.cell? ⟨bb,1,J⟩=N (.map (N mb))/\y.cell? ⟨W.heap.size,4,J⟩=N (au ⟨nm.toArray⟩)) dh ⟨z0,z1⟩ (λbg=>?_)
  refine aA 0 ?_
  refine aA 1 ?_
  refine aA 2 ?_
  refine aA 3 ?_
  refine aA 4 ?_
  refine aA 5 ?_
  refine aA 6 ?_
  refine bK 7 (λK hK=>?_)
  refine avQ (M:=xO) wt.drew rfl (.tmp 39) (.tmp 41) rfl mb m nm Jw (by simp[Act.eval];rfl) HM.E Kc.E ?_
  rw[show xO.U (dX xO.d m nm)=C D ((ns.idxOf nm:Nat):Int) from congrArg (C D) Ey.E]
  refine bF hK (by exact⟨z0,z1⟩) (λaDb=>?_)
  clear hK K
  refine bK 8 (λK hK=>?_)
  go_simp
  refine(Ke HDR.E 2 ((ns.idxOf nm:Nat):Int) 0 Tw.E).mono ?_
  rintro e w3 ⟨rfl,⟨v3,aR⟩,kV,rU,fM⟩
  dsimp only
  refine hK.out _ _ ?avY (λaDc=>?_)
  case avY=>
   exact⟨aR.box.cell 1,(ai.Tu CQ.E.drew kV I aL).cell 4⟩
  clear hK K
  (try simp only[uB,pY,oh,oP,uC,uD,uE])
  refine gI ?_
  go_wp2_with fail
  go_end0
  exact⟨rfl,⟨v3,by rw[FL.E,<-xw];exact aR⟩,Tx.E.trans kV,Dj.E.trans ((qH (aN _ _)).trans rU),by have:wt.heap.size<=w3.heap.size:=fM;omega⟩
 ·have FL:af (cE ns x=uR ns x i++ [⟨9,vl,0⟩]):=by
   show _=_
   rw[q8.E]
   simp[Gw,nY]
  clear q8
  go_wp2_with fail
  refine(Ke Om.E 9 vl 0 Tw.E).mono ?_
  rintro e w3 ⟨rfl,⟨v3,aR⟩,kV,rU,fM⟩
  have HF:=G (bI aR (bI kV rU))
  clear aR kV rU
  go_wp2_with fail
  go_end0
  exact⟨rfl,⟨v3,UL⟩,Tx.E.trans HF.E.2.1,Dj.E.trans HF.E.2.2,I⟩
 ·have FL:af (cE ns x=uR ns x i++ [⟨3,fr,az⟩]):=by
   show _=_
   rw[q8.E]
   simp[Gw,nY]
  clear q8
  go_wp2_with fail
  refine(Ke Om.E 3 fr az Tw.E).mono ?_
  rintro e w3 ⟨rfl,⟨v3,aR⟩,kV,rU,fM⟩
  have HF:=G (bI aR (bI kV rU))
  clear aR kV rU
  go_wp2_with fail
  go_end0
  exact⟨rfl,⟨v3,UL⟩,Tx.E.trans HF.E.2.1,Dj.E.trans HF.E.2.2,I⟩
 ·have FL:af (cE ns x=uR ns x i++ [⟨4,fr,az⟩]):=by
   show _=_
   rw[q8.E]
   simp[Gw,nY]
  clear q8
  go_wp2_with fail
  refine(Ke Om.E 4 fr az Tw.E).mono ?_
  rintro e w3 ⟨rfl,⟨v3,aR⟩,kV,rU,fM⟩
  have HF:=G (bI aR (bI kV rU))
  clear aR kV rU
  go_wp2_with fail
  go_end0
  exact⟨rfl,⟨v3,UL⟩,Tx.E.trans HF.E.2.1,Dj.E.trans HF.E.2.2,I⟩
 have FL:af (cE ns x=uR ns x i++ [⟨nY (k:Int),0,0⟩]):=by show _=_;rw[q8.E];unfold Gw;rw[if_neg dY,if_neg dY,if_neg dY,if_neg dY,if_neg dY]
 clear q8;have ck:wt.cell? ⟨wo.heap.size,k,J⟩=N (C D (nY (k:Int))):=(Z6.E.cell k).trans (avW k wH qF);have q1:((k:Int)==1)=X:=iO;have q2:((k:Int)==2)=X:=iO;have q3:((k:Int)==20)=X:=iO;have q4:((k:Int)==21)=X:=iO;have q5:((k:Int)==22)=X:=iO;have b3:(k:Int)<20:=I;generalize nY (k:Int)=ok at*;go_wp2_with fail;refine(Ke Om.E ok 0 0 Tw.E).mono ?_;rintro e w3 ⟨rfl,⟨v3,aR⟩,kV,rU,fM⟩;have HF:=G (bI aR (bI kV rU));clear aR kV rU;go_wp2_with fail;go_end0;exact⟨rfl,⟨v3,UL⟩,Tx.E.trans HF.E.2.1,Dj.E.trans HF.E.2.2,I⟩
theorem avZ(ns:List (List UInt8))(pair:Bool)(B0 bb mb:Nat):∀(x:Ex) (t:Int),eG x=Z->fA ns pair x=N t->adA B0 bb mb ns x:=by
 intro x;induction x with
 |lf h=>intro t ho ht;exact adB _ ho ns pair t ht B0 bb mb (by intro y hy;simp[Ex.args] at hy)
 |un h a ih=>
  intro t ho ht;have CY:∃u,fA ns pair a=N u:=by exact ahK
  obtain⟨u,hu⟩:=CY;have nT:=ho;simp only[eG,bq] at nT;exact adB _ ho ns pair t ht B0 bb mb (by intro y hy;simp only[Ex.args,jZ,nJ,or_false] at hy;subst hy;exact ih u nT.2 hu)
 |bi h a b qg vg=>
  intro t ho ht;have CY:(∃u,fA ns pair a=N u)/\∃u,fA ns pair b=N u:=by exact ahJ
  obtain⟨⟨u,hu⟩,⟨u',hu'⟩⟩:=CY;have nT:=ho;simp only[eG,bq] at nT;exact adB _ ho ns pair t ht B0 bb mb (by intro y hy;simp only[Ex.args,jZ,nJ,or_false] at hy;rcases hy with rfl|rfl;exact qg u nT.2.1 hu;exact vg u' nT.2.2 hu')
theorem aj1{M:MV κ β}{l:List (κ × β)}(h:eD M w b l)(ty:bM):(Builtin.len_ #[M.T] ty #[.map (N b)]).run aa w= .ok (C D (l.length:Int)) w:=by
 obtain⟨es,dN,hb,he,_⟩:=h;have bH:es.size=l.length:=by have:=congrArg List.length he;simpa using this
 simp[Builtin.len_,G8 M.ht,KF hb,goInt,yl,bH]
theorem av0[DecidableEq κ]{M:MV κ β}(w:Y){a:Act}(Ff:o.guard=J)(m x y:Operand)(iY:o.op=Op.mapUpdate M.T m x y)(b:Nat)(l:List (κ × β))(k:κ)(v:β)(hm:a.eval m= .map (N b))(hx:a.eval x=M.V k)(hy:a.eval y=M.U v)(h:eD M w b l)(hk:M.ok k)
  (hK:∀w',eD M w' b (jH l k v)->w.grownBy w' (N b)->K (a.put o.dst undef) w'):if sZ o (yielded ops a.tmps)=Z then yt aa o a w K Q else Fh:=by have hw:sZ o (yielded ops a.tmps)=Z:=abF;rw[if_pos hw];exact ahz w m x y iY b l k v hm hx hy h hk hK
theorem Qq.len{m:List (List UInt8 × Int)}(h:Qq m ns):m.length=ns.length:=by rw[<-h.1,oz]
theorem Qq.add{m:List (List UInt8 × Int)}{x:List UInt8}(h:Qq m ns)(hx:ns.contains x=X):Qq (jH m x (m.length:Int)) (ns++ [x]):=by
 have hn:∀p,p∈m->p.1≠x:=λp hp e=>by
  have h1:x∈ns:=by rw[<-h.1];exact qw.2 ⟨p,hp,e⟩
  have h2:ns.contains x=Z:=MU;rw[h2] at hx;cases hx
 rw[acz hn];refine⟨by rw[oM,h.1];rfl,λi hi=>?_⟩;simp only[eB,mf] at hi;rcases jl i m.length with h1|h1
 ·have e:(m++ [(x,(m.length:Int))]).getD i ([],0)=m.getD i ([],0):=by simp[dO,List.getElem?_append_left h1]
  rw[e];exact h.2 i h1
 obtain rfl:i=m.length:=by omega
 simp[dO]
def stI(ns:List (List UInt8))(s:cZ):Ins:=if s.kind=1 then⟨23,(ns.length:Nat),0⟩ else if s.kind=2 then⟨24,0,0⟩ else⟨25,s.dM,0⟩
theorem av1(ns:List (List UInt8))(s:cZ)(r:List cZ):cS ns (s::r)=cE ns s.expr++(stI ns s::cS (if s.kind=1 then ns++ [s.name] else ns) r):=by
 rw[cS];unfold stI;by_cases h1:s.kind=1;·simp[h1]
 by_cases h2:s.kind=2;·simp[h2]
 simp[h1,h2]
theorem av2{ns':List (List UInt8)}{s:cZ}(h:wV cz pair ns s=N ns'):(∃t,fA ns pair s.expr=N t)/\ns'=(if s.kind=1 then ns++ [s.name] else ns)/\(s.kind=1->ns.contains s.name=X):=by
 unfold wV at h;by_cases kZ:fA ns pair s.expr=N (if s.kind=2 then 2 else 1)
 ·rw[if_pos kZ] at h;refine⟨⟨_,kZ⟩,?_⟩;by_cases h1:s.kind=1
  ·rw[if_pos h1] at h;by_cases h2:ns.contains s.name=Z;·rw[if_pos h2] at h;cases h
   rw[if_neg h2] at h;simp only[kH] at h;rw[if_pos h1];exact⟨h.symm,λ_=>by simpa using h2⟩
  rw[if_neg h1] at h;rw[if_neg h1];refine⟨?_,λh=>absurd h h1⟩;by_cases h3:s.kind=3
  ·rw[if_pos h3] at h;by_cases h2:cz s.dM=Z;·rw[if_pos h2] at h;simpa using h.symm
   rw[if_neg h2] at h;cases h
  rw[if_neg h3] at h;simpa using h.symm
 rw[if_neg kZ] at h;cases h
def aax(r:di)(w:Y)(e:Ending)(w':Y):Prop:=
 ∃v,e=aI (aD #[r.name,r.pair,v])/\w'.ownsRow w 142 3 v (cR r).length (kR (cR r))/\aj w w w'
theorem av3{tmps:Array ak}{cs:Array ak}(h:ai w q 64 cs)(hs:cs.size=3)(h0:tmps.getD 2 undef=aQ q):(results f37 tmps).run aa w= .ok (aD cs) w:=results_cell_row results37 tmps w q 64 cs (0,0) _ h0 h underlying64 rfl Fa
theorem aj2(h:R:=by
  rintro e w4 ⟨rfl,⟨v4,bu⟩,hk4,Iy,rH⟩;have dE:af (Gv (w.heap.size+2) (w.heap.size+3) (w.heap.size+2) v4 (is++ce++ [si]) ns' w4):=by rw[FSI.E,FNS.E];exact bu
  have IP:=G (EE.E.trans Iy);clear bu hk4 Iy y0 y1 y2 y3 y4 y5 y6 y7 y8;go_wp2_with fail;exact⟨⟨j+1,ns',is++ce++ [si],v4,bR,I,dE.E,IP.E,I,by rw[Au.E,su.E];simp,HKK.E,ae7⟩,bW⟩):R:=h
theorem av4(cz:Int->Bool)(r:di)(aX:jK r=Z)(jR:qj cz r=Z)(fO:zu r)(w:Y)(S:Nat->Prop)(A:Option aK)(na ca:Nat)
  (hA:zt w S r.stmts A na ca) (hS:∀q,S q->q<w.heap.size):
  aF aa 37 #[aD #[au ⟨r.name.toArray⟩,ax r.pair,O A na ca,C D r.az]] w (aax r w):=by
 have zx:= @run_makeMap aa;obtain⟨f1,f2,f3,f4,f5⟩:=NU aX;have bH:=hA.1;have gH:=G bH;have AL:na<=30:=I;have HA:=G hA;have jc:=G hS;have JZ:=G f5;have uL:=G fO.2.2;have ql:(qX cz r.pair [] r.stmts).isSome=Z:=by unfold qj at jR;simp only[bq] at jR;exact jR.1
 have Kb:=G ql;have HCR:af (cR r=cS [] r.stmts++ [⟨26,r.az,0⟩]):=rfl;have WU:af (aax r w=λe w'=>∃v,e=aI (aD #[au ⟨r.name.toArray⟩,ax r.pair,v])/\w'.ownsRow w.heap.size 142 3 v (cR r).length (kR (cR r))/\aj w.heap.size w w'):=rfl;clear hA hS f5 aX bH f2 fO ql jR;generalize r.stmts=ss at*;generalize r.name=nm at*;generalize r.pair=pr at*;generalize r.az=az at*;have aP:af (aj (w.heap.size+2) ((((w.alloc (ag #[au ⟨nm.toArray⟩,ax pr,O A na ca,C D az] 121)).alloc (ag #[au ⟨#[]⟩,ax X,O J 0 0] 64)).alloc (.map #[] 0)).alloc (ag #[O J 0 0,.map (N (w.heap.size+2))] 202)) ((((w.alloc (ag #[au ⟨nm.toArray⟩,ax pr,O A na ca,C D az] 121)).alloc (ag #[au ⟨#[]⟩,ax X,O J 0 0] 64)).alloc (.map #[] 0)).alloc (ag #[O J 0 0,.map (N (w.heap.size+2))] 202))):=aN _ _;have nQ:af (aj w.heap.size w ((((w.alloc (ag #[au ⟨nm.toArray⟩,ax pr,O A na ca,C D az] 121)).alloc (ag #[au ⟨#[]⟩,ax X,O J 0 0] 64)).alloc (.map #[] 0)).alloc (ag #[O J 0 0,.map (N (w.heap.size+2))] 202))):=((((aN _ _).alloc (aC _) _).alloc aG _).alloc bB _).alloc bB _;have jL:af (ai ((((w.alloc (ag #[au ⟨nm.toArray⟩,ax pr,O A na ca,C D az] 121)).alloc (ag #[au ⟨#[]⟩,ax X,O J 0 0] 64)).alloc (.map #[] 0)).alloc (ag #[O J 0 0,.map (N (w.heap.size+2))] 202)) w.heap.size 121 #[au ⟨nm.toArray⟩,ax pr,O A na ca,C D az]):=(((ai.new w _ _).alloc _).alloc _).alloc _;have dC:af (ai ((((w.alloc (ag #[au ⟨nm.toArray⟩,ax pr,O A na ca,C D az] 121)).alloc (ag #[au ⟨#[]⟩,ax X,O J 0 0] 64)).alloc (.map #[] 0)).alloc (ag #[O J 0 0,.map (N (w.heap.size+2))] 202)) (w.heap.size+1) 64 #[au ⟨#[]⟩,ax X,O J 0 0]):=by have:=((ai.new (w.alloc (ag #[au ⟨nm.toArray⟩,ax pr,O A na ca,C D az] 121)) 64 #[au ⟨#[]⟩,ax X,O J 0 0]).alloc (.map #[] 0)).alloc (ag #[O J 0 0,.map (N (w.heap.size+2))] 202);rw[aW] at this;exact this
 have yO:af (Gv (w.heap.size+2) (w.heap.size+3) (w.heap.size+2) (O J 0 0) [] [] ((((w.alloc (ag #[au ⟨nm.toArray⟩,ax pr,O A na ca,C D az] 121)).alloc (ag #[au ⟨#[]⟩,ax X,O J 0 0] 64)).alloc (.map #[] 0)).alloc (ag #[O J 0 0,.map (N (w.heap.size+2))] 202))):=by
  refine⟨?_,ng _ _ _ _,⟨[],?_,rfl,λi hi=>by simp at hi⟩,I,aC _⟩;·have:=ai.new (((w.alloc (ag #[au ⟨nm.toArray⟩,ax pr,O A na ca,C D az] 121)).alloc (ag #[au ⟨#[]⟩,ax X,O J 0 0] 64)).alloc (.map #[] 0)) 202 #[O J 0 0,.map (N (w.heap.size+2))];simp only[aW] at this;exact this
  have h1:=(eD.made (M:=xO) ((w.alloc (ag #[au ⟨nm.toArray⟩,ax pr,O A na ca,C D az] 121)).alloc (ag #[au ⟨#[]⟩,ax X,O J 0 0] 64))).alloc (ag #[O J 0 0,.map (N (w.heap.size+2))] 202);simp only[aW] at h1;exact h1
 go_enter func37,ntmps37;go_upto_region 2 with fail;generalize hW0:((((w.alloc _).alloc _).alloc _).alloc _)=wz at*;clear hW0;obtain⟨x0,x1,x2,x3⟩:=(show _/\_/\_/\_ from⟨jL.E.cell 0,jL.E.cell 1,jL.E.cell 2,jL.E.cell 3⟩);simp only[iH,iX,iI] at x0 x1 x2 x3;go_wp2_with fail;clear x0 x1 x2 x3;go_loopw [12] (λiv wr=>∃(j:Nat) (ns:List (List UInt8)) (is:List Ins) (v:ak),iv=C D j/\j<=na/\Gv (w.heap.size+2) (w.heap.size+3) (w.heap.size+2) v is ns wr/\aj (w.heap.size+2) wz wr/\wz.heap.size<=wr.heap.size/\cS [] ss=is++cS ns (ss.drop j)/\(qX cz pr ns (ss.drop j)).isSome=Z/\is.length<=j*1000002) (λiv _=>na-(intOf iv).toNat);case atStart=>exact⟨0,[],[],O J 0 0,rfl,I,yO.E,aN _ _,aC _,aG,by simpa using Kb.E,aG⟩
 obtain⟨j,ns,is,v,rfl,hj,kr,fq,bV,ql,jR,rP⟩:=hrel;obtain⟨wo,rfl⟩:=dz wr;have Tv:=G kr;have zK:=G fq;have HC:=G ql;have HK:=G jR;have aDd:=kr.box.lt;have ku:af (ai wo w.heap.size 121 #[au ⟨nm.toArray⟩,ax pr,O A na ca,C D az]):=(fq.block w.heap.size I).trans jL.E;have bO:af (ai wo (w.heap.size+1) 64 #[au ⟨#[]⟩,ax X,O J 0 0]):=(fq.block (w.heap.size+1) I).trans dC.E;clear kr fq ql jR;have aDe:j*1000002<=30*1000002:=Nat.mul_le_mul_right _ I;by_cases aO:j<na;case neg=>
  have FC:af (cS [] ss=is):=by show _=_;rw[HC.E,JC.2 Ju];simp[cS]
  have x3:wo.cell? ⟨w.heap.size,3,J⟩=N (C D az):=ku.E.cell 3;go_wp2_with fail;refine(Ke Tv.E 26 az 0 I).mono ?_;rintro e w2 ⟨rfl,⟨v2,aJ⟩,qF,qM,_⟩;have aS:=G aJ;have xK:=G (zK.E.trans qM);have jy:af (ai w2 w.heap.size 121 #[au ⟨nm.toArray⟩,ax pr,O A na ca,C D az]):=(qM.block w.heap.size I).trans ku.E;have eu:af (ai w2 (w.heap.size+1) 64 #[au ⟨#[]⟩,ax X,O J 0 0]):=(qM.block (w.heap.size+1) I).trans bO.E;clear aJ qF qM x3;obtain⟨A3,c3,rfl⟩:=eO aS.E.own;have y0:w2.cell? ⟨w.heap.size,0,J⟩=N (au ⟨nm.toArray⟩):=jy.E.cell 0;have y1:w2.cell? ⟨w.heap.size,1,J⟩=N (ax pr):=jy.E.cell 1;have y2:w2.cell? ⟨w.heap.size+3,0,J⟩=N (O A3 (is++ [(⟨26,az,0⟩:Ins)]).length c3):=aS.E.box.cell 0;have z0:w2.cell? ⟨w.heap.size+1,0,J⟩=N (au ⟨#[]⟩):=eu.E.cell 0;have z1:w2.cell? ⟨w.heap.size+1,1,J⟩=N (ax X):=eu.E.cell 1;have z2:w2.cell? ⟨w.heap.size+1,2,J⟩=N (O J 0 0):=eu.E.cell 2;have zf:=eu.E.frozen;go_upto_region 16 with fail;go_region;go_wp2_with fail;have Qt:ai (((w2.setCell ⟨w.heap.size+1,0,J⟩ (au ⟨nm.toArray⟩)).setCell ⟨w.heap.size+1,1,J⟩ (ax pr)).setCell ⟨w.heap.size+1,2,J⟩ (O A3 (is.length+1) c3)).drew (w.heap.size+1) 64 #[au ⟨nm.toArray⟩,ax pr,O A3 (is.length+1) c3]:=by
   have:=((eu.E.bL 0 (au ⟨nm.toArray⟩)).bL 1 (ax pr)).bL 2 (O A3 (is.length+1) c3);have h2:ai (((w2.setCell ⟨w.heap.size+1,0,J⟩ (au ⟨nm.toArray⟩)).setCell ⟨w.heap.size+1,1,J⟩ (ax pr)).setCell ⟨w.heap.size+1,2,J⟩ (O A3 (is.length+1) c3)) (w.heap.size+1) 64 #[au ⟨nm.toArray⟩,ax pr,O A3 (is.length+1) c3]:=by simpa using this
   exact h2.drew
  have aV:=aS.E.own;have aY:∀q,(O A3 (is++ [(⟨26,az,0⟩:Ins)]).length c3).ownBlock≠N (⟨w.heap.size+1,q,J⟩:aK).block:=λq e=>by have:=lJ aV _ e;simp only[] at this;omega
  have hlen1:(is++ [(⟨26,az,0⟩:Ins)]).length=is.length+1:=aG;refine eX (av3 Qt rfl rfl) rfl ?_;rw[WU.E];refine⟨O A3 (is.length+1) c3,rfl,?_,?_⟩;·rw[HCR.E,FC.E];have h3:=mO (mO (mO aV (aY 0) (au ⟨nm.toArray⟩)) (aY 1) (ax pr)) (aY 2) (O A3 (is.length+1) c3);rw[hlen1] at h3 |-;exact Fj (h3.drew) I
  have h4:=(((nQ.E.trans (xK.E.mono I)).setCell (p:=⟨w.heap.size+1,0,J⟩) Cz (au ⟨nm.toArray⟩)).setCell (p:=⟨w.heap.size+1,1,J⟩) Cz (ax pr)).setCell (p:=⟨w.heap.size+1,2,J⟩) Cz (O A3 (is.length+1) c3);exact qH h4
 have b3:(j:Int)<(na:Int):=I;have oN:j<ss.length:=G9;have hws:aj w.heap.size w wo:=nQ.E.trans (zK.E.mono I);have BL:=HA.E.keep (w':=wo) (S':=S) (λq hq=>hws.block q (jc.E q hq)) (λq hq=>hq);obtain⟨gs,A2,n2,c2,Lp,hgs,⟨d0,d1,d2,d3,d4,d5,d6,d7,d8⟩,kY⟩:=BL.nine aO;subst Lp;have dK:ss.getD j ay∈ss:=by have:ss.getD j ay=ss[j]:=YX;rw[this];exact rF oN
 obtain⟨Gg,lD⟩:=Wn (JZ.E _ dK);have hsz1:=(uL.E _ dK).2.2;have Dm:ss.drop j=ss.getD j ay::ss.drop (j+1):=by rw[DY oN];simp[dO,oN]
 have iV:=HK.E;have gT:=HC.E;rw[Dm] at iV gT;rw[ajO] at iV;rw[av1] at gT;obtain⟨ns',hns⟩:∃ns',wV cz pr ns (ss.getD j ay)=N ns':=by
  cases hq:wV cz pr ns (ss.getD j ay) with
  |none=>rw[hq] at iV;simp at iV
  |some u=>exact⟨u,rfl⟩
 rw[hns] at iV;simp only[bZ] at iV;obtain⟨⟨t,ht⟩,aj3,DT⟩:=av2 hns;have jw:af (∀u,aj wo.heap.size wo u->aF aa 86 #[aQ (N ⟨w.heap.size+3,0,J⟩),gJ (ss.getD j ay).expr.hd (O A2 n2 c2)] u (adz (w.heap.size+2) (w.heap.size+3) (w.heap.size+2) (is++cE ns (ss.getD j ay).expr) ns u)):=λu hu=>avZ ns pr (w.heap.size+2) (w.heap.size+3) (w.heap.size+2) _ t Gg ht is v u S A2 n2 c2 (Tv.E.below hu) (kY.keep (λq hq=>hu.block q Js) (λq hq=>hq)) (λq hq=>by have:=jc.E q hq;omega) I;have hcl:=aav ns (ss.getD j ay).expr;have Qu:af (stI ns (ss.getD j ay)=if(ss.getD j ay).kind=1 then⟨23,(ns.length:Nat),0⟩ else if(ss.getD j ay).kind=2 then⟨24,0,0⟩ else⟨25,(ss.getD j ay).dM,0⟩):=rfl;have Au:=G gT;have HKK:=G iV;have su:=G aj3;have WV:=G DT;unfold gJ at jw;clear BL dK oN kY Gg Dm iV gT hns aj3 DT ht hws HC HK;generalize Wo:ss.getD j ay=sx at*;clear Wo;generalize hce:cE ns sx.expr=ce at*;generalize hsi:stI ns sx=si at*;clear hce hsi;generalize sM:sx.kind=sk at*;generalize iL:sx.dM=sa at*;generalize pg:sx.name=sn at*;generalize yH:sx.expr.hd=eh at*;clear sM iL pg yH;obtain⟨kd,vl,fr,tt,en⟩:=eh;simp only[] at jw d3 d4 d5 d6 d7;have aT:aj wo.heap.size wo (wo.alloc (ag #[C D sk,C D sa,au ⟨sn.toArray⟩,C D kd,C D vl,C D fr,C D tt,au ⟨en.toArray⟩,O A2 n2 c2] 130)):=(aN _ _).alloc (aC _) _;have aj4:=G aT;have HSX:=G (ai.new wo 130 #[C D sk,C D sa,au ⟨sn.toArray⟩,C D kd,C D vl,C D fr,C D tt,au ⟨en.toArray⟩,O A2 n2 c2]);clear aT;go_wp2_with fail;refine(jw.E _ aj4.E).mono ?_;rintro e w3 ⟨rfl,⟨v3,aR⟩,kV,rU,fM⟩;have bC:=G aR;have EE:=G ((zK.E.trans (aj4.E.mono I)).trans rU);have rM:=G (HSX.E.Tu kV I aL);simp only[aW] at fM;clear aR kV rU d0 d1 d2 d3 d4 d5 d6 d7 d8;obtain⟨y0,y1,y2,y3,y4,y5,y6,y7,y8⟩:=F4 rM.E;have adC:(is++ce).length<=1000000000:=UX;rcases lD with⟨hk,ze⟩|hk|⟨hk,_⟩
 ·subst hk;have FSI:af (si=⟨23,(ns.length:Nat),0⟩):=by show _=_;rw[Qu.E];simp
  have FNS:af (ns'=ns++ [sn]):=by show _=_;rw[su.E];simp
  obtain⟨m,hm,hloc⟩:=bC.E.loc;have En:∀ty,(Builtin.len_ #[200] ty #[.map (N (w.heap.size+2))]).run aa w3= .ok (C D (ns.length:Int)) w3:=λty=>by rw[<-hloc.len];exact aj1 hm ty
  have e1:w3.cell? ⟨w.heap.size+3,1,J⟩=N (.map (N (w.heap.size+2))):=bC.E.box.cell 1;clear hm hloc;go_wp2_with fail;refine(Ke bC.E 23 (ns.length:Nat) 0 adC).mono ?_;rintro e w4 ⟨rfl,⟨v4,bu⟩,hk4,Iy,rH⟩;have dE:=G bu;have IP:=G (EE.E.trans Iy);have rJ:=G (rM.E.Tu hk4 I aL);clear bu hk4 Iy y0 y1 y2 y3 y4 y5 y6 y7 y8 En e1;obtain⟨m,hm,hloc⟩:=dE.E.loc;have HM:=G hm;have JP:=G hloc;have En:∀ty,(Builtin.len_ #[200] ty #[.map (N (w.heap.size+2))]).run aa w4.drew= .ok (C D (m.length:Int)) w4.drew:=λty=>aj1 hm.drew ty;have Kc:af (xO.ok sn):=(show sn.length<=9223372036854775807 by omega);have z0:w4.drew.cell? ⟨w.heap.size+3,1,J⟩=N (.map (N (w.heap.size+2))):=dE.E.box.cell 1;have z1:w4.drew.cell? ⟨wo.heap.size,2,J⟩=N (au ⟨sn.toArray⟩):=rJ.E.cell 2;clear hm hloc;go_upto_region 9 with fail;refine iA (S:=λy=>y.cell? ⟨w.heap.size+3,1,J⟩=N (.map (N (w.heap.size+2)))/\y.cell? ⟨wo.heap.size,2,J⟩=N (au ⟨sn.toArray⟩)) dh ⟨z0,z1⟩ (λbg=>?_);refine aA 0 ?_;refine aA 1 ?_;refine aA 2 ?_;refine aA 3 ?_;refine aA 4 ?_;refine aA 5 ?_;refine aA 6 ?_;refine aA 7 ?_;refine aA 8 ?_;refine aA 9 ?_;refine bK 10 (λK hK=>?_);go_simp;refine bF hK (by exact⟨z0,z1⟩) (λaDf=>?_);clear hK K;refine bK 11 (λK hK=>?_);refine av0 (M:=xO) w4.drew rfl (.tmp 34) (.tmp 36) (.tmp 41) rfl (w.heap.size+2) m sn (m.length:Int) Jw (by simp[Act.eval];rfl) (by simp[Act.eval];rfl) HM.E.drew Kc.E ?_;intro w5 IQ uT;have aj5:=G (dE.E.box.drew.grown uT yj);have av5:=G (rJ.E.drew.grown uT yj);have IK:=G (bI IQ uT);clear IQ uT;refine bF hK (by exact⟨aj5.E.cell 1,av5.E.cell 2⟩) (λaDg=>?_);clear hK K;refine gI ?_;have fT:af (Gv (w.heap.size+2) (w.heap.size+3) (w.heap.size+2) v4 (is++ce++ [si]) ns' w5):=by
   rw[FSI.E,FNS.E];refine⟨aj5.E,dE.E.own.drew.kept IK.E.2 ?_,⟨_,IK.E.1,JP.E.add (WV.E (by trivial))⟩,I,aC _⟩;cases hq:v4.ownBlock with
   |none=>exact .inl rfl
   |some g=>exact .inr (λe=>by injection e with e;obtain⟨c,fz,hc⟩:=aau dE.E.own g hq;obtain⟨es,dN,pK,_⟩:=HM.E;rw[<-e,hc] at pK;cases pK)
  have HL5:af (aj (w.heap.size+2) wz w5):=(qH IP.E).trans ((show But (w.heap.size+2) w4.drew w5 from IK.E.2).low (aC _) (by have:=IP.E.size;show w.heap.size+2<=w4.heap.size;omega));have BJ:w4.heap.size<=w5.heap.size:=IK.E.2.size;go_wp2_with fail;exact⟨⟨j+1,ns',is++ce++ [si],v4,bR,I,fT.E,HL5.E,I,by rw[Au.E,su.E];simp,HKK.E,ae7⟩,bW⟩
 ·subst hk;have FSI:af (si=⟨24,0,0⟩):=by show _=_;rw[Qu.E];simp
  have FNS:af (ns'=ns):=by show _=_;rw[su.E];simp
  go_wp2_with fail;refine(Ke bC.E 24 0 0 adC).mono ?_;exact aj2
 subst hk;have FSI:af (si=⟨25,sa,0⟩):=by show _=_;rw[Qu.E];simp
 have FNS:af (ns'=ns):=by show _=_;rw[su.E];simp
 go_wp2_with fail;refine(Ke bC.E 25 sa 0 adC).mono ?_;exact aj2
structure mR where
 name:List UInt8
 pair:Bool
 ins:List Ins
instance:Inhabited mR:=⟨⟨[],X,[]⟩⟩
def oG(r:di):mR:=⟨r.name,r.pair,cR r⟩
def L6(c:mR)(v:ak):List ak:= [au ⟨c.name.toArray⟩,ax c.pair,v]
def Dn(l:List (mR × ak)):List ak:=(l.map λp=>L6 p.1 p.2).flatten
theorem av6(l:List (mR × ak))(c:mR)(v:ak):Dn (l++ [(c,v)])=Dn l++L6 c v:=by simp[Dn]
theorem av7:(aa.info? 64).map (λi=>(i.zero,i.size,i.bytes))=N (N (aD #[au ⟨#[]⟩,X,O J 0 0]),3,48):=by kernel_rfl
def Qv(W:Y)(B:Nat)(l:List (mR × ak)):Prop:=∀q∈l,W.ownsRow B 142 3 q.2 q.1.ins.length (kR q.1.ins)
def aj6(W:Y)(B:Nat)(v:ak)(cs:List mR):Prop:=∃l:List (mR × ak),l.map (·.1)=cs/\W.ownsRow B 64 3 v l.length (Dn l)/\Qv W B l
theorem aay{B1 B2 s1 s2 n1 n2:Nat}{T1 T2:bM}{v1 v2:ak}{xs1 xs2:List ak}(h1:w.ownsRow B1 T1 s1 v1 n1 xs1)(h2:w.ownsRow B2 T2 s2 v2 n2 xs2)(aY:T1≠T2)(hg:w.grownBy w' v2.ownBlock):w'.ownsRow B1 T1 s1 v1 n1 xs1:=by
 refine h1.kept hg ?_;cases hq:v1.ownBlock with
 |none=>exact .inl rfl
 |some g=>refine .inr (λe=>?_);obtain⟨c,fz,hc⟩:=aau h1 g hq;obtain⟨c2,fz2,wQ⟩:=aau h2 g e.symm;rw[hc] at wQ;injection wQ with wQ;injection wQ with _ hc3 _;exact aY hc3
theorem av8:∀ {p:List di} {seen:List (List UInt8)},mg cz seen p=Z->∀r∈p,qj cz r=Z:=by
 intro p;induction p with
 |nil=>intro seen _ r hr;cases hr
 |cons a p ih=>
  intro seen h r hr;simp only[mg,bq] at h;rcases jZ.1 hr with rfl|hr;·exact h.1.2
  exact ih h.2 r hr
def av9(ok:Bool)(p:List di)(w:Y)(e:Ending)(w':Y):Prop:=
 aj w w w'/\((ok=Z/\∃v,e=aI (bz #[v,C D 0,C D 0])/\aj6 w' w v (p.map oG))\/
  (ok=X/\∃i n:Int,n≠0/\e=aI (bz #[O J 0 0,i,n])))
theorem aj7(p:List di)(aX:jT p=Z)(hp:∀r∈p,zu r)(l:List bE)(Ac:Option aK)(nc cc B:Nat)(w:Y)(hE:Env w)(S:Nat->Prop)(A:Option aK)(na ca:Nat)
  (hA:tZ w S p A na ca) (hS:∀q,S q->q<w.heap.size) (hr:Reads w B 4 Ac nc (jS l)) (hB:B<=w.heap.size) (hn:nc<=1000) (hl:∀x∈l,Dh x):
  aF aa 10 #[O A na ca,O Ac nc cc] w (av9 (mq l Z&&mg (fJ l) [] p) p w):=by
 obtain⟨i0,gz,fu,gq,fG⟩:=info_parts av7;have bH:=hA.1;have ajV:p.length<=40:=abk;have AL:na<=40:=I;have HC:=G (ajU p aX hp l Ac nc cc B w hE S A na ca hA hS hr hB hn hl);have gH:=G bH;have HA:=G hA;have jc:=G hS;have HP:=G hp;have dI:af (∀r∈p,jK r=Z):=by unfold jT at aX;simp only[bq] at aX;exact λr hr=>xD.1 aX.1 r hr
 have nR:af ((mq l Z&&mg (fJ l) [] p)=Z->∀r∈p,qj (fJ l) r=Z):=λh=>by simp only[bq] at h;exact av8 h.2
 clear hA hS hp hE bH aX hr hl;generalize(mq l Z&&mg (fJ l) [] p)=okb at*;go_enter func10,ntmps10;go_wp2_with fail;refine HC.mono ?_;rintro e w1 ⟨aB,ei,en,rfl,hz⟩;have aM:=G aB;clear aB HC;by_cases fu:en=0;case neg=>
  have k1:(en !=0)=Z:=by rw[bne_iff_ne];exact fu
  have F:af (okb=X):=by
   show _=_;cases okb with
   |false=>rfl
   |true=>exact absurd (hz.2 rfl) fu
  have HZ:=G fu;clear hz fu;go_wp2_with fail;go_ret3;exact⟨aM,.inr ⟨F,ei,en,HZ,rfl⟩⟩
 subst fu;have F:af (okb=Z):=hz.1 rfl;have acW:=G (nR F);clear hz nR;go_wp2_with fail;go_loopw [9,24] (λout iv wr=>∃(i:Nat) (lc:List (mR × ak)),iv=C D i/\i<=na/\lc.map (·.1)=(p.take i).map oG/\wr.ownsRow w 64 3 out i (Dn lc)/\Qv wr w lc/\aj w w wr/\lc.length=i) (λ_ iv _=>na-(intOf iv).toNat);case atStart=>exact⟨0,[],rfl,I,rfl,ng _ _ _ _,λq hq=>(by cases hq),aM,rfl⟩
 obtain⟨i,lc,rfl,hi,hlc,aV,kr,aH,hli⟩:=hrel;obtain⟨wo,rfl⟩:=dz wr;have HO:=G (bI aV kr);have bA:=G aH;have HLC:=G hlc;have q8:=G hli;have eP:=aH.size;obtain⟨Ao,co,rfl⟩:=eO aV;clear aV kr aH hlc hli;by_cases aO:i<na;case neg=>go_wp2_with fail;go_ret3;refine⟨bA,.inl ⟨F,_,rfl,lc,?_,by rw[q8.E];exact HO.1,HO.2⟩⟩;rw[HLC.E,o7 Ju]
 have b3:(i:Int)<(na:Int):=I;have dA:i<p.length:=G9;have kG:=HA.keep (w':=wo) (S':=S) (λq hq=>bA.block q (jc q hq)) (λq hq=>hq);obtain⟨ga,A',n',c',rfl,F5,a0,a1,a2,a3,fP⟩:=kG.2.2 i aO;have dK:p.getD i ay∈p:=by exact Wd
 have CP:af ((p.take (i+1)).map oG=(p.take i).map oG++ [oG (p.getD i ay)]):=by show _=_;rw[sD dA,oM];simp[dO,dA]
 have HRK:af (∀W,aj wo wo W->aF aa 37 #[aD #[au ⟨(p.getD i ay).name.toArray⟩,ax (p.getD i ay).pair,O A' n' c',C D (p.getD i ay).az]] W (aax (p.getD i ay) W)):=λW hW=>av4 (fJ l) _ (dI _ dK) (acW _ dK) (HP _ dK) W S A' n' c' (fP.keep (λq hq=>hW.block q (by have:=jc q hq;omega)) (λq hq=>hq)) (λq hq=>by have:=jc q hq;have:=hW.size;omega);clear kG dK dA fP;have aT:aj wo wo (wo.alloc (ag #[au ⟨(p.getD i ay).name.toArray⟩,ax (p.getD i ay).pair,O A' n' c',C D (p.getD i ay).az] 121)):=(aN _ _).alloc (aC _) _;have aP:=G aT;have Ck:af (L6 (oG (p.getD i ay))=λv=> [au ⟨(p.getD i ay).name.toArray⟩,ax (p.getD i ay).pair,v]):=rfl;have AY:af ((oG (p.getD i ay)).ins=cR (p.getD i ay)):=rfl;clear aT;generalize p.getD i ay=r at*;generalize Qm:r.name=nm at*;generalize Qn:r.pair=pr at*;generalize Tq:r.az=az at*;have BI:af (∀W e W',aax r W e W'->∃v,e=aI (aD #[nm,pr,v])/\W'.ownsRow W 142 3 v (cR r).length (kR (cR r))/\aj W W W'):=λW e W' h=>by obtain⟨v,h1,h2,h3⟩:=h;rw[Qm,Qn] at h1;exact⟨v,h1,h2,h3⟩
 clear Qm Qn Tq;go_wp2_with fail;refine(HRK _ aP).mono ?_;intro e w2 aj8;obtain⟨v,rfl,hov,aJ⟩:=BI _ _ _ aj8;clear aj8;obtain⟨Av,cv,rfl⟩:=eO hov;simp only[aW] at hov;have WW:=G (Fj hov (show w.heap.size<=wo.heap.size+1 by omega));have iW:=G (own_below (HO.1.alloc (ag #[nm,pr,O A' n' c',az] 121)) aJ);have SB:af (Qv w2 w lc):=λq hq=>own_below ((HO.2 q hq).alloc _) aJ;have aS:=G (bA.trans ((aP.mono eP).trans (aJ.mono bB)));have fw:wo.heap.size<w2.heap.size:=Ri;clear hov aJ BI HRK HO;go_wp2_with(at_builtin;refine pX _ rfl (.tmp 28) (.tmp 31) _ rfl w.heap.size 64 i0 _ 3 48 underlying59 gz fu gq fG rfl I _ i (Dn lc) rfl (iW.alloc _) (w2.heap.size+1) (N ⟨w2,0,J⟩) 1 1 [au ⟨nm.toArray⟩,ax pr,O Av (cR r).length cv] rfl (mX w2 #[nm,pr,O Av (cR r).length cv] 64 3 rfl) rZ lH I bB ?_;intro v6 w6 dw bU iT;have oL:=G (bI dw bU);clear dw bU iT);refine⟨⟨i+1,lc++ [(oG r,O Av (cR r).length cv)],bR,I,?_,?_,?_,?_,?_⟩,bW⟩;·rw[CP.E,oM,HLC.E];rfl
 ·rw[av6,Ck.E];exact oL.1
 ·intro q hq;rcases pW.1 hq with hq|hq;·exact aay ((SB q hq).alloc _) (iW.alloc _) aL oL.2
  rw[lF] at hq;subst hq;simp only[];rw[AY.E];exact aay (WW.alloc _) (iW.alloc _) aL oL.2
 ·exact(aS.alloc I _).trans (tu (iW.alloc _) oL.2 bB)
 rw[eB,mf,q8.E]
end Go.Proofs.YtgnflmdpalmejaaGreatDoor
